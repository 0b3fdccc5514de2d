/- Contracts of the machine and the contracts of one law (joined by kmerge.py). No claim stands here. -/
import Derived.Below
import Derived.Carry
import Derived.ChangeCalls
import Derived.ChangeOld
import Derived.IntWalk
import Derived.KernelRfl
import Derived.Laws.Append
import Derived.Laws.AppendOwn
import Derived.Laws.Cells
import Derived.Laws.CopyRow
import Derived.Laws.Entries
import Derived.Laws.MakeOwn
import Derived.Laws.NewFold
import Derived.Laws.Rows
import Derived.Laws.StructEq
import Derived.OpenShut
import Derived.Orders
import Derived.OrdersIn
import Derived.ProofKit
import Derived.RangeFuncLeaves
import Derived.RangeFuncSeq
import Derived.SizedLaws
import Derived.TacticsIn
import Derived.WalkKit
import Derived.Test.YtnldlmlnedamlaaMbc
set_option maxRecDepth 100000
set_option linter.unusedSimpArgs false
set_option linter.unusedVariables false
namespace Go.Proofs.Ytnldlmlnedamlaa.Abs
open Go Go.RowKit Go.Proofs
attribute [local go_sem] RunC_seq AF_n AF_r AF_b St_n St_t St_H Fst_mk Snd_mk RunC_ops RunC_cond RunC_block RunC_loop RunC_exit RunC_ret RunC_skip RunO_nil RunO_code RunO_code_ret RunO_code_exit RunO_blk RunO_blk_ret RunO_blk_exit RunL_nil RunL_guard GuardA_tt GuardA_ff GuardA_tf GuardA_ft GuardA_void CondA_t CondA_f PickA_t PickA_f RunL_mov RunL_pick RunL_alloc RunL_box RunL_load LoadA_ptr LoadB_1 LoadB_n LoadA_dptr LoadA_dptr_n RunL_store StoreA_ptr StoreB_box RunL_bin Bin_add Bin_sub Bin_mul Bin_quo Bin_rem Bin_shl Bin_shr Bin_andI Bin_orI Bin_xorI Bin_eql Bin_neq Bin_lss Bin_leq Bin_gtr Bin_geq RunL_binb Bin_beql Bin_bneq RunL_un UnA_not UnA_neg RunL_conv convV MapA_some RunL_nilCheck nilV RunL_mkfn RunL_fieldAddr faV RunL_field FieldA_1 FieldA_n RunL_elemAddr EAddrA_sl EAddrA_own EptrA_eq RunL_build BuildA_some RunL_extract ExtA_eq RunL_len lenV_sl lenV_nilsl lenV_own RunL_slen RunL_idxStr IdxSA_eq slenV RunL_minmax mmV minmaxL RunL_call RunL_callv CallvA_fn putS ev evL evO evP eqK eqKs EqB_agg RunL_eqAgg EqA_t EqA_f evQ buildC fits_agg cellsAV_agg fits_d cellsAV_d fits_nilp cellsAV_nilp fits_nilsl cellsAV_nilsl fits_nilfn cellsAV_nilfn fits_ptr cellsAV_ptr fits_eptr cellsAV_eptr fits_dptr cellsAV_dptr fits_own cellsAV_own fits_fn cellsAV_fn rowV_fits rowV_cells rowV_len lenAV setSeg nth seg mapD repeatL putT_get upd_get argT keepT_cons keepT_nil keepH_cons keepH_nil cond_true cond_false VC_true finW resW resL resOne LoopQ_exit LoopQ_ret List.cons_append List.nil_append Bool.not_true Bool.not_false Bool.and_true Bool.and_self Nat.lt_add_left_iff_pos Nat.zero_add Nat.add_zero List.drop_succ_cons List.drop_zero List.take_succ_cons List.take_zero beq_self_eq_true Bool.false_eq_true RunC_dops RunL_loadS RunL_loadD LoadDA_dptr RunL_storeS StoreSA_ptr RunL_pcall RunL_pcallv PCallvA_fn newsOk and_self and_true true_and loadW_ptr LoadK_1 LoadK_n upd_upd RunL_loadP LoadPA_ptr RunL_callS RunL_make RunL_buildSlice BSliceA_some RunL_buildSliceD frzL frz cutL LoadA_eptr LoadE_row RunL_append RunL_slice SliceA_sl StoreA_eptr List.length_cons List.length_nil Nat.min_def Int.cast_ofNat_Int Int.natCast_zero Int.natCast_one decide_true decide_false List.getElem?_cons_zero List.getElem?_cons_succ RunC_rangef CallvA_yld putL_nil putL_cons RangeQ_exit RangeQ_ret
def fitR (n : Int) : AV := .tup [i64 (if Fit n then n else 0), bv (Fit n)]
theorem fitR_yes {n : Int} (h : Fit n) : fitR n = .tup [i64 n, bv true] := by simp [fitR, h]
theorem fitR_no {n : Int} (h : ¬ Fit n) : fitR n = .tup [i64 0, bv false] := by simp [fitR, h]
theorem fitR_of {n m : Int} {b : Bool} (h : (b = true ∧ m = n ∧ Fit n) ∨ (b = false ∧ m = 0 ∧ ¬ Fit n)) : AV.tup [i64 m, bv b] = fitR n := by
  rcases h with ⟨rfl, rfl, h⟩ | ⟨rfl, rfl, h⟩
  · exact (fitR_yes h).symm
  · exact (fitR_no h).symm
theorem wI (n : Int) : IntKind.i64.wrap n = (n + 9223372036854775808) % 18446744073709551616 - 9223372036854775808 := IntKind.wrap_i64 n
def optR : Option Int → AV
  | some n => .tup [i64 n, bv true]
  | none => .tup [i64 0, bv false]
def LenP (x : Int) (n : Nat) : Prop := 0 ≤ x ∧ x < 2 ^ n ∧ (x = 0 ∧ n = 0 ∨ 0 < n ∧ 2 ^ (n - 1) ≤ x)
theorem pow_le {n m : Nat} (h : n ≤ m) : (2 : Int) ^ n ≤ 2 ^ m := by
  have := Nat.pow_le_pow_right (n := 2) (by omega) h
  exact_mod_cast this
theorem pow_pos2 (n : Nat) : (0 : Int) < 2 ^ n := Int.pow_pos (by omega)
theorem LenP.shift {x : Int} {k n : Nat} (h0 : 0 ≤ x) (h1 : 2 ^ k ≤ x) (h : LenP (x / 2 ^ k) n) : LenP x (k + n) := by
  obtain ⟨a0, a1, a2⟩ := h
  have hk := pow_pos2 k
  have e1 : x < 2 ^ (k + n) := by
    rw [Int.ediv_lt_iff_lt_mul hk] at a1
    rw [Int.pow_add, Int.mul_comm]; exact a1
  have h2 : 1 ≤ x / 2 ^ k := by rw [Int.le_ediv_iff_mul_le hk]; omega
  refine ⟨h0, e1, .inr ?_⟩
  rcases a2 with ⟨a2, _⟩ | ⟨a2, a3⟩
  · omega
  · refine ⟨by omega, ?_⟩
    rw [Int.le_ediv_iff_mul_le hk] at a3
    have : k + n - 1 = k + (n - 1) := by omega
    rw [this, Int.pow_add, Int.mul_comm]; exact a3
def upP (m q r c : Int) : Prop := m = 1 ∧ 0 < r ∨ m = 2 ∧ c ≤ 2 * r ∨ m = 3 ∧ (c < 2 * r ∨ c = 2 * r ∧ q % 2 = 1)
instance (m q r c : Int) : Decidable (upP m q r c) := by unfold upP; exact inferInstance
/-- A number, divided and rounded by a mode. -/
def rnd (p c m : Int) : Int := p / c + if upP m (p / c) (p % c) c then 1 else 0
def awayP (m : Int) (neg : Bool) (q r c : Int) : Prop := r ≠ 0 ∧ (m = 0 ∧ neg = true ∨ m = 1 ∧ neg = false ∨ m = 2 ∧ (r > c - r ∨ r = c - r ∧ neg = false) ∨ m = 3 ∧ (r > c - r ∨ r = c - r ∧ q % 2 = 1))
instance (m : Int) (neg : Bool) (q r c : Int) : Decidable (awayP m neg q r c) := by unfold awayP; exact inferInstance
theorem div_facts {p c : Int} (hc : 0 < c) : p / c * c + p % c = p ∧ 0 ≤ p % c ∧ p % c < c := by
  have e := Int.emod_add_mul_ediv p c
  rw [Int.mul_comm] at e
  exact ⟨by omega, Int.emod_nonneg _ (by omega), Int.emod_lt_of_pos _ hc⟩
theorem rnd_cases {p c m : Int} (hc : 0 < c) (hm : 0 ≤ m ∧ m ≤ 3) : ∃ q r, q * c + r = p ∧ 0 ≤ r ∧ r < c ∧ p / c = q ∧ p % c = r ∧ (¬ upP m q r c ∧ rnd p c m = q ∨ upP m q r c ∧ rnd p c m = q + 1) := by
  obtain ⟨e, f, g⟩ := div_facts (p := p) hc
  refine ⟨_, _, e, f, g, rfl, rfl, ?_⟩
  unfold rnd
  by_cases h : upP m (p / c) (p % c) c
  · exact .inr ⟨h, by rw [if_pos h]⟩
  · exact .inl ⟨h, by rw [if_neg h, Int.add_zero]⟩
theorem rnd_mono {p p' c m : Int} (hc : 0 < c) (hm : 0 ≤ m ∧ m ≤ 3) (h : p ≤ p') : rnd p c m ≤ rnd p' c m := by
  obtain ⟨q, r, e, f, g, d1, d2, hh⟩ := rnd_cases (p := p) hc hm
  obtain ⟨q', r', e', f', g', d1', d2', hh'⟩ := rnd_cases (p := p') hc hm
  have hq : q ≤ q' := by rw [← d1, ← d1']; exact Int.ediv_le_ediv hc h
  rcases Int.lt_or_eq_of_le hq with h1 | h1
  · omega
  · subst h1
    have hr : r ≤ r' := by omega
    unfold upP at hh hh'
    omega
theorem rnd_fit {a c m : Int} (hc : 0 < c) (hm : 0 ≤ m ∧ m ≤ 3) (ha : -9223372036854775808 ≤ a ∧ a ≤ 9223372036854775807) : -9223372036854775808 ≤ rnd a c m ∧ rnd a c m ≤ 9223372036854775807 := by
  have h1 : rnd (-9223372036854775808) c m ≤ rnd a c m := rnd_mono hc hm ha.1
  have h2 : rnd a c m ≤ rnd 9223372036854775807 c m := rnd_mono hc hm ha.2
  have h3 : -9223372036854775808 ≤ rnd (-9223372036854775808) c m := by
    obtain ⟨q, r, e, f, g, d1, d2, hh⟩ := rnd_cases (p := -9223372036854775808) hc hm
    have : -9223372036854775808 ≤ q := by
      rw [← d1, Int.le_ediv_iff_mul_le hc]; omega
    omega
  have h4 : rnd 9223372036854775807 c m ≤ 9223372036854775807 := by
    obtain ⟨q, r, e, f, g, d1, d2, hh⟩ := rnd_cases (p := 9223372036854775807) hc hm
    by_cases h0 : c = 1
    · subst h0
      unfold upP at hh
      omega
    · have : q < 4611686018427387904 := by
        rw [← d1, Int.ediv_lt_iff_lt_mul hc]; omega
      omega
  omega
/-- The greatest number of 64 bits that, times c, isn't above p. -/
def capQ (p c : Int) : Int := if p / c ≤ 9223372036854775807 then p / c else 9223372036854775807
theorem cap_le {p c n : Int} (hc : 0 < c) (hn : n ≤ 9223372036854775807) : n ≤ capQ p c ↔ n * c ≤ p := by
  unfold capQ
  rw [← Int.le_ediv_iff_mul_le hc]
  split <;> omega
/-- What MulDiv answers. -/
def mdR (p c m : Int) : AV := if 0 < c ∧ 0 ≤ m ∧ m ≤ 3 then fitR (rnd p c m) else .tup [i64 0, bv false]
theorem mdR_yes {p c m : Int} (hc : 0 < c) (hm : 0 ≤ m ∧ m ≤ 3) : mdR p c m = fitR (rnd p c m) := by rw [mdR, if_pos ⟨hc, hm⟩]
theorem mdR_no {p c m : Int} (h : ¬ (0 < c ∧ 0 ≤ m ∧ m ≤ 3)) : mdR p c m = .tup [i64 0, bv false] := by rw [mdR, if_neg h]
/-- An adjustment: its kind, its number, its mode. -/
structure Adj where
  k : Int
  n : Int
  m : Int
def Adj.el (a : Adj) : List D := [.int .i64 a.k, .int .i64 a.n, .int .i64 a.m]
def rowA (l : List Adj) : List (List D) := l.map Adj.el
theorem rowA_len {l : List Adj} : (rowA l).length = l.length := List.length_map ..
theorem rowA_nth {l : List Adj} {i : Nat} (h : i < l.length) : (rowA l)[((i : Int)).toNat]? = some (Adj.el l[i]) := by
  rw [Int.toNat_natCast]; simp [rowA, h]
abbrev slA (l : List Adj) : AV := .d (.sl 3 (rowA l))
def Adj.Fit (a : Adj) : Prop := Abs.Fit a.k ∧ Abs.Fit a.n ∧ Abs.Fit a.m
def fitO (n : Int) : Option Int := if Fit n then some n else none
theorem fitO_R (n : Int) : fitR n = optR (fitO n) := by
  unfold fitO
  by_cases h : Fit n
  · rw [fitR_yes h, if_pos h]; rfl
  · rw [fitR_no h, if_neg h]; rfl
def mdO (p c m : Int) : Option Int := if 0 < c ∧ 0 ≤ m ∧ m ≤ 3 then fitO (rnd p c m) else none
theorem mdO_R (p c m : Int) : mdR p c m = optR (mdO p c m) := by
  unfold mdR mdO
  split
  · exact fitO_R _
  · rfl
theorem typed_adj {n : Nat} {l : List D} (h : typedW Try.prog (n + 2) 84 l) : ∃ a : Adj, a.Fit ∧ l = a.el := by
  obtain ⟨ls, rfl, h1, _⟩ := typed_struct (fs := #[⟨"Kind", 3, 0, false, "", "", 0⟩, ⟨"N", 3, 1, false, "", "", 8⟩, ⟨"Mode", 3, 2, false, "", "", 16⟩]) h (by kernel_rfl)
  obtain ⟨l0, r0, rfl, t0, h1⟩ := typedL_cons h1
  obtain ⟨l1, r1, rfl, t1, h1⟩ := typedL_cons h1
  obtain ⟨l2, r2, rfl, t2, h1⟩ := typedL_cons h1
  obtain rfl := typedL_nil h1
  obtain ⟨z0, rfl, f0, _⟩ := typed_int t0 (by kernel_rfl)
  obtain ⟨z1, rfl, f1, _⟩ := typed_int t1 (by kernel_rfl)
  obtain ⟨z2, rfl, f2, _⟩ := typed_int t2 (by kernel_rfl)
  exact ⟨⟨z0, z1, z2⟩, ⟨f0, f1, f2⟩, rfl⟩
/-- A tier: up to which quantity, its rate. -/
structure Tier where
  u : Int
  r : Int
def Tier.el (a : Tier) : List D := [.int .i64 a.u, .int .i64 a.r]
def rowT (l : List Tier) : List (List D) := l.map Tier.el
theorem rowT_len {l : List Tier} : (rowT l).length = l.length := List.length_map ..
theorem rowT_at {l : List Tier} {i : Nat} (h : i < l.length) : (rowT l)[((i : Int)).toNat]? = some [.int .i64 l[i].u, .int .i64 l[i].r] := by
  rw [Int.toNat_natCast]; simp [rowT, h, Tier.el]
theorem rowA_at {l : List Adj} {i : Nat} (h : i < l.length) : (rowA l)[((i : Int)).toNat]? = some [.int .i64 l[i].k, .int .i64 l[i].n, .int .i64 l[i].m] := rowA_nth h
abbrev slT (l : List Tier) : AV := .d (.sl 2 (rowT l))
def Tier.Fit (a : Tier) : Prop := Abs.Fit a.u ∧ Abs.Fit a.r
/-- A part. -/
structure PartX where
  me : Int
  f : Int
  t : Int
  al : Int
  bl : Int
  ki : Int
  ts : List Tier
  mo : Int
  ad : List Adj
abbrev PartX.el (x : PartX) : List D := [.int .i64 x.me, .int .i64 x.f, .int .i64 x.t, .int .i64 x.al, .int .i64 x.bl, .int .i64 x.ki, .sl 2 (rowT x.ts), .int .i64 x.mo, .sl 3 (rowA x.ad)]
abbrev partV (x : PartX) : AV := .agg [i64 x.me, i64 x.f, i64 x.t, i64 x.al, i64 x.bl, i64 x.ki, slT x.ts, i64 x.mo, slA x.ad]
structure PartX.Fit (x : PartX) : Prop where
  me : Abs.Fit x.me
  f : Abs.Fit x.f
  t : Abs.Fit x.t
  al : Abs.Fit x.al
  bl : Abs.Fit x.bl
  ki : Abs.Fit x.ki
  ts : ∀ a ∈ x.ts, Tier.Fit a
  tn : x.ts.length ≤ 9223372036854775807
  mo : Abs.Fit x.mo
  ad : ∀ a ∈ x.ad, Adj.Fit a
  an : x.ad.length ≤ 9223372036854775807
theorem typed_map {α : Type} {g : α → List D} {F : α → Prop} {n : Nat} {e : TypeId} (hh : ∀ l, typedW Try.prog n e l → ∃ a, F a ∧ l = g a) : ∀ {xs : List (List D)}, (∀ el ∈ xs, typedW Try.prog n e el) → ∃ zs : List α, xs = zs.map g ∧ ∀ a ∈ zs, F a
  | [], _ => ⟨[], rfl, fun a h => by cases h⟩
  | x :: xs, h2 => by
    obtain ⟨a, ha, rfl⟩ := hh x (h2 x (List.mem_cons_self ..))
    obtain ⟨zs, rfl, hz⟩ := typed_map hh (fun el h' => h2 el (List.mem_cons_of_mem _ h'))
    refine ⟨a :: zs, rfl, fun b hb => ?_⟩
    rcases List.mem_cons.1 hb with rfl | hb
    · exact ha
    · exact hz b hb
theorem typed_tier {n : Nat} {l : List D} (h : typedW Try.prog (n + 2) 82 l) : ∃ a : Tier, a.Fit ∧ l = a.el := by
  obtain ⟨ls, rfl, h1, _⟩ := typed_struct (fs := #[⟨"Upto", 3, 0, false, "", "", 0⟩, ⟨"Rate", 3, 1, false, "", "", 8⟩]) h (by kernel_rfl)
  obtain ⟨l0, r0, rfl, t0, h1⟩ := typedL_cons h1
  obtain ⟨l1, r1, rfl, t1, h1⟩ := typedL_cons h1
  obtain rfl := typedL_nil h1
  obtain ⟨z0, rfl, f0, _⟩ := typed_int t0 (by kernel_rfl)
  obtain ⟨z1, rfl, f1, _⟩ := typed_int t1 (by kernel_rfl)
  exact ⟨⟨z0, z1⟩, ⟨f0, f1⟩, rfl⟩
theorem typed_sl {α : Type} {g : α → List D} {F : α → Prop} {n k : Nat} {t e : TypeId} {l : List D} (hh : ∀ l, typedW Try.prog n e l → ∃ a, F a ∧ l = g a) (ht : Try.prog.underlying t = some (.slice e)) (hc : Try.prog.cellsOf e = k) (h : typedW Try.prog (n + 1) t l) :
    ∃ zs : List α, l = [.sl k (zs.map g)] ∧ (∀ a ∈ zs, F a) ∧ zs.length ≤ 9223372036854775807 := by
  obtain ⟨xs, rfl, h1, h2, _⟩ := typed_slice h ht
  obtain ⟨zs, rfl, hz⟩ := typed_map hh h2
  exact ⟨zs, by rw [hc], hz, by rw [List.length_map] at h1; exact h1⟩
theorem typed_part {n : Nat} {l : List D} (h : typedW Try.prog (n + 4) 51 l) : ∃ x : PartX, x.Fit ∧ l = x.el ∧ argAV Try.prog 51 l = partV x := by
  obtain ⟨ls, rfl, h1, e⟩ := typed_struct (fs := #[⟨"Meter", 3, 0, false, "", "", 0⟩, ⟨"From", 3, 1, false, "", "", 8⟩, ⟨"To", 3, 2, false, "", "", 16⟩, ⟨"Allowance", 3, 3, false, "", "", 24⟩, ⟨"Block", 3, 4, false, "", "", 32⟩, ⟨"Kind", 3, 5, false, "", "", 40⟩, ⟨"Tiers", 48, 6, false, "", "", 48⟩, ⟨"Mode", 3, 7, false, "", "", 72⟩, ⟨"Adjusts", 49, 8, false, "", "", 80⟩]) h (by kernel_rfl)
  obtain ⟨l0, r0, rfl, t0, h1⟩ := typedL_cons h1
  obtain ⟨l1, r1, rfl, t1, h1⟩ := typedL_cons h1
  obtain ⟨l2, r2, rfl, t2, h1⟩ := typedL_cons h1
  obtain ⟨l3, r3, rfl, t3, h1⟩ := typedL_cons h1
  obtain ⟨l4, r4, rfl, t4, h1⟩ := typedL_cons h1
  obtain ⟨l5, r5, rfl, t5, h1⟩ := typedL_cons h1
  obtain ⟨l6, r6, rfl, t6, h1⟩ := typedL_cons h1
  obtain ⟨l7, r7, rfl, t7, h1⟩ := typedL_cons h1
  obtain ⟨l8, r8, rfl, t8, h1⟩ := typedL_cons h1
  obtain rfl := typedL_nil h1
  obtain ⟨z0, rfl, f0, _⟩ := typed_int t0 (by kernel_rfl)
  obtain ⟨z1, rfl, f1, _⟩ := typed_int t1 (by kernel_rfl)
  obtain ⟨z2, rfl, f2, _⟩ := typed_int t2 (by kernel_rfl)
  obtain ⟨z3, rfl, f3, _⟩ := typed_int t3 (by kernel_rfl)
  obtain ⟨z4, rfl, f4, _⟩ := typed_int t4 (by kernel_rfl)
  obtain ⟨z5, rfl, f5, _⟩ := typed_int t5 (by kernel_rfl)
  obtain ⟨z7, rfl, f7, _⟩ := typed_int t7 (by kernel_rfl)
  obtain ⟨z6, rfl, f6, g6⟩ := typed_sl (k := 2) (e := 82) (fun l h => typed_tier h) (by kernel_rfl) (by kernel_rfl) t6
  obtain ⟨z8, rfl, f8, g8⟩ := typed_sl (k := 3) (e := 84) (fun l h => typed_adj h) (by kernel_rfl) (by kernel_rfl) t8
  exact ⟨⟨z0, z1, z2, z3, z4, z5, z6, z7, z8⟩, ⟨f0, f1, f2, f3, f4, f5, f6, g6, f7, f8, g8⟩, rfl, e⟩
/-- A core: its span of days and its rows. -/
abbrev coreV (cur : ByteArray) (f t : Int) (ms ss ps : List (List D)) : AV := .agg [.d (.str cur), i64 f, i64 t, .d (.sl 5 ms), .d (.sl 3 ss), .d (.sl 9 ps)]
theorem RIn_ok {n lo hi : Int} : DataW Try.prog f_poundageref10_in [i64 n, i64 lo, i64 hi] (bv (decide (lo ≤ n ∧ n ≤ hi))) := by
  refine CallW_intro comp_poundageref10_in (by simp) ?_
  by_cases h1 : lo ≤ n
  · by_cases h2 : n ≤ hi
    · simp -implicitDefEqProofs -proj only [go_sem, Nat.reduceBEq, Nat.reduceLT, Nat.reduceLeDiff, Nat.reduceAdd, Nat.reduceMul, ↓reduceIte, decide_eq_true h1, decide_eq_true h2]
      exact LendV_eq (by rw [decide_eq_true ⟨h1, h2⟩])
    · simp -implicitDefEqProofs -proj only [go_sem, Nat.reduceBEq, Nat.reduceLT, Nat.reduceLeDiff, Nat.reduceAdd, Nat.reduceMul, ↓reduceIte, decide_eq_true h1, decide_eq_false h2]
      exact LendV_eq (by rw [decide_eq_false (fun h => h2 h.2)])
  · simp -implicitDefEqProofs -proj only [go_sem, Nat.reduceBEq, Nat.reduceLT, Nat.reduceLeDiff, Nat.reduceAdd, Nat.reduceMul, ↓reduceIte, decide_eq_false h1]
    exact LendV_eq (by rw [decide_eq_false (fun h => h1 h.1)])
theorem RIn_t {n lo hi : Int} (h : lo ≤ n ∧ n ≤ hi) : DataW Try.prog f_poundageref10_in [i64 n, i64 lo, i64 hi] (bv true) := by
  have := @RIn_ok n lo hi; rwa [decide_eq_true h] at this
theorem RIn_f {n lo hi : Int} (h : ¬ (lo ≤ n ∧ n ≤ hi)) : DataW Try.prog f_poundageref10_in [i64 n, i64 lo, i64 hi] (bv false) := by
  have := @RIn_ok n lo hi; rwa [decide_eq_false h] at this
theorem RSpan_ok {cur : ByteArray} {f t a b : Int} {ms ss ps : List (List D)} : DataW Try.prog f_poundageref10_span [coreV cur f t ms ss ps, i64 a, i64 b] (bv (decide (f ≤ a ∧ a ≤ b ∧ b ≤ t))) := by
  refine CallW_intro comp_poundageref10_span (by simp) ?_
  simp -implicitDefEqProofs -proj only [go_sem, Nat.reduceBEq, Nat.reduceLT, Nat.reduceLeDiff, Nat.reduceAdd, Nat.reduceMul, ↓reduceIte]
  refine AllocA_intro (fun b3 hb3 => ?_)
  by_cases h1 : f ≤ a
  · by_cases h2 : a ≤ b
    · by_cases h3 : b ≤ t
      · simp -implicitDefEqProofs -proj only [go_sem, Nat.reduceBEq, Nat.reduceLT, Nat.reduceLeDiff, Nat.reduceAdd, Nat.reduceMul, ↓reduceIte, decide_eq_true h1, decide_eq_true h2, decide_eq_true h3]
        exact LendV_eq (by rw [decide_eq_true ⟨h1, h2, h3⟩])
      · simp -implicitDefEqProofs -proj only [go_sem, Nat.reduceBEq, Nat.reduceLT, Nat.reduceLeDiff, Nat.reduceAdd, Nat.reduceMul, ↓reduceIte, decide_eq_true h1, decide_eq_true h2, decide_eq_false h3]
        exact LendV_eq (by rw [decide_eq_false (fun h => h3 h.2.2)])
    · simp -implicitDefEqProofs -proj only [go_sem, Nat.reduceBEq, Nat.reduceLT, Nat.reduceLeDiff, Nat.reduceAdd, Nat.reduceMul, ↓reduceIte, decide_eq_true h1, decide_eq_false h2]
      exact LendV_eq (by rw [decide_eq_false (fun h => h2 h.2.1)])
  · simp -implicitDefEqProofs -proj only [go_sem, Nat.reduceBEq, Nat.reduceLT, Nat.reduceLeDiff, Nat.reduceAdd, Nat.reduceMul, ↓reduceIte, decide_eq_false h1]
    exact LendV_eq (by rw [decide_eq_false (fun h => h1 h.1)])
structure MeterX where
  nm : ByteArray
  un : ByteArray
  mx : Int
  ln : Int
  co : Int
def MeterX.el (a : MeterX) : List D := [.str a.nm, .str a.un, .int .i64 a.mx, .int .i64 a.ln, .int .i64 a.co]
def rowM (l : List MeterX) : List (List D) := l.map MeterX.el
theorem rowM_len {l : List MeterX} : (rowM l).length = l.length := List.length_map ..
theorem rowM_at {l : List MeterX} {i : Nat} (h : i < l.length) : (rowM l)[((i : Int)).toNat]? = some [.str l[i].nm, .str l[i].un, .int .i64 l[i].mx, .int .i64 l[i].ln, .int .i64 l[i].co] := by
  rw [Int.toNat_natCast]; simp [rowM, h, MeterX.el]
def MeterX.Fit (a : MeterX) : Prop := Abs.Fit a.mx ∧ Abs.Fit a.ln ∧ Abs.Fit a.co
structure SumX where
  a : Int
  f : Int
  t : Int
def SumX.el (a : SumX) : List D := [.int .i64 a.a, .int .i64 a.f, .int .i64 a.t]
def rowS (l : List SumX) : List (List D) := l.map SumX.el
theorem rowS_len {l : List SumX} : (rowS l).length = l.length := List.length_map ..
theorem rowS_at {l : List SumX} {i : Nat} (h : i < l.length) : (rowS l)[((i : Int)).toNat]? = some [.int .i64 l[i].a, .int .i64 l[i].f, .int .i64 l[i].t] := by
  rw [Int.toNat_natCast]; simp [rowS, h, SumX.el]
def SumX.Fit (a : SumX) : Prop := Abs.Fit a.a ∧ Abs.Fit a.f ∧ Abs.Fit a.t
def rowP (l : List PartX) : List (List D) := l.map PartX.el
theorem rowP_len {l : List PartX} : (rowP l).length = l.length := List.length_map ..
theorem rowP_at {l : List PartX} {i : Nat} (h : i < l.length) : (rowP l)[((i : Int)).toNat]? = some [.int .i64 l[i].me, .int .i64 l[i].f, .int .i64 l[i].t, .int .i64 l[i].al, .int .i64 l[i].bl, .int .i64 l[i].ki, .sl 2 (rowT l[i].ts), .int .i64 l[i].mo, .sl 3 (rowA l[i].ad)] := by
  rw [Int.toNat_natCast]; simp [rowP, h, PartX.el]
structure CoreX where
  cur : ByteArray
  f : Int
  t : Int
  ms : List MeterX
  ss : List SumX
  ps : List PartX
abbrev coreX (c : CoreX) : AV := coreV c.cur c.f c.t (rowM c.ms) (rowS c.ss) (rowP c.ps)
structure CoreX.Fit (c : CoreX) : Prop where
  f : Abs.Fit c.f
  t : Abs.Fit c.t
  ms : ∀ a ∈ c.ms, a.Fit
  mn : c.ms.length ≤ 9223372036854775807
  ss : ∀ a ∈ c.ss, a.Fit
  sn : c.ss.length ≤ 9223372036854775807
  ps : ∀ a ∈ c.ps, a.Fit
  pn : c.ps.length ≤ 9223372036854775807
theorem typed_string {n : Nat} {t : TypeId} {l : List D} (h : typedW Try.prog (n + 1) t l) (ht : Try.prog.underlying t = some .string) : ∃ s, l = [.str s] := by
  rw [typedW, ht] at h
  obtain ⟨s, rfl, _⟩ := h
  exact ⟨s, rfl⟩
theorem typed_meter {n : Nat} {l : List D} (h : typedW Try.prog (n + 2) 54 l) : ∃ a : MeterX, a.Fit ∧ l = a.el := by
  obtain ⟨ls, rfl, h1, _⟩ := typed_struct (fs := #[⟨"Name", 9, 0, false, "", "", 0⟩, ⟨"Unit", 9, 1, false, "", "", 16⟩, ⟨"Max", 3, 2, false, "", "", 32⟩, ⟨"Line", 3, 3, false, "", "", 40⟩, ⟨"Col", 3, 4, false, "", "", 48⟩]) h (by kernel_rfl)
  obtain ⟨l0, r0, rfl, t0, h1⟩ := typedL_cons h1
  obtain ⟨l1, r1, rfl, t1, h1⟩ := typedL_cons h1
  obtain ⟨l2, r2, rfl, t2, h1⟩ := typedL_cons h1
  obtain ⟨l3, r3, rfl, t3, h1⟩ := typedL_cons h1
  obtain ⟨l4, r4, rfl, t4, h1⟩ := typedL_cons h1
  obtain rfl := typedL_nil h1
  obtain ⟨z0, rfl⟩ := typed_string t0 (by kernel_rfl)
  obtain ⟨z1, rfl⟩ := typed_string t1 (by kernel_rfl)
  obtain ⟨z2, rfl, f2, _⟩ := typed_int t2 (by kernel_rfl)
  obtain ⟨z3, rfl, f3, _⟩ := typed_int t3 (by kernel_rfl)
  obtain ⟨z4, rfl, f4, _⟩ := typed_int t4 (by kernel_rfl)
  exact ⟨⟨z0, z1, z2, z3, z4⟩, ⟨f2, f3, f4⟩, rfl⟩
theorem typed_sum {n : Nat} {l : List D} (h : typedW Try.prog (n + 2) 71 l) : ∃ a : SumX, a.Fit ∧ l = a.el := by
  obtain ⟨ls, rfl, h1, _⟩ := typed_struct (fs := #[⟨"Amount", 3, 0, false, "", "", 0⟩, ⟨"From", 3, 1, false, "", "", 8⟩, ⟨"To", 3, 2, false, "", "", 16⟩]) h (by kernel_rfl)
  obtain ⟨l0, r0, rfl, t0, h1⟩ := typedL_cons h1
  obtain ⟨l1, r1, rfl, t1, h1⟩ := typedL_cons h1
  obtain ⟨l2, r2, rfl, t2, h1⟩ := typedL_cons h1
  obtain rfl := typedL_nil h1
  obtain ⟨z0, rfl, f0, _⟩ := typed_int t0 (by kernel_rfl)
  obtain ⟨z1, rfl, f1, _⟩ := typed_int t1 (by kernel_rfl)
  obtain ⟨z2, rfl, f2, _⟩ := typed_int t2 (by kernel_rfl)
  exact ⟨⟨z0, z1, z2⟩, ⟨f0, f1, f2⟩, rfl⟩
theorem typed_core {n : Nat} {l : List D} (h : typedW Try.prog (n + 6) 26 l) : ∃ c : CoreX, c.Fit ∧ l = [.str c.cur, .int .i64 c.f, .int .i64 c.t, .sl 5 (rowM c.ms), .sl 3 (rowS c.ss), .sl 9 (rowP c.ps)] ∧ argAV Try.prog 26 l = coreX c := by
  obtain ⟨ls, rfl, h1, e⟩ := typed_struct (fs := #[⟨"Currency", 9, 0, false, "", "", 0⟩, ⟨"From", 3, 1, false, "", "", 16⟩, ⟨"To", 3, 2, false, "", "", 24⟩, ⟨"Meters", 22, 3, false, "", "", 32⟩, ⟨"Sums", 23, 4, false, "", "", 56⟩, ⟨"Parts", 24, 5, false, "", "", 80⟩]) h (by kernel_rfl)
  obtain ⟨l0, r0, rfl, t0, h1⟩ := typedL_cons h1
  obtain ⟨l1, r1, rfl, t1, h1⟩ := typedL_cons h1
  obtain ⟨l2, r2, rfl, t2, h1⟩ := typedL_cons h1
  obtain ⟨l3, r3, rfl, t3, h1⟩ := typedL_cons h1
  obtain ⟨l4, r4, rfl, t4, h1⟩ := typedL_cons h1
  obtain ⟨l5, r5, rfl, t5, h1⟩ := typedL_cons h1
  obtain rfl := typedL_nil h1
  obtain ⟨z0, rfl⟩ := typed_string t0 (by kernel_rfl)
  obtain ⟨z1, rfl, f1, _⟩ := typed_int t1 (by kernel_rfl)
  obtain ⟨z2, rfl, f2, _⟩ := typed_int t2 (by kernel_rfl)
  obtain ⟨z3, rfl, f3, g3⟩ := typed_sl (k := 5) (e := 54) (fun l h => typed_meter h) (by kernel_rfl) (by kernel_rfl) t3
  obtain ⟨z4, rfl, f4, g4⟩ := typed_sl (k := 3) (e := 71) (fun l h => typed_sum h) (by kernel_rfl) (by kernel_rfl) t4
  obtain ⟨z5, rfl, f5, g5⟩ := typed_sl (k := 9) (e := 51) (g := PartX.el) (F := PartX.Fit) (fun l h => by obtain ⟨x, h1, h2, _⟩ := typed_part h; exact ⟨x, h1, h2⟩) (by kernel_rfl) (by kernel_rfl) t5
  exact ⟨⟨z0, z1, z2, z3, z4, z5⟩, ⟨f1, f2, f3, g3, f4, g4, f5, g5⟩, rfl, e⟩
/-- More than is played. -/
def meterBig (m : MeterX) : Prop := 200 < (m.nm.size : Int) ∨ 200 < (m.un.size : Int)
def partBig (x : PartX) : Prop := 40 < (x.ts.length : Int) ∨ 40 < (x.ad.length : Int)
def greatC (c : CoreX) : Prop := (20 < (c.ms.length : Int) ∨ 40 < (c.ss.length : Int) ∨ 40 < (c.ps.length : Int) ∨ 200 < (c.cur.size : Int)) ∨ (∃ m ∈ c.ms, meterBig m) ∨ ∃ x ∈ c.ps, partBig x
noncomputable instance (c : CoreX) : Decidable (greatC c) := Classical.propDecidable _
theorem Great_ok {c : CoreX} : DataW Try.prog f_poundageref10_Great [coreX c] (bv (decide (greatC c))) := by
  obtain ⟨cur, f, t, ms, ss, ps⟩ := c
  refine CallW_intro comp_poundageref10_Great (by simp) ?_
  simp -implicitDefEqProofs -proj only [go_sem, Nat.reduceBEq, Nat.reduceLT, Nat.reduceLeDiff, Nat.reduceAdd, Nat.reduceMul, ↓reduceIte]
  refine AllocA_intro (fun b1 hb1 => ?_)
  by_cases g1 : 20 < (ms.length : Int)
  · simp -implicitDefEqProofs -proj only [go_sem, Nat.reduceBEq, Nat.reduceLT, Nat.reduceLeDiff, Nat.reduceAdd, Nat.reduceMul, ↓reduceIte, rowM_len, rowS_len, rowP_len, decide_eq_true g1]
    exact LendV_eq (by rw [decide_eq_true (.inl (.inl g1))])
  by_cases g2 : 40 < (ss.length : Int)
  · simp -implicitDefEqProofs -proj only [go_sem, Nat.reduceBEq, Nat.reduceLT, Nat.reduceLeDiff, Nat.reduceAdd, Nat.reduceMul, ↓reduceIte, rowM_len, rowS_len, rowP_len, decide_eq_false g1, decide_eq_true g2]
    exact LendV_eq (by rw [decide_eq_true (.inl (.inr (.inl g2)))])
  by_cases g3 : 40 < (ps.length : Int)
  · simp -implicitDefEqProofs -proj only [go_sem, Nat.reduceBEq, Nat.reduceLT, Nat.reduceLeDiff, Nat.reduceAdd, Nat.reduceMul, ↓reduceIte, rowM_len, rowS_len, rowP_len, decide_eq_false g1, decide_eq_false g2, decide_eq_true g3]
    exact LendV_eq (by rw [decide_eq_true (.inl (.inr (.inr (.inl g3))))])
  by_cases g4 : 200 < (cur.size : Int)
  · simp -implicitDefEqProofs -proj only [go_sem, Nat.reduceBEq, Nat.reduceLT, Nat.reduceLeDiff, Nat.reduceAdd, Nat.reduceMul, ↓reduceIte, rowM_len, rowS_len, rowP_len, decide_eq_false g1, decide_eq_false g2, decide_eq_false g3, decide_eq_true g4]
    exact LendV_eq (by rw [decide_eq_true (.inl (.inr (.inr (.inr g4))))])
  simp -implicitDefEqProofs -proj only [go_sem, Nat.reduceBEq, Nat.reduceLT, Nat.reduceLeDiff, Nat.reduceAdd, Nat.reduceMul, ↓reduceIte, rowM_len, rowS_len, rowP_len, decide_eq_false g1, decide_eq_false g2, decide_eq_false g3, decide_eq_false g4]
  refine LoopA_k (fun i : Nat => i ≤ ms.length ∧ ∀ (j : Nat) (h : j < ms.length), j < i → ¬ meterBig ms[j]) 65 (fun i => [(1, .ptr b1 0), (30, .d (.sl 5 (rowM ms))), (31, i64 ms.length), (32, i64 i)]) (fun _ => [(b1, .box 26 [.d (.str cur), i64 f, i64 t, .d (.sl 5 (rowM ms)), .d (.sl 3 (rowS ss)), .d (.sl 9 (rowP ps))])]) (fun i => ms.length - i) 0 ⟨Nat.zero_le _, fun j _ h => absurd h (Nat.not_lt_zero _)⟩ rfl ?_ ?_ ?_
  · simp -implicitDefEqProofs -proj only [go_sem, Nat.reduceBEq, Nat.reduceLT, Nat.reduceLeDiff, Nat.reduceAdd, Nat.reduceMul, ↓reduceIte, AllAt]
  · simp -implicitDefEqProofs -proj only [go_sem, Nat.reduceBEq, Nat.reduceLT, Nat.reduceLeDiff, Nat.reduceAdd, Nat.reduceMul, ↓reduceIte, AllH]
  · rintro i ⟨hi, hs⟩
    have hk : AllH (keepH [(b1, .box 26 [.d (.str cur), i64 f, i64 t, .d (.sl 5 (rowM ms)), .d (.sl 3 (rowS ss)), .d (.sl 9 (rowP ps))])]) [(b1, .box 26 [.d (.str cur), i64 f, i64 t, .d (.sl 5 (rowM ms)), .d (.sl 3 (rowS ss)), .d (.sl 9 (rowP ps))])] := keepH_all (by simp [keys])
    have k1 := hk.1
    by_cases h : i < ms.length
    · have hel := rowM_at h
      have hno : meterBig ms[i] → greatC ⟨cur, f, t, ms, ss, ps⟩ := fun e => .inr (.inl ⟨_, List.getElem_mem h, e⟩)
      have hgo : ¬ meterBig ms[i] → ∀ (j : Nat) (h : j < ms.length), j < i + 1 → ¬ meterBig ms[j] := by
        intro e j h1 h2
        by_cases hj : j = i
        · subst hj; exact e
        · exact hs j h1 (by omega)
      generalize ms[i] = m at *
      simp -implicitDefEqProofs -proj only [go_sem, Nat.reduceBEq, Nat.reduceLT, Nat.reduceLeDiff, Nat.reduceAdd, Nat.reduceMul, ↓reduceIte, decide_eq_true (show (i : Int) < ms.length by omega)]
      refine ElemA_at _ (by omega) hel ?_
      simp -implicitDefEqProofs -proj only [go_sem, Nat.reduceBEq, Nat.reduceLT, Nat.reduceLeDiff, Nat.reduceAdd, Nat.reduceMul, ↓reduceIte]
      refine AllocA_intro (fun b4 hb4 => ?_)
      replace hb4 : keepH [(b1, Blk.box 26 [.d (.str cur), i64 f, i64 t, .d (.sl 5 (rowM ms)), .d (.sl 3 (rowS ss)), .d (.sl 9 (rowP ps))])] b4 = none := hb4
      obtain ⟨n1, n2⟩ := fresh_ne hb4 k1
      by_cases c1 : 200 < (m.nm.size : Int)
      · simp -implicitDefEqProofs -proj only [go_sem, Nat.reduceBEq, Nat.reduceLT, Nat.reduceLeDiff, Nat.reduceAdd, Nat.reduceMul, ↓reduceIte, n1, n2, decide_eq_true c1]
        exact LendV_eq (by rw [decide_eq_true (hno (.inl c1))])
      by_cases c2 : 200 < (m.un.size : Int)
      · simp -implicitDefEqProofs -proj only [go_sem, Nat.reduceBEq, Nat.reduceLT, Nat.reduceLeDiff, Nat.reduceAdd, Nat.reduceMul, ↓reduceIte, n1, n2, decide_eq_false c1, decide_eq_true c2]
        exact LendV_eq (by rw [decide_eq_true (hno (.inr c2))])
      simp -implicitDefEqProofs -proj only [go_sem, Nat.reduceBEq, Nat.reduceLT, Nat.reduceLeDiff, Nat.reduceAdd, Nat.reduceMul, ↓reduceIte, n1, n2, decide_eq_false c1, decide_eq_false c2]
      refine LoopQ_k (i + 1) ⟨by omega, hgo (fun e => e.elim c1 c2)⟩ (by show ms.length - (i + 1) < ms.length - i; omega) rfl ?_ (AllH_upd hb4 hk)
      simp -implicitDefEqProofs -proj only [go_sem, Nat.reduceBEq, Nat.reduceLT, Nat.reduceLeDiff, Nat.reduceAdd, Nat.reduceMul, ↓reduceIte, AllAt, i64_succ (show i < 9223372036854775807 by omega)]
    · have hi' : i = ms.length := by omega
      subst hi'
      simp -implicitDefEqProofs -proj only [go_sem, Nat.reduceBEq, Nat.reduceLT, Nat.reduceLeDiff, Nat.reduceAdd, Nat.reduceMul, ↓reduceIte, k1, rowP_len, decide_eq_false (show ¬ (ms.length : Int) < ms.length by omega)]
      refine LoopA_k (fun i : Nat => i ≤ ps.length ∧ ∀ (j : Nat) (h : j < ps.length), j < i → ¬ partBig ps[j]) 65 (fun i => [(48, .d (.sl 9 (rowP ps))), (49, i64 ps.length), (50, i64 i)]) (fun _ => []) (fun i => ps.length - i) 0 ⟨Nat.zero_le _, fun j _ h => absurd h (Nat.not_lt_zero _)⟩ rfl ?_ ?_ ?_
      · simp -implicitDefEqProofs -proj only [go_sem, Nat.reduceBEq, Nat.reduceLT, Nat.reduceLeDiff, Nat.reduceAdd, Nat.reduceMul, ↓reduceIte, AllAt]
      · trivial
      · rintro i ⟨hi2, hs2⟩
        by_cases h2 : i < ps.length
        · have hel := rowP_at h2
          have hno : partBig ps[i] → greatC ⟨cur, f, t, ms, ss, ps⟩ := fun e => .inr (.inr ⟨_, List.getElem_mem h2, e⟩)
          have hgo : ¬ partBig ps[i] → ∀ (j : Nat) (h : j < ps.length), j < i + 1 → ¬ partBig ps[j] := by
            intro e j h1 h2
            by_cases hj : j = i
            · subst hj; exact e
            · exact hs2 j h1 (by omega)
          generalize ps[i] = x at *
          simp -implicitDefEqProofs -proj only [go_sem, Nat.reduceBEq, Nat.reduceLT, Nat.reduceLeDiff, Nat.reduceAdd, Nat.reduceMul, ↓reduceIte, decide_eq_true (show (i : Int) < ps.length by omega)]
          refine ElemA_at _ (by omega) hel ?_
          simp -implicitDefEqProofs -proj only [go_sem, Nat.reduceBEq, Nat.reduceLT, Nat.reduceLeDiff, Nat.reduceAdd, Nat.reduceMul, ↓reduceIte]
          refine AllocA_intro (fun b4 hb4 => ?_)
          by_cases c1 : 40 < (x.ts.length : Int)
          · simp -implicitDefEqProofs -proj only [go_sem, Nat.reduceBEq, Nat.reduceLT, Nat.reduceLeDiff, Nat.reduceAdd, Nat.reduceMul, ↓reduceIte, rowT_len, rowA_len, decide_eq_true c1]
            exact LendV_eq (by rw [decide_eq_true (hno (.inl c1))])
          by_cases c2 : 40 < (x.ad.length : Int)
          · simp -implicitDefEqProofs -proj only [go_sem, Nat.reduceBEq, Nat.reduceLT, Nat.reduceLeDiff, Nat.reduceAdd, Nat.reduceMul, ↓reduceIte, rowT_len, rowA_len, decide_eq_false c1, decide_eq_true c2]
            exact LendV_eq (by rw [decide_eq_true (hno (.inr c2))])
          simp -implicitDefEqProofs -proj only [go_sem, Nat.reduceBEq, Nat.reduceLT, Nat.reduceLeDiff, Nat.reduceAdd, Nat.reduceMul, ↓reduceIte, rowT_len, rowA_len, decide_eq_false c1, decide_eq_false c2]
          refine LoopQ_k (i + 1) ⟨by omega, hgo (fun e => e.elim c1 c2)⟩ (by show ps.length - (i + 1) < ps.length - i; omega) rfl ?_ trivial
          simp -implicitDefEqProofs -proj only [go_sem, Nat.reduceBEq, Nat.reduceLT, Nat.reduceLeDiff, Nat.reduceAdd, Nat.reduceMul, ↓reduceIte, AllAt, i64_succ (show i < 9223372036854775807 by omega)]
        · have hi3 : i = ps.length := by omega
          subst hi3
          have hfin : ¬ greatC ⟨cur, f, t, ms, ss, ps⟩ := by
            rintro (h | ⟨m, hm, h⟩ | ⟨x, hx, h⟩)
            · simp -implicitDefEqProofs only [] at h; omega
            · obtain ⟨j, hj, rfl⟩ := List.getElem_of_mem hm
              exact hs j hj hj h
            · obtain ⟨j, hj, rfl⟩ := List.getElem_of_mem hx
              exact hs2 j hj hj h
          simp -implicitDefEqProofs -proj only [go_sem, Nat.reduceBEq, Nat.reduceLT, Nat.reduceLeDiff, Nat.reduceAdd, Nat.reduceMul, ↓reduceIte, decide_eq_false (show ¬ (ps.length : Int) < ps.length by omega)]
          exact LendV_eq (by rw [decide_eq_false hfin])
def lowT (T : List Tier) (i : Nat) : Int := if i + 1 = T.length then 0 else match T[i - 1]? with
  | some p => if 0 < i ∧ 1 ≤ p.u then min p.u 1000000 + 1 else 1
  | none => 1
def highT (T : List Tier) (i : Nat) : Int := if i + 1 = T.length then 0 else 1000000
def tierOK (T : List Tier) (i : Nat) (t : Tier) : Prop := (0 ≤ t.r ∧ t.r ≤ 1000000000000) ∧ (lowT T i ≤ t.u ∧ t.u ≤ highT T i)
instance (T : List Tier) (i : Nat) (t : Tier) : Decidable (tierOK T i t) := by unfold tierOK; exact inferInstance
def adjOK (a : Adj) : Prop := a.k = 1 ∧ (0 ≤ a.n ∧ a.n ≤ 100000000) ∧ (0 ≤ a.m ∧ a.m ≤ 3) ∨ (a.k = 2 ∨ a.k = 3 ∨ a.k = 4) ∧ (0 ≤ a.n ∧ a.n ≤ 1000000000000) ∧ a.m = 0
instance (a : Adj) : Decidable (adjOK a) := by unfold adjOK; exact inferInstance
def headOK (f t : Int) (nm : Nat) (x : PartX) : Prop := 0 ≤ x.me ∧ x.me < nm ∧ (f ≤ x.f ∧ x.f ≤ x.t ∧ x.t ≤ t) ∧ (0 ≤ x.al ∧ x.al ≤ 1000000) ∧ (1 ≤ x.bl ∧ x.bl ≤ 1000000) ∧ (x.ki = 1 ∨ x.ki = 2) ∧ (0 ≤ x.mo ∧ x.mo ≤ 3) ∧ 1 ≤ x.ts.length ∧ x.ts.length ≤ 8 ∧ x.ad.length ≤ 6
instance (f t : Int) (nm : Nat) (x : PartX) : Decidable (headOK f t nm x) := by unfold headOK; exact inferInstance
def tiersOK (T : List Tier) : Prop := ∀ (i : Nat) (h : i < T.length), tierOK T i T[i]
def adjsOK (l : List Adj) : Prop := ∀ a ∈ l, adjOK a
noncomputable instance (T : List Tier) : Decidable (tiersOK T) := Classical.propDecidable _
noncomputable instance (l : List Adj) : Decidable (adjsOK l) := Classical.propDecidable _
def partOK (f t : Int) (nm : Nat) (x : PartX) : Prop := headOK f t nm x ∧ tiersOK x.ts ∧ adjsOK x.ad
noncomputable instance (f t : Int) (nm : Nat) (x : PartX) : Decidable (partOK f t nm x) := by unfold partOK; exact inferInstance
theorem tlow_last {T : List Tier} {i : Nat} (h : i + 1 = T.length) : lowT T i = 0 ∧ highT T i = 0 := ⟨if_pos h, if_pos h⟩
theorem tlow_first {T : List Tier} (h : ¬ 0 + 1 = T.length) : lowT T 0 = 1 ∧ highT T 0 = 1000000 := by
  refine ⟨?_, if_neg h⟩
  unfold lowT
  rw [if_neg h]
  split
  · rw [if_neg (by omega)]
  · rfl
theorem tlow_mid {T : List Tier} {i : Nat} (h0 : 0 < i) (hi : i - 1 < T.length) (h : ¬ i + 1 = T.length) (hu : 1 ≤ T[i - 1].u) : lowT T i = min T[i - 1].u 1000000 + 1 ∧ highT T i = 1000000 := by
  refine ⟨?_, if_neg h⟩
  unfold lowT
  rw [if_neg h, List.getElem?_eq_getElem hi]
  exact if_pos ⟨h0, hu⟩
theorem tlow_mid0 {T : List Tier} {i : Nat} (h0 : 0 < i) (hi : i - 1 < T.length) (h : ¬ i + 1 = T.length) (hu : ¬ 1 ≤ T[i - 1].u) : lowT T i = 1 ∧ highT T i = 1000000 := by
  refine ⟨?_, if_neg h⟩
  unfold lowT
  rw [if_neg h, List.getElem?_eq_getElem hi]
  exact if_neg (fun h => hu h.2)
set_option maxRecDepth 20000 in
theorem RPart_no {cur : ByteArray} {f t : Int} {ms ss ps : List (List D)} {x : PartX} (h : ¬ headOK f t ms.length x) : DataW Try.prog f_poundageref10_Part [coreV cur f t ms ss ps, partV x] (bv false) := by
  refine CallW_intro comp_poundageref10_Part (by simp) ?_
  simp -implicitDefEqProofs -proj only [go_sem, Nat.reduceBEq, Nat.reduceLT, Nat.reduceLeDiff, Nat.reduceAdd, Nat.reduceMul, ↓reduceIte]
  refine AllocA_intro (fun b2 hb2 => ?_)
  simp -implicitDefEqProofs -proj only [go_sem, Nat.reduceBEq, Nat.reduceLT, Nat.reduceLeDiff, Nat.reduceAdd, Nat.reduceMul, ↓reduceIte]
  refine AllocA_intro (fun b3 hb3 => ?_)
  replace hb3 : upd Heap.none b2 _ b3 = none := hb3
  obtain ⟨n1, n2⟩ := fresh_ne hb3 upd_eq
  unfold headOK at h
  by_cases g1 : x.me < 0
  · simp -implicitDefEqProofs -proj only [go_sem, Nat.reduceBEq, Nat.reduceLT, Nat.reduceLeDiff, Nat.reduceAdd, Nat.reduceMul, ↓reduceIte, n1, n2, decide_eq_true g1]
    exact LendV_eq rfl
  by_cases g2 : (ms.length : Int) ≤ x.me
  · simp -implicitDefEqProofs -proj only [go_sem, Nat.reduceBEq, Nat.reduceLT, Nat.reduceLeDiff, Nat.reduceAdd, Nat.reduceMul, ↓reduceIte, n1, n2, decide_eq_false g1, decide_eq_true g2]
    exact LendV_eq rfl
  simp -implicitDefEqProofs -proj only [go_sem, Nat.reduceBEq, Nat.reduceLT, Nat.reduceLeDiff, Nat.reduceAdd, Nat.reduceMul, ↓reduceIte, n1, n2, decide_eq_false g1, decide_eq_false g2]
  refine CallA_pure RSpan_ok ?_
  by_cases g3 : f ≤ x.f ∧ x.f ≤ x.t ∧ x.t ≤ t
  rotate_left
  · simp -implicitDefEqProofs -proj only [go_sem, Nat.reduceBEq, Nat.reduceLT, Nat.reduceLeDiff, Nat.reduceAdd, Nat.reduceMul, ↓reduceIte, n1, n2, decide_eq_false g3]
    exact LendV_eq rfl
  simp -implicitDefEqProofs -proj only [go_sem, Nat.reduceBEq, Nat.reduceLT, Nat.reduceLeDiff, Nat.reduceAdd, Nat.reduceMul, ↓reduceIte, n1, n2, decide_eq_true g3]
  by_cases g4 : 0 ≤ x.al ∧ x.al ≤ 1000000
  rotate_left
  · refine CallA_pure (RIn_f g4) ?_
    simp -implicitDefEqProofs -proj only [go_sem, Nat.reduceBEq, Nat.reduceLT, Nat.reduceLeDiff, Nat.reduceAdd, Nat.reduceMul, ↓reduceIte]
    exact LendV_eq rfl
  refine CallA_pure (RIn_t g4) ?_
  simp -implicitDefEqProofs -proj only [go_sem, Nat.reduceBEq, Nat.reduceLT, Nat.reduceLeDiff, Nat.reduceAdd, Nat.reduceMul, ↓reduceIte, n1, n2]
  by_cases g5 : 1 ≤ x.bl ∧ x.bl ≤ 1000000
  rotate_left
  · refine CallA_pure (RIn_f g5) ?_
    simp -implicitDefEqProofs -proj only [go_sem, Nat.reduceBEq, Nat.reduceLT, Nat.reduceLeDiff, Nat.reduceAdd, Nat.reduceMul, ↓reduceIte]
    exact LendV_eq rfl
  refine CallA_pure (RIn_t g5) ?_
  by_cases g6 : x.ki = 1
  · simp -implicitDefEqProofs -proj only [go_sem, Nat.reduceBEq, Nat.reduceLT, Nat.reduceLeDiff, Nat.reduceAdd, Nat.reduceMul, ↓reduceIte, n1, n2, decide_eq_true g6]
    by_cases g7 : 0 ≤ x.mo ∧ x.mo ≤ 3
    rotate_left
    · refine CallA_pure (RIn_f g7) ?_
      simp -implicitDefEqProofs -proj only [go_sem, Nat.reduceBEq, Nat.reduceLT, Nat.reduceLeDiff, Nat.reduceAdd, Nat.reduceMul, ↓reduceIte]
      exact LendV_eq rfl
    refine CallA_pure (RIn_t g7) ?_
    by_cases g8 : (x.ts.length : Int) < 1
    · simp -implicitDefEqProofs -proj only [go_sem, Nat.reduceBEq, Nat.reduceLT, Nat.reduceLeDiff, Nat.reduceAdd, Nat.reduceMul, ↓reduceIte, n1, n2, rowT_len, decide_eq_true g8]
      exact LendV_eq rfl
    by_cases g9 : 8 < (x.ts.length : Int)
    · simp -implicitDefEqProofs -proj only [go_sem, Nat.reduceBEq, Nat.reduceLT, Nat.reduceLeDiff, Nat.reduceAdd, Nat.reduceMul, ↓reduceIte, n1, n2, rowT_len, decide_eq_false g8, decide_eq_true g9]
      exact LendV_eq rfl
    simp -implicitDefEqProofs -proj only [go_sem, Nat.reduceBEq, Nat.reduceLT, Nat.reduceLeDiff, Nat.reduceAdd, Nat.reduceMul, ↓reduceIte, n1, n2, rowT_len, rowA_len, decide_eq_false g8, decide_eq_false g9, decide_eq_true (show 6 < (x.ad.length : Int) by omega)]
    exact LendV_eq rfl
  by_cases g6' : x.ki = 2
  · simp -implicitDefEqProofs -proj only [go_sem, Nat.reduceBEq, Nat.reduceLT, Nat.reduceLeDiff, Nat.reduceAdd, Nat.reduceMul, ↓reduceIte, n1, n2, decide_eq_false g6, decide_eq_true g6']
    by_cases g7 : 0 ≤ x.mo ∧ x.mo ≤ 3
    rotate_left
    · refine CallA_pure (RIn_f g7) ?_
      simp -implicitDefEqProofs -proj only [go_sem, Nat.reduceBEq, Nat.reduceLT, Nat.reduceLeDiff, Nat.reduceAdd, Nat.reduceMul, ↓reduceIte]
      exact LendV_eq rfl
    refine CallA_pure (RIn_t g7) ?_
    by_cases g8 : (x.ts.length : Int) < 1
    · simp -implicitDefEqProofs -proj only [go_sem, Nat.reduceBEq, Nat.reduceLT, Nat.reduceLeDiff, Nat.reduceAdd, Nat.reduceMul, ↓reduceIte, n1, n2, rowT_len, decide_eq_true g8]
      exact LendV_eq rfl
    by_cases g9 : 8 < (x.ts.length : Int)
    · simp -implicitDefEqProofs -proj only [go_sem, Nat.reduceBEq, Nat.reduceLT, Nat.reduceLeDiff, Nat.reduceAdd, Nat.reduceMul, ↓reduceIte, n1, n2, rowT_len, decide_eq_false g8, decide_eq_true g9]
      exact LendV_eq rfl
    simp -implicitDefEqProofs -proj only [go_sem, Nat.reduceBEq, Nat.reduceLT, Nat.reduceLeDiff, Nat.reduceAdd, Nat.reduceMul, ↓reduceIte, n1, n2, rowT_len, rowA_len, decide_eq_false g8, decide_eq_false g9, decide_eq_true (show 6 < (x.ad.length : Int) by omega)]
    exact LendV_eq rfl
  simp -implicitDefEqProofs -proj only [go_sem, Nat.reduceBEq, Nat.reduceLT, Nat.reduceLeDiff, Nat.reduceAdd, Nat.reduceMul, ↓reduceIte, n1, n2, decide_eq_false g6, decide_eq_false g6']
  exact LendV_eq rfl
set_option maxRecDepth 20000 in
set_option maxHeartbeats 4000000 in
theorem RPart_yes {cur : ByteArray} {f t : Int} {ms ss ps : List (List D)} {x : PartX} (hh : headOK f t ms.length x) : DataW Try.prog f_poundageref10_Part [coreV cur f t ms ss ps, partV x] (bv (decide (tiersOK x.ts ∧ adjsOK x.ad))) := by
  refine CallW_intro comp_poundageref10_Part (by simp) ?_
  simp -implicitDefEqProofs -proj only [go_sem, Nat.reduceBEq, Nat.reduceLT, Nat.reduceLeDiff, Nat.reduceAdd, Nat.reduceMul, ↓reduceIte]
  refine AllocA_intro (fun b2 hb2 => ?_)
  simp -implicitDefEqProofs -proj only [go_sem, Nat.reduceBEq, Nat.reduceLT, Nat.reduceLeDiff, Nat.reduceAdd, Nat.reduceMul, ↓reduceIte]
  refine AllocA_intro (fun b3 hb3 => ?_)
  replace hb3 : upd Heap.none b2 _ b3 = none := hb3
  obtain ⟨n1, n2⟩ := fresh_ne hb3 upd_eq
  obtain ⟨g1, g2, g3, g4, g5, g6, g7, g8, g9, g10⟩ := hh
  simp -implicitDefEqProofs -proj only [go_sem, Nat.reduceBEq, Nat.reduceLT, Nat.reduceLeDiff, Nat.reduceAdd, Nat.reduceMul, ↓reduceIte, n1, n2, decide_eq_false (show ¬ x.me < 0 by omega), decide_eq_false (show ¬ (ms.length : Int) ≤ x.me by omega)]
  refine CallA_pure RSpan_ok ?_
  simp -implicitDefEqProofs -proj only [go_sem, Nat.reduceBEq, Nat.reduceLT, Nat.reduceLeDiff, Nat.reduceAdd, Nat.reduceMul, ↓reduceIte, n1, n2, decide_eq_true g3]
  refine CallA_pure (RIn_t g4) ?_
  simp -implicitDefEqProofs -proj only [go_sem, Nat.reduceBEq, Nat.reduceLT, Nat.reduceLeDiff, Nat.reduceAdd, Nat.reduceMul, ↓reduceIte, n1, n2]
  refine CallA_pure (RIn_t g5) ?_
  have e1 := decide_eq_false (show ¬ (x.ts.length : Int) < 1 by omega)
  have e2 := decide_eq_false (show ¬ 8 < (x.ts.length : Int) by omega)
  have e3 := decide_eq_false (show ¬ 6 < (x.ad.length : Int) by omega)
  rcases g6 with g6 | g6
  · simp -implicitDefEqProofs -proj only [go_sem, Nat.reduceBEq, Nat.reduceLT, Nat.reduceLeDiff, Nat.reduceAdd, Nat.reduceMul, ↓reduceIte, n1, n2, decide_eq_true g6]
    refine CallA_pure (RIn_t g7) ?_
    simp -implicitDefEqProofs -proj only [go_sem, Nat.reduceBEq, Nat.reduceLT, Nat.reduceLeDiff, Nat.reduceAdd, Nat.reduceMul, ↓reduceIte, n1, n2, rowT_len, rowA_len, e1, e2, e3]
    refine LoopA_k (fun i : Nat => i ≤ x.ts.length ∧ ∀ (j : Nat) (h : j < x.ts.length), j < i → tierOK x.ts j x.ts[j]) 160 (fun i => [(78, slT x.ts), (79, i64 x.ts.length), (80, i64 i), (3, .ptr b3 0)]) (fun _ => [(b3, .box 51 [i64 x.me, i64 x.f, i64 x.t, i64 x.al, i64 x.bl, i64 x.ki, slT x.ts, i64 x.mo, slA x.ad])]) (fun i => x.ts.length - i) 0 ⟨Nat.zero_le _, fun j _ h => absurd h (Nat.not_lt_zero _)⟩ rfl ?_ ?_ ?_
    · simp -implicitDefEqProofs -proj only [go_sem, Nat.reduceBEq, Nat.reduceLT, Nat.reduceLeDiff, Nat.reduceAdd, Nat.reduceMul, ↓reduceIte, AllAt]
    · simp -implicitDefEqProofs -proj only [go_sem, Nat.reduceBEq, Nat.reduceLT, Nat.reduceLeDiff, Nat.reduceAdd, Nat.reduceMul, ↓reduceIte, AllH]
    · rintro i ⟨hi, hs⟩
      have hk3 : AllH (keepH [(b3, .box 51 [i64 x.me, i64 x.f, i64 x.t, i64 x.al, i64 x.bl, i64 x.ki, slT x.ts, i64 x.mo, slA x.ad])]) [(b3, .box 51 [i64 x.me, i64 x.f, i64 x.t, i64 x.al, i64 x.bl, i64 x.ki, slT x.ts, i64 x.mo, slA x.ad])] := keepH_all (by simp [keys])
      have h3 := hk3.1
      by_cases h : i < x.ts.length
      · have hel := rowT_at h
        have hgo : tierOK x.ts i x.ts[i] → ∀ (j : Nat) (h : j < x.ts.length), j < i + 1 → tierOK x.ts j x.ts[j] := by
          intro e j h1 h2
          by_cases hj : j = i
          · subst hj; exact e
          · exact hs j h1 (by omega)
        have hno : ¬ tierOK x.ts i x.ts[i] → ¬ tiersOK x.ts := fun e k => e (k i h)
        have hlast : i + 1 = x.ts.length → lowT x.ts i = 0 ∧ highT x.ts i = 0 := tlow_last
        have hwl : IntKind.i64.wrap ((x.ts.length : Int) - 1) = (x.ts.length : Int) - 1 := by rw [IntKind.wrap_i64]; omega
        generalize hq : x.ts[i] = q at *
        simp -implicitDefEqProofs -proj only [go_sem, Nat.reduceBEq, Nat.reduceLT, Nat.reduceLeDiff, Nat.reduceAdd, Nat.reduceMul, ↓reduceIte, decide_eq_true (show (i : Int) < x.ts.length by omega)]
        refine ElemA_at _ (by omega) hel ?_
        simp -implicitDefEqProofs -proj only [go_sem, Nat.reduceBEq, Nat.reduceLT, Nat.reduceLeDiff, Nat.reduceAdd, Nat.reduceMul, ↓reduceIte]
        refine AllocA_intro (fun b6 hb6 => ?_)
        have hb6' := hb6
        replace hb6 : keepH [(b3, Blk.box 51 [i64 x.me, i64 x.f, i64 x.t, i64 x.al, i64 x.bl, i64 x.ki, slT x.ts, i64 x.mo, slA x.ad])] b6 = none := hb6
        obtain ⟨m1, m2⟩ := fresh_ne hb6 h3
        by_cases h0 : i = 0
        · by_cases hl : i + 1 = x.ts.length
          · have hlow := hlast hl
            simp -implicitDefEqProofs -proj only [go_sem, Nat.reduceBEq, Nat.reduceLT, Nat.reduceLeDiff, Nat.reduceAdd, Nat.reduceMul, ↓reduceIte, m1, m2, rowT_len, hwl, decide_eq_false (show ¬ 0 < (i : Int) by omega), decide_eq_true (show (i : Int) = (x.ts.length : Int) - 1 by omega)]
            by_cases hr : 0 ≤ q.r ∧ q.r ≤ 1000000000000
            rotate_left
            · refine CallA_pure (RIn_f hr) ?_
              simp -implicitDefEqProofs -proj only [go_sem, Nat.reduceBEq, Nat.reduceLT, Nat.reduceLeDiff, Nat.reduceAdd, Nat.reduceMul, ↓reduceIte]
              exact LendV_eq (by rw [decide_eq_false (fun h => hno (fun k => hr k.1) h.1)])
            refine CallA_pure (RIn_t hr) ?_
            simp -implicitDefEqProofs -proj only [go_sem, Nat.reduceBEq, Nat.reduceLT, Nat.reduceLeDiff, Nat.reduceAdd, Nat.reduceMul, ↓reduceIte, m1, m2]
            by_cases hu : lowT x.ts i ≤ q.u ∧ q.u ≤ highT x.ts i
            rotate_left
            · refine CallA_pure (RIn_f (by rw [hlow.1, hlow.2] at hu; exact hu)) ?_
              simp -implicitDefEqProofs -proj only [go_sem, Nat.reduceBEq, Nat.reduceLT, Nat.reduceLeDiff, Nat.reduceAdd, Nat.reduceMul, ↓reduceIte]
              exact LendV_eq (by rw [decide_eq_false (fun h => hno (fun k => hu k.2) h.1)])
            refine CallA_pure (RIn_t (by rw [hlow.1, hlow.2] at hu; exact hu)) ?_
            simp -implicitDefEqProofs -proj only [go_sem, Nat.reduceBEq, Nat.reduceLT, Nat.reduceLeDiff, Nat.reduceAdd, Nat.reduceMul, ↓reduceIte]
            refine LoopQ_k (i + 1) ⟨by omega, hgo ⟨hr, hu⟩⟩ (by omega) rfl ?_ (AllH_upd hb6' hk3)
            simp -implicitDefEqProofs -proj only [go_sem, Nat.reduceBEq, Nat.reduceLT, Nat.reduceLeDiff, Nat.reduceAdd, Nat.reduceMul, ↓reduceIte, AllAt, i64_succ (show i < 9223372036854775807 by omega)]
          · have hlow : lowT x.ts i = 1 ∧ highT x.ts i = 1000000 := by subst h0; exact tlow_first hl
            simp -implicitDefEqProofs -proj only [go_sem, Nat.reduceBEq, Nat.reduceLT, Nat.reduceLeDiff, Nat.reduceAdd, Nat.reduceMul, ↓reduceIte, m1, m2, rowT_len, hwl, decide_eq_false (show ¬ 0 < (i : Int) by omega), decide_eq_false (show ¬ (i : Int) = (x.ts.length : Int) - 1 by omega)]
            by_cases hr : 0 ≤ q.r ∧ q.r ≤ 1000000000000
            rotate_left
            · refine CallA_pure (RIn_f hr) ?_
              simp -implicitDefEqProofs -proj only [go_sem, Nat.reduceBEq, Nat.reduceLT, Nat.reduceLeDiff, Nat.reduceAdd, Nat.reduceMul, ↓reduceIte]
              exact LendV_eq (by rw [decide_eq_false (fun h => hno (fun k => hr k.1) h.1)])
            refine CallA_pure (RIn_t hr) ?_
            simp -implicitDefEqProofs -proj only [go_sem, Nat.reduceBEq, Nat.reduceLT, Nat.reduceLeDiff, Nat.reduceAdd, Nat.reduceMul, ↓reduceIte, m1, m2]
            by_cases hu : lowT x.ts i ≤ q.u ∧ q.u ≤ highT x.ts i
            rotate_left
            · refine CallA_pure (RIn_f (by rw [hlow.1, hlow.2] at hu; exact hu)) ?_
              simp -implicitDefEqProofs -proj only [go_sem, Nat.reduceBEq, Nat.reduceLT, Nat.reduceLeDiff, Nat.reduceAdd, Nat.reduceMul, ↓reduceIte]
              exact LendV_eq (by rw [decide_eq_false (fun h => hno (fun k => hu k.2) h.1)])
            refine CallA_pure (RIn_t (by rw [hlow.1, hlow.2] at hu; exact hu)) ?_
            simp -implicitDefEqProofs -proj only [go_sem, Nat.reduceBEq, Nat.reduceLT, Nat.reduceLeDiff, Nat.reduceAdd, Nat.reduceMul, ↓reduceIte]
            refine LoopQ_k (i + 1) ⟨by omega, hgo ⟨hr, hu⟩⟩ (by omega) rfl ?_ (AllH_upd hb6' hk3)
            simp -implicitDefEqProofs -proj only [go_sem, Nat.reduceBEq, Nat.reduceLT, Nat.reduceLeDiff, Nat.reduceAdd, Nat.reduceMul, ↓reduceIte, AllAt, i64_succ (show i < 9223372036854775807 by omega)]
        · have wi : IntKind.i64.wrap ((i : Int) - 1) = ((i - 1 : Nat) : Int) := by rw [IntKind.wrap_i64]; omega
          have hep := rowT_at (l := x.ts) (i := i - 1) (by omega)
          have hm1 := @tlow_mid x.ts i (by omega) (by omega)
          have hm0 := @tlow_mid0 x.ts i (by omega) (by omega)
          obtain ⟨p, hp⟩ : ∃ p, x.ts[i - 1]'(by omega) = p := ⟨_, rfl⟩
          rw [hp] at hep hm1 hm0
          clear hp
          by_cases hu1 : 1 ≤ p.u
          · have wp : IntKind.i64.wrap (min p.u 1000000 + 1) = min p.u 1000000 + 1 := by rw [IntKind.wrap_i64]; omega
            simp -implicitDefEqProofs -proj only [go_sem, Nat.reduceBEq, Nat.reduceLT, Nat.reduceLeDiff, Nat.reduceAdd, Nat.reduceMul, ↓reduceIte, m1, m2, decide_eq_true (show 0 < (i : Int) by omega), wi]
            (repeat' (with_reducible refine VC_intro ?_ (fun h => ?_); (focus first | decide | omega); clear h; try simp -implicitDefEqProofs -proj only [go_sem, Nat.reduceBEq, Nat.reduceLT, Nat.reduceLeDiff, Nat.reduceAdd, Nat.reduceMul, ↓reduceIte, wi]))
            refine ElemA_at _ (by omega) hep ?_
            simp -implicitDefEqProofs -proj only [go_sem, Nat.reduceBEq, Nat.reduceLT, Nat.reduceLeDiff, Nat.reduceAdd, Nat.reduceMul, ↓reduceIte, m1, m2, wi]
            simp -implicitDefEqProofs -proj only [go_sem, Nat.reduceBEq, Nat.reduceLT, Nat.reduceLeDiff, Nat.reduceAdd, Nat.reduceMul, ↓reduceIte, m1, m2, wi, decide_eq_true hu1]
            (repeat' (with_reducible refine VC_intro ?_ (fun h => ?_); (focus first | decide | omega); clear h; try simp -implicitDefEqProofs -proj only [go_sem, Nat.reduceBEq, Nat.reduceLT, Nat.reduceLeDiff, Nat.reduceAdd, Nat.reduceMul, ↓reduceIte, wi]))
            refine ElemA_at _ (by omega) hep ?_
            by_cases hl : i + 1 = x.ts.length
            · have hlow := hlast hl
              simp -implicitDefEqProofs -proj only [go_sem, Nat.reduceBEq, Nat.reduceLT, Nat.reduceLeDiff, Nat.reduceAdd, Nat.reduceMul, ↓reduceIte, m1, m2, rowT_len, wi, hwl, wp, decide_eq_true (show (i : Int) = (x.ts.length : Int) - 1 by omega)]
              by_cases hr : 0 ≤ q.r ∧ q.r ≤ 1000000000000
              rotate_left
              · refine CallA_pure (RIn_f hr) ?_
                simp -implicitDefEqProofs -proj only [go_sem, Nat.reduceBEq, Nat.reduceLT, Nat.reduceLeDiff, Nat.reduceAdd, Nat.reduceMul, ↓reduceIte]
                exact LendV_eq (by rw [decide_eq_false (fun h => hno (fun k => hr k.1) h.1)])
              refine CallA_pure (RIn_t hr) ?_
              simp -implicitDefEqProofs -proj only [go_sem, Nat.reduceBEq, Nat.reduceLT, Nat.reduceLeDiff, Nat.reduceAdd, Nat.reduceMul, ↓reduceIte, m1, m2]
              by_cases hu : lowT x.ts i ≤ q.u ∧ q.u ≤ highT x.ts i
              rotate_left
              · refine CallA_pure (RIn_f (by rw [hlow.1, hlow.2] at hu; exact hu)) ?_
                simp -implicitDefEqProofs -proj only [go_sem, Nat.reduceBEq, Nat.reduceLT, Nat.reduceLeDiff, Nat.reduceAdd, Nat.reduceMul, ↓reduceIte]
                exact LendV_eq (by rw [decide_eq_false (fun h => hno (fun k => hu k.2) h.1)])
              refine CallA_pure (RIn_t (by rw [hlow.1, hlow.2] at hu; exact hu)) ?_
              simp -implicitDefEqProofs -proj only [go_sem, Nat.reduceBEq, Nat.reduceLT, Nat.reduceLeDiff, Nat.reduceAdd, Nat.reduceMul, ↓reduceIte]
              refine LoopQ_k (i + 1) ⟨by omega, hgo ⟨hr, hu⟩⟩ (by omega) rfl ?_ (AllH_upd hb6' hk3)
              simp -implicitDefEqProofs -proj only [go_sem, Nat.reduceBEq, Nat.reduceLT, Nat.reduceLeDiff, Nat.reduceAdd, Nat.reduceMul, ↓reduceIte, AllAt, i64_succ (show i < 9223372036854775807 by omega)]
            · have hlow := hm1 hl hu1
              simp -implicitDefEqProofs -proj only [go_sem, Nat.reduceBEq, Nat.reduceLT, Nat.reduceLeDiff, Nat.reduceAdd, Nat.reduceMul, ↓reduceIte, m1, m2, rowT_len, wi, hwl, wp, decide_eq_false (show ¬ (i : Int) = (x.ts.length : Int) - 1 by omega)]
              by_cases hr : 0 ≤ q.r ∧ q.r ≤ 1000000000000
              rotate_left
              · refine CallA_pure (RIn_f hr) ?_
                simp -implicitDefEqProofs -proj only [go_sem, Nat.reduceBEq, Nat.reduceLT, Nat.reduceLeDiff, Nat.reduceAdd, Nat.reduceMul, ↓reduceIte]
                exact LendV_eq (by rw [decide_eq_false (fun h => hno (fun k => hr k.1) h.1)])
              refine CallA_pure (RIn_t hr) ?_
              simp -implicitDefEqProofs -proj only [go_sem, Nat.reduceBEq, Nat.reduceLT, Nat.reduceLeDiff, Nat.reduceAdd, Nat.reduceMul, ↓reduceIte, m1, m2]
              by_cases hu : lowT x.ts i ≤ q.u ∧ q.u ≤ highT x.ts i
              rotate_left
              · refine CallA_pure (RIn_f (by rw [hlow.1, hlow.2] at hu; exact hu)) ?_
                simp -implicitDefEqProofs -proj only [go_sem, Nat.reduceBEq, Nat.reduceLT, Nat.reduceLeDiff, Nat.reduceAdd, Nat.reduceMul, ↓reduceIte]
                exact LendV_eq (by rw [decide_eq_false (fun h => hno (fun k => hu k.2) h.1)])
              refine CallA_pure (RIn_t (by rw [hlow.1, hlow.2] at hu; exact hu)) ?_
              simp -implicitDefEqProofs -proj only [go_sem, Nat.reduceBEq, Nat.reduceLT, Nat.reduceLeDiff, Nat.reduceAdd, Nat.reduceMul, ↓reduceIte]
              refine LoopQ_k (i + 1) ⟨by omega, hgo ⟨hr, hu⟩⟩ (by omega) rfl ?_ (AllH_upd hb6' hk3)
              simp -implicitDefEqProofs -proj only [go_sem, Nat.reduceBEq, Nat.reduceLT, Nat.reduceLeDiff, Nat.reduceAdd, Nat.reduceMul, ↓reduceIte, AllAt, i64_succ (show i < 9223372036854775807 by omega)]
          · simp -implicitDefEqProofs -proj only [go_sem, Nat.reduceBEq, Nat.reduceLT, Nat.reduceLeDiff, Nat.reduceAdd, Nat.reduceMul, ↓reduceIte, m1, m2, decide_eq_true (show 0 < (i : Int) by omega), wi]
            (repeat' (with_reducible refine VC_intro ?_ (fun h => ?_); (focus first | decide | omega); clear h; try simp -implicitDefEqProofs -proj only [go_sem, Nat.reduceBEq, Nat.reduceLT, Nat.reduceLeDiff, Nat.reduceAdd, Nat.reduceMul, ↓reduceIte, wi]))
            refine ElemA_at _ (by omega) hep ?_
            simp -implicitDefEqProofs -proj only [go_sem, Nat.reduceBEq, Nat.reduceLT, Nat.reduceLeDiff, Nat.reduceAdd, Nat.reduceMul, ↓reduceIte, m1, m2, wi]
            by_cases hl : i + 1 = x.ts.length
            · have hlow := hlast hl
              simp -implicitDefEqProofs -proj only [go_sem, Nat.reduceBEq, Nat.reduceLT, Nat.reduceLeDiff, Nat.reduceAdd, Nat.reduceMul, ↓reduceIte, m1, m2, rowT_len, wi, hwl, decide_eq_false hu1, decide_eq_true (show (i : Int) = (x.ts.length : Int) - 1 by omega)]
              by_cases hr : 0 ≤ q.r ∧ q.r ≤ 1000000000000
              rotate_left
              · refine CallA_pure (RIn_f hr) ?_
                simp -implicitDefEqProofs -proj only [go_sem, Nat.reduceBEq, Nat.reduceLT, Nat.reduceLeDiff, Nat.reduceAdd, Nat.reduceMul, ↓reduceIte]
                exact LendV_eq (by rw [decide_eq_false (fun h => hno (fun k => hr k.1) h.1)])
              refine CallA_pure (RIn_t hr) ?_
              simp -implicitDefEqProofs -proj only [go_sem, Nat.reduceBEq, Nat.reduceLT, Nat.reduceLeDiff, Nat.reduceAdd, Nat.reduceMul, ↓reduceIte, m1, m2]
              by_cases hu : lowT x.ts i ≤ q.u ∧ q.u ≤ highT x.ts i
              rotate_left
              · refine CallA_pure (RIn_f (by rw [hlow.1, hlow.2] at hu; exact hu)) ?_
                simp -implicitDefEqProofs -proj only [go_sem, Nat.reduceBEq, Nat.reduceLT, Nat.reduceLeDiff, Nat.reduceAdd, Nat.reduceMul, ↓reduceIte]
                exact LendV_eq (by rw [decide_eq_false (fun h => hno (fun k => hu k.2) h.1)])
              refine CallA_pure (RIn_t (by rw [hlow.1, hlow.2] at hu; exact hu)) ?_
              simp -implicitDefEqProofs -proj only [go_sem, Nat.reduceBEq, Nat.reduceLT, Nat.reduceLeDiff, Nat.reduceAdd, Nat.reduceMul, ↓reduceIte]
              refine LoopQ_k (i + 1) ⟨by omega, hgo ⟨hr, hu⟩⟩ (by omega) rfl ?_ (AllH_upd hb6' hk3)
              simp -implicitDefEqProofs -proj only [go_sem, Nat.reduceBEq, Nat.reduceLT, Nat.reduceLeDiff, Nat.reduceAdd, Nat.reduceMul, ↓reduceIte, AllAt, i64_succ (show i < 9223372036854775807 by omega)]
            · have hlow := hm0 hl hu1
              simp -implicitDefEqProofs -proj only [go_sem, Nat.reduceBEq, Nat.reduceLT, Nat.reduceLeDiff, Nat.reduceAdd, Nat.reduceMul, ↓reduceIte, m1, m2, rowT_len, wi, hwl, decide_eq_false hu1, decide_eq_false (show ¬ (i : Int) = (x.ts.length : Int) - 1 by omega)]
              by_cases hr : 0 ≤ q.r ∧ q.r ≤ 1000000000000
              rotate_left
              · refine CallA_pure (RIn_f hr) ?_
                simp -implicitDefEqProofs -proj only [go_sem, Nat.reduceBEq, Nat.reduceLT, Nat.reduceLeDiff, Nat.reduceAdd, Nat.reduceMul, ↓reduceIte]
                exact LendV_eq (by rw [decide_eq_false (fun h => hno (fun k => hr k.1) h.1)])
              refine CallA_pure (RIn_t hr) ?_
              simp -implicitDefEqProofs -proj only [go_sem, Nat.reduceBEq, Nat.reduceLT, Nat.reduceLeDiff, Nat.reduceAdd, Nat.reduceMul, ↓reduceIte, m1, m2]
              by_cases hu : lowT x.ts i ≤ q.u ∧ q.u ≤ highT x.ts i
              rotate_left
              · refine CallA_pure (RIn_f (by rw [hlow.1, hlow.2] at hu; exact hu)) ?_
                simp -implicitDefEqProofs -proj only [go_sem, Nat.reduceBEq, Nat.reduceLT, Nat.reduceLeDiff, Nat.reduceAdd, Nat.reduceMul, ↓reduceIte]
                exact LendV_eq (by rw [decide_eq_false (fun h => hno (fun k => hu k.2) h.1)])
              refine CallA_pure (RIn_t (by rw [hlow.1, hlow.2] at hu; exact hu)) ?_
              simp -implicitDefEqProofs -proj only [go_sem, Nat.reduceBEq, Nat.reduceLT, Nat.reduceLeDiff, Nat.reduceAdd, Nat.reduceMul, ↓reduceIte]
              refine LoopQ_k (i + 1) ⟨by omega, hgo ⟨hr, hu⟩⟩ (by omega) rfl ?_ (AllH_upd hb6' hk3)
              simp -implicitDefEqProofs -proj only [go_sem, Nat.reduceBEq, Nat.reduceLT, Nat.reduceLeDiff, Nat.reduceAdd, Nat.reduceMul, ↓reduceIte, AllAt, i64_succ (show i < 9223372036854775807 by omega)]
      · have hi' : i = x.ts.length := by omega
        subst hi'
        have hT : tiersOK x.ts := fun j h1 => hs j h1 h1
        simp -implicitDefEqProofs -proj only [go_sem, Nat.reduceBEq, Nat.reduceLT, Nat.reduceLeDiff, Nat.reduceAdd, Nat.reduceMul, ↓reduceIte, decide_eq_false (show ¬ (x.ts.length : Int) < x.ts.length by omega), rowA_len]
        refine LoopA_k (fun i : Nat => i ≤ x.ad.length ∧ ∀ (j : Nat) (h : j < x.ad.length), j < i → adjOK x.ad[j]) 160 (fun i => [(126, slA x.ad), (127, i64 x.ad.length), (128, i64 i)]) (fun _ => []) (fun i => x.ad.length - i) 0 ⟨Nat.zero_le _, fun j _ h => absurd h (Nat.not_lt_zero _)⟩ rfl ?_ ?_ ?_
        · simp -implicitDefEqProofs -proj only [go_sem, Nat.reduceBEq, Nat.reduceLT, Nat.reduceLeDiff, Nat.reduceAdd, Nat.reduceMul, ↓reduceIte, AllAt]
        · simp -implicitDefEqProofs -proj only [go_sem, Nat.reduceBEq, Nat.reduceLT, Nat.reduceLeDiff, Nat.reduceAdd, Nat.reduceMul, ↓reduceIte, AllH]
        · rintro i ⟨hi, hs⟩
          by_cases h : i < x.ad.length
          · have hel := rowA_at h
            have hgo : adjOK x.ad[i] → ∀ (j : Nat) (h : j < x.ad.length), j < i + 1 → adjOK x.ad[j] := by
              intro e j h1 h2
              by_cases hj : j = i
              · subst hj; exact e
              · exact hs j h1 (by omega)
            have hno : ¬ adjOK x.ad[i] → ¬ adjsOK x.ad := fun e k => e (k _ (List.getElem_mem h))
            generalize hq : x.ad[i] = q at *
            unfold adjOK at hgo hno
            simp -implicitDefEqProofs -proj only [go_sem, Nat.reduceBEq, Nat.reduceLT, Nat.reduceLeDiff, Nat.reduceAdd, Nat.reduceMul, ↓reduceIte, decide_eq_true (show (i : Int) < x.ad.length by omega)]
            refine ElemA_at _ (by omega) hel ?_
            simp -implicitDefEqProofs -proj only [go_sem, Nat.reduceBEq, Nat.reduceLT, Nat.reduceLeDiff, Nat.reduceAdd, Nat.reduceMul, ↓reduceIte]
            refine AllocA_intro (fun b10 hb10 => ?_)
            by_cases k1 : q.k = 1
            · simp -implicitDefEqProofs -proj only [go_sem, Nat.reduceBEq, Nat.reduceLT, Nat.reduceLeDiff, Nat.reduceAdd, Nat.reduceMul, ↓reduceIte, decide_eq_true k1]
              by_cases hn : 0 ≤ q.n ∧ q.n ≤ 100000000
              rotate_left
              · refine CallA_pure (RIn_f hn) ?_
                simp -implicitDefEqProofs -proj only [go_sem, Nat.reduceBEq, Nat.reduceLT, Nat.reduceLeDiff, Nat.reduceAdd, Nat.reduceMul, ↓reduceIte]
                exact LendV_eq (by rw [decide_eq_false (fun h => hno (by omega) h.2)])
              refine CallA_pure (RIn_t hn) ?_
              simp -implicitDefEqProofs -proj only [go_sem, Nat.reduceBEq, Nat.reduceLT, Nat.reduceLeDiff, Nat.reduceAdd, Nat.reduceMul, ↓reduceIte]
              by_cases hm : 0 ≤ q.m ∧ q.m ≤ 3
              rotate_left
              · refine CallA_pure (RIn_f hm) ?_
                simp -implicitDefEqProofs -proj only [go_sem, Nat.reduceBEq, Nat.reduceLT, Nat.reduceLeDiff, Nat.reduceAdd, Nat.reduceMul, ↓reduceIte]
                exact LendV_eq (by rw [decide_eq_false (fun h => hno (by omega) h.2)])
              refine CallA_pure (RIn_t hm) ?_
              simp -implicitDefEqProofs -proj only [go_sem, Nat.reduceBEq, Nat.reduceLT, Nat.reduceLeDiff, Nat.reduceAdd, Nat.reduceMul, ↓reduceIte]
              refine LoopQ_k (i + 1) ⟨by omega, hgo (by omega)⟩ (by omega) rfl ?_ trivial
              simp -implicitDefEqProofs -proj only [go_sem, Nat.reduceBEq, Nat.reduceLT, Nat.reduceLeDiff, Nat.reduceAdd, Nat.reduceMul, ↓reduceIte, AllAt, i64_succ (show i < 9223372036854775807 by omega)]
            · by_cases k2 : q.k = 2
              · simp -implicitDefEqProofs -proj only [go_sem, Nat.reduceBEq, Nat.reduceLT, Nat.reduceLeDiff, Nat.reduceAdd, Nat.reduceMul, ↓reduceIte, decide_eq_false k1, decide_eq_true k2]
                by_cases hn : 0 ≤ q.n ∧ q.n ≤ 1000000000000
                rotate_left
                · refine CallA_pure (RIn_f hn) ?_
                  simp -implicitDefEqProofs -proj only [go_sem, Nat.reduceBEq, Nat.reduceLT, Nat.reduceLeDiff, Nat.reduceAdd, Nat.reduceMul, ↓reduceIte]
                  exact LendV_eq (by rw [decide_eq_false (fun h => hno (by omega) h.2)])
                refine CallA_pure (RIn_t hn) ?_
                by_cases hm : q.m = 0
                rotate_left
                · simp -implicitDefEqProofs -proj only [go_sem, Nat.reduceBEq, Nat.reduceLT, Nat.reduceLeDiff, Nat.reduceAdd, Nat.reduceMul, ↓reduceIte, decide_eq_false hm]
                  exact LendV_eq (by rw [decide_eq_false (fun h => hno (by omega) h.2)])
                simp -implicitDefEqProofs -proj only [go_sem, Nat.reduceBEq, Nat.reduceLT, Nat.reduceLeDiff, Nat.reduceAdd, Nat.reduceMul, ↓reduceIte, decide_eq_true hm]
                refine LoopQ_k (i + 1) ⟨by omega, hgo (by omega)⟩ (by omega) rfl ?_ trivial
                simp -implicitDefEqProofs -proj only [go_sem, Nat.reduceBEq, Nat.reduceLT, Nat.reduceLeDiff, Nat.reduceAdd, Nat.reduceMul, ↓reduceIte, AllAt, i64_succ (show i < 9223372036854775807 by omega)]
              · by_cases k3 : q.k = 3
                · simp -implicitDefEqProofs -proj only [go_sem, Nat.reduceBEq, Nat.reduceLT, Nat.reduceLeDiff, Nat.reduceAdd, Nat.reduceMul, ↓reduceIte, decide_eq_false k1, decide_eq_false k2, decide_eq_true k3]
                  by_cases hn : 0 ≤ q.n ∧ q.n ≤ 1000000000000
                  rotate_left
                  · refine CallA_pure (RIn_f hn) ?_
                    simp -implicitDefEqProofs -proj only [go_sem, Nat.reduceBEq, Nat.reduceLT, Nat.reduceLeDiff, Nat.reduceAdd, Nat.reduceMul, ↓reduceIte]
                    exact LendV_eq (by rw [decide_eq_false (fun h => hno (by omega) h.2)])
                  refine CallA_pure (RIn_t hn) ?_
                  by_cases hm : q.m = 0
                  rotate_left
                  · simp -implicitDefEqProofs -proj only [go_sem, Nat.reduceBEq, Nat.reduceLT, Nat.reduceLeDiff, Nat.reduceAdd, Nat.reduceMul, ↓reduceIte, decide_eq_false hm]
                    exact LendV_eq (by rw [decide_eq_false (fun h => hno (by omega) h.2)])
                  simp -implicitDefEqProofs -proj only [go_sem, Nat.reduceBEq, Nat.reduceLT, Nat.reduceLeDiff, Nat.reduceAdd, Nat.reduceMul, ↓reduceIte, decide_eq_true hm]
                  refine LoopQ_k (i + 1) ⟨by omega, hgo (by omega)⟩ (by omega) rfl ?_ trivial
                  simp -implicitDefEqProofs -proj only [go_sem, Nat.reduceBEq, Nat.reduceLT, Nat.reduceLeDiff, Nat.reduceAdd, Nat.reduceMul, ↓reduceIte, AllAt, i64_succ (show i < 9223372036854775807 by omega)]
                · by_cases k4 : q.k = 4
                  · simp -implicitDefEqProofs -proj only [go_sem, Nat.reduceBEq, Nat.reduceLT, Nat.reduceLeDiff, Nat.reduceAdd, Nat.reduceMul, ↓reduceIte, decide_eq_false k1, decide_eq_false k2, decide_eq_false k3, decide_eq_true k4]
                    by_cases hn : 0 ≤ q.n ∧ q.n ≤ 1000000000000
                    rotate_left
                    · refine CallA_pure (RIn_f hn) ?_
                      simp -implicitDefEqProofs -proj only [go_sem, Nat.reduceBEq, Nat.reduceLT, Nat.reduceLeDiff, Nat.reduceAdd, Nat.reduceMul, ↓reduceIte]
                      exact LendV_eq (by rw [decide_eq_false (fun h => hno (by omega) h.2)])
                    refine CallA_pure (RIn_t hn) ?_
                    by_cases hm : q.m = 0
                    rotate_left
                    · simp -implicitDefEqProofs -proj only [go_sem, Nat.reduceBEq, Nat.reduceLT, Nat.reduceLeDiff, Nat.reduceAdd, Nat.reduceMul, ↓reduceIte, decide_eq_false hm]
                      exact LendV_eq (by rw [decide_eq_false (fun h => hno (by omega) h.2)])
                    simp -implicitDefEqProofs -proj only [go_sem, Nat.reduceBEq, Nat.reduceLT, Nat.reduceLeDiff, Nat.reduceAdd, Nat.reduceMul, ↓reduceIte, decide_eq_true hm]
                    refine LoopQ_k (i + 1) ⟨by omega, hgo (by omega)⟩ (by omega) rfl ?_ trivial
                    simp -implicitDefEqProofs -proj only [go_sem, Nat.reduceBEq, Nat.reduceLT, Nat.reduceLeDiff, Nat.reduceAdd, Nat.reduceMul, ↓reduceIte, AllAt, i64_succ (show i < 9223372036854775807 by omega)]
                  · simp -implicitDefEqProofs -proj only [go_sem, Nat.reduceBEq, Nat.reduceLT, Nat.reduceLeDiff, Nat.reduceAdd, Nat.reduceMul, ↓reduceIte, decide_eq_false k1, decide_eq_false k2, decide_eq_false k3, decide_eq_false k4]
                    exact LendV_eq (by rw [decide_eq_false (fun h => hno (by omega) h.2)])
          · have hi' : i = x.ad.length := by omega
            subst hi'
            have hA : adjsOK x.ad := fun a ha => by obtain ⟨j, h1, rfl⟩ := List.getElem_of_mem ha; exact hs j h1 h1
            simp -implicitDefEqProofs -proj only [go_sem, Nat.reduceBEq, Nat.reduceLT, Nat.reduceLeDiff, Nat.reduceAdd, Nat.reduceMul, ↓reduceIte, decide_eq_false (show ¬ (x.ad.length : Int) < x.ad.length by omega)]
            exact LendV_eq (by rw [decide_eq_true ⟨hT, hA⟩])
  · simp -implicitDefEqProofs -proj only [go_sem, Nat.reduceBEq, Nat.reduceLT, Nat.reduceLeDiff, Nat.reduceAdd, Nat.reduceMul, ↓reduceIte, n1, n2, decide_eq_false (show ¬ x.ki = 1 by omega), decide_eq_true g6]
    refine CallA_pure (RIn_t g7) ?_
    simp -implicitDefEqProofs -proj only [go_sem, Nat.reduceBEq, Nat.reduceLT, Nat.reduceLeDiff, Nat.reduceAdd, Nat.reduceMul, ↓reduceIte, n1, n2, rowT_len, rowA_len, e1, e2, e3]
    refine LoopA_k (fun i : Nat => i ≤ x.ts.length ∧ ∀ (j : Nat) (h : j < x.ts.length), j < i → tierOK x.ts j x.ts[j]) 160 (fun i => [(78, slT x.ts), (79, i64 x.ts.length), (80, i64 i), (3, .ptr b3 0)]) (fun _ => [(b3, .box 51 [i64 x.me, i64 x.f, i64 x.t, i64 x.al, i64 x.bl, i64 x.ki, slT x.ts, i64 x.mo, slA x.ad])]) (fun i => x.ts.length - i) 0 ⟨Nat.zero_le _, fun j _ h => absurd h (Nat.not_lt_zero _)⟩ rfl ?_ ?_ ?_
    · simp -implicitDefEqProofs -proj only [go_sem, Nat.reduceBEq, Nat.reduceLT, Nat.reduceLeDiff, Nat.reduceAdd, Nat.reduceMul, ↓reduceIte, AllAt]
    · simp -implicitDefEqProofs -proj only [go_sem, Nat.reduceBEq, Nat.reduceLT, Nat.reduceLeDiff, Nat.reduceAdd, Nat.reduceMul, ↓reduceIte, AllH]
    · rintro i ⟨hi, hs⟩
      have hk3 : AllH (keepH [(b3, .box 51 [i64 x.me, i64 x.f, i64 x.t, i64 x.al, i64 x.bl, i64 x.ki, slT x.ts, i64 x.mo, slA x.ad])]) [(b3, .box 51 [i64 x.me, i64 x.f, i64 x.t, i64 x.al, i64 x.bl, i64 x.ki, slT x.ts, i64 x.mo, slA x.ad])] := keepH_all (by simp [keys])
      have h3 := hk3.1
      by_cases h : i < x.ts.length
      · have hel := rowT_at h
        have hgo : tierOK x.ts i x.ts[i] → ∀ (j : Nat) (h : j < x.ts.length), j < i + 1 → tierOK x.ts j x.ts[j] := by
          intro e j h1 h2
          by_cases hj : j = i
          · subst hj; exact e
          · exact hs j h1 (by omega)
        have hno : ¬ tierOK x.ts i x.ts[i] → ¬ tiersOK x.ts := fun e k => e (k i h)
        have hlast : i + 1 = x.ts.length → lowT x.ts i = 0 ∧ highT x.ts i = 0 := tlow_last
        have hwl : IntKind.i64.wrap ((x.ts.length : Int) - 1) = (x.ts.length : Int) - 1 := by rw [IntKind.wrap_i64]; omega
        generalize hq : x.ts[i] = q at *
        simp -implicitDefEqProofs -proj only [go_sem, Nat.reduceBEq, Nat.reduceLT, Nat.reduceLeDiff, Nat.reduceAdd, Nat.reduceMul, ↓reduceIte, decide_eq_true (show (i : Int) < x.ts.length by omega)]
        refine ElemA_at _ (by omega) hel ?_
        simp -implicitDefEqProofs -proj only [go_sem, Nat.reduceBEq, Nat.reduceLT, Nat.reduceLeDiff, Nat.reduceAdd, Nat.reduceMul, ↓reduceIte]
        refine AllocA_intro (fun b6 hb6 => ?_)
        have hb6' := hb6
        replace hb6 : keepH [(b3, Blk.box 51 [i64 x.me, i64 x.f, i64 x.t, i64 x.al, i64 x.bl, i64 x.ki, slT x.ts, i64 x.mo, slA x.ad])] b6 = none := hb6
        obtain ⟨m1, m2⟩ := fresh_ne hb6 h3
        by_cases h0 : i = 0
        · by_cases hl : i + 1 = x.ts.length
          · have hlow := hlast hl
            simp -implicitDefEqProofs -proj only [go_sem, Nat.reduceBEq, Nat.reduceLT, Nat.reduceLeDiff, Nat.reduceAdd, Nat.reduceMul, ↓reduceIte, m1, m2, rowT_len, hwl, decide_eq_false (show ¬ 0 < (i : Int) by omega), decide_eq_true (show (i : Int) = (x.ts.length : Int) - 1 by omega)]
            by_cases hr : 0 ≤ q.r ∧ q.r ≤ 1000000000000
            rotate_left
            · refine CallA_pure (RIn_f hr) ?_
              simp -implicitDefEqProofs -proj only [go_sem, Nat.reduceBEq, Nat.reduceLT, Nat.reduceLeDiff, Nat.reduceAdd, Nat.reduceMul, ↓reduceIte]
              exact LendV_eq (by rw [decide_eq_false (fun h => hno (fun k => hr k.1) h.1)])
            refine CallA_pure (RIn_t hr) ?_
            simp -implicitDefEqProofs -proj only [go_sem, Nat.reduceBEq, Nat.reduceLT, Nat.reduceLeDiff, Nat.reduceAdd, Nat.reduceMul, ↓reduceIte, m1, m2]
            by_cases hu : lowT x.ts i ≤ q.u ∧ q.u ≤ highT x.ts i
            rotate_left
            · refine CallA_pure (RIn_f (by rw [hlow.1, hlow.2] at hu; exact hu)) ?_
              simp -implicitDefEqProofs -proj only [go_sem, Nat.reduceBEq, Nat.reduceLT, Nat.reduceLeDiff, Nat.reduceAdd, Nat.reduceMul, ↓reduceIte]
              exact LendV_eq (by rw [decide_eq_false (fun h => hno (fun k => hu k.2) h.1)])
            refine CallA_pure (RIn_t (by rw [hlow.1, hlow.2] at hu; exact hu)) ?_
            simp -implicitDefEqProofs -proj only [go_sem, Nat.reduceBEq, Nat.reduceLT, Nat.reduceLeDiff, Nat.reduceAdd, Nat.reduceMul, ↓reduceIte]
            refine LoopQ_k (i + 1) ⟨by omega, hgo ⟨hr, hu⟩⟩ (by omega) rfl ?_ (AllH_upd hb6' hk3)
            simp -implicitDefEqProofs -proj only [go_sem, Nat.reduceBEq, Nat.reduceLT, Nat.reduceLeDiff, Nat.reduceAdd, Nat.reduceMul, ↓reduceIte, AllAt, i64_succ (show i < 9223372036854775807 by omega)]
          · have hlow : lowT x.ts i = 1 ∧ highT x.ts i = 1000000 := by subst h0; exact tlow_first hl
            simp -implicitDefEqProofs -proj only [go_sem, Nat.reduceBEq, Nat.reduceLT, Nat.reduceLeDiff, Nat.reduceAdd, Nat.reduceMul, ↓reduceIte, m1, m2, rowT_len, hwl, decide_eq_false (show ¬ 0 < (i : Int) by omega), decide_eq_false (show ¬ (i : Int) = (x.ts.length : Int) - 1 by omega)]
            by_cases hr : 0 ≤ q.r ∧ q.r ≤ 1000000000000
            rotate_left
            · refine CallA_pure (RIn_f hr) ?_
              simp -implicitDefEqProofs -proj only [go_sem, Nat.reduceBEq, Nat.reduceLT, Nat.reduceLeDiff, Nat.reduceAdd, Nat.reduceMul, ↓reduceIte]
              exact LendV_eq (by rw [decide_eq_false (fun h => hno (fun k => hr k.1) h.1)])
            refine CallA_pure (RIn_t hr) ?_
            simp -implicitDefEqProofs -proj only [go_sem, Nat.reduceBEq, Nat.reduceLT, Nat.reduceLeDiff, Nat.reduceAdd, Nat.reduceMul, ↓reduceIte, m1, m2]
            by_cases hu : lowT x.ts i ≤ q.u ∧ q.u ≤ highT x.ts i
            rotate_left
            · refine CallA_pure (RIn_f (by rw [hlow.1, hlow.2] at hu; exact hu)) ?_
              simp -implicitDefEqProofs -proj only [go_sem, Nat.reduceBEq, Nat.reduceLT, Nat.reduceLeDiff, Nat.reduceAdd, Nat.reduceMul, ↓reduceIte]
              exact LendV_eq (by rw [decide_eq_false (fun h => hno (fun k => hu k.2) h.1)])
            refine CallA_pure (RIn_t (by rw [hlow.1, hlow.2] at hu; exact hu)) ?_
            simp -implicitDefEqProofs -proj only [go_sem, Nat.reduceBEq, Nat.reduceLT, Nat.reduceLeDiff, Nat.reduceAdd, Nat.reduceMul, ↓reduceIte]
            refine LoopQ_k (i + 1) ⟨by omega, hgo ⟨hr, hu⟩⟩ (by omega) rfl ?_ (AllH_upd hb6' hk3)
            simp -implicitDefEqProofs -proj only [go_sem, Nat.reduceBEq, Nat.reduceLT, Nat.reduceLeDiff, Nat.reduceAdd, Nat.reduceMul, ↓reduceIte, AllAt, i64_succ (show i < 9223372036854775807 by omega)]
        · have wi : IntKind.i64.wrap ((i : Int) - 1) = ((i - 1 : Nat) : Int) := by rw [IntKind.wrap_i64]; omega
          have hep := rowT_at (l := x.ts) (i := i - 1) (by omega)
          have hm1 := @tlow_mid x.ts i (by omega) (by omega)
          have hm0 := @tlow_mid0 x.ts i (by omega) (by omega)
          obtain ⟨p, hp⟩ : ∃ p, x.ts[i - 1]'(by omega) = p := ⟨_, rfl⟩
          rw [hp] at hep hm1 hm0
          clear hp
          by_cases hu1 : 1 ≤ p.u
          · have wp : IntKind.i64.wrap (min p.u 1000000 + 1) = min p.u 1000000 + 1 := by rw [IntKind.wrap_i64]; omega
            simp -implicitDefEqProofs -proj only [go_sem, Nat.reduceBEq, Nat.reduceLT, Nat.reduceLeDiff, Nat.reduceAdd, Nat.reduceMul, ↓reduceIte, m1, m2, decide_eq_true (show 0 < (i : Int) by omega), wi]
            (repeat' (with_reducible refine VC_intro ?_ (fun h => ?_); (focus first | decide | omega); clear h; try simp -implicitDefEqProofs -proj only [go_sem, Nat.reduceBEq, Nat.reduceLT, Nat.reduceLeDiff, Nat.reduceAdd, Nat.reduceMul, ↓reduceIte, wi]))
            refine ElemA_at _ (by omega) hep ?_
            simp -implicitDefEqProofs -proj only [go_sem, Nat.reduceBEq, Nat.reduceLT, Nat.reduceLeDiff, Nat.reduceAdd, Nat.reduceMul, ↓reduceIte, m1, m2, wi]
            simp -implicitDefEqProofs -proj only [go_sem, Nat.reduceBEq, Nat.reduceLT, Nat.reduceLeDiff, Nat.reduceAdd, Nat.reduceMul, ↓reduceIte, m1, m2, wi, decide_eq_true hu1]
            (repeat' (with_reducible refine VC_intro ?_ (fun h => ?_); (focus first | decide | omega); clear h; try simp -implicitDefEqProofs -proj only [go_sem, Nat.reduceBEq, Nat.reduceLT, Nat.reduceLeDiff, Nat.reduceAdd, Nat.reduceMul, ↓reduceIte, wi]))
            refine ElemA_at _ (by omega) hep ?_
            by_cases hl : i + 1 = x.ts.length
            · have hlow := hlast hl
              simp -implicitDefEqProofs -proj only [go_sem, Nat.reduceBEq, Nat.reduceLT, Nat.reduceLeDiff, Nat.reduceAdd, Nat.reduceMul, ↓reduceIte, m1, m2, rowT_len, wi, hwl, wp, decide_eq_true (show (i : Int) = (x.ts.length : Int) - 1 by omega)]
              by_cases hr : 0 ≤ q.r ∧ q.r ≤ 1000000000000
              rotate_left
              · refine CallA_pure (RIn_f hr) ?_
                simp -implicitDefEqProofs -proj only [go_sem, Nat.reduceBEq, Nat.reduceLT, Nat.reduceLeDiff, Nat.reduceAdd, Nat.reduceMul, ↓reduceIte]
                exact LendV_eq (by rw [decide_eq_false (fun h => hno (fun k => hr k.1) h.1)])
              refine CallA_pure (RIn_t hr) ?_
              simp -implicitDefEqProofs -proj only [go_sem, Nat.reduceBEq, Nat.reduceLT, Nat.reduceLeDiff, Nat.reduceAdd, Nat.reduceMul, ↓reduceIte, m1, m2]
              by_cases hu : lowT x.ts i ≤ q.u ∧ q.u ≤ highT x.ts i
              rotate_left
              · refine CallA_pure (RIn_f (by rw [hlow.1, hlow.2] at hu; exact hu)) ?_
                simp -implicitDefEqProofs -proj only [go_sem, Nat.reduceBEq, Nat.reduceLT, Nat.reduceLeDiff, Nat.reduceAdd, Nat.reduceMul, ↓reduceIte]
                exact LendV_eq (by rw [decide_eq_false (fun h => hno (fun k => hu k.2) h.1)])
              refine CallA_pure (RIn_t (by rw [hlow.1, hlow.2] at hu; exact hu)) ?_
              simp -implicitDefEqProofs -proj only [go_sem, Nat.reduceBEq, Nat.reduceLT, Nat.reduceLeDiff, Nat.reduceAdd, Nat.reduceMul, ↓reduceIte]
              refine LoopQ_k (i + 1) ⟨by omega, hgo ⟨hr, hu⟩⟩ (by omega) rfl ?_ (AllH_upd hb6' hk3)
              simp -implicitDefEqProofs -proj only [go_sem, Nat.reduceBEq, Nat.reduceLT, Nat.reduceLeDiff, Nat.reduceAdd, Nat.reduceMul, ↓reduceIte, AllAt, i64_succ (show i < 9223372036854775807 by omega)]
            · have hlow := hm1 hl hu1
              simp -implicitDefEqProofs -proj only [go_sem, Nat.reduceBEq, Nat.reduceLT, Nat.reduceLeDiff, Nat.reduceAdd, Nat.reduceMul, ↓reduceIte, m1, m2, rowT_len, wi, hwl, wp, decide_eq_false (show ¬ (i : Int) = (x.ts.length : Int) - 1 by omega)]
              by_cases hr : 0 ≤ q.r ∧ q.r ≤ 1000000000000
              rotate_left
              · refine CallA_pure (RIn_f hr) ?_
                simp -implicitDefEqProofs -proj only [go_sem, Nat.reduceBEq, Nat.reduceLT, Nat.reduceLeDiff, Nat.reduceAdd, Nat.reduceMul, ↓reduceIte]
                exact LendV_eq (by rw [decide_eq_false (fun h => hno (fun k => hr k.1) h.1)])
              refine CallA_pure (RIn_t hr) ?_
              simp -implicitDefEqProofs -proj only [go_sem, Nat.reduceBEq, Nat.reduceLT, Nat.reduceLeDiff, Nat.reduceAdd, Nat.reduceMul, ↓reduceIte, m1, m2]
              by_cases hu : lowT x.ts i ≤ q.u ∧ q.u ≤ highT x.ts i
              rotate_left
              · refine CallA_pure (RIn_f (by rw [hlow.1, hlow.2] at hu; exact hu)) ?_
                simp -implicitDefEqProofs -proj only [go_sem, Nat.reduceBEq, Nat.reduceLT, Nat.reduceLeDiff, Nat.reduceAdd, Nat.reduceMul, ↓reduceIte]
                exact LendV_eq (by rw [decide_eq_false (fun h => hno (fun k => hu k.2) h.1)])
              refine CallA_pure (RIn_t (by rw [hlow.1, hlow.2] at hu; exact hu)) ?_
              simp -implicitDefEqProofs -proj only [go_sem, Nat.reduceBEq, Nat.reduceLT, Nat.reduceLeDiff, Nat.reduceAdd, Nat.reduceMul, ↓reduceIte]
              refine LoopQ_k (i + 1) ⟨by omega, hgo ⟨hr, hu⟩⟩ (by omega) rfl ?_ (AllH_upd hb6' hk3)
              simp -implicitDefEqProofs -proj only [go_sem, Nat.reduceBEq, Nat.reduceLT, Nat.reduceLeDiff, Nat.reduceAdd, Nat.reduceMul, ↓reduceIte, AllAt, i64_succ (show i < 9223372036854775807 by omega)]
          · simp -implicitDefEqProofs -proj only [go_sem, Nat.reduceBEq, Nat.reduceLT, Nat.reduceLeDiff, Nat.reduceAdd, Nat.reduceMul, ↓reduceIte, m1, m2, decide_eq_true (show 0 < (i : Int) by omega), wi]
            (repeat' (with_reducible refine VC_intro ?_ (fun h => ?_); (focus first | decide | omega); clear h; try simp -implicitDefEqProofs -proj only [go_sem, Nat.reduceBEq, Nat.reduceLT, Nat.reduceLeDiff, Nat.reduceAdd, Nat.reduceMul, ↓reduceIte, wi]))
            refine ElemA_at _ (by omega) hep ?_
            simp -implicitDefEqProofs -proj only [go_sem, Nat.reduceBEq, Nat.reduceLT, Nat.reduceLeDiff, Nat.reduceAdd, Nat.reduceMul, ↓reduceIte, m1, m2, wi]
            by_cases hl : i + 1 = x.ts.length
            · have hlow := hlast hl
              simp -implicitDefEqProofs -proj only [go_sem, Nat.reduceBEq, Nat.reduceLT, Nat.reduceLeDiff, Nat.reduceAdd, Nat.reduceMul, ↓reduceIte, m1, m2, rowT_len, wi, hwl, decide_eq_false hu1, decide_eq_true (show (i : Int) = (x.ts.length : Int) - 1 by omega)]
              by_cases hr : 0 ≤ q.r ∧ q.r ≤ 1000000000000
              rotate_left
              · refine CallA_pure (RIn_f hr) ?_
                simp -implicitDefEqProofs -proj only [go_sem, Nat.reduceBEq, Nat.reduceLT, Nat.reduceLeDiff, Nat.reduceAdd, Nat.reduceMul, ↓reduceIte]
                exact LendV_eq (by rw [decide_eq_false (fun h => hno (fun k => hr k.1) h.1)])
              refine CallA_pure (RIn_t hr) ?_
              simp -implicitDefEqProofs -proj only [go_sem, Nat.reduceBEq, Nat.reduceLT, Nat.reduceLeDiff, Nat.reduceAdd, Nat.reduceMul, ↓reduceIte, m1, m2]
              by_cases hu : lowT x.ts i ≤ q.u ∧ q.u ≤ highT x.ts i
              rotate_left
              · refine CallA_pure (RIn_f (by rw [hlow.1, hlow.2] at hu; exact hu)) ?_
                simp -implicitDefEqProofs -proj only [go_sem, Nat.reduceBEq, Nat.reduceLT, Nat.reduceLeDiff, Nat.reduceAdd, Nat.reduceMul, ↓reduceIte]
                exact LendV_eq (by rw [decide_eq_false (fun h => hno (fun k => hu k.2) h.1)])
              refine CallA_pure (RIn_t (by rw [hlow.1, hlow.2] at hu; exact hu)) ?_
              simp -implicitDefEqProofs -proj only [go_sem, Nat.reduceBEq, Nat.reduceLT, Nat.reduceLeDiff, Nat.reduceAdd, Nat.reduceMul, ↓reduceIte]
              refine LoopQ_k (i + 1) ⟨by omega, hgo ⟨hr, hu⟩⟩ (by omega) rfl ?_ (AllH_upd hb6' hk3)
              simp -implicitDefEqProofs -proj only [go_sem, Nat.reduceBEq, Nat.reduceLT, Nat.reduceLeDiff, Nat.reduceAdd, Nat.reduceMul, ↓reduceIte, AllAt, i64_succ (show i < 9223372036854775807 by omega)]
            · have hlow := hm0 hl hu1
              simp -implicitDefEqProofs -proj only [go_sem, Nat.reduceBEq, Nat.reduceLT, Nat.reduceLeDiff, Nat.reduceAdd, Nat.reduceMul, ↓reduceIte, m1, m2, rowT_len, wi, hwl, decide_eq_false hu1, decide_eq_false (show ¬ (i : Int) = (x.ts.length : Int) - 1 by omega)]
              by_cases hr : 0 ≤ q.r ∧ q.r ≤ 1000000000000
              rotate_left
              · refine CallA_pure (RIn_f hr) ?_
                simp -implicitDefEqProofs -proj only [go_sem, Nat.reduceBEq, Nat.reduceLT, Nat.reduceLeDiff, Nat.reduceAdd, Nat.reduceMul, ↓reduceIte]
                exact LendV_eq (by rw [decide_eq_false (fun h => hno (fun k => hr k.1) h.1)])
              refine CallA_pure (RIn_t hr) ?_
              simp -implicitDefEqProofs -proj only [go_sem, Nat.reduceBEq, Nat.reduceLT, Nat.reduceLeDiff, Nat.reduceAdd, Nat.reduceMul, ↓reduceIte, m1, m2]
              by_cases hu : lowT x.ts i ≤ q.u ∧ q.u ≤ highT x.ts i
              rotate_left
              · refine CallA_pure (RIn_f (by rw [hlow.1, hlow.2] at hu; exact hu)) ?_
                simp -implicitDefEqProofs -proj only [go_sem, Nat.reduceBEq, Nat.reduceLT, Nat.reduceLeDiff, Nat.reduceAdd, Nat.reduceMul, ↓reduceIte]
                exact LendV_eq (by rw [decide_eq_false (fun h => hno (fun k => hu k.2) h.1)])
              refine CallA_pure (RIn_t (by rw [hlow.1, hlow.2] at hu; exact hu)) ?_
              simp -implicitDefEqProofs -proj only [go_sem, Nat.reduceBEq, Nat.reduceLT, Nat.reduceLeDiff, Nat.reduceAdd, Nat.reduceMul, ↓reduceIte]
              refine LoopQ_k (i + 1) ⟨by omega, hgo ⟨hr, hu⟩⟩ (by omega) rfl ?_ (AllH_upd hb6' hk3)
              simp -implicitDefEqProofs -proj only [go_sem, Nat.reduceBEq, Nat.reduceLT, Nat.reduceLeDiff, Nat.reduceAdd, Nat.reduceMul, ↓reduceIte, AllAt, i64_succ (show i < 9223372036854775807 by omega)]
      · have hi' : i = x.ts.length := by omega
        subst hi'
        have hT : tiersOK x.ts := fun j h1 => hs j h1 h1
        simp -implicitDefEqProofs -proj only [go_sem, Nat.reduceBEq, Nat.reduceLT, Nat.reduceLeDiff, Nat.reduceAdd, Nat.reduceMul, ↓reduceIte, decide_eq_false (show ¬ (x.ts.length : Int) < x.ts.length by omega), rowA_len]
        refine LoopA_k (fun i : Nat => i ≤ x.ad.length ∧ ∀ (j : Nat) (h : j < x.ad.length), j < i → adjOK x.ad[j]) 160 (fun i => [(126, slA x.ad), (127, i64 x.ad.length), (128, i64 i)]) (fun _ => []) (fun i => x.ad.length - i) 0 ⟨Nat.zero_le _, fun j _ h => absurd h (Nat.not_lt_zero _)⟩ rfl ?_ ?_ ?_
        · simp -implicitDefEqProofs -proj only [go_sem, Nat.reduceBEq, Nat.reduceLT, Nat.reduceLeDiff, Nat.reduceAdd, Nat.reduceMul, ↓reduceIte, AllAt]
        · simp -implicitDefEqProofs -proj only [go_sem, Nat.reduceBEq, Nat.reduceLT, Nat.reduceLeDiff, Nat.reduceAdd, Nat.reduceMul, ↓reduceIte, AllH]
        · rintro i ⟨hi, hs⟩
          by_cases h : i < x.ad.length
          · have hel := rowA_at h
            have hgo : adjOK x.ad[i] → ∀ (j : Nat) (h : j < x.ad.length), j < i + 1 → adjOK x.ad[j] := by
              intro e j h1 h2
              by_cases hj : j = i
              · subst hj; exact e
              · exact hs j h1 (by omega)
            have hno : ¬ adjOK x.ad[i] → ¬ adjsOK x.ad := fun e k => e (k _ (List.getElem_mem h))
            generalize hq : x.ad[i] = q at *
            unfold adjOK at hgo hno
            simp -implicitDefEqProofs -proj only [go_sem, Nat.reduceBEq, Nat.reduceLT, Nat.reduceLeDiff, Nat.reduceAdd, Nat.reduceMul, ↓reduceIte, decide_eq_true (show (i : Int) < x.ad.length by omega)]
            refine ElemA_at _ (by omega) hel ?_
            simp -implicitDefEqProofs -proj only [go_sem, Nat.reduceBEq, Nat.reduceLT, Nat.reduceLeDiff, Nat.reduceAdd, Nat.reduceMul, ↓reduceIte]
            refine AllocA_intro (fun b10 hb10 => ?_)
            by_cases k1 : q.k = 1
            · simp -implicitDefEqProofs -proj only [go_sem, Nat.reduceBEq, Nat.reduceLT, Nat.reduceLeDiff, Nat.reduceAdd, Nat.reduceMul, ↓reduceIte, decide_eq_true k1]
              by_cases hn : 0 ≤ q.n ∧ q.n ≤ 100000000
              rotate_left
              · refine CallA_pure (RIn_f hn) ?_
                simp -implicitDefEqProofs -proj only [go_sem, Nat.reduceBEq, Nat.reduceLT, Nat.reduceLeDiff, Nat.reduceAdd, Nat.reduceMul, ↓reduceIte]
                exact LendV_eq (by rw [decide_eq_false (fun h => hno (by omega) h.2)])
              refine CallA_pure (RIn_t hn) ?_
              simp -implicitDefEqProofs -proj only [go_sem, Nat.reduceBEq, Nat.reduceLT, Nat.reduceLeDiff, Nat.reduceAdd, Nat.reduceMul, ↓reduceIte]
              by_cases hm : 0 ≤ q.m ∧ q.m ≤ 3
              rotate_left
              · refine CallA_pure (RIn_f hm) ?_
                simp -implicitDefEqProofs -proj only [go_sem, Nat.reduceBEq, Nat.reduceLT, Nat.reduceLeDiff, Nat.reduceAdd, Nat.reduceMul, ↓reduceIte]
                exact LendV_eq (by rw [decide_eq_false (fun h => hno (by omega) h.2)])
              refine CallA_pure (RIn_t hm) ?_
              simp -implicitDefEqProofs -proj only [go_sem, Nat.reduceBEq, Nat.reduceLT, Nat.reduceLeDiff, Nat.reduceAdd, Nat.reduceMul, ↓reduceIte]
              refine LoopQ_k (i + 1) ⟨by omega, hgo (by omega)⟩ (by omega) rfl ?_ trivial
              simp -implicitDefEqProofs -proj only [go_sem, Nat.reduceBEq, Nat.reduceLT, Nat.reduceLeDiff, Nat.reduceAdd, Nat.reduceMul, ↓reduceIte, AllAt, i64_succ (show i < 9223372036854775807 by omega)]
            · by_cases k2 : q.k = 2
              · simp -implicitDefEqProofs -proj only [go_sem, Nat.reduceBEq, Nat.reduceLT, Nat.reduceLeDiff, Nat.reduceAdd, Nat.reduceMul, ↓reduceIte, decide_eq_false k1, decide_eq_true k2]
                by_cases hn : 0 ≤ q.n ∧ q.n ≤ 1000000000000
                rotate_left
                · refine CallA_pure (RIn_f hn) ?_
                  simp -implicitDefEqProofs -proj only [go_sem, Nat.reduceBEq, Nat.reduceLT, Nat.reduceLeDiff, Nat.reduceAdd, Nat.reduceMul, ↓reduceIte]
                  exact LendV_eq (by rw [decide_eq_false (fun h => hno (by omega) h.2)])
                refine CallA_pure (RIn_t hn) ?_
                by_cases hm : q.m = 0
                rotate_left
                · simp -implicitDefEqProofs -proj only [go_sem, Nat.reduceBEq, Nat.reduceLT, Nat.reduceLeDiff, Nat.reduceAdd, Nat.reduceMul, ↓reduceIte, decide_eq_false hm]
                  exact LendV_eq (by rw [decide_eq_false (fun h => hno (by omega) h.2)])
                simp -implicitDefEqProofs -proj only [go_sem, Nat.reduceBEq, Nat.reduceLT, Nat.reduceLeDiff, Nat.reduceAdd, Nat.reduceMul, ↓reduceIte, decide_eq_true hm]
                refine LoopQ_k (i + 1) ⟨by omega, hgo (by omega)⟩ (by omega) rfl ?_ trivial
                simp -implicitDefEqProofs -proj only [go_sem, Nat.reduceBEq, Nat.reduceLT, Nat.reduceLeDiff, Nat.reduceAdd, Nat.reduceMul, ↓reduceIte, AllAt, i64_succ (show i < 9223372036854775807 by omega)]
              · by_cases k3 : q.k = 3
                · simp -implicitDefEqProofs -proj only [go_sem, Nat.reduceBEq, Nat.reduceLT, Nat.reduceLeDiff, Nat.reduceAdd, Nat.reduceMul, ↓reduceIte, decide_eq_false k1, decide_eq_false k2, decide_eq_true k3]
                  by_cases hn : 0 ≤ q.n ∧ q.n ≤ 1000000000000
                  rotate_left
                  · refine CallA_pure (RIn_f hn) ?_
                    simp -implicitDefEqProofs -proj only [go_sem, Nat.reduceBEq, Nat.reduceLT, Nat.reduceLeDiff, Nat.reduceAdd, Nat.reduceMul, ↓reduceIte]
                    exact LendV_eq (by rw [decide_eq_false (fun h => hno (by omega) h.2)])
                  refine CallA_pure (RIn_t hn) ?_
                  by_cases hm : q.m = 0
                  rotate_left
                  · simp -implicitDefEqProofs -proj only [go_sem, Nat.reduceBEq, Nat.reduceLT, Nat.reduceLeDiff, Nat.reduceAdd, Nat.reduceMul, ↓reduceIte, decide_eq_false hm]
                    exact LendV_eq (by rw [decide_eq_false (fun h => hno (by omega) h.2)])
                  simp -implicitDefEqProofs -proj only [go_sem, Nat.reduceBEq, Nat.reduceLT, Nat.reduceLeDiff, Nat.reduceAdd, Nat.reduceMul, ↓reduceIte, decide_eq_true hm]
                  refine LoopQ_k (i + 1) ⟨by omega, hgo (by omega)⟩ (by omega) rfl ?_ trivial
                  simp -implicitDefEqProofs -proj only [go_sem, Nat.reduceBEq, Nat.reduceLT, Nat.reduceLeDiff, Nat.reduceAdd, Nat.reduceMul, ↓reduceIte, AllAt, i64_succ (show i < 9223372036854775807 by omega)]
                · by_cases k4 : q.k = 4
                  · simp -implicitDefEqProofs -proj only [go_sem, Nat.reduceBEq, Nat.reduceLT, Nat.reduceLeDiff, Nat.reduceAdd, Nat.reduceMul, ↓reduceIte, decide_eq_false k1, decide_eq_false k2, decide_eq_false k3, decide_eq_true k4]
                    by_cases hn : 0 ≤ q.n ∧ q.n ≤ 1000000000000
                    rotate_left
                    · refine CallA_pure (RIn_f hn) ?_
                      simp -implicitDefEqProofs -proj only [go_sem, Nat.reduceBEq, Nat.reduceLT, Nat.reduceLeDiff, Nat.reduceAdd, Nat.reduceMul, ↓reduceIte]
                      exact LendV_eq (by rw [decide_eq_false (fun h => hno (by omega) h.2)])
                    refine CallA_pure (RIn_t hn) ?_
                    by_cases hm : q.m = 0
                    rotate_left
                    · simp -implicitDefEqProofs -proj only [go_sem, Nat.reduceBEq, Nat.reduceLT, Nat.reduceLeDiff, Nat.reduceAdd, Nat.reduceMul, ↓reduceIte, decide_eq_false hm]
                      exact LendV_eq (by rw [decide_eq_false (fun h => hno (by omega) h.2)])
                    simp -implicitDefEqProofs -proj only [go_sem, Nat.reduceBEq, Nat.reduceLT, Nat.reduceLeDiff, Nat.reduceAdd, Nat.reduceMul, ↓reduceIte, decide_eq_true hm]
                    refine LoopQ_k (i + 1) ⟨by omega, hgo (by omega)⟩ (by omega) rfl ?_ trivial
                    simp -implicitDefEqProofs -proj only [go_sem, Nat.reduceBEq, Nat.reduceLT, Nat.reduceLeDiff, Nat.reduceAdd, Nat.reduceMul, ↓reduceIte, AllAt, i64_succ (show i < 9223372036854775807 by omega)]
                  · simp -implicitDefEqProofs -proj only [go_sem, Nat.reduceBEq, Nat.reduceLT, Nat.reduceLeDiff, Nat.reduceAdd, Nat.reduceMul, ↓reduceIte, decide_eq_false k1, decide_eq_false k2, decide_eq_false k3, decide_eq_false k4]
                    exact LendV_eq (by rw [decide_eq_false (fun h => hno (by omega) h.2)])
          · have hi' : i = x.ad.length := by omega
            subst hi'
            have hA : adjsOK x.ad := fun a ha => by obtain ⟨j, h1, rfl⟩ := List.getElem_of_mem ha; exact hs j h1 h1
            simp -implicitDefEqProofs -proj only [go_sem, Nat.reduceBEq, Nat.reduceLT, Nat.reduceLeDiff, Nat.reduceAdd, Nat.reduceMul, ↓reduceIte, decide_eq_false (show ¬ (x.ad.length : Int) < x.ad.length by omega)]
            exact LendV_eq (by rw [decide_eq_true ⟨hT, hA⟩])
def nameLt (a b : ByteArray) : Bool := Op.bytesLess a.toList b.toList
def meterOK (ms : List MeterX) (i : Nat) (m : MeterX) : Prop := (0 ≤ m.mx ∧ m.mx ≤ 2000) ∧ m.ln = 0 ∧ m.co = 0 ∧ ∀ p, ms[i - 1]? = some p → 0 < i → nameLt p.nm m.nm = true
def sumOK (f t : Int) (s : SumX) : Prop := (0 ≤ s.a ∧ s.a ≤ 1000000000000) ∧ (f ≤ s.f ∧ s.f ≤ s.t ∧ s.t ≤ t)
def headC (c : CoreX) : Prop := (0 ≤ c.f ∧ c.f ≤ 3652058) ∧ (c.f ≤ c.t ∧ c.t ≤ 3652058) ∧ c.t - c.f ≤ 3999 ∧ c.ms.length ≤ 4 ∧ c.ss.length ≤ 8 ∧ c.ps.length ≤ 8
def metersOK (ms : List MeterX) : Prop := ∀ (i : Nat) (h : i < ms.length), meterOK ms i ms[i]
structure goodC (c : CoreX) : Prop where
  hd : headC c
  ms : metersOK c.ms
  ss : ∀ s ∈ c.ss, sumOK c.f c.t s
  ps : ∀ x ∈ c.ps, partOK c.f c.t c.ms.length x
noncomputable instance (c : CoreX) : Decidable (goodC c) := Classical.propDecidable _
theorem RPart_ok {cur : ByteArray} {f t : Int} {ms ss ps : List (List D)} {x : PartX} : DataW Try.prog f_poundageref10_Part [coreV cur f t ms ss ps, partV x] (bv (decide (partOK f t ms.length x))) := by
  by_cases h : headOK f t ms.length x
  · have := RPart_yes (cur := cur) (ss := ss) (ps := ps) h
    rwa [show decide (tiersOK x.ts ∧ adjsOK x.ad) = decide (partOK f t ms.length x) from decide_eq_decide.2 ⟨fun k => ⟨h, k⟩, fun k => k.2⟩] at this
  · have := RPart_no (cur := cur) (ss := ss) (ps := ps) h
    rwa [show false = decide (partOK f t ms.length x) from (decide_eq_false (fun k => h k.1)).symm] at this
theorem step_all {α : Type} {l : List α} {P : Nat → α → Prop} {i : Nat} {x : α} (hi : l[i]? = some x) (hs : ∀ (j : Nat) (h : j < l.length), j < i → P j l[j]) (hx : P i x) : ∀ (j : Nat) (h : j < l.length), j < i + 1 → P j l[j] := by
  intro j h1 h2
  by_cases hj : j = i
  · subst hj
    rw [List.getElem?_eq_getElem h1] at hi
    cases hi
    exact hx
  · exact hs j h1 (by omega)
set_option maxRecDepth 20000 in
theorem RGood_ok {c : CoreX} (hc : c.Fit) : DataW Try.prog f_poundageref10_Good [coreX c] (bv (decide (goodC c))) := by
  obtain ⟨cur, f, t, ms, ss, ps⟩ := c
  obtain ⟨hff, hft, _, hmn, _, hsn, _, hpn⟩ := hc
  simp -implicitDefEqProofs only [] at hff hft hmn hsn hpn
  have hno : ¬ headC ⟨cur, f, t, ms, ss, ps⟩ → decide (goodC ⟨cur, f, t, ms, ss, ps⟩) = false := fun h => decide_eq_false (fun k => h k.hd)
  unfold headC at hno
  simp -implicitDefEqProofs only [] at hno
  refine CallW_intro comp_poundageref10_Good (by simp) ?_
  simp -implicitDefEqProofs -proj only [go_sem, Nat.reduceBEq, Nat.reduceLT, Nat.reduceLeDiff, Nat.reduceAdd, Nat.reduceMul, ↓reduceIte]
  refine AllocA_intro (fun b1 hb1 => ?_)
  simp -implicitDefEqProofs -proj only [go_sem, Nat.reduceBEq, Nat.reduceLT, Nat.reduceLeDiff, Nat.reduceAdd, Nat.reduceMul, ↓reduceIte]
  by_cases g1 : 0 ≤ f ∧ f ≤ 3652058
  rotate_left
  · refine CallA_pure (RIn_f g1) ?_
    simp -implicitDefEqProofs -proj only [go_sem, Nat.reduceBEq, Nat.reduceLT, Nat.reduceLeDiff, Nat.reduceAdd, Nat.reduceMul, ↓reduceIte]
    exact LendV_eq (by rw [hno (fun k => g1 k.1)])
  refine CallA_pure (RIn_t g1) ?_
  simp -implicitDefEqProofs -proj only [go_sem, Nat.reduceBEq, Nat.reduceLT, Nat.reduceLeDiff, Nat.reduceAdd, Nat.reduceMul, ↓reduceIte]
  by_cases g2 : f ≤ t ∧ t ≤ 3652058
  rotate_left
  · refine CallA_pure (RIn_f g2) ?_
    simp -implicitDefEqProofs -proj only [go_sem, Nat.reduceBEq, Nat.reduceLT, Nat.reduceLeDiff, Nat.reduceAdd, Nat.reduceMul, ↓reduceIte]
    exact LendV_eq (by rw [hno (fun k => g2 k.2.1)])
  refine CallA_pure (RIn_t g2) ?_
  have w1 : IntKind.i64.wrap (t - f) = t - f := by rw [IntKind.wrap_i64]; omega
  by_cases g3 : 3999 < t - f
  · simp -implicitDefEqProofs -proj only [go_sem, Nat.reduceBEq, Nat.reduceLT, Nat.reduceLeDiff, Nat.reduceAdd, Nat.reduceMul, ↓reduceIte, w1, decide_eq_true g3]
    exact LendV_eq (by rw [hno (fun k => by omega)])
  by_cases g4 : 4 < (ms.length : Int)
  · simp -implicitDefEqProofs -proj only [go_sem, Nat.reduceBEq, Nat.reduceLT, Nat.reduceLeDiff, Nat.reduceAdd, Nat.reduceMul, ↓reduceIte, w1, rowM_len, rowS_len, rowP_len, decide_eq_false g3, decide_eq_true g4]
    exact LendV_eq (by rw [hno (fun k => by omega)])
  by_cases g5 : 8 < (ss.length : Int)
  · simp -implicitDefEqProofs -proj only [go_sem, Nat.reduceBEq, Nat.reduceLT, Nat.reduceLeDiff, Nat.reduceAdd, Nat.reduceMul, ↓reduceIte, w1, rowM_len, rowS_len, rowP_len, decide_eq_false g3, decide_eq_false g4, decide_eq_true g5]
    exact LendV_eq (by rw [hno (fun k => by omega)])
  by_cases g6 : 8 < (ps.length : Int)
  · simp -implicitDefEqProofs -proj only [go_sem, Nat.reduceBEq, Nat.reduceLT, Nat.reduceLeDiff, Nat.reduceAdd, Nat.reduceMul, ↓reduceIte, w1, rowM_len, rowS_len, rowP_len, decide_eq_false g3, decide_eq_false g4, decide_eq_false g5, decide_eq_true g6]
    exact LendV_eq (by rw [hno (fun k => by omega)])
  have hhd : headC ⟨cur, f, t, ms, ss, ps⟩ := ⟨g1, g2, show t - f ≤ 3999 by omega, show ms.length ≤ 4 by omega, show ss.length ≤ 8 by omega, show ps.length ≤ 8 by omega⟩
  clear hno
  simp -implicitDefEqProofs -proj only [go_sem, Nat.reduceBEq, Nat.reduceLT, Nat.reduceLeDiff, Nat.reduceAdd, Nat.reduceMul, ↓reduceIte, w1, rowM_len, rowS_len, rowP_len, decide_eq_false g3, decide_eq_false g4, decide_eq_false g5, decide_eq_false g6]
  refine LoopA_k (fun i : Nat => i ≤ ms.length ∧ ∀ (j : Nat) (h : j < ms.length), j < i → meterOK ms j ms[j]) 120 (fun i => [(1, .ptr b1 0), (48, .d (.sl 5 (rowM ms))), (49, i64 ms.length), (50, i64 i)]) (fun _ => [(b1, .box 26 [.d (.str cur), i64 f, i64 t, .d (.sl 5 (rowM ms)), .d (.sl 3 (rowS ss)), .d (.sl 9 (rowP ps))])]) (fun i => ms.length - i) 0 ⟨Nat.zero_le _, fun j _ h => absurd h (Nat.not_lt_zero _)⟩ rfl ?_ ?_ ?_
  · simp -implicitDefEqProofs -proj only [go_sem, Nat.reduceBEq, Nat.reduceLT, Nat.reduceLeDiff, Nat.reduceAdd, Nat.reduceMul, ↓reduceIte, AllAt]
  · simp -implicitDefEqProofs -proj only [go_sem, Nat.reduceBEq, Nat.reduceLT, Nat.reduceLeDiff, Nat.reduceAdd, Nat.reduceMul, ↓reduceIte, AllH]
  · rintro i ⟨hi, hs⟩
    have hk : AllH (keepH [(b1, .box 26 [.d (.str cur), i64 f, i64 t, .d (.sl 5 (rowM ms)), .d (.sl 3 (rowS ss)), .d (.sl 9 (rowP ps))])]) [(b1, .box 26 [.d (.str cur), i64 f, i64 t, .d (.sl 5 (rowM ms)), .d (.sl 3 (rowS ss)), .d (.sl 9 (rowP ps))])] := keepH_all (by simp [keys])
    have k1 := hk.1
    by_cases h : i < ms.length
    · have hel := rowM_at h
      have hno : ¬ meterOK ms i ms[i] → decide (goodC ⟨cur, f, t, ms, ss, ps⟩) = false := fun e => decide_eq_false fun k => e (k.ms i h)
      have hgo : meterOK ms i ms[i] → ∀ (j : Nat) (h : j < ms.length), j < i + 1 → meterOK ms j ms[j] := step_all (List.getElem?_eq_getElem h) hs
      generalize ms[i] = m at *
      unfold meterOK at hno hgo
      simp -implicitDefEqProofs -proj only [go_sem, Nat.reduceBEq, Nat.reduceLT, Nat.reduceLeDiff, Nat.reduceAdd, Nat.reduceMul, ↓reduceIte, decide_eq_true (show (i : Int) < ms.length by omega)]
      refine ElemA_at _ (by omega) hel ?_
      simp -implicitDefEqProofs -proj only [go_sem, Nat.reduceBEq, Nat.reduceLT, Nat.reduceLeDiff, Nat.reduceAdd, Nat.reduceMul, ↓reduceIte]
      refine AllocA_intro (fun b4 hb4 => ?_)
      replace hb4 : keepH [(b1, Blk.box 26 [.d (.str cur), i64 f, i64 t, .d (.sl 5 (rowM ms)), .d (.sl 3 (rowS ss)), .d (.sl 9 (rowP ps))])] b4 = none := hb4
      obtain ⟨n1, n2⟩ := fresh_ne hb4 k1
      simp -implicitDefEqProofs -proj only [go_sem, Nat.reduceBEq, Nat.reduceLT, Nat.reduceLeDiff, Nat.reduceAdd, Nat.reduceMul, ↓reduceIte, n1, n2]
      by_cases c1 : 0 ≤ m.mx ∧ m.mx ≤ 2000
      rotate_left
      · refine CallA_pure (RIn_f c1) ?_
        simp -implicitDefEqProofs -proj only [go_sem, Nat.reduceBEq, Nat.reduceLT, Nat.reduceLeDiff, Nat.reduceAdd, Nat.reduceMul, ↓reduceIte]
        exact LendV_eq (by rw [hno (fun k => c1 k.1)])
      refine CallA_pure (RIn_t c1) ?_
      by_cases c2 : m.ln = 0
      rotate_left
      · simp -implicitDefEqProofs -proj only [go_sem, Nat.reduceBEq, Nat.reduceLT, Nat.reduceLeDiff, Nat.reduceAdd, Nat.reduceMul, ↓reduceIte, n1, n2, decide_eq_false c2]
        exact LendV_eq (by rw [hno (fun k => c2 k.2.1)])
      by_cases c3 : m.co = 0
      rotate_left
      · simp -implicitDefEqProofs -proj only [go_sem, Nat.reduceBEq, Nat.reduceLT, Nat.reduceLeDiff, Nat.reduceAdd, Nat.reduceMul, ↓reduceIte, n1, n2, decide_eq_true c2, decide_eq_false c3]
        exact LendV_eq (by rw [hno (fun k => c3 k.2.2.1)])
      by_cases c4 : i = 0
      · simp -implicitDefEqProofs -proj only [go_sem, Nat.reduceBEq, Nat.reduceLT, Nat.reduceLeDiff, Nat.reduceAdd, Nat.reduceMul, ↓reduceIte, n1, n2, decide_eq_true c2, decide_eq_true c3, decide_eq_false (show ¬ 0 < (i : Int) by omega)]
        refine LoopQ_k (i + 1) ⟨by omega, hgo ⟨c1, c2, c3, fun p _ h => absurd h (by omega)⟩⟩ (by show ms.length - (i + 1) < ms.length - i; omega) rfl ?_ (AllH_upd hb4 hk)
        simp -implicitDefEqProofs -proj only [go_sem, Nat.reduceBEq, Nat.reduceLT, Nat.reduceLeDiff, Nat.reduceAdd, Nat.reduceMul, ↓reduceIte, AllAt, i64_succ (show i < 9223372036854775807 by omega)]
      · have hw : IntKind.i64.wrap ((i : Int) - 1) = ((i - 1 : Nat) : Int) := by rw [IntKind.wrap_i64]; omega
        have hip : i - 1 < ms.length := by omega
        have hel2 := rowM_at hip
        have hpe : ms[i - 1]? = some ms[i - 1] := List.getElem?_eq_getElem hip
        generalize ms[i - 1] = p at *
        simp -implicitDefEqProofs -proj only [go_sem, Nat.reduceBEq, Nat.reduceLT, Nat.reduceLeDiff, Nat.reduceAdd, Nat.reduceMul, ↓reduceIte, n1, n2, k1, hw, decide_eq_true c2, decide_eq_true c3, decide_eq_true (show 0 < (i : Int) by omega)]
        refine ElemA_at _ (by omega) hel2 ?_
        by_cases c5 : nameLt p.nm m.nm = true
        · have c5' : Op.bytesLess p.nm.toList m.nm.toList = true := c5
          simp -implicitDefEqProofs -proj only [go_sem, Nat.reduceBEq, Nat.reduceLT, Nat.reduceLeDiff, Nat.reduceAdd, Nat.reduceMul, ↓reduceIte, n1, n2, Bin_slss, c5']
          refine LoopQ_k (i + 1) ⟨by omega, hgo ⟨c1, c2, c3, fun q hq _ => by rw [hpe] at hq; cases hq; exact c5⟩⟩ (by show ms.length - (i + 1) < ms.length - i; omega) rfl ?_ (AllH_upd hb4 hk)
          simp -implicitDefEqProofs -proj only [go_sem, Nat.reduceBEq, Nat.reduceLT, Nat.reduceLeDiff, Nat.reduceAdd, Nat.reduceMul, ↓reduceIte, AllAt, i64_succ (show i < 9223372036854775807 by omega)]
        · have c5' : Op.bytesLess p.nm.toList m.nm.toList = false := by simpa [nameLt] using c5
          simp -implicitDefEqProofs -proj only [go_sem, Nat.reduceBEq, Nat.reduceLT, Nat.reduceLeDiff, Nat.reduceAdd, Nat.reduceMul, ↓reduceIte, n1, n2, Bin_slss, c5']
          exact LendV_eq (by rw [hno (fun k => c5 (k.2.2.2 p hpe (by omega)))])
    · have hi' : i = ms.length := by omega
      subst hi'
      simp -implicitDefEqProofs -proj only [go_sem, Nat.reduceBEq, Nat.reduceLT, Nat.reduceLeDiff, Nat.reduceAdd, Nat.reduceMul, ↓reduceIte, k1, rowS_len, decide_eq_false (show ¬ (ms.length : Int) < ms.length by omega)]
      refine LoopA_k (fun i : Nat => i ≤ ss.length ∧ ∀ (j : Nat) (h : j < ss.length), j < i → sumOK f t ss[j]) 120 (fun i => [(1, .ptr b1 0), (88, .d (.sl 3 (rowS ss))), (89, i64 ss.length), (90, i64 i)]) (fun _ => [(b1, .box 26 [.d (.str cur), i64 f, i64 t, .d (.sl 5 (rowM ms)), .d (.sl 3 (rowS ss)), .d (.sl 9 (rowP ps))])]) (fun i => ss.length - i) 0 ⟨Nat.zero_le _, fun j _ h => absurd h (Nat.not_lt_zero _)⟩ rfl ?_ ?_ ?_
      · simp -implicitDefEqProofs -proj only [go_sem, Nat.reduceBEq, Nat.reduceLT, Nat.reduceLeDiff, Nat.reduceAdd, Nat.reduceMul, ↓reduceIte, AllAt]
      · exact hk
      · rintro i ⟨hi2, hs2⟩
        by_cases h2 : i < ss.length
        · have hel := rowS_at h2
          have hno : ¬ sumOK f t ss[i] → decide (goodC ⟨cur, f, t, ms, ss, ps⟩) = false := fun e => decide_eq_false fun k => e (k.ss _ (List.getElem_mem h2))
          have hgo : sumOK f t ss[i] → ∀ (j : Nat) (h : j < ss.length), j < i + 1 → sumOK f t ss[j] := step_all (P := fun _ x => sumOK f t x) (List.getElem?_eq_getElem h2) hs2
          generalize ss[i] = x at *
          unfold sumOK at hno hgo
          simp -implicitDefEqProofs -proj only [go_sem, Nat.reduceBEq, Nat.reduceLT, Nat.reduceLeDiff, Nat.reduceAdd, Nat.reduceMul, ↓reduceIte, decide_eq_true (show (i : Int) < ss.length by omega)]
          refine ElemA_at _ (by omega) hel ?_
          simp -implicitDefEqProofs -proj only [go_sem, Nat.reduceBEq, Nat.reduceLT, Nat.reduceLeDiff, Nat.reduceAdd, Nat.reduceMul, ↓reduceIte]
          refine AllocA_intro (fun b4 hb4 => ?_)
          replace hb4 : keepH [(b1, Blk.box 26 [.d (.str cur), i64 f, i64 t, .d (.sl 5 (rowM ms)), .d (.sl 3 (rowS ss)), .d (.sl 9 (rowP ps))])] b4 = none := hb4
          obtain ⟨n1, n2⟩ := fresh_ne hb4 k1
          simp -implicitDefEqProofs -proj only [go_sem, Nat.reduceBEq, Nat.reduceLT, Nat.reduceLeDiff, Nat.reduceAdd, Nat.reduceMul, ↓reduceIte, n1, n2]
          by_cases c1 : 0 ≤ x.a ∧ x.a ≤ 1000000000000
          rotate_left
          · refine CallA_pure (RIn_f c1) ?_
            simp -implicitDefEqProofs -proj only [go_sem, Nat.reduceBEq, Nat.reduceLT, Nat.reduceLeDiff, Nat.reduceAdd, Nat.reduceMul, ↓reduceIte]
            exact LendV_eq (by rw [hno (fun k => c1 k.1)])
          refine CallA_pure (RIn_t c1) ?_
          simp -implicitDefEqProofs -proj only [go_sem, Nat.reduceBEq, Nat.reduceLT, Nat.reduceLeDiff, Nat.reduceAdd, Nat.reduceMul, ↓reduceIte, n1, n2, k1]
          refine CallA_pure RSpan_ok ?_
          by_cases c2 : f ≤ x.f ∧ x.f ≤ x.t ∧ x.t ≤ t
          rotate_left
          · simp -implicitDefEqProofs -proj only [go_sem, Nat.reduceBEq, Nat.reduceLT, Nat.reduceLeDiff, Nat.reduceAdd, Nat.reduceMul, ↓reduceIte, n1, n2, decide_eq_false c2]
            exact LendV_eq (by rw [hno (fun k => c2 k.2)])
          simp -implicitDefEqProofs -proj only [go_sem, Nat.reduceBEq, Nat.reduceLT, Nat.reduceLeDiff, Nat.reduceAdd, Nat.reduceMul, ↓reduceIte, n1, n2, decide_eq_true c2]
          refine LoopQ_k (i + 1) ⟨by omega, hgo ⟨c1, c2⟩⟩ (by show ss.length - (i + 1) < ss.length - i; omega) rfl ?_ (AllH_upd hb4 hk)
          simp -implicitDefEqProofs -proj only [go_sem, Nat.reduceBEq, Nat.reduceLT, Nat.reduceLeDiff, Nat.reduceAdd, Nat.reduceMul, ↓reduceIte, AllAt, i64_succ (show i < 9223372036854775807 by omega)]
        · have hi3 : i = ss.length := by omega
          subst hi3
          simp -implicitDefEqProofs -proj only [go_sem, Nat.reduceBEq, Nat.reduceLT, Nat.reduceLeDiff, Nat.reduceAdd, Nat.reduceMul, ↓reduceIte, k1, rowP_len, decide_eq_false (show ¬ (ss.length : Int) < ss.length by omega)]
          refine LoopA_k (fun i : Nat => i ≤ ps.length ∧ ∀ (j : Nat) (h : j < ps.length), j < i → partOK f t ms.length ps[j]) 120 (fun i => [(1, .ptr b1 0), (109, .d (.sl 9 (rowP ps))), (110, i64 ps.length), (111, i64 i)]) (fun _ => [(b1, .box 26 [.d (.str cur), i64 f, i64 t, .d (.sl 5 (rowM ms)), .d (.sl 3 (rowS ss)), .d (.sl 9 (rowP ps))])]) (fun i => ps.length - i) 0 ⟨Nat.zero_le _, fun j _ h => absurd h (Nat.not_lt_zero _)⟩ rfl ?_ ?_ ?_
          · simp -implicitDefEqProofs -proj only [go_sem, Nat.reduceBEq, Nat.reduceLT, Nat.reduceLeDiff, Nat.reduceAdd, Nat.reduceMul, ↓reduceIte, AllAt]
          · exact hk
          · rintro i ⟨hi4, hs4⟩
            by_cases h4 : i < ps.length
            · have hel := rowP_at h4
              have hno : ¬ partOK f t ms.length ps[i] → decide (goodC ⟨cur, f, t, ms, ss, ps⟩) = false := fun e => decide_eq_false fun k => e (k.ps _ (List.getElem_mem h4))
              have hgo : partOK f t ms.length ps[i] → ∀ (j : Nat) (h : j < ps.length), j < i + 1 → partOK f t ms.length ps[j] := step_all (P := fun _ x => partOK f t ms.length x) (List.getElem?_eq_getElem h4) hs4
              generalize ps[i] = x at *
              have hcall := RPart_ok (cur := cur) (f := f) (t := t) (ms := rowM ms) (ss := rowS ss) (ps := rowP ps) (x := x)
              rw [rowM_len] at hcall
              simp -implicitDefEqProofs -proj only [go_sem, Nat.reduceBEq, Nat.reduceLT, Nat.reduceLeDiff, Nat.reduceAdd, Nat.reduceMul, ↓reduceIte, decide_eq_true (show (i : Int) < ps.length by omega)]
              refine ElemA_at _ (by omega) hel ?_
              simp -implicitDefEqProofs -proj only [go_sem, Nat.reduceBEq, Nat.reduceLT, Nat.reduceLeDiff, Nat.reduceAdd, Nat.reduceMul, ↓reduceIte]
              refine AllocA_intro (fun b4 hb4 => ?_)
              replace hb4 : keepH [(b1, Blk.box 26 [.d (.str cur), i64 f, i64 t, .d (.sl 5 (rowM ms)), .d (.sl 3 (rowS ss)), .d (.sl 9 (rowP ps))])] b4 = none := hb4
              obtain ⟨n1, n2⟩ := fresh_ne hb4 k1
              simp -implicitDefEqProofs -proj only [go_sem, Nat.reduceBEq, Nat.reduceLT, Nat.reduceLeDiff, Nat.reduceAdd, Nat.reduceMul, ↓reduceIte, n1, n2, k1]
              refine CallA_pure hcall ?_
              by_cases c1 : partOK f t ms.length x
              rotate_left
              · simp -implicitDefEqProofs -proj only [go_sem, Nat.reduceBEq, Nat.reduceLT, Nat.reduceLeDiff, Nat.reduceAdd, Nat.reduceMul, ↓reduceIte, decide_eq_false c1]
                exact LendV_eq (by rw [hno c1])
              simp -implicitDefEqProofs -proj only [go_sem, Nat.reduceBEq, Nat.reduceLT, Nat.reduceLeDiff, Nat.reduceAdd, Nat.reduceMul, ↓reduceIte, n1, n2, decide_eq_true c1]
              refine LoopQ_k (i + 1) ⟨by omega, hgo c1⟩ (by show ps.length - (i + 1) < ps.length - i; omega) rfl ?_ (AllH_upd hb4 hk)
              simp -implicitDefEqProofs -proj only [go_sem, Nat.reduceBEq, Nat.reduceLT, Nat.reduceLeDiff, Nat.reduceAdd, Nat.reduceMul, ↓reduceIte, AllAt, i64_succ (show i < 9223372036854775807 by omega)]
            · have hi5 : i = ps.length := by omega
              subst hi5
              have hfin : goodC ⟨cur, f, t, ms, ss, ps⟩ := ⟨hhd, fun j h => hs j h h, fun s hm => by obtain ⟨j, hj, rfl⟩ := List.getElem_of_mem hm; exact hs2 j hj hj, fun s hm => by obtain ⟨j, hj, rfl⟩ := List.getElem_of_mem hm; exact hs4 j hj hj⟩
              simp -implicitDefEqProofs -proj only [go_sem, Nat.reduceBEq, Nat.reduceLT, Nat.reduceLeDiff, Nat.reduceAdd, Nat.reduceMul, ↓reduceIte, decide_eq_false (show ¬ (ps.length : Int) < ps.length by omega)]
              exact LendV_eq (by rw [decide_eq_true hfin])
/-- A step: from a quantity to another one, at a rate. -/
structure TStep where
  f : Int
  t : Int
  r : Int
abbrev TStep.av (s : TStep) : AV := .agg [i64 s.f, i64 s.t, i64 s.r]
def TStep.el (s : TStep) : List D := [.int .i64 s.f, .int .i64 s.t, .int .i64 s.r]
def rowS3 (l : List TStep) : List (List D) := l.map TStep.el
theorem rowS3_len {l : List TStep} : (rowS3 l).length = l.length := List.length_map ..
abbrev slS3 (l : List TStep) : AV := .d (.sl 3 (rowS3 l))
/-- The steps by the first so many tiers, and how far they reach. -/
def toG (T : List Tier) (q : Int) (i : Nat) (t : Tier) : Int := if i + 1 < T.length then min q t.u else q
def gradN (T : List Tier) (q : Int) : Nat → Int × List TStep
  | 0 => (0, [])
  | i + 1 => match T[i]? with
    | some t => (max (gradN T q i).1 (toG T q i t), if (gradN T q i).1 < toG T q i t then (gradN T q i).2 ++ [⟨(gradN T q i).1, toG T q i t, t.r⟩] else (gradN T q i).2)
    | none => gradN T q i
def gradL (T : List Tier) (q : Int) : List TStep := (gradN T q T.length).2
/-- The tier in which a quantity lies. -/
def volI (T : List Tier) (q : Int) : Nat → List TStep
  | 0 => []
  | n + 1 => match T[T.length - (n + 1)]? with
    | some t => if n = 0 ∨ q ≤ t.u then (if 0 < q then [⟨0, q, t.r⟩] else []) else volI T q n
    | none => []
def volL (T : List Tier) (q : Int) : List TStep := volI T q T.length
/-- The steps of a quantity that is left. -/
def stepsL (x : PartX) (q : Int) : List TStep := if x.ki = 2 then volL x.ts q else gradL x.ts q
/-- What steps come to; none: beyond 64 bits. -/
def addS (s : TStep) (a : Int) : Option Int := if Fit (s.r * (s.t - s.f)) ∧ Fit (a + s.r * (s.t - s.f)) then some (a + s.r * (s.t - s.f)) else none
def sumS : List TStep → Int → Option Int
  | [], a => some a
  | s :: l, a => match addS s a with
    | some b => sumS l b
    | none => none
def StepFit (s : TStep) : Prop := Fit s.f ∧ Fit s.t ∧ Fit s.r ∧ Fit (s.t - s.f)
theorem sumS_fit {l : List TStep} {a b : Int} (h : sumS l a = some b) (ha : Fit a) : Fit b := by
  induction l generalizing a with
  | nil => cases h; exact ha
  | cons s l ih =>
    simp -implicitDefEqProofs only [sumS] at h
    cases hs : addS s a with
    | none => rw [hs] at h; cases h
    | some c =>
      rw [hs] at h
      refine ih h ?_
      unfold addS at hs
      split at hs
      · next hc => cases hs; exact hc.2
      · cases hs
def microO (x : PartX) (q : Int) : Option Int := if q < 0 then none else if Fit (rnd (max (q - x.al) 0) x.bl 1 * x.bl) then sumS (stepsL x (rnd (max (q - x.al) 0) x.bl 1 * x.bl)) 0 else none
theorem micro_fit {x : PartX} {q n : Int} (h : microO x q = some n) : Fit n := by
  unfold microO at h
  split at h
  · cases h
  · split at h
    · exact sumS_fit h (by decide)
    · cases h
def chargeO (x : PartX) (q : Int) : Option Int := match microO x q with
  | some n => mdO n 1000000 x.mo
  | none => none
def uAt (T : List Tier) (i : Nat) : Int := match T[i]? with
  | some t => t.u
  | none => 0
def rAt (T : List Tier) (i : Nat) : Int := match T[i]? with
  | some t => t.r
  | none => 0
theorem uAt_eq {T : List Tier} {i : Nat} (h : i < T.length) : uAt T i = T[i].u := by simp [uAt, h]
theorem rAt_eq {T : List Tier} {i : Nat} (h : i < T.length) : rAt T i = T[i].r := by simp [rAt, h]
def lowR (T : List Tier) (i : Nat) : Int := if i = 0 then 0 else uAt T (i - 1)
def hiR (T : List Tier) (q : Int) (i : Nat) : Int := if i + 1 < T.length ∧ uAt T i < q then uAt T i else q
def refN (T : List Tier) (q : Int) : Nat → List TStep
  | 0 => []
  | i + 1 => if lowR T i < hiR T q i then refN T q i ++ [⟨lowR T i, hiR T q i, rAt T i⟩] else refN T q i
def refL (T : List Tier) (q : Int) : List TStep := refN T q T.length
/-- Tiers in order. -/
structure Srt (T : List Tier) : Prop where
  up : ∀ i, i + 1 < T.length → lowR T i < uAt T i ∧ uAt T i ≤ 1000000
  low : ∀ i, i < T.length → 0 ≤ lowR T i ∧ lowR T i ≤ 1000000
  rate : ∀ i, i < T.length → 0 ≤ rAt T i ∧ rAt T i ≤ 1000000000000
theorem srt_of {T : List Tier} (h : tiersOK T) : Srt T := by
  have h1 : ∀ i, i + 1 < T.length → 1 ≤ uAt T i ∧ uAt T i ≤ 1000000 := by
    intro i hi
    have hh := (h i (by omega)).2
    have hne : ¬ i + 1 = T.length := by omega
    rw [uAt_eq (by omega)]
    have h2 : highT T i = 1000000 := if_neg hne
    have h3 : 1 ≤ lowT T i := by
      unfold lowT
      rw [if_neg hne]
      split
      · split <;> omega
      · omega
    omega
  have h2 : ∀ i, i < T.length → 0 ≤ lowR T i ∧ lowR T i ≤ 1000000 := by
    intro i hi
    unfold lowR
    split
    · omega
    · have := h1 (i - 1) (by omega)
      omega
  refine ⟨fun i hi => ⟨?_, (h1 i hi).2⟩, h2, fun i hi => ?_⟩
  · unfold lowR
    split
    · have := h1 i hi; omega
    · next h0 =>
      have g1 := h1 (i - 1) (by omega)
      have hh := (h i (by omega)).2.1
      rw [uAt_eq (by omega)] at g1
      obtain ⟨e1, e2⟩ := tlow_mid (T := T) (i := i) (by omega) (by omega) (by omega) g1.1
      rw [e1] at hh
      rw [uAt_eq (by omega), uAt_eq (by omega)]
      omega
  · have := (h i hi).1
    rw [rAt_eq hi]
    exact this
theorem gradN_ref {T : List Tier} {q : Int} (hS : Srt T) : ∀ i, i ≤ T.length → (gradN T q i).2 = refN T q i ∧ (i < T.length → (gradN T q i).1 = max 0 (min q (lowR T i))) ∧ (i = T.length → 0 < i → (gradN T q i).1 = max 0 q)
  | 0, _ => ⟨rfl, fun _ => by simp [gradN, lowR]; omega, fun _ h => absurd h (Nat.lt_irrefl _)⟩
  | i + 1, hi => by
    obtain ⟨g1, g2, _⟩ := gradN_ref hS i (by omega) (q := q)
    have hlt : i < T.length := by omega
    have hf := g2 hlt
    have hl := hS.low i hlt
    have ht : toG T q i T[i] = if i + 1 < T.length then min q (uAt T i) else q := by rw [uAt_eq hlt]; rfl
    have hlow : lowR T (i + 1) = uAt T i := by simp [lowR]
    rw [gradN, List.getElem?_eq_getElem hlt, refN, rAt_eq hlt]
    simp -implicitDefEqProofs only []
    rw [hf, ht, g1, hlow]
    unfold hiR
    by_cases h : i + 1 < T.length
    · obtain ⟨u1, u2⟩ := hS.up i h
      rw [if_pos h]
      refine ⟨?_, fun _ => by omega, fun e => by omega⟩
      by_cases hq : lowR T i < q
      · rw [if_pos (by omega), if_pos (by split <;> omega)]
        congr 3
        · omega
        · split <;> omega
      · rw [if_neg (by omega), if_neg (by split <;> omega)]
    · rw [if_neg h]
      refine ⟨?_, fun e => absurd e h, fun _ _ => by omega⟩
      by_cases hq : lowR T i < q
      · rw [if_pos (by omega), if_pos (by split <;> omega)]
        congr 3
        · omega
        · split <;> omega
      · rw [if_neg (by omega), if_neg (by split <;> omega)]
theorem gradL_ref {T : List Tier} {q : Int} (hS : Srt T) : gradL T q = refL T q := (gradN_ref hS T.length (Nat.le_refl _)).1
/-- What steps come to. -/
def tot : List TStep → Int
  | [] => 0
  | s :: l => s.r * (s.t - s.f) + tot l
theorem tot_app {l m : List TStep} : tot (l ++ m) = tot l + tot m := by
  induction l with
  | nil => simp [tot]
  | cons s l ih => simp -implicitDefEqProofs only [List.cons_append, tot, ih]; omega
def StepNN (s : TStep) : Prop := 0 ≤ s.r ∧ s.f ≤ s.t
theorem tot_nn {l : List TStep} (h : ∀ s ∈ l, StepNN s) : 0 ≤ tot l := by
  induction l with
  | nil => exact Int.le_refl _
  | cons s l ih =>
    obtain ⟨h1, h2⟩ := h s (List.mem_cons_self ..)
    have := Int.mul_nonneg h1 (show 0 ≤ s.t - s.f by omega)
    have := ih fun s' h' => h s' (List.mem_cons_of_mem _ h')
    simp -implicitDefEqProofs only [tot]
    omega
theorem sumS_tot {l : List TStep} : ∀ {a : Int}, (∀ s ∈ l, StepNN s) → 0 ≤ a → a ≤ 9223372036854775807 → sumS l a = if a + tot l ≤ 9223372036854775807 then some (a + tot l) else none := by
  induction l with
  | nil => intro a _ h0 h1; simp -implicitDefEqProofs only [sumS, tot, Int.add_zero]; rw [if_pos h1]
  | cons s l ih =>
    intro a h h0 h1
    obtain ⟨g1, g2⟩ := h s (List.mem_cons_self ..)
    have hp := Int.mul_nonneg g1 (show 0 ≤ s.t - s.f by omega)
    have hl := fun s' h' => h s' (List.mem_cons_of_mem s h')
    have ht := tot_nn hl
    simp -implicitDefEqProofs only [sumS, addS]
    rw [show a + tot (s :: l) = a + s.r * (s.t - s.f) + tot l by simp -implicitDefEqProofs only [tot]; omega]
    by_cases hc : a + s.r * (s.t - s.f) ≤ 9223372036854775807
    · rw [if_pos (by unfold Fit; omega)]
      exact ih hl (by omega) hc
    · rw [if_neg (by unfold Fit; omega), if_neg (by omega)]
def gsum (T : List Tier) (q : Int) : Nat → Int
  | 0 => 0
  | i + 1 => gsum T q i + rAt T i * max 0 (hiR T q i - lowR T i)
theorem tot_ref {T : List Tier} {q : Int} : ∀ i, tot (refN T q i) = gsum T q i
  | 0 => rfl
  | i + 1 => by
    rw [refN, gsum, ← tot_ref i]
    split
    · rw [tot_app]
      simp -implicitDefEqProofs only [tot]
      rw [show max 0 (hiR T q i - lowR T i) = hiR T q i - lowR T i by omega]
      omega
    · rw [show max 0 (hiR T q i - lowR T i) = 0 by omega, Int.mul_zero, Int.add_zero]
theorem gsum_mono {T : List Tier} {q q' : Int} (hS : Srt T) (h : q ≤ q') : ∀ i, i ≤ T.length → gsum T q i ≤ gsum T q' i
  | 0, _ => Int.le_refl _
  | i + 1, hi => by
    have ih := gsum_mono hS h i (by omega)
    have hr := hS.rate i (by omega)
    have : rAt T i * max 0 (hiR T q i - lowR T i) ≤ rAt T i * max 0 (hiR T q' i - lowR T i) := by
      refine Int.mul_le_mul_of_nonneg_left ?_ hr.1
      have : hiR T q i ≤ hiR T q' i := by unfold hiR; split <;> split <;> omega
      omega
    rw [gsum, gsum]
    omega
theorem ref_nn {T : List Tier} {q : Int} (hS : Srt T) : ∀ i, i ≤ T.length → ∀ s ∈ refN T q i, 0 ≤ s.r ∧ s.r ≤ 1000000000000 ∧ 0 ≤ s.f ∧ s.f < s.t ∧ s.t ≤ q
  | 0, _, s, h => by cases h
  | i + 1, hi, s, h => by
    rw [refN] at h
    split at h
    · next hc =>
      rcases List.mem_append.1 h with h | h
      · exact ref_nn hS i (by omega) s h
      · simp -implicitDefEqProofs only [List.mem_singleton] at h
        subst h
        have h1 := hS.rate i (by omega)
        have h2 := hS.low i (by omega)
        refine ⟨h1.1, h1.2, h2.1, hc, ?_⟩
        show hiR T q i ≤ q
        unfold hiR
        split <;> omega
    · exact ref_nn hS i (by omega) s h
theorem volI_mem {T : List Tier} {q : Int} (hr : ∀ i, i < T.length → 0 ≤ rAt T i ∧ rAt T i ≤ 1000000000000) : ∀ n, n ≤ T.length → ∀ s ∈ volI T q n, 0 ≤ s.r ∧ s.r ≤ 1000000000000 ∧ s.f = 0 ∧ 0 < s.t ∧ s.t = q
  | 0, _, s, h => by cases h
  | n + 1, hn, s, h => by
    have hlt : T.length - (n + 1) < T.length := by omega
    rw [volI, List.getElem?_eq_getElem hlt] at h
    simp -implicitDefEqProofs only [] at h
    split at h
    · split at h
      · next hq =>
        simp -implicitDefEqProofs only [List.mem_singleton] at h
        subst h
        have := hr _ hlt
        rw [rAt_eq hlt] at this
        exact ⟨this.1, this.2, rfl, hq, rfl⟩
      · cases h
    · exact volI_mem hr n (by omega) s h
/-- A part that can be. -/
structure GoodX (x : PartX) : Prop where
  al : 0 ≤ x.al ∧ x.al ≤ 1000000
  bl : 1 ≤ x.bl ∧ x.bl ≤ 1000000
  ki : x.ki = 1 ∨ x.ki = 2
  mo : 0 ≤ x.mo ∧ x.mo ≤ 3
  tn : 1 ≤ x.ts.length ∧ x.ts.length ≤ 8
  an : x.ad.length ≤ 6
  ts : tiersOK x.ts
  ad : adjsOK x.ad
theorem steps_mem {x : PartX} {q : Int} (h : Srt x.ts) : ∀ s ∈ stepsL x q, 0 ≤ s.r ∧ s.r ≤ 1000000000000 ∧ 0 ≤ s.f ∧ s.f < s.t ∧ s.t ≤ q := by
  intro s hs
  unfold stepsL at hs
  split at hs
  · obtain ⟨h1, h2, h3, h4, h5⟩ := volI_mem (h.rate) _ (Nat.le_refl _) s hs
    exact ⟨h1, h2, by omega, by omega, by omega⟩
  · rw [gradL_ref h] at hs
    exact ref_nn h _ (Nat.le_refl _) s hs
theorem steps_fit {x : PartX} {n : Int} (h : Srt x.ts) (hn : Fit n) : ∀ s ∈ stepsL x n, StepFit s := by
  intro s hs
  have := steps_mem h s hs
  unfold Fit at hn
  unfold StepFit Fit
  omega
theorem steps_nn {x : PartX} {n : Int} (h : Srt x.ts) : ∀ s ∈ stepsL x n, StepNN s := by
  intro s hs
  have := steps_mem h s hs
  unfold StepNN
  omega
/-- What is left of a quantity. -/
def leftI (x : PartX) (q : Int) : Int := rnd (max (q - x.al) 0) x.bl 1 * x.bl
theorem micro_eq {x : PartX} {q : Int} (h : Srt x.ts) : microO x q = if q < 0 then none else if Fit (leftI x q) then (if tot (stepsL x (leftI x q)) ≤ 9223372036854775807 then some (tot (stepsL x (leftI x q))) else none) else none := by
  unfold microO leftI
  split
  · rfl
  · split
    · rw [sumS_tot (steps_nn h) (by decide) (by decide), Int.zero_add]
    · rfl
section
def mag (s : Bool) (m : Int) : AV := .agg [bv s, u64 (m / 18446744073709551616), u64 (m % 18446744073709551616)]
def Big (m : Int) : Prop := 0 ≤ m ∧ m < 340282366920938463463374607431768211456
def wide (n : Int) : AV := mag (n < 0) n.natAbs
attribute [local go_sem] mag wide
theorem wU (n : Int) : IntKind.u64.wrap n = n % 18446744073709551616 := IntKind.wrap_u64 n
theorem RZero_ok {s : Bool} {m : Int} (h : Big m) : DataW Try.prog f_poundageref01_Zero [mag s m] (bv (m = 0)) := by
  refine CallW_intro comp_poundageref01_Zero (by simp) ?_
  simp -implicitDefEqProofs -proj only [go_sem, Nat.reduceBEq, Nat.reduceLT, Nat.reduceLeDiff, Nat.reduceAdd, Nat.reduceMul, ↓reduceIte]
  (repeat' first
    | (with_reducible refine Guard_split (fun h => ?_) (fun h => ?_) <;> (simp -implicitDefEqProofs -proj only [go_sem, Nat.reduceBEq, Nat.reduceLT, Nat.reduceLeDiff, Nat.reduceAdd, Nat.reduceMul, ↓reduceIte, *]; try (revert h; intro _)))
    | (with_reducible refine Cond_split (fun h => ?_) (fun h => ?_) <;> (simp -implicitDefEqProofs -proj only [go_sem, Nat.reduceBEq, Nat.reduceLT, Nat.reduceLeDiff, Nat.reduceAdd, Nat.reduceMul, ↓reduceIte, *]; try (revert h; intro _)))
    | (with_reducible refine Pick_split (fun h => ?_) (fun h => ?_) <;> (simp -implicitDefEqProofs -proj only [go_sem, Nat.reduceBEq, Nat.reduceLT, Nat.reduceLeDiff, Nat.reduceAdd, Nat.reduceMul, ↓reduceIte, *]; try (revert h; intro _)))
    | (with_reducible refine AllocA_intro (fun _ hb => ?_); simp only [upd_none, keepH_none, keepH_nil, Heap.none_get, and_true, true_and] at hb; simp -implicitDefEqProofs -proj only [go_sem, Nat.reduceBEq, Nat.reduceLT, Nat.reduceLeDiff, Nat.reduceAdd, Nat.reduceMul, ↓reduceIte, *]; try (revert hb; intro _))
    | (with_reducible refine AllocR_intro (fun _ hb => ?_); simp only [upd_none, keepH_none, keepH_nil, Heap.none_get, and_true, true_and] at hb; simp -implicitDefEqProofs -proj only [go_sem, Nat.reduceBEq, Nat.reduceLT, Nat.reduceLeDiff, Nat.reduceAdd, Nat.reduceMul, ↓reduceIte, *]; try (revert hb; intro _))
    | (with_reducible refine IdxE_1 _ rfl (by simp) ?_; simp -implicitDefEqProofs -proj only [go_sem, Nat.reduceBEq, Nat.reduceLT, Nat.reduceLeDiff, Nat.reduceAdd, Nat.reduceMul, ↓reduceIte, *])
    | (with_reducible refine IdxE_n _ rfl (by simp) ?_; simp -implicitDefEqProofs -proj only [go_sem, Nat.reduceBEq, Nat.reduceLT, Nat.reduceLeDiff, Nat.reduceAdd, Nat.reduceMul, ↓reduceIte, *])
    | (with_reducible refine VC_intro ?_ (fun h => ?_); (focus first | decide | omega); try clear h; try simp -implicitDefEqProofs -proj only [go_sem, Nat.reduceBEq, Nat.reduceLT, Nat.reduceLeDiff, Nat.reduceAdd, Nat.reduceMul, ↓reduceIte, *])
    | (with_reducible refine VC_intro ?_ (fun h => ?_); rotate_left; try clear h; try simp -implicitDefEqProofs -proj only [go_sem, Nat.reduceBEq, Nat.reduceLT, Nat.reduceLeDiff, Nat.reduceAdd, Nat.reduceMul, ↓reduceIte, *]; rotate_right))
  all_goals
    refine LendV_eq ?_
    simp -implicitDefEqProofs only [decide_eq_true_eq, decide_eq_false_iff_not, Bool.not_eq_true', Bool.not_eq_false', Bool.and_eq_true, Bool.and_eq_false_iff, Bool.or_eq_true, Bool.or_eq_false_iff, beq_iff_eq, beq_eq_false_iff_ne, ne_eq, decide_eq_decide, Bool.not_eq_true, Bool.not_eq_false, wU] at *
    simp -implicitDefEqProofs only [← decide_not, ← Bool.decide_and, ← Bool.decide_or, Bool.beq_eq_decide_eq, AV.d.injEq, D.bool.injEq, D.int.injEq, D.str.injEq, AV.tup.injEq, AV.agg.injEq, List.cons.injEq, true_and, and_true, decide_eq_decide, true_eq_decide_iff, false_eq_decide_iff, decide_eq_true_eq, decide_eq_false_iff_not, Bool.true_eq, Bool.false_eq]
    unfold Big at *
    omega
theorem Rsize_ok {s s' : Bool} {m m' : Int} (h : Big m) (h' : Big m') : DataW Try.prog f_poundageref01_size [mag s m, mag s' m'] (bv (m < m')) := by
  refine CallW_intro comp_poundageref01_size (by simp) ?_
  simp -implicitDefEqProofs -proj only [go_sem, Nat.reduceBEq, Nat.reduceLT, Nat.reduceLeDiff, Nat.reduceAdd, Nat.reduceMul, ↓reduceIte]
  (repeat' first
    | (with_reducible refine Guard_split (fun h => ?_) (fun h => ?_) <;> (simp -implicitDefEqProofs -proj only [go_sem, Nat.reduceBEq, Nat.reduceLT, Nat.reduceLeDiff, Nat.reduceAdd, Nat.reduceMul, ↓reduceIte, *]; try (revert h; intro _)))
    | (with_reducible refine Cond_split (fun h => ?_) (fun h => ?_) <;> (simp -implicitDefEqProofs -proj only [go_sem, Nat.reduceBEq, Nat.reduceLT, Nat.reduceLeDiff, Nat.reduceAdd, Nat.reduceMul, ↓reduceIte, *]; try (revert h; intro _)))
    | (with_reducible refine Pick_split (fun h => ?_) (fun h => ?_) <;> (simp -implicitDefEqProofs -proj only [go_sem, Nat.reduceBEq, Nat.reduceLT, Nat.reduceLeDiff, Nat.reduceAdd, Nat.reduceMul, ↓reduceIte, *]; try (revert h; intro _)))
    | (with_reducible refine AllocA_intro (fun _ hb => ?_); simp only [upd_none, keepH_none, keepH_nil, Heap.none_get, and_true, true_and] at hb; simp -implicitDefEqProofs -proj only [go_sem, Nat.reduceBEq, Nat.reduceLT, Nat.reduceLeDiff, Nat.reduceAdd, Nat.reduceMul, ↓reduceIte, *]; try (revert hb; intro _))
    | (with_reducible refine AllocR_intro (fun _ hb => ?_); simp only [upd_none, keepH_none, keepH_nil, Heap.none_get, and_true, true_and] at hb; simp -implicitDefEqProofs -proj only [go_sem, Nat.reduceBEq, Nat.reduceLT, Nat.reduceLeDiff, Nat.reduceAdd, Nat.reduceMul, ↓reduceIte, *]; try (revert hb; intro _))
    | (with_reducible refine IdxE_1 _ rfl (by simp) ?_; simp -implicitDefEqProofs -proj only [go_sem, Nat.reduceBEq, Nat.reduceLT, Nat.reduceLeDiff, Nat.reduceAdd, Nat.reduceMul, ↓reduceIte, *])
    | (with_reducible refine IdxE_n _ rfl (by simp) ?_; simp -implicitDefEqProofs -proj only [go_sem, Nat.reduceBEq, Nat.reduceLT, Nat.reduceLeDiff, Nat.reduceAdd, Nat.reduceMul, ↓reduceIte, *])
    | (with_reducible refine VC_intro ?_ (fun h => ?_); (focus first | decide | omega); try clear h; try simp -implicitDefEqProofs -proj only [go_sem, Nat.reduceBEq, Nat.reduceLT, Nat.reduceLeDiff, Nat.reduceAdd, Nat.reduceMul, ↓reduceIte, *])
    | (with_reducible refine VC_intro ?_ (fun h => ?_); rotate_left; try clear h; try simp -implicitDefEqProofs -proj only [go_sem, Nat.reduceBEq, Nat.reduceLT, Nat.reduceLeDiff, Nat.reduceAdd, Nat.reduceMul, ↓reduceIte, *]; rotate_right))
  all_goals
    refine LendV_eq ?_
    simp -implicitDefEqProofs only [decide_eq_true_eq, decide_eq_false_iff_not, Bool.not_eq_true', Bool.not_eq_false', Bool.and_eq_true, Bool.and_eq_false_iff, Bool.or_eq_true, Bool.or_eq_false_iff, beq_iff_eq, beq_eq_false_iff_ne, ne_eq, decide_eq_decide, Bool.not_eq_true, Bool.not_eq_false, wU] at *
    simp -implicitDefEqProofs only [← decide_not, ← Bool.decide_and, ← Bool.decide_or, Bool.beq_eq_decide_eq, AV.d.injEq, D.bool.injEq, D.int.injEq, D.str.injEq, AV.tup.injEq, AV.agg.injEq, List.cons.injEq, true_and, and_true, decide_eq_decide, true_eq_decide_iff, false_eq_decide_iff, decide_eq_true_eq, decide_eq_false_iff_not, Bool.true_eq, Bool.false_eq]
    unfold Big at *
    omega
theorem Rplus_ok {s s' : Bool} {m m' : Int} (h : Big m) (h' : Big m') (h2 : Big (m + m')) : DataW Try.prog f_poundageref01_plus [mag s m, mag s' m'] (mag false (m + m')) := by
  refine CallW_intro comp_poundageref01_plus (by simp) ?_
  simp -implicitDefEqProofs -proj only [go_sem, Nat.reduceBEq, Nat.reduceLT, Nat.reduceLeDiff, Nat.reduceAdd, Nat.reduceMul, ↓reduceIte]
  (repeat' first
    | (with_reducible refine Guard_split (fun h => ?_) (fun h => ?_) <;> (simp -implicitDefEqProofs -proj only [go_sem, Nat.reduceBEq, Nat.reduceLT, Nat.reduceLeDiff, Nat.reduceAdd, Nat.reduceMul, ↓reduceIte, *]; try (revert h; intro _)))
    | (with_reducible refine Cond_split (fun h => ?_) (fun h => ?_) <;> (simp -implicitDefEqProofs -proj only [go_sem, Nat.reduceBEq, Nat.reduceLT, Nat.reduceLeDiff, Nat.reduceAdd, Nat.reduceMul, ↓reduceIte, *]; try (revert h; intro _)))
    | (with_reducible refine Pick_split (fun h => ?_) (fun h => ?_) <;> (simp -implicitDefEqProofs -proj only [go_sem, Nat.reduceBEq, Nat.reduceLT, Nat.reduceLeDiff, Nat.reduceAdd, Nat.reduceMul, ↓reduceIte, *]; try (revert h; intro _)))
    | (with_reducible refine AllocA_intro (fun _ hb => ?_); simp only [upd_none, keepH_none, keepH_nil, Heap.none_get, and_true, true_and] at hb; simp -implicitDefEqProofs -proj only [go_sem, Nat.reduceBEq, Nat.reduceLT, Nat.reduceLeDiff, Nat.reduceAdd, Nat.reduceMul, ↓reduceIte, *]; try (revert hb; intro _))
    | (with_reducible refine AllocR_intro (fun _ hb => ?_); simp only [upd_none, keepH_none, keepH_nil, Heap.none_get, and_true, true_and] at hb; simp -implicitDefEqProofs -proj only [go_sem, Nat.reduceBEq, Nat.reduceLT, Nat.reduceLeDiff, Nat.reduceAdd, Nat.reduceMul, ↓reduceIte, *]; try (revert hb; intro _))
    | (with_reducible refine IdxE_1 _ rfl (by simp) ?_; simp -implicitDefEqProofs -proj only [go_sem, Nat.reduceBEq, Nat.reduceLT, Nat.reduceLeDiff, Nat.reduceAdd, Nat.reduceMul, ↓reduceIte, *])
    | (with_reducible refine IdxE_n _ rfl (by simp) ?_; simp -implicitDefEqProofs -proj only [go_sem, Nat.reduceBEq, Nat.reduceLT, Nat.reduceLeDiff, Nat.reduceAdd, Nat.reduceMul, ↓reduceIte, *])
    | (with_reducible refine VC_intro ?_ (fun h => ?_); (focus first | decide | omega); try clear h; try simp -implicitDefEqProofs -proj only [go_sem, Nat.reduceBEq, Nat.reduceLT, Nat.reduceLeDiff, Nat.reduceAdd, Nat.reduceMul, ↓reduceIte, *])
    | (with_reducible refine VC_intro ?_ (fun h => ?_); rotate_left; try clear h; try simp -implicitDefEqProofs -proj only [go_sem, Nat.reduceBEq, Nat.reduceLT, Nat.reduceLeDiff, Nat.reduceAdd, Nat.reduceMul, ↓reduceIte, *]; rotate_right))
  all_goals
    refine LendV_eq ?_
    simp -implicitDefEqProofs only [decide_eq_true_eq, decide_eq_false_iff_not, Bool.not_eq_true', Bool.not_eq_false', Bool.and_eq_true, Bool.and_eq_false_iff, Bool.or_eq_true, Bool.or_eq_false_iff, beq_iff_eq, beq_eq_false_iff_ne, ne_eq, decide_eq_decide, Bool.not_eq_true, Bool.not_eq_false, wU] at *
    simp -implicitDefEqProofs only [← decide_not, ← Bool.decide_and, ← Bool.decide_or, Bool.beq_eq_decide_eq, AV.d.injEq, D.bool.injEq, D.int.injEq, D.str.injEq, AV.tup.injEq, AV.agg.injEq, List.cons.injEq, true_and, and_true, decide_eq_decide, true_eq_decide_iff, false_eq_decide_iff, decide_eq_true_eq, decide_eq_false_iff_not, Bool.true_eq, Bool.false_eq]
    unfold Big at *
    omega
theorem Rminus_ok {s s' : Bool} {m m' : Int} (h : Big m) (h' : Big m') (h2 : m' ≤ m) : DataW Try.prog f_poundageref01_minus [mag s m, mag s' m'] (mag false (m - m')) := by
  refine CallW_intro comp_poundageref01_minus (by simp) ?_
  simp -implicitDefEqProofs -proj only [go_sem, Nat.reduceBEq, Nat.reduceLT, Nat.reduceLeDiff, Nat.reduceAdd, Nat.reduceMul, ↓reduceIte]
  (repeat' first
    | (with_reducible refine Guard_split (fun h => ?_) (fun h => ?_) <;> (simp -implicitDefEqProofs -proj only [go_sem, Nat.reduceBEq, Nat.reduceLT, Nat.reduceLeDiff, Nat.reduceAdd, Nat.reduceMul, ↓reduceIte, *]; try (revert h; intro _)))
    | (with_reducible refine Cond_split (fun h => ?_) (fun h => ?_) <;> (simp -implicitDefEqProofs -proj only [go_sem, Nat.reduceBEq, Nat.reduceLT, Nat.reduceLeDiff, Nat.reduceAdd, Nat.reduceMul, ↓reduceIte, *]; try (revert h; intro _)))
    | (with_reducible refine Pick_split (fun h => ?_) (fun h => ?_) <;> (simp -implicitDefEqProofs -proj only [go_sem, Nat.reduceBEq, Nat.reduceLT, Nat.reduceLeDiff, Nat.reduceAdd, Nat.reduceMul, ↓reduceIte, *]; try (revert h; intro _)))
    | (with_reducible refine AllocA_intro (fun _ hb => ?_); simp only [upd_none, keepH_none, keepH_nil, Heap.none_get, and_true, true_and] at hb; simp -implicitDefEqProofs -proj only [go_sem, Nat.reduceBEq, Nat.reduceLT, Nat.reduceLeDiff, Nat.reduceAdd, Nat.reduceMul, ↓reduceIte, *]; try (revert hb; intro _))
    | (with_reducible refine AllocR_intro (fun _ hb => ?_); simp only [upd_none, keepH_none, keepH_nil, Heap.none_get, and_true, true_and] at hb; simp -implicitDefEqProofs -proj only [go_sem, Nat.reduceBEq, Nat.reduceLT, Nat.reduceLeDiff, Nat.reduceAdd, Nat.reduceMul, ↓reduceIte, *]; try (revert hb; intro _))
    | (with_reducible refine IdxE_1 _ rfl (by simp) ?_; simp -implicitDefEqProofs -proj only [go_sem, Nat.reduceBEq, Nat.reduceLT, Nat.reduceLeDiff, Nat.reduceAdd, Nat.reduceMul, ↓reduceIte, *])
    | (with_reducible refine IdxE_n _ rfl (by simp) ?_; simp -implicitDefEqProofs -proj only [go_sem, Nat.reduceBEq, Nat.reduceLT, Nat.reduceLeDiff, Nat.reduceAdd, Nat.reduceMul, ↓reduceIte, *])
    | (with_reducible refine VC_intro ?_ (fun h => ?_); (focus first | decide | omega); try clear h; try simp -implicitDefEqProofs -proj only [go_sem, Nat.reduceBEq, Nat.reduceLT, Nat.reduceLeDiff, Nat.reduceAdd, Nat.reduceMul, ↓reduceIte, *])
    | (with_reducible refine VC_intro ?_ (fun h => ?_); rotate_left; try clear h; try simp -implicitDefEqProofs -proj only [go_sem, Nat.reduceBEq, Nat.reduceLT, Nat.reduceLeDiff, Nat.reduceAdd, Nat.reduceMul, ↓reduceIte, *]; rotate_right))
  all_goals
    refine LendV_eq ?_
    simp -implicitDefEqProofs only [decide_eq_true_eq, decide_eq_false_iff_not, Bool.not_eq_true', Bool.not_eq_false', Bool.and_eq_true, Bool.and_eq_false_iff, Bool.or_eq_true, Bool.or_eq_false_iff, beq_iff_eq, beq_eq_false_iff_ne, ne_eq, decide_eq_decide, Bool.not_eq_true, Bool.not_eq_false, wU] at *
    simp -implicitDefEqProofs only [← decide_not, ← Bool.decide_and, ← Bool.decide_or, Bool.beq_eq_decide_eq, AV.d.injEq, D.bool.injEq, D.int.injEq, D.str.injEq, AV.tup.injEq, AV.agg.injEq, List.cons.injEq, true_and, and_true, decide_eq_decide, true_eq_decide_iff, false_eq_decide_iff, decide_eq_true_eq, decide_eq_false_iff_not, Bool.true_eq, Bool.false_eq]
    unfold Big at *
    omega
theorem ROf_ok {a : Int} (h : Fit a) : DataW Try.prog f_poundageref01_Of [i64 a] (wide a) := by
  refine CallW_intro comp_poundageref01_Of (by simp) ?_
  simp -implicitDefEqProofs -proj only [go_sem, Nat.reduceBEq, Nat.reduceLT, Nat.reduceLeDiff, Nat.reduceAdd, Nat.reduceMul, ↓reduceIte]
  (repeat' first
    | (with_reducible refine Guard_split (fun h => ?_) (fun h => ?_) <;> (simp -implicitDefEqProofs -proj only [go_sem, Nat.reduceBEq, Nat.reduceLT, Nat.reduceLeDiff, Nat.reduceAdd, Nat.reduceMul, ↓reduceIte, *]; try (revert h; intro _)))
    | (with_reducible refine Cond_split (fun h => ?_) (fun h => ?_) <;> (simp -implicitDefEqProofs -proj only [go_sem, Nat.reduceBEq, Nat.reduceLT, Nat.reduceLeDiff, Nat.reduceAdd, Nat.reduceMul, ↓reduceIte, *]; try (revert h; intro _)))
    | (with_reducible refine Pick_split (fun h => ?_) (fun h => ?_) <;> (simp -implicitDefEqProofs -proj only [go_sem, Nat.reduceBEq, Nat.reduceLT, Nat.reduceLeDiff, Nat.reduceAdd, Nat.reduceMul, ↓reduceIte, *]; try (revert h; intro _)))
    | (with_reducible refine AllocA_intro (fun _ hb => ?_); simp only [upd_none, keepH_none, keepH_nil, Heap.none_get, and_true, true_and] at hb; simp -implicitDefEqProofs -proj only [go_sem, Nat.reduceBEq, Nat.reduceLT, Nat.reduceLeDiff, Nat.reduceAdd, Nat.reduceMul, ↓reduceIte, *]; try (revert hb; intro _))
    | (with_reducible refine AllocR_intro (fun _ hb => ?_); simp only [upd_none, keepH_none, keepH_nil, Heap.none_get, and_true, true_and] at hb; simp -implicitDefEqProofs -proj only [go_sem, Nat.reduceBEq, Nat.reduceLT, Nat.reduceLeDiff, Nat.reduceAdd, Nat.reduceMul, ↓reduceIte, *]; try (revert hb; intro _))
    | (with_reducible refine IdxE_1 _ rfl (by simp) ?_; simp -implicitDefEqProofs -proj only [go_sem, Nat.reduceBEq, Nat.reduceLT, Nat.reduceLeDiff, Nat.reduceAdd, Nat.reduceMul, ↓reduceIte, *])
    | (with_reducible refine IdxE_n _ rfl (by simp) ?_; simp -implicitDefEqProofs -proj only [go_sem, Nat.reduceBEq, Nat.reduceLT, Nat.reduceLeDiff, Nat.reduceAdd, Nat.reduceMul, ↓reduceIte, *])
    | (with_reducible refine VC_intro ?_ (fun h => ?_); (focus first | decide | omega); try clear h; try simp -implicitDefEqProofs -proj only [go_sem, Nat.reduceBEq, Nat.reduceLT, Nat.reduceLeDiff, Nat.reduceAdd, Nat.reduceMul, ↓reduceIte, *])
    | (with_reducible refine VC_intro ?_ (fun h => ?_); rotate_left; try clear h; try simp -implicitDefEqProofs -proj only [go_sem, Nat.reduceBEq, Nat.reduceLT, Nat.reduceLeDiff, Nat.reduceAdd, Nat.reduceMul, ↓reduceIte, *]; rotate_right))
  all_goals
    refine LendV_eq ?_
    simp -implicitDefEqProofs only [decide_eq_true_eq, decide_eq_false_iff_not, Bool.not_eq_true', Bool.not_eq_false', Bool.and_eq_true, Bool.and_eq_false_iff, Bool.or_eq_true, Bool.or_eq_false_iff, beq_iff_eq, beq_eq_false_iff_ne, ne_eq, decide_eq_decide, Bool.not_eq_true, Bool.not_eq_false, wU, wI, wide, mag] at *
    simp -implicitDefEqProofs only [← decide_not, ← Bool.decide_and, ← Bool.decide_or, Bool.beq_eq_decide_eq, AV.d.injEq, D.bool.injEq, D.int.injEq, D.str.injEq, AV.tup.injEq, AV.agg.injEq, List.cons.injEq, true_and, and_true, decide_eq_decide, true_eq_decide_iff, false_eq_decide_iff, decide_eq_true_eq, decide_eq_false_iff_not, Bool.true_eq, Bool.false_eq]
    unfold Fit at *
    omega
theorem RInt_ok {n : Int} (h : Big n.natAbs) : DataW Try.prog f_poundageref01_Int [wide n] (fitR n) := by
  refine CallW_intro comp_poundageref01_Int (by simp) ?_
  simp -implicitDefEqProofs -proj only [go_sem, Nat.reduceBEq, Nat.reduceLT, Nat.reduceLeDiff, Nat.reduceAdd, Nat.reduceMul, ↓reduceIte]
  (repeat' first
    | (with_reducible refine Guard_split (fun h => ?_) (fun h => ?_) <;> (simp -implicitDefEqProofs -proj only [go_sem, Nat.reduceBEq, Nat.reduceLT, Nat.reduceLeDiff, Nat.reduceAdd, Nat.reduceMul, ↓reduceIte, *]; try (revert h; intro _)))
    | (with_reducible refine Cond_split (fun h => ?_) (fun h => ?_) <;> (simp -implicitDefEqProofs -proj only [go_sem, Nat.reduceBEq, Nat.reduceLT, Nat.reduceLeDiff, Nat.reduceAdd, Nat.reduceMul, ↓reduceIte, *]; try (revert h; intro _)))
    | (with_reducible refine Pick_split (fun h => ?_) (fun h => ?_) <;> (simp -implicitDefEqProofs -proj only [go_sem, Nat.reduceBEq, Nat.reduceLT, Nat.reduceLeDiff, Nat.reduceAdd, Nat.reduceMul, ↓reduceIte, *]; try (revert h; intro _)))
    | (with_reducible refine AllocA_intro (fun _ hb => ?_); simp only [upd_none, keepH_none, keepH_nil, Heap.none_get, and_true, true_and] at hb; simp -implicitDefEqProofs -proj only [go_sem, Nat.reduceBEq, Nat.reduceLT, Nat.reduceLeDiff, Nat.reduceAdd, Nat.reduceMul, ↓reduceIte, *]; try (revert hb; intro _))
    | (with_reducible refine AllocR_intro (fun _ hb => ?_); simp only [upd_none, keepH_none, keepH_nil, Heap.none_get, and_true, true_and] at hb; simp -implicitDefEqProofs -proj only [go_sem, Nat.reduceBEq, Nat.reduceLT, Nat.reduceLeDiff, Nat.reduceAdd, Nat.reduceMul, ↓reduceIte, *]; try (revert hb; intro _))
    | (with_reducible refine IdxE_1 _ rfl (by simp) ?_; simp -implicitDefEqProofs -proj only [go_sem, Nat.reduceBEq, Nat.reduceLT, Nat.reduceLeDiff, Nat.reduceAdd, Nat.reduceMul, ↓reduceIte, *])
    | (with_reducible refine IdxE_n _ rfl (by simp) ?_; simp -implicitDefEqProofs -proj only [go_sem, Nat.reduceBEq, Nat.reduceLT, Nat.reduceLeDiff, Nat.reduceAdd, Nat.reduceMul, ↓reduceIte, *])
    | (with_reducible refine VC_intro ?_ (fun h => ?_); (focus first | decide | omega); try clear h; try simp -implicitDefEqProofs -proj only [go_sem, Nat.reduceBEq, Nat.reduceLT, Nat.reduceLeDiff, Nat.reduceAdd, Nat.reduceMul, ↓reduceIte, *])
    | (with_reducible refine VC_intro ?_ (fun h => ?_); rotate_left; try clear h; try simp -implicitDefEqProofs -proj only [go_sem, Nat.reduceBEq, Nat.reduceLT, Nat.reduceLeDiff, Nat.reduceAdd, Nat.reduceMul, ↓reduceIte, *]; rotate_right))
  all_goals
    refine LendV_eq (fitR_of ?_)
    simp -implicitDefEqProofs only [decide_eq_true_eq, decide_eq_false_iff_not, Bool.not_eq_true', Bool.not_eq_false', Bool.and_eq_true, Bool.and_eq_false_iff, Bool.or_eq_true, Bool.or_eq_false_iff, beq_iff_eq, beq_eq_false_iff_ne, ne_eq, decide_eq_decide, Bool.not_eq_true, Bool.not_eq_false, wU, wI] at *
    simp -implicitDefEqProofs only [Bool.false_eq_true, reduceCtorEq, true_and, false_and, or_false, false_or]
    unfold Fit Big at *
    omega
theorem ROpp_ok {n : Int} (h : Big n.natAbs) : DataW Try.prog f_poundageref01_Opposite [wide n] (wide (-n)) := by
  refine CallW_intro comp_poundageref01_Opposite (by simp) ?_
  simp -implicitDefEqProofs -proj only [go_sem, Nat.reduceBEq, Nat.reduceLT, Nat.reduceLeDiff, Nat.reduceAdd, Nat.reduceMul, ↓reduceIte]
  (repeat' first
    | (refine CallA_pure (RZero_ok h) ?_; simp -implicitDefEqProofs -proj only [go_sem, Nat.reduceBEq, Nat.reduceLT, Nat.reduceLeDiff, Nat.reduceAdd, Nat.reduceMul, ↓reduceIte, *])
    | (refine PCallA_pure (RZero_ok h) ?_; simp -implicitDefEqProofs -proj only [go_sem, Nat.reduceBEq, Nat.reduceLT, Nat.reduceLeDiff, Nat.reduceAdd, Nat.reduceMul, ↓reduceIte, *])
    | (with_reducible refine Guard_split (fun h => ?_) (fun h => ?_) <;> (simp -implicitDefEqProofs -proj only [go_sem, Nat.reduceBEq, Nat.reduceLT, Nat.reduceLeDiff, Nat.reduceAdd, Nat.reduceMul, ↓reduceIte, *]; try (revert h; intro _)))
    | (with_reducible refine Cond_split (fun h => ?_) (fun h => ?_) <;> (simp -implicitDefEqProofs -proj only [go_sem, Nat.reduceBEq, Nat.reduceLT, Nat.reduceLeDiff, Nat.reduceAdd, Nat.reduceMul, ↓reduceIte, *]; try (revert h; intro _)))
    | (with_reducible refine Pick_split (fun h => ?_) (fun h => ?_) <;> (simp -implicitDefEqProofs -proj only [go_sem, Nat.reduceBEq, Nat.reduceLT, Nat.reduceLeDiff, Nat.reduceAdd, Nat.reduceMul, ↓reduceIte, *]; try (revert h; intro _)))
    | (with_reducible refine AllocA_intro (fun _ hb => ?_); simp -implicitDefEqProofs only [upd_none, keepH_none, keepH_nil, Heap.none_get, and_true, true_and] at hb; simp -implicitDefEqProofs -proj only [go_sem, Nat.reduceBEq, Nat.reduceLT, Nat.reduceLeDiff, Nat.reduceAdd, Nat.reduceMul, ↓reduceIte, *]; try (revert hb; intro _))
    | (with_reducible refine AllocR_intro (fun _ hb => ?_); simp -implicitDefEqProofs only [upd_none, keepH_none, keepH_nil, Heap.none_get, and_true, true_and] at hb; simp -implicitDefEqProofs -proj only [go_sem, Nat.reduceBEq, Nat.reduceLT, Nat.reduceLeDiff, Nat.reduceAdd, Nat.reduceMul, ↓reduceIte, *]; try (revert hb; intro _))
    | (with_reducible refine IdxE_1 _ rfl (by simp) ?_; simp -implicitDefEqProofs -proj only [go_sem, Nat.reduceBEq, Nat.reduceLT, Nat.reduceLeDiff, Nat.reduceAdd, Nat.reduceMul, ↓reduceIte, *])
    | (with_reducible refine IdxE_n _ rfl (by simp) ?_; simp -implicitDefEqProofs -proj only [go_sem, Nat.reduceBEq, Nat.reduceLT, Nat.reduceLeDiff, Nat.reduceAdd, Nat.reduceMul, ↓reduceIte, *])
    | (with_reducible refine VC_intro ?_ (fun h => ?_); (focus first | decide | omega); try clear h; try simp -implicitDefEqProofs -proj only [go_sem, Nat.reduceBEq, Nat.reduceLT, Nat.reduceLeDiff, Nat.reduceAdd, Nat.reduceMul, ↓reduceIte, *])
    | (with_reducible refine VC_intro ?_ (fun h => ?_); rotate_left; try clear h; try simp -implicitDefEqProofs -proj only [go_sem, Nat.reduceBEq, Nat.reduceLT, Nat.reduceLeDiff, Nat.reduceAdd, Nat.reduceMul, ↓reduceIte, *]; rotate_right))
  all_goals
    refine LendV_eq ?_
    simp -implicitDefEqProofs only [decide_eq_true_eq, decide_eq_false_iff_not, Bool.not_eq_true', Bool.not_eq_false', Bool.and_eq_true, Bool.and_eq_false_iff, Bool.or_eq_true, Bool.or_eq_false_iff, beq_iff_eq, beq_eq_false_iff_ne, ne_eq, decide_eq_decide, Bool.not_eq_true, Bool.not_eq_false] at *
    simp -implicitDefEqProofs only [← decide_not, ← Bool.decide_and, ← Bool.decide_or, Bool.beq_eq_decide_eq, AV.d.injEq, D.bool.injEq, D.int.injEq, D.str.injEq, AV.tup.injEq, AV.agg.injEq, List.cons.injEq, true_and, and_true, decide_eq_decide, true_eq_decide_iff, false_eq_decide_iff, decide_eq_true_eq, decide_eq_false_iff_not, Bool.true_eq, Bool.false_eq]
    omega
set_option maxHeartbeats 2000000 in
theorem RAdd_ok {a b : Int} (ha : a.natAbs < 170141183460469231731687303715884105728) (hb : b.natAbs < 170141183460469231731687303715884105728) : DataW Try.prog f_poundageref01_Add [wide a, wide b] (wide (a + b)) := by
  have h1 : Big a.natAbs := by unfold Big; omega
  have h2 : Big b.natAbs := by unfold Big; omega
  have h3 : Big (a.natAbs + b.natAbs) := by unfold Big; omega
  refine CallW_intro comp_poundageref01_Add (by simp) ?_
  simp -implicitDefEqProofs -proj only [go_sem, Nat.reduceBEq, Nat.reduceLT, Nat.reduceLeDiff, Nat.reduceAdd, Nat.reduceMul, ↓reduceIte]
  (repeat' first
    | (refine CallA_pure (Rplus_ok h1 h2 h3) ?_; simp -implicitDefEqProofs -proj only [go_sem, Nat.reduceBEq, Nat.reduceLT, Nat.reduceLeDiff, Nat.reduceAdd, Nat.reduceMul, ↓reduceIte, *])
    | (refine PCallA_pure (Rplus_ok h1 h2 h3) ?_; simp -implicitDefEqProofs -proj only [go_sem, Nat.reduceBEq, Nat.reduceLT, Nat.reduceLeDiff, Nat.reduceAdd, Nat.reduceMul, ↓reduceIte, *])
    | (refine CallA_pure (RZero_ok (by simp -implicitDefEqProofs only [decide_eq_true_eq, decide_eq_false_iff_not, Bool.not_eq_true', Bool.not_eq_false', Bool.and_eq_true, Bool.and_eq_false_iff, Bool.or_eq_true, Bool.or_eq_false_iff, beq_iff_eq, beq_eq_false_iff_ne, ne_eq, decide_eq_decide, Bool.not_eq_true, Bool.not_eq_false] at *; unfold Big at *; omega)) ?_; simp -implicitDefEqProofs -proj only [go_sem, Nat.reduceBEq, Nat.reduceLT, Nat.reduceLeDiff, Nat.reduceAdd, Nat.reduceMul, ↓reduceIte, *])
    | (refine PCallA_pure (RZero_ok (by simp -implicitDefEqProofs only [decide_eq_true_eq, decide_eq_false_iff_not, Bool.not_eq_true', Bool.not_eq_false', Bool.and_eq_true, Bool.and_eq_false_iff, Bool.or_eq_true, Bool.or_eq_false_iff, beq_iff_eq, beq_eq_false_iff_ne, ne_eq, decide_eq_decide, Bool.not_eq_true, Bool.not_eq_false] at *; unfold Big at *; omega)) ?_; simp -implicitDefEqProofs -proj only [go_sem, Nat.reduceBEq, Nat.reduceLT, Nat.reduceLeDiff, Nat.reduceAdd, Nat.reduceMul, ↓reduceIte, *])
    | (refine CallA_pure (Rsize_ok h1 h2) ?_; simp -implicitDefEqProofs -proj only [go_sem, Nat.reduceBEq, Nat.reduceLT, Nat.reduceLeDiff, Nat.reduceAdd, Nat.reduceMul, ↓reduceIte, *])
    | (refine PCallA_pure (Rsize_ok h1 h2) ?_; simp -implicitDefEqProofs -proj only [go_sem, Nat.reduceBEq, Nat.reduceLT, Nat.reduceLeDiff, Nat.reduceAdd, Nat.reduceMul, ↓reduceIte, *])
    | (refine CallA_pure (Rminus_ok h1 h2 (by simp -implicitDefEqProofs only [decide_eq_true_eq, decide_eq_false_iff_not, Bool.not_eq_true', Bool.not_eq_false', Bool.and_eq_true, Bool.and_eq_false_iff, Bool.or_eq_true, Bool.or_eq_false_iff, beq_iff_eq, beq_eq_false_iff_ne, ne_eq, decide_eq_decide, Bool.not_eq_true, Bool.not_eq_false] at *; omega)) ?_; simp -implicitDefEqProofs -proj only [go_sem, Nat.reduceBEq, Nat.reduceLT, Nat.reduceLeDiff, Nat.reduceAdd, Nat.reduceMul, ↓reduceIte, *])
    | (refine PCallA_pure (Rminus_ok h1 h2 (by simp -implicitDefEqProofs only [decide_eq_true_eq, decide_eq_false_iff_not, Bool.not_eq_true', Bool.not_eq_false', Bool.and_eq_true, Bool.and_eq_false_iff, Bool.or_eq_true, Bool.or_eq_false_iff, beq_iff_eq, beq_eq_false_iff_ne, ne_eq, decide_eq_decide, Bool.not_eq_true, Bool.not_eq_false] at *; omega)) ?_; simp -implicitDefEqProofs -proj only [go_sem, Nat.reduceBEq, Nat.reduceLT, Nat.reduceLeDiff, Nat.reduceAdd, Nat.reduceMul, ↓reduceIte, *])
    | (refine CallA_pure (Rminus_ok h2 h1 (by simp -implicitDefEqProofs only [decide_eq_true_eq, decide_eq_false_iff_not, Bool.not_eq_true', Bool.not_eq_false', Bool.and_eq_true, Bool.and_eq_false_iff, Bool.or_eq_true, Bool.or_eq_false_iff, beq_iff_eq, beq_eq_false_iff_ne, ne_eq, decide_eq_decide, Bool.not_eq_true, Bool.not_eq_false] at *; omega)) ?_; simp -implicitDefEqProofs -proj only [go_sem, Nat.reduceBEq, Nat.reduceLT, Nat.reduceLeDiff, Nat.reduceAdd, Nat.reduceMul, ↓reduceIte, *])
    | (refine PCallA_pure (Rminus_ok h2 h1 (by simp -implicitDefEqProofs only [decide_eq_true_eq, decide_eq_false_iff_not, Bool.not_eq_true', Bool.not_eq_false', Bool.and_eq_true, Bool.and_eq_false_iff, Bool.or_eq_true, Bool.or_eq_false_iff, beq_iff_eq, beq_eq_false_iff_ne, ne_eq, decide_eq_decide, Bool.not_eq_true, Bool.not_eq_false] at *; omega)) ?_; simp -implicitDefEqProofs -proj only [go_sem, Nat.reduceBEq, Nat.reduceLT, Nat.reduceLeDiff, Nat.reduceAdd, Nat.reduceMul, ↓reduceIte, *])
    | (with_reducible refine Guard_split (fun h => ?_) (fun h => ?_) <;> (simp -implicitDefEqProofs -proj only [go_sem, Nat.reduceBEq, Nat.reduceLT, Nat.reduceLeDiff, Nat.reduceAdd, Nat.reduceMul, ↓reduceIte, *]; try (revert h; intro _)))
    | (with_reducible refine Cond_split (fun h => ?_) (fun h => ?_) <;> (simp -implicitDefEqProofs -proj only [go_sem, Nat.reduceBEq, Nat.reduceLT, Nat.reduceLeDiff, Nat.reduceAdd, Nat.reduceMul, ↓reduceIte, *]; try (revert h; intro _)))
    | (with_reducible refine Pick_split (fun h => ?_) (fun h => ?_) <;> (simp -implicitDefEqProofs -proj only [go_sem, Nat.reduceBEq, Nat.reduceLT, Nat.reduceLeDiff, Nat.reduceAdd, Nat.reduceMul, ↓reduceIte, *]; try (revert h; intro _)))
    | (with_reducible refine AllocA_intro (fun _ hb => ?_); simp -implicitDefEqProofs only [upd_none, keepH_none, keepH_nil, Heap.none_get, and_true, true_and] at hb; simp -implicitDefEqProofs -proj only [go_sem, Nat.reduceBEq, Nat.reduceLT, Nat.reduceLeDiff, Nat.reduceAdd, Nat.reduceMul, ↓reduceIte, *]; try (revert hb; intro _))
    | (with_reducible refine AllocR_intro (fun _ hb => ?_); simp -implicitDefEqProofs only [upd_none, keepH_none, keepH_nil, Heap.none_get, and_true, true_and] at hb; simp -implicitDefEqProofs -proj only [go_sem, Nat.reduceBEq, Nat.reduceLT, Nat.reduceLeDiff, Nat.reduceAdd, Nat.reduceMul, ↓reduceIte, *]; try (revert hb; intro _))
    | (with_reducible refine IdxE_1 _ rfl (by simp) ?_; simp -implicitDefEqProofs -proj only [go_sem, Nat.reduceBEq, Nat.reduceLT, Nat.reduceLeDiff, Nat.reduceAdd, Nat.reduceMul, ↓reduceIte, *])
    | (with_reducible refine IdxE_n _ rfl (by simp) ?_; simp -implicitDefEqProofs -proj only [go_sem, Nat.reduceBEq, Nat.reduceLT, Nat.reduceLeDiff, Nat.reduceAdd, Nat.reduceMul, ↓reduceIte, *])
    | (with_reducible refine VC_intro ?_ (fun h => ?_); (focus first | decide | omega); try clear h; try simp -implicitDefEqProofs -proj only [go_sem, Nat.reduceBEq, Nat.reduceLT, Nat.reduceLeDiff, Nat.reduceAdd, Nat.reduceMul, ↓reduceIte, *])
    | (with_reducible refine VC_intro ?_ (fun h => ?_); rotate_left; try clear h; try simp -implicitDefEqProofs -proj only [go_sem, Nat.reduceBEq, Nat.reduceLT, Nat.reduceLeDiff, Nat.reduceAdd, Nat.reduceMul, ↓reduceIte, *]; rotate_right))
  all_goals
    refine LendV_eq ?_
    simp -implicitDefEqProofs only [decide_eq_true_eq, decide_eq_false_iff_not, Bool.not_eq_true', Bool.not_eq_false', Bool.and_eq_true, Bool.and_eq_false_iff, Bool.or_eq_true, Bool.or_eq_false_iff, beq_iff_eq, beq_eq_false_iff_ne, ne_eq, decide_eq_decide, Bool.not_eq_true, Bool.not_eq_false] at *
    simp -implicitDefEqProofs only [← decide_not, ← Bool.decide_and, ← Bool.decide_or, Bool.beq_eq_decide_eq, AV.d.injEq, D.bool.injEq, D.int.injEq, D.str.injEq, AV.tup.injEq, AV.agg.injEq, List.cons.injEq, true_and, and_true, decide_eq_decide, true_eq_decide_iff, false_eq_decide_iff, decide_eq_true_eq, decide_eq_false_iff_not, Bool.true_eq, Bool.false_eq]
    omega
theorem prod_bound {x y : Int} (hx : 0 ≤ x ∧ x ≤ 4294967295) (hy : 0 ≤ y ∧ y ≤ 4294967295) : 0 ≤ x * y ∧ x * y ≤ 18446744065119617025 := by
  refine ⟨Int.mul_nonneg hx.1 hy.1, ?_⟩
  have := Int.mul_le_mul hx.2 hy.2 hy.1 (by omega)
  omega
theorem shr32 {n : Int} : n.fdiv 4294967296 = n / 4294967296 := Int.fdiv_eq_ediv_of_nonneg _ (by omega)
theorem mod32 {n : Int} (h : 0 ≤ n) : n.tmod 4294967296 = n % 4294967296 := Int.tmod_eq_emod_of_nonneg h
def mulM (x y : Int) : Nat → Int
  | 0 => x / 4294967296 * (y / 4294967296) * 18446744073709551616 + x % 4294967296 * (y % 4294967296)
  | 1 => x / 4294967296 * (y / 4294967296) * 18446744073709551616 + x % 4294967296 * (y % 4294967296) + x % 4294967296 * (y / 4294967296) * 4294967296
  | _ => x / 4294967296 * (y / 4294967296) * 18446744073709551616 + x % 4294967296 * (y % 4294967296) + x % 4294967296 * (y / 4294967296) * 4294967296 + x / 4294967296 * (y % 4294967296) * 4294967296
theorem mulM_2 (x y : Int) : mulM x y 2 = x * y := by
  have hx := Int.emod_add_mul_ediv x 4294967296
  have hy := Int.emod_add_mul_ediv y 4294967296
  have e : x * y = (x % 4294967296 + 4294967296 * (x / 4294967296)) * (y % 4294967296 + 4294967296 * (y / 4294967296)) := by rw [hx, hy]
  rw [e]
  simp -implicitDefEqProofs only [mulM, Int.add_mul, Int.mul_add]
  have e1 : ∀ p q : Int, p * (4294967296 * q) = p * q * 4294967296 := fun p q => by rw [Int.mul_left_comm]; omega
  have e2 : ∀ p q : Int, 4294967296 * p * q = p * q * 4294967296 := fun p q => by rw [Int.mul_assoc]; omega
  have e3 : ∀ p q : Int, 4294967296 * p * (4294967296 * q) = p * q * 18446744073709551616 := fun p q => by rw [e1, e2]; omega
  rw [e1, e2, e3]
  generalize x / 4294967296 * (y / 4294967296) = p
  generalize x % 4294967296 * (y % 4294967296) = q
  generalize x % 4294967296 * (y / 4294967296) = r
  generalize x / 4294967296 * (y % 4294967296) = t
  omega
theorem mul_lt0 (x y : Int) : x * y < 0 ↔ (¬ (x < 0 ↔ y < 0) ∧ x * y ≠ 0) := by
  rcases Int.lt_trichotomy x 0 with hx | hx | hx <;> rcases Int.lt_trichotomy y 0 with hy | hy | hy
  · have := Int.mul_pos_of_neg_of_neg hx hy; omega
  · subst hy; simp
  · have := Int.mul_neg_of_neg_of_pos hx hy; omega
  · subst hx; simp
  · subst hx; simp
  · subst hx; simp
  · have := Int.mul_neg_of_pos_of_neg hx hy; omega
  · subst hy; simp
  · have := Int.mul_pos hx hy; omega
end
section
attribute [local go_sem] mag wide
def mulN (p u v : Int) : Nat → Int
  | 0 => p
  | 1 => p + u * 4294967296
  | _ => p + u * 4294967296 + v * 4294967296
theorem mulN_0 {p u v : Int} : mulN p u v 0 = p := (rfl)
theorem mulN_1 {p u v : Int} : mulN p u v 1 = p + u * 4294967296 := (rfl)
theorem mulN_2 {p u v : Int} : mulN p u v 2 = p + u * 4294967296 + v * 4294967296 := (rfl)
theorem mulN_le {p u v : Int} (hp : 0 ≤ p ∧ p < 340282366920938463389587631136930004992) (hu : 0 ≤ u ∧ u ≤ 18446744065119617025) (hv : 0 ≤ v ∧ v ≤ 18446744065119617025) (i : Nat) (h : Big (mulN p u v 2)) (hi : i ≤ 2) : Big (mulN p u v i) := by
  have hi : i = 0 ∨ i = 1 ∨ i = 2 := by omega
  unfold Big at *
  rw [mulN_2] at h
  rcases hi with rfl | rfl | rfl
  · rw [mulN_0]; omega
  · rw [mulN_1]; omega
  · rw [mulN_2]; omega
/-- One round: the next of the two products is added. -/
theorem RMul_round {p u v : Int} (hp : 0 ≤ p ∧ p < 340282366920938463389587631136930004992) (hu : 0 ≤ u ∧ u ≤ 18446744065119617025) (hv : 0 ≤ v ∧ v ≤ 18446744065119617025) (h2 : Big (mulN p u v 2)) {R : Out → St → Prop} {tl : Nat → List (Nat × AV)} {hl : Nat → List (Nat × Blk)} {br b4 b5 b6 b11 : Nat} {B4 B5 B6 : Blk} (n1 : ¬ b11 = br) (n2 : ¬ br = b11) (n3 : ¬ b4 = br) (n4 : ¬ b4 = b11) (n5 : ¬ b5 = br) (n6 : ¬ b5 = b11) (n7 : ¬ b6 = br) (n8 : ¬ b6 = b11)  (m4 : ¬ b11 = b4) (m6 : ¬ b11 = b5) (m8 : ¬ b11 = b6) (n9 : ¬ b5 = b4) (n10 : ¬ b6 = b4) (n11 : ¬ b6 = b5)
    (ht : ∀ i : Nat, tl i = [(43, .own br 1 0 2 2), (44, i64 2), (45, i64 i), (11, .ptr b11 0), (4, .ptr b4 0), (5, .ptr b5 0), (6, .ptr b6 0)])
    (hh : ∀ i : Nat, hl i = [(br, .row 75 1 2 [[.int .u64 u], [.int .u64 v]]), (b11, .box 94 [bv false, u64 (mulN p u v i / 18446744073709551616), u64 (mulN p u v i % 18446744073709551616)]), (b4, B4), (b5, B5), (b6, B6)]) {i : Nat} (hi : i ≤ 1) :
    RunC Try.prog (LoopQ (fun i => i ≤ 2) (fun x => ⟨69, keepT (tl x), keepH (hl x)⟩) (fun i => 2 - i) i R) c_poundageref01_Mul_l0 [] ⟨69, keepT (tl i), keepH (hl i)⟩ := by
  have key : ∀ j : Nat, ∀ w c : Int, j ≤ 1 → (w = u ∧ j = 0 ∨ w = v ∧ j = 1) → c = mulN p u v (j + 1) → DataW Try.prog f_poundageref01_plus [.agg [bv false, u64 (mulN p u v j / 18446744073709551616), u64 (mulN p u v j % 18446744073709551616)], .agg [bv false, u64 (w.fdiv 4294967296), u64 (IntKind.u64.wrap (w * 4294967296))]] (.agg [bv false, u64 (c / 18446744073709551616), u64 (c % 18446744073709551616)]) := by
    intro j w c hj hw hc
    have e : Big w ∧ Big (w * 4294967296) := by unfold Big; omega
    have e3 : c = mulN p u v j + w * 4294967296 := by
      rcases hw with ⟨rfl, rfl⟩ | ⟨rfl, rfl⟩
      · rw [hc, mulN_1, mulN_0]
      · rw [hc, mulN_2, mulN_1]
    have h := Rplus_ok (s := false) (s' := false) (mulN_le hp hu hv j h2 (by omega)) e.2 (by have := mulN_le hp hu hv (j + 1) h2 (by omega); rw [← hc, e3] at this; exact this)
    rw [← e3] at h
    have e4 : AV.agg [bv false, u64 (w.fdiv 4294967296), u64 (IntKind.u64.wrap (w * 4294967296))] = mag false (w * 4294967296) := by
      simp -implicitDefEqProofs only [mag, wU, shr32, ← decide_not, ← Bool.decide_and, ← Bool.decide_or, Bool.beq_eq_decide_eq, AV.d.injEq, D.bool.injEq, D.int.injEq, D.str.injEq, AV.tup.injEq, AV.agg.injEq, List.cons.injEq, true_and, and_true, decide_eq_decide, true_eq_decide_iff, false_eq_decide_iff, decide_eq_true_eq, decide_eq_false_iff_not, Bool.true_eq, Bool.false_eq]; omega
    rw [e4]; exact h
  have k0 := key 0 u _ (by omega) (.inl ⟨rfl, rfl⟩) rfl
  have k1 := key 1 v _ (by omega) (.inr ⟨rfl, rfl⟩) rfl
  clear key
  have hi : i = 0 ∨ i = 1 := by omega
  have next : ∀ (j : Nat) (s : St) , j ≤ 2 → i < j → 69 = s.n → AllAt s.t (tl j) → AllH s.H (hl j) → LoopQ (fun i => i ≤ 2) (fun x => ⟨69, keepT (tl x), keepH (hl x)⟩) (fun i => 2 - i) i R .normal s := fun j s a b c d e => LoopQ_k j a (by omega) c d e
  generalize (LoopQ (fun i => i ≤ 2) (fun x => ⟨69, keepT (tl x), keepH (hl x)⟩) (fun i => 2 - i) i R) = Q at next ⊢
  rw [ht, hh]
  rcases hi with rfl | rfl
  · generalize mulN p u v 0 = m0 at *
    generalize hm : mulN p u v (0 + 1) = m1 at *
    simp -implicitDefEqProofs -proj only [go_sem, Nat.reduceBEq, Nat.reduceLT, Nat.reduceLeDiff, Nat.reduceAdd, Nat.reduceMul, ↓reduceIte, Int.reduceToNat, Int.reducePow, Int.reduceLT, Int.reduceLE, Int.reduceAdd, Int.reduceSub, Int.reduceMul, Int.reduceEq, Int.reduceNe, n1, n2]
    (repeat' first
    | (with_reducible refine Guard_split (fun h => ?_) (fun h => ?_) <;> (simp -implicitDefEqProofs -proj only [go_sem, Nat.reduceBEq, Nat.reduceLT, Nat.reduceLeDiff, Nat.reduceAdd, Nat.reduceMul, ↓reduceIte, Int.reduceToNat, Int.reducePow, Int.reduceLT, Int.reduceLE, Int.reduceAdd, Int.reduceSub, Int.reduceMul, Int.reduceEq, Int.reduceNe, *]; try (revert h; intro _)))
    | (with_reducible refine Cond_split (fun h => ?_) (fun h => ?_) <;> (simp -implicitDefEqProofs -proj only [go_sem, Nat.reduceBEq, Nat.reduceLT, Nat.reduceLeDiff, Nat.reduceAdd, Nat.reduceMul, ↓reduceIte, Int.reduceToNat, Int.reducePow, Int.reduceLT, Int.reduceLE, Int.reduceAdd, Int.reduceSub, Int.reduceMul, Int.reduceEq, Int.reduceNe, *]; try (revert h; intro _)))
    | (with_reducible refine Pick_split (fun h => ?_) (fun h => ?_) <;> (simp -implicitDefEqProofs -proj only [go_sem, Nat.reduceBEq, Nat.reduceLT, Nat.reduceLeDiff, Nat.reduceAdd, Nat.reduceMul, ↓reduceIte, Int.reduceToNat, Int.reducePow, Int.reduceLT, Int.reduceLE, Int.reduceAdd, Int.reduceSub, Int.reduceMul, Int.reduceEq, Int.reduceNe, *]; try (revert h; intro _)))
    | (with_reducible refine AllocA_intro (fun _ hb => ?_); simp only [upd_none, keepH_none, keepH_nil, Heap.none_get, and_true, true_and] at hb; simp -implicitDefEqProofs -proj only [go_sem, Nat.reduceBEq, Nat.reduceLT, Nat.reduceLeDiff, Nat.reduceAdd, Nat.reduceMul, ↓reduceIte, Int.reduceToNat, Int.reducePow, Int.reduceLT, Int.reduceLE, Int.reduceAdd, Int.reduceSub, Int.reduceMul, Int.reduceEq, Int.reduceNe, *]; try (revert hb; intro _))
    | (with_reducible refine AllocR_intro (fun _ hb => ?_); simp only [upd_none, keepH_none, keepH_nil, Heap.none_get, and_true, true_and] at hb; simp -implicitDefEqProofs -proj only [go_sem, Nat.reduceBEq, Nat.reduceLT, Nat.reduceLeDiff, Nat.reduceAdd, Nat.reduceMul, ↓reduceIte, Int.reduceToNat, Int.reducePow, Int.reduceLT, Int.reduceLE, Int.reduceAdd, Int.reduceSub, Int.reduceMul, Int.reduceEq, Int.reduceNe, *]; try (revert hb; intro _))
    | (with_reducible refine IdxE_1 _ rfl (by simp) ?_; simp -implicitDefEqProofs -proj only [go_sem, Nat.reduceBEq, Nat.reduceLT, Nat.reduceLeDiff, Nat.reduceAdd, Nat.reduceMul, ↓reduceIte, Int.reduceToNat, Int.reducePow, Int.reduceLT, Int.reduceLE, Int.reduceAdd, Int.reduceSub, Int.reduceMul, Int.reduceEq, Int.reduceNe, *])
    | (with_reducible refine IdxE_n _ rfl (by simp) ?_; simp -implicitDefEqProofs -proj only [go_sem, Nat.reduceBEq, Nat.reduceLT, Nat.reduceLeDiff, Nat.reduceAdd, Nat.reduceMul, ↓reduceIte, Int.reduceToNat, Int.reducePow, Int.reduceLT, Int.reduceLE, Int.reduceAdd, Int.reduceSub, Int.reduceMul, Int.reduceEq, Int.reduceNe, *])
    | (with_reducible refine VC_intro ?_ (fun h => ?_); (focus first | decide | omega); try clear h; try simp -implicitDefEqProofs -proj only [go_sem, Nat.reduceBEq, Nat.reduceLT, Nat.reduceLeDiff, Nat.reduceAdd, Nat.reduceMul, ↓reduceIte, Int.reduceToNat, Int.reducePow, Int.reduceLT, Int.reduceLE, Int.reduceAdd, Int.reduceSub, Int.reduceMul, Int.reduceEq, Int.reduceNe, *])
    | (with_reducible refine VC_intro ?_ (fun h => ?_); rotate_left; try clear h; try simp -implicitDefEqProofs -proj only [go_sem, Nat.reduceBEq, Nat.reduceLT, Nat.reduceLeDiff, Nat.reduceAdd, Nat.reduceMul, ↓reduceIte, Int.reduceToNat, Int.reducePow, Int.reduceLT, Int.reduceLE, Int.reduceAdd, Int.reduceSub, Int.reduceMul, Int.reduceEq, Int.reduceNe, *]; rotate_right))
    refine CallA_pure k0 ?_
    simp -implicitDefEqProofs -proj only [go_sem, Nat.reduceBEq, Nat.reduceLT, Nat.reduceLeDiff, Nat.reduceAdd, Nat.reduceMul, ↓reduceIte, Int.reduceToNat, Int.reducePow, Int.reduceLT, Int.reduceLE, Int.reduceAdd, Int.reduceSub, Int.reduceMul, Int.reduceEq, Int.reduceNe, n1, n2]
    (repeat' first
    | (with_reducible refine Guard_split (fun h => ?_) (fun h => ?_) <;> (simp -implicitDefEqProofs -proj only [go_sem, Nat.reduceBEq, Nat.reduceLT, Nat.reduceLeDiff, Nat.reduceAdd, Nat.reduceMul, ↓reduceIte, Int.reduceToNat, Int.reducePow, Int.reduceLT, Int.reduceLE, Int.reduceAdd, Int.reduceSub, Int.reduceMul, Int.reduceEq, Int.reduceNe, *]; try (revert h; intro _)))
    | (with_reducible refine Cond_split (fun h => ?_) (fun h => ?_) <;> (simp -implicitDefEqProofs -proj only [go_sem, Nat.reduceBEq, Nat.reduceLT, Nat.reduceLeDiff, Nat.reduceAdd, Nat.reduceMul, ↓reduceIte, Int.reduceToNat, Int.reducePow, Int.reduceLT, Int.reduceLE, Int.reduceAdd, Int.reduceSub, Int.reduceMul, Int.reduceEq, Int.reduceNe, *]; try (revert h; intro _)))
    | (with_reducible refine Pick_split (fun h => ?_) (fun h => ?_) <;> (simp -implicitDefEqProofs -proj only [go_sem, Nat.reduceBEq, Nat.reduceLT, Nat.reduceLeDiff, Nat.reduceAdd, Nat.reduceMul, ↓reduceIte, Int.reduceToNat, Int.reducePow, Int.reduceLT, Int.reduceLE, Int.reduceAdd, Int.reduceSub, Int.reduceMul, Int.reduceEq, Int.reduceNe, *]; try (revert h; intro _)))
    | (with_reducible refine AllocA_intro (fun _ hb => ?_); simp only [upd_none, keepH_none, keepH_nil, Heap.none_get, and_true, true_and] at hb; simp -implicitDefEqProofs -proj only [go_sem, Nat.reduceBEq, Nat.reduceLT, Nat.reduceLeDiff, Nat.reduceAdd, Nat.reduceMul, ↓reduceIte, Int.reduceToNat, Int.reducePow, Int.reduceLT, Int.reduceLE, Int.reduceAdd, Int.reduceSub, Int.reduceMul, Int.reduceEq, Int.reduceNe, *]; try (revert hb; intro _))
    | (with_reducible refine AllocR_intro (fun _ hb => ?_); simp only [upd_none, keepH_none, keepH_nil, Heap.none_get, and_true, true_and] at hb; simp -implicitDefEqProofs -proj only [go_sem, Nat.reduceBEq, Nat.reduceLT, Nat.reduceLeDiff, Nat.reduceAdd, Nat.reduceMul, ↓reduceIte, Int.reduceToNat, Int.reducePow, Int.reduceLT, Int.reduceLE, Int.reduceAdd, Int.reduceSub, Int.reduceMul, Int.reduceEq, Int.reduceNe, *]; try (revert hb; intro _))
    | (with_reducible refine IdxE_1 _ rfl (by simp) ?_; simp -implicitDefEqProofs -proj only [go_sem, Nat.reduceBEq, Nat.reduceLT, Nat.reduceLeDiff, Nat.reduceAdd, Nat.reduceMul, ↓reduceIte, Int.reduceToNat, Int.reducePow, Int.reduceLT, Int.reduceLE, Int.reduceAdd, Int.reduceSub, Int.reduceMul, Int.reduceEq, Int.reduceNe, *])
    | (with_reducible refine IdxE_n _ rfl (by simp) ?_; simp -implicitDefEqProofs -proj only [go_sem, Nat.reduceBEq, Nat.reduceLT, Nat.reduceLeDiff, Nat.reduceAdd, Nat.reduceMul, ↓reduceIte, Int.reduceToNat, Int.reducePow, Int.reduceLT, Int.reduceLE, Int.reduceAdd, Int.reduceSub, Int.reduceMul, Int.reduceEq, Int.reduceNe, *])
    | (with_reducible refine VC_intro ?_ (fun h => ?_); (focus first | decide | omega); try clear h; try simp -implicitDefEqProofs -proj only [go_sem, Nat.reduceBEq, Nat.reduceLT, Nat.reduceLeDiff, Nat.reduceAdd, Nat.reduceMul, ↓reduceIte, Int.reduceToNat, Int.reducePow, Int.reduceLT, Int.reduceLE, Int.reduceAdd, Int.reduceSub, Int.reduceMul, Int.reduceEq, Int.reduceNe, *])
    | (with_reducible refine VC_intro ?_ (fun h => ?_); rotate_left; try clear h; try simp -implicitDefEqProofs -proj only [go_sem, Nat.reduceBEq, Nat.reduceLT, Nat.reduceLeDiff, Nat.reduceAdd, Nat.reduceMul, ↓reduceIte, Int.reduceToNat, Int.reducePow, Int.reduceLT, Int.reduceLE, Int.reduceAdd, Int.reduceSub, Int.reduceMul, Int.reduceEq, Int.reduceNe, *]; rotate_right))
    refine next 1 _ (by omega) (by omega) rfl ?_ ?_
    · rw [ht]; simp -implicitDefEqProofs -proj only [go_sem, Nat.reduceBEq, Nat.reduceLT, Nat.reduceLeDiff, Nat.reduceAdd, Nat.reduceMul, ↓reduceIte, Int.reduceToNat, Int.reducePow, Int.reduceLT, Int.reduceLE, Int.reduceAdd, Int.reduceSub, Int.reduceMul, Int.reduceEq, Int.reduceNe, AllAt, IntKind.wrap_i64]; try (simp -implicitDefEqProofs only [← decide_not, ← Bool.decide_and, ← Bool.decide_or, Bool.beq_eq_decide_eq, AV.d.injEq, D.bool.injEq, D.int.injEq, D.str.injEq, AV.tup.injEq, AV.agg.injEq, List.cons.injEq, true_and, and_true, decide_eq_decide, true_eq_decide_iff, false_eq_decide_iff, decide_eq_true_eq, decide_eq_false_iff_not, Bool.true_eq, Bool.false_eq]; omega)
    · rw [hh, show mulN p u v 1 = m1 from hm]; simp -implicitDefEqProofs -proj only [go_sem, Nat.reduceBEq, Nat.reduceLT, Nat.reduceLeDiff, Nat.reduceAdd, Nat.reduceMul, ↓reduceIte, Int.reduceToNat, Int.reducePow, Int.reduceLT, Int.reduceLE, Int.reduceAdd, Int.reduceSub, Int.reduceMul, Int.reduceEq, Int.reduceNe, AllH, n1, n2, n3, n4, n5, n6, n7, n8, n9, n10, n11, m4, m6, m8]
  · generalize mulN p u v 1 = m0 at *
    generalize hm : mulN p u v (1 + 1) = m1 at *
    simp -implicitDefEqProofs -proj only [go_sem, Nat.reduceBEq, Nat.reduceLT, Nat.reduceLeDiff, Nat.reduceAdd, Nat.reduceMul, ↓reduceIte, Int.reduceToNat, Int.reducePow, Int.reduceLT, Int.reduceLE, Int.reduceAdd, Int.reduceSub, Int.reduceMul, Int.reduceEq, Int.reduceNe, n1, n2]
    (repeat' first
    | (with_reducible refine Guard_split (fun h => ?_) (fun h => ?_) <;> (simp -implicitDefEqProofs -proj only [go_sem, Nat.reduceBEq, Nat.reduceLT, Nat.reduceLeDiff, Nat.reduceAdd, Nat.reduceMul, ↓reduceIte, Int.reduceToNat, Int.reducePow, Int.reduceLT, Int.reduceLE, Int.reduceAdd, Int.reduceSub, Int.reduceMul, Int.reduceEq, Int.reduceNe, *]; try (revert h; intro _)))
    | (with_reducible refine Cond_split (fun h => ?_) (fun h => ?_) <;> (simp -implicitDefEqProofs -proj only [go_sem, Nat.reduceBEq, Nat.reduceLT, Nat.reduceLeDiff, Nat.reduceAdd, Nat.reduceMul, ↓reduceIte, Int.reduceToNat, Int.reducePow, Int.reduceLT, Int.reduceLE, Int.reduceAdd, Int.reduceSub, Int.reduceMul, Int.reduceEq, Int.reduceNe, *]; try (revert h; intro _)))
    | (with_reducible refine Pick_split (fun h => ?_) (fun h => ?_) <;> (simp -implicitDefEqProofs -proj only [go_sem, Nat.reduceBEq, Nat.reduceLT, Nat.reduceLeDiff, Nat.reduceAdd, Nat.reduceMul, ↓reduceIte, Int.reduceToNat, Int.reducePow, Int.reduceLT, Int.reduceLE, Int.reduceAdd, Int.reduceSub, Int.reduceMul, Int.reduceEq, Int.reduceNe, *]; try (revert h; intro _)))
    | (with_reducible refine AllocA_intro (fun _ hb => ?_); simp only [upd_none, keepH_none, keepH_nil, Heap.none_get, and_true, true_and] at hb; simp -implicitDefEqProofs -proj only [go_sem, Nat.reduceBEq, Nat.reduceLT, Nat.reduceLeDiff, Nat.reduceAdd, Nat.reduceMul, ↓reduceIte, Int.reduceToNat, Int.reducePow, Int.reduceLT, Int.reduceLE, Int.reduceAdd, Int.reduceSub, Int.reduceMul, Int.reduceEq, Int.reduceNe, *]; try (revert hb; intro _))
    | (with_reducible refine AllocR_intro (fun _ hb => ?_); simp only [upd_none, keepH_none, keepH_nil, Heap.none_get, and_true, true_and] at hb; simp -implicitDefEqProofs -proj only [go_sem, Nat.reduceBEq, Nat.reduceLT, Nat.reduceLeDiff, Nat.reduceAdd, Nat.reduceMul, ↓reduceIte, Int.reduceToNat, Int.reducePow, Int.reduceLT, Int.reduceLE, Int.reduceAdd, Int.reduceSub, Int.reduceMul, Int.reduceEq, Int.reduceNe, *]; try (revert hb; intro _))
    | (with_reducible refine IdxE_1 _ rfl (by simp) ?_; simp -implicitDefEqProofs -proj only [go_sem, Nat.reduceBEq, Nat.reduceLT, Nat.reduceLeDiff, Nat.reduceAdd, Nat.reduceMul, ↓reduceIte, Int.reduceToNat, Int.reducePow, Int.reduceLT, Int.reduceLE, Int.reduceAdd, Int.reduceSub, Int.reduceMul, Int.reduceEq, Int.reduceNe, *])
    | (with_reducible refine IdxE_n _ rfl (by simp) ?_; simp -implicitDefEqProofs -proj only [go_sem, Nat.reduceBEq, Nat.reduceLT, Nat.reduceLeDiff, Nat.reduceAdd, Nat.reduceMul, ↓reduceIte, Int.reduceToNat, Int.reducePow, Int.reduceLT, Int.reduceLE, Int.reduceAdd, Int.reduceSub, Int.reduceMul, Int.reduceEq, Int.reduceNe, *])
    | (with_reducible refine VC_intro ?_ (fun h => ?_); (focus first | decide | omega); try clear h; try simp -implicitDefEqProofs -proj only [go_sem, Nat.reduceBEq, Nat.reduceLT, Nat.reduceLeDiff, Nat.reduceAdd, Nat.reduceMul, ↓reduceIte, Int.reduceToNat, Int.reducePow, Int.reduceLT, Int.reduceLE, Int.reduceAdd, Int.reduceSub, Int.reduceMul, Int.reduceEq, Int.reduceNe, *])
    | (with_reducible refine VC_intro ?_ (fun h => ?_); rotate_left; try clear h; try simp -implicitDefEqProofs -proj only [go_sem, Nat.reduceBEq, Nat.reduceLT, Nat.reduceLeDiff, Nat.reduceAdd, Nat.reduceMul, ↓reduceIte, Int.reduceToNat, Int.reducePow, Int.reduceLT, Int.reduceLE, Int.reduceAdd, Int.reduceSub, Int.reduceMul, Int.reduceEq, Int.reduceNe, *]; rotate_right))
    refine CallA_pure k1 ?_
    simp -implicitDefEqProofs -proj only [go_sem, Nat.reduceBEq, Nat.reduceLT, Nat.reduceLeDiff, Nat.reduceAdd, Nat.reduceMul, ↓reduceIte, Int.reduceToNat, Int.reducePow, Int.reduceLT, Int.reduceLE, Int.reduceAdd, Int.reduceSub, Int.reduceMul, Int.reduceEq, Int.reduceNe, n1, n2]
    (repeat' first
    | (with_reducible refine Guard_split (fun h => ?_) (fun h => ?_) <;> (simp -implicitDefEqProofs -proj only [go_sem, Nat.reduceBEq, Nat.reduceLT, Nat.reduceLeDiff, Nat.reduceAdd, Nat.reduceMul, ↓reduceIte, Int.reduceToNat, Int.reducePow, Int.reduceLT, Int.reduceLE, Int.reduceAdd, Int.reduceSub, Int.reduceMul, Int.reduceEq, Int.reduceNe, *]; try (revert h; intro _)))
    | (with_reducible refine Cond_split (fun h => ?_) (fun h => ?_) <;> (simp -implicitDefEqProofs -proj only [go_sem, Nat.reduceBEq, Nat.reduceLT, Nat.reduceLeDiff, Nat.reduceAdd, Nat.reduceMul, ↓reduceIte, Int.reduceToNat, Int.reducePow, Int.reduceLT, Int.reduceLE, Int.reduceAdd, Int.reduceSub, Int.reduceMul, Int.reduceEq, Int.reduceNe, *]; try (revert h; intro _)))
    | (with_reducible refine Pick_split (fun h => ?_) (fun h => ?_) <;> (simp -implicitDefEqProofs -proj only [go_sem, Nat.reduceBEq, Nat.reduceLT, Nat.reduceLeDiff, Nat.reduceAdd, Nat.reduceMul, ↓reduceIte, Int.reduceToNat, Int.reducePow, Int.reduceLT, Int.reduceLE, Int.reduceAdd, Int.reduceSub, Int.reduceMul, Int.reduceEq, Int.reduceNe, *]; try (revert h; intro _)))
    | (with_reducible refine AllocA_intro (fun _ hb => ?_); simp only [upd_none, keepH_none, keepH_nil, Heap.none_get, and_true, true_and] at hb; simp -implicitDefEqProofs -proj only [go_sem, Nat.reduceBEq, Nat.reduceLT, Nat.reduceLeDiff, Nat.reduceAdd, Nat.reduceMul, ↓reduceIte, Int.reduceToNat, Int.reducePow, Int.reduceLT, Int.reduceLE, Int.reduceAdd, Int.reduceSub, Int.reduceMul, Int.reduceEq, Int.reduceNe, *]; try (revert hb; intro _))
    | (with_reducible refine AllocR_intro (fun _ hb => ?_); simp only [upd_none, keepH_none, keepH_nil, Heap.none_get, and_true, true_and] at hb; simp -implicitDefEqProofs -proj only [go_sem, Nat.reduceBEq, Nat.reduceLT, Nat.reduceLeDiff, Nat.reduceAdd, Nat.reduceMul, ↓reduceIte, Int.reduceToNat, Int.reducePow, Int.reduceLT, Int.reduceLE, Int.reduceAdd, Int.reduceSub, Int.reduceMul, Int.reduceEq, Int.reduceNe, *]; try (revert hb; intro _))
    | (with_reducible refine IdxE_1 _ rfl (by simp) ?_; simp -implicitDefEqProofs -proj only [go_sem, Nat.reduceBEq, Nat.reduceLT, Nat.reduceLeDiff, Nat.reduceAdd, Nat.reduceMul, ↓reduceIte, Int.reduceToNat, Int.reducePow, Int.reduceLT, Int.reduceLE, Int.reduceAdd, Int.reduceSub, Int.reduceMul, Int.reduceEq, Int.reduceNe, *])
    | (with_reducible refine IdxE_n _ rfl (by simp) ?_; simp -implicitDefEqProofs -proj only [go_sem, Nat.reduceBEq, Nat.reduceLT, Nat.reduceLeDiff, Nat.reduceAdd, Nat.reduceMul, ↓reduceIte, Int.reduceToNat, Int.reducePow, Int.reduceLT, Int.reduceLE, Int.reduceAdd, Int.reduceSub, Int.reduceMul, Int.reduceEq, Int.reduceNe, *])
    | (with_reducible refine VC_intro ?_ (fun h => ?_); (focus first | decide | omega); try clear h; try simp -implicitDefEqProofs -proj only [go_sem, Nat.reduceBEq, Nat.reduceLT, Nat.reduceLeDiff, Nat.reduceAdd, Nat.reduceMul, ↓reduceIte, Int.reduceToNat, Int.reducePow, Int.reduceLT, Int.reduceLE, Int.reduceAdd, Int.reduceSub, Int.reduceMul, Int.reduceEq, Int.reduceNe, *])
    | (with_reducible refine VC_intro ?_ (fun h => ?_); rotate_left; try clear h; try simp -implicitDefEqProofs -proj only [go_sem, Nat.reduceBEq, Nat.reduceLT, Nat.reduceLeDiff, Nat.reduceAdd, Nat.reduceMul, ↓reduceIte, Int.reduceToNat, Int.reducePow, Int.reduceLT, Int.reduceLE, Int.reduceAdd, Int.reduceSub, Int.reduceMul, Int.reduceEq, Int.reduceNe, *]; rotate_right))
    refine next 2 _ (by omega) (by omega) rfl ?_ ?_
    · rw [ht]; simp -implicitDefEqProofs -proj only [go_sem, Nat.reduceBEq, Nat.reduceLT, Nat.reduceLeDiff, Nat.reduceAdd, Nat.reduceMul, ↓reduceIte, Int.reduceToNat, Int.reducePow, Int.reduceLT, Int.reduceLE, Int.reduceAdd, Int.reduceSub, Int.reduceMul, Int.reduceEq, Int.reduceNe, AllAt, IntKind.wrap_i64]; try (simp -implicitDefEqProofs only [← decide_not, ← Bool.decide_and, ← Bool.decide_or, Bool.beq_eq_decide_eq, AV.d.injEq, D.bool.injEq, D.int.injEq, D.str.injEq, AV.tup.injEq, AV.agg.injEq, List.cons.injEq, true_and, and_true, decide_eq_decide, true_eq_decide_iff, false_eq_decide_iff, decide_eq_true_eq, decide_eq_false_iff_not, Bool.true_eq, Bool.false_eq]; omega)
    · rw [hh, show mulN p u v 2 = m1 from hm]; simp -implicitDefEqProofs -proj only [go_sem, Nat.reduceBEq, Nat.reduceLT, Nat.reduceLeDiff, Nat.reduceAdd, Nat.reduceMul, ↓reduceIte, Int.reduceToNat, Int.reducePow, Int.reduceLT, Int.reduceLE, Int.reduceAdd, Int.reduceSub, Int.reduceMul, Int.reduceEq, Int.reduceNe, AllH, n1, n2, n3, n4, n5, n6, n7, n8, n9, n10, n11, m4, m6, m8]
theorem prod_bound2 {x y : Int} (hx : Fit x) (hy : Fit y) : 0 ≤ (x.natAbs : Int) * y.natAbs ∧ (x.natAbs : Int) * y.natAbs ≤ 85070591730234615865843651857942052864 := by
  refine ⟨Int.mul_nonneg (by omega) (by omega), ?_⟩
  have := Int.mul_le_mul (a := (x.natAbs : Int)) (c := 9223372036854775808) (b := (y.natAbs : Int)) (d := 9223372036854775808) (by unfold Fit at hx; omega) (by unfold Fit at hy; omega) (by omega) (by omega)
  omega
theorem RMul_ok {x y : Int} (ha : Fit x) (hb : Fit y) : DataW Try.prog f_poundageref01_Mul [i64 x, i64 y] (wide (x * y)) := by
  have hx : ((x.natAbs : Int) % 18446744073709551616) = x.natAbs := by unfold Fit at ha; omega
  have hy : ((y.natAbs : Int) % 18446744073709551616) = y.natAbs := by unfold Fit at hb; omega
  refine CallW_intro comp_poundageref01_Mul (by simp) ?_
  simp -implicitDefEqProofs -proj only [go_sem, Nat.reduceBEq, Nat.reduceLT, Nat.reduceLeDiff, Nat.reduceAdd, Nat.reduceMul, ↓reduceIte, Int.reduceToNat, Int.reducePow, Int.reduceLT, Int.reduceLE, Int.reduceAdd, Int.reduceSub, Int.reduceMul, Int.reduceEq, Int.reduceNe]
  (repeat' first
    | (refine CallA_pure (ROf_ok ha) ?_; simp -implicitDefEqProofs -proj only [go_sem, Nat.reduceBEq, Nat.reduceLT, Nat.reduceLeDiff, Nat.reduceAdd, Nat.reduceMul, ↓reduceIte, Int.reduceToNat, Int.reducePow, Int.reduceLT, Int.reduceLE, Int.reduceAdd, Int.reduceSub, Int.reduceMul, Int.reduceEq, Int.reduceNe, *])
    | (refine PCallA_pure (ROf_ok ha) ?_; simp -implicitDefEqProofs -proj only [go_sem, Nat.reduceBEq, Nat.reduceLT, Nat.reduceLeDiff, Nat.reduceAdd, Nat.reduceMul, ↓reduceIte, Int.reduceToNat, Int.reducePow, Int.reduceLT, Int.reduceLE, Int.reduceAdd, Int.reduceSub, Int.reduceMul, Int.reduceEq, Int.reduceNe, *])
    | (refine CallA_pure (ROf_ok hb) ?_; simp -implicitDefEqProofs -proj only [go_sem, Nat.reduceBEq, Nat.reduceLT, Nat.reduceLeDiff, Nat.reduceAdd, Nat.reduceMul, ↓reduceIte, Int.reduceToNat, Int.reducePow, Int.reduceLT, Int.reduceLE, Int.reduceAdd, Int.reduceSub, Int.reduceMul, Int.reduceEq, Int.reduceNe, *])
    | (refine PCallA_pure (ROf_ok hb) ?_; simp -implicitDefEqProofs -proj only [go_sem, Nat.reduceBEq, Nat.reduceLT, Nat.reduceLeDiff, Nat.reduceAdd, Nat.reduceMul, ↓reduceIte, Int.reduceToNat, Int.reducePow, Int.reduceLT, Int.reduceLE, Int.reduceAdd, Int.reduceSub, Int.reduceMul, Int.reduceEq, Int.reduceNe, *])
    | (with_reducible refine Guard_split (fun h => ?_) (fun h => ?_) <;> (simp -implicitDefEqProofs -proj only [go_sem, Nat.reduceBEq, Nat.reduceLT, Nat.reduceLeDiff, Nat.reduceAdd, Nat.reduceMul, ↓reduceIte, Int.reduceToNat, Int.reducePow, Int.reduceLT, Int.reduceLE, Int.reduceAdd, Int.reduceSub, Int.reduceMul, Int.reduceEq, Int.reduceNe, *]; try (revert h; intro _)))
    | (with_reducible refine Cond_split (fun h => ?_) (fun h => ?_) <;> (simp -implicitDefEqProofs -proj only [go_sem, Nat.reduceBEq, Nat.reduceLT, Nat.reduceLeDiff, Nat.reduceAdd, Nat.reduceMul, ↓reduceIte, Int.reduceToNat, Int.reducePow, Int.reduceLT, Int.reduceLE, Int.reduceAdd, Int.reduceSub, Int.reduceMul, Int.reduceEq, Int.reduceNe, *]; try (revert h; intro _)))
    | (with_reducible refine Pick_split (fun h => ?_) (fun h => ?_) <;> (simp -implicitDefEqProofs -proj only [go_sem, Nat.reduceBEq, Nat.reduceLT, Nat.reduceLeDiff, Nat.reduceAdd, Nat.reduceMul, ↓reduceIte, Int.reduceToNat, Int.reducePow, Int.reduceLT, Int.reduceLE, Int.reduceAdd, Int.reduceSub, Int.reduceMul, Int.reduceEq, Int.reduceNe, *]; try (revert h; intro _)))
    | (with_reducible refine AllocA_intro (fun _ hb => ?_); simp -implicitDefEqProofs only [upd_none, keepH_none, keepH_nil, Heap.none_get, and_true, true_and] at hb; simp -implicitDefEqProofs -proj only [go_sem, Nat.reduceBEq, Nat.reduceLT, Nat.reduceLeDiff, Nat.reduceAdd, Nat.reduceMul, ↓reduceIte, Int.reduceToNat, Int.reducePow, Int.reduceLT, Int.reduceLE, Int.reduceAdd, Int.reduceSub, Int.reduceMul, Int.reduceEq, Int.reduceNe, *]; try (revert hb; intro _))
    | (with_reducible refine AllocR_intro (fun _ hb => ?_); simp -implicitDefEqProofs only [upd_none, keepH_none, keepH_nil, Heap.none_get, and_true, true_and] at hb; simp -implicitDefEqProofs -proj only [go_sem, Nat.reduceBEq, Nat.reduceLT, Nat.reduceLeDiff, Nat.reduceAdd, Nat.reduceMul, ↓reduceIte, Int.reduceToNat, Int.reducePow, Int.reduceLT, Int.reduceLE, Int.reduceAdd, Int.reduceSub, Int.reduceMul, Int.reduceEq, Int.reduceNe, *]; try (revert hb; intro _))
    | (with_reducible refine IdxE_1 _ rfl (by simp) ?_; simp -implicitDefEqProofs -proj only [go_sem, Nat.reduceBEq, Nat.reduceLT, Nat.reduceLeDiff, Nat.reduceAdd, Nat.reduceMul, ↓reduceIte, Int.reduceToNat, Int.reducePow, Int.reduceLT, Int.reduceLE, Int.reduceAdd, Int.reduceSub, Int.reduceMul, Int.reduceEq, Int.reduceNe, *])
    | (with_reducible refine IdxE_n _ rfl (by simp) ?_; simp -implicitDefEqProofs -proj only [go_sem, Nat.reduceBEq, Nat.reduceLT, Nat.reduceLeDiff, Nat.reduceAdd, Nat.reduceMul, ↓reduceIte, Int.reduceToNat, Int.reducePow, Int.reduceLT, Int.reduceLE, Int.reduceAdd, Int.reduceSub, Int.reduceMul, Int.reduceEq, Int.reduceNe, *])
    | (with_reducible refine VC_intro ?_ (fun h => ?_); (focus first | decide | omega); try clear h; try simp -implicitDefEqProofs -proj only [go_sem, Nat.reduceBEq, Nat.reduceLT, Nat.reduceLeDiff, Nat.reduceAdd, Nat.reduceMul, ↓reduceIte, Int.reduceToNat, Int.reducePow, Int.reduceLT, Int.reduceLE, Int.reduceAdd, Int.reduceSub, Int.reduceMul, Int.reduceEq, Int.reduceNe, *])
    | (with_reducible refine VC_intro ?_ (fun h => ?_); rotate_left; try clear h; try simp -implicitDefEqProofs -proj only [go_sem, Nat.reduceBEq, Nat.reduceLT, Nat.reduceLeDiff, Nat.reduceAdd, Nat.reduceMul, ↓reduceIte, Int.reduceToNat, Int.reducePow, Int.reduceLT, Int.reduceLE, Int.reduceAdd, Int.reduceSub, Int.reduceMul, Int.reduceEq, Int.reduceNe, *]; rotate_right))
  simp -implicitDefEqProofs -proj only [go_sem, Nat.reduceBEq, Nat.reduceLT, Nat.reduceLeDiff, Nat.reduceAdd, Nat.reduceMul, ↓reduceIte, Int.reduceToNat, Int.reducePow, Int.reduceLT, Int.reduceLE, Int.reduceAdd, Int.reduceSub, Int.reduceMul, Int.reduceEq, Int.reduceNe, hx, hy, shr32, mod32 (Int.natCast_nonneg _), *]
  (repeat' first
    | (refine CallA_pure (ROf_ok ha) ?_; simp -implicitDefEqProofs -proj only [go_sem, Nat.reduceBEq, Nat.reduceLT, Nat.reduceLeDiff, Nat.reduceAdd, Nat.reduceMul, ↓reduceIte, Int.reduceToNat, Int.reducePow, Int.reduceLT, Int.reduceLE, Int.reduceAdd, Int.reduceSub, Int.reduceMul, Int.reduceEq, Int.reduceNe, *])
    | (refine PCallA_pure (ROf_ok ha) ?_; simp -implicitDefEqProofs -proj only [go_sem, Nat.reduceBEq, Nat.reduceLT, Nat.reduceLeDiff, Nat.reduceAdd, Nat.reduceMul, ↓reduceIte, Int.reduceToNat, Int.reducePow, Int.reduceLT, Int.reduceLE, Int.reduceAdd, Int.reduceSub, Int.reduceMul, Int.reduceEq, Int.reduceNe, *])
    | (refine CallA_pure (ROf_ok hb) ?_; simp -implicitDefEqProofs -proj only [go_sem, Nat.reduceBEq, Nat.reduceLT, Nat.reduceLeDiff, Nat.reduceAdd, Nat.reduceMul, ↓reduceIte, Int.reduceToNat, Int.reducePow, Int.reduceLT, Int.reduceLE, Int.reduceAdd, Int.reduceSub, Int.reduceMul, Int.reduceEq, Int.reduceNe, *])
    | (refine PCallA_pure (ROf_ok hb) ?_; simp -implicitDefEqProofs -proj only [go_sem, Nat.reduceBEq, Nat.reduceLT, Nat.reduceLeDiff, Nat.reduceAdd, Nat.reduceMul, ↓reduceIte, Int.reduceToNat, Int.reducePow, Int.reduceLT, Int.reduceLE, Int.reduceAdd, Int.reduceSub, Int.reduceMul, Int.reduceEq, Int.reduceNe, *])
    | (with_reducible refine Guard_split (fun h => ?_) (fun h => ?_) <;> (simp -implicitDefEqProofs -proj only [go_sem, Nat.reduceBEq, Nat.reduceLT, Nat.reduceLeDiff, Nat.reduceAdd, Nat.reduceMul, ↓reduceIte, Int.reduceToNat, Int.reducePow, Int.reduceLT, Int.reduceLE, Int.reduceAdd, Int.reduceSub, Int.reduceMul, Int.reduceEq, Int.reduceNe, *]; try (revert h; intro _)))
    | (with_reducible refine Cond_split (fun h => ?_) (fun h => ?_) <;> (simp -implicitDefEqProofs -proj only [go_sem, Nat.reduceBEq, Nat.reduceLT, Nat.reduceLeDiff, Nat.reduceAdd, Nat.reduceMul, ↓reduceIte, Int.reduceToNat, Int.reducePow, Int.reduceLT, Int.reduceLE, Int.reduceAdd, Int.reduceSub, Int.reduceMul, Int.reduceEq, Int.reduceNe, *]; try (revert h; intro _)))
    | (with_reducible refine Pick_split (fun h => ?_) (fun h => ?_) <;> (simp -implicitDefEqProofs -proj only [go_sem, Nat.reduceBEq, Nat.reduceLT, Nat.reduceLeDiff, Nat.reduceAdd, Nat.reduceMul, ↓reduceIte, Int.reduceToNat, Int.reducePow, Int.reduceLT, Int.reduceLE, Int.reduceAdd, Int.reduceSub, Int.reduceMul, Int.reduceEq, Int.reduceNe, *]; try (revert h; intro _)))
    | (with_reducible refine AllocA_intro (fun _ hb => ?_); simp -implicitDefEqProofs only [upd_none, keepH_none, keepH_nil, Heap.none_get, and_true, true_and] at hb; simp -implicitDefEqProofs -proj only [go_sem, Nat.reduceBEq, Nat.reduceLT, Nat.reduceLeDiff, Nat.reduceAdd, Nat.reduceMul, ↓reduceIte, Int.reduceToNat, Int.reducePow, Int.reduceLT, Int.reduceLE, Int.reduceAdd, Int.reduceSub, Int.reduceMul, Int.reduceEq, Int.reduceNe, *]; try (revert hb; intro _))
    | (with_reducible refine AllocR_intro (fun _ hb => ?_); simp -implicitDefEqProofs only [upd_none, keepH_none, keepH_nil, Heap.none_get, and_true, true_and] at hb; simp -implicitDefEqProofs -proj only [go_sem, Nat.reduceBEq, Nat.reduceLT, Nat.reduceLeDiff, Nat.reduceAdd, Nat.reduceMul, ↓reduceIte, Int.reduceToNat, Int.reducePow, Int.reduceLT, Int.reduceLE, Int.reduceAdd, Int.reduceSub, Int.reduceMul, Int.reduceEq, Int.reduceNe, *]; try (revert hb; intro _))
    | (with_reducible refine IdxE_1 _ rfl (by simp) ?_; simp -implicitDefEqProofs -proj only [go_sem, Nat.reduceBEq, Nat.reduceLT, Nat.reduceLeDiff, Nat.reduceAdd, Nat.reduceMul, ↓reduceIte, Int.reduceToNat, Int.reducePow, Int.reduceLT, Int.reduceLE, Int.reduceAdd, Int.reduceSub, Int.reduceMul, Int.reduceEq, Int.reduceNe, *])
    | (with_reducible refine IdxE_n _ rfl (by simp) ?_; simp -implicitDefEqProofs -proj only [go_sem, Nat.reduceBEq, Nat.reduceLT, Nat.reduceLeDiff, Nat.reduceAdd, Nat.reduceMul, ↓reduceIte, Int.reduceToNat, Int.reducePow, Int.reduceLT, Int.reduceLE, Int.reduceAdd, Int.reduceSub, Int.reduceMul, Int.reduceEq, Int.reduceNe, *])
    | (with_reducible refine VC_intro ?_ (fun h => ?_); (focus first | decide | omega); try clear h; try simp -implicitDefEqProofs -proj only [go_sem, Nat.reduceBEq, Nat.reduceLT, Nat.reduceLeDiff, Nat.reduceAdd, Nat.reduceMul, ↓reduceIte, Int.reduceToNat, Int.reducePow, Int.reduceLT, Int.reduceLE, Int.reduceAdd, Int.reduceSub, Int.reduceMul, Int.reduceEq, Int.reduceNe, *])
    | (with_reducible refine VC_intro ?_ (fun h => ?_); rotate_left; try clear h; try simp -implicitDefEqProofs -proj only [go_sem, Nat.reduceBEq, Nat.reduceLT, Nat.reduceLeDiff, Nat.reduceAdd, Nat.reduceMul, ↓reduceIte, Int.reduceToNat, Int.reducePow, Int.reduceLT, Int.reduceLE, Int.reduceAdd, Int.reduceSub, Int.reduceMul, Int.reduceEq, Int.reduceNe, *]; rotate_right))
  next b4 _ b5 hb5 b6 hb6 b11 hb11 br hbr =>
  have hp := prod_bound (x := x.natAbs / 4294967296) (y := y.natAbs / 4294967296) (by unfold Fit at ha; omega) (by unfold Fit at hb; omega)
  have hq := prod_bound (x := x.natAbs % 4294967296) (y := y.natAbs % 4294967296) (by unfold Fit at ha; omega) (by unfold Fit at hb; omega)
  have hr := prod_bound (x := x.natAbs % 4294967296) (y := y.natAbs / 4294967296) (by unfold Fit at ha; omega) (by unfold Fit at hb; omega)
  have ht := prod_bound (x := x.natAbs / 4294967296) (y := y.natAbs % 4294967296) (by unfold Fit at ha; omega) (by unfold Fit at hb; omega)
  have hm := mulM_2 x.natAbs y.natAbs
  have hxy := prod_bound2 ha hb
  have hn : (x.natAbs : Int) * y.natAbs = (x * y).natAbs := by rw [Int.natAbs_mul]; rfl
  have hs := mul_lt0 x y
  rw [hn] at hm hxy
  simp -implicitDefEqProofs only [mulM] at hm
  have hz : (x * y).natAbs = 0 ↔ x * y = 0 := Int.natAbs_eq_zero
  generalize (x * y).natAbs = N at *
  generalize hmn : x * y = mn at *
  generalize x.natAbs / (4294967296 : Int) * (y.natAbs / (4294967296 : Int)) = P at *
  generalize x.natAbs % (4294967296 : Int) * (y.natAbs % (4294967296 : Int)) = q at *
  generalize x.natAbs % (4294967296 : Int) * (y.natAbs / (4294967296 : Int)) = u at *
  generalize x.natAbs / (4294967296 : Int) * (y.natAbs % (4294967296 : Int)) = v at *
  obtain ⟨tl, htl⟩ : ∃ tl : Nat → List (Nat × AV), ∀ i : Nat, tl i = [(43, .own br 1 0 2 2), (44, i64 2), (45, i64 i), (11, .ptr b11 0), (4, .ptr b4 0), (5, .ptr b5 0), (6, .ptr b6 0)] := ⟨_, fun _ => rfl⟩
  obtain ⟨hl, hhl⟩ : ∃ hl : Nat → List (Nat × Blk), ∀ i : Nat, hl i = [(br, .row 75 1 2 [[.int .u64 u], [.int .u64 v]]), (b11, .box 94 [bv false, u64 (mulN (P * 18446744073709551616 + q) u v i / 18446744073709551616), u64 (mulN (P * 18446744073709551616 + q) u v i % 18446744073709551616)]),
      (b4, .box 94 [bv false, u64 0, u64 0]), (b5, .box 94 [bv (decide (x < 0)), u64 (↑x.natAbs / 18446744073709551616), u64 ↑x.natAbs]), (b6, .box 94 [bv (decide (y < 0)), u64 (↑y.natAbs / 18446744073709551616), u64 ↑y.natAbs])] := ⟨_, fun _ => rfl⟩
  refine LoopA_k (fun i : Nat => i ≤ 2) 69 tl hl
    (fun i => 2 - i) 0 (by omega) rfl ?_ ?_ ?_
  · rw [htl]; simp -implicitDefEqProofs -proj only [go_sem, Nat.reduceBEq, Nat.reduceLT, Nat.reduceLeDiff, Nat.reduceAdd, Nat.reduceMul, ↓reduceIte, Int.reduceToNat, Int.reducePow, Int.reduceLT, Int.reduceLE, Int.reduceAdd, Int.reduceSub, Int.reduceMul, Int.reduceEq, Int.reduceNe, AllAt]
  · rw [hhl, mulN_0]; simp -implicitDefEqProofs -proj only [go_sem, Nat.reduceBEq, Nat.reduceLT, Nat.reduceLeDiff, Nat.reduceAdd, Nat.reduceMul, ↓reduceIte, Int.reduceToNat, Int.reducePow, Int.reduceLT, Int.reduceLE, Int.reduceAdd, Int.reduceSub, Int.reduceMul, Int.reduceEq, Int.reduceNe, AllH, *]
    simp -implicitDefEqProofs only [wU, Option.some.injEq, Blk.box.injEq, Blk.row.injEq, ← decide_not, ← Bool.decide_and, ← Bool.decide_or, Bool.beq_eq_decide_eq, AV.d.injEq, D.bool.injEq, D.int.injEq, D.str.injEq, AV.tup.injEq, AV.agg.injEq, List.cons.injEq, true_and, and_true, decide_eq_decide, true_eq_decide_iff, false_eq_decide_iff, decide_eq_true_eq, decide_eq_false_iff_not, Bool.true_eq, Bool.false_eq]
    omega
  · intro i hi
    by_cases hi2 : i ≤ 1
    · refine RMul_round (p := P * 18446744073709551616 + q) (by omega) hr ht ?_ ?_ ?_ ?_ ?_ ?_ ?_ ?_ ?_ ?_ ?_ ?_ ?_ ?_ ?_ htl hhl hi2
      · rw [mulN_2, hm]; unfold Big; omega
      all_goals simp -implicitDefEqProofs only [hb5, hb6, hb11, hbr, not_false_eq_true]
    · have hi : i = 2 := by omega
      subst hi
      rw [htl, hhl, mulN_2, hm]
      simp -implicitDefEqProofs -proj only [go_sem, Nat.reduceBEq, Nat.reduceLT, Nat.reduceLeDiff, Nat.reduceAdd, Nat.reduceMul, ↓reduceIte, Int.reduceToNat, Int.reducePow, Int.reduceLT, Int.reduceLE, Int.reduceAdd, Int.reduceSub, Int.reduceMul, Int.reduceEq, Int.reduceNe, hb5, hb6, hb11, hbr]
      (repeat' first
    | (refine CallA_pure (RZero_ok (m := N) (by unfold Big; omega)) ?_; simp -implicitDefEqProofs -proj only [go_sem, Nat.reduceBEq, Nat.reduceLT, Nat.reduceLeDiff, Nat.reduceAdd, Nat.reduceMul, ↓reduceIte, Int.reduceToNat, Int.reducePow, Int.reduceLT, Int.reduceLE, Int.reduceAdd, Int.reduceSub, Int.reduceMul, Int.reduceEq, Int.reduceNe, *])
    | (refine PCallA_pure (RZero_ok (m := N) (by unfold Big; omega)) ?_; simp -implicitDefEqProofs -proj only [go_sem, Nat.reduceBEq, Nat.reduceLT, Nat.reduceLeDiff, Nat.reduceAdd, Nat.reduceMul, ↓reduceIte, Int.reduceToNat, Int.reducePow, Int.reduceLT, Int.reduceLE, Int.reduceAdd, Int.reduceSub, Int.reduceMul, Int.reduceEq, Int.reduceNe, *])
    | (with_reducible refine Guard_split (fun h => ?_) (fun h => ?_) <;> (simp -implicitDefEqProofs -proj only [go_sem, Nat.reduceBEq, Nat.reduceLT, Nat.reduceLeDiff, Nat.reduceAdd, Nat.reduceMul, ↓reduceIte, Int.reduceToNat, Int.reducePow, Int.reduceLT, Int.reduceLE, Int.reduceAdd, Int.reduceSub, Int.reduceMul, Int.reduceEq, Int.reduceNe, *]; try (revert h; intro _)))
    | (with_reducible refine Cond_split (fun h => ?_) (fun h => ?_) <;> (simp -implicitDefEqProofs -proj only [go_sem, Nat.reduceBEq, Nat.reduceLT, Nat.reduceLeDiff, Nat.reduceAdd, Nat.reduceMul, ↓reduceIte, Int.reduceToNat, Int.reducePow, Int.reduceLT, Int.reduceLE, Int.reduceAdd, Int.reduceSub, Int.reduceMul, Int.reduceEq, Int.reduceNe, *]; try (revert h; intro _)))
    | (with_reducible refine Pick_split (fun h => ?_) (fun h => ?_) <;> (simp -implicitDefEqProofs -proj only [go_sem, Nat.reduceBEq, Nat.reduceLT, Nat.reduceLeDiff, Nat.reduceAdd, Nat.reduceMul, ↓reduceIte, Int.reduceToNat, Int.reducePow, Int.reduceLT, Int.reduceLE, Int.reduceAdd, Int.reduceSub, Int.reduceMul, Int.reduceEq, Int.reduceNe, *]; try (revert h; intro _)))
    | (with_reducible refine AllocA_intro (fun _ hb => ?_); simp -implicitDefEqProofs only [upd_none, keepH_none, keepH_nil, Heap.none_get, and_true, true_and] at hb; simp -implicitDefEqProofs -proj only [go_sem, Nat.reduceBEq, Nat.reduceLT, Nat.reduceLeDiff, Nat.reduceAdd, Nat.reduceMul, ↓reduceIte, Int.reduceToNat, Int.reducePow, Int.reduceLT, Int.reduceLE, Int.reduceAdd, Int.reduceSub, Int.reduceMul, Int.reduceEq, Int.reduceNe, *]; try (revert hb; intro _))
    | (with_reducible refine AllocR_intro (fun _ hb => ?_); simp -implicitDefEqProofs only [upd_none, keepH_none, keepH_nil, Heap.none_get, and_true, true_and] at hb; simp -implicitDefEqProofs -proj only [go_sem, Nat.reduceBEq, Nat.reduceLT, Nat.reduceLeDiff, Nat.reduceAdd, Nat.reduceMul, ↓reduceIte, Int.reduceToNat, Int.reducePow, Int.reduceLT, Int.reduceLE, Int.reduceAdd, Int.reduceSub, Int.reduceMul, Int.reduceEq, Int.reduceNe, *]; try (revert hb; intro _))
    | (with_reducible refine IdxE_1 _ rfl (by simp) ?_; simp -implicitDefEqProofs -proj only [go_sem, Nat.reduceBEq, Nat.reduceLT, Nat.reduceLeDiff, Nat.reduceAdd, Nat.reduceMul, ↓reduceIte, Int.reduceToNat, Int.reducePow, Int.reduceLT, Int.reduceLE, Int.reduceAdd, Int.reduceSub, Int.reduceMul, Int.reduceEq, Int.reduceNe, *])
    | (with_reducible refine IdxE_n _ rfl (by simp) ?_; simp -implicitDefEqProofs -proj only [go_sem, Nat.reduceBEq, Nat.reduceLT, Nat.reduceLeDiff, Nat.reduceAdd, Nat.reduceMul, ↓reduceIte, Int.reduceToNat, Int.reducePow, Int.reduceLT, Int.reduceLE, Int.reduceAdd, Int.reduceSub, Int.reduceMul, Int.reduceEq, Int.reduceNe, *])
    | (with_reducible refine VC_intro ?_ (fun h => ?_); (focus first | decide | omega); try clear h; try simp -implicitDefEqProofs -proj only [go_sem, Nat.reduceBEq, Nat.reduceLT, Nat.reduceLeDiff, Nat.reduceAdd, Nat.reduceMul, ↓reduceIte, Int.reduceToNat, Int.reducePow, Int.reduceLT, Int.reduceLE, Int.reduceAdd, Int.reduceSub, Int.reduceMul, Int.reduceEq, Int.reduceNe, *])
    | (with_reducible refine VC_intro ?_ (fun h => ?_); rotate_left; try clear h; try simp -implicitDefEqProofs -proj only [go_sem, Nat.reduceBEq, Nat.reduceLT, Nat.reduceLeDiff, Nat.reduceAdd, Nat.reduceMul, ↓reduceIte, Int.reduceToNat, Int.reducePow, Int.reduceLT, Int.reduceLE, Int.reduceAdd, Int.reduceSub, Int.reduceMul, Int.reduceEq, Int.reduceNe, *]; rotate_right))
      all_goals
        refine LendV_eq ?_
        simp -implicitDefEqProofs only [decide_eq_true_eq, decide_eq_false_iff_not, Bool.not_eq_true', Bool.not_eq_false', Bool.and_eq_true, Bool.and_eq_false_iff, Bool.or_eq_true, Bool.or_eq_false_iff, beq_iff_eq, beq_eq_false_iff_ne, ne_eq, decide_eq_decide, Bool.not_eq_true, Bool.not_eq_false] at *
        simp -implicitDefEqProofs only [← decide_not, ← Bool.decide_and, ← Bool.decide_or, Bool.beq_eq_decide_eq, AV.d.injEq, D.bool.injEq, D.int.injEq, D.str.injEq, AV.tup.injEq, AV.agg.injEq, List.cons.injEq, true_and, and_true, decide_eq_decide, true_eq_decide_iff, false_eq_decide_iff, decide_eq_true_eq, decide_eq_false_iff_not, Bool.true_eq, Bool.false_eq]
        first
        | exact ⟨fun h' => ⟨by assumption, by omega⟩, fun h' => by omega⟩
        | exact fun h' => h'.1 (by assumption)
        | omega
theorem prod_small {x y : Int} (hx : Fit x) (hy : Fit y) : (x * y).natAbs ≤ 85070591730234615865843651857942052864 := by
  have h := prod_bound2 hx hy
  have : (x.natAbs : Int) * y.natAbs = (x * y).natAbs := by rw [Int.natAbs_mul]; rfl
  omega
end
section
attribute [local go_sem] mag wide
theorem Less_ok {x y : Int} (hx : x.natAbs ≤ 85070591730234615865843651857942052864) (hy : y.natAbs ≤ 85070591730234615865843651857942052864) : DataW Try.prog f_poundageref01_Less [wide x, wide y] (bv (decide (x < y))) := by
  have h1 := ROpp_ok (n := y) (by unfold Big; omega)
  have h2 := RAdd_ok (a := x) (b := -y) (by omega) (by omega)
  refine CallW_intro comp_poundageref01_Less (by simp) ?_
  simp -implicitDefEqProofs -proj only [go_sem, Nat.reduceBEq, Nat.reduceLT, Nat.reduceLeDiff, Nat.reduceAdd, Nat.reduceMul, ↓reduceIte, Int.reduceToNat, Int.reducePow, Int.reduceLT, Int.reduceLE, Int.reduceAdd, Int.reduceSub, Int.reduceMul, Int.reduceEq, Int.reduceNe]
  (repeat' first
    | (with_reducible refine Guard_split (fun h => ?_) (fun h => ?_) <;> (simp -implicitDefEqProofs -proj only [go_sem, Nat.reduceBEq, Nat.reduceLT, Nat.reduceLeDiff, Nat.reduceAdd, Nat.reduceMul, ↓reduceIte, Int.reduceToNat, Int.reducePow, Int.reduceLT, Int.reduceLE, Int.reduceAdd, Int.reduceSub, Int.reduceMul, Int.reduceEq, Int.reduceNe, *]; try (revert h; intro _)))
    | (with_reducible refine Cond_split (fun h => ?_) (fun h => ?_) <;> (simp -implicitDefEqProofs -proj only [go_sem, Nat.reduceBEq, Nat.reduceLT, Nat.reduceLeDiff, Nat.reduceAdd, Nat.reduceMul, ↓reduceIte, Int.reduceToNat, Int.reducePow, Int.reduceLT, Int.reduceLE, Int.reduceAdd, Int.reduceSub, Int.reduceMul, Int.reduceEq, Int.reduceNe, *]; try (revert h; intro _)))
    | (with_reducible refine Pick_split (fun h => ?_) (fun h => ?_) <;> (simp -implicitDefEqProofs -proj only [go_sem, Nat.reduceBEq, Nat.reduceLT, Nat.reduceLeDiff, Nat.reduceAdd, Nat.reduceMul, ↓reduceIte, Int.reduceToNat, Int.reducePow, Int.reduceLT, Int.reduceLE, Int.reduceAdd, Int.reduceSub, Int.reduceMul, Int.reduceEq, Int.reduceNe, *]; try (revert h; intro _)))
    | (with_reducible refine AllocA_intro (fun _ hb => ?_); simp only [upd_none, keepH_none, keepH_nil, Heap.none_get, and_true, true_and] at hb; simp -implicitDefEqProofs -proj only [go_sem, Nat.reduceBEq, Nat.reduceLT, Nat.reduceLeDiff, Nat.reduceAdd, Nat.reduceMul, ↓reduceIte, Int.reduceToNat, Int.reducePow, Int.reduceLT, Int.reduceLE, Int.reduceAdd, Int.reduceSub, Int.reduceMul, Int.reduceEq, Int.reduceNe, *]; try (revert hb; intro _))
    | (with_reducible refine AllocR_intro (fun _ hb => ?_); simp only [upd_none, keepH_none, keepH_nil, Heap.none_get, and_true, true_and] at hb; simp -implicitDefEqProofs -proj only [go_sem, Nat.reduceBEq, Nat.reduceLT, Nat.reduceLeDiff, Nat.reduceAdd, Nat.reduceMul, ↓reduceIte, Int.reduceToNat, Int.reducePow, Int.reduceLT, Int.reduceLE, Int.reduceAdd, Int.reduceSub, Int.reduceMul, Int.reduceEq, Int.reduceNe, *]; try (revert hb; intro _))
    | (with_reducible refine IdxE_1 _ rfl (by simp) ?_; simp -implicitDefEqProofs -proj only [go_sem, Nat.reduceBEq, Nat.reduceLT, Nat.reduceLeDiff, Nat.reduceAdd, Nat.reduceMul, ↓reduceIte, Int.reduceToNat, Int.reducePow, Int.reduceLT, Int.reduceLE, Int.reduceAdd, Int.reduceSub, Int.reduceMul, Int.reduceEq, Int.reduceNe, *])
    | (with_reducible refine IdxE_n _ rfl (by simp) ?_; simp -implicitDefEqProofs -proj only [go_sem, Nat.reduceBEq, Nat.reduceLT, Nat.reduceLeDiff, Nat.reduceAdd, Nat.reduceMul, ↓reduceIte, Int.reduceToNat, Int.reducePow, Int.reduceLT, Int.reduceLE, Int.reduceAdd, Int.reduceSub, Int.reduceMul, Int.reduceEq, Int.reduceNe, *])
    | (with_reducible refine VC_intro ?_ (fun h => ?_); (focus first | decide | omega); try clear h; try simp -implicitDefEqProofs -proj only [go_sem, Nat.reduceBEq, Nat.reduceLT, Nat.reduceLeDiff, Nat.reduceAdd, Nat.reduceMul, ↓reduceIte, Int.reduceToNat, Int.reducePow, Int.reduceLT, Int.reduceLE, Int.reduceAdd, Int.reduceSub, Int.reduceMul, Int.reduceEq, Int.reduceNe, *])
    | (with_reducible refine VC_intro ?_ (fun h => ?_); rotate_left; try clear h; try simp -implicitDefEqProofs -proj only [go_sem, Nat.reduceBEq, Nat.reduceLT, Nat.reduceLeDiff, Nat.reduceAdd, Nat.reduceMul, ↓reduceIte, Int.reduceToNat, Int.reducePow, Int.reduceLT, Int.reduceLE, Int.reduceAdd, Int.reduceSub, Int.reduceMul, Int.reduceEq, Int.reduceNe, *]; rotate_right))
  refine PCallA_pure h1 ?_
  simp -implicitDefEqProofs -proj only [go_sem, Nat.reduceBEq, Nat.reduceLT, Nat.reduceLeDiff, Nat.reduceAdd, Nat.reduceMul, ↓reduceIte, Int.reduceToNat, Int.reducePow, Int.reduceLT, Int.reduceLE, Int.reduceAdd, Int.reduceSub, Int.reduceMul, Int.reduceEq, Int.reduceNe, *]
  (repeat' first
    | (with_reducible refine Guard_split (fun h => ?_) (fun h => ?_) <;> (simp -implicitDefEqProofs -proj only [go_sem, Nat.reduceBEq, Nat.reduceLT, Nat.reduceLeDiff, Nat.reduceAdd, Nat.reduceMul, ↓reduceIte, Int.reduceToNat, Int.reducePow, Int.reduceLT, Int.reduceLE, Int.reduceAdd, Int.reduceSub, Int.reduceMul, Int.reduceEq, Int.reduceNe, *]; try (revert h; intro _)))
    | (with_reducible refine Cond_split (fun h => ?_) (fun h => ?_) <;> (simp -implicitDefEqProofs -proj only [go_sem, Nat.reduceBEq, Nat.reduceLT, Nat.reduceLeDiff, Nat.reduceAdd, Nat.reduceMul, ↓reduceIte, Int.reduceToNat, Int.reducePow, Int.reduceLT, Int.reduceLE, Int.reduceAdd, Int.reduceSub, Int.reduceMul, Int.reduceEq, Int.reduceNe, *]; try (revert h; intro _)))
    | (with_reducible refine Pick_split (fun h => ?_) (fun h => ?_) <;> (simp -implicitDefEqProofs -proj only [go_sem, Nat.reduceBEq, Nat.reduceLT, Nat.reduceLeDiff, Nat.reduceAdd, Nat.reduceMul, ↓reduceIte, Int.reduceToNat, Int.reducePow, Int.reduceLT, Int.reduceLE, Int.reduceAdd, Int.reduceSub, Int.reduceMul, Int.reduceEq, Int.reduceNe, *]; try (revert h; intro _)))
    | (with_reducible refine AllocA_intro (fun _ hb => ?_); simp only [upd_none, keepH_none, keepH_nil, Heap.none_get, and_true, true_and] at hb; simp -implicitDefEqProofs -proj only [go_sem, Nat.reduceBEq, Nat.reduceLT, Nat.reduceLeDiff, Nat.reduceAdd, Nat.reduceMul, ↓reduceIte, Int.reduceToNat, Int.reducePow, Int.reduceLT, Int.reduceLE, Int.reduceAdd, Int.reduceSub, Int.reduceMul, Int.reduceEq, Int.reduceNe, *]; try (revert hb; intro _))
    | (with_reducible refine AllocR_intro (fun _ hb => ?_); simp only [upd_none, keepH_none, keepH_nil, Heap.none_get, and_true, true_and] at hb; simp -implicitDefEqProofs -proj only [go_sem, Nat.reduceBEq, Nat.reduceLT, Nat.reduceLeDiff, Nat.reduceAdd, Nat.reduceMul, ↓reduceIte, Int.reduceToNat, Int.reducePow, Int.reduceLT, Int.reduceLE, Int.reduceAdd, Int.reduceSub, Int.reduceMul, Int.reduceEq, Int.reduceNe, *]; try (revert hb; intro _))
    | (with_reducible refine IdxE_1 _ rfl (by simp) ?_; simp -implicitDefEqProofs -proj only [go_sem, Nat.reduceBEq, Nat.reduceLT, Nat.reduceLeDiff, Nat.reduceAdd, Nat.reduceMul, ↓reduceIte, Int.reduceToNat, Int.reducePow, Int.reduceLT, Int.reduceLE, Int.reduceAdd, Int.reduceSub, Int.reduceMul, Int.reduceEq, Int.reduceNe, *])
    | (with_reducible refine IdxE_n _ rfl (by simp) ?_; simp -implicitDefEqProofs -proj only [go_sem, Nat.reduceBEq, Nat.reduceLT, Nat.reduceLeDiff, Nat.reduceAdd, Nat.reduceMul, ↓reduceIte, Int.reduceToNat, Int.reducePow, Int.reduceLT, Int.reduceLE, Int.reduceAdd, Int.reduceSub, Int.reduceMul, Int.reduceEq, Int.reduceNe, *])
    | (with_reducible refine VC_intro ?_ (fun h => ?_); (focus first | decide | omega); try clear h; try simp -implicitDefEqProofs -proj only [go_sem, Nat.reduceBEq, Nat.reduceLT, Nat.reduceLeDiff, Nat.reduceAdd, Nat.reduceMul, ↓reduceIte, Int.reduceToNat, Int.reducePow, Int.reduceLT, Int.reduceLE, Int.reduceAdd, Int.reduceSub, Int.reduceMul, Int.reduceEq, Int.reduceNe, *])
    | (with_reducible refine VC_intro ?_ (fun h => ?_); rotate_left; try clear h; try simp -implicitDefEqProofs -proj only [go_sem, Nat.reduceBEq, Nat.reduceLT, Nat.reduceLeDiff, Nat.reduceAdd, Nat.reduceMul, ↓reduceIte, Int.reduceToNat, Int.reducePow, Int.reduceLT, Int.reduceLE, Int.reduceAdd, Int.reduceSub, Int.reduceMul, Int.reduceEq, Int.reduceNe, *]; rotate_right))
  refine PCallA_pure h2 ?_
  simp -implicitDefEqProofs -proj only [go_sem, Nat.reduceBEq, Nat.reduceLT, Nat.reduceLeDiff, Nat.reduceAdd, Nat.reduceMul, ↓reduceIte, Int.reduceToNat, Int.reducePow, Int.reduceLT, Int.reduceLE, Int.reduceAdd, Int.reduceSub, Int.reduceMul, Int.reduceEq, Int.reduceNe, *]
  (repeat' first
    | (with_reducible refine Guard_split (fun h => ?_) (fun h => ?_) <;> (simp -implicitDefEqProofs -proj only [go_sem, Nat.reduceBEq, Nat.reduceLT, Nat.reduceLeDiff, Nat.reduceAdd, Nat.reduceMul, ↓reduceIte, Int.reduceToNat, Int.reducePow, Int.reduceLT, Int.reduceLE, Int.reduceAdd, Int.reduceSub, Int.reduceMul, Int.reduceEq, Int.reduceNe, *]; try (revert h; intro _)))
    | (with_reducible refine Cond_split (fun h => ?_) (fun h => ?_) <;> (simp -implicitDefEqProofs -proj only [go_sem, Nat.reduceBEq, Nat.reduceLT, Nat.reduceLeDiff, Nat.reduceAdd, Nat.reduceMul, ↓reduceIte, Int.reduceToNat, Int.reducePow, Int.reduceLT, Int.reduceLE, Int.reduceAdd, Int.reduceSub, Int.reduceMul, Int.reduceEq, Int.reduceNe, *]; try (revert h; intro _)))
    | (with_reducible refine Pick_split (fun h => ?_) (fun h => ?_) <;> (simp -implicitDefEqProofs -proj only [go_sem, Nat.reduceBEq, Nat.reduceLT, Nat.reduceLeDiff, Nat.reduceAdd, Nat.reduceMul, ↓reduceIte, Int.reduceToNat, Int.reducePow, Int.reduceLT, Int.reduceLE, Int.reduceAdd, Int.reduceSub, Int.reduceMul, Int.reduceEq, Int.reduceNe, *]; try (revert h; intro _)))
    | (with_reducible refine AllocA_intro (fun _ hb => ?_); simp only [upd_none, keepH_none, keepH_nil, Heap.none_get, and_true, true_and] at hb; simp -implicitDefEqProofs -proj only [go_sem, Nat.reduceBEq, Nat.reduceLT, Nat.reduceLeDiff, Nat.reduceAdd, Nat.reduceMul, ↓reduceIte, Int.reduceToNat, Int.reducePow, Int.reduceLT, Int.reduceLE, Int.reduceAdd, Int.reduceSub, Int.reduceMul, Int.reduceEq, Int.reduceNe, *]; try (revert hb; intro _))
    | (with_reducible refine AllocR_intro (fun _ hb => ?_); simp only [upd_none, keepH_none, keepH_nil, Heap.none_get, and_true, true_and] at hb; simp -implicitDefEqProofs -proj only [go_sem, Nat.reduceBEq, Nat.reduceLT, Nat.reduceLeDiff, Nat.reduceAdd, Nat.reduceMul, ↓reduceIte, Int.reduceToNat, Int.reducePow, Int.reduceLT, Int.reduceLE, Int.reduceAdd, Int.reduceSub, Int.reduceMul, Int.reduceEq, Int.reduceNe, *]; try (revert hb; intro _))
    | (with_reducible refine IdxE_1 _ rfl (by simp) ?_; simp -implicitDefEqProofs -proj only [go_sem, Nat.reduceBEq, Nat.reduceLT, Nat.reduceLeDiff, Nat.reduceAdd, Nat.reduceMul, ↓reduceIte, Int.reduceToNat, Int.reducePow, Int.reduceLT, Int.reduceLE, Int.reduceAdd, Int.reduceSub, Int.reduceMul, Int.reduceEq, Int.reduceNe, *])
    | (with_reducible refine IdxE_n _ rfl (by simp) ?_; simp -implicitDefEqProofs -proj only [go_sem, Nat.reduceBEq, Nat.reduceLT, Nat.reduceLeDiff, Nat.reduceAdd, Nat.reduceMul, ↓reduceIte, Int.reduceToNat, Int.reducePow, Int.reduceLT, Int.reduceLE, Int.reduceAdd, Int.reduceSub, Int.reduceMul, Int.reduceEq, Int.reduceNe, *])
    | (with_reducible refine VC_intro ?_ (fun h => ?_); (focus first | decide | omega); try clear h; try simp -implicitDefEqProofs -proj only [go_sem, Nat.reduceBEq, Nat.reduceLT, Nat.reduceLeDiff, Nat.reduceAdd, Nat.reduceMul, ↓reduceIte, Int.reduceToNat, Int.reducePow, Int.reduceLT, Int.reduceLE, Int.reduceAdd, Int.reduceSub, Int.reduceMul, Int.reduceEq, Int.reduceNe, *])
    | (with_reducible refine VC_intro ?_ (fun h => ?_); rotate_left; try clear h; try simp -implicitDefEqProofs -proj only [go_sem, Nat.reduceBEq, Nat.reduceLT, Nat.reduceLeDiff, Nat.reduceAdd, Nat.reduceMul, ↓reduceIte, Int.reduceToNat, Int.reducePow, Int.reduceLT, Int.reduceLE, Int.reduceAdd, Int.reduceSub, Int.reduceMul, Int.reduceEq, Int.reduceNe, *]; rotate_right))
  refine LendV_eq ?_
  simp -implicitDefEqProofs only [← decide_not, ← Bool.decide_and, ← Bool.decide_or, Bool.beq_eq_decide_eq, AV.d.injEq, D.bool.injEq, D.int.injEq, D.str.injEq, AV.tup.injEq, AV.agg.injEq, List.cons.injEq, true_and, and_true, decide_eq_decide, true_eq_decide_iff, false_eq_decide_iff, decide_eq_true_eq, decide_eq_false_iff_not, Bool.true_eq, Bool.false_eq]
  omega
theorem under_ok {n c p : Int} (hn : Fit n) (hc : Fit c) (hp : p.natAbs ≤ 85070591730234615865843651857942052864) : DataW Try.prog f_poundageref02_under [i64 n, i64 c, wide p] (bv (decide (n * c ≤ p))) := by
  have h1 := RMul_ok hn hc
  have hq := prod_small hn hc
  have h2 := Less_ok hp hq
  generalize n * c = z at *
  refine CallW_intro comp_poundageref02_under (by simp) ?_
  simp -implicitDefEqProofs -proj only [go_sem, Nat.reduceBEq, Nat.reduceLT, Nat.reduceLeDiff, Nat.reduceAdd, Nat.reduceMul, ↓reduceIte, Int.reduceToNat, Int.reducePow, Int.reduceLT, Int.reduceLE, Int.reduceAdd, Int.reduceSub, Int.reduceMul, Int.reduceEq, Int.reduceNe]
  (repeat' first
    | (with_reducible refine Guard_split (fun h => ?_) (fun h => ?_) <;> (simp -implicitDefEqProofs -proj only [go_sem, Nat.reduceBEq, Nat.reduceLT, Nat.reduceLeDiff, Nat.reduceAdd, Nat.reduceMul, ↓reduceIte, Int.reduceToNat, Int.reducePow, Int.reduceLT, Int.reduceLE, Int.reduceAdd, Int.reduceSub, Int.reduceMul, Int.reduceEq, Int.reduceNe, *]; try (revert h; intro _)))
    | (with_reducible refine Cond_split (fun h => ?_) (fun h => ?_) <;> (simp -implicitDefEqProofs -proj only [go_sem, Nat.reduceBEq, Nat.reduceLT, Nat.reduceLeDiff, Nat.reduceAdd, Nat.reduceMul, ↓reduceIte, Int.reduceToNat, Int.reducePow, Int.reduceLT, Int.reduceLE, Int.reduceAdd, Int.reduceSub, Int.reduceMul, Int.reduceEq, Int.reduceNe, *]; try (revert h; intro _)))
    | (with_reducible refine Pick_split (fun h => ?_) (fun h => ?_) <;> (simp -implicitDefEqProofs -proj only [go_sem, Nat.reduceBEq, Nat.reduceLT, Nat.reduceLeDiff, Nat.reduceAdd, Nat.reduceMul, ↓reduceIte, Int.reduceToNat, Int.reducePow, Int.reduceLT, Int.reduceLE, Int.reduceAdd, Int.reduceSub, Int.reduceMul, Int.reduceEq, Int.reduceNe, *]; try (revert h; intro _)))
    | (with_reducible refine AllocA_intro (fun _ hb => ?_); simp only [upd_none, keepH_none, keepH_nil, Heap.none_get, and_true, true_and] at hb; simp -implicitDefEqProofs -proj only [go_sem, Nat.reduceBEq, Nat.reduceLT, Nat.reduceLeDiff, Nat.reduceAdd, Nat.reduceMul, ↓reduceIte, Int.reduceToNat, Int.reducePow, Int.reduceLT, Int.reduceLE, Int.reduceAdd, Int.reduceSub, Int.reduceMul, Int.reduceEq, Int.reduceNe, *]; try (revert hb; intro _))
    | (with_reducible refine AllocR_intro (fun _ hb => ?_); simp only [upd_none, keepH_none, keepH_nil, Heap.none_get, and_true, true_and] at hb; simp -implicitDefEqProofs -proj only [go_sem, Nat.reduceBEq, Nat.reduceLT, Nat.reduceLeDiff, Nat.reduceAdd, Nat.reduceMul, ↓reduceIte, Int.reduceToNat, Int.reducePow, Int.reduceLT, Int.reduceLE, Int.reduceAdd, Int.reduceSub, Int.reduceMul, Int.reduceEq, Int.reduceNe, *]; try (revert hb; intro _))
    | (with_reducible refine IdxE_1 _ rfl (by simp) ?_; simp -implicitDefEqProofs -proj only [go_sem, Nat.reduceBEq, Nat.reduceLT, Nat.reduceLeDiff, Nat.reduceAdd, Nat.reduceMul, ↓reduceIte, Int.reduceToNat, Int.reducePow, Int.reduceLT, Int.reduceLE, Int.reduceAdd, Int.reduceSub, Int.reduceMul, Int.reduceEq, Int.reduceNe, *])
    | (with_reducible refine IdxE_n _ rfl (by simp) ?_; simp -implicitDefEqProofs -proj only [go_sem, Nat.reduceBEq, Nat.reduceLT, Nat.reduceLeDiff, Nat.reduceAdd, Nat.reduceMul, ↓reduceIte, Int.reduceToNat, Int.reducePow, Int.reduceLT, Int.reduceLE, Int.reduceAdd, Int.reduceSub, Int.reduceMul, Int.reduceEq, Int.reduceNe, *])
    | (with_reducible refine VC_intro ?_ (fun h => ?_); (focus first | decide | omega); try clear h; try simp -implicitDefEqProofs -proj only [go_sem, Nat.reduceBEq, Nat.reduceLT, Nat.reduceLeDiff, Nat.reduceAdd, Nat.reduceMul, ↓reduceIte, Int.reduceToNat, Int.reducePow, Int.reduceLT, Int.reduceLE, Int.reduceAdd, Int.reduceSub, Int.reduceMul, Int.reduceEq, Int.reduceNe, *])
    | (with_reducible refine VC_intro ?_ (fun h => ?_); rotate_left; try clear h; try simp -implicitDefEqProofs -proj only [go_sem, Nat.reduceBEq, Nat.reduceLT, Nat.reduceLeDiff, Nat.reduceAdd, Nat.reduceMul, ↓reduceIte, Int.reduceToNat, Int.reducePow, Int.reduceLT, Int.reduceLE, Int.reduceAdd, Int.reduceSub, Int.reduceMul, Int.reduceEq, Int.reduceNe, *]; rotate_right))
  refine PCallA_pure h1 ?_
  simp -implicitDefEqProofs -proj only [go_sem, Nat.reduceBEq, Nat.reduceLT, Nat.reduceLeDiff, Nat.reduceAdd, Nat.reduceMul, ↓reduceIte, Int.reduceToNat, Int.reducePow, Int.reduceLT, Int.reduceLE, Int.reduceAdd, Int.reduceSub, Int.reduceMul, Int.reduceEq, Int.reduceNe, *]
  (repeat' first
    | (refine CallA_pure (h2) ?_; simp -implicitDefEqProofs -proj only [go_sem, Nat.reduceBEq, Nat.reduceLT, Nat.reduceLeDiff, Nat.reduceAdd, Nat.reduceMul, ↓reduceIte, Int.reduceToNat, Int.reducePow, Int.reduceLT, Int.reduceLE, Int.reduceAdd, Int.reduceSub, Int.reduceMul, Int.reduceEq, Int.reduceNe, *])
    | (refine PCallA_pure (h2) ?_; simp -implicitDefEqProofs -proj only [go_sem, Nat.reduceBEq, Nat.reduceLT, Nat.reduceLeDiff, Nat.reduceAdd, Nat.reduceMul, ↓reduceIte, Int.reduceToNat, Int.reducePow, Int.reduceLT, Int.reduceLE, Int.reduceAdd, Int.reduceSub, Int.reduceMul, Int.reduceEq, Int.reduceNe, *])
    | (with_reducible refine Guard_split (fun h => ?_) (fun h => ?_) <;> (simp -implicitDefEqProofs -proj only [go_sem, Nat.reduceBEq, Nat.reduceLT, Nat.reduceLeDiff, Nat.reduceAdd, Nat.reduceMul, ↓reduceIte, Int.reduceToNat, Int.reducePow, Int.reduceLT, Int.reduceLE, Int.reduceAdd, Int.reduceSub, Int.reduceMul, Int.reduceEq, Int.reduceNe, *]; try (revert h; intro _)))
    | (with_reducible refine Cond_split (fun h => ?_) (fun h => ?_) <;> (simp -implicitDefEqProofs -proj only [go_sem, Nat.reduceBEq, Nat.reduceLT, Nat.reduceLeDiff, Nat.reduceAdd, Nat.reduceMul, ↓reduceIte, Int.reduceToNat, Int.reducePow, Int.reduceLT, Int.reduceLE, Int.reduceAdd, Int.reduceSub, Int.reduceMul, Int.reduceEq, Int.reduceNe, *]; try (revert h; intro _)))
    | (with_reducible refine Pick_split (fun h => ?_) (fun h => ?_) <;> (simp -implicitDefEqProofs -proj only [go_sem, Nat.reduceBEq, Nat.reduceLT, Nat.reduceLeDiff, Nat.reduceAdd, Nat.reduceMul, ↓reduceIte, Int.reduceToNat, Int.reducePow, Int.reduceLT, Int.reduceLE, Int.reduceAdd, Int.reduceSub, Int.reduceMul, Int.reduceEq, Int.reduceNe, *]; try (revert h; intro _)))
    | (with_reducible refine AllocA_intro (fun _ hb => ?_); simp -implicitDefEqProofs only [upd_none, keepH_none, keepH_nil, Heap.none_get, and_true, true_and] at hb; simp -implicitDefEqProofs -proj only [go_sem, Nat.reduceBEq, Nat.reduceLT, Nat.reduceLeDiff, Nat.reduceAdd, Nat.reduceMul, ↓reduceIte, Int.reduceToNat, Int.reducePow, Int.reduceLT, Int.reduceLE, Int.reduceAdd, Int.reduceSub, Int.reduceMul, Int.reduceEq, Int.reduceNe, *]; try (revert hb; intro _))
    | (with_reducible refine AllocR_intro (fun _ hb => ?_); simp -implicitDefEqProofs only [upd_none, keepH_none, keepH_nil, Heap.none_get, and_true, true_and] at hb; simp -implicitDefEqProofs -proj only [go_sem, Nat.reduceBEq, Nat.reduceLT, Nat.reduceLeDiff, Nat.reduceAdd, Nat.reduceMul, ↓reduceIte, Int.reduceToNat, Int.reducePow, Int.reduceLT, Int.reduceLE, Int.reduceAdd, Int.reduceSub, Int.reduceMul, Int.reduceEq, Int.reduceNe, *]; try (revert hb; intro _))
    | (with_reducible refine IdxE_1 _ rfl (by simp) ?_; simp -implicitDefEqProofs -proj only [go_sem, Nat.reduceBEq, Nat.reduceLT, Nat.reduceLeDiff, Nat.reduceAdd, Nat.reduceMul, ↓reduceIte, Int.reduceToNat, Int.reducePow, Int.reduceLT, Int.reduceLE, Int.reduceAdd, Int.reduceSub, Int.reduceMul, Int.reduceEq, Int.reduceNe, *])
    | (with_reducible refine IdxE_n _ rfl (by simp) ?_; simp -implicitDefEqProofs -proj only [go_sem, Nat.reduceBEq, Nat.reduceLT, Nat.reduceLeDiff, Nat.reduceAdd, Nat.reduceMul, ↓reduceIte, Int.reduceToNat, Int.reducePow, Int.reduceLT, Int.reduceLE, Int.reduceAdd, Int.reduceSub, Int.reduceMul, Int.reduceEq, Int.reduceNe, *])
    | (with_reducible refine VC_intro ?_ (fun h => ?_); (focus first | decide | omega); try clear h; try simp -implicitDefEqProofs -proj only [go_sem, Nat.reduceBEq, Nat.reduceLT, Nat.reduceLeDiff, Nat.reduceAdd, Nat.reduceMul, ↓reduceIte, Int.reduceToNat, Int.reducePow, Int.reduceLT, Int.reduceLE, Int.reduceAdd, Int.reduceSub, Int.reduceMul, Int.reduceEq, Int.reduceNe, *])
    | (with_reducible refine VC_intro ?_ (fun h => ?_); rotate_left; try clear h; try simp -implicitDefEqProofs -proj only [go_sem, Nat.reduceBEq, Nat.reduceLT, Nat.reduceLeDiff, Nat.reduceAdd, Nat.reduceMul, ↓reduceIte, Int.reduceToNat, Int.reducePow, Int.reduceLT, Int.reduceLE, Int.reduceAdd, Int.reduceSub, Int.reduceMul, Int.reduceEq, Int.reduceNe, *]; rotate_right))
  refine LendV_eq ?_
  simp -implicitDefEqProofs only [← decide_not, ← Bool.decide_and, ← Bool.decide_or, Bool.beq_eq_decide_eq, AV.d.injEq, D.bool.injEq, D.int.injEq, D.str.injEq, AV.tup.injEq, AV.agg.injEq, List.cons.injEq, true_and, and_true, decide_eq_decide, true_eq_decide_iff, false_eq_decide_iff, decide_eq_true_eq, decide_eq_false_iff_not, Bool.true_eq, Bool.false_eq]
  omega
/-- What the document's Floor answers. -/
def floorR (p c : Int) : AV := if -9223372036854775808 * c ≤ p then .tup [i64 (capQ p c), bv true] else .tup [i64 0, bv false]
theorem cap_fit {p c : Int} (hc : 0 < c) (h : -9223372036854775808 * c ≤ p) : Fit (capQ p c) := by
  have h1 := (cap_le (p := p) (n := -9223372036854775808) hc (by omega)).2 h
  unfold Fit
  refine ⟨h1, ?_⟩
  unfold capQ
  split <;> omega
theorem step_next {low P nx : Int} (h : nx = IntKind.i64.wrap (IntKind.u64.wrap (IntKind.u64.wrap low + P))) (hl : Fit low) (hP : 1 ≤ P ∧ P ≤ 9223372036854775808) : (low + P ≤ 9223372036854775807 → nx = low + P) ∧ (9223372036854775807 < low + P → nx < low) := by
  rw [IntKind.wrap_i64, IntKind.wrap_u64, IntKind.wrap_u64] at h
  unfold Fit at hl
  omega
theorem pow_two (j : Nat) (h : 0 < j) (h2 : j ≤ 64) : ∃ P : Int, (2 : Int) ^ (j - 1) = P ∧ (2 : Int) ^ j = 2 * P ∧ 1 ≤ P ∧ P ≤ 9223372036854775808 := by
  refine ⟨_, rfl, ?_, ?_, ?_⟩
  · conv => lhs; rw [show j = j - 1 + 1 by omega, Int.pow_succ, Int.mul_comm]
  · have := pow_pos2 (j - 1); omega
  · have := pow_le (show j - 1 ≤ 63 by omega)
    have e : (2 : Int) ^ 63 = 9223372036854775808 := rfl
    omega
set_option maxRecDepth 20000 in
set_option maxHeartbeats 2000000 in
theorem Floor_ok {p c : Int} (hc0 : 0 < c) (hc : Fit c) (hp : p.natAbs ≤ 85070591730234615865843651857942052864) : DataW Try.prog f_poundageref02_Floor [wide p, i64 c] (floorR p c) := by
  have h1 := under_ok (n := -9223372036854775808) (c := c) (p := p) (by decide) hc hp
  refine CallW_intro comp_poundageref02_Floor (by simp) ?_
  by_cases h : -9223372036854775808 * c ≤ p
  · rw [floorR, if_pos h]
    rw [decide_eq_true h] at h1
    simp -implicitDefEqProofs -proj only [go_sem, Nat.reduceBEq, Nat.reduceLT, Nat.reduceLeDiff, Nat.reduceAdd, Nat.reduceMul, ↓reduceIte, Int.reduceToNat, Int.reducePow, Int.reduceLT, Int.reduceLE, Int.reduceAdd, Int.reduceSub, Int.reduceMul, Int.reduceEq, Int.reduceNe]
    refine AllocA_intro (fun b hb => ?_)
    simp -implicitDefEqProofs -proj only [go_sem, Nat.reduceBEq, Nat.reduceLT, Nat.reduceLeDiff, Nat.reduceAdd, Nat.reduceMul, ↓reduceIte, Int.reduceToNat, Int.reducePow, Int.reduceLT, Int.reduceLE, Int.reduceAdd, Int.reduceSub, Int.reduceMul, Int.reduceEq, Int.reduceNe]
    refine CallA_pure h1 ?_
    simp -implicitDefEqProofs -proj only [go_sem, Nat.reduceBEq, Nat.reduceLT, Nat.reduceLeDiff, Nat.reduceAdd, Nat.reduceMul, ↓reduceIte, Int.reduceToNat, Int.reducePow, Int.reduceLT, Int.reduceLE, Int.reduceAdd, Int.reduceSub, Int.reduceMul, Int.reduceEq, Int.reduceNe]
    have hf := cap_fit hc0 h
    have hle := fun n hn => cap_le (p := p) (c := c) (n := n) hc0 hn
    clear h1 h
    generalize capQ p c = T at *
    refine LoopA_k (fun x : Nat × Int => x.1 ≤ 64 ∧ Fit x.2 ∧ x.2 ≤ T ∧ T < x.2 + 2 ^ x.1) 39 (fun x => [(2, .ptr b 0), (1, i64 c), (6, i64 x.2), (7, i64 ((x.1 : Int) - 1))])
      (fun _ => [(b, .box 94 [bv (decide (p < 0)), u64 ((p.natAbs : Int) / 18446744073709551616), u64 ((p.natAbs : Int) % 18446744073709551616)])]) (fun x => x.1) (64, -9223372036854775808) ⟨by simp -implicitDefEqProofs only [Fst_mk]; omega, by decide, by unfold Fit at hf; simp -implicitDefEqProofs only [Snd_mk]; omega, by unfold Fit at hf; simp -implicitDefEqProofs only [Snd_mk, Fst_mk]; omega⟩ rfl ?_ ?_ ?_
    · simp -implicitDefEqProofs -proj only [go_sem, Nat.reduceBEq, Nat.reduceLT, Nat.reduceLeDiff, Nat.reduceAdd, Nat.reduceMul, ↓reduceIte, Int.reduceToNat, Int.reducePow, Int.reduceLT, Int.reduceLE, Int.reduceAdd, Int.reduceSub, Int.reduceMul, Int.reduceEq, Int.reduceNe, AllAt]
    · simp -implicitDefEqProofs -proj only [go_sem, Nat.reduceBEq, Nat.reduceLT, Nat.reduceLeDiff, Nat.reduceAdd, Nat.reduceMul, ↓reduceIte, Int.reduceToNat, Int.reducePow, Int.reduceLT, Int.reduceLE, Int.reduceAdd, Int.reduceSub, Int.reduceMul, Int.reduceEq, Int.reduceNe, AllH]
    · rintro ⟨j, low⟩ ⟨i1, i2, i3, i4⟩
      simp -implicitDefEqProofs only [Fst_mk, Snd_mk] at i1 i2 i3 i4
      by_cases hj : 0 < j
      · obtain ⟨P, e1, e2, e3, e4⟩ := pow_two j hj i1
        have w1 : IntKind.u64.wrap ((j : Int) - 1) = ((j - 1 : Nat) : Int) := by rw [wrapU_in (by omega)]; omega
        have w2 : IntKind.u64.wrap P = P := wrapU_in (by omega)
        have w3 : IntKind.i64.wrap ((j : Int) - 1 - 1) = ((j - 1 : Nat) : Int) - 1 := by rw [IntKind.wrap_i64]; omega
        have hk : j - 1 ≤ 64 := by omega
        obtain ⟨nx, hnx⟩ : ∃ nx, nx = IntKind.i64.wrap (IntKind.u64.wrap (IntKind.u64.wrap low + P)) := ⟨_, rfl⟩
        obtain ⟨n1, n2⟩ := step_next hnx i2 ⟨e3, e4⟩
        have hle2 := hle nx
        simp -implicitDefEqProofs -proj only [go_sem, Nat.reduceBEq, Nat.reduceLT, Nat.reduceLeDiff, Nat.reduceAdd, Nat.reduceMul, ↓reduceIte, Int.reduceToNat, Int.reducePow, Int.reduceLT, Int.reduceLE, Int.reduceAdd, Int.reduceSub, Int.reduceMul, Int.reduceEq, Int.reduceNe, decide_eq_true (show 0 ≤ (j : Int) - 1 by omega), w1, w2, w3, Int.toNat_natCast, hk, e1, Int.one_mul]
        (repeat' (with_reducible refine VC_intro ?_ (fun h => ?_); (focus first | decide | omega); clear h; try simp -implicitDefEqProofs -proj only [go_sem, Nat.reduceBEq, Nat.reduceLT, Nat.reduceLeDiff, Nat.reduceAdd, Nat.reduceMul, ↓reduceIte, Int.reduceToNat, Int.reducePow, Int.reduceLT, Int.reduceLE, Int.reduceAdd, Int.reduceSub, Int.reduceMul, Int.reduceEq, Int.reduceNe, w1, w2, w3, Int.toNat_natCast, hk, e1, Int.one_mul, ← hnx]))
        by_cases hb2 : low + P ≤ 9223372036854775807
        · have hn := n1 hb2
          have hu := under_ok (n := nx) (c := c) (p := p) (by unfold Fit at *; omega) hc hp
          simp -implicitDefEqProofs -proj only [go_sem, Nat.reduceBEq, Nat.reduceLT, Nat.reduceLeDiff, Nat.reduceAdd, Nat.reduceMul, ↓reduceIte, Int.reduceToNat, Int.reducePow, Int.reduceLT, Int.reduceLE, Int.reduceAdd, Int.reduceSub, Int.reduceMul, Int.reduceEq, Int.reduceNe, ← hnx, decide_eq_true (show low < nx by omega)]
          refine CallA_pure hu ?_
          by_cases hv : nx * c ≤ p
          · have := (hle2 (by omega)).2 hv
            simp -implicitDefEqProofs -proj only [go_sem, Nat.reduceBEq, Nat.reduceLT, Nat.reduceLeDiff, Nat.reduceAdd, Nat.reduceMul, ↓reduceIte, Int.reduceToNat, Int.reducePow, Int.reduceLT, Int.reduceLE, Int.reduceAdd, Int.reduceSub, Int.reduceMul, Int.reduceEq, Int.reduceNe, ← hnx, decide_eq_true hv]
            refine LoopQ_k (j - 1, nx) ⟨by simp -implicitDefEqProofs only [Fst_mk]; omega, by unfold Fit at *; simp -implicitDefEqProofs only [Snd_mk]; omega, by simp -implicitDefEqProofs only [Snd_mk]; omega, by simp -implicitDefEqProofs only [Fst_mk, Snd_mk]; rw [e1]; omega⟩ (by simp -implicitDefEqProofs only [Fst_mk]; omega) rfl ?_ ?_
            · simp -implicitDefEqProofs -proj only [go_sem, Nat.reduceBEq, Nat.reduceLT, Nat.reduceLeDiff, Nat.reduceAdd, Nat.reduceMul, ↓reduceIte, Int.reduceToNat, Int.reducePow, Int.reduceLT, Int.reduceLE, Int.reduceAdd, Int.reduceSub, Int.reduceMul, Int.reduceEq, Int.reduceNe, AllAt, w3]
            · simp -implicitDefEqProofs -proj only [go_sem, Nat.reduceBEq, Nat.reduceLT, Nat.reduceLeDiff, Nat.reduceAdd, Nat.reduceMul, ↓reduceIte, Int.reduceToNat, Int.reducePow, Int.reduceLT, Int.reduceLE, Int.reduceAdd, Int.reduceSub, Int.reduceMul, Int.reduceEq, Int.reduceNe, AllH]
          · have : ¬ nx ≤ T := fun h => hv ((hle2 (by omega)).1 h)
            simp -implicitDefEqProofs -proj only [go_sem, Nat.reduceBEq, Nat.reduceLT, Nat.reduceLeDiff, Nat.reduceAdd, Nat.reduceMul, ↓reduceIte, Int.reduceToNat, Int.reducePow, Int.reduceLT, Int.reduceLE, Int.reduceAdd, Int.reduceSub, Int.reduceMul, Int.reduceEq, Int.reduceNe, ← hnx, decide_eq_false hv]
            refine LoopQ_k (j - 1, low) ⟨by simp -implicitDefEqProofs only [Fst_mk]; omega, i2, i3, by simp -implicitDefEqProofs only [Fst_mk, Snd_mk]; rw [e1]; omega⟩ (by simp -implicitDefEqProofs only [Fst_mk]; omega) rfl ?_ ?_
            · simp -implicitDefEqProofs -proj only [go_sem, Nat.reduceBEq, Nat.reduceLT, Nat.reduceLeDiff, Nat.reduceAdd, Nat.reduceMul, ↓reduceIte, Int.reduceToNat, Int.reducePow, Int.reduceLT, Int.reduceLE, Int.reduceAdd, Int.reduceSub, Int.reduceMul, Int.reduceEq, Int.reduceNe, AllAt, w3]
            · simp -implicitDefEqProofs -proj only [go_sem, Nat.reduceBEq, Nat.reduceLT, Nat.reduceLeDiff, Nat.reduceAdd, Nat.reduceMul, ↓reduceIte, Int.reduceToNat, Int.reducePow, Int.reduceLT, Int.reduceLE, Int.reduceAdd, Int.reduceSub, Int.reduceMul, Int.reduceEq, Int.reduceNe, AllH]
        · have hn := n2 (by omega)
          simp -implicitDefEqProofs -proj only [go_sem, Nat.reduceBEq, Nat.reduceLT, Nat.reduceLeDiff, Nat.reduceAdd, Nat.reduceMul, ↓reduceIte, Int.reduceToNat, Int.reducePow, Int.reduceLT, Int.reduceLE, Int.reduceAdd, Int.reduceSub, Int.reduceMul, Int.reduceEq, Int.reduceNe, ← hnx, decide_eq_false (show ¬ low < nx by omega)]
          refine LoopQ_k (j - 1, low) ⟨by simp -implicitDefEqProofs only [Fst_mk]; omega, i2, i3, by unfold Fit at hf; simp -implicitDefEqProofs only [Fst_mk, Snd_mk]; rw [e1]; omega⟩ (by simp -implicitDefEqProofs only [Fst_mk]; omega) rfl ?_ ?_
          · simp -implicitDefEqProofs -proj only [go_sem, Nat.reduceBEq, Nat.reduceLT, Nat.reduceLeDiff, Nat.reduceAdd, Nat.reduceMul, ↓reduceIte, Int.reduceToNat, Int.reducePow, Int.reduceLT, Int.reduceLE, Int.reduceAdd, Int.reduceSub, Int.reduceMul, Int.reduceEq, Int.reduceNe, AllAt, w3]
          · simp -implicitDefEqProofs -proj only [go_sem, Nat.reduceBEq, Nat.reduceLT, Nat.reduceLeDiff, Nat.reduceAdd, Nat.reduceMul, ↓reduceIte, Int.reduceToNat, Int.reducePow, Int.reduceLT, Int.reduceLE, Int.reduceAdd, Int.reduceSub, Int.reduceMul, Int.reduceEq, Int.reduceNe, AllH]
      · have hj0 : j = 0 := by omega
        subst hj0
        have hT : low = T := by
          have : (2 : Int) ^ 0 = 1 := rfl
          omega
        simp -implicitDefEqProofs -proj only [go_sem, Nat.reduceBEq, Nat.reduceLT, Nat.reduceLeDiff, Nat.reduceAdd, Nat.reduceMul, ↓reduceIte, Int.reduceToNat, Int.reducePow, Int.reduceLT, Int.reduceLE, Int.reduceAdd, Int.reduceSub, Int.reduceMul, Int.reduceEq, Int.reduceNe]
        exact LendV_eq (by rw [hT])
  · rw [floorR, if_neg h]
    rw [decide_eq_false h] at h1
    simp -implicitDefEqProofs -proj only [go_sem, Nat.reduceBEq, Nat.reduceLT, Nat.reduceLeDiff, Nat.reduceAdd, Nat.reduceMul, ↓reduceIte, Int.reduceToNat, Int.reducePow, Int.reduceLT, Int.reduceLE, Int.reduceAdd, Int.reduceSub, Int.reduceMul, Int.reduceEq, Int.reduceNe]
    refine AllocA_intro (fun b hb => ?_)
    simp -implicitDefEqProofs -proj only [go_sem, Nat.reduceBEq, Nat.reduceLT, Nat.reduceLeDiff, Nat.reduceAdd, Nat.reduceMul, ↓reduceIte, Int.reduceToNat, Int.reducePow, Int.reduceLT, Int.reduceLE, Int.reduceAdd, Int.reduceSub, Int.reduceMul, Int.reduceEq, Int.reduceNe]
    refine CallA_pure h1 ?_
    simp -implicitDefEqProofs -proj only [go_sem, Nat.reduceBEq, Nat.reduceLT, Nat.reduceLeDiff, Nat.reduceAdd, Nat.reduceMul, ↓reduceIte, Int.reduceToNat, Int.reducePow, Int.reduceLT, Int.reduceLE, Int.reduceAdd, Int.reduceSub, Int.reduceMul, Int.reduceEq, Int.reduceNe]
    exact LendV_eq rfl
/-- What the document's edge answers. -/
def edgeR (d c m : Int) : AV := if 0 ≤ d ∧ d < c ∧ (m = 1 ∨ 1 < m ∧ 2 * d ≤ c) then .tup [i64 (-9223372036854775808), bv true] else .tup [i64 0, bv false]
theorem edgeR_of {d c m n : Int} {u : Bool} (h : (u = true ∧ n = -9223372036854775808 ∧ (0 ≤ d ∧ d < c ∧ (m = 1 ∨ 1 < m ∧ 2 * d ≤ c))) ∨ (u = false ∧ n = 0 ∧ ¬ (0 ≤ d ∧ d < c ∧ (m = 1 ∨ 1 < m ∧ 2 * d ≤ c)))) : AV.tup [i64 n, bv u] = edgeR d c m := by
  unfold edgeR
  rcases h with ⟨rfl, rfl, h⟩ | ⟨rfl, rfl, h⟩
  · rw [if_pos h]
  · rw [if_neg h]
set_option maxRecDepth 20000 in
theorem edge_ok {p c m : Int} (hc0 : 0 < c) (hc : Fit c) (hp : p.natAbs ≤ 85070591730234615865843651857942052864) : DataW Try.prog f_poundageref02_edge [wide p, i64 c, i64 m] (edgeR (-9223372036854775808 * c - p) c m) := by
  have h1 := RMul_ok (x := -9223372036854775808) (y := c) (by decide) hc
  have hq := prod_small (x := -9223372036854775808) (y := c) (by decide) hc
  have h2 := ROpp_ok (n := p) (by unfold Big; omega)
  have h3 := RAdd_ok (a := -9223372036854775808 * c) (b := -p) (by omega) (by omega)
  obtain ⟨d, hd⟩ : ∃ d, -9223372036854775808 * c + -p = d := ⟨_, rfl⟩
  have hd2 : -9223372036854775808 * c - p = d := by omega
  rw [hd] at h3
  rw [hd2]
  have hd3 : d.natAbs < 340282366920938463463374607431768211456 := by omega
  have hcw : IntKind.u64.wrap c = c := wrapU_in (by unfold Fit at hc; omega)
  generalize -9223372036854775808 * c = z at *
  clear hd hd2 hq
  refine CallW_intro comp_poundageref02_edge (by simp) ?_
  simp -implicitDefEqProofs -proj only [go_sem, Nat.reduceBEq, Nat.reduceLT, Nat.reduceLeDiff, Nat.reduceAdd, Nat.reduceMul, ↓reduceIte, Int.reduceToNat, Int.reducePow, Int.reduceLT, Int.reduceLE, Int.reduceAdd, Int.reduceSub, Int.reduceMul, Int.reduceEq, Int.reduceNe]
  (repeat' first
    | (with_reducible refine Guard_split (fun h => ?_) (fun h => ?_) <;> (simp -implicitDefEqProofs -proj only [go_sem, Nat.reduceBEq, Nat.reduceLT, Nat.reduceLeDiff, Nat.reduceAdd, Nat.reduceMul, ↓reduceIte, Int.reduceToNat, Int.reducePow, Int.reduceLT, Int.reduceLE, Int.reduceAdd, Int.reduceSub, Int.reduceMul, Int.reduceEq, Int.reduceNe, *]; try (revert h; intro _)))
    | (with_reducible refine Cond_split (fun h => ?_) (fun h => ?_) <;> (simp -implicitDefEqProofs -proj only [go_sem, Nat.reduceBEq, Nat.reduceLT, Nat.reduceLeDiff, Nat.reduceAdd, Nat.reduceMul, ↓reduceIte, Int.reduceToNat, Int.reducePow, Int.reduceLT, Int.reduceLE, Int.reduceAdd, Int.reduceSub, Int.reduceMul, Int.reduceEq, Int.reduceNe, *]; try (revert h; intro _)))
    | (with_reducible refine Pick_split (fun h => ?_) (fun h => ?_) <;> (simp -implicitDefEqProofs -proj only [go_sem, Nat.reduceBEq, Nat.reduceLT, Nat.reduceLeDiff, Nat.reduceAdd, Nat.reduceMul, ↓reduceIte, Int.reduceToNat, Int.reducePow, Int.reduceLT, Int.reduceLE, Int.reduceAdd, Int.reduceSub, Int.reduceMul, Int.reduceEq, Int.reduceNe, *]; try (revert h; intro _)))
    | (with_reducible refine AllocA_intro (fun _ hb => ?_); simp only [upd_none, keepH_none, keepH_nil, Heap.none_get, and_true, true_and] at hb; simp -implicitDefEqProofs -proj only [go_sem, Nat.reduceBEq, Nat.reduceLT, Nat.reduceLeDiff, Nat.reduceAdd, Nat.reduceMul, ↓reduceIte, Int.reduceToNat, Int.reducePow, Int.reduceLT, Int.reduceLE, Int.reduceAdd, Int.reduceSub, Int.reduceMul, Int.reduceEq, Int.reduceNe, *]; try (revert hb; intro _))
    | (with_reducible refine AllocR_intro (fun _ hb => ?_); simp only [upd_none, keepH_none, keepH_nil, Heap.none_get, and_true, true_and] at hb; simp -implicitDefEqProofs -proj only [go_sem, Nat.reduceBEq, Nat.reduceLT, Nat.reduceLeDiff, Nat.reduceAdd, Nat.reduceMul, ↓reduceIte, Int.reduceToNat, Int.reducePow, Int.reduceLT, Int.reduceLE, Int.reduceAdd, Int.reduceSub, Int.reduceMul, Int.reduceEq, Int.reduceNe, *]; try (revert hb; intro _))
    | (with_reducible refine IdxE_1 _ rfl (by simp) ?_; simp -implicitDefEqProofs -proj only [go_sem, Nat.reduceBEq, Nat.reduceLT, Nat.reduceLeDiff, Nat.reduceAdd, Nat.reduceMul, ↓reduceIte, Int.reduceToNat, Int.reducePow, Int.reduceLT, Int.reduceLE, Int.reduceAdd, Int.reduceSub, Int.reduceMul, Int.reduceEq, Int.reduceNe, *])
    | (with_reducible refine IdxE_n _ rfl (by simp) ?_; simp -implicitDefEqProofs -proj only [go_sem, Nat.reduceBEq, Nat.reduceLT, Nat.reduceLeDiff, Nat.reduceAdd, Nat.reduceMul, ↓reduceIte, Int.reduceToNat, Int.reducePow, Int.reduceLT, Int.reduceLE, Int.reduceAdd, Int.reduceSub, Int.reduceMul, Int.reduceEq, Int.reduceNe, *])
    | (with_reducible refine VC_intro ?_ (fun h => ?_); (focus first | decide | omega); try clear h; try simp -implicitDefEqProofs -proj only [go_sem, Nat.reduceBEq, Nat.reduceLT, Nat.reduceLeDiff, Nat.reduceAdd, Nat.reduceMul, ↓reduceIte, Int.reduceToNat, Int.reducePow, Int.reduceLT, Int.reduceLE, Int.reduceAdd, Int.reduceSub, Int.reduceMul, Int.reduceEq, Int.reduceNe, *])
    | (with_reducible refine VC_intro ?_ (fun h => ?_); rotate_left; try clear h; try simp -implicitDefEqProofs -proj only [go_sem, Nat.reduceBEq, Nat.reduceLT, Nat.reduceLeDiff, Nat.reduceAdd, Nat.reduceMul, ↓reduceIte, Int.reduceToNat, Int.reducePow, Int.reduceLT, Int.reduceLE, Int.reduceAdd, Int.reduceSub, Int.reduceMul, Int.reduceEq, Int.reduceNe, *]; rotate_right))
  refine PCallA_pure h1 ?_
  simp -implicitDefEqProofs -proj only [go_sem, Nat.reduceBEq, Nat.reduceLT, Nat.reduceLeDiff, Nat.reduceAdd, Nat.reduceMul, ↓reduceIte, Int.reduceToNat, Int.reducePow, Int.reduceLT, Int.reduceLE, Int.reduceAdd, Int.reduceSub, Int.reduceMul, Int.reduceEq, Int.reduceNe, *]
  (repeat' first
    | (with_reducible refine Guard_split (fun h => ?_) (fun h => ?_) <;> (simp -implicitDefEqProofs -proj only [go_sem, Nat.reduceBEq, Nat.reduceLT, Nat.reduceLeDiff, Nat.reduceAdd, Nat.reduceMul, ↓reduceIte, Int.reduceToNat, Int.reducePow, Int.reduceLT, Int.reduceLE, Int.reduceAdd, Int.reduceSub, Int.reduceMul, Int.reduceEq, Int.reduceNe, *]; try (revert h; intro _)))
    | (with_reducible refine Cond_split (fun h => ?_) (fun h => ?_) <;> (simp -implicitDefEqProofs -proj only [go_sem, Nat.reduceBEq, Nat.reduceLT, Nat.reduceLeDiff, Nat.reduceAdd, Nat.reduceMul, ↓reduceIte, Int.reduceToNat, Int.reducePow, Int.reduceLT, Int.reduceLE, Int.reduceAdd, Int.reduceSub, Int.reduceMul, Int.reduceEq, Int.reduceNe, *]; try (revert h; intro _)))
    | (with_reducible refine Pick_split (fun h => ?_) (fun h => ?_) <;> (simp -implicitDefEqProofs -proj only [go_sem, Nat.reduceBEq, Nat.reduceLT, Nat.reduceLeDiff, Nat.reduceAdd, Nat.reduceMul, ↓reduceIte, Int.reduceToNat, Int.reducePow, Int.reduceLT, Int.reduceLE, Int.reduceAdd, Int.reduceSub, Int.reduceMul, Int.reduceEq, Int.reduceNe, *]; try (revert h; intro _)))
    | (with_reducible refine AllocA_intro (fun _ hb => ?_); simp only [upd_none, keepH_none, keepH_nil, Heap.none_get, and_true, true_and] at hb; simp -implicitDefEqProofs -proj only [go_sem, Nat.reduceBEq, Nat.reduceLT, Nat.reduceLeDiff, Nat.reduceAdd, Nat.reduceMul, ↓reduceIte, Int.reduceToNat, Int.reducePow, Int.reduceLT, Int.reduceLE, Int.reduceAdd, Int.reduceSub, Int.reduceMul, Int.reduceEq, Int.reduceNe, *]; try (revert hb; intro _))
    | (with_reducible refine AllocR_intro (fun _ hb => ?_); simp only [upd_none, keepH_none, keepH_nil, Heap.none_get, and_true, true_and] at hb; simp -implicitDefEqProofs -proj only [go_sem, Nat.reduceBEq, Nat.reduceLT, Nat.reduceLeDiff, Nat.reduceAdd, Nat.reduceMul, ↓reduceIte, Int.reduceToNat, Int.reducePow, Int.reduceLT, Int.reduceLE, Int.reduceAdd, Int.reduceSub, Int.reduceMul, Int.reduceEq, Int.reduceNe, *]; try (revert hb; intro _))
    | (with_reducible refine IdxE_1 _ rfl (by simp) ?_; simp -implicitDefEqProofs -proj only [go_sem, Nat.reduceBEq, Nat.reduceLT, Nat.reduceLeDiff, Nat.reduceAdd, Nat.reduceMul, ↓reduceIte, Int.reduceToNat, Int.reducePow, Int.reduceLT, Int.reduceLE, Int.reduceAdd, Int.reduceSub, Int.reduceMul, Int.reduceEq, Int.reduceNe, *])
    | (with_reducible refine IdxE_n _ rfl (by simp) ?_; simp -implicitDefEqProofs -proj only [go_sem, Nat.reduceBEq, Nat.reduceLT, Nat.reduceLeDiff, Nat.reduceAdd, Nat.reduceMul, ↓reduceIte, Int.reduceToNat, Int.reducePow, Int.reduceLT, Int.reduceLE, Int.reduceAdd, Int.reduceSub, Int.reduceMul, Int.reduceEq, Int.reduceNe, *])
    | (with_reducible refine VC_intro ?_ (fun h => ?_); (focus first | decide | omega); try clear h; try simp -implicitDefEqProofs -proj only [go_sem, Nat.reduceBEq, Nat.reduceLT, Nat.reduceLeDiff, Nat.reduceAdd, Nat.reduceMul, ↓reduceIte, Int.reduceToNat, Int.reducePow, Int.reduceLT, Int.reduceLE, Int.reduceAdd, Int.reduceSub, Int.reduceMul, Int.reduceEq, Int.reduceNe, *])
    | (with_reducible refine VC_intro ?_ (fun h => ?_); rotate_left; try clear h; try simp -implicitDefEqProofs -proj only [go_sem, Nat.reduceBEq, Nat.reduceLT, Nat.reduceLeDiff, Nat.reduceAdd, Nat.reduceMul, ↓reduceIte, Int.reduceToNat, Int.reducePow, Int.reduceLT, Int.reduceLE, Int.reduceAdd, Int.reduceSub, Int.reduceMul, Int.reduceEq, Int.reduceNe, *]; rotate_right))
  refine PCallA_pure h2 ?_
  simp -implicitDefEqProofs -proj only [go_sem, Nat.reduceBEq, Nat.reduceLT, Nat.reduceLeDiff, Nat.reduceAdd, Nat.reduceMul, ↓reduceIte, Int.reduceToNat, Int.reducePow, Int.reduceLT, Int.reduceLE, Int.reduceAdd, Int.reduceSub, Int.reduceMul, Int.reduceEq, Int.reduceNe, *]
  (repeat' first
    | (with_reducible refine Guard_split (fun h => ?_) (fun h => ?_) <;> (simp -implicitDefEqProofs -proj only [go_sem, Nat.reduceBEq, Nat.reduceLT, Nat.reduceLeDiff, Nat.reduceAdd, Nat.reduceMul, ↓reduceIte, Int.reduceToNat, Int.reducePow, Int.reduceLT, Int.reduceLE, Int.reduceAdd, Int.reduceSub, Int.reduceMul, Int.reduceEq, Int.reduceNe, *]; try (revert h; intro _)))
    | (with_reducible refine Cond_split (fun h => ?_) (fun h => ?_) <;> (simp -implicitDefEqProofs -proj only [go_sem, Nat.reduceBEq, Nat.reduceLT, Nat.reduceLeDiff, Nat.reduceAdd, Nat.reduceMul, ↓reduceIte, Int.reduceToNat, Int.reducePow, Int.reduceLT, Int.reduceLE, Int.reduceAdd, Int.reduceSub, Int.reduceMul, Int.reduceEq, Int.reduceNe, *]; try (revert h; intro _)))
    | (with_reducible refine Pick_split (fun h => ?_) (fun h => ?_) <;> (simp -implicitDefEqProofs -proj only [go_sem, Nat.reduceBEq, Nat.reduceLT, Nat.reduceLeDiff, Nat.reduceAdd, Nat.reduceMul, ↓reduceIte, Int.reduceToNat, Int.reducePow, Int.reduceLT, Int.reduceLE, Int.reduceAdd, Int.reduceSub, Int.reduceMul, Int.reduceEq, Int.reduceNe, *]; try (revert h; intro _)))
    | (with_reducible refine AllocA_intro (fun _ hb => ?_); simp only [upd_none, keepH_none, keepH_nil, Heap.none_get, and_true, true_and] at hb; simp -implicitDefEqProofs -proj only [go_sem, Nat.reduceBEq, Nat.reduceLT, Nat.reduceLeDiff, Nat.reduceAdd, Nat.reduceMul, ↓reduceIte, Int.reduceToNat, Int.reducePow, Int.reduceLT, Int.reduceLE, Int.reduceAdd, Int.reduceSub, Int.reduceMul, Int.reduceEq, Int.reduceNe, *]; try (revert hb; intro _))
    | (with_reducible refine AllocR_intro (fun _ hb => ?_); simp only [upd_none, keepH_none, keepH_nil, Heap.none_get, and_true, true_and] at hb; simp -implicitDefEqProofs -proj only [go_sem, Nat.reduceBEq, Nat.reduceLT, Nat.reduceLeDiff, Nat.reduceAdd, Nat.reduceMul, ↓reduceIte, Int.reduceToNat, Int.reducePow, Int.reduceLT, Int.reduceLE, Int.reduceAdd, Int.reduceSub, Int.reduceMul, Int.reduceEq, Int.reduceNe, *]; try (revert hb; intro _))
    | (with_reducible refine IdxE_1 _ rfl (by simp) ?_; simp -implicitDefEqProofs -proj only [go_sem, Nat.reduceBEq, Nat.reduceLT, Nat.reduceLeDiff, Nat.reduceAdd, Nat.reduceMul, ↓reduceIte, Int.reduceToNat, Int.reducePow, Int.reduceLT, Int.reduceLE, Int.reduceAdd, Int.reduceSub, Int.reduceMul, Int.reduceEq, Int.reduceNe, *])
    | (with_reducible refine IdxE_n _ rfl (by simp) ?_; simp -implicitDefEqProofs -proj only [go_sem, Nat.reduceBEq, Nat.reduceLT, Nat.reduceLeDiff, Nat.reduceAdd, Nat.reduceMul, ↓reduceIte, Int.reduceToNat, Int.reducePow, Int.reduceLT, Int.reduceLE, Int.reduceAdd, Int.reduceSub, Int.reduceMul, Int.reduceEq, Int.reduceNe, *])
    | (with_reducible refine VC_intro ?_ (fun h => ?_); (focus first | decide | omega); try clear h; try simp -implicitDefEqProofs -proj only [go_sem, Nat.reduceBEq, Nat.reduceLT, Nat.reduceLeDiff, Nat.reduceAdd, Nat.reduceMul, ↓reduceIte, Int.reduceToNat, Int.reducePow, Int.reduceLT, Int.reduceLE, Int.reduceAdd, Int.reduceSub, Int.reduceMul, Int.reduceEq, Int.reduceNe, *])
    | (with_reducible refine VC_intro ?_ (fun h => ?_); rotate_left; try clear h; try simp -implicitDefEqProofs -proj only [go_sem, Nat.reduceBEq, Nat.reduceLT, Nat.reduceLeDiff, Nat.reduceAdd, Nat.reduceMul, ↓reduceIte, Int.reduceToNat, Int.reducePow, Int.reduceLT, Int.reduceLE, Int.reduceAdd, Int.reduceSub, Int.reduceMul, Int.reduceEq, Int.reduceNe, *]; rotate_right))
  refine PCallA_pure h3 ?_
  simp -implicitDefEqProofs -proj only [go_sem, Nat.reduceBEq, Nat.reduceLT, Nat.reduceLeDiff, Nat.reduceAdd, Nat.reduceMul, ↓reduceIte, Int.reduceToNat, Int.reducePow, Int.reduceLT, Int.reduceLE, Int.reduceAdd, Int.reduceSub, Int.reduceMul, Int.reduceEq, Int.reduceNe, *]
  (repeat' first
    | (with_reducible refine Guard_split (fun h => ?_) (fun h => ?_) <;> (simp -implicitDefEqProofs -proj only [go_sem, Nat.reduceBEq, Nat.reduceLT, Nat.reduceLeDiff, Nat.reduceAdd, Nat.reduceMul, ↓reduceIte, Int.reduceToNat, Int.reducePow, Int.reduceLT, Int.reduceLE, Int.reduceAdd, Int.reduceSub, Int.reduceMul, Int.reduceEq, Int.reduceNe, *]; try (revert h; intro _)))
    | (with_reducible refine Cond_split (fun h => ?_) (fun h => ?_) <;> (simp -implicitDefEqProofs -proj only [go_sem, Nat.reduceBEq, Nat.reduceLT, Nat.reduceLeDiff, Nat.reduceAdd, Nat.reduceMul, ↓reduceIte, Int.reduceToNat, Int.reducePow, Int.reduceLT, Int.reduceLE, Int.reduceAdd, Int.reduceSub, Int.reduceMul, Int.reduceEq, Int.reduceNe, *]; try (revert h; intro _)))
    | (with_reducible refine Pick_split (fun h => ?_) (fun h => ?_) <;> (simp -implicitDefEqProofs -proj only [go_sem, Nat.reduceBEq, Nat.reduceLT, Nat.reduceLeDiff, Nat.reduceAdd, Nat.reduceMul, ↓reduceIte, Int.reduceToNat, Int.reducePow, Int.reduceLT, Int.reduceLE, Int.reduceAdd, Int.reduceSub, Int.reduceMul, Int.reduceEq, Int.reduceNe, *]; try (revert h; intro _)))
    | (with_reducible refine AllocA_intro (fun _ hb => ?_); simp only [upd_none, keepH_none, keepH_nil, Heap.none_get, and_true, true_and] at hb; simp -implicitDefEqProofs -proj only [go_sem, Nat.reduceBEq, Nat.reduceLT, Nat.reduceLeDiff, Nat.reduceAdd, Nat.reduceMul, ↓reduceIte, Int.reduceToNat, Int.reducePow, Int.reduceLT, Int.reduceLE, Int.reduceAdd, Int.reduceSub, Int.reduceMul, Int.reduceEq, Int.reduceNe, *]; try (revert hb; intro _))
    | (with_reducible refine AllocR_intro (fun _ hb => ?_); simp only [upd_none, keepH_none, keepH_nil, Heap.none_get, and_true, true_and] at hb; simp -implicitDefEqProofs -proj only [go_sem, Nat.reduceBEq, Nat.reduceLT, Nat.reduceLeDiff, Nat.reduceAdd, Nat.reduceMul, ↓reduceIte, Int.reduceToNat, Int.reducePow, Int.reduceLT, Int.reduceLE, Int.reduceAdd, Int.reduceSub, Int.reduceMul, Int.reduceEq, Int.reduceNe, *]; try (revert hb; intro _))
    | (with_reducible refine IdxE_1 _ rfl (by simp) ?_; simp -implicitDefEqProofs -proj only [go_sem, Nat.reduceBEq, Nat.reduceLT, Nat.reduceLeDiff, Nat.reduceAdd, Nat.reduceMul, ↓reduceIte, Int.reduceToNat, Int.reducePow, Int.reduceLT, Int.reduceLE, Int.reduceAdd, Int.reduceSub, Int.reduceMul, Int.reduceEq, Int.reduceNe, *])
    | (with_reducible refine IdxE_n _ rfl (by simp) ?_; simp -implicitDefEqProofs -proj only [go_sem, Nat.reduceBEq, Nat.reduceLT, Nat.reduceLeDiff, Nat.reduceAdd, Nat.reduceMul, ↓reduceIte, Int.reduceToNat, Int.reducePow, Int.reduceLT, Int.reduceLE, Int.reduceAdd, Int.reduceSub, Int.reduceMul, Int.reduceEq, Int.reduceNe, *])
    | (with_reducible refine VC_intro ?_ (fun h => ?_); (focus first | decide | omega); try clear h; try simp -implicitDefEqProofs -proj only [go_sem, Nat.reduceBEq, Nat.reduceLT, Nat.reduceLeDiff, Nat.reduceAdd, Nat.reduceMul, ↓reduceIte, Int.reduceToNat, Int.reducePow, Int.reduceLT, Int.reduceLE, Int.reduceAdd, Int.reduceSub, Int.reduceMul, Int.reduceEq, Int.reduceNe, *])
    | (with_reducible refine VC_intro ?_ (fun h => ?_); rotate_left; try clear h; try simp -implicitDefEqProofs -proj only [go_sem, Nat.reduceBEq, Nat.reduceLT, Nat.reduceLeDiff, Nat.reduceAdd, Nat.reduceMul, ↓reduceIte, Int.reduceToNat, Int.reducePow, Int.reduceLT, Int.reduceLE, Int.reduceAdd, Int.reduceSub, Int.reduceMul, Int.reduceEq, Int.reduceNe, *]; rotate_right))
  all_goals
    refine LendV_eq (edgeR_of ?_)
    clear h1 h2 h3
    try simp -implicitDefEqProofs only [decide_eq_true_eq, decide_eq_false_iff_not, Bool.not_eq_true', Bool.not_eq_false', Bool.and_eq_true, Bool.and_eq_false_iff, Bool.or_eq_true, Bool.or_eq_false_iff, beq_iff_eq, beq_eq_false_iff_ne, ne_eq, decide_eq_decide, Bool.not_eq_true, Bool.not_eq_false, IntKind.wrap_u64] at *
    try simp -implicitDefEqProofs only [← decide_not, ← Bool.decide_and, ← Bool.decide_or, Bool.beq_eq_decide_eq, AV.d.injEq, D.bool.injEq, D.int.injEq, D.str.injEq, AV.tup.injEq, AV.agg.injEq, List.cons.injEq, true_and, and_true, decide_eq_decide, true_eq_decide_iff, false_eq_decide_iff, decide_eq_true_eq, decide_eq_false_iff_not, Bool.false_eq_true, Bool.true_eq_false, reduceCtorEq, false_and, true_and, or_false, false_or]
    unfold Fit at hc
    try omega
set_option maxRecDepth 20000 in
set_option maxHeartbeats 2000000 in
theorem RMulDiv_ok {a b c m : Int} (ha : Fit a) (hb : Fit b) (hc : Fit c) : DataW Try.prog f_poundageref02_MulDiv [i64 a, i64 b, i64 c, i64 m] (mdR (a * b) c m) := by
  by_cases hh : 0 < c ∧ 0 ≤ m ∧ m ≤ 3
  · obtain ⟨hc0, hm⟩ := hh
    have h1 := RMul_ok ha hb
    have hp := prod_small ha hb
    have h2 := Floor_ok (p := a * b) hc0 hc hp
    obtain ⟨q, r, d1, d2, d3, d4, d5, hr⟩ := rnd_cases (p := a * b) (c := c) (m := m) hc0 hm
    rw [mdR_yes hc0 hm]
    have c1 : decide (c ≤ 0) = false := decide_eq_false (by omega)
    have c2 : decide (m < 0) = false := decide_eq_false (by omega)
    have c3 : decide (3 < m) = false := decide_eq_false (by omega)
    have hcw : IntKind.u64.wrap c = c := wrapU_in (by unfold Fit at hc; omega)
    have hE := edge_ok (p := a * b) (c := c) (m := m) hc0 hc hp
    generalize a * b = p at *
    refine CallW_intro comp_poundageref02_MulDiv (by simp) ?_
    by_cases hf : -9223372036854775808 * c ≤ p
    · have hcf := cap_fit hc0 hf
      rw [floorR, if_pos hf] at h2
      have h3 := RMul_ok hcf hc
      have hq := prod_small hcf hc
      have h4 := ROpp_ok (n := capQ p c * c) (by unfold Big; omega)
      have h5 := RAdd_ok (a := p) (b := -(capQ p c * c)) (by omega) (by omega)
      have hn : capQ p c = if q ≤ 9223372036854775807 then q else 9223372036854775807 := by rw [capQ, d4]
      obtain ⟨n, hn2⟩ : ∃ n, capQ p c = n := ⟨_, rfl⟩
      rw [hn2] at hn h2 h3 h4 h5 hcf
      obtain ⟨d, hd⟩ : ∃ d, p + -(n * c) = d := ⟨_, rfl⟩
      rw [hd] at h5
      have hd3 : d.natAbs < 340282366920938463463374607431768211456 := by rw [hn2] at hq; omega
      have key : n = q ∧ d = r ∨ n = 9223372036854775807 ∧ 9223372036854775807 < q ∧ c ≤ d := by
        by_cases hqm : q ≤ 9223372036854775807
        · rw [if_pos hqm] at hn
          subst hn
          left; omega
        · rw [if_neg hqm] at hn
          right
          refine ⟨hn, by omega, ?_⟩
          have := Int.mul_le_mul_of_nonneg_right (show 9223372036854775807 + 1 ≤ q by omega) (Int.le_of_lt hc0)
          rw [Int.add_mul, ← hn] at this
          omega
      generalize n * c = z at *
      clear hn hd hq hE d1 hf hn2
      clear d4 d5 hp
      simp -implicitDefEqProofs -proj only [go_sem, Nat.reduceBEq, Nat.reduceLT, Nat.reduceLeDiff, Nat.reduceAdd, Nat.reduceMul, ↓reduceIte, Int.reduceToNat, Int.reducePow, Int.reduceLT, Int.reduceLE, Int.reduceAdd, Int.reduceSub, Int.reduceMul, Int.reduceEq, Int.reduceNe, c1, c2, c3]
      (repeat' first
    | (refine CallA_pure (h1) ?_; simp -implicitDefEqProofs -proj only [go_sem, Nat.reduceBEq, Nat.reduceLT, Nat.reduceLeDiff, Nat.reduceAdd, Nat.reduceMul, ↓reduceIte, Int.reduceToNat, Int.reducePow, Int.reduceLT, Int.reduceLE, Int.reduceAdd, Int.reduceSub, Int.reduceMul, Int.reduceEq, Int.reduceNe, *])
    | (refine PCallA_pure (h1) ?_; simp -implicitDefEqProofs -proj only [go_sem, Nat.reduceBEq, Nat.reduceLT, Nat.reduceLeDiff, Nat.reduceAdd, Nat.reduceMul, ↓reduceIte, Int.reduceToNat, Int.reducePow, Int.reduceLT, Int.reduceLE, Int.reduceAdd, Int.reduceSub, Int.reduceMul, Int.reduceEq, Int.reduceNe, *])
    | (refine CallA_pure (h2) ?_; simp -implicitDefEqProofs -proj only [go_sem, Nat.reduceBEq, Nat.reduceLT, Nat.reduceLeDiff, Nat.reduceAdd, Nat.reduceMul, ↓reduceIte, Int.reduceToNat, Int.reducePow, Int.reduceLT, Int.reduceLE, Int.reduceAdd, Int.reduceSub, Int.reduceMul, Int.reduceEq, Int.reduceNe, *])
    | (refine PCallA_pure (h2) ?_; simp -implicitDefEqProofs -proj only [go_sem, Nat.reduceBEq, Nat.reduceLT, Nat.reduceLeDiff, Nat.reduceAdd, Nat.reduceMul, ↓reduceIte, Int.reduceToNat, Int.reducePow, Int.reduceLT, Int.reduceLE, Int.reduceAdd, Int.reduceSub, Int.reduceMul, Int.reduceEq, Int.reduceNe, *])
    | (refine CallA_pure (h3) ?_; simp -implicitDefEqProofs -proj only [go_sem, Nat.reduceBEq, Nat.reduceLT, Nat.reduceLeDiff, Nat.reduceAdd, Nat.reduceMul, ↓reduceIte, Int.reduceToNat, Int.reducePow, Int.reduceLT, Int.reduceLE, Int.reduceAdd, Int.reduceSub, Int.reduceMul, Int.reduceEq, Int.reduceNe, *])
    | (refine PCallA_pure (h3) ?_; simp -implicitDefEqProofs -proj only [go_sem, Nat.reduceBEq, Nat.reduceLT, Nat.reduceLeDiff, Nat.reduceAdd, Nat.reduceMul, ↓reduceIte, Int.reduceToNat, Int.reducePow, Int.reduceLT, Int.reduceLE, Int.reduceAdd, Int.reduceSub, Int.reduceMul, Int.reduceEq, Int.reduceNe, *])
    | (refine CallA_pure (h4) ?_; simp -implicitDefEqProofs -proj only [go_sem, Nat.reduceBEq, Nat.reduceLT, Nat.reduceLeDiff, Nat.reduceAdd, Nat.reduceMul, ↓reduceIte, Int.reduceToNat, Int.reducePow, Int.reduceLT, Int.reduceLE, Int.reduceAdd, Int.reduceSub, Int.reduceMul, Int.reduceEq, Int.reduceNe, *])
    | (refine PCallA_pure (h4) ?_; simp -implicitDefEqProofs -proj only [go_sem, Nat.reduceBEq, Nat.reduceLT, Nat.reduceLeDiff, Nat.reduceAdd, Nat.reduceMul, ↓reduceIte, Int.reduceToNat, Int.reducePow, Int.reduceLT, Int.reduceLE, Int.reduceAdd, Int.reduceSub, Int.reduceMul, Int.reduceEq, Int.reduceNe, *])
    | (refine CallA_pure (h5) ?_; simp -implicitDefEqProofs -proj only [go_sem, Nat.reduceBEq, Nat.reduceLT, Nat.reduceLeDiff, Nat.reduceAdd, Nat.reduceMul, ↓reduceIte, Int.reduceToNat, Int.reducePow, Int.reduceLT, Int.reduceLE, Int.reduceAdd, Int.reduceSub, Int.reduceMul, Int.reduceEq, Int.reduceNe, *])
    | (refine PCallA_pure (h5) ?_; simp -implicitDefEqProofs -proj only [go_sem, Nat.reduceBEq, Nat.reduceLT, Nat.reduceLeDiff, Nat.reduceAdd, Nat.reduceMul, ↓reduceIte, Int.reduceToNat, Int.reducePow, Int.reduceLT, Int.reduceLE, Int.reduceAdd, Int.reduceSub, Int.reduceMul, Int.reduceEq, Int.reduceNe, *])
    | (with_reducible refine Guard_split (fun h => ?_) (fun h => ?_) <;> (simp -implicitDefEqProofs -proj only [go_sem, Nat.reduceBEq, Nat.reduceLT, Nat.reduceLeDiff, Nat.reduceAdd, Nat.reduceMul, ↓reduceIte, Int.reduceToNat, Int.reducePow, Int.reduceLT, Int.reduceLE, Int.reduceAdd, Int.reduceSub, Int.reduceMul, Int.reduceEq, Int.reduceNe, *]; try (revert h; intro _)))
    | (with_reducible refine Cond_split (fun h => ?_) (fun h => ?_) <;> (simp -implicitDefEqProofs -proj only [go_sem, Nat.reduceBEq, Nat.reduceLT, Nat.reduceLeDiff, Nat.reduceAdd, Nat.reduceMul, ↓reduceIte, Int.reduceToNat, Int.reducePow, Int.reduceLT, Int.reduceLE, Int.reduceAdd, Int.reduceSub, Int.reduceMul, Int.reduceEq, Int.reduceNe, *]; try (revert h; intro _)))
    | (with_reducible refine Pick_split (fun h => ?_) (fun h => ?_) <;> (simp -implicitDefEqProofs -proj only [go_sem, Nat.reduceBEq, Nat.reduceLT, Nat.reduceLeDiff, Nat.reduceAdd, Nat.reduceMul, ↓reduceIte, Int.reduceToNat, Int.reducePow, Int.reduceLT, Int.reduceLE, Int.reduceAdd, Int.reduceSub, Int.reduceMul, Int.reduceEq, Int.reduceNe, *]; try (revert h; intro _)))
    | (with_reducible refine AllocA_intro (fun _ hb => ?_); simp -implicitDefEqProofs only [upd_none, keepH_none, keepH_nil, Heap.none_get, and_true, true_and] at hb; simp -implicitDefEqProofs -proj only [go_sem, Nat.reduceBEq, Nat.reduceLT, Nat.reduceLeDiff, Nat.reduceAdd, Nat.reduceMul, ↓reduceIte, Int.reduceToNat, Int.reducePow, Int.reduceLT, Int.reduceLE, Int.reduceAdd, Int.reduceSub, Int.reduceMul, Int.reduceEq, Int.reduceNe, *]; try (revert hb; intro _))
    | (with_reducible refine AllocR_intro (fun _ hb => ?_); simp -implicitDefEqProofs only [upd_none, keepH_none, keepH_nil, Heap.none_get, and_true, true_and] at hb; simp -implicitDefEqProofs -proj only [go_sem, Nat.reduceBEq, Nat.reduceLT, Nat.reduceLeDiff, Nat.reduceAdd, Nat.reduceMul, ↓reduceIte, Int.reduceToNat, Int.reducePow, Int.reduceLT, Int.reduceLE, Int.reduceAdd, Int.reduceSub, Int.reduceMul, Int.reduceEq, Int.reduceNe, *]; try (revert hb; intro _))
    | (with_reducible refine IdxE_1 _ rfl (by simp) ?_; simp -implicitDefEqProofs -proj only [go_sem, Nat.reduceBEq, Nat.reduceLT, Nat.reduceLeDiff, Nat.reduceAdd, Nat.reduceMul, ↓reduceIte, Int.reduceToNat, Int.reducePow, Int.reduceLT, Int.reduceLE, Int.reduceAdd, Int.reduceSub, Int.reduceMul, Int.reduceEq, Int.reduceNe, *])
    | (with_reducible refine IdxE_n _ rfl (by simp) ?_; simp -implicitDefEqProofs -proj only [go_sem, Nat.reduceBEq, Nat.reduceLT, Nat.reduceLeDiff, Nat.reduceAdd, Nat.reduceMul, ↓reduceIte, Int.reduceToNat, Int.reducePow, Int.reduceLT, Int.reduceLE, Int.reduceAdd, Int.reduceSub, Int.reduceMul, Int.reduceEq, Int.reduceNe, *])
    | (with_reducible refine VC_intro ?_ (fun h => ?_); (focus first | decide | omega); try clear h; try simp -implicitDefEqProofs -proj only [go_sem, Nat.reduceBEq, Nat.reduceLT, Nat.reduceLeDiff, Nat.reduceAdd, Nat.reduceMul, ↓reduceIte, Int.reduceToNat, Int.reducePow, Int.reduceLT, Int.reduceLE, Int.reduceAdd, Int.reduceSub, Int.reduceMul, Int.reduceEq, Int.reduceNe, *])
    | (with_reducible refine VC_intro ?_ (fun h => ?_); rotate_left; try clear h; try simp -implicitDefEqProofs -proj only [go_sem, Nat.reduceBEq, Nat.reduceLT, Nat.reduceLeDiff, Nat.reduceAdd, Nat.reduceMul, ↓reduceIte, Int.reduceToNat, Int.reducePow, Int.reduceLT, Int.reduceLE, Int.reduceAdd, Int.reduceSub, Int.reduceMul, Int.reduceEq, Int.reduceNe, *]; rotate_right))
      all_goals
        refine LendV_eq (fitR_of ?_)
        clear h1 h2 h3 h4 h5
        have ht : n.tmod 2 = 0 ↔ n % 2 = 0 := ⟨fun h => Int.emod_eq_zero_of_dvd (Int.dvd_of_tmod_eq_zero h), fun h => Int.tmod_eq_zero_of_dvd (Int.dvd_of_emod_eq_zero h)⟩
        simp -implicitDefEqProofs only [decide_eq_true_eq, decide_eq_false_iff_not, Bool.not_eq_true', Bool.not_eq_false', Bool.and_eq_true, Bool.and_eq_false_iff, Bool.or_eq_true, Bool.or_eq_false_iff, beq_iff_eq, beq_eq_false_iff_ne, ne_eq, decide_eq_decide, Bool.not_eq_true, Bool.not_eq_false, IntKind.wrap_u64, IntKind.wrap_i64] at *
        simp -implicitDefEqProofs only [Bool.false_eq_true, reduceCtorEq, true_and, false_and, or_false, false_or]
        unfold upP at hr
        unfold Fit at *
        generalize rnd p c m = R at *
        omega
    · rw [floorR, if_neg hf] at h2
      have h3 := RMul_ok (x := 0) (y := c) (by decide) hc
      have h4 := ROpp_ok (n := 0) (by unfold Big; decide)
      have h5 := RAdd_ok (a := p) (b := 0) (by omega) (by decide)
      rw [Int.zero_mul] at h3
      rw [Int.neg_zero] at h4
      rw [Int.add_zero] at h5
      have hq1 : q < -9223372036854775808 := by
        rw [← d4, Int.ediv_lt_iff_lt_mul hc0]; omega
      have hd : -9223372036854775808 * c - p = (-9223372036854775808 - q) * c - r := by rw [Int.sub_mul]; omega
      obtain ⟨d, hd2⟩ : ∃ d, -9223372036854775808 * c - p = d := ⟨_, rfl⟩
      rw [hd2] at hd hE
      have key : q = -9223372036854775809 ∧ d = c - r ∨ q < -9223372036854775809 ∧ c < d := by
        by_cases hqm : q = -9223372036854775809
        · left; subst hqm; exact ⟨rfl, by omega⟩
        · right
          have := Int.mul_le_mul_of_nonneg_right (show 2 ≤ -9223372036854775808 - q by omega) (Int.le_of_lt hc0)
          omega
      have res : fitR (rnd p c m) = edgeR d c m := by
        symm
        by_cases hf : Fit (rnd p c m)
        · rw [fitR_yes hf]
          symm
          refine edgeR_of ?_
          unfold Fit at hf
          unfold upP at hr
          generalize rnd p c m = R at *
          simp -implicitDefEqProofs only [Bool.true_eq_false, Bool.false_eq_true, reduceCtorEq, true_and, false_and, or_false, false_or]
          omega
        · rw [fitR_no hf]
          symm
          refine edgeR_of ?_
          unfold Fit at hf
          unfold upP at hr
          generalize rnd p c m = R at *
          simp -implicitDefEqProofs only [Bool.true_eq_false, Bool.false_eq_true, reduceCtorEq, true_and, false_and, or_false, false_or]
          omega
      rw [res]
      have ee : edgeR d c m = .tup [i64 (-9223372036854775808), bv true] ∨ edgeR d c m = .tup [i64 0, bv false] := by
        unfold edgeR; split
        · exact .inl rfl
        · exact .inr rfl
      generalize edgeR d c m = R at *
      clear key hd hd2 res d1 d4 d5 hr hf hp
      rcases ee with rfl | rfl
      all_goals
        simp -implicitDefEqProofs -proj only [go_sem, Nat.reduceBEq, Nat.reduceLT, Nat.reduceLeDiff, Nat.reduceAdd, Nat.reduceMul, ↓reduceIte, Int.reduceToNat, Int.reducePow, Int.reduceLT, Int.reduceLE, Int.reduceAdd, Int.reduceSub, Int.reduceMul, Int.reduceEq, Int.reduceNe, c1, c2, c3]
        (repeat' first
    | (refine CallA_pure (h1) ?_; simp -implicitDefEqProofs -proj only [go_sem, Nat.reduceBEq, Nat.reduceLT, Nat.reduceLeDiff, Nat.reduceAdd, Nat.reduceMul, ↓reduceIte, Int.reduceToNat, Int.reducePow, Int.reduceLT, Int.reduceLE, Int.reduceAdd, Int.reduceSub, Int.reduceMul, Int.reduceEq, Int.reduceNe, *])
    | (refine PCallA_pure (h1) ?_; simp -implicitDefEqProofs -proj only [go_sem, Nat.reduceBEq, Nat.reduceLT, Nat.reduceLeDiff, Nat.reduceAdd, Nat.reduceMul, ↓reduceIte, Int.reduceToNat, Int.reducePow, Int.reduceLT, Int.reduceLE, Int.reduceAdd, Int.reduceSub, Int.reduceMul, Int.reduceEq, Int.reduceNe, *])
    | (refine CallA_pure (h2) ?_; simp -implicitDefEqProofs -proj only [go_sem, Nat.reduceBEq, Nat.reduceLT, Nat.reduceLeDiff, Nat.reduceAdd, Nat.reduceMul, ↓reduceIte, Int.reduceToNat, Int.reducePow, Int.reduceLT, Int.reduceLE, Int.reduceAdd, Int.reduceSub, Int.reduceMul, Int.reduceEq, Int.reduceNe, *])
    | (refine PCallA_pure (h2) ?_; simp -implicitDefEqProofs -proj only [go_sem, Nat.reduceBEq, Nat.reduceLT, Nat.reduceLeDiff, Nat.reduceAdd, Nat.reduceMul, ↓reduceIte, Int.reduceToNat, Int.reducePow, Int.reduceLT, Int.reduceLE, Int.reduceAdd, Int.reduceSub, Int.reduceMul, Int.reduceEq, Int.reduceNe, *])
    | (refine CallA_pure (h3) ?_; simp -implicitDefEqProofs -proj only [go_sem, Nat.reduceBEq, Nat.reduceLT, Nat.reduceLeDiff, Nat.reduceAdd, Nat.reduceMul, ↓reduceIte, Int.reduceToNat, Int.reducePow, Int.reduceLT, Int.reduceLE, Int.reduceAdd, Int.reduceSub, Int.reduceMul, Int.reduceEq, Int.reduceNe, *])
    | (refine PCallA_pure (h3) ?_; simp -implicitDefEqProofs -proj only [go_sem, Nat.reduceBEq, Nat.reduceLT, Nat.reduceLeDiff, Nat.reduceAdd, Nat.reduceMul, ↓reduceIte, Int.reduceToNat, Int.reducePow, Int.reduceLT, Int.reduceLE, Int.reduceAdd, Int.reduceSub, Int.reduceMul, Int.reduceEq, Int.reduceNe, *])
    | (refine CallA_pure (h4) ?_; simp -implicitDefEqProofs -proj only [go_sem, Nat.reduceBEq, Nat.reduceLT, Nat.reduceLeDiff, Nat.reduceAdd, Nat.reduceMul, ↓reduceIte, Int.reduceToNat, Int.reducePow, Int.reduceLT, Int.reduceLE, Int.reduceAdd, Int.reduceSub, Int.reduceMul, Int.reduceEq, Int.reduceNe, *])
    | (refine PCallA_pure (h4) ?_; simp -implicitDefEqProofs -proj only [go_sem, Nat.reduceBEq, Nat.reduceLT, Nat.reduceLeDiff, Nat.reduceAdd, Nat.reduceMul, ↓reduceIte, Int.reduceToNat, Int.reducePow, Int.reduceLT, Int.reduceLE, Int.reduceAdd, Int.reduceSub, Int.reduceMul, Int.reduceEq, Int.reduceNe, *])
    | (refine CallA_pure (h5) ?_; simp -implicitDefEqProofs -proj only [go_sem, Nat.reduceBEq, Nat.reduceLT, Nat.reduceLeDiff, Nat.reduceAdd, Nat.reduceMul, ↓reduceIte, Int.reduceToNat, Int.reducePow, Int.reduceLT, Int.reduceLE, Int.reduceAdd, Int.reduceSub, Int.reduceMul, Int.reduceEq, Int.reduceNe, *])
    | (refine PCallA_pure (h5) ?_; simp -implicitDefEqProofs -proj only [go_sem, Nat.reduceBEq, Nat.reduceLT, Nat.reduceLeDiff, Nat.reduceAdd, Nat.reduceMul, ↓reduceIte, Int.reduceToNat, Int.reducePow, Int.reduceLT, Int.reduceLE, Int.reduceAdd, Int.reduceSub, Int.reduceMul, Int.reduceEq, Int.reduceNe, *])
    | (refine CallA_pure (hE) ?_; simp -implicitDefEqProofs -proj only [go_sem, Nat.reduceBEq, Nat.reduceLT, Nat.reduceLeDiff, Nat.reduceAdd, Nat.reduceMul, ↓reduceIte, Int.reduceToNat, Int.reducePow, Int.reduceLT, Int.reduceLE, Int.reduceAdd, Int.reduceSub, Int.reduceMul, Int.reduceEq, Int.reduceNe, *])
    | (refine PCallA_pure (hE) ?_; simp -implicitDefEqProofs -proj only [go_sem, Nat.reduceBEq, Nat.reduceLT, Nat.reduceLeDiff, Nat.reduceAdd, Nat.reduceMul, ↓reduceIte, Int.reduceToNat, Int.reducePow, Int.reduceLT, Int.reduceLE, Int.reduceAdd, Int.reduceSub, Int.reduceMul, Int.reduceEq, Int.reduceNe, *])
    | (with_reducible refine Guard_split (fun h => ?_) (fun h => ?_) <;> (simp -implicitDefEqProofs -proj only [go_sem, Nat.reduceBEq, Nat.reduceLT, Nat.reduceLeDiff, Nat.reduceAdd, Nat.reduceMul, ↓reduceIte, Int.reduceToNat, Int.reducePow, Int.reduceLT, Int.reduceLE, Int.reduceAdd, Int.reduceSub, Int.reduceMul, Int.reduceEq, Int.reduceNe, *]; try (revert h; intro _)))
    | (with_reducible refine Cond_split (fun h => ?_) (fun h => ?_) <;> (simp -implicitDefEqProofs -proj only [go_sem, Nat.reduceBEq, Nat.reduceLT, Nat.reduceLeDiff, Nat.reduceAdd, Nat.reduceMul, ↓reduceIte, Int.reduceToNat, Int.reducePow, Int.reduceLT, Int.reduceLE, Int.reduceAdd, Int.reduceSub, Int.reduceMul, Int.reduceEq, Int.reduceNe, *]; try (revert h; intro _)))
    | (with_reducible refine Pick_split (fun h => ?_) (fun h => ?_) <;> (simp -implicitDefEqProofs -proj only [go_sem, Nat.reduceBEq, Nat.reduceLT, Nat.reduceLeDiff, Nat.reduceAdd, Nat.reduceMul, ↓reduceIte, Int.reduceToNat, Int.reducePow, Int.reduceLT, Int.reduceLE, Int.reduceAdd, Int.reduceSub, Int.reduceMul, Int.reduceEq, Int.reduceNe, *]; try (revert h; intro _)))
    | (with_reducible refine AllocA_intro (fun _ hb => ?_); simp -implicitDefEqProofs only [upd_none, keepH_none, keepH_nil, Heap.none_get, and_true, true_and] at hb; simp -implicitDefEqProofs -proj only [go_sem, Nat.reduceBEq, Nat.reduceLT, Nat.reduceLeDiff, Nat.reduceAdd, Nat.reduceMul, ↓reduceIte, Int.reduceToNat, Int.reducePow, Int.reduceLT, Int.reduceLE, Int.reduceAdd, Int.reduceSub, Int.reduceMul, Int.reduceEq, Int.reduceNe, *]; try (revert hb; intro _))
    | (with_reducible refine AllocR_intro (fun _ hb => ?_); simp -implicitDefEqProofs only [upd_none, keepH_none, keepH_nil, Heap.none_get, and_true, true_and] at hb; simp -implicitDefEqProofs -proj only [go_sem, Nat.reduceBEq, Nat.reduceLT, Nat.reduceLeDiff, Nat.reduceAdd, Nat.reduceMul, ↓reduceIte, Int.reduceToNat, Int.reducePow, Int.reduceLT, Int.reduceLE, Int.reduceAdd, Int.reduceSub, Int.reduceMul, Int.reduceEq, Int.reduceNe, *]; try (revert hb; intro _))
    | (with_reducible refine IdxE_1 _ rfl (by simp) ?_; simp -implicitDefEqProofs -proj only [go_sem, Nat.reduceBEq, Nat.reduceLT, Nat.reduceLeDiff, Nat.reduceAdd, Nat.reduceMul, ↓reduceIte, Int.reduceToNat, Int.reducePow, Int.reduceLT, Int.reduceLE, Int.reduceAdd, Int.reduceSub, Int.reduceMul, Int.reduceEq, Int.reduceNe, *])
    | (with_reducible refine IdxE_n _ rfl (by simp) ?_; simp -implicitDefEqProofs -proj only [go_sem, Nat.reduceBEq, Nat.reduceLT, Nat.reduceLeDiff, Nat.reduceAdd, Nat.reduceMul, ↓reduceIte, Int.reduceToNat, Int.reducePow, Int.reduceLT, Int.reduceLE, Int.reduceAdd, Int.reduceSub, Int.reduceMul, Int.reduceEq, Int.reduceNe, *])
    | (with_reducible refine VC_intro ?_ (fun h => ?_); (focus first | decide | omega); try clear h; try simp -implicitDefEqProofs -proj only [go_sem, Nat.reduceBEq, Nat.reduceLT, Nat.reduceLeDiff, Nat.reduceAdd, Nat.reduceMul, ↓reduceIte, Int.reduceToNat, Int.reducePow, Int.reduceLT, Int.reduceLE, Int.reduceAdd, Int.reduceSub, Int.reduceMul, Int.reduceEq, Int.reduceNe, *])
    | (with_reducible refine VC_intro ?_ (fun h => ?_); rotate_left; try clear h; try simp -implicitDefEqProofs -proj only [go_sem, Nat.reduceBEq, Nat.reduceLT, Nat.reduceLeDiff, Nat.reduceAdd, Nat.reduceMul, ↓reduceIte, Int.reduceToNat, Int.reducePow, Int.reduceLT, Int.reduceLE, Int.reduceAdd, Int.reduceSub, Int.reduceMul, Int.reduceEq, Int.reduceNe, *]; rotate_right))
        all_goals exact LendV_eq rfl
  · rw [mdR_no hh]
    refine CallW_intro comp_poundageref02_MulDiv (by simp) ?_
    simp -implicitDefEqProofs -proj only [go_sem, Nat.reduceBEq, Nat.reduceLT, Nat.reduceLeDiff, Nat.reduceAdd, Nat.reduceMul, ↓reduceIte, Int.reduceToNat, Int.reducePow, Int.reduceLT, Int.reduceLE, Int.reduceAdd, Int.reduceSub, Int.reduceMul, Int.reduceEq, Int.reduceNe]
    (repeat' first
    | (with_reducible refine Guard_split (fun h => ?_) (fun h => ?_) <;> (simp -implicitDefEqProofs -proj only [go_sem, Nat.reduceBEq, Nat.reduceLT, Nat.reduceLeDiff, Nat.reduceAdd, Nat.reduceMul, ↓reduceIte, Int.reduceToNat, Int.reducePow, Int.reduceLT, Int.reduceLE, Int.reduceAdd, Int.reduceSub, Int.reduceMul, Int.reduceEq, Int.reduceNe, *]; try (revert h; intro _)))
    | (with_reducible refine Cond_split (fun h => ?_) (fun h => ?_) <;> (simp -implicitDefEqProofs -proj only [go_sem, Nat.reduceBEq, Nat.reduceLT, Nat.reduceLeDiff, Nat.reduceAdd, Nat.reduceMul, ↓reduceIte, Int.reduceToNat, Int.reducePow, Int.reduceLT, Int.reduceLE, Int.reduceAdd, Int.reduceSub, Int.reduceMul, Int.reduceEq, Int.reduceNe, *]; try (revert h; intro _)))
    | (with_reducible refine Pick_split (fun h => ?_) (fun h => ?_) <;> (simp -implicitDefEqProofs -proj only [go_sem, Nat.reduceBEq, Nat.reduceLT, Nat.reduceLeDiff, Nat.reduceAdd, Nat.reduceMul, ↓reduceIte, Int.reduceToNat, Int.reducePow, Int.reduceLT, Int.reduceLE, Int.reduceAdd, Int.reduceSub, Int.reduceMul, Int.reduceEq, Int.reduceNe, *]; try (revert h; intro _)))
    | (with_reducible refine AllocA_intro (fun _ hb => ?_); simp only [upd_none, keepH_none, keepH_nil, Heap.none_get, and_true, true_and] at hb; simp -implicitDefEqProofs -proj only [go_sem, Nat.reduceBEq, Nat.reduceLT, Nat.reduceLeDiff, Nat.reduceAdd, Nat.reduceMul, ↓reduceIte, Int.reduceToNat, Int.reducePow, Int.reduceLT, Int.reduceLE, Int.reduceAdd, Int.reduceSub, Int.reduceMul, Int.reduceEq, Int.reduceNe, *]; try (revert hb; intro _))
    | (with_reducible refine AllocR_intro (fun _ hb => ?_); simp only [upd_none, keepH_none, keepH_nil, Heap.none_get, and_true, true_and] at hb; simp -implicitDefEqProofs -proj only [go_sem, Nat.reduceBEq, Nat.reduceLT, Nat.reduceLeDiff, Nat.reduceAdd, Nat.reduceMul, ↓reduceIte, Int.reduceToNat, Int.reducePow, Int.reduceLT, Int.reduceLE, Int.reduceAdd, Int.reduceSub, Int.reduceMul, Int.reduceEq, Int.reduceNe, *]; try (revert hb; intro _))
    | (with_reducible refine IdxE_1 _ rfl (by simp) ?_; simp -implicitDefEqProofs -proj only [go_sem, Nat.reduceBEq, Nat.reduceLT, Nat.reduceLeDiff, Nat.reduceAdd, Nat.reduceMul, ↓reduceIte, Int.reduceToNat, Int.reducePow, Int.reduceLT, Int.reduceLE, Int.reduceAdd, Int.reduceSub, Int.reduceMul, Int.reduceEq, Int.reduceNe, *])
    | (with_reducible refine IdxE_n _ rfl (by simp) ?_; simp -implicitDefEqProofs -proj only [go_sem, Nat.reduceBEq, Nat.reduceLT, Nat.reduceLeDiff, Nat.reduceAdd, Nat.reduceMul, ↓reduceIte, Int.reduceToNat, Int.reducePow, Int.reduceLT, Int.reduceLE, Int.reduceAdd, Int.reduceSub, Int.reduceMul, Int.reduceEq, Int.reduceNe, *])
    | (with_reducible refine VC_intro ?_ (fun h => ?_); (focus first | decide | omega); try clear h; try simp -implicitDefEqProofs -proj only [go_sem, Nat.reduceBEq, Nat.reduceLT, Nat.reduceLeDiff, Nat.reduceAdd, Nat.reduceMul, ↓reduceIte, Int.reduceToNat, Int.reducePow, Int.reduceLT, Int.reduceLE, Int.reduceAdd, Int.reduceSub, Int.reduceMul, Int.reduceEq, Int.reduceNe, *])
    | (with_reducible refine VC_intro ?_ (fun h => ?_); rotate_left; try clear h; try simp -implicitDefEqProofs -proj only [go_sem, Nat.reduceBEq, Nat.reduceLT, Nat.reduceLeDiff, Nat.reduceAdd, Nat.reduceMul, ↓reduceIte, Int.reduceToNat, Int.reducePow, Int.reduceLT, Int.reduceLE, Int.reduceAdd, Int.reduceSub, Int.reduceMul, Int.reduceEq, Int.reduceNe, *]; rotate_right))
    all_goals first | exact LendV_eq rfl | (exfalso; simp -implicitDefEqProofs only [decide_eq_true_eq, decide_eq_false_iff_not, Bool.not_eq_true', Bool.not_eq_false', Bool.and_eq_true, Bool.and_eq_false_iff, Bool.or_eq_true, Bool.or_eq_false_iff, beq_iff_eq, beq_eq_false_iff_ne, ne_eq, decide_eq_decide, Bool.not_eq_true, Bool.not_eq_false] at *; omega)
end
end Go.Proofs.Ytnldlmlnedamlaa.Abs
