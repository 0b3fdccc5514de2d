/- Parts as data; when a part can be (poundageref10.Part). No claim stands here. -/
import Derived.Test.YtlflfciebidddaaKAdj
set_option maxRecDepth 100000
set_option linter.unusedSimpArgs false
set_option linter.unusedVariables false
namespace Go.Proofs.Ytlflfciebidddaa.Abs
open Go Go.RowKit Go.Proofs
attribute [local go_sem] RunC_seq AF_n AF_r AF_b St_n St_t St_H Fst_mk Snd_mk RunC_ops RunC_cond RunC_block RunC_loop RunC_exit RunC_ret RunC_skip RunO_nil RunO_code RunO_code_ret RunO_code_exit RunO_blk RunO_blk_ret RunO_blk_exit RunL_nil RunL_guard GuardA_tt GuardA_ff GuardA_tf GuardA_ft GuardA_void CondA_t CondA_f PickA_t PickA_f RunL_mov RunL_pick RunL_alloc RunL_box RunL_load LoadA_ptr LoadB_1 LoadB_n LoadA_dptr LoadA_dptr_n RunL_store StoreA_ptr StoreB_box RunL_bin Bin_add Bin_sub Bin_mul Bin_quo Bin_rem Bin_shl Bin_shr Bin_andI Bin_orI Bin_xorI Bin_eql Bin_neq Bin_lss Bin_leq Bin_gtr Bin_geq RunL_binb Bin_beql Bin_bneq RunL_un UnA_not UnA_neg RunL_conv convV MapA_some RunL_nilCheck nilV RunL_mkfn RunL_fieldAddr faV RunL_field FieldA_1 FieldA_n RunL_elemAddr EAddrA_sl EAddrA_own EptrA_eq RunL_build BuildA_some RunL_extract ExtA_eq RunL_len lenV_sl lenV_nilsl lenV_own RunL_slen RunL_idxStr IdxSA_eq slenV RunL_minmax mmV minmaxL RunL_call RunL_callv CallvA_fn putS ev evL evO evP eqK eqKs EqB_agg RunL_eqAgg EqA_t EqA_f evQ buildC fits_agg cellsAV_agg fits_d cellsAV_d fits_nilp cellsAV_nilp fits_nilsl cellsAV_nilsl fits_nilfn cellsAV_nilfn fits_ptr cellsAV_ptr fits_eptr cellsAV_eptr fits_dptr cellsAV_dptr fits_own cellsAV_own fits_fn cellsAV_fn rowV_fits rowV_cells rowV_len lenAV setSeg nth seg mapD repeatL putT_get upd_get argT keepT_cons keepT_nil keepH_cons keepH_nil cond_true cond_false VC_true finW resW resL resOne LoopQ_exit LoopQ_ret List.cons_append List.nil_append Bool.not_true Bool.not_false Bool.and_true Bool.and_self Nat.lt_add_left_iff_pos Nat.zero_add Nat.add_zero List.drop_succ_cons List.drop_zero List.take_succ_cons List.take_zero beq_self_eq_true Bool.false_eq_true RunC_dops RunL_loadS RunL_loadD LoadDA_dptr RunL_storeS StoreSA_ptr RunL_pcall RunL_pcallv PCallvA_fn newsOk and_self and_true true_and loadW_ptr LoadK_1 LoadK_n upd_upd RunL_loadP LoadPA_ptr RunL_callS RunL_make RunL_buildSlice BSliceA_some RunL_buildSliceD frzL frz cutL LoadA_eptr LoadE_row RunL_append RunL_slice SliceA_sl StoreA_eptr List.length_cons List.length_nil Nat.min_def Int.cast_ofNat_Int Int.natCast_zero Int.natCast_one decide_true decide_false List.getElem?_cons_zero List.getElem?_cons_succ RunC_rangef CallvA_yld putL_nil putL_cons RangeQ_exit RangeQ_ret
/-- A tier: up to which quantity, its rate. -/
structure Tier where
  u : Int
  r : Int
def Tier.el (a : Tier) : List D := [.int .i64 a.u, .int .i64 a.r]
def rowT (l : List Tier) : List (List D) := l.map Tier.el
theorem rowT_len {l : List Tier} : (rowT l).length = l.length := List.length_map ..
theorem rowT_at {l : List Tier} {i : Nat} (h : i < l.length) : (rowT l)[((i : Int)).toNat]? = some [.int .i64 l[i].u, .int .i64 l[i].r] := by
  rw [Int.toNat_natCast]; simp [rowT, h, Tier.el]
theorem rowA_at {l : List Adj} {i : Nat} (h : i < l.length) : (rowA l)[((i : Int)).toNat]? = some [.int .i64 l[i].k, .int .i64 l[i].n, .int .i64 l[i].m] := rowA_nth h
abbrev slT (l : List Tier) : AV := .d (.sl 2 (rowT l))
def Tier.Fit (a : Tier) : Prop := Abs.Fit a.u ∧ Abs.Fit a.r
/-- A part. -/
structure PartX where
  me : Int
  f : Int
  t : Int
  al : Int
  bl : Int
  ki : Int
  ts : List Tier
  mo : Int
  ad : List Adj
abbrev PartX.el (x : PartX) : List D := [.int .i64 x.me, .int .i64 x.f, .int .i64 x.t, .int .i64 x.al, .int .i64 x.bl, .int .i64 x.ki, .sl 2 (rowT x.ts), .int .i64 x.mo, .sl 3 (rowA x.ad)]
abbrev partV (x : PartX) : AV := .agg [i64 x.me, i64 x.f, i64 x.t, i64 x.al, i64 x.bl, i64 x.ki, slT x.ts, i64 x.mo, slA x.ad]
structure PartX.Fit (x : PartX) : Prop where
  me : Abs.Fit x.me
  f : Abs.Fit x.f
  t : Abs.Fit x.t
  al : Abs.Fit x.al
  bl : Abs.Fit x.bl
  ki : Abs.Fit x.ki
  ts : ∀ a ∈ x.ts, Tier.Fit a
  tn : x.ts.length ≤ 9223372036854775807
  mo : Abs.Fit x.mo
  ad : ∀ a ∈ x.ad, Adj.Fit a
  an : x.ad.length ≤ 9223372036854775807
theorem typed_map {α : Type} {g : α → List D} {F : α → Prop} {n : Nat} {e : TypeId} (hh : ∀ l, typedW Try.prog n e l → ∃ a, F a ∧ l = g a) : ∀ {xs : List (List D)}, (∀ el ∈ xs, typedW Try.prog n e el) → ∃ zs : List α, xs = zs.map g ∧ ∀ a ∈ zs, F a
  | [], _ => ⟨[], rfl, fun a h => by cases h⟩
  | x :: xs, h2 => by
    obtain ⟨a, ha, rfl⟩ := hh x (h2 x (List.mem_cons_self ..))
    obtain ⟨zs, rfl, hz⟩ := typed_map hh (fun el h' => h2 el (List.mem_cons_of_mem _ h'))
    refine ⟨a :: zs, rfl, fun b hb => ?_⟩
    rcases List.mem_cons.1 hb with rfl | hb
    · exact ha
    · exact hz b hb
theorem typed_tier {n : Nat} {l : List D} (h : typedW Try.prog (n + 2) 62 l) : ∃ a : Tier, a.Fit ∧ l = a.el := by
  obtain ⟨ls, rfl, h1, _⟩ := typed_struct (fs := #[⟨"Upto", 3, 0, false, "", "", 0⟩, ⟨"Rate", 3, 1, false, "", "", 8⟩]) h (by kernel_rfl)
  obtain ⟨l0, r0, rfl, t0, h1⟩ := typedL_cons h1
  obtain ⟨l1, r1, rfl, t1, h1⟩ := typedL_cons h1
  obtain rfl := typedL_nil h1
  obtain ⟨z0, rfl, f0, _⟩ := typed_int t0 (by kernel_rfl)
  obtain ⟨z1, rfl, f1, _⟩ := typed_int t1 (by kernel_rfl)
  exact ⟨⟨z0, z1⟩, ⟨f0, f1⟩, rfl⟩
theorem typed_sl {α : Type} {g : α → List D} {F : α → Prop} {n k : Nat} {t e : TypeId} {l : List D} (hh : ∀ l, typedW Try.prog n e l → ∃ a, F a ∧ l = g a) (ht : Try.prog.underlying t = some (.slice e)) (hc : Try.prog.cellsOf e = k) (h : typedW Try.prog (n + 1) t l) :
    ∃ zs : List α, l = [.sl k (zs.map g)] ∧ (∀ a ∈ zs, F a) ∧ zs.length ≤ 9223372036854775807 := by
  obtain ⟨xs, rfl, h1, h2, _⟩ := typed_slice h ht
  obtain ⟨zs, rfl, hz⟩ := typed_map hh h2
  exact ⟨zs, by rw [hc], hz, by rw [List.length_map] at h1; exact h1⟩
theorem typed_part {n : Nat} {l : List D} (h : typedW Try.prog (n + 4) 39 l) : ∃ x : PartX, x.Fit ∧ l = x.el ∧ argAV Try.prog 39 l = partV x := by
  obtain ⟨ls, rfl, h1, e⟩ := typed_struct (fs := #[⟨"Meter", 3, 0, false, "", "", 0⟩, ⟨"From", 3, 1, false, "", "", 8⟩, ⟨"To", 3, 2, false, "", "", 16⟩, ⟨"Allowance", 3, 3, false, "", "", 24⟩, ⟨"Block", 3, 4, false, "", "", 32⟩, ⟨"Kind", 3, 5, false, "", "", 40⟩, ⟨"Tiers", 36, 6, false, "", "", 48⟩, ⟨"Mode", 3, 7, false, "", "", 72⟩, ⟨"Adjusts", 37, 8, false, "", "", 80⟩]) h (by kernel_rfl)
  obtain ⟨l0, r0, rfl, t0, h1⟩ := typedL_cons h1
  obtain ⟨l1, r1, rfl, t1, h1⟩ := typedL_cons h1
  obtain ⟨l2, r2, rfl, t2, h1⟩ := typedL_cons h1
  obtain ⟨l3, r3, rfl, t3, h1⟩ := typedL_cons h1
  obtain ⟨l4, r4, rfl, t4, h1⟩ := typedL_cons h1
  obtain ⟨l5, r5, rfl, t5, h1⟩ := typedL_cons h1
  obtain ⟨l6, r6, rfl, t6, h1⟩ := typedL_cons h1
  obtain ⟨l7, r7, rfl, t7, h1⟩ := typedL_cons h1
  obtain ⟨l8, r8, rfl, t8, h1⟩ := typedL_cons h1
  obtain rfl := typedL_nil h1
  obtain ⟨z0, rfl, f0, _⟩ := typed_int t0 (by kernel_rfl)
  obtain ⟨z1, rfl, f1, _⟩ := typed_int t1 (by kernel_rfl)
  obtain ⟨z2, rfl, f2, _⟩ := typed_int t2 (by kernel_rfl)
  obtain ⟨z3, rfl, f3, _⟩ := typed_int t3 (by kernel_rfl)
  obtain ⟨z4, rfl, f4, _⟩ := typed_int t4 (by kernel_rfl)
  obtain ⟨z5, rfl, f5, _⟩ := typed_int t5 (by kernel_rfl)
  obtain ⟨z7, rfl, f7, _⟩ := typed_int t7 (by kernel_rfl)
  obtain ⟨z6, rfl, f6, g6⟩ := typed_sl (k := 2) (e := 62) (fun l h => typed_tier h) (by kernel_rfl) (by kernel_rfl) t6
  obtain ⟨z8, rfl, f8, g8⟩ := typed_sl (k := 3) (e := 70) (fun l h => typed_adj h) (by kernel_rfl) (by kernel_rfl) t8
  exact ⟨⟨z0, z1, z2, z3, z4, z5, z6, z7, z8⟩, ⟨f0, f1, f2, f3, f4, f5, f6, g6, f7, f8, g8⟩, rfl, e⟩
/-- A core: its span of days and its rows. -/
abbrev coreV (cur : ByteArray) (f t : Int) (ms ss ps : List (List D)) : AV := .agg [.d (.str cur), i64 f, i64 t, .d (.sl 5 ms), .d (.sl 3 ss), .d (.sl 9 ps)]
theorem RIn_ok {n lo hi : Int} : DataW Try.prog f_poundageref10_in [i64 n, i64 lo, i64 hi] (bv (decide (lo ≤ n ∧ n ≤ hi))) := by
  refine CallW_intro comp_poundageref10_in (by simp) ?_
  by_cases h1 : lo ≤ n
  · by_cases h2 : n ≤ hi
    · simp -implicitDefEqProofs -proj only [go_sem, Nat.reduceBEq, Nat.reduceLT, Nat.reduceLeDiff, Nat.reduceAdd, Nat.reduceMul, ↓reduceIte, decide_eq_true h1, decide_eq_true h2]
      exact LendV_eq (by rw [decide_eq_true ⟨h1, h2⟩])
    · simp -implicitDefEqProofs -proj only [go_sem, Nat.reduceBEq, Nat.reduceLT, Nat.reduceLeDiff, Nat.reduceAdd, Nat.reduceMul, ↓reduceIte, decide_eq_true h1, decide_eq_false h2]
      exact LendV_eq (by rw [decide_eq_false (fun h => h2 h.2)])
  · simp -implicitDefEqProofs -proj only [go_sem, Nat.reduceBEq, Nat.reduceLT, Nat.reduceLeDiff, Nat.reduceAdd, Nat.reduceMul, ↓reduceIte, decide_eq_false h1]
    exact LendV_eq (by rw [decide_eq_false (fun h => h1 h.1)])
theorem RIn_t {n lo hi : Int} (h : lo ≤ n ∧ n ≤ hi) : DataW Try.prog f_poundageref10_in [i64 n, i64 lo, i64 hi] (bv true) := by
  have := @RIn_ok n lo hi; rwa [decide_eq_true h] at this
theorem RIn_f {n lo hi : Int} (h : ¬ (lo ≤ n ∧ n ≤ hi)) : DataW Try.prog f_poundageref10_in [i64 n, i64 lo, i64 hi] (bv false) := by
  have := @RIn_ok n lo hi; rwa [decide_eq_false h] at this
theorem RSpan_ok {cur : ByteArray} {f t a b : Int} {ms ss ps : List (List D)} : DataW Try.prog f_poundageref10_span [coreV cur f t ms ss ps, i64 a, i64 b] (bv (decide (f ≤ a ∧ a ≤ b ∧ b ≤ t))) := by
  refine CallW_intro comp_poundageref10_span (by simp) ?_
  simp -implicitDefEqProofs -proj only [go_sem, Nat.reduceBEq, Nat.reduceLT, Nat.reduceLeDiff, Nat.reduceAdd, Nat.reduceMul, ↓reduceIte]
  refine AllocA_intro (fun b3 hb3 => ?_)
  by_cases h1 : f ≤ a
  · by_cases h2 : a ≤ b
    · by_cases h3 : b ≤ t
      · simp -implicitDefEqProofs -proj only [go_sem, Nat.reduceBEq, Nat.reduceLT, Nat.reduceLeDiff, Nat.reduceAdd, Nat.reduceMul, ↓reduceIte, decide_eq_true h1, decide_eq_true h2, decide_eq_true h3]
        exact LendV_eq (by rw [decide_eq_true ⟨h1, h2, h3⟩])
      · simp -implicitDefEqProofs -proj only [go_sem, Nat.reduceBEq, Nat.reduceLT, Nat.reduceLeDiff, Nat.reduceAdd, Nat.reduceMul, ↓reduceIte, decide_eq_true h1, decide_eq_true h2, decide_eq_false h3]
        exact LendV_eq (by rw [decide_eq_false (fun h => h3 h.2.2)])
    · simp -implicitDefEqProofs -proj only [go_sem, Nat.reduceBEq, Nat.reduceLT, Nat.reduceLeDiff, Nat.reduceAdd, Nat.reduceMul, ↓reduceIte, decide_eq_true h1, decide_eq_false h2]
      exact LendV_eq (by rw [decide_eq_false (fun h => h2 h.2.1)])
  · simp -implicitDefEqProofs -proj only [go_sem, Nat.reduceBEq, Nat.reduceLT, Nat.reduceLeDiff, Nat.reduceAdd, Nat.reduceMul, ↓reduceIte, decide_eq_false h1]
    exact LendV_eq (by rw [decide_eq_false (fun h => h1 h.1)])
end Go.Proofs.Ytlflfciebidddaa.Abs
