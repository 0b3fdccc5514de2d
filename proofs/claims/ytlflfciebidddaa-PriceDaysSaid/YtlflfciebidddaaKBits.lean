/- Contracts of math/bits. No claim stands here. -/
import Derived.Test.YtlflfciebidddaaKBit
import Derived.Test.YtlflfciebidddaaKFit
import Derived.Test.YtlflfciebidddaaCode
set_option linter.unusedSimpArgs false
set_option linter.unusedVariables false
namespace Go.Proofs.Ytlflfciebidddaa.Abs
open Go Go.RowKit Go.Proofs
attribute [local go_sem] RunC_seq AF_n AF_r AF_b St_n St_t St_H Fst_mk Snd_mk RunC_ops RunC_cond RunC_block RunC_loop RunC_exit RunC_ret RunC_skip RunO_nil RunO_code RunO_code_ret RunO_code_exit RunO_blk RunO_blk_ret RunO_blk_exit RunL_nil RunL_guard GuardA_tt GuardA_ff GuardA_tf GuardA_ft GuardA_void CondA_t CondA_f PickA_t PickA_f RunL_mov RunL_pick RunL_alloc RunL_box RunL_load LoadA_ptr LoadB_1 LoadB_n LoadA_dptr LoadA_dptr_n RunL_store StoreA_ptr StoreB_box RunL_bin Bin_add Bin_sub Bin_mul Bin_quo Bin_rem Bin_shl Bin_shr Bin_andI Bin_orI Bin_xorI Bin_eql Bin_neq Bin_lss Bin_leq Bin_gtr Bin_geq RunL_binb Bin_beql Bin_bneq RunL_un UnA_not UnA_neg RunL_conv convV MapA_some RunL_nilCheck nilV RunL_mkfn RunL_fieldAddr faV RunL_field FieldA_1 FieldA_n RunL_elemAddr EAddrA_sl EAddrA_own EptrA_eq RunL_build BuildA_some RunL_extract ExtA_eq RunL_len lenV_sl lenV_nilsl lenV_own RunL_slen RunL_idxStr IdxSA_eq slenV RunL_minmax mmV minmaxL RunL_call RunL_callv CallvA_fn putS ev evL evO evP eqK eqKs EqB_agg RunL_eqAgg EqA_t EqA_f evQ buildC fits_agg cellsAV_agg fits_d cellsAV_d fits_nilp cellsAV_nilp fits_nilsl cellsAV_nilsl fits_nilfn cellsAV_nilfn fits_ptr cellsAV_ptr fits_eptr cellsAV_eptr fits_dptr cellsAV_dptr fits_own cellsAV_own fits_fn cellsAV_fn rowV_fits rowV_cells rowV_len lenAV setSeg nth seg mapD repeatL putT_get upd_get argT keepT_cons keepT_nil keepH_cons keepH_nil cond_true cond_false VC_true finW resW resL resOne LoopQ_exit LoopQ_ret List.cons_append List.nil_append Bool.not_true Bool.not_false Bool.and_true Bool.and_self Nat.lt_add_left_iff_pos Nat.zero_add Nat.add_zero List.drop_succ_cons List.drop_zero List.take_succ_cons List.take_zero beq_self_eq_true Bool.false_eq_true RunC_dops RunL_loadS RunL_loadD LoadDA_dptr RunL_storeS StoreSA_ptr RunL_pcall RunL_pcallv PCallvA_fn newsOk and_self and_true true_and loadW_ptr LoadK_1 LoadK_n upd_upd RunL_loadP LoadPA_ptr RunL_callS RunL_make RunL_buildSlice BSliceA_some RunL_buildSliceD frzL frz cutL LoadA_eptr LoadE_row RunL_append RunL_slice SliceA_sl StoreA_eptr List.length_cons List.length_nil Nat.min_def Int.cast_ofNat_Int Int.natCast_zero Int.natCast_one decide_true decide_false List.getElem?_cons_zero List.getElem?_cons_succ RunC_rangef CallvA_yld putL_nil putL_cons RangeQ_exit RangeQ_ret
set_option maxRecDepth 20000 in
theorem Len64_ok {x : Int} (h : 0 ≤ x ∧ x < 18446744073709551616) : DataW Try.prog f_bits_Len64 [u64 x] (i64 (blen x)) := by
  refine CallW_intro comp_bits_Len64 (by simp) ?_
  simp -implicitDefEqProofs -proj only [go_sem, Nat.reduceBEq, Nat.reduceLT, Nat.reduceLeDiff, Nat.reduceAdd, Nat.reduceMul, ↓reduceIte, Int.reduceToNat, Int.reducePow, Int.reduceLT, Int.reduceLE, Int.reduceAdd, Int.reduceSub, Int.reduceMul, Int.reduceEq, Int.reduceNe]
  (repeat' first
    | (with_reducible refine Guard_split (fun h => ?_) (fun h => ?_) <;> (simp -implicitDefEqProofs -proj only [go_sem, Nat.reduceBEq, Nat.reduceLT, Nat.reduceLeDiff, Nat.reduceAdd, Nat.reduceMul, ↓reduceIte, Int.reduceToNat, Int.reducePow, Int.reduceLT, Int.reduceLE, Int.reduceAdd, Int.reduceSub, Int.reduceMul, Int.reduceEq, Int.reduceNe, *]; try (revert h; intro _)))
    | (with_reducible refine Cond_split (fun h => ?_) (fun h => ?_) <;> (simp -implicitDefEqProofs -proj only [go_sem, Nat.reduceBEq, Nat.reduceLT, Nat.reduceLeDiff, Nat.reduceAdd, Nat.reduceMul, ↓reduceIte, Int.reduceToNat, Int.reducePow, Int.reduceLT, Int.reduceLE, Int.reduceAdd, Int.reduceSub, Int.reduceMul, Int.reduceEq, Int.reduceNe, *]; try (revert h; intro _)))
    | (with_reducible refine Pick_split (fun h => ?_) (fun h => ?_) <;> (simp -implicitDefEqProofs -proj only [go_sem, Nat.reduceBEq, Nat.reduceLT, Nat.reduceLeDiff, Nat.reduceAdd, Nat.reduceMul, ↓reduceIte, Int.reduceToNat, Int.reducePow, Int.reduceLT, Int.reduceLE, Int.reduceAdd, Int.reduceSub, Int.reduceMul, Int.reduceEq, Int.reduceNe, *]; try (revert h; intro _)))
    | (with_reducible refine AllocA_intro (fun _ hb => ?_); simp only [upd_none, keepH_none, keepH_nil, Heap.none_get, and_true, true_and] at hb; simp -implicitDefEqProofs -proj only [go_sem, Nat.reduceBEq, Nat.reduceLT, Nat.reduceLeDiff, Nat.reduceAdd, Nat.reduceMul, ↓reduceIte, Int.reduceToNat, Int.reducePow, Int.reduceLT, Int.reduceLE, Int.reduceAdd, Int.reduceSub, Int.reduceMul, Int.reduceEq, Int.reduceNe, *]; try (revert hb; intro _))
    | (with_reducible refine AllocR_intro (fun _ hb => ?_); simp only [upd_none, keepH_none, keepH_nil, Heap.none_get, and_true, true_and] at hb; simp -implicitDefEqProofs -proj only [go_sem, Nat.reduceBEq, Nat.reduceLT, Nat.reduceLeDiff, Nat.reduceAdd, Nat.reduceMul, ↓reduceIte, Int.reduceToNat, Int.reducePow, Int.reduceLT, Int.reduceLE, Int.reduceAdd, Int.reduceSub, Int.reduceMul, Int.reduceEq, Int.reduceNe, *]; try (revert hb; intro _))
    | (with_reducible refine IdxE_1 _ rfl (by simp) ?_; simp -implicitDefEqProofs -proj only [go_sem, Nat.reduceBEq, Nat.reduceLT, Nat.reduceLeDiff, Nat.reduceAdd, Nat.reduceMul, ↓reduceIte, Int.reduceToNat, Int.reducePow, Int.reduceLT, Int.reduceLE, Int.reduceAdd, Int.reduceSub, Int.reduceMul, Int.reduceEq, Int.reduceNe, *])
    | (with_reducible refine IdxE_n _ rfl (by simp) ?_; simp -implicitDefEqProofs -proj only [go_sem, Nat.reduceBEq, Nat.reduceLT, Nat.reduceLeDiff, Nat.reduceAdd, Nat.reduceMul, ↓reduceIte, Int.reduceToNat, Int.reducePow, Int.reduceLT, Int.reduceLE, Int.reduceAdd, Int.reduceSub, Int.reduceMul, Int.reduceEq, Int.reduceNe, *])
    | (with_reducible refine VC_intro ?_ (fun h => ?_); (focus first | decide | omega); try clear h; try simp -implicitDefEqProofs -proj only [go_sem, Nat.reduceBEq, Nat.reduceLT, Nat.reduceLeDiff, Nat.reduceAdd, Nat.reduceMul, ↓reduceIte, Int.reduceToNat, Int.reducePow, Int.reduceLT, Int.reduceLE, Int.reduceAdd, Int.reduceSub, Int.reduceMul, Int.reduceEq, Int.reduceNe, *])
    | (with_reducible refine VC_intro ?_ (fun h => ?_); rotate_left; try clear h; try simp -implicitDefEqProofs -proj only [go_sem, Nat.reduceBEq, Nat.reduceLT, Nat.reduceLeDiff, Nat.reduceAdd, Nat.reduceMul, ↓reduceIte, Int.reduceToNat, Int.reducePow, Int.reduceLT, Int.reduceLE, Int.reduceAdd, Int.reduceSub, Int.reduceMul, Int.reduceEq, Int.reduceNe, *]; rotate_right))
  all_goals try exact tab_in.2
  all_goals
    refine LendV_eq ?_
    simp -implicitDefEqProofs only [decide_eq_true_eq, decide_eq_false_iff_not, Bool.not_eq_true', Bool.not_eq_false', Bool.and_eq_true, Bool.and_eq_false_iff, Bool.or_eq_true, Bool.or_eq_false_iff, beq_iff_eq, beq_eq_false_iff_ne, ne_eq, decide_eq_decide, Bool.not_eq_true, Bool.not_eq_false] at *
    simp -implicitDefEqProofs only [← decide_not, ← Bool.decide_and, ← Bool.decide_or, Bool.beq_eq_decide_eq, AV.d.injEq, D.bool.injEq, D.int.injEq, D.str.injEq, AV.tup.injEq, AV.agg.injEq, List.cons.injEq, true_and, and_true, decide_eq_decide, true_eq_decide_iff, false_eq_decide_iff, decide_eq_true_eq, decide_eq_false_iff_not, Bool.true_eq, Bool.false_eq]
  all_goals
    first
    | rw [blen_32 (by assumption), blen_16 (by assumption), blen_8 (by assumption)]
    | rw [blen_32 (by assumption), blen_16 (by assumption)]
    | rw [blen_32 (by assumption), blen_8 (by assumption)]
    | rw [blen_32 (by assumption)]
    | rw [blen_16 (by assumption), blen_8 (by assumption)]
    | rw [blen_16 (by assumption)]
    | rw [blen_8 (by assumption)]
    | skip
  all_goals
    try simp -implicitDefEqProofs only [fdiv_pos (show (0 : Int) ≤ 4294967296 by omega), fdiv_pos (show (0 : Int) ≤ 65536 by omega), fdiv_pos (show (0 : Int) ≤ 256 by omega)] at *
    rw [tab_wrap (by omega), fin_wrap (by decide) (by omega)] <;>
    first | (simp -implicitDefEqProofs only [IntKind.wrap_i64]; done) | (simp -implicitDefEqProofs only [IntKind.wrap_i64]; omega) | omega
theorem LeadingZeros64_ok {x : Int} (h : 0 ≤ x ∧ x < 18446744073709551616) : DataW Try.prog f_bits_LeadingZeros64 [u64 x] (i64 (64 - blen x)) := by
  have hb := blen_64 h
  refine CallW_intro comp_bits_LeadingZeros64 (by simp) ?_
  simp -implicitDefEqProofs -proj only [go_sem, Nat.reduceBEq, Nat.reduceLT, Nat.reduceLeDiff, Nat.reduceAdd, Nat.reduceMul, ↓reduceIte, Int.reduceToNat, Int.reducePow, Int.reduceLT, Int.reduceLE, Int.reduceAdd, Int.reduceSub, Int.reduceMul, Int.reduceEq, Int.reduceNe]
  (repeat' first
    | (refine CallA_pure (Len64_ok h) ?_; simp -implicitDefEqProofs -proj only [go_sem, Nat.reduceBEq, Nat.reduceLT, Nat.reduceLeDiff, Nat.reduceAdd, Nat.reduceMul, ↓reduceIte, Int.reduceToNat, Int.reducePow, Int.reduceLT, Int.reduceLE, Int.reduceAdd, Int.reduceSub, Int.reduceMul, Int.reduceEq, Int.reduceNe, *])
    | (refine PCallA_pure (Len64_ok h) ?_; simp -implicitDefEqProofs -proj only [go_sem, Nat.reduceBEq, Nat.reduceLT, Nat.reduceLeDiff, Nat.reduceAdd, Nat.reduceMul, ↓reduceIte, Int.reduceToNat, Int.reducePow, Int.reduceLT, Int.reduceLE, Int.reduceAdd, Int.reduceSub, Int.reduceMul, Int.reduceEq, Int.reduceNe, *])
    | (with_reducible refine Guard_split (fun h => ?_) (fun h => ?_) <;> (simp -implicitDefEqProofs -proj only [go_sem, Nat.reduceBEq, Nat.reduceLT, Nat.reduceLeDiff, Nat.reduceAdd, Nat.reduceMul, ↓reduceIte, Int.reduceToNat, Int.reducePow, Int.reduceLT, Int.reduceLE, Int.reduceAdd, Int.reduceSub, Int.reduceMul, Int.reduceEq, Int.reduceNe, *]; try (revert h; intro _)))
    | (with_reducible refine Cond_split (fun h => ?_) (fun h => ?_) <;> (simp -implicitDefEqProofs -proj only [go_sem, Nat.reduceBEq, Nat.reduceLT, Nat.reduceLeDiff, Nat.reduceAdd, Nat.reduceMul, ↓reduceIte, Int.reduceToNat, Int.reducePow, Int.reduceLT, Int.reduceLE, Int.reduceAdd, Int.reduceSub, Int.reduceMul, Int.reduceEq, Int.reduceNe, *]; try (revert h; intro _)))
    | (with_reducible refine Pick_split (fun h => ?_) (fun h => ?_) <;> (simp -implicitDefEqProofs -proj only [go_sem, Nat.reduceBEq, Nat.reduceLT, Nat.reduceLeDiff, Nat.reduceAdd, Nat.reduceMul, ↓reduceIte, Int.reduceToNat, Int.reducePow, Int.reduceLT, Int.reduceLE, Int.reduceAdd, Int.reduceSub, Int.reduceMul, Int.reduceEq, Int.reduceNe, *]; try (revert h; intro _)))
    | (with_reducible refine AllocA_intro (fun _ hb => ?_); simp -implicitDefEqProofs only [upd_none, keepH_none, keepH_nil, Heap.none_get, and_true, true_and] at hb; simp -implicitDefEqProofs -proj only [go_sem, Nat.reduceBEq, Nat.reduceLT, Nat.reduceLeDiff, Nat.reduceAdd, Nat.reduceMul, ↓reduceIte, Int.reduceToNat, Int.reducePow, Int.reduceLT, Int.reduceLE, Int.reduceAdd, Int.reduceSub, Int.reduceMul, Int.reduceEq, Int.reduceNe, *]; try (revert hb; intro _))
    | (with_reducible refine AllocR_intro (fun _ hb => ?_); simp -implicitDefEqProofs only [upd_none, keepH_none, keepH_nil, Heap.none_get, and_true, true_and] at hb; simp -implicitDefEqProofs -proj only [go_sem, Nat.reduceBEq, Nat.reduceLT, Nat.reduceLeDiff, Nat.reduceAdd, Nat.reduceMul, ↓reduceIte, Int.reduceToNat, Int.reducePow, Int.reduceLT, Int.reduceLE, Int.reduceAdd, Int.reduceSub, Int.reduceMul, Int.reduceEq, Int.reduceNe, *]; try (revert hb; intro _))
    | (with_reducible refine IdxE_1 _ rfl (by simp) ?_; simp -implicitDefEqProofs -proj only [go_sem, Nat.reduceBEq, Nat.reduceLT, Nat.reduceLeDiff, Nat.reduceAdd, Nat.reduceMul, ↓reduceIte, Int.reduceToNat, Int.reducePow, Int.reduceLT, Int.reduceLE, Int.reduceAdd, Int.reduceSub, Int.reduceMul, Int.reduceEq, Int.reduceNe, *])
    | (with_reducible refine IdxE_n _ rfl (by simp) ?_; simp -implicitDefEqProofs -proj only [go_sem, Nat.reduceBEq, Nat.reduceLT, Nat.reduceLeDiff, Nat.reduceAdd, Nat.reduceMul, ↓reduceIte, Int.reduceToNat, Int.reducePow, Int.reduceLT, Int.reduceLE, Int.reduceAdd, Int.reduceSub, Int.reduceMul, Int.reduceEq, Int.reduceNe, *])
    | (with_reducible refine VC_intro ?_ (fun h => ?_); (focus first | decide | omega); try clear h; try simp -implicitDefEqProofs -proj only [go_sem, Nat.reduceBEq, Nat.reduceLT, Nat.reduceLeDiff, Nat.reduceAdd, Nat.reduceMul, ↓reduceIte, Int.reduceToNat, Int.reducePow, Int.reduceLT, Int.reduceLE, Int.reduceAdd, Int.reduceSub, Int.reduceMul, Int.reduceEq, Int.reduceNe, *])
    | (with_reducible refine VC_intro ?_ (fun h => ?_); rotate_left; try clear h; try simp -implicitDefEqProofs -proj only [go_sem, Nat.reduceBEq, Nat.reduceLT, Nat.reduceLeDiff, Nat.reduceAdd, Nat.reduceMul, ↓reduceIte, Int.reduceToNat, Int.reducePow, Int.reduceLT, Int.reduceLE, Int.reduceAdd, Int.reduceSub, Int.reduceMul, Int.reduceEq, Int.reduceNe, *]; rotate_right))
  refine LendV_eq ?_
  simp -implicitDefEqProofs only [← decide_not, ← Bool.decide_and, ← Bool.decide_or, Bool.beq_eq_decide_eq, AV.d.injEq, D.bool.injEq, D.int.injEq, D.str.injEq, AV.tup.injEq, AV.agg.injEq, List.cons.injEq, true_and, and_true, decide_eq_decide, true_eq_decide_iff, false_eq_decide_iff, decide_eq_true_eq, decide_eq_false_iff_not, Bool.true_eq, Bool.false_eq, IntKind.wrap_i64]
  omega
theorem Mul64_ok {x y : Int} (h : 0 ≤ x ∧ x < 18446744073709551616) (h' : 0 ≤ y ∧ y < 18446744073709551616) : DataW Try.prog f_bits_Mul64 [u64 x, u64 y] (.tup [u64 (x * y / 18446744073709551616), u64 (x * y % 18446744073709551616)]) := by
  refine CallW_intro comp_bits_Mul64 (by simp) ?_
  simp -implicitDefEqProofs -proj only [go_sem, Nat.reduceBEq, Nat.reduceLT, Nat.reduceLeDiff, Nat.reduceAdd, Nat.reduceMul, ↓reduceIte, Int.reduceToNat, Int.reducePow, Int.reduceLT, Int.reduceLE, Int.reduceAdd, Int.reduceSub, Int.reduceMul, Int.reduceEq, Int.reduceNe]
  (repeat' first
    | (with_reducible refine Guard_split (fun h => ?_) (fun h => ?_) <;> (simp -implicitDefEqProofs -proj only [go_sem, Nat.reduceBEq, Nat.reduceLT, Nat.reduceLeDiff, Nat.reduceAdd, Nat.reduceMul, ↓reduceIte, Int.reduceToNat, Int.reducePow, Int.reduceLT, Int.reduceLE, Int.reduceAdd, Int.reduceSub, Int.reduceMul, Int.reduceEq, Int.reduceNe, *]; try (revert h; intro _)))
    | (with_reducible refine Cond_split (fun h => ?_) (fun h => ?_) <;> (simp -implicitDefEqProofs -proj only [go_sem, Nat.reduceBEq, Nat.reduceLT, Nat.reduceLeDiff, Nat.reduceAdd, Nat.reduceMul, ↓reduceIte, Int.reduceToNat, Int.reducePow, Int.reduceLT, Int.reduceLE, Int.reduceAdd, Int.reduceSub, Int.reduceMul, Int.reduceEq, Int.reduceNe, *]; try (revert h; intro _)))
    | (with_reducible refine Pick_split (fun h => ?_) (fun h => ?_) <;> (simp -implicitDefEqProofs -proj only [go_sem, Nat.reduceBEq, Nat.reduceLT, Nat.reduceLeDiff, Nat.reduceAdd, Nat.reduceMul, ↓reduceIte, Int.reduceToNat, Int.reducePow, Int.reduceLT, Int.reduceLE, Int.reduceAdd, Int.reduceSub, Int.reduceMul, Int.reduceEq, Int.reduceNe, *]; try (revert h; intro _)))
    | (with_reducible refine AllocA_intro (fun _ hb => ?_); simp only [upd_none, keepH_none, keepH_nil, Heap.none_get, and_true, true_and] at hb; simp -implicitDefEqProofs -proj only [go_sem, Nat.reduceBEq, Nat.reduceLT, Nat.reduceLeDiff, Nat.reduceAdd, Nat.reduceMul, ↓reduceIte, Int.reduceToNat, Int.reducePow, Int.reduceLT, Int.reduceLE, Int.reduceAdd, Int.reduceSub, Int.reduceMul, Int.reduceEq, Int.reduceNe, *]; try (revert hb; intro _))
    | (with_reducible refine AllocR_intro (fun _ hb => ?_); simp only [upd_none, keepH_none, keepH_nil, Heap.none_get, and_true, true_and] at hb; simp -implicitDefEqProofs -proj only [go_sem, Nat.reduceBEq, Nat.reduceLT, Nat.reduceLeDiff, Nat.reduceAdd, Nat.reduceMul, ↓reduceIte, Int.reduceToNat, Int.reducePow, Int.reduceLT, Int.reduceLE, Int.reduceAdd, Int.reduceSub, Int.reduceMul, Int.reduceEq, Int.reduceNe, *]; try (revert hb; intro _))
    | (with_reducible refine IdxE_1 _ rfl (by simp) ?_; simp -implicitDefEqProofs -proj only [go_sem, Nat.reduceBEq, Nat.reduceLT, Nat.reduceLeDiff, Nat.reduceAdd, Nat.reduceMul, ↓reduceIte, Int.reduceToNat, Int.reducePow, Int.reduceLT, Int.reduceLE, Int.reduceAdd, Int.reduceSub, Int.reduceMul, Int.reduceEq, Int.reduceNe, *])
    | (with_reducible refine IdxE_n _ rfl (by simp) ?_; simp -implicitDefEqProofs -proj only [go_sem, Nat.reduceBEq, Nat.reduceLT, Nat.reduceLeDiff, Nat.reduceAdd, Nat.reduceMul, ↓reduceIte, Int.reduceToNat, Int.reducePow, Int.reduceLT, Int.reduceLE, Int.reduceAdd, Int.reduceSub, Int.reduceMul, Int.reduceEq, Int.reduceNe, *])
    | (with_reducible refine VC_intro ?_ (fun h => ?_); (focus first | decide | omega); try clear h; try simp -implicitDefEqProofs -proj only [go_sem, Nat.reduceBEq, Nat.reduceLT, Nat.reduceLeDiff, Nat.reduceAdd, Nat.reduceMul, ↓reduceIte, Int.reduceToNat, Int.reducePow, Int.reduceLT, Int.reduceLE, Int.reduceAdd, Int.reduceSub, Int.reduceMul, Int.reduceEq, Int.reduceNe, *])
    | (with_reducible refine VC_intro ?_ (fun h => ?_); rotate_left; try clear h; try simp -implicitDefEqProofs -proj only [go_sem, Nat.reduceBEq, Nat.reduceLT, Nat.reduceLeDiff, Nat.reduceAdd, Nat.reduceMul, ↓reduceIte, Int.reduceToNat, Int.reducePow, Int.reduceLT, Int.reduceLE, Int.reduceAdd, Int.reduceSub, Int.reduceMul, Int.reduceEq, Int.reduceNe, *]; rotate_right))
  have hp := mul_parts x y
  have fx : x.fdiv 4294967296 = x / 4294967296 := fdiv_pos (by omega)
  have fy : y.fdiv 4294967296 = y / 4294967296 := fdiv_pos (by omega)
  rw [fx, fy, andMask h, andMask h']
  have a1 : 0 ≤ x / 4294967296 ∧ x / 4294967296 ≤ 4294967295 := by omega
  have a2 : 0 ≤ x % 4294967296 ∧ x % 4294967296 ≤ 4294967295 := by omega
  have b1 : 0 ≤ y / 4294967296 ∧ y / 4294967296 ≤ 4294967295 := by omega
  have b2 : 0 ≤ y % 4294967296 ∧ y % 4294967296 ≤ 4294967295 := by omega
  have p1 := part_bound a1 b1
  have p2 := part_bound a1 b2
  have p3 := part_bound a2 b1
  have p4 := part_bound a2 b2
  rw [hp]
  generalize x / 4294967296 * (y / 4294967296) = P at *
  generalize x / 4294967296 * (y % 4294967296) = q at *
  generalize x % 4294967296 * (y / 4294967296) = r at *
  generalize x % 4294967296 * (y % 4294967296) = t at *
  clear fx fy a1 a2 b1 b2 hp
  rw [wrapU_in (show 0 ≤ t ∧ t ≤ 18446744073709551615 by omega), wrapU_in (show 0 ≤ q ∧ q ≤ 18446744073709551615 by omega), wrapU_in (show 0 ≤ r ∧ r ≤ 18446744073709551615 by omega), wrapU_in (show 0 ≤ P ∧ P ≤ 18446744073709551615 by omega)]
  simp -implicitDefEqProofs only [fdiv_pos (show (0 : Int) ≤ 4294967296 by omega)]
  rw [wrapU_in (show 0 ≤ q + t / 4294967296 ∧ q + t / 4294967296 ≤ 18446744073709551615 by omega), andMask (by omega)]
  refine LendV_eq ?_
  simp -implicitDefEqProofs only [IntKind.wrap_u64, ← decide_not, ← Bool.decide_and, ← Bool.decide_or, Bool.beq_eq_decide_eq, AV.d.injEq, D.bool.injEq, D.int.injEq, D.str.injEq, AV.tup.injEq, AV.agg.injEq, List.cons.injEq, true_and, and_true, decide_eq_decide, true_eq_decide_iff, false_eq_decide_iff, decide_eq_true_eq, decide_eq_false_iff_not, Bool.true_eq, Bool.false_eq]
  omega
set_option maxRecDepth 20000 in
theorem Div_loop0 {V s y1 y0 U w w2 : Int} {Q : Out → St → Prop} {k : List Item} {S : St} (hn : 135 = S.n) (ha : AllAt S.t [(2, u64 V), (8, u64 s), (9, u64 y1), (10, u64 y0), (11, u64 U), (13, u64 w), (14, u64 w2), (15, u64 (U / y1)), (16, u64 (U % y1))])
    (hV : V = y1 * 4294967296 + y0) (hy1 : 2147483648 ≤ y1 ∧ y1 < 4294967296) (hy0 : 0 ≤ y0 ∧ y0 < 4294967296) (hU : 0 ≤ U) (hUV : U < V) (hw : 0 ≤ w ∧ w < 4294967296)
    (after : ∀ (t : TM) (H : Heap) (r : Int), AllAt t [(2, u64 V), (8, u64 s), (9, u64 y1), (10, u64 y0), (11, u64 U), (13, u64 w), (14, u64 w2), (15, u64 ((U * 4294967296 + w) / V)), (16, u64 r)] → RunO Try.prog Q k (.exit 0) ⟨135, t, H⟩) : LoopA Try.prog Q c_bits_Div64_l0 k S := by
  obtain ⟨i1, i2, i3, i4, i5, i6⟩ := kn_init hV hy1.1 hy0 hU hUV hw
  refine LoopA_k (fun p : Int × Int => p.1 * y1 + p.2 = U ∧ 0 ≤ p.2 ∧ p.2 < 4294967296 ∧ (U * 4294967296 + w) / V ≤ p.1 ∧ p.1 ≤ 4294967297 ∧ 0 ≤ p.1) 135 (fun p => [(2, u64 V), (8, u64 s), (9, u64 y1), (10, u64 y0), (11, u64 U), (13, u64 w), (14, u64 w2), (15, u64 p.1), (16, u64 p.2)]) (fun _ => []) (fun p => p.1.toNat) (U / y1, U % y1) ⟨i1, i2, by simp -implicitDefEqProofs only [Snd_mk]; omega, i4, i5, i6⟩ hn ha trivial ?_
  rintro ⟨q, r⟩ ⟨h1, h2, h3, h4, h5, h6⟩
  simp -implicitDefEqProofs only [Fst_mk, Snd_mk] at h1 h2 h3 h4 h5 h6
  have hm : q < 4294967296 → 0 ≤ q * y0 ∧ q * y0 ≤ 18446744065119617025 := fun h => part_bound (by omega) (by omega)
  have hm2 : q ≤ 4294967296 → q * y0 ≤ 4294967296 * 4294967295 := fun h => Int.mul_le_mul h (by omega) hy0.1 (by omega)
  have hQ0 : 0 ≤ (U * 4294967296 + w) / V := Int.ediv_nonneg (by omega) (by omega)
  have stop := kn_stop (u1 := w) hV (by omega) h1 h4
  have go := kn_go (u1 := w) hV (by omega) hUV hw.2 h1
  have stop2 : ∀ a b : Int, a = q - 1 → b = r + y1 → 4294967296 ≤ b → (U * 4294967296 + w) / V ≤ a → a = (U * 4294967296 + w) / V := by
    rintro a b rfl rfl hb hc
    refine kn_stop (u1 := w) (q := q - 1) (r := r + y1) hV (by omega) (by rw [Int.sub_mul]; omega) hc ?_
    have e : (q - 1) * y0 = q * y0 - y0 := by rw [Int.sub_mul]; omega
    have := Int.mul_le_mul (show q - 1 ≤ 4294967296 by omega) (show y0 ≤ 4294967295 by omega) hy0.1 (by omega)
    omega
  have next : ∀ a b : Int, a = q - 1 → b = r + y1 → b < 4294967296 → (U * 4294967296 + w) / V ≤ a → a * y1 + b = U ∧ 0 ≤ b ∧ b < 4294967296 ∧ (U * 4294967296 + w) / V ≤ a ∧ a ≤ 4294967297 ∧ 0 ≤ a := by
    rintro a b rfl rfl hb hc
    exact ⟨by rw [Int.sub_mul]; omega, by omega, hb, hc, by omega, by omega⟩
  have hwrap1 : 0 < q → IntKind.u64.wrap (q - 1) = q - 1 := fun h => wrapU_in (by omega)
  have hwrap2 : IntKind.u64.wrap (r + y1) = r + y1 := wrapU_in (by omega)
  have hwrap3 : IntKind.u64.wrap (IntKind.u64.wrap (4294967296 * r) + w) = 4294967296 * r + w := by rw [wrapU_in (show 0 ≤ 4294967296 * r ∧ 4294967296 * r ≤ 18446744073709551615 by omega), wrapU_in (by omega)]
  have hwrap4 : q < 4294967296 → IntKind.u64.wrap (q * y0) = q * y0 := fun h => wrapU_in (by have := hm h; omega)
  generalize hN : (U * 4294967296 + w) / V = N at *
  have body : N ≤ q - 1 → 0 < q := by omega
  have cont : ∀ (h : N ≤ q - 1), 0 < q := by omega
  simp -implicitDefEqProofs -proj only [go_sem, Nat.reduceBEq, Nat.reduceLT, Nat.reduceLeDiff, Nat.reduceAdd, Nat.reduceMul, ↓reduceIte, Int.reduceToNat, Int.reducePow, Int.reduceLT, Int.reduceLE, Int.reduceAdd, Int.reduceSub, Int.reduceMul, Int.reduceEq, Int.reduceNe]
  refine Guard_split (fun g => ?_) (fun g => ?_)
  · simp -implicitDefEqProofs only [decide_eq_true_eq, decide_eq_false_iff_not, Bool.not_eq_true', Bool.not_eq_false', Bool.and_eq_true, Bool.and_eq_false_iff, Bool.or_eq_true, Bool.or_eq_false_iff, beq_iff_eq, beq_eq_false_iff_ne, ne_eq, decide_eq_decide, Bool.not_eq_true, Bool.not_eq_false] at g
    have hgo := go (.inl g)
    have hw1 := hwrap1 (by omega)
    simp -implicitDefEqProofs -proj only [go_sem, Nat.reduceBEq, Nat.reduceLT, Nat.reduceLeDiff, Nat.reduceAdd, Nat.reduceMul, ↓reduceIte, Int.reduceToNat, Int.reducePow, Int.reduceLT, Int.reduceLE, Int.reduceAdd, Int.reduceSub, Int.reduceMul, Int.reduceEq, Int.reduceNe, decide_eq_true g, hw1, hwrap2]
    refine Cond_split (fun c => ?_) (fun c => ?_)
    · simp -implicitDefEqProofs only [decide_eq_true_eq, decide_eq_false_iff_not, Bool.not_eq_true', Bool.not_eq_false', Bool.and_eq_true, Bool.and_eq_false_iff, Bool.or_eq_true, Bool.or_eq_false_iff, beq_iff_eq, beq_eq_false_iff_ne, ne_eq, decide_eq_decide, Bool.not_eq_true, Bool.not_eq_false] at c
      simp -implicitDefEqProofs -proj only [go_sem, Nat.reduceBEq, Nat.reduceLT, Nat.reduceLeDiff, Nat.reduceAdd, Nat.reduceMul, ↓reduceIte, Int.reduceToNat, Int.reducePow, Int.reduceLT, Int.reduceLE, Int.reduceAdd, Int.reduceSub, Int.reduceMul, Int.reduceEq, Int.reduceNe, decide_eq_true c]
      rw [← stop2 _ _ rfl rfl c hgo] at after
      refine after _ _ (r + y1) ?_
      simp -implicitDefEqProofs -proj only [go_sem, Nat.reduceBEq, Nat.reduceLT, Nat.reduceLeDiff, Nat.reduceAdd, Nat.reduceMul, ↓reduceIte, Int.reduceToNat, Int.reducePow, Int.reduceLT, Int.reduceLE, Int.reduceAdd, Int.reduceSub, Int.reduceMul, Int.reduceEq, Int.reduceNe, AllAt]
    · simp -implicitDefEqProofs only [decide_eq_true_eq, decide_eq_false_iff_not, Bool.not_eq_true', Bool.not_eq_false', Bool.and_eq_true, Bool.and_eq_false_iff, Bool.or_eq_true, Bool.or_eq_false_iff, beq_iff_eq, beq_eq_false_iff_ne, ne_eq, decide_eq_decide, Bool.not_eq_true, Bool.not_eq_false] at c
      simp -implicitDefEqProofs -proj only [go_sem, Nat.reduceBEq, Nat.reduceLT, Nat.reduceLeDiff, Nat.reduceAdd, Nat.reduceMul, ↓reduceIte, Int.reduceToNat, Int.reducePow, Int.reduceLT, Int.reduceLE, Int.reduceAdd, Int.reduceSub, Int.reduceMul, Int.reduceEq, Int.reduceNe, decide_eq_false c]
      refine LoopQ_k (q - 1, r + y1) (next _ _ rfl rfl (by omega) hgo) (by simp -implicitDefEqProofs only [Fst_mk]; omega) rfl ?_ trivial
      simp -implicitDefEqProofs -proj only [go_sem, Nat.reduceBEq, Nat.reduceLT, Nat.reduceLeDiff, Nat.reduceAdd, Nat.reduceMul, ↓reduceIte, Int.reduceToNat, Int.reducePow, Int.reduceLT, Int.reduceLE, Int.reduceAdd, Int.reduceSub, Int.reduceMul, Int.reduceEq, Int.reduceNe, AllAt]
  · simp -implicitDefEqProofs only [decide_eq_true_eq, decide_eq_false_iff_not, Bool.not_eq_true', Bool.not_eq_false', Bool.and_eq_true, Bool.and_eq_false_iff, Bool.or_eq_true, Bool.or_eq_false_iff, beq_iff_eq, beq_eq_false_iff_ne, ne_eq, decide_eq_decide, Bool.not_eq_true, Bool.not_eq_false] at g
    have hw4 := hwrap4 (by omega)
    have hm' := hm (by omega)
    simp -implicitDefEqProofs -proj only [go_sem, Nat.reduceBEq, Nat.reduceLT, Nat.reduceLeDiff, Nat.reduceAdd, Nat.reduceMul, ↓reduceIte, Int.reduceToNat, Int.reducePow, Int.reduceLT, Int.reduceLE, Int.reduceAdd, Int.reduceSub, Int.reduceMul, Int.reduceEq, Int.reduceNe, decide_eq_false g, hwrap3, hw4]
    refine Cond_split (fun g2 => ?_) (fun g2 => ?_)
    · simp -implicitDefEqProofs only [decide_eq_true_eq, decide_eq_false_iff_not, Bool.not_eq_true', Bool.not_eq_false', Bool.and_eq_true, Bool.and_eq_false_iff, Bool.or_eq_true, Bool.or_eq_false_iff, beq_iff_eq, beq_eq_false_iff_ne, ne_eq, decide_eq_decide, Bool.not_eq_true, Bool.not_eq_false] at g2
      have hgo := go (.inr g2)
      have hw1 := hwrap1 (by omega)
      simp -implicitDefEqProofs -proj only [go_sem, Nat.reduceBEq, Nat.reduceLT, Nat.reduceLeDiff, Nat.reduceAdd, Nat.reduceMul, ↓reduceIte, Int.reduceToNat, Int.reducePow, Int.reduceLT, Int.reduceLE, Int.reduceAdd, Int.reduceSub, Int.reduceMul, Int.reduceEq, Int.reduceNe, decide_eq_true g2, hw1, hwrap2]
      refine Cond_split (fun c => ?_) (fun c => ?_)
      · simp -implicitDefEqProofs only [decide_eq_true_eq, decide_eq_false_iff_not, Bool.not_eq_true', Bool.not_eq_false', Bool.and_eq_true, Bool.and_eq_false_iff, Bool.or_eq_true, Bool.or_eq_false_iff, beq_iff_eq, beq_eq_false_iff_ne, ne_eq, decide_eq_decide, Bool.not_eq_true, Bool.not_eq_false] at c
        simp -implicitDefEqProofs -proj only [go_sem, Nat.reduceBEq, Nat.reduceLT, Nat.reduceLeDiff, Nat.reduceAdd, Nat.reduceMul, ↓reduceIte, Int.reduceToNat, Int.reducePow, Int.reduceLT, Int.reduceLE, Int.reduceAdd, Int.reduceSub, Int.reduceMul, Int.reduceEq, Int.reduceNe, decide_eq_true c]
        rw [← stop2 _ _ rfl rfl c hgo] at after
        refine after _ _ (r + y1) ?_
        simp -implicitDefEqProofs -proj only [go_sem, Nat.reduceBEq, Nat.reduceLT, Nat.reduceLeDiff, Nat.reduceAdd, Nat.reduceMul, ↓reduceIte, Int.reduceToNat, Int.reducePow, Int.reduceLT, Int.reduceLE, Int.reduceAdd, Int.reduceSub, Int.reduceMul, Int.reduceEq, Int.reduceNe, AllAt]
      · simp -implicitDefEqProofs only [decide_eq_true_eq, decide_eq_false_iff_not, Bool.not_eq_true', Bool.not_eq_false', Bool.and_eq_true, Bool.and_eq_false_iff, Bool.or_eq_true, Bool.or_eq_false_iff, beq_iff_eq, beq_eq_false_iff_ne, ne_eq, decide_eq_decide, Bool.not_eq_true, Bool.not_eq_false] at c
        simp -implicitDefEqProofs -proj only [go_sem, Nat.reduceBEq, Nat.reduceLT, Nat.reduceLeDiff, Nat.reduceAdd, Nat.reduceMul, ↓reduceIte, Int.reduceToNat, Int.reducePow, Int.reduceLT, Int.reduceLE, Int.reduceAdd, Int.reduceSub, Int.reduceMul, Int.reduceEq, Int.reduceNe, decide_eq_false c]
        refine LoopQ_k (q - 1, r + y1) (next _ _ rfl rfl (by omega) hgo) (by simp -implicitDefEqProofs only [Fst_mk]; omega) rfl ?_ trivial
        simp -implicitDefEqProofs -proj only [go_sem, Nat.reduceBEq, Nat.reduceLT, Nat.reduceLeDiff, Nat.reduceAdd, Nat.reduceMul, ↓reduceIte, Int.reduceToNat, Int.reducePow, Int.reduceLT, Int.reduceLE, Int.reduceAdd, Int.reduceSub, Int.reduceMul, Int.reduceEq, Int.reduceNe, AllAt]
    · simp -implicitDefEqProofs only [decide_eq_true_eq, decide_eq_false_iff_not, Bool.not_eq_true', Bool.not_eq_false', Bool.and_eq_true, Bool.and_eq_false_iff, Bool.or_eq_true, Bool.or_eq_false_iff, beq_iff_eq, beq_eq_false_iff_ne, ne_eq, decide_eq_decide, Bool.not_eq_true, Bool.not_eq_false] at g2
      simp -implicitDefEqProofs -proj only [go_sem, Nat.reduceBEq, Nat.reduceLT, Nat.reduceLeDiff, Nat.reduceAdd, Nat.reduceMul, ↓reduceIte, Int.reduceToNat, Int.reducePow, Int.reduceLT, Int.reduceLE, Int.reduceAdd, Int.reduceSub, Int.reduceMul, Int.reduceEq, Int.reduceNe, decide_eq_false g2]
      rw [← stop (by omega)] at after
      refine after _ _ r ?_
      simp -implicitDefEqProofs -proj only [go_sem, Nat.reduceBEq, Nat.reduceLT, Nat.reduceLeDiff, Nat.reduceAdd, Nat.reduceMul, ↓reduceIte, Int.reduceToNat, Int.reducePow, Int.reduceLT, Int.reduceLE, Int.reduceAdd, Int.reduceSub, Int.reduceMul, Int.reduceEq, Int.reduceNe, AllAt]
set_option maxRecDepth 20000 in
theorem Div_loop1 {V s y1 y0 w2 q1 W : Int} {Q : Out → St → Prop} {k : List Item} {S : St} (hn : 135 = S.n) (ha : AllAt S.t [(2, u64 V), (8, u64 s), (9, u64 y1), (10, u64 y0), (14, u64 w2), (15, u64 q1), (17, u64 W), (18, u64 (W / y1)), (16, u64 (W % y1))])
    (hV : V = y1 * 4294967296 + y0) (hy1 : 2147483648 ≤ y1 ∧ y1 < 4294967296) (hy0 : 0 ≤ y0 ∧ y0 < 4294967296) (hU : 0 ≤ W) (hUV : W < V) (hw : 0 ≤ w2 ∧ w2 < 4294967296)
    (after : ∀ (t : TM) (H : Heap) (r : Int), AllAt t [(2, u64 V), (8, u64 s), (9, u64 y1), (10, u64 y0), (14, u64 w2), (15, u64 q1), (17, u64 W), (18, u64 ((W * 4294967296 + w2) / V)), (16, u64 r)] → RunO Try.prog Q k (.exit 2) ⟨135, t, H⟩) : LoopA Try.prog Q c_bits_Div64_l1 k S := by
  obtain ⟨i1, i2, i3, i4, i5, i6⟩ := kn_init hV hy1.1 hy0 hU hUV hw
  refine LoopA_k (fun p : Int × Int => p.1 * y1 + p.2 = W ∧ 0 ≤ p.2 ∧ p.2 < 4294967296 ∧ (W * 4294967296 + w2) / V ≤ p.1 ∧ p.1 ≤ 4294967297 ∧ 0 ≤ p.1) 135 (fun p => [(2, u64 V), (8, u64 s), (9, u64 y1), (10, u64 y0), (14, u64 w2), (15, u64 q1), (17, u64 W), (18, u64 p.1), (16, u64 p.2)]) (fun _ => []) (fun p => p.1.toNat) (W / y1, W % y1) ⟨i1, i2, by simp -implicitDefEqProofs only [Snd_mk]; omega, i4, i5, i6⟩ hn ha trivial ?_
  rintro ⟨q, r⟩ ⟨h1, h2, h3, h4, h5, h6⟩
  simp -implicitDefEqProofs only [Fst_mk, Snd_mk] at h1 h2 h3 h4 h5 h6
  have hm : q < 4294967296 → 0 ≤ q * y0 ∧ q * y0 ≤ 18446744065119617025 := fun h => part_bound (by omega) (by omega)
  have hm2 : q ≤ 4294967296 → q * y0 ≤ 4294967296 * 4294967295 := fun h => Int.mul_le_mul h (by omega) hy0.1 (by omega)
  have hQ0 : 0 ≤ (W * 4294967296 + w2) / V := Int.ediv_nonneg (by omega) (by omega)
  have stop := kn_stop (u1 := w2) hV (by omega) h1 h4
  have go := kn_go (u1 := w2) hV (by omega) hUV hw.2 h1
  have stop2 : ∀ a b : Int, a = q - 1 → b = r + y1 → 4294967296 ≤ b → (W * 4294967296 + w2) / V ≤ a → a = (W * 4294967296 + w2) / V := by
    rintro a b rfl rfl hb hc
    refine kn_stop (u1 := w2) (q := q - 1) (r := r + y1) hV (by omega) (by rw [Int.sub_mul]; omega) hc ?_
    have e : (q - 1) * y0 = q * y0 - y0 := by rw [Int.sub_mul]; omega
    have := Int.mul_le_mul (show q - 1 ≤ 4294967296 by omega) (show y0 ≤ 4294967295 by omega) hy0.1 (by omega)
    omega
  have next : ∀ a b : Int, a = q - 1 → b = r + y1 → b < 4294967296 → (W * 4294967296 + w2) / V ≤ a → a * y1 + b = W ∧ 0 ≤ b ∧ b < 4294967296 ∧ (W * 4294967296 + w2) / V ≤ a ∧ a ≤ 4294967297 ∧ 0 ≤ a := by
    rintro a b rfl rfl hb hc
    exact ⟨by rw [Int.sub_mul]; omega, by omega, hb, hc, by omega, by omega⟩
  have hwrap1 : 0 < q → IntKind.u64.wrap (q - 1) = q - 1 := fun h => wrapU_in (by omega)
  have hwrap2 : IntKind.u64.wrap (r + y1) = r + y1 := wrapU_in (by omega)
  have hwrap3 : IntKind.u64.wrap (IntKind.u64.wrap (4294967296 * r) + w2) = 4294967296 * r + w2 := by rw [wrapU_in (show 0 ≤ 4294967296 * r ∧ 4294967296 * r ≤ 18446744073709551615 by omega), wrapU_in (by omega)]
  have hwrap4 : q < 4294967296 → IntKind.u64.wrap (q * y0) = q * y0 := fun h => wrapU_in (by have := hm h; omega)
  generalize hN : (W * 4294967296 + w2) / V = N at *
  have body : N ≤ q - 1 → 0 < q := by omega
  have cont : ∀ (h : N ≤ q - 1), 0 < q := by omega
  simp -implicitDefEqProofs -proj only [go_sem, Nat.reduceBEq, Nat.reduceLT, Nat.reduceLeDiff, Nat.reduceAdd, Nat.reduceMul, ↓reduceIte, Int.reduceToNat, Int.reducePow, Int.reduceLT, Int.reduceLE, Int.reduceAdd, Int.reduceSub, Int.reduceMul, Int.reduceEq, Int.reduceNe]
  refine Guard_split (fun g => ?_) (fun g => ?_)
  · simp -implicitDefEqProofs only [decide_eq_true_eq, decide_eq_false_iff_not, Bool.not_eq_true', Bool.not_eq_false', Bool.and_eq_true, Bool.and_eq_false_iff, Bool.or_eq_true, Bool.or_eq_false_iff, beq_iff_eq, beq_eq_false_iff_ne, ne_eq, decide_eq_decide, Bool.not_eq_true, Bool.not_eq_false] at g
    have hgo := go (.inl g)
    have hw1 := hwrap1 (by omega)
    simp -implicitDefEqProofs -proj only [go_sem, Nat.reduceBEq, Nat.reduceLT, Nat.reduceLeDiff, Nat.reduceAdd, Nat.reduceMul, ↓reduceIte, Int.reduceToNat, Int.reducePow, Int.reduceLT, Int.reduceLE, Int.reduceAdd, Int.reduceSub, Int.reduceMul, Int.reduceEq, Int.reduceNe, decide_eq_true g, hw1, hwrap2]
    refine Cond_split (fun c => ?_) (fun c => ?_)
    · simp -implicitDefEqProofs only [decide_eq_true_eq, decide_eq_false_iff_not, Bool.not_eq_true', Bool.not_eq_false', Bool.and_eq_true, Bool.and_eq_false_iff, Bool.or_eq_true, Bool.or_eq_false_iff, beq_iff_eq, beq_eq_false_iff_ne, ne_eq, decide_eq_decide, Bool.not_eq_true, Bool.not_eq_false] at c
      simp -implicitDefEqProofs -proj only [go_sem, Nat.reduceBEq, Nat.reduceLT, Nat.reduceLeDiff, Nat.reduceAdd, Nat.reduceMul, ↓reduceIte, Int.reduceToNat, Int.reducePow, Int.reduceLT, Int.reduceLE, Int.reduceAdd, Int.reduceSub, Int.reduceMul, Int.reduceEq, Int.reduceNe, decide_eq_true c]
      rw [← stop2 _ _ rfl rfl c hgo] at after
      refine after _ _ (r + y1) ?_
      simp -implicitDefEqProofs -proj only [go_sem, Nat.reduceBEq, Nat.reduceLT, Nat.reduceLeDiff, Nat.reduceAdd, Nat.reduceMul, ↓reduceIte, Int.reduceToNat, Int.reducePow, Int.reduceLT, Int.reduceLE, Int.reduceAdd, Int.reduceSub, Int.reduceMul, Int.reduceEq, Int.reduceNe, AllAt]
    · simp -implicitDefEqProofs only [decide_eq_true_eq, decide_eq_false_iff_not, Bool.not_eq_true', Bool.not_eq_false', Bool.and_eq_true, Bool.and_eq_false_iff, Bool.or_eq_true, Bool.or_eq_false_iff, beq_iff_eq, beq_eq_false_iff_ne, ne_eq, decide_eq_decide, Bool.not_eq_true, Bool.not_eq_false] at c
      simp -implicitDefEqProofs -proj only [go_sem, Nat.reduceBEq, Nat.reduceLT, Nat.reduceLeDiff, Nat.reduceAdd, Nat.reduceMul, ↓reduceIte, Int.reduceToNat, Int.reducePow, Int.reduceLT, Int.reduceLE, Int.reduceAdd, Int.reduceSub, Int.reduceMul, Int.reduceEq, Int.reduceNe, decide_eq_false c]
      refine LoopQ_k (q - 1, r + y1) (next _ _ rfl rfl (by omega) hgo) (by simp -implicitDefEqProofs only [Fst_mk]; omega) rfl ?_ trivial
      simp -implicitDefEqProofs -proj only [go_sem, Nat.reduceBEq, Nat.reduceLT, Nat.reduceLeDiff, Nat.reduceAdd, Nat.reduceMul, ↓reduceIte, Int.reduceToNat, Int.reducePow, Int.reduceLT, Int.reduceLE, Int.reduceAdd, Int.reduceSub, Int.reduceMul, Int.reduceEq, Int.reduceNe, AllAt]
  · simp -implicitDefEqProofs only [decide_eq_true_eq, decide_eq_false_iff_not, Bool.not_eq_true', Bool.not_eq_false', Bool.and_eq_true, Bool.and_eq_false_iff, Bool.or_eq_true, Bool.or_eq_false_iff, beq_iff_eq, beq_eq_false_iff_ne, ne_eq, decide_eq_decide, Bool.not_eq_true, Bool.not_eq_false] at g
    have hw4 := hwrap4 (by omega)
    have hm' := hm (by omega)
    simp -implicitDefEqProofs -proj only [go_sem, Nat.reduceBEq, Nat.reduceLT, Nat.reduceLeDiff, Nat.reduceAdd, Nat.reduceMul, ↓reduceIte, Int.reduceToNat, Int.reducePow, Int.reduceLT, Int.reduceLE, Int.reduceAdd, Int.reduceSub, Int.reduceMul, Int.reduceEq, Int.reduceNe, decide_eq_false g, hwrap3, hw4]
    refine Cond_split (fun g2 => ?_) (fun g2 => ?_)
    · simp -implicitDefEqProofs only [decide_eq_true_eq, decide_eq_false_iff_not, Bool.not_eq_true', Bool.not_eq_false', Bool.and_eq_true, Bool.and_eq_false_iff, Bool.or_eq_true, Bool.or_eq_false_iff, beq_iff_eq, beq_eq_false_iff_ne, ne_eq, decide_eq_decide, Bool.not_eq_true, Bool.not_eq_false] at g2
      have hgo := go (.inr g2)
      have hw1 := hwrap1 (by omega)
      simp -implicitDefEqProofs -proj only [go_sem, Nat.reduceBEq, Nat.reduceLT, Nat.reduceLeDiff, Nat.reduceAdd, Nat.reduceMul, ↓reduceIte, Int.reduceToNat, Int.reducePow, Int.reduceLT, Int.reduceLE, Int.reduceAdd, Int.reduceSub, Int.reduceMul, Int.reduceEq, Int.reduceNe, decide_eq_true g2, hw1, hwrap2]
      refine Cond_split (fun c => ?_) (fun c => ?_)
      · simp -implicitDefEqProofs only [decide_eq_true_eq, decide_eq_false_iff_not, Bool.not_eq_true', Bool.not_eq_false', Bool.and_eq_true, Bool.and_eq_false_iff, Bool.or_eq_true, Bool.or_eq_false_iff, beq_iff_eq, beq_eq_false_iff_ne, ne_eq, decide_eq_decide, Bool.not_eq_true, Bool.not_eq_false] at c
        simp -implicitDefEqProofs -proj only [go_sem, Nat.reduceBEq, Nat.reduceLT, Nat.reduceLeDiff, Nat.reduceAdd, Nat.reduceMul, ↓reduceIte, Int.reduceToNat, Int.reducePow, Int.reduceLT, Int.reduceLE, Int.reduceAdd, Int.reduceSub, Int.reduceMul, Int.reduceEq, Int.reduceNe, decide_eq_true c]
        rw [← stop2 _ _ rfl rfl c hgo] at after
        refine after _ _ (r + y1) ?_
        simp -implicitDefEqProofs -proj only [go_sem, Nat.reduceBEq, Nat.reduceLT, Nat.reduceLeDiff, Nat.reduceAdd, Nat.reduceMul, ↓reduceIte, Int.reduceToNat, Int.reducePow, Int.reduceLT, Int.reduceLE, Int.reduceAdd, Int.reduceSub, Int.reduceMul, Int.reduceEq, Int.reduceNe, AllAt]
      · simp -implicitDefEqProofs only [decide_eq_true_eq, decide_eq_false_iff_not, Bool.not_eq_true', Bool.not_eq_false', Bool.and_eq_true, Bool.and_eq_false_iff, Bool.or_eq_true, Bool.or_eq_false_iff, beq_iff_eq, beq_eq_false_iff_ne, ne_eq, decide_eq_decide, Bool.not_eq_true, Bool.not_eq_false] at c
        simp -implicitDefEqProofs -proj only [go_sem, Nat.reduceBEq, Nat.reduceLT, Nat.reduceLeDiff, Nat.reduceAdd, Nat.reduceMul, ↓reduceIte, Int.reduceToNat, Int.reducePow, Int.reduceLT, Int.reduceLE, Int.reduceAdd, Int.reduceSub, Int.reduceMul, Int.reduceEq, Int.reduceNe, decide_eq_false c]
        refine LoopQ_k (q - 1, r + y1) (next _ _ rfl rfl (by omega) hgo) (by simp -implicitDefEqProofs only [Fst_mk]; omega) rfl ?_ trivial
        simp -implicitDefEqProofs -proj only [go_sem, Nat.reduceBEq, Nat.reduceLT, Nat.reduceLeDiff, Nat.reduceAdd, Nat.reduceMul, ↓reduceIte, Int.reduceToNat, Int.reducePow, Int.reduceLT, Int.reduceLE, Int.reduceAdd, Int.reduceSub, Int.reduceMul, Int.reduceEq, Int.reduceNe, AllAt]
    · simp -implicitDefEqProofs only [decide_eq_true_eq, decide_eq_false_iff_not, Bool.not_eq_true', Bool.not_eq_false', Bool.and_eq_true, Bool.and_eq_false_iff, Bool.or_eq_true, Bool.or_eq_false_iff, beq_iff_eq, beq_eq_false_iff_ne, ne_eq, decide_eq_decide, Bool.not_eq_true, Bool.not_eq_false] at g2
      simp -implicitDefEqProofs -proj only [go_sem, Nat.reduceBEq, Nat.reduceLT, Nat.reduceLeDiff, Nat.reduceAdd, Nat.reduceMul, ↓reduceIte, Int.reduceToNat, Int.reducePow, Int.reduceLT, Int.reduceLE, Int.reduceAdd, Int.reduceSub, Int.reduceMul, Int.reduceEq, Int.reduceNe, decide_eq_false g2]
      rw [← stop (by omega)] at after
      refine after _ _ r ?_
      simp -implicitDefEqProofs -proj only [go_sem, Nat.reduceBEq, Nat.reduceLT, Nat.reduceLeDiff, Nat.reduceAdd, Nat.reduceMul, ↓reduceIte, Int.reduceToNat, Int.reducePow, Int.reduceLT, Int.reduceLE, Int.reduceAdd, Int.reduceSub, Int.reduceMul, Int.reduceEq, Int.reduceNe, AllAt]
theorem Div_last {hi lo y V U T P w w2 : Int} (hU : U * 18446744073709551616 + T = (hi * 18446744073709551616 + lo) * P) (hV : V = y * P) (hP : 0 < P) (hy : 0 < y) (hT : T = w * 4294967296 + w2) (hw2 : 0 ≤ w2 ∧ w2 < 4294967296) {q1 W q0 : Int} (hV0 : 0 < V) (hq1 : q1 = (U * 4294967296 + w) / V) (hW : W = U * 4294967296 + w - q1 * V) (hq0 : q0 = (W * 4294967296 + w2) / V) :
    q1 * 4294967296 + q0 = (hi * 18446744073709551616 + lo) / y ∧ (W * 4294967296 + w2 - q0 * V) / P = (hi * 18446744073709551616 + lo) % y := by
  have f1 := div_facts' (p := U * 4294967296 + w) hV0
  have f2 := div_facts' (p := W * 4294967296 + w2) hV0
  rw [← hq1] at f1
  rw [← hq0] at f2
  obtain ⟨k1, k2⟩ := div_unique' (p := (hi * 18446744073709551616 + lo) * P) (c := V) hV0 (q := q1 * 4294967296 + q0) (r := W * 4294967296 + w2 - q0 * V) (by rw [Int.add_mul, Int.mul_assoc, Int.mul_comm 4294967296 V, ← Int.mul_assoc]; omega) (by omega) (by omega)
  rw [hV] at k1 k2
  rw [Int.mul_ediv_mul_of_pos_left _ _ hP] at k1
  rw [Int.mul_comm _ P, Int.mul_comm y P, Int.mul_emod_mul_of_pos _ _ hP, Int.mul_comm P y] at k2
  refine ⟨k1.symm, ?_⟩
  rw [hV, ← k2, Int.mul_comm P, Int.mul_ediv_cancel _ (by omega)]
set_option maxRecDepth 20000 in
set_option maxHeartbeats 2000000 in
theorem Div64_ok {hi lo y : Int} (h : 0 ≤ hi ∧ hi < y) (hy : y < 18446744073709551616) (hl : 0 ≤ lo ∧ lo < 18446744073709551616) : DataW Try.prog f_bits_Div64 [u64 hi, u64 lo, u64 y] (.tup [u64 ((hi * 18446744073709551616 + lo) / y), u64 ((hi * 18446744073709551616 + lo) % y)]) := by
  refine CallW_intro comp_bits_Div64 (by simp) ?_
  simp -implicitDefEqProofs -proj only [go_sem, Nat.reduceBEq, Nat.reduceLT, Nat.reduceLeDiff, Nat.reduceAdd, Nat.reduceMul, ↓reduceIte, Int.reduceToNat, Int.reducePow, Int.reduceLT, Int.reduceLE, Int.reduceAdd, Int.reduceSub, Int.reduceMul, Int.reduceEq, Int.reduceNe, decide_eq_false (show ¬ y = 0 by omega), decide_eq_false (show ¬ y ≤ hi by omega)]
  refine Cond_split (fun e => ?_) (fun e => ?_)
  · simp -implicitDefEqProofs -proj only [go_sem, Nat.reduceBEq, Nat.reduceLT, Nat.reduceLeDiff, Nat.reduceAdd, Nat.reduceMul, ↓reduceIte, Int.reduceToNat, Int.reducePow, Int.reduceLT, Int.reduceLE, Int.reduceAdd, Int.reduceSub, Int.reduceMul, Int.reduceEq, Int.reduceNe, e]
    simp -implicitDefEqProofs only [decide_eq_true_eq, decide_eq_false_iff_not, Bool.not_eq_true', Bool.not_eq_false', Bool.and_eq_true, Bool.and_eq_false_iff, Bool.or_eq_true, Bool.or_eq_false_iff, beq_iff_eq, beq_eq_false_iff_ne, ne_eq, decide_eq_decide, Bool.not_eq_true, Bool.not_eq_false] at e
    subst e
    have a1 : lo.tdiv y = lo / y := Int.tdiv_eq_ediv_of_nonneg hl.1
    have a2 : lo.tmod y = lo % y := Int.tmod_eq_emod_of_nonneg hl.1
    have a3 : IntKind.u64.wrap (lo / y) = lo / y := wrapU_in ⟨Int.ediv_nonneg hl.1 (by omega), by have := Int.ediv_le_self y hl.1; omega⟩
    refine VC_intro (by omega) (fun _ => ?_)
    simp -implicitDefEqProofs -proj only [go_sem, Nat.reduceBEq, Nat.reduceLT, Nat.reduceLeDiff, Nat.reduceAdd, Nat.reduceMul, ↓reduceIte, Int.reduceToNat, Int.reducePow, Int.reduceLT, Int.reduceLE, Int.reduceAdd, Int.reduceSub, Int.reduceMul, Int.reduceEq, Int.reduceNe, a1, a2, a3]
    (repeat' (with_reducible refine VC_intro ?_ (fun h => ?_); (focus first | decide | omega); clear h; try simp -implicitDefEqProofs -proj only [go_sem, Nat.reduceBEq, Nat.reduceLT, Nat.reduceLeDiff, Nat.reduceAdd, Nat.reduceMul, ↓reduceIte, Int.reduceToNat, Int.reducePow, Int.reduceLT, Int.reduceLE, Int.reduceAdd, Int.reduceSub, Int.reduceMul, Int.reduceEq, Int.reduceNe, a1, a2, a3]))
    refine LendV_eq ?_
    simp -implicitDefEqProofs only [Int.zero_mul, Int.zero_add]
  · obtain ⟨s, r, V, U, T, e1, hs, e2, e3, hr, e4, v1, v2, e5, u1, u2, e6, t1, t2, e7, e8⟩ := div_norm h hy hl
    have hz := LeadingZeros64_ok (x := y) (by omega)
    rw [e1] at hz
    have g1 : V.fdiv 4294967296 = V / 4294967296 := fdiv_pos (by omega)
    have g2 : bandI .u64 V 4294967295 = V % 4294967296 := andMask ⟨by omega, v2⟩
    have g3 : T.fdiv 4294967296 = T / 4294967296 := fdiv_pos (by omega)
    have g4 : bandI .u64 T 4294967295 = T % 4294967296 := andMask ⟨by omega, t2⟩
    have hV : V = V / 4294967296 * 4294967296 + V % 4294967296 := by omega
    have hT : T = T / 4294967296 * 4294967296 + T % 4294967296 := by omega
    have hy1 : 2147483648 ≤ V / 4294967296 ∧ V / 4294967296 < 4294967296 := by omega
    have hy0 : 0 ≤ V % 4294967296 ∧ V % 4294967296 < 4294967296 := by omega
    have hw : 0 ≤ T / 4294967296 ∧ T / 4294967296 < 4294967296 := by omega
    have hw2 : 0 ≤ T % 4294967296 ∧ T % 4294967296 < 4294967296 := by omega
    have hP := pow_pos2 s
    simp -implicitDefEqProofs -proj only [go_sem, Nat.reduceBEq, Nat.reduceLT, Nat.reduceLeDiff, Nat.reduceAdd, Nat.reduceMul, ↓reduceIte, Int.reduceToNat, Int.reducePow, Int.reduceLT, Int.reduceLE, Int.reduceAdd, Int.reduceSub, Int.reduceMul, Int.reduceEq, Int.reduceNe, e]
    refine CallA_pure hz ?_
    simp -implicitDefEqProofs -proj only [go_sem, Nat.reduceBEq, Nat.reduceLT, Nat.reduceLeDiff, Nat.reduceAdd, Nat.reduceMul, ↓reduceIte, Int.reduceToNat, Int.reducePow, Int.reduceLT, Int.reduceLE, Int.reduceAdd, Int.reduceSub, Int.reduceMul, Int.reduceEq, Int.reduceNe, e2, e3, Int.toNat_natCast, hs, hr, e4, e5, e6, g1, g2, g3, g4]
    (repeat' (with_reducible refine VC_intro ?_ (fun h => ?_); (focus first | decide | omega); clear h; try simp -implicitDefEqProofs -proj only [go_sem, Nat.reduceBEq, Nat.reduceLT, Nat.reduceLeDiff, Nat.reduceAdd, Nat.reduceMul, ↓reduceIte, Int.reduceToNat, Int.reducePow, Int.reduceLT, Int.reduceLE, Int.reduceAdd, Int.reduceSub, Int.reduceMul, Int.reduceEq, Int.reduceNe, e2, e3, Int.toNat_natCast, hs, hr, e4, e5, e6, g1, g2, g3, g4]))
    generalize V / 4294967296 = y1 at *
    generalize V % 4294967296 = y0 at *
    generalize T / 4294967296 = w at *
    generalize T % 4294967296 = w2 at *
    obtain ⟨i1, i2, i3, i4, i5, i6⟩ := kn_init hV hy1.1 hy0 u1 u2 hw
    have q1 : U.tdiv y1 = U / y1 := Int.tdiv_eq_ediv_of_nonneg u1
    have q2 : IntKind.u64.wrap (U / y1) = U / y1 := wrapU_in (by omega)
    have i7 : 0 ≤ U / y1 * y1 := Int.mul_nonneg i6 (by omega)
    have q3 : IntKind.u64.wrap (U / y1 * y1) = U / y1 * y1 := wrapU_in (by omega)
    have q4 : IntKind.u64.wrap (U - U / y1 * y1) = U % y1 := by rw [wrapU_in (by omega)]; omega
    have f1 := div_facts' (p := U * 4294967296 + w) (c := V) (by omega)
    have k1 : (U * 4294967296 + w) / V < 4294967296 := by rw [Int.ediv_lt_iff_lt_mul (by omega)]; omega
    have k0 : 0 ≤ (U * 4294967296 + w) / V := Int.ediv_nonneg (by omega) (by omega)
    have hW : U * 4294967296 + w - (U * 4294967296 + w) / V * V = (U * 4294967296 + w) % V := by omega
    generalize hQ1 : (U * 4294967296 + w) / V = Q1 at *
    generalize hW2 : (U * 4294967296 + w) % V = W at *
    have l1 : IntKind.u64.wrap (IntKind.u64.wrap (IntKind.u64.wrap (U * 4294967296) + w) - IntKind.u64.wrap (Q1 * V)) = W := by simp -implicitDefEqProofs only [IntKind.wrap_u64]; omega
    refine Div_loop0 (V := V) (s := s) (y1 := y1) (y0 := y0) (U := U) (w := w) (w2 := w2) rfl ?_ hV hy1 hy0 u1 u2 hw ?_
    · simp -implicitDefEqProofs -proj only [go_sem, Nat.reduceBEq, Nat.reduceLT, Nat.reduceLeDiff, Nat.reduceAdd, Nat.reduceMul, ↓reduceIte, Int.reduceToNat, Int.reducePow, Int.reduceLT, Int.reduceLE, Int.reduceAdd, Int.reduceSub, Int.reduceMul, Int.reduceEq, Int.reduceNe, AllAt, e2, e3, Int.toNat_natCast, hs, hr, e4, e5, e6, g1, g2, g3, g4, q1, q2, q3, q4]
    · intro t H r' ht
      simp -implicitDefEqProofs only [AllAt] at ht
      obtain ⟨t2, t8, t9, t10, t11, t13, t14, t15, t16, _⟩ := ht
      rw [hQ1] at t15
      obtain ⟨i1', i2', i3', i4', i5', i6'⟩ := kn_init (U := W) hV hy1.1 hy0 (by omega) (by omega) hw2
      have q1' : W.tdiv y1 = W / y1 := Int.tdiv_eq_ediv_of_nonneg (by omega)
      have q2' : IntKind.u64.wrap (W / y1) = W / y1 := wrapU_in (by omega)
      have i7' : 0 ≤ W / y1 * y1 := Int.mul_nonneg i6' (by omega)
      have q3' : IntKind.u64.wrap (W / y1 * y1) = W / y1 * y1 := wrapU_in (by omega)
      have q4' : IntKind.u64.wrap (W - W / y1 * y1) = W % y1 := by rw [wrapU_in (by omega)]; omega
      simp -implicitDefEqProofs -proj only [go_sem, Nat.reduceBEq, Nat.reduceLT, Nat.reduceLeDiff, Nat.reduceAdd, Nat.reduceMul, ↓reduceIte, Int.reduceToNat, Int.reducePow, Int.reduceLT, Int.reduceLE, Int.reduceAdd, Int.reduceSub, Int.reduceMul, Int.reduceEq, Int.reduceNe, t2, t8, t9, t10, t11, t13, t14, t15, t16, l1]
      (repeat' (with_reducible refine VC_intro ?_ (fun h => ?_); (focus first | decide | omega); clear h; try simp -implicitDefEqProofs -proj only [go_sem, Nat.reduceBEq, Nat.reduceLT, Nat.reduceLeDiff, Nat.reduceAdd, Nat.reduceMul, ↓reduceIte, Int.reduceToNat, Int.reducePow, Int.reduceLT, Int.reduceLE, Int.reduceAdd, Int.reduceSub, Int.reduceMul, Int.reduceEq, Int.reduceNe, t2, t8, t9, t10, t11, t13, t14, t15, t16, l1]))
      have dl := Div_last e7 e8 hP (by omega) hT hw2 (q1 := Q1) (W := W) (q0 := (W * 4294967296 + w2) / V) (by omega) hQ1.symm hW.symm rfl
      have f2 := div_facts' (p := W * 4294967296 + w2) (c := V) (by omega)
      have k3 : (W * 4294967296 + w2) / V < 4294967296 := by rw [Int.ediv_lt_iff_lt_mul (by omega)]; omega
      have k4 : 0 ≤ (W * 4294967296 + w2) / V := Int.ediv_nonneg (by omega) (by omega)
      refine Div_loop1 (V := V) (s := s) (y1 := y1) (y0 := y0) (w2 := w2) (q1 := Q1) (W := W) rfl ?_ hV hy1 hy0 (by omega) (by omega) hw2 ?_
      · simp -implicitDefEqProofs -proj only [go_sem, Nat.reduceBEq, Nat.reduceLT, Nat.reduceLeDiff, Nat.reduceAdd, Nat.reduceMul, ↓reduceIte, Int.reduceToNat, Int.reducePow, Int.reduceLT, Int.reduceLE, Int.reduceAdd, Int.reduceSub, Int.reduceMul, Int.reduceEq, Int.reduceNe, AllAt, t2, t8, t9, t10, t11, t13, t14, t15, t16, l1, q1', q2', q3', q4']
      · intro t H r'' ht
        simp -implicitDefEqProofs only [AllAt] at ht
        obtain ⟨t2, t8, t9, t10, t14, t15, t17, t18, t16, _⟩ := ht
        generalize (W * 4294967296 + w2) / V = Q0 at *
        generalize (W * 4294967296 + w2) % V = Z at *
        have l2 : IntKind.u64.wrap (IntKind.u64.wrap (Q1 * 4294967296) + Q0) = Q1 * 4294967296 + Q0 := by simp -implicitDefEqProofs only [IntKind.wrap_u64]; omega
        have l3 : IntKind.u64.wrap (IntKind.u64.wrap (IntKind.u64.wrap (W * 4294967296) + w2) - IntKind.u64.wrap (Q0 * V)) = W * 4294967296 + w2 - Q0 * V := by simp -implicitDefEqProofs only [IntKind.wrap_u64]; omega
        simp -implicitDefEqProofs -proj only [go_sem, Nat.reduceBEq, Nat.reduceLT, Nat.reduceLeDiff, Nat.reduceAdd, Nat.reduceMul, ↓reduceIte, Int.reduceToNat, Int.reducePow, Int.reduceLT, Int.reduceLE, Int.reduceAdd, Int.reduceSub, Int.reduceMul, Int.reduceEq, Int.reduceNe, t2, t8, t9, t10, t14, t15, t16, t17, t18, l2, l3]
        (repeat' (with_reducible refine VC_intro ?_ (fun h => ?_); (focus first | decide | omega); clear h; try simp -implicitDefEqProofs -proj only [go_sem, Nat.reduceBEq, Nat.reduceLT, Nat.reduceLeDiff, Nat.reduceAdd, Nat.reduceMul, ↓reduceIte, Int.reduceToNat, Int.reducePow, Int.reduceLT, Int.reduceLE, Int.reduceAdd, Int.reduceSub, Int.reduceMul, Int.reduceEq, Int.reduceNe, t2, t8, t9, t10, t14, t15, t16, t17, t18, l2, l3]))
        refine LendV_eq ?_
        rw [← dl.1, ← dl.2]
        simp -implicitDefEqProofs only [Int.toNat_natCast, hs, if_true, fdiv_pos (Int.le_of_lt hP)]
end Go.Proofs.Ytlflfciebidddaa.Abs
