/- Contracts of the package poundageref02. No claim stands here. -/
import Derived.Test.YtlflfciebidddaaKRound
import Derived.Test.YtlflfciebidddaaKMul01
set_option linter.unusedSimpArgs false
set_option linter.unusedVariables false
namespace Go.Proofs.Ytlflfciebidddaa.Abs
open Go Go.RowKit Go.Proofs
attribute [local go_sem] RunC_seq AF_n AF_r AF_b St_n St_t St_H Fst_mk Snd_mk RunC_ops RunC_cond RunC_block RunC_loop RunC_exit RunC_ret RunC_skip RunO_nil RunO_code RunO_code_ret RunO_code_exit RunO_blk RunO_blk_ret RunO_blk_exit RunL_nil RunL_guard GuardA_tt GuardA_ff GuardA_tf GuardA_ft GuardA_void CondA_t CondA_f PickA_t PickA_f RunL_mov RunL_pick RunL_alloc RunL_box RunL_load LoadA_ptr LoadB_1 LoadB_n LoadA_dptr LoadA_dptr_n RunL_store StoreA_ptr StoreB_box RunL_bin Bin_add Bin_sub Bin_mul Bin_quo Bin_rem Bin_shl Bin_shr Bin_andI Bin_orI Bin_xorI Bin_eql Bin_neq Bin_lss Bin_leq Bin_gtr Bin_geq RunL_binb Bin_beql Bin_bneq RunL_un UnA_not UnA_neg RunL_conv convV MapA_some RunL_nilCheck nilV RunL_mkfn RunL_fieldAddr faV RunL_field FieldA_1 FieldA_n RunL_elemAddr EAddrA_sl EAddrA_own EptrA_eq RunL_build BuildA_some RunL_extract ExtA_eq RunL_len lenV_sl lenV_nilsl lenV_own RunL_slen RunL_idxStr IdxSA_eq slenV RunL_minmax mmV minmaxL RunL_call RunL_callv CallvA_fn putS ev evL evO evP eqK eqKs EqB_agg RunL_eqAgg EqA_t EqA_f evQ buildC fits_agg cellsAV_agg fits_d cellsAV_d fits_nilp cellsAV_nilp fits_nilsl cellsAV_nilsl fits_nilfn cellsAV_nilfn fits_ptr cellsAV_ptr fits_eptr cellsAV_eptr fits_dptr cellsAV_dptr fits_own cellsAV_own fits_fn cellsAV_fn rowV_fits rowV_cells rowV_len lenAV setSeg nth seg mapD repeatL putT_get upd_get argT keepT_cons keepT_nil keepH_cons keepH_nil cond_true cond_false VC_true finW resW resL resOne LoopQ_exit LoopQ_ret List.cons_append List.nil_append Bool.not_true Bool.not_false Bool.and_true Bool.and_self Nat.lt_add_left_iff_pos Nat.zero_add Nat.add_zero List.drop_succ_cons List.drop_zero List.take_succ_cons List.take_zero beq_self_eq_true Bool.false_eq_true RunC_dops RunL_loadS RunL_loadD LoadDA_dptr RunL_storeS StoreSA_ptr RunL_pcall RunL_pcallv PCallvA_fn newsOk and_self and_true true_and loadW_ptr LoadK_1 LoadK_n upd_upd RunL_loadP LoadPA_ptr RunL_callS RunL_make RunL_buildSlice BSliceA_some RunL_buildSliceD frzL frz cutL LoadA_eptr LoadE_row RunL_append RunL_slice SliceA_sl StoreA_eptr List.length_cons List.length_nil Nat.min_def Int.cast_ofNat_Int Int.natCast_zero Int.natCast_one decide_true decide_false List.getElem?_cons_zero List.getElem?_cons_succ RunC_rangef CallvA_yld putL_nil putL_cons RangeQ_exit RangeQ_ret
attribute [local go_sem] mag wide
theorem Less_ok {x y : Int} (hx : x.natAbs ≤ 85070591730234615865843651857942052864) (hy : y.natAbs ≤ 85070591730234615865843651857942052864) : DataW Try.prog f_poundageref01_Less [wide x, wide y] (bv (decide (x < y))) := by
  have h1 := ROpp_ok (n := y) (by unfold Big; omega)
  have h2 := RAdd_ok (a := x) (b := -y) (by omega) (by omega)
  refine CallW_intro comp_poundageref01_Less (by simp) ?_
  simp -implicitDefEqProofs -proj only [go_sem, Nat.reduceBEq, Nat.reduceLT, Nat.reduceLeDiff, Nat.reduceAdd, Nat.reduceMul, ↓reduceIte, Int.reduceToNat, Int.reducePow, Int.reduceLT, Int.reduceLE, Int.reduceAdd, Int.reduceSub, Int.reduceMul, Int.reduceEq, Int.reduceNe]
  (repeat' first
    | (with_reducible refine Guard_split (fun h => ?_) (fun h => ?_) <;> (simp -implicitDefEqProofs -proj only [go_sem, Nat.reduceBEq, Nat.reduceLT, Nat.reduceLeDiff, Nat.reduceAdd, Nat.reduceMul, ↓reduceIte, Int.reduceToNat, Int.reducePow, Int.reduceLT, Int.reduceLE, Int.reduceAdd, Int.reduceSub, Int.reduceMul, Int.reduceEq, Int.reduceNe, *]; try (revert h; intro _)))
    | (with_reducible refine Cond_split (fun h => ?_) (fun h => ?_) <;> (simp -implicitDefEqProofs -proj only [go_sem, Nat.reduceBEq, Nat.reduceLT, Nat.reduceLeDiff, Nat.reduceAdd, Nat.reduceMul, ↓reduceIte, Int.reduceToNat, Int.reducePow, Int.reduceLT, Int.reduceLE, Int.reduceAdd, Int.reduceSub, Int.reduceMul, Int.reduceEq, Int.reduceNe, *]; try (revert h; intro _)))
    | (with_reducible refine Pick_split (fun h => ?_) (fun h => ?_) <;> (simp -implicitDefEqProofs -proj only [go_sem, Nat.reduceBEq, Nat.reduceLT, Nat.reduceLeDiff, Nat.reduceAdd, Nat.reduceMul, ↓reduceIte, Int.reduceToNat, Int.reducePow, Int.reduceLT, Int.reduceLE, Int.reduceAdd, Int.reduceSub, Int.reduceMul, Int.reduceEq, Int.reduceNe, *]; try (revert h; intro _)))
    | (with_reducible refine AllocA_intro (fun _ hb => ?_); simp only [upd_none, keepH_none, keepH_nil, Heap.none_get, and_true, true_and] at hb; simp -implicitDefEqProofs -proj only [go_sem, Nat.reduceBEq, Nat.reduceLT, Nat.reduceLeDiff, Nat.reduceAdd, Nat.reduceMul, ↓reduceIte, Int.reduceToNat, Int.reducePow, Int.reduceLT, Int.reduceLE, Int.reduceAdd, Int.reduceSub, Int.reduceMul, Int.reduceEq, Int.reduceNe, *]; try (revert hb; intro _))
    | (with_reducible refine AllocR_intro (fun _ hb => ?_); simp only [upd_none, keepH_none, keepH_nil, Heap.none_get, and_true, true_and] at hb; simp -implicitDefEqProofs -proj only [go_sem, Nat.reduceBEq, Nat.reduceLT, Nat.reduceLeDiff, Nat.reduceAdd, Nat.reduceMul, ↓reduceIte, Int.reduceToNat, Int.reducePow, Int.reduceLT, Int.reduceLE, Int.reduceAdd, Int.reduceSub, Int.reduceMul, Int.reduceEq, Int.reduceNe, *]; try (revert hb; intro _))
    | (with_reducible refine IdxE_1 _ rfl (by simp) ?_; simp -implicitDefEqProofs -proj only [go_sem, Nat.reduceBEq, Nat.reduceLT, Nat.reduceLeDiff, Nat.reduceAdd, Nat.reduceMul, ↓reduceIte, Int.reduceToNat, Int.reducePow, Int.reduceLT, Int.reduceLE, Int.reduceAdd, Int.reduceSub, Int.reduceMul, Int.reduceEq, Int.reduceNe, *])
    | (with_reducible refine IdxE_n _ rfl (by simp) ?_; simp -implicitDefEqProofs -proj only [go_sem, Nat.reduceBEq, Nat.reduceLT, Nat.reduceLeDiff, Nat.reduceAdd, Nat.reduceMul, ↓reduceIte, Int.reduceToNat, Int.reducePow, Int.reduceLT, Int.reduceLE, Int.reduceAdd, Int.reduceSub, Int.reduceMul, Int.reduceEq, Int.reduceNe, *])
    | (with_reducible refine VC_intro ?_ (fun h => ?_); (focus first | decide | omega); try clear h; try simp -implicitDefEqProofs -proj only [go_sem, Nat.reduceBEq, Nat.reduceLT, Nat.reduceLeDiff, Nat.reduceAdd, Nat.reduceMul, ↓reduceIte, Int.reduceToNat, Int.reducePow, Int.reduceLT, Int.reduceLE, Int.reduceAdd, Int.reduceSub, Int.reduceMul, Int.reduceEq, Int.reduceNe, *])
    | (with_reducible refine VC_intro ?_ (fun h => ?_); rotate_left; try clear h; try simp -implicitDefEqProofs -proj only [go_sem, Nat.reduceBEq, Nat.reduceLT, Nat.reduceLeDiff, Nat.reduceAdd, Nat.reduceMul, ↓reduceIte, Int.reduceToNat, Int.reducePow, Int.reduceLT, Int.reduceLE, Int.reduceAdd, Int.reduceSub, Int.reduceMul, Int.reduceEq, Int.reduceNe, *]; rotate_right))
  refine PCallA_pure h1 ?_
  simp -implicitDefEqProofs -proj only [go_sem, Nat.reduceBEq, Nat.reduceLT, Nat.reduceLeDiff, Nat.reduceAdd, Nat.reduceMul, ↓reduceIte, Int.reduceToNat, Int.reducePow, Int.reduceLT, Int.reduceLE, Int.reduceAdd, Int.reduceSub, Int.reduceMul, Int.reduceEq, Int.reduceNe, *]
  (repeat' first
    | (with_reducible refine Guard_split (fun h => ?_) (fun h => ?_) <;> (simp -implicitDefEqProofs -proj only [go_sem, Nat.reduceBEq, Nat.reduceLT, Nat.reduceLeDiff, Nat.reduceAdd, Nat.reduceMul, ↓reduceIte, Int.reduceToNat, Int.reducePow, Int.reduceLT, Int.reduceLE, Int.reduceAdd, Int.reduceSub, Int.reduceMul, Int.reduceEq, Int.reduceNe, *]; try (revert h; intro _)))
    | (with_reducible refine Cond_split (fun h => ?_) (fun h => ?_) <;> (simp -implicitDefEqProofs -proj only [go_sem, Nat.reduceBEq, Nat.reduceLT, Nat.reduceLeDiff, Nat.reduceAdd, Nat.reduceMul, ↓reduceIte, Int.reduceToNat, Int.reducePow, Int.reduceLT, Int.reduceLE, Int.reduceAdd, Int.reduceSub, Int.reduceMul, Int.reduceEq, Int.reduceNe, *]; try (revert h; intro _)))
    | (with_reducible refine Pick_split (fun h => ?_) (fun h => ?_) <;> (simp -implicitDefEqProofs -proj only [go_sem, Nat.reduceBEq, Nat.reduceLT, Nat.reduceLeDiff, Nat.reduceAdd, Nat.reduceMul, ↓reduceIte, Int.reduceToNat, Int.reducePow, Int.reduceLT, Int.reduceLE, Int.reduceAdd, Int.reduceSub, Int.reduceMul, Int.reduceEq, Int.reduceNe, *]; try (revert h; intro _)))
    | (with_reducible refine AllocA_intro (fun _ hb => ?_); simp only [upd_none, keepH_none, keepH_nil, Heap.none_get, and_true, true_and] at hb; simp -implicitDefEqProofs -proj only [go_sem, Nat.reduceBEq, Nat.reduceLT, Nat.reduceLeDiff, Nat.reduceAdd, Nat.reduceMul, ↓reduceIte, Int.reduceToNat, Int.reducePow, Int.reduceLT, Int.reduceLE, Int.reduceAdd, Int.reduceSub, Int.reduceMul, Int.reduceEq, Int.reduceNe, *]; try (revert hb; intro _))
    | (with_reducible refine AllocR_intro (fun _ hb => ?_); simp only [upd_none, keepH_none, keepH_nil, Heap.none_get, and_true, true_and] at hb; simp -implicitDefEqProofs -proj only [go_sem, Nat.reduceBEq, Nat.reduceLT, Nat.reduceLeDiff, Nat.reduceAdd, Nat.reduceMul, ↓reduceIte, Int.reduceToNat, Int.reducePow, Int.reduceLT, Int.reduceLE, Int.reduceAdd, Int.reduceSub, Int.reduceMul, Int.reduceEq, Int.reduceNe, *]; try (revert hb; intro _))
    | (with_reducible refine IdxE_1 _ rfl (by simp) ?_; simp -implicitDefEqProofs -proj only [go_sem, Nat.reduceBEq, Nat.reduceLT, Nat.reduceLeDiff, Nat.reduceAdd, Nat.reduceMul, ↓reduceIte, Int.reduceToNat, Int.reducePow, Int.reduceLT, Int.reduceLE, Int.reduceAdd, Int.reduceSub, Int.reduceMul, Int.reduceEq, Int.reduceNe, *])
    | (with_reducible refine IdxE_n _ rfl (by simp) ?_; simp -implicitDefEqProofs -proj only [go_sem, Nat.reduceBEq, Nat.reduceLT, Nat.reduceLeDiff, Nat.reduceAdd, Nat.reduceMul, ↓reduceIte, Int.reduceToNat, Int.reducePow, Int.reduceLT, Int.reduceLE, Int.reduceAdd, Int.reduceSub, Int.reduceMul, Int.reduceEq, Int.reduceNe, *])
    | (with_reducible refine VC_intro ?_ (fun h => ?_); (focus first | decide | omega); try clear h; try simp -implicitDefEqProofs -proj only [go_sem, Nat.reduceBEq, Nat.reduceLT, Nat.reduceLeDiff, Nat.reduceAdd, Nat.reduceMul, ↓reduceIte, Int.reduceToNat, Int.reducePow, Int.reduceLT, Int.reduceLE, Int.reduceAdd, Int.reduceSub, Int.reduceMul, Int.reduceEq, Int.reduceNe, *])
    | (with_reducible refine VC_intro ?_ (fun h => ?_); rotate_left; try clear h; try simp -implicitDefEqProofs -proj only [go_sem, Nat.reduceBEq, Nat.reduceLT, Nat.reduceLeDiff, Nat.reduceAdd, Nat.reduceMul, ↓reduceIte, Int.reduceToNat, Int.reducePow, Int.reduceLT, Int.reduceLE, Int.reduceAdd, Int.reduceSub, Int.reduceMul, Int.reduceEq, Int.reduceNe, *]; rotate_right))
  refine PCallA_pure h2 ?_
  simp -implicitDefEqProofs -proj only [go_sem, Nat.reduceBEq, Nat.reduceLT, Nat.reduceLeDiff, Nat.reduceAdd, Nat.reduceMul, ↓reduceIte, Int.reduceToNat, Int.reducePow, Int.reduceLT, Int.reduceLE, Int.reduceAdd, Int.reduceSub, Int.reduceMul, Int.reduceEq, Int.reduceNe, *]
  (repeat' first
    | (with_reducible refine Guard_split (fun h => ?_) (fun h => ?_) <;> (simp -implicitDefEqProofs -proj only [go_sem, Nat.reduceBEq, Nat.reduceLT, Nat.reduceLeDiff, Nat.reduceAdd, Nat.reduceMul, ↓reduceIte, Int.reduceToNat, Int.reducePow, Int.reduceLT, Int.reduceLE, Int.reduceAdd, Int.reduceSub, Int.reduceMul, Int.reduceEq, Int.reduceNe, *]; try (revert h; intro _)))
    | (with_reducible refine Cond_split (fun h => ?_) (fun h => ?_) <;> (simp -implicitDefEqProofs -proj only [go_sem, Nat.reduceBEq, Nat.reduceLT, Nat.reduceLeDiff, Nat.reduceAdd, Nat.reduceMul, ↓reduceIte, Int.reduceToNat, Int.reducePow, Int.reduceLT, Int.reduceLE, Int.reduceAdd, Int.reduceSub, Int.reduceMul, Int.reduceEq, Int.reduceNe, *]; try (revert h; intro _)))
    | (with_reducible refine Pick_split (fun h => ?_) (fun h => ?_) <;> (simp -implicitDefEqProofs -proj only [go_sem, Nat.reduceBEq, Nat.reduceLT, Nat.reduceLeDiff, Nat.reduceAdd, Nat.reduceMul, ↓reduceIte, Int.reduceToNat, Int.reducePow, Int.reduceLT, Int.reduceLE, Int.reduceAdd, Int.reduceSub, Int.reduceMul, Int.reduceEq, Int.reduceNe, *]; try (revert h; intro _)))
    | (with_reducible refine AllocA_intro (fun _ hb => ?_); simp only [upd_none, keepH_none, keepH_nil, Heap.none_get, and_true, true_and] at hb; simp -implicitDefEqProofs -proj only [go_sem, Nat.reduceBEq, Nat.reduceLT, Nat.reduceLeDiff, Nat.reduceAdd, Nat.reduceMul, ↓reduceIte, Int.reduceToNat, Int.reducePow, Int.reduceLT, Int.reduceLE, Int.reduceAdd, Int.reduceSub, Int.reduceMul, Int.reduceEq, Int.reduceNe, *]; try (revert hb; intro _))
    | (with_reducible refine AllocR_intro (fun _ hb => ?_); simp only [upd_none, keepH_none, keepH_nil, Heap.none_get, and_true, true_and] at hb; simp -implicitDefEqProofs -proj only [go_sem, Nat.reduceBEq, Nat.reduceLT, Nat.reduceLeDiff, Nat.reduceAdd, Nat.reduceMul, ↓reduceIte, Int.reduceToNat, Int.reducePow, Int.reduceLT, Int.reduceLE, Int.reduceAdd, Int.reduceSub, Int.reduceMul, Int.reduceEq, Int.reduceNe, *]; try (revert hb; intro _))
    | (with_reducible refine IdxE_1 _ rfl (by simp) ?_; simp -implicitDefEqProofs -proj only [go_sem, Nat.reduceBEq, Nat.reduceLT, Nat.reduceLeDiff, Nat.reduceAdd, Nat.reduceMul, ↓reduceIte, Int.reduceToNat, Int.reducePow, Int.reduceLT, Int.reduceLE, Int.reduceAdd, Int.reduceSub, Int.reduceMul, Int.reduceEq, Int.reduceNe, *])
    | (with_reducible refine IdxE_n _ rfl (by simp) ?_; simp -implicitDefEqProofs -proj only [go_sem, Nat.reduceBEq, Nat.reduceLT, Nat.reduceLeDiff, Nat.reduceAdd, Nat.reduceMul, ↓reduceIte, Int.reduceToNat, Int.reducePow, Int.reduceLT, Int.reduceLE, Int.reduceAdd, Int.reduceSub, Int.reduceMul, Int.reduceEq, Int.reduceNe, *])
    | (with_reducible refine VC_intro ?_ (fun h => ?_); (focus first | decide | omega); try clear h; try simp -implicitDefEqProofs -proj only [go_sem, Nat.reduceBEq, Nat.reduceLT, Nat.reduceLeDiff, Nat.reduceAdd, Nat.reduceMul, ↓reduceIte, Int.reduceToNat, Int.reducePow, Int.reduceLT, Int.reduceLE, Int.reduceAdd, Int.reduceSub, Int.reduceMul, Int.reduceEq, Int.reduceNe, *])
    | (with_reducible refine VC_intro ?_ (fun h => ?_); rotate_left; try clear h; try simp -implicitDefEqProofs -proj only [go_sem, Nat.reduceBEq, Nat.reduceLT, Nat.reduceLeDiff, Nat.reduceAdd, Nat.reduceMul, ↓reduceIte, Int.reduceToNat, Int.reducePow, Int.reduceLT, Int.reduceLE, Int.reduceAdd, Int.reduceSub, Int.reduceMul, Int.reduceEq, Int.reduceNe, *]; rotate_right))
  refine LendV_eq ?_
  simp -implicitDefEqProofs only [← decide_not, ← Bool.decide_and, ← Bool.decide_or, Bool.beq_eq_decide_eq, AV.d.injEq, D.bool.injEq, D.int.injEq, D.str.injEq, AV.tup.injEq, AV.agg.injEq, List.cons.injEq, true_and, and_true, decide_eq_decide, true_eq_decide_iff, false_eq_decide_iff, decide_eq_true_eq, decide_eq_false_iff_not, Bool.true_eq, Bool.false_eq]
  omega
theorem under_ok {n c p : Int} (hn : Fit n) (hc : Fit c) (hp : p.natAbs ≤ 85070591730234615865843651857942052864) : DataW Try.prog f_poundageref02_under [i64 n, i64 c, wide p] (bv (decide (n * c ≤ p))) := by
  have h1 := RMul_ok hn hc
  have hq := prod_small hn hc
  have h2 := Less_ok hp hq
  generalize n * c = z at *
  refine CallW_intro comp_poundageref02_under (by simp) ?_
  simp -implicitDefEqProofs -proj only [go_sem, Nat.reduceBEq, Nat.reduceLT, Nat.reduceLeDiff, Nat.reduceAdd, Nat.reduceMul, ↓reduceIte, Int.reduceToNat, Int.reducePow, Int.reduceLT, Int.reduceLE, Int.reduceAdd, Int.reduceSub, Int.reduceMul, Int.reduceEq, Int.reduceNe]
  (repeat' first
    | (with_reducible refine Guard_split (fun h => ?_) (fun h => ?_) <;> (simp -implicitDefEqProofs -proj only [go_sem, Nat.reduceBEq, Nat.reduceLT, Nat.reduceLeDiff, Nat.reduceAdd, Nat.reduceMul, ↓reduceIte, Int.reduceToNat, Int.reducePow, Int.reduceLT, Int.reduceLE, Int.reduceAdd, Int.reduceSub, Int.reduceMul, Int.reduceEq, Int.reduceNe, *]; try (revert h; intro _)))
    | (with_reducible refine Cond_split (fun h => ?_) (fun h => ?_) <;> (simp -implicitDefEqProofs -proj only [go_sem, Nat.reduceBEq, Nat.reduceLT, Nat.reduceLeDiff, Nat.reduceAdd, Nat.reduceMul, ↓reduceIte, Int.reduceToNat, Int.reducePow, Int.reduceLT, Int.reduceLE, Int.reduceAdd, Int.reduceSub, Int.reduceMul, Int.reduceEq, Int.reduceNe, *]; try (revert h; intro _)))
    | (with_reducible refine Pick_split (fun h => ?_) (fun h => ?_) <;> (simp -implicitDefEqProofs -proj only [go_sem, Nat.reduceBEq, Nat.reduceLT, Nat.reduceLeDiff, Nat.reduceAdd, Nat.reduceMul, ↓reduceIte, Int.reduceToNat, Int.reducePow, Int.reduceLT, Int.reduceLE, Int.reduceAdd, Int.reduceSub, Int.reduceMul, Int.reduceEq, Int.reduceNe, *]; try (revert h; intro _)))
    | (with_reducible refine AllocA_intro (fun _ hb => ?_); simp only [upd_none, keepH_none, keepH_nil, Heap.none_get, and_true, true_and] at hb; simp -implicitDefEqProofs -proj only [go_sem, Nat.reduceBEq, Nat.reduceLT, Nat.reduceLeDiff, Nat.reduceAdd, Nat.reduceMul, ↓reduceIte, Int.reduceToNat, Int.reducePow, Int.reduceLT, Int.reduceLE, Int.reduceAdd, Int.reduceSub, Int.reduceMul, Int.reduceEq, Int.reduceNe, *]; try (revert hb; intro _))
    | (with_reducible refine AllocR_intro (fun _ hb => ?_); simp only [upd_none, keepH_none, keepH_nil, Heap.none_get, and_true, true_and] at hb; simp -implicitDefEqProofs -proj only [go_sem, Nat.reduceBEq, Nat.reduceLT, Nat.reduceLeDiff, Nat.reduceAdd, Nat.reduceMul, ↓reduceIte, Int.reduceToNat, Int.reducePow, Int.reduceLT, Int.reduceLE, Int.reduceAdd, Int.reduceSub, Int.reduceMul, Int.reduceEq, Int.reduceNe, *]; try (revert hb; intro _))
    | (with_reducible refine IdxE_1 _ rfl (by simp) ?_; simp -implicitDefEqProofs -proj only [go_sem, Nat.reduceBEq, Nat.reduceLT, Nat.reduceLeDiff, Nat.reduceAdd, Nat.reduceMul, ↓reduceIte, Int.reduceToNat, Int.reducePow, Int.reduceLT, Int.reduceLE, Int.reduceAdd, Int.reduceSub, Int.reduceMul, Int.reduceEq, Int.reduceNe, *])
    | (with_reducible refine IdxE_n _ rfl (by simp) ?_; simp -implicitDefEqProofs -proj only [go_sem, Nat.reduceBEq, Nat.reduceLT, Nat.reduceLeDiff, Nat.reduceAdd, Nat.reduceMul, ↓reduceIte, Int.reduceToNat, Int.reducePow, Int.reduceLT, Int.reduceLE, Int.reduceAdd, Int.reduceSub, Int.reduceMul, Int.reduceEq, Int.reduceNe, *])
    | (with_reducible refine VC_intro ?_ (fun h => ?_); (focus first | decide | omega); try clear h; try simp -implicitDefEqProofs -proj only [go_sem, Nat.reduceBEq, Nat.reduceLT, Nat.reduceLeDiff, Nat.reduceAdd, Nat.reduceMul, ↓reduceIte, Int.reduceToNat, Int.reducePow, Int.reduceLT, Int.reduceLE, Int.reduceAdd, Int.reduceSub, Int.reduceMul, Int.reduceEq, Int.reduceNe, *])
    | (with_reducible refine VC_intro ?_ (fun h => ?_); rotate_left; try clear h; try simp -implicitDefEqProofs -proj only [go_sem, Nat.reduceBEq, Nat.reduceLT, Nat.reduceLeDiff, Nat.reduceAdd, Nat.reduceMul, ↓reduceIte, Int.reduceToNat, Int.reducePow, Int.reduceLT, Int.reduceLE, Int.reduceAdd, Int.reduceSub, Int.reduceMul, Int.reduceEq, Int.reduceNe, *]; rotate_right))
  refine PCallA_pure h1 ?_
  simp -implicitDefEqProofs -proj only [go_sem, Nat.reduceBEq, Nat.reduceLT, Nat.reduceLeDiff, Nat.reduceAdd, Nat.reduceMul, ↓reduceIte, Int.reduceToNat, Int.reducePow, Int.reduceLT, Int.reduceLE, Int.reduceAdd, Int.reduceSub, Int.reduceMul, Int.reduceEq, Int.reduceNe, *]
  (repeat' first
    | (refine CallA_pure (h2) ?_; simp -implicitDefEqProofs -proj only [go_sem, Nat.reduceBEq, Nat.reduceLT, Nat.reduceLeDiff, Nat.reduceAdd, Nat.reduceMul, ↓reduceIte, Int.reduceToNat, Int.reducePow, Int.reduceLT, Int.reduceLE, Int.reduceAdd, Int.reduceSub, Int.reduceMul, Int.reduceEq, Int.reduceNe, *])
    | (refine PCallA_pure (h2) ?_; simp -implicitDefEqProofs -proj only [go_sem, Nat.reduceBEq, Nat.reduceLT, Nat.reduceLeDiff, Nat.reduceAdd, Nat.reduceMul, ↓reduceIte, Int.reduceToNat, Int.reducePow, Int.reduceLT, Int.reduceLE, Int.reduceAdd, Int.reduceSub, Int.reduceMul, Int.reduceEq, Int.reduceNe, *])
    | (with_reducible refine Guard_split (fun h => ?_) (fun h => ?_) <;> (simp -implicitDefEqProofs -proj only [go_sem, Nat.reduceBEq, Nat.reduceLT, Nat.reduceLeDiff, Nat.reduceAdd, Nat.reduceMul, ↓reduceIte, Int.reduceToNat, Int.reducePow, Int.reduceLT, Int.reduceLE, Int.reduceAdd, Int.reduceSub, Int.reduceMul, Int.reduceEq, Int.reduceNe, *]; try (revert h; intro _)))
    | (with_reducible refine Cond_split (fun h => ?_) (fun h => ?_) <;> (simp -implicitDefEqProofs -proj only [go_sem, Nat.reduceBEq, Nat.reduceLT, Nat.reduceLeDiff, Nat.reduceAdd, Nat.reduceMul, ↓reduceIte, Int.reduceToNat, Int.reducePow, Int.reduceLT, Int.reduceLE, Int.reduceAdd, Int.reduceSub, Int.reduceMul, Int.reduceEq, Int.reduceNe, *]; try (revert h; intro _)))
    | (with_reducible refine Pick_split (fun h => ?_) (fun h => ?_) <;> (simp -implicitDefEqProofs -proj only [go_sem, Nat.reduceBEq, Nat.reduceLT, Nat.reduceLeDiff, Nat.reduceAdd, Nat.reduceMul, ↓reduceIte, Int.reduceToNat, Int.reducePow, Int.reduceLT, Int.reduceLE, Int.reduceAdd, Int.reduceSub, Int.reduceMul, Int.reduceEq, Int.reduceNe, *]; try (revert h; intro _)))
    | (with_reducible refine AllocA_intro (fun _ hb => ?_); simp -implicitDefEqProofs only [upd_none, keepH_none, keepH_nil, Heap.none_get, and_true, true_and] at hb; simp -implicitDefEqProofs -proj only [go_sem, Nat.reduceBEq, Nat.reduceLT, Nat.reduceLeDiff, Nat.reduceAdd, Nat.reduceMul, ↓reduceIte, Int.reduceToNat, Int.reducePow, Int.reduceLT, Int.reduceLE, Int.reduceAdd, Int.reduceSub, Int.reduceMul, Int.reduceEq, Int.reduceNe, *]; try (revert hb; intro _))
    | (with_reducible refine AllocR_intro (fun _ hb => ?_); simp -implicitDefEqProofs only [upd_none, keepH_none, keepH_nil, Heap.none_get, and_true, true_and] at hb; simp -implicitDefEqProofs -proj only [go_sem, Nat.reduceBEq, Nat.reduceLT, Nat.reduceLeDiff, Nat.reduceAdd, Nat.reduceMul, ↓reduceIte, Int.reduceToNat, Int.reducePow, Int.reduceLT, Int.reduceLE, Int.reduceAdd, Int.reduceSub, Int.reduceMul, Int.reduceEq, Int.reduceNe, *]; try (revert hb; intro _))
    | (with_reducible refine IdxE_1 _ rfl (by simp) ?_; simp -implicitDefEqProofs -proj only [go_sem, Nat.reduceBEq, Nat.reduceLT, Nat.reduceLeDiff, Nat.reduceAdd, Nat.reduceMul, ↓reduceIte, Int.reduceToNat, Int.reducePow, Int.reduceLT, Int.reduceLE, Int.reduceAdd, Int.reduceSub, Int.reduceMul, Int.reduceEq, Int.reduceNe, *])
    | (with_reducible refine IdxE_n _ rfl (by simp) ?_; simp -implicitDefEqProofs -proj only [go_sem, Nat.reduceBEq, Nat.reduceLT, Nat.reduceLeDiff, Nat.reduceAdd, Nat.reduceMul, ↓reduceIte, Int.reduceToNat, Int.reducePow, Int.reduceLT, Int.reduceLE, Int.reduceAdd, Int.reduceSub, Int.reduceMul, Int.reduceEq, Int.reduceNe, *])
    | (with_reducible refine VC_intro ?_ (fun h => ?_); (focus first | decide | omega); try clear h; try simp -implicitDefEqProofs -proj only [go_sem, Nat.reduceBEq, Nat.reduceLT, Nat.reduceLeDiff, Nat.reduceAdd, Nat.reduceMul, ↓reduceIte, Int.reduceToNat, Int.reducePow, Int.reduceLT, Int.reduceLE, Int.reduceAdd, Int.reduceSub, Int.reduceMul, Int.reduceEq, Int.reduceNe, *])
    | (with_reducible refine VC_intro ?_ (fun h => ?_); rotate_left; try clear h; try simp -implicitDefEqProofs -proj only [go_sem, Nat.reduceBEq, Nat.reduceLT, Nat.reduceLeDiff, Nat.reduceAdd, Nat.reduceMul, ↓reduceIte, Int.reduceToNat, Int.reducePow, Int.reduceLT, Int.reduceLE, Int.reduceAdd, Int.reduceSub, Int.reduceMul, Int.reduceEq, Int.reduceNe, *]; rotate_right))
  refine LendV_eq ?_
  simp -implicitDefEqProofs only [← decide_not, ← Bool.decide_and, ← Bool.decide_or, Bool.beq_eq_decide_eq, AV.d.injEq, D.bool.injEq, D.int.injEq, D.str.injEq, AV.tup.injEq, AV.agg.injEq, List.cons.injEq, true_and, and_true, decide_eq_decide, true_eq_decide_iff, false_eq_decide_iff, decide_eq_true_eq, decide_eq_false_iff_not, Bool.true_eq, Bool.false_eq]
  omega
/-- What the document's Floor answers. -/
def floorR (p c : Int) : AV := if -9223372036854775808 * c ≤ p then .tup [i64 (capQ p c), bv true] else .tup [i64 0, bv false]
theorem cap_fit {p c : Int} (hc : 0 < c) (h : -9223372036854775808 * c ≤ p) : Fit (capQ p c) := by
  have h1 := (cap_le (p := p) (n := -9223372036854775808) hc (by omega)).2 h
  unfold Fit
  refine ⟨h1, ?_⟩
  unfold capQ
  split <;> omega
theorem step_next {low P nx : Int} (h : nx = IntKind.i64.wrap (IntKind.u64.wrap (IntKind.u64.wrap low + P))) (hl : Fit low) (hP : 1 ≤ P ∧ P ≤ 9223372036854775808) : (low + P ≤ 9223372036854775807 → nx = low + P) ∧ (9223372036854775807 < low + P → nx < low) := by
  rw [IntKind.wrap_i64, IntKind.wrap_u64, IntKind.wrap_u64] at h
  unfold Fit at hl
  omega
theorem pow_two (j : Nat) (h : 0 < j) (h2 : j ≤ 64) : ∃ P : Int, (2 : Int) ^ (j - 1) = P ∧ (2 : Int) ^ j = 2 * P ∧ 1 ≤ P ∧ P ≤ 9223372036854775808 := by
  refine ⟨_, rfl, ?_, ?_, ?_⟩
  · conv => lhs; rw [show j = j - 1 + 1 by omega, Int.pow_succ, Int.mul_comm]
  · have := pow_pos2 (j - 1); omega
  · have := pow_le (show j - 1 ≤ 63 by omega)
    have e : (2 : Int) ^ 63 = 9223372036854775808 := rfl
    omega
set_option maxRecDepth 20000 in
set_option maxHeartbeats 2000000 in
theorem Floor_ok {p c : Int} (hc0 : 0 < c) (hc : Fit c) (hp : p.natAbs ≤ 85070591730234615865843651857942052864) : DataW Try.prog f_poundageref02_Floor [wide p, i64 c] (floorR p c) := by
  have h1 := under_ok (n := -9223372036854775808) (c := c) (p := p) (by decide) hc hp
  refine CallW_intro comp_poundageref02_Floor (by simp) ?_
  by_cases h : -9223372036854775808 * c ≤ p
  · rw [floorR, if_pos h]
    rw [decide_eq_true h] at h1
    simp -implicitDefEqProofs -proj only [go_sem, Nat.reduceBEq, Nat.reduceLT, Nat.reduceLeDiff, Nat.reduceAdd, Nat.reduceMul, ↓reduceIte, Int.reduceToNat, Int.reducePow, Int.reduceLT, Int.reduceLE, Int.reduceAdd, Int.reduceSub, Int.reduceMul, Int.reduceEq, Int.reduceNe]
    refine AllocA_intro (fun b hb => ?_)
    simp -implicitDefEqProofs -proj only [go_sem, Nat.reduceBEq, Nat.reduceLT, Nat.reduceLeDiff, Nat.reduceAdd, Nat.reduceMul, ↓reduceIte, Int.reduceToNat, Int.reducePow, Int.reduceLT, Int.reduceLE, Int.reduceAdd, Int.reduceSub, Int.reduceMul, Int.reduceEq, Int.reduceNe]
    refine CallA_pure h1 ?_
    simp -implicitDefEqProofs -proj only [go_sem, Nat.reduceBEq, Nat.reduceLT, Nat.reduceLeDiff, Nat.reduceAdd, Nat.reduceMul, ↓reduceIte, Int.reduceToNat, Int.reducePow, Int.reduceLT, Int.reduceLE, Int.reduceAdd, Int.reduceSub, Int.reduceMul, Int.reduceEq, Int.reduceNe]
    have hf := cap_fit hc0 h
    have hle := fun n hn => cap_le (p := p) (c := c) (n := n) hc0 hn
    clear h1 h
    generalize capQ p c = T at *
    refine LoopA_k (fun x : Nat × Int => x.1 ≤ 64 ∧ Fit x.2 ∧ x.2 ≤ T ∧ T < x.2 + 2 ^ x.1) 39 (fun x => [(2, .ptr b 0), (1, i64 c), (6, i64 x.2), (7, i64 ((x.1 : Int) - 1))])
      (fun _ => [(b, .box 122 [bv (decide (p < 0)), u64 ((p.natAbs : Int) / 18446744073709551616), u64 ((p.natAbs : Int) % 18446744073709551616)])]) (fun x => x.1) (64, -9223372036854775808) ⟨by simp -implicitDefEqProofs only [Fst_mk]; omega, by decide, by unfold Fit at hf; simp -implicitDefEqProofs only [Snd_mk]; omega, by unfold Fit at hf; simp -implicitDefEqProofs only [Snd_mk, Fst_mk]; omega⟩ rfl ?_ ?_ ?_
    · simp -implicitDefEqProofs -proj only [go_sem, Nat.reduceBEq, Nat.reduceLT, Nat.reduceLeDiff, Nat.reduceAdd, Nat.reduceMul, ↓reduceIte, Int.reduceToNat, Int.reducePow, Int.reduceLT, Int.reduceLE, Int.reduceAdd, Int.reduceSub, Int.reduceMul, Int.reduceEq, Int.reduceNe, AllAt]
    · simp -implicitDefEqProofs -proj only [go_sem, Nat.reduceBEq, Nat.reduceLT, Nat.reduceLeDiff, Nat.reduceAdd, Nat.reduceMul, ↓reduceIte, Int.reduceToNat, Int.reducePow, Int.reduceLT, Int.reduceLE, Int.reduceAdd, Int.reduceSub, Int.reduceMul, Int.reduceEq, Int.reduceNe, AllH]
    · rintro ⟨j, low⟩ ⟨i1, i2, i3, i4⟩
      simp -implicitDefEqProofs only [Fst_mk, Snd_mk] at i1 i2 i3 i4
      by_cases hj : 0 < j
      · obtain ⟨P, e1, e2, e3, e4⟩ := pow_two j hj i1
        have w1 : IntKind.u64.wrap ((j : Int) - 1) = ((j - 1 : Nat) : Int) := by rw [wrapU_in (by omega)]; omega
        have w2 : IntKind.u64.wrap P = P := wrapU_in (by omega)
        have w3 : IntKind.i64.wrap ((j : Int) - 1 - 1) = ((j - 1 : Nat) : Int) - 1 := by rw [IntKind.wrap_i64]; omega
        have hk : j - 1 ≤ 64 := by omega
        obtain ⟨nx, hnx⟩ : ∃ nx, nx = IntKind.i64.wrap (IntKind.u64.wrap (IntKind.u64.wrap low + P)) := ⟨_, rfl⟩
        obtain ⟨n1, n2⟩ := step_next hnx i2 ⟨e3, e4⟩
        have hle2 := hle nx
        simp -implicitDefEqProofs -proj only [go_sem, Nat.reduceBEq, Nat.reduceLT, Nat.reduceLeDiff, Nat.reduceAdd, Nat.reduceMul, ↓reduceIte, Int.reduceToNat, Int.reducePow, Int.reduceLT, Int.reduceLE, Int.reduceAdd, Int.reduceSub, Int.reduceMul, Int.reduceEq, Int.reduceNe, decide_eq_true (show 0 ≤ (j : Int) - 1 by omega), w1, w2, w3, Int.toNat_natCast, hk, e1, Int.one_mul]
        (repeat' (with_reducible refine VC_intro ?_ (fun h => ?_); (focus first | decide | omega); clear h; try simp -implicitDefEqProofs -proj only [go_sem, Nat.reduceBEq, Nat.reduceLT, Nat.reduceLeDiff, Nat.reduceAdd, Nat.reduceMul, ↓reduceIte, Int.reduceToNat, Int.reducePow, Int.reduceLT, Int.reduceLE, Int.reduceAdd, Int.reduceSub, Int.reduceMul, Int.reduceEq, Int.reduceNe, w1, w2, w3, Int.toNat_natCast, hk, e1, Int.one_mul, ← hnx]))
        by_cases hb2 : low + P ≤ 9223372036854775807
        · have hn := n1 hb2
          have hu := under_ok (n := nx) (c := c) (p := p) (by unfold Fit at *; omega) hc hp
          simp -implicitDefEqProofs -proj only [go_sem, Nat.reduceBEq, Nat.reduceLT, Nat.reduceLeDiff, Nat.reduceAdd, Nat.reduceMul, ↓reduceIte, Int.reduceToNat, Int.reducePow, Int.reduceLT, Int.reduceLE, Int.reduceAdd, Int.reduceSub, Int.reduceMul, Int.reduceEq, Int.reduceNe, ← hnx, decide_eq_true (show low < nx by omega)]
          refine CallA_pure hu ?_
          by_cases hv : nx * c ≤ p
          · have := (hle2 (by omega)).2 hv
            simp -implicitDefEqProofs -proj only [go_sem, Nat.reduceBEq, Nat.reduceLT, Nat.reduceLeDiff, Nat.reduceAdd, Nat.reduceMul, ↓reduceIte, Int.reduceToNat, Int.reducePow, Int.reduceLT, Int.reduceLE, Int.reduceAdd, Int.reduceSub, Int.reduceMul, Int.reduceEq, Int.reduceNe, ← hnx, decide_eq_true hv]
            refine LoopQ_k (j - 1, nx) ⟨by simp -implicitDefEqProofs only [Fst_mk]; omega, by unfold Fit at *; simp -implicitDefEqProofs only [Snd_mk]; omega, by simp -implicitDefEqProofs only [Snd_mk]; omega, by simp -implicitDefEqProofs only [Fst_mk, Snd_mk]; rw [e1]; omega⟩ (by simp -implicitDefEqProofs only [Fst_mk]; omega) rfl ?_ ?_
            · simp -implicitDefEqProofs -proj only [go_sem, Nat.reduceBEq, Nat.reduceLT, Nat.reduceLeDiff, Nat.reduceAdd, Nat.reduceMul, ↓reduceIte, Int.reduceToNat, Int.reducePow, Int.reduceLT, Int.reduceLE, Int.reduceAdd, Int.reduceSub, Int.reduceMul, Int.reduceEq, Int.reduceNe, AllAt, w3]
            · simp -implicitDefEqProofs -proj only [go_sem, Nat.reduceBEq, Nat.reduceLT, Nat.reduceLeDiff, Nat.reduceAdd, Nat.reduceMul, ↓reduceIte, Int.reduceToNat, Int.reducePow, Int.reduceLT, Int.reduceLE, Int.reduceAdd, Int.reduceSub, Int.reduceMul, Int.reduceEq, Int.reduceNe, AllH]
          · have : ¬ nx ≤ T := fun h => hv ((hle2 (by omega)).1 h)
            simp -implicitDefEqProofs -proj only [go_sem, Nat.reduceBEq, Nat.reduceLT, Nat.reduceLeDiff, Nat.reduceAdd, Nat.reduceMul, ↓reduceIte, Int.reduceToNat, Int.reducePow, Int.reduceLT, Int.reduceLE, Int.reduceAdd, Int.reduceSub, Int.reduceMul, Int.reduceEq, Int.reduceNe, ← hnx, decide_eq_false hv]
            refine LoopQ_k (j - 1, low) ⟨by simp -implicitDefEqProofs only [Fst_mk]; omega, i2, i3, by simp -implicitDefEqProofs only [Fst_mk, Snd_mk]; rw [e1]; omega⟩ (by simp -implicitDefEqProofs only [Fst_mk]; omega) rfl ?_ ?_
            · simp -implicitDefEqProofs -proj only [go_sem, Nat.reduceBEq, Nat.reduceLT, Nat.reduceLeDiff, Nat.reduceAdd, Nat.reduceMul, ↓reduceIte, Int.reduceToNat, Int.reducePow, Int.reduceLT, Int.reduceLE, Int.reduceAdd, Int.reduceSub, Int.reduceMul, Int.reduceEq, Int.reduceNe, AllAt, w3]
            · simp -implicitDefEqProofs -proj only [go_sem, Nat.reduceBEq, Nat.reduceLT, Nat.reduceLeDiff, Nat.reduceAdd, Nat.reduceMul, ↓reduceIte, Int.reduceToNat, Int.reducePow, Int.reduceLT, Int.reduceLE, Int.reduceAdd, Int.reduceSub, Int.reduceMul, Int.reduceEq, Int.reduceNe, AllH]
        · have hn := n2 (by omega)
          simp -implicitDefEqProofs -proj only [go_sem, Nat.reduceBEq, Nat.reduceLT, Nat.reduceLeDiff, Nat.reduceAdd, Nat.reduceMul, ↓reduceIte, Int.reduceToNat, Int.reducePow, Int.reduceLT, Int.reduceLE, Int.reduceAdd, Int.reduceSub, Int.reduceMul, Int.reduceEq, Int.reduceNe, ← hnx, decide_eq_false (show ¬ low < nx by omega)]
          refine LoopQ_k (j - 1, low) ⟨by simp -implicitDefEqProofs only [Fst_mk]; omega, i2, i3, by unfold Fit at hf; simp -implicitDefEqProofs only [Fst_mk, Snd_mk]; rw [e1]; omega⟩ (by simp -implicitDefEqProofs only [Fst_mk]; omega) rfl ?_ ?_
          · simp -implicitDefEqProofs -proj only [go_sem, Nat.reduceBEq, Nat.reduceLT, Nat.reduceLeDiff, Nat.reduceAdd, Nat.reduceMul, ↓reduceIte, Int.reduceToNat, Int.reducePow, Int.reduceLT, Int.reduceLE, Int.reduceAdd, Int.reduceSub, Int.reduceMul, Int.reduceEq, Int.reduceNe, AllAt, w3]
          · simp -implicitDefEqProofs -proj only [go_sem, Nat.reduceBEq, Nat.reduceLT, Nat.reduceLeDiff, Nat.reduceAdd, Nat.reduceMul, ↓reduceIte, Int.reduceToNat, Int.reducePow, Int.reduceLT, Int.reduceLE, Int.reduceAdd, Int.reduceSub, Int.reduceMul, Int.reduceEq, Int.reduceNe, AllH]
      · have hj0 : j = 0 := by omega
        subst hj0
        have hT : low = T := by
          have : (2 : Int) ^ 0 = 1 := rfl
          omega
        simp -implicitDefEqProofs -proj only [go_sem, Nat.reduceBEq, Nat.reduceLT, Nat.reduceLeDiff, Nat.reduceAdd, Nat.reduceMul, ↓reduceIte, Int.reduceToNat, Int.reducePow, Int.reduceLT, Int.reduceLE, Int.reduceAdd, Int.reduceSub, Int.reduceMul, Int.reduceEq, Int.reduceNe]
        exact LendV_eq (by rw [hT])
  · rw [floorR, if_neg h]
    rw [decide_eq_false h] at h1
    simp -implicitDefEqProofs -proj only [go_sem, Nat.reduceBEq, Nat.reduceLT, Nat.reduceLeDiff, Nat.reduceAdd, Nat.reduceMul, ↓reduceIte, Int.reduceToNat, Int.reducePow, Int.reduceLT, Int.reduceLE, Int.reduceAdd, Int.reduceSub, Int.reduceMul, Int.reduceEq, Int.reduceNe]
    refine AllocA_intro (fun b hb => ?_)
    simp -implicitDefEqProofs -proj only [go_sem, Nat.reduceBEq, Nat.reduceLT, Nat.reduceLeDiff, Nat.reduceAdd, Nat.reduceMul, ↓reduceIte, Int.reduceToNat, Int.reducePow, Int.reduceLT, Int.reduceLE, Int.reduceAdd, Int.reduceSub, Int.reduceMul, Int.reduceEq, Int.reduceNe]
    refine CallA_pure h1 ?_
    simp -implicitDefEqProofs -proj only [go_sem, Nat.reduceBEq, Nat.reduceLT, Nat.reduceLeDiff, Nat.reduceAdd, Nat.reduceMul, ↓reduceIte, Int.reduceToNat, Int.reducePow, Int.reduceLT, Int.reduceLE, Int.reduceAdd, Int.reduceSub, Int.reduceMul, Int.reduceEq, Int.reduceNe]
    exact LendV_eq rfl
/-- What the document's edge answers. -/
def edgeR (d c m : Int) : AV := if 0 ≤ d ∧ d < c ∧ (m = 1 ∨ 1 < m ∧ 2 * d ≤ c) then .tup [i64 (-9223372036854775808), bv true] else .tup [i64 0, bv false]
theorem edgeR_of {d c m n : Int} {u : Bool} (h : (u = true ∧ n = -9223372036854775808 ∧ (0 ≤ d ∧ d < c ∧ (m = 1 ∨ 1 < m ∧ 2 * d ≤ c))) ∨ (u = false ∧ n = 0 ∧ ¬ (0 ≤ d ∧ d < c ∧ (m = 1 ∨ 1 < m ∧ 2 * d ≤ c)))) : AV.tup [i64 n, bv u] = edgeR d c m := by
  unfold edgeR
  rcases h with ⟨rfl, rfl, h⟩ | ⟨rfl, rfl, h⟩
  · rw [if_pos h]
  · rw [if_neg h]
set_option maxRecDepth 20000 in
theorem edge_ok {p c m : Int} (hc0 : 0 < c) (hc : Fit c) (hp : p.natAbs ≤ 85070591730234615865843651857942052864) : DataW Try.prog f_poundageref02_edge [wide p, i64 c, i64 m] (edgeR (-9223372036854775808 * c - p) c m) := by
  have h1 := RMul_ok (x := -9223372036854775808) (y := c) (by decide) hc
  have hq := prod_small (x := -9223372036854775808) (y := c) (by decide) hc
  have h2 := ROpp_ok (n := p) (by unfold Big; omega)
  have h3 := RAdd_ok (a := -9223372036854775808 * c) (b := -p) (by omega) (by omega)
  obtain ⟨d, hd⟩ : ∃ d, -9223372036854775808 * c + -p = d := ⟨_, rfl⟩
  have hd2 : -9223372036854775808 * c - p = d := by omega
  rw [hd] at h3
  rw [hd2]
  have hd3 : d.natAbs < 340282366920938463463374607431768211456 := by omega
  have hcw : IntKind.u64.wrap c = c := wrapU_in (by unfold Fit at hc; omega)
  generalize -9223372036854775808 * c = z at *
  clear hd hd2 hq
  refine CallW_intro comp_poundageref02_edge (by simp) ?_
  simp -implicitDefEqProofs -proj only [go_sem, Nat.reduceBEq, Nat.reduceLT, Nat.reduceLeDiff, Nat.reduceAdd, Nat.reduceMul, ↓reduceIte, Int.reduceToNat, Int.reducePow, Int.reduceLT, Int.reduceLE, Int.reduceAdd, Int.reduceSub, Int.reduceMul, Int.reduceEq, Int.reduceNe]
  (repeat' first
    | (with_reducible refine Guard_split (fun h => ?_) (fun h => ?_) <;> (simp -implicitDefEqProofs -proj only [go_sem, Nat.reduceBEq, Nat.reduceLT, Nat.reduceLeDiff, Nat.reduceAdd, Nat.reduceMul, ↓reduceIte, Int.reduceToNat, Int.reducePow, Int.reduceLT, Int.reduceLE, Int.reduceAdd, Int.reduceSub, Int.reduceMul, Int.reduceEq, Int.reduceNe, *]; try (revert h; intro _)))
    | (with_reducible refine Cond_split (fun h => ?_) (fun h => ?_) <;> (simp -implicitDefEqProofs -proj only [go_sem, Nat.reduceBEq, Nat.reduceLT, Nat.reduceLeDiff, Nat.reduceAdd, Nat.reduceMul, ↓reduceIte, Int.reduceToNat, Int.reducePow, Int.reduceLT, Int.reduceLE, Int.reduceAdd, Int.reduceSub, Int.reduceMul, Int.reduceEq, Int.reduceNe, *]; try (revert h; intro _)))
    | (with_reducible refine Pick_split (fun h => ?_) (fun h => ?_) <;> (simp -implicitDefEqProofs -proj only [go_sem, Nat.reduceBEq, Nat.reduceLT, Nat.reduceLeDiff, Nat.reduceAdd, Nat.reduceMul, ↓reduceIte, Int.reduceToNat, Int.reducePow, Int.reduceLT, Int.reduceLE, Int.reduceAdd, Int.reduceSub, Int.reduceMul, Int.reduceEq, Int.reduceNe, *]; try (revert h; intro _)))
    | (with_reducible refine AllocA_intro (fun _ hb => ?_); simp only [upd_none, keepH_none, keepH_nil, Heap.none_get, and_true, true_and] at hb; simp -implicitDefEqProofs -proj only [go_sem, Nat.reduceBEq, Nat.reduceLT, Nat.reduceLeDiff, Nat.reduceAdd, Nat.reduceMul, ↓reduceIte, Int.reduceToNat, Int.reducePow, Int.reduceLT, Int.reduceLE, Int.reduceAdd, Int.reduceSub, Int.reduceMul, Int.reduceEq, Int.reduceNe, *]; try (revert hb; intro _))
    | (with_reducible refine AllocR_intro (fun _ hb => ?_); simp only [upd_none, keepH_none, keepH_nil, Heap.none_get, and_true, true_and] at hb; simp -implicitDefEqProofs -proj only [go_sem, Nat.reduceBEq, Nat.reduceLT, Nat.reduceLeDiff, Nat.reduceAdd, Nat.reduceMul, ↓reduceIte, Int.reduceToNat, Int.reducePow, Int.reduceLT, Int.reduceLE, Int.reduceAdd, Int.reduceSub, Int.reduceMul, Int.reduceEq, Int.reduceNe, *]; try (revert hb; intro _))
    | (with_reducible refine IdxE_1 _ rfl (by simp) ?_; simp -implicitDefEqProofs -proj only [go_sem, Nat.reduceBEq, Nat.reduceLT, Nat.reduceLeDiff, Nat.reduceAdd, Nat.reduceMul, ↓reduceIte, Int.reduceToNat, Int.reducePow, Int.reduceLT, Int.reduceLE, Int.reduceAdd, Int.reduceSub, Int.reduceMul, Int.reduceEq, Int.reduceNe, *])
    | (with_reducible refine IdxE_n _ rfl (by simp) ?_; simp -implicitDefEqProofs -proj only [go_sem, Nat.reduceBEq, Nat.reduceLT, Nat.reduceLeDiff, Nat.reduceAdd, Nat.reduceMul, ↓reduceIte, Int.reduceToNat, Int.reducePow, Int.reduceLT, Int.reduceLE, Int.reduceAdd, Int.reduceSub, Int.reduceMul, Int.reduceEq, Int.reduceNe, *])
    | (with_reducible refine VC_intro ?_ (fun h => ?_); (focus first | decide | omega); try clear h; try simp -implicitDefEqProofs -proj only [go_sem, Nat.reduceBEq, Nat.reduceLT, Nat.reduceLeDiff, Nat.reduceAdd, Nat.reduceMul, ↓reduceIte, Int.reduceToNat, Int.reducePow, Int.reduceLT, Int.reduceLE, Int.reduceAdd, Int.reduceSub, Int.reduceMul, Int.reduceEq, Int.reduceNe, *])
    | (with_reducible refine VC_intro ?_ (fun h => ?_); rotate_left; try clear h; try simp -implicitDefEqProofs -proj only [go_sem, Nat.reduceBEq, Nat.reduceLT, Nat.reduceLeDiff, Nat.reduceAdd, Nat.reduceMul, ↓reduceIte, Int.reduceToNat, Int.reducePow, Int.reduceLT, Int.reduceLE, Int.reduceAdd, Int.reduceSub, Int.reduceMul, Int.reduceEq, Int.reduceNe, *]; rotate_right))
  refine PCallA_pure h1 ?_
  simp -implicitDefEqProofs -proj only [go_sem, Nat.reduceBEq, Nat.reduceLT, Nat.reduceLeDiff, Nat.reduceAdd, Nat.reduceMul, ↓reduceIte, Int.reduceToNat, Int.reducePow, Int.reduceLT, Int.reduceLE, Int.reduceAdd, Int.reduceSub, Int.reduceMul, Int.reduceEq, Int.reduceNe, *]
  (repeat' first
    | (with_reducible refine Guard_split (fun h => ?_) (fun h => ?_) <;> (simp -implicitDefEqProofs -proj only [go_sem, Nat.reduceBEq, Nat.reduceLT, Nat.reduceLeDiff, Nat.reduceAdd, Nat.reduceMul, ↓reduceIte, Int.reduceToNat, Int.reducePow, Int.reduceLT, Int.reduceLE, Int.reduceAdd, Int.reduceSub, Int.reduceMul, Int.reduceEq, Int.reduceNe, *]; try (revert h; intro _)))
    | (with_reducible refine Cond_split (fun h => ?_) (fun h => ?_) <;> (simp -implicitDefEqProofs -proj only [go_sem, Nat.reduceBEq, Nat.reduceLT, Nat.reduceLeDiff, Nat.reduceAdd, Nat.reduceMul, ↓reduceIte, Int.reduceToNat, Int.reducePow, Int.reduceLT, Int.reduceLE, Int.reduceAdd, Int.reduceSub, Int.reduceMul, Int.reduceEq, Int.reduceNe, *]; try (revert h; intro _)))
    | (with_reducible refine Pick_split (fun h => ?_) (fun h => ?_) <;> (simp -implicitDefEqProofs -proj only [go_sem, Nat.reduceBEq, Nat.reduceLT, Nat.reduceLeDiff, Nat.reduceAdd, Nat.reduceMul, ↓reduceIte, Int.reduceToNat, Int.reducePow, Int.reduceLT, Int.reduceLE, Int.reduceAdd, Int.reduceSub, Int.reduceMul, Int.reduceEq, Int.reduceNe, *]; try (revert h; intro _)))
    | (with_reducible refine AllocA_intro (fun _ hb => ?_); simp only [upd_none, keepH_none, keepH_nil, Heap.none_get, and_true, true_and] at hb; simp -implicitDefEqProofs -proj only [go_sem, Nat.reduceBEq, Nat.reduceLT, Nat.reduceLeDiff, Nat.reduceAdd, Nat.reduceMul, ↓reduceIte, Int.reduceToNat, Int.reducePow, Int.reduceLT, Int.reduceLE, Int.reduceAdd, Int.reduceSub, Int.reduceMul, Int.reduceEq, Int.reduceNe, *]; try (revert hb; intro _))
    | (with_reducible refine AllocR_intro (fun _ hb => ?_); simp only [upd_none, keepH_none, keepH_nil, Heap.none_get, and_true, true_and] at hb; simp -implicitDefEqProofs -proj only [go_sem, Nat.reduceBEq, Nat.reduceLT, Nat.reduceLeDiff, Nat.reduceAdd, Nat.reduceMul, ↓reduceIte, Int.reduceToNat, Int.reducePow, Int.reduceLT, Int.reduceLE, Int.reduceAdd, Int.reduceSub, Int.reduceMul, Int.reduceEq, Int.reduceNe, *]; try (revert hb; intro _))
    | (with_reducible refine IdxE_1 _ rfl (by simp) ?_; simp -implicitDefEqProofs -proj only [go_sem, Nat.reduceBEq, Nat.reduceLT, Nat.reduceLeDiff, Nat.reduceAdd, Nat.reduceMul, ↓reduceIte, Int.reduceToNat, Int.reducePow, Int.reduceLT, Int.reduceLE, Int.reduceAdd, Int.reduceSub, Int.reduceMul, Int.reduceEq, Int.reduceNe, *])
    | (with_reducible refine IdxE_n _ rfl (by simp) ?_; simp -implicitDefEqProofs -proj only [go_sem, Nat.reduceBEq, Nat.reduceLT, Nat.reduceLeDiff, Nat.reduceAdd, Nat.reduceMul, ↓reduceIte, Int.reduceToNat, Int.reducePow, Int.reduceLT, Int.reduceLE, Int.reduceAdd, Int.reduceSub, Int.reduceMul, Int.reduceEq, Int.reduceNe, *])
    | (with_reducible refine VC_intro ?_ (fun h => ?_); (focus first | decide | omega); try clear h; try simp -implicitDefEqProofs -proj only [go_sem, Nat.reduceBEq, Nat.reduceLT, Nat.reduceLeDiff, Nat.reduceAdd, Nat.reduceMul, ↓reduceIte, Int.reduceToNat, Int.reducePow, Int.reduceLT, Int.reduceLE, Int.reduceAdd, Int.reduceSub, Int.reduceMul, Int.reduceEq, Int.reduceNe, *])
    | (with_reducible refine VC_intro ?_ (fun h => ?_); rotate_left; try clear h; try simp -implicitDefEqProofs -proj only [go_sem, Nat.reduceBEq, Nat.reduceLT, Nat.reduceLeDiff, Nat.reduceAdd, Nat.reduceMul, ↓reduceIte, Int.reduceToNat, Int.reducePow, Int.reduceLT, Int.reduceLE, Int.reduceAdd, Int.reduceSub, Int.reduceMul, Int.reduceEq, Int.reduceNe, *]; rotate_right))
  refine PCallA_pure h2 ?_
  simp -implicitDefEqProofs -proj only [go_sem, Nat.reduceBEq, Nat.reduceLT, Nat.reduceLeDiff, Nat.reduceAdd, Nat.reduceMul, ↓reduceIte, Int.reduceToNat, Int.reducePow, Int.reduceLT, Int.reduceLE, Int.reduceAdd, Int.reduceSub, Int.reduceMul, Int.reduceEq, Int.reduceNe, *]
  (repeat' first
    | (with_reducible refine Guard_split (fun h => ?_) (fun h => ?_) <;> (simp -implicitDefEqProofs -proj only [go_sem, Nat.reduceBEq, Nat.reduceLT, Nat.reduceLeDiff, Nat.reduceAdd, Nat.reduceMul, ↓reduceIte, Int.reduceToNat, Int.reducePow, Int.reduceLT, Int.reduceLE, Int.reduceAdd, Int.reduceSub, Int.reduceMul, Int.reduceEq, Int.reduceNe, *]; try (revert h; intro _)))
    | (with_reducible refine Cond_split (fun h => ?_) (fun h => ?_) <;> (simp -implicitDefEqProofs -proj only [go_sem, Nat.reduceBEq, Nat.reduceLT, Nat.reduceLeDiff, Nat.reduceAdd, Nat.reduceMul, ↓reduceIte, Int.reduceToNat, Int.reducePow, Int.reduceLT, Int.reduceLE, Int.reduceAdd, Int.reduceSub, Int.reduceMul, Int.reduceEq, Int.reduceNe, *]; try (revert h; intro _)))
    | (with_reducible refine Pick_split (fun h => ?_) (fun h => ?_) <;> (simp -implicitDefEqProofs -proj only [go_sem, Nat.reduceBEq, Nat.reduceLT, Nat.reduceLeDiff, Nat.reduceAdd, Nat.reduceMul, ↓reduceIte, Int.reduceToNat, Int.reducePow, Int.reduceLT, Int.reduceLE, Int.reduceAdd, Int.reduceSub, Int.reduceMul, Int.reduceEq, Int.reduceNe, *]; try (revert h; intro _)))
    | (with_reducible refine AllocA_intro (fun _ hb => ?_); simp only [upd_none, keepH_none, keepH_nil, Heap.none_get, and_true, true_and] at hb; simp -implicitDefEqProofs -proj only [go_sem, Nat.reduceBEq, Nat.reduceLT, Nat.reduceLeDiff, Nat.reduceAdd, Nat.reduceMul, ↓reduceIte, Int.reduceToNat, Int.reducePow, Int.reduceLT, Int.reduceLE, Int.reduceAdd, Int.reduceSub, Int.reduceMul, Int.reduceEq, Int.reduceNe, *]; try (revert hb; intro _))
    | (with_reducible refine AllocR_intro (fun _ hb => ?_); simp only [upd_none, keepH_none, keepH_nil, Heap.none_get, and_true, true_and] at hb; simp -implicitDefEqProofs -proj only [go_sem, Nat.reduceBEq, Nat.reduceLT, Nat.reduceLeDiff, Nat.reduceAdd, Nat.reduceMul, ↓reduceIte, Int.reduceToNat, Int.reducePow, Int.reduceLT, Int.reduceLE, Int.reduceAdd, Int.reduceSub, Int.reduceMul, Int.reduceEq, Int.reduceNe, *]; try (revert hb; intro _))
    | (with_reducible refine IdxE_1 _ rfl (by simp) ?_; simp -implicitDefEqProofs -proj only [go_sem, Nat.reduceBEq, Nat.reduceLT, Nat.reduceLeDiff, Nat.reduceAdd, Nat.reduceMul, ↓reduceIte, Int.reduceToNat, Int.reducePow, Int.reduceLT, Int.reduceLE, Int.reduceAdd, Int.reduceSub, Int.reduceMul, Int.reduceEq, Int.reduceNe, *])
    | (with_reducible refine IdxE_n _ rfl (by simp) ?_; simp -implicitDefEqProofs -proj only [go_sem, Nat.reduceBEq, Nat.reduceLT, Nat.reduceLeDiff, Nat.reduceAdd, Nat.reduceMul, ↓reduceIte, Int.reduceToNat, Int.reducePow, Int.reduceLT, Int.reduceLE, Int.reduceAdd, Int.reduceSub, Int.reduceMul, Int.reduceEq, Int.reduceNe, *])
    | (with_reducible refine VC_intro ?_ (fun h => ?_); (focus first | decide | omega); try clear h; try simp -implicitDefEqProofs -proj only [go_sem, Nat.reduceBEq, Nat.reduceLT, Nat.reduceLeDiff, Nat.reduceAdd, Nat.reduceMul, ↓reduceIte, Int.reduceToNat, Int.reducePow, Int.reduceLT, Int.reduceLE, Int.reduceAdd, Int.reduceSub, Int.reduceMul, Int.reduceEq, Int.reduceNe, *])
    | (with_reducible refine VC_intro ?_ (fun h => ?_); rotate_left; try clear h; try simp -implicitDefEqProofs -proj only [go_sem, Nat.reduceBEq, Nat.reduceLT, Nat.reduceLeDiff, Nat.reduceAdd, Nat.reduceMul, ↓reduceIte, Int.reduceToNat, Int.reducePow, Int.reduceLT, Int.reduceLE, Int.reduceAdd, Int.reduceSub, Int.reduceMul, Int.reduceEq, Int.reduceNe, *]; rotate_right))
  refine PCallA_pure h3 ?_
  simp -implicitDefEqProofs -proj only [go_sem, Nat.reduceBEq, Nat.reduceLT, Nat.reduceLeDiff, Nat.reduceAdd, Nat.reduceMul, ↓reduceIte, Int.reduceToNat, Int.reducePow, Int.reduceLT, Int.reduceLE, Int.reduceAdd, Int.reduceSub, Int.reduceMul, Int.reduceEq, Int.reduceNe, *]
  (repeat' first
    | (with_reducible refine Guard_split (fun h => ?_) (fun h => ?_) <;> (simp -implicitDefEqProofs -proj only [go_sem, Nat.reduceBEq, Nat.reduceLT, Nat.reduceLeDiff, Nat.reduceAdd, Nat.reduceMul, ↓reduceIte, Int.reduceToNat, Int.reducePow, Int.reduceLT, Int.reduceLE, Int.reduceAdd, Int.reduceSub, Int.reduceMul, Int.reduceEq, Int.reduceNe, *]; try (revert h; intro _)))
    | (with_reducible refine Cond_split (fun h => ?_) (fun h => ?_) <;> (simp -implicitDefEqProofs -proj only [go_sem, Nat.reduceBEq, Nat.reduceLT, Nat.reduceLeDiff, Nat.reduceAdd, Nat.reduceMul, ↓reduceIte, Int.reduceToNat, Int.reducePow, Int.reduceLT, Int.reduceLE, Int.reduceAdd, Int.reduceSub, Int.reduceMul, Int.reduceEq, Int.reduceNe, *]; try (revert h; intro _)))
    | (with_reducible refine Pick_split (fun h => ?_) (fun h => ?_) <;> (simp -implicitDefEqProofs -proj only [go_sem, Nat.reduceBEq, Nat.reduceLT, Nat.reduceLeDiff, Nat.reduceAdd, Nat.reduceMul, ↓reduceIte, Int.reduceToNat, Int.reducePow, Int.reduceLT, Int.reduceLE, Int.reduceAdd, Int.reduceSub, Int.reduceMul, Int.reduceEq, Int.reduceNe, *]; try (revert h; intro _)))
    | (with_reducible refine AllocA_intro (fun _ hb => ?_); simp only [upd_none, keepH_none, keepH_nil, Heap.none_get, and_true, true_and] at hb; simp -implicitDefEqProofs -proj only [go_sem, Nat.reduceBEq, Nat.reduceLT, Nat.reduceLeDiff, Nat.reduceAdd, Nat.reduceMul, ↓reduceIte, Int.reduceToNat, Int.reducePow, Int.reduceLT, Int.reduceLE, Int.reduceAdd, Int.reduceSub, Int.reduceMul, Int.reduceEq, Int.reduceNe, *]; try (revert hb; intro _))
    | (with_reducible refine AllocR_intro (fun _ hb => ?_); simp only [upd_none, keepH_none, keepH_nil, Heap.none_get, and_true, true_and] at hb; simp -implicitDefEqProofs -proj only [go_sem, Nat.reduceBEq, Nat.reduceLT, Nat.reduceLeDiff, Nat.reduceAdd, Nat.reduceMul, ↓reduceIte, Int.reduceToNat, Int.reducePow, Int.reduceLT, Int.reduceLE, Int.reduceAdd, Int.reduceSub, Int.reduceMul, Int.reduceEq, Int.reduceNe, *]; try (revert hb; intro _))
    | (with_reducible refine IdxE_1 _ rfl (by simp) ?_; simp -implicitDefEqProofs -proj only [go_sem, Nat.reduceBEq, Nat.reduceLT, Nat.reduceLeDiff, Nat.reduceAdd, Nat.reduceMul, ↓reduceIte, Int.reduceToNat, Int.reducePow, Int.reduceLT, Int.reduceLE, Int.reduceAdd, Int.reduceSub, Int.reduceMul, Int.reduceEq, Int.reduceNe, *])
    | (with_reducible refine IdxE_n _ rfl (by simp) ?_; simp -implicitDefEqProofs -proj only [go_sem, Nat.reduceBEq, Nat.reduceLT, Nat.reduceLeDiff, Nat.reduceAdd, Nat.reduceMul, ↓reduceIte, Int.reduceToNat, Int.reducePow, Int.reduceLT, Int.reduceLE, Int.reduceAdd, Int.reduceSub, Int.reduceMul, Int.reduceEq, Int.reduceNe, *])
    | (with_reducible refine VC_intro ?_ (fun h => ?_); (focus first | decide | omega); try clear h; try simp -implicitDefEqProofs -proj only [go_sem, Nat.reduceBEq, Nat.reduceLT, Nat.reduceLeDiff, Nat.reduceAdd, Nat.reduceMul, ↓reduceIte, Int.reduceToNat, Int.reducePow, Int.reduceLT, Int.reduceLE, Int.reduceAdd, Int.reduceSub, Int.reduceMul, Int.reduceEq, Int.reduceNe, *])
    | (with_reducible refine VC_intro ?_ (fun h => ?_); rotate_left; try clear h; try simp -implicitDefEqProofs -proj only [go_sem, Nat.reduceBEq, Nat.reduceLT, Nat.reduceLeDiff, Nat.reduceAdd, Nat.reduceMul, ↓reduceIte, Int.reduceToNat, Int.reducePow, Int.reduceLT, Int.reduceLE, Int.reduceAdd, Int.reduceSub, Int.reduceMul, Int.reduceEq, Int.reduceNe, *]; rotate_right))
  all_goals
    refine LendV_eq (edgeR_of ?_)
    clear h1 h2 h3
    try simp -implicitDefEqProofs only [decide_eq_true_eq, decide_eq_false_iff_not, Bool.not_eq_true', Bool.not_eq_false', Bool.and_eq_true, Bool.and_eq_false_iff, Bool.or_eq_true, Bool.or_eq_false_iff, beq_iff_eq, beq_eq_false_iff_ne, ne_eq, decide_eq_decide, Bool.not_eq_true, Bool.not_eq_false, IntKind.wrap_u64] at *
    try simp -implicitDefEqProofs only [← decide_not, ← Bool.decide_and, ← Bool.decide_or, Bool.beq_eq_decide_eq, AV.d.injEq, D.bool.injEq, D.int.injEq, D.str.injEq, AV.tup.injEq, AV.agg.injEq, List.cons.injEq, true_and, and_true, decide_eq_decide, true_eq_decide_iff, false_eq_decide_iff, decide_eq_true_eq, decide_eq_false_iff_not, Bool.false_eq_true, Bool.true_eq_false, reduceCtorEq, false_and, true_and, or_false, false_or]
    unfold Fit at hc
    try omega
set_option maxRecDepth 20000 in
set_option maxHeartbeats 2000000 in
theorem RMulDiv_ok {a b c m : Int} (ha : Fit a) (hb : Fit b) (hc : Fit c) : DataW Try.prog f_poundageref02_MulDiv [i64 a, i64 b, i64 c, i64 m] (mdR (a * b) c m) := by
  by_cases hh : 0 < c ∧ 0 ≤ m ∧ m ≤ 3
  · obtain ⟨hc0, hm⟩ := hh
    have h1 := RMul_ok ha hb
    have hp := prod_small ha hb
    have h2 := Floor_ok (p := a * b) hc0 hc hp
    obtain ⟨q, r, d1, d2, d3, d4, d5, hr⟩ := rnd_cases (p := a * b) (c := c) (m := m) hc0 hm
    rw [mdR_yes hc0 hm]
    have c1 : decide (c ≤ 0) = false := decide_eq_false (by omega)
    have c2 : decide (m < 0) = false := decide_eq_false (by omega)
    have c3 : decide (3 < m) = false := decide_eq_false (by omega)
    have hcw : IntKind.u64.wrap c = c := wrapU_in (by unfold Fit at hc; omega)
    have hE := edge_ok (p := a * b) (c := c) (m := m) hc0 hc hp
    generalize a * b = p at *
    refine CallW_intro comp_poundageref02_MulDiv (by simp) ?_
    by_cases hf : -9223372036854775808 * c ≤ p
    · have hcf := cap_fit hc0 hf
      rw [floorR, if_pos hf] at h2
      have h3 := RMul_ok hcf hc
      have hq := prod_small hcf hc
      have h4 := ROpp_ok (n := capQ p c * c) (by unfold Big; omega)
      have h5 := RAdd_ok (a := p) (b := -(capQ p c * c)) (by omega) (by omega)
      have hn : capQ p c = if q ≤ 9223372036854775807 then q else 9223372036854775807 := by rw [capQ, d4]
      obtain ⟨n, hn2⟩ : ∃ n, capQ p c = n := ⟨_, rfl⟩
      rw [hn2] at hn h2 h3 h4 h5 hcf
      obtain ⟨d, hd⟩ : ∃ d, p + -(n * c) = d := ⟨_, rfl⟩
      rw [hd] at h5
      have hd3 : d.natAbs < 340282366920938463463374607431768211456 := by rw [hn2] at hq; omega
      have key : n = q ∧ d = r ∨ n = 9223372036854775807 ∧ 9223372036854775807 < q ∧ c ≤ d := by
        by_cases hqm : q ≤ 9223372036854775807
        · rw [if_pos hqm] at hn
          subst hn
          left; omega
        · rw [if_neg hqm] at hn
          right
          refine ⟨hn, by omega, ?_⟩
          have := Int.mul_le_mul_of_nonneg_right (show 9223372036854775807 + 1 ≤ q by omega) (Int.le_of_lt hc0)
          rw [Int.add_mul, ← hn] at this
          omega
      generalize n * c = z at *
      clear hn hd hq hE d1 hf hn2
      clear d4 d5 hp
      simp -implicitDefEqProofs -proj only [go_sem, Nat.reduceBEq, Nat.reduceLT, Nat.reduceLeDiff, Nat.reduceAdd, Nat.reduceMul, ↓reduceIte, Int.reduceToNat, Int.reducePow, Int.reduceLT, Int.reduceLE, Int.reduceAdd, Int.reduceSub, Int.reduceMul, Int.reduceEq, Int.reduceNe, c1, c2, c3]
      (repeat' first
    | (refine CallA_pure (h1) ?_; simp -implicitDefEqProofs -proj only [go_sem, Nat.reduceBEq, Nat.reduceLT, Nat.reduceLeDiff, Nat.reduceAdd, Nat.reduceMul, ↓reduceIte, Int.reduceToNat, Int.reducePow, Int.reduceLT, Int.reduceLE, Int.reduceAdd, Int.reduceSub, Int.reduceMul, Int.reduceEq, Int.reduceNe, *])
    | (refine PCallA_pure (h1) ?_; simp -implicitDefEqProofs -proj only [go_sem, Nat.reduceBEq, Nat.reduceLT, Nat.reduceLeDiff, Nat.reduceAdd, Nat.reduceMul, ↓reduceIte, Int.reduceToNat, Int.reducePow, Int.reduceLT, Int.reduceLE, Int.reduceAdd, Int.reduceSub, Int.reduceMul, Int.reduceEq, Int.reduceNe, *])
    | (refine CallA_pure (h2) ?_; simp -implicitDefEqProofs -proj only [go_sem, Nat.reduceBEq, Nat.reduceLT, Nat.reduceLeDiff, Nat.reduceAdd, Nat.reduceMul, ↓reduceIte, Int.reduceToNat, Int.reducePow, Int.reduceLT, Int.reduceLE, Int.reduceAdd, Int.reduceSub, Int.reduceMul, Int.reduceEq, Int.reduceNe, *])
    | (refine PCallA_pure (h2) ?_; simp -implicitDefEqProofs -proj only [go_sem, Nat.reduceBEq, Nat.reduceLT, Nat.reduceLeDiff, Nat.reduceAdd, Nat.reduceMul, ↓reduceIte, Int.reduceToNat, Int.reducePow, Int.reduceLT, Int.reduceLE, Int.reduceAdd, Int.reduceSub, Int.reduceMul, Int.reduceEq, Int.reduceNe, *])
    | (refine CallA_pure (h3) ?_; simp -implicitDefEqProofs -proj only [go_sem, Nat.reduceBEq, Nat.reduceLT, Nat.reduceLeDiff, Nat.reduceAdd, Nat.reduceMul, ↓reduceIte, Int.reduceToNat, Int.reducePow, Int.reduceLT, Int.reduceLE, Int.reduceAdd, Int.reduceSub, Int.reduceMul, Int.reduceEq, Int.reduceNe, *])
    | (refine PCallA_pure (h3) ?_; simp -implicitDefEqProofs -proj only [go_sem, Nat.reduceBEq, Nat.reduceLT, Nat.reduceLeDiff, Nat.reduceAdd, Nat.reduceMul, ↓reduceIte, Int.reduceToNat, Int.reducePow, Int.reduceLT, Int.reduceLE, Int.reduceAdd, Int.reduceSub, Int.reduceMul, Int.reduceEq, Int.reduceNe, *])
    | (refine CallA_pure (h4) ?_; simp -implicitDefEqProofs -proj only [go_sem, Nat.reduceBEq, Nat.reduceLT, Nat.reduceLeDiff, Nat.reduceAdd, Nat.reduceMul, ↓reduceIte, Int.reduceToNat, Int.reducePow, Int.reduceLT, Int.reduceLE, Int.reduceAdd, Int.reduceSub, Int.reduceMul, Int.reduceEq, Int.reduceNe, *])
    | (refine PCallA_pure (h4) ?_; simp -implicitDefEqProofs -proj only [go_sem, Nat.reduceBEq, Nat.reduceLT, Nat.reduceLeDiff, Nat.reduceAdd, Nat.reduceMul, ↓reduceIte, Int.reduceToNat, Int.reducePow, Int.reduceLT, Int.reduceLE, Int.reduceAdd, Int.reduceSub, Int.reduceMul, Int.reduceEq, Int.reduceNe, *])
    | (refine CallA_pure (h5) ?_; simp -implicitDefEqProofs -proj only [go_sem, Nat.reduceBEq, Nat.reduceLT, Nat.reduceLeDiff, Nat.reduceAdd, Nat.reduceMul, ↓reduceIte, Int.reduceToNat, Int.reducePow, Int.reduceLT, Int.reduceLE, Int.reduceAdd, Int.reduceSub, Int.reduceMul, Int.reduceEq, Int.reduceNe, *])
    | (refine PCallA_pure (h5) ?_; simp -implicitDefEqProofs -proj only [go_sem, Nat.reduceBEq, Nat.reduceLT, Nat.reduceLeDiff, Nat.reduceAdd, Nat.reduceMul, ↓reduceIte, Int.reduceToNat, Int.reducePow, Int.reduceLT, Int.reduceLE, Int.reduceAdd, Int.reduceSub, Int.reduceMul, Int.reduceEq, Int.reduceNe, *])
    | (with_reducible refine Guard_split (fun h => ?_) (fun h => ?_) <;> (simp -implicitDefEqProofs -proj only [go_sem, Nat.reduceBEq, Nat.reduceLT, Nat.reduceLeDiff, Nat.reduceAdd, Nat.reduceMul, ↓reduceIte, Int.reduceToNat, Int.reducePow, Int.reduceLT, Int.reduceLE, Int.reduceAdd, Int.reduceSub, Int.reduceMul, Int.reduceEq, Int.reduceNe, *]; try (revert h; intro _)))
    | (with_reducible refine Cond_split (fun h => ?_) (fun h => ?_) <;> (simp -implicitDefEqProofs -proj only [go_sem, Nat.reduceBEq, Nat.reduceLT, Nat.reduceLeDiff, Nat.reduceAdd, Nat.reduceMul, ↓reduceIte, Int.reduceToNat, Int.reducePow, Int.reduceLT, Int.reduceLE, Int.reduceAdd, Int.reduceSub, Int.reduceMul, Int.reduceEq, Int.reduceNe, *]; try (revert h; intro _)))
    | (with_reducible refine Pick_split (fun h => ?_) (fun h => ?_) <;> (simp -implicitDefEqProofs -proj only [go_sem, Nat.reduceBEq, Nat.reduceLT, Nat.reduceLeDiff, Nat.reduceAdd, Nat.reduceMul, ↓reduceIte, Int.reduceToNat, Int.reducePow, Int.reduceLT, Int.reduceLE, Int.reduceAdd, Int.reduceSub, Int.reduceMul, Int.reduceEq, Int.reduceNe, *]; try (revert h; intro _)))
    | (with_reducible refine AllocA_intro (fun _ hb => ?_); simp -implicitDefEqProofs only [upd_none, keepH_none, keepH_nil, Heap.none_get, and_true, true_and] at hb; simp -implicitDefEqProofs -proj only [go_sem, Nat.reduceBEq, Nat.reduceLT, Nat.reduceLeDiff, Nat.reduceAdd, Nat.reduceMul, ↓reduceIte, Int.reduceToNat, Int.reducePow, Int.reduceLT, Int.reduceLE, Int.reduceAdd, Int.reduceSub, Int.reduceMul, Int.reduceEq, Int.reduceNe, *]; try (revert hb; intro _))
    | (with_reducible refine AllocR_intro (fun _ hb => ?_); simp -implicitDefEqProofs only [upd_none, keepH_none, keepH_nil, Heap.none_get, and_true, true_and] at hb; simp -implicitDefEqProofs -proj only [go_sem, Nat.reduceBEq, Nat.reduceLT, Nat.reduceLeDiff, Nat.reduceAdd, Nat.reduceMul, ↓reduceIte, Int.reduceToNat, Int.reducePow, Int.reduceLT, Int.reduceLE, Int.reduceAdd, Int.reduceSub, Int.reduceMul, Int.reduceEq, Int.reduceNe, *]; try (revert hb; intro _))
    | (with_reducible refine IdxE_1 _ rfl (by simp) ?_; simp -implicitDefEqProofs -proj only [go_sem, Nat.reduceBEq, Nat.reduceLT, Nat.reduceLeDiff, Nat.reduceAdd, Nat.reduceMul, ↓reduceIte, Int.reduceToNat, Int.reducePow, Int.reduceLT, Int.reduceLE, Int.reduceAdd, Int.reduceSub, Int.reduceMul, Int.reduceEq, Int.reduceNe, *])
    | (with_reducible refine IdxE_n _ rfl (by simp) ?_; simp -implicitDefEqProofs -proj only [go_sem, Nat.reduceBEq, Nat.reduceLT, Nat.reduceLeDiff, Nat.reduceAdd, Nat.reduceMul, ↓reduceIte, Int.reduceToNat, Int.reducePow, Int.reduceLT, Int.reduceLE, Int.reduceAdd, Int.reduceSub, Int.reduceMul, Int.reduceEq, Int.reduceNe, *])
    | (with_reducible refine VC_intro ?_ (fun h => ?_); (focus first | decide | omega); try clear h; try simp -implicitDefEqProofs -proj only [go_sem, Nat.reduceBEq, Nat.reduceLT, Nat.reduceLeDiff, Nat.reduceAdd, Nat.reduceMul, ↓reduceIte, Int.reduceToNat, Int.reducePow, Int.reduceLT, Int.reduceLE, Int.reduceAdd, Int.reduceSub, Int.reduceMul, Int.reduceEq, Int.reduceNe, *])
    | (with_reducible refine VC_intro ?_ (fun h => ?_); rotate_left; try clear h; try simp -implicitDefEqProofs -proj only [go_sem, Nat.reduceBEq, Nat.reduceLT, Nat.reduceLeDiff, Nat.reduceAdd, Nat.reduceMul, ↓reduceIte, Int.reduceToNat, Int.reducePow, Int.reduceLT, Int.reduceLE, Int.reduceAdd, Int.reduceSub, Int.reduceMul, Int.reduceEq, Int.reduceNe, *]; rotate_right))
      all_goals
        refine LendV_eq (fitR_of ?_)
        clear h1 h2 h3 h4 h5
        have ht : n.tmod 2 = 0 ↔ n % 2 = 0 := ⟨fun h => Int.emod_eq_zero_of_dvd (Int.dvd_of_tmod_eq_zero h), fun h => Int.tmod_eq_zero_of_dvd (Int.dvd_of_emod_eq_zero h)⟩
        simp -implicitDefEqProofs only [decide_eq_true_eq, decide_eq_false_iff_not, Bool.not_eq_true', Bool.not_eq_false', Bool.and_eq_true, Bool.and_eq_false_iff, Bool.or_eq_true, Bool.or_eq_false_iff, beq_iff_eq, beq_eq_false_iff_ne, ne_eq, decide_eq_decide, Bool.not_eq_true, Bool.not_eq_false, IntKind.wrap_u64, IntKind.wrap_i64] at *
        simp -implicitDefEqProofs only [Bool.false_eq_true, reduceCtorEq, true_and, false_and, or_false, false_or]
        unfold upP at hr
        unfold Fit at *
        generalize rnd p c m = R at *
        omega
    · rw [floorR, if_neg hf] at h2
      have h3 := RMul_ok (x := 0) (y := c) (by decide) hc
      have h4 := ROpp_ok (n := 0) (by unfold Big; decide)
      have h5 := RAdd_ok (a := p) (b := 0) (by omega) (by decide)
      rw [Int.zero_mul] at h3
      rw [Int.neg_zero] at h4
      rw [Int.add_zero] at h5
      have hq1 : q < -9223372036854775808 := by
        rw [← d4, Int.ediv_lt_iff_lt_mul hc0]; omega
      have hd : -9223372036854775808 * c - p = (-9223372036854775808 - q) * c - r := by rw [Int.sub_mul]; omega
      obtain ⟨d, hd2⟩ : ∃ d, -9223372036854775808 * c - p = d := ⟨_, rfl⟩
      rw [hd2] at hd hE
      have key : q = -9223372036854775809 ∧ d = c - r ∨ q < -9223372036854775809 ∧ c < d := by
        by_cases hqm : q = -9223372036854775809
        · left; subst hqm; exact ⟨rfl, by omega⟩
        · right
          have := Int.mul_le_mul_of_nonneg_right (show 2 ≤ -9223372036854775808 - q by omega) (Int.le_of_lt hc0)
          omega
      have res : fitR (rnd p c m) = edgeR d c m := by
        symm
        by_cases hf : Fit (rnd p c m)
        · rw [fitR_yes hf]
          symm
          refine edgeR_of ?_
          unfold Fit at hf
          unfold upP at hr
          generalize rnd p c m = R at *
          simp -implicitDefEqProofs only [Bool.true_eq_false, Bool.false_eq_true, reduceCtorEq, true_and, false_and, or_false, false_or]
          omega
        · rw [fitR_no hf]
          symm
          refine edgeR_of ?_
          unfold Fit at hf
          unfold upP at hr
          generalize rnd p c m = R at *
          simp -implicitDefEqProofs only [Bool.true_eq_false, Bool.false_eq_true, reduceCtorEq, true_and, false_and, or_false, false_or]
          omega
      rw [res]
      have ee : edgeR d c m = .tup [i64 (-9223372036854775808), bv true] ∨ edgeR d c m = .tup [i64 0, bv false] := by
        unfold edgeR; split
        · exact .inl rfl
        · exact .inr rfl
      generalize edgeR d c m = R at *
      clear key hd hd2 res d1 d4 d5 hr hf hp
      rcases ee with rfl | rfl
      all_goals
        simp -implicitDefEqProofs -proj only [go_sem, Nat.reduceBEq, Nat.reduceLT, Nat.reduceLeDiff, Nat.reduceAdd, Nat.reduceMul, ↓reduceIte, Int.reduceToNat, Int.reducePow, Int.reduceLT, Int.reduceLE, Int.reduceAdd, Int.reduceSub, Int.reduceMul, Int.reduceEq, Int.reduceNe, c1, c2, c3]
        (repeat' first
    | (refine CallA_pure (h1) ?_; simp -implicitDefEqProofs -proj only [go_sem, Nat.reduceBEq, Nat.reduceLT, Nat.reduceLeDiff, Nat.reduceAdd, Nat.reduceMul, ↓reduceIte, Int.reduceToNat, Int.reducePow, Int.reduceLT, Int.reduceLE, Int.reduceAdd, Int.reduceSub, Int.reduceMul, Int.reduceEq, Int.reduceNe, *])
    | (refine PCallA_pure (h1) ?_; simp -implicitDefEqProofs -proj only [go_sem, Nat.reduceBEq, Nat.reduceLT, Nat.reduceLeDiff, Nat.reduceAdd, Nat.reduceMul, ↓reduceIte, Int.reduceToNat, Int.reducePow, Int.reduceLT, Int.reduceLE, Int.reduceAdd, Int.reduceSub, Int.reduceMul, Int.reduceEq, Int.reduceNe, *])
    | (refine CallA_pure (h2) ?_; simp -implicitDefEqProofs -proj only [go_sem, Nat.reduceBEq, Nat.reduceLT, Nat.reduceLeDiff, Nat.reduceAdd, Nat.reduceMul, ↓reduceIte, Int.reduceToNat, Int.reducePow, Int.reduceLT, Int.reduceLE, Int.reduceAdd, Int.reduceSub, Int.reduceMul, Int.reduceEq, Int.reduceNe, *])
    | (refine PCallA_pure (h2) ?_; simp -implicitDefEqProofs -proj only [go_sem, Nat.reduceBEq, Nat.reduceLT, Nat.reduceLeDiff, Nat.reduceAdd, Nat.reduceMul, ↓reduceIte, Int.reduceToNat, Int.reducePow, Int.reduceLT, Int.reduceLE, Int.reduceAdd, Int.reduceSub, Int.reduceMul, Int.reduceEq, Int.reduceNe, *])
    | (refine CallA_pure (h3) ?_; simp -implicitDefEqProofs -proj only [go_sem, Nat.reduceBEq, Nat.reduceLT, Nat.reduceLeDiff, Nat.reduceAdd, Nat.reduceMul, ↓reduceIte, Int.reduceToNat, Int.reducePow, Int.reduceLT, Int.reduceLE, Int.reduceAdd, Int.reduceSub, Int.reduceMul, Int.reduceEq, Int.reduceNe, *])
    | (refine PCallA_pure (h3) ?_; simp -implicitDefEqProofs -proj only [go_sem, Nat.reduceBEq, Nat.reduceLT, Nat.reduceLeDiff, Nat.reduceAdd, Nat.reduceMul, ↓reduceIte, Int.reduceToNat, Int.reducePow, Int.reduceLT, Int.reduceLE, Int.reduceAdd, Int.reduceSub, Int.reduceMul, Int.reduceEq, Int.reduceNe, *])
    | (refine CallA_pure (h4) ?_; simp -implicitDefEqProofs -proj only [go_sem, Nat.reduceBEq, Nat.reduceLT, Nat.reduceLeDiff, Nat.reduceAdd, Nat.reduceMul, ↓reduceIte, Int.reduceToNat, Int.reducePow, Int.reduceLT, Int.reduceLE, Int.reduceAdd, Int.reduceSub, Int.reduceMul, Int.reduceEq, Int.reduceNe, *])
    | (refine PCallA_pure (h4) ?_; simp -implicitDefEqProofs -proj only [go_sem, Nat.reduceBEq, Nat.reduceLT, Nat.reduceLeDiff, Nat.reduceAdd, Nat.reduceMul, ↓reduceIte, Int.reduceToNat, Int.reducePow, Int.reduceLT, Int.reduceLE, Int.reduceAdd, Int.reduceSub, Int.reduceMul, Int.reduceEq, Int.reduceNe, *])
    | (refine CallA_pure (h5) ?_; simp -implicitDefEqProofs -proj only [go_sem, Nat.reduceBEq, Nat.reduceLT, Nat.reduceLeDiff, Nat.reduceAdd, Nat.reduceMul, ↓reduceIte, Int.reduceToNat, Int.reducePow, Int.reduceLT, Int.reduceLE, Int.reduceAdd, Int.reduceSub, Int.reduceMul, Int.reduceEq, Int.reduceNe, *])
    | (refine PCallA_pure (h5) ?_; simp -implicitDefEqProofs -proj only [go_sem, Nat.reduceBEq, Nat.reduceLT, Nat.reduceLeDiff, Nat.reduceAdd, Nat.reduceMul, ↓reduceIte, Int.reduceToNat, Int.reducePow, Int.reduceLT, Int.reduceLE, Int.reduceAdd, Int.reduceSub, Int.reduceMul, Int.reduceEq, Int.reduceNe, *])
    | (refine CallA_pure (hE) ?_; simp -implicitDefEqProofs -proj only [go_sem, Nat.reduceBEq, Nat.reduceLT, Nat.reduceLeDiff, Nat.reduceAdd, Nat.reduceMul, ↓reduceIte, Int.reduceToNat, Int.reducePow, Int.reduceLT, Int.reduceLE, Int.reduceAdd, Int.reduceSub, Int.reduceMul, Int.reduceEq, Int.reduceNe, *])
    | (refine PCallA_pure (hE) ?_; simp -implicitDefEqProofs -proj only [go_sem, Nat.reduceBEq, Nat.reduceLT, Nat.reduceLeDiff, Nat.reduceAdd, Nat.reduceMul, ↓reduceIte, Int.reduceToNat, Int.reducePow, Int.reduceLT, Int.reduceLE, Int.reduceAdd, Int.reduceSub, Int.reduceMul, Int.reduceEq, Int.reduceNe, *])
    | (with_reducible refine Guard_split (fun h => ?_) (fun h => ?_) <;> (simp -implicitDefEqProofs -proj only [go_sem, Nat.reduceBEq, Nat.reduceLT, Nat.reduceLeDiff, Nat.reduceAdd, Nat.reduceMul, ↓reduceIte, Int.reduceToNat, Int.reducePow, Int.reduceLT, Int.reduceLE, Int.reduceAdd, Int.reduceSub, Int.reduceMul, Int.reduceEq, Int.reduceNe, *]; try (revert h; intro _)))
    | (with_reducible refine Cond_split (fun h => ?_) (fun h => ?_) <;> (simp -implicitDefEqProofs -proj only [go_sem, Nat.reduceBEq, Nat.reduceLT, Nat.reduceLeDiff, Nat.reduceAdd, Nat.reduceMul, ↓reduceIte, Int.reduceToNat, Int.reducePow, Int.reduceLT, Int.reduceLE, Int.reduceAdd, Int.reduceSub, Int.reduceMul, Int.reduceEq, Int.reduceNe, *]; try (revert h; intro _)))
    | (with_reducible refine Pick_split (fun h => ?_) (fun h => ?_) <;> (simp -implicitDefEqProofs -proj only [go_sem, Nat.reduceBEq, Nat.reduceLT, Nat.reduceLeDiff, Nat.reduceAdd, Nat.reduceMul, ↓reduceIte, Int.reduceToNat, Int.reducePow, Int.reduceLT, Int.reduceLE, Int.reduceAdd, Int.reduceSub, Int.reduceMul, Int.reduceEq, Int.reduceNe, *]; try (revert h; intro _)))
    | (with_reducible refine AllocA_intro (fun _ hb => ?_); simp -implicitDefEqProofs only [upd_none, keepH_none, keepH_nil, Heap.none_get, and_true, true_and] at hb; simp -implicitDefEqProofs -proj only [go_sem, Nat.reduceBEq, Nat.reduceLT, Nat.reduceLeDiff, Nat.reduceAdd, Nat.reduceMul, ↓reduceIte, Int.reduceToNat, Int.reducePow, Int.reduceLT, Int.reduceLE, Int.reduceAdd, Int.reduceSub, Int.reduceMul, Int.reduceEq, Int.reduceNe, *]; try (revert hb; intro _))
    | (with_reducible refine AllocR_intro (fun _ hb => ?_); simp -implicitDefEqProofs only [upd_none, keepH_none, keepH_nil, Heap.none_get, and_true, true_and] at hb; simp -implicitDefEqProofs -proj only [go_sem, Nat.reduceBEq, Nat.reduceLT, Nat.reduceLeDiff, Nat.reduceAdd, Nat.reduceMul, ↓reduceIte, Int.reduceToNat, Int.reducePow, Int.reduceLT, Int.reduceLE, Int.reduceAdd, Int.reduceSub, Int.reduceMul, Int.reduceEq, Int.reduceNe, *]; try (revert hb; intro _))
    | (with_reducible refine IdxE_1 _ rfl (by simp) ?_; simp -implicitDefEqProofs -proj only [go_sem, Nat.reduceBEq, Nat.reduceLT, Nat.reduceLeDiff, Nat.reduceAdd, Nat.reduceMul, ↓reduceIte, Int.reduceToNat, Int.reducePow, Int.reduceLT, Int.reduceLE, Int.reduceAdd, Int.reduceSub, Int.reduceMul, Int.reduceEq, Int.reduceNe, *])
    | (with_reducible refine IdxE_n _ rfl (by simp) ?_; simp -implicitDefEqProofs -proj only [go_sem, Nat.reduceBEq, Nat.reduceLT, Nat.reduceLeDiff, Nat.reduceAdd, Nat.reduceMul, ↓reduceIte, Int.reduceToNat, Int.reducePow, Int.reduceLT, Int.reduceLE, Int.reduceAdd, Int.reduceSub, Int.reduceMul, Int.reduceEq, Int.reduceNe, *])
    | (with_reducible refine VC_intro ?_ (fun h => ?_); (focus first | decide | omega); try clear h; try simp -implicitDefEqProofs -proj only [go_sem, Nat.reduceBEq, Nat.reduceLT, Nat.reduceLeDiff, Nat.reduceAdd, Nat.reduceMul, ↓reduceIte, Int.reduceToNat, Int.reducePow, Int.reduceLT, Int.reduceLE, Int.reduceAdd, Int.reduceSub, Int.reduceMul, Int.reduceEq, Int.reduceNe, *])
    | (with_reducible refine VC_intro ?_ (fun h => ?_); rotate_left; try clear h; try simp -implicitDefEqProofs -proj only [go_sem, Nat.reduceBEq, Nat.reduceLT, Nat.reduceLeDiff, Nat.reduceAdd, Nat.reduceMul, ↓reduceIte, Int.reduceToNat, Int.reducePow, Int.reduceLT, Int.reduceLE, Int.reduceAdd, Int.reduceSub, Int.reduceMul, Int.reduceEq, Int.reduceNe, *]; rotate_right))
        all_goals exact LendV_eq rfl
  · rw [mdR_no hh]
    refine CallW_intro comp_poundageref02_MulDiv (by simp) ?_
    simp -implicitDefEqProofs -proj only [go_sem, Nat.reduceBEq, Nat.reduceLT, Nat.reduceLeDiff, Nat.reduceAdd, Nat.reduceMul, ↓reduceIte, Int.reduceToNat, Int.reducePow, Int.reduceLT, Int.reduceLE, Int.reduceAdd, Int.reduceSub, Int.reduceMul, Int.reduceEq, Int.reduceNe]
    (repeat' first
    | (with_reducible refine Guard_split (fun h => ?_) (fun h => ?_) <;> (simp -implicitDefEqProofs -proj only [go_sem, Nat.reduceBEq, Nat.reduceLT, Nat.reduceLeDiff, Nat.reduceAdd, Nat.reduceMul, ↓reduceIte, Int.reduceToNat, Int.reducePow, Int.reduceLT, Int.reduceLE, Int.reduceAdd, Int.reduceSub, Int.reduceMul, Int.reduceEq, Int.reduceNe, *]; try (revert h; intro _)))
    | (with_reducible refine Cond_split (fun h => ?_) (fun h => ?_) <;> (simp -implicitDefEqProofs -proj only [go_sem, Nat.reduceBEq, Nat.reduceLT, Nat.reduceLeDiff, Nat.reduceAdd, Nat.reduceMul, ↓reduceIte, Int.reduceToNat, Int.reducePow, Int.reduceLT, Int.reduceLE, Int.reduceAdd, Int.reduceSub, Int.reduceMul, Int.reduceEq, Int.reduceNe, *]; try (revert h; intro _)))
    | (with_reducible refine Pick_split (fun h => ?_) (fun h => ?_) <;> (simp -implicitDefEqProofs -proj only [go_sem, Nat.reduceBEq, Nat.reduceLT, Nat.reduceLeDiff, Nat.reduceAdd, Nat.reduceMul, ↓reduceIte, Int.reduceToNat, Int.reducePow, Int.reduceLT, Int.reduceLE, Int.reduceAdd, Int.reduceSub, Int.reduceMul, Int.reduceEq, Int.reduceNe, *]; try (revert h; intro _)))
    | (with_reducible refine AllocA_intro (fun _ hb => ?_); simp only [upd_none, keepH_none, keepH_nil, Heap.none_get, and_true, true_and] at hb; simp -implicitDefEqProofs -proj only [go_sem, Nat.reduceBEq, Nat.reduceLT, Nat.reduceLeDiff, Nat.reduceAdd, Nat.reduceMul, ↓reduceIte, Int.reduceToNat, Int.reducePow, Int.reduceLT, Int.reduceLE, Int.reduceAdd, Int.reduceSub, Int.reduceMul, Int.reduceEq, Int.reduceNe, *]; try (revert hb; intro _))
    | (with_reducible refine AllocR_intro (fun _ hb => ?_); simp only [upd_none, keepH_none, keepH_nil, Heap.none_get, and_true, true_and] at hb; simp -implicitDefEqProofs -proj only [go_sem, Nat.reduceBEq, Nat.reduceLT, Nat.reduceLeDiff, Nat.reduceAdd, Nat.reduceMul, ↓reduceIte, Int.reduceToNat, Int.reducePow, Int.reduceLT, Int.reduceLE, Int.reduceAdd, Int.reduceSub, Int.reduceMul, Int.reduceEq, Int.reduceNe, *]; try (revert hb; intro _))
    | (with_reducible refine IdxE_1 _ rfl (by simp) ?_; simp -implicitDefEqProofs -proj only [go_sem, Nat.reduceBEq, Nat.reduceLT, Nat.reduceLeDiff, Nat.reduceAdd, Nat.reduceMul, ↓reduceIte, Int.reduceToNat, Int.reducePow, Int.reduceLT, Int.reduceLE, Int.reduceAdd, Int.reduceSub, Int.reduceMul, Int.reduceEq, Int.reduceNe, *])
    | (with_reducible refine IdxE_n _ rfl (by simp) ?_; simp -implicitDefEqProofs -proj only [go_sem, Nat.reduceBEq, Nat.reduceLT, Nat.reduceLeDiff, Nat.reduceAdd, Nat.reduceMul, ↓reduceIte, Int.reduceToNat, Int.reducePow, Int.reduceLT, Int.reduceLE, Int.reduceAdd, Int.reduceSub, Int.reduceMul, Int.reduceEq, Int.reduceNe, *])
    | (with_reducible refine VC_intro ?_ (fun h => ?_); (focus first | decide | omega); try clear h; try simp -implicitDefEqProofs -proj only [go_sem, Nat.reduceBEq, Nat.reduceLT, Nat.reduceLeDiff, Nat.reduceAdd, Nat.reduceMul, ↓reduceIte, Int.reduceToNat, Int.reducePow, Int.reduceLT, Int.reduceLE, Int.reduceAdd, Int.reduceSub, Int.reduceMul, Int.reduceEq, Int.reduceNe, *])
    | (with_reducible refine VC_intro ?_ (fun h => ?_); rotate_left; try clear h; try simp -implicitDefEqProofs -proj only [go_sem, Nat.reduceBEq, Nat.reduceLT, Nat.reduceLeDiff, Nat.reduceAdd, Nat.reduceMul, ↓reduceIte, Int.reduceToNat, Int.reducePow, Int.reduceLT, Int.reduceLE, Int.reduceAdd, Int.reduceSub, Int.reduceMul, Int.reduceEq, Int.reduceNe, *]; rotate_right))
    all_goals first | exact LendV_eq rfl | (exfalso; simp -implicitDefEqProofs only [decide_eq_true_eq, decide_eq_false_iff_not, Bool.not_eq_true', Bool.not_eq_false', Bool.and_eq_true, Bool.and_eq_false_iff, Bool.or_eq_true, Bool.or_eq_false_iff, beq_iff_eq, beq_eq_false_iff_ne, ne_eq, decide_eq_decide, Bool.not_eq_true, Bool.not_eq_false] at *; omega)
end Go.Proofs.Ytlflfciebidddaa.Abs
