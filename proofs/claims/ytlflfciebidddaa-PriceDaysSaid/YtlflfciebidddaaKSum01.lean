/- Contracts of sums, the least and the greatest of rows. No claim stands here. -/
import Derived.Test.YtlflfciebidddaaKMul01
import Derived.Test.YtlflfciebidddaaKSumE
import Derived.Test.YtlflfciebidddaaAbsT
set_option linter.unusedSimpArgs false
set_option linter.unusedVariables false
namespace Go.Proofs.Ytlflfciebidddaa.Abs
open Go Go.RowKit Go.Proofs
attribute [local go_sem] RunC_seq AF_n AF_r AF_b St_n St_t St_H Fst_mk Snd_mk RunC_ops RunC_cond RunC_block RunC_loop RunC_exit RunC_ret RunC_skip RunO_nil RunO_code RunO_code_ret RunO_code_exit RunO_blk RunO_blk_ret RunO_blk_exit RunL_nil RunL_guard GuardA_tt GuardA_ff GuardA_tf GuardA_ft GuardA_void CondA_t CondA_f PickA_t PickA_f RunL_mov RunL_pick RunL_alloc RunL_box RunL_load LoadA_ptr LoadB_1 LoadB_n LoadA_dptr LoadA_dptr_n RunL_store StoreA_ptr StoreB_box RunL_bin Bin_add Bin_sub Bin_mul Bin_quo Bin_rem Bin_shl Bin_shr Bin_andI Bin_orI Bin_xorI Bin_eql Bin_neq Bin_lss Bin_leq Bin_gtr Bin_geq RunL_binb Bin_beql Bin_bneq RunL_un UnA_not UnA_neg RunL_conv convV MapA_some RunL_nilCheck nilV RunL_mkfn RunL_fieldAddr faV RunL_field FieldA_1 FieldA_n RunL_elemAddr EAddrA_sl EAddrA_own EptrA_eq RunL_build BuildA_some RunL_extract ExtA_eq RunL_len lenV_sl lenV_nilsl lenV_own RunL_slen RunL_idxStr IdxSA_eq slenV RunL_minmax mmV minmaxL RunL_call RunL_callv CallvA_fn putS ev evL evO evP eqK eqKs EqB_agg RunL_eqAgg EqA_t EqA_f evQ buildC fits_agg cellsAV_agg fits_d cellsAV_d fits_nilp cellsAV_nilp fits_nilsl cellsAV_nilsl fits_nilfn cellsAV_nilfn fits_ptr cellsAV_ptr fits_eptr cellsAV_eptr fits_dptr cellsAV_dptr fits_own cellsAV_own fits_fn cellsAV_fn rowV_fits rowV_cells rowV_len lenAV setSeg nth seg mapD repeatL putT_get upd_get argT keepT_cons keepT_nil keepH_cons keepH_nil cond_true cond_false VC_true finW resW resL resOne LoopQ_exit LoopQ_ret List.cons_append List.nil_append Bool.not_true Bool.not_false Bool.and_true Bool.and_self Nat.lt_add_left_iff_pos Nat.zero_add Nat.add_zero List.drop_succ_cons List.drop_zero List.take_succ_cons List.take_zero beq_self_eq_true Bool.false_eq_true RunC_dops RunL_loadS RunL_loadD LoadDA_dptr RunL_storeS StoreSA_ptr RunL_pcall RunL_pcallv PCallvA_fn newsOk and_self and_true true_and loadW_ptr LoadK_1 LoadK_n upd_upd RunL_loadP LoadPA_ptr RunL_callS RunL_make RunL_buildSlice BSliceA_some RunL_buildSliceD frzL frz cutL LoadA_eptr LoadE_row RunL_append RunL_slice SliceA_sl StoreA_eptr List.length_cons List.length_nil Nat.min_def Int.cast_ofNat_Int Int.natCast_zero Int.natCast_one decide_true decide_false List.getElem?_cons_zero List.getElem?_cons_succ RunC_rangef CallvA_yld putL_nil putL_cons RangeQ_exit RangeQ_ret
theorem RSum_ok {l : List Int} (hl : AllFit l) (hn : l.length ≤ 4611686018427387904) : DataW Try.prog f_poundageref01_Sum [slI l] (optR (sumF 0 l)) := by
  refine CallW_intro comp_poundageref01_Sum (by simp) ?_
  simp -implicitDefEqProofs -proj only [go_sem, Nat.reduceBEq, Nat.reduceLT, Nat.reduceLeDiff, Nat.reduceAdd, Nat.reduceMul, ↓reduceIte, rowI_len]
  refine LoopA_k (fun p : Nat × Int => p.1 ≤ l.length ∧ Fit p.2 ∧ sumF p.2 (l.drop p.1) = sumF 0 l) 29 (fun p => [(9, slI l), (10, i64 l.length), (11, i64 p.1), (4, i64 p.2)]) (fun _ => []) (fun p => l.length - p.1) (0, 0) ⟨by omega, by decide, by rw [List.drop_zero]⟩ rfl ?_ ?_ ?_
  · simp -implicitDefEqProofs -proj only [go_sem, Nat.reduceBEq, Nat.reduceLT, Nat.reduceLeDiff, Nat.reduceAdd, Nat.reduceMul, ↓reduceIte, AllAt]
  · trivial
  · rintro ⟨i, n⟩ ⟨hi, hf, hs⟩
    rw [Fst_mk] at hi; rw [Snd_mk] at hf; rw [Fst_mk, Snd_mk] at hs
    by_cases h : i < l.length
    · have hx := hl i h
      have hc := rowI_nth h
      rw [List.drop_eq_getElem_cons h] at hs
      generalize l[i] = x at *
      simp -implicitDefEqProofs -proj only [go_sem, Nat.reduceBEq, Nat.reduceLT, Nat.reduceLeDiff, Nat.reduceAdd, Nat.reduceMul, ↓reduceIte, decide_eq_true (show (i : Int) < l.length by omega)]
      refine ElemA_at _ (by omega) hc ?_
      simp -implicitDefEqProofs -proj only [go_sem, Nat.reduceBEq, Nat.reduceLT, Nat.reduceLeDiff, Nat.reduceAdd, Nat.reduceMul, ↓reduceIte, hc]
      refine CallA_pure (ROf_ok hf) ?_
      simp -implicitDefEqProofs -proj only [go_sem, Nat.reduceBEq, Nat.reduceLT, Nat.reduceLeDiff, Nat.reduceAdd, Nat.reduceMul, ↓reduceIte]
      refine CallA_pure (ROf_ok hx) ?_
      simp -implicitDefEqProofs -proj only [go_sem, Nat.reduceBEq, Nat.reduceLT, Nat.reduceLeDiff, Nat.reduceAdd, Nat.reduceMul, ↓reduceIte]
      refine CallA_pure (RAdd_ok (by unfold Fit at hf; omega) (by unfold Fit at hx; omega)) ?_
      simp -implicitDefEqProofs -proj only [go_sem, Nat.reduceBEq, Nat.reduceLT, Nat.reduceLeDiff, Nat.reduceAdd, Nat.reduceMul, ↓reduceIte]
      refine CallA_pure (RInt_ok (by unfold Big; unfold Fit at hf hx; omega)) ?_
      rw [sumF] at hs
      by_cases hf2 : Fit (n + x)
      · rw [if_pos hf2] at hs; rw [fitR_yes hf2]
        simp -implicitDefEqProofs -proj only [go_sem, Nat.reduceBEq, Nat.reduceLT, Nat.reduceLeDiff, Nat.reduceAdd, Nat.reduceMul, ↓reduceIte]
        refine LoopQ_k (i + 1, n + x) ⟨by rw [Fst_mk]; omega, hf2, by rw [Fst_mk, Snd_mk]; exact hs⟩ (by rw [Fst_mk, Fst_mk]; omega) rfl ?_ trivial
        simp -implicitDefEqProofs -proj only [go_sem, Nat.reduceBEq, Nat.reduceLT, Nat.reduceLeDiff, Nat.reduceAdd, Nat.reduceMul, ↓reduceIte, AllAt, i64_succ (show i < 9223372036854775807 by omega)]
      · rw [if_neg hf2] at hs; rw [fitR_no hf2]
        simp -implicitDefEqProofs -proj only [go_sem, Nat.reduceBEq, Nat.reduceLT, Nat.reduceLeDiff, Nat.reduceAdd, Nat.reduceMul, ↓reduceIte, ← hs, optR]
        exact LendV_eq rfl
    · have hi' : i = l.length := by omega
      subst hi'
      rw [List.drop_length] at hs
      simp -implicitDefEqProofs -proj only [go_sem, Nat.reduceBEq, Nat.reduceLT, Nat.reduceLeDiff, Nat.reduceAdd, Nat.reduceMul, ↓reduceIte, decide_eq_false (show ¬ (l.length : Int) < l.length by omega)]
      rw [← hs, sumF, optR]
      exact LendV_eq rfl
end Go.Proofs.Ytlflfciebidddaa.Abs
