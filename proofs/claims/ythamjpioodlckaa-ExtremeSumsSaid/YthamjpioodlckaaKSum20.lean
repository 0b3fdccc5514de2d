/- The package extreme: Sum. No claim stands here. -/
import Derived.Test.YthamjpioodlckaaKMax20
import Derived.Test.YthamjpioodlckaaKLaw20
import Derived.Test.YthamjpioodlckaaKSumE
set_option linter.unusedSimpArgs false
set_option linter.unusedVariables false
namespace Go.Proofs.Ythamjpioodlckaa.Abs
open Go Go.RowKit Go.Proofs
attribute [local go_sem] RunC_seq AF_n AF_r AF_b St_n St_t St_H Fst_mk Snd_mk RunC_ops RunC_cond RunC_block RunC_loop RunC_exit RunC_ret RunC_skip RunO_nil RunO_code RunO_code_ret RunO_code_exit RunO_blk RunO_blk_ret RunO_blk_exit RunL_nil RunL_guard GuardA_tt GuardA_ff GuardA_tf GuardA_ft GuardA_void CondA_t CondA_f PickA_t PickA_f RunL_mov RunL_pick RunL_alloc RunL_box RunL_load LoadA_ptr LoadB_1 LoadB_n LoadA_dptr LoadA_dptr_n RunL_store StoreA_ptr StoreB_box RunL_bin Bin_add Bin_sub Bin_mul Bin_quo Bin_rem Bin_shl Bin_shr Bin_andI Bin_orI Bin_xorI Bin_eql Bin_neq Bin_lss Bin_leq Bin_gtr Bin_geq RunL_binb Bin_beql Bin_bneq RunL_un UnA_not UnA_neg RunL_conv convV MapA_some RunL_nilCheck nilV RunL_mkfn RunL_fieldAddr faV RunL_field FieldA_1 FieldA_n RunL_elemAddr EAddrA_sl EAddrA_own EptrA_eq RunL_build BuildA_some RunL_extract ExtA_eq RunL_len lenV_sl lenV_nilsl lenV_own RunL_slen RunL_idxStr IdxSA_eq slenV RunL_minmax mmV minmaxL RunL_call RunL_callv CallvA_fn putS ev evL evO evP eqK eqKs EqB_agg RunL_eqAgg EqA_t EqA_f evQ buildC fits_agg cellsAV_agg fits_d cellsAV_d fits_nilp cellsAV_nilp fits_nilsl cellsAV_nilsl fits_nilfn cellsAV_nilfn fits_ptr cellsAV_ptr fits_eptr cellsAV_eptr fits_dptr cellsAV_dptr fits_own cellsAV_own fits_fn cellsAV_fn rowV_fits rowV_cells rowV_len lenAV setSeg nth seg mapD repeatL putT_get upd_get argT keepT_cons keepT_nil keepH_cons keepH_nil cond_true cond_false VC_true finW resW resL resOne LoopQ_exit LoopQ_ret List.cons_append List.nil_append Bool.not_true Bool.not_false Bool.and_true Bool.and_self Nat.lt_add_left_iff_pos Nat.zero_add Nat.add_zero List.drop_succ_cons List.drop_zero List.take_succ_cons List.take_zero beq_self_eq_true Bool.false_eq_true RunC_dops RunL_loadS RunL_loadD LoadDA_dptr RunL_storeS StoreSA_ptr RunL_pcall RunL_pcallv PCallvA_fn newsOk and_self and_true true_and loadW_ptr LoadK_1 LoadK_n upd_upd RunL_buildSlice BSliceA_some RunL_buildSliceD frzL frz cutL LoadA_eptr LoadE_row RunL_append RunL_slice SliceA_sl StoreA_eptr List.length_cons List.length_nil Nat.min_def Int.cast_ofNat_Int Int.natCast_zero Int.natCast_one decide_true decide_false List.getElem?_cons_zero List.getElem?_cons_succ RunC_rangef CallvA_yld putL_nil putL_cons RangeQ_exit RangeQ_ret
/-- A row of curves. -/
def cellC (l : List Int) : List D := [.int .i64 ((l.length : Int) - 1), .sl 5 (rowG (gps l))]
def rowC (ls : List (List Int)) : List (List D) := ls.map cellC
abbrev slC (ls : List (List Int)) : AV := .d (.sl 2 (rowC ls))
theorem rowC_len {ls : List (List Int)} : (rowC ls).length = ls.length := List.length_map ..
theorem rowC_nth {ls : List (List Int)} {i : Nat} (h : i < ls.length) : (rowC ls)[((i : Int)).toNat]? = some [.int .i64 ((ls[i].length : Int) - 1), .sl 5 (rowG (gps ls[i]))] := by
  rw [Int.toNat_natCast]; simp [rowC, h, cellC]
structure SX where
  i : Nat
  c : Nat
  cap : Nat
theorem sx_i {i c cap : Nat} : (SX.mk i c cap).i = i := (rfl)
theorem sx_c {i c cap : Nat} : (SX.mk i c cap).c = c := (rfl)
theorem sx_cap {i c cap : Nat} : (SX.mk i c cap).cap = cap := (rfl)
theorem rowI_sn' {l : List Int} {x : Int} : rowI l ++ [[.int .i64 x]] = rowI (l ++ [x]) := by simp [rowI]
set_option maxRecDepth 20000 in
theorem Sum20_ok {ls : List (List Int)} {f : FuncId} {b : List Int → Int} {a : List Int → Int} (h : ∀ l ∈ ls, CurL l) (hf : ∀ l, CurL l → DataW Try.prog f [curL l] (.tup [.agg [i64 (b l), i64 (a l)], bv true])) (hb : ∀ l, CurL l → Fit (b l)) (hn : ls.length ≤ 1000) : DataW Try.prog f_extreme_Sum [slC ls, .fn f []] (optR (sumF 0 (ls.map b))) := by
  have hsum := Sum_ok (l := ls.map b) (allFit_of fun v hv => by obtain ⟨l, hl, rfl⟩ := List.mem_map.1 hv; exact hb l (h l hl)) (by rw [List.length_map]; omega)
  obtain ⟨bs, hbs⟩ : ∃ bs, ls.map b = bs := ⟨_, rfl⟩
  rw [hbs] at hsum ⊢
  have hlb : bs.length = ls.length := by rw [← hbs, List.length_map]
  refine CallW_intro comp_extreme_Sum (by simp) ?_
  simp -implicitDefEqProofs -proj only [go_sem, Nat.reduceBEq, Nat.reduceLT, Nat.reduceLeDiff, Nat.reduceAdd, Nat.reduceMul, ↓reduceIte, Int.reduceToNat, Int.reducePow, Int.reduceLT, Int.reduceLE, Int.reduceAdd, Int.reduceSub, Int.reduceMul, Int.reduceEq, Int.reduceNe, rowC_len]
  refine LoopA_k (fun y : SX => y.i ≤ ls.length ∧ (keys (rowH 3 1 y.c y.cap (rowI (bs.take y.i)))).Nodup) 35 (fun y => [(1, .fn f []), (11, slC ls), (12, i64 ls.length), (13, i64 y.i), (6, rowV 0 1 y.c y.cap (rowI (bs.take y.i)))]) (fun y => rowH 3 1 y.c y.cap (rowI (bs.take y.i))) (fun y => ls.length - y.i) ⟨0, 0, 0⟩ ⟨Nat.zero_le _, by simp [keys, sx_i, rowI, rowH]⟩ rfl ?_ ?_ ?_
  · simp -implicitDefEqProofs -proj only [go_sem, Nat.reduceBEq, Nat.reduceLT, Nat.reduceLeDiff, Nat.reduceAdd, Nat.reduceMul, ↓reduceIte, Int.reduceToNat, Int.reducePow, Int.reduceLT, Int.reduceLE, Int.reduceAdd, Int.reduceSub, Int.reduceMul, Int.reduceEq, Int.reduceNe, AllAt, sx_i]
    try rfl
  · simp -implicitDefEqProofs -proj only [go_sem, Nat.reduceBEq, Nat.reduceLT, Nat.reduceLeDiff, Nat.reduceAdd, Nat.reduceMul, ↓reduceIte, Int.reduceToNat, Int.reducePow, Int.reduceLT, Int.reduceLE, Int.reduceAdd, Int.reduceSub, Int.reduceMul, Int.reduceEq, Int.reduceNe, AllH, sx_i, rowI, List.take_zero, List.map_nil, rowH_nil]
  · rintro ⟨i, c, cap⟩ ⟨hi, hnd⟩
    simp -implicitDefEqProofs only [sx_i] at hi
    have hall := keepH_all hnd
    obtain ⟨H, hH⟩ : ∃ H, keepH (rowH 3 1 (SX.mk i c cap).c (SX.mk i c cap).cap (rowI (bs.take (SX.mk i c cap).i))) = H := ⟨_, rfl⟩
    rw [hH] at hall
    simp -implicitDefEqProofs only [sx_i, sx_c, sx_cap] at hall hnd
    by_cases hlt : i < ls.length
    · have hel := rowC_nth hlt
      have hcall := hf _ (h _ (List.getElem_mem hlt))
      have t1 : bs.take (i + 1) = bs.take i ++ [b ls[i]] := by rw [List.take_succ_eq_append_getElem (by omega)]; simp [← hbs]
      have hl1 : (rowI (bs.take i)).length = i := by rw [rowI_len, List.length_take]; omega
      have hl3 : (rowI (bs.take (i + 1))).length = i + 1 := by rw [rowI_len, List.length_take]; omega
      have hne1 : rowI (bs.take (i + 1)) ≠ [] := by intro e; rw [e] at hl3; simp at hl3
      unfold curL at hcall
      generalize gps ls[i] = G at *
      generalize a ls[i] = at' at *
      generalize b ls[i] = bb at *
      simp -implicitDefEqProofs -proj only [go_sem, Nat.reduceBEq, Nat.reduceLT, Nat.reduceLeDiff, Nat.reduceAdd, Nat.reduceMul, ↓reduceIte, Int.reduceToNat, Int.reducePow, Int.reduceLT, Int.reduceLE, Int.reduceAdd, Int.reduceSub, Int.reduceMul, Int.reduceEq, Int.reduceNe, sx_i, sx_c, sx_cap, hH, decide_eq_true (show (i : Int) < ls.length by omega)]
      refine ElemA_at _ (by omega) hel ?_
      simp -implicitDefEqProofs -proj only [go_sem, Nat.reduceBEq, Nat.reduceLT, Nat.reduceLeDiff, Nat.reduceAdd, Nat.reduceMul, ↓reduceIte, Int.reduceToNat, Int.reducePow, Int.reduceLT, Int.reduceLE, Int.reduceAdd, Int.reduceSub, Int.reduceMul, Int.reduceEq, Int.reduceNe]
      refine AllocA_intro (fun b8 hb8 => ?_)
      replace hb8 : H b8 = none := hb8
      simp -implicitDefEqProofs -proj only [go_sem, Nat.reduceBEq, Nat.reduceLT, Nat.reduceLeDiff, Nat.reduceAdd, Nat.reduceMul, ↓reduceIte, Int.reduceToNat, Int.reducePow, Int.reduceLT, Int.reduceLE, Int.reduceAdd, Int.reduceSub, Int.reduceMul, Int.reduceEq, Int.reduceNe]
      refine CallA_pure hcall ?_
      simp -implicitDefEqProofs -proj only [go_sem, Nat.reduceBEq, Nat.reduceLT, Nat.reduceLeDiff, Nat.reduceAdd, Nat.reduceMul, ↓reduceIte, Int.reduceToNat, Int.reducePow, Int.reduceLT, Int.reduceLE, Int.reduceAdd, Int.reduceSub, Int.reduceMul, Int.reduceEq, Int.reduceNe]
      refine AllocA_intro (fun b9 hb9 => ?_)
      replace hb9 : upd H b8 _ b9 = none := hb9
      simp -implicitDefEqProofs -proj only [go_sem, Nat.reduceBEq, Nat.reduceLT, Nat.reduceLeDiff, Nat.reduceAdd, Nat.reduceMul, ↓reduceIte, Int.reduceToNat, Int.reducePow, Int.reduceLT, Int.reduceLE, Int.reduceAdd, Int.reduceSub, Int.reduceMul, Int.reduceEq, Int.reduceNe]
      refine AllocR_intro (fun bs' hs => ?_)
      replace hs : upd (upd H b8 _) b9 _ bs' = none := hs
      simp -implicitDefEqProofs -proj only [go_sem, Nat.reduceBEq, Nat.reduceLT, Nat.reduceLeDiff, Nat.reduceAdd, Nat.reduceMul, ↓reduceIte, Int.reduceToNat, Int.reducePow, Int.reduceLT, Int.reduceLE, Int.reduceAdd, Int.reduceSub, Int.reduceMul, Int.reduceEq, Int.reduceNe]
      refine AppendA_grow (xs := rowI (bs.take i)) (y := [.int .i64 bb]) (t := 3) (capc := 1) [] rfl (AllH_upd hs (AllH_upd hb9 (AllH_upd hb8 (by rw [List.append_nil]; exact hall)))) (by rw [List.append_nil]; exact hnd) (by simp -implicitDefEqProofs -proj only [go_sem, Nat.reduceBEq, Nat.reduceLT, Nat.reduceLeDiff, Nat.reduceAdd, Nat.reduceMul, ↓reduceIte, Int.reduceToNat, Int.reducePow, Int.reduceLT, Int.reduceLE, Int.reduceAdd, Int.reduceSub, Int.reduceMul, Int.reduceEq, Int.reduceNe]) (by rw [hl1]; omega) (by rw [hl1]; omega) (fun H' c' cap' ha hk => ?_)
      rw [rowI_sn', ← t1] at ha hk
      rw [List.append_nil] at ha hk
      simp -implicitDefEqProofs -proj only [go_sem, Nat.reduceBEq, Nat.reduceLT, Nat.reduceLeDiff, Nat.reduceAdd, Nat.reduceMul, ↓reduceIte, Int.reduceToNat, Int.reducePow, Int.reduceLT, Int.reduceLE, Int.reduceAdd, Int.reduceSub, Int.reduceMul, Int.reduceEq, Int.reduceNe]
      refine LoopQ_k ⟨i + 1, c', cap'⟩ ⟨by rw [sx_i]; omega, hk⟩ (by show ls.length - (i + 1) < ls.length - i; omega) rfl ?_ ha
      simp -implicitDefEqProofs -proj only [go_sem, Nat.reduceBEq, Nat.reduceLT, Nat.reduceLeDiff, Nat.reduceAdd, Nat.reduceMul, ↓reduceIte, Int.reduceToNat, Int.reducePow, Int.reduceLT, Int.reduceLE, Int.reduceAdd, Int.reduceSub, Int.reduceMul, Int.reduceEq, Int.reduceNe, AllAt, sx_i, sx_c, sx_cap, i64_succ (show i < 9223372036854775807 by omega), rowV_ne hne1, hl1, hl3]
    · have hi' : i = ls.length := by omega
      subst hi'
      rw [← hH] at hall
      simp -implicitDefEqProofs only [sx_i, sx_c, sx_cap] at hall
      rw [List.take_of_length_le (show bs.length ≤ ls.length by omega)] at hall
      simp -implicitDefEqProofs -proj only [go_sem, Nat.reduceBEq, Nat.reduceLT, Nat.reduceLeDiff, Nat.reduceAdd, Nat.reduceMul, ↓reduceIte, Int.reduceToNat, Int.reducePow, Int.reduceLT, Int.reduceLE, Int.reduceAdd, Int.reduceSub, Int.reduceMul, Int.reduceEq, Int.reduceNe, sx_i, sx_c, sx_cap, hH, decide_eq_false (show ¬ (ls.length : Int) < ls.length by omega), List.take_of_length_le (show bs.length ≤ ls.length by omega)]
      cases e : sumF 0 bs with
      | none =>
        rw [e, optR] at hsum
        rw [optR]
        refine CallA_lend hsum (lend_cons (rowV_lend hall) lend_nil) rfl ?_
        simp -implicitDefEqProofs -proj only [go_sem, Nat.reduceBEq, Nat.reduceLT, Nat.reduceLeDiff, Nat.reduceAdd, Nat.reduceMul, ↓reduceIte, Int.reduceToNat, Int.reducePow, Int.reduceLT, Int.reduceLE, Int.reduceAdd, Int.reduceSub, Int.reduceMul, Int.reduceEq, Int.reduceNe]
        exact LendV_eq rfl
      | some s =>
        rw [e, optR] at hsum
        rw [optR]
        refine CallA_lend hsum (lend_cons (rowV_lend hall) lend_nil) rfl ?_
        simp -implicitDefEqProofs -proj only [go_sem, Nat.reduceBEq, Nat.reduceLT, Nat.reduceLeDiff, Nat.reduceAdd, Nat.reduceMul, ↓reduceIte, Int.reduceToNat, Int.reducePow, Int.reduceLT, Int.reduceLE, Int.reduceAdd, Int.reduceSub, Int.reduceMul, Int.reduceEq, Int.reduceNe]
        exact LendV_eq rfl
end Go.Proofs.Ythamjpioodlckaa.Abs
