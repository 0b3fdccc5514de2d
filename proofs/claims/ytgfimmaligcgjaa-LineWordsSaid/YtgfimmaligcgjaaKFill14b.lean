/- The law LineFills. No claim stands here. -/
import Derived.Test.YtgfimmaligcgjaaKFill14
set_option linter.unusedSimpArgs false
set_option linter.unusedVariables false
namespace Go.Proofs.Ytgfimmaligcgjaa.Abs
open Go Go.RowKit Go.Proofs
attribute [local go_sem] RunC_seq AF_n AF_r AF_b St_n St_t St_H Fst_mk Snd_mk RunC_ops RunC_cond RunC_block RunC_loop RunC_exit RunC_ret RunC_skip RunO_nil RunO_code RunO_code_ret RunO_code_exit RunO_blk RunO_blk_ret RunO_blk_exit RunL_nil RunL_guard GuardA_tt GuardA_ff GuardA_tf GuardA_ft GuardA_void CondA_t CondA_f PickA_t PickA_f RunL_mov RunL_pick RunL_alloc RunL_box RunL_load LoadA_ptr LoadB_1 LoadB_n LoadA_dptr LoadA_dptr_n RunL_store StoreA_ptr StoreB_box RunL_bin Bin_add Bin_sub Bin_mul Bin_quo Bin_rem Bin_shl Bin_shr Bin_andI Bin_orI Bin_xorI Bin_eql Bin_neq Bin_lss Bin_leq Bin_gtr Bin_geq RunL_binb Bin_beql Bin_bneq RunL_un UnA_not UnA_neg RunL_conv convV MapA_some RunL_nilCheck nilV RunL_mkfn RunL_fieldAddr faV RunL_field FieldA_1 FieldA_n RunL_elemAddr EAddrA_sl EAddrA_own EptrA_eq RunL_build BuildA_some RunL_extract ExtA_eq RunL_len lenV_sl lenV_nilsl lenV_own RunL_slen RunL_idxStr IdxSA_eq slenV RunL_minmax mmV minmaxL RunL_call RunL_callv CallvA_fn putS ev evL evO evP eqK eqKs EqB_agg RunL_eqAgg EqA_t EqA_f evQ buildC fits_agg cellsAV_agg fits_d cellsAV_d fits_nilp cellsAV_nilp fits_nilsl cellsAV_nilsl fits_nilfn cellsAV_nilfn fits_ptr cellsAV_ptr fits_eptr cellsAV_eptr fits_dptr cellsAV_dptr fits_own cellsAV_own fits_fn cellsAV_fn rowV_fits rowV_cells rowV_len lenAV setSeg nth seg mapD repeatL putT_get upd_get argT keepT_cons keepT_nil keepH_cons keepH_nil cond_true cond_false VC_true finW resW resL resOne LoopQ_exit LoopQ_ret List.cons_append List.nil_append Bool.not_true Bool.not_false Bool.and_true Bool.and_self Nat.lt_add_left_iff_pos Nat.zero_add Nat.add_zero List.drop_succ_cons List.drop_zero List.take_succ_cons List.take_zero beq_self_eq_true Bool.false_eq_true RunC_dops RunL_loadS RunL_storeS StoreSA_ptr RunL_pcall RunL_pcallv PCallvA_fn newsOk and_self and_true true_and loadW_ptr LoadK_1 LoadK_n upd_upd RunL_buildSlice BSliceA_some RunL_buildSliceD frzL frz cutL LoadA_eptr LoadE_row RunL_append RunL_slice SliceA_sl StoreA_eptr List.length_cons List.length_nil Nat.min_def Int.cast_ofNat_Int Int.natCast_zero Int.natCast_one decide_true decide_false List.getElem?_cons_zero List.getElem?_cons_succ RunC_rangef CallvA_yld putL_nil putL_cons RangeQ_exit RangeQ_ret
theorem Flat_new {lo hi v : Int} : NewW Try.prog f_line_Flat_int [i64 lo, i64 hi, i64 v] (lineV (if hi < lo then [] else [⟨lo, hi, v⟩])) := by
  refine CallW_intro comp_line_Flat_int (by simp) ?_
  simp -implicitDefEqProofs -proj only [go_sem, Nat.reduceBEq, Nat.reduceLT, Nat.reduceLeDiff, Nat.reduceAdd, Nat.reduceMul, ↓reduceIte, Int.reduceToNat, Int.reducePow, Int.reduceLT, Int.reduceLE, Int.reduceAdd, Int.reduceSub, Int.reduceMul, Int.reduceEq, Int.reduceNe]
  refine AllocA_intro (fun b6 hb6 => ?_)
  by_cases h : hi < lo
  · rw [if_pos h]
    simp -implicitDefEqProofs -proj only [go_sem, Nat.reduceBEq, Nat.reduceLT, Nat.reduceLeDiff, Nat.reduceAdd, Nat.reduceMul, ↓reduceIte, Int.reduceToNat, Int.reducePow, Int.reduceLT, Int.reduceLE, Int.reduceAdd, Int.reduceSub, Int.reduceMul, Int.reduceEq, Int.reduceNe, decide_eq_true h]
    exact lend_agg1 (.nilsl _ _)
  · rw [if_neg h]
    simp -implicitDefEqProofs -proj only [go_sem, Nat.reduceBEq, Nat.reduceLT, Nat.reduceLeDiff, Nat.reduceAdd, Nat.reduceMul, ↓reduceIte, Int.reduceToNat, Int.reducePow, Int.reduceLT, Int.reduceLE, Int.reduceAdd, Int.reduceSub, Int.reduceMul, Int.reduceEq, Int.reduceNe, decide_eq_false h]
    refine AllocR_intro (fun bs hs => ?_)
    replace hs : upd Heap.none b6 _ bs = none := hs
    obtain ⟨n1, n2⟩ := fresh_ne hs upd_eq
    simp -implicitDefEqProofs -proj only [go_sem, Nat.reduceBEq, Nat.reduceLT, Nat.reduceLeDiff, Nat.reduceAdd, Nat.reduceMul, ↓reduceIte, Int.reduceToNat, Int.reducePow, Int.reduceLT, Int.reduceLE, Int.reduceAdd, Int.reduceSub, Int.reduceMul, Int.reduceEq, Int.reduceNe, n1, n2]
    refine lend_agg1 (new_own (xs := rowR [⟨lo, hi, v⟩]) (by rw [upd_ne (by assumption), upd_eq]; rfl) rfl rowR_scal)
def fillB (b4 b8 b9 : Nat) (f lo hi v : Int) (l : List Int) (y : BackX) : List (Nat × Blk) := rowH 3 1 y.c y.cap (rowI ((fillL f lo hi v l).take y.i)) ++ [(b9, .box 42 [i64 f, rowV 1 1 y.c y.cap (rowI ((fillL f lo hi v l).take y.i))]), (b8, .box 42 [i64 0, .nilsl 1]), (b4, .box 42 [i64 f, slI l])]
theorem RefFill_new {f lo hi v : Int} {l : List Int} (hf : -1073741824 ≤ f ∧ f ≤ 1073741824) (ha : l.length ≤ 900) :
    NewW Try.prog f_poundageref14_Line_Fill [refV f l, i64 lo, i64 hi, i64 v] (refV f (fillL f lo hi v l)) := by
  have hzl := fillL_len (f := f) (lo := lo) (hi := hi) (v := v) (l := l)
  refine CallW_intro comp_poundageref14_Line_Fill (by simp) ?_
  simp -implicitDefEqProofs -proj only [go_sem, Nat.reduceBEq, Nat.reduceLT, Nat.reduceLeDiff, Nat.reduceAdd, Nat.reduceMul, ↓reduceIte, Int.reduceToNat, Int.reducePow, Int.reduceLT, Int.reduceLE, Int.reduceAdd, Int.reduceSub, Int.reduceMul, Int.reduceEq, Int.reduceNe]
  refine AllocA_intro (fun b4 hb4 => ?_)
  simp -implicitDefEqProofs -proj only [go_sem, Nat.reduceBEq, Nat.reduceLT, Nat.reduceLeDiff, Nat.reduceAdd, Nat.reduceMul, ↓reduceIte, Int.reduceToNat, Int.reducePow, Int.reduceLT, Int.reduceLE, Int.reduceAdd, Int.reduceSub, Int.reduceMul, Int.reduceEq, Int.reduceNe]
  refine AllocA_intro (fun b8 hb8 => ?_)
  have c4 := alloc_all (x := .box 42 [i64 f, slI l]) hb4 (l := []) trivial
  have n4 := alloc_keys (x := .box 42 [i64 f, slI l]) hb4 (l := []) trivial List.nodup_nil
  have c8 := alloc_all (x := .box 42 [i64 0, .nilsl 1]) hb8 c4
  have n8 := alloc_keys (x := .box 42 [i64 0, .nilsl 1]) hb8 c4 n4
  obtain ⟨H, hH⟩ : ∃ H, upd (upd Heap.none b4 (some (.box 42 [i64 f, slI l]))) b8 (some (.box 42 [i64 0, .nilsl 1])) = H := ⟨_, rfl⟩
  simp -implicitDefEqProofs only [St_H, hH] at c8
  obtain ⟨e8, e4, _⟩ := id c8
  simp -implicitDefEqProofs -proj only [go_sem, Nat.reduceBEq, Nat.reduceLT, Nat.reduceLeDiff, Nat.reduceAdd, Nat.reduceMul, ↓reduceIte, Int.reduceToNat, Int.reducePow, Int.reduceLT, Int.reduceLE, Int.reduceAdd, Int.reduceSub, Int.reduceMul, Int.reduceEq, Int.reduceNe, hH, e4]
  refine AllocA_intro (fun b9 hb9 => ?_)
  have c9 := alloc_all (x := .box 42 [i64 f, .nilsl 1]) hb9 c8
  have n9 := alloc_keys (x := .box 42 [i64 f, .nilsl 1]) hb9 c8 n8
  replace hb9 : H b9 = none := hb9
  obtain ⟨q1, q2⟩ := fresh_ne hb9 e4
  simp -implicitDefEqProofs -proj only [go_sem, Nat.reduceBEq, Nat.reduceLT, Nat.reduceLeDiff, Nat.reduceAdd, Nat.reduceMul, ↓reduceIte, Int.reduceToNat, Int.reducePow, Int.reduceLT, Int.reduceLE, Int.reduceAdd, Int.reduceSub, Int.reduceMul, Int.reduceEq, Int.reduceNe, e4, q1, q2, rowI_len]
  refine LoopA_k (fun y : BackX => y.i ≤ l.length ∧ (keys (fillB b4 b8 b9 f lo hi v l y)).Nodup) 46 (fun y => [(4, .ptr b4 0), (8, .ptr b8 0), (9, .ptr b9 0), (16, slI l), (17, i64 l.length), (18, i64 y.i), (1, i64 lo), (2, i64 hi), (3, i64 v)]) (fillB b4 b8 b9 f lo hi v l) (fun y => l.length + 1 - y.i) ⟨0, 0, 0⟩ ⟨Nat.zero_le _, n9⟩ rfl ?_ ?_ ?_
  · simp -implicitDefEqProofs -proj only [go_sem, Nat.reduceBEq, Nat.reduceLT, Nat.reduceLeDiff, Nat.reduceAdd, Nat.reduceMul, ↓reduceIte, Int.reduceToNat, Int.reducePow, Int.reduceLT, Int.reduceLE, Int.reduceAdd, Int.reduceSub, Int.reduceMul, Int.reduceEq, Int.reduceNe, AllAt, bx_i, Int.add_zero]
  · simp -implicitDefEqProofs -proj only [go_sem, Nat.reduceBEq, Nat.reduceLT, Nat.reduceLeDiff, Nat.reduceAdd, Nat.reduceMul, ↓reduceIte, Int.reduceToNat, Int.reducePow, Int.reduceLT, Int.reduceLE, Int.reduceAdd, Int.reduceSub, Int.reduceMul, Int.reduceEq, Int.reduceNe]
    exact c9
  · rintro ⟨i, c, cap⟩ ⟨hi', hn'⟩
    simp -implicitDefEqProofs only [bx_i] at hi'
    have hall := keepH_all hn'
    obtain ⟨H1, hH1⟩ : ∃ H1, keepH (fillB b4 b8 b9 f lo hi v l ⟨i, c, cap⟩) = H1 := ⟨_, rfl⟩
    rw [hH1] at hall
    simp -implicitDefEqProofs only [fillB, bx_i, bx_c, bx_cap] at hall hn'
    obtain ⟨hrow, h9, h8, h4, _⟩ := AllH_app.1 hall
    simp -implicitDefEqProofs -proj only [go_sem, Nat.reduceBEq, Nat.reduceLT, Nat.reduceLeDiff, Nat.reduceAdd, Nat.reduceMul, ↓reduceIte, Int.reduceToNat, Int.reducePow, Int.reduceLT, Int.reduceLE, Int.reduceAdd, Int.reduceSub, Int.reduceMul, Int.reduceEq, Int.reduceNe, bx_i, bx_c, bx_cap, hH1, h4, h8, h9]
    by_cases h : i < l.length
    · have hel := rowI_nth h
      have hg : l.getD i 0 = l[i] := by simp [h]
      have hz : (fillL f lo hi v l).take (i + 1) = (fillL f lo hi v l).take i ++ [if lo ≤ f + (i : Int) ∧ f + (i : Int) ≤ hi then v else l[i]] := by
        rw [List.take_succ_eq_append_getElem (by omega)]
        simp [fillL, List.getElem?_eq_getElem h]
      have hzi : (rowI ((fillL f lo hi v l).take i)).length = i := by rw [rowI_len, List.length_take]; omega
      have hw : IntKind.i64.wrap (f + i) = f + (i : Int) := by rw [IntKind.wrap_i64]; omega
      generalize l[i] = x at *
      have key : ∀ (w : Int) (H2 : Heap) (t : TM) (bs : Nat), True := fun _ _ _ _ => trivial
      simp -implicitDefEqProofs -proj only [go_sem, Nat.reduceBEq, Nat.reduceLT, Nat.reduceLeDiff, Nat.reduceAdd, Nat.reduceMul, ↓reduceIte, Int.reduceToNat, Int.reducePow, Int.reduceLT, Int.reduceLE, Int.reduceAdd, Int.reduceSub, Int.reduceMul, Int.reduceEq, Int.reduceNe, decide_eq_true (show (i : Int) < l.length by omega)]
      refine ElemA_at _ (by omega) hel ?_
      by_cases hin : lo ≤ f + (i : Int) ∧ f + (i : Int) ≤ hi
      · rw [if_pos hin] at hz
        simp -implicitDefEqProofs -proj only [go_sem, Nat.reduceBEq, Nat.reduceLT, Nat.reduceLeDiff, Nat.reduceAdd, Nat.reduceMul, ↓reduceIte, Int.reduceToNat, Int.reducePow, Int.reduceLT, Int.reduceLE, Int.reduceAdd, Int.reduceSub, Int.reduceMul, Int.reduceEq, Int.reduceNe, h4, h9, hw, decide_eq_true hin.1, decide_eq_true hin.2]
        refine AllocR_intro (fun bs hs => ?_)
        replace hs : H1 bs = none := hs
        simp -implicitDefEqProofs -proj only [go_sem, Nat.reduceBEq, Nat.reduceLT, Nat.reduceLeDiff, Nat.reduceAdd, Nat.reduceMul, ↓reduceIte, Int.reduceToNat, Int.reducePow, Int.reduceLT, Int.reduceLE, Int.reduceAdd, Int.reduceSub, Int.reduceMul, Int.reduceEq, Int.reduceNe]
        refine AppendA_grow (xs := rowI ((fillL f lo hi v l).take i)) (y := [.int .i64 v]) (t := 3) (capc := 1) [(b9, .box 42 [i64 f, rowV 1 1 c cap (rowI ((fillL f lo hi v l).take i))]), (b8, .box 42 [i64 0, .nilsl 1]), (b4, .box 42 [i64 f, slI l])] rfl (AllH_upd hs hall) hn' (by simp -implicitDefEqProofs -proj only [go_sem, Nat.reduceBEq, Nat.reduceLT, Nat.reduceLeDiff, Nat.reduceAdd, Nat.reduceMul, ↓reduceIte, Int.reduceToNat, Int.reducePow, Int.reduceLT, Int.reduceLE, Int.reduceAdd, Int.reduceSub, Int.reduceMul, Int.reduceEq, Int.reduceNe]) (by rw [hzi]; omega) (by rw [hzi]; omega) (fun H' c' cap' ha' hk => ?_)
        rw [rowI_snoc, ← hz] at ha' hk
        have hne : rowI ((fillL f lo hi v l).take (i + 1)) ≠ [] := by rw [hz]; simp [rowI]
        have hzi2 : (rowI ((fillL f lo hi v l).take (i + 1))).length = i + 1 := by rw [rowI_len, List.length_take]; omega
        obtain ⟨hrow', hbox⟩ := AllH_app.1 ha'
        simp -implicitDefEqProofs -proj only [go_sem, Nat.reduceBEq, Nat.reduceLT, Nat.reduceLeDiff, Nat.reduceAdd, Nat.reduceMul, ↓reduceIte, Int.reduceToNat, Int.reducePow, Int.reduceLT, Int.reduceLE, Int.reduceAdd, Int.reduceSub, Int.reduceMul, Int.reduceEq, Int.reduceNe, hbox.1]
        refine LoopQ_k ⟨i + 1, c', cap'⟩ ⟨by show i + 1 ≤ l.length; omega, by simpa only [keys, fillB, bx_i, bx_c, bx_cap, List.map_append, List.map_cons, List.map_nil] using hk⟩ (by show l.length + 1 - (i + 1) < l.length + 1 - i; omega) rfl ?_ ?_
        · simp -implicitDefEqProofs -proj only [go_sem, Nat.reduceBEq, Nat.reduceLT, Nat.reduceLeDiff, Nat.reduceAdd, Nat.reduceMul, ↓reduceIte, Int.reduceToNat, Int.reducePow, Int.reduceLT, Int.reduceLE, Int.reduceAdd, Int.reduceSub, Int.reduceMul, Int.reduceEq, Int.reduceNe, AllAt, bx_i, i64_succ (show i < 9223372036854775807 by omega)]
        · refine AllH_app.2 ⟨?_, ?_⟩
          · refine drop_all hrow' ?_
            simp -implicitDefEqProofs only [keys, List.map_append, List.nodup_append, List.map_cons, List.map_nil, List.mem_cons] at hk
            exact fun hm => hk.2.2 _ hm _ (.inl rfl) rfl
          · have := upd_all (x' := .box 42 [i64 f, .own c' 1 0 (i + 1) cap']) hbox (by simp -implicitDefEqProofs only [keys, List.map_append, List.nodup_append] at hk ⊢; exact hk.2.1)
            simp -implicitDefEqProofs only [bx_i, bx_c, bx_cap, rowV_ne hne, hzi2]
            rw [hzi]
            exact this
      · rw [if_neg hin] at hz
        by_cases hlo : lo ≤ f + (i : Int)
        · simp -implicitDefEqProofs -proj only [go_sem, Nat.reduceBEq, Nat.reduceLT, Nat.reduceLeDiff, Nat.reduceAdd, Nat.reduceMul, ↓reduceIte, Int.reduceToNat, Int.reducePow, Int.reduceLT, Int.reduceLE, Int.reduceAdd, Int.reduceSub, Int.reduceMul, Int.reduceEq, Int.reduceNe, h4, h9, hw, decide_eq_true hlo, decide_eq_false (show ¬ f + (i : Int) ≤ hi from fun h => hin ⟨hlo, h⟩)]
          refine AllocR_intro (fun bs hs => ?_)
          replace hs : H1 bs = none := hs
          simp -implicitDefEqProofs -proj only [go_sem, Nat.reduceBEq, Nat.reduceLT, Nat.reduceLeDiff, Nat.reduceAdd, Nat.reduceMul, ↓reduceIte, Int.reduceToNat, Int.reducePow, Int.reduceLT, Int.reduceLE, Int.reduceAdd, Int.reduceSub, Int.reduceMul, Int.reduceEq, Int.reduceNe]
          refine AppendA_grow (xs := rowI ((fillL f lo hi v l).take i)) (y := [.int .i64 x]) (t := 3) (capc := 1) [(b9, .box 42 [i64 f, rowV 1 1 c cap (rowI ((fillL f lo hi v l).take i))]), (b8, .box 42 [i64 0, .nilsl 1]), (b4, .box 42 [i64 f, slI l])] rfl (AllH_upd hs hall) hn' (by simp -implicitDefEqProofs -proj only [go_sem, Nat.reduceBEq, Nat.reduceLT, Nat.reduceLeDiff, Nat.reduceAdd, Nat.reduceMul, ↓reduceIte, Int.reduceToNat, Int.reducePow, Int.reduceLT, Int.reduceLE, Int.reduceAdd, Int.reduceSub, Int.reduceMul, Int.reduceEq, Int.reduceNe]) (by rw [hzi]; omega) (by rw [hzi]; omega) (fun H' c' cap' ha' hk => ?_)
          rw [rowI_snoc, ← hz] at ha' hk
          have hne : rowI ((fillL f lo hi v l).take (i + 1)) ≠ [] := by rw [hz]; simp [rowI]
          have hzi2 : (rowI ((fillL f lo hi v l).take (i + 1))).length = i + 1 := by rw [rowI_len, List.length_take]; omega
          obtain ⟨hrow', hbox⟩ := AllH_app.1 ha'
          simp -implicitDefEqProofs -proj only [go_sem, Nat.reduceBEq, Nat.reduceLT, Nat.reduceLeDiff, Nat.reduceAdd, Nat.reduceMul, ↓reduceIte, Int.reduceToNat, Int.reducePow, Int.reduceLT, Int.reduceLE, Int.reduceAdd, Int.reduceSub, Int.reduceMul, Int.reduceEq, Int.reduceNe, hbox.1]
          refine LoopQ_k ⟨i + 1, c', cap'⟩ ⟨by show i + 1 ≤ l.length; omega, by simpa only [keys, fillB, bx_i, bx_c, bx_cap, List.map_append, List.map_cons, List.map_nil] using hk⟩ (by show l.length + 1 - (i + 1) < l.length + 1 - i; omega) rfl ?_ ?_
          · simp -implicitDefEqProofs -proj only [go_sem, Nat.reduceBEq, Nat.reduceLT, Nat.reduceLeDiff, Nat.reduceAdd, Nat.reduceMul, ↓reduceIte, Int.reduceToNat, Int.reducePow, Int.reduceLT, Int.reduceLE, Int.reduceAdd, Int.reduceSub, Int.reduceMul, Int.reduceEq, Int.reduceNe, AllAt, bx_i, i64_succ (show i < 9223372036854775807 by omega)]
          · refine AllH_app.2 ⟨?_, ?_⟩
            · refine drop_all hrow' ?_
              simp -implicitDefEqProofs only [keys, List.map_append, List.nodup_append, List.map_cons, List.map_nil, List.mem_cons] at hk
              exact fun hm => hk.2.2 _ hm _ (.inl rfl) rfl
            · have := upd_all (x' := .box 42 [i64 f, .own c' 1 0 (i + 1) cap']) hbox (by simp -implicitDefEqProofs only [keys, List.map_append, List.nodup_append] at hk ⊢; exact hk.2.1)
              simp -implicitDefEqProofs only [bx_i, bx_c, bx_cap, rowV_ne hne, hzi2]
              rw [hzi]
              exact this
        · simp -implicitDefEqProofs -proj only [go_sem, Nat.reduceBEq, Nat.reduceLT, Nat.reduceLeDiff, Nat.reduceAdd, Nat.reduceMul, ↓reduceIte, Int.reduceToNat, Int.reducePow, Int.reduceLT, Int.reduceLE, Int.reduceAdd, Int.reduceSub, Int.reduceMul, Int.reduceEq, Int.reduceNe, h4, h9, hw, decide_eq_false hlo]
          refine AllocR_intro (fun bs hs => ?_)
          replace hs : H1 bs = none := hs
          simp -implicitDefEqProofs -proj only [go_sem, Nat.reduceBEq, Nat.reduceLT, Nat.reduceLeDiff, Nat.reduceAdd, Nat.reduceMul, ↓reduceIte, Int.reduceToNat, Int.reducePow, Int.reduceLT, Int.reduceLE, Int.reduceAdd, Int.reduceSub, Int.reduceMul, Int.reduceEq, Int.reduceNe]
          refine AppendA_grow (xs := rowI ((fillL f lo hi v l).take i)) (y := [.int .i64 x]) (t := 3) (capc := 1) [(b9, .box 42 [i64 f, rowV 1 1 c cap (rowI ((fillL f lo hi v l).take i))]), (b8, .box 42 [i64 0, .nilsl 1]), (b4, .box 42 [i64 f, slI l])] rfl (AllH_upd hs hall) hn' (by simp -implicitDefEqProofs -proj only [go_sem, Nat.reduceBEq, Nat.reduceLT, Nat.reduceLeDiff, Nat.reduceAdd, Nat.reduceMul, ↓reduceIte, Int.reduceToNat, Int.reducePow, Int.reduceLT, Int.reduceLE, Int.reduceAdd, Int.reduceSub, Int.reduceMul, Int.reduceEq, Int.reduceNe]) (by rw [hzi]; omega) (by rw [hzi]; omega) (fun H' c' cap' ha' hk => ?_)
          rw [rowI_snoc, ← hz] at ha' hk
          have hne : rowI ((fillL f lo hi v l).take (i + 1)) ≠ [] := by rw [hz]; simp [rowI]
          have hzi2 : (rowI ((fillL f lo hi v l).take (i + 1))).length = i + 1 := by rw [rowI_len, List.length_take]; omega
          obtain ⟨hrow', hbox⟩ := AllH_app.1 ha'
          simp -implicitDefEqProofs -proj only [go_sem, Nat.reduceBEq, Nat.reduceLT, Nat.reduceLeDiff, Nat.reduceAdd, Nat.reduceMul, ↓reduceIte, Int.reduceToNat, Int.reducePow, Int.reduceLT, Int.reduceLE, Int.reduceAdd, Int.reduceSub, Int.reduceMul, Int.reduceEq, Int.reduceNe, hbox.1]
          refine LoopQ_k ⟨i + 1, c', cap'⟩ ⟨by show i + 1 ≤ l.length; omega, by simpa only [keys, fillB, bx_i, bx_c, bx_cap, List.map_append, List.map_cons, List.map_nil] using hk⟩ (by show l.length + 1 - (i + 1) < l.length + 1 - i; omega) rfl ?_ ?_
          · simp -implicitDefEqProofs -proj only [go_sem, Nat.reduceBEq, Nat.reduceLT, Nat.reduceLeDiff, Nat.reduceAdd, Nat.reduceMul, ↓reduceIte, Int.reduceToNat, Int.reducePow, Int.reduceLT, Int.reduceLE, Int.reduceAdd, Int.reduceSub, Int.reduceMul, Int.reduceEq, Int.reduceNe, AllAt, bx_i, i64_succ (show i < 9223372036854775807 by omega)]
          · refine AllH_app.2 ⟨?_, ?_⟩
            · refine drop_all hrow' ?_
              simp -implicitDefEqProofs only [keys, List.map_append, List.nodup_append, List.map_cons, List.map_nil, List.mem_cons] at hk
              exact fun hm => hk.2.2 _ hm _ (.inl rfl) rfl
            · have := upd_all (x' := .box 42 [i64 f, .own c' 1 0 (i + 1) cap']) hbox (by simp -implicitDefEqProofs only [keys, List.map_append, List.nodup_append] at hk ⊢; exact hk.2.1)
              simp -implicitDefEqProofs only [bx_i, bx_c, bx_cap, rowV_ne hne, hzi2]
              rw [hzi]
              exact this
    · have hi'' : i = l.length := by omega
      subst hi''
      have htk : (fillL f lo hi v l).take l.length = fillL f lo hi v l := List.take_of_length_le (by omega)
      rw [htk] at hrow h9
      obtain ⟨m1, m2⟩ := (show ¬ b8 = b9 ∧ ¬ b9 = b8 by
        simp -implicitDefEqProofs only [keys, List.map_append, List.nodup_append, List.map_cons, List.map_nil, List.nodup_cons, List.mem_cons, not_or] at hn'
        exact ⟨fun e => hn'.2.1.1.1 e.symm, hn'.2.1.1.1⟩)
      have hb8' : b8 ∉ keys (rowH 3 1 c cap (rowI (fillL f lo hi v l))) := by
        rw [htk] at hn'
        simp -implicitDefEqProofs only [keys, List.map_append, List.nodup_append, List.map_cons, List.map_nil, List.mem_cons] at hn' ⊢
        exact fun hm => hn'.2.2 _ hm _ (.inr (.inl rfl)) rfl
      have hnew := new_ref (f := f) (rowV_new (z := 1) (drop_all (y := some (.box 42 [i64 f, rowV 1 1 c cap (rowI (fillL f lo hi v l))])) hrow hb8') rowI_scal)
      simp -implicitDefEqProofs -proj only [go_sem, Nat.reduceBEq, Nat.reduceLT, Nat.reduceLeDiff, Nat.reduceAdd, Nat.reduceMul, ↓reduceIte, Int.reduceToNat, Int.reducePow, Int.reduceLT, Int.reduceLE, Int.reduceAdd, Int.reduceSub, Int.reduceMul, Int.reduceEq, Int.reduceNe, decide_eq_false (show ¬ (l.length : Int) < l.length by omega), h8, h9, m1, m2]
      exact hnew
set_option maxRecDepth 20000 in
theorem LineFills_ok {a lo hi v : Int} {l : List Int} (hfa : Fit a) (hfl : AllFit l) (hlen : l.length ≤ 9223372036854775807) (hflo : Fit lo) (hfhi : Fit hi) (hfv : Fit v) : DataW Try.prog f_poundagelaw14_LineFills [i64 a, slI l, i64 lo, i64 hi, i64 v] (bv true) := by
  refine CallW_intro comp_poundagelaw14_LineFills (by simp) ?_
  simp -implicitDefEqProofs -proj only [go_sem, Nat.reduceBEq, Nat.reduceLT, Nat.reduceLeDiff, Nat.reduceAdd, Nat.reduceMul, ↓reduceIte, Int.reduceToNat, Int.reducePow, Int.reduceLT, Int.reduceLE, Int.reduceAdd, Int.reduceSub, Int.reduceMul, Int.reduceEq, Int.reduceNe]
  refine CallA_pure alive14_ok ?_
  simp -implicitDefEqProofs -proj only [go_sem, Nat.reduceBEq, Nat.reduceLT, Nat.reduceLeDiff, Nat.reduceAdd, Nat.reduceMul, ↓reduceIte, Int.reduceToNat, Int.reducePow, Int.reduceLT, Int.reduceLE, Int.reduceAdd, Int.reduceSub, Int.reduceMul, Int.reduceEq, Int.reduceNe]
  refine CallA_pure (great_ok hlen) ?_
  by_cases hg : 1048576 < a ∨ a < -1048576 ∨ 300 < (l.length : Int)
  · rw [decide_eq_true hg]
    simp -implicitDefEqProofs -proj only [go_sem, Nat.reduceBEq, Nat.reduceLT, Nat.reduceLeDiff, Nat.reduceAdd, Nat.reduceMul, ↓reduceIte, Int.reduceToNat, Int.reducePow, Int.reduceLT, Int.reduceLE, Int.reduceAdd, Int.reduceSub, Int.reduceMul, Int.reduceEq, Int.reduceNe]
    exact LendV_eq rfl
  rw [decide_eq_false hg]
  by_cases g1 : 1073741824 < lo
  · simp -implicitDefEqProofs -proj only [go_sem, Nat.reduceBEq, Nat.reduceLT, Nat.reduceLeDiff, Nat.reduceAdd, Nat.reduceMul, ↓reduceIte, Int.reduceToNat, Int.reducePow, Int.reduceLT, Int.reduceLE, Int.reduceAdd, Int.reduceSub, Int.reduceMul, Int.reduceEq, Int.reduceNe, decide_eq_true g1]
    exact LendV_eq rfl
  by_cases g2 : lo < -1073741824
  · simp -implicitDefEqProofs -proj only [go_sem, Nat.reduceBEq, Nat.reduceLT, Nat.reduceLeDiff, Nat.reduceAdd, Nat.reduceMul, ↓reduceIte, Int.reduceToNat, Int.reducePow, Int.reduceLT, Int.reduceLE, Int.reduceAdd, Int.reduceSub, Int.reduceMul, Int.reduceEq, Int.reduceNe, decide_eq_false g1, decide_eq_true g2]
    exact LendV_eq rfl
  by_cases g3 : 1073741824 < hi
  · simp -implicitDefEqProofs -proj only [go_sem, Nat.reduceBEq, Nat.reduceLT, Nat.reduceLeDiff, Nat.reduceAdd, Nat.reduceMul, ↓reduceIte, Int.reduceToNat, Int.reducePow, Int.reduceLT, Int.reduceLE, Int.reduceAdd, Int.reduceSub, Int.reduceMul, Int.reduceEq, Int.reduceNe, decide_eq_false g1, decide_eq_false g2, decide_eq_true g3]
    exact LendV_eq rfl
  by_cases g4 : hi < -1073741824
  · simp -implicitDefEqProofs -proj only [go_sem, Nat.reduceBEq, Nat.reduceLT, Nat.reduceLeDiff, Nat.reduceAdd, Nat.reduceMul, ↓reduceIte, Int.reduceToNat, Int.reducePow, Int.reduceLT, Int.reduceLE, Int.reduceAdd, Int.reduceSub, Int.reduceMul, Int.reduceEq, Int.reduceNe, decide_eq_false g1, decide_eq_false g2, decide_eq_false g3, decide_eq_true g4]
    exact LendV_eq rfl
  simp -implicitDefEqProofs -proj only [go_sem, Nat.reduceBEq, Nat.reduceLT, Nat.reduceLeDiff, Nat.reduceAdd, Nat.reduceMul, ↓reduceIte, Int.reduceToNat, Int.reducePow, Int.reduceLT, Int.reduceLE, Int.reduceAdd, Int.reduceSub, Int.reduceMul, Int.reduceEq, Int.reduceNe, decide_eq_false g1, decide_eq_false g2, decide_eq_false g3, decide_eq_false g4]
  have hof := Of_ok (from' := a) (l := l) (by omega) (by omega)
  have hofn := Of_new (from' := a) (l := l) (by omega) (by omega)
  have hRl := runsN_len (from' := a) (l := l) l.length
  have hfill := (Fill_new (l := runs a l) (lo := lo) (hi := hi) (v := v) (by show (runsN a l l.length).length ≤ _; omega) (by omega) (by omega) (by
    intro r hr
    obtain ⟨i, hi', rfl⟩ := List.getElem_of_mem hr
    obtain ⟨k1, k2, k3, k4, k5, k6⟩ := (runs_fwd a l).nth i _ (List.getElem?_eq_getElem hi')
    omega)).data
  rw [fill_runs] at hfill
  have href := RefFill_new (f := a) (lo := lo) (hi := hi) (v := v) (l := l) (by omega) (by omega)
  have hsame := same_ok (f := a) (l := fillL a lo hi v l) (by omega) (by rw [fillL_len]; omega)
  have heq := Equal_ok (a := runs a l) (b := runs a l) (by show (runsN a l l.length).length ≤ _; omega) (by show (runsN a l l.length).length ≤ _; omega)
  rw [decide_eq_true rfl] at heq
  have hflat := (Flat_new (lo := lo) (hi := hi) (v := v)).data
  obtain ⟨M, hM⟩ : ∃ M, runs a (fillL a lo hi v l) = M := ⟨_, rfl⟩
  rw [hM] at hsame hfill
  obtain ⟨R, hR⟩ : ∃ R, runs a l = R := ⟨_, rfl⟩
  rw [hR] at hof hofn hfill heq
  refine CallA_pure hof ?_
  simp -implicitDefEqProofs -proj only [go_sem, Nat.reduceBEq, Nat.reduceLT, Nat.reduceLeDiff, Nat.reduceAdd, Nat.reduceMul, ↓reduceIte, Int.reduceToNat, Int.reducePow, Int.reduceLT, Int.reduceLE, Int.reduceAdd, Int.reduceSub, Int.reduceMul, Int.reduceEq, Int.reduceNe]
  refine AllocA_intro (fun b11 hb11 => ?_)
  simp -implicitDefEqProofs -proj only [go_sem, Nat.reduceBEq, Nat.reduceLT, Nat.reduceLeDiff, Nat.reduceAdd, Nat.reduceMul, ↓reduceIte, Int.reduceToNat, Int.reducePow, Int.reduceLT, Int.reduceLE, Int.reduceAdd, Int.reduceSub, Int.reduceMul, Int.reduceEq, Int.reduceNe]
  refine CallA_pure hfill ?_
  simp -implicitDefEqProofs -proj only [go_sem, Nat.reduceBEq, Nat.reduceLT, Nat.reduceLeDiff, Nat.reduceAdd, Nat.reduceMul, ↓reduceIte, Int.reduceToNat, Int.reducePow, Int.reduceLT, Int.reduceLE, Int.reduceAdd, Int.reduceSub, Int.reduceMul, Int.reduceEq, Int.reduceNe]
  refine AllocA_intro (fun b12 hb12 => ?_)
  replace hb12 : upd Heap.none b11 _ b12 = none := hb12
  obtain ⟨n1, n2⟩ := fresh_ne hb12 upd_eq
  simp -implicitDefEqProofs -proj only [go_sem, Nat.reduceBEq, Nat.reduceLT, Nat.reduceLeDiff, Nat.reduceAdd, Nat.reduceMul, ↓reduceIte, Int.reduceToNat, Int.reducePow, Int.reduceLT, Int.reduceLE, Int.reduceAdd, Int.reduceSub, Int.reduceMul, Int.reduceEq, Int.reduceNe, n1, n2]
  (repeat' (with_reducible refine VC_intro ?_ (fun h => ?_); (focus first | decide | omega); clear h; try simp -implicitDefEqProofs -proj only [go_sem, Nat.reduceBEq, Nat.reduceLT, Nat.reduceLeDiff, Nat.reduceAdd, Nat.reduceMul, ↓reduceIte, Int.reduceToNat, Int.reducePow, Int.reduceLT, Int.reduceLE, Int.reduceAdd, Int.reduceSub, Int.reduceMul, Int.reduceEq, Int.reduceNe, eq_self, n1, n2]))
  refine PCallA_pure href.data ?_
  simp -implicitDefEqProofs -proj only [go_sem, Nat.reduceBEq, Nat.reduceLT, Nat.reduceLeDiff, Nat.reduceAdd, Nat.reduceMul, ↓reduceIte, Int.reduceToNat, Int.reducePow, Int.reduceLT, Int.reduceLE, Int.reduceAdd, Int.reduceSub, Int.reduceMul, Int.reduceEq, Int.reduceNe, n1, n2]
  refine CallA_pure hsame ?_
  simp -implicitDefEqProofs -proj only [go_sem, Nat.reduceBEq, Nat.reduceLT, Nat.reduceLeDiff, Nat.reduceAdd, Nat.reduceMul, ↓reduceIte, Int.reduceToNat, Int.reducePow, Int.reduceLT, Int.reduceLE, Int.reduceAdd, Int.reduceSub, Int.reduceMul, Int.reduceEq, Int.reduceNe, n1, n2]
  (repeat' (with_reducible refine VC_intro ?_ (fun h => ?_); (focus first | decide | omega); clear h; try simp -implicitDefEqProofs -proj only [go_sem, Nat.reduceBEq, Nat.reduceLT, Nat.reduceLeDiff, Nat.reduceAdd, Nat.reduceMul, ↓reduceIte, Int.reduceToNat, Int.reducePow, Int.reduceLT, Int.reduceLE, Int.reduceAdd, Int.reduceSub, Int.reduceMul, Int.reduceEq, Int.reduceNe, eq_self, n1, n2]))
  refine PCallA_pure hofn.data ?_
  simp -implicitDefEqProofs -proj only [go_sem, Nat.reduceBEq, Nat.reduceLT, Nat.reduceLeDiff, Nat.reduceAdd, Nat.reduceMul, ↓reduceIte, Int.reduceToNat, Int.reducePow, Int.reduceLT, Int.reduceLE, Int.reduceAdd, Int.reduceSub, Int.reduceMul, Int.reduceEq, Int.reduceNe, n1, n2]
  refine CallA_pure heq ?_
  simp -implicitDefEqProofs -proj only [go_sem, Nat.reduceBEq, Nat.reduceLT, Nat.reduceLeDiff, Nat.reduceAdd, Nat.reduceMul, ↓reduceIte, Int.reduceToNat, Int.reducePow, Int.reduceLT, Int.reduceLE, Int.reduceAdd, Int.reduceSub, Int.reduceMul, Int.reduceEq, Int.reduceNe, n1, n2]
  refine CallA_pure hflat ?_
  simp -implicitDefEqProofs -proj only [go_sem, Nat.reduceBEq, Nat.reduceLT, Nat.reduceLeDiff, Nat.reduceAdd, Nat.reduceMul, ↓reduceIte, Int.reduceToNat, Int.reducePow, Int.reduceLT, Int.reduceLE, Int.reduceAdd, Int.reduceSub, Int.reduceMul, Int.reduceEq, Int.reduceNe, n1, n2]
  refine AllocA_intro (fun b13 hb13 => ?_)
  by_cases h : hi < lo
  · rw [if_pos h] at *
    simp -implicitDefEqProofs -proj only [go_sem, Nat.reduceBEq, Nat.reduceLT, Nat.reduceLeDiff, Nat.reduceAdd, Nat.reduceMul, ↓reduceIte, Int.reduceToNat, Int.reducePow, Int.reduceLT, Int.reduceLE, Int.reduceAdd, Int.reduceSub, Int.reduceMul, Int.reduceEq, Int.reduceNe, n1, n2]
    refine CallA_pure (Span_ok (R := []) (by simp)) ?_
    simp -implicitDefEqProofs -proj only [go_sem, Nat.reduceBEq, Nat.reduceLT, Nat.reduceLeDiff, Nat.reduceAdd, Nat.reduceMul, ↓reduceIte, Int.reduceToNat, Int.reducePow, Int.reduceLT, Int.reduceLE, Int.reduceAdd, Int.reduceSub, Int.reduceMul, Int.reduceEq, Int.reduceNe, spanV, n1, n2, decide_eq_true h]
    refine CallA_pure (Count_ok (a := [])) ?_
    simp -implicitDefEqProofs -proj only [go_sem, Nat.reduceBEq, Nat.reduceLT, Nat.reduceLeDiff, Nat.reduceAdd, Nat.reduceMul, ↓reduceIte, Int.reduceToNat, Int.reducePow, Int.reduceLT, Int.reduceLE, Int.reduceAdd, Int.reduceSub, Int.reduceMul, Int.reduceEq, Int.reduceNe]
    exact LendV_eq rfl
  · rw [if_neg h] at *
    have hat := At_ok (l := [⟨lo, hi, v⟩]) (x := hi) (by simp) (by intro i j h1 h2; simp at *)
    rw [show atF [⟨lo, hi, v⟩] hi = some v by simp [atF_cons]; omega] at hat
    simp -implicitDefEqProofs -proj only [go_sem, Nat.reduceBEq, Nat.reduceLT, Nat.reduceLeDiff, Nat.reduceAdd, Nat.reduceMul, ↓reduceIte, Int.reduceToNat, Int.reducePow, Int.reduceLT, Int.reduceLE, Int.reduceAdd, Int.reduceSub, Int.reduceMul, Int.reduceEq, Int.reduceNe, n1, n2]
    have hspan := Span_ok (R := [⟨lo, hi, v⟩]) (by simp)
    rw [show spanV [⟨lo, hi, v⟩] = .tup [i64 lo, i64 hi, bv true] from rfl] at hspan
    refine CallA_pure hspan ?_
    simp -implicitDefEqProofs -proj only [go_sem, Nat.reduceBEq, Nat.reduceLT, Nat.reduceLeDiff, Nat.reduceAdd, Nat.reduceMul, ↓reduceIte, Int.reduceToNat, Int.reducePow, Int.reduceLT, Int.reduceLE, Int.reduceAdd, Int.reduceSub, Int.reduceMul, Int.reduceEq, Int.reduceNe, n1, n2, decide_eq_false h]
    refine CallA_pure hat ?_
    simp -implicitDefEqProofs -proj only [go_sem, Nat.reduceBEq, Nat.reduceLT, Nat.reduceLeDiff, Nat.reduceAdd, Nat.reduceMul, ↓reduceIte, Int.reduceToNat, Int.reducePow, Int.reduceLT, Int.reduceLE, Int.reduceAdd, Int.reduceSub, Int.reduceMul, Int.reduceEq, Int.reduceNe, optR]
    refine CallA_pure (Count_ok (a := [⟨lo, hi, v⟩])) ?_
    simp -implicitDefEqProofs -proj only [go_sem, Nat.reduceBEq, Nat.reduceLT, Nat.reduceLeDiff, Nat.reduceAdd, Nat.reduceMul, ↓reduceIte, Int.reduceToNat, Int.reducePow, Int.reduceLT, Int.reduceLE, Int.reduceAdd, Int.reduceSub, Int.reduceMul, Int.reduceEq, Int.reduceNe]
    exact LendV_eq rfl
end Go.Proofs.Ytgfimmaligcgjaa.Abs
