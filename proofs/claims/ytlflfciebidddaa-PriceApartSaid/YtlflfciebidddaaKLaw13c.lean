/- The law PriceApart. No claim stands here. -/
import Derived.Test.YtlflfciebidddaaKLaw13
import Derived.Test.YtlflfciebidddaaKCostQ
set_option maxRecDepth 100000
set_option linter.unusedSimpArgs false
set_option linter.unusedVariables false
namespace Go.Proofs.Ytlflfciebidddaa.Abs
open Go Go.RowKit Go.Proofs
attribute [local go_sem] RunC_seq AF_n AF_r AF_b St_n St_t St_H Fst_mk Snd_mk RunC_ops RunC_cond RunC_block RunC_loop RunC_exit RunC_ret RunC_skip RunO_nil RunO_code RunO_code_ret RunO_code_exit RunO_blk RunO_blk_ret RunO_blk_exit RunL_nil RunL_guard GuardA_tt GuardA_ff GuardA_tf GuardA_ft GuardA_void CondA_t CondA_f PickA_t PickA_f RunL_mov RunL_pick RunL_alloc RunL_box RunL_load LoadA_ptr LoadB_1 LoadB_n LoadA_dptr LoadA_dptr_n RunL_store StoreA_ptr StoreB_box RunL_bin Bin_add Bin_sub Bin_mul Bin_quo Bin_rem Bin_shl Bin_shr Bin_andI Bin_orI Bin_xorI Bin_eql Bin_neq Bin_lss Bin_leq Bin_gtr Bin_geq RunL_binb Bin_beql Bin_bneq RunL_un UnA_not UnA_neg RunL_conv convV MapA_some RunL_nilCheck nilV RunL_mkfn RunL_fieldAddr faV RunL_field FieldA_1 FieldA_n RunL_elemAddr EAddrA_sl EAddrA_own EptrA_eq RunL_build BuildA_some RunL_extract ExtA_eq RunL_len lenV_sl lenV_nilsl lenV_own RunL_slen RunL_idxStr IdxSA_eq slenV RunL_minmax mmV minmaxL RunL_call RunL_callv CallvA_fn putS ev evL evO evP eqK eqKs EqB_agg RunL_eqAgg EqA_t EqA_f evQ buildC fits_agg cellsAV_agg fits_d cellsAV_d fits_nilp cellsAV_nilp fits_nilsl cellsAV_nilsl fits_nilfn cellsAV_nilfn fits_ptr cellsAV_ptr fits_eptr cellsAV_eptr fits_dptr cellsAV_dptr fits_own cellsAV_own fits_fn cellsAV_fn rowV_fits rowV_cells rowV_len lenAV setSeg nth seg mapD repeatL putT_get upd_get argT keepT_cons keepT_nil keepH_cons keepH_nil cond_true cond_false VC_true finW resW resL resOne LoopQ_exit LoopQ_ret List.cons_append List.nil_append Bool.not_true Bool.not_false Bool.and_true Bool.and_self Nat.lt_add_left_iff_pos Nat.zero_add Nat.add_zero List.drop_succ_cons List.drop_zero List.take_succ_cons List.take_zero beq_self_eq_true Bool.false_eq_true RunC_dops RunL_loadS RunL_loadD LoadDA_dptr RunL_storeS StoreSA_ptr RunL_pcall RunL_pcallv PCallvA_fn newsOk and_self and_true true_and loadW_ptr LoadK_1 LoadK_n upd_upd RunL_loadP LoadPA_ptr RunL_callS RunL_make RunL_buildSlice BSliceA_some RunL_buildSliceD frzL frz cutL LoadA_eptr LoadE_row RunL_append RunL_slice SliceA_sl StoreA_eptr List.length_cons List.length_nil Nat.min_def Int.cast_ofNat_Int Int.natCast_zero Int.natCast_one decide_true decide_false List.getElem?_cons_zero List.getElem?_cons_succ RunC_rangef CallvA_yld putL_nil putL_cons RangeQ_exit RangeQ_ret
theorem rowI_rep {n : Nat} : List.replicate n [D.int .i64 0] = rowI (List.replicate n 0) := by simp [rowI]
theorem rowI_set {l : List Int} {i : Nat} {x : Int} : (rowI l).set i [.int .i64 x] = rowI (l.set i x) := by simp [rowI, List.map_set]
def apartV (c : CoreX) (d : Int) (b : List Int) (i : Nat) : Int := dayF c d + sg (fun m => dayQ c d m (bq b m)) i
theorem PriceApart_ok {c : CoreX} {d : Int} {b : List Int} (hc : c.Fit) (hd : Fit d) (hfb : AllFit b) (hbn : b.length ≤ 9223372036854775807) : DataW Try.prog f_poundagelaw13_PriceApart [coreX c, i64 d, slI b] (bv true) := by
  have hpall := Price_ok (d := d) (b := b) hc hbn
  have hpz := Price_ok (d := d) (b := List.replicate b.length 0) hc (by rw [List.length_replicate]; exact hbn)
  have hpo : ∀ (i : Nat) (q : Int), DataW Try.prog f_price_Price [coreX c, i64 d, slI ((List.replicate b.length 0).set i q)] (.tup [i64 (priceF c d ((List.replicate b.length 0).set i q)).1, i64 (priceF c d ((List.replicate b.length 0).set i q)).2]) := fun i q => Price_ok hc (by rw [List.length_set, List.length_replicate]; exact hbn)
  have k1 := price_of (c := c) (d := d) (b := b)
  have u1 := price_fit (c := c) (d := d) (b := b)
  have u2 := price_fit (c := c) (d := d) (b := List.replicate b.length 0)
  have u3 := fun (i : Nat) (q : Int) => price_fit (c := c) (d := d) (b := (List.replicate b.length 0).set i q)
  have k2 := price_of (c := c) (d := d) (b := List.replicate b.length 0)
  have k3 := fun (i : Nat) (q : Int) => price_of (c := c) (d := d) (b := (List.replicate b.length 0).set i q)
  refine CallW_intro comp_poundagelaw13_PriceApart (by simp) ?_
  simp -implicitDefEqProofs -proj only [go_sem, Nat.reduceBEq, Nat.reduceLT, Nat.reduceLeDiff, Nat.reduceAdd, Nat.reduceMul, ↓reduceIte, Int.reduceToNat, Int.reducePow, Int.reduceLT, Int.reduceLE, Int.reduceAdd, Int.reduceSub, Int.reduceMul, Int.reduceEq, Int.reduceNe]
  refine AllocA_intro (fun b3 hb3 => ?_)
  simp -implicitDefEqProofs -proj only [go_sem, Nat.reduceBEq, Nat.reduceLT, Nat.reduceLeDiff, Nat.reduceAdd, Nat.reduceMul, ↓reduceIte, Int.reduceToNat, Int.reducePow, Int.reduceLT, Int.reduceLE, Int.reduceAdd, Int.reduceSub, Int.reduceMul, Int.reduceEq, Int.reduceNe]
  refine CallA_pure alive13_ok ?_
  simp -implicitDefEqProofs -proj only [go_sem, Nat.reduceBEq, Nat.reduceLT, Nat.reduceLeDiff, Nat.reduceAdd, Nat.reduceMul, ↓reduceIte, Int.reduceToNat, Int.reducePow, Int.reduceLT, Int.reduceLE, Int.reduceAdd, Int.reduceSub, Int.reduceMul, Int.reduceEq, Int.reduceNe]
  refine CallA_pure Great_ok ?_
  by_cases g1 : greatC c
  · simp -implicitDefEqProofs -proj only [go_sem, Nat.reduceBEq, Nat.reduceLT, Nat.reduceLeDiff, Nat.reduceAdd, Nat.reduceMul, ↓reduceIte, Int.reduceToNat, Int.reducePow, Int.reduceLT, Int.reduceLE, Int.reduceAdd, Int.reduceSub, Int.reduceMul, Int.reduceEq, Int.reduceNe, decide_eq_true g1]
    exact LendV_eq rfl
  by_cases g2 : 4 < (b.length : Int)
  · simp -implicitDefEqProofs -proj only [go_sem, Nat.reduceBEq, Nat.reduceLT, Nat.reduceLeDiff, Nat.reduceAdd, Nat.reduceMul, ↓reduceIte, Int.reduceToNat, Int.reducePow, Int.reduceLT, Int.reduceLE, Int.reduceAdd, Int.reduceSub, Int.reduceMul, Int.reduceEq, Int.reduceNe, rowI_len, decide_eq_false g1, decide_eq_true g2]
    exact LendV_eq rfl
  simp -implicitDefEqProofs -proj only [go_sem, Nat.reduceBEq, Nat.reduceLT, Nat.reduceLeDiff, Nat.reduceAdd, Nat.reduceMul, ↓reduceIte, Int.reduceToNat, Int.reducePow, Int.reduceLT, Int.reduceLE, Int.reduceAdd, Int.reduceSub, Int.reduceMul, Int.reduceEq, Int.reduceNe, rowI_len, decide_eq_false g1, decide_eq_false g2]
  refine CallA_pure hpall ?_
  generalize hpa : priceF c d b = pa at *
  obtain ⟨all, ea⟩ := pa
  simp -implicitDefEqProofs only [] at k1 ⊢
  by_cases g3 : ea = 0
  rotate_left
  · simp -implicitDefEqProofs -proj only [go_sem, Nat.reduceBEq, Nat.reduceLT, Nat.reduceLeDiff, Nat.reduceAdd, Nat.reduceMul, ↓reduceIte, Int.reduceToNat, Int.reducePow, Int.reduceLT, Int.reduceLE, Int.reduceAdd, Int.reduceSub, Int.reduceMul, Int.reduceEq, Int.reduceNe, rowI_len, decide_eq_false g3, Bool.not_false]
    exact LendV_eq rfl
  obtain ⟨hg, hin, hbk, hall⟩ := k1 g3
  have hlen : b.length = c.ms.length := hbk.1
  have hme : ∀ x ∈ c.ps, 0 ≤ x.me ∧ x.me < (c.ms.length : Int) := (fitsC.bnd hg).me
  by_cases g4 : 1152921504606846976 < all
  · simp -implicitDefEqProofs -proj only [go_sem, Nat.reduceBEq, Nat.reduceLT, Nat.reduceLeDiff, Nat.reduceAdd, Nat.reduceMul, ↓reduceIte, Int.reduceToNat, Int.reducePow, Int.reduceLT, Int.reduceLE, Int.reduceAdd, Int.reduceSub, Int.reduceMul, Int.reduceEq, Int.reduceNe, rowI_len, decide_eq_true g3, Bool.not_true, decide_eq_true g4]
    exact LendV_eq rfl
  simp -implicitDefEqProofs -proj only [go_sem, Nat.reduceBEq, Nat.reduceLT, Nat.reduceLeDiff, Nat.reduceAdd, Nat.reduceMul, ↓reduceIte, Int.reduceToNat, Int.reducePow, Int.reduceLT, Int.reduceLE, Int.reduceAdd, Int.reduceSub, Int.reduceMul, Int.reduceEq, Int.reduceNe, rowI_len, decide_eq_true g3, Bool.not_true, decide_eq_false g4]
  refine MakeA_1 (by omega) (by omega) (fun b42 hb42 => ?_)
  replace hb42 : upd Heap.none b3 _ b42 = none := hb42
  obtain ⟨n1, n2⟩ := fresh_ne hb42 upd_eq
  simp -implicitDefEqProofs -proj only [go_sem, Nat.reduceBEq, Nat.reduceLT, Nat.reduceLeDiff, Nat.reduceAdd, Nat.reduceMul, ↓reduceIte, Int.reduceToNat, Int.reducePow, Int.reduceLT, Int.reduceLE, Int.reduceAdd, Int.reduceSub, Int.reduceMul, Int.reduceEq, Int.reduceNe, rowI_len, n1, n2, rowI_rep]
  refine CallA_lend hpz (lend_cons (.refl _) (lend_cons (.refl _) (lend_cons (lend_own (by first | exact upd_eq | exact rfl) (by rw [rowI_len, List.length_replicate])) lend_nil))) rfl ?_
  generalize hpn : priceF c d (List.replicate b.length 0) = pn at *
  obtain ⟨non, en⟩ := pn
  simp -implicitDefEqProofs only [] at k2 ⊢
  by_cases g5 : en = 0
  rotate_left
  · simp -implicitDefEqProofs -proj only [go_sem, Nat.reduceBEq, Nat.reduceLT, Nat.reduceLeDiff, Nat.reduceAdd, Nat.reduceMul, ↓reduceIte, Int.reduceToNat, Int.reducePow, Int.reduceLT, Int.reduceLE, Int.reduceAdd, Int.reduceSub, Int.reduceMul, Int.reduceEq, Int.reduceNe, rowI_len, n1, n2, decide_eq_false g5, Bool.not_false]
    exact LendV_eq rfl
  obtain ⟨_, _, _, hnon⟩ := k2 g5
  rw [cost_zero hme] at hnon
  by_cases g6 : 1152921504606846976 < non
  · simp -implicitDefEqProofs -proj only [go_sem, Nat.reduceBEq, Nat.reduceLT, Nat.reduceLeDiff, Nat.reduceAdd, Nat.reduceMul, ↓reduceIte, Int.reduceToNat, Int.reducePow, Int.reduceLT, Int.reduceLE, Int.reduceAdd, Int.reduceSub, Int.reduceMul, Int.reduceEq, Int.reduceNe, rowI_len, n1, n2, decide_eq_true g5, Bool.not_true, decide_eq_true g6]
    exact LendV_eq rfl
  have hfn : Fit non := u2
  have hfa : Fit all := u1
  simp -implicitDefEqProofs -proj only [go_sem, Nat.reduceBEq, Nat.reduceLT, Nat.reduceLeDiff, Nat.reduceAdd, Nat.reduceMul, ↓reduceIte, Int.reduceToNat, Int.reducePow, Int.reduceLT, Int.reduceLE, Int.reduceAdd, Int.reduceSub, Int.reduceMul, Int.reduceEq, Int.reduceNe, rowI_len, n1, n2, decide_eq_true g5, Bool.not_true, decide_eq_false g6]
  refine LoopA_k (fun y : Nat × Int => y.1 ≤ b.length ∧ Fit y.2 ∧ (apartV c d b y.1 - y.2) % 18446744073709551616 = 0) 93 (fun y => [(1, i64 d), (2, slI b), (3, .ptr b3 0), (7, i64 all), (10, i64 non), (12, i64 y.2), (57, slI b), (58, i64 b.length), (59, i64 y.1)]) (fun _ => [(b3, coreB c)]) (fun y => b.length - y.1) (0, non) ⟨Nat.zero_le _, hfn, by simp [apartV, sg, hnon]⟩ rfl ?_ ?_ ?_
  · simp -implicitDefEqProofs -proj only [go_sem, Nat.reduceBEq, Nat.reduceLT, Nat.reduceLeDiff, Nat.reduceAdd, Nat.reduceMul, ↓reduceIte, Int.reduceToNat, Int.reducePow, Int.reduceLT, Int.reduceLE, Int.reduceAdd, Int.reduceSub, Int.reduceMul, Int.reduceEq, Int.reduceNe, AllAt, rowI_len]
  · refine ⟨?_, trivial⟩
    show upd (upd Heap.none b3 _) b42 _ b3 = _
    rw [upd_ne n1]; exact upd_eq
  · rintro ⟨i, s⟩ ⟨hi, hfs, hs⟩
    simp -implicitDefEqProofs only [Fst_mk, Snd_mk] at hi hfs hs
    have hk : AllH (keepH [(b3, coreB c)]) [(b3, coreB c)] := keepH_all (by simp [keys])
    have kk3 := hk.1
    by_cases h : i < b.length
    · have hel := rowI_nth h
      have hbq : bq b (i : Int) = b[i] := by unfold bq; rw [Int.toNat_natCast, List.getD_eq_getElem?_getD, List.getElem?_eq_getElem h, Option.getD_some]
      have hstep : apartV c d b (i + 1) = apartV c d b i + dayQ c d i b[i] := by unfold apartV; rw [sg, hbq]; omega
      have hone := hpo i b[i]
      have k3 := k3 i b[i]
      have u3 := u3 i b[i]
      rw [cost_one hme d h hlen] at k3
      generalize b[i] = q at *
      generalize hpp : priceF c d ((List.replicate b.length 0).set i q) = pp at *
      obtain ⟨n, en'⟩ := pp
      simp -implicitDefEqProofs only [] at k3 hone u3
      simp -implicitDefEqProofs -proj only [go_sem, Nat.reduceBEq, Nat.reduceLT, Nat.reduceLeDiff, Nat.reduceAdd, Nat.reduceMul, ↓reduceIte, Int.reduceToNat, Int.reducePow, Int.reduceLT, Int.reduceLE, Int.reduceAdd, Int.reduceSub, Int.reduceMul, Int.reduceEq, Int.reduceNe, decide_eq_true (show (i : Int) < b.length by omega), rowI_len]
      refine ElemA_at _ (by omega) hel ?_
      simp -implicitDefEqProofs -proj only [go_sem, Nat.reduceBEq, Nat.reduceLT, Nat.reduceLeDiff, Nat.reduceAdd, Nat.reduceMul, ↓reduceIte, Int.reduceToNat, Int.reducePow, Int.reduceLT, Int.reduceLE, Int.reduceAdd, Int.reduceSub, Int.reduceMul, Int.reduceEq, Int.reduceNe, rowI_len]
      refine MakeA_1 (by omega) (by omega) (fun b15 hb15 => ?_)
      replace hb15 : keepH [(b3, coreB c)] b15 = none := hb15
      obtain ⟨m1, m2⟩ := fresh_ne hb15 kk3
      simp -implicitDefEqProofs -proj only [go_sem, Nat.reduceBEq, Nat.reduceLT, Nat.reduceLeDiff, Nat.reduceAdd, Nat.reduceMul, ↓reduceIte, Int.reduceToNat, Int.reducePow, Int.reduceLT, Int.reduceLE, Int.reduceAdd, Int.reduceSub, Int.reduceMul, Int.reduceEq, Int.reduceNe, rowI_rep, m1, m2, eq_self]
      refine VC_intro ⟨by omega, by omega⟩ (fun _ => ?_)
      rw [Int.toNat_natCast]
      refine StoreE_1 (el := [.int .i64 0]) upd_eq (rowI_at (by simp [h])) (by simp) ?_
      simp -implicitDefEqProofs -proj only [go_sem, Nat.reduceBEq, Nat.reduceLT, Nat.reduceLeDiff, Nat.reduceAdd, Nat.reduceMul, ↓reduceIte, Int.reduceToNat, Int.reducePow, Int.reduceLT, Int.reduceLE, Int.reduceAdd, Int.reduceSub, Int.reduceMul, Int.reduceEq, Int.reduceNe, setSegD, rowI_set, kk3, m1, m2]
      refine CallA_lend hone (lend_cons (.refl _) (lend_cons (.refl _) (lend_cons (lend_own upd_eq (by rw [rowI_len, List.length_set, List.length_replicate])) lend_nil))) rfl ?_
      by_cases g7 : en' = 0
      rotate_left
      · simp -implicitDefEqProofs -proj only [go_sem, Nat.reduceBEq, Nat.reduceLT, Nat.reduceLeDiff, Nat.reduceAdd, Nat.reduceMul, ↓reduceIte, Int.reduceToNat, Int.reducePow, Int.reduceLT, Int.reduceLE, Int.reduceAdd, Int.reduceSub, Int.reduceMul, Int.reduceEq, Int.reduceNe, decide_eq_false g7, Bool.not_false]
        exact LendV_eq rfl
      obtain ⟨_, _, _, hn⟩ := k3 g7
      by_cases g8 : 1152921504606846976 < n
      · simp -implicitDefEqProofs -proj only [go_sem, Nat.reduceBEq, Nat.reduceLT, Nat.reduceLeDiff, Nat.reduceAdd, Nat.reduceMul, ↓reduceIte, Int.reduceToNat, Int.reducePow, Int.reduceLT, Int.reduceLE, Int.reduceAdd, Int.reduceSub, Int.reduceMul, Int.reduceEq, Int.reduceNe, decide_eq_true g7, Bool.not_true, decide_eq_true g8]
        exact LendV_eq rfl
      simp -implicitDefEqProofs -proj only [go_sem, Nat.reduceBEq, Nat.reduceLT, Nat.reduceLeDiff, Nat.reduceAdd, Nat.reduceMul, ↓reduceIte, Int.reduceToNat, Int.reducePow, Int.reduceLT, Int.reduceLE, Int.reduceAdd, Int.reduceSub, Int.reduceMul, Int.reduceEq, Int.reduceNe, decide_eq_true g7, Bool.not_true, decide_eq_false g8]
      refine LoopQ_k (i + 1, IntKind.i64.wrap (IntKind.i64.wrap (s + n) - non)) ⟨by rw [Fst_mk]; omega, ?_, ?_⟩ (by show b.length - (i + 1) < b.length - i; omega) rfl ?_ (AllH_upd hb15 hk)
      · simp -implicitDefEqProofs only [Snd_mk]
        rw [IntKind.wrap_i64 (_ - _)]
        unfold Fit; omega
      · simp -implicitDefEqProofs only [Snd_mk, Fst_mk]
        rw [IntKind.wrap_i64 (_ - _), IntKind.wrap_i64, hstep]
        omega
      · simp -implicitDefEqProofs -proj only [go_sem, Nat.reduceBEq, Nat.reduceLT, Nat.reduceLeDiff, Nat.reduceAdd, Nat.reduceMul, ↓reduceIte, Int.reduceToNat, Int.reducePow, Int.reduceLT, Int.reduceLE, Int.reduceAdd, Int.reduceSub, Int.reduceMul, Int.reduceEq, Int.reduceNe, AllAt, i64_succ (show i < 9223372036854775807 by omega)]
    · have hi' : i = b.length := by omega
      subst hi'
      simp -implicitDefEqProofs -proj only [go_sem, Nat.reduceBEq, Nat.reduceLT, Nat.reduceLeDiff, Nat.reduceAdd, Nat.reduceMul, ↓reduceIte, Int.reduceToNat, Int.reducePow, Int.reduceLT, Int.reduceLE, Int.reduceAdd, Int.reduceSub, Int.reduceMul, Int.reduceEq, Int.reduceNe, decide_eq_false (show ¬ (b.length : Int) < b.length by omega)]
      have e : all = apartV c d b b.length := by rw [hall, cost_day hme, apartV, hlen]
      have : s = all := by
        rw [← e] at hs
        unfold Fit at hfs hfa
        omega
      rw [decide_eq_true this]
      exact LendV_eq rfl
end Go.Proofs.Ytlflfciebidddaa.Abs
