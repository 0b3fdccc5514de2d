/- The laws of layer 15. No claim stands here. -/
import Derived.Test.YtonlgniaoompaaaKLine15
set_option linter.unusedSimpArgs false
set_option linter.unusedVariables false
namespace Go.Proofs.Ytonlgniaoompaaa.Abs
open Go Go.RowKit Go.Proofs
attribute [local go_sem] RunC_seq AF_n AF_r AF_b St_n St_t St_H Fst_mk Snd_mk RunC_ops RunC_cond RunC_block RunC_loop RunC_exit RunC_ret RunC_skip RunO_nil RunO_code RunO_code_ret RunO_code_exit RunO_blk RunO_blk_ret RunO_blk_exit RunL_nil RunL_guard GuardA_tt GuardA_ff GuardA_tf GuardA_ft GuardA_void CondA_t CondA_f PickA_t PickA_f RunL_mov RunL_pick RunL_alloc RunL_box RunL_load LoadA_ptr LoadB_1 LoadB_n LoadA_dptr LoadA_dptr_n RunL_store StoreA_ptr StoreB_box RunL_bin Bin_add Bin_sub Bin_mul Bin_quo Bin_rem Bin_shl Bin_shr Bin_andI Bin_orI Bin_xorI Bin_eql Bin_neq Bin_lss Bin_leq Bin_gtr Bin_geq RunL_binb Bin_beql Bin_bneq RunL_un UnA_not UnA_neg RunL_conv convV MapA_some RunL_nilCheck nilV RunL_mkfn RunL_fieldAddr faV RunL_field FieldA_1 FieldA_n RunL_elemAddr EAddrA_sl EAddrA_own EptrA_eq RunL_build BuildA_some RunL_extract ExtA_eq RunL_len lenV_sl lenV_nilsl lenV_own RunL_slen RunL_idxStr IdxSA_eq slenV RunL_minmax mmV minmaxL RunL_call RunL_callv CallvA_fn putS ev evL evO evP eqK eqKs EqB_agg RunL_eqAgg EqA_t EqA_f evQ buildC fits_agg cellsAV_agg fits_d cellsAV_d fits_nilp cellsAV_nilp fits_nilsl cellsAV_nilsl fits_nilfn cellsAV_nilfn fits_ptr cellsAV_ptr fits_eptr cellsAV_eptr fits_dptr cellsAV_dptr fits_own cellsAV_own fits_fn cellsAV_fn rowV_fits rowV_cells rowV_len lenAV setSeg nth seg mapD repeatL putT_get upd_get argT keepT_cons keepT_nil keepH_cons keepH_nil cond_true cond_false VC_true finW resW resL resOne LoopQ_exit LoopQ_ret List.cons_append List.nil_append Bool.not_true Bool.not_false Bool.and_true Bool.and_self Nat.lt_add_left_iff_pos Nat.zero_add Nat.add_zero List.drop_succ_cons List.drop_zero List.take_succ_cons List.take_zero beq_self_eq_true Bool.false_eq_true RunC_dops RunL_loadS RunL_loadD LoadDA_dptr RunL_storeS StoreSA_ptr RunL_pcall RunL_pcallv PCallvA_fn newsOk and_self and_true true_and loadW_ptr LoadK_1 LoadK_n upd_upd RunL_buildSlice BSliceA_some RunL_buildSliceD frzL frz cutL LoadA_eptr LoadE_row RunL_append RunL_slice SliceA_sl StoreA_eptr List.length_cons List.length_nil Nat.min_def Int.cast_ofNat_Int Int.natCast_zero Int.natCast_one decide_true decide_false List.getElem?_cons_zero List.getElem?_cons_succ RunC_rangef CallvA_yld putL_nil putL_cons RangeQ_exit RangeQ_ret
theorem cur6 : CurL [0, 0, 3, 3, 6, 6] := ⟨by simp, by simp, by decide⟩
theorem gps6 : gps [0, 0, 3, 3, 6, 6] = [⟨0, 0, 2, 3, 3⟩] := by decide +kernel
theorem alive15_ok : DataW Try.prog f_poundagelaw15_alive [] (bv true) := by
  have h1 := Of_new (from' := 0) (l := [0, 0, 3, 3, 6, 6]) (by decide) (by decide)
  have h2 := (OfL_ok (l := [0, 0, 3, 3, 6, 6]) (by decide)).data
  rw [if_pos cur6] at h2
  have h3 : DataW Try.prog f_curve_At [curL [0, 0, 3, 3, 6, 6], i64 3] (.tup [i64 3, bv true]) := AtL_ok cur6 (i := 3) (by decide)
  have h4 := GoodL_ok cur6
  unfold curL at h2 h3 h4
  rw [gps6] at h2 h3 h4
  generalize runs 0 [0, 0, 3, 3, 6, 6] = R at *
  refine CallW_intro comp_poundagelaw15_alive (by simp) ?_
  simp -implicitDefEqProofs -proj only [go_sem, Nat.reduceBEq, Nat.reduceLT, Nat.reduceLeDiff, Nat.reduceAdd, Nat.reduceMul, ↓reduceIte, Int.reduceToNat, Int.reducePow, Int.reduceLT, Int.reduceLE, Int.reduceAdd, Int.reduceSub, Int.reduceMul, Int.reduceEq, Int.reduceNe]
  refine AllocR_intro (fun bs hs => ?_)
  simp -implicitDefEqProofs -proj only [go_sem, Nat.reduceBEq, Nat.reduceLT, Nat.reduceLeDiff, Nat.reduceAdd, Nat.reduceMul, ↓reduceIte, Int.reduceToNat, Int.reducePow, Int.reduceLT, Int.reduceLE, Int.reduceAdd, Int.reduceSub, Int.reduceMul, Int.reduceEq, Int.reduceNe]
  refine CallA_new h1 (lend_cons (.refl _) (lend_cons (lend_own upd_eq rfl) lend_nil)) ?_
  simp -implicitDefEqProofs -proj only [go_sem, Nat.reduceBEq, Nat.reduceLT, Nat.reduceLeDiff, Nat.reduceAdd, Nat.reduceMul, ↓reduceIte, Int.reduceToNat, Int.reducePow, Int.reduceLT, Int.reduceLE, Int.reduceAdd, Int.reduceSub, Int.reduceMul, Int.reduceEq, Int.reduceNe]
  refine CallA_pure h2 ?_
  simp -implicitDefEqProofs -proj only [go_sem, Nat.reduceBEq, Nat.reduceLT, Nat.reduceLeDiff, Nat.reduceAdd, Nat.reduceMul, ↓reduceIte, Int.reduceToNat, Int.reducePow, Int.reduceLT, Int.reduceLE, Int.reduceAdd, Int.reduceSub, Int.reduceMul, Int.reduceEq, Int.reduceNe]
  refine AllocA_intro (fun b1 hb1 => ?_)
  simp -implicitDefEqProofs -proj only [go_sem, Nat.reduceBEq, Nat.reduceLT, Nat.reduceLeDiff, Nat.reduceAdd, Nat.reduceMul, ↓reduceIte, Int.reduceToNat, Int.reducePow, Int.reduceLT, Int.reduceLE, Int.reduceAdd, Int.reduceSub, Int.reduceMul, Int.reduceEq, Int.reduceNe]
  refine CallA_pure h3 ?_
  simp -implicitDefEqProofs -proj only [go_sem, Nat.reduceBEq, Nat.reduceLT, Nat.reduceLeDiff, Nat.reduceAdd, Nat.reduceMul, ↓reduceIte, Int.reduceToNat, Int.reducePow, Int.reduceLT, Int.reduceLE, Int.reduceAdd, Int.reduceSub, Int.reduceMul, Int.reduceEq, Int.reduceNe, decide_eq_true (show ((rowG [(⟨0, 0, 2, 3, 3⟩ : Grp)]).length : Int) = 1 from rfl)]
  refine ElemA_at [.int .i64 0, .int .i64 0, .int .i64 2, .int .i64 3, .int .i64 3] (by decide) rfl ?_
  simp -implicitDefEqProofs -proj only [go_sem, Nat.reduceBEq, Nat.reduceLT, Nat.reduceLeDiff, Nat.reduceAdd, Nat.reduceMul, ↓reduceIte, Int.reduceToNat, Int.reducePow, Int.reduceLT, Int.reduceLE, Int.reduceAdd, Int.reduceSub, Int.reduceMul, Int.reduceEq, Int.reduceNe]
  refine CallA_pure h4 ?_
  simp -implicitDefEqProofs -proj only [go_sem, Nat.reduceBEq, Nat.reduceLT, Nat.reduceLeDiff, Nat.reduceAdd, Nat.reduceMul, ↓reduceIte, Int.reduceToNat, Int.reducePow, Int.reduceLT, Int.reduceLE, Int.reduceAdd, Int.reduceSub, Int.reduceMul, Int.reduceEq, Int.reduceNe]
  exact LendV_eq rfl
theorem gps_inj {a b : List Int} : ((a.length : Int) - 1 = (b.length : Int) - 1 ∧ gps a = gps b) ↔ a = b := by
  constructor
  · rintro ⟨h1, h2⟩
    refine List.ext_getElem (by omega) fun i hi hj => ?_
    have e1 := gps_at hi
    have e2 := gps_at hj
    rw [h2, e2] at e1
    exact (Option.some.inj e1).symm
  · rintro rfl; exact ⟨rfl, rfl⟩
theorem tk_iff {a b : List Int} {i : Nat} (h : i < a.length) : (a.length = b.length ∧ a.take (i + 1) = b.take (i + 1)) ↔ (a.length = b.length ∧ a.take i = b.take i) ∧ ∃ h2 : i < b.length, a[i] = b[i] := by
  constructor
  · rintro ⟨h1, h2⟩
    have h' : i < b.length := by omega
    rw [List.take_succ_eq_append_getElem h, List.take_succ_eq_append_getElem h'] at h2
    have := List.append_inj h2 (by rw [List.length_take, List.length_take]; omega)
    exact ⟨⟨h1, this.1⟩, h', by simpa using this.2⟩
  · rintro ⟨⟨h1, h2⟩, h', h3⟩
    refine ⟨h1, ?_⟩
    rw [List.take_succ_eq_append_getElem h, List.take_succ_eq_append_getElem h', h2, h3]
noncomputable instance tkD (a b : List Int) (i : Nat) : Decidable (a.length = b.length ∧ a.take i = b.take i) := inferInstance
set_option maxRecDepth 20000 in
theorem CurveOne_ok {a b : List Int} (hfa : AllFit a) (hla : a.length ≤ 9223372036854775807) (hfb : AllFit b) (hlb : b.length ≤ 9223372036854775807) : DataW Try.prog f_poundagelaw15_CurveOne [slI a, slI b] (bv true) := by
  refine CallW_intro comp_poundagelaw15_CurveOne (by simp) ?_
  simp -implicitDefEqProofs -proj only [go_sem, Nat.reduceBEq, Nat.reduceLT, Nat.reduceLeDiff, Nat.reduceAdd, Nat.reduceMul, ↓reduceIte, Int.reduceToNat, Int.reducePow, Int.reduceLT, Int.reduceLE, Int.reduceAdd, Int.reduceSub, Int.reduceMul, Int.reduceEq, Int.reduceNe]
  refine CallA_pure alive15_ok ?_
  by_cases g1 : 2001 < (a.length : Int)
  · simp -implicitDefEqProofs -proj only [go_sem, Nat.reduceBEq, Nat.reduceLT, Nat.reduceLeDiff, Nat.reduceAdd, Nat.reduceMul, ↓reduceIte, Int.reduceToNat, Int.reducePow, Int.reduceLT, Int.reduceLE, Int.reduceAdd, Int.reduceSub, Int.reduceMul, Int.reduceEq, Int.reduceNe, rowI_len, decide_eq_true g1]
    exact LendV_eq rfl
  by_cases g2 : 2001 < (b.length : Int)
  · simp -implicitDefEqProofs -proj only [go_sem, Nat.reduceBEq, Nat.reduceLT, Nat.reduceLeDiff, Nat.reduceAdd, Nat.reduceMul, ↓reduceIte, Int.reduceToNat, Int.reducePow, Int.reduceLT, Int.reduceLE, Int.reduceAdd, Int.reduceSub, Int.reduceMul, Int.reduceEq, Int.reduceNe, rowI_len, decide_eq_false g1, decide_eq_true g2]
    exact LendV_eq rfl
  have oa := Of_ok (from' := 0) (l := a) (by decide) (by omega)
  have ob := Of_ok (from' := 0) (l := b) (by decide) (by omega)
  have ca := (OfL_ok (l := a) (by omega)).data
  have cb := (OfL_ok (l := b) (by omega)).data
  have hga := gps_len (l := a)
  have hgb := gps_len (l := b)
  have hs1 := CSame_ok (m := (a.length : Int) - 1) (n := (b.length : Int) - 1) (a := gps a) (b := gps b) (by omega) (by omega)
  have hs2 := RSame_ok (m := (a.length : Int) - 1) (n := (b.length : Int) - 1) (a := gps a) (b := gps b) (by omega) (by omega)
  rw [show decide ((a.length : Int) - 1 = (b.length : Int) - 1 ∧ gps a = gps b) = decide (a = b) from decide_eq_decide.2 gps_inj] at hs1 hs2
  generalize runs 0 a = Ra at *
  generalize runs 0 b = Rb at *
  simp -implicitDefEqProofs -proj only [go_sem, Nat.reduceBEq, Nat.reduceLT, Nat.reduceLeDiff, Nat.reduceAdd, Nat.reduceMul, ↓reduceIte, Int.reduceToNat, Int.reducePow, Int.reduceLT, Int.reduceLE, Int.reduceAdd, Int.reduceSub, Int.reduceMul, Int.reduceEq, Int.reduceNe, rowI_len, decide_eq_false g1, decide_eq_false g2]
  refine CallA_pure oa ?_
  simp -implicitDefEqProofs -proj only [go_sem, Nat.reduceBEq, Nat.reduceLT, Nat.reduceLeDiff, Nat.reduceAdd, Nat.reduceMul, ↓reduceIte, Int.reduceToNat, Int.reducePow, Int.reduceLT, Int.reduceLE, Int.reduceAdd, Int.reduceSub, Int.reduceMul, Int.reduceEq, Int.reduceNe]
  refine CallA_pure ca ?_
  by_cases hca : CurL a
  rotate_left
  · rw [if_neg hca]
    simp -implicitDefEqProofs -proj only [go_sem, Nat.reduceBEq, Nat.reduceLT, Nat.reduceLeDiff, Nat.reduceAdd, Nat.reduceMul, ↓reduceIte, Int.reduceToNat, Int.reducePow, Int.reduceLT, Int.reduceLE, Int.reduceAdd, Int.reduceSub, Int.reduceMul, Int.reduceEq, Int.reduceNe]
    refine AllocA_intro (fun b5 hb5 => ?_)
    simp -implicitDefEqProofs -proj only [go_sem, Nat.reduceBEq, Nat.reduceLT, Nat.reduceLeDiff, Nat.reduceAdd, Nat.reduceMul, ↓reduceIte, Int.reduceToNat, Int.reducePow, Int.reduceLT, Int.reduceLE, Int.reduceAdd, Int.reduceSub, Int.reduceMul, Int.reduceEq, Int.reduceNe]
    refine CallA_pure ob ?_
    simp -implicitDefEqProofs -proj only [go_sem, Nat.reduceBEq, Nat.reduceLT, Nat.reduceLeDiff, Nat.reduceAdd, Nat.reduceMul, ↓reduceIte, Int.reduceToNat, Int.reducePow, Int.reduceLT, Int.reduceLE, Int.reduceAdd, Int.reduceSub, Int.reduceMul, Int.reduceEq, Int.reduceNe]
    refine CallA_pure cb ?_
    by_cases hcb : CurL b
    · rw [if_pos hcb]
      simp -implicitDefEqProofs -proj only [go_sem, Nat.reduceBEq, Nat.reduceLT, Nat.reduceLeDiff, Nat.reduceAdd, Nat.reduceMul, ↓reduceIte, Int.reduceToNat, Int.reducePow, Int.reduceLT, Int.reduceLE, Int.reduceAdd, Int.reduceSub, Int.reduceMul, Int.reduceEq, Int.reduceNe]
      refine AllocA_intro (fun b7 hb7 => ?_)
      simp -implicitDefEqProofs -proj only [go_sem, Nat.reduceBEq, Nat.reduceLT, Nat.reduceLeDiff, Nat.reduceAdd, Nat.reduceMul, ↓reduceIte, Int.reduceToNat, Int.reducePow, Int.reduceLT, Int.reduceLE, Int.reduceAdd, Int.reduceSub, Int.reduceMul, Int.reduceEq, Int.reduceNe]
      exact LendV_eq rfl
    · rw [if_neg hcb]
      simp -implicitDefEqProofs -proj only [go_sem, Nat.reduceBEq, Nat.reduceLT, Nat.reduceLeDiff, Nat.reduceAdd, Nat.reduceMul, ↓reduceIte, Int.reduceToNat, Int.reducePow, Int.reduceLT, Int.reduceLE, Int.reduceAdd, Int.reduceSub, Int.reduceMul, Int.reduceEq, Int.reduceNe]
      refine AllocA_intro (fun b7 hb7 => ?_)
      simp -implicitDefEqProofs -proj only [go_sem, Nat.reduceBEq, Nat.reduceLT, Nat.reduceLeDiff, Nat.reduceAdd, Nat.reduceMul, ↓reduceIte, Int.reduceToNat, Int.reducePow, Int.reduceLT, Int.reduceLE, Int.reduceAdd, Int.reduceSub, Int.reduceMul, Int.reduceEq, Int.reduceNe]
      exact LendV_eq rfl
  rw [if_pos hca]
  unfold curL
  generalize gps a = Ga at *
  simp -implicitDefEqProofs -proj only [go_sem, Nat.reduceBEq, Nat.reduceLT, Nat.reduceLeDiff, Nat.reduceAdd, Nat.reduceMul, ↓reduceIte, Int.reduceToNat, Int.reducePow, Int.reduceLT, Int.reduceLE, Int.reduceAdd, Int.reduceSub, Int.reduceMul, Int.reduceEq, Int.reduceNe]
  refine AllocA_intro (fun b5 hb5 => ?_)
  simp -implicitDefEqProofs -proj only [go_sem, Nat.reduceBEq, Nat.reduceLT, Nat.reduceLeDiff, Nat.reduceAdd, Nat.reduceMul, ↓reduceIte, Int.reduceToNat, Int.reducePow, Int.reduceLT, Int.reduceLE, Int.reduceAdd, Int.reduceSub, Int.reduceMul, Int.reduceEq, Int.reduceNe]
  refine CallA_pure ob ?_
  simp -implicitDefEqProofs -proj only [go_sem, Nat.reduceBEq, Nat.reduceLT, Nat.reduceLeDiff, Nat.reduceAdd, Nat.reduceMul, ↓reduceIte, Int.reduceToNat, Int.reducePow, Int.reduceLT, Int.reduceLE, Int.reduceAdd, Int.reduceSub, Int.reduceMul, Int.reduceEq, Int.reduceNe]
  refine CallA_pure cb ?_
  by_cases hcb : CurL b
  rotate_left
  · rw [if_neg hcb]
    simp -implicitDefEqProofs -proj only [go_sem, Nat.reduceBEq, Nat.reduceLT, Nat.reduceLeDiff, Nat.reduceAdd, Nat.reduceMul, ↓reduceIte, Int.reduceToNat, Int.reducePow, Int.reduceLT, Int.reduceLE, Int.reduceAdd, Int.reduceSub, Int.reduceMul, Int.reduceEq, Int.reduceNe]
    refine AllocA_intro (fun b7 hb7 => ?_)
    simp -implicitDefEqProofs -proj only [go_sem, Nat.reduceBEq, Nat.reduceLT, Nat.reduceLeDiff, Nat.reduceAdd, Nat.reduceMul, ↓reduceIte, Int.reduceToNat, Int.reducePow, Int.reduceLT, Int.reduceLE, Int.reduceAdd, Int.reduceSub, Int.reduceMul, Int.reduceEq, Int.reduceNe]
    exact LendV_eq rfl
  rw [if_pos hcb]
  unfold curL
  generalize gps b = Gb at *
  simp -implicitDefEqProofs -proj only [go_sem, Nat.reduceBEq, Nat.reduceLT, Nat.reduceLeDiff, Nat.reduceAdd, Nat.reduceMul, ↓reduceIte, Int.reduceToNat, Int.reducePow, Int.reduceLT, Int.reduceLE, Int.reduceAdd, Int.reduceSub, Int.reduceMul, Int.reduceEq, Int.reduceNe]
  refine AllocA_intro (fun b7 hb7 => ?_)
  replace hb7 : upd Heap.none b5 _ b7 = none := hb7
  obtain ⟨n1, n2⟩ := fresh_ne hb7 upd_eq
  simp -implicitDefEqProofs -proj only [go_sem, Nat.reduceBEq, Nat.reduceLT, Nat.reduceLeDiff, Nat.reduceAdd, Nat.reduceMul, ↓reduceIte, Int.reduceToNat, Int.reducePow, Int.reduceLT, Int.reduceLE, Int.reduceAdd, Int.reduceSub, Int.reduceMul, Int.reduceEq, Int.reduceNe, n1, n2, rowI_len]
  refine LoopA_k (fun i : Nat => i ≤ a.length) 80 (fun i => [(0, slI a), (1, slI b), (5, .ptr b5 0), (7, .ptr b7 0), (45, i64 a.length), (46, i64 i), (9, bv (decide (a.length = b.length ∧ a.take i = b.take i)))]) (fun _ => [(b7, .box 26 [i64 ((b.length : Int) - 1), slG Gb]), (b5, .box 26 [i64 ((a.length : Int) - 1), slG Ga])]) (fun i => a.length - i) 0 (Nat.zero_le _) rfl ?_ ?_ ?_
  · simp -implicitDefEqProofs -proj only [go_sem, Nat.reduceBEq, Nat.reduceLT, Nat.reduceLeDiff, Nat.reduceAdd, Nat.reduceMul, ↓reduceIte, Int.reduceToNat, Int.reducePow, Int.reduceLT, Int.reduceLE, Int.reduceAdd, Int.reduceSub, Int.reduceMul, Int.reduceEq, Int.reduceNe, AllAt]
    simp [Int.natCast_inj]
  · simp -implicitDefEqProofs -proj only [go_sem, Nat.reduceBEq, Nat.reduceLT, Nat.reduceLeDiff, Nat.reduceAdd, Nat.reduceMul, ↓reduceIte, Int.reduceToNat, Int.reducePow, Int.reduceLT, Int.reduceLE, Int.reduceAdd, Int.reduceSub, Int.reduceMul, Int.reduceEq, Int.reduceNe, AllH, n1, n2]
  · intro i hi
    have hk : AllH (keepH [(b7, .box 26 [i64 ((b.length : Int) - 1), slG Gb]), (b5, .box 26 [i64 ((a.length : Int) - 1), slG Ga])]) [(b7, .box 26 [i64 ((b.length : Int) - 1), slG Gb]), (b5, .box 26 [i64 ((a.length : Int) - 1), slG Ga])] := keepH_all (by simp [keys, n1])
    obtain ⟨k7, k5, _⟩ := id hk
    by_cases h : i < a.length
    · have hel := rowI_nth h
      have htk := tk_iff (b := b) h
      by_cases hE : a.length = b.length ∧ a.take i = b.take i
      · have hib : i < b.length := by omega
        have helb := rowI_nth hib
        have hfin : decide (a.length = b.length ∧ a.take (i + 1) = b.take (i + 1)) = decide (a[i] = b[i]) := decide_eq_decide.2 (htk.trans ⟨fun h => h.2.2, fun h => ⟨hE, hib, h⟩⟩)
        generalize a[i] = u at *
        generalize b[i] = v at *
        simp -implicitDefEqProofs -proj only [go_sem, Nat.reduceBEq, Nat.reduceLT, Nat.reduceLeDiff, Nat.reduceAdd, Nat.reduceMul, ↓reduceIte, Int.reduceToNat, Int.reducePow, Int.reduceLT, Int.reduceLE, Int.reduceAdd, Int.reduceSub, Int.reduceMul, Int.reduceEq, Int.reduceNe, decide_eq_true (show (i : Int) < a.length by omega), decide_eq_true hE, rowI_len, decide_eq_true (show (i : Int) < b.length by omega)]
        refine ElemA_at _ (by omega) hel ?_
        simp -implicitDefEqProofs -proj only [go_sem, Nat.reduceBEq, Nat.reduceLT, Nat.reduceLeDiff, Nat.reduceAdd, Nat.reduceMul, ↓reduceIte, Int.reduceToNat, Int.reducePow, Int.reduceLT, Int.reduceLE, Int.reduceAdd, Int.reduceSub, Int.reduceMul, Int.reduceEq, Int.reduceNe]
        refine ElemA_at _ (by omega) helb ?_
        simp -implicitDefEqProofs -proj only [go_sem, Nat.reduceBEq, Nat.reduceLT, Nat.reduceLeDiff, Nat.reduceAdd, Nat.reduceMul, ↓reduceIte, Int.reduceToNat, Int.reducePow, Int.reduceLT, Int.reduceLE, Int.reduceAdd, Int.reduceSub, Int.reduceMul, Int.reduceEq, Int.reduceNe]
        refine LoopQ_k (i + 1) (by omega) (by omega) rfl ?_ hk
        simp -implicitDefEqProofs -proj only [go_sem, Nat.reduceBEq, Nat.reduceLT, Nat.reduceLeDiff, Nat.reduceAdd, Nat.reduceMul, ↓reduceIte, Int.reduceToNat, Int.reducePow, Int.reduceLT, Int.reduceLE, Int.reduceAdd, Int.reduceSub, Int.reduceMul, Int.reduceEq, Int.reduceNe, AllAt, i64_succ (show i < 9223372036854775807 by omega), hfin]
      · have hfin : decide (a.length = b.length ∧ a.take (i + 1) = b.take (i + 1)) = false := decide_eq_false (fun h => hE (htk.1 h).1)
        simp -implicitDefEqProofs -proj only [go_sem, Nat.reduceBEq, Nat.reduceLT, Nat.reduceLeDiff, Nat.reduceAdd, Nat.reduceMul, ↓reduceIte, Int.reduceToNat, Int.reducePow, Int.reduceLT, Int.reduceLE, Int.reduceAdd, Int.reduceSub, Int.reduceMul, Int.reduceEq, Int.reduceNe, decide_eq_true (show (i : Int) < a.length by omega), decide_eq_false hE]
        refine LoopQ_k (i + 1) (by omega) (by omega) rfl ?_ hk
        simp -implicitDefEqProofs -proj only [go_sem, Nat.reduceBEq, Nat.reduceLT, Nat.reduceLeDiff, Nat.reduceAdd, Nat.reduceMul, ↓reduceIte, Int.reduceToNat, Int.reducePow, Int.reduceLT, Int.reduceLE, Int.reduceAdd, Int.reduceSub, Int.reduceMul, Int.reduceEq, Int.reduceNe, AllAt, i64_succ (show i < 9223372036854775807 by omega), hfin]
    · have hi' : i = a.length := by omega
      subst hi'
      have hfin : decide (a.length = b.length ∧ a.take a.length = b.take a.length) = decide (a = b) := decide_eq_decide.2 ⟨fun ⟨h1, h2⟩ => by rw [List.take_length, h1, List.take_length] at h2; exact h2, fun h => by subst h; exact ⟨rfl, rfl⟩⟩
      rw [hfin]
      simp -implicitDefEqProofs -proj only [go_sem, Nat.reduceBEq, Nat.reduceLT, Nat.reduceLeDiff, Nat.reduceAdd, Nat.reduceMul, ↓reduceIte, Int.reduceToNat, Int.reducePow, Int.reduceLT, Int.reduceLE, Int.reduceAdd, Int.reduceSub, Int.reduceMul, Int.reduceEq, Int.reduceNe, k7, k5, decide_eq_false (show ¬ (a.length : Int) < a.length by omega)]
      refine CallA_pure hs1 ?_
      by_cases hab : a = b
      · rw [decide_eq_true hab] at hs2 ⊢
        simp -implicitDefEqProofs -proj only [go_sem, Nat.reduceBEq, Nat.reduceLT, Nat.reduceLeDiff, Nat.reduceAdd, Nat.reduceMul, ↓reduceIte, Int.reduceToNat, Int.reducePow, Int.reduceLT, Int.reduceLE, Int.reduceAdd, Int.reduceSub, Int.reduceMul, Int.reduceEq, Int.reduceNe, k7, k5]
        refine CallA_pure hs2 ?_
        simp -implicitDefEqProofs -proj only [go_sem, Nat.reduceBEq, Nat.reduceLT, Nat.reduceLeDiff, Nat.reduceAdd, Nat.reduceMul, ↓reduceIte, Int.reduceToNat, Int.reducePow, Int.reduceLT, Int.reduceLE, Int.reduceAdd, Int.reduceSub, Int.reduceMul, Int.reduceEq, Int.reduceNe]
        exact LendV_eq rfl
      · rw [decide_eq_false hab] at hs2 ⊢
        simp -implicitDefEqProofs -proj only [go_sem, Nat.reduceBEq, Nat.reduceLT, Nat.reduceLeDiff, Nat.reduceAdd, Nat.reduceMul, ↓reduceIte, Int.reduceToNat, Int.reducePow, Int.reduceLT, Int.reduceLE, Int.reduceAdd, Int.reduceSub, Int.reduceMul, Int.reduceEq, Int.reduceNe, k7, k5]
        refine CallA_pure hs2 ?_
        simp -implicitDefEqProofs -proj only [go_sem, Nat.reduceBEq, Nat.reduceLT, Nat.reduceLeDiff, Nat.reduceAdd, Nat.reduceMul, ↓reduceIte, Int.reduceToNat, Int.reducePow, Int.reduceLT, Int.reduceLE, Int.reduceAdd, Int.reduceSub, Int.reduceMul, Int.reduceEq, Int.reduceNe]
        exact LendV_eq rfl
end Go.Proofs.Ytonlgniaoompaaa.Abs
