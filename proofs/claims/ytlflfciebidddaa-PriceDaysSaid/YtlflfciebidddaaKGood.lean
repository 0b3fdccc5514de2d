/- When a part can be: the reference's answer. No claim stands here. -/
import Derived.Test.YtlflfciebidddaaKPart
set_option linter.unusedSimpArgs false
set_option linter.unusedVariables false
namespace Go.Proofs.Ytlflfciebidddaa.Abs
open Go Go.RowKit Go.Proofs
attribute [local go_sem] RunC_seq AF_n AF_r AF_b St_n St_t St_H Fst_mk Snd_mk RunC_ops RunC_cond RunC_block RunC_loop RunC_exit RunC_ret RunC_skip RunO_nil RunO_code RunO_code_ret RunO_code_exit RunO_blk RunO_blk_ret RunO_blk_exit RunL_nil RunL_guard GuardA_tt GuardA_ff GuardA_tf GuardA_ft GuardA_void CondA_t CondA_f PickA_t PickA_f RunL_mov RunL_pick RunL_alloc RunL_box RunL_load LoadA_ptr LoadB_1 LoadB_n LoadA_dptr LoadA_dptr_n RunL_store StoreA_ptr StoreB_box RunL_bin Bin_add Bin_sub Bin_mul Bin_quo Bin_rem Bin_shl Bin_shr Bin_andI Bin_orI Bin_xorI Bin_eql Bin_neq Bin_lss Bin_leq Bin_gtr Bin_geq RunL_binb Bin_beql Bin_bneq RunL_un UnA_not UnA_neg RunL_conv convV MapA_some RunL_nilCheck nilV RunL_mkfn RunL_fieldAddr faV RunL_field FieldA_1 FieldA_n RunL_elemAddr EAddrA_sl EAddrA_own EptrA_eq RunL_build BuildA_some RunL_extract ExtA_eq RunL_len lenV_sl lenV_nilsl lenV_own RunL_slen RunL_idxStr IdxSA_eq slenV RunL_minmax mmV minmaxL RunL_call RunL_callv CallvA_fn putS ev evL evO evP eqK eqKs EqB_agg RunL_eqAgg EqA_t EqA_f evQ buildC fits_agg cellsAV_agg fits_d cellsAV_d fits_nilp cellsAV_nilp fits_nilsl cellsAV_nilsl fits_nilfn cellsAV_nilfn fits_ptr cellsAV_ptr fits_eptr cellsAV_eptr fits_dptr cellsAV_dptr fits_own cellsAV_own fits_fn cellsAV_fn rowV_fits rowV_cells rowV_len lenAV setSeg nth seg mapD repeatL putT_get upd_get argT keepT_cons keepT_nil keepH_cons keepH_nil cond_true cond_false VC_true finW resW resL resOne LoopQ_exit LoopQ_ret List.cons_append List.nil_append Bool.not_true Bool.not_false Bool.and_true Bool.and_self Nat.lt_add_left_iff_pos Nat.zero_add Nat.add_zero List.drop_succ_cons List.drop_zero List.take_succ_cons List.take_zero beq_self_eq_true Bool.false_eq_true RunC_dops RunL_loadS RunL_loadD LoadDA_dptr RunL_storeS StoreSA_ptr RunL_pcall RunL_pcallv PCallvA_fn newsOk and_self and_true true_and loadW_ptr LoadK_1 LoadK_n upd_upd RunL_loadP LoadPA_ptr RunL_callS RunL_make RunL_buildSlice BSliceA_some RunL_buildSliceD frzL frz cutL LoadA_eptr LoadE_row RunL_append RunL_slice SliceA_sl StoreA_eptr List.length_cons List.length_nil Nat.min_def Int.cast_ofNat_Int Int.natCast_zero Int.natCast_one decide_true decide_false List.getElem?_cons_zero List.getElem?_cons_succ RunC_rangef CallvA_yld putL_nil putL_cons RangeQ_exit RangeQ_ret
def lowT (T : List Tier) (i : Nat) : Int := if i + 1 = T.length then 0 else match T[i - 1]? with
  | some p => if 0 < i ∧ 1 ≤ p.u then min p.u 1000000 + 1 else 1
  | none => 1
def highT (T : List Tier) (i : Nat) : Int := if i + 1 = T.length then 0 else 1000000
def tierOK (T : List Tier) (i : Nat) (t : Tier) : Prop := (0 ≤ t.r ∧ t.r ≤ 1000000000000) ∧ (lowT T i ≤ t.u ∧ t.u ≤ highT T i)
instance (T : List Tier) (i : Nat) (t : Tier) : Decidable (tierOK T i t) := by unfold tierOK; exact inferInstance
def adjOK (a : Adj) : Prop := a.k = 1 ∧ (0 ≤ a.n ∧ a.n ≤ 100000000) ∧ (0 ≤ a.m ∧ a.m ≤ 3) ∨ (a.k = 2 ∨ a.k = 3 ∨ a.k = 4) ∧ (0 ≤ a.n ∧ a.n ≤ 1000000000000) ∧ a.m = 0
instance (a : Adj) : Decidable (adjOK a) := by unfold adjOK; exact inferInstance
def headOK (f t : Int) (nm : Nat) (x : PartX) : Prop := 0 ≤ x.me ∧ x.me < nm ∧ (f ≤ x.f ∧ x.f ≤ x.t ∧ x.t ≤ t) ∧ (0 ≤ x.al ∧ x.al ≤ 1000000) ∧ (1 ≤ x.bl ∧ x.bl ≤ 1000000) ∧ (x.ki = 1 ∨ x.ki = 2) ∧ (0 ≤ x.mo ∧ x.mo ≤ 3) ∧ 1 ≤ x.ts.length ∧ x.ts.length ≤ 8 ∧ x.ad.length ≤ 6
instance (f t : Int) (nm : Nat) (x : PartX) : Decidable (headOK f t nm x) := by unfold headOK; exact inferInstance
def tiersOK (T : List Tier) : Prop := ∀ (i : Nat) (h : i < T.length), tierOK T i T[i]
def adjsOK (l : List Adj) : Prop := ∀ a ∈ l, adjOK a
noncomputable instance (T : List Tier) : Decidable (tiersOK T) := Classical.propDecidable _
noncomputable instance (l : List Adj) : Decidable (adjsOK l) := Classical.propDecidable _
def partOK (f t : Int) (nm : Nat) (x : PartX) : Prop := headOK f t nm x ∧ tiersOK x.ts ∧ adjsOK x.ad
noncomputable instance (f t : Int) (nm : Nat) (x : PartX) : Decidable (partOK f t nm x) := by unfold partOK; exact inferInstance
theorem tlow_last {T : List Tier} {i : Nat} (h : i + 1 = T.length) : lowT T i = 0 ∧ highT T i = 0 := ⟨if_pos h, if_pos h⟩
theorem tlow_first {T : List Tier} (h : ¬ 0 + 1 = T.length) : lowT T 0 = 1 ∧ highT T 0 = 1000000 := by
  refine ⟨?_, if_neg h⟩
  unfold lowT
  rw [if_neg h]
  split
  · rw [if_neg (by omega)]
  · rfl
theorem tlow_mid {T : List Tier} {i : Nat} (h0 : 0 < i) (hi : i - 1 < T.length) (h : ¬ i + 1 = T.length) (hu : 1 ≤ T[i - 1].u) : lowT T i = min T[i - 1].u 1000000 + 1 ∧ highT T i = 1000000 := by
  refine ⟨?_, if_neg h⟩
  unfold lowT
  rw [if_neg h, List.getElem?_eq_getElem hi]
  exact if_pos ⟨h0, hu⟩
theorem tlow_mid0 {T : List Tier} {i : Nat} (h0 : 0 < i) (hi : i - 1 < T.length) (h : ¬ i + 1 = T.length) (hu : ¬ 1 ≤ T[i - 1].u) : lowT T i = 1 ∧ highT T i = 1000000 := by
  refine ⟨?_, if_neg h⟩
  unfold lowT
  rw [if_neg h, List.getElem?_eq_getElem hi]
  exact if_neg (fun h => hu h.2)
set_option maxRecDepth 20000 in
theorem RPart_no {cur : ByteArray} {f t : Int} {ms ss ps : List (List D)} {x : PartX} (h : ¬ headOK f t ms.length x) : DataW Try.prog f_poundageref10_Part [coreV cur f t ms ss ps, partV x] (bv false) := by
  refine CallW_intro comp_poundageref10_Part (by simp) ?_
  simp -implicitDefEqProofs -proj only [go_sem, Nat.reduceBEq, Nat.reduceLT, Nat.reduceLeDiff, Nat.reduceAdd, Nat.reduceMul, ↓reduceIte]
  refine AllocA_intro (fun b2 hb2 => ?_)
  simp -implicitDefEqProofs -proj only [go_sem, Nat.reduceBEq, Nat.reduceLT, Nat.reduceLeDiff, Nat.reduceAdd, Nat.reduceMul, ↓reduceIte]
  refine AllocA_intro (fun b3 hb3 => ?_)
  replace hb3 : upd Heap.none b2 _ b3 = none := hb3
  obtain ⟨n1, n2⟩ := fresh_ne hb3 upd_eq
  unfold headOK at h
  by_cases g1 : x.me < 0
  · simp -implicitDefEqProofs -proj only [go_sem, Nat.reduceBEq, Nat.reduceLT, Nat.reduceLeDiff, Nat.reduceAdd, Nat.reduceMul, ↓reduceIte, n1, n2, decide_eq_true g1]
    exact LendV_eq rfl
  by_cases g2 : (ms.length : Int) ≤ x.me
  · simp -implicitDefEqProofs -proj only [go_sem, Nat.reduceBEq, Nat.reduceLT, Nat.reduceLeDiff, Nat.reduceAdd, Nat.reduceMul, ↓reduceIte, n1, n2, decide_eq_false g1, decide_eq_true g2]
    exact LendV_eq rfl
  simp -implicitDefEqProofs -proj only [go_sem, Nat.reduceBEq, Nat.reduceLT, Nat.reduceLeDiff, Nat.reduceAdd, Nat.reduceMul, ↓reduceIte, n1, n2, decide_eq_false g1, decide_eq_false g2]
  refine CallA_pure RSpan_ok ?_
  by_cases g3 : f ≤ x.f ∧ x.f ≤ x.t ∧ x.t ≤ t
  rotate_left
  · simp -implicitDefEqProofs -proj only [go_sem, Nat.reduceBEq, Nat.reduceLT, Nat.reduceLeDiff, Nat.reduceAdd, Nat.reduceMul, ↓reduceIte, n1, n2, decide_eq_false g3]
    exact LendV_eq rfl
  simp -implicitDefEqProofs -proj only [go_sem, Nat.reduceBEq, Nat.reduceLT, Nat.reduceLeDiff, Nat.reduceAdd, Nat.reduceMul, ↓reduceIte, n1, n2, decide_eq_true g3]
  by_cases g4 : 0 ≤ x.al ∧ x.al ≤ 1000000
  rotate_left
  · refine CallA_pure (RIn_f g4) ?_
    simp -implicitDefEqProofs -proj only [go_sem, Nat.reduceBEq, Nat.reduceLT, Nat.reduceLeDiff, Nat.reduceAdd, Nat.reduceMul, ↓reduceIte]
    exact LendV_eq rfl
  refine CallA_pure (RIn_t g4) ?_
  simp -implicitDefEqProofs -proj only [go_sem, Nat.reduceBEq, Nat.reduceLT, Nat.reduceLeDiff, Nat.reduceAdd, Nat.reduceMul, ↓reduceIte, n1, n2]
  by_cases g5 : 1 ≤ x.bl ∧ x.bl ≤ 1000000
  rotate_left
  · refine CallA_pure (RIn_f g5) ?_
    simp -implicitDefEqProofs -proj only [go_sem, Nat.reduceBEq, Nat.reduceLT, Nat.reduceLeDiff, Nat.reduceAdd, Nat.reduceMul, ↓reduceIte]
    exact LendV_eq rfl
  refine CallA_pure (RIn_t g5) ?_
  by_cases g6 : x.ki = 1
  · simp -implicitDefEqProofs -proj only [go_sem, Nat.reduceBEq, Nat.reduceLT, Nat.reduceLeDiff, Nat.reduceAdd, Nat.reduceMul, ↓reduceIte, n1, n2, decide_eq_true g6]
    by_cases g7 : 0 ≤ x.mo ∧ x.mo ≤ 3
    rotate_left
    · refine CallA_pure (RIn_f g7) ?_
      simp -implicitDefEqProofs -proj only [go_sem, Nat.reduceBEq, Nat.reduceLT, Nat.reduceLeDiff, Nat.reduceAdd, Nat.reduceMul, ↓reduceIte]
      exact LendV_eq rfl
    refine CallA_pure (RIn_t g7) ?_
    by_cases g8 : (x.ts.length : Int) < 1
    · simp -implicitDefEqProofs -proj only [go_sem, Nat.reduceBEq, Nat.reduceLT, Nat.reduceLeDiff, Nat.reduceAdd, Nat.reduceMul, ↓reduceIte, n1, n2, rowT_len, decide_eq_true g8]
      exact LendV_eq rfl
    by_cases g9 : 8 < (x.ts.length : Int)
    · simp -implicitDefEqProofs -proj only [go_sem, Nat.reduceBEq, Nat.reduceLT, Nat.reduceLeDiff, Nat.reduceAdd, Nat.reduceMul, ↓reduceIte, n1, n2, rowT_len, decide_eq_false g8, decide_eq_true g9]
      exact LendV_eq rfl
    simp -implicitDefEqProofs -proj only [go_sem, Nat.reduceBEq, Nat.reduceLT, Nat.reduceLeDiff, Nat.reduceAdd, Nat.reduceMul, ↓reduceIte, n1, n2, rowT_len, rowA_len, decide_eq_false g8, decide_eq_false g9, decide_eq_true (show 6 < (x.ad.length : Int) by omega)]
    exact LendV_eq rfl
  by_cases g6' : x.ki = 2
  · simp -implicitDefEqProofs -proj only [go_sem, Nat.reduceBEq, Nat.reduceLT, Nat.reduceLeDiff, Nat.reduceAdd, Nat.reduceMul, ↓reduceIte, n1, n2, decide_eq_false g6, decide_eq_true g6']
    by_cases g7 : 0 ≤ x.mo ∧ x.mo ≤ 3
    rotate_left
    · refine CallA_pure (RIn_f g7) ?_
      simp -implicitDefEqProofs -proj only [go_sem, Nat.reduceBEq, Nat.reduceLT, Nat.reduceLeDiff, Nat.reduceAdd, Nat.reduceMul, ↓reduceIte]
      exact LendV_eq rfl
    refine CallA_pure (RIn_t g7) ?_
    by_cases g8 : (x.ts.length : Int) < 1
    · simp -implicitDefEqProofs -proj only [go_sem, Nat.reduceBEq, Nat.reduceLT, Nat.reduceLeDiff, Nat.reduceAdd, Nat.reduceMul, ↓reduceIte, n1, n2, rowT_len, decide_eq_true g8]
      exact LendV_eq rfl
    by_cases g9 : 8 < (x.ts.length : Int)
    · simp -implicitDefEqProofs -proj only [go_sem, Nat.reduceBEq, Nat.reduceLT, Nat.reduceLeDiff, Nat.reduceAdd, Nat.reduceMul, ↓reduceIte, n1, n2, rowT_len, decide_eq_false g8, decide_eq_true g9]
      exact LendV_eq rfl
    simp -implicitDefEqProofs -proj only [go_sem, Nat.reduceBEq, Nat.reduceLT, Nat.reduceLeDiff, Nat.reduceAdd, Nat.reduceMul, ↓reduceIte, n1, n2, rowT_len, rowA_len, decide_eq_false g8, decide_eq_false g9, decide_eq_true (show 6 < (x.ad.length : Int) by omega)]
    exact LendV_eq rfl
  simp -implicitDefEqProofs -proj only [go_sem, Nat.reduceBEq, Nat.reduceLT, Nat.reduceLeDiff, Nat.reduceAdd, Nat.reduceMul, ↓reduceIte, n1, n2, decide_eq_false g6, decide_eq_false g6']
  exact LendV_eq rfl
end Go.Proofs.Ytlflfciebidddaa.Abs
