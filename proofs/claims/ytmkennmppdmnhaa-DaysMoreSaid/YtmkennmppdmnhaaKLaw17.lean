/- The laws DaysIs and DaysSets. No claim stands here. -/
import Derived.Test.YtmkennmppdmnhaaKHold17
import Derived.Test.YtmkennmppdmnhaaAbsV
set_option linter.unusedSimpArgs false
set_option linter.unusedVariables false
namespace Go.Proofs.Ytmkennmppdmnhaa.Abs
open Go Go.RowKit Go.Proofs
attribute [local go_sem] RunC_seq AF_n AF_r AF_b St_n St_t St_H Fst_mk Snd_mk RunC_ops RunC_cond RunC_block RunC_loop RunC_exit RunC_ret RunC_skip RunO_nil RunO_code RunO_code_ret RunO_code_exit RunO_blk RunO_blk_ret RunO_blk_exit RunL_nil RunL_guard GuardA_tt GuardA_ff GuardA_tf GuardA_ft GuardA_void CondA_t CondA_f PickA_t PickA_f RunL_mov RunL_pick RunL_alloc RunL_box RunL_load LoadA_ptr LoadB_1 LoadB_n LoadA_dptr LoadA_dptr_n RunL_store StoreA_ptr StoreB_box RunL_bin Bin_add Bin_sub Bin_mul Bin_quo Bin_rem Bin_shl Bin_shr Bin_andI Bin_orI Bin_xorI Bin_eql Bin_neq Bin_lss Bin_leq Bin_gtr Bin_geq RunL_binb Bin_beql Bin_bneq RunL_un UnA_not UnA_neg RunL_conv convV MapA_some RunL_nilCheck nilV RunL_mkfn RunL_fieldAddr faV RunL_field FieldA_1 FieldA_n RunL_elemAddr EAddrA_sl EAddrA_own EptrA_eq RunL_build BuildA_some RunL_extract ExtA_eq RunL_len lenV_sl lenV_nilsl lenV_own RunL_slen RunL_idxStr IdxSA_eq slenV RunL_minmax mmV minmaxL RunL_call RunL_callv CallvA_fn putS ev evL evO evP eqK eqKs EqB_agg RunL_eqAgg EqA_t EqA_f evQ buildC fits_agg cellsAV_agg fits_d cellsAV_d fits_nilp cellsAV_nilp fits_nilsl cellsAV_nilsl fits_nilfn cellsAV_nilfn fits_ptr cellsAV_ptr fits_eptr cellsAV_eptr fits_dptr cellsAV_dptr fits_own cellsAV_own fits_fn cellsAV_fn rowV_fits rowV_cells rowV_len lenAV setSeg nth seg mapD repeatL putT_get upd_get argT keepT_cons keepT_nil keepH_cons keepH_nil cond_true cond_false VC_true finW resW resL resOne LoopQ_exit LoopQ_ret List.cons_append List.nil_append Bool.not_true Bool.not_false Bool.and_true Bool.and_self Nat.lt_add_left_iff_pos Nat.zero_add Nat.add_zero List.drop_succ_cons List.drop_zero List.take_succ_cons List.take_zero beq_self_eq_true Bool.false_eq_true RunC_dops RunL_loadS RunL_loadD LoadDA_dptr RunL_storeS StoreSA_ptr RunL_pcall RunL_pcallv PCallvA_fn newsOk and_self and_true true_and loadW_ptr LoadK_1 LoadK_n upd_upd RunL_buildSlice BSliceA_some RunL_buildSliceD frzL frz cutL LoadA_eptr LoadE_row RunL_append RunL_slice SliceA_sl StoreA_eptr List.length_cons List.length_nil Nat.min_def Int.cast_ofNat_Int Int.natCast_zero Int.natCast_one decide_true decide_false List.getElem?_cons_zero List.getElem?_cons_succ RunC_rangef CallvA_yld putL_nil putL_cons RangeQ_exit RangeQ_ret
theorem lend_core3 {H : Heap} {cur : ByteArray} {f t : Int} {a b c : AV} {ms ss ps : List (List D)} (h1 : LendV H a (.d (.sl 5 ms))) (h2 : LendV H b (.d (.sl 3 ss))) (h3 : LendV H c (.d (.sl 9 ps))) : LendV H (.agg [.d (.str cur), i64 f, i64 t, a, b, c]) (coreV cur f t ms ss ps) := by
  refine .agg _ _ rfl fun j u v e1 e2 => ?_
  match j with
  | 0 => cases e1; cases e2; exact .refl _
  | 1 => cases e1; cases e2; exact .refl _
  | 2 => cases e1; cases e2; exact .refl _
  | 3 => cases e1; cases e2; exact h1
  | 4 => cases e1; cases e2; exact h2
  | 5 => cases e1; cases e2; exact h3
  | j + 6 => cases e1
def core9 : CoreX := ⟨⟨⟨[]⟩⟩, 0, 9, [], [⟨0, 3, 4⟩], []⟩
theorem core9_fit : core9.Fit := ⟨by decide, by decide, by intro a h; (cases h), by decide, by intro a h; rw [show core9.ss = [⟨0, 3, 4⟩] from rfl, List.mem_singleton] at h; subst h; exact ⟨by decide, by decide, by decide⟩, by decide, by intro a h; (cases h), by decide⟩
theorem core9_good : goodC core9 := ⟨by unfold headC; decide, fun i h => absurd h (Nat.not_lt_zero _), fun s h => by rw [show core9.ss = [⟨0, 3, 4⟩] from rfl, List.mem_singleton] at h; subst h; unfold sumOK; decide, fun x h => by cases h⟩
theorem core9_holds : holdsR core9 = [⟨0, 2, 0⟩, ⟨3, 4, 1⟩, ⟨5, 9, 0⟩] := by decide +kernel
theorem alive17_ok : DataW Try.prog f_poundagelaw17_alive [] (bv true) := by
  have h1 := Holds_yes core9_fit core9_good
  rw [core9_holds] at h1
  have h9 : FwdOK (fun d => if d < 3 then 0 else if d < 5 then 1 else 0) 0 10 [⟨0, 2, 0⟩, ⟨3, 4, 1⟩, ⟨5, 9, 0⟩] := by
    refine ⟨rfl, by decide, fun x h1 h2 => ?_, fun s h => by cases h; decide, rfl, by decide, fun x h1 h2 => ?_, fun s h => by cases h; decide, rfl, by decide, fun x h1 h2 => ?_, fun s h => (by cases h), rfl⟩
    · show (if x < 3 then _ else _) = (0 : Int)
      have : x ≤ 2 := h2
      rw [if_pos (by omega)]
    · show (if x < 3 then _ else _) = (1 : Int)
      have : 3 ≤ x := h1
      have : x ≤ 4 := h2
      rw [if_neg (by omega), if_pos (by omega)]
    · show (if x < 3 then _ else _) = (0 : Int)
      have : 5 ≤ x := h1
      rw [if_neg (by omega), if_neg (by omega)]
  have h2 := AtU_ok (l := [⟨0, 2, 0⟩, ⟨3, 4, 1⟩, ⟨5, 9, 0⟩]) (x := 4) (by decide) (h9.sorted)
  rw [show atF [⟨0, 2, 0⟩, ⟨3, 4, 1⟩, ⟨5, 9, 0⟩] 4 = some 1 by decide +kernel] at h2
  have h3 := CountU_ok (a := [⟨0, 2, 0⟩, ⟨3, 4, 1⟩, ⟨5, 9, 0⟩])
  have h4 := Sum_ok17 (i := 0)
  have h5 := Part_ok17 (i := 1)
  rw [show ((sumN 0 : Nat) : Int) = 1 from rfl] at h4
  rw [show ((partN 1 : Nat) : Int) = 512 from rfl] at h5
  refine CallW_intro comp_poundagelaw17_alive (by simp) ?_
  simp -implicitDefEqProofs -proj only [go_sem, Nat.reduceBEq, Nat.reduceLT, Nat.reduceLeDiff, Nat.reduceAdd, Nat.reduceMul, ↓reduceIte, Int.reduceToNat, Int.reducePow, Int.reduceLT, Int.reduceLE, Int.reduceAdd, Int.reduceSub, Int.reduceMul, Int.reduceEq, Int.reduceNe]
  refine AllocR_intro (fun bs hs => ?_)
  simp -implicitDefEqProofs -proj only [go_sem, Nat.reduceBEq, Nat.reduceLT, Nat.reduceLeDiff, Nat.reduceAdd, Nat.reduceMul, ↓reduceIte, Int.reduceToNat, Int.reducePow, Int.reduceLT, Int.reduceLE, Int.reduceAdd, Int.reduceSub, Int.reduceMul, Int.reduceEq, Int.reduceNe]
  refine CallA_gift1 (b := bs) upd_eq h1 (lend_cons (lend_core3 (.nilsl _ _) (lend_own upd_eq rfl) (.nilsl _ _)) lend_nil) ?_
  simp -implicitDefEqProofs -proj only [go_sem, Nat.reduceBEq, Nat.reduceLT, Nat.reduceLeDiff, Nat.reduceAdd, Nat.reduceMul, ↓reduceIte, Int.reduceToNat, Int.reducePow, Int.reduceLT, Int.reduceLE, Int.reduceAdd, Int.reduceSub, Int.reduceMul, Int.reduceEq, Int.reduceNe]
  refine AllocA_intro (fun b1 hb1 => ?_)
  simp -implicitDefEqProofs -proj only [go_sem, Nat.reduceBEq, Nat.reduceLT, Nat.reduceLeDiff, Nat.reduceAdd, Nat.reduceMul, ↓reduceIte, Int.reduceToNat, Int.reducePow, Int.reduceLT, Int.reduceLE, Int.reduceAdd, Int.reduceSub, Int.reduceMul, Int.reduceEq, Int.reduceNe]
  refine CallA_pure h2 ?_
  simp -implicitDefEqProofs -proj only [go_sem, Nat.reduceBEq, Nat.reduceLT, Nat.reduceLeDiff, Nat.reduceAdd, Nat.reduceMul, ↓reduceIte, Int.reduceToNat, Int.reducePow, Int.reduceLT, Int.reduceLE, Int.reduceAdd, Int.reduceSub, Int.reduceMul, Int.reduceEq, Int.reduceNe, optU]
  refine CallA_pure h3 ?_
  simp -implicitDefEqProofs -proj only [go_sem, Nat.reduceBEq, Nat.reduceLT, Nat.reduceLeDiff, Nat.reduceAdd, Nat.reduceMul, ↓reduceIte, Int.reduceToNat, Int.reducePow, Int.reduceLT, Int.reduceLE, Int.reduceAdd, Int.reduceSub, Int.reduceMul, Int.reduceEq, Int.reduceNe]
  refine CallA_pure h4 ?_
  simp -implicitDefEqProofs -proj only [go_sem, Nat.reduceBEq, Nat.reduceLT, Nat.reduceLeDiff, Nat.reduceAdd, Nat.reduceMul, ↓reduceIte, Int.reduceToNat, Int.reducePow, Int.reduceLT, Int.reduceLE, Int.reduceAdd, Int.reduceSub, Int.reduceMul, Int.reduceEq, Int.reduceNe]
  refine CallA_pure h5 ?_
  simp -implicitDefEqProofs -proj only [go_sem, Nat.reduceBEq, Nat.reduceLT, Nat.reduceLeDiff, Nat.reduceAdd, Nat.reduceMul, ↓reduceIte, Int.reduceToNat, Int.reducePow, Int.reduceLT, Int.reduceLE, Int.reduceAdd, Int.reduceSub, Int.reduceMul, Int.reduceEq, Int.reduceNe]
  exact LendV_eq rfl
theorem holds_fwd {c : CoreX} (hft : c.f ≤ c.t) : FwdOK (fun d => ((setC c d : Nat) : Int)) c.f (c.t + 1) (holdsR c) := by
  have h := runs_fwd c.f (listC c)
  rw [listC_len, show c.f + (((c.t + 1 - c.f).toNat : Nat) : Int) = c.t + 1 by omega] at h
  refine h.congr fun x h1 h2 => ?_
  unfold valL
  rw [List.getD_eq_getElem?_getD, List.getElem?_eq_getElem (by rw [listC_len]; omega)]
  simp -implicitDefEqProofs only [listC, List.getElem_map, List.getElem_range, Option.getD_some]
  rw [show c.f + (((x - c.f).toNat : Nat) : Int) = x by omega]
theorem DaysIs_ok {c : CoreX} {day : Int} (hc : c.Fit) (hd : Fit day) : DataW Try.prog f_poundagelaw17_DaysIs [coreX c, i64 day] (bv true) := by
  refine CallW_intro comp_poundagelaw17_DaysIs (by simp) ?_
  simp -implicitDefEqProofs -proj only [go_sem, Nat.reduceBEq, Nat.reduceLT, Nat.reduceLeDiff, Nat.reduceAdd, Nat.reduceMul, ↓reduceIte, Int.reduceToNat, Int.reducePow, Int.reduceLT, Int.reduceLE, Int.reduceAdd, Int.reduceSub, Int.reduceMul, Int.reduceEq, Int.reduceNe]
  refine AllocA_intro (fun b2 hb2 => ?_)
  simp -implicitDefEqProofs -proj only [go_sem, Nat.reduceBEq, Nat.reduceLT, Nat.reduceLeDiff, Nat.reduceAdd, Nat.reduceMul, ↓reduceIte, Int.reduceToNat, Int.reducePow, Int.reduceLT, Int.reduceLE, Int.reduceAdd, Int.reduceSub, Int.reduceMul, Int.reduceEq, Int.reduceNe]
  refine CallA_pure alive17_ok ?_
  simp -implicitDefEqProofs -proj only [go_sem, Nat.reduceBEq, Nat.reduceLT, Nat.reduceLeDiff, Nat.reduceAdd, Nat.reduceMul, ↓reduceIte, Int.reduceToNat, Int.reducePow, Int.reduceLT, Int.reduceLE, Int.reduceAdd, Int.reduceSub, Int.reduceMul, Int.reduceEq, Int.reduceNe]
  refine CallA_pure Great_ok ?_
  by_cases g1 : greatC c
  · simp -implicitDefEqProofs -proj only [go_sem, Nat.reduceBEq, Nat.reduceLT, Nat.reduceLeDiff, Nat.reduceAdd, Nat.reduceMul, ↓reduceIte, Int.reduceToNat, Int.reducePow, Int.reduceLT, Int.reduceLE, Int.reduceAdd, Int.reduceSub, Int.reduceMul, Int.reduceEq, Int.reduceNe, decide_eq_true g1]
    exact LendV_eq rfl
  have hrg := RGood_ok hc
  by_cases g2 : goodC c
  rotate_left
  · have hho := Holds_no hc g2
    have hsp := SpanU_ok (R := []) (by decide)
    rw [spanU] at hsp
    have hco := CountU_ok (a := [])
    rw [decide_eq_false g2] at hrg
    simp -implicitDefEqProofs -proj only [go_sem, Nat.reduceBEq, Nat.reduceLT, Nat.reduceLeDiff, Nat.reduceAdd, Nat.reduceMul, ↓reduceIte, Int.reduceToNat, Int.reducePow, Int.reduceLT, Int.reduceLE, Int.reduceAdd, Int.reduceSub, Int.reduceMul, Int.reduceEq, Int.reduceNe, decide_eq_false g1]
    refine CallA_pure hho ?_
    simp -implicitDefEqProofs -proj only [go_sem, Nat.reduceBEq, Nat.reduceLT, Nat.reduceLeDiff, Nat.reduceAdd, Nat.reduceMul, ↓reduceIte, Int.reduceToNat, Int.reducePow, Int.reduceLT, Int.reduceLE, Int.reduceAdd, Int.reduceSub, Int.reduceMul, Int.reduceEq, Int.reduceNe]
    refine AllocA_intro (fun b5 hb5 => ?_)
    replace hb5 : upd Heap.none b2 _ b5 = none := hb5
    obtain ⟨n1, n2⟩ := fresh_ne hb5 upd_eq
    simp -implicitDefEqProofs -proj only [go_sem, Nat.reduceBEq, Nat.reduceLT, Nat.reduceLeDiff, Nat.reduceAdd, Nat.reduceMul, ↓reduceIte, Int.reduceToNat, Int.reducePow, Int.reduceLT, Int.reduceLE, Int.reduceAdd, Int.reduceSub, Int.reduceMul, Int.reduceEq, Int.reduceNe, n1, n2]
    refine CallA_pure hsp ?_
    simp -implicitDefEqProofs -proj only [go_sem, Nat.reduceBEq, Nat.reduceLT, Nat.reduceLeDiff, Nat.reduceAdd, Nat.reduceMul, ↓reduceIte, Int.reduceToNat, Int.reducePow, Int.reduceLT, Int.reduceLE, Int.reduceAdd, Int.reduceSub, Int.reduceMul, Int.reduceEq, Int.reduceNe, n1, n2]
    refine CallA_pure hrg ?_
    simp -implicitDefEqProofs -proj only [go_sem, Nat.reduceBEq, Nat.reduceLT, Nat.reduceLeDiff, Nat.reduceAdd, Nat.reduceMul, ↓reduceIte, Int.reduceToNat, Int.reducePow, Int.reduceLT, Int.reduceLE, Int.reduceAdd, Int.reduceSub, Int.reduceMul, Int.reduceEq, Int.reduceNe, n1, n2]
    refine CallA_pure hco ?_
    simp -implicitDefEqProofs -proj only [go_sem, Nat.reduceBEq, Nat.reduceLT, Nat.reduceLeDiff, Nat.reduceAdd, Nat.reduceMul, ↓reduceIte, Int.reduceToNat, Int.reducePow, Int.reduceLT, Int.reduceLE, Int.reduceAdd, Int.reduceSub, Int.reduceMul, Int.reduceEq, Int.reduceNe, n1, n2, List.length_nil]
    exact LendV_eq rfl
  have hho := Holds_yes hc g2
  obtain ⟨⟨a1, a2⟩, ⟨a3, a4⟩, a5, a6, a7, a8⟩ := g2.hd
  have hR := holds_fwd a3
  have hlen := hR.len
  have hsp := SpanU_ok (R := holdsR c) (by omega)
  rw [span_fwd hR a3] at hsp
  have hat := AtU_ok (l := holdsR c) (x := day) (by omega) hR.sorted
  have hrh := RHolds_ok (c := c) (day := day) a7 a8
  rw [decide_eq_true g2] at hrg
  simp -implicitDefEqProofs -proj only [go_sem, Nat.reduceBEq, Nat.reduceLT, Nat.reduceLeDiff, Nat.reduceAdd, Nat.reduceMul, ↓reduceIte, Int.reduceToNat, Int.reducePow, Int.reduceLT, Int.reduceLE, Int.reduceAdd, Int.reduceSub, Int.reduceMul, Int.reduceEq, Int.reduceNe, decide_eq_false g1]
  refine CallA_pure hho ?_
  simp -implicitDefEqProofs -proj only [go_sem, Nat.reduceBEq, Nat.reduceLT, Nat.reduceLeDiff, Nat.reduceAdd, Nat.reduceMul, ↓reduceIte, Int.reduceToNat, Int.reducePow, Int.reduceLT, Int.reduceLE, Int.reduceAdd, Int.reduceSub, Int.reduceMul, Int.reduceEq, Int.reduceNe]
  refine AllocA_intro (fun b5 hb5 => ?_)
  replace hb5 : upd Heap.none b2 _ b5 = none := hb5
  obtain ⟨n1, n2⟩ := fresh_ne hb5 upd_eq
  simp -implicitDefEqProofs -proj only [go_sem, Nat.reduceBEq, Nat.reduceLT, Nat.reduceLeDiff, Nat.reduceAdd, Nat.reduceMul, ↓reduceIte, Int.reduceToNat, Int.reducePow, Int.reduceLT, Int.reduceLE, Int.reduceAdd, Int.reduceSub, Int.reduceMul, Int.reduceEq, Int.reduceNe, n1, n2]
  refine CallA_pure hsp ?_
  simp -implicitDefEqProofs -proj only [go_sem, Nat.reduceBEq, Nat.reduceLT, Nat.reduceLeDiff, Nat.reduceAdd, Nat.reduceMul, ↓reduceIte, Int.reduceToNat, Int.reducePow, Int.reduceLT, Int.reduceLE, Int.reduceAdd, Int.reduceSub, Int.reduceMul, Int.reduceEq, Int.reduceNe, n1, n2]
  refine CallA_pure hrg ?_
  simp -implicitDefEqProofs -proj only [go_sem, Nat.reduceBEq, Nat.reduceLT, Nat.reduceLeDiff, Nat.reduceAdd, Nat.reduceMul, ↓reduceIte, Int.reduceToNat, Int.reducePow, Int.reduceLT, Int.reduceLE, Int.reduceAdd, Int.reduceSub, Int.reduceMul, Int.reduceEq, Int.reduceNe, n1, n2]
  refine CallA_pure hat ?_
  by_cases d1 : day < c.f
  · rw [hR.out (.inl d1)]
    simp -implicitDefEqProofs -proj only [go_sem, Nat.reduceBEq, Nat.reduceLT, Nat.reduceLeDiff, Nat.reduceAdd, Nat.reduceMul, ↓reduceIte, Int.reduceToNat, Int.reducePow, Int.reduceLT, Int.reduceLE, Int.reduceAdd, Int.reduceSub, Int.reduceMul, Int.reduceEq, Int.reduceNe, n1, n2, optU, decide_eq_true d1, decide_true]
    exact LendV_eq rfl
  by_cases d2 : c.t < day
  · rw [hR.out (.inr (by omega))]
    simp -implicitDefEqProofs -proj only [go_sem, Nat.reduceBEq, Nat.reduceLT, Nat.reduceLeDiff, Nat.reduceAdd, Nat.reduceMul, ↓reduceIte, Int.reduceToNat, Int.reducePow, Int.reduceLT, Int.reduceLE, Int.reduceAdd, Int.reduceSub, Int.reduceMul, Int.reduceEq, Int.reduceNe, n1, n2, optU, decide_eq_false d1, decide_eq_true d2, decide_true]
    exact LendV_eq rfl
  rw [hR.at' (by omega) (by omega)]
  simp -implicitDefEqProofs -proj only [go_sem, Nat.reduceBEq, Nat.reduceLT, Nat.reduceLeDiff, Nat.reduceAdd, Nat.reduceMul, ↓reduceIte, Int.reduceToNat, Int.reducePow, Int.reduceLT, Int.reduceLE, Int.reduceAdd, Int.reduceSub, Int.reduceMul, Int.reduceEq, Int.reduceNe, n1, n2, optU, decide_eq_false d1, decide_eq_false d2]
  refine CallA_pure hrh ?_
  simp -implicitDefEqProofs -proj only [go_sem, Nat.reduceBEq, Nat.reduceLT, Nat.reduceLeDiff, Nat.reduceAdd, Nat.reduceMul, ↓reduceIte, Int.reduceToNat, Int.reducePow, Int.reduceLT, Int.reduceLE, Int.reduceAdd, Int.reduceSub, Int.reduceMul, Int.reduceEq, Int.reduceNe, n1, n2, decide_true]
  exact LendV_eq rfl
end Go.Proofs.Ytmkennmppdmnhaa.Abs
