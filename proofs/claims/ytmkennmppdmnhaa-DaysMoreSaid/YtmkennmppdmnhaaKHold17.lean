/- The package days: Holds, and the document's. No claim stands here. -/
import Derived.Test.YtmkennmppdmnhaaKSet17
set_option linter.unusedSimpArgs false
set_option linter.unusedVariables false
namespace Go.Proofs.Ytmkennmppdmnhaa.Abs
open Go Go.RowKit Go.Proofs
attribute [local go_sem] RunC_seq AF_n AF_r AF_b St_n St_t St_H Fst_mk Snd_mk RunC_ops RunC_cond RunC_block RunC_loop RunC_exit RunC_ret RunC_skip RunO_nil RunO_code RunO_code_ret RunO_code_exit RunO_blk RunO_blk_ret RunO_blk_exit RunL_nil RunL_guard GuardA_tt GuardA_ff GuardA_tf GuardA_ft GuardA_void CondA_t CondA_f PickA_t PickA_f RunL_mov RunL_pick RunL_alloc RunL_box RunL_load LoadA_ptr LoadB_1 LoadB_n LoadA_dptr LoadA_dptr_n RunL_store StoreA_ptr StoreB_box RunL_bin Bin_add Bin_sub Bin_mul Bin_quo Bin_rem Bin_shl Bin_shr Bin_andI Bin_orI Bin_xorI Bin_eql Bin_neq Bin_lss Bin_leq Bin_gtr Bin_geq RunL_binb Bin_beql Bin_bneq RunL_un UnA_not UnA_neg RunL_conv convV MapA_some RunL_nilCheck nilV RunL_mkfn RunL_fieldAddr faV RunL_field FieldA_1 FieldA_n RunL_elemAddr EAddrA_sl EAddrA_own EptrA_eq RunL_build BuildA_some RunL_extract ExtA_eq RunL_len lenV_sl lenV_nilsl lenV_own RunL_slen RunL_idxStr IdxSA_eq slenV RunL_minmax mmV minmaxL RunL_call RunL_callv CallvA_fn putS ev evL evO evP eqK eqKs EqB_agg RunL_eqAgg EqA_t EqA_f evQ buildC fits_agg cellsAV_agg fits_d cellsAV_d fits_nilp cellsAV_nilp fits_nilsl cellsAV_nilsl fits_nilfn cellsAV_nilfn fits_ptr cellsAV_ptr fits_eptr cellsAV_eptr fits_dptr cellsAV_dptr fits_own cellsAV_own fits_fn cellsAV_fn rowV_fits rowV_cells rowV_len lenAV setSeg nth seg mapD repeatL putT_get upd_get argT keepT_cons keepT_nil keepH_cons keepH_nil cond_true cond_false VC_true finW resW resL resOne LoopQ_exit LoopQ_ret List.cons_append List.nil_append Bool.not_true Bool.not_false Bool.and_true Bool.and_self Nat.lt_add_left_iff_pos Nat.zero_add Nat.add_zero List.drop_succ_cons List.drop_zero List.take_succ_cons List.take_zero beq_self_eq_true Bool.false_eq_true RunC_dops RunL_loadS RunL_loadD LoadDA_dptr RunL_storeS StoreSA_ptr RunL_pcall RunL_pcallv PCallvA_fn newsOk and_self and_true true_and loadW_ptr LoadK_1 LoadK_n upd_upd RunL_buildSlice BSliceA_some RunL_buildSliceD frzL frz cutL LoadA_eptr LoadE_row RunL_append RunL_slice SliceA_sl StoreA_eptr List.length_cons List.length_nil Nat.min_def Int.cast_ofNat_Int Int.natCast_zero Int.natCast_one decide_true decide_false List.getElem?_cons_zero List.getElem?_cons_succ RunC_rangef CallvA_yld putL_nil putL_cons RangeQ_exit RangeQ_ret
structure HX where
  i : Nat
  R : List Run
theorem hx_i {i : Nat} {R : List Run} : (HX.mk i R).i = i := (rfl)
theorem hx_R {i : Nat} {R : List Run} : (HX.mk i R).R = R := (rfl)
def holdB (b1 b2 b3 : Nat) (c : CoreX) (R : List Run) : List (Nat × Blk) := [(b3, .box 31 [slU R]), (b2, .box 31 [.nilsl 3]), (b1, coreB c)]
theorem Holds_no {c : CoreX} (hc : c.Fit) (hg : ¬ goodC c) : DataW Try.prog f_days_Holds [coreX c] (lineU []) := by
  have hgood := CGood_ok hc
  rw [decide_eq_false hg] at hgood
  have : NewW Try.prog f_days_Holds [coreX c] (lineU []) := by
    refine CallW_intro comp_days_Holds (by simp) ?_
    simp -implicitDefEqProofs -proj only [go_sem, Nat.reduceBEq, Nat.reduceLT, Nat.reduceLeDiff, Nat.reduceAdd, Nat.reduceMul, ↓reduceIte, Int.reduceToNat, Int.reducePow, Int.reduceLT, Int.reduceLE, Int.reduceAdd, Int.reduceSub, Int.reduceMul, Int.reduceEq, Int.reduceNe]
    refine AllocA_intro (fun b1 hb1 => ?_)
    simp -implicitDefEqProofs -proj only [go_sem, Nat.reduceBEq, Nat.reduceLT, Nat.reduceLeDiff, Nat.reduceAdd, Nat.reduceMul, ↓reduceIte, Int.reduceToNat, Int.reducePow, Int.reduceLT, Int.reduceLE, Int.reduceAdd, Int.reduceSub, Int.reduceMul, Int.reduceEq, Int.reduceNe]
    refine AllocA_intro (fun b2 hb2 => ?_)
    replace hb2 : upd Heap.none b1 _ b2 = none := hb2
    obtain ⟨n1, n2⟩ := fresh_ne hb2 upd_eq
    simp -implicitDefEqProofs -proj only [go_sem, Nat.reduceBEq, Nat.reduceLT, Nat.reduceLeDiff, Nat.reduceAdd, Nat.reduceMul, ↓reduceIte, Int.reduceToNat, Int.reducePow, Int.reduceLT, Int.reduceLE, Int.reduceAdd, Int.reduceSub, Int.reduceMul, Int.reduceEq, Int.reduceNe, n1, n2]
    refine CallA_pure hgood ?_
    simp -implicitDefEqProofs -proj only [go_sem, Nat.reduceBEq, Nat.reduceLT, Nat.reduceLeDiff, Nat.reduceAdd, Nat.reduceMul, ↓reduceIte, Int.reduceToNat, Int.reducePow, Int.reduceLT, Int.reduceLE, Int.reduceAdd, Int.reduceSub, Int.reduceMul, Int.reduceEq, Int.reduceNe, n1, n2]
    exact lend_agg1U (.nilsl _ _)
  exact this.data
set_option maxRecDepth 20000 in
theorem Holds_yes {c : CoreX} (hc : c.Fit) (hg : goodC c) : DataW Try.prog f_days_Holds [coreX c] (lineU (holdsR c)) := by
  have hgood := CGood_ok hc
  rw [decide_eq_true hg] at hgood
  obtain ⟨⟨a1, a2⟩, ⟨a3, a4⟩, a5, a6, a7, a8⟩ := hg.hd
  have hss := hg.ss
  have hps := hg.ps
  have heq := @holds_eq c
  generalize holdsR c = Z at *
  obtain ⟨cur, f, t, ms, ss, ps⟩ := c
  simp -implicitDefEqProofs only [] at a1 a2 a3 a4 a5 a6 a7 a8 hss hps heq
  unfold setC at heq
  simp -implicitDefEqProofs only [] at heq
  have hflat := (FlatU_new (lo := f) (hi := t) (v := 0)).data
  rw [if_neg (by omega)] at hflat
  have hfl : FwdOK (fun d => ((setS ss d 0 : Nat) : Int)) f (t + 1) [⟨f, t, 0⟩] := flat_fwd a3
  refine CallW_intro comp_days_Holds (by simp) ?_
  simp -implicitDefEqProofs -proj only [go_sem, Nat.reduceBEq, Nat.reduceLT, Nat.reduceLeDiff, Nat.reduceAdd, Nat.reduceMul, ↓reduceIte, Int.reduceToNat, Int.reducePow, Int.reduceLT, Int.reduceLE, Int.reduceAdd, Int.reduceSub, Int.reduceMul, Int.reduceEq, Int.reduceNe]
  refine AllocA_intro (fun b1 hb1 => ?_)
  simp -implicitDefEqProofs -proj only [go_sem, Nat.reduceBEq, Nat.reduceLT, Nat.reduceLeDiff, Nat.reduceAdd, Nat.reduceMul, ↓reduceIte, Int.reduceToNat, Int.reducePow, Int.reduceLT, Int.reduceLE, Int.reduceAdd, Int.reduceSub, Int.reduceMul, Int.reduceEq, Int.reduceNe]
  refine AllocA_intro (fun b2 hb2 => ?_)
  replace hb2 : upd Heap.none b1 _ b2 = none := hb2
  obtain ⟨n1, n2⟩ := fresh_ne hb2 upd_eq
  simp -implicitDefEqProofs -proj only [go_sem, Nat.reduceBEq, Nat.reduceLT, Nat.reduceLeDiff, Nat.reduceAdd, Nat.reduceMul, ↓reduceIte, Int.reduceToNat, Int.reducePow, Int.reduceLT, Int.reduceLE, Int.reduceAdd, Int.reduceSub, Int.reduceMul, Int.reduceEq, Int.reduceNe, n1, n2]
  refine CallA_pure hgood ?_
  simp -implicitDefEqProofs -proj only [go_sem, Nat.reduceBEq, Nat.reduceLT, Nat.reduceLeDiff, Nat.reduceAdd, Nat.reduceMul, ↓reduceIte, Int.reduceToNat, Int.reducePow, Int.reduceLT, Int.reduceLE, Int.reduceAdd, Int.reduceSub, Int.reduceMul, Int.reduceEq, Int.reduceNe, n1, n2]
  refine CallA_pure hflat ?_
  simp -implicitDefEqProofs -proj only [go_sem, Nat.reduceBEq, Nat.reduceLT, Nat.reduceLeDiff, Nat.reduceAdd, Nat.reduceMul, ↓reduceIte, Int.reduceToNat, Int.reducePow, Int.reduceLT, Int.reduceLE, Int.reduceAdd, Int.reduceSub, Int.reduceMul, Int.reduceEq, Int.reduceNe, n1, n2]
  refine AllocA_intro (fun b3 hb3 => ?_)
  replace hb3 : upd (upd Heap.none b1 _) b2 _ b3 = none := hb3
  obtain ⟨n3, n4⟩ := fresh_ne hb3 upd_eq
  obtain ⟨n5, n6⟩ := fresh_ne hb3 (by rw [upd_ne n1]; exact upd_eq)
  simp -implicitDefEqProofs -proj only [go_sem, Nat.reduceBEq, Nat.reduceLT, Nat.reduceLeDiff, Nat.reduceAdd, Nat.reduceMul, ↓reduceIte, Int.reduceToNat, Int.reducePow, Int.reduceLT, Int.reduceLE, Int.reduceAdd, Int.reduceSub, Int.reduceMul, Int.reduceEq, Int.reduceNe, n1, n2, n3, n4, n5, n6, rowS_len]
  have hnd : ∀ R, (keys (holdB b1 b2 b3 ⟨cur, f, t, ms, ss, ps⟩ R)).Nodup := fun R => by simp [keys, holdB, n1, n3, n5]
  refine LoopA_k (fun y : HX => y.i ≤ ss.length ∧ FwdOK (fun d => ((setS ss d y.i : Nat) : Int)) f (t + 1) y.R) 52 (fun y => [(1, .ptr b1 0), (2, .ptr b2 0), (3, .ptr b3 0), (18, .d (.sl 3 (rowS ss))), (19, i64 ss.length), (20, i64 y.i)]) (fun y => holdB b1 b2 b3 ⟨cur, f, t, ms, ss, ps⟩ y.R) (fun y => ss.length - y.i) ⟨0, [⟨f, t, 0⟩]⟩ ⟨Nat.zero_le _, hfl⟩ rfl ?_ ?_ ?_
  · simp -implicitDefEqProofs -proj only [go_sem, Nat.reduceBEq, Nat.reduceLT, Nat.reduceLeDiff, Nat.reduceAdd, Nat.reduceMul, ↓reduceIte, Int.reduceToNat, Int.reducePow, Int.reduceLT, Int.reduceLE, Int.reduceAdd, Int.reduceSub, Int.reduceMul, Int.reduceEq, Int.reduceNe, AllAt, hx_i]
  · simp -implicitDefEqProofs -proj only [go_sem, Nat.reduceBEq, Nat.reduceLT, Nat.reduceLeDiff, Nat.reduceAdd, Nat.reduceMul, ↓reduceIte, Int.reduceToNat, Int.reducePow, Int.reduceLT, Int.reduceLE, Int.reduceAdd, Int.reduceSub, Int.reduceMul, Int.reduceEq, Int.reduceNe, AllH, holdB, hx_R, n1, n2, n3, n4, n5, n6]
  · rintro ⟨i, R⟩ ⟨hi, hR⟩
    simp -implicitDefEqProofs only [hx_i, hx_R] at hi hR
    have hall := keepH_all (hnd R)
    obtain ⟨H, hH⟩ : ∃ H, keepH (holdB b1 b2 b3 ⟨cur, f, t, ms, ss, ps⟩ R) = H := ⟨_, rfl⟩
    rw [hH] at hall
    obtain ⟨k3, k2, k1, _⟩ := id hall
    by_cases h : i < ss.length
    · have hel := rowS_at h
      have hso := hss _ (List.getElem_mem h)
      obtain ⟨R', hw, hR'⟩ := With_ok (a := ss[i].f) (b := ss[i].t) (more := ((sumN (i : Int) : Nat) : Int)) hR a3 (by omega) (by omega) (by omega) (by obtain ⟨_, q1, q2, q3⟩ := hso; omega) (by obtain ⟨_, q1, q2, q3⟩ := hso; omega)
      rw [← setS_step h a7] at hR'
      generalize ss[i] = s at *
      simp -implicitDefEqProofs -proj only [go_sem, Nat.reduceBEq, Nat.reduceLT, Nat.reduceLeDiff, Nat.reduceAdd, Nat.reduceMul, ↓reduceIte, Int.reduceToNat, Int.reducePow, Int.reduceLT, Int.reduceLE, Int.reduceAdd, Int.reduceSub, Int.reduceMul, Int.reduceEq, Int.reduceNe, hx_i, hx_R, hH, decide_eq_true (show (i : Int) < ss.length by omega)]
      refine ElemA_at _ (by omega) hel ?_
      simp -implicitDefEqProofs -proj only [go_sem, Nat.reduceBEq, Nat.reduceLT, Nat.reduceLeDiff, Nat.reduceAdd, Nat.reduceMul, ↓reduceIte, Int.reduceToNat, Int.reducePow, Int.reduceLT, Int.reduceLE, Int.reduceAdd, Int.reduceSub, Int.reduceMul, Int.reduceEq, Int.reduceNe]
      refine AllocA_intro (fun b5 hb5 => ?_)
      replace hb5 : H b5 = none := hb5
      obtain ⟨m1, m2⟩ := fresh_ne hb5 k3; obtain ⟨m3, m4⟩ := fresh_ne hb5 k2; obtain ⟨m5, m6⟩ := fresh_ne hb5 k1
      simp -implicitDefEqProofs -proj only [go_sem, Nat.reduceBEq, Nat.reduceLT, Nat.reduceLeDiff, Nat.reduceAdd, Nat.reduceMul, ↓reduceIte, Int.reduceToNat, Int.reducePow, Int.reduceLT, Int.reduceLE, Int.reduceAdd, Int.reduceSub, Int.reduceMul, Int.reduceEq, Int.reduceNe, m1, m2, k3]
      refine PCallA_pure Sum_ok17 ?_
      simp -implicitDefEqProofs -proj only [go_sem, Nat.reduceBEq, Nat.reduceLT, Nat.reduceLeDiff, Nat.reduceAdd, Nat.reduceMul, ↓reduceIte, Int.reduceToNat, Int.reducePow, Int.reduceLT, Int.reduceLE, Int.reduceAdd, Int.reduceSub, Int.reduceMul, Int.reduceEq, Int.reduceNe, m1, m2, k3]
      refine CallA_pure hw ?_
      simp -implicitDefEqProofs -proj only [go_sem, Nat.reduceBEq, Nat.reduceLT, Nat.reduceLeDiff, Nat.reduceAdd, Nat.reduceMul, ↓reduceIte, Int.reduceToNat, Int.reducePow, Int.reduceLT, Int.reduceLE, Int.reduceAdd, Int.reduceSub, Int.reduceMul, Int.reduceEq, Int.reduceNe, m1, m2, k3]
      refine LoopQ_k ⟨i + 1, R'⟩ ⟨by rw [hx_i]; omega, hR'⟩ (by show ss.length - (i + 1) < ss.length - i; omega) rfl ?_ ?_
      · simp -implicitDefEqProofs -proj only [go_sem, Nat.reduceBEq, Nat.reduceLT, Nat.reduceLeDiff, Nat.reduceAdd, Nat.reduceMul, ↓reduceIte, Int.reduceToNat, Int.reducePow, Int.reduceLT, Int.reduceLE, Int.reduceAdd, Int.reduceSub, Int.reduceMul, Int.reduceEq, Int.reduceNe, AllAt, hx_i, hx_R, i64_succ (show i < 9223372036854775807 by omega)]
      · simp -implicitDefEqProofs -proj only [go_sem, Nat.reduceBEq, Nat.reduceLT, Nat.reduceLeDiff, Nat.reduceAdd, Nat.reduceMul, ↓reduceIte, Int.reduceToNat, Int.reducePow, Int.reduceLT, Int.reduceLE, Int.reduceAdd, Int.reduceSub, Int.reduceMul, Int.reduceEq, Int.reduceNe, AllH, holdB, hx_R, m1, m2, m3, m4, m5, m6, k1, k2, n1, n2, n3, n4, n5, n6]
    · have hi' : i = ss.length := by omega
      subst hi'
      have hR0 : FwdOK (fun d => ((setP ss ps d 0 : Nat) : Int)) f (t + 1) R := hR
      simp -implicitDefEqProofs -proj only [go_sem, Nat.reduceBEq, Nat.reduceLT, Nat.reduceLeDiff, Nat.reduceAdd, Nat.reduceMul, ↓reduceIte, Int.reduceToNat, Int.reducePow, Int.reduceLT, Int.reduceLE, Int.reduceAdd, Int.reduceSub, Int.reduceMul, Int.reduceEq, Int.reduceNe, hx_i, hx_R, hH, k1, rowP_len, decide_eq_false (show ¬ (ss.length : Int) < ss.length by omega)]
      refine LoopA_k (fun y : HX => y.i ≤ ps.length ∧ FwdOK (fun d => ((setP ss ps d y.i : Nat) : Int)) f (t + 1) y.R) 52 (fun y => [(1, .ptr b1 0), (2, .ptr b2 0), (3, .ptr b3 0), (35, .d (.sl 9 (rowP ps))), (36, i64 ps.length), (37, i64 y.i)]) (fun y => holdB b1 b2 b3 ⟨cur, f, t, ms, ss, ps⟩ y.R) (fun y => ps.length - y.i) ⟨0, R⟩ ⟨Nat.zero_le _, hR0⟩ rfl ?_ ?_ ?_
      · simp -implicitDefEqProofs -proj only [go_sem, Nat.reduceBEq, Nat.reduceLT, Nat.reduceLeDiff, Nat.reduceAdd, Nat.reduceMul, ↓reduceIte, Int.reduceToNat, Int.reducePow, Int.reduceLT, Int.reduceLE, Int.reduceAdd, Int.reduceSub, Int.reduceMul, Int.reduceEq, Int.reduceNe, AllAt, hx_i]
      · exact hall
      · rintro ⟨i, R⟩ ⟨hi, hR⟩
        simp -implicitDefEqProofs only [hx_i, hx_R] at hi hR
        have hall := keepH_all (hnd R)
        obtain ⟨H, hH⟩ : ∃ H, keepH (holdB b1 b2 b3 ⟨cur, f, t, ms, ss, ps⟩ R) = H := ⟨_, rfl⟩
        rw [hH] at hall
        obtain ⟨k3, k2, k1, _⟩ := id hall
        by_cases h : i < ps.length
        · have hel := rowP_at h
          have hso := (hps _ (List.getElem_mem h)).1.2.2.1
          obtain ⟨R', hw, hR'⟩ := With_ok (a := ps[i].f) (b := ps[i].t) (more := ((partN (i : Int) : Nat) : Int)) hR a3 (by omega) (by omega) (by omega) (by omega) (by omega)
          rw [← setP_step h a7 a8] at hR'
          generalize ps[i] = s at *
          simp -implicitDefEqProofs -proj only [go_sem, Nat.reduceBEq, Nat.reduceLT, Nat.reduceLeDiff, Nat.reduceAdd, Nat.reduceMul, ↓reduceIte, Int.reduceToNat, Int.reducePow, Int.reduceLT, Int.reduceLE, Int.reduceAdd, Int.reduceSub, Int.reduceMul, Int.reduceEq, Int.reduceNe, hx_i, hx_R, hH, decide_eq_true (show (i : Int) < ps.length by omega)]
          refine ElemA_at _ (by omega) hel ?_
          simp -implicitDefEqProofs -proj only [go_sem, Nat.reduceBEq, Nat.reduceLT, Nat.reduceLeDiff, Nat.reduceAdd, Nat.reduceMul, ↓reduceIte, Int.reduceToNat, Int.reducePow, Int.reduceLT, Int.reduceLE, Int.reduceAdd, Int.reduceSub, Int.reduceMul, Int.reduceEq, Int.reduceNe]
          refine AllocA_intro (fun b5 hb5 => ?_)
          replace hb5 : H b5 = none := hb5
          obtain ⟨m1, m2⟩ := fresh_ne hb5 k3; obtain ⟨m3, m4⟩ := fresh_ne hb5 k2; obtain ⟨m5, m6⟩ := fresh_ne hb5 k1
          simp -implicitDefEqProofs -proj only [go_sem, Nat.reduceBEq, Nat.reduceLT, Nat.reduceLeDiff, Nat.reduceAdd, Nat.reduceMul, ↓reduceIte, Int.reduceToNat, Int.reducePow, Int.reduceLT, Int.reduceLE, Int.reduceAdd, Int.reduceSub, Int.reduceMul, Int.reduceEq, Int.reduceNe, m1, m2, k3]
          refine PCallA_pure Part_ok17 ?_
          simp -implicitDefEqProofs -proj only [go_sem, Nat.reduceBEq, Nat.reduceLT, Nat.reduceLeDiff, Nat.reduceAdd, Nat.reduceMul, ↓reduceIte, Int.reduceToNat, Int.reducePow, Int.reduceLT, Int.reduceLE, Int.reduceAdd, Int.reduceSub, Int.reduceMul, Int.reduceEq, Int.reduceNe, m1, m2, k3]
          refine CallA_pure hw ?_
          simp -implicitDefEqProofs -proj only [go_sem, Nat.reduceBEq, Nat.reduceLT, Nat.reduceLeDiff, Nat.reduceAdd, Nat.reduceMul, ↓reduceIte, Int.reduceToNat, Int.reducePow, Int.reduceLT, Int.reduceLE, Int.reduceAdd, Int.reduceSub, Int.reduceMul, Int.reduceEq, Int.reduceNe, m1, m2, k3]
          refine LoopQ_k ⟨i + 1, R'⟩ ⟨by rw [hx_i]; omega, hR'⟩ (by show ps.length - (i + 1) < ps.length - i; omega) rfl ?_ ?_
          · simp -implicitDefEqProofs -proj only [go_sem, Nat.reduceBEq, Nat.reduceLT, Nat.reduceLeDiff, Nat.reduceAdd, Nat.reduceMul, ↓reduceIte, Int.reduceToNat, Int.reducePow, Int.reduceLT, Int.reduceLE, Int.reduceAdd, Int.reduceSub, Int.reduceMul, Int.reduceEq, Int.reduceNe, AllAt, hx_i, hx_R, i64_succ (show i < 9223372036854775807 by omega)]
          · simp -implicitDefEqProofs -proj only [go_sem, Nat.reduceBEq, Nat.reduceLT, Nat.reduceLeDiff, Nat.reduceAdd, Nat.reduceMul, ↓reduceIte, Int.reduceToNat, Int.reducePow, Int.reduceLT, Int.reduceLE, Int.reduceAdd, Int.reduceSub, Int.reduceMul, Int.reduceEq, Int.reduceNe, AllH, holdB, hx_R, m1, m2, m3, m4, m5, m6, k1, k2, n1, n2, n3, n4, n5, n6]
        · have hi' : i = ps.length := by omega
          subst hi'
          have hz := heq hR a3
          subst hz
          simp -implicitDefEqProofs -proj only [go_sem, Nat.reduceBEq, Nat.reduceLT, Nat.reduceLeDiff, Nat.reduceAdd, Nat.reduceMul, ↓reduceIte, Int.reduceToNat, Int.reducePow, Int.reduceLT, Int.reduceLE, Int.reduceAdd, Int.reduceSub, Int.reduceMul, Int.reduceEq, Int.reduceNe, hx_i, hx_R, hH, k1, k2, k3, n1, n2, n3, n4, n5, n6, decide_eq_false (show ¬ (ps.length : Int) < ps.length by omega)]
          exact LendV_eq rfl
theorem RHolds_ok {c : CoreX} {day : Int} (h7 : c.ss.length ≤ 8) (h8 : c.ps.length ≤ 8) : DataW Try.prog f_poundageref17_Holds [coreX c, i64 day] (u64 ((setC c day : Nat) : Int)) := by
  obtain ⟨cur, f, t, ms, ss, ps⟩ := c
  simp -implicitDefEqProofs only [] at h7 h8
  unfold setC
  simp -implicitDefEqProofs only []
  refine CallW_intro comp_poundageref17_Holds (by simp) ?_
  simp -implicitDefEqProofs -proj only [go_sem, Nat.reduceBEq, Nat.reduceLT, Nat.reduceLeDiff, Nat.reduceAdd, Nat.reduceMul, ↓reduceIte, Int.reduceToNat, Int.reducePow, Int.reduceLT, Int.reduceLE, Int.reduceAdd, Int.reduceSub, Int.reduceMul, Int.reduceEq, Int.reduceNe]
  refine AllocA_intro (fun b2 hb2 => ?_)
  simp -implicitDefEqProofs -proj only [go_sem, Nat.reduceBEq, Nat.reduceLT, Nat.reduceLeDiff, Nat.reduceAdd, Nat.reduceMul, ↓reduceIte, Int.reduceToNat, Int.reducePow, Int.reduceLT, Int.reduceLE, Int.reduceAdd, Int.reduceSub, Int.reduceMul, Int.reduceEq, Int.reduceNe, rowS_len]
  refine LoopA_k (fun i : Nat => i ≤ ss.length) 59 (fun i => [(1, i64 day), (2, .ptr b2 0), (5, u64 ((setS ss day i : Nat) : Int)), (11, .d (.sl 3 (rowS ss))), (12, i64 ss.length), (13, i64 i)]) (fun _ => [(b2, coreB ⟨cur, f, t, ms, ss, ps⟩)]) (fun i => ss.length - i) 0 (Nat.zero_le _) rfl ?_ ?_ ?_
  · simp -implicitDefEqProofs -proj only [go_sem, Nat.reduceBEq, Nat.reduceLT, Nat.reduceLeDiff, Nat.reduceAdd, Nat.reduceMul, ↓reduceIte, Int.reduceToNat, Int.reducePow, Int.reduceLT, Int.reduceLE, Int.reduceAdd, Int.reduceSub, Int.reduceMul, Int.reduceEq, Int.reduceNe, AllAt, setS]
    try rfl
  · simp -implicitDefEqProofs -proj only [go_sem, Nat.reduceBEq, Nat.reduceLT, Nat.reduceLeDiff, Nat.reduceAdd, Nat.reduceMul, ↓reduceIte, Int.reduceToNat, Int.reducePow, Int.reduceLT, Int.reduceLE, Int.reduceAdd, Int.reduceSub, Int.reduceMul, Int.reduceEq, Int.reduceNe, AllH]
  · rintro i hi
    have hk : AllH (keepH [(b2, coreB ⟨cur, f, t, ms, ss, ps⟩)]) [(b2, coreB ⟨cur, f, t, ms, ss, ps⟩)] := keepH_all (by simp [keys])
    have k2 := hk.1
    by_cases h : i < ss.length
    · have hel := rowS_at h
      have h1 := setS_lt (ss := ss) (d := day) i
      have h2 := pow_le8 (i := i) (by omega)
      have hstep : setS ss day (i + 1) = setS ss day i ||| (if ss[i].f ≤ day ∧ day ≤ ss[i].t then 2 ^ i else 0) := by rw [setS, List.getElem?_eq_getElem h]
      have hw1 : IntKind.u64.wrap (i : Int) = i := by rw [IntKind.wrap_u64]; omega
      have hw2 := pow_u64 (i := i) (by omega)
      have hor : borI .u64 ((setS ss day i : Nat) : Int) ((2 ^ i : Nat) : Int) = ((setS ss day i ||| 2 ^ i : Nat) : Int) := bor_nat (by omega) (by omega)
      generalize ss[i] = s at *
      generalize setS ss day i = A at *
      generalize hpw : 2 ^ i = p at *
      simp -implicitDefEqProofs -proj only [go_sem, Nat.reduceBEq, Nat.reduceLT, Nat.reduceLeDiff, Nat.reduceAdd, Nat.reduceMul, ↓reduceIte, Int.reduceToNat, Int.reducePow, Int.reduceLT, Int.reduceLE, Int.reduceAdd, Int.reduceSub, Int.reduceMul, Int.reduceEq, Int.reduceNe, decide_eq_true (show (i : Int) < ss.length by omega)]
      refine ElemA_at _ (by omega) hel ?_
      simp -implicitDefEqProofs -proj only [go_sem, Nat.reduceBEq, Nat.reduceLT, Nat.reduceLeDiff, Nat.reduceAdd, Nat.reduceMul, ↓reduceIte, Int.reduceToNat, Int.reducePow, Int.reduceLT, Int.reduceLE, Int.reduceAdd, Int.reduceSub, Int.reduceMul, Int.reduceEq, Int.reduceNe]
      refine AllocA_intro (fun b5 hb5 => ?_)
      replace hb5 : keepH [(b2, coreB ⟨cur, f, t, ms, ss, ps⟩)] b5 = none := hb5
      obtain ⟨m1, m2⟩ := fresh_ne hb5 k2
      by_cases c1 : s.f ≤ day
      · by_cases c2 : day ≤ s.t
        · rw [if_pos ⟨c1, c2⟩] at hstep
          simp -implicitDefEqProofs -proj only [go_sem, Nat.reduceBEq, Nat.reduceLT, Nat.reduceLeDiff, Nat.reduceAdd, Nat.reduceMul, ↓reduceIte, Int.reduceToNat, Int.reducePow, Int.reduceLT, Int.reduceLE, Int.reduceAdd, Int.reduceSub, Int.reduceMul, Int.reduceEq, Int.reduceNe, m1, m2, decide_eq_true c1, decide_eq_true c2, hw1, Int.toNat_natCast, hw2, hor]
          (repeat' (with_reducible refine VC_intro ?_ (fun h => ?_); (focus first | decide | omega); clear h; try simp -implicitDefEqProofs -proj only [go_sem, Nat.reduceBEq, Nat.reduceLT, Nat.reduceLeDiff, Nat.reduceAdd, Nat.reduceMul, ↓reduceIte, Int.reduceToNat, Int.reducePow, Int.reduceLT, Int.reduceLE, Int.reduceAdd, Int.reduceSub, Int.reduceMul, Int.reduceEq, Int.reduceNe, Int.toNat_natCast, hw1, hw2, hor]))
          refine LoopQ_k (i + 1) (by omega) (by show ss.length - (i + 1) < ss.length - i; omega) rfl ?_ (AllH_upd hb5 hk)
          simp -implicitDefEqProofs -proj only [go_sem, Nat.reduceBEq, Nat.reduceLT, Nat.reduceLeDiff, Nat.reduceAdd, Nat.reduceMul, ↓reduceIte, Int.reduceToNat, Int.reducePow, Int.reduceLT, Int.reduceLE, Int.reduceAdd, Int.reduceSub, Int.reduceMul, Int.reduceEq, Int.reduceNe, AllAt, hstep, i64_succ (show i < 9223372036854775807 by omega)]
        · rw [if_neg (fun k => c2 k.2), Nat.or_zero] at hstep
          simp -implicitDefEqProofs -proj only [go_sem, Nat.reduceBEq, Nat.reduceLT, Nat.reduceLeDiff, Nat.reduceAdd, Nat.reduceMul, ↓reduceIte, Int.reduceToNat, Int.reducePow, Int.reduceLT, Int.reduceLE, Int.reduceAdd, Int.reduceSub, Int.reduceMul, Int.reduceEq, Int.reduceNe, m1, m2, decide_eq_true c1, decide_eq_false c2]
          refine LoopQ_k (i + 1) (by omega) (by show ss.length - (i + 1) < ss.length - i; omega) rfl ?_ (AllH_upd hb5 hk)
          simp -implicitDefEqProofs -proj only [go_sem, Nat.reduceBEq, Nat.reduceLT, Nat.reduceLeDiff, Nat.reduceAdd, Nat.reduceMul, ↓reduceIte, Int.reduceToNat, Int.reducePow, Int.reduceLT, Int.reduceLE, Int.reduceAdd, Int.reduceSub, Int.reduceMul, Int.reduceEq, Int.reduceNe, AllAt, hstep, i64_succ (show i < 9223372036854775807 by omega)]
      · rw [if_neg (fun k => c1 k.1), Nat.or_zero] at hstep
        simp -implicitDefEqProofs -proj only [go_sem, Nat.reduceBEq, Nat.reduceLT, Nat.reduceLeDiff, Nat.reduceAdd, Nat.reduceMul, ↓reduceIte, Int.reduceToNat, Int.reducePow, Int.reduceLT, Int.reduceLE, Int.reduceAdd, Int.reduceSub, Int.reduceMul, Int.reduceEq, Int.reduceNe, m1, m2, decide_eq_false c1]
        refine LoopQ_k (i + 1) (by omega) (by show ss.length - (i + 1) < ss.length - i; omega) rfl ?_ (AllH_upd hb5 hk)
        simp -implicitDefEqProofs -proj only [go_sem, Nat.reduceBEq, Nat.reduceLT, Nat.reduceLeDiff, Nat.reduceAdd, Nat.reduceMul, ↓reduceIte, Int.reduceToNat, Int.reducePow, Int.reduceLT, Int.reduceLE, Int.reduceAdd, Int.reduceSub, Int.reduceMul, Int.reduceEq, Int.reduceNe, AllAt, hstep, i64_succ (show i < 9223372036854775807 by omega)]
    · have hi' : i = ss.length := by omega
      subst hi'
      simp -implicitDefEqProofs -proj only [go_sem, Nat.reduceBEq, Nat.reduceLT, Nat.reduceLeDiff, Nat.reduceAdd, Nat.reduceMul, ↓reduceIte, Int.reduceToNat, Int.reducePow, Int.reduceLT, Int.reduceLE, Int.reduceAdd, Int.reduceSub, Int.reduceMul, Int.reduceEq, Int.reduceNe, k2, rowP_len, decide_eq_false (show ¬ (ss.length : Int) < ss.length by omega)]
      refine LoopA_k (fun i : Nat => i ≤ ps.length) 59 (fun i => [(1, i64 day), (5, u64 ((setP ss ps day i : Nat) : Int)), (35, .d (.sl 9 (rowP ps))), (36, i64 ps.length), (37, i64 i)]) (fun _ => [(b2, coreB ⟨cur, f, t, ms, ss, ps⟩)]) (fun i => ps.length - i) 0 (Nat.zero_le _) rfl ?_ ?_ ?_
      · simp -implicitDefEqProofs -proj only [go_sem, Nat.reduceBEq, Nat.reduceLT, Nat.reduceLeDiff, Nat.reduceAdd, Nat.reduceMul, ↓reduceIte, Int.reduceToNat, Int.reducePow, Int.reduceLT, Int.reduceLE, Int.reduceAdd, Int.reduceSub, Int.reduceMul, Int.reduceEq, Int.reduceNe, AllAt, setP]
        try rfl
      · exact hk
      · rintro i hi
        have k2 := hk.1
        by_cases h : i < ps.length
        · have hel := rowP_at h
          have h1 := setP_lt (ps := ps) (d := day) h7 i
          have h2 := pow_le16 (i := i) (by omega)
          have hstep : setP ss ps day (i + 1) = setP ss ps day i ||| (if ps[i].f ≤ day ∧ day ≤ ps[i].t then 256 * 2 ^ i else 0) := by rw [setP, List.getElem?_eq_getElem h]
          have hw1 : IntKind.u64.wrap (i : Int) = i := by rw [IntKind.wrap_u64]; omega
          have hw2 := pow_u64p (i := i) (by omega)
          have hp8 := pow_le8 (i := i) (by omega)
          have hor : borI .u64 ((setP ss ps day i : Nat) : Int) ((256 * 2 ^ i : Nat) : Int) = ((setP ss ps day i ||| 256 * 2 ^ i : Nat) : Int) := bor_nat (by omega) (by omega)
          generalize ps[i] = s at *
          generalize setP ss ps day i = A at *
          generalize hpw : 256 * 2 ^ i = p at *
          simp -implicitDefEqProofs -proj only [go_sem, Nat.reduceBEq, Nat.reduceLT, Nat.reduceLeDiff, Nat.reduceAdd, Nat.reduceMul, ↓reduceIte, Int.reduceToNat, Int.reducePow, Int.reduceLT, Int.reduceLE, Int.reduceAdd, Int.reduceSub, Int.reduceMul, Int.reduceEq, Int.reduceNe, decide_eq_true (show (i : Int) < ps.length by omega)]
          refine ElemA_at _ (by omega) hel ?_
          simp -implicitDefEqProofs -proj only [go_sem, Nat.reduceBEq, Nat.reduceLT, Nat.reduceLeDiff, Nat.reduceAdd, Nat.reduceMul, ↓reduceIte, Int.reduceToNat, Int.reducePow, Int.reduceLT, Int.reduceLE, Int.reduceAdd, Int.reduceSub, Int.reduceMul, Int.reduceEq, Int.reduceNe]
          refine AllocA_intro (fun b5 hb5 => ?_)
          replace hb5 : keepH [(b2, coreB ⟨cur, f, t, ms, ss, ps⟩)] b5 = none := hb5
          obtain ⟨m1, m2⟩ := fresh_ne hb5 k2
          by_cases c1 : s.f ≤ day
          · by_cases c2 : day ≤ s.t
            · rw [if_pos ⟨c1, c2⟩] at hstep
              simp -implicitDefEqProofs -proj only [go_sem, Nat.reduceBEq, Nat.reduceLT, Nat.reduceLeDiff, Nat.reduceAdd, Nat.reduceMul, ↓reduceIte, Int.reduceToNat, Int.reducePow, Int.reduceLT, Int.reduceLE, Int.reduceAdd, Int.reduceSub, Int.reduceMul, Int.reduceEq, Int.reduceNe, m1, m2, decide_eq_true c1, decide_eq_true c2, hw1, Int.toNat_natCast, hw2, hor]
              (repeat' (with_reducible refine VC_intro ?_ (fun h => ?_); (focus first | decide | omega); clear h; try simp -implicitDefEqProofs -proj only [go_sem, Nat.reduceBEq, Nat.reduceLT, Nat.reduceLeDiff, Nat.reduceAdd, Nat.reduceMul, ↓reduceIte, Int.reduceToNat, Int.reducePow, Int.reduceLT, Int.reduceLE, Int.reduceAdd, Int.reduceSub, Int.reduceMul, Int.reduceEq, Int.reduceNe, Int.toNat_natCast, hw1, hw2, hor]))
              refine LoopQ_k (i + 1) (by omega) (by show ps.length - (i + 1) < ps.length - i; omega) rfl ?_ (AllH_upd hb5 hk)
              simp -implicitDefEqProofs -proj only [go_sem, Nat.reduceBEq, Nat.reduceLT, Nat.reduceLeDiff, Nat.reduceAdd, Nat.reduceMul, ↓reduceIte, Int.reduceToNat, Int.reducePow, Int.reduceLT, Int.reduceLE, Int.reduceAdd, Int.reduceSub, Int.reduceMul, Int.reduceEq, Int.reduceNe, AllAt, hstep, i64_succ (show i < 9223372036854775807 by omega)]
            · rw [if_neg (fun k => c2 k.2), Nat.or_zero] at hstep
              simp -implicitDefEqProofs -proj only [go_sem, Nat.reduceBEq, Nat.reduceLT, Nat.reduceLeDiff, Nat.reduceAdd, Nat.reduceMul, ↓reduceIte, Int.reduceToNat, Int.reducePow, Int.reduceLT, Int.reduceLE, Int.reduceAdd, Int.reduceSub, Int.reduceMul, Int.reduceEq, Int.reduceNe, m1, m2, decide_eq_true c1, decide_eq_false c2]
              refine LoopQ_k (i + 1) (by omega) (by show ps.length - (i + 1) < ps.length - i; omega) rfl ?_ (AllH_upd hb5 hk)
              simp -implicitDefEqProofs -proj only [go_sem, Nat.reduceBEq, Nat.reduceLT, Nat.reduceLeDiff, Nat.reduceAdd, Nat.reduceMul, ↓reduceIte, Int.reduceToNat, Int.reducePow, Int.reduceLT, Int.reduceLE, Int.reduceAdd, Int.reduceSub, Int.reduceMul, Int.reduceEq, Int.reduceNe, AllAt, hstep, i64_succ (show i < 9223372036854775807 by omega)]
          · rw [if_neg (fun k => c1 k.1), Nat.or_zero] at hstep
            simp -implicitDefEqProofs -proj only [go_sem, Nat.reduceBEq, Nat.reduceLT, Nat.reduceLeDiff, Nat.reduceAdd, Nat.reduceMul, ↓reduceIte, Int.reduceToNat, Int.reducePow, Int.reduceLT, Int.reduceLE, Int.reduceAdd, Int.reduceSub, Int.reduceMul, Int.reduceEq, Int.reduceNe, m1, m2, decide_eq_false c1]
            refine LoopQ_k (i + 1) (by omega) (by show ps.length - (i + 1) < ps.length - i; omega) rfl ?_ (AllH_upd hb5 hk)
            simp -implicitDefEqProofs -proj only [go_sem, Nat.reduceBEq, Nat.reduceLT, Nat.reduceLeDiff, Nat.reduceAdd, Nat.reduceMul, ↓reduceIte, Int.reduceToNat, Int.reducePow, Int.reduceLT, Int.reduceLE, Int.reduceAdd, Int.reduceSub, Int.reduceMul, Int.reduceEq, Int.reduceNe, AllAt, hstep, i64_succ (show i < 9223372036854775807 by omega)]
        · have hi' : i = ps.length := by omega
          subst hi'
          simp -implicitDefEqProofs -proj only [go_sem, Nat.reduceBEq, Nat.reduceLT, Nat.reduceLeDiff, Nat.reduceAdd, Nat.reduceMul, ↓reduceIte, Int.reduceToNat, Int.reducePow, Int.reduceLT, Int.reduceLE, Int.reduceAdd, Int.reduceSub, Int.reduceMul, Int.reduceEq, Int.reduceNe, decide_eq_false (show ¬ (ps.length : Int) < ps.length by omega)]
          exact LendV_eq rfl
end Go.Proofs.Ytmkennmppdmnhaa.Abs
