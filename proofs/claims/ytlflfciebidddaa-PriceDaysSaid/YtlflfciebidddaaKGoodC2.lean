/- When a core can be, by the program (core.Good; printed by mkgc.py from KGoodR). No claim stands here. -/
import Derived.Test.YtlflfciebidddaaKGoodC
set_option linter.unusedSimpArgs false
set_option linter.unusedVariables false
namespace Go.Proofs.Ytlflfciebidddaa.Abs
open Go Go.RowKit Go.Proofs
attribute [local go_sem] RunC_seq AF_n AF_r AF_b St_n St_t St_H Fst_mk Snd_mk RunC_ops RunC_cond RunC_block RunC_loop RunC_exit RunC_ret RunC_skip RunO_nil RunO_code RunO_code_ret RunO_code_exit RunO_blk RunO_blk_ret RunO_blk_exit RunL_nil RunL_guard GuardA_tt GuardA_ff GuardA_tf GuardA_ft GuardA_void CondA_t CondA_f PickA_t PickA_f RunL_mov RunL_pick RunL_alloc RunL_box RunL_load LoadA_ptr LoadB_1 LoadB_n LoadA_dptr LoadA_dptr_n RunL_store StoreA_ptr StoreB_box RunL_bin Bin_add Bin_sub Bin_mul Bin_quo Bin_rem Bin_shl Bin_shr Bin_andI Bin_orI Bin_xorI Bin_eql Bin_neq Bin_lss Bin_leq Bin_gtr Bin_geq RunL_binb Bin_beql Bin_bneq RunL_un UnA_not UnA_neg RunL_conv convV MapA_some RunL_nilCheck nilV RunL_mkfn RunL_fieldAddr faV RunL_field FieldA_1 FieldA_n RunL_elemAddr EAddrA_sl EAddrA_own EptrA_eq RunL_build BuildA_some RunL_extract ExtA_eq RunL_len lenV_sl lenV_nilsl lenV_own RunL_slen RunL_idxStr IdxSA_eq slenV RunL_minmax mmV minmaxL RunL_call RunL_callv CallvA_fn putS ev evL evO evP eqK eqKs EqB_agg RunL_eqAgg EqA_t EqA_f evQ buildC fits_agg cellsAV_agg fits_d cellsAV_d fits_nilp cellsAV_nilp fits_nilsl cellsAV_nilsl fits_nilfn cellsAV_nilfn fits_ptr cellsAV_ptr fits_eptr cellsAV_eptr fits_dptr cellsAV_dptr fits_own cellsAV_own fits_fn cellsAV_fn rowV_fits rowV_cells rowV_len lenAV setSeg nth seg mapD repeatL putT_get upd_get argT keepT_cons keepT_nil keepH_cons keepH_nil cond_true cond_false VC_true finW resW resL resOne LoopQ_exit LoopQ_ret List.cons_append List.nil_append Bool.not_true Bool.not_false Bool.and_true Bool.and_self Nat.lt_add_left_iff_pos Nat.zero_add Nat.add_zero List.drop_succ_cons List.drop_zero List.take_succ_cons List.take_zero beq_self_eq_true Bool.false_eq_true RunC_dops RunL_loadS RunL_loadD LoadDA_dptr RunL_storeS StoreSA_ptr RunL_pcall RunL_pcallv PCallvA_fn newsOk and_self and_true true_and loadW_ptr LoadK_1 LoadK_n upd_upd RunL_loadP LoadPA_ptr RunL_callS RunL_make RunL_buildSlice BSliceA_some RunL_buildSliceD frzL frz cutL LoadA_eptr LoadE_row RunL_append RunL_slice SliceA_sl StoreA_eptr List.length_cons List.length_nil Nat.min_def Int.cast_ofNat_Int Int.natCast_zero Int.natCast_one decide_true decide_false List.getElem?_cons_zero List.getElem?_cons_succ RunC_rangef CallvA_yld putL_nil putL_cons RangeQ_exit RangeQ_ret
set_option maxRecDepth 20000 in
theorem CGood_ok {c : CoreX} (hc : c.Fit) : DataW Try.prog f_core_Good [coreX c] (bv (decide (goodC c))) := by
  obtain ⟨cur, f, t, ms, ss, ps⟩ := c
  obtain ⟨hff, hft, _, hmn, _, hsn, hps, hpn⟩ := hc
  simp -implicitDefEqProofs only [] at hff hft hmn hsn hps hpn
  have hno : ¬ headC ⟨cur, f, t, ms, ss, ps⟩ → decide (goodC ⟨cur, f, t, ms, ss, ps⟩) = false := fun h => decide_eq_false (fun k => h k.hd)
  unfold headC at hno
  simp -implicitDefEqProofs only [] at hno
  refine CallW_intro comp_core_Good (by simp) ?_
  simp -implicitDefEqProofs -proj only [go_sem, Nat.reduceBEq, Nat.reduceLT, Nat.reduceLeDiff, Nat.reduceAdd, Nat.reduceMul, ↓reduceIte]
  refine AllocA_intro (fun b1 hb1 => ?_)
  simp -implicitDefEqProofs -proj only [go_sem, Nat.reduceBEq, Nat.reduceLT, Nat.reduceLeDiff, Nat.reduceAdd, Nat.reduceMul, ↓reduceIte]
  by_cases g1 : f < 0
  · simp -implicitDefEqProofs -proj only [go_sem, Nat.reduceBEq, Nat.reduceLT, Nat.reduceLeDiff, Nat.reduceAdd, Nat.reduceMul, ↓reduceIte, decide_eq_true g1]
    exact LendV_eq (by rw [hno (fun k => by omega)])
  by_cases g2 : t < f
  · simp -implicitDefEqProofs -proj only [go_sem, Nat.reduceBEq, Nat.reduceLT, Nat.reduceLeDiff, Nat.reduceAdd, Nat.reduceMul, ↓reduceIte, decide_eq_false g1, decide_eq_true g2]
    exact LendV_eq (by rw [hno (fun k => by omega)])
  by_cases g2b : 3652059 ≤ t
  · simp -implicitDefEqProofs -proj only [go_sem, Nat.reduceBEq, Nat.reduceLT, Nat.reduceLeDiff, Nat.reduceAdd, Nat.reduceMul, ↓reduceIte, decide_eq_false g1, decide_eq_false g2, decide_eq_true g2b]
    exact LendV_eq (by rw [hno (fun k => by omega)])
  have w1 : IntKind.i64.wrap (t - f) = t - f := by rw [IntKind.wrap_i64]; omega
  by_cases g3 : 4000 ≤ t - f
  · simp -implicitDefEqProofs -proj only [go_sem, Nat.reduceBEq, Nat.reduceLT, Nat.reduceLeDiff, Nat.reduceAdd, Nat.reduceMul, ↓reduceIte, w1, rowM_len, rowS_len, rowP_len, decide_eq_false g1, decide_eq_false g2, decide_eq_false g2b, decide_eq_true g3]
    exact LendV_eq (by rw [hno (fun k => by omega)])
  by_cases g4 : 4 < (ms.length : Int)
  · simp -implicitDefEqProofs -proj only [go_sem, Nat.reduceBEq, Nat.reduceLT, Nat.reduceLeDiff, Nat.reduceAdd, Nat.reduceMul, ↓reduceIte, w1, rowM_len, rowS_len, rowP_len, decide_eq_false g1, decide_eq_false g2, decide_eq_false g2b, decide_eq_false g3, decide_eq_true g4]
    exact LendV_eq (by rw [hno (fun k => by omega)])
  by_cases g5 : 8 < (ss.length : Int)
  · simp -implicitDefEqProofs -proj only [go_sem, Nat.reduceBEq, Nat.reduceLT, Nat.reduceLeDiff, Nat.reduceAdd, Nat.reduceMul, ↓reduceIte, w1, rowM_len, rowS_len, rowP_len, decide_eq_false g1, decide_eq_false g2, decide_eq_false g2b, decide_eq_false g3, decide_eq_false g4, decide_eq_true g5]
    exact LendV_eq (by rw [hno (fun k => by omega)])
  by_cases g6 : 8 < (ps.length : Int)
  · simp -implicitDefEqProofs -proj only [go_sem, Nat.reduceBEq, Nat.reduceLT, Nat.reduceLeDiff, Nat.reduceAdd, Nat.reduceMul, ↓reduceIte, w1, rowM_len, rowS_len, rowP_len, decide_eq_false g1, decide_eq_false g2, decide_eq_false g2b, decide_eq_false g3, decide_eq_false g4, decide_eq_false g5, decide_eq_true g6]
    exact LendV_eq (by rw [hno (fun k => by omega)])
  have hhd : headC ⟨cur, f, t, ms, ss, ps⟩   := ⟨⟨by show 0 ≤ f; omega, by show f ≤ 3652058; omega⟩, ⟨by show f ≤ t; omega, by show t ≤ 3652058; omega⟩, show t - f ≤ 3999 by omega, show ms.length ≤ 4 by omega, show ss.length ≤ 8 by omega, show ps.length ≤ 8 by omega⟩
  clear hno
  simp -implicitDefEqProofs -proj only [go_sem, Nat.reduceBEq, Nat.reduceLT, Nat.reduceLeDiff, Nat.reduceAdd, Nat.reduceMul, ↓reduceIte, w1, rowM_len, rowS_len, rowP_len, decide_eq_false g1, decide_eq_false g2, decide_eq_false g2b, decide_eq_false g3, decide_eq_false g4, decide_eq_false g5, decide_eq_false g6]
  refine LoopA_k (fun i : Nat => i ≤ ms.length ∧ ∀ (j : Nat) (h : j < ms.length), j < i → meterOK ms j ms[j]) 125 (fun i => [(1, .ptr b1 0), (49, .d (.sl 5 (rowM ms))), (50, i64 ms.length), (51, i64 i)]) (fun _ => [(b1, .box 26 [.d (.str cur), i64 f, i64 t, .d (.sl 5 (rowM ms)), .d (.sl 3 (rowS ss)), .d (.sl 9 (rowP ps))])]) (fun i => ms.length - i) 0 ⟨Nat.zero_le _, fun j _ h => absurd h (Nat.not_lt_zero _)⟩ rfl ?_ ?_ ?_
  · simp -implicitDefEqProofs -proj only [go_sem, Nat.reduceBEq, Nat.reduceLT, Nat.reduceLeDiff, Nat.reduceAdd, Nat.reduceMul, ↓reduceIte, AllAt]
  · simp -implicitDefEqProofs -proj only [go_sem, Nat.reduceBEq, Nat.reduceLT, Nat.reduceLeDiff, Nat.reduceAdd, Nat.reduceMul, ↓reduceIte, AllH]
  · rintro i ⟨hi, hs⟩
    have hk : AllH (keepH [(b1, .box 26 [.d (.str cur), i64 f, i64 t, .d (.sl 5 (rowM ms)), .d (.sl 3 (rowS ss)), .d (.sl 9 (rowP ps))])]) [(b1, .box 26 [.d (.str cur), i64 f, i64 t, .d (.sl 5 (rowM ms)), .d (.sl 3 (rowS ss)), .d (.sl 9 (rowP ps))])] := keepH_all (by simp [keys])
    have k1 := hk.1
    by_cases h : i < ms.length
    · have hel := rowM_at h
      have hno : ¬ meterOK ms i ms[i] → decide (goodC ⟨cur, f, t, ms, ss, ps⟩) = false := fun e => decide_eq_false fun k => e (k.ms i h)
      have hgo : meterOK ms i ms[i] → ∀ (j : Nat) (h : j < ms.length), j < i + 1 → meterOK ms j ms[j] := step_all (List.getElem?_eq_getElem h) hs
      generalize ms[i] = m at *
      unfold meterOK at hno hgo
      simp -implicitDefEqProofs -proj only [go_sem, Nat.reduceBEq, Nat.reduceLT, Nat.reduceLeDiff, Nat.reduceAdd, Nat.reduceMul, ↓reduceIte, decide_eq_true (show (i : Int) < ms.length by omega)]
      refine ElemA_at _ (by omega) hel ?_
      simp -implicitDefEqProofs -proj only [go_sem, Nat.reduceBEq, Nat.reduceLT, Nat.reduceLeDiff, Nat.reduceAdd, Nat.reduceMul, ↓reduceIte]
      refine AllocA_intro (fun b4 hb4 => ?_)
      replace hb4 : keepH [(b1, Blk.box 26 [.d (.str cur), i64 f, i64 t, .d (.sl 5 (rowM ms)), .d (.sl 3 (rowS ss)), .d (.sl 9 (rowP ps))])] b4 = none := hb4
      obtain ⟨n1, n2⟩ := fresh_ne hb4 k1
      simp -implicitDefEqProofs -proj only [go_sem, Nat.reduceBEq, Nat.reduceLT, Nat.reduceLeDiff, Nat.reduceAdd, Nat.reduceMul, ↓reduceIte, n1, n2]
      by_cases c1 : 0 ≤ m.mx ∧ m.mx ≤ 2000
      rotate_left
      · refine CallA_pure (Betw_f c1) ?_
        simp -implicitDefEqProofs -proj only [go_sem, Nat.reduceBEq, Nat.reduceLT, Nat.reduceLeDiff, Nat.reduceAdd, Nat.reduceMul, ↓reduceIte]
        exact LendV_eq (by rw [hno (fun k => c1 k.1)])
      refine CallA_pure (Betw_t c1) ?_
      by_cases c2 : m.ln = 0
      rotate_left
      · simp -implicitDefEqProofs -proj only [go_sem, Nat.reduceBEq, Nat.reduceLT, Nat.reduceLeDiff, Nat.reduceAdd, Nat.reduceMul, ↓reduceIte, n1, n2, decide_eq_false c2]
        exact LendV_eq (by rw [hno (fun k => c2 k.2.1)])
      by_cases c3 : m.co = 0
      rotate_left
      · simp -implicitDefEqProofs -proj only [go_sem, Nat.reduceBEq, Nat.reduceLT, Nat.reduceLeDiff, Nat.reduceAdd, Nat.reduceMul, ↓reduceIte, n1, n2, decide_eq_true c2, decide_eq_false c3]
        exact LendV_eq (by rw [hno (fun k => c3 k.2.2.1)])
      by_cases c4 : i = 0
      · simp -implicitDefEqProofs -proj only [go_sem, Nat.reduceBEq, Nat.reduceLT, Nat.reduceLeDiff, Nat.reduceAdd, Nat.reduceMul, ↓reduceIte, n1, n2, decide_eq_true c2, decide_eq_true c3, decide_eq_false (show ¬ 0 < (i : Int) by omega)]
        refine LoopQ_k (i + 1) ⟨by omega, hgo ⟨c1, c2, c3, fun p _ h => absurd h (by omega)⟩⟩ (by show ms.length - (i + 1) < ms.length - i; omega) rfl ?_ (AllH_upd hb4 hk)
        simp -implicitDefEqProofs -proj only [go_sem, Nat.reduceBEq, Nat.reduceLT, Nat.reduceLeDiff, Nat.reduceAdd, Nat.reduceMul, ↓reduceIte, AllAt, i64_succ (show i < 9223372036854775807 by omega)]
      · have hw : IntKind.i64.wrap ((i : Int) - 1) = ((i - 1 : Nat) : Int) := by rw [IntKind.wrap_i64]; omega
        have hip : i - 1 < ms.length := by omega
        have hel2 := rowM_at hip
        have hpe : ms[i - 1]? = some ms[i - 1] := List.getElem?_eq_getElem hip
        generalize ms[i - 1] = p at *
        simp -implicitDefEqProofs -proj only [go_sem, Nat.reduceBEq, Nat.reduceLT, Nat.reduceLeDiff, Nat.reduceAdd, Nat.reduceMul, ↓reduceIte, n1, n2, k1, hw, decide_eq_true c2, decide_eq_true c3, decide_eq_true (show 0 < (i : Int) by omega)]
        refine ElemA_at _ (by omega) hel2 ?_
        by_cases c5 : nameLt p.nm m.nm = true
        · have c5' : Op.bytesLess p.nm.toList m.nm.toList = true := c5
          simp -implicitDefEqProofs -proj only [go_sem, Nat.reduceBEq, Nat.reduceLT, Nat.reduceLeDiff, Nat.reduceAdd, Nat.reduceMul, ↓reduceIte, n1, n2, Bin_sgeq, c5']
          refine LoopQ_k (i + 1) ⟨by omega, hgo ⟨c1, c2, c3, fun q hq _ => by rw [hpe] at hq; cases hq; exact c5⟩⟩ (by show ms.length - (i + 1) < ms.length - i; omega) rfl ?_ (AllH_upd hb4 hk)
          simp -implicitDefEqProofs -proj only [go_sem, Nat.reduceBEq, Nat.reduceLT, Nat.reduceLeDiff, Nat.reduceAdd, Nat.reduceMul, ↓reduceIte, AllAt, i64_succ (show i < 9223372036854775807 by omega)]
        · have c5' : Op.bytesLess p.nm.toList m.nm.toList = false := by simpa [nameLt] using c5
          simp -implicitDefEqProofs -proj only [go_sem, Nat.reduceBEq, Nat.reduceLT, Nat.reduceLeDiff, Nat.reduceAdd, Nat.reduceMul, ↓reduceIte, n1, n2, Bin_sgeq, c5']
          exact LendV_eq (by rw [hno (fun k => c5 (k.2.2.2 p hpe (by omega)))])
    · have hi' : i = ms.length := by omega
      subst hi'
      simp -implicitDefEqProofs -proj only [go_sem, Nat.reduceBEq, Nat.reduceLT, Nat.reduceLeDiff, Nat.reduceAdd, Nat.reduceMul, ↓reduceIte, k1, rowS_len, decide_eq_false (show ¬ (ms.length : Int) < ms.length by omega)]
      refine LoopA_k (fun i : Nat => i ≤ ss.length ∧ ∀ (j : Nat) (h : j < ss.length), j < i → sumOK f t ss[j]) 125 (fun i => [(1, .ptr b1 0), (88, .d (.sl 3 (rowS ss))), (89, i64 ss.length), (90, i64 i)]) (fun _ => [(b1, .box 26 [.d (.str cur), i64 f, i64 t, .d (.sl 5 (rowM ms)), .d (.sl 3 (rowS ss)), .d (.sl 9 (rowP ps))])]) (fun i => ss.length - i) 0 ⟨Nat.zero_le _, fun j _ h => absurd h (Nat.not_lt_zero _)⟩ rfl ?_ ?_ ?_
      · simp -implicitDefEqProofs -proj only [go_sem, Nat.reduceBEq, Nat.reduceLT, Nat.reduceLeDiff, Nat.reduceAdd, Nat.reduceMul, ↓reduceIte, AllAt]
      · exact hk
      · rintro i ⟨hi2, hs2⟩
        by_cases h2 : i < ss.length
        · have hel := rowS_at h2
          have hno : ¬ sumOK f t ss[i] → decide (goodC ⟨cur, f, t, ms, ss, ps⟩) = false := fun e => decide_eq_false fun k => e (k.ss _ (List.getElem_mem h2))
          have hgo : sumOK f t ss[i] → ∀ (j : Nat) (h : j < ss.length), j < i + 1 → sumOK f t ss[j] := step_all (P := fun _ x => sumOK f t x) (List.getElem?_eq_getElem h2) hs2
          generalize ss[i] = x at *
          unfold sumOK at hno hgo
          simp -implicitDefEqProofs -proj only [go_sem, Nat.reduceBEq, Nat.reduceLT, Nat.reduceLeDiff, Nat.reduceAdd, Nat.reduceMul, ↓reduceIte, decide_eq_true (show (i : Int) < ss.length by omega)]
          refine ElemA_at _ (by omega) hel ?_
          simp -implicitDefEqProofs -proj only [go_sem, Nat.reduceBEq, Nat.reduceLT, Nat.reduceLeDiff, Nat.reduceAdd, Nat.reduceMul, ↓reduceIte]
          refine AllocA_intro (fun b4 hb4 => ?_)
          replace hb4 : keepH [(b1, Blk.box 26 [.d (.str cur), i64 f, i64 t, .d (.sl 5 (rowM ms)), .d (.sl 3 (rowS ss)), .d (.sl 9 (rowP ps))])] b4 = none := hb4
          obtain ⟨n1, n2⟩ := fresh_ne hb4 k1
          simp -implicitDefEqProofs -proj only [go_sem, Nat.reduceBEq, Nat.reduceLT, Nat.reduceLeDiff, Nat.reduceAdd, Nat.reduceMul, ↓reduceIte, n1, n2]
          by_cases c1 : 0 ≤ x.a ∧ x.a ≤ 1000000000000
          rotate_left
          · refine CallA_pure (Betw_f c1) ?_
            simp -implicitDefEqProofs -proj only [go_sem, Nat.reduceBEq, Nat.reduceLT, Nat.reduceLeDiff, Nat.reduceAdd, Nat.reduceMul, ↓reduceIte]
            exact LendV_eq (by rw [hno (fun k => c1 k.1)])
          refine CallA_pure (Betw_t c1) ?_
          by_cases c2 : x.t < x.f
          · simp -implicitDefEqProofs -proj only [go_sem, Nat.reduceBEq, Nat.reduceLT, Nat.reduceLeDiff, Nat.reduceAdd, Nat.reduceMul, ↓reduceIte, n1, n2, k1, decide_eq_true c2]
            exact LendV_eq (by rw [hno (fun k => by omega)])
          by_cases c3 : x.f < f
          · simp -implicitDefEqProofs -proj only [go_sem, Nat.reduceBEq, Nat.reduceLT, Nat.reduceLeDiff, Nat.reduceAdd, Nat.reduceMul, ↓reduceIte, n1, n2, k1, decide_eq_false c2, decide_eq_true c3]
            exact LendV_eq (by rw [hno (fun k => by omega)])
          by_cases c4 : t < x.t
          · simp -implicitDefEqProofs -proj only [go_sem, Nat.reduceBEq, Nat.reduceLT, Nat.reduceLeDiff, Nat.reduceAdd, Nat.reduceMul, ↓reduceIte, n1, n2, k1, decide_eq_false c2, decide_eq_false c3, decide_eq_true c4]
            exact LendV_eq (by rw [hno (fun k => by omega)])
          simp -implicitDefEqProofs -proj only [go_sem, Nat.reduceBEq, Nat.reduceLT, Nat.reduceLeDiff, Nat.reduceAdd, Nat.reduceMul, ↓reduceIte, n1, n2, k1, decide_eq_false c2, decide_eq_false c3, decide_eq_false c4]
          refine LoopQ_k (i + 1) ⟨by omega, hgo ⟨c1, by omega⟩⟩ (by show ss.length - (i + 1) < ss.length - i; omega) rfl ?_ (AllH_upd hb4 hk)
          simp -implicitDefEqProofs -proj only [go_sem, Nat.reduceBEq, Nat.reduceLT, Nat.reduceLeDiff, Nat.reduceAdd, Nat.reduceMul, ↓reduceIte, AllAt, i64_succ (show i < 9223372036854775807 by omega)]
        · have hi3 : i = ss.length := by omega
          subst hi3
          have hcont := ContP_ok (c := ⟨cur, f, t, ms, ss, ps⟩) (l := ps) k1 hmn (fun x hx => ⟨(hps x hx).tn, (hps x hx).an⟩) hpn
          simp -implicitDefEqProofs -proj only [go_sem, Nat.reduceBEq, Nat.reduceLT, Nat.reduceLeDiff, Nat.reduceAdd, Nat.reduceMul, ↓reduceIte, k1, rowP_len, decide_eq_false (show ¬ (ss.length : Int) < ss.length by omega)]
          refine CallA_w hcont (fun r H' hr => ?_)
          obtain ⟨rfl, hr⟩ := hr
          simp -implicitDefEqProofs -proj only [go_sem, Nat.reduceBEq, Nat.reduceLT, Nat.reduceLeDiff, Nat.reduceAdd, Nat.reduceMul, ↓reduceIte]
          refine LendV_eq (congrArg (fun b => AV.d (.bool b)) ?_)
          have hiff : (ps.any (badP ⟨cur, f, t, ms, ss, ps⟩)) = false ↔ ∀ x ∈ ps, partOK f t ms.length x := by
            rw [List.any_eq_false]
            exact ⟨fun h a ha => by have := h a ha; unfold badP at this; simpa using this, fun h a ha => by unfold badP; simpa using h a ha⟩
          by_cases g11 : ∀ x ∈ ps, partOK f t ms.length x
          · rw [hiff.2 g11, decide_eq_true (show goodC ⟨cur, f, t, ms, ss, ps⟩ from ⟨hhd, fun j h => hs j h h, fun s hm => by obtain ⟨j, hj, rfl⟩ := List.getElem_of_mem hm; exact hs2 j hj hj, g11⟩)]
            rfl
          · rw [decide_eq_false (fun k : goodC ⟨cur, f, t, ms, ss, ps⟩ => g11 k.ps)]
            cases e : ps.any (badP ⟨cur, f, t, ms, ss, ps⟩)
            · exact absurd (hiff.1 e) g11
            · rfl
end Go.Proofs.Ytlflfciebidddaa.Abs
