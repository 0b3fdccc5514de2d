/- When a part can be: the reference's answer (printed by mkgood.py). No claim stands here. -/
import Derived.Test.YtlflfciebidddaaKGood
set_option linter.unusedSimpArgs false
set_option linter.unusedVariables false
namespace Go.Proofs.Ytlflfciebidddaa.Abs
open Go Go.RowKit Go.Proofs
attribute [local go_sem] RunC_seq AF_n AF_r AF_b St_n St_t St_H Fst_mk Snd_mk RunC_ops RunC_cond RunC_block RunC_loop RunC_exit RunC_ret RunC_skip RunO_nil RunO_code RunO_code_ret RunO_code_exit RunO_blk RunO_blk_ret RunO_blk_exit RunL_nil RunL_guard GuardA_tt GuardA_ff GuardA_tf GuardA_ft GuardA_void CondA_t CondA_f PickA_t PickA_f RunL_mov RunL_pick RunL_alloc RunL_box RunL_load LoadA_ptr LoadB_1 LoadB_n LoadA_dptr LoadA_dptr_n RunL_store StoreA_ptr StoreB_box RunL_bin Bin_add Bin_sub Bin_mul Bin_quo Bin_rem Bin_shl Bin_shr Bin_andI Bin_orI Bin_xorI Bin_eql Bin_neq Bin_lss Bin_leq Bin_gtr Bin_geq RunL_binb Bin_beql Bin_bneq RunL_un UnA_not UnA_neg RunL_conv convV MapA_some RunL_nilCheck nilV RunL_mkfn RunL_fieldAddr faV RunL_field FieldA_1 FieldA_n RunL_elemAddr EAddrA_sl EAddrA_own EptrA_eq RunL_build BuildA_some RunL_extract ExtA_eq RunL_len lenV_sl lenV_nilsl lenV_own RunL_slen RunL_idxStr IdxSA_eq slenV RunL_minmax mmV minmaxL RunL_call RunL_callv CallvA_fn putS ev evL evO evP eqK eqKs EqB_agg RunL_eqAgg EqA_t EqA_f evQ buildC fits_agg cellsAV_agg fits_d cellsAV_d fits_nilp cellsAV_nilp fits_nilsl cellsAV_nilsl fits_nilfn cellsAV_nilfn fits_ptr cellsAV_ptr fits_eptr cellsAV_eptr fits_dptr cellsAV_dptr fits_own cellsAV_own fits_fn cellsAV_fn rowV_fits rowV_cells rowV_len lenAV setSeg nth seg mapD repeatL putT_get upd_get argT keepT_cons keepT_nil keepH_cons keepH_nil cond_true cond_false VC_true finW resW resL resOne LoopQ_exit LoopQ_ret List.cons_append List.nil_append Bool.not_true Bool.not_false Bool.and_true Bool.and_self Nat.lt_add_left_iff_pos Nat.zero_add Nat.add_zero List.drop_succ_cons List.drop_zero List.take_succ_cons List.take_zero beq_self_eq_true Bool.false_eq_true RunC_dops RunL_loadS RunL_loadD LoadDA_dptr RunL_storeS StoreSA_ptr RunL_pcall RunL_pcallv PCallvA_fn newsOk and_self and_true true_and loadW_ptr LoadK_1 LoadK_n upd_upd RunL_loadP LoadPA_ptr RunL_callS RunL_make RunL_buildSlice BSliceA_some RunL_buildSliceD frzL frz cutL LoadA_eptr LoadE_row RunL_append RunL_slice SliceA_sl StoreA_eptr List.length_cons List.length_nil Nat.min_def Int.cast_ofNat_Int Int.natCast_zero Int.natCast_one decide_true decide_false List.getElem?_cons_zero List.getElem?_cons_succ RunC_rangef CallvA_yld putL_nil putL_cons RangeQ_exit RangeQ_ret
set_option maxRecDepth 20000 in
set_option maxHeartbeats 4000000 in
theorem RPart_yes {cur : ByteArray} {f t : Int} {ms ss ps : List (List D)} {x : PartX} (hh : headOK f t ms.length x) : DataW Try.prog f_poundageref10_Part [coreV cur f t ms ss ps, partV x] (bv (decide (tiersOK x.ts ∧ adjsOK x.ad))) := by
  refine CallW_intro comp_poundageref10_Part (by simp) ?_
  simp -implicitDefEqProofs -proj only [go_sem, Nat.reduceBEq, Nat.reduceLT, Nat.reduceLeDiff, Nat.reduceAdd, Nat.reduceMul, ↓reduceIte]
  refine AllocA_intro (fun b2 hb2 => ?_)
  simp -implicitDefEqProofs -proj only [go_sem, Nat.reduceBEq, Nat.reduceLT, Nat.reduceLeDiff, Nat.reduceAdd, Nat.reduceMul, ↓reduceIte]
  refine AllocA_intro (fun b3 hb3 => ?_)
  replace hb3 : upd Heap.none b2 _ b3 = none := hb3
  obtain ⟨n1, n2⟩ := fresh_ne hb3 upd_eq
  obtain ⟨g1, g2, g3, g4, g5, g6, g7, g8, g9, g10⟩ := hh
  simp -implicitDefEqProofs -proj only [go_sem, Nat.reduceBEq, Nat.reduceLT, Nat.reduceLeDiff, Nat.reduceAdd, Nat.reduceMul, ↓reduceIte, n1, n2, decide_eq_false (show ¬ x.me < 0 by omega), decide_eq_false (show ¬ (ms.length : Int) ≤ x.me by omega)]
  refine CallA_pure RSpan_ok ?_
  simp -implicitDefEqProofs -proj only [go_sem, Nat.reduceBEq, Nat.reduceLT, Nat.reduceLeDiff, Nat.reduceAdd, Nat.reduceMul, ↓reduceIte, n1, n2, decide_eq_true g3]
  refine CallA_pure (RIn_t g4) ?_
  simp -implicitDefEqProofs -proj only [go_sem, Nat.reduceBEq, Nat.reduceLT, Nat.reduceLeDiff, Nat.reduceAdd, Nat.reduceMul, ↓reduceIte, n1, n2]
  refine CallA_pure (RIn_t g5) ?_
  have e1 := decide_eq_false (show ¬ (x.ts.length : Int) < 1 by omega)
  have e2 := decide_eq_false (show ¬ 8 < (x.ts.length : Int) by omega)
  have e3 := decide_eq_false (show ¬ 6 < (x.ad.length : Int) by omega)
  rcases g6 with g6 | g6
  · simp -implicitDefEqProofs -proj only [go_sem, Nat.reduceBEq, Nat.reduceLT, Nat.reduceLeDiff, Nat.reduceAdd, Nat.reduceMul, ↓reduceIte, n1, n2, decide_eq_true g6]
    refine CallA_pure (RIn_t g7) ?_
    simp -implicitDefEqProofs -proj only [go_sem, Nat.reduceBEq, Nat.reduceLT, Nat.reduceLeDiff, Nat.reduceAdd, Nat.reduceMul, ↓reduceIte, n1, n2, rowT_len, rowA_len, e1, e2, e3]
    refine LoopA_k (fun i : Nat => i ≤ x.ts.length ∧ ∀ (j : Nat) (h : j < x.ts.length), j < i → tierOK x.ts j x.ts[j]) 160 (fun i => [(78, slT x.ts), (79, i64 x.ts.length), (80, i64 i), (3, .ptr b3 0)]) (fun _ => [(b3, .box 39 [i64 x.me, i64 x.f, i64 x.t, i64 x.al, i64 x.bl, i64 x.ki, slT x.ts, i64 x.mo, slA x.ad])]) (fun i => x.ts.length - i) 0 ⟨Nat.zero_le _, fun j _ h => absurd h (Nat.not_lt_zero _)⟩ rfl ?_ ?_ ?_
    · simp -implicitDefEqProofs -proj only [go_sem, Nat.reduceBEq, Nat.reduceLT, Nat.reduceLeDiff, Nat.reduceAdd, Nat.reduceMul, ↓reduceIte, AllAt]
    · simp -implicitDefEqProofs -proj only [go_sem, Nat.reduceBEq, Nat.reduceLT, Nat.reduceLeDiff, Nat.reduceAdd, Nat.reduceMul, ↓reduceIte, AllH]
    · rintro i ⟨hi, hs⟩
      have hk3 : AllH (keepH [(b3, .box 39 [i64 x.me, i64 x.f, i64 x.t, i64 x.al, i64 x.bl, i64 x.ki, slT x.ts, i64 x.mo, slA x.ad])]) [(b3, .box 39 [i64 x.me, i64 x.f, i64 x.t, i64 x.al, i64 x.bl, i64 x.ki, slT x.ts, i64 x.mo, slA x.ad])] := keepH_all (by simp [keys])
      have h3 := hk3.1
      by_cases h : i < x.ts.length
      · have hel := rowT_at h
        have hgo : tierOK x.ts i x.ts[i] → ∀ (j : Nat) (h : j < x.ts.length), j < i + 1 → tierOK x.ts j x.ts[j] := by
          intro e j h1 h2
          by_cases hj : j = i
          · subst hj; exact e
          · exact hs j h1 (by omega)
        have hno : ¬ tierOK x.ts i x.ts[i] → ¬ tiersOK x.ts := fun e k => e (k i h)
        have hlast : i + 1 = x.ts.length → lowT x.ts i = 0 ∧ highT x.ts i = 0 := tlow_last
        have hwl : IntKind.i64.wrap ((x.ts.length : Int) - 1) = (x.ts.length : Int) - 1 := by rw [IntKind.wrap_i64]; omega
        generalize hq : x.ts[i] = q at *
        simp -implicitDefEqProofs -proj only [go_sem, Nat.reduceBEq, Nat.reduceLT, Nat.reduceLeDiff, Nat.reduceAdd, Nat.reduceMul, ↓reduceIte, decide_eq_true (show (i : Int) < x.ts.length by omega)]
        refine ElemA_at _ (by omega) hel ?_
        simp -implicitDefEqProofs -proj only [go_sem, Nat.reduceBEq, Nat.reduceLT, Nat.reduceLeDiff, Nat.reduceAdd, Nat.reduceMul, ↓reduceIte]
        refine AllocA_intro (fun b6 hb6 => ?_)
        have hb6' := hb6
        replace hb6 : keepH [(b3, Blk.box 39 [i64 x.me, i64 x.f, i64 x.t, i64 x.al, i64 x.bl, i64 x.ki, slT x.ts, i64 x.mo, slA x.ad])] b6 = none := hb6
        obtain ⟨m1, m2⟩ := fresh_ne hb6 h3
        by_cases h0 : i = 0
        · by_cases hl : i + 1 = x.ts.length
          · have hlow := hlast hl
            simp -implicitDefEqProofs -proj only [go_sem, Nat.reduceBEq, Nat.reduceLT, Nat.reduceLeDiff, Nat.reduceAdd, Nat.reduceMul, ↓reduceIte, m1, m2, rowT_len, hwl, decide_eq_false (show ¬ 0 < (i : Int) by omega), decide_eq_true (show (i : Int) = (x.ts.length : Int) - 1 by omega)]
            by_cases hr : 0 ≤ q.r ∧ q.r ≤ 1000000000000
            rotate_left
            · refine CallA_pure (RIn_f hr) ?_
              simp -implicitDefEqProofs -proj only [go_sem, Nat.reduceBEq, Nat.reduceLT, Nat.reduceLeDiff, Nat.reduceAdd, Nat.reduceMul, ↓reduceIte]
              exact LendV_eq (by rw [decide_eq_false (fun h => hno (fun k => hr k.1) h.1)])
            refine CallA_pure (RIn_t hr) ?_
            simp -implicitDefEqProofs -proj only [go_sem, Nat.reduceBEq, Nat.reduceLT, Nat.reduceLeDiff, Nat.reduceAdd, Nat.reduceMul, ↓reduceIte, m1, m2]
            by_cases hu : lowT x.ts i ≤ q.u ∧ q.u ≤ highT x.ts i
            rotate_left
            · refine CallA_pure (RIn_f (by rw [hlow.1, hlow.2] at hu; exact hu)) ?_
              simp -implicitDefEqProofs -proj only [go_sem, Nat.reduceBEq, Nat.reduceLT, Nat.reduceLeDiff, Nat.reduceAdd, Nat.reduceMul, ↓reduceIte]
              exact LendV_eq (by rw [decide_eq_false (fun h => hno (fun k => hu k.2) h.1)])
            refine CallA_pure (RIn_t (by rw [hlow.1, hlow.2] at hu; exact hu)) ?_
            simp -implicitDefEqProofs -proj only [go_sem, Nat.reduceBEq, Nat.reduceLT, Nat.reduceLeDiff, Nat.reduceAdd, Nat.reduceMul, ↓reduceIte]
            refine LoopQ_k (i + 1) ⟨by omega, hgo ⟨hr, hu⟩⟩ (by omega) rfl ?_ (AllH_upd hb6' hk3)
            simp -implicitDefEqProofs -proj only [go_sem, Nat.reduceBEq, Nat.reduceLT, Nat.reduceLeDiff, Nat.reduceAdd, Nat.reduceMul, ↓reduceIte, AllAt, i64_succ (show i < 9223372036854775807 by omega)]
          · have hlow : lowT x.ts i = 1 ∧ highT x.ts i = 1000000 := by subst h0; exact tlow_first hl
            simp -implicitDefEqProofs -proj only [go_sem, Nat.reduceBEq, Nat.reduceLT, Nat.reduceLeDiff, Nat.reduceAdd, Nat.reduceMul, ↓reduceIte, m1, m2, rowT_len, hwl, decide_eq_false (show ¬ 0 < (i : Int) by omega), decide_eq_false (show ¬ (i : Int) = (x.ts.length : Int) - 1 by omega)]
            by_cases hr : 0 ≤ q.r ∧ q.r ≤ 1000000000000
            rotate_left
            · refine CallA_pure (RIn_f hr) ?_
              simp -implicitDefEqProofs -proj only [go_sem, Nat.reduceBEq, Nat.reduceLT, Nat.reduceLeDiff, Nat.reduceAdd, Nat.reduceMul, ↓reduceIte]
              exact LendV_eq (by rw [decide_eq_false (fun h => hno (fun k => hr k.1) h.1)])
            refine CallA_pure (RIn_t hr) ?_
            simp -implicitDefEqProofs -proj only [go_sem, Nat.reduceBEq, Nat.reduceLT, Nat.reduceLeDiff, Nat.reduceAdd, Nat.reduceMul, ↓reduceIte, m1, m2]
            by_cases hu : lowT x.ts i ≤ q.u ∧ q.u ≤ highT x.ts i
            rotate_left
            · refine CallA_pure (RIn_f (by rw [hlow.1, hlow.2] at hu; exact hu)) ?_
              simp -implicitDefEqProofs -proj only [go_sem, Nat.reduceBEq, Nat.reduceLT, Nat.reduceLeDiff, Nat.reduceAdd, Nat.reduceMul, ↓reduceIte]
              exact LendV_eq (by rw [decide_eq_false (fun h => hno (fun k => hu k.2) h.1)])
            refine CallA_pure (RIn_t (by rw [hlow.1, hlow.2] at hu; exact hu)) ?_
            simp -implicitDefEqProofs -proj only [go_sem, Nat.reduceBEq, Nat.reduceLT, Nat.reduceLeDiff, Nat.reduceAdd, Nat.reduceMul, ↓reduceIte]
            refine LoopQ_k (i + 1) ⟨by omega, hgo ⟨hr, hu⟩⟩ (by omega) rfl ?_ (AllH_upd hb6' hk3)
            simp -implicitDefEqProofs -proj only [go_sem, Nat.reduceBEq, Nat.reduceLT, Nat.reduceLeDiff, Nat.reduceAdd, Nat.reduceMul, ↓reduceIte, AllAt, i64_succ (show i < 9223372036854775807 by omega)]
        · have wi : IntKind.i64.wrap ((i : Int) - 1) = ((i - 1 : Nat) : Int) := by rw [IntKind.wrap_i64]; omega
          have hep := rowT_at (l := x.ts) (i := i - 1) (by omega)
          have hm1 := @tlow_mid x.ts i (by omega) (by omega)
          have hm0 := @tlow_mid0 x.ts i (by omega) (by omega)
          obtain ⟨p, hp⟩ : ∃ p, x.ts[i - 1]'(by omega) = p := ⟨_, rfl⟩
          rw [hp] at hep hm1 hm0
          clear hp
          by_cases hu1 : 1 ≤ p.u
          · have wp : IntKind.i64.wrap (min p.u 1000000 + 1) = min p.u 1000000 + 1 := by rw [IntKind.wrap_i64]; omega
            simp -implicitDefEqProofs -proj only [go_sem, Nat.reduceBEq, Nat.reduceLT, Nat.reduceLeDiff, Nat.reduceAdd, Nat.reduceMul, ↓reduceIte, m1, m2, decide_eq_true (show 0 < (i : Int) by omega), wi]
            (repeat' (with_reducible refine VC_intro ?_ (fun h => ?_); (focus first | decide | omega); clear h; try simp -implicitDefEqProofs -proj only [go_sem, Nat.reduceBEq, Nat.reduceLT, Nat.reduceLeDiff, Nat.reduceAdd, Nat.reduceMul, ↓reduceIte, wi]))
            refine ElemA_at _ (by omega) hep ?_
            simp -implicitDefEqProofs -proj only [go_sem, Nat.reduceBEq, Nat.reduceLT, Nat.reduceLeDiff, Nat.reduceAdd, Nat.reduceMul, ↓reduceIte, m1, m2, wi]
            simp -implicitDefEqProofs -proj only [go_sem, Nat.reduceBEq, Nat.reduceLT, Nat.reduceLeDiff, Nat.reduceAdd, Nat.reduceMul, ↓reduceIte, m1, m2, wi, decide_eq_true hu1]
            (repeat' (with_reducible refine VC_intro ?_ (fun h => ?_); (focus first | decide | omega); clear h; try simp -implicitDefEqProofs -proj only [go_sem, Nat.reduceBEq, Nat.reduceLT, Nat.reduceLeDiff, Nat.reduceAdd, Nat.reduceMul, ↓reduceIte, wi]))
            refine ElemA_at _ (by omega) hep ?_
            by_cases hl : i + 1 = x.ts.length
            · have hlow := hlast hl
              simp -implicitDefEqProofs -proj only [go_sem, Nat.reduceBEq, Nat.reduceLT, Nat.reduceLeDiff, Nat.reduceAdd, Nat.reduceMul, ↓reduceIte, m1, m2, rowT_len, wi, hwl, wp, decide_eq_true (show (i : Int) = (x.ts.length : Int) - 1 by omega)]
              by_cases hr : 0 ≤ q.r ∧ q.r ≤ 1000000000000
              rotate_left
              · refine CallA_pure (RIn_f hr) ?_
                simp -implicitDefEqProofs -proj only [go_sem, Nat.reduceBEq, Nat.reduceLT, Nat.reduceLeDiff, Nat.reduceAdd, Nat.reduceMul, ↓reduceIte]
                exact LendV_eq (by rw [decide_eq_false (fun h => hno (fun k => hr k.1) h.1)])
              refine CallA_pure (RIn_t hr) ?_
              simp -implicitDefEqProofs -proj only [go_sem, Nat.reduceBEq, Nat.reduceLT, Nat.reduceLeDiff, Nat.reduceAdd, Nat.reduceMul, ↓reduceIte, m1, m2]
              by_cases hu : lowT x.ts i ≤ q.u ∧ q.u ≤ highT x.ts i
              rotate_left
              · refine CallA_pure (RIn_f (by rw [hlow.1, hlow.2] at hu; exact hu)) ?_
                simp -implicitDefEqProofs -proj only [go_sem, Nat.reduceBEq, Nat.reduceLT, Nat.reduceLeDiff, Nat.reduceAdd, Nat.reduceMul, ↓reduceIte]
                exact LendV_eq (by rw [decide_eq_false (fun h => hno (fun k => hu k.2) h.1)])
              refine CallA_pure (RIn_t (by rw [hlow.1, hlow.2] at hu; exact hu)) ?_
              simp -implicitDefEqProofs -proj only [go_sem, Nat.reduceBEq, Nat.reduceLT, Nat.reduceLeDiff, Nat.reduceAdd, Nat.reduceMul, ↓reduceIte]
              refine LoopQ_k (i + 1) ⟨by omega, hgo ⟨hr, hu⟩⟩ (by omega) rfl ?_ (AllH_upd hb6' hk3)
              simp -implicitDefEqProofs -proj only [go_sem, Nat.reduceBEq, Nat.reduceLT, Nat.reduceLeDiff, Nat.reduceAdd, Nat.reduceMul, ↓reduceIte, AllAt, i64_succ (show i < 9223372036854775807 by omega)]
            · have hlow := hm1 hl hu1
              simp -implicitDefEqProofs -proj only [go_sem, Nat.reduceBEq, Nat.reduceLT, Nat.reduceLeDiff, Nat.reduceAdd, Nat.reduceMul, ↓reduceIte, m1, m2, rowT_len, wi, hwl, wp, decide_eq_false (show ¬ (i : Int) = (x.ts.length : Int) - 1 by omega)]
              by_cases hr : 0 ≤ q.r ∧ q.r ≤ 1000000000000
              rotate_left
              · refine CallA_pure (RIn_f hr) ?_
                simp -implicitDefEqProofs -proj only [go_sem, Nat.reduceBEq, Nat.reduceLT, Nat.reduceLeDiff, Nat.reduceAdd, Nat.reduceMul, ↓reduceIte]
                exact LendV_eq (by rw [decide_eq_false (fun h => hno (fun k => hr k.1) h.1)])
              refine CallA_pure (RIn_t hr) ?_
              simp -implicitDefEqProofs -proj only [go_sem, Nat.reduceBEq, Nat.reduceLT, Nat.reduceLeDiff, Nat.reduceAdd, Nat.reduceMul, ↓reduceIte, m1, m2]
              by_cases hu : lowT x.ts i ≤ q.u ∧ q.u ≤ highT x.ts i
              rotate_left
              · refine CallA_pure (RIn_f (by rw [hlow.1, hlow.2] at hu; exact hu)) ?_
                simp -implicitDefEqProofs -proj only [go_sem, Nat.reduceBEq, Nat.reduceLT, Nat.reduceLeDiff, Nat.reduceAdd, Nat.reduceMul, ↓reduceIte]
                exact LendV_eq (by rw [decide_eq_false (fun h => hno (fun k => hu k.2) h.1)])
              refine CallA_pure (RIn_t (by rw [hlow.1, hlow.2] at hu; exact hu)) ?_
              simp -implicitDefEqProofs -proj only [go_sem, Nat.reduceBEq, Nat.reduceLT, Nat.reduceLeDiff, Nat.reduceAdd, Nat.reduceMul, ↓reduceIte]
              refine LoopQ_k (i + 1) ⟨by omega, hgo ⟨hr, hu⟩⟩ (by omega) rfl ?_ (AllH_upd hb6' hk3)
              simp -implicitDefEqProofs -proj only [go_sem, Nat.reduceBEq, Nat.reduceLT, Nat.reduceLeDiff, Nat.reduceAdd, Nat.reduceMul, ↓reduceIte, AllAt, i64_succ (show i < 9223372036854775807 by omega)]
          · simp -implicitDefEqProofs -proj only [go_sem, Nat.reduceBEq, Nat.reduceLT, Nat.reduceLeDiff, Nat.reduceAdd, Nat.reduceMul, ↓reduceIte, m1, m2, decide_eq_true (show 0 < (i : Int) by omega), wi]
            (repeat' (with_reducible refine VC_intro ?_ (fun h => ?_); (focus first | decide | omega); clear h; try simp -implicitDefEqProofs -proj only [go_sem, Nat.reduceBEq, Nat.reduceLT, Nat.reduceLeDiff, Nat.reduceAdd, Nat.reduceMul, ↓reduceIte, wi]))
            refine ElemA_at _ (by omega) hep ?_
            simp -implicitDefEqProofs -proj only [go_sem, Nat.reduceBEq, Nat.reduceLT, Nat.reduceLeDiff, Nat.reduceAdd, Nat.reduceMul, ↓reduceIte, m1, m2, wi]
            by_cases hl : i + 1 = x.ts.length
            · have hlow := hlast hl
              simp -implicitDefEqProofs -proj only [go_sem, Nat.reduceBEq, Nat.reduceLT, Nat.reduceLeDiff, Nat.reduceAdd, Nat.reduceMul, ↓reduceIte, m1, m2, rowT_len, wi, hwl, decide_eq_false hu1, decide_eq_true (show (i : Int) = (x.ts.length : Int) - 1 by omega)]
              by_cases hr : 0 ≤ q.r ∧ q.r ≤ 1000000000000
              rotate_left
              · refine CallA_pure (RIn_f hr) ?_
                simp -implicitDefEqProofs -proj only [go_sem, Nat.reduceBEq, Nat.reduceLT, Nat.reduceLeDiff, Nat.reduceAdd, Nat.reduceMul, ↓reduceIte]
                exact LendV_eq (by rw [decide_eq_false (fun h => hno (fun k => hr k.1) h.1)])
              refine CallA_pure (RIn_t hr) ?_
              simp -implicitDefEqProofs -proj only [go_sem, Nat.reduceBEq, Nat.reduceLT, Nat.reduceLeDiff, Nat.reduceAdd, Nat.reduceMul, ↓reduceIte, m1, m2]
              by_cases hu : lowT x.ts i ≤ q.u ∧ q.u ≤ highT x.ts i
              rotate_left
              · refine CallA_pure (RIn_f (by rw [hlow.1, hlow.2] at hu; exact hu)) ?_
                simp -implicitDefEqProofs -proj only [go_sem, Nat.reduceBEq, Nat.reduceLT, Nat.reduceLeDiff, Nat.reduceAdd, Nat.reduceMul, ↓reduceIte]
                exact LendV_eq (by rw [decide_eq_false (fun h => hno (fun k => hu k.2) h.1)])
              refine CallA_pure (RIn_t (by rw [hlow.1, hlow.2] at hu; exact hu)) ?_
              simp -implicitDefEqProofs -proj only [go_sem, Nat.reduceBEq, Nat.reduceLT, Nat.reduceLeDiff, Nat.reduceAdd, Nat.reduceMul, ↓reduceIte]
              refine LoopQ_k (i + 1) ⟨by omega, hgo ⟨hr, hu⟩⟩ (by omega) rfl ?_ (AllH_upd hb6' hk3)
              simp -implicitDefEqProofs -proj only [go_sem, Nat.reduceBEq, Nat.reduceLT, Nat.reduceLeDiff, Nat.reduceAdd, Nat.reduceMul, ↓reduceIte, AllAt, i64_succ (show i < 9223372036854775807 by omega)]
            · have hlow := hm0 hl hu1
              simp -implicitDefEqProofs -proj only [go_sem, Nat.reduceBEq, Nat.reduceLT, Nat.reduceLeDiff, Nat.reduceAdd, Nat.reduceMul, ↓reduceIte, m1, m2, rowT_len, wi, hwl, decide_eq_false hu1, decide_eq_false (show ¬ (i : Int) = (x.ts.length : Int) - 1 by omega)]
              by_cases hr : 0 ≤ q.r ∧ q.r ≤ 1000000000000
              rotate_left
              · refine CallA_pure (RIn_f hr) ?_
                simp -implicitDefEqProofs -proj only [go_sem, Nat.reduceBEq, Nat.reduceLT, Nat.reduceLeDiff, Nat.reduceAdd, Nat.reduceMul, ↓reduceIte]
                exact LendV_eq (by rw [decide_eq_false (fun h => hno (fun k => hr k.1) h.1)])
              refine CallA_pure (RIn_t hr) ?_
              simp -implicitDefEqProofs -proj only [go_sem, Nat.reduceBEq, Nat.reduceLT, Nat.reduceLeDiff, Nat.reduceAdd, Nat.reduceMul, ↓reduceIte, m1, m2]
              by_cases hu : lowT x.ts i ≤ q.u ∧ q.u ≤ highT x.ts i
              rotate_left
              · refine CallA_pure (RIn_f (by rw [hlow.1, hlow.2] at hu; exact hu)) ?_
                simp -implicitDefEqProofs -proj only [go_sem, Nat.reduceBEq, Nat.reduceLT, Nat.reduceLeDiff, Nat.reduceAdd, Nat.reduceMul, ↓reduceIte]
                exact LendV_eq (by rw [decide_eq_false (fun h => hno (fun k => hu k.2) h.1)])
              refine CallA_pure (RIn_t (by rw [hlow.1, hlow.2] at hu; exact hu)) ?_
              simp -implicitDefEqProofs -proj only [go_sem, Nat.reduceBEq, Nat.reduceLT, Nat.reduceLeDiff, Nat.reduceAdd, Nat.reduceMul, ↓reduceIte]
              refine LoopQ_k (i + 1) ⟨by omega, hgo ⟨hr, hu⟩⟩ (by omega) rfl ?_ (AllH_upd hb6' hk3)
              simp -implicitDefEqProofs -proj only [go_sem, Nat.reduceBEq, Nat.reduceLT, Nat.reduceLeDiff, Nat.reduceAdd, Nat.reduceMul, ↓reduceIte, AllAt, i64_succ (show i < 9223372036854775807 by omega)]
      · have hi' : i = x.ts.length := by omega
        subst hi'
        have hT : tiersOK x.ts := fun j h1 => hs j h1 h1
        simp -implicitDefEqProofs -proj only [go_sem, Nat.reduceBEq, Nat.reduceLT, Nat.reduceLeDiff, Nat.reduceAdd, Nat.reduceMul, ↓reduceIte, decide_eq_false (show ¬ (x.ts.length : Int) < x.ts.length by omega), rowA_len]
        refine LoopA_k (fun i : Nat => i ≤ x.ad.length ∧ ∀ (j : Nat) (h : j < x.ad.length), j < i → adjOK x.ad[j]) 160 (fun i => [(126, slA x.ad), (127, i64 x.ad.length), (128, i64 i)]) (fun _ => []) (fun i => x.ad.length - i) 0 ⟨Nat.zero_le _, fun j _ h => absurd h (Nat.not_lt_zero _)⟩ rfl ?_ ?_ ?_
        · simp -implicitDefEqProofs -proj only [go_sem, Nat.reduceBEq, Nat.reduceLT, Nat.reduceLeDiff, Nat.reduceAdd, Nat.reduceMul, ↓reduceIte, AllAt]
        · simp -implicitDefEqProofs -proj only [go_sem, Nat.reduceBEq, Nat.reduceLT, Nat.reduceLeDiff, Nat.reduceAdd, Nat.reduceMul, ↓reduceIte, AllH]
        · rintro i ⟨hi, hs⟩
          by_cases h : i < x.ad.length
          · have hel := rowA_at h
            have hgo : adjOK x.ad[i] → ∀ (j : Nat) (h : j < x.ad.length), j < i + 1 → adjOK x.ad[j] := by
              intro e j h1 h2
              by_cases hj : j = i
              · subst hj; exact e
              · exact hs j h1 (by omega)
            have hno : ¬ adjOK x.ad[i] → ¬ adjsOK x.ad := fun e k => e (k _ (List.getElem_mem h))
            generalize hq : x.ad[i] = q at *
            unfold adjOK at hgo hno
            simp -implicitDefEqProofs -proj only [go_sem, Nat.reduceBEq, Nat.reduceLT, Nat.reduceLeDiff, Nat.reduceAdd, Nat.reduceMul, ↓reduceIte, decide_eq_true (show (i : Int) < x.ad.length by omega)]
            refine ElemA_at _ (by omega) hel ?_
            simp -implicitDefEqProofs -proj only [go_sem, Nat.reduceBEq, Nat.reduceLT, Nat.reduceLeDiff, Nat.reduceAdd, Nat.reduceMul, ↓reduceIte]
            refine AllocA_intro (fun b10 hb10 => ?_)
            by_cases k1 : q.k = 1
            · simp -implicitDefEqProofs -proj only [go_sem, Nat.reduceBEq, Nat.reduceLT, Nat.reduceLeDiff, Nat.reduceAdd, Nat.reduceMul, ↓reduceIte, decide_eq_true k1]
              by_cases hn : 0 ≤ q.n ∧ q.n ≤ 100000000
              rotate_left
              · refine CallA_pure (RIn_f hn) ?_
                simp -implicitDefEqProofs -proj only [go_sem, Nat.reduceBEq, Nat.reduceLT, Nat.reduceLeDiff, Nat.reduceAdd, Nat.reduceMul, ↓reduceIte]
                exact LendV_eq (by rw [decide_eq_false (fun h => hno (by omega) h.2)])
              refine CallA_pure (RIn_t hn) ?_
              simp -implicitDefEqProofs -proj only [go_sem, Nat.reduceBEq, Nat.reduceLT, Nat.reduceLeDiff, Nat.reduceAdd, Nat.reduceMul, ↓reduceIte]
              by_cases hm : 0 ≤ q.m ∧ q.m ≤ 3
              rotate_left
              · refine CallA_pure (RIn_f hm) ?_
                simp -implicitDefEqProofs -proj only [go_sem, Nat.reduceBEq, Nat.reduceLT, Nat.reduceLeDiff, Nat.reduceAdd, Nat.reduceMul, ↓reduceIte]
                exact LendV_eq (by rw [decide_eq_false (fun h => hno (by omega) h.2)])
              refine CallA_pure (RIn_t hm) ?_
              simp -implicitDefEqProofs -proj only [go_sem, Nat.reduceBEq, Nat.reduceLT, Nat.reduceLeDiff, Nat.reduceAdd, Nat.reduceMul, ↓reduceIte]
              refine LoopQ_k (i + 1) ⟨by omega, hgo (by omega)⟩ (by omega) rfl ?_ trivial
              simp -implicitDefEqProofs -proj only [go_sem, Nat.reduceBEq, Nat.reduceLT, Nat.reduceLeDiff, Nat.reduceAdd, Nat.reduceMul, ↓reduceIte, AllAt, i64_succ (show i < 9223372036854775807 by omega)]
            · by_cases k2 : q.k = 2
              · simp -implicitDefEqProofs -proj only [go_sem, Nat.reduceBEq, Nat.reduceLT, Nat.reduceLeDiff, Nat.reduceAdd, Nat.reduceMul, ↓reduceIte, decide_eq_false k1, decide_eq_true k2]
                by_cases hn : 0 ≤ q.n ∧ q.n ≤ 1000000000000
                rotate_left
                · refine CallA_pure (RIn_f hn) ?_
                  simp -implicitDefEqProofs -proj only [go_sem, Nat.reduceBEq, Nat.reduceLT, Nat.reduceLeDiff, Nat.reduceAdd, Nat.reduceMul, ↓reduceIte]
                  exact LendV_eq (by rw [decide_eq_false (fun h => hno (by omega) h.2)])
                refine CallA_pure (RIn_t hn) ?_
                by_cases hm : q.m = 0
                rotate_left
                · simp -implicitDefEqProofs -proj only [go_sem, Nat.reduceBEq, Nat.reduceLT, Nat.reduceLeDiff, Nat.reduceAdd, Nat.reduceMul, ↓reduceIte, decide_eq_false hm]
                  exact LendV_eq (by rw [decide_eq_false (fun h => hno (by omega) h.2)])
                simp -implicitDefEqProofs -proj only [go_sem, Nat.reduceBEq, Nat.reduceLT, Nat.reduceLeDiff, Nat.reduceAdd, Nat.reduceMul, ↓reduceIte, decide_eq_true hm]
                refine LoopQ_k (i + 1) ⟨by omega, hgo (by omega)⟩ (by omega) rfl ?_ trivial
                simp -implicitDefEqProofs -proj only [go_sem, Nat.reduceBEq, Nat.reduceLT, Nat.reduceLeDiff, Nat.reduceAdd, Nat.reduceMul, ↓reduceIte, AllAt, i64_succ (show i < 9223372036854775807 by omega)]
              · by_cases k3 : q.k = 3
                · simp -implicitDefEqProofs -proj only [go_sem, Nat.reduceBEq, Nat.reduceLT, Nat.reduceLeDiff, Nat.reduceAdd, Nat.reduceMul, ↓reduceIte, decide_eq_false k1, decide_eq_false k2, decide_eq_true k3]
                  by_cases hn : 0 ≤ q.n ∧ q.n ≤ 1000000000000
                  rotate_left
                  · refine CallA_pure (RIn_f hn) ?_
                    simp -implicitDefEqProofs -proj only [go_sem, Nat.reduceBEq, Nat.reduceLT, Nat.reduceLeDiff, Nat.reduceAdd, Nat.reduceMul, ↓reduceIte]
                    exact LendV_eq (by rw [decide_eq_false (fun h => hno (by omega) h.2)])
                  refine CallA_pure (RIn_t hn) ?_
                  by_cases hm : q.m = 0
                  rotate_left
                  · simp -implicitDefEqProofs -proj only [go_sem, Nat.reduceBEq, Nat.reduceLT, Nat.reduceLeDiff, Nat.reduceAdd, Nat.reduceMul, ↓reduceIte, decide_eq_false hm]
                    exact LendV_eq (by rw [decide_eq_false (fun h => hno (by omega) h.2)])
                  simp -implicitDefEqProofs -proj only [go_sem, Nat.reduceBEq, Nat.reduceLT, Nat.reduceLeDiff, Nat.reduceAdd, Nat.reduceMul, ↓reduceIte, decide_eq_true hm]
                  refine LoopQ_k (i + 1) ⟨by omega, hgo (by omega)⟩ (by omega) rfl ?_ trivial
                  simp -implicitDefEqProofs -proj only [go_sem, Nat.reduceBEq, Nat.reduceLT, Nat.reduceLeDiff, Nat.reduceAdd, Nat.reduceMul, ↓reduceIte, AllAt, i64_succ (show i < 9223372036854775807 by omega)]
                · by_cases k4 : q.k = 4
                  · simp -implicitDefEqProofs -proj only [go_sem, Nat.reduceBEq, Nat.reduceLT, Nat.reduceLeDiff, Nat.reduceAdd, Nat.reduceMul, ↓reduceIte, decide_eq_false k1, decide_eq_false k2, decide_eq_false k3, decide_eq_true k4]
                    by_cases hn : 0 ≤ q.n ∧ q.n ≤ 1000000000000
                    rotate_left
                    · refine CallA_pure (RIn_f hn) ?_
                      simp -implicitDefEqProofs -proj only [go_sem, Nat.reduceBEq, Nat.reduceLT, Nat.reduceLeDiff, Nat.reduceAdd, Nat.reduceMul, ↓reduceIte]
                      exact LendV_eq (by rw [decide_eq_false (fun h => hno (by omega) h.2)])
                    refine CallA_pure (RIn_t hn) ?_
                    by_cases hm : q.m = 0
                    rotate_left
                    · simp -implicitDefEqProofs -proj only [go_sem, Nat.reduceBEq, Nat.reduceLT, Nat.reduceLeDiff, Nat.reduceAdd, Nat.reduceMul, ↓reduceIte, decide_eq_false hm]
                      exact LendV_eq (by rw [decide_eq_false (fun h => hno (by omega) h.2)])
                    simp -implicitDefEqProofs -proj only [go_sem, Nat.reduceBEq, Nat.reduceLT, Nat.reduceLeDiff, Nat.reduceAdd, Nat.reduceMul, ↓reduceIte, decide_eq_true hm]
                    refine LoopQ_k (i + 1) ⟨by omega, hgo (by omega)⟩ (by omega) rfl ?_ trivial
                    simp -implicitDefEqProofs -proj only [go_sem, Nat.reduceBEq, Nat.reduceLT, Nat.reduceLeDiff, Nat.reduceAdd, Nat.reduceMul, ↓reduceIte, AllAt, i64_succ (show i < 9223372036854775807 by omega)]
                  · simp -implicitDefEqProofs -proj only [go_sem, Nat.reduceBEq, Nat.reduceLT, Nat.reduceLeDiff, Nat.reduceAdd, Nat.reduceMul, ↓reduceIte, decide_eq_false k1, decide_eq_false k2, decide_eq_false k3, decide_eq_false k4]
                    exact LendV_eq (by rw [decide_eq_false (fun h => hno (by omega) h.2)])
          · have hi' : i = x.ad.length := by omega
            subst hi'
            have hA : adjsOK x.ad := fun a ha => by obtain ⟨j, h1, rfl⟩ := List.getElem_of_mem ha; exact hs j h1 h1
            simp -implicitDefEqProofs -proj only [go_sem, Nat.reduceBEq, Nat.reduceLT, Nat.reduceLeDiff, Nat.reduceAdd, Nat.reduceMul, ↓reduceIte, decide_eq_false (show ¬ (x.ad.length : Int) < x.ad.length by omega)]
            exact LendV_eq (by rw [decide_eq_true ⟨hT, hA⟩])
  · simp -implicitDefEqProofs -proj only [go_sem, Nat.reduceBEq, Nat.reduceLT, Nat.reduceLeDiff, Nat.reduceAdd, Nat.reduceMul, ↓reduceIte, n1, n2, decide_eq_false (show ¬ x.ki = 1 by omega), decide_eq_true g6]
    refine CallA_pure (RIn_t g7) ?_
    simp -implicitDefEqProofs -proj only [go_sem, Nat.reduceBEq, Nat.reduceLT, Nat.reduceLeDiff, Nat.reduceAdd, Nat.reduceMul, ↓reduceIte, n1, n2, rowT_len, rowA_len, e1, e2, e3]
    refine LoopA_k (fun i : Nat => i ≤ x.ts.length ∧ ∀ (j : Nat) (h : j < x.ts.length), j < i → tierOK x.ts j x.ts[j]) 160 (fun i => [(78, slT x.ts), (79, i64 x.ts.length), (80, i64 i), (3, .ptr b3 0)]) (fun _ => [(b3, .box 39 [i64 x.me, i64 x.f, i64 x.t, i64 x.al, i64 x.bl, i64 x.ki, slT x.ts, i64 x.mo, slA x.ad])]) (fun i => x.ts.length - i) 0 ⟨Nat.zero_le _, fun j _ h => absurd h (Nat.not_lt_zero _)⟩ rfl ?_ ?_ ?_
    · simp -implicitDefEqProofs -proj only [go_sem, Nat.reduceBEq, Nat.reduceLT, Nat.reduceLeDiff, Nat.reduceAdd, Nat.reduceMul, ↓reduceIte, AllAt]
    · simp -implicitDefEqProofs -proj only [go_sem, Nat.reduceBEq, Nat.reduceLT, Nat.reduceLeDiff, Nat.reduceAdd, Nat.reduceMul, ↓reduceIte, AllH]
    · rintro i ⟨hi, hs⟩
      have hk3 : AllH (keepH [(b3, .box 39 [i64 x.me, i64 x.f, i64 x.t, i64 x.al, i64 x.bl, i64 x.ki, slT x.ts, i64 x.mo, slA x.ad])]) [(b3, .box 39 [i64 x.me, i64 x.f, i64 x.t, i64 x.al, i64 x.bl, i64 x.ki, slT x.ts, i64 x.mo, slA x.ad])] := keepH_all (by simp [keys])
      have h3 := hk3.1
      by_cases h : i < x.ts.length
      · have hel := rowT_at h
        have hgo : tierOK x.ts i x.ts[i] → ∀ (j : Nat) (h : j < x.ts.length), j < i + 1 → tierOK x.ts j x.ts[j] := by
          intro e j h1 h2
          by_cases hj : j = i
          · subst hj; exact e
          · exact hs j h1 (by omega)
        have hno : ¬ tierOK x.ts i x.ts[i] → ¬ tiersOK x.ts := fun e k => e (k i h)
        have hlast : i + 1 = x.ts.length → lowT x.ts i = 0 ∧ highT x.ts i = 0 := tlow_last
        have hwl : IntKind.i64.wrap ((x.ts.length : Int) - 1) = (x.ts.length : Int) - 1 := by rw [IntKind.wrap_i64]; omega
        generalize hq : x.ts[i] = q at *
        simp -implicitDefEqProofs -proj only [go_sem, Nat.reduceBEq, Nat.reduceLT, Nat.reduceLeDiff, Nat.reduceAdd, Nat.reduceMul, ↓reduceIte, decide_eq_true (show (i : Int) < x.ts.length by omega)]
        refine ElemA_at _ (by omega) hel ?_
        simp -implicitDefEqProofs -proj only [go_sem, Nat.reduceBEq, Nat.reduceLT, Nat.reduceLeDiff, Nat.reduceAdd, Nat.reduceMul, ↓reduceIte]
        refine AllocA_intro (fun b6 hb6 => ?_)
        have hb6' := hb6
        replace hb6 : keepH [(b3, Blk.box 39 [i64 x.me, i64 x.f, i64 x.t, i64 x.al, i64 x.bl, i64 x.ki, slT x.ts, i64 x.mo, slA x.ad])] b6 = none := hb6
        obtain ⟨m1, m2⟩ := fresh_ne hb6 h3
        by_cases h0 : i = 0
        · by_cases hl : i + 1 = x.ts.length
          · have hlow := hlast hl
            simp -implicitDefEqProofs -proj only [go_sem, Nat.reduceBEq, Nat.reduceLT, Nat.reduceLeDiff, Nat.reduceAdd, Nat.reduceMul, ↓reduceIte, m1, m2, rowT_len, hwl, decide_eq_false (show ¬ 0 < (i : Int) by omega), decide_eq_true (show (i : Int) = (x.ts.length : Int) - 1 by omega)]
            by_cases hr : 0 ≤ q.r ∧ q.r ≤ 1000000000000
            rotate_left
            · refine CallA_pure (RIn_f hr) ?_
              simp -implicitDefEqProofs -proj only [go_sem, Nat.reduceBEq, Nat.reduceLT, Nat.reduceLeDiff, Nat.reduceAdd, Nat.reduceMul, ↓reduceIte]
              exact LendV_eq (by rw [decide_eq_false (fun h => hno (fun k => hr k.1) h.1)])
            refine CallA_pure (RIn_t hr) ?_
            simp -implicitDefEqProofs -proj only [go_sem, Nat.reduceBEq, Nat.reduceLT, Nat.reduceLeDiff, Nat.reduceAdd, Nat.reduceMul, ↓reduceIte, m1, m2]
            by_cases hu : lowT x.ts i ≤ q.u ∧ q.u ≤ highT x.ts i
            rotate_left
            · refine CallA_pure (RIn_f (by rw [hlow.1, hlow.2] at hu; exact hu)) ?_
              simp -implicitDefEqProofs -proj only [go_sem, Nat.reduceBEq, Nat.reduceLT, Nat.reduceLeDiff, Nat.reduceAdd, Nat.reduceMul, ↓reduceIte]
              exact LendV_eq (by rw [decide_eq_false (fun h => hno (fun k => hu k.2) h.1)])
            refine CallA_pure (RIn_t (by rw [hlow.1, hlow.2] at hu; exact hu)) ?_
            simp -implicitDefEqProofs -proj only [go_sem, Nat.reduceBEq, Nat.reduceLT, Nat.reduceLeDiff, Nat.reduceAdd, Nat.reduceMul, ↓reduceIte]
            refine LoopQ_k (i + 1) ⟨by omega, hgo ⟨hr, hu⟩⟩ (by omega) rfl ?_ (AllH_upd hb6' hk3)
            simp -implicitDefEqProofs -proj only [go_sem, Nat.reduceBEq, Nat.reduceLT, Nat.reduceLeDiff, Nat.reduceAdd, Nat.reduceMul, ↓reduceIte, AllAt, i64_succ (show i < 9223372036854775807 by omega)]
          · have hlow : lowT x.ts i = 1 ∧ highT x.ts i = 1000000 := by subst h0; exact tlow_first hl
            simp -implicitDefEqProofs -proj only [go_sem, Nat.reduceBEq, Nat.reduceLT, Nat.reduceLeDiff, Nat.reduceAdd, Nat.reduceMul, ↓reduceIte, m1, m2, rowT_len, hwl, decide_eq_false (show ¬ 0 < (i : Int) by omega), decide_eq_false (show ¬ (i : Int) = (x.ts.length : Int) - 1 by omega)]
            by_cases hr : 0 ≤ q.r ∧ q.r ≤ 1000000000000
            rotate_left
            · refine CallA_pure (RIn_f hr) ?_
              simp -implicitDefEqProofs -proj only [go_sem, Nat.reduceBEq, Nat.reduceLT, Nat.reduceLeDiff, Nat.reduceAdd, Nat.reduceMul, ↓reduceIte]
              exact LendV_eq (by rw [decide_eq_false (fun h => hno (fun k => hr k.1) h.1)])
            refine CallA_pure (RIn_t hr) ?_
            simp -implicitDefEqProofs -proj only [go_sem, Nat.reduceBEq, Nat.reduceLT, Nat.reduceLeDiff, Nat.reduceAdd, Nat.reduceMul, ↓reduceIte, m1, m2]
            by_cases hu : lowT x.ts i ≤ q.u ∧ q.u ≤ highT x.ts i
            rotate_left
            · refine CallA_pure (RIn_f (by rw [hlow.1, hlow.2] at hu; exact hu)) ?_
              simp -implicitDefEqProofs -proj only [go_sem, Nat.reduceBEq, Nat.reduceLT, Nat.reduceLeDiff, Nat.reduceAdd, Nat.reduceMul, ↓reduceIte]
              exact LendV_eq (by rw [decide_eq_false (fun h => hno (fun k => hu k.2) h.1)])
            refine CallA_pure (RIn_t (by rw [hlow.1, hlow.2] at hu; exact hu)) ?_
            simp -implicitDefEqProofs -proj only [go_sem, Nat.reduceBEq, Nat.reduceLT, Nat.reduceLeDiff, Nat.reduceAdd, Nat.reduceMul, ↓reduceIte]
            refine LoopQ_k (i + 1) ⟨by omega, hgo ⟨hr, hu⟩⟩ (by omega) rfl ?_ (AllH_upd hb6' hk3)
            simp -implicitDefEqProofs -proj only [go_sem, Nat.reduceBEq, Nat.reduceLT, Nat.reduceLeDiff, Nat.reduceAdd, Nat.reduceMul, ↓reduceIte, AllAt, i64_succ (show i < 9223372036854775807 by omega)]
        · have wi : IntKind.i64.wrap ((i : Int) - 1) = ((i - 1 : Nat) : Int) := by rw [IntKind.wrap_i64]; omega
          have hep := rowT_at (l := x.ts) (i := i - 1) (by omega)
          have hm1 := @tlow_mid x.ts i (by omega) (by omega)
          have hm0 := @tlow_mid0 x.ts i (by omega) (by omega)
          obtain ⟨p, hp⟩ : ∃ p, x.ts[i - 1]'(by omega) = p := ⟨_, rfl⟩
          rw [hp] at hep hm1 hm0
          clear hp
          by_cases hu1 : 1 ≤ p.u
          · have wp : IntKind.i64.wrap (min p.u 1000000 + 1) = min p.u 1000000 + 1 := by rw [IntKind.wrap_i64]; omega
            simp -implicitDefEqProofs -proj only [go_sem, Nat.reduceBEq, Nat.reduceLT, Nat.reduceLeDiff, Nat.reduceAdd, Nat.reduceMul, ↓reduceIte, m1, m2, decide_eq_true (show 0 < (i : Int) by omega), wi]
            (repeat' (with_reducible refine VC_intro ?_ (fun h => ?_); (focus first | decide | omega); clear h; try simp -implicitDefEqProofs -proj only [go_sem, Nat.reduceBEq, Nat.reduceLT, Nat.reduceLeDiff, Nat.reduceAdd, Nat.reduceMul, ↓reduceIte, wi]))
            refine ElemA_at _ (by omega) hep ?_
            simp -implicitDefEqProofs -proj only [go_sem, Nat.reduceBEq, Nat.reduceLT, Nat.reduceLeDiff, Nat.reduceAdd, Nat.reduceMul, ↓reduceIte, m1, m2, wi]
            simp -implicitDefEqProofs -proj only [go_sem, Nat.reduceBEq, Nat.reduceLT, Nat.reduceLeDiff, Nat.reduceAdd, Nat.reduceMul, ↓reduceIte, m1, m2, wi, decide_eq_true hu1]
            (repeat' (with_reducible refine VC_intro ?_ (fun h => ?_); (focus first | decide | omega); clear h; try simp -implicitDefEqProofs -proj only [go_sem, Nat.reduceBEq, Nat.reduceLT, Nat.reduceLeDiff, Nat.reduceAdd, Nat.reduceMul, ↓reduceIte, wi]))
            refine ElemA_at _ (by omega) hep ?_
            by_cases hl : i + 1 = x.ts.length
            · have hlow := hlast hl
              simp -implicitDefEqProofs -proj only [go_sem, Nat.reduceBEq, Nat.reduceLT, Nat.reduceLeDiff, Nat.reduceAdd, Nat.reduceMul, ↓reduceIte, m1, m2, rowT_len, wi, hwl, wp, decide_eq_true (show (i : Int) = (x.ts.length : Int) - 1 by omega)]
              by_cases hr : 0 ≤ q.r ∧ q.r ≤ 1000000000000
              rotate_left
              · refine CallA_pure (RIn_f hr) ?_
                simp -implicitDefEqProofs -proj only [go_sem, Nat.reduceBEq, Nat.reduceLT, Nat.reduceLeDiff, Nat.reduceAdd, Nat.reduceMul, ↓reduceIte]
                exact LendV_eq (by rw [decide_eq_false (fun h => hno (fun k => hr k.1) h.1)])
              refine CallA_pure (RIn_t hr) ?_
              simp -implicitDefEqProofs -proj only [go_sem, Nat.reduceBEq, Nat.reduceLT, Nat.reduceLeDiff, Nat.reduceAdd, Nat.reduceMul, ↓reduceIte, m1, m2]
              by_cases hu : lowT x.ts i ≤ q.u ∧ q.u ≤ highT x.ts i
              rotate_left
              · refine CallA_pure (RIn_f (by rw [hlow.1, hlow.2] at hu; exact hu)) ?_
                simp -implicitDefEqProofs -proj only [go_sem, Nat.reduceBEq, Nat.reduceLT, Nat.reduceLeDiff, Nat.reduceAdd, Nat.reduceMul, ↓reduceIte]
                exact LendV_eq (by rw [decide_eq_false (fun h => hno (fun k => hu k.2) h.1)])
              refine CallA_pure (RIn_t (by rw [hlow.1, hlow.2] at hu; exact hu)) ?_
              simp -implicitDefEqProofs -proj only [go_sem, Nat.reduceBEq, Nat.reduceLT, Nat.reduceLeDiff, Nat.reduceAdd, Nat.reduceMul, ↓reduceIte]
              refine LoopQ_k (i + 1) ⟨by omega, hgo ⟨hr, hu⟩⟩ (by omega) rfl ?_ (AllH_upd hb6' hk3)
              simp -implicitDefEqProofs -proj only [go_sem, Nat.reduceBEq, Nat.reduceLT, Nat.reduceLeDiff, Nat.reduceAdd, Nat.reduceMul, ↓reduceIte, AllAt, i64_succ (show i < 9223372036854775807 by omega)]
            · have hlow := hm1 hl hu1
              simp -implicitDefEqProofs -proj only [go_sem, Nat.reduceBEq, Nat.reduceLT, Nat.reduceLeDiff, Nat.reduceAdd, Nat.reduceMul, ↓reduceIte, m1, m2, rowT_len, wi, hwl, wp, decide_eq_false (show ¬ (i : Int) = (x.ts.length : Int) - 1 by omega)]
              by_cases hr : 0 ≤ q.r ∧ q.r ≤ 1000000000000
              rotate_left
              · refine CallA_pure (RIn_f hr) ?_
                simp -implicitDefEqProofs -proj only [go_sem, Nat.reduceBEq, Nat.reduceLT, Nat.reduceLeDiff, Nat.reduceAdd, Nat.reduceMul, ↓reduceIte]
                exact LendV_eq (by rw [decide_eq_false (fun h => hno (fun k => hr k.1) h.1)])
              refine CallA_pure (RIn_t hr) ?_
              simp -implicitDefEqProofs -proj only [go_sem, Nat.reduceBEq, Nat.reduceLT, Nat.reduceLeDiff, Nat.reduceAdd, Nat.reduceMul, ↓reduceIte, m1, m2]
              by_cases hu : lowT x.ts i ≤ q.u ∧ q.u ≤ highT x.ts i
              rotate_left
              · refine CallA_pure (RIn_f (by rw [hlow.1, hlow.2] at hu; exact hu)) ?_
                simp -implicitDefEqProofs -proj only [go_sem, Nat.reduceBEq, Nat.reduceLT, Nat.reduceLeDiff, Nat.reduceAdd, Nat.reduceMul, ↓reduceIte]
                exact LendV_eq (by rw [decide_eq_false (fun h => hno (fun k => hu k.2) h.1)])
              refine CallA_pure (RIn_t (by rw [hlow.1, hlow.2] at hu; exact hu)) ?_
              simp -implicitDefEqProofs -proj only [go_sem, Nat.reduceBEq, Nat.reduceLT, Nat.reduceLeDiff, Nat.reduceAdd, Nat.reduceMul, ↓reduceIte]
              refine LoopQ_k (i + 1) ⟨by omega, hgo ⟨hr, hu⟩⟩ (by omega) rfl ?_ (AllH_upd hb6' hk3)
              simp -implicitDefEqProofs -proj only [go_sem, Nat.reduceBEq, Nat.reduceLT, Nat.reduceLeDiff, Nat.reduceAdd, Nat.reduceMul, ↓reduceIte, AllAt, i64_succ (show i < 9223372036854775807 by omega)]
          · simp -implicitDefEqProofs -proj only [go_sem, Nat.reduceBEq, Nat.reduceLT, Nat.reduceLeDiff, Nat.reduceAdd, Nat.reduceMul, ↓reduceIte, m1, m2, decide_eq_true (show 0 < (i : Int) by omega), wi]
            (repeat' (with_reducible refine VC_intro ?_ (fun h => ?_); (focus first | decide | omega); clear h; try simp -implicitDefEqProofs -proj only [go_sem, Nat.reduceBEq, Nat.reduceLT, Nat.reduceLeDiff, Nat.reduceAdd, Nat.reduceMul, ↓reduceIte, wi]))
            refine ElemA_at _ (by omega) hep ?_
            simp -implicitDefEqProofs -proj only [go_sem, Nat.reduceBEq, Nat.reduceLT, Nat.reduceLeDiff, Nat.reduceAdd, Nat.reduceMul, ↓reduceIte, m1, m2, wi]
            by_cases hl : i + 1 = x.ts.length
            · have hlow := hlast hl
              simp -implicitDefEqProofs -proj only [go_sem, Nat.reduceBEq, Nat.reduceLT, Nat.reduceLeDiff, Nat.reduceAdd, Nat.reduceMul, ↓reduceIte, m1, m2, rowT_len, wi, hwl, decide_eq_false hu1, decide_eq_true (show (i : Int) = (x.ts.length : Int) - 1 by omega)]
              by_cases hr : 0 ≤ q.r ∧ q.r ≤ 1000000000000
              rotate_left
              · refine CallA_pure (RIn_f hr) ?_
                simp -implicitDefEqProofs -proj only [go_sem, Nat.reduceBEq, Nat.reduceLT, Nat.reduceLeDiff, Nat.reduceAdd, Nat.reduceMul, ↓reduceIte]
                exact LendV_eq (by rw [decide_eq_false (fun h => hno (fun k => hr k.1) h.1)])
              refine CallA_pure (RIn_t hr) ?_
              simp -implicitDefEqProofs -proj only [go_sem, Nat.reduceBEq, Nat.reduceLT, Nat.reduceLeDiff, Nat.reduceAdd, Nat.reduceMul, ↓reduceIte, m1, m2]
              by_cases hu : lowT x.ts i ≤ q.u ∧ q.u ≤ highT x.ts i
              rotate_left
              · refine CallA_pure (RIn_f (by rw [hlow.1, hlow.2] at hu; exact hu)) ?_
                simp -implicitDefEqProofs -proj only [go_sem, Nat.reduceBEq, Nat.reduceLT, Nat.reduceLeDiff, Nat.reduceAdd, Nat.reduceMul, ↓reduceIte]
                exact LendV_eq (by rw [decide_eq_false (fun h => hno (fun k => hu k.2) h.1)])
              refine CallA_pure (RIn_t (by rw [hlow.1, hlow.2] at hu; exact hu)) ?_
              simp -implicitDefEqProofs -proj only [go_sem, Nat.reduceBEq, Nat.reduceLT, Nat.reduceLeDiff, Nat.reduceAdd, Nat.reduceMul, ↓reduceIte]
              refine LoopQ_k (i + 1) ⟨by omega, hgo ⟨hr, hu⟩⟩ (by omega) rfl ?_ (AllH_upd hb6' hk3)
              simp -implicitDefEqProofs -proj only [go_sem, Nat.reduceBEq, Nat.reduceLT, Nat.reduceLeDiff, Nat.reduceAdd, Nat.reduceMul, ↓reduceIte, AllAt, i64_succ (show i < 9223372036854775807 by omega)]
            · have hlow := hm0 hl hu1
              simp -implicitDefEqProofs -proj only [go_sem, Nat.reduceBEq, Nat.reduceLT, Nat.reduceLeDiff, Nat.reduceAdd, Nat.reduceMul, ↓reduceIte, m1, m2, rowT_len, wi, hwl, decide_eq_false hu1, decide_eq_false (show ¬ (i : Int) = (x.ts.length : Int) - 1 by omega)]
              by_cases hr : 0 ≤ q.r ∧ q.r ≤ 1000000000000
              rotate_left
              · refine CallA_pure (RIn_f hr) ?_
                simp -implicitDefEqProofs -proj only [go_sem, Nat.reduceBEq, Nat.reduceLT, Nat.reduceLeDiff, Nat.reduceAdd, Nat.reduceMul, ↓reduceIte]
                exact LendV_eq (by rw [decide_eq_false (fun h => hno (fun k => hr k.1) h.1)])
              refine CallA_pure (RIn_t hr) ?_
              simp -implicitDefEqProofs -proj only [go_sem, Nat.reduceBEq, Nat.reduceLT, Nat.reduceLeDiff, Nat.reduceAdd, Nat.reduceMul, ↓reduceIte, m1, m2]
              by_cases hu : lowT x.ts i ≤ q.u ∧ q.u ≤ highT x.ts i
              rotate_left
              · refine CallA_pure (RIn_f (by rw [hlow.1, hlow.2] at hu; exact hu)) ?_
                simp -implicitDefEqProofs -proj only [go_sem, Nat.reduceBEq, Nat.reduceLT, Nat.reduceLeDiff, Nat.reduceAdd, Nat.reduceMul, ↓reduceIte]
                exact LendV_eq (by rw [decide_eq_false (fun h => hno (fun k => hu k.2) h.1)])
              refine CallA_pure (RIn_t (by rw [hlow.1, hlow.2] at hu; exact hu)) ?_
              simp -implicitDefEqProofs -proj only [go_sem, Nat.reduceBEq, Nat.reduceLT, Nat.reduceLeDiff, Nat.reduceAdd, Nat.reduceMul, ↓reduceIte]
              refine LoopQ_k (i + 1) ⟨by omega, hgo ⟨hr, hu⟩⟩ (by omega) rfl ?_ (AllH_upd hb6' hk3)
              simp -implicitDefEqProofs -proj only [go_sem, Nat.reduceBEq, Nat.reduceLT, Nat.reduceLeDiff, Nat.reduceAdd, Nat.reduceMul, ↓reduceIte, AllAt, i64_succ (show i < 9223372036854775807 by omega)]
      · have hi' : i = x.ts.length := by omega
        subst hi'
        have hT : tiersOK x.ts := fun j h1 => hs j h1 h1
        simp -implicitDefEqProofs -proj only [go_sem, Nat.reduceBEq, Nat.reduceLT, Nat.reduceLeDiff, Nat.reduceAdd, Nat.reduceMul, ↓reduceIte, decide_eq_false (show ¬ (x.ts.length : Int) < x.ts.length by omega), rowA_len]
        refine LoopA_k (fun i : Nat => i ≤ x.ad.length ∧ ∀ (j : Nat) (h : j < x.ad.length), j < i → adjOK x.ad[j]) 160 (fun i => [(126, slA x.ad), (127, i64 x.ad.length), (128, i64 i)]) (fun _ => []) (fun i => x.ad.length - i) 0 ⟨Nat.zero_le _, fun j _ h => absurd h (Nat.not_lt_zero _)⟩ rfl ?_ ?_ ?_
        · simp -implicitDefEqProofs -proj only [go_sem, Nat.reduceBEq, Nat.reduceLT, Nat.reduceLeDiff, Nat.reduceAdd, Nat.reduceMul, ↓reduceIte, AllAt]
        · simp -implicitDefEqProofs -proj only [go_sem, Nat.reduceBEq, Nat.reduceLT, Nat.reduceLeDiff, Nat.reduceAdd, Nat.reduceMul, ↓reduceIte, AllH]
        · rintro i ⟨hi, hs⟩
          by_cases h : i < x.ad.length
          · have hel := rowA_at h
            have hgo : adjOK x.ad[i] → ∀ (j : Nat) (h : j < x.ad.length), j < i + 1 → adjOK x.ad[j] := by
              intro e j h1 h2
              by_cases hj : j = i
              · subst hj; exact e
              · exact hs j h1 (by omega)
            have hno : ¬ adjOK x.ad[i] → ¬ adjsOK x.ad := fun e k => e (k _ (List.getElem_mem h))
            generalize hq : x.ad[i] = q at *
            unfold adjOK at hgo hno
            simp -implicitDefEqProofs -proj only [go_sem, Nat.reduceBEq, Nat.reduceLT, Nat.reduceLeDiff, Nat.reduceAdd, Nat.reduceMul, ↓reduceIte, decide_eq_true (show (i : Int) < x.ad.length by omega)]
            refine ElemA_at _ (by omega) hel ?_
            simp -implicitDefEqProofs -proj only [go_sem, Nat.reduceBEq, Nat.reduceLT, Nat.reduceLeDiff, Nat.reduceAdd, Nat.reduceMul, ↓reduceIte]
            refine AllocA_intro (fun b10 hb10 => ?_)
            by_cases k1 : q.k = 1
            · simp -implicitDefEqProofs -proj only [go_sem, Nat.reduceBEq, Nat.reduceLT, Nat.reduceLeDiff, Nat.reduceAdd, Nat.reduceMul, ↓reduceIte, decide_eq_true k1]
              by_cases hn : 0 ≤ q.n ∧ q.n ≤ 100000000
              rotate_left
              · refine CallA_pure (RIn_f hn) ?_
                simp -implicitDefEqProofs -proj only [go_sem, Nat.reduceBEq, Nat.reduceLT, Nat.reduceLeDiff, Nat.reduceAdd, Nat.reduceMul, ↓reduceIte]
                exact LendV_eq (by rw [decide_eq_false (fun h => hno (by omega) h.2)])
              refine CallA_pure (RIn_t hn) ?_
              simp -implicitDefEqProofs -proj only [go_sem, Nat.reduceBEq, Nat.reduceLT, Nat.reduceLeDiff, Nat.reduceAdd, Nat.reduceMul, ↓reduceIte]
              by_cases hm : 0 ≤ q.m ∧ q.m ≤ 3
              rotate_left
              · refine CallA_pure (RIn_f hm) ?_
                simp -implicitDefEqProofs -proj only [go_sem, Nat.reduceBEq, Nat.reduceLT, Nat.reduceLeDiff, Nat.reduceAdd, Nat.reduceMul, ↓reduceIte]
                exact LendV_eq (by rw [decide_eq_false (fun h => hno (by omega) h.2)])
              refine CallA_pure (RIn_t hm) ?_
              simp -implicitDefEqProofs -proj only [go_sem, Nat.reduceBEq, Nat.reduceLT, Nat.reduceLeDiff, Nat.reduceAdd, Nat.reduceMul, ↓reduceIte]
              refine LoopQ_k (i + 1) ⟨by omega, hgo (by omega)⟩ (by omega) rfl ?_ trivial
              simp -implicitDefEqProofs -proj only [go_sem, Nat.reduceBEq, Nat.reduceLT, Nat.reduceLeDiff, Nat.reduceAdd, Nat.reduceMul, ↓reduceIte, AllAt, i64_succ (show i < 9223372036854775807 by omega)]
            · by_cases k2 : q.k = 2
              · simp -implicitDefEqProofs -proj only [go_sem, Nat.reduceBEq, Nat.reduceLT, Nat.reduceLeDiff, Nat.reduceAdd, Nat.reduceMul, ↓reduceIte, decide_eq_false k1, decide_eq_true k2]
                by_cases hn : 0 ≤ q.n ∧ q.n ≤ 1000000000000
                rotate_left
                · refine CallA_pure (RIn_f hn) ?_
                  simp -implicitDefEqProofs -proj only [go_sem, Nat.reduceBEq, Nat.reduceLT, Nat.reduceLeDiff, Nat.reduceAdd, Nat.reduceMul, ↓reduceIte]
                  exact LendV_eq (by rw [decide_eq_false (fun h => hno (by omega) h.2)])
                refine CallA_pure (RIn_t hn) ?_
                by_cases hm : q.m = 0
                rotate_left
                · simp -implicitDefEqProofs -proj only [go_sem, Nat.reduceBEq, Nat.reduceLT, Nat.reduceLeDiff, Nat.reduceAdd, Nat.reduceMul, ↓reduceIte, decide_eq_false hm]
                  exact LendV_eq (by rw [decide_eq_false (fun h => hno (by omega) h.2)])
                simp -implicitDefEqProofs -proj only [go_sem, Nat.reduceBEq, Nat.reduceLT, Nat.reduceLeDiff, Nat.reduceAdd, Nat.reduceMul, ↓reduceIte, decide_eq_true hm]
                refine LoopQ_k (i + 1) ⟨by omega, hgo (by omega)⟩ (by omega) rfl ?_ trivial
                simp -implicitDefEqProofs -proj only [go_sem, Nat.reduceBEq, Nat.reduceLT, Nat.reduceLeDiff, Nat.reduceAdd, Nat.reduceMul, ↓reduceIte, AllAt, i64_succ (show i < 9223372036854775807 by omega)]
              · by_cases k3 : q.k = 3
                · simp -implicitDefEqProofs -proj only [go_sem, Nat.reduceBEq, Nat.reduceLT, Nat.reduceLeDiff, Nat.reduceAdd, Nat.reduceMul, ↓reduceIte, decide_eq_false k1, decide_eq_false k2, decide_eq_true k3]
                  by_cases hn : 0 ≤ q.n ∧ q.n ≤ 1000000000000
                  rotate_left
                  · refine CallA_pure (RIn_f hn) ?_
                    simp -implicitDefEqProofs -proj only [go_sem, Nat.reduceBEq, Nat.reduceLT, Nat.reduceLeDiff, Nat.reduceAdd, Nat.reduceMul, ↓reduceIte]
                    exact LendV_eq (by rw [decide_eq_false (fun h => hno (by omega) h.2)])
                  refine CallA_pure (RIn_t hn) ?_
                  by_cases hm : q.m = 0
                  rotate_left
                  · simp -implicitDefEqProofs -proj only [go_sem, Nat.reduceBEq, Nat.reduceLT, Nat.reduceLeDiff, Nat.reduceAdd, Nat.reduceMul, ↓reduceIte, decide_eq_false hm]
                    exact LendV_eq (by rw [decide_eq_false (fun h => hno (by omega) h.2)])
                  simp -implicitDefEqProofs -proj only [go_sem, Nat.reduceBEq, Nat.reduceLT, Nat.reduceLeDiff, Nat.reduceAdd, Nat.reduceMul, ↓reduceIte, decide_eq_true hm]
                  refine LoopQ_k (i + 1) ⟨by omega, hgo (by omega)⟩ (by omega) rfl ?_ trivial
                  simp -implicitDefEqProofs -proj only [go_sem, Nat.reduceBEq, Nat.reduceLT, Nat.reduceLeDiff, Nat.reduceAdd, Nat.reduceMul, ↓reduceIte, AllAt, i64_succ (show i < 9223372036854775807 by omega)]
                · by_cases k4 : q.k = 4
                  · simp -implicitDefEqProofs -proj only [go_sem, Nat.reduceBEq, Nat.reduceLT, Nat.reduceLeDiff, Nat.reduceAdd, Nat.reduceMul, ↓reduceIte, decide_eq_false k1, decide_eq_false k2, decide_eq_false k3, decide_eq_true k4]
                    by_cases hn : 0 ≤ q.n ∧ q.n ≤ 1000000000000
                    rotate_left
                    · refine CallA_pure (RIn_f hn) ?_
                      simp -implicitDefEqProofs -proj only [go_sem, Nat.reduceBEq, Nat.reduceLT, Nat.reduceLeDiff, Nat.reduceAdd, Nat.reduceMul, ↓reduceIte]
                      exact LendV_eq (by rw [decide_eq_false (fun h => hno (by omega) h.2)])
                    refine CallA_pure (RIn_t hn) ?_
                    by_cases hm : q.m = 0
                    rotate_left
                    · simp -implicitDefEqProofs -proj only [go_sem, Nat.reduceBEq, Nat.reduceLT, Nat.reduceLeDiff, Nat.reduceAdd, Nat.reduceMul, ↓reduceIte, decide_eq_false hm]
                      exact LendV_eq (by rw [decide_eq_false (fun h => hno (by omega) h.2)])
                    simp -implicitDefEqProofs -proj only [go_sem, Nat.reduceBEq, Nat.reduceLT, Nat.reduceLeDiff, Nat.reduceAdd, Nat.reduceMul, ↓reduceIte, decide_eq_true hm]
                    refine LoopQ_k (i + 1) ⟨by omega, hgo (by omega)⟩ (by omega) rfl ?_ trivial
                    simp -implicitDefEqProofs -proj only [go_sem, Nat.reduceBEq, Nat.reduceLT, Nat.reduceLeDiff, Nat.reduceAdd, Nat.reduceMul, ↓reduceIte, AllAt, i64_succ (show i < 9223372036854775807 by omega)]
                  · simp -implicitDefEqProofs -proj only [go_sem, Nat.reduceBEq, Nat.reduceLT, Nat.reduceLeDiff, Nat.reduceAdd, Nat.reduceMul, ↓reduceIte, decide_eq_false k1, decide_eq_false k2, decide_eq_false k3, decide_eq_false k4]
                    exact LendV_eq (by rw [decide_eq_false (fun h => hno (by omega) h.2)])
          · have hi' : i = x.ad.length := by omega
            subst hi'
            have hA : adjsOK x.ad := fun a ha => by obtain ⟨j, h1, rfl⟩ := List.getElem_of_mem ha; exact hs j h1 h1
            simp -implicitDefEqProofs -proj only [go_sem, Nat.reduceBEq, Nat.reduceLT, Nat.reduceLeDiff, Nat.reduceAdd, Nat.reduceMul, ↓reduceIte, decide_eq_false (show ¬ (x.ad.length : Int) < x.ad.length by omega)]
            exact LendV_eq (by rw [decide_eq_true ⟨hT, hA⟩])
end Go.Proofs.Ytlflfciebidddaa.Abs
