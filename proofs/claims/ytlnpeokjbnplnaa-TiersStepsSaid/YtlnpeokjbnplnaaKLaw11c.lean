/- The law TiersRise. No claim stands here. -/
import Derived.Test.YtlnpeokjbnplnaaKLaw11b
set_option linter.unusedSimpArgs false
set_option linter.unusedVariables false
namespace Go.Proofs.Ytlnpeokjbnplnaa.Abs
open Go Go.RowKit Go.Proofs
attribute [local go_sem] RunC_seq AF_n AF_r AF_b St_n St_t St_H Fst_mk Snd_mk RunC_ops RunC_cond RunC_block RunC_loop RunC_exit RunC_ret RunC_skip RunO_nil RunO_code RunO_code_ret RunO_code_exit RunO_blk RunO_blk_ret RunO_blk_exit RunL_nil RunL_guard GuardA_tt GuardA_ff GuardA_tf GuardA_ft GuardA_void CondA_t CondA_f PickA_t PickA_f RunL_mov RunL_pick RunL_alloc RunL_box RunL_load LoadA_ptr LoadB_1 LoadB_n LoadA_dptr LoadA_dptr_n RunL_store StoreA_ptr StoreB_box RunL_bin Bin_add Bin_sub Bin_mul Bin_quo Bin_rem Bin_shl Bin_shr Bin_andI Bin_orI Bin_xorI Bin_eql Bin_neq Bin_lss Bin_leq Bin_gtr Bin_geq RunL_binb Bin_beql Bin_bneq RunL_un UnA_not UnA_neg RunL_conv convV MapA_some RunL_nilCheck nilV RunL_mkfn RunL_fieldAddr faV RunL_field FieldA_1 FieldA_n RunL_elemAddr EAddrA_sl EAddrA_own EptrA_eq RunL_build BuildA_some RunL_extract ExtA_eq RunL_len lenV_sl lenV_nilsl lenV_own RunL_slen RunL_idxStr IdxSA_eq slenV RunL_minmax mmV minmaxL RunL_call RunL_callv CallvA_fn putS ev evL evO evP eqK eqKs EqB_agg RunL_eqAgg EqA_t EqA_f evQ buildC fits_agg cellsAV_agg fits_d cellsAV_d fits_nilp cellsAV_nilp fits_nilsl cellsAV_nilsl fits_nilfn cellsAV_nilfn fits_ptr cellsAV_ptr fits_eptr cellsAV_eptr fits_dptr cellsAV_dptr fits_own cellsAV_own fits_fn cellsAV_fn rowV_fits rowV_cells rowV_len lenAV setSeg nth seg mapD repeatL putT_get upd_get argT keepT_cons keepT_nil keepH_cons keepH_nil cond_true cond_false VC_true finW resW resL resOne LoopQ_exit LoopQ_ret List.cons_append List.nil_append Bool.not_true Bool.not_false Bool.and_true Bool.and_self Nat.lt_add_left_iff_pos Nat.zero_add Nat.add_zero List.drop_succ_cons List.drop_zero List.take_succ_cons List.take_zero beq_self_eq_true Bool.false_eq_true RunC_dops RunL_loadS RunL_storeS StoreSA_ptr RunL_pcall RunL_pcallv PCallvA_fn newsOk and_self and_true true_and loadW_ptr LoadK_1 LoadK_n upd_upd RunL_buildSlice BSliceA_some RunL_buildSliceD frzL frz cutL LoadA_eptr LoadE_row RunL_append RunL_slice SliceA_sl StoreA_eptr List.length_cons List.length_nil Nat.min_def Int.cast_ofNat_Int Int.natCast_zero Int.natCast_one decide_true decide_false List.getElem?_cons_zero List.getElem?_cons_succ RunC_rangef CallvA_yld putL_nil putL_cons RangeQ_exit RangeQ_ret
theorem Left_ok {x : PartX} {q : Int} (hx : x.Fit) (hq : Fit q) (ha : 0 ≤ x.al) (hb : 1 ≤ x.bl) : DataW Try.prog f_poundageref11_Left [partV x, i64 q] (if q < 0 then .tup [i64 0, bv false] else fitR (leftI x q)) := by
  refine CallW_intro comp_poundageref11_Left (by simp) ?_
  simp -implicitDefEqProofs -proj only [go_sem, Nat.reduceBEq, Nat.reduceLT, Nat.reduceLeDiff, Nat.reduceAdd, Nat.reduceMul, ↓reduceIte, Int.reduceToNat, Int.reducePow, Int.reduceLT, Int.reduceLE, Int.reduceAdd, Int.reduceSub, Int.reduceMul, Int.reduceEq, Int.reduceNe]
  refine AllocA_intro (fun b2 hb2 => ?_)
  by_cases h : q < 0
  · rw [if_pos h]
    simp -implicitDefEqProofs -proj only [go_sem, Nat.reduceBEq, Nat.reduceLT, Nat.reduceLeDiff, Nat.reduceAdd, Nat.reduceMul, ↓reduceIte, Int.reduceToNat, Int.reducePow, Int.reduceLT, Int.reduceLE, Int.reduceAdd, Int.reduceSub, Int.reduceMul, Int.reduceEq, Int.reduceNe, decide_eq_true h]
    exact LendV_eq rfl
  · rw [if_neg h]
    have hal := hx.al
    have hbl := hx.bl
    unfold Fit at hal hq
    have hw : IntKind.i64.wrap (q - x.al) = q - x.al := by rw [IntKind.wrap_i64]; omega
    have hf : Fit (rnd (max (q - x.al) 0) x.bl 1) := by
      have := rnd_fit (a := max (q - x.al) 0) (c := x.bl) (m := 1) (by omega) (by decide) (by omega)
      unfold Fit
      omega
    have h1 := RMulDiv_ok (a := max (q - x.al) 0) (b := 1) (c := x.bl) (m := 1) (by unfold Fit; omega) (by decide) hbl
    rw [Int.mul_one, mdR_yes (by omega) (by decide), fitR_yes hf] at h1
    have h2 := RMul_ok hf hbl
    have h3 := RInt_ok (n := rnd (max (q - x.al) 0) x.bl 1 * x.bl) (by have := prod_small hf hbl; unfold Big; omega)
    unfold leftI
    generalize rnd (max (q - x.al) 0) x.bl 1 = k at *
    simp -implicitDefEqProofs -proj only [go_sem, Nat.reduceBEq, Nat.reduceLT, Nat.reduceLeDiff, Nat.reduceAdd, Nat.reduceMul, ↓reduceIte, Int.reduceToNat, Int.reducePow, Int.reduceLT, Int.reduceLE, Int.reduceAdd, Int.reduceSub, Int.reduceMul, Int.reduceEq, Int.reduceNe, decide_eq_false h, hw]
    refine CallA_pure h1 ?_
    simp -implicitDefEqProofs -proj only [go_sem, Nat.reduceBEq, Nat.reduceLT, Nat.reduceLeDiff, Nat.reduceAdd, Nat.reduceMul, ↓reduceIte, Int.reduceToNat, Int.reducePow, Int.reduceLT, Int.reduceLE, Int.reduceAdd, Int.reduceSub, Int.reduceMul, Int.reduceEq, Int.reduceNe]
    refine CallA_pure h2 ?_
    simp -implicitDefEqProofs -proj only [go_sem, Nat.reduceBEq, Nat.reduceLT, Nat.reduceLeDiff, Nat.reduceAdd, Nat.reduceMul, ↓reduceIte, Int.reduceToNat, Int.reducePow, Int.reduceLT, Int.reduceLE, Int.reduceAdd, Int.reduceSub, Int.reduceMul, Int.reduceEq, Int.reduceNe]
    refine CallA_pure h3 ?_
    unfold fitR
    simp -implicitDefEqProofs -proj only [go_sem, Nat.reduceBEq, Nat.reduceLT, Nat.reduceLeDiff, Nat.reduceAdd, Nat.reduceMul, ↓reduceIte, Int.reduceToNat, Int.reducePow, Int.reduceLT, Int.reduceLE, Int.reduceAdd, Int.reduceSub, Int.reduceMul, Int.reduceEq, Int.reduceNe]
    exact LendV_eq rfl
theorem vol_same {T : List Tier} {m n : Int} (hr : ∀ i, i < T.length → 0 ≤ rAt T i ∧ rAt T i ≤ 1000000000000) (h0 : 0 ≤ m) (hmn : m ≤ n) (hgap : ∀ i, i + 1 < T.length → ¬ (m ≤ uAt T i ∧ uAt T i < n)) : ∀ k, k ≤ T.length → tot (volI T m k) ≤ tot (volI T n k)
  | 0, _ => Int.le_refl _
  | k + 1, hk => by
    have hlt : T.length - (k + 1) < T.length := by omega
    have ih := vol_same hr h0 hmn hgap k (by omega)
    have hrr := hr _ hlt
    have hg := hgap (T.length - (k + 1))
    rw [uAt_eq hlt] at hg
    rw [rAt_eq hlt] at hrr
    rw [volI, volI, List.getElem?_eq_getElem hlt]
    generalize T[T.length - (k + 1)] = t at *
    simp -implicitDefEqProofs only []
    have key : tot (if 0 < m then [⟨0, m, t.r⟩] else []) ≤ tot (if 0 < n then [⟨0, n, t.r⟩] else []) := by
      have e : ∀ q : Int, 0 ≤ q → tot (if 0 < q then [⟨0, q, t.r⟩] else []) = t.r * q := by
        intro q hq
        split
        · simp [tot]
        · rw [show q = 0 by omega]; simp [tot]
      rw [e m h0, e n (by omega)]
      exact Int.mul_le_mul_of_nonneg_left hmn hrr.1
    by_cases hk0 : k = 0
    · rw [if_pos (show k = 0 ∨ m ≤ t.u from .inl hk0), if_pos (show k = 0 ∨ n ≤ t.u from .inl hk0)]
      exact key
    · have hg' := hg (by omega)
      by_cases hu : m ≤ t.u
      · rw [if_pos (show k = 0 ∨ m ≤ t.u from .inr hu), if_pos (show k = 0 ∨ n ≤ t.u by omega)]
        exact key
      · rw [if_neg (by omega), if_neg (by omega)]
        exact ih
theorem grad_rise {T : List Tier} {m n : Int} (h : Srt T) (hmn : m ≤ n) : tot (gradL T m) ≤ tot (gradL T n) := by
  rw [gradL_ref h, gradL_ref h, refL, refL, tot_ref, tot_ref]
  exact gsum_mono h hmn _ (Nat.le_refl _)
theorem left_mono {x : PartX} {q q' : Int} (hb : 1 ≤ x.bl) (h : q ≤ q') : leftI x q ≤ leftI x q' := by
  unfold leftI
  refine Int.mul_le_mul_of_nonneg_right ?_ (by omega)
  exact rnd_mono (by omega) (by decide) (by omega)
theorem left_nn {x : PartX} {q : Int} (hb : 1 ≤ x.bl) : 0 ≤ leftI x q := by
  unfold leftI
  refine Int.mul_nonneg ?_ (by omega)
  have := rnd_mono (p := 0) (p' := max (q - x.al) 0) (c := x.bl) (m := 1) (by omega) (by decide) (by omega)
  rw [rnd_zero (by omega)] at this
  exact this
/-- What a charge that there is comes of. -/
theorem charge_of {x : PartX} {q a : Int} (S : Srt x.ts) (hm : 0 ≤ x.mo ∧ x.mo ≤ 3) (h : chargeO x q = some a) : 0 ≤ q ∧ Fit (leftI x q) ∧ a = rnd (tot (stepsL x (leftI x q))) 1000000 x.mo := by
  unfold chargeO at h
  rw [micro_eq S] at h
  by_cases h1 : q < 0
  · rw [if_pos h1] at h; cases h
  · rw [if_neg h1] at h
    by_cases h2 : Fit (leftI x q)
    · rw [if_pos h2] at h
      split at h
      · next n hn =>
        split at hn
        · cases hn
          unfold mdO at h
          rw [if_pos ⟨by decide, hm⟩] at h
          unfold fitO at h
          split at h
          · cases h; exact ⟨by omega, h2, rfl⟩
          · cases h
        · cases hn
      · cases h
    · rw [if_neg h2] at h; cases h
theorem rowT_take {l : List Tier} {i : Nat} : (rowT l).take i = rowT (l.take i) := List.map_take.symm
set_option maxRecDepth 20000 in
theorem TiersRise_ok {x : PartX} {q m : Int} (hx : x.Fit) (hq : Fit q) (hm : Fit m) : DataW Try.prog f_poundagelaw11_TiersRise [partV x, i64 q, i64 m] (bv true) := by
  refine CallW_intro comp_poundagelaw11_TiersRise (by simp) ?_
  simp -implicitDefEqProofs -proj only [go_sem, Nat.reduceBEq, Nat.reduceLT, Nat.reduceLeDiff, Nat.reduceAdd, Nat.reduceMul, ↓reduceIte, Int.reduceToNat, Int.reducePow, Int.reduceLT, Int.reduceLE, Int.reduceAdd, Int.reduceSub, Int.reduceMul, Int.reduceEq, Int.reduceNe]
  refine AllocA_intro (fun b3 hb3 => ?_)
  simp -implicitDefEqProofs -proj only [go_sem, Nat.reduceBEq, Nat.reduceLT, Nat.reduceLeDiff, Nat.reduceAdd, Nat.reduceMul, ↓reduceIte, Int.reduceToNat, Int.reducePow, Int.reduceLT, Int.reduceLE, Int.reduceAdd, Int.reduceSub, Int.reduceMul, Int.reduceEq, Int.reduceNe]
  refine CallA_pure alive11_ok ?_
  simp -implicitDefEqProofs -proj only [go_sem, Nat.reduceBEq, Nat.reduceLT, Nat.reduceLeDiff, Nat.reduceAdd, Nat.reduceMul, ↓reduceIte, Int.reduceToNat, Int.reducePow, Int.reduceLT, Int.reduceLE, Int.reduceAdd, Int.reduceSub, Int.reduceMul, Int.reduceEq, Int.reduceNe]
  refine CallA_pure good_ok ?_
  by_cases hg : partOK 0 0 1 (zeroP x)
  rotate_left
  · simp -implicitDefEqProofs -proj only [go_sem, Nat.reduceBEq, Nat.reduceLT, Nat.reduceLeDiff, Nat.reduceAdd, Nat.reduceMul, ↓reduceIte, Int.reduceToNat, Int.reducePow, Int.reduceLT, Int.reduceLE, Int.reduceAdd, Int.reduceSub, Int.reduceMul, Int.reduceEq, Int.reduceNe, decide_eq_false hg]
    exact LendV_eq rfl
  have G := good_of hg
  have S := srt_of G.ts
  have hbl := G.bl
  have hn := G.tn
  rw [decide_eq_true hg]
  by_cases c1 : m < q
  · simp -implicitDefEqProofs -proj only [go_sem, Nat.reduceBEq, Nat.reduceLT, Nat.reduceLeDiff, Nat.reduceAdd, Nat.reduceMul, ↓reduceIte, Int.reduceToNat, Int.reducePow, Int.reduceLT, Int.reduceLE, Int.reduceAdd, Int.reduceSub, Int.reduceMul, Int.reduceEq, Int.reduceNe, decide_eq_true c1]
    exact LendV_eq rfl
  have m1 := Charge_ok (x := x) (q := q) hx hq G.al.1 G.bl.1 (by omega) (fun n hn => steps_fit S hn)
  have m2 := Charge_ok (x := x) (q := m) hx hm G.al.1 G.bl.1 (by omega) (fun n hn => steps_fit S hn)
  have k1 := fun a => charge_of (q := q) (a := a) S G.mo
  have k2 := fun a => charge_of (q := m) (a := a) S G.mo
  generalize chargeO x q = o1 at *
  generalize chargeO x m = o2 at *
  simp -implicitDefEqProofs -proj only [go_sem, Nat.reduceBEq, Nat.reduceLT, Nat.reduceLeDiff, Nat.reduceAdd, Nat.reduceMul, ↓reduceIte, Int.reduceToNat, Int.reducePow, Int.reduceLT, Int.reduceLE, Int.reduceAdd, Int.reduceSub, Int.reduceMul, Int.reduceEq, Int.reduceNe, decide_eq_false c1]
  refine CallA_pure m1 ?_
  cases o1 with
  | none =>
    simp -implicitDefEqProofs -proj only [go_sem, Nat.reduceBEq, Nat.reduceLT, Nat.reduceLeDiff, Nat.reduceAdd, Nat.reduceMul, ↓reduceIte, Int.reduceToNat, Int.reducePow, Int.reduceLT, Int.reduceLE, Int.reduceAdd, Int.reduceSub, Int.reduceMul, Int.reduceEq, Int.reduceNe, optR]
    refine CallA_pure m2 ?_
    cases o2 <;> simp -implicitDefEqProofs only [optR] <;> (simp -implicitDefEqProofs -proj only [go_sem, Nat.reduceBEq, Nat.reduceLT, Nat.reduceLeDiff, Nat.reduceAdd, Nat.reduceMul, ↓reduceIte, Int.reduceToNat, Int.reducePow, Int.reduceLT, Int.reduceLE, Int.reduceAdd, Int.reduceSub, Int.reduceMul, Int.reduceEq, Int.reduceNe]; exact LendV_eq rfl)
  | some a =>
  obtain ⟨h0, hf1, ea⟩ := k1 a rfl
  simp -implicitDefEqProofs -proj only [go_sem, Nat.reduceBEq, Nat.reduceLT, Nat.reduceLeDiff, Nat.reduceAdd, Nat.reduceMul, ↓reduceIte, Int.reduceToNat, Int.reducePow, Int.reduceLT, Int.reduceLE, Int.reduceAdd, Int.reduceSub, Int.reduceMul, Int.reduceEq, Int.reduceNe, optR]
  refine CallA_pure m2 ?_
  cases o2 with
  | none =>
    simp -implicitDefEqProofs -proj only [go_sem, Nat.reduceBEq, Nat.reduceLT, Nat.reduceLeDiff, Nat.reduceAdd, Nat.reduceMul, ↓reduceIte, Int.reduceToNat, Int.reducePow, Int.reduceLT, Int.reduceLE, Int.reduceAdd, Int.reduceSub, Int.reduceMul, Int.reduceEq, Int.reduceNe, optR]
    exact LendV_eq rfl
  | some b =>
  obtain ⟨h0', hf2, eb⟩ := k2 b rfl
  have hle := left_mono (x := x) (q := q) (q' := m) hbl.1 (by omega)
  have hnn := left_nn (x := x) (q := q) hbl.1
  have l1 := Left_ok (x := x) (q := q) hx hq G.al.1 G.bl.1
  have l2 := Left_ok (x := x) (q := m) hx hm G.al.1 G.bl.1
  rw [if_neg (by omega), fitR_yes hf1] at l1
  rw [if_neg (by omega), fitR_yes hf2] at l2
  generalize leftI x q = L1 at *
  generalize leftI x m = L2 at *
  have hgo : tot (stepsL x L1) ≤ tot (stepsL x L2) → a ≤ b := fun h => by
    rw [ea, eb]
    exact rnd_mono (by decide) G.mo h
  by_cases hk : x.ki = 1
  · have hab := hgo (by
      rw [show stepsL x L1 = gradL x.ts L1 from if_neg (by omega), show stepsL x L2 = gradL x.ts L2 from if_neg (by omega)]
      exact grad_rise S hle)
    simp -implicitDefEqProofs -proj only [go_sem, Nat.reduceBEq, Nat.reduceLT, Nat.reduceLeDiff, Nat.reduceAdd, Nat.reduceMul, ↓reduceIte, Int.reduceToNat, Int.reducePow, Int.reduceLT, Int.reduceLE, Int.reduceAdd, Int.reduceSub, Int.reduceMul, Int.reduceEq, Int.reduceNe, optR, decide_eq_true hk, decide_eq_true hab]
    exact LendV_eq rfl
  have hk2 : x.ki = 2 := by have := G.ki; omega
  have hgap : (∀ i, i + 1 < x.ts.length → ¬ (L1 ≤ uAt x.ts i ∧ uAt x.ts i < L2)) → a ≤ b := fun h => hgo (by
    rw [show stepsL x L1 = volL x.ts L1 from if_pos hk2, show stepsL x L2 = volL x.ts L2 from if_pos hk2]
    exact vol_same S.rate hnn hle h _ (Nat.le_refl _))
  have hwl : IntKind.i64.wrap ((x.ts.length : Int) - 1) = ((x.ts.length - 1 : Nat) : Int) := by rw [IntKind.wrap_i64]; omega
  simp -implicitDefEqProofs -proj only [go_sem, Nat.reduceBEq, Nat.reduceLT, Nat.reduceLeDiff, Nat.reduceAdd, Nat.reduceMul, ↓reduceIte, Int.reduceToNat, Int.reducePow, Int.reduceLT, Int.reduceLE, Int.reduceAdd, Int.reduceSub, Int.reduceMul, Int.reduceEq, Int.reduceNe, optR, decide_eq_false hk]
  refine CallA_pure l1 ?_
  simp -implicitDefEqProofs -proj only [go_sem, Nat.reduceBEq, Nat.reduceLT, Nat.reduceLeDiff, Nat.reduceAdd, Nat.reduceMul, ↓reduceIte, Int.reduceToNat, Int.reducePow, Int.reduceLT, Int.reduceLE, Int.reduceAdd, Int.reduceSub, Int.reduceMul, Int.reduceEq, Int.reduceNe]
  refine CallA_pure l2 ?_
  simp -implicitDefEqProofs -proj only [go_sem, Nat.reduceBEq, Nat.reduceLT, Nat.reduceLeDiff, Nat.reduceAdd, Nat.reduceMul, ↓reduceIte, Int.reduceToNat, Int.reducePow, Int.reduceLT, Int.reduceLE, Int.reduceAdd, Int.reduceSub, Int.reduceMul, Int.reduceEq, Int.reduceNe, rowT_len, hwl, SliceA_sl, evO, intOpd, Option.getD_none, Option.getD_some, Int.toNat_zero, Int.toNat_natCast, List.drop_zero, rowT_take]
  refine VC_intro (by omega) (fun _ => ?_)
  have htl : (x.ts.take (x.ts.length - 1)).length = x.ts.length - 1 := by rw [List.length_take]; omega
  simp -implicitDefEqProofs -proj only [go_sem, Nat.reduceBEq, Nat.reduceLT, Nat.reduceLeDiff, Nat.reduceAdd, Nat.reduceMul, ↓reduceIte, Int.reduceToNat, Int.reducePow, Int.reduceLT, Int.reduceLE, Int.reduceAdd, Int.reduceSub, Int.reduceMul, Int.reduceEq, Int.reduceNe, rowT_len, htl]
  refine LoopA_k (fun i : Nat => i ≤ x.ts.length - 1 ∧ ∀ j, j < i → ¬ (L1 ≤ uAt x.ts j ∧ uAt x.ts j < L2)) 89 (fun i => [(69, slT (x.ts.take (x.ts.length - 1))), (70, i64 ((x.ts.length - 1 : Nat) : Int)), (71, i64 i), (11, i64 L1), (13, i64 L2), (7, i64 a), (9, i64 b)]) (fun _ => []) (fun i => x.ts.length - 1 - i) 0 ⟨Nat.zero_le _, fun j h => absurd h (Nat.not_lt_zero _)⟩ rfl ?_ ?_ ?_
  · simp -implicitDefEqProofs -proj only [go_sem, Nat.reduceBEq, Nat.reduceLT, Nat.reduceLeDiff, Nat.reduceAdd, Nat.reduceMul, ↓reduceIte, Int.reduceToNat, Int.reducePow, Int.reduceLT, Int.reduceLE, Int.reduceAdd, Int.reduceSub, Int.reduceMul, Int.reduceEq, Int.reduceNe, AllAt]
  · trivial
  · rintro i ⟨hi, hs⟩
    by_cases h : i < x.ts.length - 1
    · have hel := rowT_at (l := x.ts.take (x.ts.length - 1)) (i := i) (by omega)
      have hu : (x.ts.take (x.ts.length - 1))[i].u = uAt x.ts i := by rw [uAt_eq (by omega), List.getElem_take]
      rw [hu] at hel
      have hstep : ¬ (L1 ≤ uAt x.ts i ∧ uAt x.ts i < L2) → ∀ j, j < i + 1 → ¬ (L1 ≤ uAt x.ts j ∧ uAt x.ts j < L2) := by
        intro hh j hj
        by_cases e : j = i
        · subst e; exact hh
        · exact hs j (by omega)
      clear hu
      generalize uAt x.ts i = u at *
      simp -implicitDefEqProofs -proj only [go_sem, Nat.reduceBEq, Nat.reduceLT, Nat.reduceLeDiff, Nat.reduceAdd, Nat.reduceMul, ↓reduceIte, Int.reduceToNat, Int.reducePow, Int.reduceLT, Int.reduceLE, Int.reduceAdd, Int.reduceSub, Int.reduceMul, Int.reduceEq, Int.reduceNe, decide_eq_true (show (i : Int) < ((x.ts.length - 1 : Nat) : Int) by omega)]
      refine ElemA_at _ (by omega) hel ?_
      simp -implicitDefEqProofs -proj only [go_sem, Nat.reduceBEq, Nat.reduceLT, Nat.reduceLeDiff, Nat.reduceAdd, Nat.reduceMul, ↓reduceIte, Int.reduceToNat, Int.reducePow, Int.reduceLT, Int.reduceLE, Int.reduceAdd, Int.reduceSub, Int.reduceMul, Int.reduceEq, Int.reduceNe]
      refine AllocA_intro (fun b16 hb16 => ?_)
      by_cases g1 : L1 ≤ u
      · by_cases g2 : u < L2
        · simp -implicitDefEqProofs -proj only [go_sem, Nat.reduceBEq, Nat.reduceLT, Nat.reduceLeDiff, Nat.reduceAdd, Nat.reduceMul, ↓reduceIte, Int.reduceToNat, Int.reducePow, Int.reduceLT, Int.reduceLE, Int.reduceAdd, Int.reduceSub, Int.reduceMul, Int.reduceEq, Int.reduceNe, decide_eq_true g1, decide_eq_true g2]
          exact LendV_eq rfl
        · simp -implicitDefEqProofs -proj only [go_sem, Nat.reduceBEq, Nat.reduceLT, Nat.reduceLeDiff, Nat.reduceAdd, Nat.reduceMul, ↓reduceIte, Int.reduceToNat, Int.reducePow, Int.reduceLT, Int.reduceLE, Int.reduceAdd, Int.reduceSub, Int.reduceMul, Int.reduceEq, Int.reduceNe, decide_eq_true g1, decide_eq_false g2]
          refine LoopQ_k (i + 1) ⟨by omega, hstep (fun h => g2 h.2)⟩ (by omega) rfl ?_ trivial
          simp -implicitDefEqProofs -proj only [go_sem, Nat.reduceBEq, Nat.reduceLT, Nat.reduceLeDiff, Nat.reduceAdd, Nat.reduceMul, ↓reduceIte, Int.reduceToNat, Int.reducePow, Int.reduceLT, Int.reduceLE, Int.reduceAdd, Int.reduceSub, Int.reduceMul, Int.reduceEq, Int.reduceNe, AllAt, i64_succ (show i < 9223372036854775807 by omega)]
      · simp -implicitDefEqProofs -proj only [go_sem, Nat.reduceBEq, Nat.reduceLT, Nat.reduceLeDiff, Nat.reduceAdd, Nat.reduceMul, ↓reduceIte, Int.reduceToNat, Int.reducePow, Int.reduceLT, Int.reduceLE, Int.reduceAdd, Int.reduceSub, Int.reduceMul, Int.reduceEq, Int.reduceNe, decide_eq_false g1]
        refine LoopQ_k (i + 1) ⟨by omega, hstep (fun h => g1 h.1)⟩ (by omega) rfl ?_ trivial
        simp -implicitDefEqProofs -proj only [go_sem, Nat.reduceBEq, Nat.reduceLT, Nat.reduceLeDiff, Nat.reduceAdd, Nat.reduceMul, ↓reduceIte, Int.reduceToNat, Int.reducePow, Int.reduceLT, Int.reduceLE, Int.reduceAdd, Int.reduceSub, Int.reduceMul, Int.reduceEq, Int.reduceNe, AllAt, i64_succ (show i < 9223372036854775807 by omega)]
    · have hab := hgap (fun j hj => hs j (by omega))
      simp -implicitDefEqProofs -proj only [go_sem, Nat.reduceBEq, Nat.reduceLT, Nat.reduceLeDiff, Nat.reduceAdd, Nat.reduceMul, ↓reduceIte, Int.reduceToNat, Int.reducePow, Int.reduceLT, Int.reduceLE, Int.reduceAdd, Int.reduceSub, Int.reduceMul, Int.reduceEq, Int.reduceNe, decide_eq_false (show ¬ (i : Int) < ((x.ts.length - 1 : Nat) : Int) by omega), decide_eq_true hab]
      exact LendV_eq rfl
end Go.Proofs.Ytlnpeokjbnplnaa.Abs
