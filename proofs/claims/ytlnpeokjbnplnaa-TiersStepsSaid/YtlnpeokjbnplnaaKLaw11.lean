/- The laws of layer 11, but TiersSteps. No claim stands here. -/
import Derived.Test.YtlnpeokjbnplnaaKTier2
import Derived.Test.YtlnpeokjbnplnaaKRef02
set_option linter.unusedSimpArgs false
set_option linter.unusedVariables false
namespace Go.Proofs.Ytlnpeokjbnplnaa.Abs
open Go Go.RowKit Go.Proofs
attribute [local go_sem] RunC_seq AF_n AF_r AF_b St_n St_t St_H Fst_mk Snd_mk RunC_ops RunC_cond RunC_block RunC_loop RunC_exit RunC_ret RunC_skip RunO_nil RunO_code RunO_code_ret RunO_code_exit RunO_blk RunO_blk_ret RunO_blk_exit RunL_nil RunL_guard GuardA_tt GuardA_ff GuardA_tf GuardA_ft GuardA_void CondA_t CondA_f PickA_t PickA_f RunL_mov RunL_pick RunL_alloc RunL_box RunL_load LoadA_ptr LoadB_1 LoadB_n LoadA_dptr LoadA_dptr_n RunL_store StoreA_ptr StoreB_box RunL_bin Bin_add Bin_sub Bin_mul Bin_quo Bin_rem Bin_shl Bin_shr Bin_andI Bin_orI Bin_xorI Bin_eql Bin_neq Bin_lss Bin_leq Bin_gtr Bin_geq RunL_binb Bin_beql Bin_bneq RunL_un UnA_not UnA_neg RunL_conv convV MapA_some RunL_nilCheck nilV RunL_mkfn RunL_fieldAddr faV RunL_field FieldA_1 FieldA_n RunL_elemAddr EAddrA_sl EAddrA_own EptrA_eq RunL_build BuildA_some RunL_extract ExtA_eq RunL_len lenV_sl lenV_nilsl lenV_own RunL_slen RunL_idxStr IdxSA_eq slenV RunL_minmax mmV minmaxL RunL_call RunL_callv CallvA_fn putS ev evL evO evP eqK eqKs EqB_agg RunL_eqAgg EqA_t EqA_f evQ buildC fits_agg cellsAV_agg fits_d cellsAV_d fits_nilp cellsAV_nilp fits_nilsl cellsAV_nilsl fits_nilfn cellsAV_nilfn fits_ptr cellsAV_ptr fits_eptr cellsAV_eptr fits_dptr cellsAV_dptr fits_own cellsAV_own fits_fn cellsAV_fn rowV_fits rowV_cells rowV_len lenAV setSeg nth seg mapD repeatL putT_get upd_get argT keepT_cons keepT_nil keepH_cons keepH_nil cond_true cond_false VC_true finW resW resL resOne LoopQ_exit LoopQ_ret List.cons_append List.nil_append Bool.not_true Bool.not_false Bool.and_true Bool.and_self Nat.lt_add_left_iff_pos Nat.zero_add Nat.add_zero List.drop_succ_cons List.drop_zero List.take_succ_cons List.take_zero beq_self_eq_true Bool.false_eq_true RunC_dops RunL_loadS RunL_storeS StoreSA_ptr RunL_pcall RunL_pcallv PCallvA_fn newsOk and_self and_true true_and loadW_ptr LoadK_1 LoadK_n upd_upd RunL_buildSlice BSliceA_some RunL_buildSliceD frzL frz cutL LoadA_eptr LoadE_row RunL_append RunL_slice SliceA_sl StoreA_eptr List.length_cons List.length_nil Nat.min_def Int.cast_ofNat_Int Int.natCast_zero Int.natCast_one decide_true decide_false List.getElem?_cons_zero List.getElem?_cons_succ RunC_rangef CallvA_yld putL_nil putL_cons RangeQ_exit RangeQ_ret
theorem lend_part {H : Heap} {x : PartX} {tv av : AV} (h1 : LendV H tv (slT x.ts)) (h2 : LendV H av (slA x.ad)) : LendV H (.agg [i64 x.me, i64 x.f, i64 x.t, i64 x.al, i64 x.bl, i64 x.ki, tv, i64 x.mo, av]) (partV x) := by
  refine .agg _ _ rfl fun j u v g1 g2 => ?_
  match j with
  | 0 => cases g1; cases g2; exact .refl _
  | 1 => cases g1; cases g2; exact .refl _
  | 2 => cases g1; cases g2; exact .refl _
  | 3 => cases g1; cases g2; exact .refl _
  | 4 => cases g1; cases g2; exact .refl _
  | 5 => cases g1; cases g2; exact .refl _
  | 6 => cases g1; cases g2; exact h1
  | 7 => cases g1; cases g2; exact .refl _
  | 8 => cases g1; cases g2; exact h2
  | j + 9 => cases g1
theorem lend_core {H : Heap} {cur : ByteArray} {f t : Int} {m s p : AV} {ms ss ps : List (List D)} (h1 : LendV H m (.d (.sl 5 ms))) (h2 : LendV H s (.d (.sl 3 ss))) (h3 : LendV H p (.d (.sl 9 ps))) : LendV H (.agg [.d (.str cur), i64 f, i64 t, m, s, p]) (coreV cur f t ms ss ps) := by
  refine .agg _ _ rfl fun j u v g1 g2 => ?_
  match j with
  | 0 => cases g1; cases g2; exact .refl _
  | 1 => cases g1; cases g2; exact .refl _
  | 2 => cases g1; cases g2; exact .refl _
  | 3 => cases g1; cases g2; exact h1
  | 4 => cases g1; cases g2; exact h2
  | 5 => cases g1; cases g2; exact h3
  | j + 6 => cases g1
def zeroP (x : PartX) : PartX := { x with me := 0, f := 0, t := 0 }
theorem good_of {x : PartX} (h : partOK 0 0 1 (zeroP x)) : GoodX x := by
  obtain ⟨⟨g1, g2, g3, g4, g5, g6, g7, g8, g9, g10⟩, h2, h3⟩ := h
  exact ⟨g4, g5, g6, g7, ⟨g8, g9⟩, g10, h2, h3⟩
theorem good_ok {x : PartX} : DataW Try.prog f_poundagelaw11_good [partV x] (bv (decide (partOK 0 0 1 (zeroP x)))) := by
  refine CallW_intro comp_poundagelaw11_good (by simp) ?_
  have hno : ¬ headOK 0 0 1 (zeroP x) → ¬ partOK 0 0 1 (zeroP x) := fun h k => h k.1
  simp -implicitDefEqProofs -proj only [go_sem, Nat.reduceBEq, Nat.reduceLT, Nat.reduceLeDiff, Nat.reduceAdd, Nat.reduceMul, ↓reduceIte, Int.reduceToNat, Int.reducePow, Int.reduceLT, Int.reduceLE, Int.reduceAdd, Int.reduceSub, Int.reduceMul, Int.reduceEq, Int.reduceNe]
  refine AllocA_intro (fun b1 hb1 => ?_)
  by_cases g1 : 40 < (x.ts.length : Int)
  · simp -implicitDefEqProofs -proj only [go_sem, Nat.reduceBEq, Nat.reduceLT, Nat.reduceLeDiff, Nat.reduceAdd, Nat.reduceMul, ↓reduceIte, Int.reduceToNat, Int.reducePow, Int.reduceLT, Int.reduceLE, Int.reduceAdd, Int.reduceSub, Int.reduceMul, Int.reduceEq, Int.reduceNe, rowT_len, rowA_len, decide_eq_true g1]
    exact LendV_eq (by rw [decide_eq_false (hno (fun h => by unfold headOK at h; have : (zeroP x).ts.length = x.ts.length := rfl; omega))])
  by_cases g2 : 40 < (x.ad.length : Int)
  · simp -implicitDefEqProofs -proj only [go_sem, Nat.reduceBEq, Nat.reduceLT, Nat.reduceLeDiff, Nat.reduceAdd, Nat.reduceMul, ↓reduceIte, Int.reduceToNat, Int.reducePow, Int.reduceLT, Int.reduceLE, Int.reduceAdd, Int.reduceSub, Int.reduceMul, Int.reduceEq, Int.reduceNe, rowT_len, rowA_len, decide_eq_false g1, decide_eq_true g2]
    exact LendV_eq (by rw [decide_eq_false (hno (fun h => by unfold headOK at h; have : (zeroP x).ad.length = x.ad.length := rfl; omega))])
  simp -implicitDefEqProofs -proj only [go_sem, Nat.reduceBEq, Nat.reduceLT, Nat.reduceLeDiff, Nat.reduceAdd, Nat.reduceMul, ↓reduceIte, Int.reduceToNat, Int.reducePow, Int.reduceLT, Int.reduceLE, Int.reduceAdd, Int.reduceSub, Int.reduceMul, Int.reduceEq, Int.reduceNe, rowT_len, rowA_len, decide_eq_false g1, decide_eq_false g2]
  refine AllocR_intro (fun bs hs => ?_)
  replace hs : upd Heap.none b1 _ bs = none := hs
  obtain ⟨n1, n2⟩ := fresh_ne hs upd_eq
  simp -implicitDefEqProofs -proj only [go_sem, Nat.reduceBEq, Nat.reduceLT, Nat.reduceLeDiff, Nat.reduceAdd, Nat.reduceMul, ↓reduceIte, Int.reduceToNat, Int.reducePow, Int.reduceLT, Int.reduceLE, Int.reduceAdd, Int.reduceSub, Int.reduceMul, Int.reduceEq, Int.reduceNe, n1, n2]
  by_cases hh : headOK 0 0 1 (zeroP x)
  · have hp := RPart_yes (cur := ⟨⟨[]⟩⟩) (f := 0) (t := 0) (ms := [[.str ⟨⟨[]⟩⟩, .str ⟨⟨[]⟩⟩, .int .i64 0, .int .i64 0, .int .i64 0]]) (ss := []) (ps := []) (x := zeroP x) hh
    refine CallA_lend hp (lend_cons (lend_core (lend_own upd_eq rfl) (.nilsl _ _) (.nilsl _ _)) (lend_cons (.refl _) lend_nil)) rfl ?_
    simp -implicitDefEqProofs -proj only [go_sem, Nat.reduceBEq, Nat.reduceLT, Nat.reduceLeDiff, Nat.reduceAdd, Nat.reduceMul, ↓reduceIte, Int.reduceToNat, Int.reducePow, Int.reduceLT, Int.reduceLE, Int.reduceAdd, Int.reduceSub, Int.reduceMul, Int.reduceEq, Int.reduceNe]
    exact LendV_eq (congrArg bv (decide_eq_decide.2 ⟨fun h => ⟨hh, h⟩, fun h => h.2⟩))
  · have hp := RPart_no (cur := ⟨⟨[]⟩⟩) (f := 0) (t := 0) (ms := [[.str ⟨⟨[]⟩⟩, .str ⟨⟨[]⟩⟩, .int .i64 0, .int .i64 0, .int .i64 0]]) (ss := []) (ps := []) (x := zeroP x) hh
    refine CallA_lend hp (lend_cons (lend_core (lend_own upd_eq rfl) (.nilsl _ _) (.nilsl _ _)) (lend_cons (.refl _) lend_nil)) rfl ?_
    simp -implicitDefEqProofs -proj only [go_sem, Nat.reduceBEq, Nat.reduceLT, Nat.reduceLeDiff, Nat.reduceAdd, Nat.reduceMul, ↓reduceIte, Int.reduceToNat, Int.reducePow, Int.reduceLT, Int.reduceLE, Int.reduceAdd, Int.reduceSub, Int.reduceMul, Int.reduceEq, Int.reduceNe]
    exact LendV_eq (by rw [decide_eq_false (hno hh)])
theorem fit0 : Fit 0 := by decide
def alive11 (k : Int) : PartX := ⟨0, 0, 0, 0, 1, k, [⟨10, 2000000⟩, ⟨0, 1000000⟩], 0, []⟩
theorem alive11_fit {k : Int} (h : Fit k) : (alive11 k).Fit := by
  refine ⟨fit0, fit0, fit0, fit0, (show Fit 1 by decide), h, ?_, (show (2 : Nat) ≤ 9223372036854775807 by decide), fit0, by simp [alive11], (show (0 : Nat) ≤ 9223372036854775807 by decide)⟩
  intro a ha
  simp -implicitDefEqProofs only [alive11, List.mem_cons, List.not_mem_nil, or_false] at ha
  rcases ha with rfl | rfl <;> (unfold Tier.Fit; decide)
theorem alive11_srt {k : Int} : Srt (alive11 k).ts := by
  refine srt_of fun i hi => ?_
  have : i = 0 ∨ i = 1 := by simp -implicitDefEqProofs only [alive11, List.length_cons, List.length_nil] at hi; omega
  rcases this with rfl | rfl
  · show tierOK [⟨10, 2000000⟩, ⟨0, 1000000⟩] 0 ⟨10, 2000000⟩
    decide
  · show tierOK [⟨10, 2000000⟩, ⟨0, 1000000⟩] 1 ⟨0, 1000000⟩
    decide
theorem alive11_ok : DataW Try.prog f_poundagelaw11_alive [] (bv true) := by
  refine CallW_intro comp_poundagelaw11_alive (by simp) ?_
  have h1 := Charge_ok (alive11_fit (k := 1) (by decide)) (q := 15) (by decide) (by decide) (by decide) (by decide) (fun n hn => steps_fit alive11_srt hn)
  have h2 := Charge_ok (alive11_fit (k := 2) (by decide)) (q := 15) (by decide) (by decide) (by decide) (by decide) (fun n hn => steps_fit alive11_srt hn)
  rw [show chargeO (alive11 1) 15 = some 25 by decide +kernel] at h1
  rw [show chargeO (alive11 2) 15 = some 15 by decide +kernel] at h2
  simp -implicitDefEqProofs -proj only [go_sem, Nat.reduceBEq, Nat.reduceLT, Nat.reduceLeDiff, Nat.reduceAdd, Nat.reduceMul, ↓reduceIte, Int.reduceToNat, Int.reducePow, Int.reduceLT, Int.reduceLE, Int.reduceAdd, Int.reduceSub, Int.reduceMul, Int.reduceEq, Int.reduceNe]
  refine AllocR_intro (fun bs hs => ?_)
  simp -implicitDefEqProofs -proj only [go_sem, Nat.reduceBEq, Nat.reduceLT, Nat.reduceLeDiff, Nat.reduceAdd, Nat.reduceMul, ↓reduceIte, Int.reduceToNat, Int.reducePow, Int.reduceLT, Int.reduceLE, Int.reduceAdd, Int.reduceSub, Int.reduceMul, Int.reduceEq, Int.reduceNe]
  refine AllocA_intro (fun b1 hb1 => ?_)
  replace hb1 : upd Heap.none bs _ b1 = none := hb1
  obtain ⟨n1, n2⟩ := fresh_ne hb1 upd_eq
  simp -implicitDefEqProofs -proj only [go_sem, Nat.reduceBEq, Nat.reduceLT, Nat.reduceLeDiff, Nat.reduceAdd, Nat.reduceMul, ↓reduceIte, Int.reduceToNat, Int.reducePow, Int.reduceLT, Int.reduceLE, Int.reduceAdd, Int.reduceSub, Int.reduceMul, Int.reduceEq, Int.reduceNe, n1, n2]
  refine CallA_lend h1 (lend_cons (lend_part (x := alive11 1) (lend_own ((upd_ne n1).trans upd_eq) rfl) (.nilsl _ _)) (lend_cons (.refl _) lend_nil)) rfl ?_
  simp -implicitDefEqProofs -proj only [go_sem, Nat.reduceBEq, Nat.reduceLT, Nat.reduceLeDiff, Nat.reduceAdd, Nat.reduceMul, ↓reduceIte, Int.reduceToNat, Int.reducePow, Int.reduceLT, Int.reduceLE, Int.reduceAdd, Int.reduceSub, Int.reduceMul, Int.reduceEq, Int.reduceNe, optR, n1, n2]
  refine CallA_lend h2 (lend_cons (lend_part (x := alive11 2) (lend_own ((upd_ne n1).trans upd_eq) rfl) (.nilsl _ _)) (lend_cons (.refl _) lend_nil)) rfl ?_
  simp -implicitDefEqProofs -proj only [go_sem, Nat.reduceBEq, Nat.reduceLT, Nat.reduceLeDiff, Nat.reduceAdd, Nat.reduceMul, ↓reduceIte, Int.reduceToNat, Int.reducePow, Int.reduceLT, Int.reduceLE, Int.reduceAdd, Int.reduceSub, Int.reduceMul, Int.reduceEq, Int.reduceNe, optR, n1, n2]
  exact LendV_eq rfl
theorem rnd_block {c k a : Int} (hc : 0 < c) (h1 : 1 ≤ a) (h2 : a ≤ c) : rnd (k * c + a) c 1 = k + 1 := by
  unfold rnd
  by_cases h : a = c
  · subst h
    obtain ⟨d1, d2⟩ := div_unique (p := k * a + a) (q := k + 1) (r := 0) hc (by rw [Int.add_mul]; omega) (by omega) hc
    have hu : ¬ upP 1 (k + 1) 0 a := by unfold upP; omega
    rw [d1, d2, if_neg hu]; omega
  · obtain ⟨d1, d2⟩ := div_unique (p := k * c + a) (q := k) (r := a) hc (by omega) (by omega) (by omega)
    have hu : upP 1 k a c := by unfold upP; omega
    rw [d1, d2, if_pos hu]
theorem rnd_zero {c m : Int} (hc : 0 < c) : rnd 0 c m = 0 := by
  unfold rnd upP
  simp
  omega
theorem rnd_unit (p : Int) : rnd p 1 1 = p := by
  unfold rnd upP
  simp
theorem steps_zero {x : PartX} (h : Srt x.ts) : stepsL x 0 = [] := by
  cases hs : stepsL x 0 with
  | nil => rfl
  | cons s l =>
    have := steps_mem h s (by rw [hs]; exact List.mem_cons_self ..)
    omega
theorem charge_zero {x : PartX} {q : Int} (G : GoodX x) (h : Srt x.ts) (h0 : 0 ≤ q) (hq : q ≤ x.al) : chargeO x q = some 0 := by
  have hb := G.bl
  have hm : microO x q = some 0 := by
    rw [micro_eq h, if_neg (by omega)]
    have : leftI x q = 0 := by
      unfold leftI
      rw [show max (q - x.al) 0 = 0 by omega, rnd_zero (by omega), Int.zero_mul]
    rw [this, steps_zero h]
    rfl
  unfold chargeO
  rw [hm]
  simp -implicitDefEqProofs only [mdO]
  rw [if_pos ⟨by decide, G.mo⟩, rnd_zero (by decide)]
  rfl
theorem blk_bound {b c : Int} (hb : 0 ≤ b ∧ b ≤ 1048576) (hc : 1 ≤ c ∧ c ≤ 1000000) : 0 ≤ b * c ∧ b * c ≤ 1048576000000 := by
  refine ⟨Int.mul_nonneg hb.1 (by omega), ?_⟩
  calc b * c ≤ 1048576 * c := Int.mul_le_mul_of_nonneg_right hb.2 (by omega)
    _ ≤ 1048576000000 := by omega
theorem left_block {x : PartX} {b a : Int} (hb : 0 < x.bl) (h0 : 0 ≤ b * x.bl) (h1 : 1 ≤ a) (h2 : a ≤ x.bl) : leftI x (x.al + b * x.bl + a) = (b + 1) * x.bl := by
  unfold leftI
  rw [show max (x.al + b * x.bl + a - x.al) 0 = b * x.bl + a by omega, rnd_block hb h1 h2]
set_option maxRecDepth 20000 in
theorem TiersBlocks_ok {x : PartX} {bk a b : Int} (hx : x.Fit) (hbk : Fit bk) (ha : Fit a) (hb : Fit b) : DataW Try.prog f_poundagelaw11_TiersBlocks [partV x, i64 bk, i64 a, i64 b] (bv true) := by
  refine CallW_intro comp_poundagelaw11_TiersBlocks (by simp) ?_
  simp -implicitDefEqProofs -proj only [go_sem, Nat.reduceBEq, Nat.reduceLT, Nat.reduceLeDiff, Nat.reduceAdd, Nat.reduceMul, ↓reduceIte, Int.reduceToNat, Int.reducePow, Int.reduceLT, Int.reduceLE, Int.reduceAdd, Int.reduceSub, Int.reduceMul, Int.reduceEq, Int.reduceNe]
  refine AllocA_intro (fun b4 hb4 => ?_)
  simp -implicitDefEqProofs -proj only [go_sem, Nat.reduceBEq, Nat.reduceLT, Nat.reduceLeDiff, Nat.reduceAdd, Nat.reduceMul, ↓reduceIte, Int.reduceToNat, Int.reducePow, Int.reduceLT, Int.reduceLE, Int.reduceAdd, Int.reduceSub, Int.reduceMul, Int.reduceEq, Int.reduceNe]
  refine CallA_pure alive11_ok ?_
  simp -implicitDefEqProofs -proj only [go_sem, Nat.reduceBEq, Nat.reduceLT, Nat.reduceLeDiff, Nat.reduceAdd, Nat.reduceMul, ↓reduceIte, Int.reduceToNat, Int.reducePow, Int.reduceLT, Int.reduceLE, Int.reduceAdd, Int.reduceSub, Int.reduceMul, Int.reduceEq, Int.reduceNe]
  refine CallA_pure good_ok ?_
  by_cases hg : partOK 0 0 1 (zeroP x)
  rotate_left
  · simp -implicitDefEqProofs -proj only [go_sem, Nat.reduceBEq, Nat.reduceLT, Nat.reduceLeDiff, Nat.reduceAdd, Nat.reduceMul, ↓reduceIte, Int.reduceToNat, Int.reducePow, Int.reduceLT, Int.reduceLE, Int.reduceAdd, Int.reduceSub, Int.reduceMul, Int.reduceEq, Int.reduceNe, decide_eq_false hg]
    exact LendV_eq rfl
  have G := good_of hg
  have S := srt_of G.ts
  have hal := G.al
  have hbl := G.bl
  rw [decide_eq_true hg]
  by_cases c1 : bk < 0
  · simp -implicitDefEqProofs -proj only [go_sem, Nat.reduceBEq, Nat.reduceLT, Nat.reduceLeDiff, Nat.reduceAdd, Nat.reduceMul, ↓reduceIte, Int.reduceToNat, Int.reducePow, Int.reduceLT, Int.reduceLE, Int.reduceAdd, Int.reduceSub, Int.reduceMul, Int.reduceEq, Int.reduceNe, decide_eq_true c1]
    exact LendV_eq rfl
  by_cases c2 : 1048576 < bk
  · simp -implicitDefEqProofs -proj only [go_sem, Nat.reduceBEq, Nat.reduceLT, Nat.reduceLeDiff, Nat.reduceAdd, Nat.reduceMul, ↓reduceIte, Int.reduceToNat, Int.reducePow, Int.reduceLT, Int.reduceLE, Int.reduceAdd, Int.reduceSub, Int.reduceMul, Int.reduceEq, Int.reduceNe, decide_eq_false c1, decide_eq_true c2]
    exact LendV_eq rfl
  by_cases c3 : a < 1
  · simp -implicitDefEqProofs -proj only [go_sem, Nat.reduceBEq, Nat.reduceLT, Nat.reduceLeDiff, Nat.reduceAdd, Nat.reduceMul, ↓reduceIte, Int.reduceToNat, Int.reducePow, Int.reduceLT, Int.reduceLE, Int.reduceAdd, Int.reduceSub, Int.reduceMul, Int.reduceEq, Int.reduceNe, decide_eq_false c1, decide_eq_false c2, decide_eq_true c3]
    exact LendV_eq rfl
  by_cases c4 : b < 1
  · simp -implicitDefEqProofs -proj only [go_sem, Nat.reduceBEq, Nat.reduceLT, Nat.reduceLeDiff, Nat.reduceAdd, Nat.reduceMul, ↓reduceIte, Int.reduceToNat, Int.reducePow, Int.reduceLT, Int.reduceLE, Int.reduceAdd, Int.reduceSub, Int.reduceMul, Int.reduceEq, Int.reduceNe, decide_eq_false c1, decide_eq_false c2, decide_eq_false c3, decide_eq_true c4]
    exact LendV_eq rfl
  by_cases c5 : x.bl < a
  · simp -implicitDefEqProofs -proj only [go_sem, Nat.reduceBEq, Nat.reduceLT, Nat.reduceLeDiff, Nat.reduceAdd, Nat.reduceMul, ↓reduceIte, Int.reduceToNat, Int.reducePow, Int.reduceLT, Int.reduceLE, Int.reduceAdd, Int.reduceSub, Int.reduceMul, Int.reduceEq, Int.reduceNe, decide_eq_false c1, decide_eq_false c2, decide_eq_false c3, decide_eq_false c4, decide_eq_true c5]
    exact LendV_eq rfl
  by_cases c6 : x.bl < b
  · simp -implicitDefEqProofs -proj only [go_sem, Nat.reduceBEq, Nat.reduceLT, Nat.reduceLeDiff, Nat.reduceAdd, Nat.reduceMul, ↓reduceIte, Int.reduceToNat, Int.reducePow, Int.reduceLT, Int.reduceLE, Int.reduceAdd, Int.reduceSub, Int.reduceMul, Int.reduceEq, Int.reduceNe, decide_eq_false c1, decide_eq_false c2, decide_eq_false c3, decide_eq_false c4, decide_eq_false c5, decide_eq_true c6]
    exact LendV_eq rfl
  obtain ⟨k1, k2⟩ := blk_bound (b := bk) (c := x.bl) (by omega) hbl
  have w1 : IntKind.i64.wrap (bk * x.bl) = bk * x.bl := by rw [IntKind.wrap_i64]; omega
  have w2 : IntKind.i64.wrap (x.al + bk * x.bl) = x.al + bk * x.bl := by rw [IntKind.wrap_i64]; omega
  have w3 : IntKind.i64.wrap (x.al + bk * x.bl + a) = x.al + bk * x.bl + a := by rw [IntKind.wrap_i64]; omega
  have w4 : IntKind.i64.wrap (x.al + bk * x.bl + b) = x.al + bk * x.bl + b := by rw [IntKind.wrap_i64]; omega
  have m1 := Micro_ok (q := x.al + bk * x.bl + a) hx (by unfold Fit; omega) hal.1 hbl.1 (by have := G.tn; omega) (fun n hn => steps_fit S hn)
  have m2 := Micro_ok (q := x.al + bk * x.bl + b) hx (by unfold Fit; omega) hal.1 hbl.1 (by have := G.tn; omega) (fun n hn => steps_fit S hn)
  have m3 := Charge_ok (q := min a x.al) hx (by unfold Fit; omega) hal.1 hbl.1 (by have := G.tn; omega) (fun n hn => steps_fit S hn)
  rw [charge_zero G S (by omega) (by omega)] at m3
  have e : microO x (x.al + bk * x.bl + a) = microO x (x.al + bk * x.bl + b) := by
    rw [micro_eq S, micro_eq S, left_block (by omega) k1 (by omega) (by omega), left_block (by omega) k1 (by omega) (by omega), if_neg (show ¬ x.al + bk * x.bl + a < 0 by omega), if_neg (show ¬ x.al + bk * x.bl + b < 0 by omega)]
  rw [e] at m1
  generalize microO x (x.al + bk * x.bl + b) = o at *
  simp -implicitDefEqProofs -proj only [go_sem, Nat.reduceBEq, Nat.reduceLT, Nat.reduceLeDiff, Nat.reduceAdd, Nat.reduceMul, ↓reduceIte, Int.reduceToNat, Int.reducePow, Int.reduceLT, Int.reduceLE, Int.reduceAdd, Int.reduceSub, Int.reduceMul, Int.reduceEq, Int.reduceNe, decide_eq_false c1, decide_eq_false c2, decide_eq_false c3, decide_eq_false c4, decide_eq_false c5, decide_eq_false c6, w1, w2, w3]
  refine CallA_pure m1 ?_
  cases o <;> simp -implicitDefEqProofs only [optR] at m2 ⊢
  · simp -implicitDefEqProofs -proj only [go_sem, Nat.reduceBEq, Nat.reduceLT, Nat.reduceLeDiff, Nat.reduceAdd, Nat.reduceMul, ↓reduceIte, Int.reduceToNat, Int.reducePow, Int.reduceLT, Int.reduceLE, Int.reduceAdd, Int.reduceSub, Int.reduceMul, Int.reduceEq, Int.reduceNe, w4]
    refine CallA_pure m2 ?_
    simp -implicitDefEqProofs -proj only [go_sem, Nat.reduceBEq, Nat.reduceLT, Nat.reduceLeDiff, Nat.reduceAdd, Nat.reduceMul, ↓reduceIte, Int.reduceToNat, Int.reducePow, Int.reduceLT, Int.reduceLE, Int.reduceAdd, Int.reduceSub, Int.reduceMul, Int.reduceEq, Int.reduceNe]
    refine CallA_pure m3 ?_
    simp -implicitDefEqProofs -proj only [go_sem, Nat.reduceBEq, Nat.reduceLT, Nat.reduceLeDiff, Nat.reduceAdd, Nat.reduceMul, ↓reduceIte, Int.reduceToNat, Int.reducePow, Int.reduceLT, Int.reduceLE, Int.reduceAdd, Int.reduceSub, Int.reduceMul, Int.reduceEq, Int.reduceNe, optR]
    exact LendV_eq rfl
  · next o =>
    simp -implicitDefEqProofs -proj only [go_sem, Nat.reduceBEq, Nat.reduceLT, Nat.reduceLeDiff, Nat.reduceAdd, Nat.reduceMul, ↓reduceIte, Int.reduceToNat, Int.reducePow, Int.reduceLT, Int.reduceLE, Int.reduceAdd, Int.reduceSub, Int.reduceMul, Int.reduceEq, Int.reduceNe, w4]
    refine CallA_pure m2 ?_
    simp -implicitDefEqProofs -proj only [go_sem, Nat.reduceBEq, Nat.reduceLT, Nat.reduceLeDiff, Nat.reduceAdd, Nat.reduceMul, ↓reduceIte, Int.reduceToNat, Int.reducePow, Int.reduceLT, Int.reduceLE, Int.reduceAdd, Int.reduceSub, Int.reduceMul, Int.reduceEq, Int.reduceNe]
    refine CallA_pure m3 ?_
    simp -implicitDefEqProofs -proj only [go_sem, Nat.reduceBEq, Nat.reduceLT, Nat.reduceLeDiff, Nat.reduceAdd, Nat.reduceMul, ↓reduceIte, Int.reduceToNat, Int.reducePow, Int.reduceLT, Int.reduceLE, Int.reduceAdd, Int.reduceSub, Int.reduceMul, Int.reduceEq, Int.reduceNe, optR, decide_eq_true (rfl : o = o)]
    exact LendV_eq rfl
end Go.Proofs.Ytlnpeokjbnplnaa.Abs
