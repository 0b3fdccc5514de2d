/- The laws TiersOne, TiersMeet, TiersRise. No claim stands here. -/
import Derived.Test.YtlnpeokjbnplnaaKLaw11
set_option linter.unusedSimpArgs false
set_option linter.unusedVariables false
namespace Go.Proofs.Ytlnpeokjbnplnaa.Abs
open Go Go.RowKit Go.Proofs
attribute [local go_sem] RunC_seq AF_n AF_r AF_b St_n St_t St_H Fst_mk Snd_mk RunC_ops RunC_cond RunC_block RunC_loop RunC_exit RunC_ret RunC_skip RunO_nil RunO_code RunO_code_ret RunO_code_exit RunO_blk RunO_blk_ret RunO_blk_exit RunL_nil RunL_guard GuardA_tt GuardA_ff GuardA_tf GuardA_ft GuardA_void CondA_t CondA_f PickA_t PickA_f RunL_mov RunL_pick RunL_alloc RunL_box RunL_load LoadA_ptr LoadB_1 LoadB_n LoadA_dptr LoadA_dptr_n RunL_store StoreA_ptr StoreB_box RunL_bin Bin_add Bin_sub Bin_mul Bin_quo Bin_rem Bin_shl Bin_shr Bin_andI Bin_orI Bin_xorI Bin_eql Bin_neq Bin_lss Bin_leq Bin_gtr Bin_geq RunL_binb Bin_beql Bin_bneq RunL_un UnA_not UnA_neg RunL_conv convV MapA_some RunL_nilCheck nilV RunL_mkfn RunL_fieldAddr faV RunL_field FieldA_1 FieldA_n RunL_elemAddr EAddrA_sl EAddrA_own EptrA_eq RunL_build BuildA_some RunL_extract ExtA_eq RunL_len lenV_sl lenV_nilsl lenV_own RunL_slen RunL_idxStr IdxSA_eq slenV RunL_minmax mmV minmaxL RunL_call RunL_callv CallvA_fn putS ev evL evO evP eqK eqKs EqB_agg RunL_eqAgg EqA_t EqA_f evQ buildC fits_agg cellsAV_agg fits_d cellsAV_d fits_nilp cellsAV_nilp fits_nilsl cellsAV_nilsl fits_nilfn cellsAV_nilfn fits_ptr cellsAV_ptr fits_eptr cellsAV_eptr fits_dptr cellsAV_dptr fits_own cellsAV_own fits_fn cellsAV_fn rowV_fits rowV_cells rowV_len lenAV setSeg nth seg mapD repeatL putT_get upd_get argT keepT_cons keepT_nil keepH_cons keepH_nil cond_true cond_false VC_true finW resW resL resOne LoopQ_exit LoopQ_ret List.cons_append List.nil_append Bool.not_true Bool.not_false Bool.and_true Bool.and_self Nat.lt_add_left_iff_pos Nat.zero_add Nat.add_zero List.drop_succ_cons List.drop_zero List.take_succ_cons List.take_zero beq_self_eq_true Bool.false_eq_true RunC_dops RunL_loadS RunL_storeS StoreSA_ptr RunL_pcall RunL_pcallv PCallvA_fn newsOk and_self and_true true_and loadW_ptr LoadK_1 LoadK_n upd_upd RunL_buildSlice BSliceA_some RunL_buildSliceD frzL frz cutL LoadA_eptr LoadE_row RunL_append RunL_slice SliceA_sl StoreA_eptr List.length_cons List.length_nil Nat.min_def Int.cast_ofNat_Int Int.natCast_zero Int.natCast_one decide_true decide_false List.getElem?_cons_zero List.getElem?_cons_succ RunC_rangef CallvA_yld putL_nil putL_cons RangeQ_exit RangeQ_ret
theorem peel {H : Heap} {j k : Nat} {v : Blk} (h : upd H j (some v) k = none) : ¬ k = j ∧ ¬ j = k ∧ H k = none := by
  rw [upd_get] at h
  split at h
  · cases h
  · next e => exact ⟨fun h => e h.symm, e, h⟩
/-- The parts that TiersOne makes. -/
def onePart (x : PartX) (k : Int) (T : List Tier) : PartX := { x with ki := k, ts := T }
theorem srt1 {t : Tier} (h : 0 ≤ t.r ∧ t.r ≤ 1000000000000) : Srt [t] := by
  refine ⟨fun i hi => by simp at hi, fun i hi => ?_, fun i hi => ?_⟩
  · have : i = 0 := by simp at hi; exact hi
    subst this
    show (0 : Int) ≤ 0 ∧ (0 : Int) ≤ 1000000
    decide
  · have : i = 0 := by simp at hi; exact hi
    subst this
    exact h
theorem srt2 {t : Tier} {u : Int} (h : 0 ≤ t.r ∧ t.r ≤ 1000000000000) (hu : 1 ≤ u ∧ u ≤ 1000000) : Srt [⟨u, t.r⟩, t] := by
  refine ⟨fun i hi => ?_, fun i hi => ?_, fun i hi => ?_⟩
  · have : i = 0 := by simp -implicitDefEqProofs only [List.length_cons, List.length_nil] at hi; omega
    subst this
    show (0 : Int) < u ∧ u ≤ 1000000
    omega
  · have : i = 0 ∨ i = 1 := by simp -implicitDefEqProofs only [List.length_cons, List.length_nil] at hi; omega
    rcases this with rfl | rfl
    · show (0 : Int) ≤ 0 ∧ (0 : Int) ≤ 1000000
      decide
    · show 0 ≤ u ∧ u ≤ 1000000
      omega
  · have : i = 0 ∨ i = 1 := by simp -implicitDefEqProofs only [List.length_cons, List.length_nil] at hi; omega
    rcases this with rfl | rfl
    · exact h
    · exact h
theorem tot_g1 {t : Tier} {q : Int} (hr : 0 ≤ t.r ∧ t.r ≤ 1000000000000) : tot (gradL [t] q) = t.r * max 0 q := by
  rw [gradL_ref (srt1 hr), refL, tot_ref]
  show gsum [t] q 1 = _
  simp -implicitDefEqProofs only [gsum]
  rw [show hiR [t] q 0 = q from if_neg (by simp), show lowR [t] 0 = 0 from rfl, show rAt [t] 0 = t.r from rfl, Int.sub_zero, Int.zero_add]
theorem tot_v1 {t : Tier} {q : Int} : tot (volL [t] q) = t.r * max 0 q := by
  have e : volL [t] q = if 0 < q then [⟨0, q, t.r⟩] else [] := by simp [volL, volI]
  rw [e]
  split
  · simp -implicitDefEqProofs only [tot]; rw [show max 0 q = q by omega]; simp
  · rw [show max 0 q = 0 by omega]; simp [tot]
theorem tot_v2 {t : Tier} {u q : Int} : tot (volL [⟨u, t.r⟩, t] q) = t.r * max 0 q := by
  have e : volL [⟨u, t.r⟩, t] q = if 0 < q then [⟨0, q, t.r⟩] else [] := by
    simp [volL, volI]
  rw [e]
  split
  · simp -implicitDefEqProofs only [tot]; rw [show max 0 q = q by omega]; simp
  · rw [show max 0 q = 0 by omega]; simp [tot]
theorem tot_g2 {t : Tier} {u q : Int} (hr : 0 ≤ t.r ∧ t.r ≤ 1000000000000) (hu : 1 ≤ u ∧ u ≤ 1000000) : tot (gradL [⟨u, t.r⟩, t] q) = t.r * max 0 q := by
  rw [gradL_ref (srt2 hr hu), refL, tot_ref]
  show gsum [⟨u, t.r⟩, t] q 2 = _
  simp -implicitDefEqProofs only [gsum]
  rw [show hiR [⟨u, t.r⟩, t] q 1 = q from if_neg (by simp), show lowR [⟨u, t.r⟩, t] 0 = 0 from rfl, show lowR [⟨u, t.r⟩, t] 1 = u from rfl, show rAt [⟨u, t.r⟩, t] 0 = t.r from rfl, show rAt [⟨u, t.r⟩, t] 1 = t.r from rfl, Int.sub_zero, Int.zero_add, ← Int.mul_add]
  congr 1
  have : hiR [⟨u, t.r⟩, t] q 0 = if u < q then u else q := by
    unfold hiR
    rw [show uAt [⟨u, t.r⟩, t] 0 = u from rfl]
    simp
  rw [this]
  split <;> omega
theorem charge_same {x y : PartX} {q : Int} (hx : Srt x.ts) (hy : Srt y.ts) (h1 : x.al = y.al) (h2 : x.bl = y.bl) (h3 : x.mo = y.mo) (h : ∀ n, tot (stepsL x n) = tot (stepsL y n)) : chargeO x q = chargeO y q := by
  have : microO x q = microO y q := by
    rw [micro_eq hx, micro_eq hy]
    have : leftI x q = leftI y q := by unfold leftI; rw [h1, h2]
    rw [this, h]
  unfold chargeO
  rw [this, h3]
theorem one_fit {x : PartX} {k : Int} {T : List Tier} (hx : x.Fit) (hk : Fit k) (hT : ∀ t ∈ T, Tier.Fit t) (hn : T.length ≤ 9223372036854775807) : (onePart x k T).Fit := ⟨hx.me, hx.f, hx.t, hx.al, hx.bl, hk, hT, hn, hx.mo, hx.ad, hx.an⟩
set_option maxRecDepth 20000 in
theorem TiersOne_ok {x : PartX} {q u : Int} (hx : x.Fit) (hq : Fit q) (hu : Fit u) : DataW Try.prog f_poundagelaw11_TiersOne [partV x, i64 q, i64 u] (bv true) := by
  refine CallW_intro comp_poundagelaw11_TiersOne (by simp) ?_
  simp -implicitDefEqProofs -proj only [go_sem, Nat.reduceBEq, Nat.reduceLT, Nat.reduceLeDiff, Nat.reduceAdd, Nat.reduceMul, ↓reduceIte, Int.reduceToNat, Int.reducePow, Int.reduceLT, Int.reduceLE, Int.reduceAdd, Int.reduceSub, Int.reduceMul, Int.reduceEq, Int.reduceNe]
  refine AllocA_intro (fun b3 hb3 => ?_)
  simp -implicitDefEqProofs -proj only [go_sem, Nat.reduceBEq, Nat.reduceLT, Nat.reduceLeDiff, Nat.reduceAdd, Nat.reduceMul, ↓reduceIte, Int.reduceToNat, Int.reducePow, Int.reduceLT, Int.reduceLE, Int.reduceAdd, Int.reduceSub, Int.reduceMul, Int.reduceEq, Int.reduceNe]
  refine CallA_pure alive11_ok ?_
  simp -implicitDefEqProofs -proj only [go_sem, Nat.reduceBEq, Nat.reduceLT, Nat.reduceLeDiff, Nat.reduceAdd, Nat.reduceMul, ↓reduceIte, Int.reduceToNat, Int.reducePow, Int.reduceLT, Int.reduceLE, Int.reduceAdd, Int.reduceSub, Int.reduceMul, Int.reduceEq, Int.reduceNe]
  refine CallA_pure good_ok ?_
  by_cases hg : partOK 0 0 1 (zeroP x)
  rotate_left
  · simp -implicitDefEqProofs -proj only [go_sem, Nat.reduceBEq, Nat.reduceLT, Nat.reduceLeDiff, Nat.reduceAdd, Nat.reduceMul, ↓reduceIte, Int.reduceToNat, Int.reducePow, Int.reduceLT, Int.reduceLE, Int.reduceAdd, Int.reduceSub, Int.reduceMul, Int.reduceEq, Int.reduceNe, decide_eq_false hg]
    exact LendV_eq rfl
  have G := good_of hg
  have S := srt_of G.ts
  rw [decide_eq_true hg]
  by_cases c1 : u < 1
  · simp -implicitDefEqProofs -proj only [go_sem, Nat.reduceBEq, Nat.reduceLT, Nat.reduceLeDiff, Nat.reduceAdd, Nat.reduceMul, ↓reduceIte, Int.reduceToNat, Int.reducePow, Int.reduceLT, Int.reduceLE, Int.reduceAdd, Int.reduceSub, Int.reduceMul, Int.reduceEq, Int.reduceNe, decide_eq_true c1]
    exact LendV_eq rfl
  by_cases c2 : 1000000 < u
  · simp -implicitDefEqProofs -proj only [go_sem, Nat.reduceBEq, Nat.reduceLT, Nat.reduceLeDiff, Nat.reduceAdd, Nat.reduceMul, ↓reduceIte, Int.reduceToNat, Int.reducePow, Int.reduceLT, Int.reduceLE, Int.reduceAdd, Int.reduceSub, Int.reduceMul, Int.reduceEq, Int.reduceNe, decide_eq_false c1, decide_eq_true c2]
    exact LendV_eq rfl
  have hn := G.tn
  have hlt : x.ts.length - 1 < x.ts.length := by omega
  have hel := rowT_at hlt
  have hr := S.rate _ hlt
  rw [rAt_eq hlt] at hr
  have htf := hx.ts _ (List.getElem_mem hlt)
  have hwl : IntKind.i64.wrap ((x.ts.length : Int) - 1) = ((x.ts.length - 1 : Nat) : Int) := by rw [IntKind.wrap_i64]; omega
  generalize x.ts[x.ts.length - 1] = t at *
  have hA : ∀ k, Fit k → (onePart x k [t]).Fit := fun k hk => one_fit hx hk (by intro a ha; simp -implicitDefEqProofs only [List.mem_singleton] at ha; subst ha; exact htf) (show (1 : Nat) ≤ 9223372036854775807 by decide)
  have hC : ∀ k, Fit k → (onePart x k [⟨u, t.r⟩, t]).Fit := fun k hk => one_fit hx hk (by
    intro a ha
    simp -implicitDefEqProofs only [List.mem_cons, List.not_mem_nil, or_false] at ha
    rcases ha with rfl | rfl
    · exact ⟨hu, htf.2⟩
    · exact htf) (show (2 : Nat) ≤ 9223372036854775807 by decide)
  have s1 := srt1 hr
  have s2 := srt2 hr (show 1 ≤ u ∧ u ≤ 1000000 by omega)
  have m1 := Charge_ok (x := onePart x 1 [t]) (hA 1 (by decide)) hq G.al.1 G.bl.1 (show (1 : Nat) ≤ 1000000 by decide) (fun n hn => steps_fit s1 hn)
  have m2 := Charge_ok (x := onePart x 2 [t]) (hA 2 (by decide)) hq G.al.1 G.bl.1 (show (1 : Nat) ≤ 1000000 by decide) (fun n hn => steps_fit s1 hn)
  have m3 := Charge_ok (x := onePart x 1 [⟨u, t.r⟩, t]) (hC 1 (by decide)) hq G.al.1 G.bl.1 (show (2 : Nat) ≤ 1000000 by decide) (fun n hn => steps_fit s2 hn)
  have m4 := Charge_ok (x := onePart x 2 [⟨u, t.r⟩, t]) (hC 2 (by decide)) hq G.al.1 G.bl.1 (show (2 : Nat) ≤ 1000000 by decide) (fun n hn => steps_fit s2 hn)
  have e1 : ∀ n, tot (stepsL (onePart x 1 [t]) n) = t.r * max 0 n := fun n => by rw [show stepsL (onePart x 1 [t]) n = gradL [t] n from rfl, tot_g1 hr]
  have e2 : ∀ n, tot (stepsL (onePart x 2 [t]) n) = t.r * max 0 n := fun n => by rw [show stepsL (onePart x 2 [t]) n = volL [t] n from rfl, tot_v1]
  have e3 : ∀ n, tot (stepsL (onePart x 1 [⟨u, t.r⟩, t]) n) = t.r * max 0 n := fun n => by rw [show stepsL (onePart x 1 [⟨u, t.r⟩, t]) n = gradL [⟨u, t.r⟩, t] n from rfl, tot_g2 hr (by omega)]
  have e4 : ∀ n, tot (stepsL (onePart x 2 [⟨u, t.r⟩, t]) n) = t.r * max 0 n := fun n => by rw [show stepsL (onePart x 2 [⟨u, t.r⟩, t]) n = volL [⟨u, t.r⟩, t] n from rfl, tot_v2]
  rw [charge_same (x := onePart x 2 [t]) (y := onePart x 1 [t]) s1 s1 rfl rfl rfl (fun n => by rw [e1, e2])] at m2
  rw [charge_same (x := onePart x 1 [⟨u, t.r⟩, t]) (y := onePart x 1 [t]) s2 s1 rfl rfl rfl (fun n => by rw [e1, e3])] at m3
  rw [charge_same (x := onePart x 2 [⟨u, t.r⟩, t]) (y := onePart x 1 [t]) s2 s1 rfl rfl rfl (fun n => by rw [e1, e4])] at m4
  generalize chargeO (onePart x 1 [t]) q = o at *
  clear hA hC e1 e2 e3 e4 s1 s2
  simp -implicitDefEqProofs -proj only [go_sem, Nat.reduceBEq, Nat.reduceLT, Nat.reduceLeDiff, Nat.reduceAdd, Nat.reduceMul, ↓reduceIte, Int.reduceToNat, Int.reducePow, Int.reduceLT, Int.reduceLE, Int.reduceAdd, Int.reduceSub, Int.reduceMul, Int.reduceEq, Int.reduceNe, decide_eq_false c1, decide_eq_false c2, rowT_len, hwl]
  (repeat' (with_reducible refine VC_intro ?_ (fun h => ?_); (focus first | decide | omega); clear h; try simp -implicitDefEqProofs -proj only [go_sem, Nat.reduceBEq, Nat.reduceLT, Nat.reduceLeDiff, Nat.reduceAdd, Nat.reduceMul, ↓reduceIte, Int.reduceToNat, Int.reducePow, Int.reduceLT, Int.reduceLE, Int.reduceAdd, Int.reduceSub, Int.reduceMul, Int.reduceEq, Int.reduceNe, rowT_len, hwl]))
  refine ElemA_at _ (by omega) hel ?_
  simp -implicitDefEqProofs -proj only [go_sem, Nat.reduceBEq, Nat.reduceLT, Nat.reduceLeDiff, Nat.reduceAdd, Nat.reduceMul, ↓reduceIte, Int.reduceToNat, Int.reducePow, Int.reduceLT, Int.reduceLE, Int.reduceAdd, Int.reduceSub, Int.reduceMul, Int.reduceEq, Int.reduceNe]
  refine AllocA_intro (fun b7 hb7 => ?_)
  obtain ⟨xb7_1, yb7_1, zb7_1⟩ := peel hb7
  simp -implicitDefEqProofs -proj only [go_sem, Nat.reduceBEq, Nat.reduceLT, Nat.reduceLeDiff, Nat.reduceAdd, Nat.reduceMul, ↓reduceIte, Int.reduceToNat, Int.reducePow, Int.reduceLT, Int.reduceLE, Int.reduceAdd, Int.reduceSub, Int.reduceMul, Int.reduceEq, Int.reduceNe, xb7_1, yb7_1]
  refine AllocA_intro (fun b8 hb8 => ?_)
  obtain ⟨xb8_1, yb8_1, zb8_1⟩ := peel hb8
  obtain ⟨xb8_2, yb8_2, zb8_2⟩ := peel zb8_1
  simp -implicitDefEqProofs -proj only [go_sem, Nat.reduceBEq, Nat.reduceLT, Nat.reduceLeDiff, Nat.reduceAdd, Nat.reduceMul, ↓reduceIte, Int.reduceToNat, Int.reducePow, Int.reduceLT, Int.reduceLE, Int.reduceAdd, Int.reduceSub, Int.reduceMul, Int.reduceEq, Int.reduceNe, xb7_1, yb7_1, xb8_1, yb8_1, xb8_2, yb8_2]
  refine AllocR_intro (fun b44 hb44 => ?_)
  obtain ⟨xb44_1, yb44_1, zb44_1⟩ := peel hb44
  obtain ⟨xb44_2, yb44_2, zb44_2⟩ := peel zb44_1
  obtain ⟨xb44_3, yb44_3, zb44_3⟩ := peel zb44_2
  simp -implicitDefEqProofs -proj only [go_sem, Nat.reduceBEq, Nat.reduceLT, Nat.reduceLeDiff, Nat.reduceAdd, Nat.reduceMul, ↓reduceIte, Int.reduceToNat, Int.reducePow, Int.reduceLT, Int.reduceLE, Int.reduceAdd, Int.reduceSub, Int.reduceMul, Int.reduceEq, Int.reduceNe, xb7_1, yb7_1, xb8_1, yb8_1, xb8_2, yb8_2, xb44_1, yb44_1, xb44_2, yb44_2, xb44_3, yb44_3]
  refine AllocA_intro (fun b9 hb9 => ?_)
  obtain ⟨xb9_1, yb9_1, zb9_1⟩ := peel hb9
  obtain ⟨xb9_2, yb9_2, zb9_2⟩ := peel zb9_1
  obtain ⟨xb9_3, yb9_3, zb9_3⟩ := peel zb9_2
  obtain ⟨xb9_4, yb9_4, zb9_4⟩ := peel zb9_3
  obtain ⟨xb9_5, yb9_5, zb9_5⟩ := peel zb9_4
  simp -implicitDefEqProofs -proj only [go_sem, Nat.reduceBEq, Nat.reduceLT, Nat.reduceLeDiff, Nat.reduceAdd, Nat.reduceMul, ↓reduceIte, Int.reduceToNat, Int.reducePow, Int.reduceLT, Int.reduceLE, Int.reduceAdd, Int.reduceSub, Int.reduceMul, Int.reduceEq, Int.reduceNe, xb7_1, yb7_1, xb8_1, yb8_1, xb8_2, yb8_2, xb44_1, yb44_1, xb44_2, yb44_2, xb44_3, yb44_3, xb9_1, yb9_1, xb9_2, yb9_2, xb9_4, yb9_4, xb9_5, yb9_5]
  refine AllocA_intro (fun b10 hb10 => ?_)
  obtain ⟨xb10_1, yb10_1, zb10_1⟩ := peel hb10
  obtain ⟨xb10_2, yb10_2, zb10_2⟩ := peel zb10_1
  obtain ⟨xb10_3, yb10_3, zb10_3⟩ := peel zb10_2
  obtain ⟨xb10_4, yb10_4, zb10_4⟩ := peel zb10_3
  obtain ⟨xb10_5, yb10_5, zb10_5⟩ := peel zb10_4
  obtain ⟨xb10_6, yb10_6, zb10_6⟩ := peel zb10_5
  simp -implicitDefEqProofs -proj only [go_sem, Nat.reduceBEq, Nat.reduceLT, Nat.reduceLeDiff, Nat.reduceAdd, Nat.reduceMul, ↓reduceIte, Int.reduceToNat, Int.reducePow, Int.reduceLT, Int.reduceLE, Int.reduceAdd, Int.reduceSub, Int.reduceMul, Int.reduceEq, Int.reduceNe, xb7_1, yb7_1, xb8_1, yb8_1, xb8_2, yb8_2, xb44_1, yb44_1, xb44_2, yb44_2, xb44_3, yb44_3, xb9_1, yb9_1, xb9_2, yb9_2, xb9_4, yb9_4, xb9_5, yb9_5, xb10_1, yb10_1, xb10_2, yb10_2, xb10_3, yb10_3, xb10_5, yb10_5, xb10_6, yb10_6]
  refine AllocR_intro (fun b54 hb54 => ?_)
  obtain ⟨xb54_1, yb54_1, zb54_1⟩ := peel hb54
  obtain ⟨xb54_2, yb54_2, zb54_2⟩ := peel zb54_1
  obtain ⟨xb54_3, yb54_3, zb54_3⟩ := peel zb54_2
  obtain ⟨xb54_4, yb54_4, zb54_4⟩ := peel zb54_3
  obtain ⟨xb54_5, yb54_5, zb54_5⟩ := peel zb54_4
  obtain ⟨xb54_6, yb54_6, zb54_6⟩ := peel zb54_5
  obtain ⟨xb54_7, yb54_7, zb54_7⟩ := peel zb54_6
  simp -implicitDefEqProofs -proj only [go_sem, Nat.reduceBEq, Nat.reduceLT, Nat.reduceLeDiff, Nat.reduceAdd, Nat.reduceMul, ↓reduceIte, Int.reduceToNat, Int.reducePow, Int.reduceLT, Int.reduceLE, Int.reduceAdd, Int.reduceSub, Int.reduceMul, Int.reduceEq, Int.reduceNe, xb7_1, yb7_1, xb8_1, yb8_1, xb8_2, yb8_2, xb44_1, yb44_1, xb44_2, yb44_2, xb44_3, yb44_3, xb9_1, yb9_1, xb9_2, yb9_2, xb9_4, yb9_4, xb9_5, yb9_5, xb10_1, yb10_1, xb10_2, yb10_2, xb10_3, yb10_3, xb10_5, yb10_5, xb10_6, yb10_6, xb54_1, yb54_1, xb54_2, yb54_2, xb54_3, yb54_3, xb54_4, yb54_4, xb54_6, yb54_6, xb54_7, yb54_7]
  refine AllocA_intro (fun b11 hb11 => ?_)
  obtain ⟨xb11_1, yb11_1, zb11_1⟩ := peel hb11
  obtain ⟨xb11_2, yb11_2, zb11_2⟩ := peel zb11_1
  obtain ⟨xb11_3, yb11_3, zb11_3⟩ := peel zb11_2
  obtain ⟨xb11_4, yb11_4, zb11_4⟩ := peel zb11_3
  obtain ⟨xb11_5, yb11_5, zb11_5⟩ := peel zb11_4
  obtain ⟨xb11_6, yb11_6, zb11_6⟩ := peel zb11_5
  obtain ⟨xb11_7, yb11_7, zb11_7⟩ := peel zb11_6
  obtain ⟨xb11_8, yb11_8, zb11_8⟩ := peel zb11_7
  obtain ⟨xb11_9, yb11_9, zb11_9⟩ := peel zb11_8
  simp -implicitDefEqProofs -proj only [go_sem, Nat.reduceBEq, Nat.reduceLT, Nat.reduceLeDiff, Nat.reduceAdd, Nat.reduceMul, ↓reduceIte, Int.reduceToNat, Int.reducePow, Int.reduceLT, Int.reduceLE, Int.reduceAdd, Int.reduceSub, Int.reduceMul, Int.reduceEq, Int.reduceNe, xb7_1, yb7_1, xb8_1, yb8_1, xb8_2, yb8_2, xb44_1, yb44_1, xb44_2, yb44_2, xb44_3, yb44_3, xb9_1, yb9_1, xb9_2, yb9_2, xb9_4, yb9_4, xb9_5, yb9_5, xb10_1, yb10_1, xb10_2, yb10_2, xb10_3, yb10_3, xb10_5, yb10_5, xb10_6, yb10_6, xb54_1, yb54_1, xb54_2, yb54_2, xb54_3, yb54_3, xb54_4, yb54_4, xb54_6, yb54_6, xb54_7, yb54_7, xb11_1, yb11_1, xb11_2, yb11_2, xb11_4, yb11_4, xb11_5, yb11_5, xb11_6, yb11_6, xb11_8, yb11_8, xb11_9, yb11_9]
  refine CallA_lend m1 (lend_cons (lend_part (x := onePart x 1 [t]) (lend_own (e := 39) (cap' := 1) (by simp -implicitDefEqProofs -proj only [go_sem, Nat.reduceBEq, Nat.reduceLT, Nat.reduceLeDiff, Nat.reduceAdd, Nat.reduceMul, ↓reduceIte, Int.reduceToNat, Int.reducePow, Int.reduceLT, Int.reduceLE, Int.reduceAdd, Int.reduceSub, Int.reduceMul, Int.reduceEq, Int.reduceNe, xb7_1, yb7_1, xb8_1, yb8_1, xb8_2, yb8_2, xb44_1, yb44_1, xb44_2, yb44_2, xb44_3, yb44_3, xb9_1, yb9_1, xb9_2, yb9_2, xb9_4, yb9_4, xb9_5, yb9_5, xb10_1, yb10_1, xb10_2, yb10_2, xb10_3, yb10_3, xb10_5, yb10_5, xb10_6, yb10_6, xb54_1, yb54_1, xb54_2, yb54_2, xb54_3, yb54_3, xb54_4, yb54_4, xb54_6, yb54_6, xb54_7, yb54_7, xb11_1, yb11_1, xb11_2, yb11_2, xb11_4, yb11_4, xb11_5, yb11_5, xb11_6, yb11_6, xb11_8, yb11_8, xb11_9, yb11_9]; rfl) rfl) (.refl _)) (lend_cons (.refl _) lend_nil)) (by cases o <;> rfl) ?_
  cases o <;> simp -implicitDefEqProofs only [optR] at m2 m3 m4 ⊢
  · simp -implicitDefEqProofs -proj only [go_sem, Nat.reduceBEq, Nat.reduceLT, Nat.reduceLeDiff, Nat.reduceAdd, Nat.reduceMul, ↓reduceIte, Int.reduceToNat, Int.reducePow, Int.reduceLT, Int.reduceLE, Int.reduceAdd, Int.reduceSub, Int.reduceMul, Int.reduceEq, Int.reduceNe, xb7_1, yb7_1, xb8_1, yb8_1, xb8_2, yb8_2, xb44_1, yb44_1, xb44_2, yb44_2, xb44_3, yb44_3, xb9_1, yb9_1, xb9_2, yb9_2, xb9_4, yb9_4, xb9_5, yb9_5, xb10_1, yb10_1, xb10_2, yb10_2, xb10_3, yb10_3, xb10_5, yb10_5, xb10_6, yb10_6, xb54_1, yb54_1, xb54_2, yb54_2, xb54_3, yb54_3, xb54_4, yb54_4, xb54_6, yb54_6, xb54_7, yb54_7, xb11_1, yb11_1, xb11_2, yb11_2, xb11_4, yb11_4, xb11_5, yb11_5, xb11_6, yb11_6, xb11_8, yb11_8, xb11_9, yb11_9]
    refine CallA_lend m2 (lend_cons (lend_part (x := onePart x 2 [t]) (lend_own (e := 39) (cap' := 1) (by simp -implicitDefEqProofs -proj only [go_sem, Nat.reduceBEq, Nat.reduceLT, Nat.reduceLeDiff, Nat.reduceAdd, Nat.reduceMul, ↓reduceIte, Int.reduceToNat, Int.reducePow, Int.reduceLT, Int.reduceLE, Int.reduceAdd, Int.reduceSub, Int.reduceMul, Int.reduceEq, Int.reduceNe, xb7_1, yb7_1, xb8_1, yb8_1, xb8_2, yb8_2, xb44_1, yb44_1, xb44_2, yb44_2, xb44_3, yb44_3, xb9_1, yb9_1, xb9_2, yb9_2, xb9_4, yb9_4, xb9_5, yb9_5, xb10_1, yb10_1, xb10_2, yb10_2, xb10_3, yb10_3, xb10_5, yb10_5, xb10_6, yb10_6, xb54_1, yb54_1, xb54_2, yb54_2, xb54_3, yb54_3, xb54_4, yb54_4, xb54_6, yb54_6, xb54_7, yb54_7, xb11_1, yb11_1, xb11_2, yb11_2, xb11_4, yb11_4, xb11_5, yb11_5, xb11_6, yb11_6, xb11_8, yb11_8, xb11_9, yb11_9]; rfl) rfl) (.refl _)) (lend_cons (.refl _) lend_nil)) rfl ?_
    simp -implicitDefEqProofs -proj only [go_sem, Nat.reduceBEq, Nat.reduceLT, Nat.reduceLeDiff, Nat.reduceAdd, Nat.reduceMul, ↓reduceIte, Int.reduceToNat, Int.reducePow, Int.reduceLT, Int.reduceLE, Int.reduceAdd, Int.reduceSub, Int.reduceMul, Int.reduceEq, Int.reduceNe, xb7_1, yb7_1, xb8_1, yb8_1, xb8_2, yb8_2, xb44_1, yb44_1, xb44_2, yb44_2, xb44_3, yb44_3, xb9_1, yb9_1, xb9_2, yb9_2, xb9_4, yb9_4, xb9_5, yb9_5, xb10_1, yb10_1, xb10_2, yb10_2, xb10_3, yb10_3, xb10_5, yb10_5, xb10_6, yb10_6, xb54_1, yb54_1, xb54_2, yb54_2, xb54_3, yb54_3, xb54_4, yb54_4, xb54_6, yb54_6, xb54_7, yb54_7, xb11_1, yb11_1, xb11_2, yb11_2, xb11_4, yb11_4, xb11_5, yb11_5, xb11_6, yb11_6, xb11_8, yb11_8, xb11_9, yb11_9]
    refine CallA_lend m3 (lend_cons (lend_part (x := onePart x 1 [⟨u, t.r⟩, t]) (lend_own (e := 39) (cap' := 2) (by simp -implicitDefEqProofs -proj only [go_sem, Nat.reduceBEq, Nat.reduceLT, Nat.reduceLeDiff, Nat.reduceAdd, Nat.reduceMul, ↓reduceIte, Int.reduceToNat, Int.reducePow, Int.reduceLT, Int.reduceLE, Int.reduceAdd, Int.reduceSub, Int.reduceMul, Int.reduceEq, Int.reduceNe, xb7_1, yb7_1, xb8_1, yb8_1, xb8_2, yb8_2, xb44_1, yb44_1, xb44_2, yb44_2, xb44_3, yb44_3, xb9_1, yb9_1, xb9_2, yb9_2, xb9_4, yb9_4, xb9_5, yb9_5, xb10_1, yb10_1, xb10_2, yb10_2, xb10_3, yb10_3, xb10_5, yb10_5, xb10_6, yb10_6, xb54_1, yb54_1, xb54_2, yb54_2, xb54_3, yb54_3, xb54_4, yb54_4, xb54_6, yb54_6, xb54_7, yb54_7, xb11_1, yb11_1, xb11_2, yb11_2, xb11_4, yb11_4, xb11_5, yb11_5, xb11_6, yb11_6, xb11_8, yb11_8, xb11_9, yb11_9]; rfl) rfl) (.refl _)) (lend_cons (.refl _) lend_nil)) rfl ?_
    simp -implicitDefEqProofs -proj only [go_sem, Nat.reduceBEq, Nat.reduceLT, Nat.reduceLeDiff, Nat.reduceAdd, Nat.reduceMul, ↓reduceIte, Int.reduceToNat, Int.reducePow, Int.reduceLT, Int.reduceLE, Int.reduceAdd, Int.reduceSub, Int.reduceMul, Int.reduceEq, Int.reduceNe, xb7_1, yb7_1, xb8_1, yb8_1, xb8_2, yb8_2, xb44_1, yb44_1, xb44_2, yb44_2, xb44_3, yb44_3, xb9_1, yb9_1, xb9_2, yb9_2, xb9_4, yb9_4, xb9_5, yb9_5, xb10_1, yb10_1, xb10_2, yb10_2, xb10_3, yb10_3, xb10_5, yb10_5, xb10_6, yb10_6, xb54_1, yb54_1, xb54_2, yb54_2, xb54_3, yb54_3, xb54_4, yb54_4, xb54_6, yb54_6, xb54_7, yb54_7, xb11_1, yb11_1, xb11_2, yb11_2, xb11_4, yb11_4, xb11_5, yb11_5, xb11_6, yb11_6, xb11_8, yb11_8, xb11_9, yb11_9]
    refine CallA_lend m4 (lend_cons (lend_part (x := onePart x 2 [⟨u, t.r⟩, t]) (lend_own (e := 39) (cap' := 2) (by simp -implicitDefEqProofs -proj only [go_sem, Nat.reduceBEq, Nat.reduceLT, Nat.reduceLeDiff, Nat.reduceAdd, Nat.reduceMul, ↓reduceIte, Int.reduceToNat, Int.reducePow, Int.reduceLT, Int.reduceLE, Int.reduceAdd, Int.reduceSub, Int.reduceMul, Int.reduceEq, Int.reduceNe, xb7_1, yb7_1, xb8_1, yb8_1, xb8_2, yb8_2, xb44_1, yb44_1, xb44_2, yb44_2, xb44_3, yb44_3, xb9_1, yb9_1, xb9_2, yb9_2, xb9_4, yb9_4, xb9_5, yb9_5, xb10_1, yb10_1, xb10_2, yb10_2, xb10_3, yb10_3, xb10_5, yb10_5, xb10_6, yb10_6, xb54_1, yb54_1, xb54_2, yb54_2, xb54_3, yb54_3, xb54_4, yb54_4, xb54_6, yb54_6, xb54_7, yb54_7, xb11_1, yb11_1, xb11_2, yb11_2, xb11_4, yb11_4, xb11_5, yb11_5, xb11_6, yb11_6, xb11_8, yb11_8, xb11_9, yb11_9]; rfl) rfl) (.refl _)) (lend_cons (.refl _) lend_nil)) rfl ?_
    simp -implicitDefEqProofs -proj only [go_sem, Nat.reduceBEq, Nat.reduceLT, Nat.reduceLeDiff, Nat.reduceAdd, Nat.reduceMul, ↓reduceIte, Int.reduceToNat, Int.reducePow, Int.reduceLT, Int.reduceLE, Int.reduceAdd, Int.reduceSub, Int.reduceMul, Int.reduceEq, Int.reduceNe, xb7_1, yb7_1, xb8_1, yb8_1, xb8_2, yb8_2, xb44_1, yb44_1, xb44_2, yb44_2, xb44_3, yb44_3, xb9_1, yb9_1, xb9_2, yb9_2, xb9_4, yb9_4, xb9_5, yb9_5, xb10_1, yb10_1, xb10_2, yb10_2, xb10_3, yb10_3, xb10_5, yb10_5, xb10_6, yb10_6, xb54_1, yb54_1, xb54_2, yb54_2, xb54_3, yb54_3, xb54_4, yb54_4, xb54_6, yb54_6, xb54_7, yb54_7, xb11_1, yb11_1, xb11_2, yb11_2, xb11_4, yb11_4, xb11_5, yb11_5, xb11_6, yb11_6, xb11_8, yb11_8, xb11_9, yb11_9]
    exact LendV_eq rfl
  · next o =>
    simp -implicitDefEqProofs -proj only [go_sem, Nat.reduceBEq, Nat.reduceLT, Nat.reduceLeDiff, Nat.reduceAdd, Nat.reduceMul, ↓reduceIte, Int.reduceToNat, Int.reducePow, Int.reduceLT, Int.reduceLE, Int.reduceAdd, Int.reduceSub, Int.reduceMul, Int.reduceEq, Int.reduceNe, xb7_1, yb7_1, xb8_1, yb8_1, xb8_2, yb8_2, xb44_1, yb44_1, xb44_2, yb44_2, xb44_3, yb44_3, xb9_1, yb9_1, xb9_2, yb9_2, xb9_4, yb9_4, xb9_5, yb9_5, xb10_1, yb10_1, xb10_2, yb10_2, xb10_3, yb10_3, xb10_5, yb10_5, xb10_6, yb10_6, xb54_1, yb54_1, xb54_2, yb54_2, xb54_3, yb54_3, xb54_4, yb54_4, xb54_6, yb54_6, xb54_7, yb54_7, xb11_1, yb11_1, xb11_2, yb11_2, xb11_4, yb11_4, xb11_5, yb11_5, xb11_6, yb11_6, xb11_8, yb11_8, xb11_9, yb11_9]
    refine CallA_lend m2 (lend_cons (lend_part (x := onePart x 2 [t]) (lend_own (e := 39) (cap' := 1) (by simp -implicitDefEqProofs -proj only [go_sem, Nat.reduceBEq, Nat.reduceLT, Nat.reduceLeDiff, Nat.reduceAdd, Nat.reduceMul, ↓reduceIte, Int.reduceToNat, Int.reducePow, Int.reduceLT, Int.reduceLE, Int.reduceAdd, Int.reduceSub, Int.reduceMul, Int.reduceEq, Int.reduceNe, xb7_1, yb7_1, xb8_1, yb8_1, xb8_2, yb8_2, xb44_1, yb44_1, xb44_2, yb44_2, xb44_3, yb44_3, xb9_1, yb9_1, xb9_2, yb9_2, xb9_4, yb9_4, xb9_5, yb9_5, xb10_1, yb10_1, xb10_2, yb10_2, xb10_3, yb10_3, xb10_5, yb10_5, xb10_6, yb10_6, xb54_1, yb54_1, xb54_2, yb54_2, xb54_3, yb54_3, xb54_4, yb54_4, xb54_6, yb54_6, xb54_7, yb54_7, xb11_1, yb11_1, xb11_2, yb11_2, xb11_4, yb11_4, xb11_5, yb11_5, xb11_6, yb11_6, xb11_8, yb11_8, xb11_9, yb11_9]; rfl) rfl) (.refl _)) (lend_cons (.refl _) lend_nil)) rfl ?_
    simp -implicitDefEqProofs -proj only [go_sem, Nat.reduceBEq, Nat.reduceLT, Nat.reduceLeDiff, Nat.reduceAdd, Nat.reduceMul, ↓reduceIte, Int.reduceToNat, Int.reducePow, Int.reduceLT, Int.reduceLE, Int.reduceAdd, Int.reduceSub, Int.reduceMul, Int.reduceEq, Int.reduceNe, xb7_1, yb7_1, xb8_1, yb8_1, xb8_2, yb8_2, xb44_1, yb44_1, xb44_2, yb44_2, xb44_3, yb44_3, xb9_1, yb9_1, xb9_2, yb9_2, xb9_4, yb9_4, xb9_5, yb9_5, xb10_1, yb10_1, xb10_2, yb10_2, xb10_3, yb10_3, xb10_5, yb10_5, xb10_6, yb10_6, xb54_1, yb54_1, xb54_2, yb54_2, xb54_3, yb54_3, xb54_4, yb54_4, xb54_6, yb54_6, xb54_7, yb54_7, xb11_1, yb11_1, xb11_2, yb11_2, xb11_4, yb11_4, xb11_5, yb11_5, xb11_6, yb11_6, xb11_8, yb11_8, xb11_9, yb11_9, decide_eq_true (rfl : o = o)]
    refine CallA_lend m3 (lend_cons (lend_part (x := onePart x 1 [⟨u, t.r⟩, t]) (lend_own (e := 39) (cap' := 2) (by simp -implicitDefEqProofs -proj only [go_sem, Nat.reduceBEq, Nat.reduceLT, Nat.reduceLeDiff, Nat.reduceAdd, Nat.reduceMul, ↓reduceIte, Int.reduceToNat, Int.reducePow, Int.reduceLT, Int.reduceLE, Int.reduceAdd, Int.reduceSub, Int.reduceMul, Int.reduceEq, Int.reduceNe, xb7_1, yb7_1, xb8_1, yb8_1, xb8_2, yb8_2, xb44_1, yb44_1, xb44_2, yb44_2, xb44_3, yb44_3, xb9_1, yb9_1, xb9_2, yb9_2, xb9_4, yb9_4, xb9_5, yb9_5, xb10_1, yb10_1, xb10_2, yb10_2, xb10_3, yb10_3, xb10_5, yb10_5, xb10_6, yb10_6, xb54_1, yb54_1, xb54_2, yb54_2, xb54_3, yb54_3, xb54_4, yb54_4, xb54_6, yb54_6, xb54_7, yb54_7, xb11_1, yb11_1, xb11_2, yb11_2, xb11_4, yb11_4, xb11_5, yb11_5, xb11_6, yb11_6, xb11_8, yb11_8, xb11_9, yb11_9]; rfl) rfl) (.refl _)) (lend_cons (.refl _) lend_nil)) rfl ?_
    simp -implicitDefEqProofs -proj only [go_sem, Nat.reduceBEq, Nat.reduceLT, Nat.reduceLeDiff, Nat.reduceAdd, Nat.reduceMul, ↓reduceIte, Int.reduceToNat, Int.reducePow, Int.reduceLT, Int.reduceLE, Int.reduceAdd, Int.reduceSub, Int.reduceMul, Int.reduceEq, Int.reduceNe, xb7_1, yb7_1, xb8_1, yb8_1, xb8_2, yb8_2, xb44_1, yb44_1, xb44_2, yb44_2, xb44_3, yb44_3, xb9_1, yb9_1, xb9_2, yb9_2, xb9_4, yb9_4, xb9_5, yb9_5, xb10_1, yb10_1, xb10_2, yb10_2, xb10_3, yb10_3, xb10_5, yb10_5, xb10_6, yb10_6, xb54_1, yb54_1, xb54_2, yb54_2, xb54_3, yb54_3, xb54_4, yb54_4, xb54_6, yb54_6, xb54_7, yb54_7, xb11_1, yb11_1, xb11_2, yb11_2, xb11_4, yb11_4, xb11_5, yb11_5, xb11_6, yb11_6, xb11_8, yb11_8, xb11_9, yb11_9, decide_eq_true (rfl : o = o)]
    refine CallA_lend m4 (lend_cons (lend_part (x := onePart x 2 [⟨u, t.r⟩, t]) (lend_own (e := 39) (cap' := 2) (by simp -implicitDefEqProofs -proj only [go_sem, Nat.reduceBEq, Nat.reduceLT, Nat.reduceLeDiff, Nat.reduceAdd, Nat.reduceMul, ↓reduceIte, Int.reduceToNat, Int.reducePow, Int.reduceLT, Int.reduceLE, Int.reduceAdd, Int.reduceSub, Int.reduceMul, Int.reduceEq, Int.reduceNe, xb7_1, yb7_1, xb8_1, yb8_1, xb8_2, yb8_2, xb44_1, yb44_1, xb44_2, yb44_2, xb44_3, yb44_3, xb9_1, yb9_1, xb9_2, yb9_2, xb9_4, yb9_4, xb9_5, yb9_5, xb10_1, yb10_1, xb10_2, yb10_2, xb10_3, yb10_3, xb10_5, yb10_5, xb10_6, yb10_6, xb54_1, yb54_1, xb54_2, yb54_2, xb54_3, yb54_3, xb54_4, yb54_4, xb54_6, yb54_6, xb54_7, yb54_7, xb11_1, yb11_1, xb11_2, yb11_2, xb11_4, yb11_4, xb11_5, yb11_5, xb11_6, yb11_6, xb11_8, yb11_8, xb11_9, yb11_9]; rfl) rfl) (.refl _)) (lend_cons (.refl _) lend_nil)) rfl ?_
    simp -implicitDefEqProofs -proj only [go_sem, Nat.reduceBEq, Nat.reduceLT, Nat.reduceLeDiff, Nat.reduceAdd, Nat.reduceMul, ↓reduceIte, Int.reduceToNat, Int.reducePow, Int.reduceLT, Int.reduceLE, Int.reduceAdd, Int.reduceSub, Int.reduceMul, Int.reduceEq, Int.reduceNe, xb7_1, yb7_1, xb8_1, yb8_1, xb8_2, yb8_2, xb44_1, yb44_1, xb44_2, yb44_2, xb44_3, yb44_3, xb9_1, yb9_1, xb9_2, yb9_2, xb9_4, yb9_4, xb9_5, yb9_5, xb10_1, yb10_1, xb10_2, yb10_2, xb10_3, yb10_3, xb10_5, yb10_5, xb10_6, yb10_6, xb54_1, yb54_1, xb54_2, yb54_2, xb54_3, yb54_3, xb54_4, yb54_4, xb54_6, yb54_6, xb54_7, yb54_7, xb11_1, yb11_1, xb11_2, yb11_2, xb11_4, yb11_4, xb11_5, yb11_5, xb11_6, yb11_6, xb11_8, yb11_8, xb11_9, yb11_9, decide_eq_true (rfl : o = o)]
    exact LendV_eq rfl
theorem low_mono {T : List Tier} (h : Srt T) : ∀ (n i : Nat), i + n < T.length → lowR T i ≤ lowR T (i + n)
  | 0, i, _ => Int.le_refl _
  | n + 1, i, hi => by
    have ih := low_mono h n i (by omega)
    have := (h.up (i + n) (by omega)).1
    rw [show lowR T (i + (n + 1)) = uAt T (i + n) by unfold lowR; rw [if_neg (by omega)]; congr 1]
    omega
theorem gsum_stop {T : List Tier} {q : Int} (h : Srt T) {k : Nat} (hq : k < T.length → q ≤ lowR T k) : ∀ n, k + n ≤ T.length → gsum T q (k + n) = gsum T q k
  | 0, _ => rfl
  | n + 1, hn => by
    rw [← Nat.add_assoc, gsum, gsum_stop h hq n (by omega)]
    have h1 := low_mono h n k (by omega)
    have h2 := hq (by omega)
    have h3 : hiR T q (k + n) ≤ q := by unfold hiR; split <;> omega
    rw [show max 0 (hiR T q (k + n) - lowR T (k + n)) = 0 by omega, Int.mul_zero, Int.add_zero]
def meetP (x : PartX) : PartX := { x with ki := 1, al := 0, bl := 1 }
theorem meet_tot {x : PartX} {q : Int} (h : Srt x.ts) : tot (stepsL (meetP x) q) = gsum x.ts q x.ts.length := by
  rw [show stepsL (meetP x) q = gradL x.ts q from rfl, gradL_ref h, refL, tot_ref]
theorem meet_micro {x : PartX} {q : Int} (h : Srt x.ts) (h0 : 0 ≤ q) (hf : Fit q) (ht : gsum x.ts q x.ts.length ≤ 9223372036854775807) : microO (meetP x) q = some (gsum x.ts q x.ts.length) := by
  have hl : leftI (meetP x) q = q := by
    unfold leftI
    rw [show (meetP x).al = 0 from rfl, show (meetP x).bl = 1 from rfl, rnd_unit]
    omega
  rw [micro_eq (x := meetP x) h, if_neg (by omega), hl, if_pos hf, meet_tot h, if_pos ht]
theorem meet_end {T : List Tier} (h : Srt T) (hn : 2 ≤ T.length) : gsum T (uAt T 0) T.length = rAt T 0 * uAt T 0 := by
  have := gsum_stop (q := uAt T 0) h (k := 1) (fun _ => Int.le_refl _) (T.length - 1) (by omega)
  rw [show 1 + (T.length - 1) = T.length by omega] at this
  rw [this]
  have h0 := h.up 0 (by omega)
  rw [show lowR T 0 = 0 from rfl] at h0
  simp -implicitDefEqProofs only [gsum]
  rw [show lowR T 0 = 0 from rfl, show hiR T (uAt T 0) 0 = uAt T 0 from by unfold hiR; split <;> rfl, Int.zero_add, show max 0 (uAt T 0 - 0) = uAt T 0 by omega]
theorem meet_more {T : List Tier} {m : Int} (h : Srt T) (hn : 2 ≤ T.length) (hm : 0 ≤ m) (hu : 2 < T.length → uAt T 0 + m ≤ uAt T 1) : gsum T (uAt T 0 + m) T.length = rAt T 0 * uAt T 0 + rAt T 1 * m := by
  have := gsum_stop (q := uAt T 0 + m) h (k := 2) (fun h2 => hu h2) (T.length - 2) (by omega)
  rw [show 2 + (T.length - 2) = T.length by omega] at this
  rw [this]
  have h0 := h.up 0 (by omega)
  rw [show lowR T 0 = 0 from rfl] at h0
  simp -implicitDefEqProofs only [gsum]
  rw [show lowR T 0 = 0 from rfl, show lowR T 1 = uAt T 0 from rfl]
  rw [show hiR T (uAt T 0 + m) 0 = uAt T 0 from by unfold hiR; split <;> omega]
  rw [show hiR T (uAt T 0 + m) 1 = uAt T 0 + m from by unfold hiR; split <;> omega]
  rw [Int.zero_add, show max 0 (uAt T 0 - 0) = uAt T 0 by omega, show max 0 (uAt T 0 + m - uAt T 0) = m by omega]
theorem mul_bound {a b A B : Int} (ha : 0 ≤ a ∧ a ≤ A) (hb : 0 ≤ b ∧ b ≤ B) : 0 ≤ a * b ∧ a * b ≤ A * B :=
  ⟨Int.mul_nonneg ha.1 hb.1, Int.le_trans (Int.mul_le_mul_of_nonneg_right ha.2 hb.1) (Int.mul_le_mul_of_nonneg_left hb.2 (Int.le_trans ha.1 ha.2))⟩
set_option maxRecDepth 20000 in
theorem TiersMeet_ok {x : PartX} {m : Int} (hx : x.Fit) (hm : Fit m) : DataW Try.prog f_poundagelaw11_TiersMeet [partV x, i64 m] (bv true) := by
  refine CallW_intro comp_poundagelaw11_TiersMeet (by simp) ?_
  simp -implicitDefEqProofs -proj only [go_sem, Nat.reduceBEq, Nat.reduceLT, Nat.reduceLeDiff, Nat.reduceAdd, Nat.reduceMul, ↓reduceIte, Int.reduceToNat, Int.reducePow, Int.reduceLT, Int.reduceLE, Int.reduceAdd, Int.reduceSub, Int.reduceMul, Int.reduceEq, Int.reduceNe]
  refine AllocA_intro (fun b2 hb2 => ?_)
  simp -implicitDefEqProofs -proj only [go_sem, Nat.reduceBEq, Nat.reduceLT, Nat.reduceLeDiff, Nat.reduceAdd, Nat.reduceMul, ↓reduceIte, Int.reduceToNat, Int.reducePow, Int.reduceLT, Int.reduceLE, Int.reduceAdd, Int.reduceSub, Int.reduceMul, Int.reduceEq, Int.reduceNe]
  refine CallA_pure alive11_ok ?_
  simp -implicitDefEqProofs -proj only [go_sem, Nat.reduceBEq, Nat.reduceLT, Nat.reduceLeDiff, Nat.reduceAdd, Nat.reduceMul, ↓reduceIte, Int.reduceToNat, Int.reducePow, Int.reduceLT, Int.reduceLE, Int.reduceAdd, Int.reduceSub, Int.reduceMul, Int.reduceEq, Int.reduceNe]
  refine CallA_pure good_ok ?_
  by_cases hg : partOK 0 0 1 (zeroP x)
  rotate_left
  · simp -implicitDefEqProofs -proj only [go_sem, Nat.reduceBEq, Nat.reduceLT, Nat.reduceLeDiff, Nat.reduceAdd, Nat.reduceMul, ↓reduceIte, Int.reduceToNat, Int.reducePow, Int.reduceLT, Int.reduceLE, Int.reduceAdd, Int.reduceSub, Int.reduceMul, Int.reduceEq, Int.reduceNe, decide_eq_false hg]
    exact LendV_eq rfl
  have G := good_of hg
  have S := srt_of G.ts
  rw [decide_eq_true hg]
  by_cases c1 : m < 0
  · simp -implicitDefEqProofs -proj only [go_sem, Nat.reduceBEq, Nat.reduceLT, Nat.reduceLeDiff, Nat.reduceAdd, Nat.reduceMul, ↓reduceIte, Int.reduceToNat, Int.reducePow, Int.reduceLT, Int.reduceLE, Int.reduceAdd, Int.reduceSub, Int.reduceMul, Int.reduceEq, Int.reduceNe, decide_eq_true c1]
    exact LendV_eq rfl
  by_cases c2 : 100000 < m
  · simp -implicitDefEqProofs -proj only [go_sem, Nat.reduceBEq, Nat.reduceLT, Nat.reduceLeDiff, Nat.reduceAdd, Nat.reduceMul, ↓reduceIte, Int.reduceToNat, Int.reducePow, Int.reduceLT, Int.reduceLE, Int.reduceAdd, Int.reduceSub, Int.reduceMul, Int.reduceEq, Int.reduceNe, decide_eq_false c1, decide_eq_true c2]
    exact LendV_eq rfl
  by_cases c3 : (x.ts.length : Int) < 2
  · simp -implicitDefEqProofs -proj only [go_sem, Nat.reduceBEq, Nat.reduceLT, Nat.reduceLeDiff, Nat.reduceAdd, Nat.reduceMul, ↓reduceIte, Int.reduceToNat, Int.reducePow, Int.reduceLT, Int.reduceLE, Int.reduceAdd, Int.reduceSub, Int.reduceMul, Int.reduceEq, Int.reduceNe, decide_eq_false c1, decide_eq_false c2, rowT_len, decide_eq_true c3]
    exact LendV_eq rfl
  have hn := G.tn
  have hfit : (meetP x).Fit := ⟨hx.me, hx.f, hx.t, fit0, (show Fit 1 by decide), (show Fit 1 by decide), hx.ts, hx.tn, hx.mo, hx.ad, hx.an⟩
  have h0 := rowT_at (l := x.ts) (i := 0) (by omega)
  have h1 := rowT_at (l := x.ts) (i := 1) (by omega)
  have e0 := uAt_eq (T := x.ts) (i := 0) (by omega)
  have e1 := uAt_eq (T := x.ts) (i := 1) (by omega)
  have e2 := rAt_eq (T := x.ts) (i := 0) (by omega)
  have e3 := rAt_eq (T := x.ts) (i := 1) (by omega)
  rw [← e0, ← e2] at h0
  rw [← e1, ← e3] at h1
  have u0 := S.up 0 (by omega)
  rw [show lowR x.ts 0 = 0 from rfl] at u0
  have r0 := S.rate 0 (by omega)
  have r1 := S.rate 1 (by omega)
  have g1 := meet_end S (by omega)
  have g2 := fun hu => meet_more (m := m) S (by omega) (by omega) hu
  have p0 := mul_bound r0 (show 0 ≤ uAt x.ts 0 ∧ uAt x.ts 0 ≤ 1000000 by omega)
  have p1 := mul_bound r1 (show 0 ≤ m ∧ m ≤ 100000 by omega)
  have w1 : IntKind.i64.wrap (uAt x.ts 0 + m) = uAt x.ts 0 + m := by rw [IntKind.wrap_i64]; omega
  have m1 := Micro_ok (x := meetP x) (q := uAt x.ts 0) hfit (by unfold Fit; omega) (show (0 : Int) ≤ 0 by decide) (show (1 : Int) ≤ 1 by decide) (show x.ts.length ≤ 1000000 by omega) (fun n hn => steps_fit (x := meetP x) S hn)
  have m2 := Micro_ok (x := meetP x) (q := uAt x.ts 0 + m) hfit (by unfold Fit; omega) (show (0 : Int) ≤ 0 by decide) (show (1 : Int) ≤ 1 by decide) (show x.ts.length ≤ 1000000 by omega) (fun n hn => steps_fit (x := meetP x) S hn)
  rw [meet_micro S (by omega) (by unfold Fit; omega) (by rw [g1]; omega), g1] at m1
  have hgo : (2 < x.ts.length → uAt x.ts 0 + m ≤ uAt x.ts 1) → microO (meetP x) (uAt x.ts 0 + m) = some (rAt x.ts 0 * uAt x.ts 0 + rAt x.ts 1 * m) := fun hu => by
    rw [meet_micro S (by omega) (by unfold Fit; omega) (by rw [g2 hu]; omega), g2 hu]
  have w2 : IntKind.i64.wrap (uAt x.ts 0 * rAt x.ts 0) = rAt x.ts 0 * uAt x.ts 0 := by rw [Int.mul_comm, IntKind.wrap_i64]; omega
  have w3 : IntKind.i64.wrap (m * rAt x.ts 1) = rAt x.ts 1 * m := by rw [Int.mul_comm, IntKind.wrap_i64]; omega
  have w4 : IntKind.i64.wrap (rAt x.ts 0 * uAt x.ts 0 + rAt x.ts 1 * m) = rAt x.ts 0 * uAt x.ts 0 + rAt x.ts 1 * m := by rw [IntKind.wrap_i64]; omega
  clear e0 e1 e2 e3 g1 g2
  generalize rAt x.ts 0 * uAt x.ts 0 = A at *
  generalize rAt x.ts 1 * m = B at *
  simp -implicitDefEqProofs -proj only [go_sem, Nat.reduceBEq, Nat.reduceLT, Nat.reduceLeDiff, Nat.reduceAdd, Nat.reduceMul, ↓reduceIte, Int.reduceToNat, Int.reducePow, Int.reduceLT, Int.reduceLE, Int.reduceAdd, Int.reduceSub, Int.reduceMul, Int.reduceEq, Int.reduceNe, decide_eq_false c1, decide_eq_false c2, rowT_len, decide_eq_false c3]
  (repeat' (with_reducible refine VC_intro ?_ (fun h => ?_); (focus first | decide | omega); clear h; try simp -implicitDefEqProofs -proj only [go_sem, Nat.reduceBEq, Nat.reduceLT, Nat.reduceLeDiff, Nat.reduceAdd, Nat.reduceMul, ↓reduceIte, Int.reduceToNat, Int.reducePow, Int.reduceLT, Int.reduceLE, Int.reduceAdd, Int.reduceSub, Int.reduceMul, Int.reduceEq, Int.reduceNe, rowT_len]))
  refine ElemA_at _ (by omega) h0 ?_
  simp -implicitDefEqProofs -proj only [go_sem, Nat.reduceBEq, Nat.reduceLT, Nat.reduceLeDiff, Nat.reduceAdd, Nat.reduceMul, ↓reduceIte, Int.reduceToNat, Int.reducePow, Int.reduceLT, Int.reduceLE, Int.reduceAdd, Int.reduceSub, Int.reduceMul, Int.reduceEq, Int.reduceNe]
  (repeat' (with_reducible refine VC_intro ?_ (fun h => ?_); (focus first | decide | omega); clear h; try simp -implicitDefEqProofs -proj only [go_sem, Nat.reduceBEq, Nat.reduceLT, Nat.reduceLeDiff, Nat.reduceAdd, Nat.reduceMul, ↓reduceIte, Int.reduceToNat, Int.reducePow, Int.reduceLT, Int.reduceLE, Int.reduceAdd, Int.reduceSub, Int.reduceMul, Int.reduceEq, Int.reduceNe, rowT_len]))
  refine ElemA_at _ (by omega) h1 ?_
  simp -implicitDefEqProofs -proj only [go_sem, Nat.reduceBEq, Nat.reduceLT, Nat.reduceLeDiff, Nat.reduceAdd, Nat.reduceMul, ↓reduceIte, Int.reduceToNat, Int.reducePow, Int.reduceLT, Int.reduceLE, Int.reduceAdd, Int.reduceSub, Int.reduceMul, Int.reduceEq, Int.reduceNe]
  refine AllocA_intro (fun b6 hb6 => ?_)
  replace hb6 : upd Heap.none b2 _ b6 = none := hb6
  obtain ⟨n1, n2⟩ := fresh_ne hb6 upd_eq
  simp -implicitDefEqProofs -proj only [go_sem, Nat.reduceBEq, Nat.reduceLT, Nat.reduceLeDiff, Nat.reduceAdd, Nat.reduceMul, ↓reduceIte, Int.reduceToNat, Int.reducePow, Int.reduceLT, Int.reduceLE, Int.reduceAdd, Int.reduceSub, Int.reduceMul, Int.reduceEq, Int.reduceNe, n1, n2, rowT_len]
  by_cases c4 : 2 < (x.ts.length : Int)
  · by_cases c5 : uAt x.ts 1 < uAt x.ts 0 + m
    · simp -implicitDefEqProofs -proj only [go_sem, Nat.reduceBEq, Nat.reduceLT, Nat.reduceLeDiff, Nat.reduceAdd, Nat.reduceMul, ↓reduceIte, Int.reduceToNat, Int.reducePow, Int.reduceLT, Int.reduceLE, Int.reduceAdd, Int.reduceSub, Int.reduceMul, Int.reduceEq, Int.reduceNe, n1, n2, rowT_len, w1, decide_eq_true c4, decide_eq_true c5]
      exact LendV_eq rfl
    · rw [hgo (fun _ => by omega)] at m2
      simp -implicitDefEqProofs -proj only [go_sem, Nat.reduceBEq, Nat.reduceLT, Nat.reduceLeDiff, Nat.reduceAdd, Nat.reduceMul, ↓reduceIte, Int.reduceToNat, Int.reducePow, Int.reduceLT, Int.reduceLE, Int.reduceAdd, Int.reduceSub, Int.reduceMul, Int.reduceEq, Int.reduceNe, n1, n2, rowT_len, w1, decide_eq_true c4, decide_eq_false c5]
      refine CallA_pure m1 ?_
      simp -implicitDefEqProofs -proj only [go_sem, Nat.reduceBEq, Nat.reduceLT, Nat.reduceLeDiff, Nat.reduceAdd, Nat.reduceMul, ↓reduceIte, Int.reduceToNat, Int.reducePow, Int.reduceLT, Int.reduceLE, Int.reduceAdd, Int.reduceSub, Int.reduceMul, Int.reduceEq, Int.reduceNe, optR, n1, n2, w1]
      refine CallA_pure m2 ?_
      simp -implicitDefEqProofs -proj only [go_sem, Nat.reduceBEq, Nat.reduceLT, Nat.reduceLeDiff, Nat.reduceAdd, Nat.reduceMul, ↓reduceIte, Int.reduceToNat, Int.reducePow, Int.reduceLT, Int.reduceLE, Int.reduceAdd, Int.reduceSub, Int.reduceMul, Int.reduceEq, Int.reduceNe, optR, n1, n2, rowT_len]
      (repeat' (with_reducible refine VC_intro ?_ (fun h => ?_); (focus first | decide | omega); clear h; try simp -implicitDefEqProofs -proj only [go_sem, Nat.reduceBEq, Nat.reduceLT, Nat.reduceLeDiff, Nat.reduceAdd, Nat.reduceMul, ↓reduceIte, Int.reduceToNat, Int.reducePow, Int.reduceLT, Int.reduceLE, Int.reduceAdd, Int.reduceSub, Int.reduceMul, Int.reduceEq, Int.reduceNe, rowT_len]))
      refine ElemA_at _ (by omega) h0 ?_
      simp -implicitDefEqProofs -proj only [go_sem, Nat.reduceBEq, Nat.reduceLT, Nat.reduceLeDiff, Nat.reduceAdd, Nat.reduceMul, ↓reduceIte, Int.reduceToNat, Int.reducePow, Int.reduceLT, Int.reduceLE, Int.reduceAdd, Int.reduceSub, Int.reduceMul, Int.reduceEq, Int.reduceNe, n1, n2, w2, w3, w4, decide_eq_true (rfl : A = A), decide_eq_true (rfl : A + B = A + B)]
      exact LendV_eq rfl
  · rw [hgo (fun _ => by omega)] at m2
    simp -implicitDefEqProofs -proj only [go_sem, Nat.reduceBEq, Nat.reduceLT, Nat.reduceLeDiff, Nat.reduceAdd, Nat.reduceMul, ↓reduceIte, Int.reduceToNat, Int.reducePow, Int.reduceLT, Int.reduceLE, Int.reduceAdd, Int.reduceSub, Int.reduceMul, Int.reduceEq, Int.reduceNe, n1, n2, rowT_len, w1, decide_eq_false c4]
    refine CallA_pure m1 ?_
    simp -implicitDefEqProofs -proj only [go_sem, Nat.reduceBEq, Nat.reduceLT, Nat.reduceLeDiff, Nat.reduceAdd, Nat.reduceMul, ↓reduceIte, Int.reduceToNat, Int.reducePow, Int.reduceLT, Int.reduceLE, Int.reduceAdd, Int.reduceSub, Int.reduceMul, Int.reduceEq, Int.reduceNe, optR, n1, n2, w1]
    refine CallA_pure m2 ?_
    simp -implicitDefEqProofs -proj only [go_sem, Nat.reduceBEq, Nat.reduceLT, Nat.reduceLeDiff, Nat.reduceAdd, Nat.reduceMul, ↓reduceIte, Int.reduceToNat, Int.reducePow, Int.reduceLT, Int.reduceLE, Int.reduceAdd, Int.reduceSub, Int.reduceMul, Int.reduceEq, Int.reduceNe, optR, n1, n2, rowT_len]
    (repeat' (with_reducible refine VC_intro ?_ (fun h => ?_); (focus first | decide | omega); clear h; try simp -implicitDefEqProofs -proj only [go_sem, Nat.reduceBEq, Nat.reduceLT, Nat.reduceLeDiff, Nat.reduceAdd, Nat.reduceMul, ↓reduceIte, Int.reduceToNat, Int.reducePow, Int.reduceLT, Int.reduceLE, Int.reduceAdd, Int.reduceSub, Int.reduceMul, Int.reduceEq, Int.reduceNe, rowT_len]))
    refine ElemA_at _ (by omega) h0 ?_
    simp -implicitDefEqProofs -proj only [go_sem, Nat.reduceBEq, Nat.reduceLT, Nat.reduceLeDiff, Nat.reduceAdd, Nat.reduceMul, ↓reduceIte, Int.reduceToNat, Int.reducePow, Int.reduceLT, Int.reduceLE, Int.reduceAdd, Int.reduceSub, Int.reduceMul, Int.reduceEq, Int.reduceNe, n1, n2, w2, w3, w4, decide_eq_true (rfl : A = A), decide_eq_true (rfl : A + B = A + B)]
    exact LendV_eq rfl
end Go.Proofs.Ytlnpeokjbnplnaa.Abs
