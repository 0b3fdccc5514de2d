/- The law ExtremeTurned. No claim stands here. -/
import Derived.Test.YthamjpioodlckaaKExt20
set_option linter.unusedSimpArgs false
set_option linter.unusedVariables false
namespace Go.Proofs.Ythamjpioodlckaa.Abs
open Go Go.RowKit Go.Proofs
attribute [local go_sem] RunC_seq AF_n AF_r AF_b St_n St_t St_H Fst_mk Snd_mk RunC_ops RunC_cond RunC_block RunC_loop RunC_exit RunC_ret RunC_skip RunO_nil RunO_code RunO_code_ret RunO_code_exit RunO_blk RunO_blk_ret RunO_blk_exit RunL_nil RunL_guard GuardA_tt GuardA_ff GuardA_tf GuardA_ft GuardA_void CondA_t CondA_f PickA_t PickA_f RunL_mov RunL_pick RunL_alloc RunL_box RunL_load LoadA_ptr LoadB_1 LoadB_n LoadA_dptr LoadA_dptr_n RunL_store StoreA_ptr StoreB_box RunL_bin Bin_add Bin_sub Bin_mul Bin_quo Bin_rem Bin_shl Bin_shr Bin_andI Bin_orI Bin_xorI Bin_eql Bin_neq Bin_lss Bin_leq Bin_gtr Bin_geq RunL_binb Bin_beql Bin_bneq RunL_un UnA_not UnA_neg RunL_conv convV MapA_some RunL_nilCheck nilV RunL_mkfn RunL_fieldAddr faV RunL_field FieldA_1 FieldA_n RunL_elemAddr EAddrA_sl EAddrA_own EptrA_eq RunL_build BuildA_some RunL_extract ExtA_eq RunL_len lenV_sl lenV_nilsl lenV_own RunL_slen RunL_idxStr IdxSA_eq slenV RunL_minmax mmV minmaxL RunL_call RunL_callv CallvA_fn putS ev evL evO evP eqK eqKs EqB_agg RunL_eqAgg EqA_t EqA_f evQ buildC fits_agg cellsAV_agg fits_d cellsAV_d fits_nilp cellsAV_nilp fits_nilsl cellsAV_nilsl fits_nilfn cellsAV_nilfn fits_ptr cellsAV_ptr fits_eptr cellsAV_eptr fits_dptr cellsAV_dptr fits_own cellsAV_own fits_fn cellsAV_fn rowV_fits rowV_cells rowV_len lenAV setSeg nth seg mapD repeatL putT_get upd_get argT keepT_cons keepT_nil keepH_cons keepH_nil cond_true cond_false VC_true finW resW resL resOne LoopQ_exit LoopQ_ret List.cons_append List.nil_append Bool.not_true Bool.not_false Bool.and_true Bool.and_self Nat.lt_add_left_iff_pos Nat.zero_add Nat.add_zero List.drop_succ_cons List.drop_zero List.take_succ_cons List.take_zero beq_self_eq_true Bool.false_eq_true RunC_dops RunL_loadS RunL_loadD LoadDA_dptr RunL_storeS StoreSA_ptr RunL_pcall RunL_pcallv PCallvA_fn newsOk and_self and_true true_and loadW_ptr LoadK_1 LoadK_n upd_upd RunL_buildSlice BSliceA_some RunL_buildSliceD frzL frz cutL LoadA_eptr LoadE_row RunL_append RunL_slice SliceA_sl StoreA_eptr List.length_cons List.length_nil Nat.min_def Int.cast_ofNat_Int Int.natCast_zero Int.natCast_one decide_true decide_false List.getElem?_cons_zero List.getElem?_cons_succ RunC_rangef CallvA_yld putL_nil putL_cons RangeQ_exit RangeQ_ret
theorem peel' {H : Heap} {j k : Nat} {v : Blk} (h : upd H j (some v) k = none) : ¬ k = j ∧ ¬ j = k := by
  rw [upd_get] at h
  split at h
  · cases h
  · next e => exact ⟨fun h => e h.symm, e⟩
theorem peel2 {H : Heap} {j k : Nat} {v : Blk} (h : upd H j (some v) k = none) : (¬ k = j ∧ ¬ j = k) ∧ H k = none := by
  rw [upd_get] at h
  split at h
  · cases h
  · next e => exact ⟨⟨fun h => e h.symm, e⟩, h⟩
theorem allFit_of {l : List Int} (h : ∀ v ∈ l, Fit v) : AllFit l := fun i hi => h _ (List.getElem_mem hi)
def gtB (a b : Int) : Bool := decide (b < a)
def ltB (a b : Int) : Bool := decide (a < b)
theorem Most1_ok (a b : Int) : DataW Try.prog f_extreme_Most_1 [i64 a, i64 b] (bv (gtB a b)) := by
  refine CallW_intro comp_extreme_Most_1 (by simp) ?_
  simp -implicitDefEqProofs -proj only [go_sem, Nat.reduceBEq, Nat.reduceLT, Nat.reduceLeDiff, Nat.reduceAdd, Nat.reduceMul, ↓reduceIte, Int.reduceToNat, Int.reducePow, Int.reduceLT, Int.reduceLE, Int.reduceAdd, Int.reduceSub, Int.reduceMul, Int.reduceEq, Int.reduceNe]
  exact LendV_eq rfl
theorem Least1_ok (a b : Int) : DataW Try.prog f_extreme_Least_1 [i64 a, i64 b] (bv (ltB a b)) := by
  refine CallW_intro comp_extreme_Least_1 (by simp) ?_
  simp -implicitDefEqProofs -proj only [go_sem, Nat.reduceBEq, Nat.reduceLT, Nat.reduceLeDiff, Nat.reduceAdd, Nat.reduceMul, ↓reduceIte, Int.reduceToNat, Int.reducePow, Int.reduceLT, Int.reduceLE, Int.reduceAdd, Int.reduceSub, Int.reduceMul, Int.reduceEq, Int.reduceNe]
  exact LendV_eq rfl
theorem Most_ok {l : List Int} (h : CurL l) : DataW Try.prog f_extreme_Most [curL l] (.tup [.agg [i64 (bestG gtB (gps l)).1, i64 (bestG gtB (gps l)).2], bv true]) := by
  have hf := find_ok h Most1_ok
  refine CallW_intro comp_extreme_Most (by simp) ?_
  simp -implicitDefEqProofs -proj only [go_sem, Nat.reduceBEq, Nat.reduceLT, Nat.reduceLeDiff, Nat.reduceAdd, Nat.reduceMul, ↓reduceIte, Int.reduceToNat, Int.reducePow, Int.reduceLT, Int.reduceLE, Int.reduceAdd, Int.reduceSub, Int.reduceMul, Int.reduceEq, Int.reduceNe]
  refine AllocA_intro (fun b1 hb1 => ?_)
  simp -implicitDefEqProofs -proj only [go_sem, Nat.reduceBEq, Nat.reduceLT, Nat.reduceLeDiff, Nat.reduceAdd, Nat.reduceMul, ↓reduceIte, Int.reduceToNat, Int.reducePow, Int.reduceLT, Int.reduceLE, Int.reduceAdd, Int.reduceSub, Int.reduceMul, Int.reduceEq, Int.reduceNe]
  refine AllocA_intro (fun b2 hb2 => ?_)
  replace hb2 : upd Heap.none b1 _ b2 = none := hb2
  obtain ⟨n1, n2⟩ := fresh_ne hb2 upd_eq
  simp -implicitDefEqProofs -proj only [go_sem, Nat.reduceBEq, Nat.reduceLT, Nat.reduceLeDiff, Nat.reduceAdd, Nat.reduceMul, ↓reduceIte, Int.reduceToNat, Int.reducePow, Int.reduceLT, Int.reduceLE, Int.reduceAdd, Int.reduceSub, Int.reduceMul, Int.reduceEq, Int.reduceNe, n1, n2]
  refine CallA_pure hf ?_
  simp -implicitDefEqProofs -proj only [go_sem, Nat.reduceBEq, Nat.reduceLT, Nat.reduceLeDiff, Nat.reduceAdd, Nat.reduceMul, ↓reduceIte, Int.reduceToNat, Int.reducePow, Int.reduceLT, Int.reduceLE, Int.reduceAdd, Int.reduceSub, Int.reduceMul, Int.reduceEq, Int.reduceNe, n1, n2]
  exact LendV_eq rfl
theorem Least_ok {l : List Int} (h : CurL l) : DataW Try.prog f_extreme_Least [curL l] (.tup [.agg [i64 (bestG ltB (gps l)).1, i64 (bestG ltB (gps l)).2], bv true]) := by
  have hf := find_ok h Least1_ok
  refine CallW_intro comp_extreme_Least (by simp) ?_
  simp -implicitDefEqProofs -proj only [go_sem, Nat.reduceBEq, Nat.reduceLT, Nat.reduceLeDiff, Nat.reduceAdd, Nat.reduceMul, ↓reduceIte, Int.reduceToNat, Int.reducePow, Int.reduceLT, Int.reduceLE, Int.reduceAdd, Int.reduceSub, Int.reduceMul, Int.reduceEq, Int.reduceNe]
  refine AllocA_intro (fun b1 hb1 => ?_)
  simp -implicitDefEqProofs -proj only [go_sem, Nat.reduceBEq, Nat.reduceLT, Nat.reduceLeDiff, Nat.reduceAdd, Nat.reduceMul, ↓reduceIte, Int.reduceToNat, Int.reducePow, Int.reduceLT, Int.reduceLE, Int.reduceAdd, Int.reduceSub, Int.reduceMul, Int.reduceEq, Int.reduceNe]
  refine AllocA_intro (fun b2 hb2 => ?_)
  replace hb2 : upd Heap.none b1 _ b2 = none := hb2
  obtain ⟨n1, n2⟩ := fresh_ne hb2 upd_eq
  simp -implicitDefEqProofs -proj only [go_sem, Nat.reduceBEq, Nat.reduceLT, Nat.reduceLeDiff, Nat.reduceAdd, Nat.reduceMul, ↓reduceIte, Int.reduceToNat, Int.reducePow, Int.reduceLT, Int.reduceLE, Int.reduceAdd, Int.reduceSub, Int.reduceMul, Int.reduceEq, Int.reduceNe, n1, n2]
  refine CallA_pure hf ?_
  simp -implicitDefEqProofs -proj only [go_sem, Nat.reduceBEq, Nat.reduceLT, Nat.reduceLeDiff, Nat.reduceAdd, Nat.reduceMul, ↓reduceIte, Int.reduceToNat, Int.reducePow, Int.reduceLT, Int.reduceLE, Int.reduceAdd, Int.reduceSub, Int.reduceMul, Int.reduceEq, Int.reduceNe, n1, n2]
  exact LendV_eq rfl
theorem fold_bound {bt : Int → Int → Bool} {P : Int → Prop} : ∀ {G : List Grp} {b : Int × Int}, P b.1 → (∀ g ∈ G, P (endA g).1 ∧ P (endB g).1) → P (foldG bt G b).1
  | [], b, h, _ => h
  | g :: G, b, h, hG => by
    obtain ⟨h1, h2⟩ := hG g (List.mem_cons_self ..)
    have hp : ∀ {b c : Int × Int}, P b.1 → P c.1 → P (pickB bt b c).1 := fun hb hc => by
      unfold pickB
      split <;> assumption
    exact fold_bound (G := G) (b := pickB bt (pickB bt b (endA g)) (endB g)) (hp (hp h h1) h2) (fun g' hg => hG g' (List.mem_cons_of_mem _ hg))
theorem best_bound {bt : Int → Int → Bool} {l : List Int} (h : CurL l) : -6917529027641081856 ≤ (bestG bt (gps l)).1 ∧ (bestG bt (gps l)).1 ≤ 6917529027641081856 := by
  have hok := gps_ok h
  obtain ⟨h0, _⟩ := gps_first h.1
  have key : ∀ g : Grp, GrpOK g → (-6917529027641081856 ≤ (endA g).1 ∧ (endA g).1 ≤ 6917529027641081856) ∧ (-6917529027641081856 ≤ (endB g).1 ∧ (endB g).1 ≤ 6917529027641081856) := fun g hg => by
    have hr := hg.r (g.c - 1) (by have := hg.c; omega) (Int.le_refl _)
    have hv := hg.v
    unfold endA endB
    simp -implicitDefEqProofs only []
    omega
  generalize gps l = G at *
  match G, h0 with
  | g :: G, _ => exact fold_bound (P := fun n => -6917529027641081856 ≤ n ∧ n ≤ 6917529027641081856) (key g (hok g (List.mem_cons_self ..))).1 (fun g' hg => key g' (hok g' hg))
theorem cur4 : CurL [0, 3, 3, 1] := ⟨by simp, by simp, by decide⟩
theorem gps4 : gps [0, 3, 3, 1] = [⟨0, 0, 1, 3, 2⟩, ⟨3, 1, 0, 0, 1⟩] := by decide +kernel
theorem First4_ok : DataW Try.prog f_extreme_First [curveV 3 [⟨0, 0, 1, 3, 2⟩, ⟨3, 1, 0, 0, 1⟩], i64 0] (.tup [i64 1, bv true]) := by
  have hgood : DataW Try.prog f_curve_Good [curveV 3 [⟨0, 0, 1, 3, 2⟩, ⟨3, 1, 0, 0, 1⟩]] (bv true) := by
    have := GoodL_ok cur4
    unfold curL at this
    rw [gps4] at this
    exact this
  refine CallW_intro comp_extreme_First (by simp) ?_
  simp -implicitDefEqProofs -proj only [go_sem, Nat.reduceBEq, Nat.reduceLT, Nat.reduceLeDiff, Nat.reduceAdd, Nat.reduceMul, ↓reduceIte, Int.reduceToNat, Int.reducePow, Int.reduceLT, Int.reduceLE, Int.reduceAdd, Int.reduceSub, Int.reduceMul, Int.reduceEq, Int.reduceNe]
  refine AllocA_intro (fun b2 hb2 => ?_)
  simp -implicitDefEqProofs -proj only [go_sem, Nat.reduceBEq, Nat.reduceLT, Nat.reduceLeDiff, Nat.reduceAdd, Nat.reduceMul, ↓reduceIte, Int.reduceToNat, Int.reducePow, Int.reduceLT, Int.reduceLE, Int.reduceAdd, Int.reduceSub, Int.reduceMul, Int.reduceEq, Int.reduceNe]
  refine CallA_pure hgood ?_
  simp -implicitDefEqProofs -proj only [go_sem, Nat.reduceBEq, Nat.reduceLT, Nat.reduceLeDiff, Nat.reduceAdd, Nat.reduceMul, ↓reduceIte, Int.reduceToNat, Int.reducePow, Int.reduceLT, Int.reduceLE, Int.reduceAdd, Int.reduceSub, Int.reduceMul, Int.reduceEq, Int.reduceNe]
  refine LoopA_k (fun i : Nat => i = 0) 48 (fun i => [(1, i64 0), (13, slG [⟨0, 0, 1, 3, 2⟩, ⟨3, 1, 0, 0, 1⟩]), (14, i64 2), (15, i64 0)]) (fun _ => []) (fun i => 0) 0 rfl rfl ?_ ?_ ?_
  · simp -implicitDefEqProofs -proj only [go_sem, Nat.reduceBEq, Nat.reduceLT, Nat.reduceLeDiff, Nat.reduceAdd, Nat.reduceMul, ↓reduceIte, Int.reduceToNat, Int.reducePow, Int.reduceLT, Int.reduceLE, Int.reduceAdd, Int.reduceSub, Int.reduceMul, Int.reduceEq, Int.reduceNe, AllAt]
    rfl
  · trivial
  · rintro i rfl
    simp -implicitDefEqProofs -proj only [go_sem, Nat.reduceBEq, Nat.reduceLT, Nat.reduceLeDiff, Nat.reduceAdd, Nat.reduceMul, ↓reduceIte, Int.reduceToNat, Int.reducePow, Int.reduceLT, Int.reduceLE, Int.reduceAdd, Int.reduceSub, Int.reduceMul, Int.reduceEq, Int.reduceNe]
    refine ElemA_at [.int .i64 0, .int .i64 0, .int .i64 1, .int .i64 3, .int .i64 2] (by decide) rfl ?_
    simp -implicitDefEqProofs -proj only [go_sem, Nat.reduceBEq, Nat.reduceLT, Nat.reduceLeDiff, Nat.reduceAdd, Nat.reduceMul, ↓reduceIte, Int.reduceToNat, Int.reducePow, Int.reduceLT, Int.reduceLE, Int.reduceAdd, Int.reduceSub, Int.reduceMul, Int.reduceEq, Int.reduceNe]
    refine AllocA_intro (fun b7 hb7 => ?_)
    have w1 : IntKind.i64.wrap (0 - 0) = 0 := by decide
    have w2 : IntKind.i64.wrap (Int.tdiv 0 3) = 0 := by decide
    have w3 : IntKind.i64.wrap (0 + 1) = 1 := by decide
    have w4 : IntKind.i64.wrap (1 * 1) = 1 := by decide
    simp -implicitDefEqProofs -proj only [go_sem, Nat.reduceBEq, Nat.reduceLT, Nat.reduceLeDiff, Nat.reduceAdd, Nat.reduceMul, ↓reduceIte, Int.reduceToNat, Int.reducePow, Int.reduceLT, Int.reduceLE, Int.reduceAdd, Int.reduceSub, Int.reduceMul, Int.reduceEq, Int.reduceNe, w1, w2, w3, w4, Int.reduceTDiv, show IntKind.i64.wrap 0 = 0 from by decide, show IntKind.i64.wrap 1 = 1 from by decide]
    (repeat' (with_reducible refine VC_intro ?_ (fun h => ?_); (focus first | decide | omega); clear h; try simp -implicitDefEqProofs -proj only [go_sem, Nat.reduceBEq, Nat.reduceLT, Nat.reduceLeDiff, Nat.reduceAdd, Nat.reduceMul, ↓reduceIte, Int.reduceToNat, Int.reducePow, Int.reduceLT, Int.reduceLE, Int.reduceAdd, Int.reduceSub, Int.reduceMul, Int.reduceEq, Int.reduceNe, eq_self]))
    try exact LendV_eq rfl
theorem alive20_ok : DataW Try.prog f_poundagelaw20_alive [] (bv true) := by
  have h1 := ROf_new (l := [0, 3, 3, 1]) (allFit_of (by decide)) (by decide)
  rw [if_pos cur4] at h1
  have h2 := Most_ok cur4
  unfold curL at h1 h2
  rw [gps4] at h1 h2
  rw [show bestG gtB [⟨0, 0, 1, 3, 2⟩, ⟨3, 1, 0, 0, 1⟩] = (3, 1) by decide +kernel] at h2
  have h3 := First4_ok
  refine CallW_intro comp_poundagelaw20_alive (by simp) ?_
  simp -implicitDefEqProofs -proj only [go_sem, Nat.reduceBEq, Nat.reduceLT, Nat.reduceLeDiff, Nat.reduceAdd, Nat.reduceMul, ↓reduceIte, Int.reduceToNat, Int.reducePow, Int.reduceLT, Int.reduceLE, Int.reduceAdd, Int.reduceSub, Int.reduceMul, Int.reduceEq, Int.reduceNe]
  refine AllocR_intro (fun bs hs => ?_)
  simp -implicitDefEqProofs -proj only [go_sem, Nat.reduceBEq, Nat.reduceLT, Nat.reduceLeDiff, Nat.reduceAdd, Nat.reduceMul, ↓reduceIte, Int.reduceToNat, Int.reducePow, Int.reduceLT, Int.reduceLE, Int.reduceAdd, Int.reduceSub, Int.reduceMul, Int.reduceEq, Int.reduceNe]
  refine CallA_new h1 (lend_cons (lend_own upd_eq rfl) lend_nil) ?_
  simp -implicitDefEqProofs -proj only [go_sem, Nat.reduceBEq, Nat.reduceLT, Nat.reduceLeDiff, Nat.reduceAdd, Nat.reduceMul, ↓reduceIte, Int.reduceToNat, Int.reducePow, Int.reduceLT, Int.reduceLE, Int.reduceAdd, Int.reduceSub, Int.reduceMul, Int.reduceEq, Int.reduceNe]
  refine AllocA_intro (fun b1 hb1 => ?_)
  simp -implicitDefEqProofs -proj only [go_sem, Nat.reduceBEq, Nat.reduceLT, Nat.reduceLeDiff, Nat.reduceAdd, Nat.reduceMul, ↓reduceIte, Int.reduceToNat, Int.reducePow, Int.reduceLT, Int.reduceLE, Int.reduceAdd, Int.reduceSub, Int.reduceMul, Int.reduceEq, Int.reduceNe]
  refine CallA_pure h2 ?_
  simp -implicitDefEqProofs -proj only [go_sem, Nat.reduceBEq, Nat.reduceLT, Nat.reduceLeDiff, Nat.reduceAdd, Nat.reduceMul, ↓reduceIte, Int.reduceToNat, Int.reducePow, Int.reduceLT, Int.reduceLE, Int.reduceAdd, Int.reduceSub, Int.reduceMul, Int.reduceEq, Int.reduceNe]
  refine AllocA_intro (fun b3 hb3 => ?_)
  have n3 := (peel' hb3)
  simp -implicitDefEqProofs -proj only [go_sem, Nat.reduceBEq, Nat.reduceLT, Nat.reduceLeDiff, Nat.reduceAdd, Nat.reduceMul, ↓reduceIte, Int.reduceToNat, Int.reducePow, Int.reduceLT, Int.reduceLE, Int.reduceAdd, Int.reduceSub, Int.reduceMul, Int.reduceEq, Int.reduceNe, n3.1, n3.2]
  refine CallA_pure h3 ?_
  simp -implicitDefEqProofs -proj only [go_sem, Nat.reduceBEq, Nat.reduceLT, Nat.reduceLeDiff, Nat.reduceAdd, Nat.reduceMul, ↓reduceIte, Int.reduceToNat, Int.reducePow, Int.reduceLT, Int.reduceLE, Int.reduceAdd, Int.reduceSub, Int.reduceMul, Int.reduceEq, Int.reduceNe]
  exact LendV_eq rfl
end Go.Proofs.Ythamjpioodlckaa.Abs
