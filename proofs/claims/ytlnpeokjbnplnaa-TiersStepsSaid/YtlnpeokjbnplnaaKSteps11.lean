/- The law TiersSteps. No claim stands here. -/
import Derived.Test.YtlnpeokjbnplnaaKLaw11c
set_option linter.unusedSimpArgs false
set_option linter.unusedVariables false
namespace Go.Proofs.Ytlnpeokjbnplnaa.Abs
open Go Go.RowKit Go.Proofs
attribute [local go_sem] RunC_seq AF_n AF_r AF_b St_n St_t St_H Fst_mk Snd_mk RunC_ops RunC_cond RunC_block RunC_loop RunC_exit RunC_ret RunC_skip RunO_nil RunO_code RunO_code_ret RunO_code_exit RunO_blk RunO_blk_ret RunO_blk_exit RunL_nil RunL_guard GuardA_tt GuardA_ff GuardA_tf GuardA_ft GuardA_void CondA_t CondA_f PickA_t PickA_f RunL_mov RunL_pick RunL_alloc RunL_box RunL_load LoadA_ptr LoadB_1 LoadB_n LoadA_dptr LoadA_dptr_n RunL_store StoreA_ptr StoreB_box RunL_bin Bin_add Bin_sub Bin_mul Bin_quo Bin_rem Bin_shl Bin_shr Bin_andI Bin_orI Bin_xorI Bin_eql Bin_neq Bin_lss Bin_leq Bin_gtr Bin_geq RunL_binb Bin_beql Bin_bneq RunL_un UnA_not UnA_neg RunL_conv convV MapA_some RunL_nilCheck nilV RunL_mkfn RunL_fieldAddr faV RunL_field FieldA_1 FieldA_n RunL_elemAddr EAddrA_sl EAddrA_own EptrA_eq RunL_build BuildA_some RunL_extract ExtA_eq RunL_len lenV_sl lenV_nilsl lenV_own RunL_slen RunL_idxStr IdxSA_eq slenV RunL_minmax mmV minmaxL RunL_call RunL_callv CallvA_fn putS ev evL evO evP eqK eqKs EqB_agg RunL_eqAgg EqA_t EqA_f evQ buildC fits_agg cellsAV_agg fits_d cellsAV_d fits_nilp cellsAV_nilp fits_nilsl cellsAV_nilsl fits_nilfn cellsAV_nilfn fits_ptr cellsAV_ptr fits_eptr cellsAV_eptr fits_dptr cellsAV_dptr fits_own cellsAV_own fits_fn cellsAV_fn rowV_fits rowV_cells rowV_len lenAV setSeg nth seg mapD repeatL putT_get upd_get argT keepT_cons keepT_nil keepH_cons keepH_nil cond_true cond_false VC_true finW resW resL resOne LoopQ_exit LoopQ_ret List.cons_append List.nil_append Bool.not_true Bool.not_false Bool.and_true Bool.and_self Nat.lt_add_left_iff_pos Nat.zero_add Nat.add_zero List.drop_succ_cons List.drop_zero List.take_succ_cons List.take_zero beq_self_eq_true Bool.false_eq_true RunC_dops RunL_loadS RunL_storeS StoreSA_ptr RunL_pcall RunL_pcallv PCallvA_fn newsOk and_self and_true true_and loadW_ptr LoadK_1 LoadK_n upd_upd RunL_buildSlice BSliceA_some RunL_buildSliceD frzL frz cutL LoadA_eptr LoadE_row RunL_append RunL_slice SliceA_sl StoreA_eptr List.length_cons List.length_nil Nat.min_def Int.cast_ofNat_Int Int.natCast_zero Int.natCast_one decide_true decide_false List.getElem?_cons_zero List.getElem?_cons_succ RunC_rangef CallvA_yld putL_nil putL_cons RangeQ_exit RangeQ_ret
theorem rowS3_scal {l : List TStep} : ∀ el ∈ rowS3 l, ∀ d ∈ el, scalD d = true := by
  intro el he d hd
  obtain ⟨r, _, rfl⟩ := List.mem_map.1 he
  simp -implicitDefEqProofs only [TStep.el, List.mem_cons, List.not_mem_nil, or_false] at hd
  rcases hd with rfl | rfl | rfl <;> rfl
theorem rowS3_snoc {l : List TStep} {s : TStep} : rowS3 l ++ [s.el] = rowS3 (l ++ [s]) := by simp [rowS3]
theorem rowS3_at {l : List TStep} {i : Nat} (h : i < l.length) : (rowS3 l)[((i : Int)).toNat]? = some [.int .i64 l[i].f, .int .i64 l[i].t, .int .i64 l[i].r] := by
  rw [Int.toNat_natCast]; simp [rowS3, h, TStep.el]
structure GonX where
  c : Nat
  cap : Nat
  R : List TStep
theorem nx_c {c cap : Nat} {R : List TStep} : (GonX.mk c cap R).c = c := (rfl)
theorem nx_cap {c cap : Nat} {R : List TStep} : (GonX.mk c cap R).cap = cap := (rfl)
theorem nx_R {c cap : Nat} {R : List TStep} : (GonX.mk c cap R).R = R := (rfl)
def gonB (b7 b5 c2 c3 : Nat) (m : Int) (T : List Tier) (q : Int) (y : GonX) : List (Nat × Blk) := rowH 33 3 y.c y.cap (rowS3 y.R) ++ [(b7, .box 28 [rowV 3 3 y.c y.cap (rowS3 y.R)]), (b5, .box 3 [i64 m]), (c2, .box 22 [slT T]), (c3, .box 3 [i64 q])]
theorem gone11_ok {x : PartX} {q m : Int} (hl : x.ts.length ≤ 1000000) (hs : (stepsL x q).length ≤ 1000000) : NewW Try.prog f_poundagelaw11_gone [partV x, i64 q, i64 m] (slS3 ((stepsL x q).take m.toNat)) := by
  refine CallW_intro comp_poundagelaw11_gone (by simp) ?_
  simp -implicitDefEqProofs -proj only [go_sem, Nat.reduceBEq, Nat.reduceLT, Nat.reduceLeDiff, Nat.reduceAdd, Nat.reduceMul, ↓reduceIte, Int.reduceToNat, Int.reducePow, Int.reduceLT, Int.reduceLE, Int.reduceAdd, Int.reduceSub, Int.reduceMul, Int.reduceEq, Int.reduceNe]
  refine AllocA_intro (fun b3 hb3 => ?_)
  simp -implicitDefEqProofs -proj only [go_sem, Nat.reduceBEq, Nat.reduceLT, Nat.reduceLeDiff, Nat.reduceAdd, Nat.reduceMul, ↓reduceIte, Int.reduceToNat, Int.reducePow, Int.reduceLT, Int.reduceLE, Int.reduceAdd, Int.reduceSub, Int.reduceMul, Int.reduceEq, Int.reduceNe]
  refine AllocA_intro (fun b5 hb5 => ?_)
  replace hb5 : upd Heap.none b3 _ b5 = none := hb5
  simp -implicitDefEqProofs -proj only [go_sem, Nat.reduceBEq, Nat.reduceLT, Nat.reduceLeDiff, Nat.reduceAdd, Nat.reduceMul, ↓reduceIte, Int.reduceToNat, Int.reducePow, Int.reduceLT, Int.reduceLE, Int.reduceAdd, Int.reduceSub, Int.reduceMul, Int.reduceEq, Int.reduceNe]
  refine AllocA_intro (fun b7 hb7 => ?_)
  have a3 := alloc_all (x := .box 25 [i64 x.me, i64 x.f, i64 x.t, i64 x.al, i64 x.bl, i64 x.ki, slT x.ts, i64 x.mo, slA x.ad]) hb3 (l := []) trivial
  have n3 := alloc_keys (x := .box 25 [i64 x.me, i64 x.f, i64 x.t, i64 x.al, i64 x.bl, i64 x.ki, slT x.ts, i64 x.mo, slA x.ad]) hb3 (l := []) trivial List.nodup_nil
  have a5 := alloc_all (x := .box 3 [i64 m]) hb5 a3
  have n5 := alloc_keys (x := .box 3 [i64 m]) hb5 a3 n3
  have a7 := alloc_all (x := .box 28 [.nilsl 3]) hb7 a5
  have n7 := alloc_keys (x := .box 28 [.nilsl 3]) hb7 a5 n5
  obtain ⟨H5, hH5⟩ : ∃ H5, upd (upd (upd Heap.none b3 (some (.box 25 [i64 x.me, i64 x.f, i64 x.t, i64 x.al, i64 x.bl, i64 x.ki, slT x.ts, i64 x.mo, slA x.ad]))) b5 (some (.box 3 [i64 m]))) b7 (some (.box 28 [.nilsl 3])) = H5 := ⟨_, rfl⟩
  simp -implicitDefEqProofs only [St_H, hH5] at a7
  have e3 : H5 b3 = some (.box 25 [i64 x.me, i64 x.f, i64 x.t, i64 x.al, i64 x.bl, i64 x.ki, slT x.ts, i64 x.mo, slA x.ad]) := a7.2.2.1
  simp -implicitDefEqProofs -proj only [go_sem, Nat.reduceBEq, Nat.reduceLT, Nat.reduceLeDiff, Nat.reduceAdd, Nat.reduceMul, ↓reduceIte, Int.reduceToNat, Int.reducePow, Int.reduceLT, Int.reduceLE, Int.reduceAdd, Int.reduceSub, Int.reduceMul, Int.reduceEq, Int.reduceNe, hH5, e3]
  refine CallA_w (Steps_ok hl) ?_
  rintro r H6 ⟨f, c2, c3, rfl, hit, hbl, hkeep, hc2, hc3, hc23⟩
  replace hkeep : ∀ k v, H5 k = some v → H6 k = some v := hkeep
  replace hc2 : H5 c2 = none := hc2
  replace hc3 : H5 c3 = none := hc3
  obtain ⟨S, hS⟩ : ∃ S, stepsL x q = S := ⟨_, rfl⟩
  rw [hS] at hs hit ⊢
  have a6 : AllH H6 (gonB b7 b5 c2 c3 m x.ts q ⟨0, 0, []⟩) := ⟨hkeep _ _ a7.1, hkeep _ _ a7.2.1, hbl.1, hbl.2.1, trivial⟩
  have n6 : (keys (gonB b7 b5 c2 c3 m x.ts q ⟨0, 0, []⟩)).Nodup := by
    have d1 := (fresh_ne hc2 a7.1).2
    have d2 := (fresh_ne hc2 a7.2.1).2
    have d3 := (fresh_ne hc3 a7.1).2
    have d4 := (fresh_ne hc3 a7.2.1).2
    simp -implicitDefEqProofs only [keys, List.map_cons, List.map_nil, List.nodup_cons, List.mem_cons, List.not_mem_nil, or_false, not_or] at n7
    simp [keys, gonB, nx_R, rowS3, rowH_nil, d1, d2, d3, d4, hc23, n7.1.1]
  simp -implicitDefEqProofs -proj only [go_sem, Nat.reduceBEq, Nat.reduceLT, Nat.reduceLeDiff, Nat.reduceAdd, Nat.reduceMul, ↓reduceIte, Int.reduceToNat, Int.reducePow, Int.reduceLT, Int.reduceLE, Int.reduceAdd, Int.reduceSub, Int.reduceMul, Int.reduceEq, Int.reduceNe]
  refine RangeA_k [(7, .ptr b7 0), (5, .ptr b5 0)] (fun pre y => y.R = S.take pre.length ∧ pre.length ≤ m.toNat ∧ (keys (gonB b7 b5 c2 c3 m x.ts q y)).Nodup) (gonB b7 b5 c2 c3 m x.ts q) ⟨0, 0, []⟩ hit (by simp -implicitDefEqProofs -proj only [go_sem, Nat.reduceBEq, Nat.reduceLT, Nat.reduceLeDiff, Nat.reduceAdd, Nat.reduceMul, ↓reduceIte, Int.reduceToNat, Int.reducePow, Int.reduceLT, Int.reduceLE, Int.reduceAdd, Int.reduceSub, Int.reduceMul, Int.reduceEq, Int.reduceNe]) rfl (by simp) (by simp -implicitDefEqProofs -proj only [go_sem, Nat.reduceBEq, Nat.reduceLT, Nat.reduceLeDiff, Nat.reduceAdd, Nat.reduceMul, ↓reduceIte, Int.reduceToNat, Int.reducePow, Int.reduceLT, Int.reduceLE, Int.reduceAdd, Int.reduceSub, Int.reduceMul, Int.reduceEq, Int.reduceNe, AllAt]) ?_ ⟨by simp, by simp, n6⟩ a6 ?_ ?_
  · intro pre y _ p hp
    simp -implicitDefEqProofs only [iterB, List.mem_cons, List.not_mem_nil, or_false] at hp
    rcases hp with rfl | rfl <;> simp [gonB]
  · rintro pre v post ⟨c, cap, R⟩ hxs ⟨hR, hm, hn⟩
    obtain ⟨hlt, rfl, hpre⟩ := map_split hxs
    have hall := keepH_all hn
    simp -implicitDefEqProofs only [nx_R] at hR
    have hRl : R.length = pre.length := by rw [hR, List.length_take]; omega
    obtain ⟨H, hH⟩ : ∃ H, keepH (gonB b7 b5 c2 c3 m x.ts q ⟨c, cap, R⟩) = H := ⟨_, rfl⟩
    rw [hH] at hall ⊢
    simp -implicitDefEqProofs only [gonB, nx_c, nx_cap, nx_R] at hall hn
    obtain ⟨hrow, h7, h5, h2', h3', _⟩ := AllH_app.1 hall
    have htk : S.take (pre.length + 1) = R ++ [S[pre.length]] := by rw [List.take_succ_eq_append_getElem hlt, hR]
    generalize S[pre.length] = r at *
    simp -implicitDefEqProofs -proj only [go_sem, Nat.reduceBEq, Nat.reduceLT, Nat.reduceLeDiff, Nat.reduceAdd, Nat.reduceMul, ↓reduceIte, Int.reduceToNat, Int.reducePow, Int.reduceLT, Int.reduceLE, Int.reduceAdd, Int.reduceSub, Int.reduceMul, Int.reduceEq, Int.reduceNe]
    refine AllocA_intro (fun b6 hb6 => ?_)
    replace hb6 : H b6 = none := hb6
    obtain ⟨p1, p2⟩ := fresh_ne hb6 h7
    obtain ⟨p3, p4⟩ := fresh_ne hb6 h5
    by_cases hc : m ≤ pre.length
    · simp -implicitDefEqProofs -proj only [go_sem, Nat.reduceBEq, Nat.reduceLT, Nat.reduceLeDiff, Nat.reduceAdd, Nat.reduceMul, ↓reduceIte, Int.reduceToNat, Int.reducePow, Int.reduceLT, Int.reduceLE, Int.reduceAdd, Int.reduceSub, Int.reduceMul, Int.reduceEq, Int.reduceNe, p1, p3, h7, h5, rowV_len, rowS3_len, hRl, decide_eq_true hc]
      rw [show S.take m.toNat = R by rw [hR]; congr 1; omega]
      exact rowV_new (AllH_upd hb6 hrow) rowS3_scal
    · simp -implicitDefEqProofs -proj only [go_sem, Nat.reduceBEq, Nat.reduceLT, Nat.reduceLeDiff, Nat.reduceAdd, Nat.reduceMul, ↓reduceIte, Int.reduceToNat, Int.reducePow, Int.reduceLT, Int.reduceLE, Int.reduceAdd, Int.reduceSub, Int.reduceMul, Int.reduceEq, Int.reduceNe, p1, p3, h7, h5, rowV_len, rowS3_len, hRl, decide_eq_false hc]
      refine AllocR_intro (fun bs hs' => ?_)
      replace hs' : upd H b6 _ bs = none := hs'
      simp -implicitDefEqProofs -proj only [go_sem, Nat.reduceBEq, Nat.reduceLT, Nat.reduceLeDiff, Nat.reduceAdd, Nat.reduceMul, ↓reduceIte, Int.reduceToNat, Int.reducePow, Int.reduceLT, Int.reduceLE, Int.reduceAdd, Int.reduceSub, Int.reduceMul, Int.reduceEq, Int.reduceNe]
      refine AppendA_grow (xs := rowS3 R) (y := r.el) (t := 33) (capc := 1) [(b7, .box 28 [rowV 3 3 c cap (rowS3 R)]), (b5, .box 3 [i64 m]), (c2, .box 22 [slT x.ts]), (c3, .box 3 [i64 q])] rfl (AllH_upd hs' (AllH_upd hb6 hall)) hn (by simp -implicitDefEqProofs -proj only [go_sem, Nat.reduceBEq, Nat.reduceLT, Nat.reduceLeDiff, Nat.reduceAdd, Nat.reduceMul, ↓reduceIte, Int.reduceToNat, Int.reducePow, Int.reduceLT, Int.reduceLE, Int.reduceAdd, Int.reduceSub, Int.reduceMul, Int.reduceEq, Int.reduceNe]; rfl) (by rw [rowS3_len]; omega) (by rw [rowS3_len]; omega) (fun H' c' cap' ha hk => ?_)
      obtain ⟨hrow', hbox⟩ := AllH_app.1 ha
      simp -implicitDefEqProofs -proj only [go_sem, Nat.reduceBEq, Nat.reduceLT, Nat.reduceLeDiff, Nat.reduceAdd, Nat.reduceMul, ↓reduceIte, Int.reduceToNat, Int.reducePow, Int.reduceLT, Int.reduceLE, Int.reduceAdd, Int.reduceSub, Int.reduceMul, Int.reduceEq, Int.reduceNe, hbox.1]
      rw [rowS3_snoc] at hrow' hk ha
      refine RangeQ_k ⟨c', cap', R ++ [r]⟩ ⟨by simp -implicitDefEqProofs only [nx_R, List.length_append, List.length_singleton]; exact htk.symm, by simp -implicitDefEqProofs only [List.length_append, List.length_singleton]; omega, ?_⟩ ?_
      · simpa only [keys, gonB, nx_c, nx_cap, nx_R, List.map_append, List.map_cons, List.map_nil] using hk
      · have hne : rowS3 (R ++ [r]) ≠ [] := by simp [rowS3]
        refine AllH_app.2 ⟨?_, ?_⟩
        · refine drop_all hrow' ?_
          simp -implicitDefEqProofs only [keys, List.map_append, List.nodup_append, List.map_cons, List.map_nil, List.mem_cons] at hk
          exact fun hm => hk.2.2 _ hm _ (.inl rfl) rfl
        · have := upd_all (x' := .box 28 [.own c' 3 0 ((rowS3 R).length + 1) cap']) hbox (by simp -implicitDefEqProofs only [keys, List.map_append, List.nodup_append] at hk ⊢; exact hk.2.1)
          simp -implicitDefEqProofs only [nx_c, nx_cap, nx_R, rowV_ne hne, show (rowS3 (R ++ [r])).length = (rowS3 R).length + 1 by simp [rowS3]]
          exact this
  · rintro ⟨c, cap, R⟩ ⟨hR, hm, hn⟩
    have hall := keepH_all hn
    simp -implicitDefEqProofs only [nx_R] at hR
    obtain ⟨H, hH⟩ : ∃ H, keepH (gonB b7 b5 c2 c3 m x.ts q ⟨c, cap, R⟩) = H := ⟨_, rfl⟩
    rw [hH] at hall ⊢
    simp -implicitDefEqProofs only [gonB, nx_c, nx_cap, nx_R] at hall hn
    obtain ⟨hrow, h7, h5, hv', _⟩ := AllH_app.1 hall
    rw [List.length_map] at hR hm
    rw [List.take_length] at hR
    simp -implicitDefEqProofs -proj only [go_sem, Nat.reduceBEq, Nat.reduceLT, Nat.reduceLeDiff, Nat.reduceAdd, Nat.reduceMul, ↓reduceIte, Int.reduceToNat, Int.reducePow, Int.reduceLT, Int.reduceLE, Int.reduceAdd, Int.reduceSub, Int.reduceMul, Int.reduceEq, Int.reduceNe, h7]
    rw [List.take_of_length_le hm, ← hR]
    exact rowV_new hrow rowS3_scal
end Go.Proofs.Ytlnpeokjbnplnaa.Abs
