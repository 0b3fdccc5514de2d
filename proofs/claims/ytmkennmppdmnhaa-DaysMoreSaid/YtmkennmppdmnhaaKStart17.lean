/- The first days of a line's runs, and the document's. No claim stands here. -/
import Derived.Test.YtmkennmppdmnhaaKRuns17
set_option linter.unusedSimpArgs false
set_option linter.unusedVariables false
namespace Go.Proofs.Ytmkennmppdmnhaa.Abs
open Go Go.RowKit Go.Proofs
attribute [local go_sem] RunC_seq AF_n AF_r AF_b St_n St_t St_H Fst_mk Snd_mk RunC_ops RunC_cond RunC_block RunC_loop RunC_exit RunC_ret RunC_skip RunO_nil RunO_code RunO_code_ret RunO_code_exit RunO_blk RunO_blk_ret RunO_blk_exit RunL_nil RunL_guard GuardA_tt GuardA_ff GuardA_tf GuardA_ft GuardA_void CondA_t CondA_f PickA_t PickA_f RunL_mov RunL_pick RunL_alloc RunL_box RunL_load LoadA_ptr LoadB_1 LoadB_n LoadA_dptr LoadA_dptr_n RunL_store StoreA_ptr StoreB_box RunL_bin Bin_add Bin_sub Bin_mul Bin_quo Bin_rem Bin_shl Bin_shr Bin_andI Bin_orI Bin_xorI Bin_eql Bin_neq Bin_lss Bin_leq Bin_gtr Bin_geq RunL_binb Bin_beql Bin_bneq RunL_un UnA_not UnA_neg RunL_conv convV MapA_some RunL_nilCheck nilV RunL_mkfn RunL_fieldAddr faV RunL_field FieldA_1 FieldA_n RunL_elemAddr EAddrA_sl EAddrA_own EptrA_eq RunL_build BuildA_some RunL_extract ExtA_eq RunL_len lenV_sl lenV_nilsl lenV_own RunL_slen RunL_idxStr IdxSA_eq slenV RunL_minmax mmV minmaxL RunL_call RunL_callv CallvA_fn putS ev evL evO evP eqK eqKs EqB_agg RunL_eqAgg EqA_t EqA_f evQ buildC fits_agg cellsAV_agg fits_d cellsAV_d fits_nilp cellsAV_nilp fits_nilsl cellsAV_nilsl fits_nilfn cellsAV_nilfn fits_ptr cellsAV_ptr fits_eptr cellsAV_eptr fits_dptr cellsAV_dptr fits_own cellsAV_own fits_fn cellsAV_fn rowV_fits rowV_cells rowV_len lenAV setSeg nth seg mapD repeatL putT_get upd_get argT keepT_cons keepT_nil keepH_cons keepH_nil cond_true cond_false VC_true finW resW resL resOne LoopQ_exit LoopQ_ret List.cons_append List.nil_append Bool.not_true Bool.not_false Bool.and_true Bool.and_self Nat.lt_add_left_iff_pos Nat.zero_add Nat.add_zero List.drop_succ_cons List.drop_zero List.take_succ_cons List.take_zero beq_self_eq_true Bool.false_eq_true RunC_dops RunL_loadS RunL_loadD LoadDA_dptr RunL_storeS StoreSA_ptr RunL_pcall RunL_pcallv PCallvA_fn newsOk and_self and_true true_and loadW_ptr LoadK_1 LoadK_n upd_upd RunL_buildSlice BSliceA_some RunL_buildSliceD frzL frz cutL LoadA_eptr LoadE_row RunL_append RunL_slice SliceA_sl StoreA_eptr List.length_cons List.length_nil Nat.min_def Int.cast_ofNat_Int Int.natCast_zero Int.natCast_one decide_true decide_false List.getElem?_cons_zero List.getElem?_cons_succ RunC_rangef CallvA_yld putL_nil putL_cons RangeQ_exit RangeQ_ret
structure SX17 where
  c : Nat
  cap : Nat
  l : List Int
theorem sx17_c {c cap : Nat} {l : List Int} : (SX17.mk c cap l).c = c := (rfl)
theorem sx17_cap {c cap : Nat} {l : List Int} : (SX17.mk c cap l).cap = cap := (rfl)
theorem sx17_l {c cap : Nat} {l : List Int} : (SX17.mk c cap l).l = l := (rfl)
theorem rowI_scal17 {l : List Int} : ∀ el ∈ rowI l, ∀ d ∈ el, scalD d = true := by
  intro el he d hd
  obtain ⟨r, _, rfl⟩ := List.mem_map.1 he
  simp -implicitDefEqProofs only [List.mem_singleton] at hd
  subst hd; rfl
theorem rowI_sn17 {l : List Int} {x : Int} : rowI l ++ [[.int .i64 x]] = rowI (l ++ [x]) := by simp [rowI]
def startB (b3 bv : Nat) (R : List Run) (y : SX17) : List (Nat × Blk) := rowH 3 1 y.c y.cap (rowI y.l) ++ [(b3, .box 49 [rowV 1 1 y.c y.cap (rowI y.l)]), (bv, .box 29 [slU R])]
theorem starts_ok {c : CoreX} (hc : c.Fit) (hg : goodC c) : NewW Try.prog f_poundagelaw17_starts [coreX c] (slI ((holdsR c).map (·.f))) := by
  have hho := Holds_yes hc hg
  obtain ⟨⟨a1, a2⟩, ⟨a3, a4⟩, a5, a6, a7, a8⟩ := hg.hd
  have hlen := (holds_fwd a3).len
  generalize holdsR c = R at *
  refine CallW_intro comp_poundagelaw17_starts (by simp) ?_
  simp -implicitDefEqProofs -proj only [go_sem, Nat.reduceBEq, Nat.reduceLT, Nat.reduceLeDiff, Nat.reduceAdd, Nat.reduceMul, ↓reduceIte, Int.reduceToNat, Int.reducePow, Int.reduceLT, Int.reduceLE, Int.reduceAdd, Int.reduceSub, Int.reduceMul, Int.reduceEq, Int.reduceNe]
  refine AllocA_intro (fun b1 hb1 => ?_)
  simp -implicitDefEqProofs -proj only [go_sem, Nat.reduceBEq, Nat.reduceLT, Nat.reduceLeDiff, Nat.reduceAdd, Nat.reduceMul, ↓reduceIte, Int.reduceToNat, Int.reducePow, Int.reduceLT, Int.reduceLE, Int.reduceAdd, Int.reduceSub, Int.reduceMul, Int.reduceEq, Int.reduceNe]
  refine AllocA_intro (fun b3 hb3 => ?_)
  replace hb3 : upd Heap.none b1 (some (coreB c)) b3 = none := hb3
  obtain ⟨n1, n2⟩ := fresh_ne hb3 upd_eq
  simp -implicitDefEqProofs -proj only [go_sem, Nat.reduceBEq, Nat.reduceLT, Nat.reduceLeDiff, Nat.reduceAdd, Nat.reduceMul, ↓reduceIte, Int.reduceToNat, Int.reducePow, Int.reduceLT, Int.reduceLE, Int.reduceAdd, Int.reduceSub, Int.reduceMul, Int.reduceEq, Int.reduceNe, n1, n2]
  refine CallA_pure hho ?_
  simp -implicitDefEqProofs -proj only [go_sem, Nat.reduceBEq, Nat.reduceLT, Nat.reduceLeDiff, Nat.reduceAdd, Nat.reduceMul, ↓reduceIte, Int.reduceToNat, Int.reducePow, Int.reduceLT, Int.reduceLE, Int.reduceAdd, Int.reduceSub, Int.reduceMul, Int.reduceEq, Int.reduceNe]
  refine AllocA_intro (fun b4 hb4 => ?_)
  have a2 := alloc_all (x := coreB c) hb1 (l := []) trivial
  have m2 := alloc_keys (x := coreB c) hb1 (l := []) trivial List.nodup_nil
  have a3' := alloc_all (x := .box 49 [.nilsl 1]) hb3 a2
  have m3 := alloc_keys (x := .box 49 [.nilsl 1]) hb3 a2 m2
  have a4' := alloc_all (x := .box 31 [slU R]) hb4 a3'
  have m4 := alloc_keys (x := .box 31 [slU R]) hb4 a3' m3
  obtain ⟨H5, hH5⟩ : ∃ H5, upd (upd (upd Heap.none b1 (some (coreB c))) b3 (some (.box 49 [.nilsl 1]))) b4 (some (.box 31 [slU R])) = H5 := ⟨_, rfl⟩
  have e4 : H5 b4 = some (.box 31 [slU R]) := by rw [← hH5]; exact upd_eq
  replace a4' : AllH H5 [(b4, .box 31 [slU R]), (b3, .box 49 [.nilsl 1]), (b1, coreB c)] := by rw [← hH5]; exact a4'
  simp -implicitDefEqProofs -proj only [go_sem, Nat.reduceBEq, Nat.reduceLT, Nat.reduceLeDiff, Nat.reduceAdd, Nat.reduceMul, ↓reduceIte, Int.reduceToNat, Int.reducePow, Int.reduceLT, Int.reduceLE, Int.reduceAdd, Int.reduceSub, Int.reduceMul, Int.reduceEq, Int.reduceNe]
  try rw [hH5]
  refine CallA_w RunsU_ok ?_
  rintro r H6 ⟨bv, rfl, hbv, hv, hkeep⟩
  have a6 : AllH H6 (startB b3 bv R ⟨0, 0, []⟩) := ⟨hkeep _ _ a4'.2.1, hv, trivial⟩
  have n6 : (keys (startB b3 bv R ⟨0, 0, []⟩)).Nodup := by
    have := fresh_keys hbv a4'
    simp -implicitDefEqProofs only [keys, startB, sx17_l, rowI, List.map_nil, rowH_nil, List.nil_append, List.map_cons, List.nodup_cons, List.mem_cons, List.not_mem_nil, or_false, not_or, not_false_eq_true, List.nodup_nil, and_true] at this ⊢
    exact fun e => this.2.1 e.symm
  simp -implicitDefEqProofs -proj only [go_sem, Nat.reduceBEq, Nat.reduceLT, Nat.reduceLeDiff, Nat.reduceAdd, Nat.reduceMul, ↓reduceIte, Int.reduceToNat, Int.reducePow, Int.reduceLT, Int.reduceLE, Int.reduceAdd, Int.reduceSub, Int.reduceMul, Int.reduceEq, Int.reduceNe]
  refine RangeA_k [(3, .ptr b3 0)] (fun pre y => y.l = (R.map (·.f)).take pre.length ∧ (keys (startB b3 bv R y)).Nodup) (startB b3 bv R) ⟨0, 0, []⟩ (Values1U_iter (b := bv) (l := R) (by omega)) (by simp -implicitDefEqProofs -proj only [go_sem, Nat.reduceBEq, Nat.reduceLT, Nat.reduceLeDiff, Nat.reduceAdd, Nat.reduceMul, ↓reduceIte, Int.reduceToNat, Int.reducePow, Int.reduceLT, Int.reduceLE, Int.reduceAdd, Int.reduceSub, Int.reduceMul, Int.reduceEq, Int.reduceNe]) rfl (by simp) (by simp -implicitDefEqProofs -proj only [go_sem, Nat.reduceBEq, Nat.reduceLT, Nat.reduceLeDiff, Nat.reduceAdd, Nat.reduceMul, ↓reduceIte, Int.reduceToNat, Int.reducePow, Int.reduceLT, Int.reduceLE, Int.reduceAdd, Int.reduceSub, Int.reduceMul, Int.reduceEq, Int.reduceNe, AllAt]) ?_ ⟨by simp, n6⟩ a6 ?_ ?_
  · intro pre y _ p hp
    simp -implicitDefEqProofs only [List.mem_singleton] at hp
    subst hp
    simp [startB]
  · rintro pre x post ⟨c', cap, l⟩ hxs ⟨hl, hn⟩
    obtain ⟨hlt, rfl, hpre⟩ := map_split hxs
    have hall := keepH_all hn
    simp -implicitDefEqProofs only [sx17_l] at hl
    have hll : l.length = pre.length := by rw [hl, List.length_take, List.length_map]; omega
    obtain ⟨H, hH⟩ : ∃ H, keepH (startB b3 bv R ⟨c', cap, l⟩) = H := ⟨_, rfl⟩
    rw [hH] at hall ⊢
    simp -implicitDefEqProofs only [startB, sx17_c, sx17_cap, sx17_l] at hall hn
    obtain ⟨hrow, h3, hv', _⟩ := AllH_app.1 hall
    have htk : (R.map (·.f)).take (pre.length + 1) = l ++ [(R[pre.length]).f] := by rw [List.take_succ_eq_append_getElem (by rw [List.length_map]; exact hlt), hl]; simp
    generalize R[pre.length] = r at *
    simp -implicitDefEqProofs -proj only [go_sem, Nat.reduceBEq, Nat.reduceLT, Nat.reduceLeDiff, Nat.reduceAdd, Nat.reduceMul, ↓reduceIte, Int.reduceToNat, Int.reducePow, Int.reduceLT, Int.reduceLE, Int.reduceAdd, Int.reduceSub, Int.reduceMul, Int.reduceEq, Int.reduceNe]
    refine AllocA_intro (fun b6 hb6 => ?_)
    replace hb6 : H b6 = none := hb6
    obtain ⟨p1, p2⟩ := fresh_ne hb6 h3
    simp -implicitDefEqProofs -proj only [go_sem, Nat.reduceBEq, Nat.reduceLT, Nat.reduceLeDiff, Nat.reduceAdd, Nat.reduceMul, ↓reduceIte, Int.reduceToNat, Int.reducePow, Int.reduceLT, Int.reduceLE, Int.reduceAdd, Int.reduceSub, Int.reduceMul, Int.reduceEq, Int.reduceNe, p1, p2, h3]
    refine AllocR_intro (fun bs hs => ?_)
    replace hs : upd H b6 _ bs = none := hs
    simp -implicitDefEqProofs -proj only [go_sem, Nat.reduceBEq, Nat.reduceLT, Nat.reduceLeDiff, Nat.reduceAdd, Nat.reduceMul, ↓reduceIte, Int.reduceToNat, Int.reducePow, Int.reduceLT, Int.reduceLE, Int.reduceAdd, Int.reduceSub, Int.reduceMul, Int.reduceEq, Int.reduceNe]
    refine AppendA_grow (xs := rowI l) (y := [.int .i64 r.f]) (t := 3) (capc := 1) [(b3, .box 49 [rowV 1 1 c' cap (rowI l)]), (bv, .box 29 [slU R])] rfl (AllH_upd hs (AllH_upd hb6 hall)) hn (by simp -implicitDefEqProofs -proj only [go_sem, Nat.reduceBEq, Nat.reduceLT, Nat.reduceLeDiff, Nat.reduceAdd, Nat.reduceMul, ↓reduceIte, Int.reduceToNat, Int.reducePow, Int.reduceLT, Int.reduceLE, Int.reduceAdd, Int.reduceSub, Int.reduceMul, Int.reduceEq, Int.reduceNe]; try rfl) (by rw [rowI_len]; omega) (by rw [rowI_len]; omega) (fun H' c2 cap2 ha hk => ?_)
    obtain ⟨hrow', hbox⟩ := AllH_app.1 ha
    simp -implicitDefEqProofs -proj only [go_sem, Nat.reduceBEq, Nat.reduceLT, Nat.reduceLeDiff, Nat.reduceAdd, Nat.reduceMul, ↓reduceIte, Int.reduceToNat, Int.reducePow, Int.reduceLT, Int.reduceLE, Int.reduceAdd, Int.reduceSub, Int.reduceMul, Int.reduceEq, Int.reduceNe, hbox.1]
    rw [rowI_sn17] at hrow' hk ha
    refine RangeQ_k ⟨c2, cap2, l ++ [r.f]⟩ ⟨by simp -implicitDefEqProofs only [sx17_l, List.length_append, List.length_singleton]; exact htk.symm, ?_⟩ ?_
    · simpa only [keys, startB, sx17_c, sx17_cap, sx17_l, List.map_append, List.map_cons, List.map_nil] using hk
    · have hne : rowI (l ++ [r.f]) ≠ [] := by simp [rowI]
      refine AllH_app.2 ⟨?_, ?_⟩
      · refine drop_all hrow' ?_
        simp -implicitDefEqProofs only [keys, List.map_append, List.nodup_append, List.map_cons, List.map_nil, List.mem_cons] at hk
        exact fun hm => hk.2.2 _ hm _ (.inl rfl) rfl
      · have := upd_all (x' := .box 49 [.own c2 1 0 ((rowI l).length + 1) cap2]) hbox (by simp -implicitDefEqProofs only [keys, List.map_append, List.nodup_append] at hk ⊢; exact hk.2.1)
        simp -implicitDefEqProofs only [sx17_c, sx17_cap, sx17_l, rowV_ne hne, show (rowI (l ++ [r.f])).length = (rowI l).length + 1 by simp [rowI]]
        exact this
  · rintro ⟨c', cap, l⟩ ⟨hl, hn⟩
    have hall := keepH_all hn
    simp -implicitDefEqProofs only [sx17_l] at hl
    obtain ⟨H, hH⟩ : ∃ H, keepH (startB b3 bv R ⟨c', cap, l⟩) = H := ⟨_, rfl⟩
    rw [hH] at hall ⊢
    simp -implicitDefEqProofs only [startB, sx17_c, sx17_cap, sx17_l] at hall hn
    obtain ⟨hrow, h3, hv', _⟩ := AllH_app.1 hall
    rw [show (runArgsU R).length = (R.map (·.f)).length by simp, List.take_length] at hl
    simp -implicitDefEqProofs -proj only [go_sem, Nat.reduceBEq, Nat.reduceLT, Nat.reduceLeDiff, Nat.reduceAdd, Nat.reduceMul, ↓reduceIte, Int.reduceToNat, Int.reducePow, Int.reduceLT, Int.reduceLE, Int.reduceAdd, Int.reduceSub, Int.reduceMul, Int.reduceEq, Int.reduceNe, h3]
    rw [← hl]
    exact rowV_new hrow rowI_scal17
end Go.Proofs.Ytmkennmppdmnhaa.Abs
