/- The package line's runs, one by one: the library's iterator over a slice. No claim stands here. -/
import Derived.Test.YtgfimmaligcgjaaKLine14b
set_option linter.unusedSimpArgs false
set_option linter.unusedVariables false
namespace Go.Proofs.Ytgfimmaligcgjaa.Abs
open Go Go.RowKit Go.Proofs
attribute [local go_sem] RunC_seq AF_n AF_r AF_b St_n St_t St_H Fst_mk Snd_mk RunC_ops RunC_cond RunC_block RunC_loop RunC_exit RunC_ret RunC_skip RunO_nil RunO_code RunO_code_ret RunO_code_exit RunO_blk RunO_blk_ret RunO_blk_exit RunL_nil RunL_guard GuardA_tt GuardA_ff GuardA_tf GuardA_ft GuardA_void CondA_t CondA_f PickA_t PickA_f RunL_mov RunL_pick RunL_alloc RunL_box RunL_load LoadA_ptr LoadB_1 LoadB_n LoadA_dptr LoadA_dptr_n RunL_store StoreA_ptr StoreB_box RunL_bin Bin_add Bin_sub Bin_mul Bin_quo Bin_rem Bin_shl Bin_shr Bin_andI Bin_orI Bin_xorI Bin_eql Bin_neq Bin_lss Bin_leq Bin_gtr Bin_geq RunL_binb Bin_beql Bin_bneq RunL_un UnA_not UnA_neg RunL_conv convV MapA_some RunL_nilCheck nilV RunL_mkfn RunL_fieldAddr faV RunL_field FieldA_1 FieldA_n RunL_elemAddr EAddrA_sl EAddrA_own EptrA_eq RunL_build BuildA_some RunL_extract ExtA_eq RunL_len lenV_sl lenV_nilsl lenV_own RunL_slen RunL_idxStr IdxSA_eq slenV RunL_minmax mmV minmaxL RunL_call RunL_callv CallvA_fn putS ev evL evO evP eqK eqKs EqB_agg RunL_eqAgg EqA_t EqA_f evQ buildC fits_agg cellsAV_agg fits_d cellsAV_d fits_nilp cellsAV_nilp fits_nilsl cellsAV_nilsl fits_nilfn cellsAV_nilfn fits_ptr cellsAV_ptr fits_eptr cellsAV_eptr fits_dptr cellsAV_dptr fits_own cellsAV_own fits_fn cellsAV_fn rowV_fits rowV_cells rowV_len lenAV setSeg nth seg mapD repeatL putT_get upd_get argT keepT_cons keepT_nil keepH_cons keepH_nil cond_true cond_false VC_true finW resW resL resOne LoopQ_exit LoopQ_ret List.cons_append List.nil_append Bool.not_true Bool.not_false Bool.and_true Bool.and_self Nat.lt_add_left_iff_pos Nat.zero_add Nat.add_zero List.drop_succ_cons List.drop_zero List.take_succ_cons List.take_zero beq_self_eq_true Bool.false_eq_true RunC_dops RunL_loadS RunL_storeS StoreSA_ptr RunL_pcall RunL_pcallv PCallvA_fn newsOk and_self and_true true_and loadW_ptr LoadK_1 LoadK_n upd_upd RunL_buildSlice BSliceA_some RunL_buildSliceD frzL frz cutL LoadA_eptr LoadE_row RunL_append RunL_slice SliceA_sl StoreA_eptr List.length_cons List.length_nil Nat.min_def Int.cast_ofNat_Int Int.natCast_zero Int.natCast_one decide_true decide_false List.getElem?_cons_zero List.getElem?_cons_succ RunC_rangef CallvA_yld putL_nil putL_cons RangeQ_exit RangeQ_ret
abbrev runArgs (l : List Run) : List (List AV) := l.map fun r => [r.av]
theorem rowR_idx {l : List Run} {i : Nat} (h : i < l.length) : (rowR l)[((i : Int)).toNat]? = some [.int .i64 l[i].f, .int .i64 l[i].t, .int .i64 l[i].v] := rowR_at h
theorem Values1_iter {b : Nat} {l : List Run} (hl : l.length ≤ 1000000) : IterW Try.prog f_slices_Values_line_Run_int_1 [.ptr b 0] [(b, .box 33 [slR l])] (runArgs l) := by
  intro y H J X hA hS hY h0
  refine CallW_intro comp_slices_Values_line_Run_int_1 (by simp) ?_
  have hb : H b = some (.box 33 [slR l]) := (hA [] H h0).1
  simp -implicitDefEqProofs -proj only [go_sem, Nat.reduceBEq, Nat.reduceLT, Nat.reduceLeDiff, Nat.reduceAdd, Nat.reduceMul, ↓reduceIte, Int.reduceToNat, Int.reducePow, Int.reduceLT, Int.reduceLE, Int.reduceAdd, Int.reduceSub, Int.reduceMul, Int.reduceEq, Int.reduceNe, hb, rowR_len]
  refine LoopA_rule (fun x : Nat × Heap => x.1 ≤ l.length ∧ J (runArgs (l.take x.1)) x.2) (fun x => ⟨16, keepT [(0, .yld y), (5, slR l), (6, i64 l.length), (7, i64 x.1)], x.2⟩) (fun x => l.length - x.1) (0, H) ⟨Nat.zero_le _, h0⟩ (Abst_keep rfl ?_ (fun k => .inr rfl)) ?_
  · simp -implicitDefEqProofs -proj only [go_sem, Nat.reduceBEq, Nat.reduceLT, Nat.reduceLeDiff, Nat.reduceAdd, Nat.reduceMul, ↓reduceIte, Int.reduceToNat, Int.reducePow, Int.reduceLT, Int.reduceLE, Int.reduceAdd, Int.reduceSub, Int.reduceMul, Int.reduceEq, Int.reduceNe, AllAt]
  rintro ⟨i, H1⟩ ⟨hi, hj⟩
  simp -implicitDefEqProofs only [] at hi hj
  by_cases h : i < l.length
  · have hel := rowR_idx h
    have hxs : runArgs l = runArgs (l.take i) ++ [(l[i]).av] :: runArgs (l.drop (i + 1)) := by
      rw [← List.map_cons (f := fun r : Run => [r.av]), ← List.map_append, ← List.drop_eq_getElem_cons h, List.take_append_drop]
    have htk : runArgs (l.take i) ++ [[(l[i]).av]] = runArgs (l.take (i + 1)) := by simp -implicitDefEqProofs only [runArgs]; rw [List.take_succ_eq_append_getElem h, List.map_append]; rfl
    generalize l[i] = r at *
    simp -implicitDefEqProofs -proj only [go_sem, Nat.reduceBEq, Nat.reduceLT, Nat.reduceLeDiff, Nat.reduceAdd, Nat.reduceMul, ↓reduceIte, Int.reduceToNat, Int.reducePow, Int.reduceLT, Int.reduceLE, Int.reduceAdd, Int.reduceSub, Int.reduceMul, Int.reduceEq, Int.reduceNe, decide_eq_true (show (i : Int) < l.length by omega)]
    refine ElemA_at _ (by omega) hel ?_
    simp -implicitDefEqProofs -proj only [go_sem, Nat.reduceBEq, Nat.reduceLT, Nat.reduceLeDiff, Nat.reduceAdd, Nat.reduceMul, ↓reduceIte, Int.reduceToNat, Int.reducePow, Int.reduceLT, Int.reduceLE, Int.reduceAdd, Int.reduceSub, Int.reduceMul, Int.reduceEq, Int.reduceNe]
    refine AllocA_intro (fun b4 hb4 => ?_)
    simp -implicitDefEqProofs -proj only [go_sem, Nat.reduceBEq, Nat.reduceLT, Nat.reduceLeDiff, Nat.reduceAdd, Nat.reduceMul, ↓reduceIte, Int.reduceToNat, Int.reducePow, Int.reduceLT, Int.reduceLE, Int.reduceAdd, Int.reduceSub, Int.reduceMul, Int.reduceEq, Int.reduceNe]
    refine YldA_w (hY _ _ _ _ hxs (hS _ _ b4 _ hj hb4)) ?_
    rintro v H2 (⟨rfl, hj2⟩ | ⟨rfl, hx⟩)
    · rw [htk] at hj2
      simp -implicitDefEqProofs -proj only [go_sem, Nat.reduceBEq, Nat.reduceLT, Nat.reduceLeDiff, Nat.reduceAdd, Nat.reduceMul, ↓reduceIte, Int.reduceToNat, Int.reducePow, Int.reduceLT, Int.reduceLE, Int.reduceAdd, Int.reduceSub, Int.reduceMul, Int.reduceEq, Int.reduceNe]
      refine LoopQ_next (i + 1, H2) ⟨by show i + 1 ≤ l.length; omega, hj2⟩ (by show l.length - (i + 1) < l.length - i; omega) (Abst_keep rfl ?_ (fun k => .inr rfl))
      simp -implicitDefEqProofs -proj only [go_sem, Nat.reduceBEq, Nat.reduceLT, Nat.reduceLeDiff, Nat.reduceAdd, Nat.reduceMul, ↓reduceIte, Int.reduceToNat, Int.reducePow, Int.reduceLT, Int.reduceLE, Int.reduceAdd, Int.reduceSub, Int.reduceMul, Int.reduceEq, Int.reduceNe, AllAt, i64_succ (show i < 9223372036854775807 by omega)]
    · simp -implicitDefEqProofs -proj only [go_sem, Nat.reduceBEq, Nat.reduceLT, Nat.reduceLeDiff, Nat.reduceAdd, Nat.reduceMul, ↓reduceIte, Int.reduceToNat, Int.reducePow, Int.reduceLT, Int.reduceLE, Int.reduceAdd, Int.reduceSub, Int.reduceMul, Int.reduceEq, Int.reduceNe]
      exact .inr hx
  · have hi' : i = l.length := by omega
    subst hi'
    rw [List.take_length] at hj
    simp -implicitDefEqProofs -proj only [go_sem, Nat.reduceBEq, Nat.reduceLT, Nat.reduceLeDiff, Nat.reduceAdd, Nat.reduceMul, ↓reduceIte, Int.reduceToNat, Int.reducePow, Int.reduceLT, Int.reduceLE, Int.reduceAdd, Int.reduceSub, Int.reduceMul, Int.reduceEq, Int.reduceNe, decide_eq_false (show ¬ (l.length : Int) < l.length by omega)]
    exact .inl hj
/-- Runs: an iterator, its slice in a block of its own. -/
theorem Values_ok {H : Heap} {l : List Run} : CallW Try.prog f_slices_Values_line_Run_int_ [slR l] H fun r H' => ∃ b, r = .fn f_slices_Values_line_Run_int_1 [.ptr b 0] ∧ H b = none ∧ H' = upd H b (some (.box 33 [slR l])) := by
  refine CallW_intro comp_slices_Values_line_Run_int_ (by simp) ?_
  simp -implicitDefEqProofs -proj only [go_sem, Nat.reduceBEq, Nat.reduceLT, Nat.reduceLeDiff, Nat.reduceAdd, Nat.reduceMul, ↓reduceIte, Int.reduceToNat, Int.reducePow, Int.reduceLT, Int.reduceLE, Int.reduceAdd, Int.reduceSub, Int.reduceMul, Int.reduceEq, Int.reduceNe]
  refine AllocA_intro (fun b hb => ?_)
  simp -implicitDefEqProofs -proj only [go_sem, Nat.reduceBEq, Nat.reduceLT, Nat.reduceLeDiff, Nat.reduceAdd, Nat.reduceMul, ↓reduceIte, Int.reduceToNat, Int.reducePow, Int.reduceLT, Int.reduceLE, Int.reduceAdd, Int.reduceSub, Int.reduceMul, Int.reduceEq, Int.reduceNe]
  exact ⟨b, rfl, hb, rfl⟩
theorem Runs_ok {H : Heap} {l : List Run} : CallW Try.prog f_line_Line_int_Runs [lineV l] H fun r H' => ∃ b, r = .fn f_slices_Values_line_Run_int_1 [.ptr b 0] ∧ H b = none ∧ H' b = some (.box 33 [slR l]) ∧ ∀ k x, H k = some x → H' k = some x := by
  refine CallW_intro comp_line_Line_int_Runs (by simp) ?_
  simp -implicitDefEqProofs -proj only [go_sem, Nat.reduceBEq, Nat.reduceLT, Nat.reduceLeDiff, Nat.reduceAdd, Nat.reduceMul, ↓reduceIte, Int.reduceToNat, Int.reducePow, Int.reduceLT, Int.reduceLE, Int.reduceAdd, Int.reduceSub, Int.reduceMul, Int.reduceEq, Int.reduceNe]
  refine AllocA_intro (fun b1 hb1 => ?_)
  simp -implicitDefEqProofs -proj only [go_sem, Nat.reduceBEq, Nat.reduceLT, Nat.reduceLeDiff, Nat.reduceAdd, Nat.reduceMul, ↓reduceIte, Int.reduceToNat, Int.reducePow, Int.reduceLT, Int.reduceLE, Int.reduceAdd, Int.reduceSub, Int.reduceMul, Int.reduceEq, Int.reduceNe]
  refine CallA_w Values_ok ?_
  rintro r H' ⟨b, rfl, hb, rfl⟩
  simp -implicitDefEqProofs -proj only [go_sem, Nat.reduceBEq, Nat.reduceLT, Nat.reduceLeDiff, Nat.reduceAdd, Nat.reduceMul, ↓reduceIte, Int.reduceToNat, Int.reducePow, Int.reduceLT, Int.reduceLE, Int.reduceAdd, Int.reduceSub, Int.reduceMul, Int.reduceEq, Int.reduceNe]
  have hb' : upd H b1 (some (.box 35 [slR l])) b = none := hb
  have hne : ¬ b1 = b := fun e => by rw [upd_get, if_pos e] at hb'; cases hb'
  refine ⟨b, rfl, by rw [upd_ne hne] at hb'; exact hb', by rw [if_pos rfl], fun k x hk => ?_⟩
  rw [upd_ne hne] at hb'
  obtain ⟨n1, n2⟩ := fresh_ne hb1 hk
  obtain ⟨n3, n4⟩ := fresh_ne hb' hk
  simp -implicitDefEqProofs -proj only [go_sem, Nat.reduceBEq, Nat.reduceLT, Nat.reduceLeDiff, Nat.reduceAdd, Nat.reduceMul, ↓reduceIte, Int.reduceToNat, Int.reducePow, Int.reduceLT, Int.reduceLE, Int.reduceAdd, Int.reduceSub, Int.reduceMul, Int.reduceEq, Int.reduceNe, n1, n3, hk]
structure GoneX where
  c : Nat
  cap : Nat
  R : List Run
theorem gx_c {c cap : Nat} {R : List Run} : (GoneX.mk c cap R).c = c := (rfl)
theorem gx_cap {c cap : Nat} {R : List Run} : (GoneX.mk c cap R).cap = cap := (rfl)
theorem gx_R {c cap : Nat} {R : List Run} : (GoneX.mk c cap R).R = R := (rfl)
def goneL (b5 b3 bv : Nat) (m : Int) (l : List Run) (y : GoneX) : List (Nat × Blk) := rowH 69 3 y.c y.cap (rowR y.R) ++ [(b5, .box 33 [rowV 3 3 y.c y.cap (rowR y.R)]), (b3, .box 3 [i64 m]), (bv, .box 33 [slR l])]
/-- The first runs of a line. -/
theorem gone_ok {l : List Run} {m : Int} (hl : l.length ≤ 1000000) : NewW Try.prog f_poundagelaw14_gone [lineV l, i64 m] (slR (l.take m.toNat)) := by
  refine CallW_intro comp_poundagelaw14_gone (by simp) ?_
  simp -implicitDefEqProofs -proj only [go_sem, Nat.reduceBEq, Nat.reduceLT, Nat.reduceLeDiff, Nat.reduceAdd, Nat.reduceMul, ↓reduceIte, Int.reduceToNat, Int.reducePow, Int.reduceLT, Int.reduceLE, Int.reduceAdd, Int.reduceSub, Int.reduceMul, Int.reduceEq, Int.reduceNe]
  refine AllocA_intro (fun b2 hb2 => ?_)
  simp -implicitDefEqProofs -proj only [go_sem, Nat.reduceBEq, Nat.reduceLT, Nat.reduceLeDiff, Nat.reduceAdd, Nat.reduceMul, ↓reduceIte, Int.reduceToNat, Int.reducePow, Int.reduceLT, Int.reduceLE, Int.reduceAdd, Int.reduceSub, Int.reduceMul, Int.reduceEq, Int.reduceNe]
  refine AllocA_intro (fun b3 hb3 => ?_)
  replace hb3 : upd Heap.none b2 _ b3 = none := hb3
  simp -implicitDefEqProofs -proj only [go_sem, Nat.reduceBEq, Nat.reduceLT, Nat.reduceLeDiff, Nat.reduceAdd, Nat.reduceMul, ↓reduceIte, Int.reduceToNat, Int.reducePow, Int.reduceLT, Int.reduceLE, Int.reduceAdd, Int.reduceSub, Int.reduceMul, Int.reduceEq, Int.reduceNe]
  refine AllocA_intro (fun b5 hb5 => ?_)
  have a2 := alloc_all (x := .box 35 [slR l]) hb2 (l := []) trivial
  have n2 := alloc_keys (x := .box 35 [slR l]) hb2 (l := []) trivial List.nodup_nil
  have a3 := alloc_all (x := .box 3 [i64 m]) hb3 a2
  have n3 := alloc_keys (x := .box 3 [i64 m]) hb3 a2 n2
  have a5 := alloc_all (x := .box 33 [.nilsl 3]) hb5 a3
  have n5 := alloc_keys (x := .box 33 [.nilsl 3]) hb5 a3 n3
  obtain ⟨H5, hH5⟩ : ∃ H5, upd (upd (upd Heap.none b2 (some (.box 35 [slR l]))) b3 (some (.box 3 [i64 m]))) b5 (some (.box 33 [.nilsl 3])) = H5 := ⟨_, rfl⟩
  rw [hH5] at a5
  rw [hH5]
  have e2 : H5 b2 = some (.box 35 [slR l]) := a5.2.2.1
  simp -implicitDefEqProofs -proj only [go_sem, Nat.reduceBEq, Nat.reduceLT, Nat.reduceLeDiff, Nat.reduceAdd, Nat.reduceMul, ↓reduceIte, Int.reduceToNat, Int.reducePow, Int.reduceLT, Int.reduceLE, Int.reduceAdd, Int.reduceSub, Int.reduceMul, Int.reduceEq, Int.reduceNe, e2]
  refine CallA_w Runs_ok ?_
  rintro r H6 ⟨bv, rfl, hbv, hv, hkeep⟩
  have a6 : AllH H6 (goneL b5 b3 bv m l ⟨0, 0, []⟩) := ⟨hkeep _ _ a5.1, hkeep _ _ a5.2.1, hv, trivial⟩
  have n6 : (keys (goneL b5 b3 bv m l ⟨0, 0, []⟩)).Nodup := by
    have := fresh_keys hbv a5
    simp -implicitDefEqProofs only [keys, goneL, gx_R, rowR, List.map_nil, rowH_nil, List.nil_append, List.map_cons, List.nodup_cons, List.mem_cons, List.not_mem_nil, or_false, not_or, not_false_eq_true, List.nodup_nil, and_true] at n5 this ⊢
    exact ⟨⟨n5.1.1, fun e => this.1 e.symm⟩, fun e => this.2.1 e.symm⟩
  simp -implicitDefEqProofs -proj only [go_sem, Nat.reduceBEq, Nat.reduceLT, Nat.reduceLeDiff, Nat.reduceAdd, Nat.reduceMul, ↓reduceIte, Int.reduceToNat, Int.reducePow, Int.reduceLT, Int.reduceLE, Int.reduceAdd, Int.reduceSub, Int.reduceMul, Int.reduceEq, Int.reduceNe]
  refine RangeA_k [(5, .ptr b5 0), (3, .ptr b3 0)] (fun pre y => y.R = l.take pre.length ∧ pre.length ≤ m.toNat ∧ (keys (goneL b5 b3 bv m l y)).Nodup) (goneL b5 b3 bv m l) ⟨0, 0, []⟩ (Values1_iter (b := bv) hl) (by simp -implicitDefEqProofs -proj only [go_sem, Nat.reduceBEq, Nat.reduceLT, Nat.reduceLeDiff, Nat.reduceAdd, Nat.reduceMul, ↓reduceIte, Int.reduceToNat, Int.reducePow, Int.reduceLT, Int.reduceLE, Int.reduceAdd, Int.reduceSub, Int.reduceMul, Int.reduceEq, Int.reduceNe]) rfl (by simp) (by simp -implicitDefEqProofs -proj only [go_sem, Nat.reduceBEq, Nat.reduceLT, Nat.reduceLeDiff, Nat.reduceAdd, Nat.reduceMul, ↓reduceIte, Int.reduceToNat, Int.reducePow, Int.reduceLT, Int.reduceLE, Int.reduceAdd, Int.reduceSub, Int.reduceMul, Int.reduceEq, Int.reduceNe, AllAt]) ?_ ⟨by simp, by simp, n6⟩ a6 ?_ ?_
  · intro pre y _ p hp
    simp -implicitDefEqProofs only [List.mem_singleton] at hp
    subst hp
    simp [goneL]
  · rintro pre x post ⟨c, cap, R⟩ hxs ⟨hR, hm, hn⟩
    obtain ⟨hlt, rfl, hpre⟩ := map_split hxs
    have hall := keepH_all hn
    simp -implicitDefEqProofs only [gx_R] at hR
    have hRl : R.length = pre.length := by rw [hR, List.length_take]; omega
    obtain ⟨H, hH⟩ : ∃ H, keepH (goneL b5 b3 bv m l ⟨c, cap, R⟩) = H := ⟨_, rfl⟩
    rw [hH] at hall ⊢
    simp -implicitDefEqProofs only [goneL, gx_c, gx_cap, gx_R] at hall hn
    obtain ⟨hrow, h5, h3, hv', _⟩ := AllH_app.1 hall
    have htk : l.take (pre.length + 1) = R ++ [l[pre.length]] := by rw [List.take_succ_eq_append_getElem hlt, hR]
    generalize l[pre.length] = r at *
    simp -implicitDefEqProofs -proj only [go_sem, Nat.reduceBEq, Nat.reduceLT, Nat.reduceLeDiff, Nat.reduceAdd, Nat.reduceMul, ↓reduceIte, Int.reduceToNat, Int.reducePow, Int.reduceLT, Int.reduceLE, Int.reduceAdd, Int.reduceSub, Int.reduceMul, Int.reduceEq, Int.reduceNe]
    refine AllocA_intro (fun b6 hb6 => ?_)
    replace hb6 : H b6 = none := hb6
    obtain ⟨p1, p2⟩ := fresh_ne hb6 h5
    obtain ⟨p3, p4⟩ := fresh_ne hb6 h3
    simp -implicitDefEqProofs -proj only [go_sem, Nat.reduceBEq, Nat.reduceLT, Nat.reduceLeDiff, Nat.reduceAdd, Nat.reduceMul, ↓reduceIte, Int.reduceToNat, Int.reducePow, Int.reduceLT, Int.reduceLE, Int.reduceAdd, Int.reduceSub, Int.reduceMul, Int.reduceEq, Int.reduceNe, p1, p3, h5, h3, rowV_len, rowR_len, hRl]
    by_cases hc : m ≤ pre.length
    · simp -implicitDefEqProofs -proj only [go_sem, Nat.reduceBEq, Nat.reduceLT, Nat.reduceLeDiff, Nat.reduceAdd, Nat.reduceMul, ↓reduceIte, Int.reduceToNat, Int.reducePow, Int.reduceLT, Int.reduceLE, Int.reduceAdd, Int.reduceSub, Int.reduceMul, Int.reduceEq, Int.reduceNe, p1, p3, h5, h3, rowV_len, rowR_len, hRl, decide_eq_true hc]
      rw [show l.take m.toNat = R by rw [hR]; congr 1; omega]
      exact rowV_new (AllH_upd hb6 hrow) rowR_scal
    · simp -implicitDefEqProofs -proj only [go_sem, Nat.reduceBEq, Nat.reduceLT, Nat.reduceLeDiff, Nat.reduceAdd, Nat.reduceMul, ↓reduceIte, Int.reduceToNat, Int.reducePow, Int.reduceLT, Int.reduceLE, Int.reduceAdd, Int.reduceSub, Int.reduceMul, Int.reduceEq, Int.reduceNe, p1, p3, h5, h3, rowV_len, rowR_len, hRl, decide_eq_false hc]
      refine AllocR_intro (fun bs hs => ?_)
      replace hs : upd H b6 _ bs = none := hs
      simp -implicitDefEqProofs -proj only [go_sem, Nat.reduceBEq, Nat.reduceLT, Nat.reduceLeDiff, Nat.reduceAdd, Nat.reduceMul, ↓reduceIte, Int.reduceToNat, Int.reducePow, Int.reduceLT, Int.reduceLE, Int.reduceAdd, Int.reduceSub, Int.reduceMul, Int.reduceEq, Int.reduceNe]
      refine AppendA_grow (xs := rowR R) (y := r.el) (t := 69) (capc := 1) [(b5, .box 33 [rowV 3 3 c cap (rowR R)]), (b3, .box 3 [i64 m]), (bv, .box 33 [slR l])] rfl (AllH_upd hs (AllH_upd hb6 hall)) hn (by simp -implicitDefEqProofs -proj only [go_sem, Nat.reduceBEq, Nat.reduceLT, Nat.reduceLeDiff, Nat.reduceAdd, Nat.reduceMul, ↓reduceIte, Int.reduceToNat, Int.reducePow, Int.reduceLT, Int.reduceLE, Int.reduceAdd, Int.reduceSub, Int.reduceMul, Int.reduceEq, Int.reduceNe]; rfl) (by rw [rowR_len]; omega) (by rw [rowR_len]; omega) (fun H' c' cap' ha hk => ?_)
      obtain ⟨hrow', hbox⟩ := AllH_app.1 ha
      simp -implicitDefEqProofs -proj only [go_sem, Nat.reduceBEq, Nat.reduceLT, Nat.reduceLeDiff, Nat.reduceAdd, Nat.reduceMul, ↓reduceIte, Int.reduceToNat, Int.reducePow, Int.reduceLT, Int.reduceLE, Int.reduceAdd, Int.reduceSub, Int.reduceMul, Int.reduceEq, Int.reduceNe, hbox.1]
      rw [rowR_snoc] at hrow' hk ha
      refine RangeQ_k ⟨c', cap', R ++ [r]⟩ ⟨by simp -implicitDefEqProofs only [gx_R, List.length_append, List.length_singleton]; exact htk.symm, by simp -implicitDefEqProofs only [List.length_append, List.length_singleton]; omega, ?_⟩ ?_
      · simpa only [keys, goneL, gx_c, gx_cap, gx_R, List.map_append, List.map_cons, List.map_nil] using hk
      · have hne : rowR (R ++ [r]) ≠ [] := by simp [rowR]
        refine AllH_app.2 ⟨?_, ?_⟩
        · refine drop_all hrow' ?_
          simp -implicitDefEqProofs only [keys, List.map_append, List.nodup_append, List.map_cons, List.map_nil, List.mem_cons] at hk
          exact fun hm => hk.2.2 _ hm _ (.inl rfl) rfl
        · have := upd_all (x' := .box 33 [.own c' 3 0 ((rowR R).length + 1) cap']) hbox (by simp -implicitDefEqProofs only [keys, List.map_append, List.nodup_append] at hk ⊢; exact hk.2.1)
          simp -implicitDefEqProofs only [gx_c, gx_cap, gx_R, rowV_ne hne, show (rowR (R ++ [r])).length = (rowR R).length + 1 by simp [rowR]]
          exact this
  · rintro ⟨c, cap, R⟩ ⟨hR, hm, hn⟩
    have hall := keepH_all hn
    simp -implicitDefEqProofs only [gx_R] at hR
    obtain ⟨H, hH⟩ : ∃ H, keepH (goneL b5 b3 bv m l ⟨c, cap, R⟩) = H := ⟨_, rfl⟩
    rw [hH] at hall ⊢
    simp -implicitDefEqProofs only [goneL, gx_c, gx_cap, gx_R] at hall hn
    obtain ⟨hrow, h5, h3, hv', _⟩ := AllH_app.1 hall
    rw [List.length_map] at hR hm
    rw [List.take_length] at hR
    simp -implicitDefEqProofs -proj only [go_sem, Nat.reduceBEq, Nat.reduceLT, Nat.reduceLeDiff, Nat.reduceAdd, Nat.reduceMul, ↓reduceIte, Int.reduceToNat, Int.reducePow, Int.reduceLT, Int.reduceLE, Int.reduceAdd, Int.reduceSub, Int.reduceMul, Int.reduceEq, Int.reduceNe, h5]
    rw [List.take_of_length_le hm, ← hR]
    exact rowV_new hrow rowR_scal
end Go.Proofs.Ytgfimmaligcgjaa.Abs
