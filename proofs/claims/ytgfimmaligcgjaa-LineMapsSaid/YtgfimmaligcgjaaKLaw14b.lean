/- The laws LineIs and LineMaps. No claim stands here. -/
import Derived.Test.YtgfimmaligcgjaaKCanon14
import Derived.Test.YtgfimmaligcgjaaKLaw14
set_option linter.unusedSimpArgs false
set_option linter.unusedVariables false
namespace Go.Proofs.Ytgfimmaligcgjaa.Abs
open Go Go.RowKit Go.Proofs
attribute [local go_sem] RunC_seq AF_n AF_r AF_b St_n St_t St_H Fst_mk Snd_mk RunC_ops RunC_cond RunC_block RunC_loop RunC_exit RunC_ret RunC_skip RunO_nil RunO_code RunO_code_ret RunO_code_exit RunO_blk RunO_blk_ret RunO_blk_exit RunL_nil RunL_guard GuardA_tt GuardA_ff GuardA_tf GuardA_ft GuardA_void CondA_t CondA_f PickA_t PickA_f RunL_mov RunL_pick RunL_alloc RunL_box RunL_load LoadA_ptr LoadB_1 LoadB_n LoadA_dptr LoadA_dptr_n RunL_store StoreA_ptr StoreB_box RunL_bin Bin_add Bin_sub Bin_mul Bin_quo Bin_rem Bin_shl Bin_shr Bin_andI Bin_orI Bin_xorI Bin_eql Bin_neq Bin_lss Bin_leq Bin_gtr Bin_geq RunL_binb Bin_beql Bin_bneq RunL_un UnA_not UnA_neg RunL_conv convV MapA_some RunL_nilCheck nilV RunL_mkfn RunL_fieldAddr faV RunL_field FieldA_1 FieldA_n RunL_elemAddr EAddrA_sl EAddrA_own EptrA_eq RunL_build BuildA_some RunL_extract ExtA_eq RunL_len lenV_sl lenV_nilsl lenV_own RunL_slen RunL_idxStr IdxSA_eq slenV RunL_minmax mmV minmaxL RunL_call RunL_callv CallvA_fn putS ev evL evO evP eqK eqKs EqB_agg RunL_eqAgg EqA_t EqA_f evQ buildC fits_agg cellsAV_agg fits_d cellsAV_d fits_nilp cellsAV_nilp fits_nilsl cellsAV_nilsl fits_nilfn cellsAV_nilfn fits_ptr cellsAV_ptr fits_eptr cellsAV_eptr fits_dptr cellsAV_dptr fits_own cellsAV_own fits_fn cellsAV_fn rowV_fits rowV_cells rowV_len lenAV setSeg nth seg mapD repeatL putT_get upd_get argT keepT_cons keepT_nil keepH_cons keepH_nil cond_true cond_false VC_true finW resW resL resOne LoopQ_exit LoopQ_ret List.cons_append List.nil_append Bool.not_true Bool.not_false Bool.and_true Bool.and_self Nat.lt_add_left_iff_pos Nat.zero_add Nat.add_zero List.drop_succ_cons List.drop_zero List.take_succ_cons List.take_zero beq_self_eq_true Bool.false_eq_true RunC_dops RunL_loadS RunL_storeS StoreSA_ptr RunL_pcall RunL_pcallv PCallvA_fn newsOk and_self and_true true_and loadW_ptr LoadK_1 LoadK_n upd_upd RunL_buildSlice BSliceA_some RunL_buildSliceD frzL frz cutL LoadA_eptr LoadE_row RunL_append RunL_slice SliceA_sl StoreA_eptr List.length_cons List.length_nil Nat.min_def Int.cast_ofNat_Int Int.natCast_zero Int.natCast_one decide_true decide_false List.getElem?_cons_zero List.getElem?_cons_succ RunC_rangef CallvA_yld putL_nil putL_cons RangeQ_exit RangeQ_ret
theorem lend_line0 {H : Heap} : LendV H (.agg [.nilsl 3]) (lineV []) := by
  refine .agg _ _ rfl fun j x y h1 h2 => ?_
  cases j with
  | zero => cases h1; cases h2; exact .nilsl _ _
  | succ j => cases h1
set_option maxRecDepth 20000 in
theorem LineIs_ok {a m : Int} {l : List Int} (hfa : Fit a) (hfl : AllFit l) (hlen : l.length ≤ 9223372036854775807) (hfm : Fit m) : DataW Try.prog f_poundagelaw14_LineIs [i64 a, slI l, i64 m] (bv true) := by
  refine CallW_intro comp_poundagelaw14_LineIs (by simp) ?_
  simp -implicitDefEqProofs -proj only [go_sem, Nat.reduceBEq, Nat.reduceLT, Nat.reduceLeDiff, Nat.reduceAdd, Nat.reduceMul, ↓reduceIte, Int.reduceToNat, Int.reducePow, Int.reduceLT, Int.reduceLE, Int.reduceAdd, Int.reduceSub, Int.reduceMul, Int.reduceEq, Int.reduceNe]
  refine CallA_pure alive14_ok ?_
  simp -implicitDefEqProofs -proj only [go_sem, Nat.reduceBEq, Nat.reduceLT, Nat.reduceLeDiff, Nat.reduceAdd, Nat.reduceMul, ↓reduceIte, Int.reduceToNat, Int.reducePow, Int.reduceLT, Int.reduceLE, Int.reduceAdd, Int.reduceSub, Int.reduceMul, Int.reduceEq, Int.reduceNe]
  refine CallA_pure (great_ok hlen) ?_
  by_cases hg : 1048576 < a ∨ a < -1048576 ∨ 300 < (l.length : Int)
  · rw [decide_eq_true hg]
    simp -implicitDefEqProofs -proj only [go_sem, Nat.reduceBEq, Nat.reduceLT, Nat.reduceLeDiff, Nat.reduceAdd, Nat.reduceMul, ↓reduceIte, Int.reduceToNat, Int.reducePow, Int.reduceLT, Int.reduceLE, Int.reduceAdd, Int.reduceSub, Int.reduceMul, Int.reduceEq, Int.reduceNe]
    exact LendV_eq rfl
  rw [decide_eq_false hg]
  have hof := Of_ok (from' := a) (l := l) (by omega) (by omega)
  have hsame := same_ok (f := a) (l := l) (by omega) (by omega)
  have hrr := (RefRuns_new (f := a) (l := l) (by omega) (by omega)).data
  have hRl := runsN_len (from' := a) (l := l) l.length
  have hgone := gone_ok (l := runs a l) (m := m) (by show (runsN a l l.length).length ≤ _; omega)
  have hof7 := Of_new (from' := 7) (l := []) (by omega) (by simp)
  have hg9 := gone_ok (l := []) (m := 9) (by simp)
  rw [List.take_nil] at hg9
  have heq := Equal_ok (a := []) (b := runs 7 []) (by simp) (by simp [runs, runsN])
  rw [decide_eq_true (show [] = runs 7 [] from rfl)] at heq
  obtain ⟨R, hR⟩ : ∃ R, runs a l = R := ⟨_, rfl⟩
  rw [hR] at hof hsame hrr hgone
  rw [show runsN a l l.length = R from hR] at hRl
  simp -implicitDefEqProofs -proj only [go_sem, Nat.reduceBEq, Nat.reduceLT, Nat.reduceLeDiff, Nat.reduceAdd, Nat.reduceMul, ↓reduceIte, Int.reduceToNat, Int.reducePow, Int.reduceLT, Int.reduceLE, Int.reduceAdd, Int.reduceSub, Int.reduceMul, Int.reduceEq, Int.reduceNe]
  refine CallA_pure hof ?_
  simp -implicitDefEqProofs -proj only [go_sem, Nat.reduceBEq, Nat.reduceLT, Nat.reduceLeDiff, Nat.reduceAdd, Nat.reduceMul, ↓reduceIte, Int.reduceToNat, Int.reducePow, Int.reduceLT, Int.reduceLE, Int.reduceAdd, Int.reduceSub, Int.reduceMul, Int.reduceEq, Int.reduceNe]
  refine AllocA_intro (fun b7 hb7 => ?_)
  simp -implicitDefEqProofs -proj only [go_sem, Nat.reduceBEq, Nat.reduceLT, Nat.reduceLeDiff, Nat.reduceAdd, Nat.reduceMul, ↓reduceIte, Int.reduceToNat, Int.reducePow, Int.reduceLT, Int.reduceLE, Int.reduceAdd, Int.reduceSub, Int.reduceMul, Int.reduceEq, Int.reduceNe]
  refine AllocA_intro (fun b8 hb8 => ?_)
  have a7 := alloc_all (x := .box 35 [.nilsl 3]) hb7 (l := []) trivial
  replace hb8 : upd Heap.none b7 _ b8 = none := hb8
  obtain ⟨n1, n2⟩ := fresh_ne hb8 upd_eq
  simp -implicitDefEqProofs -proj only [go_sem, Nat.reduceBEq, Nat.reduceLT, Nat.reduceLeDiff, Nat.reduceAdd, Nat.reduceMul, ↓reduceIte, Int.reduceToNat, Int.reducePow, Int.reduceLT, Int.reduceLE, Int.reduceAdd, Int.reduceSub, Int.reduceMul, Int.reduceEq, Int.reduceNe, n1, n2]
  refine AllocA_intro (fun b9 hb9 => ?_)
  replace hb9 : upd (upd Heap.none b7 _) b8 _ b9 = none := hb9
  obtain ⟨n3, n4⟩ := fresh_ne hb9 upd_eq
  obtain ⟨n5, n6⟩ := fresh_ne hb9 (by rw [upd_ne n1, upd_eq])
  simp -implicitDefEqProofs -proj only [go_sem, Nat.reduceBEq, Nat.reduceLT, Nat.reduceLeDiff, Nat.reduceAdd, Nat.reduceMul, ↓reduceIte, Int.reduceToNat, Int.reducePow, Int.reduceLT, Int.reduceLE, Int.reduceAdd, Int.reduceSub, Int.reduceMul, Int.reduceEq, Int.reduceNe, n1, n2, n3, n4, n5, n6]
  (repeat' (with_reducible refine VC_intro ?_ (fun h => ?_); (focus first | decide | omega); clear h; try simp -implicitDefEqProofs -proj only [go_sem, Nat.reduceBEq, Nat.reduceLT, Nat.reduceLeDiff, Nat.reduceAdd, Nat.reduceMul, ↓reduceIte, Int.reduceToNat, Int.reducePow, Int.reduceLT, Int.reduceLE, Int.reduceAdd, Int.reduceSub, Int.reduceMul, Int.reduceEq, Int.reduceNe, eq_self, n1, n2, n3, n4, n5, n6]))
  refine CallA_lend (Count_ok (a := [])) (lend_cons lend_line0 lend_nil) rfl ?_
  simp -implicitDefEqProofs -proj only [go_sem, Nat.reduceBEq, Nat.reduceLT, Nat.reduceLeDiff, Nat.reduceAdd, Nat.reduceMul, ↓reduceIte, Int.reduceToNat, Int.reducePow, Int.reduceLT, Int.reduceLE, Int.reduceAdd, Int.reduceSub, Int.reduceMul, Int.reduceEq, Int.reduceNe, n1, n2, n3, n4, n5, n6, decide_eq_true (show ((0 : Nat) : Int) = 0 from rfl)]
  (repeat' (with_reducible refine VC_intro ?_ (fun h => ?_); (focus first | decide | omega); clear h; try simp -implicitDefEqProofs -proj only [go_sem, Nat.reduceBEq, Nat.reduceLT, Nat.reduceLeDiff, Nat.reduceAdd, Nat.reduceMul, ↓reduceIte, Int.reduceToNat, Int.reducePow, Int.reduceLT, Int.reduceLE, Int.reduceAdd, Int.reduceSub, Int.reduceMul, Int.reduceEq, Int.reduceNe, eq_self, n1, n2, n3, n4, n5, n6]))
  refine CallA_new hg9 (lend_cons lend_line0 (lend_cons (.refl _) lend_nil)) ?_
  simp -implicitDefEqProofs -proj only [go_sem, Nat.reduceBEq, Nat.reduceLT, Nat.reduceLeDiff, Nat.reduceAdd, Nat.reduceMul, ↓reduceIte, Int.reduceToNat, Int.reducePow, Int.reduceLT, Int.reduceLE, Int.reduceAdd, Int.reduceSub, Int.reduceMul, Int.reduceEq, Int.reduceNe, n1, n2, n3, n4, n5, n6, rowR_len, decide_eq_true (show ((0 : Nat) : Int) = 0 from rfl)]
  (repeat' (with_reducible refine VC_intro ?_ (fun h => ?_); (focus first | decide | omega); clear h; try simp -implicitDefEqProofs -proj only [go_sem, Nat.reduceBEq, Nat.reduceLT, Nat.reduceLeDiff, Nat.reduceAdd, Nat.reduceMul, ↓reduceIte, Int.reduceToNat, Int.reducePow, Int.reduceLT, Int.reduceLE, Int.reduceAdd, Int.reduceSub, Int.reduceMul, Int.reduceEq, Int.reduceNe, eq_self, n1, n2, n3, n4, n5, n6]))
  refine PCallA_new hof7 (lend_cons (.refl _) (lend_cons (.nilsl _ _) lend_nil)) ?_
  simp -implicitDefEqProofs -proj only [go_sem, Nat.reduceBEq, Nat.reduceLT, Nat.reduceLeDiff, Nat.reduceAdd, Nat.reduceMul, ↓reduceIte, Int.reduceToNat, Int.reducePow, Int.reduceLT, Int.reduceLE, Int.reduceAdd, Int.reduceSub, Int.reduceMul, Int.reduceEq, Int.reduceNe]
  refine CallA_lend heq (lend_cons lend_line0 (lend_cons (.refl _) lend_nil)) rfl ?_
  simp -implicitDefEqProofs -proj only [go_sem, Nat.reduceBEq, Nat.reduceLT, Nat.reduceLeDiff, Nat.reduceAdd, Nat.reduceMul, ↓reduceIte, Int.reduceToNat, Int.reducePow, Int.reduceLT, Int.reduceLE, Int.reduceAdd, Int.reduceSub, Int.reduceMul, Int.reduceEq, Int.reduceNe, n1, n2, n3, n4, n5, n6]
  (repeat' (with_reducible refine VC_intro ?_ (fun h => ?_); (focus first | decide | omega); clear h; try simp -implicitDefEqProofs -proj only [go_sem, Nat.reduceBEq, Nat.reduceLT, Nat.reduceLeDiff, Nat.reduceAdd, Nat.reduceMul, ↓reduceIte, Int.reduceToNat, Int.reducePow, Int.reduceLT, Int.reduceLE, Int.reduceAdd, Int.reduceSub, Int.reduceMul, Int.reduceEq, Int.reduceNe, eq_self, n1, n2, n3, n4, n5, n6]))
  refine CallA_pure hsame ?_
  simp -implicitDefEqProofs -proj only [go_sem, Nat.reduceBEq, Nat.reduceLT, Nat.reduceLeDiff, Nat.reduceAdd, Nat.reduceMul, ↓reduceIte, Int.reduceToNat, Int.reducePow, Int.reduceLT, Int.reduceLE, Int.reduceAdd, Int.reduceSub, Int.reduceMul, Int.reduceEq, Int.reduceNe, n1, n2, n3, n4, n5, n6]
  (repeat' (with_reducible refine VC_intro ?_ (fun h => ?_); (focus first | decide | omega); clear h; try simp -implicitDefEqProofs -proj only [go_sem, Nat.reduceBEq, Nat.reduceLT, Nat.reduceLeDiff, Nat.reduceAdd, Nat.reduceMul, ↓reduceIte, Int.reduceToNat, Int.reducePow, Int.reduceLT, Int.reduceLE, Int.reduceAdd, Int.reduceSub, Int.reduceMul, Int.reduceEq, Int.reduceNe, eq_self, n1, n2, n3, n4, n5, n6]))
  refine PCallA_pure hgone.data ?_
  simp -implicitDefEqProofs -proj only [go_sem, Nat.reduceBEq, Nat.reduceLT, Nat.reduceLeDiff, Nat.reduceAdd, Nat.reduceMul, ↓reduceIte, Int.reduceToNat, Int.reducePow, Int.reduceLT, Int.reduceLE, Int.reduceAdd, Int.reduceSub, Int.reduceMul, Int.reduceEq, Int.reduceNe, n1, n2, n3, n4, n5, n6, rowR_len]
  (repeat' (with_reducible refine VC_intro ?_ (fun h => ?_); (focus first | decide | omega); clear h; try simp -implicitDefEqProofs -proj only [go_sem, Nat.reduceBEq, Nat.reduceLT, Nat.reduceLeDiff, Nat.reduceAdd, Nat.reduceMul, ↓reduceIte, Int.reduceToNat, Int.reducePow, Int.reduceLT, Int.reduceLE, Int.reduceAdd, Int.reduceSub, Int.reduceMul, Int.reduceEq, Int.reduceNe, eq_self, n1, n2, n3, n4, n5, n6]))
  refine CallA_pure hrr ?_
  have hmin : ((R.take m.toNat).length : Int) = min (max m 0) R.length := by rw [List.length_take]; omega
  simp -implicitDefEqProofs -proj only [go_sem, Nat.reduceBEq, Nat.reduceLT, Nat.reduceLeDiff, Nat.reduceAdd, Nat.reduceMul, ↓reduceIte, Int.reduceToNat, Int.reducePow, Int.reduceLT, Int.reduceLE, Int.reduceAdd, Int.reduceSub, Int.reduceMul, Int.reduceEq, Int.reduceNe, n1, n2, n3, n4, n5, n6, rowR_len, decide_eq_true hmin]
  exact LendV_eq rfl
def halfI (v : Int) : Int := IntKind.i64.wrap (v.tdiv 2)
theorem Maps1_ok (v : Int) : DataW Try.prog f_poundagelaw14_LineMaps_1 [i64 v] (i64 (halfI v)) := by
  refine CallW_intro comp_poundagelaw14_LineMaps_1 (by simp) ?_
  simp -implicitDefEqProofs -proj only [go_sem, Nat.reduceBEq, Nat.reduceLT, Nat.reduceLeDiff, Nat.reduceAdd, Nat.reduceMul, ↓reduceIte, Int.reduceToNat, Int.reducePow, Int.reduceLT, Int.reduceLE, Int.reduceAdd, Int.reduceSub, Int.reduceMul, Int.reduceEq, Int.reduceNe]
  (repeat' (with_reducible refine VC_intro ?_ (fun h => ?_); (focus first | decide | omega); clear h; try simp -implicitDefEqProofs -proj only [go_sem, Nat.reduceBEq, Nat.reduceLT, Nat.reduceLeDiff, Nat.reduceAdd, Nat.reduceMul, ↓reduceIte, Int.reduceToNat, Int.reducePow, Int.reduceLT, Int.reduceLE, Int.reduceAdd, Int.reduceSub, Int.reduceMul, Int.reduceEq, Int.reduceNe, eq_self]))
  exact LendV_eq rfl
def mapsL (l k : List Int) (b7 b8 : Nat) (R S : List Run) (y : BackX) : List (Nat × Blk) := rowH 3 1 y.c y.cap (rowI ((l.take y.i).map halfI)) ++ [(b8, .box 35 [slR S]), (b7, .box 35 [slR R])]
set_option maxRecDepth 20000 in
theorem LineMaps_ok {a : Int} {l k : List Int} (hfa : Fit a) (hfl : AllFit l) (hlen : l.length ≤ 9223372036854775807) (hfk : AllFit k) (hlenk : k.length ≤ 9223372036854775807) : DataW Try.prog f_poundagelaw14_LineMaps [i64 a, slI l, slI k] (bv true) := by
  refine CallW_intro comp_poundagelaw14_LineMaps (by simp) ?_
  simp -implicitDefEqProofs -proj only [go_sem, Nat.reduceBEq, Nat.reduceLT, Nat.reduceLeDiff, Nat.reduceAdd, Nat.reduceMul, ↓reduceIte, Int.reduceToNat, Int.reducePow, Int.reduceLT, Int.reduceLE, Int.reduceAdd, Int.reduceSub, Int.reduceMul, Int.reduceEq, Int.reduceNe]
  refine CallA_pure alive14_ok ?_
  simp -implicitDefEqProofs -proj only [go_sem, Nat.reduceBEq, Nat.reduceLT, Nat.reduceLeDiff, Nat.reduceAdd, Nat.reduceMul, ↓reduceIte, Int.reduceToNat, Int.reducePow, Int.reduceLT, Int.reduceLE, Int.reduceAdd, Int.reduceSub, Int.reduceMul, Int.reduceEq, Int.reduceNe]
  refine CallA_pure (great_ok hlen) ?_
  by_cases hg : 1048576 < a ∨ a < -1048576 ∨ 300 < (l.length : Int)
  · rw [decide_eq_true hg]
    simp -implicitDefEqProofs -proj only [go_sem, Nat.reduceBEq, Nat.reduceLT, Nat.reduceLeDiff, Nat.reduceAdd, Nat.reduceMul, ↓reduceIte, Int.reduceToNat, Int.reducePow, Int.reduceLT, Int.reduceLE, Int.reduceAdd, Int.reduceSub, Int.reduceMul, Int.reduceEq, Int.reduceNe]
    exact LendV_eq rfl
  rw [decide_eq_false hg]
  simp -implicitDefEqProofs -proj only [go_sem, Nat.reduceBEq, Nat.reduceLT, Nat.reduceLeDiff, Nat.reduceAdd, Nat.reduceMul, ↓reduceIte, Int.reduceToNat, Int.reducePow, Int.reduceLT, Int.reduceLE, Int.reduceAdd, Int.reduceSub, Int.reduceMul, Int.reduceEq, Int.reduceNe]
  refine CallA_pure (great_ok hlenk) ?_
  by_cases hg2 : 1048576 < a ∨ a < -1048576 ∨ 300 < (k.length : Int)
  · rw [decide_eq_true hg2]
    simp -implicitDefEqProofs -proj only [go_sem, Nat.reduceBEq, Nat.reduceLT, Nat.reduceLeDiff, Nat.reduceAdd, Nat.reduceMul, ↓reduceIte, Int.reduceToNat, Int.reducePow, Int.reduceLT, Int.reduceLE, Int.reduceAdd, Int.reduceSub, Int.reduceMul, Int.reduceEq, Int.reduceNe]
    exact LendV_eq rfl
  rw [decide_eq_false hg2]
  have hof := Of_ok (from' := a) (l := l) (by omega) (by omega)
  have hofk := Of_ok (from' := a) (l := k) (by omega) (by omega)
  have hsame := same_ok (f := a) (l := l.map halfI) (by omega) (by rw [List.length_map]; omega)
  have hRl := runsN_len (from' := a) (l := l) l.length
  have hSl := runsN_len (from' := a) (l := k) k.length
  have hmap := (Map_new (l := runs a l) (g := halfI) (fun v => Maps1_ok v) (by show (runsN a l l.length).length ≤ _; omega)).data
  rw [map_runs] at hmap
  have heq := Equal_ok (a := runs a l) (b := runs a k) (by show (runsN a l l.length).length ≤ _; omega) (by show (runsN a k k.length).length ≤ _; omega)
  rw [show decide (runs a l = runs a k) = decide (l = k) from decide_eq_decide.2 runs_inj] at heq
  obtain ⟨M, hM⟩ : ∃ M, runs a (l.map halfI) = M := ⟨_, rfl⟩
  rw [hM] at hsame hmap
  obtain ⟨R, hR⟩ : ∃ R, runs a l = R := ⟨_, rfl⟩
  obtain ⟨S, hS⟩ : ∃ S, runs a k = S := ⟨_, rfl⟩
  rw [hR] at hof hmap heq
  rw [hS] at hofk heq
  simp -implicitDefEqProofs -proj only [go_sem, Nat.reduceBEq, Nat.reduceLT, Nat.reduceLeDiff, Nat.reduceAdd, Nat.reduceMul, ↓reduceIte, Int.reduceToNat, Int.reducePow, Int.reduceLT, Int.reduceLE, Int.reduceAdd, Int.reduceSub, Int.reduceMul, Int.reduceEq, Int.reduceNe]
  refine CallA_pure hof ?_
  simp -implicitDefEqProofs -proj only [go_sem, Nat.reduceBEq, Nat.reduceLT, Nat.reduceLeDiff, Nat.reduceAdd, Nat.reduceMul, ↓reduceIte, Int.reduceToNat, Int.reducePow, Int.reduceLT, Int.reduceLE, Int.reduceAdd, Int.reduceSub, Int.reduceMul, Int.reduceEq, Int.reduceNe]
  refine CallA_pure hofk ?_
  simp -implicitDefEqProofs -proj only [go_sem, Nat.reduceBEq, Nat.reduceLT, Nat.reduceLeDiff, Nat.reduceAdd, Nat.reduceMul, ↓reduceIte, Int.reduceToNat, Int.reducePow, Int.reduceLT, Int.reduceLE, Int.reduceAdd, Int.reduceSub, Int.reduceMul, Int.reduceEq, Int.reduceNe]
  refine AllocA_intro (fun b7 hb7 => ?_)
  simp -implicitDefEqProofs -proj only [go_sem, Nat.reduceBEq, Nat.reduceLT, Nat.reduceLeDiff, Nat.reduceAdd, Nat.reduceMul, ↓reduceIte, Int.reduceToNat, Int.reducePow, Int.reduceLT, Int.reduceLE, Int.reduceAdd, Int.reduceSub, Int.reduceMul, Int.reduceEq, Int.reduceNe]
  refine AllocA_intro (fun b8 hb8 => ?_)
  replace hb8 : upd Heap.none b7 _ b8 = none := hb8
  obtain ⟨n1, n2⟩ := fresh_ne hb8 upd_eq
  simp -implicitDefEqProofs -proj only [go_sem, Nat.reduceBEq, Nat.reduceLT, Nat.reduceLeDiff, Nat.reduceAdd, Nat.reduceMul, ↓reduceIte, Int.reduceToNat, Int.reducePow, Int.reduceLT, Int.reduceLE, Int.reduceAdd, Int.reduceSub, Int.reduceMul, Int.reduceEq, Int.reduceNe, n1, n2, rowI_len]
  refine LoopA_k (fun y : BackX => y.i ≤ l.length ∧ (keys (mapsL l k b7 b8 R S y)).Nodup) 77 (fun y => [(35, slI l), (36, i64 l.length), (37, i64 y.i), (0, i64 a), (2, slI k), (7, .ptr b7 0), (8, .ptr b8 0), (9, bv (decide (l.length = k.length ∧ l.take y.i = k.take y.i))), (10, rowV 0 1 y.c y.cap (rowI ((l.take y.i).map halfI)))]) (mapsL l k b7 b8 R S) (fun y => l.length - y.i) ⟨0, 0, 0⟩ ⟨Nat.zero_le _, by simp [keys, mapsL, bx_i, rowI, rowH, n1, n2]⟩ rfl ?_ ?_ ?_
  · simp -implicitDefEqProofs -proj only [go_sem, Nat.reduceBEq, Nat.reduceLT, Nat.reduceLeDiff, Nat.reduceAdd, Nat.reduceMul, ↓reduceIte, Int.reduceToNat, Int.reducePow, Int.reduceLT, Int.reduceLE, Int.reduceAdd, Int.reduceSub, Int.reduceMul, Int.reduceEq, Int.reduceNe, AllAt, bx_i, bx_c, bx_cap, rowI_len]
    refine ⟨?_, rfl⟩
    simp [Int.natCast_inj]
  · simp -implicitDefEqProofs -proj only [go_sem, Nat.reduceBEq, Nat.reduceLT, Nat.reduceLeDiff, Nat.reduceAdd, Nat.reduceMul, ↓reduceIte, Int.reduceToNat, Int.reducePow, Int.reduceLT, Int.reduceLE, Int.reduceAdd, Int.reduceSub, Int.reduceMul, Int.reduceEq, Int.reduceNe, AllH, mapsL, bx_i, bx_c, bx_cap, rowI, List.map_nil, rowH_nil, n1, n2]
  · rintro ⟨i, c, cap⟩ ⟨hi, hn⟩
    simp -implicitDefEqProofs only [bx_i] at hi
    have hall := keepH_all hn
    obtain ⟨H, hH⟩ : ∃ H, keepH (mapsL l k b7 b8 R S ⟨i, c, cap⟩) = H := ⟨_, rfl⟩
    rw [hH] at hall
    simp -implicitDefEqProofs only [mapsL, bx_i, bx_c, bx_cap] at hall hn
    obtain ⟨hrow, h8, h7, _⟩ := AllH_app.1 hall
    simp -implicitDefEqProofs -proj only [go_sem, Nat.reduceBEq, Nat.reduceLT, Nat.reduceLeDiff, Nat.reduceAdd, Nat.reduceMul, ↓reduceIte, Int.reduceToNat, Int.reducePow, Int.reduceLT, Int.reduceLE, Int.reduceAdd, Int.reduceSub, Int.reduceMul, Int.reduceEq, Int.reduceNe, bx_i, bx_c, bx_cap, hH]
    by_cases h : i < l.length
    · have hel := rowI_nth h
      have htk : (l.take (i + 1)).map halfI = (l.take i).map halfI ++ [halfI l[i]] := by rw [List.take_succ_eq_append_getElem h, List.map_append]; rfl
      have htk2 : l.take (i + 1) = l.take i ++ [l[i]] := List.take_succ_eq_append_getElem h
      have hml : (rowI ((l.take i).map halfI)).length = i := by rw [rowI_len, List.length_map, List.length_take]; omega
      generalize l[i] = x at *
      simp -implicitDefEqProofs -proj only [go_sem, Nat.reduceBEq, Nat.reduceLT, Nat.reduceLeDiff, Nat.reduceAdd, Nat.reduceMul, ↓reduceIte, Int.reduceToNat, Int.reducePow, Int.reduceLT, Int.reduceLE, Int.reduceAdd, Int.reduceSub, Int.reduceMul, Int.reduceEq, Int.reduceNe, decide_eq_true (show (i : Int) < l.length by omega)]
      refine ElemA_at _ (by omega) hel ?_
      simp -implicitDefEqProofs -proj only [go_sem, Nat.reduceBEq, Nat.reduceLT, Nat.reduceLeDiff, Nat.reduceAdd, Nat.reduceMul, ↓reduceIte, Int.reduceToNat, Int.reducePow, Int.reduceLT, Int.reduceLE, Int.reduceAdd, Int.reduceSub, Int.reduceMul, Int.reduceEq, Int.reduceNe]
      by_cases hE : l.length = k.length ∧ l.take i = k.take i
      · have hik : i < k.length := by omega
        have helk := rowI_nth hik
        have htk3 : k.take (i + 1) = k.take i ++ [k[i]] := List.take_succ_eq_append_getElem hik
        have hiff : (l.length = k.length ∧ l.take (i + 1) = k.take (i + 1)) ↔ k[i] = x := by
          rw [htk2, htk3, hE.2, List.append_cancel_left_eq, List.cons.injEq]
          exact ⟨fun h => h.2.1.symm, fun h => ⟨hE.1, h.symm, rfl⟩⟩
        generalize k[i] = z at *
        simp -implicitDefEqProofs -proj only [go_sem, Nat.reduceBEq, Nat.reduceLT, Nat.reduceLeDiff, Nat.reduceAdd, Nat.reduceMul, ↓reduceIte, Int.reduceToNat, Int.reducePow, Int.reduceLT, Int.reduceLE, Int.reduceAdd, Int.reduceSub, Int.reduceMul, Int.reduceEq, Int.reduceNe, decide_eq_true hE, rowI_len, decide_eq_true (show (i : Int) < k.length by omega)]
        refine ElemA_at _ (by omega) helk ?_
        have hfin : decide (l.length = k.length ∧ l.take (i + 1) = k.take (i + 1)) = decide (z = x) := decide_eq_decide.2 hiff
        simp -implicitDefEqProofs -proj only [go_sem, Nat.reduceBEq, Nat.reduceLT, Nat.reduceLeDiff, Nat.reduceAdd, Nat.reduceMul, ↓reduceIte, Int.reduceToNat, Int.reducePow, Int.reduceLT, Int.reduceLE, Int.reduceAdd, Int.reduceSub, Int.reduceMul, Int.reduceEq, Int.reduceNe]
        (repeat' (with_reducible refine VC_intro ?_ (fun h => ?_); (focus first | decide | omega); clear h; try simp -implicitDefEqProofs -proj only [go_sem, Nat.reduceBEq, Nat.reduceLT, Nat.reduceLeDiff, Nat.reduceAdd, Nat.reduceMul, ↓reduceIte, Int.reduceToNat, Int.reducePow, Int.reduceLT, Int.reduceLE, Int.reduceAdd, Int.reduceSub, Int.reduceMul, Int.reduceEq, Int.reduceNe, eq_self]))
        rw [show IntKind.i64.wrap (x.tdiv 2) = halfI x from rfl]
        refine AllocR_intro (fun bs hs => ?_)
        simp -implicitDefEqProofs -proj only [go_sem, Nat.reduceBEq, Nat.reduceLT, Nat.reduceLeDiff, Nat.reduceAdd, Nat.reduceMul, ↓reduceIte, Int.reduceToNat, Int.reducePow, Int.reduceLT, Int.reduceLE, Int.reduceAdd, Int.reduceSub, Int.reduceMul, Int.reduceEq, Int.reduceNe]
        refine AppendA_grow (xs := rowI ((l.take i).map halfI)) (y := [.int .i64 (halfI x)]) (t := 3) (capc := 1) [(b8, .box 35 [slR S]), (b7, .box 35 [slR R])] rfl (AllH_upd hs hall) hn (by simp -implicitDefEqProofs -proj only [go_sem, Nat.reduceBEq, Nat.reduceLT, Nat.reduceLeDiff, Nat.reduceAdd, Nat.reduceMul, ↓reduceIte, Int.reduceToNat, Int.reducePow, Int.reduceLT, Int.reduceLE, Int.reduceAdd, Int.reduceSub, Int.reduceMul, Int.reduceEq, Int.reduceNe]) (by rw [hml]; omega) (by rw [hml]; omega) (fun H' c' cap' ha hk => ?_)
        rw [show rowI ((l.take i).map halfI) ++ [[.int .i64 (halfI x)]] = rowI ((l.take (i + 1)).map halfI) by rw [htk]; simp [rowI]] at ha hk
        have hne : rowI ((l.take (i + 1)).map halfI) ≠ [] := by rw [htk]; simp [rowI]
        have hml2 : (rowI ((l.take (i + 1)).map halfI)).length = i + 1 := by rw [rowI_len, List.length_map, List.length_take]; omega
        simp -implicitDefEqProofs -proj only [go_sem, Nat.reduceBEq, Nat.reduceLT, Nat.reduceLeDiff, Nat.reduceAdd, Nat.reduceMul, ↓reduceIte, Int.reduceToNat, Int.reducePow, Int.reduceLT, Int.reduceLE, Int.reduceAdd, Int.reduceSub, Int.reduceMul, Int.reduceEq, Int.reduceNe]
        refine LoopQ_k ⟨i + 1, c', cap'⟩ ⟨by show i + 1 ≤ l.length; omega, hk⟩ (by show l.length - (i + 1) < l.length - i; omega) rfl ?_ ha
        simp -implicitDefEqProofs -proj only [go_sem, Nat.reduceBEq, Nat.reduceLT, Nat.reduceLeDiff, Nat.reduceAdd, Nat.reduceMul, ↓reduceIte, Int.reduceToNat, Int.reducePow, Int.reduceLT, Int.reduceLE, Int.reduceAdd, Int.reduceSub, Int.reduceMul, Int.reduceEq, Int.reduceNe, AllAt, bx_i, bx_c, bx_cap, i64_succ (show i < 9223372036854775807 by omega), rowV_ne hne, hml, hml2, hfin]
      · have hfin : decide (l.length = k.length ∧ l.take (i + 1) = k.take (i + 1)) = false := decide_eq_false (fun h => hE ⟨h.1, by
          have h2 := congrArg (List.take i) h.2
          rw [List.take_take, List.take_take] at h2
          simpa [Nat.min_eq_left (Nat.le_succ i)] using h2⟩)
        simp -implicitDefEqProofs -proj only [go_sem, Nat.reduceBEq, Nat.reduceLT, Nat.reduceLeDiff, Nat.reduceAdd, Nat.reduceMul, ↓reduceIte, Int.reduceToNat, Int.reducePow, Int.reduceLT, Int.reduceLE, Int.reduceAdd, Int.reduceSub, Int.reduceMul, Int.reduceEq, Int.reduceNe, decide_eq_false hE]
        (repeat' (with_reducible refine VC_intro ?_ (fun h => ?_); (focus first | decide | omega); clear h; try simp -implicitDefEqProofs -proj only [go_sem, Nat.reduceBEq, Nat.reduceLT, Nat.reduceLeDiff, Nat.reduceAdd, Nat.reduceMul, ↓reduceIte, Int.reduceToNat, Int.reducePow, Int.reduceLT, Int.reduceLE, Int.reduceAdd, Int.reduceSub, Int.reduceMul, Int.reduceEq, Int.reduceNe, eq_self]))
        rw [show IntKind.i64.wrap (x.tdiv 2) = halfI x from rfl]
        refine AllocR_intro (fun bs hs => ?_)
        simp -implicitDefEqProofs -proj only [go_sem, Nat.reduceBEq, Nat.reduceLT, Nat.reduceLeDiff, Nat.reduceAdd, Nat.reduceMul, ↓reduceIte, Int.reduceToNat, Int.reducePow, Int.reduceLT, Int.reduceLE, Int.reduceAdd, Int.reduceSub, Int.reduceMul, Int.reduceEq, Int.reduceNe]
        refine AppendA_grow (xs := rowI ((l.take i).map halfI)) (y := [.int .i64 (halfI x)]) (t := 3) (capc := 1) [(b8, .box 35 [slR S]), (b7, .box 35 [slR R])] rfl (AllH_upd hs hall) hn (by simp -implicitDefEqProofs -proj only [go_sem, Nat.reduceBEq, Nat.reduceLT, Nat.reduceLeDiff, Nat.reduceAdd, Nat.reduceMul, ↓reduceIte, Int.reduceToNat, Int.reducePow, Int.reduceLT, Int.reduceLE, Int.reduceAdd, Int.reduceSub, Int.reduceMul, Int.reduceEq, Int.reduceNe]) (by rw [hml]; omega) (by rw [hml]; omega) (fun H' c' cap' ha hk => ?_)
        rw [show rowI ((l.take i).map halfI) ++ [[.int .i64 (halfI x)]] = rowI ((l.take (i + 1)).map halfI) by rw [htk]; simp [rowI]] at ha hk
        have hne : rowI ((l.take (i + 1)).map halfI) ≠ [] := by rw [htk]; simp [rowI]
        have hml2 : (rowI ((l.take (i + 1)).map halfI)).length = i + 1 := by rw [rowI_len, List.length_map, List.length_take]; omega
        simp -implicitDefEqProofs -proj only [go_sem, Nat.reduceBEq, Nat.reduceLT, Nat.reduceLeDiff, Nat.reduceAdd, Nat.reduceMul, ↓reduceIte, Int.reduceToNat, Int.reducePow, Int.reduceLT, Int.reduceLE, Int.reduceAdd, Int.reduceSub, Int.reduceMul, Int.reduceEq, Int.reduceNe]
        refine LoopQ_k ⟨i + 1, c', cap'⟩ ⟨by show i + 1 ≤ l.length; omega, hk⟩ (by show l.length - (i + 1) < l.length - i; omega) rfl ?_ ha
        simp -implicitDefEqProofs -proj only [go_sem, Nat.reduceBEq, Nat.reduceLT, Nat.reduceLeDiff, Nat.reduceAdd, Nat.reduceMul, ↓reduceIte, Int.reduceToNat, Int.reducePow, Int.reduceLT, Int.reduceLE, Int.reduceAdd, Int.reduceSub, Int.reduceMul, Int.reduceEq, Int.reduceNe, AllAt, bx_i, bx_c, bx_cap, i64_succ (show i < 9223372036854775807 by omega), rowV_ne hne, hml, hml2, hfin]
    · have hi' : i = l.length := by omega
      subst hi'
      rw [List.take_length] at hrow
      have hiff : (l.length = k.length ∧ l = k.take l.length) ↔ l = k := by
        refine ⟨fun ⟨h1, h2⟩ => ?_, fun h => ?_⟩
        · rw [h1, List.take_length] at h2; exact h2
        · subst h; simp
      simp -implicitDefEqProofs -proj only [go_sem, Nat.reduceBEq, Nat.reduceLT, Nat.reduceLeDiff, Nat.reduceAdd, Nat.reduceMul, ↓reduceIte, Int.reduceToNat, Int.reducePow, Int.reduceLT, Int.reduceLE, Int.reduceAdd, Int.reduceSub, Int.reduceMul, Int.reduceEq, Int.reduceNe, decide_eq_false (show ¬ (l.length : Int) < l.length by omega), h7, List.take_length]
      refine CallA_pure hmap ?_
      simp -implicitDefEqProofs -proj only [go_sem, Nat.reduceBEq, Nat.reduceLT, Nat.reduceLeDiff, Nat.reduceAdd, Nat.reduceMul, ↓reduceIte, Int.reduceToNat, Int.reducePow, Int.reduceLT, Int.reduceLE, Int.reduceAdd, Int.reduceSub, Int.reduceMul, Int.reduceEq, Int.reduceNe]
      refine AllocA_intro (fun b13 hb13 => ?_)
      replace hb13 : H b13 = none := hb13
      obtain ⟨m1, m2⟩ := fresh_ne hb13 h7
      obtain ⟨m3, m4⟩ := fresh_ne hb13 h8
      simp -implicitDefEqProofs -proj only [go_sem, Nat.reduceBEq, Nat.reduceLT, Nat.reduceLeDiff, Nat.reduceAdd, Nat.reduceMul, ↓reduceIte, Int.reduceToNat, Int.reducePow, Int.reduceLT, Int.reduceLE, Int.reduceAdd, Int.reduceSub, Int.reduceMul, Int.reduceEq, Int.reduceNe, h7, h8, m1, m3]
      refine CallA_pure heq ?_
      rw [show decide (l.length = k.length ∧ l = k.take l.length) = decide (l = k) from decide_eq_decide.2 hiff]
      simp -implicitDefEqProofs -proj only [go_sem, Nat.reduceBEq, Nat.reduceLT, Nat.reduceLeDiff, Nat.reduceAdd, Nat.reduceMul, ↓reduceIte, Int.reduceToNat, Int.reducePow, Int.reduceLT, Int.reduceLE, Int.reduceAdd, Int.reduceSub, Int.reduceMul, Int.reduceEq, Int.reduceNe, h7, h8, m1, m3]
      refine CallA_lend hsame (lend_cons (.refl _) (lend_cons ?_ lend_nil)) rfl ?_
      · refine .agg _ _ rfl fun j x y h1 h2 => ?_
        match j with
        | 0 => cases h1; cases h2; exact .refl _
        | 1 => cases h1; cases h2; exact rowV_lend (AllH_upd hb13 hrow)
        | j + 2 => cases h1
      simp -implicitDefEqProofs -proj only [go_sem, Nat.reduceBEq, Nat.reduceLT, Nat.reduceLeDiff, Nat.reduceAdd, Nat.reduceMul, ↓reduceIte, Int.reduceToNat, Int.reducePow, Int.reduceLT, Int.reduceLE, Int.reduceAdd, Int.reduceSub, Int.reduceMul, Int.reduceEq, Int.reduceNe]
      exact LendV_eq rfl
end Go.Proofs.Ytgfimmaligcgjaa.Abs
