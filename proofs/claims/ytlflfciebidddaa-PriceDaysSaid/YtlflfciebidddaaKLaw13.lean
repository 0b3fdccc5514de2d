/- The laws PriceIs, PriceParts, PriceDays. No claim stands here. -/
import Derived.Test.YtlflfciebidddaaKCost13
set_option maxRecDepth 100000
set_option linter.unusedSimpArgs false
set_option linter.unusedVariables false
namespace Go.Proofs.Ytlflfciebidddaa.Abs
open Go Go.RowKit Go.Proofs
attribute [local go_sem] RunC_seq AF_n AF_r AF_b St_n St_t St_H Fst_mk Snd_mk RunC_ops RunC_cond RunC_block RunC_loop RunC_exit RunC_ret RunC_skip RunO_nil RunO_code RunO_code_ret RunO_code_exit RunO_blk RunO_blk_ret RunO_blk_exit RunL_nil RunL_guard GuardA_tt GuardA_ff GuardA_tf GuardA_ft GuardA_void CondA_t CondA_f PickA_t PickA_f RunL_mov RunL_pick RunL_alloc RunL_box RunL_load LoadA_ptr LoadB_1 LoadB_n LoadA_dptr LoadA_dptr_n RunL_store StoreA_ptr StoreB_box RunL_bin Bin_add Bin_sub Bin_mul Bin_quo Bin_rem Bin_shl Bin_shr Bin_andI Bin_orI Bin_xorI Bin_eql Bin_neq Bin_lss Bin_leq Bin_gtr Bin_geq RunL_binb Bin_beql Bin_bneq RunL_un UnA_not UnA_neg RunL_conv convV MapA_some RunL_nilCheck nilV RunL_mkfn RunL_fieldAddr faV RunL_field FieldA_1 FieldA_n RunL_elemAddr EAddrA_sl EAddrA_own EptrA_eq RunL_build BuildA_some RunL_extract ExtA_eq RunL_len lenV_sl lenV_nilsl lenV_own RunL_slen RunL_idxStr IdxSA_eq slenV RunL_minmax mmV minmaxL RunL_call RunL_callv CallvA_fn putS ev evL evO evP eqK eqKs EqB_agg RunL_eqAgg EqA_t EqA_f evQ buildC fits_agg cellsAV_agg fits_d cellsAV_d fits_nilp cellsAV_nilp fits_nilsl cellsAV_nilsl fits_nilfn cellsAV_nilfn fits_ptr cellsAV_ptr fits_eptr cellsAV_eptr fits_dptr cellsAV_dptr fits_own cellsAV_own fits_fn cellsAV_fn rowV_fits rowV_cells rowV_len lenAV setSeg nth seg mapD repeatL putT_get upd_get argT keepT_cons keepT_nil keepH_cons keepH_nil cond_true cond_false VC_true finW resW resL resOne LoopQ_exit LoopQ_ret List.cons_append List.nil_append Bool.not_true Bool.not_false Bool.and_true Bool.and_self Nat.lt_add_left_iff_pos Nat.zero_add Nat.add_zero List.drop_succ_cons List.drop_zero List.take_succ_cons List.take_zero beq_self_eq_true Bool.false_eq_true RunC_dops RunL_loadS RunL_loadD LoadDA_dptr RunL_storeS StoreSA_ptr RunL_pcall RunL_pcallv PCallvA_fn newsOk and_self and_true true_and loadW_ptr LoadK_1 LoadK_n upd_upd RunL_loadP LoadPA_ptr RunL_callS RunL_make RunL_buildSlice BSliceA_some RunL_buildSliceD frzL frz cutL LoadA_eptr LoadE_row RunL_append RunL_slice SliceA_sl StoreA_eptr List.length_cons List.length_nil Nat.min_def Int.cast_ofNat_Int Int.natCast_zero Int.natCast_one decide_true decide_false List.getElem?_cons_zero List.getElem?_cons_succ RunC_rangef CallvA_yld putL_nil putL_cons RangeQ_exit RangeQ_ret
theorem peel13 {H : Heap} {j k : Nat} {v : Blk} (h : upd H j (some v) k = none) : (¬ k = j ∧ ¬ j = k) ∧ H k = none := by
  rw [upd_get] at h
  split at h
  · cases h
  · next e => exact ⟨⟨fun h => e h.symm, e⟩, h⟩
def part13 : PartX := ⟨0, 0, 9, 0, 1, 1, [⟨0, 2000000⟩], 0, []⟩
def core13 : CoreX := ⟨⟨⟨[]⟩⟩, 0, 9, [⟨⟨⟨[109]⟩⟩, ⟨⟨[]⟩⟩, 5, 0, 0⟩], [⟨5, 0, 9⟩], [part13]⟩
theorem core13_fit : core13.Fit := by
  refine ⟨by decide, by decide, ?_, by decide, ?_, by decide, ?_, by decide⟩
  · intro a h
    rw [show core13.ms = [⟨⟨⟨[109]⟩⟩, ⟨⟨[]⟩⟩, 5, 0, 0⟩] from rfl, List.mem_singleton] at h
    subst h
    exact ⟨by decide, by decide, by decide⟩
  · intro a h
    rw [show core13.ss = [⟨5, 0, 9⟩] from rfl, List.mem_singleton] at h
    subst h
    exact ⟨by decide, by decide, by decide⟩
  · intro a h
    rw [show core13.ps = [part13] from rfl, List.mem_singleton] at h
    subst h
    refine ⟨by decide, by decide, by decide, by decide, by decide, by decide, ?_, by decide, by decide, ?_, by decide⟩
    · intro a h
      rw [show part13.ts = [⟨0, 2000000⟩] from rfl, List.mem_singleton] at h
      subst h
      exact ⟨by decide, by decide⟩
    · intro a h
      cases h
theorem core13_good : goodC core13 := by
  refine ⟨by unfold headC; decide, ?_, ?_, ?_⟩
  · intro i h
    have : i = 0 := by have : i < 1 := h; omega
    subst this
    exact ⟨by decide +revert, by decide +revert, by decide +revert, fun p _ h => absurd h (Nat.lt_irrefl _)⟩
  · intro a h
    rw [show core13.ss = [⟨5, 0, 9⟩] from rfl, List.mem_singleton] at h
    subst h
    unfold sumOK
    decide
  · intro a h
    rw [show core13.ps = [part13] from rfl, List.mem_singleton] at h
    subst h
    refine ⟨by unfold headOK; decide, ?_, ?_⟩
    · intro i h
      have : i = 0 := by have : i < 1 := h; omega
      subst this
      unfold tierOK
      decide +revert
    · intro a h
      cases h
theorem items13 : itemsO core13 4 [3] = some [5, 6] := by decide +kernel
theorem price13a : priceF core13 4 [3] = (11, 0) := by
  unfold priceF
  rw [if_neg (fun k => k core13_good), if_neg ?_, items13]
  · rfl
  · rintro (k | k)
    · exact k (by decide)
    · refine k ⟨rfl, fun i h h2 => ?_⟩
      have : i = 0 := by have : i < 1 := h; omega
      subst this
      decide +revert
theorem price13b : priceF core13 4 [6] = (0, 8) := by
  unfold priceF
  have hno : ¬ basketOK core13 [6] := fun k => absurd (k.2 0 (by decide) (by decide)).2 (by decide)
  rw [if_neg (fun k => k core13_good), if_pos (.inr hno)]
theorem lend_core13 {H : Heap} {cur : ByteArray} {f t : Int} {a b c : AV} {ms ss ps : List (List D)} (h1 : LendV H a (.d (.sl 5 ms))) (h2 : LendV H b (.d (.sl 3 ss))) (h3 : LendV H c (.d (.sl 9 ps))) : LendV H (.agg [.d (.str cur), i64 f, i64 t, a, b, c]) (coreV cur f t ms ss ps) := by
  refine .agg _ _ rfl fun j u v e1 e2 => ?_
  match j with
  | 0 => cases e1; cases e2; exact .refl _
  | 1 => cases e1; cases e2; exact .refl _
  | 2 => cases e1; cases e2; exact .refl _
  | 3 => cases e1; cases e2; exact h1
  | 4 => cases e1; cases e2; exact h2
  | 5 => cases e1; cases e2; exact h3
  | j + 6 => cases e1
theorem alive13_ok : DataW Try.prog f_poundagelaw13_alive [] (bv true) := by
  have h1 := Price_ok (d := 4) (b := [3]) core13_fit (by decide)
  have h2 := Price_ok (d := 4) (b := [6]) core13_fit (by decide)
  rw [price13a] at h1
  rw [price13b] at h2
  simp -implicitDefEqProofs only [] at h1 h2
  refine CallW_intro comp_poundagelaw13_alive (by simp) ?_
  simp -implicitDefEqProofs -proj only [go_sem, Nat.reduceBEq, Nat.reduceLT, Nat.reduceLeDiff, Nat.reduceAdd, Nat.reduceMul, ↓reduceIte]
  refine AllocR_intro (fun b7 h7 => ?_)
  simp -implicitDefEqProofs -proj only [go_sem, Nat.reduceBEq, Nat.reduceLT, Nat.reduceLeDiff, Nat.reduceAdd, Nat.reduceMul, ↓reduceIte]
  refine AllocR_intro (fun b9 h9 => ?_)
  replace h9 : upd Heap.none b7 (some _) b9 = none := h9
  obtain ⟨⟨n1, n2⟩, _⟩ := peel13 h9
  simp -implicitDefEqProofs -proj only [go_sem, Nat.reduceBEq, Nat.reduceLT, Nat.reduceLeDiff, Nat.reduceAdd, Nat.reduceMul, ↓reduceIte, n1, n2]
  refine AllocR_intro (fun b11 h11 => ?_)
  replace h11 : upd (upd Heap.none b7 (some _)) b9 (some _) b11 = none := h11
  obtain ⟨⟨n3, n4⟩, h11'⟩ := peel13 h11
  obtain ⟨⟨n5, n6⟩, _⟩ := peel13 h11'
  simp -implicitDefEqProofs -proj only [go_sem, Nat.reduceBEq, Nat.reduceLT, Nat.reduceLeDiff, Nat.reduceAdd, Nat.reduceMul, ↓reduceIte, n1, n2, n3, n4, n5, n6]
  refine AllocR_intro (fun b13 h13 => ?_)
  replace h13 : (upd (upd (upd Heap.none b7 (some (.row 42 5 1 [[.str ⟨⟨[109]⟩⟩, .str ⟨⟨[]⟩⟩, .int .i64 5, .int .i64 0, .int .i64 0]]))) b9 (some (.row 59 3 1 [[.int .i64 5, .int .i64 0, .int .i64 9]]))) b11 none) b13 = none := h13
  have ha0 : AllH (upd (upd (upd Heap.none b7 (some (.row 42 5 1 [[.str ⟨⟨[109]⟩⟩, .str ⟨⟨[]⟩⟩, .int .i64 5, .int .i64 0, .int .i64 0]]))) b9 (some (.row 59 3 1 [[.int .i64 5, .int .i64 0, .int .i64 9]]))) b11 none) [(b9, (.row 59 3 1 [[.int .i64 5, .int .i64 0, .int .i64 9]])), (b7, (.row 42 5 1 [[.str ⟨⟨[109]⟩⟩, .str ⟨⟨[]⟩⟩, .int .i64 5, .int .i64 0, .int .i64 0]]))] := ⟨by rw [upd_ne n3]; exact upd_eq, by rw [upd_ne n5, upd_ne n1]; exact upd_eq, trivial⟩
  have hn0 : (keys [(b9, Blk.row 59 3 1 [[.int .i64 5, .int .i64 0, .int .i64 9]]), (b7, Blk.row 42 5 1 [[.str ⟨⟨[109]⟩⟩, .str ⟨⟨[]⟩⟩, .int .i64 5, .int .i64 0, .int .i64 0]])]).Nodup := by simp [keys, n1]
  have ha13 := alloc_all (x := (.row 39 9 1 [[.int .i64 0, .int .i64 0, .int .i64 9, .int .i64 0, .int .i64 1, .int .i64 1, .sl 2 [[.int .i64 0, .int .i64 2000000]], .int .i64 0, .sl 3 []]])) h13 ha0
  have hn13 := alloc_keys (x := (.row 39 9 1 [[.int .i64 0, .int .i64 0, .int .i64 9, .int .i64 0, .int .i64 1, .int .i64 1, .sl 2 [[.int .i64 0, .int .i64 2000000]], .int .i64 0, .sl 3 []]])) h13 ha0 hn0
  obtain ⟨H1, hH1⟩ : ∃ H1, upd (upd (upd (upd Heap.none b7 (some (.row 42 5 1 [[.str ⟨⟨[109]⟩⟩, .str ⟨⟨[]⟩⟩, .int .i64 5, .int .i64 0, .int .i64 0]]))) b9 (some (.row 59 3 1 [[.int .i64 5, .int .i64 0, .int .i64 9]]))) b11 none) b13 (some (.row 39 9 1 [[.int .i64 0, .int .i64 0, .int .i64 9, .int .i64 0, .int .i64 1, .int .i64 1, .sl 2 [[.int .i64 0, .int .i64 2000000]], .int .i64 0, .sl 3 []]])) = H1 := ⟨_, rfl⟩
  rw [hH1] at ha13
  simp -implicitDefEqProofs -proj only [go_sem, Nat.reduceBEq, Nat.reduceLT, Nat.reduceLeDiff, Nat.reduceAdd, Nat.reduceMul, ↓reduceIte, hH1]
  refine AllocA_intro (fun b1 hb1 => ?_)
  replace hb1 : H1 b1 = none := hb1
  have ha1 := alloc_all (x := (.box 26 [.d (.str ⟨⟨[]⟩⟩), i64 0, i64 9, .own b7 5 0 1 1, .own b9 3 0 1 1, .own b13 9 0 1 1])) hb1 ha13
  simp -implicitDefEqProofs -proj only [go_sem, Nat.reduceBEq, Nat.reduceLT, Nat.reduceLeDiff, Nat.reduceAdd, Nat.reduceMul, ↓reduceIte]
  refine AllocR_intro (fun b17 hb17 => ?_)
  replace hb17 : upd H1 b1 (some (.box 26 [.d (.str ⟨⟨[]⟩⟩), i64 0, i64 9, .own b7 5 0 1 1, .own b9 3 0 1 1, .own b13 9 0 1 1])) b17 = none := hb17
  have ha17 := alloc_all (x := .row 3 1 1 [[.int .i64 3]]) hb17 ha1
  obtain ⟨H2, hH2⟩ : ∃ H2, upd (upd H1 b1 (some (.box 26 [.d (.str ⟨⟨[]⟩⟩), i64 0, i64 9, .own b7 5 0 1 1, .own b9 3 0 1 1, .own b13 9 0 1 1]))) b17 (some (.row 3 1 1 [[.int .i64 3]])) = H2 := ⟨_, rfl⟩
  rw [hH2] at ha17
  obtain ⟨q17, q1, q13, q9, q7, _⟩ := id ha17
  simp -implicitDefEqProofs -proj only [go_sem, Nat.reduceBEq, Nat.reduceLT, Nat.reduceLeDiff, Nat.reduceAdd, Nat.reduceMul, ↓reduceIte, hH2]
  refine CallA_lend h1 (lend_cons (lend_core13 (lend_own q7 rfl) (lend_own q9 rfl) (lend_own q13 rfl)) (lend_cons (.refl _) (lend_cons (lend_own q17 rfl) lend_nil))) rfl ?_
  simp -implicitDefEqProofs -proj only [go_sem, Nat.reduceBEq, Nat.reduceLT, Nat.reduceLeDiff, Nat.reduceAdd, Nat.reduceMul, ↓reduceIte, q1]
  refine AllocR_intro (fun b23 hb23 => ?_)
  replace hb23 : H2 b23 = none := hb23
  have ha23 := alloc_all (x := .row 3 1 1 [[.int .i64 6]]) hb23 ha17
  obtain ⟨H3, hH3⟩ : ∃ H3, upd H2 b23 (some (.row 3 1 1 [[.int .i64 6]])) = H3 := ⟨_, rfl⟩
  rw [hH3] at ha23
  obtain ⟨r23, r17, r1, r13, r9, r7, _⟩ := id ha23
  simp -implicitDefEqProofs -proj only [go_sem, Nat.reduceBEq, Nat.reduceLT, Nat.reduceLeDiff, Nat.reduceAdd, Nat.reduceMul, ↓reduceIte, hH3]
  refine CallA_lend h2 (lend_cons (lend_core13 (lend_own r7 rfl) (lend_own r9 rfl) (lend_own r13 rfl)) (lend_cons (.refl _) (lend_cons (lend_own r23 rfl) lend_nil))) rfl ?_
  simp -implicitDefEqProofs -proj only [go_sem, Nat.reduceBEq, Nat.reduceLT, Nat.reduceLeDiff, Nat.reduceAdd, Nat.reduceMul, ↓reduceIte, decide_true]
  exact LendV_eq rfl
theorem PriceIs_ok {c : CoreX} {d : Int} {b : List Int} (hc : c.Fit) (hd : Fit d) (hfb : AllFit b) (hbn : b.length ≤ 9223372036854775807) : DataW Try.prog f_poundagelaw13_PriceIs [coreX c, i64 d, slI b] (bv true) := by
  have h1 := Price_ok (d := d) (b := b) hc hbn
  have h2 := RPrice_ok (d := d) (b := b) hc hbn
  generalize priceF c d b = p at *
  obtain ⟨n, e⟩ := p
  simp -implicitDefEqProofs only [] at h1 h2
  refine CallW_intro comp_poundagelaw13_PriceIs (by simp) ?_
  simp -implicitDefEqProofs -proj only [go_sem, Nat.reduceBEq, Nat.reduceLT, Nat.reduceLeDiff, Nat.reduceAdd, Nat.reduceMul, ↓reduceIte]
  refine AllocA_intro (fun b3 hb3 => ?_)
  simp -implicitDefEqProofs -proj only [go_sem, Nat.reduceBEq, Nat.reduceLT, Nat.reduceLeDiff, Nat.reduceAdd, Nat.reduceMul, ↓reduceIte]
  refine CallA_pure alive13_ok ?_
  simp -implicitDefEqProofs -proj only [go_sem, Nat.reduceBEq, Nat.reduceLT, Nat.reduceLeDiff, Nat.reduceAdd, Nat.reduceMul, ↓reduceIte]
  refine CallA_pure Great_ok ?_
  by_cases g1 : greatC c
  · simp -implicitDefEqProofs -proj only [go_sem, Nat.reduceBEq, Nat.reduceLT, Nat.reduceLeDiff, Nat.reduceAdd, Nat.reduceMul, ↓reduceIte, decide_eq_true g1]
    exact LendV_eq rfl
  by_cases g2 : 100 < (b.length : Int)
  · simp -implicitDefEqProofs -proj only [go_sem, Nat.reduceBEq, Nat.reduceLT, Nat.reduceLeDiff, Nat.reduceAdd, Nat.reduceMul, ↓reduceIte, rowI_len, decide_eq_false g1, decide_eq_true g2]
    exact LendV_eq rfl
  simp -implicitDefEqProofs -proj only [go_sem, Nat.reduceBEq, Nat.reduceLT, Nat.reduceLeDiff, Nat.reduceAdd, Nat.reduceMul, ↓reduceIte, rowI_len, decide_eq_false g1, decide_eq_false g2]
  refine CallA_pure h1 ?_
  simp -implicitDefEqProofs -proj only [go_sem, Nat.reduceBEq, Nat.reduceLT, Nat.reduceLeDiff, Nat.reduceAdd, Nat.reduceMul, ↓reduceIte]
  refine CallA_pure h2 ?_
  simp -implicitDefEqProofs -proj only [go_sem, Nat.reduceBEq, Nat.reduceLT, Nat.reduceLeDiff, Nat.reduceAdd, Nat.reduceMul, ↓reduceIte, decide_true]
  exact LendV_eq rfl
end Go.Proofs.Ytlflfciebidddaa.Abs
