/- The law DaysRuns. No claim stands here. -/
import Derived.Test.YtmkennmppdmnhaaKStart17
set_option linter.unusedSimpArgs false
set_option linter.unusedVariables false
namespace Go.Proofs.Ytmkennmppdmnhaa.Abs
open Go Go.RowKit Go.Proofs
attribute [local go_sem] RunC_seq AF_n AF_r AF_b St_n St_t St_H Fst_mk Snd_mk RunC_ops RunC_cond RunC_block RunC_loop RunC_exit RunC_ret RunC_skip RunO_nil RunO_code RunO_code_ret RunO_code_exit RunO_blk RunO_blk_ret RunO_blk_exit RunL_nil RunL_guard GuardA_tt GuardA_ff GuardA_tf GuardA_ft GuardA_void CondA_t CondA_f PickA_t PickA_f RunL_mov RunL_pick RunL_alloc RunL_box RunL_load LoadA_ptr LoadB_1 LoadB_n LoadA_dptr LoadA_dptr_n RunL_store StoreA_ptr StoreB_box RunL_bin Bin_add Bin_sub Bin_mul Bin_quo Bin_rem Bin_shl Bin_shr Bin_andI Bin_orI Bin_xorI Bin_eql Bin_neq Bin_lss Bin_leq Bin_gtr Bin_geq RunL_binb Bin_beql Bin_bneq RunL_un UnA_not UnA_neg RunL_conv convV MapA_some RunL_nilCheck nilV RunL_mkfn RunL_fieldAddr faV RunL_field FieldA_1 FieldA_n RunL_elemAddr EAddrA_sl EAddrA_own EptrA_eq RunL_build BuildA_some RunL_extract ExtA_eq RunL_len lenV_sl lenV_nilsl lenV_own RunL_slen RunL_idxStr IdxSA_eq slenV RunL_minmax mmV minmaxL RunL_call RunL_callv CallvA_fn putS ev evL evO evP eqK eqKs EqB_agg RunL_eqAgg EqA_t EqA_f evQ buildC fits_agg cellsAV_agg fits_d cellsAV_d fits_nilp cellsAV_nilp fits_nilsl cellsAV_nilsl fits_nilfn cellsAV_nilfn fits_ptr cellsAV_ptr fits_eptr cellsAV_eptr fits_dptr cellsAV_dptr fits_own cellsAV_own fits_fn cellsAV_fn rowV_fits rowV_cells rowV_len lenAV setSeg nth seg mapD repeatL putT_get upd_get argT keepT_cons keepT_nil keepH_cons keepH_nil cond_true cond_false VC_true finW resW resL resOne LoopQ_exit LoopQ_ret List.cons_append List.nil_append Bool.not_true Bool.not_false Bool.and_true Bool.and_self Nat.lt_add_left_iff_pos Nat.zero_add Nat.add_zero List.drop_succ_cons List.drop_zero List.take_succ_cons List.take_zero beq_self_eq_true Bool.false_eq_true RunC_dops RunL_loadS RunL_loadD LoadDA_dptr RunL_storeS StoreSA_ptr RunL_pcall RunL_pcallv PCallvA_fn newsOk and_self and_true true_and loadW_ptr LoadK_1 LoadK_n upd_upd RunL_buildSlice BSliceA_some RunL_buildSliceD frzL frz cutL LoadA_eptr LoadE_row RunL_append RunL_slice SliceA_sl StoreA_eptr List.length_cons List.length_nil Nat.min_def Int.cast_ofNat_Int Int.natCast_zero Int.natCast_one decide_true decide_false List.getElem?_cons_zero List.getElem?_cons_succ RunC_rangef CallvA_yld putL_nil putL_cons RangeQ_exit RangeQ_ret
structure BX17 where
  i : Nat
  c : Nat
  cap : Nat
theorem bx17_i {i c cap : Nat} : (BX17.mk i c cap).i = i := (rfl)
theorem bx17_c {i c cap : Nat} : (BX17.mk i c cap).c = c := (rfl)
theorem bx17_cap {i c cap : Nat} : (BX17.mk i c cap).cap = cap := (rfl)
theorem breaksN_len {val : Int → Int} {f : Int} : ∀ n : Nat, (breaksN val f n).length ≤ n
  | 0 => by simp [breaksN]
  | n + 1 => by
    have := breaksN_len (val := val) (f := f) n
    rw [breaksN]
    split
    · omega
    · rw [List.length_append, List.length_singleton]; omega
def brkB (b1 : Nat) (x : CoreX) (val : Int → Int) (y : BX17) : List (Nat × Blk) := rowH 3 1 y.c y.cap (rowI (breaksN val x.f y.i)) ++ [(b1, coreB x)]
theorem Breaks_ok {c : CoreX} (hg : goodC c) : NewW Try.prog f_poundageref17_Breaks [coreX c] (slI (breaksN (fun d => ((setC c d : Nat) : Int)) c.f (c.t - c.f).toNat)) := by
  obtain ⟨⟨a1, a2⟩, ⟨a3, a4⟩, a5, a6, a7, a8⟩ := hg.hd
  have hrh := fun day => RHolds_ok (c := c) (day := day) a7 a8
  obtain ⟨val, hval⟩ : ∃ val : Int → Int, (fun d => ((setC c d : Nat) : Int)) = val := ⟨_, rfl⟩
  have hv : ∀ d, ((setC c d : Nat) : Int) = val d := fun d => congrFun hval d
  rw [hval]
  simp -implicitDefEqProofs only [hv] at hrh
  refine CallW_intro comp_poundageref17_Breaks (by simp) ?_
  simp -implicitDefEqProofs -proj only [go_sem, Nat.reduceBEq, Nat.reduceLT, Nat.reduceLeDiff, Nat.reduceAdd, Nat.reduceMul, ↓reduceIte, Int.reduceToNat, Int.reducePow, Int.reduceLT, Int.reduceLE, Int.reduceAdd, Int.reduceSub, Int.reduceMul, Int.reduceEq, Int.reduceNe]
  refine AllocA_intro (fun b1 hb1 => ?_)
  have w1 : IntKind.i64.wrap (c.f + 1) = c.f + 1 := by rw [IntKind.wrap_i64]; omega
  simp -implicitDefEqProofs -proj only [go_sem, Nat.reduceBEq, Nat.reduceLT, Nat.reduceLeDiff, Nat.reduceAdd, Nat.reduceMul, ↓reduceIte, Int.reduceToNat, Int.reducePow, Int.reduceLT, Int.reduceLE, Int.reduceAdd, Int.reduceSub, Int.reduceMul, Int.reduceEq, Int.reduceNe, w1]
  refine LoopA_k (fun y : BX17 => y.i ≤ (c.t - c.f).toNat ∧ (keys (brkB b1 c val y)).Nodup) 27 (fun y => [(1, .ptr b1 0), (3, rowV 0 1 y.c y.cap (rowI (breaksN val c.f y.i))), (4, i64 (c.f + 1 + y.i))]) (brkB b1 c val) (fun y => (c.t - c.f).toNat + 1 - y.i) ⟨0, 0, 0⟩ ⟨Nat.zero_le _, by simp [keys, brkB, bx17_i, breaksN, rowI, rowH]⟩ rfl ?_ ?_ ?_
  · simp -implicitDefEqProofs -proj only [go_sem, Nat.reduceBEq, Nat.reduceLT, Nat.reduceLeDiff, Nat.reduceAdd, Nat.reduceMul, ↓reduceIte, Int.reduceToNat, Int.reducePow, Int.reduceLT, Int.reduceLE, Int.reduceAdd, Int.reduceSub, Int.reduceMul, Int.reduceEq, Int.reduceNe, AllAt, bx17_i, Int.add_zero]
    try rfl
  · simp -implicitDefEqProofs only [brkB, bx17_i, breaksN, rowI, List.map_nil, rowH_nil, List.nil_append]
    exact ⟨upd_eq, trivial⟩
  · rintro ⟨i, c1, cap⟩ ⟨hi, hn⟩
    simp -implicitDefEqProofs only [bx17_i] at hi
    have hall := keepH_all hn
    obtain ⟨H, hH⟩ : ∃ H, keepH (brkB b1 c val ⟨i, c1, cap⟩) = H := ⟨_, rfl⟩
    rw [hH] at hall
    simp -implicitDefEqProofs only [brkB, bx17_i, bx17_c, bx17_cap] at hall hn
    obtain ⟨hrow, k1, _⟩ := AllH_app.1 hall
    by_cases h : i < (c.t - c.f).toNat
    · have hbl := breaksN_len (val := val) (f := c.f) i
      have w2 : IntKind.i64.wrap (c.f + 1 + (i : Int) - 1) = c.f + i := by rw [IntKind.wrap_i64]; omega
      have w3 : IntKind.i64.wrap (c.f + 1 + (i : Int) + 1) = c.f + 1 + ((i + 1 : Nat) : Int) := by rw [IntKind.wrap_i64]; omega
      have h1 := hrh (c.f + 1 + i)
      have h2 := hrh (c.f + i)
      have hb : breaksN val c.f (i + 1) = if val (c.f + 1 + i) = val (c.f + i) then breaksN val c.f i else breaksN val c.f i ++ [c.f + 1 + i] := rfl
      generalize hG : breaksN val c.f i = G at *
      simp -implicitDefEqProofs -proj only [go_sem, Nat.reduceBEq, Nat.reduceLT, Nat.reduceLeDiff, Nat.reduceAdd, Nat.reduceMul, ↓reduceIte, Int.reduceToNat, Int.reducePow, Int.reduceLT, Int.reduceLE, Int.reduceAdd, Int.reduceSub, Int.reduceMul, Int.reduceEq, Int.reduceNe, bx17_i, bx17_c, bx17_cap, hH, hG, k1, decide_eq_true (show c.f + 1 + (i : Int) ≤ c.t by omega)]
      refine PCallA_pure h1 ?_
      simp -implicitDefEqProofs -proj only [go_sem, Nat.reduceBEq, Nat.reduceLT, Nat.reduceLeDiff, Nat.reduceAdd, Nat.reduceMul, ↓reduceIte, Int.reduceToNat, Int.reducePow, Int.reduceLT, Int.reduceLE, Int.reduceAdd, Int.reduceSub, Int.reduceMul, Int.reduceEq, Int.reduceNe, k1, w2]
      refine CallA_pure h2 ?_
      by_cases he : val (c.f + 1 + i) = val (c.f + i)
      · rw [if_pos he] at hb
        simp -implicitDefEqProofs -proj only [go_sem, Nat.reduceBEq, Nat.reduceLT, Nat.reduceLeDiff, Nat.reduceAdd, Nat.reduceMul, ↓reduceIte, Int.reduceToNat, Int.reducePow, Int.reduceLT, Int.reduceLE, Int.reduceAdd, Int.reduceSub, Int.reduceMul, Int.reduceEq, Int.reduceNe, decide_eq_true he, w3]
        refine LoopQ_k ⟨i + 1, c1, cap⟩ ⟨by rw [bx17_i]; omega, by simpa only [brkB, bx17_i, bx17_c, bx17_cap, hb] using hn⟩ (by show (c.t - c.f).toNat + 1 - (i + 1) < (c.t - c.f).toNat + 1 - i; omega) rfl ?_ ?_
        · simp -implicitDefEqProofs -proj only [go_sem, Nat.reduceBEq, Nat.reduceLT, Nat.reduceLeDiff, Nat.reduceAdd, Nat.reduceMul, ↓reduceIte, Int.reduceToNat, Int.reducePow, Int.reduceLT, Int.reduceLE, Int.reduceAdd, Int.reduceSub, Int.reduceMul, Int.reduceEq, Int.reduceNe, AllAt, bx17_i, bx17_c, bx17_cap, hb]
        · simpa only [brkB, bx17_i, bx17_c, bx17_cap, hb] using hall
      · rw [if_neg he] at hb
        have hne : rowI (breaksN val c.f (i + 1)) ≠ [] := by rw [hb]; simp [rowI]
        have hl2 : (rowI (breaksN val c.f (i + 1))).length = G.length + 1 := by rw [rowI_len, hb, List.length_append, List.length_singleton]
        simp -implicitDefEqProofs -proj only [go_sem, Nat.reduceBEq, Nat.reduceLT, Nat.reduceLeDiff, Nat.reduceAdd, Nat.reduceMul, ↓reduceIte, Int.reduceToNat, Int.reducePow, Int.reduceLT, Int.reduceLE, Int.reduceAdd, Int.reduceSub, Int.reduceMul, Int.reduceEq, Int.reduceNe, decide_eq_false he]
        refine AllocR_intro (fun bs hs => ?_)
        replace hs : H bs = none := hs
        simp -implicitDefEqProofs -proj only [go_sem, Nat.reduceBEq, Nat.reduceLT, Nat.reduceLeDiff, Nat.reduceAdd, Nat.reduceMul, ↓reduceIte, Int.reduceToNat, Int.reducePow, Int.reduceLT, Int.reduceLE, Int.reduceAdd, Int.reduceSub, Int.reduceMul, Int.reduceEq, Int.reduceNe]
        refine AppendA_grow (xs := rowI G) (y := [.int .i64 (c.f + 1 + i)]) (t := 3) (capc := 1) [(b1, coreB c)] rfl (AllH_upd hs hall) hn (by simp -implicitDefEqProofs -proj only [go_sem, Nat.reduceBEq, Nat.reduceLT, Nat.reduceLeDiff, Nat.reduceAdd, Nat.reduceMul, ↓reduceIte, Int.reduceToNat, Int.reducePow, Int.reduceLT, Int.reduceLE, Int.reduceAdd, Int.reduceSub, Int.reduceMul, Int.reduceEq, Int.reduceNe]; try rfl) (by rw [rowI_len]; omega) (by rw [rowI_len]; omega) (fun H' c2 cap2 ha hk => ?_)
        rw [rowI_sn17, ← hb] at ha hk
        simp -implicitDefEqProofs -proj only [go_sem, Nat.reduceBEq, Nat.reduceLT, Nat.reduceLeDiff, Nat.reduceAdd, Nat.reduceMul, ↓reduceIte, Int.reduceToNat, Int.reducePow, Int.reduceLT, Int.reduceLE, Int.reduceAdd, Int.reduceSub, Int.reduceMul, Int.reduceEq, Int.reduceNe, w3, rowI_len]
        refine LoopQ_k ⟨i + 1, c2, cap2⟩ ⟨by rw [bx17_i]; omega, by simpa only [brkB, bx17_i, bx17_c, bx17_cap] using hk⟩ (by show (c.t - c.f).toNat + 1 - (i + 1) < (c.t - c.f).toNat + 1 - i; omega) rfl ?_ ?_
        · simp -implicitDefEqProofs -proj only [go_sem, Nat.reduceBEq, Nat.reduceLT, Nat.reduceLeDiff, Nat.reduceAdd, Nat.reduceMul, ↓reduceIte, Int.reduceToNat, Int.reducePow, Int.reduceLT, Int.reduceLE, Int.reduceAdd, Int.reduceSub, Int.reduceMul, Int.reduceEq, Int.reduceNe, AllAt, bx17_i, bx17_c, bx17_cap, rowV_ne hne, hl2, rowI_len]
        · simpa only [brkB, bx17_i, bx17_c, bx17_cap] using ha
    · have hi' : i = (c.t - c.f).toNat := by omega
      subst hi'
      simp -implicitDefEqProofs -proj only [go_sem, Nat.reduceBEq, Nat.reduceLT, Nat.reduceLeDiff, Nat.reduceAdd, Nat.reduceMul, ↓reduceIte, Int.reduceToNat, Int.reducePow, Int.reduceLT, Int.reduceLE, Int.reduceAdd, Int.reduceSub, Int.reduceMul, Int.reduceEq, Int.reduceNe, bx17_i, bx17_c, bx17_cap, hH, k1, decide_eq_false (show ¬ c.f + 1 + (((c.t - c.f).toNat : Nat) : Int) ≤ c.t by omega)]
      exact rowV_new hrow rowI_scal17
theorem DaysRuns_ok {c : CoreX} (hc : c.Fit) : DataW Try.prog f_poundagelaw17_DaysRuns [coreX c] (bv true) := by
  have hrg := RGood_ok hc
  refine CallW_intro comp_poundagelaw17_DaysRuns (by simp) ?_
  simp -implicitDefEqProofs -proj only [go_sem, Nat.reduceBEq, Nat.reduceLT, Nat.reduceLeDiff, Nat.reduceAdd, Nat.reduceMul, ↓reduceIte, Int.reduceToNat, Int.reducePow, Int.reduceLT, Int.reduceLE, Int.reduceAdd, Int.reduceSub, Int.reduceMul, Int.reduceEq, Int.reduceNe]
  refine AllocA_intro (fun b1 hb1 => ?_)
  simp -implicitDefEqProofs -proj only [go_sem, Nat.reduceBEq, Nat.reduceLT, Nat.reduceLeDiff, Nat.reduceAdd, Nat.reduceMul, ↓reduceIte, Int.reduceToNat, Int.reducePow, Int.reduceLT, Int.reduceLE, Int.reduceAdd, Int.reduceSub, Int.reduceMul, Int.reduceEq, Int.reduceNe]
  refine CallA_pure alive17_ok ?_
  simp -implicitDefEqProofs -proj only [go_sem, Nat.reduceBEq, Nat.reduceLT, Nat.reduceLeDiff, Nat.reduceAdd, Nat.reduceMul, ↓reduceIte, Int.reduceToNat, Int.reducePow, Int.reduceLT, Int.reduceLE, Int.reduceAdd, Int.reduceSub, Int.reduceMul, Int.reduceEq, Int.reduceNe]
  refine CallA_pure Great_ok ?_
  by_cases g1 : greatC c
  · simp -implicitDefEqProofs -proj only [go_sem, Nat.reduceBEq, Nat.reduceLT, Nat.reduceLeDiff, Nat.reduceAdd, Nat.reduceMul, ↓reduceIte, Int.reduceToNat, Int.reducePow, Int.reduceLT, Int.reduceLE, Int.reduceAdd, Int.reduceSub, Int.reduceMul, Int.reduceEq, Int.reduceNe, decide_eq_true g1]
    exact LendV_eq rfl
  simp -implicitDefEqProofs -proj only [go_sem, Nat.reduceBEq, Nat.reduceLT, Nat.reduceLeDiff, Nat.reduceAdd, Nat.reduceMul, ↓reduceIte, Int.reduceToNat, Int.reducePow, Int.reduceLT, Int.reduceLE, Int.reduceAdd, Int.reduceSub, Int.reduceMul, Int.reduceEq, Int.reduceNe, decide_eq_false g1]
  refine CallA_pure hrg ?_
  by_cases g2 : goodC c
  rotate_left
  · simp -implicitDefEqProofs -proj only [go_sem, Nat.reduceBEq, Nat.reduceLT, Nat.reduceLeDiff, Nat.reduceAdd, Nat.reduceMul, ↓reduceIte, Int.reduceToNat, Int.reducePow, Int.reduceLT, Int.reduceLE, Int.reduceAdd, Int.reduceSub, Int.reduceMul, Int.reduceEq, Int.reduceNe, decide_eq_false g2]
    exact LendV_eq rfl
  have hst := (starts_ok hc g2).data
  have hbr := (Breaks_ok g2).data
  obtain ⟨⟨a1, a2⟩, ⟨a3, a4⟩, a5, a6, a7, a8⟩ := g2.hd
  rw [holds_starts a3] at hst
  have hlen := breaks_len a7 a8 (c.t - c.f).toNat
  generalize breaksN (fun d => ((setC c d : Nat) : Int)) c.f (c.t - c.f).toNat = G at *
  have w1 : IntKind.i64.wrap ((G.length : Int) + 1) = (G.length : Int) + 1 := by rw [IntKind.wrap_i64]; omega
  have w2 : IntKind.i64.wrap ((c.ss.length : Int) + c.ps.length) = (c.ss.length : Int) + c.ps.length := by rw [IntKind.wrap_i64]; omega
  have w3 : IntKind.i64.wrap (2 * ((c.ss.length : Int) + c.ps.length)) = 2 * ((c.ss.length : Int) + c.ps.length) := by rw [IntKind.wrap_i64]; omega
  have w4 : IntKind.i64.wrap (2 * ((c.ss.length : Int) + c.ps.length) + 1) = 2 * ((c.ss.length : Int) + c.ps.length) + 1 := by rw [IntKind.wrap_i64]; omega
  have e1 : ((rowI (c.f :: G)).length : Int) = (G.length : Int) + 1 := by rw [rowI_len]; simp
  have hel0 : (rowI (c.f :: G))[((0 : Int)).toNat]? = some [.int .i64 c.f] := rfl
  simp -implicitDefEqProofs -proj only [go_sem, Nat.reduceBEq, Nat.reduceLT, Nat.reduceLeDiff, Nat.reduceAdd, Nat.reduceMul, ↓reduceIte, Int.reduceToNat, Int.reducePow, Int.reduceLT, Int.reduceLE, Int.reduceAdd, Int.reduceSub, Int.reduceMul, Int.reduceEq, Int.reduceNe, decide_eq_true g2]
  refine PCallA_pure hst ?_
  simp -implicitDefEqProofs -proj only [go_sem, Nat.reduceBEq, Nat.reduceLT, Nat.reduceLeDiff, Nat.reduceAdd, Nat.reduceMul, ↓reduceIte, Int.reduceToNat, Int.reducePow, Int.reduceLT, Int.reduceLE, Int.reduceAdd, Int.reduceSub, Int.reduceMul, Int.reduceEq, Int.reduceNe]
  refine CallA_pure hbr ?_
  simp -implicitDefEqProofs -proj only [go_sem, Nat.reduceBEq, Nat.reduceLT, Nat.reduceLeDiff, Nat.reduceAdd, Nat.reduceMul, ↓reduceIte, Int.reduceToNat, Int.reducePow, Int.reduceLT, Int.reduceLE, Int.reduceAdd, Int.reduceSub, Int.reduceMul, Int.reduceEq, Int.reduceNe, e1, rowI_len, w1, decide_eq_true (show ((G.length + 1 : Nat) : Int) = (G.length : Int) + 1 by omega)]
  refine ElemA_at _ (by omega) hel0 ?_
  simp -implicitDefEqProofs -proj only [go_sem, Nat.reduceBEq, Nat.reduceLT, Nat.reduceLeDiff, Nat.reduceAdd, Nat.reduceMul, ↓reduceIte, Int.reduceToNat, Int.reducePow, Int.reduceLT, Int.reduceLE, Int.reduceAdd, Int.reduceSub, Int.reduceMul, Int.reduceEq, Int.reduceNe, e1, rowI_len, rowS_len, rowP_len, w1, w2, w3, w4, decide_true, decide_eq_false (show ¬ 2 * ((c.ss.length : Int) + c.ps.length) + 1 < ((G.length + 1 : Nat) : Int) by omega)]
  refine LoopA_k (fun i : Nat => i ≤ G.length) 63 (fun i => [(3, slI (c.f :: G)), (48, slI G), (49, i64 G.length), (50, i64 i)]) (fun _ => []) (fun i => G.length - i) 0 (Nat.zero_le _) rfl ?_ ?_ ?_
  · simp -implicitDefEqProofs -proj only [go_sem, Nat.reduceBEq, Nat.reduceLT, Nat.reduceLeDiff, Nat.reduceAdd, Nat.reduceMul, ↓reduceIte, Int.reduceToNat, Int.reducePow, Int.reduceLT, Int.reduceLE, Int.reduceAdd, Int.reduceSub, Int.reduceMul, Int.reduceEq, Int.reduceNe, AllAt]
    try rfl
  · trivial
  · rintro i hi
    by_cases h : i < G.length
    · have hel := rowI_nth h
      have hel2 : (rowI (c.f :: G))[(((i + 1 : Nat) : Int)).toNat]? = some [.int .i64 G[i]] := by
        have := rowI_nth (l := c.f :: G) (i := i + 1) (by simp; omega)
        simpa using this
      have w5 : IntKind.i64.wrap ((i : Int) + 1) = ((i + 1 : Nat) : Int) := by rw [IntKind.wrap_i64]; omega
      generalize G[i] = x at *
      simp -implicitDefEqProofs -proj only [go_sem, Nat.reduceBEq, Nat.reduceLT, Nat.reduceLeDiff, Nat.reduceAdd, Nat.reduceMul, ↓reduceIte, Int.reduceToNat, Int.reducePow, Int.reduceLT, Int.reduceLE, Int.reduceAdd, Int.reduceSub, Int.reduceMul, Int.reduceEq, Int.reduceNe, decide_eq_true (show (i : Int) < G.length by omega)]
      refine ElemA_at _ (by omega) hel ?_
      simp -implicitDefEqProofs -proj only [go_sem, Nat.reduceBEq, Nat.reduceLT, Nat.reduceLeDiff, Nat.reduceAdd, Nat.reduceMul, ↓reduceIte, Int.reduceToNat, Int.reducePow, Int.reduceLT, Int.reduceLE, Int.reduceAdd, Int.reduceSub, Int.reduceMul, Int.reduceEq, Int.reduceNe, w5]
      refine ElemA_at _ (by omega) hel2 ?_
      simp -implicitDefEqProofs -proj only [go_sem, Nat.reduceBEq, Nat.reduceLT, Nat.reduceLeDiff, Nat.reduceAdd, Nat.reduceMul, ↓reduceIte, Int.reduceToNat, Int.reducePow, Int.reduceLT, Int.reduceLE, Int.reduceAdd, Int.reduceSub, Int.reduceMul, Int.reduceEq, Int.reduceNe, decide_true]
      refine LoopQ_k (i + 1) (by omega) (by show G.length - (i + 1) < G.length - i; omega) rfl ?_ trivial
      simp -implicitDefEqProofs -proj only [go_sem, Nat.reduceBEq, Nat.reduceLT, Nat.reduceLeDiff, Nat.reduceAdd, Nat.reduceMul, ↓reduceIte, Int.reduceToNat, Int.reducePow, Int.reduceLT, Int.reduceLE, Int.reduceAdd, Int.reduceSub, Int.reduceMul, Int.reduceEq, Int.reduceNe, AllAt, w5]
    · have hi' : i = G.length := by omega
      subst hi'
      simp -implicitDefEqProofs -proj only [go_sem, Nat.reduceBEq, Nat.reduceLT, Nat.reduceLeDiff, Nat.reduceAdd, Nat.reduceMul, ↓reduceIte, Int.reduceToNat, Int.reducePow, Int.reduceLT, Int.reduceLE, Int.reduceAdd, Int.reduceSub, Int.reduceMul, Int.reduceEq, Int.reduceNe, decide_eq_false (show ¬ (G.length : Int) < G.length by omega)]
      exact LendV_eq rfl
end Go.Proofs.Ytmkennmppdmnhaa.Abs
