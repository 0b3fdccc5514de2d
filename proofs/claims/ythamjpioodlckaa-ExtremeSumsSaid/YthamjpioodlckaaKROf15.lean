/- The document's curve of a list (printed by mkrof.py). No claim stands here. -/
import Derived.Test.YthamjpioodlckaaKLine15
set_option linter.unusedSimpArgs false
set_option linter.unusedVariables false
namespace Go.Proofs.Ythamjpioodlckaa.Abs
open Go Go.RowKit Go.Proofs
attribute [local go_sem] RunC_seq AF_n AF_r AF_b St_n St_t St_H Fst_mk Snd_mk RunC_ops RunC_cond RunC_block RunC_loop RunC_exit RunC_ret RunC_skip RunO_nil RunO_code RunO_code_ret RunO_code_exit RunO_blk RunO_blk_ret RunO_blk_exit RunL_nil RunL_guard GuardA_tt GuardA_ff GuardA_tf GuardA_ft GuardA_void CondA_t CondA_f PickA_t PickA_f RunL_mov RunL_pick RunL_alloc RunL_box RunL_load LoadA_ptr LoadB_1 LoadB_n LoadA_dptr LoadA_dptr_n RunL_store StoreA_ptr StoreB_box RunL_bin Bin_add Bin_sub Bin_mul Bin_quo Bin_rem Bin_shl Bin_shr Bin_andI Bin_orI Bin_xorI Bin_eql Bin_neq Bin_lss Bin_leq Bin_gtr Bin_geq RunL_binb Bin_beql Bin_bneq RunL_un UnA_not UnA_neg RunL_conv convV MapA_some RunL_nilCheck nilV RunL_mkfn RunL_fieldAddr faV RunL_field FieldA_1 FieldA_n RunL_elemAddr EAddrA_sl EAddrA_own EptrA_eq RunL_build BuildA_some RunL_extract ExtA_eq RunL_len lenV_sl lenV_nilsl lenV_own RunL_slen RunL_idxStr IdxSA_eq slenV RunL_minmax mmV minmaxL RunL_call RunL_callv CallvA_fn putS ev evL evO evP eqK eqKs EqB_agg RunL_eqAgg EqA_t EqA_f evQ buildC fits_agg cellsAV_agg fits_d cellsAV_d fits_nilp cellsAV_nilp fits_nilsl cellsAV_nilsl fits_nilfn cellsAV_nilfn fits_ptr cellsAV_ptr fits_eptr cellsAV_eptr fits_dptr cellsAV_dptr fits_own cellsAV_own fits_fn cellsAV_fn rowV_fits rowV_cells rowV_len lenAV setSeg nth seg mapD repeatL putT_get upd_get argT keepT_cons keepT_nil keepH_cons keepH_nil cond_true cond_false VC_true finW resW resL resOne LoopQ_exit LoopQ_ret List.cons_append List.nil_append Bool.not_true Bool.not_false Bool.and_true Bool.and_self Nat.lt_add_left_iff_pos Nat.zero_add Nat.add_zero List.drop_succ_cons List.drop_zero List.take_succ_cons List.take_zero beq_self_eq_true Bool.false_eq_true RunC_dops RunL_loadS RunL_loadD LoadDA_dptr RunL_storeS StoreSA_ptr RunL_pcall RunL_pcallv PCallvA_fn newsOk and_self and_true true_and loadW_ptr LoadK_1 LoadK_n upd_upd RunL_buildSlice BSliceA_some RunL_buildSliceD frzL frz cutL LoadA_eptr LoadE_row RunL_append RunL_slice SliceA_sl StoreA_eptr List.length_cons List.length_nil Nat.min_def Int.cast_ofNat_Int Int.natCast_zero Int.natCast_one decide_true decide_false List.getElem?_cons_zero List.getElem?_cons_succ RunC_rangef CallvA_yld putL_nil putL_cons RangeQ_exit RangeQ_ret
/-- Where runs begin. -/
def startsN (l : List Int) (i : Nat) : List Int := (runsN 0 l i).map (·.f)
theorem starts_step {l : List Int} {i : Nat} (h : i < l.length) : startsN l (i + 1) = if i = 0 ∨ l.getD (i - 1) 0 ≠ l[i] then startsN l i ++ [(i : Int)] else startsN l i := by
  unfold startsN
  rw [runsN, putR]
  have hx : l.getD i 0 = l[i] := by simp [h]
  rw [hx]
  cases i with
  | zero =>
    rw [if_pos (.inl rfl)]
    simp [runsN]
  | succ i =>
    obtain ⟨q, h1, h2, h3⟩ := @runsN_last 0 l i
    rw [h1]
    simp -implicitDefEqProofs only [Nat.add_sub_cancel]
    rw [h2]
    by_cases hv : l.getD i 0 = l[i + 1]
    · rw [if_pos hv, if_neg (fun h => h.elim (by omega) (fun e => e hv))]
      have hne : runsN 0 l (i + 1) ≠ [] := putR_ne
      conv => rhs; rw [← List.dropLast_concat_getLast hne]
      rw [List.getLast?_eq_some_getLast hne] at h1
      cases h1
      simp
    · rw [if_neg hv, if_pos (.inr hv)]
      simp
structure RX where
  i : Nat
  c : Nat
  cap : Nat
theorem tx_i {i c cap : Nat} : (RX.mk i c cap).i = i := (rfl)
theorem tx_c {i c cap : Nat} : (RX.mk i c cap).c = c := (rfl)
theorem tx_cap {i c cap : Nat} : (RX.mk i c cap).cap = cap := (rfl)
structure RY where
  i : Nat
  d : Nat
  dap : Nat
  G : List Grp
theorem ty_i {i d dap : Nat} {G : List Grp} : (RY.mk i d dap G).i = i := (rfl)
theorem ty_d {i d dap : Nat} {G : List Grp} : (RY.mk i d dap G).d = d := (rfl)
theorem ty_dap {i d dap : Nat} {G : List Grp} : (RY.mk i d dap G).dap = dap := (rfl)
theorem ty_G {i d dap : Nat} {G : List Grp} : (RY.mk i d dap G).G = G := (rfl)
def rofA (b2 : Nat) (l : List Int) (y : RX) : List (Nat × Blk) := rowH 3 1 y.c y.cap (rowI (startsN l y.i)) ++ [(b2, .box 26 [i64 0, .nilsl 5])]
def rofB (b7 b2 c cap : Nat) (l ST : List Int) (y : RY) : List (Nat × Blk) := rowH 42 5 y.d y.dap (rowG y.G) ++ [(b7, .box 26 [i64 ((l.length : Int) - 1), rowV 5 5 y.d y.dap (rowG y.G)]), (b2, .box 26 [i64 0, .nilsl 5]), (c, .row 3 1 cap (rowI ST))]
theorem nodup_mid {a : Nat} {A B : List Nat} (h : (a :: (A ++ B)).Nodup) : (A ++ a :: B).Nodup := (List.perm_middle.nodup_iff).2 h
theorem nodup_cut {a : Nat} {A B : List Nat} (h : (A ++ a :: B).Nodup) : (A ++ B).Nodup := (List.nodup_cons.1 ((List.perm_middle.nodup_iff).1 h)).2
set_option maxRecDepth 20000 in
set_option maxHeartbeats 1000000 in
theorem ROf_new {l : List Int} (hfl : AllFit l) (hl : l.length ≤ 3000) : NewW Try.prog f_poundageref15_Of [slI l] (if CurL l then .tup [curL l, bv true] else .tup [curveV 0 [], bv false]) := by
  refine CallW_intro comp_poundageref15_Of (by simp) ?_
  simp -implicitDefEqProofs -proj only [go_sem, Nat.reduceBEq, Nat.reduceLT, Nat.reduceLeDiff, Nat.reduceAdd, Nat.reduceMul, ↓reduceIte, Int.reduceToNat, Int.reducePow, Int.reduceLT, Int.reduceLE, Int.reduceAdd, Int.reduceSub, Int.reduceMul, Int.reduceEq, Int.reduceNe]
  refine AllocA_intro (fun b2 hb2 => ?_)
  by_cases h0 : l.length = 0
  · have : ¬ CurL l := fun h => h.1 (List.length_eq_zero_iff.1 h0)
    rw [if_neg this]
    simp -implicitDefEqProofs -proj only [go_sem, Nat.reduceBEq, Nat.reduceLT, Nat.reduceLeDiff, Nat.reduceAdd, Nat.reduceMul, ↓reduceIte, Int.reduceToNat, Int.reducePow, Int.reduceLT, Int.reduceLE, Int.reduceAdd, Int.reduceSub, Int.reduceMul, Int.reduceEq, Int.reduceNe, rowI_len, decide_eq_true (show (l.length : Int) = 0 by omega)]
    exact new_tup2 (new_curve (.nilsl _ _))
  by_cases h1 : 2001 < (l.length : Int)
  · have : ¬ CurL l := fun h => by have := h.2.1; omega
    rw [if_neg this]
    simp -implicitDefEqProofs -proj only [go_sem, Nat.reduceBEq, Nat.reduceLT, Nat.reduceLeDiff, Nat.reduceAdd, Nat.reduceMul, ↓reduceIte, Int.reduceToNat, Int.reducePow, Int.reduceLT, Int.reduceLE, Int.reduceAdd, Int.reduceSub, Int.reduceMul, Int.reduceEq, Int.reduceNe, rowI_len, decide_eq_false (show ¬ (l.length : Int) = 0 by omega), decide_eq_true h1]
    exact new_tup2 (new_curve (.nilsl _ _))
  have a2 := alloc_all (x := .box 26 [i64 0, .nilsl 5]) hb2 (l := []) trivial
  have n2 := alloc_keys (x := .box 26 [i64 0, .nilsl 5]) hb2 (l := []) trivial List.nodup_nil
  simp -implicitDefEqProofs -proj only [go_sem, Nat.reduceBEq, Nat.reduceLT, Nat.reduceLeDiff, Nat.reduceAdd, Nat.reduceMul, ↓reduceIte, Int.reduceToNat, Int.reducePow, Int.reduceLT, Int.reduceLE, Int.reduceAdd, Int.reduceSub, Int.reduceMul, Int.reduceEq, Int.reduceNe, rowI_len, decide_eq_false (show ¬ (l.length : Int) = 0 by omega), decide_eq_false h1]
  refine LoopA_k (fun y : RX => y.i ≤ l.length ∧ (∀ (j : Nat) (h : j < l.length), j < y.i → smallV l[j]) ∧ (keys (rofA b2 l y)).Nodup) 165 (fun y => [(0, slI l), (2, .ptr b2 0), (4, rowV 0 1 y.c y.cap (rowI (startsN l y.i))), (19, slI l), (20, i64 l.length), (21, i64 y.i)]) (rofA b2 l) (fun y => l.length - y.i) ⟨0, 0, 0⟩ ⟨Nat.zero_le _, fun j _ h => absurd h (Nat.not_lt_zero _), n2⟩ rfl ?_ ?_ ?_
  · simp -implicitDefEqProofs -proj only [go_sem, Nat.reduceBEq, Nat.reduceLT, Nat.reduceLeDiff, Nat.reduceAdd, Nat.reduceMul, ↓reduceIte, Int.reduceToNat, Int.reducePow, Int.reduceLT, Int.reduceLE, Int.reduceAdd, Int.reduceSub, Int.reduceMul, Int.reduceEq, Int.reduceNe, AllAt, tx_i, tx_c, tx_cap]
    rfl
  · simp -implicitDefEqProofs -proj only [go_sem, Nat.reduceBEq, Nat.reduceLT, Nat.reduceLeDiff, Nat.reduceAdd, Nat.reduceMul, ↓reduceIte, Int.reduceToNat, Int.reducePow, Int.reduceLT, Int.reduceLE, Int.reduceAdd, Int.reduceSub, Int.reduceMul, Int.reduceEq, Int.reduceNe]
    exact a2
  · rintro ⟨i, c, cap⟩ ⟨hi, hsm, hn⟩
    simp -implicitDefEqProofs only [tx_i] at hi hsm
    have hall := keepH_all hn
    obtain ⟨H, hH⟩ : ∃ H, keepH (rofA b2 l ⟨i, c, cap⟩) = H := ⟨_, rfl⟩
    rw [hH] at hall
    simp -implicitDefEqProofs only [rofA, tx_i, tx_c, tx_cap] at hall hn
    obtain ⟨hrow, k2, _⟩ := AllH_app.1 hall
    by_cases h : i < l.length
    · have hel := rowI_nth h
      have hst := starts_step h
      have hsl : (startsN l i).length ≤ i := by unfold startsN; rw [List.length_map]; exact runsN_len i
      have hstep : smallV l[i] → ∀ (j : Nat) (h : j < l.length), j < i + 1 → smallV l[j] := by
        intro e j h1 h2
        by_cases hj : j = i
        · subst hj; exact e
        · exact hsm j h1 (by omega)
      have hno : ¬ smallV l[i] → ¬ CurL l := fun e k => e (k.2.2 _ (List.getElem_mem h))
      have hprev : 0 < i → (rowI l)[((i - 1 : Nat) : Int).toNat]? = some [.int .i64 (l.getD (i - 1) 0)] := fun hp => by
        rw [Int.toNat_natCast]
        exact rowI_at (by rw [List.getD_eq_getElem?_getD, List.getElem?_eq_getElem (by omega)]; rfl)
      have w1 : IntKind.i64.wrap ((i : Int) - 1) = (i : Int) - 1 := by rw [IntKind.wrap_i64]; omega
      generalize l[i] = x at *
      generalize l.getD (i - 1) 0 = p at *
      unfold smallV at hstep hno
      simp -implicitDefEqProofs -proj only [go_sem, Nat.reduceBEq, Nat.reduceLT, Nat.reduceLeDiff, Nat.reduceAdd, Nat.reduceMul, ↓reduceIte, Int.reduceToNat, Int.reducePow, Int.reduceLT, Int.reduceLE, Int.reduceAdd, Int.reduceSub, Int.reduceMul, Int.reduceEq, Int.reduceNe, tx_i, tx_c, tx_cap, hH, decide_eq_true (show (i : Int) < l.length by omega)]
      refine ElemA_at _ (by omega) hel ?_
      by_cases c1 : 2305843009213693952 < x
      · rw [if_neg (hno (by omega))]
        simp -implicitDefEqProofs -proj only [go_sem, Nat.reduceBEq, Nat.reduceLT, Nat.reduceLeDiff, Nat.reduceAdd, Nat.reduceMul, ↓reduceIte, Int.reduceToNat, Int.reducePow, Int.reduceLT, Int.reduceLE, Int.reduceAdd, Int.reduceSub, Int.reduceMul, Int.reduceEq, Int.reduceNe, k2, decide_eq_true c1]
        exact new_tup2 (new_curve (.nilsl _ _))
      by_cases c2 : x < -2305843009213693952
      · rw [if_neg (hno (by omega))]
        simp -implicitDefEqProofs -proj only [go_sem, Nat.reduceBEq, Nat.reduceLT, Nat.reduceLeDiff, Nat.reduceAdd, Nat.reduceMul, ↓reduceIte, Int.reduceToNat, Int.reducePow, Int.reduceLT, Int.reduceLE, Int.reduceAdd, Int.reduceSub, Int.reduceMul, Int.reduceEq, Int.reduceNe, k2, decide_eq_false c1, decide_eq_true c2]
        exact new_tup2 (new_curve (.nilsl _ _))
      by_cases hi0 : i = 0
      · rw [if_pos (.inl hi0)] at hst
        simp -implicitDefEqProofs -proj only [go_sem, Nat.reduceBEq, Nat.reduceLT, Nat.reduceLeDiff, Nat.reduceAdd, Nat.reduceMul, ↓reduceIte, Int.reduceToNat, Int.reducePow, Int.reduceLT, Int.reduceLE, Int.reduceAdd, Int.reduceSub, Int.reduceMul, Int.reduceEq, Int.reduceNe, k2, decide_eq_false c1, decide_eq_false c2, decide_eq_true (show (i : Int) = 0 by omega)]
        refine AllocR_intro (fun bs hs' => ?_)
        replace hs' : H bs = none := hs'
        simp -implicitDefEqProofs -proj only [go_sem, Nat.reduceBEq, Nat.reduceLT, Nat.reduceLeDiff, Nat.reduceAdd, Nat.reduceMul, ↓reduceIte, Int.reduceToNat, Int.reducePow, Int.reduceLT, Int.reduceLE, Int.reduceAdd, Int.reduceSub, Int.reduceMul, Int.reduceEq, Int.reduceNe]
        refine AppendA_grow (xs := rowI (startsN l i)) (y := [.int .i64 (i : Int)]) (t := 3) (capc := 1) [(b2, .box 26 [i64 0, .nilsl 5])] rfl (AllH_upd hs' hall) hn (by simp -implicitDefEqProofs -proj only [go_sem, Nat.reduceBEq, Nat.reduceLT, Nat.reduceLeDiff, Nat.reduceAdd, Nat.reduceMul, ↓reduceIte, Int.reduceToNat, Int.reducePow, Int.reduceLT, Int.reduceLE, Int.reduceAdd, Int.reduceSub, Int.reduceMul, Int.reduceEq, Int.reduceNe]) (by rw [rowI_len]; omega) (by rw [rowI_len]; omega) (fun H' c' cap' ha hk => ?_)
        rw [show rowI (startsN l i) ++ [[.int .i64 (i : Int)]] = rowI (startsN l (i + 1)) by rw [hst]; simp [rowI]] at ha hk
        have hne : rowI (startsN l (i + 1)) ≠ [] := by rw [hst]; simp [rowI]
        have hl2 : (rowI (startsN l (i + 1))).length = (rowI (startsN l i)).length + 1 := by rw [hst]; simp [rowI]
        simp -implicitDefEqProofs -proj only [go_sem, Nat.reduceBEq, Nat.reduceLT, Nat.reduceLeDiff, Nat.reduceAdd, Nat.reduceMul, ↓reduceIte, Int.reduceToNat, Int.reducePow, Int.reduceLT, Int.reduceLE, Int.reduceAdd, Int.reduceSub, Int.reduceMul, Int.reduceEq, Int.reduceNe]
        refine LoopQ_k ⟨i + 1, c', cap'⟩ ⟨by show i + 1 ≤ l.length; omega, hstep (by omega), hk⟩ (by show l.length - (i + 1) < l.length - i; omega) rfl ?_ ha
        simp -implicitDefEqProofs -proj only [go_sem, Nat.reduceBEq, Nat.reduceLT, Nat.reduceLeDiff, Nat.reduceAdd, Nat.reduceMul, ↓reduceIte, Int.reduceToNat, Int.reducePow, Int.reduceLT, Int.reduceLE, Int.reduceAdd, Int.reduceSub, Int.reduceMul, Int.reduceEq, Int.reduceNe, AllAt, tx_i, tx_c, tx_cap, i64_succ (show i < 9223372036854775807 by omega), rowV_ne hne, hl2]
      · have hp := hprev (by omega)
        simp -implicitDefEqProofs -proj only [go_sem, Nat.reduceBEq, Nat.reduceLT, Nat.reduceLeDiff, Nat.reduceAdd, Nat.reduceMul, ↓reduceIte, Int.reduceToNat, Int.reducePow, Int.reduceLT, Int.reduceLE, Int.reduceAdd, Int.reduceSub, Int.reduceMul, Int.reduceEq, Int.reduceNe, k2, decide_eq_false c1, decide_eq_false c2, decide_eq_false (show ¬ (i : Int) = 0 by omega), w1]
        refine ElemA_at _ (by omega) (i := (i : Int) - 1) (by rw [show (i : Int) - 1 = ((i - 1 : Nat) : Int) by omega]; exact hp) ?_
        by_cases hpx : p = x
        · rw [if_neg (fun h => h.elim hi0 (fun e => e hpx))] at hst
          simp -implicitDefEqProofs -proj only [go_sem, Nat.reduceBEq, Nat.reduceLT, Nat.reduceLeDiff, Nat.reduceAdd, Nat.reduceMul, ↓reduceIte, Int.reduceToNat, Int.reducePow, Int.reduceLT, Int.reduceLE, Int.reduceAdd, Int.reduceSub, Int.reduceMul, Int.reduceEq, Int.reduceNe, decide_eq_true hpx]
          refine LoopQ_k ⟨i + 1, c, cap⟩ ⟨by show i + 1 ≤ l.length; omega, hstep (by omega), by simp -implicitDefEqProofs only [rofA, tx_i, tx_c, tx_cap, hst]; exact hn⟩ (by show l.length - (i + 1) < l.length - i; omega) rfl ?_ (by simp -implicitDefEqProofs only [rofA, tx_i, tx_c, tx_cap, hst]; exact hall)
          simp -implicitDefEqProofs -proj only [go_sem, Nat.reduceBEq, Nat.reduceLT, Nat.reduceLeDiff, Nat.reduceAdd, Nat.reduceMul, ↓reduceIte, Int.reduceToNat, Int.reducePow, Int.reduceLT, Int.reduceLE, Int.reduceAdd, Int.reduceSub, Int.reduceMul, Int.reduceEq, Int.reduceNe, AllAt, tx_i, tx_c, tx_cap, hst, i64_succ (show i < 9223372036854775807 by omega)]
        · rw [if_pos (.inr hpx)] at hst
          simp -implicitDefEqProofs -proj only [go_sem, Nat.reduceBEq, Nat.reduceLT, Nat.reduceLeDiff, Nat.reduceAdd, Nat.reduceMul, ↓reduceIte, Int.reduceToNat, Int.reducePow, Int.reduceLT, Int.reduceLE, Int.reduceAdd, Int.reduceSub, Int.reduceMul, Int.reduceEq, Int.reduceNe, decide_eq_false hpx]
          refine AllocR_intro (fun bs hs' => ?_)
          replace hs' : H bs = none := hs'
          simp -implicitDefEqProofs -proj only [go_sem, Nat.reduceBEq, Nat.reduceLT, Nat.reduceLeDiff, Nat.reduceAdd, Nat.reduceMul, ↓reduceIte, Int.reduceToNat, Int.reducePow, Int.reduceLT, Int.reduceLE, Int.reduceAdd, Int.reduceSub, Int.reduceMul, Int.reduceEq, Int.reduceNe]
          refine AppendA_grow (xs := rowI (startsN l i)) (y := [.int .i64 (i : Int)]) (t := 3) (capc := 1) [(b2, .box 26 [i64 0, .nilsl 5])] rfl (AllH_upd hs' hall) hn (by simp -implicitDefEqProofs -proj only [go_sem, Nat.reduceBEq, Nat.reduceLT, Nat.reduceLeDiff, Nat.reduceAdd, Nat.reduceMul, ↓reduceIte, Int.reduceToNat, Int.reducePow, Int.reduceLT, Int.reduceLE, Int.reduceAdd, Int.reduceSub, Int.reduceMul, Int.reduceEq, Int.reduceNe]) (by rw [rowI_len]; omega) (by rw [rowI_len]; omega) (fun H' c' cap' ha hk => ?_)
          rw [show rowI (startsN l i) ++ [[.int .i64 (i : Int)]] = rowI (startsN l (i + 1)) by rw [hst]; simp [rowI]] at ha hk
          have hne : rowI (startsN l (i + 1)) ≠ [] := by rw [hst]; simp [rowI]
          have hl2 : (rowI (startsN l (i + 1))).length = (rowI (startsN l i)).length + 1 := by rw [hst]; simp [rowI]
          simp -implicitDefEqProofs -proj only [go_sem, Nat.reduceBEq, Nat.reduceLT, Nat.reduceLeDiff, Nat.reduceAdd, Nat.reduceMul, ↓reduceIte, Int.reduceToNat, Int.reducePow, Int.reduceLT, Int.reduceLE, Int.reduceAdd, Int.reduceSub, Int.reduceMul, Int.reduceEq, Int.reduceNe]
          refine LoopQ_k ⟨i + 1, c', cap'⟩ ⟨by show i + 1 ≤ l.length; omega, hstep (by omega), hk⟩ (by show l.length - (i + 1) < l.length - i; omega) rfl ?_ ha
          simp -implicitDefEqProofs -proj only [go_sem, Nat.reduceBEq, Nat.reduceLT, Nat.reduceLeDiff, Nat.reduceAdd, Nat.reduceMul, ↓reduceIte, Int.reduceToNat, Int.reducePow, Int.reduceLT, Int.reduceLE, Int.reduceAdd, Int.reduceSub, Int.reduceMul, Int.reduceEq, Int.reduceNe, AllAt, tx_i, tx_c, tx_cap, i64_succ (show i < 9223372036854775807 by omega), rowV_ne hne, hl2]
    · have hi' : i = l.length := by omega
      subst hi'
      have hcur : CurL l := ⟨fun e => h0 (by rw [e]; rfl), by omega, fun v hv => by obtain ⟨j, hj, rfl⟩ := List.getElem_of_mem hv; exact hsm j hj hj⟩
      rw [if_pos hcur]
      have hwl : IntKind.i64.wrap ((l.length : Int) - 1) = (l.length : Int) - 1 := by rw [IntKind.wrap_i64]; omega
      obtain ⟨hro, hRl⟩ := runs_small (curL_ok.2 hcur)
      have hmem := (runs_fwd 0 l).mem_val
      have hR0 : 0 < (runs 0 l).length := List.length_pos_iff.2 (fun e => hcur.1 (runs_nil.1 e))
      have hST : startsN l l.length = (runs 0 l).map (·.f) := rfl
      have hget : ∀ (j : Nat) (h : j < (runs 0 l).length), 0 ≤ (runs 0 l)[j].f ∧ (rowI l)[(runs 0 l)[j].f.toNat]? = some [.int .i64 (runs 0 l)[j].v] := fun j h => by
        obtain ⟨m1, m2, m3, m4⟩ := hmem _ (List.getElem_mem h)
        refine ⟨m1, rowI_at ?_⟩
        have hi : (runs 0 l)[j].f.toNat < l.length := by omega
        have := valL_get (f := 0) hi
        rw [Int.zero_add, show (((runs 0 l)[j].f.toNat : Nat) : Int) = (runs 0 l)[j].f by omega, m4] at this
        rw [List.getElem?_eq_getElem hi, this]
      obtain ⟨ST, hSTe⟩ : ∃ ST, startsN l l.length = ST := ⟨_, rfl⟩
      rw [hSTe] at hST hrow hn
      have hcv : curL l = curveV ((l.length : Int) - 1) (groups (runs 0 l)) := rfl
      rw [hcv]
      generalize runs 0 l = R at *
      have hSTl : ST.length = R.length := by rw [hST, List.length_map]
      have hSTn : ∀ (j : Nat) (h : j < R.length), (rowI ST)[j]? = some [.int .i64 R[j].f] := fun j h => rowI_at (by rw [hST]; simp [h])
      have hSTne : rowI ST ≠ [] := fun e => by have := congrArg List.length e; rw [rowI_len, hSTl, List.length_nil] at this; omega
      rw [rowH_ne hSTne] at hrow hn
      have kc := hrow.1
      have hcb : ¬ c = b2 := by
        simp -implicitDefEqProofs only [keys, List.map_append, List.map_cons, List.map_nil, List.nodup_append, List.mem_singleton] at hn
        exact hn.2.2 c rfl b2 rfl
      simp -implicitDefEqProofs -proj only [go_sem, Nat.reduceBEq, Nat.reduceLT, Nat.reduceLeDiff, Nat.reduceAdd, Nat.reduceMul, ↓reduceIte, Int.reduceToNat, Int.reducePow, Int.reduceLT, Int.reduceLE, Int.reduceAdd, Int.reduceSub, Int.reduceMul, Int.reduceEq, Int.reduceNe, tx_i, tx_c, tx_cap, hH, hSTe, k2, rowI_len, hwl, decide_eq_false (show ¬ (l.length : Int) < l.length by omega), rowV_ne hSTne]
      refine AllocA_intro (fun b7 hb7 => ?_)
      replace hb7 : H b7 = none := hb7
      obtain ⟨m1, m2⟩ := fresh_ne hb7 k2
      obtain ⟨m3, m4⟩ := fresh_ne hb7 kc
      simp -implicitDefEqProofs -proj only [go_sem, Nat.reduceBEq, Nat.reduceLT, Nat.reduceLeDiff, Nat.reduceAdd, Nat.reduceMul, ↓reduceIte, Int.reduceToNat, Int.reducePow, Int.reduceLT, Int.reduceLE, Int.reduceAdd, Int.reduceSub, Int.reduceMul, Int.reduceEq, Int.reduceNe, m1, m2, m3, m4, k2, kc]
      refine LoopA_k (fun y : RY => y.i ≤ R.length ∧ groups R = y.G ++ groups (R.drop y.i) ∧ y.G.length ≤ y.i ∧ (keys (rofB b7 b2 c cap l ST y)).Nodup) 165 (fun y => [(0, slI l), (2, .ptr b2 0), (4, .own c 1 0 ST.length cap), (7, .ptr b7 0), (8, i64 y.i)]) (rofB b7 b2 c cap l ST) (fun y => R.length - y.i) ⟨0, 0, 0, []⟩ ⟨Nat.zero_le _, rfl, Nat.le_refl _, by simp [keys, rofB, ty_G, rowG, rowH_nil, m1, m3, show ¬ b2 = c from fun e => hcb e.symm]⟩ rfl ?_ ?_ ?_
      · simp -implicitDefEqProofs -proj only [go_sem, Nat.reduceBEq, Nat.reduceLT, Nat.reduceLeDiff, Nat.reduceAdd, Nat.reduceMul, ↓reduceIte, Int.reduceToNat, Int.reducePow, Int.reduceLT, Int.reduceLE, Int.reduceAdd, Int.reduceSub, Int.reduceMul, Int.reduceEq, Int.reduceNe, AllAt, ty_i]
      · simp -implicitDefEqProofs -proj only [go_sem, Nat.reduceBEq, Nat.reduceLT, Nat.reduceLeDiff, Nat.reduceAdd, Nat.reduceMul, ↓reduceIte, Int.reduceToNat, Int.reducePow, Int.reduceLT, Int.reduceLE, Int.reduceAdd, Int.reduceSub, Int.reduceMul, Int.reduceEq, Int.reduceNe, AllH, rofB, ty_G, ty_d, ty_dap, rowG, List.map_nil, rowH_nil, rowV_nil, m1, m3, k2, kc]
      · rintro ⟨i, d, dap, G⟩ ⟨hi, hG, hGl, hn'⟩
        simp -implicitDefEqProofs only [ty_i, ty_G] at hi hG hGl
        have hall' := keepH_all hn'
        obtain ⟨H1, hH1⟩ : ∃ H1, keepH (rofB b7 b2 c cap l ST ⟨i, d, dap, G⟩) = H1 := ⟨_, rfl⟩
        rw [hH1] at hall'
        simp -implicitDefEqProofs only [rofB, ty_i, ty_d, ty_dap, ty_G] at hall' hn'
        obtain ⟨hrow1, j7, j2, jc, _⟩ := AllH_app.1 hall'
        by_cases hlt : i < R.length
        · obtain ⟨S, hSe⟩ : ∃ S, R.drop i = S := ⟨_, rfl⟩
          have hSl : S.length = R.length - i := by rw [← hSe, List.length_drop]
          have hSj : ∀ (j : Nat) (h : j < S.length), S[j] = R[i + j]'(by omega) := fun j h => by subst hSe; simp
          have hSs : ∀ (j : Nat) (h : j < S.length), (rowI ST)[i + j]? = some [.int .i64 S[j].f] := fun j h => by rw [hSj j h]; exact hSTn _ _
          have hSg : ∀ (j : Nat) (h : j < S.length), 0 ≤ S[j].f ∧ (rowI l)[S[j].f.toNat]? = some [.int .i64 S[j].v] := fun j h => by rw [hSj j h]; exact hget _ _
          have hSo : ∀ (j : Nat) (h : j < S.length), RunOK S[j] := fun j h => by rw [hSj j h]; exact hro _ (List.getElem_mem _)
          have hS0 : 0 < S.length := by omega
          have hstep := groups_step hS0
          rw [hSe] at hG
          have es := hSs 0 hS0
          rw [Nat.add_zero] at es
          obtain ⟨ef0, ev⟩ := hSg 0 hS0
          have ho0 := hSo 0 hS0
          have hdr : ∀ n, S.drop n = R.drop (i + n) := fun n => by rw [← hSe, List.drop_drop]
          have hw1 : IntKind.i64.wrap ((i : Int) + 1) = ((i + 1 : Nat) : Int) := by rw [IntKind.wrap_i64]; omega
          have hmid : ∀ (b9 : Nat) (x : Blk), H1 b9 = none → (keys (rowH 42 5 d dap (rowG G) ++ [(b9, x), (b7, .box 26 [i64 ((l.length : Int) - 1), rowV 5 5 d dap (rowG G)]), (b2, .box 26 [i64 0, .nilsl 5]), (c, .row 3 1 cap (rowI ST))])).Nodup := fun b9 x hb => by
            have := alloc_keys (x := x) hb hall' hn'
            simp -implicitDefEqProofs only [keys, List.map_append, List.map_cons] at this ⊢
            exact nodup_mid this
          simp -implicitDefEqProofs -proj only [go_sem, Nat.reduceBEq, Nat.reduceLT, Nat.reduceLeDiff, Nat.reduceAdd, Nat.reduceMul, ↓reduceIte, Int.reduceToNat, Int.reducePow, Int.reduceLT, Int.reduceLE, Int.reduceAdd, Int.reduceSub, Int.reduceMul, Int.reduceEq, Int.reduceNe, ty_i, ty_d, ty_dap, ty_G, hH1, rowI_len, hSTl, decide_eq_true (show (i : Int) < R.length by omega)]
          (repeat' (with_reducible refine VC_intro ?_ (fun h => ?_); (focus first | decide | omega); clear h; try simp -implicitDefEqProofs -proj only [go_sem, Nat.reduceBEq, Nat.reduceLT, Nat.reduceLeDiff, Nat.reduceAdd, Nat.reduceMul, ↓reduceIte, Int.reduceToNat, Int.reducePow, Int.reduceLT, Int.reduceLE, Int.reduceAdd, Int.reduceSub, Int.reduceMul, Int.reduceEq, Int.reduceNe, hSTl]))
          simp -implicitDefEqProofs -proj only [go_sem, Nat.reduceBEq, Nat.reduceLT, Nat.reduceLeDiff, Nat.reduceAdd, Nat.reduceMul, ↓reduceIte, Int.reduceToNat, Int.reducePow, Int.reduceLT, Int.reduceLE, Int.reduceAdd, Int.reduceSub, Int.reduceMul, Int.reduceEq, Int.reduceNe, jc]
          refine IdxE_1 _ (by rw [Int.toNat_natCast]; exact es) (by simp) ?_
          simp -implicitDefEqProofs -proj only [go_sem, Nat.reduceBEq, Nat.reduceLT, Nat.reduceLeDiff, Nat.reduceAdd, Nat.reduceMul, ↓reduceIte, Int.reduceToNat, Int.reducePow, Int.reduceLT, Int.reduceLE, Int.reduceAdd, Int.reduceSub, Int.reduceMul, Int.reduceEq, Int.reduceNe, jc]
          refine IdxE_1 _ (by rw [Int.toNat_natCast]; exact es) (by simp) ?_
          simp -implicitDefEqProofs -proj only [go_sem, Nat.reduceBEq, Nat.reduceLT, Nat.reduceLeDiff, Nat.reduceAdd, Nat.reduceMul, ↓reduceIte, Int.reduceToNat, Int.reducePow, Int.reduceLT, Int.reduceLE, Int.reduceAdd, Int.reduceSub, Int.reduceMul, Int.reduceEq, Int.reduceNe]
          refine ElemA_at _ ef0 ev ?_
          simp -implicitDefEqProofs -proj only [go_sem, Nat.reduceBEq, Nat.reduceLT, Nat.reduceLeDiff, Nat.reduceAdd, Nat.reduceMul, ↓reduceIte, Int.reduceToNat, Int.reducePow, Int.reduceLT, Int.reduceLE, Int.reduceAdd, Int.reduceSub, Int.reduceMul, Int.reduceEq, Int.reduceNe]
          refine AllocA_intro (fun b9 hb9 => ?_)
          replace hb9 : H1 b9 = none := hb9
          obtain ⟨p1, p2⟩ := fresh_ne hb9 j7
          obtain ⟨p3, p4⟩ := fresh_ne hb9 j2
          obtain ⟨p5, p6⟩ := fresh_ne hb9 jc
          by_cases hi1 : i + 1 < R.length
          · have hS1 : 1 < S.length := by omega
            have hgq := grpOf_eq hS1
            obtain ⟨w, hw⟩ : ∃ w, S[1].f - S[0].f = w := ⟨_, rfl⟩
            obtain ⟨r, hr⟩ : ∃ r, S[1].v - S[0].v = r := ⟨_, rfl⟩
            rw [hw, hr] at hgq
            obtain ⟨n, hn9⟩ : ∃ n, runLen w r S[0] (S.drop 1) + 1 = n := ⟨_, rfl⟩
            rw [hn9] at hgq
            have hgle := @grpOf_le S[0] (S.drop 1)
            rw [hgq] at hstep hgle
            simp -implicitDefEqProofs only [List.length_drop] at hgle
            have hc2 : 2 + runLen w r S[1] (S.drop 2) = n := by
              have this : runLen w r S[0] (S.drop 1) = if S[1].f - S[0].f = w ∧ S[1].v - S[0].v = r then runLen w r S[1] (S.drop 2) + 1 else 0 := runLen_at (w := w) (r := r) (S := S) (c := 1) (by omega) hS1
              rw [if_pos ⟨hw, hr⟩] at this
              omega
            have es1 := hSs 1 hS1
            obtain ⟨ef1, ev1⟩ := hSg 1 hS1
            have ho1 := hSo 1 hS1
            unfold RunOK at ho0 ho1
            have wW : IntKind.i64.wrap (S[1].f - S[0].f) = w := by rw [IntKind.wrap_i64]; omega
            have wR : IntKind.i64.wrap (S[1].v - S[0].v) = r := by rw [IntKind.wrap_i64]; omega
            simp -implicitDefEqProofs -proj only [go_sem, Nat.reduceBEq, Nat.reduceLT, Nat.reduceLeDiff, Nat.reduceAdd, Nat.reduceMul, ↓reduceIte, Int.reduceToNat, Int.reducePow, Int.reduceLT, Int.reduceLE, Int.reduceAdd, Int.reduceSub, Int.reduceMul, Int.reduceEq, Int.reduceNe, p1, p2, p3, p4, p5, p6, j7, j2, jc, rowI_len, hSTl, hw1, decide_eq_true (show ((i + 1 : Nat) : Int) < R.length by omega)]
            (repeat' (with_reducible refine VC_intro ?_ (fun h => ?_); (focus first | decide | omega); clear h; try simp -implicitDefEqProofs -proj only [go_sem, Nat.reduceBEq, Nat.reduceLT, Nat.reduceLeDiff, Nat.reduceAdd, Nat.reduceMul, ↓reduceIte, Int.reduceToNat, Int.reducePow, Int.reduceLT, Int.reduceLE, Int.reduceAdd, Int.reduceSub, Int.reduceMul, Int.reduceEq, Int.reduceNe, hSTl]))
            try simp -implicitDefEqProofs -proj only [go_sem, Nat.reduceBEq, Nat.reduceLT, Nat.reduceLeDiff, Nat.reduceAdd, Nat.reduceMul, ↓reduceIte, Int.reduceToNat, Int.reducePow, Int.reduceLT, Int.reduceLE, Int.reduceAdd, Int.reduceSub, Int.reduceMul, Int.reduceEq, Int.reduceNe, p1, p2, p3, p4, p5, p6, jc]
            refine IdxE_1 _ (by rw [Int.toNat_natCast]; exact es1) (by simp) ?_
            simp -implicitDefEqProofs -proj only [go_sem, Nat.reduceBEq, Nat.reduceLT, Nat.reduceLeDiff, Nat.reduceAdd, Nat.reduceMul, ↓reduceIte, Int.reduceToNat, Int.reducePow, Int.reduceLT, Int.reduceLE, Int.reduceAdd, Int.reduceSub, Int.reduceMul, Int.reduceEq, Int.reduceNe, p1, p2, p3, p4, p5, p6, jc]
            refine IdxE_1 _ (by rw [Int.toNat_natCast]; exact es) (by simp) ?_
            simp -implicitDefEqProofs -proj only [go_sem, Nat.reduceBEq, Nat.reduceLT, Nat.reduceLeDiff, Nat.reduceAdd, Nat.reduceMul, ↓reduceIte, Int.reduceToNat, Int.reducePow, Int.reduceLT, Int.reduceLE, Int.reduceAdd, Int.reduceSub, Int.reduceMul, Int.reduceEq, Int.reduceNe, p1, p2, p3, p4, p5, p6, jc, wW, hw1]
            (repeat' (with_reducible refine VC_intro ?_ (fun h => ?_); (focus first | decide | omega); clear h; try simp -implicitDefEqProofs -proj only [go_sem, Nat.reduceBEq, Nat.reduceLT, Nat.reduceLeDiff, Nat.reduceAdd, Nat.reduceMul, ↓reduceIte, Int.reduceToNat, Int.reducePow, Int.reduceLT, Int.reduceLE, Int.reduceAdd, Int.reduceSub, Int.reduceMul, Int.reduceEq, Int.reduceNe, hSTl]))
            try simp -implicitDefEqProofs -proj only [go_sem, Nat.reduceBEq, Nat.reduceLT, Nat.reduceLeDiff, Nat.reduceAdd, Nat.reduceMul, ↓reduceIte, Int.reduceToNat, Int.reducePow, Int.reduceLT, Int.reduceLE, Int.reduceAdd, Int.reduceSub, Int.reduceMul, Int.reduceEq, Int.reduceNe, p1, p2, p3, p4, p5, p6, jc]
            refine IdxE_1 _ (by rw [Int.toNat_natCast]; exact es1) (by simp) ?_
            simp -implicitDefEqProofs -proj only [go_sem, Nat.reduceBEq, Nat.reduceLT, Nat.reduceLeDiff, Nat.reduceAdd, Nat.reduceMul, ↓reduceIte, Int.reduceToNat, Int.reducePow, Int.reduceLT, Int.reduceLE, Int.reduceAdd, Int.reduceSub, Int.reduceMul, Int.reduceEq, Int.reduceNe]
            refine ElemA_at _ ef1 ev1 ?_
            simp -implicitDefEqProofs -proj only [go_sem, Nat.reduceBEq, Nat.reduceLT, Nat.reduceLeDiff, Nat.reduceAdd, Nat.reduceMul, ↓reduceIte, Int.reduceToNat, Int.reducePow, Int.reduceLT, Int.reduceLE, Int.reduceAdd, Int.reduceSub, Int.reduceMul, Int.reduceEq, Int.reduceNe, wR, p1, p2, p3, p4, p5, p6]
            have hin : AllH H1 (rowH 42 5 d dap (rowG G) ++ [(b7, .box 26 [i64 ((l.length : Int) - 1), rowV 5 5 d dap (rowG G)]), (b2, .box 26 [i64 0, .nilsl 5]), (c, .row 3 1 cap (rowI ST))]) := hall'
            refine LoopA_k (fun k : Nat => 2 ≤ k ∧ i + k ≤ R.length ∧ ∃ h : k ≤ S.length ∧ 1 ≤ k, k + runLen w r (S[k - 1]'(by omega)) (S.drop k) = n ∧ (S[k - 1]'(by omega)).f = S[0].f + ((k : Int) - 1) * w) 165 (fun _ => [(0, slI l), (2, .ptr b2 0), (4, .own c 1 0 R.length cap), (7, .ptr b7 0), (8, i64 i), (9, .ptr b9 0)]) (fun k => rowH 42 5 d dap (rowG G) ++ [(b9, .box 42 [i64 S[0].f, i64 S[0].v, i64 w, i64 r, i64 k]), (b7, .box 26 [i64 ((l.length : Int) - 1), rowV 5 5 d dap (rowG G)]), (b2, .box 26 [i64 0, .nilsl 5]), (c, .row 3 1 cap (rowI ST))]) (fun k => R.length - k) 2 ⟨Nat.le_refl _, by omega, ⟨by omega, by omega⟩, hc2, by show S[1].f = S[0].f + (((2 : Nat) : Int) - 1) * w; omega⟩ rfl ?_ ?_ ?_
            · simp -implicitDefEqProofs -proj only [go_sem, Nat.reduceBEq, Nat.reduceLT, Nat.reduceLeDiff, Nat.reduceAdd, Nat.reduceMul, ↓reduceIte, Int.reduceToNat, Int.reducePow, Int.reduceLT, Int.reduceLE, Int.reduceAdd, Int.reduceSub, Int.reduceMul, Int.reduceEq, Int.reduceNe, AllAt]
            · refine AllH_app.2 ⟨?_, ?_⟩
              · refine drop_all hrow1 ?_ <;> exact fresh_keys hb9 hrow1
              · simp -implicitDefEqProofs -proj only [go_sem, Nat.reduceBEq, Nat.reduceLT, Nat.reduceLeDiff, Nat.reduceAdd, Nat.reduceMul, ↓reduceIte, Int.reduceToNat, Int.reducePow, Int.reduceLT, Int.reduceLE, Int.reduceAdd, Int.reduceSub, Int.reduceMul, Int.reduceEq, Int.reduceNe, AllH, p1, p2, p3, p4, p5, p6, j7, j2, jc]
            · rintro k ⟨hk2, hik, ⟨hk3, hk1⟩, hkn, hkf⟩
              have hndk := hmid b9 (.box 42 [i64 S[0].f, i64 S[0].v, i64 w, i64 r, i64 k]) hb9
              have hallk := keepH_all hndk
              obtain ⟨H2, hH2⟩ : ∃ H2, keepH (rowH 42 5 d dap (rowG G) ++ [(b9, .box 42 [i64 S[0].f, i64 S[0].v, i64 w, i64 r, i64 k]), (b7, .box 26 [i64 ((l.length : Int) - 1), rowV 5 5 d dap (rowG G)]), (b2, .box 26 [i64 0, .nilsl 5]), (c, .row 3 1 cap (rowI ST))]) = H2 := ⟨_, rfl⟩
              rw [hH2] at hallk
              obtain ⟨hrow2, i9, i7, i2, ic, _⟩ := AllH_app.1 hallk
              have hwk : IntKind.i64.wrap ((i : Int) + k) = ((i + k : Nat) : Int) := by rw [IntKind.wrap_i64]; omega
              by_cases hlk : i + k < R.length
              · have hSk : k < S.length := by omega
                have esk := hSs k hSk
                have esp := hSs (k - 1) (by omega)
                rw [show i + (k - 1) = i + k - 1 by omega] at esp
                obtain ⟨efk, evk⟩ := hSg k hSk
                obtain ⟨efp, evp⟩ := hSg (k - 1) (by omega)
                have hok := hSo k hSk
                have hop := hSo (k - 1) (by omega)
                have hrl := runLen_at (w := w) (r := r) (S := S) (c := k) (by omega) hSk
                rw [hrl] at hkn
                unfold RunOK at hok hop
                have hkw : (k : Int) * w = ((k : Int) - 1) * w + w := by rw [Int.sub_mul]; omega
                have wk1 : IntKind.i64.wrap ((k : Int) * w) = (k : Int) * w := by rw [IntKind.wrap_i64]; omega
                have wk2 : IntKind.i64.wrap (S[0].f + (k : Int) * w) = S[0].f + (k : Int) * w := by rw [IntKind.wrap_i64]; omega
                have wk3 : IntKind.i64.wrap ((S[k - 1]'(by omega)).v + r) = (S[k - 1]'(by omega)).v + r := by rw [IntKind.wrap_i64]; omega
                have wk4 : IntKind.i64.wrap (((i + k : Nat) : Int) - 1) = ((i + k - 1 : Nat) : Int) := by rw [IntKind.wrap_i64]; omega
                have hnext : S[k].f - (S[k - 1]'(by omega)).f = w → k + (runLen w r S[k] (S.drop (k + 1)) + 1) = n → (2 ≤ k + 1 ∧ i + (k + 1) ≤ R.length ∧ ∃ h : k + 1 ≤ S.length ∧ 1 ≤ k + 1, k + 1 + runLen w r (S[k + 1 - 1]'(by omega)) (S.drop (k + 1)) = n ∧ (S[k + 1 - 1]'(by omega)).f = S[0].f + (((k + 1 : Nat) : Int) - 1) * w) := fun e1 e2 => ⟨by omega, by omega, ⟨by omega, by omega⟩, by show k + 1 + runLen w r S[k] (S.drop (k + 1)) = n; omega, by show S[k].f = S[0].f + (((k + 1 : Nat) : Int) - 1) * w; rw [show ((k + 1 : Nat) : Int) - 1 = (k : Int) by omega, hkw]; omega⟩
                simp -implicitDefEqProofs -proj only [go_sem, Nat.reduceBEq, Nat.reduceLT, Nat.reduceLeDiff, Nat.reduceAdd, Nat.reduceMul, ↓reduceIte, Int.reduceToNat, Int.reducePow, Int.reduceLT, Int.reduceLE, Int.reduceAdd, Int.reduceSub, Int.reduceMul, Int.reduceEq, Int.reduceNe, hH2, i9, i7, i2, ic, rowI_len, hSTl, hwk, decide_eq_true (show ((i + k : Nat) : Int) < R.length by omega)]
                (repeat' (with_reducible refine VC_intro ?_ (fun h => ?_); (focus first | decide | omega); clear h; try simp -implicitDefEqProofs -proj only [go_sem, Nat.reduceBEq, Nat.reduceLT, Nat.reduceLeDiff, Nat.reduceAdd, Nat.reduceMul, ↓reduceIte, Int.reduceToNat, Int.reducePow, Int.reduceLT, Int.reduceLE, Int.reduceAdd, Int.reduceSub, Int.reduceMul, Int.reduceEq, Int.reduceNe, hSTl]))
                try simp -implicitDefEqProofs -proj only [go_sem, Nat.reduceBEq, Nat.reduceLT, Nat.reduceLeDiff, Nat.reduceAdd, Nat.reduceMul, ↓reduceIte, Int.reduceToNat, Int.reducePow, Int.reduceLT, Int.reduceLE, Int.reduceAdd, Int.reduceSub, Int.reduceMul, Int.reduceEq, Int.reduceNe, ic, i9, hwk]
                refine IdxE_1 _ (by rw [Int.toNat_natCast]; exact esk) (by simp) ?_
                by_cases t1 : S[k].f = S[0].f + (k : Int) * w
                rotate_left
                · rw [if_neg (fun h => t1 (by omega))] at hkn
                  have hkn' : n = k := by omega
                  subst hkn'
                  simp -implicitDefEqProofs -proj only [go_sem, Nat.reduceBEq, Nat.reduceLT, Nat.reduceLeDiff, Nat.reduceAdd, Nat.reduceMul, ↓reduceIte, Int.reduceToNat, Int.reducePow, Int.reduceLT, Int.reduceLE, Int.reduceAdd, Int.reduceSub, Int.reduceMul, Int.reduceEq, Int.reduceNe, i9, i7, i2, ic, wk1, wk2, decide_eq_false t1, if_neg (show ¬ (4 : Nat) = 5 by decide)]
                  refine AllocR_intro (fun bs hs' => ?_)
                  replace hs' : H2 bs = none := hs'
                  simp -implicitDefEqProofs -proj only [go_sem, Nat.reduceBEq, Nat.reduceLT, Nat.reduceLeDiff, Nat.reduceAdd, Nat.reduceMul, ↓reduceIte, Int.reduceToNat, Int.reducePow, Int.reduceLT, Int.reduceLE, Int.reduceAdd, Int.reduceSub, Int.reduceMul, Int.reduceEq, Int.reduceNe]
                  refine AppendA_grow (xs := rowG G) (y := [.int .i64 S[0].f, .int .i64 S[0].v, .int .i64 w, .int .i64 r, .int .i64 n]) (t := 42) (capc := 1) [(b9, .box 42 [i64 S[0].f, i64 S[0].v, i64 w, i64 r, i64 n]), (b7, .box 26 [i64 ((l.length : Int) - 1), rowV 5 5 d dap (rowG G)]), (b2, .box 26 [i64 0, .nilsl 5]), (c, .row 3 1 cap (rowI ST))] rfl (AllH_upd hs' hallk) hndk (by simp -implicitDefEqProofs -proj only [go_sem, Nat.reduceBEq, Nat.reduceLT, Nat.reduceLeDiff, Nat.reduceAdd, Nat.reduceMul, ↓reduceIte, Int.reduceToNat, Int.reducePow, Int.reduceLT, Int.reduceLE, Int.reduceAdd, Int.reduceSub, Int.reduceMul, Int.reduceEq, Int.reduceNe]) (by rw [rowG_len]; omega) (by rw [rowG_len]; omega) (fun H' d' dap' ha hk => ?_)
                  rw [show rowG G ++ [[.int .i64 S[0].f, .int .i64 S[0].v, .int .i64 w, .int .i64 r, .int .i64 n]] = rowG (G ++ [(⟨S[0].f, S[0].v, w, r, (n : Int)⟩ : Grp)]) from rowG_snoc (g := (⟨S[0].f, S[0].v, w, r, (n : Int)⟩ : Grp))] at ha hk
                  have hne2 : rowG (G ++ [(⟨S[0].f, S[0].v, w, r, (n : Int)⟩ : Grp)]) ≠ [] := by simp [rowG]
                  obtain ⟨hrow', q9, q7, q2, qc, _⟩ := AllH_app.1 ha
                  have hwc : IntKind.i64.wrap ((i : Int) + (n : Int)) = ((i + n : Nat) : Int) := by rw [IntKind.wrap_i64]; omega
                  simp -implicitDefEqProofs -proj only [go_sem, Nat.reduceBEq, Nat.reduceLT, Nat.reduceLeDiff, Nat.reduceAdd, Nat.reduceMul, ↓reduceIte, Int.reduceToNat, Int.reducePow, Int.reduceLT, Int.reduceLE, Int.reduceAdd, Int.reduceSub, Int.reduceMul, Int.reduceEq, Int.reduceNe, q9, q7, p1, p2, hwc]
                  refine LoopQ_k ⟨i + n, d', dap', G ++ [(⟨S[0].f, S[0].v, w, r, (n : Int)⟩ : Grp)]⟩ ⟨by show i + n ≤ R.length; omega, by simp -implicitDefEqProofs only [ty_i, ty_G]; rw [hG, hstep, hdr]; simp, by simp -implicitDefEqProofs only [ty_i, ty_G, List.length_append, List.length_singleton]; omega, ?_⟩ (by show R.length - (i + n) < R.length - i; omega) rfl ?_ ?_
                  · simp -implicitDefEqProofs only [keys, rofB, ty_d, ty_dap, ty_G, List.map_append, List.map_cons, List.map_nil] at hk ⊢
                    exact nodup_cut hk
                  · simp -implicitDefEqProofs -proj only [go_sem, Nat.reduceBEq, Nat.reduceLT, Nat.reduceLeDiff, Nat.reduceAdd, Nat.reduceMul, ↓reduceIte, Int.reduceToNat, Int.reducePow, Int.reduceLT, Int.reduceLE, Int.reduceAdd, Int.reduceSub, Int.reduceMul, Int.reduceEq, Int.reduceNe, AllAt, ty_i, hSTl]
                  · refine AllH_app.2 ⟨drop_all hrow' ?_, ?_⟩
                    · simp -implicitDefEqProofs only [keys, List.map_append, List.nodup_append, List.map_cons, List.map_nil, List.mem_cons] at hk
                      exact fun hm => hk.2.2 _ hm _ (.inr (.inl rfl)) rfl
                    · have hnk : ¬ b7 = b2 ∧ ¬ b7 = c := ⟨m1, m3⟩
                      simp -implicitDefEqProofs -proj only [go_sem, Nat.reduceBEq, Nat.reduceLT, Nat.reduceLeDiff, Nat.reduceAdd, Nat.reduceMul, ↓reduceIte, Int.reduceToNat, Int.reducePow, Int.reduceLT, Int.reduceLE, Int.reduceAdd, Int.reduceSub, Int.reduceMul, Int.reduceEq, Int.reduceNe, AllH, ty_d, ty_dap, ty_G, q2, qc, m1, m3, rowV_ne hne2, show (rowG (G ++ [(⟨S[0].f, S[0].v, w, r, (n : Int)⟩ : Grp)])).length = (rowG G).length + 1 by simp [rowG]]
                simp -implicitDefEqProofs -proj only [go_sem, Nat.reduceBEq, Nat.reduceLT, Nat.reduceLeDiff, Nat.reduceAdd, Nat.reduceMul, ↓reduceIte, Int.reduceToNat, Int.reducePow, Int.reduceLT, Int.reduceLE, Int.reduceAdd, Int.reduceSub, Int.reduceMul, Int.reduceEq, Int.reduceNe, i9, i7, i2, ic, wk1, wk2, hwk, hSTl, rowI_len, decide_eq_true t1]
                (repeat' (with_reducible refine VC_intro ?_ (fun h => ?_); (focus first | decide | omega); clear h; try simp -implicitDefEqProofs -proj only [go_sem, Nat.reduceBEq, Nat.reduceLT, Nat.reduceLeDiff, Nat.reduceAdd, Nat.reduceMul, ↓reduceIte, Int.reduceToNat, Int.reducePow, Int.reduceLT, Int.reduceLE, Int.reduceAdd, Int.reduceSub, Int.reduceMul, Int.reduceEq, Int.reduceNe, hSTl]))
                try simp -implicitDefEqProofs -proj only [go_sem, Nat.reduceBEq, Nat.reduceLT, Nat.reduceLeDiff, Nat.reduceAdd, Nat.reduceMul, ↓reduceIte, Int.reduceToNat, Int.reducePow, Int.reduceLT, Int.reduceLE, Int.reduceAdd, Int.reduceSub, Int.reduceMul, Int.reduceEq, Int.reduceNe, ic, i9, hwk]
                refine IdxE_1 _ (by rw [Int.toNat_natCast]; exact esk) (by simp) ?_
                simp -implicitDefEqProofs -proj only [go_sem, Nat.reduceBEq, Nat.reduceLT, Nat.reduceLeDiff, Nat.reduceAdd, Nat.reduceMul, ↓reduceIte, Int.reduceToNat, Int.reducePow, Int.reduceLT, Int.reduceLE, Int.reduceAdd, Int.reduceSub, Int.reduceMul, Int.reduceEq, Int.reduceNe, i9, ic, hwk]
                refine ElemA_at _ efk evk ?_
                simp -implicitDefEqProofs -proj only [go_sem, Nat.reduceBEq, Nat.reduceLT, Nat.reduceLeDiff, Nat.reduceAdd, Nat.reduceMul, ↓reduceIte, Int.reduceToNat, Int.reducePow, Int.reduceLT, Int.reduceLE, Int.reduceAdd, Int.reduceSub, Int.reduceMul, Int.reduceEq, Int.reduceNe, i9, ic, hwk, wk4, hSTl]
                (repeat' (with_reducible refine VC_intro ?_ (fun h => ?_); (focus first | decide | omega); clear h; try simp -implicitDefEqProofs -proj only [go_sem, Nat.reduceBEq, Nat.reduceLT, Nat.reduceLeDiff, Nat.reduceAdd, Nat.reduceMul, ↓reduceIte, Int.reduceToNat, Int.reducePow, Int.reduceLT, Int.reduceLE, Int.reduceAdd, Int.reduceSub, Int.reduceMul, Int.reduceEq, Int.reduceNe, hSTl]))
                try simp -implicitDefEqProofs -proj only [go_sem, Nat.reduceBEq, Nat.reduceLT, Nat.reduceLeDiff, Nat.reduceAdd, Nat.reduceMul, ↓reduceIte, Int.reduceToNat, Int.reducePow, Int.reduceLT, Int.reduceLE, Int.reduceAdd, Int.reduceSub, Int.reduceMul, Int.reduceEq, Int.reduceNe, ic, i9, hwk, wk4]
                refine IdxE_1 _ (by rw [Int.toNat_natCast]; exact esp) (by simp) ?_
                simp -implicitDefEqProofs -proj only [go_sem, Nat.reduceBEq, Nat.reduceLT, Nat.reduceLeDiff, Nat.reduceAdd, Nat.reduceMul, ↓reduceIte, Int.reduceToNat, Int.reducePow, Int.reduceLT, Int.reduceLE, Int.reduceAdd, Int.reduceSub, Int.reduceMul, Int.reduceEq, Int.reduceNe, i9, ic]
                refine ElemA_at _ efp evp ?_
                by_cases t2 : S[k].v = (S[k - 1]'(by omega)).v + r
                rotate_left
                · rw [if_neg (fun h => t2 (by omega))] at hkn
                  have hkn' : n = k := by omega
                  subst hkn'
                  simp -implicitDefEqProofs -proj only [go_sem, Nat.reduceBEq, Nat.reduceLT, Nat.reduceLeDiff, Nat.reduceAdd, Nat.reduceMul, ↓reduceIte, Int.reduceToNat, Int.reducePow, Int.reduceLT, Int.reduceLE, Int.reduceAdd, Int.reduceSub, Int.reduceMul, Int.reduceEq, Int.reduceNe, i9, i7, i2, ic, wk3, decide_eq_false t2, if_neg (show ¬ (4 : Nat) = 5 by decide)]
                  refine AllocR_intro (fun bs hs' => ?_)
                  replace hs' : H2 bs = none := hs'
                  simp -implicitDefEqProofs -proj only [go_sem, Nat.reduceBEq, Nat.reduceLT, Nat.reduceLeDiff, Nat.reduceAdd, Nat.reduceMul, ↓reduceIte, Int.reduceToNat, Int.reducePow, Int.reduceLT, Int.reduceLE, Int.reduceAdd, Int.reduceSub, Int.reduceMul, Int.reduceEq, Int.reduceNe]
                  refine AppendA_grow (xs := rowG G) (y := [.int .i64 S[0].f, .int .i64 S[0].v, .int .i64 w, .int .i64 r, .int .i64 n]) (t := 42) (capc := 1) [(b9, .box 42 [i64 S[0].f, i64 S[0].v, i64 w, i64 r, i64 n]), (b7, .box 26 [i64 ((l.length : Int) - 1), rowV 5 5 d dap (rowG G)]), (b2, .box 26 [i64 0, .nilsl 5]), (c, .row 3 1 cap (rowI ST))] rfl (AllH_upd hs' hallk) hndk (by simp -implicitDefEqProofs -proj only [go_sem, Nat.reduceBEq, Nat.reduceLT, Nat.reduceLeDiff, Nat.reduceAdd, Nat.reduceMul, ↓reduceIte, Int.reduceToNat, Int.reducePow, Int.reduceLT, Int.reduceLE, Int.reduceAdd, Int.reduceSub, Int.reduceMul, Int.reduceEq, Int.reduceNe]) (by rw [rowG_len]; omega) (by rw [rowG_len]; omega) (fun H' d' dap' ha hk => ?_)
                  rw [show rowG G ++ [[.int .i64 S[0].f, .int .i64 S[0].v, .int .i64 w, .int .i64 r, .int .i64 n]] = rowG (G ++ [(⟨S[0].f, S[0].v, w, r, (n : Int)⟩ : Grp)]) from rowG_snoc (g := (⟨S[0].f, S[0].v, w, r, (n : Int)⟩ : Grp))] at ha hk
                  have hne2 : rowG (G ++ [(⟨S[0].f, S[0].v, w, r, (n : Int)⟩ : Grp)]) ≠ [] := by simp [rowG]
                  obtain ⟨hrow', q9, q7, q2, qc, _⟩ := AllH_app.1 ha
                  have hwc : IntKind.i64.wrap ((i : Int) + (n : Int)) = ((i + n : Nat) : Int) := by rw [IntKind.wrap_i64]; omega
                  simp -implicitDefEqProofs -proj only [go_sem, Nat.reduceBEq, Nat.reduceLT, Nat.reduceLeDiff, Nat.reduceAdd, Nat.reduceMul, ↓reduceIte, Int.reduceToNat, Int.reducePow, Int.reduceLT, Int.reduceLE, Int.reduceAdd, Int.reduceSub, Int.reduceMul, Int.reduceEq, Int.reduceNe, q9, q7, p1, p2, hwc]
                  refine LoopQ_k ⟨i + n, d', dap', G ++ [(⟨S[0].f, S[0].v, w, r, (n : Int)⟩ : Grp)]⟩ ⟨by show i + n ≤ R.length; omega, by simp -implicitDefEqProofs only [ty_i, ty_G]; rw [hG, hstep, hdr]; simp, by simp -implicitDefEqProofs only [ty_i, ty_G, List.length_append, List.length_singleton]; omega, ?_⟩ (by show R.length - (i + n) < R.length - i; omega) rfl ?_ ?_
                  · simp -implicitDefEqProofs only [keys, rofB, ty_d, ty_dap, ty_G, List.map_append, List.map_cons, List.map_nil] at hk ⊢
                    exact nodup_cut hk
                  · simp -implicitDefEqProofs -proj only [go_sem, Nat.reduceBEq, Nat.reduceLT, Nat.reduceLeDiff, Nat.reduceAdd, Nat.reduceMul, ↓reduceIte, Int.reduceToNat, Int.reducePow, Int.reduceLT, Int.reduceLE, Int.reduceAdd, Int.reduceSub, Int.reduceMul, Int.reduceEq, Int.reduceNe, AllAt, ty_i, hSTl]
                  · refine AllH_app.2 ⟨drop_all hrow' ?_, ?_⟩
                    · simp -implicitDefEqProofs only [keys, List.map_append, List.nodup_append, List.map_cons, List.map_nil, List.mem_cons] at hk
                      exact fun hm => hk.2.2 _ hm _ (.inr (.inl rfl)) rfl
                    · have hnk : ¬ b7 = b2 ∧ ¬ b7 = c := ⟨m1, m3⟩
                      simp -implicitDefEqProofs -proj only [go_sem, Nat.reduceBEq, Nat.reduceLT, Nat.reduceLeDiff, Nat.reduceAdd, Nat.reduceMul, ↓reduceIte, Int.reduceToNat, Int.reducePow, Int.reduceLT, Int.reduceLE, Int.reduceAdd, Int.reduceSub, Int.reduceMul, Int.reduceEq, Int.reduceNe, AllH, ty_d, ty_dap, ty_G, q2, qc, m1, m3, rowV_ne hne2, show (rowG (G ++ [(⟨S[0].f, S[0].v, w, r, (n : Int)⟩ : Grp)])).length = (rowG G).length + 1 by simp [rowG]]
                · rw [if_pos ⟨by omega, by omega⟩] at hkn
                  simp -implicitDefEqProofs -proj only [go_sem, Nat.reduceBEq, Nat.reduceLT, Nat.reduceLeDiff, Nat.reduceAdd, Nat.reduceMul, ↓reduceIte, Int.reduceToNat, Int.reducePow, Int.reduceLT, Int.reduceLE, Int.reduceAdd, Int.reduceSub, Int.reduceMul, Int.reduceEq, Int.reduceNe, i9, i7, i2, ic, wk3, decide_eq_true t2]
                  refine LoopQ_k (k + 1) (hnext (by omega) hkn) (by omega) rfl ?_ ?_
                  · simp -implicitDefEqProofs -proj only [go_sem, Nat.reduceBEq, Nat.reduceLT, Nat.reduceLeDiff, Nat.reduceAdd, Nat.reduceMul, ↓reduceIte, Int.reduceToNat, Int.reducePow, Int.reduceLT, Int.reduceLE, Int.reduceAdd, Int.reduceSub, Int.reduceMul, Int.reduceEq, Int.reduceNe, AllAt]
                  · refine AllH_app.2 ⟨drop_all hrow2 ?_, ?_⟩
                    · exact fresh_keys hb9 hrow1
                    · simp -implicitDefEqProofs -proj only [go_sem, Nat.reduceBEq, Nat.reduceLT, Nat.reduceLeDiff, Nat.reduceAdd, Nat.reduceMul, ↓reduceIte, Int.reduceToNat, Int.reducePow, Int.reduceLT, Int.reduceLE, Int.reduceAdd, Int.reduceSub, Int.reduceMul, Int.reduceEq, Int.reduceNe, AllH, i7, i2, ic, p1, p2, p3, p4, p5, p6, i64_succ (show k < 9223372036854775807 by omega)]
              · have : S.drop k = [] := List.drop_eq_nil_of_le (by omega)
                rw [this] at hkn
                have hkn' : n = k := by have : runLen w r (S[k - 1]'(by omega)) [] = 0 := rfl; omega
                subst hkn'
                simp -implicitDefEqProofs -proj only [go_sem, Nat.reduceBEq, Nat.reduceLT, Nat.reduceLeDiff, Nat.reduceAdd, Nat.reduceMul, ↓reduceIte, Int.reduceToNat, Int.reducePow, Int.reduceLT, Int.reduceLE, Int.reduceAdd, Int.reduceSub, Int.reduceMul, Int.reduceEq, Int.reduceNe, hH2, i9, i7, i2, ic, rowI_len, hSTl, hwk, decide_eq_false (show ¬ ((i + n : Nat) : Int) < R.length by omega)]
                refine AllocR_intro (fun bs hs' => ?_)
                replace hs' : H2 bs = none := hs'
                simp -implicitDefEqProofs -proj only [go_sem, Nat.reduceBEq, Nat.reduceLT, Nat.reduceLeDiff, Nat.reduceAdd, Nat.reduceMul, ↓reduceIte, Int.reduceToNat, Int.reducePow, Int.reduceLT, Int.reduceLE, Int.reduceAdd, Int.reduceSub, Int.reduceMul, Int.reduceEq, Int.reduceNe]
                refine AppendA_grow (xs := rowG G) (y := [.int .i64 S[0].f, .int .i64 S[0].v, .int .i64 w, .int .i64 r, .int .i64 n]) (t := 42) (capc := 1) [(b9, .box 42 [i64 S[0].f, i64 S[0].v, i64 w, i64 r, i64 n]), (b7, .box 26 [i64 ((l.length : Int) - 1), rowV 5 5 d dap (rowG G)]), (b2, .box 26 [i64 0, .nilsl 5]), (c, .row 3 1 cap (rowI ST))] rfl (AllH_upd hs' hallk) hndk (by simp -implicitDefEqProofs -proj only [go_sem, Nat.reduceBEq, Nat.reduceLT, Nat.reduceLeDiff, Nat.reduceAdd, Nat.reduceMul, ↓reduceIte, Int.reduceToNat, Int.reducePow, Int.reduceLT, Int.reduceLE, Int.reduceAdd, Int.reduceSub, Int.reduceMul, Int.reduceEq, Int.reduceNe]) (by rw [rowG_len]; omega) (by rw [rowG_len]; omega) (fun H' d' dap' ha hk => ?_)
                rw [show rowG G ++ [[.int .i64 S[0].f, .int .i64 S[0].v, .int .i64 w, .int .i64 r, .int .i64 n]] = rowG (G ++ [(⟨S[0].f, S[0].v, w, r, (n : Int)⟩ : Grp)]) from rowG_snoc (g := (⟨S[0].f, S[0].v, w, r, (n : Int)⟩ : Grp))] at ha hk
                have hne2 : rowG (G ++ [(⟨S[0].f, S[0].v, w, r, (n : Int)⟩ : Grp)]) ≠ [] := by simp [rowG]
                obtain ⟨hrow', q9, q7, q2, qc, _⟩ := AllH_app.1 ha
                have hwc : IntKind.i64.wrap ((i : Int) + (n : Int)) = ((i + n : Nat) : Int) := by rw [IntKind.wrap_i64]; omega
                simp -implicitDefEqProofs -proj only [go_sem, Nat.reduceBEq, Nat.reduceLT, Nat.reduceLeDiff, Nat.reduceAdd, Nat.reduceMul, ↓reduceIte, Int.reduceToNat, Int.reducePow, Int.reduceLT, Int.reduceLE, Int.reduceAdd, Int.reduceSub, Int.reduceMul, Int.reduceEq, Int.reduceNe, q9, q7, p1, p2, hwc]
                refine LoopQ_k ⟨i + n, d', dap', G ++ [(⟨S[0].f, S[0].v, w, r, (n : Int)⟩ : Grp)]⟩ ⟨by show i + n ≤ R.length; omega, by simp -implicitDefEqProofs only [ty_i, ty_G]; rw [hG, hstep, hdr]; simp, by simp -implicitDefEqProofs only [ty_i, ty_G, List.length_append, List.length_singleton]; omega, ?_⟩ (by show R.length - (i + n) < R.length - i; omega) rfl ?_ ?_
                · simp -implicitDefEqProofs only [keys, rofB, ty_d, ty_dap, ty_G, List.map_append, List.map_cons, List.map_nil] at hk ⊢
                  exact nodup_cut hk
                · simp -implicitDefEqProofs -proj only [go_sem, Nat.reduceBEq, Nat.reduceLT, Nat.reduceLeDiff, Nat.reduceAdd, Nat.reduceMul, ↓reduceIte, Int.reduceToNat, Int.reducePow, Int.reduceLT, Int.reduceLE, Int.reduceAdd, Int.reduceSub, Int.reduceMul, Int.reduceEq, Int.reduceNe, AllAt, ty_i, hSTl]
                · refine AllH_app.2 ⟨drop_all hrow' ?_, ?_⟩
                  · simp -implicitDefEqProofs only [keys, List.map_append, List.nodup_append, List.map_cons, List.map_nil, List.mem_cons] at hk
                    exact fun hm => hk.2.2 _ hm _ (.inr (.inl rfl)) rfl
                  · have hnk : ¬ b7 = b2 ∧ ¬ b7 = c := ⟨m1, m3⟩
                    simp -implicitDefEqProofs -proj only [go_sem, Nat.reduceBEq, Nat.reduceLT, Nat.reduceLeDiff, Nat.reduceAdd, Nat.reduceMul, ↓reduceIte, Int.reduceToNat, Int.reducePow, Int.reduceLT, Int.reduceLE, Int.reduceAdd, Int.reduceSub, Int.reduceMul, Int.reduceEq, Int.reduceNe, AllH, ty_d, ty_dap, ty_G, q2, qc, m1, m3, rowV_ne hne2, show (rowG (G ++ [(⟨S[0].f, S[0].v, w, r, (n : Int)⟩ : Grp)])).length = (rowG G).length + 1 by simp [rowG]]
          · have hgq : grpOf S[0] (S.drop 1) = (⟨S[0].f, S[0].v, 0, 0, 1⟩, 1) := by rw [List.drop_eq_nil_of_le (by omega)]; rfl
            rw [hgq] at hstep
            simp -implicitDefEqProofs -proj only [go_sem, Nat.reduceBEq, Nat.reduceLT, Nat.reduceLeDiff, Nat.reduceAdd, Nat.reduceMul, ↓reduceIte, Int.reduceToNat, Int.reducePow, Int.reduceLT, Int.reduceLE, Int.reduceAdd, Int.reduceSub, Int.reduceMul, Int.reduceEq, Int.reduceNe, p1, p2, p3, p4, p5, p6, j7, j2, jc, rowI_len, hSTl, hw1, decide_eq_false (show ¬ ((i + 1 : Nat) : Int) < R.length by omega)]
            refine AllocR_intro (fun bs hs' => ?_)
            replace hs' : upd H1 b9 _ bs = none := hs'
            simp -implicitDefEqProofs -proj only [go_sem, Nat.reduceBEq, Nat.reduceLT, Nat.reduceLeDiff, Nat.reduceAdd, Nat.reduceMul, ↓reduceIte, Int.reduceToNat, Int.reducePow, Int.reduceLT, Int.reduceLE, Int.reduceAdd, Int.reduceSub, Int.reduceMul, Int.reduceEq, Int.reduceNe]
            refine AppendA_grow (xs := rowG G) (y := [.int .i64 S[0].f, .int .i64 S[0].v, .int .i64 0, .int .i64 0, .int .i64 1]) (t := 42) (capc := 1) [(b9, .box 42 [i64 S[0].f, i64 S[0].v, i64 0, i64 0, i64 1]), (b7, .box 26 [i64 ((l.length : Int) - 1), rowV 5 5 d dap (rowG G)]), (b2, .box 26 [i64 0, .nilsl 5]), (c, .row 3 1 cap (rowI ST))] rfl (AllH_upd hs' (AllH_app.2 ⟨AllH_upd hb9 hrow1, upd_eq, AllH_upd hb9 (AllH_app.1 hall').2⟩)) (hmid b9 _ hb9) (by simp -implicitDefEqProofs -proj only [go_sem, Nat.reduceBEq, Nat.reduceLT, Nat.reduceLeDiff, Nat.reduceAdd, Nat.reduceMul, ↓reduceIte, Int.reduceToNat, Int.reducePow, Int.reduceLT, Int.reduceLE, Int.reduceAdd, Int.reduceSub, Int.reduceMul, Int.reduceEq, Int.reduceNe]) (by rw [rowG_len]; omega) (by rw [rowG_len]; omega) (fun H' d' dap' ha hk => ?_)
            rw [show rowG G ++ [[.int .i64 S[0].f, .int .i64 S[0].v, .int .i64 0, .int .i64 0, .int .i64 1]] = rowG (G ++ [(⟨S[0].f, S[0].v, 0, 0, 1⟩ : Grp)]) from rowG_snoc (g := (⟨S[0].f, S[0].v, 0, 0, 1⟩ : Grp))] at ha hk
            have hne2 : rowG (G ++ [(⟨S[0].f, S[0].v, 0, 0, 1⟩ : Grp)]) ≠ [] := by simp [rowG]
            obtain ⟨hrow', q9, q7, q2, qc, _⟩ := AllH_app.1 ha
            have hwc : IntKind.i64.wrap ((i : Int) + 1) = ((i + 1 : Nat) : Int) := by rw [IntKind.wrap_i64]; omega
            simp -implicitDefEqProofs -proj only [go_sem, Nat.reduceBEq, Nat.reduceLT, Nat.reduceLeDiff, Nat.reduceAdd, Nat.reduceMul, ↓reduceIte, Int.reduceToNat, Int.reducePow, Int.reduceLT, Int.reduceLE, Int.reduceAdd, Int.reduceSub, Int.reduceMul, Int.reduceEq, Int.reduceNe, q9, q7, p1, p2, hwc]
            refine LoopQ_k ⟨i + 1, d', dap', G ++ [(⟨S[0].f, S[0].v, 0, 0, 1⟩ : Grp)]⟩ ⟨by show i + 1 ≤ R.length; omega, by simp -implicitDefEqProofs only [ty_i, ty_G]; rw [hG, hstep, hdr]; simp, by simp -implicitDefEqProofs only [ty_i, ty_G, List.length_append, List.length_singleton]; omega, ?_⟩ (by show R.length - (i + 1) < R.length - i; omega) rfl ?_ ?_
            · simp -implicitDefEqProofs only [keys, rofB, ty_d, ty_dap, ty_G, List.map_append, List.map_cons, List.map_nil] at hk ⊢
              exact nodup_cut hk
            · simp -implicitDefEqProofs -proj only [go_sem, Nat.reduceBEq, Nat.reduceLT, Nat.reduceLeDiff, Nat.reduceAdd, Nat.reduceMul, ↓reduceIte, Int.reduceToNat, Int.reducePow, Int.reduceLT, Int.reduceLE, Int.reduceAdd, Int.reduceSub, Int.reduceMul, Int.reduceEq, Int.reduceNe, AllAt, ty_i, hSTl]
            · refine AllH_app.2 ⟨drop_all hrow' ?_, ?_⟩
              · simp -implicitDefEqProofs only [keys, List.map_append, List.nodup_append, List.map_cons, List.map_nil, List.mem_cons] at hk
                exact fun hm => hk.2.2 _ hm _ (.inr (.inl rfl)) rfl
              · have hnk : ¬ b7 = b2 ∧ ¬ b7 = c := ⟨m1, m3⟩
                simp -implicitDefEqProofs -proj only [go_sem, Nat.reduceBEq, Nat.reduceLT, Nat.reduceLeDiff, Nat.reduceAdd, Nat.reduceMul, ↓reduceIte, Int.reduceToNat, Int.reducePow, Int.reduceLT, Int.reduceLE, Int.reduceAdd, Int.reduceSub, Int.reduceMul, Int.reduceEq, Int.reduceNe, AllH, ty_d, ty_dap, ty_G, q2, qc, m1, m3, rowV_ne hne2, show (rowG (G ++ [(⟨S[0].f, S[0].v, 0, 0, 1⟩ : Grp)])).length = (rowG G).length + 1 by simp [rowG]]
        · have hi'' : i = R.length := by omega
          subst hi''
          rw [List.drop_length, groups_nil, List.append_nil] at hG
          simp -implicitDefEqProofs -proj only [go_sem, Nat.reduceBEq, Nat.reduceLT, Nat.reduceLeDiff, Nat.reduceAdd, Nat.reduceMul, ↓reduceIte, Int.reduceToNat, Int.reducePow, Int.reduceLT, Int.reduceLE, Int.reduceAdd, Int.reduceSub, Int.reduceMul, Int.reduceEq, Int.reduceNe, ty_i, ty_d, ty_dap, ty_G, hH1, rowI_len, hSTl, decide_eq_false (show ¬ (R.length : Int) < R.length by omega), j7, j2, m1, m2]
          rw [hG]
          refine new_tup2 (new_curve (rowV_new (drop_all hrow1 ?_) rowG_scal))
          simp -implicitDefEqProofs only [keys, List.map_append, List.nodup_append, List.map_cons, List.map_nil, List.mem_cons] at hn'
          exact fun hm => hn'.2.2 _ hm _ (.inr (.inl rfl)) rfl
theorem ROf_data {l : List Int} (hfl : AllFit l) (hl : l.length ≤ 3000) : DataW Try.prog f_poundageref15_Of [slI l] (if CurL l then .tup [curL l, bv true] else .tup [curveV 0 [], bv false]) := (ROf_new hfl hl).data
end Go.Proofs.Ythamjpioodlckaa.Abs
