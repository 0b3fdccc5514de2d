/- The document's line, and whether a line is it. No claim stands here. -/
import Derived.Test.YtgfimmaligcgjaaKIter14
import Derived.Test.YtgfimmaligcgjaaKRuns14
set_option linter.unusedSimpArgs false
set_option linter.unusedVariables false
namespace Go.Proofs.Ytgfimmaligcgjaa.Abs
open Go Go.RowKit Go.Proofs
attribute [local go_sem] RunC_seq AF_n AF_r AF_b St_n St_t St_H Fst_mk Snd_mk RunC_ops RunC_cond RunC_block RunC_loop RunC_exit RunC_ret RunC_skip RunO_nil RunO_code RunO_code_ret RunO_code_exit RunO_blk RunO_blk_ret RunO_blk_exit RunL_nil RunL_guard GuardA_tt GuardA_ff GuardA_tf GuardA_ft GuardA_void CondA_t CondA_f PickA_t PickA_f RunL_mov RunL_pick RunL_alloc RunL_box RunL_load LoadA_ptr LoadB_1 LoadB_n LoadA_dptr LoadA_dptr_n RunL_store StoreA_ptr StoreB_box RunL_bin Bin_add Bin_sub Bin_mul Bin_quo Bin_rem Bin_shl Bin_shr Bin_andI Bin_orI Bin_xorI Bin_eql Bin_neq Bin_lss Bin_leq Bin_gtr Bin_geq RunL_binb Bin_beql Bin_bneq RunL_un UnA_not UnA_neg RunL_conv convV MapA_some RunL_nilCheck nilV RunL_mkfn RunL_fieldAddr faV RunL_field FieldA_1 FieldA_n RunL_elemAddr EAddrA_sl EAddrA_own EptrA_eq RunL_build BuildA_some RunL_extract ExtA_eq RunL_len lenV_sl lenV_nilsl lenV_own RunL_slen RunL_idxStr IdxSA_eq slenV RunL_minmax mmV minmaxL RunL_call RunL_callv CallvA_fn putS ev evL evO evP eqK eqKs EqB_agg RunL_eqAgg EqA_t EqA_f evQ buildC fits_agg cellsAV_agg fits_d cellsAV_d fits_nilp cellsAV_nilp fits_nilsl cellsAV_nilsl fits_nilfn cellsAV_nilfn fits_ptr cellsAV_ptr fits_eptr cellsAV_eptr fits_dptr cellsAV_dptr fits_own cellsAV_own fits_fn cellsAV_fn rowV_fits rowV_cells rowV_len lenAV setSeg nth seg mapD repeatL putT_get upd_get argT keepT_cons keepT_nil keepH_cons keepH_nil cond_true cond_false VC_true finW resW resL resOne LoopQ_exit LoopQ_ret List.cons_append List.nil_append Bool.not_true Bool.not_false Bool.and_true Bool.and_self Nat.lt_add_left_iff_pos Nat.zero_add Nat.add_zero List.drop_succ_cons List.drop_zero List.take_succ_cons List.take_zero beq_self_eq_true Bool.false_eq_true RunC_dops RunL_loadS RunL_storeS StoreSA_ptr RunL_pcall RunL_pcallv PCallvA_fn newsOk and_self and_true true_and loadW_ptr LoadK_1 LoadK_n upd_upd RunL_buildSlice BSliceA_some RunL_buildSliceD frzL frz cutL LoadA_eptr LoadE_row RunL_append RunL_slice SliceA_sl StoreA_eptr List.length_cons List.length_nil Nat.min_def Int.cast_ofNat_Int Int.natCast_zero Int.natCast_one decide_true decide_false List.getElem?_cons_zero List.getElem?_cons_succ RunC_rangef CallvA_yld putL_nil putL_cons RangeQ_exit RangeQ_ret
abbrev refV (f : Int) (l : List Int) : AV := .agg [i64 f, slI l]
def refAt (f : Int) (l : List Int) (x : Int) : Option Int := if x < f ∨ (l.length : Int) ≤ x - f then none else some (l.getD (x - f).toNat 0)
theorem RefAt_ok {f x : Int} {l : List Int} (hf : -1099511627776 ≤ f ∧ f ≤ 1099511627776) (hx : -1099511627776 ≤ x ∧ x ≤ 1099511627776) : DataW Try.prog f_poundageref14_Line_At [refV f l, i64 x] (optR (refAt f l x)) := by
  have hw : IntKind.i64.wrap (x - f) = x - f := by rw [IntKind.wrap_i64]; omega
  refine CallW_intro comp_poundageref14_Line_At (by simp) ?_
  simp -implicitDefEqProofs -proj only [go_sem, Nat.reduceBEq, Nat.reduceLT, Nat.reduceLeDiff, Nat.reduceAdd, Nat.reduceMul, ↓reduceIte, Int.reduceToNat, Int.reducePow, Int.reduceLT, Int.reduceLE, Int.reduceAdd, Int.reduceSub, Int.reduceMul, Int.reduceEq, Int.reduceNe]
  refine AllocA_intro (fun b hb => ?_)
  by_cases h1 : x < f
  · simp -implicitDefEqProofs -proj only [go_sem, Nat.reduceBEq, Nat.reduceLT, Nat.reduceLeDiff, Nat.reduceAdd, Nat.reduceMul, ↓reduceIte, Int.reduceToNat, Int.reducePow, Int.reduceLT, Int.reduceLE, Int.reduceAdd, Int.reduceSub, Int.reduceMul, Int.reduceEq, Int.reduceNe, decide_eq_true h1, hw, rowI_len]
    rw [refAt, if_pos (.inl h1)]
    exact LendV_eq rfl
  · by_cases h2 : (l.length : Int) ≤ x - f
    · simp -implicitDefEqProofs -proj only [go_sem, Nat.reduceBEq, Nat.reduceLT, Nat.reduceLeDiff, Nat.reduceAdd, Nat.reduceMul, ↓reduceIte, Int.reduceToNat, Int.reducePow, Int.reduceLT, Int.reduceLE, Int.reduceAdd, Int.reduceSub, Int.reduceMul, Int.reduceEq, Int.reduceNe, decide_eq_false h1, hw, rowI_len, decide_eq_true h2]
      rw [refAt, if_pos (.inr h2)]
      exact LendV_eq rfl
    · simp -implicitDefEqProofs -proj only [go_sem, Nat.reduceBEq, Nat.reduceLT, Nat.reduceLeDiff, Nat.reduceAdd, Nat.reduceMul, ↓reduceIte, Int.reduceToNat, Int.reducePow, Int.reduceLT, Int.reduceLE, Int.reduceAdd, Int.reduceSub, Int.reduceMul, Int.reduceEq, Int.reduceNe, decide_eq_false h1, hw, rowI_len, decide_eq_false h2]
      have hi : (x - f).toNat < l.length := by omega
      refine ElemA_at _ (by omega) (rowI_at (List.getElem?_eq_getElem hi)) ?_
      simp -implicitDefEqProofs -proj only [go_sem, Nat.reduceBEq, Nat.reduceLT, Nat.reduceLeDiff, Nat.reduceAdd, Nat.reduceMul, ↓reduceIte, Int.reduceToNat, Int.reducePow, Int.reduceLT, Int.reduceLE, Int.reduceAdd, Int.reduceSub, Int.reduceMul, Int.reduceEq, Int.reduceNe]
      rw [refAt, if_neg (by omega), show l.getD (x - f).toNat 0 = l[(x - f).toNat] by simp [hi]]
      exact LendV_eq rfl
def spanV : List Run → AV
  | [] => .tup [i64 0, i64 0, bv false]
  | r :: R => .tup [i64 r.f, i64 ((r :: R).getLast (by simp)).t, bv true]
theorem Span_ok {R : List Run} (hl : R.length ≤ 1000000) : DataW Try.prog f_line_Line_int_Span [lineV R] (spanV R) := by
  refine CallW_intro comp_line_Line_int_Span (by simp) ?_
  simp -implicitDefEqProofs -proj only [go_sem, Nat.reduceBEq, Nat.reduceLT, Nat.reduceLeDiff, Nat.reduceAdd, Nat.reduceMul, ↓reduceIte, Int.reduceToNat, Int.reducePow, Int.reduceLT, Int.reduceLE, Int.reduceAdd, Int.reduceSub, Int.reduceMul, Int.reduceEq, Int.reduceNe]
  refine AllocA_intro (fun b hb => ?_)
  by_cases h : R = []
  · subst h
    simp -implicitDefEqProofs -proj only [go_sem, Nat.reduceBEq, Nat.reduceLT, Nat.reduceLeDiff, Nat.reduceAdd, Nat.reduceMul, ↓reduceIte, Int.reduceToNat, Int.reducePow, Int.reduceLT, Int.reduceLE, Int.reduceAdd, Int.reduceSub, Int.reduceMul, Int.reduceEq, Int.reduceNe, rowR_len]
    exact LendV_eq rfl
  · have hlen : 0 < R.length := List.length_pos_iff.2 h
    have hw : IntKind.i64.wrap ((R.length : Int) - 1) = ((R.length - 1 : Nat) : Int) := by rw [IntKind.wrap_i64]; omega
    have e0 := rowR_idx (l := R) (i := 0) hlen
    have e1 := rowR_idx (l := R) (i := R.length - 1) (by omega)
    simp -implicitDefEqProofs -proj only [go_sem, Nat.reduceBEq, Nat.reduceLT, Nat.reduceLeDiff, Nat.reduceAdd, Nat.reduceMul, ↓reduceIte, Int.reduceToNat, Int.reducePow, Int.reduceLT, Int.reduceLE, Int.reduceAdd, Int.reduceSub, Int.reduceMul, Int.reduceEq, Int.reduceNe, rowR_len, decide_eq_false (show ¬ (R.length : Int) = 0 by omega), hw]
    refine ElemA_at _ (by omega) e0 ?_
    simp -implicitDefEqProofs -proj only [go_sem, Nat.reduceBEq, Nat.reduceLT, Nat.reduceLeDiff, Nat.reduceAdd, Nat.reduceMul, ↓reduceIte, Int.reduceToNat, Int.reducePow, Int.reduceLT, Int.reduceLE, Int.reduceAdd, Int.reduceSub, Int.reduceMul, Int.reduceEq, Int.reduceNe, rowR_len, hw]
    refine ElemA_at _ (by omega) e1 ?_
    simp -implicitDefEqProofs -proj only [go_sem, Nat.reduceBEq, Nat.reduceLT, Nat.reduceLeDiff, Nat.reduceAdd, Nat.reduceMul, ↓reduceIte, Int.reduceToNat, Int.reducePow, Int.reduceLT, Int.reduceLE, Int.reduceAdd, Int.reduceSub, Int.reduceMul, Int.reduceEq, Int.reduceNe]
    obtain ⟨r, R', rfl⟩ := List.exists_cons_of_ne_nil h
    refine LendV_eq ?_
    simp [spanV, List.getLast_eq_getElem]
theorem putR_last {R : List Run} {r : Run} : ∃ q, (putR R r).getLast? = some q ∧ q.v = r.v ∧ q.t = r.t := by
  unfold putR
  split
  · next q hq =>
    split
    · next hv => exact ⟨{ q with t := r.t }, by rw [List.getLast?_append]; rfl, hv, rfl⟩
    · exact ⟨r, by rw [List.getLast?_append]; rfl, rfl, rfl⟩
  · exact ⟨r, rfl, rfl, rfl⟩
theorem runsN_last {f : Int} {l : List Int} {i : Nat} : ∃ q, (runsN f l (i + 1)).getLast? = some q ∧ q.v = l.getD i 0 ∧ q.t = f + i := putR_last
structure RunsX where
  i : Nat
  c : Nat
  cap : Nat
  R : List Run
theorem rx_i {i c cap : Nat} {R : List Run} : (RunsX.mk i c cap R).i = i := (rfl)
theorem rx_c {i c cap : Nat} {R : List Run} : (RunsX.mk i c cap R).c = c := (rfl)
theorem rx_cap {i c cap : Nat} {R : List Run} : (RunsX.mk i c cap R).cap = cap := (rfl)
theorem rx_R {i c cap : Nat} {R : List Run} : (RunsX.mk i c cap R).R = R := (rfl)
def runsL (b : Nat) (f : Int) (l : List Int) (y : RunsX) : List (Nat × Blk) := rowH 78 3 y.c y.cap (rowR y.R) ++ [(b, .box 42 [i64 f, slI l])]
theorem RefRuns_new {f : Int} {l : List Int} (hf : -1099511627776 ≤ f ∧ f ≤ 1099511627776) (hn : l.length ≤ 999999) : NewW Try.prog f_poundageref14_Line_Runs [refV f l] (slR (runs f l)) := by
  refine CallW_intro comp_poundageref14_Line_Runs (by simp) ?_
  simp -implicitDefEqProofs -proj only [go_sem, Nat.reduceBEq, Nat.reduceLT, Nat.reduceLeDiff, Nat.reduceAdd, Nat.reduceMul, ↓reduceIte, Int.reduceToNat, Int.reducePow, Int.reduceLT, Int.reduceLE, Int.reduceAdd, Int.reduceSub, Int.reduceMul, Int.reduceEq, Int.reduceNe]
  refine AllocA_intro (fun b hb => ?_)
  simp -implicitDefEqProofs -proj only [go_sem, Nat.reduceBEq, Nat.reduceLT, Nat.reduceLeDiff, Nat.reduceAdd, Nat.reduceMul, ↓reduceIte, Int.reduceToNat, Int.reducePow, Int.reduceLT, Int.reduceLE, Int.reduceAdd, Int.reduceSub, Int.reduceMul, Int.reduceEq, Int.reduceNe, rowI_len]
  refine LoopA_k (fun x : RunsX => x.i ≤ l.length ∧ x.R = runsN f l x.i ∧ (keys (runsL b f l x)).Nodup) 51 (fun x => [(7, slI l), (8, i64 l.length), (9, i64 x.i), (1, .ptr b 0), (3, rowV 0 3 x.c x.cap (rowR x.R))]) (fun x => runsL b f l x) (fun x => l.length - x.i) ⟨0, 0, 0, []⟩ ⟨Nat.zero_le _, rfl, by simp [keys, runsL, rowR, rowH]⟩ rfl ?_ ?_ ?_
  · simp -implicitDefEqProofs -proj only [go_sem, Nat.reduceBEq, Nat.reduceLT, Nat.reduceLeDiff, Nat.reduceAdd, Nat.reduceMul, ↓reduceIte, Int.reduceToNat, Int.reducePow, Int.reduceLT, Int.reduceLE, Int.reduceAdd, Int.reduceSub, Int.reduceMul, Int.reduceEq, Int.reduceNe, AllAt, rx_i, rx_c, rx_cap, rx_R, rowI_len]
    rfl
  · simp -implicitDefEqProofs -proj only [go_sem, Nat.reduceBEq, Nat.reduceLT, Nat.reduceLeDiff, Nat.reduceAdd, Nat.reduceMul, ↓reduceIte, Int.reduceToNat, Int.reducePow, Int.reduceLT, Int.reduceLE, Int.reduceAdd, Int.reduceSub, Int.reduceMul, Int.reduceEq, Int.reduceNe, AllH, runsL, rx_i, rx_c, rx_cap, rx_R, rowR, List.map_nil, rowH_nil]
  · rintro ⟨i, c, cap, R⟩ ⟨hi, hR, hn'⟩
    simp -implicitDefEqProofs only [rx_i, rx_c, rx_cap, rx_R] at hi hR
    have hall := keepH_all hn'
    obtain ⟨H, hH⟩ : ∃ H, keepH (runsL b f l ⟨i, c, cap, R⟩) = H := ⟨_, rfl⟩
    rw [hH] at hall
    simp -implicitDefEqProofs only [runsL, rx_c, rx_cap, rx_R] at hall hn'
    obtain ⟨hrow, hb, _⟩ := AllH_app.1 hall
    simp -implicitDefEqProofs -proj only [go_sem, Nat.reduceBEq, Nat.reduceLT, Nat.reduceLeDiff, Nat.reduceAdd, Nat.reduceMul, ↓reduceIte, Int.reduceToNat, Int.reducePow, Int.reduceLT, Int.reduceLE, Int.reduceAdd, Int.reduceSub, Int.reduceMul, Int.reduceEq, Int.reduceNe, rx_i, rx_c, rx_cap, rx_R, hH]
    by_cases h : i < l.length
    · have hel := rowI_nth h
      have hx : l.getD i 0 = l[i] := by simp [h]
      have hR' : putR R ⟨f + i, f + i, l[i]⟩ = runsN f l (i + 1) := by rw [runsN, hx, hR]
      have hRlen := runsN_len (from' := f) (l := l) i
      rw [← hR] at hRlen
      have hw : IntKind.i64.wrap (f + i) = f + i := by rw [IntKind.wrap_i64]; omega
      generalize hxe : l[i] = x at *
      simp -implicitDefEqProofs -proj only [go_sem, Nat.reduceBEq, Nat.reduceLT, Nat.reduceLeDiff, Nat.reduceAdd, Nat.reduceMul, ↓reduceIte, Int.reduceToNat, Int.reducePow, Int.reduceLT, Int.reduceLE, Int.reduceAdd, Int.reduceSub, Int.reduceMul, Int.reduceEq, Int.reduceNe, decide_eq_true (show (i : Int) < l.length by omega), hb]
      refine ElemA_at _ (by omega) hel ?_
      simp -implicitDefEqProofs -proj only [go_sem, Nat.reduceBEq, Nat.reduceLT, Nat.reduceLeDiff, Nat.reduceAdd, Nat.reduceMul, ↓reduceIte, Int.reduceToNat, Int.reducePow, Int.reduceLT, Int.reduceLE, Int.reduceAdd, Int.reduceSub, Int.reduceMul, Int.reduceEq, Int.reduceNe, hb]
      by_cases h0 : i = 0
      · have hR0 : R = [] := by rw [hR, h0]; rfl
        have hp : putR R ⟨f + i, f + i, x⟩ = R ++ [⟨f + i, f + i, x⟩] := by rw [hR0]; rfl
        simp -implicitDefEqProofs -proj only [go_sem, Nat.reduceBEq, Nat.reduceLT, Nat.reduceLeDiff, Nat.reduceAdd, Nat.reduceMul, ↓reduceIte, Int.reduceToNat, Int.reducePow, Int.reduceLT, Int.reduceLE, Int.reduceAdd, Int.reduceSub, Int.reduceMul, Int.reduceEq, Int.reduceNe, hb, decide_eq_false (show ¬ (0 : Int) < i by omega), hw]
        refine AllocR_intro (fun bs hs => ?_)
        simp -implicitDefEqProofs -proj only [go_sem, Nat.reduceBEq, Nat.reduceLT, Nat.reduceLeDiff, Nat.reduceAdd, Nat.reduceMul, ↓reduceIte, Int.reduceToNat, Int.reducePow, Int.reduceLT, Int.reduceLE, Int.reduceAdd, Int.reduceSub, Int.reduceMul, Int.reduceEq, Int.reduceNe]
        refine AppendA_grow (xs := rowR R) (y := [.int .i64 (f + i), .int .i64 (f + i), .int .i64 x]) (t := 78) (capc := 1) [(b, .box 42 [i64 f, slI l])] rfl (AllH_upd hs hall) hn' (by simp -implicitDefEqProofs -proj only [go_sem, Nat.reduceBEq, Nat.reduceLT, Nat.reduceLeDiff, Nat.reduceAdd, Nat.reduceMul, ↓reduceIte, Int.reduceToNat, Int.reducePow, Int.reduceLT, Int.reduceLE, Int.reduceAdd, Int.reduceSub, Int.reduceMul, Int.reduceEq, Int.reduceNe]) (by rw [rowR_len]; omega) (by rw [rowR_len]; omega) (fun H' c' cap' ha hk => ?_)
        rw [show rowR R ++ [[.int .i64 (f + i), .int .i64 (f + i), .int .i64 x]] = rowR (R ++ [⟨f + i, f + i, x⟩]) from rowR_snoc (r := ⟨f + i, f + i, x⟩)] at ha hk
        have hne : rowR (R ++ [⟨f + i, f + i, x⟩]) ≠ [] := by simp [rowR]
        simp -implicitDefEqProofs -proj only [go_sem, Nat.reduceBEq, Nat.reduceLT, Nat.reduceLeDiff, Nat.reduceAdd, Nat.reduceMul, ↓reduceIte, Int.reduceToNat, Int.reducePow, Int.reduceLT, Int.reduceLE, Int.reduceAdd, Int.reduceSub, Int.reduceMul, Int.reduceEq, Int.reduceNe]
        refine LoopQ_k ⟨i + 1, c', cap', R ++ [Run.mk (f + i) (f + i) x]⟩ ⟨by show i + 1 ≤ l.length; omega, by rw [← hR', hp], hk⟩ (by show l.length - (i + 1) < l.length - i; omega) rfl ?_ ha
        simp -implicitDefEqProofs -proj only [go_sem, Nat.reduceBEq, Nat.reduceLT, Nat.reduceLeDiff, Nat.reduceAdd, Nat.reduceMul, ↓reduceIte, Int.reduceToNat, Int.reducePow, Int.reduceLT, Int.reduceLE, Int.reduceAdd, Int.reduceSub, Int.reduceMul, Int.reduceEq, Int.reduceNe, AllAt, rx_i, rx_c, rx_cap, rx_R, i64_succ (show i < 9223372036854775807 by omega), rowV_ne hne, rowR_len, List.length_append]
      · obtain ⟨j, rfl⟩ : ∃ j, i = j + 1 := ⟨i - 1, by omega⟩
        have hj : IntKind.i64.wrap (((j + 1 : Nat) : Int) - 1) = (j : Int) := by rw [IntKind.wrap_i64]; omega
        obtain ⟨q, hq, hqv, hqt⟩ := runsN_last (f := f) (l := l) (i := j)
        rw [← hR] at hq
        have hel2 := rowI_nth (l := l) (i := j) (by omega)
        have hx2 : l.getD j 0 = l[j] := by simp [show j < l.length by omega]
        rw [hx2] at hqv
        generalize l[j] = u at *
        simp -implicitDefEqProofs -proj only [go_sem, Nat.reduceBEq, Nat.reduceLT, Nat.reduceLeDiff, Nat.reduceAdd, Nat.reduceMul, ↓reduceIte, Int.reduceToNat, Int.reducePow, Int.reduceLT, Int.reduceLE, Int.reduceAdd, Int.reduceSub, Int.reduceMul, Int.reduceEq, Int.reduceNe, hb, decide_eq_true (show (0 : Int) < ((j + 1 : Nat) : Int) by omega), hj]
        refine ElemA_at _ (by omega) hel2 ?_
        simp -implicitDefEqProofs -proj only [go_sem, Nat.reduceBEq, Nat.reduceLT, Nat.reduceLeDiff, Nat.reduceAdd, Nat.reduceMul, ↓reduceIte, Int.reduceToNat, Int.reducePow, Int.reduceLT, Int.reduceLE, Int.reduceAdd, Int.reduceSub, Int.reduceMul, Int.reduceEq, Int.reduceNe, hb, hj]
        by_cases hv : u = x
        · have hp : putR R ⟨f + ((j + 1 : Nat) : Int), f + ((j + 1 : Nat) : Int), x⟩ = R.dropLast ++ [{ q with t := f + ((j + 1 : Nat) : Int) }] := by rw [putR, hq]; exact if_pos (hqv.trans hv)
          have hRne : R ≠ [] := fun e => by rw [e] at hq; cases hq
          have hrne : rowR R ≠ [] := by simpa [rowR] using hRne
          have hlen : 0 < R.length := List.length_pos_iff.2 hRne
          have hq2 : R[R.length - 1]? = some q := by rw [← List.getLast?_eq_getElem?]; exact hq
          have hwl : IntKind.i64.wrap ((R.length : Int) - 1) = ((R.length - 1 : Nat) : Int) := by rw [IntKind.wrap_i64]; omega
          have hrw : (rowR R)[R.length - 1]? = some [.int .i64 q.f, .int .i64 q.t, .int .i64 q.v] := by simp [rowR, hq2, Run.el]
          rw [rowH_ne hrne] at hrow hall hn'
          obtain ⟨hc, _⟩ := hrow
          have hset : (rowR R).set (R.length - 1) (setSegD [.int .i64 q.f, .int .i64 q.t, .int .i64 q.v] 1 [.int .i64 (f + ((j + 1 : Nat) : Int))]) = rowR (putR R ⟨f + ((j + 1 : Nat) : Int), f + ((j + 1 : Nat) : Int), x⟩) := by
            rw [hp, ← set_last hRne, ← rowR_set]; rfl
          have hlp : (putR R ⟨f + ((j + 1 : Nat) : Int), f + ((j + 1 : Nat) : Int), x⟩).length = R.length := by rw [hp, List.length_append, List.length_dropLast, List.length_singleton]; omega
          have hpne : rowR (putR R ⟨f + ((j + 1 : Nat) : Int), f + ((j + 1 : Nat) : Int), x⟩) ≠ [] := by rw [hp]; simp [rowR]
          simp -implicitDefEqProofs -proj only [go_sem, Nat.reduceBEq, Nat.reduceLT, Nat.reduceLeDiff, Nat.reduceAdd, Nat.reduceMul, ↓reduceIte, Int.reduceToNat, Int.reducePow, Int.reduceLT, Int.reduceLE, Int.reduceAdd, Int.reduceSub, Int.reduceMul, Int.reduceEq, Int.reduceNe, hb, decide_eq_true hv, hw, rowV_ne hrne, rowR_len, hwl]
          (repeat' (with_reducible refine VC_intro ?_ (fun h => ?_); (focus first | decide | omega); clear h; try simp -implicitDefEqProofs -proj only [go_sem, Nat.reduceBEq, Nat.reduceLT, Nat.reduceLeDiff, Nat.reduceAdd, Nat.reduceMul, ↓reduceIte, Int.reduceToNat, Int.reducePow, Int.reduceLT, Int.reduceLE, Int.reduceAdd, Int.reduceSub, Int.reduceMul, Int.reduceEq, Int.reduceNe, eq_self, hb, hw, rowV_ne hrne, rowR_len, hwl]))
          refine StoreE_1 (xs := rowR R) (t := 78) (cap := cap) hc (by rw [Int.toNat_natCast]; exact hrw) (by simp) ?_
          rw [Int.toNat_natCast, hset]
          simp -implicitDefEqProofs -proj only [go_sem, Nat.reduceBEq, Nat.reduceLT, Nat.reduceLeDiff, Nat.reduceAdd, Nat.reduceMul, ↓reduceIte, Int.reduceToNat, Int.reducePow, Int.reduceLT, Int.reduceLE, Int.reduceAdd, Int.reduceSub, Int.reduceMul, Int.reduceEq, Int.reduceNe]
          refine LoopQ_k ⟨j + 2, c, cap, putR R ⟨f + ((j + 1 : Nat) : Int), f + ((j + 1 : Nat) : Int), x⟩⟩ ⟨by show j + 2 ≤ l.length; omega, hR', ?_⟩ (by show l.length - (j + 2) < l.length - (j + 1); omega) rfl ?_ ?_
          · simp -implicitDefEqProofs only [runsL, rx_c, rx_cap, rx_R, rowH_ne hpne]; exact hn'
          · simp -implicitDefEqProofs -proj only [go_sem, Nat.reduceBEq, Nat.reduceLT, Nat.reduceLeDiff, Nat.reduceAdd, Nat.reduceMul, ↓reduceIte, Int.reduceToNat, Int.reducePow, Int.reduceLT, Int.reduceLE, Int.reduceAdd, Int.reduceSub, Int.reduceMul, Int.reduceEq, Int.reduceNe, AllAt, rx_i, rx_c, rx_cap, rx_R, i64_succ (show j + 1 < 9223372036854775807 by omega), rowV_ne hpne, rowV_ne hrne, rowR_len, hlp]
          · simp -implicitDefEqProofs only [runsL, rx_c, rx_cap, rx_R, rowH_ne hpne]
            exact upd_all hall hn'
        · have hp : putR R ⟨f + ((j + 1 : Nat) : Int), f + ((j + 1 : Nat) : Int), x⟩ = R ++ [⟨f + ((j + 1 : Nat) : Int), f + ((j + 1 : Nat) : Int), x⟩] := by rw [putR, hq]; exact if_neg (fun e => hv (hqv.symm.trans e))
          simp -implicitDefEqProofs -proj only [go_sem, Nat.reduceBEq, Nat.reduceLT, Nat.reduceLeDiff, Nat.reduceAdd, Nat.reduceMul, ↓reduceIte, Int.reduceToNat, Int.reducePow, Int.reduceLT, Int.reduceLE, Int.reduceAdd, Int.reduceSub, Int.reduceMul, Int.reduceEq, Int.reduceNe, hb, decide_eq_false hv, hw]
          refine AllocR_intro (fun bs hs => ?_)
          simp -implicitDefEqProofs -proj only [go_sem, Nat.reduceBEq, Nat.reduceLT, Nat.reduceLeDiff, Nat.reduceAdd, Nat.reduceMul, ↓reduceIte, Int.reduceToNat, Int.reducePow, Int.reduceLT, Int.reduceLE, Int.reduceAdd, Int.reduceSub, Int.reduceMul, Int.reduceEq, Int.reduceNe]
          refine AppendA_grow (xs := rowR R) (y := [.int .i64 (f + ((j + 1 : Nat) : Int)), .int .i64 (f + ((j + 1 : Nat) : Int)), .int .i64 x]) (t := 78) (capc := 1) [(b, .box 42 [i64 f, slI l])] rfl (AllH_upd hs hall) hn' (by simp -implicitDefEqProofs -proj only [go_sem, Nat.reduceBEq, Nat.reduceLT, Nat.reduceLeDiff, Nat.reduceAdd, Nat.reduceMul, ↓reduceIte, Int.reduceToNat, Int.reducePow, Int.reduceLT, Int.reduceLE, Int.reduceAdd, Int.reduceSub, Int.reduceMul, Int.reduceEq, Int.reduceNe]) (by rw [rowR_len]; omega) (by rw [rowR_len]; omega) (fun H' c' cap' ha hk => ?_)
          rw [show rowR R ++ [[.int .i64 (f + ((j + 1 : Nat) : Int)), .int .i64 (f + ((j + 1 : Nat) : Int)), .int .i64 x]] = rowR (R ++ [⟨f + ((j + 1 : Nat) : Int), f + ((j + 1 : Nat) : Int), x⟩]) from rowR_snoc (r := ⟨f + ((j + 1 : Nat) : Int), f + ((j + 1 : Nat) : Int), x⟩)] at ha hk
          have hne : rowR (R ++ [⟨f + ((j + 1 : Nat) : Int), f + ((j + 1 : Nat) : Int), x⟩]) ≠ [] := by simp [rowR]
          simp -implicitDefEqProofs -proj only [go_sem, Nat.reduceBEq, Nat.reduceLT, Nat.reduceLeDiff, Nat.reduceAdd, Nat.reduceMul, ↓reduceIte, Int.reduceToNat, Int.reducePow, Int.reduceLT, Int.reduceLE, Int.reduceAdd, Int.reduceSub, Int.reduceMul, Int.reduceEq, Int.reduceNe]
          refine LoopQ_k ⟨j + 2, c', cap', R ++ [Run.mk (f + ((j + 1 : Nat) : Int)) (f + ((j + 1 : Nat) : Int)) x]⟩ ⟨by show j + 2 ≤ l.length; omega, by rw [← hR', hp], hk⟩ (by show l.length - (j + 2) < l.length - (j + 1); omega) rfl ?_ ha
          simp -implicitDefEqProofs -proj only [go_sem, Nat.reduceBEq, Nat.reduceLT, Nat.reduceLeDiff, Nat.reduceAdd, Nat.reduceMul, ↓reduceIte, Int.reduceToNat, Int.reducePow, Int.reduceLT, Int.reduceLE, Int.reduceAdd, Int.reduceSub, Int.reduceMul, Int.reduceEq, Int.reduceNe, AllAt, rx_i, rx_c, rx_cap, rx_R, i64_succ (show j + 1 < 9223372036854775807 by omega), rowV_ne hne, rowR_len, List.length_append]
    · have hi' : i = l.length := by omega
      subst hi'
      simp -implicitDefEqProofs -proj only [go_sem, Nat.reduceBEq, Nat.reduceLT, Nat.reduceLeDiff, Nat.reduceAdd, Nat.reduceMul, ↓reduceIte, Int.reduceToNat, Int.reducePow, Int.reduceLT, Int.reduceLE, Int.reduceAdd, Int.reduceSub, Int.reduceMul, Int.reduceEq, Int.reduceNe, decide_eq_false (show ¬ (l.length : Int) < l.length by omega)]
      rw [show runs f l = R from hR.symm]
      exact rowV_new hrow rowR_scal
theorem FwdOK.out {val : Int → Int} {hi x : Int} : ∀ {R : List Run} {lo : Int}, FwdOK val lo hi R → (x < lo ∨ hi ≤ x) → atF R x = none
  | [], lo, h, _ => rfl
  | r :: R, lo, h, h1 => by
    obtain ⟨g1, g2, g3, g4, g5⟩ := h
    have := g5.le
    rw [atF_cons]
    by_cases ht : r.t < x
    · rw [if_pos ht]; exact FwdOK.out g5 (.inr (by omega))
    · rw [if_neg ht, if_neg (by omega)]
theorem at_ref {f : Int} {l : List Int} (x : Int) : atF (runs f l) x = refAt f l x := by
  have h := runsN_ok f l l.length
  unfold refAt
  split
  · next hc => exact h.out (by omega)
  · next hc => exact h.at' (by omega) (by omega)
theorem FwdOK.ends {val : Int → Int} {hi : Int} : ∀ {R : List Run} {lo : Int} (hr : R ≠ []), FwdOK val lo hi R → (R.head hr).f = lo ∧ (R.getLast hr).t = hi - 1
  | [r], lo, _, h => ⟨h.1, by have : r.t + 1 = hi := h.2.2.2.2; show r.t = hi - 1; omega⟩
  | r :: s :: R, lo, _, h => ⟨h.1, (FwdOK.ends (R := s :: R) (by simp) h.2.2.2.2).2⟩
theorem span_runs {f : Int} {l : List Int} (hl : l ≠ []) : spanV (runs f l) = .tup [i64 f, i64 (f + l.length - 1), bv true] ∧ runs f l ≠ [] := by
  have h := runsN_ok f l l.length
  have hne : runs f l ≠ [] := by
    obtain ⟨x, l', rfl⟩ := List.exists_cons_of_ne_nil hl
    exact putR_ne
  refine ⟨?_, hne⟩
  have he := FwdOK.ends hne h
  obtain ⟨r, R, hR⟩ := List.exists_cons_of_ne_nil hne
  have hR' : runs f l = r :: R := hR
  simp -implicitDefEqProofs only [hR'] at he ⊢
  simp -implicitDefEqProofs only [List.head_cons] at he
  rw [spanV, he.1, he.2]
set_option maxRecDepth 20000 in
theorem same_ok {f : Int} {l : List Int} (hf : -1073741824 ≤ f ∧ f ≤ 1073741824) (hl : l.length ≤ 900) : DataW Try.prog f_poundagelaw14_same [lineV (runs f l), refV f l] (bv true) := by
  have hrr := (RefRuns_new (f := f) (l := l) (by omega) (by omega)).data
  have hlenR := runsN_len (from' := f) (l := l) l.length
  have hg := (gone_ok (l := runs f l) (m := 1000) (by show (runsN f l l.length).length ≤ 1000000; omega)).data
  rw [List.take_of_length_le (by show (runsN f l l.length).length ≤ _; omega)] at hg
  have hsp := Span_ok (R := runs f l) (by show (runsN f l l.length).length ≤ 1000000; omega)
  have hcnt := Count_ok (a := runs f l)
  have hsort := (runsN_ok f l l.length).sorted
  have hat := fun x => at_ref (f := f) (l := l) x
  have hspan := span_runs (f := f) (l := l)
  have hnil : l = [] → runs f l = [] := fun e => by subst e; rfl
  obtain ⟨R, hR⟩ : ∃ R, runs f l = R := ⟨_, rfl⟩
  rw [hR] at hrr hg hsp hcnt hspan hnil
  simp -implicitDefEqProofs only [hR] at hat
  rw [show runsN f l l.length = R from hR] at hlenR hsort
  rw [hR]
  refine CallW_intro comp_poundagelaw14_same (by simp) ?_
  simp -implicitDefEqProofs -proj only [go_sem, Nat.reduceBEq, Nat.reduceLT, Nat.reduceLeDiff, Nat.reduceAdd, Nat.reduceMul, ↓reduceIte, Int.reduceToNat, Int.reducePow, Int.reduceLT, Int.reduceLE, Int.reduceAdd, Int.reduceSub, Int.reduceMul, Int.reduceEq, Int.reduceNe]
  refine AllocA_intro (fun b2 hb2 => ?_)
  simp -implicitDefEqProofs -proj only [go_sem, Nat.reduceBEq, Nat.reduceLT, Nat.reduceLeDiff, Nat.reduceAdd, Nat.reduceMul, ↓reduceIte, Int.reduceToNat, Int.reducePow, Int.reduceLT, Int.reduceLE, Int.reduceAdd, Int.reduceSub, Int.reduceMul, Int.reduceEq, Int.reduceNe]
  refine AllocA_intro (fun b3 hb3 => ?_)
  have a2 := alloc_all (x := .box 35 [slR R]) hb2 (l := []) trivial
  have n2 := alloc_keys (x := .box 35 [slR R]) hb2 (l := []) trivial List.nodup_nil
  have a3 := alloc_all (x := .box 42 [i64 f, slI l]) hb3 a2
  have n3 := alloc_keys (x := .box 42 [i64 f, slI l]) hb3 a2 n2
  obtain ⟨H, hH⟩ : ∃ H, upd (upd Heap.none b2 (some (.box 35 [slR R]))) b3 (some (.box 42 [i64 f, slI l])) = H := ⟨_, rfl⟩
  simp -implicitDefEqProofs only [St_H, hH] at a3 ⊢
  obtain ⟨e3, e2, _⟩ := id a3
  simp -implicitDefEqProofs -proj only [go_sem, Nat.reduceBEq, Nat.reduceLT, Nat.reduceLeDiff, Nat.reduceAdd, Nat.reduceMul, ↓reduceIte, Int.reduceToNat, Int.reducePow, Int.reduceLT, Int.reduceLE, Int.reduceAdd, Int.reduceSub, Int.reduceMul, Int.reduceEq, Int.reduceNe, e2, e3]
  refine CallA_pure hrr ?_
  simp -implicitDefEqProofs -proj only [go_sem, Nat.reduceBEq, Nat.reduceLT, Nat.reduceLeDiff, Nat.reduceAdd, Nat.reduceMul, ↓reduceIte, Int.reduceToNat, Int.reducePow, Int.reduceLT, Int.reduceLE, Int.reduceAdd, Int.reduceSub, Int.reduceMul, Int.reduceEq, Int.reduceNe, e2, e3]
  refine CallA_pure hg ?_
  simp -implicitDefEqProofs -proj only [go_sem, Nat.reduceBEq, Nat.reduceLT, Nat.reduceLeDiff, Nat.reduceAdd, Nat.reduceMul, ↓reduceIte, Int.reduceToNat, Int.reducePow, Int.reduceLT, Int.reduceLE, Int.reduceAdd, Int.reduceSub, Int.reduceMul, Int.reduceEq, Int.reduceNe, e2, e3]
  refine CallA_pure hsp ?_
  by_cases h0 : l = []
  · have := hnil h0
    subst this
    rw [show spanV [] = .tup [i64 0, i64 0, bv false] from rfl]
    simp -implicitDefEqProofs -proj only [go_sem, Nat.reduceBEq, Nat.reduceLT, Nat.reduceLeDiff, Nat.reduceAdd, Nat.reduceMul, ↓reduceIte, Int.reduceToNat, Int.reducePow, Int.reduceLT, Int.reduceLE, Int.reduceAdd, Int.reduceSub, Int.reduceMul, Int.reduceEq, Int.reduceNe, e2, e3]
    refine CallA_pure hcnt ?_
    simp -implicitDefEqProofs -proj only [go_sem, Nat.reduceBEq, Nat.reduceLT, Nat.reduceLeDiff, Nat.reduceAdd, Nat.reduceMul, ↓reduceIte, Int.reduceToNat, Int.reducePow, Int.reduceLT, Int.reduceLE, Int.reduceAdd, Int.reduceSub, Int.reduceMul, Int.reduceEq, Int.reduceNe, rowR_len, decide_eq_true (show ((0 : Nat) : Int) = 0 from rfl)]
    exact LendV_eq rfl
  · obtain ⟨hs1, hs2⟩ := hspan h0
    have hRl : 0 < R.length := List.length_pos_iff.2 hs2
    rw [hs1]
    simp -implicitDefEqProofs -proj only [go_sem, Nat.reduceBEq, Nat.reduceLT, Nat.reduceLeDiff, Nat.reduceAdd, Nat.reduceMul, ↓reduceIte, Int.reduceToNat, Int.reducePow, Int.reduceLT, Int.reduceLE, Int.reduceAdd, Int.reduceSub, Int.reduceMul, Int.reduceEq, Int.reduceNe, e2, e3]
    refine CallA_pure hcnt ?_
    simp -implicitDefEqProofs -proj only [go_sem, Nat.reduceBEq, Nat.reduceLT, Nat.reduceLeDiff, Nat.reduceAdd, Nat.reduceMul, ↓reduceIte, Int.reduceToNat, Int.reducePow, Int.reduceLT, Int.reduceLE, Int.reduceAdd, Int.reduceSub, Int.reduceMul, Int.reduceEq, Int.reduceNe, rowR_len, decide_eq_true (show (R.length : Int) = R.length from rfl), decide_eq_true (show (0 : Int) < R.length by omega)]
    refine LoopA_k (fun i : Nat => i ≤ R.length) 139 (fun i => [(54, slR R), (55, i64 R.length), (56, i64 i), (5, slR R), (7, i64 f), (8, i64 (f + l.length - 1)), (2, .ptr b2 0), (3, .ptr b3 0)]) (fun i => [(b3, .box 42 [i64 f, slI l]), (b2, .box 35 [slR R])]) (fun i => R.length - i) 0 (Nat.zero_le _) rfl ?_ a3 ?_
    · simp -implicitDefEqProofs -proj only [go_sem, Nat.reduceBEq, Nat.reduceLT, Nat.reduceLeDiff, Nat.reduceAdd, Nat.reduceMul, ↓reduceIte, Int.reduceToNat, Int.reducePow, Int.reduceLT, Int.reduceLE, Int.reduceAdd, Int.reduceSub, Int.reduceMul, Int.reduceEq, Int.reduceNe, AllAt, rowR_len]
    · intro i hi
      have hall := keepH_all n3
      obtain ⟨H1, hH1⟩ : ∃ H1, keepH [(b3, .box 42 [i64 f, slI l]), (b2, .box 35 [slR R])] = H1 := ⟨_, rfl⟩
      rw [hH1] at hall ⊢
      obtain ⟨f3, f2, _⟩ := id hall
      by_cases h : i < R.length
      · have hel := rowR_idx h
        generalize R[i] = r at *
        simp -implicitDefEqProofs -proj only [go_sem, Nat.reduceBEq, Nat.reduceLT, Nat.reduceLeDiff, Nat.reduceAdd, Nat.reduceMul, ↓reduceIte, Int.reduceToNat, Int.reducePow, Int.reduceLT, Int.reduceLE, Int.reduceAdd, Int.reduceSub, Int.reduceMul, Int.reduceEq, Int.reduceNe, decide_eq_true (show (i : Int) < R.length by omega)]
        refine ElemA_at _ (by omega) hel ?_
        simp -implicitDefEqProofs -proj only [go_sem, Nat.reduceBEq, Nat.reduceLT, Nat.reduceLeDiff, Nat.reduceAdd, Nat.reduceMul, ↓reduceIte, Int.reduceToNat, Int.reducePow, Int.reduceLT, Int.reduceLE, Int.reduceAdd, Int.reduceSub, Int.reduceMul, Int.reduceEq, Int.reduceNe]
        refine AllocA_intro (fun b11 hb11 => ?_)
        simp -implicitDefEqProofs -proj only [go_sem, Nat.reduceBEq, Nat.reduceLT, Nat.reduceLeDiff, Nat.reduceAdd, Nat.reduceMul, ↓reduceIte, Int.reduceToNat, Int.reducePow, Int.reduceLT, Int.reduceLE, Int.reduceAdd, Int.reduceSub, Int.reduceMul, Int.reduceEq, Int.reduceNe]
        refine ElemA_at _ (by omega) hel ?_
        simp -implicitDefEqProofs -proj only [go_sem, Nat.reduceBEq, Nat.reduceLT, Nat.reduceLeDiff, Nat.reduceAdd, Nat.reduceMul, ↓reduceIte, Int.reduceToNat, Int.reducePow, Int.reduceLT, Int.reduceLE, Int.reduceAdd, Int.reduceSub, Int.reduceMul, Int.reduceEq, Int.reduceNe, decide_eq_true (show r.f = r.f from rfl)]
        refine ElemA_at _ (by omega) hel ?_
        simp -implicitDefEqProofs -proj only [go_sem, Nat.reduceBEq, Nat.reduceLT, Nat.reduceLeDiff, Nat.reduceAdd, Nat.reduceMul, ↓reduceIte, Int.reduceToNat, Int.reducePow, Int.reduceLT, Int.reduceLE, Int.reduceAdd, Int.reduceSub, Int.reduceMul, Int.reduceEq, Int.reduceNe, decide_eq_true (show r.t = r.t from rfl)]
        refine ElemA_at _ (by omega) hel ?_
        simp -implicitDefEqProofs -proj only [go_sem, Nat.reduceBEq, Nat.reduceLT, Nat.reduceLeDiff, Nat.reduceAdd, Nat.reduceMul, ↓reduceIte, Int.reduceToNat, Int.reducePow, Int.reduceLT, Int.reduceLE, Int.reduceAdd, Int.reduceSub, Int.reduceMul, Int.reduceEq, Int.reduceNe, decide_eq_true (show r.v = r.v from rfl)]
        refine LoopQ_next (i + 1) (by show i + 1 ≤ R.length; omega) (by show R.length - (i + 1) < R.length - i; omega) (Abst_keep rfl ?_ (abst_upd hb11))
        simp -implicitDefEqProofs -proj only [go_sem, Nat.reduceBEq, Nat.reduceLT, Nat.reduceLeDiff, Nat.reduceAdd, Nat.reduceMul, ↓reduceIte, Int.reduceToNat, Int.reducePow, Int.reduceLT, Int.reduceLE, Int.reduceAdd, Int.reduceSub, Int.reduceMul, Int.reduceEq, Int.reduceNe, AllAt, i64_succ (show i < 9223372036854775807 by omega)]
      · have hi' : i = R.length := by omega
        subst hi'
        have hw1 : IntKind.i64.wrap (f - 2) = f - 2 := by rw [IntKind.wrap_i64]; omega
        simp -implicitDefEqProofs -proj only [go_sem, Nat.reduceBEq, Nat.reduceLT, Nat.reduceLeDiff, Nat.reduceAdd, Nat.reduceMul, ↓reduceIte, Int.reduceToNat, Int.reducePow, Int.reduceLT, Int.reduceLE, Int.reduceAdd, Int.reduceSub, Int.reduceMul, Int.reduceEq, Int.reduceNe, decide_eq_false (show ¬ (R.length : Int) < R.length by omega), f3, f2, hw1]
        refine LoopA_k (fun i : Nat => i ≤ l.length + 4) 139 (fun i => [(12, i64 (f - 2 + i)), (7, i64 f), (8, i64 (f + l.length - 1)), (2, .ptr b2 0), (3, .ptr b3 0)]) (fun i => [(b3, .box 42 [i64 f, slI l]), (b2, .box 35 [slR R])]) (fun i => l.length + 4 - i) 0 (Nat.zero_le _) rfl ?_ hall ?_
        · simp -implicitDefEqProofs -proj only [go_sem, Nat.reduceBEq, Nat.reduceLT, Nat.reduceLeDiff, Nat.reduceAdd, Nat.reduceMul, ↓reduceIte, Int.reduceToNat, Int.reducePow, Int.reduceLT, Int.reduceLE, Int.reduceAdd, Int.reduceSub, Int.reduceMul, Int.reduceEq, Int.reduceNe, AllAt, Int.add_zero]
        · intro i hi
          rw [hH1]
          have hw2 : IntKind.i64.wrap (f + l.length) = f + l.length := by rw [IntKind.wrap_i64]; omega
          have hw3 : IntKind.i64.wrap (f + l.length + 1) = f + l.length + 1 := by rw [IntKind.wrap_i64]; omega
          by_cases h : i < l.length + 4
          · have h1 := At_ok (l := R) (x := f - 2 + i) (by omega) hsort
            have h2 := RefAt_ok (f := f) (x := f - 2 + i) (l := l) (by omega) (by omega)
            rw [hat] at h1
            have hw4 : IntKind.i64.wrap (f - 2 + i + 1) = f - 2 + ((i + 1 : Nat) : Int) := by rw [IntKind.wrap_i64]; omega
            simp -implicitDefEqProofs -proj only [go_sem, Nat.reduceBEq, Nat.reduceLT, Nat.reduceLeDiff, Nat.reduceAdd, Nat.reduceMul, ↓reduceIte, Int.reduceToNat, Int.reducePow, Int.reduceLT, Int.reduceLE, Int.reduceAdd, Int.reduceSub, Int.reduceMul, Int.reduceEq, Int.reduceNe, f3, f2, hw2, hw3, rowI_len, decide_eq_true (show f - 2 + i ≤ f + l.length + 1 by omega)]
            refine CallA_pure h1 ?_
            cases hq : refAt f l (f - 2 + i) with
            | none =>
              rw [hq] at h2
              simp -implicitDefEqProofs -proj only [go_sem, Nat.reduceBEq, Nat.reduceLT, Nat.reduceLeDiff, Nat.reduceAdd, Nat.reduceMul, ↓reduceIte, Int.reduceToNat, Int.reducePow, Int.reduceLT, Int.reduceLE, Int.reduceAdd, Int.reduceSub, Int.reduceMul, Int.reduceEq, Int.reduceNe, optR, f3, f2]
              refine CallA_pure h2 ?_
              simp -implicitDefEqProofs -proj only [go_sem, Nat.reduceBEq, Nat.reduceLT, Nat.reduceLeDiff, Nat.reduceAdd, Nat.reduceMul, ↓reduceIte, Int.reduceToNat, Int.reducePow, Int.reduceLT, Int.reduceLE, Int.reduceAdd, Int.reduceSub, Int.reduceMul, Int.reduceEq, Int.reduceNe, optR, f3, f2, hw4, decide_eq_true (show (0 : Int) = 0 from rfl)]
              refine LoopQ_next (i + 1) (by show i + 1 ≤ l.length + 4; omega) (by show l.length + 4 - (i + 1) < l.length + 4 - i; omega) (Abst_keep rfl ?_ (fun k => .inr rfl))
              simp -implicitDefEqProofs -proj only [go_sem, Nat.reduceBEq, Nat.reduceLT, Nat.reduceLeDiff, Nat.reduceAdd, Nat.reduceMul, ↓reduceIte, Int.reduceToNat, Int.reducePow, Int.reduceLT, Int.reduceLE, Int.reduceAdd, Int.reduceSub, Int.reduceMul, Int.reduceEq, Int.reduceNe, AllAt]
            | some v =>
              rw [hq] at h2
              simp -implicitDefEqProofs -proj only [go_sem, Nat.reduceBEq, Nat.reduceLT, Nat.reduceLeDiff, Nat.reduceAdd, Nat.reduceMul, ↓reduceIte, Int.reduceToNat, Int.reducePow, Int.reduceLT, Int.reduceLE, Int.reduceAdd, Int.reduceSub, Int.reduceMul, Int.reduceEq, Int.reduceNe, optR, f3, f2]
              refine CallA_pure h2 ?_
              simp -implicitDefEqProofs -proj only [go_sem, Nat.reduceBEq, Nat.reduceLT, Nat.reduceLeDiff, Nat.reduceAdd, Nat.reduceMul, ↓reduceIte, Int.reduceToNat, Int.reducePow, Int.reduceLT, Int.reduceLE, Int.reduceAdd, Int.reduceSub, Int.reduceMul, Int.reduceEq, Int.reduceNe, optR, f3, f2, hw4, decide_eq_true (show v = v from rfl)]
              refine LoopQ_next (i + 1) (by show i + 1 ≤ l.length + 4; omega) (by show l.length + 4 - (i + 1) < l.length + 4 - i; omega) (Abst_keep rfl ?_ (fun k => .inr rfl))
              simp -implicitDefEqProofs -proj only [go_sem, Nat.reduceBEq, Nat.reduceLT, Nat.reduceLeDiff, Nat.reduceAdd, Nat.reduceMul, ↓reduceIte, Int.reduceToNat, Int.reducePow, Int.reduceLT, Int.reduceLE, Int.reduceAdd, Int.reduceSub, Int.reduceMul, Int.reduceEq, Int.reduceNe, AllAt]
          · have hi' : i = l.length + 4 := by omega
            subst hi'
            have hw5 : IntKind.i64.wrap (f + l.length - 1) = f + l.length - 1 := by rw [IntKind.wrap_i64]; omega
            simp -implicitDefEqProofs -proj only [go_sem, Nat.reduceBEq, Nat.reduceLT, Nat.reduceLeDiff, Nat.reduceAdd, Nat.reduceMul, ↓reduceIte, Int.reduceToNat, Int.reducePow, Int.reduceLT, Int.reduceLE, Int.reduceAdd, Int.reduceSub, Int.reduceMul, Int.reduceEq, Int.reduceNe, f3, f2, hw2, hw3, hw5, rowI_len, decide_eq_false (show ¬ (f - 2 + ((l.length + 4 : Nat) : Int) ≤ f + l.length + 1) by omega), decide_eq_true (show f = f from rfl), decide_eq_true (show f + (l.length : Int) - 1 = f + l.length - 1 from rfl)]
            exact LendV_eq rfl
end Go.Proofs.Ytgfimmaligcgjaa.Abs
