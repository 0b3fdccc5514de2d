/- The law CurveSteps. No claim stands here. -/
import Derived.Test.YtonlgniaoompaaaKLaw15b
set_option linter.unusedSimpArgs false
set_option linter.unusedVariables false
namespace Go.Proofs.Ytonlgniaoompaaa.Abs
open Go Go.RowKit Go.Proofs
attribute [local go_sem] RunC_seq AF_n AF_r AF_b St_n St_t St_H Fst_mk Snd_mk RunC_ops RunC_cond RunC_block RunC_loop RunC_exit RunC_ret RunC_skip RunO_nil RunO_code RunO_code_ret RunO_code_exit RunO_blk RunO_blk_ret RunO_blk_exit RunL_nil RunL_guard GuardA_tt GuardA_ff GuardA_tf GuardA_ft GuardA_void CondA_t CondA_f PickA_t PickA_f RunL_mov RunL_pick RunL_alloc RunL_box RunL_load LoadA_ptr LoadB_1 LoadB_n LoadA_dptr LoadA_dptr_n RunL_store StoreA_ptr StoreB_box RunL_bin Bin_add Bin_sub Bin_mul Bin_quo Bin_rem Bin_shl Bin_shr Bin_andI Bin_orI Bin_xorI Bin_eql Bin_neq Bin_lss Bin_leq Bin_gtr Bin_geq RunL_binb Bin_beql Bin_bneq RunL_un UnA_not UnA_neg RunL_conv convV MapA_some RunL_nilCheck nilV RunL_mkfn RunL_fieldAddr faV RunL_field FieldA_1 FieldA_n RunL_elemAddr EAddrA_sl EAddrA_own EptrA_eq RunL_build BuildA_some RunL_extract ExtA_eq RunL_len lenV_sl lenV_nilsl lenV_own RunL_slen RunL_idxStr IdxSA_eq slenV RunL_minmax mmV minmaxL RunL_call RunL_callv CallvA_fn putS ev evL evO evP eqK eqKs EqB_agg RunL_eqAgg EqA_t EqA_f evQ buildC fits_agg cellsAV_agg fits_d cellsAV_d fits_nilp cellsAV_nilp fits_nilsl cellsAV_nilsl fits_nilfn cellsAV_nilfn fits_ptr cellsAV_ptr fits_eptr cellsAV_eptr fits_dptr cellsAV_dptr fits_own cellsAV_own fits_fn cellsAV_fn rowV_fits rowV_cells rowV_len lenAV setSeg nth seg mapD repeatL putT_get upd_get argT keepT_cons keepT_nil keepH_cons keepH_nil cond_true cond_false VC_true finW resW resL resOne LoopQ_exit LoopQ_ret List.cons_append List.nil_append Bool.not_true Bool.not_false Bool.and_true Bool.and_self Nat.lt_add_left_iff_pos Nat.zero_add Nat.add_zero List.drop_succ_cons List.drop_zero List.take_succ_cons List.take_zero beq_self_eq_true Bool.false_eq_true RunC_dops RunL_loadS RunL_loadD LoadDA_dptr RunL_storeS StoreSA_ptr RunL_pcall RunL_pcallv PCallvA_fn newsOk and_self and_true true_and loadW_ptr LoadK_1 LoadK_n upd_upd RunL_buildSlice BSliceA_some RunL_buildSliceD frzL frz cutL LoadA_eptr LoadE_row RunL_append RunL_slice SliceA_sl StoreA_eptr List.length_cons List.length_nil Nat.min_def Int.cast_ofNat_Int Int.natCast_zero Int.natCast_one decide_true decide_false List.getElem?_cons_zero List.getElem?_cons_succ RunC_rangef CallvA_yld putL_nil putL_cons RangeQ_exit RangeQ_ret
/-- Values that rise from block to block. -/
def stepL (w c : Nat) (v r : Int) : List Int := (List.range (c * w)).map fun n => v + ((n / w : Nat) : Int) * r
theorem stepL_len {w c : Nat} {v r : Int} : (stepL w c v r).length = c * w := by simp [stepL]
theorem stepL_get {w c : Nat} {v r : Int} {n : Nat} (h : n < (stepL w c v r).length) : (stepL w c v r)[n] = v + ((n / w : Nat) : Int) * r := by simp [stepL]
def stepR (w : Nat) (r : Int) : Nat → Int → Int → List Run
  | 0, _, _ => []
  | n + 1, f, v => ⟨f, f + w - 1, v⟩ :: stepR w r n (f + w) (v + r)
theorem stepR_fwd {w : Nat} {v r : Int} (hw : 1 ≤ w) (hr : r ≠ 0) : ∀ (n k : Nat), FwdOK (fun x => v + ((x.toNat / w : Nat) : Int) * r) ((k * w : Nat) : Int) (((k + n) * w : Nat) : Int) (stepR w r n ((k * w : Nat) : Int) (v + k * r))
  | 0, k => by show ((k * w : Nat) : Int) = ((k + 0) * w : Nat); rfl
  | n + 1, k => by
    have ih := stepR_fwd hw hr n (k + 1) (v := v)
    have e1 : (((k + 1) * w : Nat) : Int) = ((k * w : Nat) : Int) + w := by rw [Nat.add_mul, Nat.one_mul]; rfl
    have e2 : v + ((k + 1 : Nat) : Int) * r = v + k * r + r := by rw [show ((k + 1 : Nat) : Int) = (k : Int) + 1 from rfl, Int.add_mul, Int.one_mul]; omega
    have e3 : k + 1 + n = k + (n + 1) := by omega
    rw [e1, e2, e3] at ih
    refine ⟨rfl, by show ((k * w : Nat) : Int) ≤ ((k * w : Nat) : Int) + w - 1; omega, fun x h1 h2 => ?_, fun s hs => ?_, ?_⟩
    · have h1' : ((k * w : Nat) : Int) ≤ x := h1
      have h2' : x ≤ ((k * w : Nat) : Int) + w - 1 := h2
      have : x.toNat / w = k := by
        refine Nat.div_eq_of_lt_le ?_ ?_
        · omega
        · rw [Nat.succ_mul]; omega
      show v + ((x.toNat / w : Nat) : Int) * r = v + k * r
      rw [this]
    · cases n with
      | zero => cases hs
      | succ n =>
        cases hs
        show v + k * r ≠ v + k * r + r
        omega
    · rw [show ((k * w : Nat) : Int) + w - 1 + 1 = ((k * w : Nat) : Int) + w by omega]
      exact ih
theorem stepR_runs {w c : Nat} {v r : Int} (hw : 1 ≤ w) (hr : r ≠ 0) : runs 0 (stepL w c v r) = stepR w r c 0 v := by
  have h := stepR_fwd hw hr c 0 (v := v)
  rw [Nat.zero_add, Nat.zero_mul] at h
  rw [show v + ((0 : Nat) : Int) * r = v by simp] at h
  refine (runs_eq (val := fun x => v + ((x.toNat / w : Nat) : Int) * r) ?_ fun i hi => ?_).symm
  · rw [stepL_len, Int.zero_add]; exact h
  · rw [stepL_get hi, Int.zero_add]
    rfl
theorem stepR_len {w : Nat} {r : Int} : ∀ (n : Nat) (a : Run), runLen w r a (stepR w r n (a.f + w) (a.v + r)) = n
  | 0, a => rfl
  | n + 1, a => by
    rw [stepR, runLen, if_pos ⟨by show a.f + w - a.f = w; omega, by show a.v + r - a.v = r; omega⟩]
    rw [stepR_len n ⟨a.f + w, a.f + w + w - 1, a.v + r⟩]
theorem step_gps {w c : Nat} {v r : Int} (hw : 1 ≤ w) (hr : r ≠ 0) (hc : 2 ≤ c) : gps (stepL w c v r) = [⟨0, v, w, r, c⟩] := by
  unfold gps
  rw [stepR_runs hw hr]
  obtain ⟨n, rfl⟩ : ∃ n, c = n + 2 := ⟨c - 2, by omega⟩
  rw [stepR, groups_cons, stepR]
  have hl : runLen w r ⟨0, 0 + w - 1, v⟩ (⟨0 + w, 0 + w + w - 1, v + r⟩ :: stepR w r n (0 + w + w) (v + r + r)) = n + 1 := stepR_len (n + 1) ⟨0, 0 + w - 1, v⟩
  have e1 : (0 : Int) + w - 0 = w := by omega
  have e2 : v + r - v = r := by omega
  have hg : grpOf ⟨0, 0 + w - 1, v⟩ (⟨0 + w, 0 + w + w - 1, v + r⟩ :: stepR w r n (0 + w + w) (v + r + r)) = (⟨0, v, w, r, ((n + 1 + 1 : Nat) : Int)⟩, n + 1 + 1) := by
    simp -implicitDefEqProofs only [grpOf]
    rw [e1, e2, hl]
  rw [hg]
  have hlen : ∀ (m : Nat) (f u : Int), (stepR w r m f u).length = m := by
    intro m
    induction m with
    | zero => intro f u; rfl
    | succ m ih => intro f u; rw [stepR, List.length_cons, ih]
  rw [List.drop_eq_nil_of_le (by simp -implicitDefEqProofs only [List.length_cons, hlen]; omega)]
  rfl
theorem flat_gps {w c : Nat} {v r : Int} (hw : 1 ≤ w) (hc : 1 ≤ c) (h : c = 1 ∨ r = 0) : gps (stepL w c v r) = [⟨0, v, 0, 0, 1⟩] := by
  have hcw : 1 ≤ c * w := Nat.mul_pos (by omega) (by omega)
  have hR : runs 0 (stepL w c v r) = [⟨0, ((c * w : Nat) : Int) - 1, v⟩] := by
    refine (runs_eq (val := fun _ => v) ?_ fun i hi => ?_).symm
    · rw [stepL_len]
      refine ⟨rfl, by show (0 : Int) ≤ ((c * w : Nat) : Int) - 1; omega, fun _ _ _ => rfl, fun s hs => (by cases hs), ?_⟩
      show ((c * w : Nat) : Int) - 1 + 1 = 0 + ((c * w : Nat) : Int)
      omega
    · rw [stepL_get hi]
      rcases h with rfl | rfl
      · rw [stepL_len] at hi
        rw [Nat.div_eq_of_lt (by omega)]
        simp
      · simp
  unfold gps
  rw [hR]
  rfl
theorem step_cur {w c : Nat} {v r : Int} (hw : 1 ≤ w ∧ w ≤ 50) (hc : 1 ≤ c ∧ c ≤ 40) (hv : -1000000 ≤ v ∧ v ≤ 1000000) (hr : -1000000 ≤ r ∧ r ≤ 1000000) : CurL (stepL w c v r) := by
  have hcw : 1 ≤ c * w := Nat.mul_pos (by omega) (by omega)
  have hcw2 : c * w ≤ 40 * 50 := Nat.mul_le_mul hc.2 hw.2
  refine ⟨fun e => ?_, by rw [stepL_len]; omega, fun u hu => ?_⟩
  · have := congrArg List.length e
    rw [stepL_len] at this
    simp -implicitDefEqProofs only [List.length_nil] at this
    omega
  · obtain ⟨n, hn, rfl⟩ := List.getElem_of_mem hu
    rw [stepL_get hn]
    rw [stepL_len] at hn
    have hd : n / w < c := by rw [Nat.div_lt_iff_lt_mul (by omega)]; exact hn
    have : -40000000 ≤ ((n / w : Nat) : Int) * r ∧ ((n / w : Nat) : Int) * r ≤ 40000000 := by
      generalize n / w = k at *
      constructor
      · have h1 : ((k : Int)) * (-1000000) ≤ (k : Int) * r := Int.mul_le_mul_of_nonneg_left hr.1 (by omega)
        omega
      · have h1 : (k : Int) * r ≤ (k : Int) * 1000000 := Int.mul_le_mul_of_nonneg_left hr.2 (by omega)
        omega
    unfold smallV
    omega
structure SX where
  i : Nat
  c : Nat
  cap : Nat
theorem ex_i {i c cap : Nat} : (SX.mk i c cap).i = i := (rfl)
theorem ex_c {i c cap : Nat} : (SX.mk i c cap).c = c := (rfl)
theorem ex_cap {i c cap : Nat} : (SX.mk i c cap).cap = cap := (rfl)
set_option maxRecDepth 20000 in
theorem CurveSteps_ok {w' r c' v : Int} (hfw : Fit w') (hfr : Fit r) (hfc : Fit c') (hfv : Fit v) : DataW Try.prog f_poundagelaw15_CurveSteps [i64 w', i64 r, i64 c', i64 v] (bv true) := by
  refine CallW_intro comp_poundagelaw15_CurveSteps (by simp) ?_
  simp -implicitDefEqProofs -proj only [go_sem, Nat.reduceBEq, Nat.reduceLT, Nat.reduceLeDiff, Nat.reduceAdd, Nat.reduceMul, ↓reduceIte, Int.reduceToNat, Int.reducePow, Int.reduceLT, Int.reduceLE, Int.reduceAdd, Int.reduceSub, Int.reduceMul, Int.reduceEq, Int.reduceNe]
  refine CallA_pure alive15_ok ?_
  by_cases g1 : w' < 1
  · simp -implicitDefEqProofs -proj only [go_sem, Nat.reduceBEq, Nat.reduceLT, Nat.reduceLeDiff, Nat.reduceAdd, Nat.reduceMul, ↓reduceIte, Int.reduceToNat, Int.reducePow, Int.reduceLT, Int.reduceLE, Int.reduceAdd, Int.reduceSub, Int.reduceMul, Int.reduceEq, Int.reduceNe, decide_eq_true g1]
    exact LendV_eq rfl
  by_cases g2 : 50 < w'
  · simp -implicitDefEqProofs -proj only [go_sem, Nat.reduceBEq, Nat.reduceLT, Nat.reduceLeDiff, Nat.reduceAdd, Nat.reduceMul, ↓reduceIte, Int.reduceToNat, Int.reducePow, Int.reduceLT, Int.reduceLE, Int.reduceAdd, Int.reduceSub, Int.reduceMul, Int.reduceEq, Int.reduceNe, decide_eq_false g1, decide_eq_true g2]
    exact LendV_eq rfl
  by_cases g3 : c' < 1
  · simp -implicitDefEqProofs -proj only [go_sem, Nat.reduceBEq, Nat.reduceLT, Nat.reduceLeDiff, Nat.reduceAdd, Nat.reduceMul, ↓reduceIte, Int.reduceToNat, Int.reducePow, Int.reduceLT, Int.reduceLE, Int.reduceAdd, Int.reduceSub, Int.reduceMul, Int.reduceEq, Int.reduceNe, decide_eq_false g1, decide_eq_false g2, decide_eq_true g3]
    exact LendV_eq rfl
  by_cases g4 : 40 < c'
  · simp -implicitDefEqProofs -proj only [go_sem, Nat.reduceBEq, Nat.reduceLT, Nat.reduceLeDiff, Nat.reduceAdd, Nat.reduceMul, ↓reduceIte, Int.reduceToNat, Int.reducePow, Int.reduceLT, Int.reduceLE, Int.reduceAdd, Int.reduceSub, Int.reduceMul, Int.reduceEq, Int.reduceNe, decide_eq_false g1, decide_eq_false g2, decide_eq_false g3, decide_eq_true g4]
    exact LendV_eq rfl
  by_cases g5 : 1000000 < r
  · simp -implicitDefEqProofs -proj only [go_sem, Nat.reduceBEq, Nat.reduceLT, Nat.reduceLeDiff, Nat.reduceAdd, Nat.reduceMul, ↓reduceIte, Int.reduceToNat, Int.reducePow, Int.reduceLT, Int.reduceLE, Int.reduceAdd, Int.reduceSub, Int.reduceMul, Int.reduceEq, Int.reduceNe, decide_eq_false g1, decide_eq_false g2, decide_eq_false g3, decide_eq_false g4, decide_eq_true g5]
    exact LendV_eq rfl
  by_cases g6 : r < -1000000
  · simp -implicitDefEqProofs -proj only [go_sem, Nat.reduceBEq, Nat.reduceLT, Nat.reduceLeDiff, Nat.reduceAdd, Nat.reduceMul, ↓reduceIte, Int.reduceToNat, Int.reducePow, Int.reduceLT, Int.reduceLE, Int.reduceAdd, Int.reduceSub, Int.reduceMul, Int.reduceEq, Int.reduceNe, decide_eq_false g1, decide_eq_false g2, decide_eq_false g3, decide_eq_false g4, decide_eq_false g5, decide_eq_true g6]
    exact LendV_eq rfl
  by_cases g7 : 1000000 < v
  · simp -implicitDefEqProofs -proj only [go_sem, Nat.reduceBEq, Nat.reduceLT, Nat.reduceLeDiff, Nat.reduceAdd, Nat.reduceMul, ↓reduceIte, Int.reduceToNat, Int.reducePow, Int.reduceLT, Int.reduceLE, Int.reduceAdd, Int.reduceSub, Int.reduceMul, Int.reduceEq, Int.reduceNe, decide_eq_false g1, decide_eq_false g2, decide_eq_false g3, decide_eq_false g4, decide_eq_false g5, decide_eq_false g6, decide_eq_true g7]
    exact LendV_eq rfl
  by_cases g8 : v < -1000000
  · simp -implicitDefEqProofs -proj only [go_sem, Nat.reduceBEq, Nat.reduceLT, Nat.reduceLeDiff, Nat.reduceAdd, Nat.reduceMul, ↓reduceIte, Int.reduceToNat, Int.reducePow, Int.reduceLT, Int.reduceLE, Int.reduceAdd, Int.reduceSub, Int.reduceMul, Int.reduceEq, Int.reduceNe, decide_eq_false g1, decide_eq_false g2, decide_eq_false g3, decide_eq_false g4, decide_eq_false g5, decide_eq_false g6, decide_eq_false g7, decide_eq_true g8]
    exact LendV_eq rfl
  obtain ⟨w, rfl⟩ := Int.eq_ofNat_of_zero_le (show 0 ≤ w' by omega)
  obtain ⟨c, rfl⟩ := Int.eq_ofNat_of_zero_le (show 0 ≤ c' by omega)
  have hcur := step_cur (w := w) (c := c) (v := v) (r := r) (by omega) (by omega) (by omega) (by omega)
  have hlen := stepL_len (w := w) (c := c) (v := v) (r := r)
  have hcw1 : 1 ≤ c * w := Nat.mul_pos (by omega) (by omega)
  have hcw2 : c * w ≤ 40 * 50 := Nat.mul_le_mul (by omega) (by omega)
  have hget := fun n h => stepL_get (w := w) (c := c) (v := v) (r := r) (n := n) h
  obtain ⟨L, hL⟩ : ∃ L, stepL w c v r = L := ⟨_, rfl⟩
  have oa := Of_new (from' := 0) (l := L) (by decide) (by rw [← hL, hlen]; omega)
  have ca := (OfL_ok (l := L) (by rw [← hL, hlen]; omega)).data
  have hgps : gps L = if c = 1 ∨ r = 0 then [⟨0, v, 0, 0, 1⟩] else [⟨0, v, w, r, c⟩] := by
    rw [← hL]
    by_cases h : c = 1 ∨ r = 0
    · rw [if_pos h]; exact flat_gps (by omega) (by omega) h
    · rw [if_neg h]; exact step_gps (by omega) (by omega) (by omega)
  rw [hL] at hcur hlen hget
  rw [if_pos hcur] at ca
  unfold curL at ca
  rw [hgps, hlen] at ca
  generalize runs 0 L = R at oa ca
  clear hgps hL
  simp -implicitDefEqProofs -proj only [go_sem, Nat.reduceBEq, Nat.reduceLT, Nat.reduceLeDiff, Nat.reduceAdd, Nat.reduceMul, ↓reduceIte, Int.reduceToNat, Int.reducePow, Int.reduceLT, Int.reduceLE, Int.reduceAdd, Int.reduceSub, Int.reduceMul, Int.reduceEq, Int.reduceNe, decide_eq_false g1, decide_eq_false g2, decide_eq_false g3, decide_eq_false g4, decide_eq_false g5, decide_eq_false g6, decide_eq_false g7, decide_eq_false g8]
  have hkw : ∀ k i : Nat, k < c → i < w → k * w + i < c * w ∧ (k * w + i) / w = k := fun k i h1 h2 => by
    have h3 : (k + 1) * w ≤ c * w := Nat.mul_le_mul_right w h1
    rw [Nat.add_mul, Nat.one_mul] at h3
    exact ⟨by omega, Nat.div_eq_of_lt_le (by omega) (by rw [Nat.succ_mul]; omega)⟩
  have hknd : ∀ (y : SX) (xs : List (List D)), (keys (rowH 3 1 y.c y.cap xs)).Nodup := fun y xs => by cases xs <;> simp [rowH, keys]
  refine LoopA_k (fun y : SX => y.i ≤ c) 108 (fun y => [(0, i64 w), (1, i64 r), (2, i64 c), (3, i64 v), (9, rowV 0 1 y.c y.cap (rowI (L.take (y.i * w)))), (10, i64 y.i)]) (fun y => rowH 3 1 y.c y.cap (rowI (L.take (y.i * w)))) (fun y => c - y.i) ⟨0, 0, 0⟩ (Nat.zero_le _) rfl ?_ ?_ ?_
  · simp -implicitDefEqProofs -proj only [go_sem, Nat.reduceBEq, Nat.reduceLT, Nat.reduceLeDiff, Nat.reduceAdd, Nat.reduceMul, ↓reduceIte, Int.reduceToNat, Int.reducePow, Int.reduceLT, Int.reduceLE, Int.reduceAdd, Int.reduceSub, Int.reduceMul, Int.reduceEq, Int.reduceNe, AllAt, ex_i, ex_c, ex_cap, Nat.zero_mul, List.take_zero]
    rfl
  · simp -implicitDefEqProofs -proj only [go_sem, Nat.reduceBEq, Nat.reduceLT, Nat.reduceLeDiff, Nat.reduceAdd, Nat.reduceMul, ↓reduceIte, Int.reduceToNat, Int.reducePow, Int.reduceLT, Int.reduceLE, Int.reduceAdd, Int.reduceSub, Int.reduceMul, Int.reduceEq, Int.reduceNe, AllH, ex_i, ex_c, ex_cap, Nat.zero_mul, List.take_zero, rowI, List.map_nil, rowH_nil]
  · rintro ⟨k, b0, cap0⟩ hk
    simp -implicitDefEqProofs only [ex_i] at hk
    have hall0 := keepH_all (hknd ⟨k, b0, cap0⟩ (rowI (L.take (k * w))))
    simp -implicitDefEqProofs only [ex_c, ex_cap] at hall0
    by_cases hkc : k < c
    · have hkr : -40000000 ≤ (k : Int) * r ∧ (k : Int) * r ≤ 40000000 := by
        have h1 : ((k : Int)) * (-1000000) ≤ (k : Int) * r := Int.mul_le_mul_of_nonneg_left (by omega) (by omega)
        have h2 : (k : Int) * r ≤ (k : Int) * 1000000 := Int.mul_le_mul_of_nonneg_left (by omega) (by omega)
        omega
      have w1 : IntKind.i64.wrap ((k : Int) * r) = (k : Int) * r := by rw [IntKind.wrap_i64]; omega
      have w2 : IntKind.i64.wrap (v + (k : Int) * r) = v + (k : Int) * r := by rw [IntKind.wrap_i64]; omega
      simp -implicitDefEqProofs -proj only [go_sem, Nat.reduceBEq, Nat.reduceLT, Nat.reduceLeDiff, Nat.reduceAdd, Nat.reduceMul, ↓reduceIte, Int.reduceToNat, Int.reducePow, Int.reduceLT, Int.reduceLE, Int.reduceAdd, Int.reduceSub, Int.reduceMul, Int.reduceEq, Int.reduceNe, ex_i, ex_c, ex_cap, decide_eq_true (show (k : Int) < c by omega)]
      refine LoopA_k (fun y : SX => y.i ≤ w) 108 (fun y => [(0, i64 w), (1, i64 r), (2, i64 c), (3, i64 v), (9, rowV 0 1 y.c y.cap (rowI (L.take (k * w + y.i)))), (10, i64 k), (11, i64 y.i)]) (fun y => rowH 3 1 y.c y.cap (rowI (L.take (k * w + y.i)))) (fun y => w - y.i) ⟨0, b0, cap0⟩ (Nat.zero_le _) rfl ?_ ?_ ?_
      · simp -implicitDefEqProofs -proj only [go_sem, Nat.reduceBEq, Nat.reduceLT, Nat.reduceLeDiff, Nat.reduceAdd, Nat.reduceMul, ↓reduceIte, Int.reduceToNat, Int.reducePow, Int.reduceLT, Int.reduceLE, Int.reduceAdd, Int.reduceSub, Int.reduceMul, Int.reduceEq, Int.reduceNe, AllAt, ex_i, ex_c, ex_cap]
      · exact hall0
      · rintro ⟨i, b1, cap1⟩ hi
        simp -implicitDefEqProofs only [ex_i] at hi
        have hnd := hknd ⟨i, b1, cap1⟩ (rowI (L.take (k * w + i)))
        have hall := keepH_all hnd
        simp -implicitDefEqProofs only [ex_c, ex_cap] at hall hnd
        by_cases hiw : i < w
        · obtain ⟨q1, q2⟩ := hkw k i hkc hiw
          have hx := hget (k * w + i) (by omega)
          rw [q2] at hx
          have htk : L.take (k * w + (i + 1)) = L.take (k * w + i) ++ [v + (k : Int) * r] := by
            rw [← Nat.add_assoc, List.take_succ_eq_append_getElem (by omega), hx]
          have hl1 : (rowI (L.take (k * w + i))).length = k * w + i := by rw [rowI_len, List.length_take]; omega
          have hl2 : (rowI (L.take (k * w + (i + 1)))).length = k * w + i + 1 := by rw [rowI_len, List.length_take]; omega
          have hne : rowI (L.take (k * w + (i + 1))) ≠ [] := by intro e; rw [e] at hl2; simp at hl2
          obtain ⟨H, hH⟩ : ∃ H, keepH (rowH 3 1 b1 cap1 (rowI (L.take (k * w + i)))) = H := ⟨_, rfl⟩
          rw [hH] at hall
          simp -implicitDefEqProofs -proj only [go_sem, Nat.reduceBEq, Nat.reduceLT, Nat.reduceLeDiff, Nat.reduceAdd, Nat.reduceMul, ↓reduceIte, Int.reduceToNat, Int.reducePow, Int.reduceLT, Int.reduceLE, Int.reduceAdd, Int.reduceSub, Int.reduceMul, Int.reduceEq, Int.reduceNe, ex_i, ex_c, ex_cap, hH, decide_eq_true (show (i : Int) < w by omega), w1, w2]
          refine AllocR_intro (fun bs hs' => ?_)
          replace hs' : H bs = none := hs'
          simp -implicitDefEqProofs -proj only [go_sem, Nat.reduceBEq, Nat.reduceLT, Nat.reduceLeDiff, Nat.reduceAdd, Nat.reduceMul, ↓reduceIte, Int.reduceToNat, Int.reducePow, Int.reduceLT, Int.reduceLE, Int.reduceAdd, Int.reduceSub, Int.reduceMul, Int.reduceEq, Int.reduceNe]
          refine AppendA_grow (xs := rowI (L.take (k * w + i))) (y := [.int .i64 (v + (k : Int) * r)]) (t := 3) (capc := 1) [] rfl (by rw [List.append_nil]; exact AllH_upd hs' hall) (by rw [List.append_nil]; exact hnd) (by simp -implicitDefEqProofs -proj only [go_sem, Nat.reduceBEq, Nat.reduceLT, Nat.reduceLeDiff, Nat.reduceAdd, Nat.reduceMul, ↓reduceIte, Int.reduceToNat, Int.reducePow, Int.reduceLT, Int.reduceLE, Int.reduceAdd, Int.reduceSub, Int.reduceMul, Int.reduceEq, Int.reduceNe]) (by rw [hl1]; omega) (by rw [hl1]; omega) (fun H' c'' cap' ha hk' => ?_)
          rw [List.append_nil, show rowI (L.take (k * w + i)) ++ [[.int .i64 (v + (k : Int) * r)]] = rowI (L.take (k * w + (i + 1))) by rw [htk]; simp [rowI]] at ha hk'
          simp -implicitDefEqProofs -proj only [go_sem, Nat.reduceBEq, Nat.reduceLT, Nat.reduceLeDiff, Nat.reduceAdd, Nat.reduceMul, ↓reduceIte, Int.reduceToNat, Int.reducePow, Int.reduceLT, Int.reduceLE, Int.reduceAdd, Int.reduceSub, Int.reduceMul, Int.reduceEq, Int.reduceNe]
          refine LoopQ_k ⟨i + 1, c'', cap'⟩ (by show i + 1 ≤ w; omega) (by show w - (i + 1) < w - i; omega) rfl ?_ ha
          simp -implicitDefEqProofs -proj only [go_sem, Nat.reduceBEq, Nat.reduceLT, Nat.reduceLeDiff, Nat.reduceAdd, Nat.reduceMul, ↓reduceIte, Int.reduceToNat, Int.reducePow, Int.reduceLT, Int.reduceLE, Int.reduceAdd, Int.reduceSub, Int.reduceMul, Int.reduceEq, Int.reduceNe, AllAt, ex_i, ex_c, ex_cap, i64_succ (show i < 9223372036854775807 by omega), rowV_ne hne, hl1, hl2]
        · have hi' : i = w := by omega
          subst hi'
          simp -implicitDefEqProofs -proj only [go_sem, Nat.reduceBEq, Nat.reduceLT, Nat.reduceLeDiff, Nat.reduceAdd, Nat.reduceMul, ↓reduceIte, Int.reduceToNat, Int.reducePow, Int.reduceLT, Int.reduceLE, Int.reduceAdd, Int.reduceSub, Int.reduceMul, Int.reduceEq, Int.reduceNe, ex_i, ex_c, ex_cap, decide_eq_false (show ¬ (i : Int) < i by omega)]
          refine LoopQ_k ⟨k + 1, b1, cap1⟩ (by show k + 1 ≤ c; omega) (by show c - (k + 1) < c - k; omega) rfl ?_ ?_
          · simp -implicitDefEqProofs -proj only [go_sem, Nat.reduceBEq, Nat.reduceLT, Nat.reduceLeDiff, Nat.reduceAdd, Nat.reduceMul, ↓reduceIte, Int.reduceToNat, Int.reducePow, Int.reduceLT, Int.reduceLE, Int.reduceAdd, Int.reduceSub, Int.reduceMul, Int.reduceEq, Int.reduceNe, AllAt, ex_i, ex_c, ex_cap, i64_succ (show k < 9223372036854775807 by omega), Nat.add_mul, Nat.one_mul]
          · simp -implicitDefEqProofs only [ex_i, ex_c, ex_cap, Nat.add_mul, Nat.one_mul]
            exact hall
    · have hk' : k = c := by omega
      subst hk'
      rw [List.take_of_length_le (by omega)] at hall0
      obtain ⟨H, hH⟩ : ∃ H, keepH (rowH 3 1 b0 cap0 (rowI L)) = H := ⟨_, rfl⟩
      rw [hH] at hall0
      have w3 : IntKind.i64.wrap ((w : Int) * k) = ((k * w : Nat) : Int) := by rw [Int.mul_comm]; rw [show ((k : Int)) * w = ((k * w : Nat) : Int) from rfl, IntKind.wrap_i64]; omega
      have w4 : IntKind.i64.wrap (((k * w : Nat) : Int) - 1) = ((k * w : Nat) : Int) - 1 := by rw [IntKind.wrap_i64]; omega
      simp -implicitDefEqProofs -proj only [go_sem, Nat.reduceBEq, Nat.reduceLT, Nat.reduceLeDiff, Nat.reduceAdd, Nat.reduceMul, ↓reduceIte, Int.reduceToNat, Int.reducePow, Int.reduceLT, Int.reduceLE, Int.reduceAdd, Int.reduceSub, Int.reduceMul, Int.reduceEq, Int.reduceNe, ex_i, ex_c, ex_cap, decide_eq_false (show ¬ (k : Int) < k by omega), List.take_of_length_le (show L.length ≤ k * w by omega), hH]
      refine CallA_new oa (lend_cons (.refl _) (lend_cons (rowV_lend hall0) lend_nil)) ?_
      simp -implicitDefEqProofs -proj only [go_sem, Nat.reduceBEq, Nat.reduceLT, Nat.reduceLeDiff, Nat.reduceAdd, Nat.reduceMul, ↓reduceIte, Int.reduceToNat, Int.reducePow, Int.reduceLT, Int.reduceLE, Int.reduceAdd, Int.reduceSub, Int.reduceMul, Int.reduceEq, Int.reduceNe]
      refine CallA_pure ca ?_
      simp -implicitDefEqProofs -proj only [go_sem, Nat.reduceBEq, Nat.reduceLT, Nat.reduceLeDiff, Nat.reduceAdd, Nat.reduceMul, ↓reduceIte, Int.reduceToNat, Int.reducePow, Int.reduceLT, Int.reduceLE, Int.reduceAdd, Int.reduceSub, Int.reduceMul, Int.reduceEq, Int.reduceNe]
      refine AllocA_intro (fun b12 hb12 => ?_)
      simp -implicitDefEqProofs -proj only [go_sem, Nat.reduceBEq, Nat.reduceLT, Nat.reduceLeDiff, Nat.reduceAdd, Nat.reduceMul, ↓reduceIte, Int.reduceToNat, Int.reducePow, Int.reduceLT, Int.reduceLE, Int.reduceAdd, Int.reduceSub, Int.reduceMul, Int.reduceEq, Int.reduceNe]
      refine AllocA_intro (fun b14 hb14 => ?_)
      replace hb14 : upd H b12 _ b14 = none := hb14
      obtain ⟨n1, n2⟩ := fresh_ne hb14 upd_eq
      by_cases hc1 : k = 1
      · rw [if_pos (.inl hc1)]
        simp -implicitDefEqProofs -proj only [go_sem, Nat.reduceBEq, Nat.reduceLT, Nat.reduceLeDiff, Nat.reduceAdd, Nat.reduceMul, ↓reduceIte, Int.reduceToNat, Int.reducePow, Int.reduceLT, Int.reduceLE, Int.reduceAdd, Int.reduceSub, Int.reduceMul, Int.reduceEq, Int.reduceNe, n1, n2, w3, w4, decide_eq_true (show (k : Int) = 1 by omega), rowG_len]
        refine ElemA_at [.int .i64 0, .int .i64 v, .int .i64 0, .int .i64 0, .int .i64 1] (by decide) rfl ?_
        simp -implicitDefEqProofs -proj only [go_sem, Nat.reduceBEq, Nat.reduceLT, Nat.reduceLeDiff, Nat.reduceAdd, Nat.reduceMul, ↓reduceIte, Int.reduceToNat, Int.reducePow, Int.reduceLT, Int.reduceLE, Int.reduceAdd, Int.reduceSub, Int.reduceMul, Int.reduceEq, Int.reduceNe, eq_self]
        exact LendV_eq rfl
      · by_cases hr0 : r = 0
        · rw [if_pos (.inr hr0)]
          simp -implicitDefEqProofs -proj only [go_sem, Nat.reduceBEq, Nat.reduceLT, Nat.reduceLeDiff, Nat.reduceAdd, Nat.reduceMul, ↓reduceIte, Int.reduceToNat, Int.reducePow, Int.reduceLT, Int.reduceLE, Int.reduceAdd, Int.reduceSub, Int.reduceMul, Int.reduceEq, Int.reduceNe, n1, n2, w3, w4, decide_eq_false (show ¬ (k : Int) = 1 by omega), decide_eq_true hr0, rowG_len]
          refine ElemA_at [.int .i64 0, .int .i64 v, .int .i64 0, .int .i64 0, .int .i64 1] (by decide) rfl ?_
          simp -implicitDefEqProofs -proj only [go_sem, Nat.reduceBEq, Nat.reduceLT, Nat.reduceLeDiff, Nat.reduceAdd, Nat.reduceMul, ↓reduceIte, Int.reduceToNat, Int.reducePow, Int.reduceLT, Int.reduceLE, Int.reduceAdd, Int.reduceSub, Int.reduceMul, Int.reduceEq, Int.reduceNe, eq_self]
          exact LendV_eq rfl
        · rw [if_neg (by omega)]
          simp -implicitDefEqProofs -proj only [go_sem, Nat.reduceBEq, Nat.reduceLT, Nat.reduceLeDiff, Nat.reduceAdd, Nat.reduceMul, ↓reduceIte, Int.reduceToNat, Int.reducePow, Int.reduceLT, Int.reduceLE, Int.reduceAdd, Int.reduceSub, Int.reduceMul, Int.reduceEq, Int.reduceNe, n1, n2, w3, w4, decide_eq_false (show ¬ (k : Int) = 1 by omega), decide_eq_false hr0, rowG_len]
          refine ElemA_at [.int .i64 0, .int .i64 v, .int .i64 w, .int .i64 r, .int .i64 k] (by decide) rfl ?_
          simp -implicitDefEqProofs -proj only [go_sem, Nat.reduceBEq, Nat.reduceLT, Nat.reduceLeDiff, Nat.reduceAdd, Nat.reduceMul, ↓reduceIte, Int.reduceToNat, Int.reducePow, Int.reduceLT, Int.reduceLE, Int.reduceAdd, Int.reduceSub, Int.reduceMul, Int.reduceEq, Int.reduceNe, eq_self]
          exact LendV_eq rfl
end Go.Proofs.Ytonlgniaoompaaa.Abs
