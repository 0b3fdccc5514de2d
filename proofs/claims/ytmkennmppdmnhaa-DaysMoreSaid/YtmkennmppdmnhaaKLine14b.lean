/- Contracts of the package line: equal lines, the value at a number. No claim stands here. -/
import Derived.Test.YtmkennmppdmnhaaKLine14
set_option linter.unusedSimpArgs false
set_option linter.unusedVariables false
namespace Go.Proofs.Ytmkennmppdmnhaa.Abs
open Go Go.RowKit Go.Proofs
attribute [local go_sem] RunC_seq AF_n AF_r AF_b St_n St_t St_H Fst_mk Snd_mk RunC_ops RunC_cond RunC_block RunC_loop RunC_exit RunC_ret RunC_skip RunO_nil RunO_code RunO_code_ret RunO_code_exit RunO_blk RunO_blk_ret RunO_blk_exit RunL_nil RunL_guard GuardA_tt GuardA_ff GuardA_tf GuardA_ft GuardA_void CondA_t CondA_f PickA_t PickA_f RunL_mov RunL_pick RunL_alloc RunL_box RunL_load LoadA_ptr LoadB_1 LoadB_n LoadA_dptr LoadA_dptr_n RunL_store StoreA_ptr StoreB_box RunL_bin Bin_add Bin_sub Bin_mul Bin_quo Bin_rem Bin_shl Bin_shr Bin_andI Bin_orI Bin_xorI Bin_eql Bin_neq Bin_lss Bin_leq Bin_gtr Bin_geq RunL_binb Bin_beql Bin_bneq RunL_un UnA_not UnA_neg RunL_conv convV MapA_some RunL_nilCheck nilV RunL_mkfn RunL_fieldAddr faV RunL_field FieldA_1 FieldA_n RunL_elemAddr EAddrA_sl EAddrA_own EptrA_eq RunL_build BuildA_some RunL_extract ExtA_eq RunL_len lenV_sl lenV_nilsl lenV_own RunL_slen RunL_idxStr IdxSA_eq slenV RunL_minmax mmV minmaxL RunL_call RunL_callv CallvA_fn putS ev evL evO evP eqK eqKs EqB_agg RunL_eqAgg EqA_t EqA_f evQ buildC fits_agg cellsAV_agg fits_d cellsAV_d fits_nilp cellsAV_nilp fits_nilsl cellsAV_nilsl fits_nilfn cellsAV_nilfn fits_ptr cellsAV_ptr fits_eptr cellsAV_eptr fits_dptr cellsAV_dptr fits_own cellsAV_own fits_fn cellsAV_fn rowV_fits rowV_cells rowV_len lenAV setSeg nth seg mapD repeatL putT_get upd_get argT keepT_cons keepT_nil keepH_cons keepH_nil cond_true cond_false VC_true finW resW resL resOne LoopQ_exit LoopQ_ret List.cons_append List.nil_append Bool.not_true Bool.not_false Bool.and_true Bool.and_self Nat.lt_add_left_iff_pos Nat.zero_add Nat.add_zero List.drop_succ_cons List.drop_zero List.take_succ_cons List.take_zero beq_self_eq_true Bool.false_eq_true RunC_dops RunL_loadS RunL_loadD LoadDA_dptr RunL_storeS StoreSA_ptr RunL_pcall RunL_pcallv PCallvA_fn newsOk and_self and_true true_and loadW_ptr LoadK_1 LoadK_n upd_upd RunL_buildSlice BSliceA_some RunL_buildSliceD frzL frz cutL LoadA_eptr LoadE_row RunL_append RunL_slice SliceA_sl StoreA_eptr List.length_cons List.length_nil Nat.min_def Int.cast_ofNat_Int Int.natCast_zero Int.natCast_one decide_true decide_false List.getElem?_cons_zero List.getElem?_cons_succ RunC_rangef CallvA_yld putL_nil putL_cons RangeQ_exit RangeQ_ret
abbrev slR (l : List Run) : AV := .d (.sl 3 (rowR l))
theorem rowR_at {l : List Run} {i : Nat} (h : i < l.length) : (rowR l)[((i : Int)).toNat]? = some [.int .i64 l[i].f, .int .i64 l[i].t, .int .i64 l[i].v] := by
  rw [Int.toNat_natCast]; exact rowR_nth h
theorem run_dec (p q : Run) : (decide (p.f = q.f) && (decide (p.t = q.t) && decide (p.v = q.v))) = decide (p = q) := by
  obtain ⟨a, b, c⟩ := p
  obtain ⟨a', b', c'⟩ := q
  simp -implicitDefEqProofs only [Run.mk.injEq]
  rw [← Bool.decide_and, ← Bool.decide_and]
theorem isNaN_ok (a : Int) : DataW Try.prog f_cmp_isNaN_int [i64 a] (bv false) := by
  refine CallW_intro comp_cmp_isNaN_int (by simp) ?_
  simp -implicitDefEqProofs -proj only [go_sem, Nat.reduceBEq, Nat.reduceLT, Nat.reduceLeDiff, Nat.reduceAdd, Nat.reduceMul, ↓reduceIte, Int.reduceToNat, Int.reducePow, Int.reduceLT, Int.reduceLE, Int.reduceAdd, Int.reduceSub, Int.reduceMul, Int.reduceEq, Int.reduceNe, eq_self]
  exact LendV_eq rfl
def cmpI (a b : Int) : Int := if a < b then -1 else if b < a then 1 else 0
theorem Compare_ok (a b : Int) : DataW Try.prog f_cmp_Compare_int [i64 a, i64 b] (i64 (cmpI a b)) := by
  refine CallW_intro comp_cmp_Compare_int (by simp) ?_
  simp -implicitDefEqProofs -proj only [go_sem, Nat.reduceBEq, Nat.reduceLT, Nat.reduceLeDiff, Nat.reduceAdd, Nat.reduceMul, ↓reduceIte, Int.reduceToNat, Int.reducePow, Int.reduceLT, Int.reduceLE, Int.reduceAdd, Int.reduceSub, Int.reduceMul, Int.reduceEq, Int.reduceNe]
  refine CallA_pure (isNaN_ok a) ?_
  simp -implicitDefEqProofs -proj only [go_sem, Nat.reduceBEq, Nat.reduceLT, Nat.reduceLeDiff, Nat.reduceAdd, Nat.reduceMul, ↓reduceIte, Int.reduceToNat, Int.reducePow, Int.reduceLT, Int.reduceLE, Int.reduceAdd, Int.reduceSub, Int.reduceMul, Int.reduceEq, Int.reduceNe]
  refine CallA_pure (isNaN_ok b) ?_
  unfold cmpI
  by_cases h1 : a < b
  · rw [if_pos h1]
    simp -implicitDefEqProofs -proj only [go_sem, Nat.reduceBEq, Nat.reduceLT, Nat.reduceLeDiff, Nat.reduceAdd, Nat.reduceMul, ↓reduceIte, Int.reduceToNat, Int.reducePow, Int.reduceLT, Int.reduceLE, Int.reduceAdd, Int.reduceSub, Int.reduceMul, Int.reduceEq, Int.reduceNe, decide_eq_true h1]
    exact LendV_eq rfl
  · rw [if_neg h1]
    by_cases h2 : b < a
    · rw [if_pos h2]
      simp -implicitDefEqProofs -proj only [go_sem, Nat.reduceBEq, Nat.reduceLT, Nat.reduceLeDiff, Nat.reduceAdd, Nat.reduceMul, ↓reduceIte, Int.reduceToNat, Int.reducePow, Int.reduceLT, Int.reduceLE, Int.reduceAdd, Int.reduceSub, Int.reduceMul, Int.reduceEq, Int.reduceNe, decide_eq_false h1, decide_eq_true h2]
      exact LendV_eq rfl
    · rw [if_neg h2]
      simp -implicitDefEqProofs -proj only [go_sem, Nat.reduceBEq, Nat.reduceLT, Nat.reduceLeDiff, Nat.reduceAdd, Nat.reduceMul, ↓reduceIte, Int.reduceToNat, Int.reducePow, Int.reduceLT, Int.reduceLE, Int.reduceAdd, Int.reduceSub, Int.reduceMul, Int.reduceEq, Int.reduceNe, decide_eq_false h1, decide_eq_false h2]
      exact LendV_eq rfl
/-- Where the first run stands that ends at a number, or behind it. -/
def idxR (l : List Run) (x : Int) : Nat := (l.takeWhile fun r => decide (r.t < x)).length
theorem idxR_eq {l : List Run} {x : Int} {i : Nat} (hi : i ≤ l.length) (h1 : ∀ (j : Nat) (h : j < l.length), j < i → l[j].t < x) (h2 : ∀ (h : i < l.length), x ≤ l[i].t) : idxR l x = i := by
  unfold idxR
  induction l generalizing i with
  | nil => simp at hi; simp [hi]
  | cons r l ih =>
    cases i with
    | zero =>
      have := h2 (by simp)
      simp -implicitDefEqProofs only [List.getElem_cons_zero] at this
      rw [List.takeWhile_cons_of_neg (by simp; omega)]
      rfl
    | succ i =>
      have := h1 0 (by simp) (by omega)
      simp -implicitDefEqProofs only [List.getElem_cons_zero] at this
      rw [List.takeWhile_cons_of_pos (by simpa using this), List.length_cons]
      rw [ih (by simpa using hi) (fun j h hj => h1 (j + 1) (by simpa using h) (by omega)) (fun h => h2 (by simpa using h))]
def SortedT (l : List Run) : Prop := ∀ (j k : Nat) (h1 : j < l.length) (h2 : k < l.length), j ≤ k → l[j].t ≤ l[k].t
structure BsX where
  i : Nat
  j : Nat
theorem bsx_i {i j : Nat} : (BsX.mk i j).i = i := (rfl)
theorem bsx_j {i j : Nat} : (BsX.mk i j).j = j := (rfl)
theorem cmpI_lt {a b : Int} : cmpI a b < 0 ↔ a < b := by unfold cmpI; split <;> (try split) <;> omega
theorem cmpI_eq {a b : Int} : cmpI a b = 0 ↔ a = b := by unfold cmpI; split <;> (try split) <;> omega
theorem half {i j : Nat} (h : i + j ≤ 4000000) : IntKind.i64.wrap ((IntKind.u64.wrap (IntKind.i64.wrap ((i : Int) + j))).fdiv 2) = (((i + j) / 2 : Nat) : Int) := by
  rw [IntKind.wrap_i64 ((i : Int) + j), IntKind.wrap_u64, Int.fdiv_eq_ediv_of_nonneg _ (by omega), IntKind.wrap_i64]; omega
/-- The value at a number. -/
def atF (l : List Run) (x : Int) : Option Int := match l[idxR l x]? with
  | some r => if r.f ≤ x then some r.v else none
  | none => none
end Go.Proofs.Ytmkennmppdmnhaa.Abs
