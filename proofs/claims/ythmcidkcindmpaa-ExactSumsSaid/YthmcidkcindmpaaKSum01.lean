/- Contracts of sums, the least and the greatest of rows. No claim stands here. -/
import Derived.Test.YthmcidkcindmpaaKMul01
import Derived.Test.YthmcidkcindmpaaAbsT
set_option linter.unusedSimpArgs false
set_option linter.unusedVariables false
namespace Go.Proofs.Ythmcidkcindmpaa.Abs
open Go Go.RowKit Go.Proofs
attribute [local go_sem] RunC_seq AF_n AF_r AF_b St_n St_t St_H Fst_mk Snd_mk RunC_ops RunC_cond RunC_block RunC_loop RunC_exit RunC_ret RunC_skip RunO_nil RunO_code RunO_code_ret RunO_code_exit RunO_blk RunO_blk_ret RunO_blk_exit RunL_nil RunL_guard GuardA_tt GuardA_ff GuardA_tf GuardA_ft GuardA_void CondA_t CondA_f PickA_t PickA_f RunL_mov RunL_pick RunL_alloc RunL_box RunL_load LoadA_ptr LoadB_1 LoadB_n LoadA_dptr LoadA_dptr_n RunL_store StoreA_ptr StoreB_box RunL_bin Bin_add Bin_sub Bin_mul Bin_quo Bin_rem Bin_shl Bin_shr Bin_and Bin_or Bin_xor Bin_eql Bin_neq Bin_lss Bin_leq Bin_gtr Bin_geq RunL_binb Bin_beql Bin_bneq RunL_un UnA_not UnA_neg RunL_conv convV MapA_some RunL_nilCheck nilV RunL_mkfn RunL_fieldAddr faV RunL_field FieldA_1 FieldA_n RunL_elemAddr EAddrA_sl EAddrA_own EptrA_eq RunL_build BuildA_some RunL_extract ExtA_eq RunL_len lenV RunL_slen slenV RunL_minmax mmV minmaxL RunL_call RunL_callv CallvA_fn putS ev evL evO evP evQ buildC fits okCell cellsAV lenAV setSeg nth seg mapD repeatL putT_get upd_get argT keepT_cons keepT_nil keepH_cons keepH_nil cond_true cond_false VC_true finW resW resL resOne LoopQ_exit LoopQ_ret List.cons_append List.nil_append Bool.not_true Bool.not_false Bool.and_true Bool.and_self Nat.lt_add_left_iff_pos Nat.zero_add Nat.add_zero List.drop_succ_cons List.drop_zero List.take_succ_cons List.take_zero beq_self_eq_true RunC_dops RunL_loadS RunL_storeS StoreSA_ptr RunL_pcall RunL_pcallv PCallvA_fn newsOk and_self and_true true_and loadW_ptr LoadK_1 LoadK_n upd_upd RunL_buildSlice BSliceA_some RunL_buildSliceD frzL frz cutL LoadA_eptr LoadE_row RunL_append RunL_slice SliceA_sl StoreA_eptr List.length_cons List.length_nil Nat.min_def Int.cast_ofNat_Int Int.natCast_zero Int.natCast_one decide_true decide_false List.getElem?_cons_zero List.getElem?_cons_succ
def sumF (n : Int) : List Int → Option Int
  | [] => some n
  | x :: l => if Fit (n + x) then sumF (n + x) l else none
def optR : Option Int → AV
  | some n => .tup [i64 n, bv true]
  | none => .tup [i64 0, bv false]
theorem Sum_ok {l : List Int} (hl : AllFit l) (hn : l.length ≤ 4611686018427387904) : DataW Try.prog f_exact_Sum [slI l] (optR (sumF 0 l)) := by
  refine CallW_intro comp_exact_Sum (by simp) ?_
  simp -implicitDefEqProofs -proj only [go_sem, Nat.reduceBEq, Nat.reduceLT, Nat.reduceLeDiff, Nat.reduceAdd, Nat.reduceMul, ↓reduceIte, Int.reduceToNat, Int.reducePow, Int.reduceLT, Int.reduceLE, Int.reduceAdd, Int.reduceSub, Int.reduceMul, Int.reduceEq, Int.reduceNe, rowI_len]
  refine LoopA_k (fun p : Nat × Int => p.1 ≤ l.length ∧ Fit p.2 ∧ sumF p.2 (l.drop p.1) = sumF 0 l) 24 (fun p => [(8, slI l), (9, i64 l.length), (10, i64 p.1), (4, i64 p.2), (5, bv true)]) (fun _ => []) (fun p => l.length - p.1) (0, 0) ⟨by omega, by decide, by rw [List.drop_zero]⟩ rfl ?_ ?_ ?_
  · simp -implicitDefEqProofs -proj only [go_sem, Nat.reduceBEq, Nat.reduceLT, Nat.reduceLeDiff, Nat.reduceAdd, Nat.reduceMul, ↓reduceIte, Int.reduceToNat, Int.reducePow, Int.reduceLT, Int.reduceLE, Int.reduceAdd, Int.reduceSub, Int.reduceMul, Int.reduceEq, Int.reduceNe, AllAt]
  · trivial
  · rintro ⟨i, n⟩ ⟨hi, hf, hs⟩
    rw [Fst_mk] at hi; rw [Snd_mk] at hf; rw [Fst_mk, Snd_mk] at hs
    by_cases h : i < l.length
    · have hx := hl i h
      have hc := rowI_nth h
      rw [List.drop_eq_getElem_cons h] at hs
      generalize l[i] = x at *
      simp -implicitDefEqProofs -proj only [go_sem, Nat.reduceBEq, Nat.reduceLT, Nat.reduceLeDiff, Nat.reduceAdd, Nat.reduceMul, ↓reduceIte, Int.reduceToNat, Int.reducePow, Int.reduceLT, Int.reduceLE, Int.reduceAdd, Int.reduceSub, Int.reduceMul, Int.reduceEq, Int.reduceNe, decide_eq_true (show (i : Int) < l.length by omega)]
      refine ElemA_at _ (by omega) hc ?_
      simp -implicitDefEqProofs -proj only [go_sem, Nat.reduceBEq, Nat.reduceLT, Nat.reduceLeDiff, Nat.reduceAdd, Nat.reduceMul, ↓reduceIte, Int.reduceToNat, Int.reducePow, Int.reduceLT, Int.reduceLE, Int.reduceAdd, Int.reduceSub, Int.reduceMul, Int.reduceEq, Int.reduceNe, hc]
      refine CallA_pure (Add_ok hf hx) ?_
      rw [sumF] at hs
      by_cases hf2 : Fit (n + x)
      · rw [if_pos hf2] at hs; rw [fitR_yes hf2]
        simp -implicitDefEqProofs -proj only [go_sem, Nat.reduceBEq, Nat.reduceLT, Nat.reduceLeDiff, Nat.reduceAdd, Nat.reduceMul, ↓reduceIte, Int.reduceToNat, Int.reducePow, Int.reduceLT, Int.reduceLE, Int.reduceAdd, Int.reduceSub, Int.reduceMul, Int.reduceEq, Int.reduceNe]
        refine LoopQ_k (i + 1, n + x) ⟨by rw [Fst_mk]; omega, hf2, by rw [Fst_mk, Snd_mk]; exact hs⟩ (by rw [Fst_mk, Fst_mk]; omega) rfl ?_ trivial
        simp -implicitDefEqProofs -proj only [go_sem, Nat.reduceBEq, Nat.reduceLT, Nat.reduceLeDiff, Nat.reduceAdd, Nat.reduceMul, ↓reduceIte, Int.reduceToNat, Int.reducePow, Int.reduceLT, Int.reduceLE, Int.reduceAdd, Int.reduceSub, Int.reduceMul, Int.reduceEq, Int.reduceNe, AllAt, i64_succ (show i < 9223372036854775807 by omega)]
      · rw [if_neg hf2] at hs; rw [fitR_no hf2]
        simp -implicitDefEqProofs -proj only [go_sem, Nat.reduceBEq, Nat.reduceLT, Nat.reduceLeDiff, Nat.reduceAdd, Nat.reduceMul, ↓reduceIte, Int.reduceToNat, Int.reducePow, Int.reduceLT, Int.reduceLE, Int.reduceAdd, Int.reduceSub, Int.reduceMul, Int.reduceEq, Int.reduceNe, ← hs, optR]
        exact LendV_eq rfl
    · have hi' : i = l.length := by omega
      subst hi'
      rw [List.drop_length] at hs
      simp -implicitDefEqProofs -proj only [go_sem, Nat.reduceBEq, Nat.reduceLT, Nat.reduceLeDiff, Nat.reduceAdd, Nat.reduceMul, ↓reduceIte, Int.reduceToNat, Int.reducePow, Int.reduceLT, Int.reduceLE, Int.reduceAdd, Int.reduceSub, Int.reduceMul, Int.reduceEq, Int.reduceNe, decide_eq_false (show ¬ (l.length : Int) < l.length by omega)]
      rw [← hs, sumF, optR]
      exact LendV_eq rfl
theorem RSum_ok {l : List Int} (hl : AllFit l) (hn : l.length ≤ 4611686018427387904) : DataW Try.prog f_poundageref01_Sum [slI l] (optR (sumF 0 l)) := by
  refine CallW_intro comp_poundageref01_Sum (by simp) ?_
  simp -implicitDefEqProofs -proj only [go_sem, Nat.reduceBEq, Nat.reduceLT, Nat.reduceLeDiff, Nat.reduceAdd, Nat.reduceMul, ↓reduceIte, Int.reduceToNat, Int.reducePow, Int.reduceLT, Int.reduceLE, Int.reduceAdd, Int.reduceSub, Int.reduceMul, Int.reduceEq, Int.reduceNe, rowI_len]
  refine LoopA_k (fun p : Nat × Int => p.1 ≤ l.length ∧ Fit p.2 ∧ sumF p.2 (l.drop p.1) = sumF 0 l) 29 (fun p => [(9, slI l), (10, i64 l.length), (11, i64 p.1), (4, i64 p.2)]) (fun _ => []) (fun p => l.length - p.1) (0, 0) ⟨by omega, by decide, by rw [List.drop_zero]⟩ rfl ?_ ?_ ?_
  · simp -implicitDefEqProofs -proj only [go_sem, Nat.reduceBEq, Nat.reduceLT, Nat.reduceLeDiff, Nat.reduceAdd, Nat.reduceMul, ↓reduceIte, Int.reduceToNat, Int.reducePow, Int.reduceLT, Int.reduceLE, Int.reduceAdd, Int.reduceSub, Int.reduceMul, Int.reduceEq, Int.reduceNe, AllAt]
  · trivial
  · rintro ⟨i, n⟩ ⟨hi, hf, hs⟩
    rw [Fst_mk] at hi; rw [Snd_mk] at hf; rw [Fst_mk, Snd_mk] at hs
    by_cases h : i < l.length
    · have hx := hl i h
      have hc := rowI_nth h
      rw [List.drop_eq_getElem_cons h] at hs
      generalize l[i] = x at *
      simp -implicitDefEqProofs -proj only [go_sem, Nat.reduceBEq, Nat.reduceLT, Nat.reduceLeDiff, Nat.reduceAdd, Nat.reduceMul, ↓reduceIte, Int.reduceToNat, Int.reducePow, Int.reduceLT, Int.reduceLE, Int.reduceAdd, Int.reduceSub, Int.reduceMul, Int.reduceEq, Int.reduceNe, decide_eq_true (show (i : Int) < l.length by omega)]
      refine ElemA_at _ (by omega) hc ?_
      simp -implicitDefEqProofs -proj only [go_sem, Nat.reduceBEq, Nat.reduceLT, Nat.reduceLeDiff, Nat.reduceAdd, Nat.reduceMul, ↓reduceIte, Int.reduceToNat, Int.reducePow, Int.reduceLT, Int.reduceLE, Int.reduceAdd, Int.reduceSub, Int.reduceMul, Int.reduceEq, Int.reduceNe, hc]
      refine CallA_pure (ROf_ok hf) ?_
      simp -implicitDefEqProofs -proj only [go_sem, Nat.reduceBEq, Nat.reduceLT, Nat.reduceLeDiff, Nat.reduceAdd, Nat.reduceMul, ↓reduceIte, Int.reduceToNat, Int.reducePow, Int.reduceLT, Int.reduceLE, Int.reduceAdd, Int.reduceSub, Int.reduceMul, Int.reduceEq, Int.reduceNe]
      refine CallA_pure (ROf_ok hx) ?_
      simp -implicitDefEqProofs -proj only [go_sem, Nat.reduceBEq, Nat.reduceLT, Nat.reduceLeDiff, Nat.reduceAdd, Nat.reduceMul, ↓reduceIte, Int.reduceToNat, Int.reducePow, Int.reduceLT, Int.reduceLE, Int.reduceAdd, Int.reduceSub, Int.reduceMul, Int.reduceEq, Int.reduceNe]
      refine CallA_pure (RAdd_ok (by unfold Fit at hf; omega) (by unfold Fit at hx; omega)) ?_
      simp -implicitDefEqProofs -proj only [go_sem, Nat.reduceBEq, Nat.reduceLT, Nat.reduceLeDiff, Nat.reduceAdd, Nat.reduceMul, ↓reduceIte, Int.reduceToNat, Int.reducePow, Int.reduceLT, Int.reduceLE, Int.reduceAdd, Int.reduceSub, Int.reduceMul, Int.reduceEq, Int.reduceNe]
      refine CallA_pure (RInt_ok (by unfold Big; unfold Fit at hf hx; omega)) ?_
      rw [sumF] at hs
      by_cases hf2 : Fit (n + x)
      · rw [if_pos hf2] at hs; rw [fitR_yes hf2]
        simp -implicitDefEqProofs -proj only [go_sem, Nat.reduceBEq, Nat.reduceLT, Nat.reduceLeDiff, Nat.reduceAdd, Nat.reduceMul, ↓reduceIte, Int.reduceToNat, Int.reducePow, Int.reduceLT, Int.reduceLE, Int.reduceAdd, Int.reduceSub, Int.reduceMul, Int.reduceEq, Int.reduceNe]
        refine LoopQ_k (i + 1, n + x) ⟨by rw [Fst_mk]; omega, hf2, by rw [Fst_mk, Snd_mk]; exact hs⟩ (by rw [Fst_mk, Fst_mk]; omega) rfl ?_ trivial
        simp -implicitDefEqProofs -proj only [go_sem, Nat.reduceBEq, Nat.reduceLT, Nat.reduceLeDiff, Nat.reduceAdd, Nat.reduceMul, ↓reduceIte, Int.reduceToNat, Int.reducePow, Int.reduceLT, Int.reduceLE, Int.reduceAdd, Int.reduceSub, Int.reduceMul, Int.reduceEq, Int.reduceNe, AllAt, i64_succ (show i < 9223372036854775807 by omega)]
      · rw [if_neg hf2] at hs; rw [fitR_no hf2]
        simp -implicitDefEqProofs -proj only [go_sem, Nat.reduceBEq, Nat.reduceLT, Nat.reduceLeDiff, Nat.reduceAdd, Nat.reduceMul, ↓reduceIte, Int.reduceToNat, Int.reducePow, Int.reduceLT, Int.reduceLE, Int.reduceAdd, Int.reduceSub, Int.reduceMul, Int.reduceEq, Int.reduceNe, ← hs, optR]
        exact LendV_eq rfl
    · have hi' : i = l.length := by omega
      subst hi'
      rw [List.drop_length] at hs
      simp -implicitDefEqProofs -proj only [go_sem, Nat.reduceBEq, Nat.reduceLT, Nat.reduceLeDiff, Nat.reduceAdd, Nat.reduceMul, ↓reduceIte, Int.reduceToNat, Int.reducePow, Int.reduceLT, Int.reduceLE, Int.reduceAdd, Int.reduceSub, Int.reduceMul, Int.reduceEq, Int.reduceNe, decide_eq_false (show ¬ (l.length : Int) < l.length by omega)]
      rw [← hs, sumF, optR]
      exact LendV_eq rfl
/-- The one that is better than all others. -/
def pickL (lt : Int → Int → Bool) (b : Int) : List Int → Int
  | [] => b
  | x :: l => pickL lt (if lt x b = true then x else b) l
def pickF (lt : Int → Int → Bool) : List Int → Option Int
  | [] => none
  | x :: l => some (pickL lt x (x :: l))
theorem pick_ok {f : FuncId} {lt : Int → Int → Bool} (hlt : ∀ a b : Int, DataW Try.prog f [i64 a, i64 b] (bv (lt a b))) {l : List Int} (hn : l.length ≤ 4611686018427387904) : DataW Try.prog f_exact_pick [slI l, .fn f []] (optR (pickF lt l)) := by
  refine CallW_intro comp_exact_pick (by simp) ?_
  simp -implicitDefEqProofs -proj only [go_sem, Nat.reduceBEq, Nat.reduceLT, Nat.reduceLeDiff, Nat.reduceAdd, Nat.reduceMul, ↓reduceIte, Int.reduceToNat, Int.reducePow, Int.reduceLT, Int.reduceLE, Int.reduceAdd, Int.reduceSub, Int.reduceMul, Int.reduceEq, Int.reduceNe, rowI_len]
  cases l with
  | nil =>
    simp -implicitDefEqProofs -proj only [go_sem, Nat.reduceBEq, Nat.reduceLT, Nat.reduceLeDiff, Nat.reduceAdd, Nat.reduceMul, ↓reduceIte, Int.reduceToNat, Int.reducePow, Int.reduceLT, Int.reduceLE, Int.reduceAdd, Int.reduceSub, Int.reduceMul, Int.reduceEq, Int.reduceNe, show (([] : List Int).length : Int) = 0 from rfl]
    (repeat' first
    | (with_reducible refine Guard_split (fun h => ?_) (fun h => ?_) <;> (simp -implicitDefEqProofs -proj only [go_sem, Nat.reduceBEq, Nat.reduceLT, Nat.reduceLeDiff, Nat.reduceAdd, Nat.reduceMul, ↓reduceIte, Int.reduceToNat, Int.reducePow, Int.reduceLT, Int.reduceLE, Int.reduceAdd, Int.reduceSub, Int.reduceMul, Int.reduceEq, Int.reduceNe, *]; try (revert h; intro _)))
    | (with_reducible refine Cond_split (fun h => ?_) (fun h => ?_) <;> (simp -implicitDefEqProofs -proj only [go_sem, Nat.reduceBEq, Nat.reduceLT, Nat.reduceLeDiff, Nat.reduceAdd, Nat.reduceMul, ↓reduceIte, Int.reduceToNat, Int.reducePow, Int.reduceLT, Int.reduceLE, Int.reduceAdd, Int.reduceSub, Int.reduceMul, Int.reduceEq, Int.reduceNe, *]; try (revert h; intro _)))
    | (with_reducible refine Pick_split (fun h => ?_) (fun h => ?_) <;> (simp -implicitDefEqProofs -proj only [go_sem, Nat.reduceBEq, Nat.reduceLT, Nat.reduceLeDiff, Nat.reduceAdd, Nat.reduceMul, ↓reduceIte, Int.reduceToNat, Int.reducePow, Int.reduceLT, Int.reduceLE, Int.reduceAdd, Int.reduceSub, Int.reduceMul, Int.reduceEq, Int.reduceNe, *]; try (revert h; intro _)))
    | (with_reducible refine AllocA_intro (fun _ hb => ?_); simp only [upd_none, keepH_none, keepH_nil, Heap.none_get, and_true, true_and] at hb; simp -implicitDefEqProofs -proj only [go_sem, Nat.reduceBEq, Nat.reduceLT, Nat.reduceLeDiff, Nat.reduceAdd, Nat.reduceMul, ↓reduceIte, Int.reduceToNat, Int.reducePow, Int.reduceLT, Int.reduceLE, Int.reduceAdd, Int.reduceSub, Int.reduceMul, Int.reduceEq, Int.reduceNe, *]; try (revert hb; intro _))
    | (with_reducible refine AllocR_intro (fun _ hb => ?_); simp only [upd_none, keepH_none, keepH_nil, Heap.none_get, and_true, true_and] at hb; simp -implicitDefEqProofs -proj only [go_sem, Nat.reduceBEq, Nat.reduceLT, Nat.reduceLeDiff, Nat.reduceAdd, Nat.reduceMul, ↓reduceIte, Int.reduceToNat, Int.reducePow, Int.reduceLT, Int.reduceLE, Int.reduceAdd, Int.reduceSub, Int.reduceMul, Int.reduceEq, Int.reduceNe, *]; try (revert hb; intro _))
    | (with_reducible refine IdxE_1 _ rfl (by simp) ?_; simp -implicitDefEqProofs -proj only [go_sem, Nat.reduceBEq, Nat.reduceLT, Nat.reduceLeDiff, Nat.reduceAdd, Nat.reduceMul, ↓reduceIte, Int.reduceToNat, Int.reducePow, Int.reduceLT, Int.reduceLE, Int.reduceAdd, Int.reduceSub, Int.reduceMul, Int.reduceEq, Int.reduceNe, *])
    | (with_reducible refine IdxE_n _ rfl (by simp) ?_; simp -implicitDefEqProofs -proj only [go_sem, Nat.reduceBEq, Nat.reduceLT, Nat.reduceLeDiff, Nat.reduceAdd, Nat.reduceMul, ↓reduceIte, Int.reduceToNat, Int.reducePow, Int.reduceLT, Int.reduceLE, Int.reduceAdd, Int.reduceSub, Int.reduceMul, Int.reduceEq, Int.reduceNe, *])
    | (with_reducible refine VC_intro ?_ (fun h => ?_); (focus first | decide | omega); try clear h; try simp -implicitDefEqProofs -proj only [go_sem, Nat.reduceBEq, Nat.reduceLT, Nat.reduceLeDiff, Nat.reduceAdd, Nat.reduceMul, ↓reduceIte, Int.reduceToNat, Int.reducePow, Int.reduceLT, Int.reduceLE, Int.reduceAdd, Int.reduceSub, Int.reduceMul, Int.reduceEq, Int.reduceNe, *])
    | (with_reducible refine VC_intro ?_ (fun h => ?_); rotate_left; try clear h; try simp -implicitDefEqProofs -proj only [go_sem, Nat.reduceBEq, Nat.reduceLT, Nat.reduceLeDiff, Nat.reduceAdd, Nat.reduceMul, ↓reduceIte, Int.reduceToNat, Int.reducePow, Int.reduceLT, Int.reduceLE, Int.reduceAdd, Int.reduceSub, Int.reduceMul, Int.reduceEq, Int.reduceNe, *]; rotate_right))
    all_goals exact LendV_eq rfl
  | cons y l0 =>
    have e2 : (rowI (y :: l0))[((0 : Int)).toNat]? = some [.int .i64 y] := rfl
    have hp : 0 < (y :: l0).length := by simp
    have e1 : pickF lt (y :: l0) = some (pickL lt y (y :: l0)) := rfl
    rw [e1]
    clear e1
    generalize y :: l0 = l at *
    simp -implicitDefEqProofs -proj only [go_sem, Nat.reduceBEq, Nat.reduceLT, Nat.reduceLeDiff, Nat.reduceAdd, Nat.reduceMul, ↓reduceIte, Int.reduceToNat, Int.reducePow, Int.reduceLT, Int.reduceLE, Int.reduceAdd, Int.reduceSub, Int.reduceMul, Int.reduceEq, Int.reduceNe, decide_eq_false (show ¬ (l.length : Int) = 0 by omega), rowI_len]
    refine ElemA_at _ (by omega) e2 ?_
    simp -implicitDefEqProofs -proj only [go_sem, Nat.reduceBEq, Nat.reduceLT, Nat.reduceLeDiff, Nat.reduceAdd, Nat.reduceMul, ↓reduceIte, Int.reduceToNat, Int.reducePow, Int.reduceLT, Int.reduceLE, Int.reduceAdd, Int.reduceSub, Int.reduceMul, Int.reduceEq, Int.reduceNe, rowI_len]
    refine LoopA_k (fun p : Nat × Int => p.1 ≤ l.length ∧ pickL lt p.2 (l.drop p.1) = pickL lt y l) 28 (fun p => [(15, slI l), (16, i64 l.length), (17, i64 p.1), (6, i64 p.2), (1, .fn f [])]) (fun _ => []) (fun p => l.length - p.1) (0, y) ⟨by omega, by rw [List.drop_zero]⟩ rfl ?_ ?_ ?_
    · simp -implicitDefEqProofs -proj only [go_sem, Nat.reduceBEq, Nat.reduceLT, Nat.reduceLeDiff, Nat.reduceAdd, Nat.reduceMul, ↓reduceIte, Int.reduceToNat, Int.reducePow, Int.reduceLT, Int.reduceLE, Int.reduceAdd, Int.reduceSub, Int.reduceMul, Int.reduceEq, Int.reduceNe, AllAt]
    · trivial
    · rintro ⟨i, n⟩ ⟨hi, hs⟩
      rw [Fst_mk] at hi; rw [Fst_mk, Snd_mk] at hs
      by_cases h : i < l.length
      · have hc := rowI_nth h
        rw [List.drop_eq_getElem_cons h] at hs
        generalize l[i] = x at *
        simp -implicitDefEqProofs -proj only [go_sem, Nat.reduceBEq, Nat.reduceLT, Nat.reduceLeDiff, Nat.reduceAdd, Nat.reduceMul, ↓reduceIte, Int.reduceToNat, Int.reducePow, Int.reduceLT, Int.reduceLE, Int.reduceAdd, Int.reduceSub, Int.reduceMul, Int.reduceEq, Int.reduceNe, decide_eq_true (show (i : Int) < l.length by omega)]
        refine ElemA_at _ (by omega) hc ?_
        simp -implicitDefEqProofs -proj only [go_sem, Nat.reduceBEq, Nat.reduceLT, Nat.reduceLeDiff, Nat.reduceAdd, Nat.reduceMul, ↓reduceIte, Int.reduceToNat, Int.reducePow, Int.reduceLT, Int.reduceLE, Int.reduceAdd, Int.reduceSub, Int.reduceMul, Int.reduceEq, Int.reduceNe, hc]
        refine CallA_pure (hlt x n) ?_
        rw [pickL] at hs
        cases hb : lt x n with
        | true =>
          rw [hb, if_pos rfl] at hs
          simp -implicitDefEqProofs -proj only [go_sem, Nat.reduceBEq, Nat.reduceLT, Nat.reduceLeDiff, Nat.reduceAdd, Nat.reduceMul, ↓reduceIte, Int.reduceToNat, Int.reducePow, Int.reduceLT, Int.reduceLE, Int.reduceAdd, Int.reduceSub, Int.reduceMul, Int.reduceEq, Int.reduceNe]
          refine LoopQ_k (i + 1, x) ⟨by rw [Fst_mk]; omega, by rw [Fst_mk, Snd_mk]; exact hs⟩ (by rw [Fst_mk, Fst_mk]; omega) rfl ?_ trivial
          simp -implicitDefEqProofs -proj only [go_sem, Nat.reduceBEq, Nat.reduceLT, Nat.reduceLeDiff, Nat.reduceAdd, Nat.reduceMul, ↓reduceIte, Int.reduceToNat, Int.reducePow, Int.reduceLT, Int.reduceLE, Int.reduceAdd, Int.reduceSub, Int.reduceMul, Int.reduceEq, Int.reduceNe, AllAt, i64_succ (show i < 9223372036854775807 by omega)]
        | false =>
          rw [hb, if_neg Bool.false_ne_true] at hs
          simp -implicitDefEqProofs -proj only [go_sem, Nat.reduceBEq, Nat.reduceLT, Nat.reduceLeDiff, Nat.reduceAdd, Nat.reduceMul, ↓reduceIte, Int.reduceToNat, Int.reducePow, Int.reduceLT, Int.reduceLE, Int.reduceAdd, Int.reduceSub, Int.reduceMul, Int.reduceEq, Int.reduceNe]
          refine LoopQ_k (i + 1, n) ⟨by rw [Fst_mk]; omega, by rw [Fst_mk, Snd_mk]; exact hs⟩ (by rw [Fst_mk, Fst_mk]; omega) rfl ?_ trivial
          simp -implicitDefEqProofs -proj only [go_sem, Nat.reduceBEq, Nat.reduceLT, Nat.reduceLeDiff, Nat.reduceAdd, Nat.reduceMul, ↓reduceIte, Int.reduceToNat, Int.reducePow, Int.reduceLT, Int.reduceLE, Int.reduceAdd, Int.reduceSub, Int.reduceMul, Int.reduceEq, Int.reduceNe, AllAt, i64_succ (show i < 9223372036854775807 by omega)]
      · have hi' : i = l.length := by omega
        subst hi'
        rw [List.drop_length] at hs
        simp -implicitDefEqProofs -proj only [go_sem, Nat.reduceBEq, Nat.reduceLT, Nat.reduceLeDiff, Nat.reduceAdd, Nat.reduceMul, ↓reduceIte, Int.reduceToNat, Int.reducePow, Int.reduceLT, Int.reduceLE, Int.reduceAdd, Int.reduceSub, Int.reduceMul, Int.reduceEq, Int.reduceNe, decide_eq_false (show ¬ (l.length : Int) < l.length by omega)]
        rw [← hs, pickL, optR]
        exact LendV_eq rfl
theorem Least1_ok (a b : Int) : DataW Try.prog f_exact_Least_1 [i64 a, i64 b] (bv (decide (a < b))) := by
  refine CallW_intro comp_exact_Least_1 (by simp) ?_
  simp -implicitDefEqProofs -proj only [go_sem, Nat.reduceBEq, Nat.reduceLT, Nat.reduceLeDiff, Nat.reduceAdd, Nat.reduceMul, ↓reduceIte, Int.reduceToNat, Int.reducePow, Int.reduceLT, Int.reduceLE, Int.reduceAdd, Int.reduceSub, Int.reduceMul, Int.reduceEq, Int.reduceNe]
  exact LendV_eq rfl
theorem Most1_ok (a b : Int) : DataW Try.prog f_exact_Most_1 [i64 a, i64 b] (bv (decide (a > b))) := by
  refine CallW_intro comp_exact_Most_1 (by simp) ?_
  simp -implicitDefEqProofs -proj only [go_sem, Nat.reduceBEq, Nat.reduceLT, Nat.reduceLeDiff, Nat.reduceAdd, Nat.reduceMul, ↓reduceIte, Int.reduceToNat, Int.reducePow, Int.reduceLT, Int.reduceLE, Int.reduceAdd, Int.reduceSub, Int.reduceMul, Int.reduceEq, Int.reduceNe]
  exact LendV_eq rfl
theorem Least_ok {l : List Int} (hn : l.length ≤ 4611686018427387904) : DataW Try.prog f_exact_Least [slI l] (optR (pickF (fun a b => decide (a < b)) l)) := by
  refine CallW_intro comp_exact_Least (by simp) ?_
  simp -implicitDefEqProofs -proj only [go_sem, Nat.reduceBEq, Nat.reduceLT, Nat.reduceLeDiff, Nat.reduceAdd, Nat.reduceMul, ↓reduceIte, Int.reduceToNat, Int.reducePow, Int.reduceLT, Int.reduceLE, Int.reduceAdd, Int.reduceSub, Int.reduceMul, Int.reduceEq, Int.reduceNe]
  refine CallA_pure (pick_ok Least1_ok hn) ?_
  cases pickF (fun a b => decide (a < b)) l <;> (simp -implicitDefEqProofs -proj only [go_sem, Nat.reduceBEq, Nat.reduceLT, Nat.reduceLeDiff, Nat.reduceAdd, Nat.reduceMul, ↓reduceIte, Int.reduceToNat, Int.reducePow, Int.reduceLT, Int.reduceLE, Int.reduceAdd, Int.reduceSub, Int.reduceMul, Int.reduceEq, Int.reduceNe, optR]; exact LendV_eq rfl)
theorem Most_ok {l : List Int} (hn : l.length ≤ 4611686018427387904) : DataW Try.prog f_exact_Most [slI l] (optR (pickF (fun a b => decide (a > b)) l)) := by
  refine CallW_intro comp_exact_Most (by simp) ?_
  simp -implicitDefEqProofs -proj only [go_sem, Nat.reduceBEq, Nat.reduceLT, Nat.reduceLeDiff, Nat.reduceAdd, Nat.reduceMul, ↓reduceIte, Int.reduceToNat, Int.reducePow, Int.reduceLT, Int.reduceLE, Int.reduceAdd, Int.reduceSub, Int.reduceMul, Int.reduceEq, Int.reduceNe]
  refine CallA_pure (pick_ok Most1_ok hn) ?_
  cases pickF (fun a b => decide (a > b)) l <;> (simp -implicitDefEqProofs -proj only [go_sem, Nat.reduceBEq, Nat.reduceLT, Nat.reduceLeDiff, Nat.reduceAdd, Nat.reduceMul, ↓reduceIte, Int.reduceToNat, Int.reducePow, Int.reduceLT, Int.reduceLE, Int.reduceAdd, Int.reduceSub, Int.reduceMul, Int.reduceEq, Int.reduceNe, optR]; exact LendV_eq rfl)
end Go.Proofs.Ythmcidkcindmpaa.Abs
