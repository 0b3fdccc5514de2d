/- Contracts of the machine and the contracts of one law (joined by kmerge.py). No claim stands here. -/
import Derived.Below
import Derived.Carry
import Derived.ChangeCalls
import Derived.ChangeOld
import Derived.IntWalk
import Derived.KernelRfl
import Derived.Laws.Append
import Derived.Laws.AppendOwn
import Derived.Laws.Cells
import Derived.Laws.CopyRow
import Derived.Laws.Entries
import Derived.Laws.MakeOwn
import Derived.Laws.NewFold
import Derived.Laws.Rows
import Derived.Laws.StructEq
import Derived.OpenShut
import Derived.Orders
import Derived.OrdersIn
import Derived.ProofKit
import Derived.RangeFuncLeaves
import Derived.RangeFuncSeq
import Derived.SizedLaws
import Derived.TacticsIn
import Derived.WalkKit
import Derived.Test.YtndepejgafppmaaMac
set_option maxRecDepth 100000
set_option linter.unusedSimpArgs false
set_option linter.unusedVariables false
namespace Go.Proofs.Ytndepejgafppmaa.Abs
open Go Go.RowKit Go.Proofs
attribute [local go_sem] RunC_seq AF_n AF_r AF_b St_n St_t St_H Fst_mk Snd_mk RunC_ops RunC_cond RunC_block RunC_loop RunC_exit RunC_ret RunC_skip RunO_nil RunO_code RunO_code_ret RunO_code_exit RunO_blk RunO_blk_ret RunO_blk_exit RunL_nil RunL_guard GuardA_tt GuardA_ff GuardA_tf GuardA_ft GuardA_void CondA_t CondA_f PickA_t PickA_f RunL_mov RunL_pick RunL_alloc RunL_box RunL_load LoadA_ptr LoadB_1 LoadB_n LoadA_dptr LoadA_dptr_n RunL_store StoreA_ptr StoreB_box RunL_bin Bin_add Bin_sub Bin_mul Bin_quo Bin_rem Bin_shl Bin_shr Bin_andI Bin_orI Bin_xorI Bin_eql Bin_neq Bin_lss Bin_leq Bin_gtr Bin_geq RunL_binb Bin_beql Bin_bneq RunL_un UnA_not UnA_neg RunL_conv convV MapA_some RunL_nilCheck nilV RunL_mkfn RunL_fieldAddr faV RunL_field FieldA_1 FieldA_n RunL_elemAddr EAddrA_sl EAddrA_own EptrA_eq RunL_build BuildA_some RunL_extract ExtA_eq RunL_len lenV_sl lenV_nilsl lenV_own RunL_slen RunL_idxStr IdxSA_eq slenV RunL_minmax mmV minmaxL RunL_call RunL_callv CallvA_fn putS ev evL evO evP eqK eqKs EqB_agg RunL_eqAgg EqA_t EqA_f evQ buildC fits_agg cellsAV_agg fits_d cellsAV_d fits_nilp cellsAV_nilp fits_nilsl cellsAV_nilsl fits_nilfn cellsAV_nilfn fits_ptr cellsAV_ptr fits_eptr cellsAV_eptr fits_dptr cellsAV_dptr fits_own cellsAV_own fits_fn cellsAV_fn rowV_fits rowV_cells rowV_len lenAV setSeg nth seg mapD repeatL putT_get upd_get argT keepT_cons keepT_nil keepH_cons keepH_nil cond_true cond_false VC_true finW resW resL resOne LoopQ_exit LoopQ_ret List.cons_append List.nil_append Bool.not_true Bool.not_false Bool.and_true Bool.and_self Nat.lt_add_left_iff_pos Nat.zero_add Nat.add_zero List.drop_succ_cons List.drop_zero List.take_succ_cons List.take_zero beq_self_eq_true Bool.false_eq_true RunC_dops RunL_loadS RunL_loadD LoadDA_dptr RunL_storeS StoreSA_ptr RunL_pcall RunL_pcallv PCallvA_fn newsOk and_self and_true true_and loadW_ptr LoadK_1 LoadK_n upd_upd RunL_loadP LoadPA_ptr RunL_callS RunL_make RunL_buildSlice BSliceA_some RunL_buildSliceD frzL frz cutL LoadA_eptr LoadE_row RunL_append RunL_slice SliceA_sl StoreA_eptr List.length_cons List.length_nil Nat.min_def Int.cast_ofNat_Int Int.natCast_zero Int.natCast_one decide_true decide_false List.getElem?_cons_zero List.getElem?_cons_succ RunC_rangef CallvA_yld putL_nil putL_cons RangeQ_exit RangeQ_ret
theorem i64_congr {a b : Int} (h : a = b) : i64 a = i64 b := by rw [h]
theorem CallW_frame {P : Program} {f : FuncId} {args : List AV} {H0 H : Heap} {K : AV → Heap → Prop} (h : CallW P f args H0 K) (hs : ∀ k, H0 k = none ∨ H0 k = H k) :
    CallW P f args H fun r H' => ∃ H1, K r H1 ∧ (∀ k x, H1 k = some x → H' k = some x) ∧ ∀ k x, H k = some x → H0 k = none → H' k = some x := by
  classical
  intro F w vs hh hv
  have hsub : ∀ b x, H0 b = some x → H b = some x := fun b x hb => by
    rcases hs b with e | e
    · rw [e] at hb; cases hb
    · rw [← e]; exact hb
  have hh0 : HRel P F H0 w := ⟨fun b x hb => hh.at_ b x (hsub b x hb), fun b x hb => hh.apart b x (hsub b x hb), hh.old⟩
  refine (h F w vs hh0 hv).mono fun e w' hr => ?_
  obtain ⟨r, H1, F', v, rfl, h1, h2, h3, h4⟩ := hr
  have hF0 : ∀ k, F k → H0 k = none := fun k hk => by
    cases e : H0 k with
    | none => rfl
    | some x => exact absurd hk (hh0.apart k x e)
  have hne : ∀ k, H0 k ≠ none → H k ≠ none := fun k hk => by
    cases e : H0 k with
    | none => exact absurd e hk
    | some x => rw [hsub k x e]; simp
  have hfr : ∀ k x, H1 k = some x → ¬ (H k ≠ none ∧ H0 k = none) := fun k x hx hk => by
    rcases h3.dom k (by rw [hx]; simp) with e | e
    · exact e hk.2
    · cases e2 : H k with
      | none => exact hk.1 e2
      | some y => have := (hh.at_ k y e2).lt; omega
  refine ⟨r, fun k => if H k ≠ none ∧ H0 k = none then H k else H1 k, F', v, rfl, h1, ⟨fun b x hb => ?_, fun b x hb hf => ?_, h2.old⟩, ⟨h3.os, h3.tape, h3.output, h3.size, fun k hk e => h3.keep k hk ?_, fun k hk => ?_, h3.mono, fun k hk => ?_⟩, H1, h4, fun k x hx => ?_, fun k x hx hk => ?_⟩
  · by_cases e : H b ≠ none ∧ H0 b = none
    · rw [if_pos e] at hb
      exact (hh.at_ b x hb).mono (h3.keep b (hh.at_ b x hb).lt e.2) h3.mono (fun k hk => h3.keep k (hh.old k hk) (hF0 k hk))
    · rw [if_neg e] at hb
      exact h2.at_ b x hb
  · by_cases e : H b ≠ none ∧ H0 b = none
    · rw [if_pos e] at hb
      rcases h3.new b hf with e2 | e2 | e2
      · exact hh.apart b x hb e2
      · exact e2 e.2
      · have := (hh.at_ b x hb).lt; omega
    · rw [if_neg e] at hb
      exact h2.apart b x hb hf
  · rcases hs k with e2 | e2
    · exact e2
    · rw [e2, e]
  · by_cases e : H k ≠ none ∧ H0 k = none
    · exact .inl e.1
    · rw [if_neg e] at hk
      exact (h3.dom k hk).imp (hne k) id
  · rcases h3.new k hk with e | e | e
    · exact .inl e
    · exact .inr (.inl (hne k e))
    · exact .inr (.inr e)
  · show (if H k ≠ none ∧ H0 k = none then H k else H1 k) = some x
    rw [if_neg (hfr k x hx)]
    exact hx
  · show (if H k ≠ none ∧ H0 k = none then H k else H1 k) = some x
    rw [if_pos ⟨by rw [hx]; simp, hk⟩]
    exact hx
theorem above_ok {n k : Int} : DataW Try.prog f_poundagelaw06_above [i64 n, i64 k] (bv (decide (k < n))) := by
  refine CallW_intro comp_poundagelaw06_above (by simp) ?_
  simp -implicitDefEqProofs -proj only [go_sem, Nat.reduceBEq, Nat.reduceLT, Nat.reduceLeDiff, Nat.reduceAdd, Nat.reduceMul, ↓reduceIte, Int.reduceToNat, Int.reducePow, Int.reduceLT, Int.reduceLE, Int.reduceAdd, Int.reduceSub, Int.reduceMul, Int.reduceEq, Int.reduceNe]
  exact LendV_eq rfl
theorem rows1_ok (x y : Int) : DataW Try.prog f_poundagelaw06_TreeRows_1 [i64 x, i64 y] (bv (decide (x < y))) := by
  refine CallW_intro comp_poundagelaw06_TreeRows_1 (by simp) ?_
  simp -implicitDefEqProofs -proj only [go_sem, Nat.reduceBEq, Nat.reduceLT, Nat.reduceLeDiff, Nat.reduceAdd, Nat.reduceMul, ↓reduceIte, Int.reduceToNat, Int.reducePow, Int.reduceLT, Int.reduceLE, Int.reduceAdd, Int.reduceSub, Int.reduceMul, Int.reduceEq, Int.reduceNe]
  refine CallA_pure above_ok ?_
  simp -implicitDefEqProofs -proj only [go_sem, Nat.reduceBEq, Nat.reduceLT, Nat.reduceLeDiff, Nat.reduceAdd, Nat.reduceMul, ↓reduceIte, Int.reduceToNat, Int.reducePow, Int.reduceLT, Int.reduceLE, Int.reduceAdd, Int.reduceSub, Int.reduceMul, Int.reduceEq, Int.reduceNe]
  exact LendV_eq rfl
theorem rows2_ok {H : Heap} {b : Nat} {x k : Int} (hb : H b = some (.box 3 [i64 k])) : CallW Try.prog f_poundagelaw06_TreeRows_2 [i64 x, .ptr b 0] H fun r H' => r = bv (decide (k < x)) ∧ H' = H := by
  refine CallW_intro comp_poundagelaw06_TreeRows_2 (by simp) ?_
  simp -implicitDefEqProofs -proj only [go_sem, Nat.reduceBEq, Nat.reduceLT, Nat.reduceLeDiff, Nat.reduceAdd, Nat.reduceMul, ↓reduceIte, Int.reduceToNat, Int.reducePow, Int.reduceLT, Int.reduceLE, Int.reduceAdd, Int.reduceSub, Int.reduceMul, Int.reduceEq, Int.reduceNe, hb]
  refine CallA_pure above_ok ?_
  simp -implicitDefEqProofs -proj only [go_sem, Nat.reduceBEq, Nat.reduceLT, Nat.reduceLeDiff, Nat.reduceAdd, Nat.reduceMul, ↓reduceIte, Int.reduceToNat, Int.reducePow, Int.reduceLT, Int.reduceLE, Int.reduceAdd, Int.reduceSub, Int.reduceMul, Int.reduceEq, Int.reduceNe]
  try (first | trivial | exact ⟨rfl, rfl⟩ | rfl)
/-- Rows alike, one by one. -/
def eqF {α β : Type} (p : α → β → Bool) : List α → List β → Bool
  | [], [] => true
  | x :: a, y :: b => p x y && eqF p a b
  | _, _ => false
theorem eqF_len {α β : Type} {p : α → β → Bool} : ∀ {a : List α} {b : List β}, a.length ≠ b.length → eqF p a b = false
  | [], [], h => absurd rfl h
  | [], _ :: _, _ => rfl
  | _ :: _, [], _ => rfl
  | _ :: a, _ :: b, h => by
    rw [eqF, eqF_len (a := a) (b := b) (fun e => h (by simp [e])), Bool.and_false]
theorem EqF_ok {a b : List Int} {f : FuncId} {p : Int → Int → Bool} (hf : ∀ x y : Int, DataW Try.prog f [i64 x, i64 y] (bv (p x y))) (ha : a.length ≤ 1000000) (hb : b.length ≤ 1000000) : DataW Try.prog f_slices_EqualFunc_int_int_int_int [slI a, slI b, .fn f []] (bv (eqF p a b)) := by
  refine CallW_intro comp_slices_EqualFunc_int_int_int_int (by simp) ?_
  by_cases hl : a.length = b.length
  rotate_left
  · rw [eqF_len hl]
    simp -implicitDefEqProofs -proj only [go_sem, Nat.reduceBEq, Nat.reduceLT, Nat.reduceLeDiff, Nat.reduceAdd, Nat.reduceMul, ↓reduceIte, Int.reduceToNat, Int.reducePow, Int.reduceLT, Int.reduceLE, Int.reduceAdd, Int.reduceSub, Int.reduceMul, Int.reduceEq, Int.reduceNe, rowI_len, decide_eq_false (show ¬ (a.length : Int) = b.length by omega)]
    exact LendV_eq rfl
  simp -implicitDefEqProofs -proj only [go_sem, Nat.reduceBEq, Nat.reduceLT, Nat.reduceLeDiff, Nat.reduceAdd, Nat.reduceMul, ↓reduceIte, Int.reduceToNat, Int.reducePow, Int.reduceLT, Int.reduceLE, Int.reduceAdd, Int.reduceSub, Int.reduceMul, Int.reduceEq, Int.reduceNe, rowI_len, decide_eq_true (show (a.length : Int) = b.length by omega)]
  refine LoopA_k (fun i : Nat => i ≤ a.length ∧ eqF p (a.drop i) (b.drop i) = eqF p a b) 32 (fun i => [(0, slI a), (1, slI b), (2, .fn f []), (15, slI a), (16, i64 a.length), (17, i64 i)]) (fun _ => []) (fun i => a.length - i) 0 ⟨Nat.zero_le _, by simp⟩ rfl ?_ ?_ ?_
  · simp -implicitDefEqProofs -proj only [go_sem, Nat.reduceBEq, Nat.reduceLT, Nat.reduceLeDiff, Nat.reduceAdd, Nat.reduceMul, ↓reduceIte, Int.reduceToNat, Int.reducePow, Int.reduceLT, Int.reduceLE, Int.reduceAdd, Int.reduceSub, Int.reduceMul, Int.reduceEq, Int.reduceNe, AllAt]
    try simp [hl]
  · simp -implicitDefEqProofs -proj only [go_sem, Nat.reduceBEq, Nat.reduceLT, Nat.reduceLeDiff, Nat.reduceAdd, Nat.reduceMul, ↓reduceIte, Int.reduceToNat, Int.reducePow, Int.reduceLT, Int.reduceLE, Int.reduceAdd, Int.reduceSub, Int.reduceMul, Int.reduceEq, Int.reduceNe, AllH]
  · rintro i ⟨hi, hat⟩
    by_cases h : i < a.length
    · have h' : i < b.length := by omega
      have e1 := rowI_at (List.getElem?_eq_getElem h)
      have e2 := rowI_at (List.getElem?_eq_getElem h')
      rw [List.drop_eq_getElem_cons h, List.drop_eq_getElem_cons h', eqF] at hat
      generalize a[i] = x at *
      generalize b[i] = y at *
      simp -implicitDefEqProofs -proj only [go_sem, Nat.reduceBEq, Nat.reduceLT, Nat.reduceLeDiff, Nat.reduceAdd, Nat.reduceMul, ↓reduceIte, Int.reduceToNat, Int.reducePow, Int.reduceLT, Int.reduceLE, Int.reduceAdd, Int.reduceSub, Int.reduceMul, Int.reduceEq, Int.reduceNe, decide_eq_true (show (i : Int) < a.length by omega)]
      refine ElemA_at _ (by omega) e1 ?_
      simp -implicitDefEqProofs -proj only [go_sem, Nat.reduceBEq, Nat.reduceLT, Nat.reduceLeDiff, Nat.reduceAdd, Nat.reduceMul, ↓reduceIte, Int.reduceToNat, Int.reducePow, Int.reduceLT, Int.reduceLE, Int.reduceAdd, Int.reduceSub, Int.reduceMul, Int.reduceEq, Int.reduceNe]
      refine ElemA_at _ (by omega) e2 ?_
      simp -implicitDefEqProofs -proj only [go_sem, Nat.reduceBEq, Nat.reduceLT, Nat.reduceLeDiff, Nat.reduceAdd, Nat.reduceMul, ↓reduceIte, Int.reduceToNat, Int.reducePow, Int.reduceLT, Int.reduceLE, Int.reduceAdd, Int.reduceSub, Int.reduceMul, Int.reduceEq, Int.reduceNe]
      refine CallA_pure (hf x y) ?_
      cases hp : p x y
      · rw [hp, Bool.false_and] at hat
        simp -implicitDefEqProofs -proj only [go_sem, Nat.reduceBEq, Nat.reduceLT, Nat.reduceLeDiff, Nat.reduceAdd, Nat.reduceMul, ↓reduceIte, Int.reduceToNat, Int.reducePow, Int.reduceLT, Int.reduceLE, Int.reduceAdd, Int.reduceSub, Int.reduceMul, Int.reduceEq, Int.reduceNe]
        rw [← hat]
        exact LendV_eq rfl
      · rw [hp, Bool.true_and] at hat
        simp -implicitDefEqProofs -proj only [go_sem, Nat.reduceBEq, Nat.reduceLT, Nat.reduceLeDiff, Nat.reduceAdd, Nat.reduceMul, ↓reduceIte, Int.reduceToNat, Int.reducePow, Int.reduceLT, Int.reduceLE, Int.reduceAdd, Int.reduceSub, Int.reduceMul, Int.reduceEq, Int.reduceNe]
        refine LoopQ_k (i + 1) ⟨by omega, hat⟩ (by omega) rfl ?_ trivial
        simp -implicitDefEqProofs -proj only [go_sem, Nat.reduceBEq, Nat.reduceLT, Nat.reduceLeDiff, Nat.reduceAdd, Nat.reduceMul, ↓reduceIte, Int.reduceToNat, Int.reducePow, Int.reduceLT, Int.reduceLE, Int.reduceAdd, Int.reduceSub, Int.reduceMul, Int.reduceEq, Int.reduceNe, AllAt, i64_succ (show i < 9223372036854775807 by omega)]
    · have hi' : i = a.length := by omega
      subst hi'
      rw [List.drop_length, hl, List.drop_length] at hat
      simp -implicitDefEqProofs -proj only [go_sem, Nat.reduceBEq, Nat.reduceLT, Nat.reduceLeDiff, Nat.reduceAdd, Nat.reduceMul, ↓reduceIte, Int.reduceToNat, Int.reducePow, Int.reduceLT, Int.reduceLE, Int.reduceAdd, Int.reduceSub, Int.reduceMul, Int.reduceEq, Int.reduceNe, decide_eq_false (show ¬ (a.length : Int) < a.length by omega)]
      rw [← hat]
      exact LendV_eq rfl
theorem Each_ok {a b : List Int} {f : FuncId} {p : Int → Int → Bool} (hf : ∀ x y : Int, DataW Try.prog f [i64 x, i64 y] (bv (p x y))) (ha : a.length ≤ 1000000) (hb : b.length ≤ 1000000) : DataW Try.prog f_tree_Each_int [slI a, slI b, .fn f []] (bv (eqF p a b)) := by
  refine CallW_intro comp_tree_Each_int (by simp) ?_
  simp -implicitDefEqProofs -proj only [go_sem, Nat.reduceBEq, Nat.reduceLT, Nat.reduceLeDiff, Nat.reduceAdd, Nat.reduceMul, ↓reduceIte, Int.reduceToNat, Int.reducePow, Int.reduceLT, Int.reduceLE, Int.reduceAdd, Int.reduceSub, Int.reduceMul, Int.reduceEq, Int.reduceNe]
  refine CallA_pure (EqF_ok hf ha hb) ?_
  simp -implicitDefEqProofs -proj only [go_sem, Nat.reduceBEq, Nat.reduceLT, Nat.reduceLeDiff, Nat.reduceAdd, Nat.reduceMul, ↓reduceIte, Int.reduceToNat, Int.reducePow, Int.reduceLT, Int.reduceLE, Int.reduceAdd, Int.reduceSub, Int.reduceMul, Int.reduceEq, Int.reduceNe]
  exact LendV_eq rfl
/-- The first number from there on that is above k. -/
def fstN (a : List Int) (k : Int) (n : Nat) : Int := match (a.drop n).findIdx? fun x => decide (k < x) with
  | some j => n + j
  | none => -1
theorem fstN_step {a : List Int} {k : Int} {n : Nat} (h : n < a.length) : fstN a k n = if k < a[n] then (n : Int) else fstN a k (n + 1) := by
  unfold fstN
  rw [List.drop_eq_getElem_cons h, List.findIdx?_cons]
  by_cases hk : k < a[n]
  · simp [hk]
  · simp -implicitDefEqProofs only [hk, decide_false, Bool.false_eq_true, if_false]
    cases (a.drop (n + 1)).findIdx? fun x => decide (k < x) with
    | none => rfl
    | some j => simp -implicitDefEqProofs only [Option.map_some]; omega
theorem fstN_end {a : List Int} {k : Int} : fstN a k a.length = -1 := by
  unfold fstN; rw [List.drop_length]; rfl
theorem IdxI_ok {H : Heap} {a : List Int} {b : Nat} {k : Int} (hb : H b = some (.box 3 [i64 k])) (ha : a.length ≤ 1000000) : CallW Try.prog f_slices_IndexFunc_int_int [slI a, .fn f_poundagelaw06_TreeRows_2 [.ptr b 0]] H fun r _ => r = i64 (fstN a k 0) := by
  refine CallW_intro comp_slices_IndexFunc_int_int (by simp) ?_
  simp -implicitDefEqProofs -proj only [go_sem, Nat.reduceBEq, Nat.reduceLT, Nat.reduceLeDiff, Nat.reduceAdd, Nat.reduceMul, ↓reduceIte, Int.reduceToNat, Int.reducePow, Int.reduceLT, Int.reduceLE, Int.reduceAdd, Int.reduceSub, Int.reduceMul, Int.reduceEq, Int.reduceNe, rowI_len]
  refine LoopA_k (fun i : Nat => i ≤ a.length ∧ fstN a k i = fstN a k 0) 19 (fun i => [(0, slI a), (1, .fn f_poundagelaw06_TreeRows_2 [.ptr b 0]), (6, slI a), (7, i64 a.length), (8, i64 i)]) (fun _ => [(b, .box 3 [i64 k])]) (fun i => a.length - i) 0 ⟨Nat.zero_le _, rfl⟩ rfl ?_ ?_ ?_
  · simp -implicitDefEqProofs -proj only [go_sem, Nat.reduceBEq, Nat.reduceLT, Nat.reduceLeDiff, Nat.reduceAdd, Nat.reduceMul, ↓reduceIte, Int.reduceToNat, Int.reducePow, Int.reduceLT, Int.reduceLE, Int.reduceAdd, Int.reduceSub, Int.reduceMul, Int.reduceEq, Int.reduceNe, AllAt]
  · exact ⟨hb, trivial⟩
  · rintro i ⟨hi, hat⟩
    have hall : AllH (keepH [(b, .box 3 [i64 k])]) [(b, .box 3 [i64 k])] := keepH_all (by simp [keys])
    by_cases h : i < a.length
    · have e1 := rowI_at (List.getElem?_eq_getElem h)
      rw [fstN_step h] at hat
      generalize a[i] = x at *
      simp -implicitDefEqProofs -proj only [go_sem, Nat.reduceBEq, Nat.reduceLT, Nat.reduceLeDiff, Nat.reduceAdd, Nat.reduceMul, ↓reduceIte, Int.reduceToNat, Int.reducePow, Int.reduceLT, Int.reduceLE, Int.reduceAdd, Int.reduceSub, Int.reduceMul, Int.reduceEq, Int.reduceNe, decide_eq_true (show (i : Int) < a.length by omega)]
      refine ElemA_at _ (by omega) e1 ?_
      simp -implicitDefEqProofs -proj only [go_sem, Nat.reduceBEq, Nat.reduceLT, Nat.reduceLeDiff, Nat.reduceAdd, Nat.reduceMul, ↓reduceIte, Int.reduceToNat, Int.reducePow, Int.reduceLT, Int.reduceLE, Int.reduceAdd, Int.reduceSub, Int.reduceMul, Int.reduceEq, Int.reduceNe]
      refine CallA_w (rows2_ok hall.1) (fun r H' hk => ?_)
      obtain ⟨rfl, rfl⟩ := hk
      by_cases hp : k < x
      · rw [if_pos hp] at hat
        simp -implicitDefEqProofs -proj only [go_sem, Nat.reduceBEq, Nat.reduceLT, Nat.reduceLeDiff, Nat.reduceAdd, Nat.reduceMul, ↓reduceIte, Int.reduceToNat, Int.reducePow, Int.reduceLT, Int.reduceLE, Int.reduceAdd, Int.reduceSub, Int.reduceMul, Int.reduceEq, Int.reduceNe, decide_eq_true hp]
        rw [hat]
      · rw [if_neg hp] at hat
        simp -implicitDefEqProofs -proj only [go_sem, Nat.reduceBEq, Nat.reduceLT, Nat.reduceLeDiff, Nat.reduceAdd, Nat.reduceMul, ↓reduceIte, Int.reduceToNat, Int.reducePow, Int.reduceLT, Int.reduceLE, Int.reduceAdd, Int.reduceSub, Int.reduceMul, Int.reduceEq, Int.reduceNe, decide_eq_false hp]
        refine LoopQ_k (i + 1) ⟨by omega, hat⟩ (by omega) rfl ?_ hall
        simp -implicitDefEqProofs -proj only [go_sem, Nat.reduceBEq, Nat.reduceLT, Nat.reduceLeDiff, Nat.reduceAdd, Nat.reduceMul, ↓reduceIte, Int.reduceToNat, Int.reducePow, Int.reduceLT, Int.reduceLE, Int.reduceAdd, Int.reduceSub, Int.reduceMul, Int.reduceEq, Int.reduceNe, AllAt, i64_succ (show i < 9223372036854775807 by omega)]
    · have hi' : i = a.length := by omega
      subst hi'
      rw [fstN_end] at hat
      simp -implicitDefEqProofs -proj only [go_sem, Nat.reduceBEq, Nat.reduceLT, Nat.reduceLeDiff, Nat.reduceAdd, Nat.reduceMul, ↓reduceIte, Int.reduceToNat, Int.reducePow, Int.reduceLT, Int.reduceLE, Int.reduceAdd, Int.reduceSub, Int.reduceMul, Int.reduceEq, Int.reduceNe, decide_eq_false (show ¬ (a.length : Int) < a.length by omega)]
      rw [hat]
theorem FindI_ok {H : Heap} {a : List Int} {b : Nat} {k : Int} (hb : H b = some (.box 3 [i64 k])) (ha : a.length ≤ 1000000) : CallW Try.prog f_tree_Find_int [slI a, .fn f_poundagelaw06_TreeRows_2 [.ptr b 0]] H fun r _ => r = i64 (fstN a k 0) := by
  refine CallW_intro comp_tree_Find_int (by simp) ?_
  simp -implicitDefEqProofs -proj only [go_sem, Nat.reduceBEq, Nat.reduceLT, Nat.reduceLeDiff, Nat.reduceAdd, Nat.reduceMul, ↓reduceIte, Int.reduceToNat, Int.reducePow, Int.reduceLT, Int.reduceLE, Int.reduceAdd, Int.reduceSub, Int.reduceMul, Int.reduceEq, Int.reduceNe]
  refine CallA_w (IdxI_ok hb ha) (fun r H' hk => ?_)
  subst hk
  simp -implicitDefEqProofs -proj only [go_sem, Nat.reduceBEq, Nat.reduceLT, Nat.reduceLeDiff, Nat.reduceAdd, Nat.reduceMul, ↓reduceIte, Int.reduceToNat, Int.reducePow, Int.reduceLT, Int.reduceLE, Int.reduceAdd, Int.reduceSub, Int.reduceMul, Int.reduceEq, Int.reduceNe]
/-- What the law holds it against. -/
def wantN (a b : List Int) : Nat → Bool
  | 0 => decide (a.length = b.length)
  | i + 1 => wantN a b i && match a[i]?, b[i]? with
    | some x, some y => decide (x < y)
    | _, _ => false
theorem wantN_eq {a b : List Int} : wantN a b a.length = eqF (fun x y => decide (x < y)) a b := by
  have key : ∀ n, n ≤ a.length → wantN a b n = (decide (a.length = b.length) && eqF (fun x y => decide (x < y)) (a.take n) (b.take n)) := by
    intro n
    induction n with
    | zero => intro _; simp [wantN, eqF]
    | succ n ih =>
      intro h
      rw [wantN, ih (by omega)]
      by_cases hl : a.length = b.length
      · have h1 : n < a.length := by omega
        have h2 : n < b.length := by omega
        have app : ∀ (u v : List Int) (x y : Int), u.length = v.length → eqF (fun x y => decide (x < y)) (u ++ [x]) (v ++ [y]) = (eqF (fun x y => decide (x < y)) u v && decide (x < y)) := by
          intro u
          induction u with
          | nil => intro v x y hv; cases v with
            | nil => simp [eqF]
            | cons => simp at hv
          | cons w u ihu => intro v x y hv; cases v with
            | nil => simp at hv
            | cons z v => simp -implicitDefEqProofs only [List.cons_append, eqF, ihu v x y (by simpa using hv), Bool.and_assoc]
        rw [List.getElem?_eq_getElem h1, List.getElem?_eq_getElem h2, List.take_succ_eq_append_getElem h1, List.take_succ_eq_append_getElem h2, app _ _ _ _ (by rw [List.length_take, List.length_take]; omega)]
        simp -implicitDefEqProofs only [Bool.and_assoc]
      · simp [hl]
  rw [key _ (Nat.le_refl _)]
  by_cases hl : a.length = b.length
  · rw [decide_eq_true hl, Bool.true_and, List.take_length, hl, List.take_length]
  · rw [decide_eq_false hl, Bool.false_and, eqF_len hl]
theorem keepH_subs {H : Heap} : ∀ {l : List (Nat × Blk)}, AllH H l → ∀ k, keepH l k = none ∨ keepH l k = H k
  | [], _, _ => .inl rfl
  | (b, x) :: l, h, k => by
    rw [keepH_cons]
    by_cases e : k = b
    · rw [if_pos e]
      subst e
      exact .inr h.1.symm
    · rw [if_neg e]
      exact keepH_subs h.2 k
abbrev sA : ByteArray := ⟨⟨[97]⟩⟩
abbrev sB : ByteArray := ⟨⟨[98]⟩⟩
theorem isNaN_ok (s : ByteArray) : DataW Try.prog f_cmp_isNaN_string [.d (.str s)] (bv false) := by
  refine CallW_intro comp_cmp_isNaN_string (by simp) ?_
  simp -implicitDefEqProofs -proj only [go_sem, Nat.reduceBEq, Nat.reduceLT, Nat.reduceLeDiff, Nat.reduceAdd, Nat.reduceMul, ↓reduceIte, Int.reduceToNat, Int.reducePow, Int.reduceLT, Int.reduceLE, Int.reduceAdd, Int.reduceSub, Int.reduceMul, Int.reduceEq, Int.reduceNe, Bin_sneq]
  refine LendV_eq ?_
  simp
theorem Less_ok (s t : ByteArray) : DataW Try.prog f_cmp_Less_string [.d (.str s), .d (.str t)] (bv (Op.bytesLess s.toList t.toList)) := by
  refine CallW_intro comp_cmp_Less_string (by simp) ?_
  simp -implicitDefEqProofs -proj only [go_sem, Nat.reduceBEq, Nat.reduceLT, Nat.reduceLeDiff, Nat.reduceAdd, Nat.reduceMul, ↓reduceIte, Int.reduceToNat, Int.reducePow, Int.reduceLT, Int.reduceLE, Int.reduceAdd, Int.reduceSub, Int.reduceMul, Int.reduceEq, Int.reduceNe]
  refine CallA_pure (isNaN_ok s) ?_
  simp -implicitDefEqProofs -proj only [go_sem, Nat.reduceBEq, Nat.reduceLT, Nat.reduceLeDiff, Nat.reduceAdd, Nat.reduceMul, ↓reduceIte, Int.reduceToNat, Int.reducePow, Int.reduceLT, Int.reduceLE, Int.reduceAdd, Int.reduceSub, Int.reduceMul, Int.reduceEq, Int.reduceNe, Bin_slss]
  exact LendV_eq rfl
theorem lAB : Op.bytesLess sA.toList sB.toList = true := by decide +kernel
abbrev rowBA : List (List D) := [[.str sB], [.str sA]]
abbrev rowAB : List (List D) := [[.str sA], [.str sB]]
abbrev H2 (c cap : Nat) (xs : List (List D)) : List (Nat × Blk) := [(c, .row 9 1 cap xs)]
theorem ins2_ok {c cap cp : Nat} : CallW Try.prog f_slices_insertionSortOrdered_string [.own c 1 0 2 cp, i64 0, i64 2] (keepH (H2 c cap rowBA)) fun _ H' => H' c = some (.row 9 1 cap rowAB) := by
  have hall : ∀ xs, AllH (keepH (H2 c cap xs)) (H2 c cap xs) := fun xs => keepH_all (by simp [keys])
  have hw1 : IntKind.i64.wrap 1 = 1 := by decide
  have hw2 : IntKind.i64.wrap 2 = 2 := by decide
  have hw0 : IntKind.i64.wrap 0 = 0 := by decide
  refine CallW_intro comp_slices_insertionSortOrdered_string (by simp) ?_
  simp -implicitDefEqProofs -proj only [go_sem, Nat.reduceBEq, Nat.reduceLT, Nat.reduceLeDiff, Nat.reduceAdd, Nat.reduceMul, ↓reduceIte, Int.reduceToNat, Int.reducePow, Int.reduceLT, Int.reduceLE, Int.reduceAdd, Int.reduceSub, Int.reduceMul, Int.reduceEq, Int.reduceNe, hw1]
  refine LoopA_k (fun x : Nat => x ≤ 1) 49 (fun x => [(0, .own c 1 0 2 cp), (1, i64 0), (2, i64 2), (6, i64 ((x : Int) + 1))]) (fun x => H2 c cap (if x = 0 then rowBA else rowAB)) (fun x => 1 - x) 0 (by omega) rfl ?_ ?_ ?_
  · simp -implicitDefEqProofs -proj only [go_sem, Nat.reduceBEq, Nat.reduceLT, Nat.reduceLeDiff, Nat.reduceAdd, Nat.reduceMul, ↓reduceIte, Int.reduceToNat, Int.reducePow, Int.reduceLT, Int.reduceLE, Int.reduceAdd, Int.reduceSub, Int.reduceMul, Int.reduceEq, Int.reduceNe, AllAt]
  · simp -implicitDefEqProofs -proj only [go_sem, Nat.reduceBEq, Nat.reduceLT, Nat.reduceLeDiff, Nat.reduceAdd, Nat.reduceMul, ↓reduceIte, Int.reduceToNat, Int.reducePow, Int.reduceLT, Int.reduceLE, Int.reduceAdd, Int.reduceSub, Int.reduceMul, Int.reduceEq, Int.reduceNe]
    exact hall _
  · intro x hx
    rcases (by omega : x = 0 ∨ x = 1) with rfl | rfl
    · simp -implicitDefEqProofs -proj only [go_sem, Nat.reduceBEq, Nat.reduceLT, Nat.reduceLeDiff, Nat.reduceAdd, Nat.reduceMul, ↓reduceIte, Int.reduceToNat, Int.reducePow, Int.reduceLT, Int.reduceLE, Int.reduceAdd, Int.reduceSub, Int.reduceMul, Int.reduceEq, Int.reduceNe]
      refine LoopA_k (fun y : Nat => y ≤ 1) 49 (fun y => [(0, .own c 1 0 2 cp), (1, i64 0), (2, i64 2), (6, i64 1), (7, i64 (1 - (y : Int)))]) (fun y => H2 c cap (if y = 0 then rowBA else rowAB)) (fun y => 1 - y) 0 (by omega) rfl ?_ ?_ ?_
      · simp -implicitDefEqProofs -proj only [go_sem, Nat.reduceBEq, Nat.reduceLT, Nat.reduceLeDiff, Nat.reduceAdd, Nat.reduceMul, ↓reduceIte, Int.reduceToNat, Int.reducePow, Int.reduceLT, Int.reduceLE, Int.reduceAdd, Int.reduceSub, Int.reduceMul, Int.reduceEq, Int.reduceNe, AllAt]
      · simp -implicitDefEqProofs -proj only [go_sem, Nat.reduceBEq, Nat.reduceLT, Nat.reduceLeDiff, Nat.reduceAdd, Nat.reduceMul, ↓reduceIte, Int.reduceToNat, Int.reducePow, Int.reduceLT, Int.reduceLE, Int.reduceAdd, Int.reduceSub, Int.reduceMul, Int.reduceEq, Int.reduceNe]
        exact hall _
      · intro y hy
        rcases (by omega : y = 0 ∨ y = 1) with rfl | rfl
        · have hr : keepH (H2 c cap rowBA) c = some (.row 9 1 cap rowBA) := (hall _).1
          have hw : IntKind.i64.wrap (1 - 1) = 0 := by decide
          have hl := Less_ok sA sB
          rw [lAB] at hl
          simp -implicitDefEqProofs -proj only [go_sem, Nat.reduceBEq, Nat.reduceLT, Nat.reduceLeDiff, Nat.reduceAdd, Nat.reduceMul, ↓reduceIte, Int.reduceToNat, Int.reducePow, Int.reduceLT, Int.reduceLE, Int.reduceAdd, Int.reduceSub, Int.reduceMul, Int.reduceEq, Int.reduceNe, hr]
          (repeat' (with_reducible refine VC_intro ?_ (fun h => ?_); (focus first | decide | omega); clear h; try simp -implicitDefEqProofs -proj only [go_sem, Nat.reduceBEq, Nat.reduceLT, Nat.reduceLeDiff, Nat.reduceAdd, Nat.reduceMul, ↓reduceIte, Int.reduceToNat, Int.reducePow, Int.reduceLT, Int.reduceLE, Int.reduceAdd, Int.reduceSub, Int.reduceMul, Int.reduceEq, Int.reduceNe, eq_self, hr]))
          refine IdxE_1 _ rfl (by simp) ?_
          simp -implicitDefEqProofs -proj only [go_sem, Nat.reduceBEq, Nat.reduceLT, Nat.reduceLeDiff, Nat.reduceAdd, Nat.reduceMul, ↓reduceIte, Int.reduceToNat, Int.reducePow, Int.reduceLT, Int.reduceLE, Int.reduceAdd, Int.reduceSub, Int.reduceMul, Int.reduceEq, Int.reduceNe, hr]
          refine IdxE_1 _ rfl (by simp) ?_
          simp -implicitDefEqProofs -proj only [go_sem, Nat.reduceBEq, Nat.reduceLT, Nat.reduceLeDiff, Nat.reduceAdd, Nat.reduceMul, ↓reduceIte, Int.reduceToNat, Int.reducePow, Int.reduceLT, Int.reduceLE, Int.reduceAdd, Int.reduceSub, Int.reduceMul, Int.reduceEq, Int.reduceNe, hr]
          refine CallA_pure hl ?_
          simp -implicitDefEqProofs -proj only [go_sem, Nat.reduceBEq, Nat.reduceLT, Nat.reduceLeDiff, Nat.reduceAdd, Nat.reduceMul, ↓reduceIte, Int.reduceToNat, Int.reducePow, Int.reduceLT, Int.reduceLE, Int.reduceAdd, Int.reduceSub, Int.reduceMul, Int.reduceEq, Int.reduceNe, hr]
          (repeat' (with_reducible refine VC_intro ?_ (fun h => ?_); (focus first | decide | omega); clear h; try simp -implicitDefEqProofs -proj only [go_sem, Nat.reduceBEq, Nat.reduceLT, Nat.reduceLeDiff, Nat.reduceAdd, Nat.reduceMul, ↓reduceIte, Int.reduceToNat, Int.reducePow, Int.reduceLT, Int.reduceLE, Int.reduceAdd, Int.reduceSub, Int.reduceMul, Int.reduceEq, Int.reduceNe, eq_self, hr]))
          refine IdxE_1 _ rfl (by simp) ?_
          simp -implicitDefEqProofs -proj only [go_sem, Nat.reduceBEq, Nat.reduceLT, Nat.reduceLeDiff, Nat.reduceAdd, Nat.reduceMul, ↓reduceIte, Int.reduceToNat, Int.reducePow, Int.reduceLT, Int.reduceLE, Int.reduceAdd, Int.reduceSub, Int.reduceMul, Int.reduceEq, Int.reduceNe, hr]
          refine IdxE_1 _ rfl (by simp) ?_
          simp -implicitDefEqProofs -proj only [go_sem, Nat.reduceBEq, Nat.reduceLT, Nat.reduceLeDiff, Nat.reduceAdd, Nat.reduceMul, ↓reduceIte, Int.reduceToNat, Int.reducePow, Int.reduceLT, Int.reduceLE, Int.reduceAdd, Int.reduceSub, Int.reduceMul, Int.reduceEq, Int.reduceNe, hr]
          (repeat' (with_reducible refine VC_intro ?_ (fun h => ?_); (focus first | decide | omega); clear h; try simp -implicitDefEqProofs -proj only [go_sem, Nat.reduceBEq, Nat.reduceLT, Nat.reduceLeDiff, Nat.reduceAdd, Nat.reduceMul, ↓reduceIte, Int.reduceToNat, Int.reducePow, Int.reduceLT, Int.reduceLE, Int.reduceAdd, Int.reduceSub, Int.reduceMul, Int.reduceEq, Int.reduceNe, eq_self, hr]))
          refine StoreE_1 (cap := cap) (t := 9) (xs := rowBA) hr rfl (by simp) ?_
          simp -implicitDefEqProofs -proj only [go_sem, Nat.reduceBEq, Nat.reduceLT, Nat.reduceLeDiff, Nat.reduceAdd, Nat.reduceMul, ↓reduceIte, Int.reduceToNat, Int.reducePow, Int.reduceLT, Int.reduceLE, Int.reduceAdd, Int.reduceSub, Int.reduceMul, Int.reduceEq, Int.reduceNe]
          (repeat' (with_reducible refine VC_intro ?_ (fun h => ?_); (focus first | decide | omega); clear h; try simp -implicitDefEqProofs -proj only [go_sem, Nat.reduceBEq, Nat.reduceLT, Nat.reduceLeDiff, Nat.reduceAdd, Nat.reduceMul, ↓reduceIte, Int.reduceToNat, Int.reducePow, Int.reduceLT, Int.reduceLE, Int.reduceAdd, Int.reduceSub, Int.reduceMul, Int.reduceEq, Int.reduceNe, eq_self]))
          refine StoreE_1 (cap := cap) (t := 9) (xs := [[.str sB], [.str sB]]) (by simp -implicitDefEqProofs -proj only [go_sem, Nat.reduceBEq, Nat.reduceLT, Nat.reduceLeDiff, Nat.reduceAdd, Nat.reduceMul, ↓reduceIte, Int.reduceToNat, Int.reducePow, Int.reduceLT, Int.reduceLE, Int.reduceAdd, Int.reduceSub, Int.reduceMul, Int.reduceEq, Int.reduceNe]; rfl) rfl (by simp) ?_
          simp -implicitDefEqProofs -proj only [go_sem, Nat.reduceBEq, Nat.reduceLT, Nat.reduceLeDiff, Nat.reduceAdd, Nat.reduceMul, ↓reduceIte, Int.reduceToNat, Int.reducePow, Int.reduceLT, Int.reduceLE, Int.reduceAdd, Int.reduceSub, Int.reduceMul, Int.reduceEq, Int.reduceNe, hw0]
          refine LoopQ_k 1 (by omega) (by omega) rfl ?_ ?_
          · simp -implicitDefEqProofs -proj only [go_sem, Nat.reduceBEq, Nat.reduceLT, Nat.reduceLeDiff, Nat.reduceAdd, Nat.reduceMul, ↓reduceIte, Int.reduceToNat, Int.reducePow, Int.reduceLT, Int.reduceLE, Int.reduceAdd, Int.reduceSub, Int.reduceMul, Int.reduceEq, Int.reduceNe, AllAt]
          · simp -implicitDefEqProofs -proj only [go_sem, Nat.reduceBEq, Nat.reduceLT, Nat.reduceLeDiff, Nat.reduceAdd, Nat.reduceMul, ↓reduceIte, Int.reduceToNat, Int.reducePow, Int.reduceLT, Int.reduceLE, Int.reduceAdd, Int.reduceSub, Int.reduceMul, Int.reduceEq, Int.reduceNe, AllH]
            rfl
        · simp -implicitDefEqProofs -proj only [go_sem, Nat.reduceBEq, Nat.reduceLT, Nat.reduceLeDiff, Nat.reduceAdd, Nat.reduceMul, ↓reduceIte, Int.reduceToNat, Int.reducePow, Int.reduceLT, Int.reduceLE, Int.reduceAdd, Int.reduceSub, Int.reduceMul, Int.reduceEq, Int.reduceNe]
          refine LoopQ_k 1 (by omega) (by omega) rfl ?_ ?_
          · simp -implicitDefEqProofs -proj only [go_sem, Nat.reduceBEq, Nat.reduceLT, Nat.reduceLeDiff, Nat.reduceAdd, Nat.reduceMul, ↓reduceIte, Int.reduceToNat, Int.reducePow, Int.reduceLT, Int.reduceLE, Int.reduceAdd, Int.reduceSub, Int.reduceMul, Int.reduceEq, Int.reduceNe, AllAt, hw2]
          · simp -implicitDefEqProofs -proj only [go_sem, Nat.reduceBEq, Nat.reduceLT, Nat.reduceLeDiff, Nat.reduceAdd, Nat.reduceMul, ↓reduceIte, Int.reduceToNat, Int.reducePow, Int.reduceLT, Int.reduceLE, Int.reduceAdd, Int.reduceSub, Int.reduceMul, Int.reduceEq, Int.reduceNe]
            exact hall _
    · have hr : keepH (H2 c cap rowAB) c = some (.row 9 1 cap rowAB) := (hall _).1
      simp -implicitDefEqProofs -proj only [go_sem, Nat.reduceBEq, Nat.reduceLT, Nat.reduceLeDiff, Nat.reduceAdd, Nat.reduceMul, ↓reduceIte, Int.reduceToNat, Int.reducePow, Int.reduceLT, Int.reduceLE, Int.reduceAdd, Int.reduceSub, Int.reduceMul, Int.reduceEq, Int.reduceNe]
      rfl
theorem pdq2_ok {c cap cp : Nat} {lim : Int} : CallW Try.prog f_slices_pdqsortOrdered_string [.own c 1 0 2 cp, i64 0, i64 2, i64 lim] (keepH (H2 c cap rowBA)) fun _ H' => H' c = some (.row 9 1 cap rowAB) := by
  have hall : ∀ xs, AllH (keepH (H2 c cap xs)) (H2 c cap xs) := fun xs => keepH_all (by simp [keys])
  have hw2 : IntKind.i64.wrap 2 = 2 := by decide
  refine CallW_intro comp_slices_pdqsortOrdered_string (by simp) ?_
  simp -implicitDefEqProofs -proj only [go_sem, Nat.reduceBEq, Nat.reduceLT, Nat.reduceLeDiff, Nat.reduceAdd, Nat.reduceMul, ↓reduceIte, Int.reduceToNat, Int.reducePow, Int.reduceLT, Int.reduceLE, Int.reduceAdd, Int.reduceSub, Int.reduceMul, Int.reduceEq, Int.reduceNe]
  refine LoopA_k (fun x : Nat => x = 0) 134 (fun x => [(0, .own c 1 0 2 cp), (1, i64 0), (2, i64 2), (3, i64 lim)]) (fun x => H2 c cap rowBA) (fun x => x) 0 rfl rfl ?_ ?_ ?_
  · simp -implicitDefEqProofs -proj only [go_sem, Nat.reduceBEq, Nat.reduceLT, Nat.reduceLeDiff, Nat.reduceAdd, Nat.reduceMul, ↓reduceIte, Int.reduceToNat, Int.reducePow, Int.reduceLT, Int.reduceLE, Int.reduceAdd, Int.reduceSub, Int.reduceMul, Int.reduceEq, Int.reduceNe, AllAt]
  · exact hall _
  · rintro x rfl
    simp -implicitDefEqProofs -proj only [go_sem, Nat.reduceBEq, Nat.reduceLT, Nat.reduceLeDiff, Nat.reduceAdd, Nat.reduceMul, ↓reduceIte, Int.reduceToNat, Int.reducePow, Int.reduceLT, Int.reduceLE, Int.reduceAdd, Int.reduceSub, Int.reduceMul, Int.reduceEq, Int.reduceNe, hw2]
    refine CallA_w ins2_ok (fun r H' hk => ?_)
    simp -implicitDefEqProofs -proj only [go_sem, Nat.reduceBEq, Nat.reduceLT, Nat.reduceLeDiff, Nat.reduceAdd, Nat.reduceMul, ↓reduceIte, Int.reduceToNat, Int.reducePow, Int.reduceLT, Int.reduceLE, Int.reduceAdd, Int.reduceSub, Int.reduceMul, Int.reduceEq, Int.reduceNe]
    exact hk
set_option maxRecDepth 100000 in
theorem Len64_ok : DataW Try.prog f_bits_Len64 [.d (.int .u64 2)] (i64 2) := by
  refine CallW_intro comp_bits_Len64 (by simp) ?_
  simp -implicitDefEqProofs -proj only [go_sem, Nat.reduceBEq, Nat.reduceLT, Nat.reduceLeDiff, Nat.reduceAdd, Nat.reduceMul, ↓reduceIte, Int.reduceToNat, Int.reducePow, Int.reduceLT, Int.reduceLE, Int.reduceAdd, Int.reduceSub, Int.reduceMul, Int.reduceEq, Int.reduceNe]
  refine VC_intro (by decide +kernel) (fun _ => ?_)
  exact LendV_eq (i64_congr (by decide +kernel))
theorem Len_ok : DataW Try.prog f_bits_Len [.d (.int .u64 2)] (i64 2) := by
  refine CallW_intro comp_bits_Len (by simp) ?_
  simp -implicitDefEqProofs -proj only [go_sem, Nat.reduceBEq, Nat.reduceLT, Nat.reduceLeDiff, Nat.reduceAdd, Nat.reduceMul, ↓reduceIte, Int.reduceToNat, Int.reducePow, Int.reduceLT, Int.reduceLE, Int.reduceAdd, Int.reduceSub, Int.reduceMul, Int.reduceEq, Int.reduceNe]
  refine CallA_pure Len64_ok ?_
  simp -implicitDefEqProofs -proj only [go_sem, Nat.reduceBEq, Nat.reduceLT, Nat.reduceLeDiff, Nat.reduceAdd, Nat.reduceMul, ↓reduceIte, Int.reduceToNat, Int.reducePow, Int.reduceLT, Int.reduceLE, Int.reduceAdd, Int.reduceSub, Int.reduceMul, Int.reduceEq, Int.reduceNe]
  exact LendV_eq rfl
theorem Sort2_ok {H : Heap} {c cap cp : Nat} (h : H c = some (.row 9 1 cap rowBA)) : CallW Try.prog f_slices_Sort_string_string [.own c 1 0 2 cp] H fun _ H' => H' c = some (.row 9 1 cap rowAB) ∧ ∀ k x, ¬ k = c → H k = some x → H' k = some x := by
  have hall : AllH (keepH (H2 c cap rowBA)) (H2 c cap rowBA) := keepH_all (by simp [keys])
  refine CallW_intro comp_slices_Sort_string_string (by simp) ?_
  have hw2 : IntKind.u64.wrap 2 = 2 := by decide
  simp -implicitDefEqProofs -proj only [go_sem, Nat.reduceBEq, Nat.reduceLT, Nat.reduceLeDiff, Nat.reduceAdd, Nat.reduceMul, ↓reduceIte, Int.reduceToNat, Int.reducePow, Int.reduceLT, Int.reduceLE, Int.reduceAdd, Int.reduceSub, Int.reduceMul, Int.reduceEq, Int.reduceNe, hw2]
  refine CallA_pure Len_ok ?_
  simp -implicitDefEqProofs -proj only [go_sem, Nat.reduceBEq, Nat.reduceLT, Nat.reduceLeDiff, Nat.reduceAdd, Nat.reduceMul, ↓reduceIte, Int.reduceToNat, Int.reducePow, Int.reduceLT, Int.reduceLE, Int.reduceAdd, Int.reduceSub, Int.reduceMul, Int.reduceEq, Int.reduceNe]
  refine CallA_w (CallW_frame (pdq2_ok (c := c) (cap := cap) (cp := cp) (lim := 2)) (keepH_subs ⟨h, trivial⟩)) (fun r H' hk => ?_)
  obtain ⟨H1, h1, h2, h3⟩ := hk
  simp -implicitDefEqProofs -proj only [go_sem, Nat.reduceBEq, Nat.reduceLT, Nat.reduceLeDiff, Nat.reduceAdd, Nat.reduceMul, ↓reduceIte, Int.reduceToNat, Int.reducePow, Int.reduceLT, Int.reduceLE, Int.reduceAdd, Int.reduceSub, Int.reduceMul, Int.reduceEq, Int.reduceNe]
  refine ⟨h2 c _ h1, fun k x hk hx => h3 k x hx ?_⟩
  simp -implicitDefEqProofs -proj only [go_sem, Nat.reduceBEq, Nat.reduceLT, Nat.reduceLeDiff, Nat.reduceAdd, Nat.reduceMul, ↓reduceIte, Int.reduceToNat, Int.reducePow, Int.reduceLT, Int.reduceLE, Int.reduceAdd, Int.reduceSub, Int.reduceMul, Int.reduceEq, Int.reduceNe, hk]
  try rfl
abbrev s0 : ByteArray := ⟨⟨[]⟩⟩
abbrev sP : ByteArray := ⟨⟨[112]⟩⟩
abbrev rowsP (col : Int) : List (List D) := [[.str sB, .str s0, .int .i64 0, .int .i64 0, .int .i64 col], [.str sA, .str s0, .int .i64 0, .int .i64 0, .int .i64 0]]
abbrev rowsF : List (List D) := [[.int .i64 5, .bool false, .int .i64 0, .int .i64 0, .int .i64 0, .int .i64 0, .int .i64 0, .int .i64 0, .int .i64 0, .int .i64 0]]
abbrev planL (M F : List (List D)) (ln : Int) : List AV := [.d (.str sP), .d (.str s0), i64 0, i64 0, i64 0, i64 0, i64 0, i64 0, .d (.sl 5 M), .d (.sl 10 F), .d (.sl 16 []), i64 ln, i64 0]
abbrev planV (M F : List (List D)) (ln : Int) : AV := .agg (planL M F ln)
structure NmX where
  i : Nat
  c : Nat
  cap : Nat
theorem nm_i {i c cap : Nat} : (NmX.mk i c cap).i = i := (rfl)
theorem nm_c {i c cap : Nat} : (NmX.mk i c cap).c = c := (rfl)
theorem nm_cap {i c cap : Nat} : (NmX.mk i c cap).cap = cap := (rfl)
def nmB (b1 : Nat) (y : NmX) : List (Nat × Blk) := rowH 9 1 y.c y.cap (rowBA.take y.i) ++ [(b1, .box 28 (planL (rowsP 0) [] 0))]
theorem Names_new : NewW Try.prog f_tree_Names [planV (rowsP 0) [] 0] (.d (.sl 1 rowAB)) := by
  have hw1 : IntKind.i64.wrap 1 = 1 := by decide
  have hw2 : IntKind.i64.wrap 2 = 2 := by decide
  refine CallW_intro comp_tree_Names (by simp) ?_
  simp -implicitDefEqProofs -proj only [go_sem, Nat.reduceBEq, Nat.reduceLT, Nat.reduceLeDiff, Nat.reduceAdd, Nat.reduceMul, ↓reduceIte, Int.reduceToNat, Int.reducePow, Int.reduceLT, Int.reduceLE, Int.reduceAdd, Int.reduceSub, Int.reduceMul, Int.reduceEq, Int.reduceNe]
  refine AllocA_intro (fun b1 hb1 => ?_)
  have a1 := alloc_all (x := .box 28 (planL (rowsP 0) [] 0)) hb1 (l := []) trivial
  have k1 := alloc_keys (x := .box 28 (planL (rowsP 0) [] 0)) hb1 (l := []) trivial List.nodup_nil
  simp -implicitDefEqProofs -proj only [go_sem, Nat.reduceBEq, Nat.reduceLT, Nat.reduceLeDiff, Nat.reduceAdd, Nat.reduceMul, ↓reduceIte, Int.reduceToNat, Int.reducePow, Int.reduceLT, Int.reduceLE, Int.reduceAdd, Int.reduceSub, Int.reduceMul, Int.reduceEq, Int.reduceNe]
  refine LoopA_k (fun y : NmX => y.i ≤ 2 ∧ (keys (nmB b1 y)).Nodup) 22 (fun y => [(1, .ptr b1 0), (3, rowV 0 1 y.c y.cap (rowBA.take y.i)), (7, .d (.sl 5 (rowsP 0))), (8, i64 2), (9, i64 y.i)]) (nmB b1) (fun y => 2 - y.i) ⟨0, 0, 0⟩ ⟨Nat.zero_le _, k1⟩ rfl ?_ ?_ ?_
  · simp -implicitDefEqProofs -proj only [go_sem, Nat.reduceBEq, Nat.reduceLT, Nat.reduceLeDiff, Nat.reduceAdd, Nat.reduceMul, ↓reduceIte, Int.reduceToNat, Int.reducePow, Int.reduceLT, Int.reduceLE, Int.reduceAdd, Int.reduceSub, Int.reduceMul, Int.reduceEq, Int.reduceNe, AllAt, nm_i, nm_c, nm_cap]
    try rfl
  · simp -implicitDefEqProofs -proj only [go_sem, Nat.reduceBEq, Nat.reduceLT, Nat.reduceLeDiff, Nat.reduceAdd, Nat.reduceMul, ↓reduceIte, Int.reduceToNat, Int.reducePow, Int.reduceLT, Int.reduceLE, Int.reduceAdd, Int.reduceSub, Int.reduceMul, Int.reduceEq, Int.reduceNe]
    exact a1
  · rintro ⟨i, c, cap⟩ ⟨hi, hn⟩
    simp -implicitDefEqProofs only [nm_i] at hi
    have hall := keepH_all hn
    obtain ⟨H, hH⟩ : ∃ H, keepH (nmB b1 ⟨i, c, cap⟩) = H := ⟨_, rfl⟩
    rw [hH] at hall
    simp -implicitDefEqProofs only [nmB, nm_i, nm_c, nm_cap] at hall hn
    obtain ⟨hrow, e1, _⟩ := AllH_app.1 hall
    rcases (by omega : i = 0 ∨ i = 1 ∨ i = 2) with rfl | rfl | rfl
    · simp -implicitDefEqProofs -proj only [go_sem, Nat.reduceBEq, Nat.reduceLT, Nat.reduceLeDiff, Nat.reduceAdd, Nat.reduceMul, ↓reduceIte, Int.reduceToNat, Int.reducePow, Int.reduceLT, Int.reduceLE, Int.reduceAdd, Int.reduceSub, Int.reduceMul, Int.reduceEq, Int.reduceNe, nm_i, nm_c, nm_cap, hH, e1]
      refine ElemA_at [.str sB, .str s0, .int .i64 0, .int .i64 0, .int .i64 0] (by decide) rfl ?_
      simp -implicitDefEqProofs -proj only [go_sem, Nat.reduceBEq, Nat.reduceLT, Nat.reduceLeDiff, Nat.reduceAdd, Nat.reduceMul, ↓reduceIte, Int.reduceToNat, Int.reducePow, Int.reduceLT, Int.reduceLE, Int.reduceAdd, Int.reduceSub, Int.reduceMul, Int.reduceEq, Int.reduceNe]
      refine AllocA_intro (fun b5 hb5 => ?_)
      replace hb5 : H b5 = none := hb5
      simp -implicitDefEqProofs -proj only [go_sem, Nat.reduceBEq, Nat.reduceLT, Nat.reduceLeDiff, Nat.reduceAdd, Nat.reduceMul, ↓reduceIte, Int.reduceToNat, Int.reducePow, Int.reduceLT, Int.reduceLE, Int.reduceAdd, Int.reduceSub, Int.reduceMul, Int.reduceEq, Int.reduceNe]
      refine AllocR_intro (fun bs hs' => ?_)
      have hall2 := AllH_upd (y := some (.box 34 [.d (.str sB), .d (.str s0), i64 0, i64 0, i64 0])) hb5 hall
      replace hs' : upd H b5 _ bs = none := hs'
      simp -implicitDefEqProofs -proj only [go_sem, Nat.reduceBEq, Nat.reduceLT, Nat.reduceLeDiff, Nat.reduceAdd, Nat.reduceMul, ↓reduceIte, Int.reduceToNat, Int.reducePow, Int.reduceLT, Int.reduceLE, Int.reduceAdd, Int.reduceSub, Int.reduceMul, Int.reduceEq, Int.reduceNe]
      refine AppendA_grow (xs := rowBA.take 0) (y := [.str sB]) (t := 9) (capc := 1) [(b1, .box 28 (planL (rowsP 0) [] 0))] rfl (AllH_upd hs' hall2) hn (by simp -implicitDefEqProofs -proj only [go_sem, Nat.reduceBEq, Nat.reduceLT, Nat.reduceLeDiff, Nat.reduceAdd, Nat.reduceMul, ↓reduceIte, Int.reduceToNat, Int.reducePow, Int.reduceLT, Int.reduceLE, Int.reduceAdd, Int.reduceSub, Int.reduceMul, Int.reduceEq, Int.reduceNe]) (by decide) (by decide) (fun H' c' cap' ha hk => ?_)
      simp -implicitDefEqProofs -proj only [go_sem, Nat.reduceBEq, Nat.reduceLT, Nat.reduceLeDiff, Nat.reduceAdd, Nat.reduceMul, ↓reduceIte, Int.reduceToNat, Int.reducePow, Int.reduceLT, Int.reduceLE, Int.reduceAdd, Int.reduceSub, Int.reduceMul, Int.reduceEq, Int.reduceNe, hw1]
      refine LoopQ_k ⟨1, c', cap'⟩ ⟨by show 1 ≤ 2; omega, hk⟩ (by show 2 - 1 < 2 - 0; omega) rfl ?_ ha
      simp -implicitDefEqProofs -proj only [go_sem, Nat.reduceBEq, Nat.reduceLT, Nat.reduceLeDiff, Nat.reduceAdd, Nat.reduceMul, ↓reduceIte, Int.reduceToNat, Int.reducePow, Int.reduceLT, Int.reduceLE, Int.reduceAdd, Int.reduceSub, Int.reduceMul, Int.reduceEq, Int.reduceNe, AllAt, nm_i, nm_c, nm_cap, hw1]
      try rfl
    · simp -implicitDefEqProofs -proj only [go_sem, Nat.reduceBEq, Nat.reduceLT, Nat.reduceLeDiff, Nat.reduceAdd, Nat.reduceMul, ↓reduceIte, Int.reduceToNat, Int.reducePow, Int.reduceLT, Int.reduceLE, Int.reduceAdd, Int.reduceSub, Int.reduceMul, Int.reduceEq, Int.reduceNe, nm_i, nm_c, nm_cap, hH, e1]
      refine ElemA_at [.str sA, .str s0, .int .i64 0, .int .i64 0, .int .i64 0] (by decide) rfl ?_
      simp -implicitDefEqProofs -proj only [go_sem, Nat.reduceBEq, Nat.reduceLT, Nat.reduceLeDiff, Nat.reduceAdd, Nat.reduceMul, ↓reduceIte, Int.reduceToNat, Int.reducePow, Int.reduceLT, Int.reduceLE, Int.reduceAdd, Int.reduceSub, Int.reduceMul, Int.reduceEq, Int.reduceNe]
      refine AllocA_intro (fun b5 hb5 => ?_)
      replace hb5 : H b5 = none := hb5
      simp -implicitDefEqProofs -proj only [go_sem, Nat.reduceBEq, Nat.reduceLT, Nat.reduceLeDiff, Nat.reduceAdd, Nat.reduceMul, ↓reduceIte, Int.reduceToNat, Int.reducePow, Int.reduceLT, Int.reduceLE, Int.reduceAdd, Int.reduceSub, Int.reduceMul, Int.reduceEq, Int.reduceNe]
      refine AllocR_intro (fun bs hs' => ?_)
      have hall2 := AllH_upd (y := some (.box 34 [.d (.str sA), .d (.str s0), i64 0, i64 0, i64 0])) hb5 hall
      replace hs' : upd H b5 _ bs = none := hs'
      simp -implicitDefEqProofs -proj only [go_sem, Nat.reduceBEq, Nat.reduceLT, Nat.reduceLeDiff, Nat.reduceAdd, Nat.reduceMul, ↓reduceIte, Int.reduceToNat, Int.reducePow, Int.reduceLT, Int.reduceLE, Int.reduceAdd, Int.reduceSub, Int.reduceMul, Int.reduceEq, Int.reduceNe]
      refine AppendA_grow (xs := rowBA.take 1) (y := [.str sA]) (t := 9) (capc := 1) [(b1, .box 28 (planL (rowsP 0) [] 0))] rfl (AllH_upd hs' hall2) hn (by simp -implicitDefEqProofs -proj only [go_sem, Nat.reduceBEq, Nat.reduceLT, Nat.reduceLeDiff, Nat.reduceAdd, Nat.reduceMul, ↓reduceIte, Int.reduceToNat, Int.reducePow, Int.reduceLT, Int.reduceLE, Int.reduceAdd, Int.reduceSub, Int.reduceMul, Int.reduceEq, Int.reduceNe]) (by decide) (by decide) (fun H' c' cap' ha hk => ?_)
      simp -implicitDefEqProofs -proj only [go_sem, Nat.reduceBEq, Nat.reduceLT, Nat.reduceLeDiff, Nat.reduceAdd, Nat.reduceMul, ↓reduceIte, Int.reduceToNat, Int.reducePow, Int.reduceLT, Int.reduceLE, Int.reduceAdd, Int.reduceSub, Int.reduceMul, Int.reduceEq, Int.reduceNe, hw2]
      refine LoopQ_k ⟨2, c', cap'⟩ ⟨by show 2 ≤ 2; omega, hk⟩ (by show 2 - 2 < 2 - 1; omega) rfl ?_ ha
      simp -implicitDefEqProofs -proj only [go_sem, Nat.reduceBEq, Nat.reduceLT, Nat.reduceLeDiff, Nat.reduceAdd, Nat.reduceMul, ↓reduceIte, Int.reduceToNat, Int.reducePow, Int.reduceLT, Int.reduceLE, Int.reduceAdd, Int.reduceSub, Int.reduceMul, Int.reduceEq, Int.reduceNe, AllAt, nm_i, nm_c, nm_cap, hw2]
      try rfl
    · simp -implicitDefEqProofs -proj only [go_sem, Nat.reduceBEq, Nat.reduceLT, Nat.reduceLeDiff, Nat.reduceAdd, Nat.reduceMul, ↓reduceIte, Int.reduceToNat, Int.reducePow, Int.reduceLT, Int.reduceLE, Int.reduceAdd, Int.reduceSub, Int.reduceMul, Int.reduceEq, Int.reduceNe, nm_i, nm_c, nm_cap, hH]
      refine CallA_w (Sort2_ok (cap := cap) hrow.1) (fun r H' hk => ?_)
      obtain ⟨h1, h2⟩ := hk
      simp -implicitDefEqProofs -proj only [go_sem, Nat.reduceBEq, Nat.reduceLT, Nat.reduceLeDiff, Nat.reduceAdd, Nat.reduceMul, ↓reduceIte, Int.reduceToNat, Int.reducePow, Int.reduceLT, Int.reduceLE, Int.reduceAdd, Int.reduceSub, Int.reduceMul, Int.reduceEq, Int.reduceNe]
      exact .own _ _ _ _ _ rowAB h1 (by intro el he d hd; simp -implicitDefEqProofs only [List.mem_cons, List.not_mem_nil, or_false] at he; rcases he with rfl | rfl <;> (simp -implicitDefEqProofs only [List.mem_cons, List.not_mem_nil, or_false] at hd; subst hd; rfl))
theorem mtr_ok {x y : ByteArray} {c d : Int} (h : x.toList == y.toList) : DataW Try.prog f_tree_meter [.agg [.d (.str x), .d (.str s0), i64 0, i64 0, i64 c], .agg [.d (.str y), .d (.str s0), i64 0, i64 0, i64 d]] (bv true) := by
  refine CallW_intro comp_tree_meter (by simp) ?_
  simp -implicitDefEqProofs -proj only [go_sem, Nat.reduceBEq, Nat.reduceLT, Nat.reduceLeDiff, Nat.reduceAdd, Nat.reduceMul, ↓reduceIte, Int.reduceToNat, Int.reducePow, Int.reduceLT, Int.reduceLE, Int.reduceAdd, Int.reduceSub, Int.reduceMul, Int.reduceEq, Int.reduceNe]
  refine AllocA_intro (fun b2 hb2 => ?_)
  simp -implicitDefEqProofs -proj only [go_sem, Nat.reduceBEq, Nat.reduceLT, Nat.reduceLeDiff, Nat.reduceAdd, Nat.reduceMul, ↓reduceIte, Int.reduceToNat, Int.reducePow, Int.reduceLT, Int.reduceLE, Int.reduceAdd, Int.reduceSub, Int.reduceMul, Int.reduceEq, Int.reduceNe]
  refine AllocA_intro (fun b3 hb3 => ?_)
  replace hb3 : upd Heap.none b2 _ b3 = none := hb3
  obtain ⟨n1, n2⟩ := fresh_ne hb3 upd_eq
  simp -implicitDefEqProofs -proj only [go_sem, Nat.reduceBEq, Nat.reduceLT, Nat.reduceLeDiff, Nat.reduceAdd, Nat.reduceMul, ↓reduceIte, Int.reduceToNat, Int.reducePow, Int.reduceLT, Int.reduceLE, Int.reduceAdd, Int.reduceSub, Int.reduceMul, Int.reduceEq, Int.reduceNe, n1, n2, Bin_seql, h, beq_self_eq_true, decide_eq_true (rfl : (0 : Int) = 0)]
  exact LendV_eq rfl
theorem EqM_ok {c d : Int} : DataW Try.prog f_slices_EqualFunc_api_Meter [.d (.sl 5 (rowsP c)), .d (.sl 5 (rowsP d)), .fn f_tree_meter []] (bv true) := by
  have hw1 : IntKind.i64.wrap 1 = 1 := by decide
  have hw2 : IntKind.i64.wrap 2 = 2 := by decide
  refine CallW_intro comp_slices_EqualFunc_api_Meter (by simp) ?_
  simp -implicitDefEqProofs -proj only [go_sem, Nat.reduceBEq, Nat.reduceLT, Nat.reduceLeDiff, Nat.reduceAdd, Nat.reduceMul, ↓reduceIte, Int.reduceToNat, Int.reducePow, Int.reduceLT, Int.reduceLE, Int.reduceAdd, Int.reduceSub, Int.reduceMul, Int.reduceEq, Int.reduceNe]
  refine LoopA_k (fun i : Nat => i ≤ 2) 32 (fun i => [(0, .d (.sl 5 (rowsP c))), (1, .d (.sl 5 (rowsP d))), (2, .fn f_tree_meter []), (15, .d (.sl 5 (rowsP c))), (16, i64 2), (17, i64 i)]) (fun _ => []) (fun i => 2 - i) 0 (by omega) rfl ?_ ?_ ?_
  · simp -implicitDefEqProofs -proj only [go_sem, Nat.reduceBEq, Nat.reduceLT, Nat.reduceLeDiff, Nat.reduceAdd, Nat.reduceMul, ↓reduceIte, Int.reduceToNat, Int.reducePow, Int.reduceLT, Int.reduceLE, Int.reduceAdd, Int.reduceSub, Int.reduceMul, Int.reduceEq, Int.reduceNe, AllAt]
    try rfl
  · simp -implicitDefEqProofs -proj only [go_sem, Nat.reduceBEq, Nat.reduceLT, Nat.reduceLeDiff, Nat.reduceAdd, Nat.reduceMul, ↓reduceIte, Int.reduceToNat, Int.reducePow, Int.reduceLT, Int.reduceLE, Int.reduceAdd, Int.reduceSub, Int.reduceMul, Int.reduceEq, Int.reduceNe, AllH]
  · intro i hi
    rcases (by omega : i = 0 ∨ i = 1 ∨ i = 2) with rfl | rfl | rfl
    · simp -implicitDefEqProofs -proj only [go_sem, Nat.reduceBEq, Nat.reduceLT, Nat.reduceLeDiff, Nat.reduceAdd, Nat.reduceMul, ↓reduceIte, Int.reduceToNat, Int.reducePow, Int.reduceLT, Int.reduceLE, Int.reduceAdd, Int.reduceSub, Int.reduceMul, Int.reduceEq, Int.reduceNe]
      refine ElemA_at [.str sB, .str s0, .int .i64 0, .int .i64 0, .int .i64 c] (by decide) rfl ?_
      simp -implicitDefEqProofs -proj only [go_sem, Nat.reduceBEq, Nat.reduceLT, Nat.reduceLeDiff, Nat.reduceAdd, Nat.reduceMul, ↓reduceIte, Int.reduceToNat, Int.reducePow, Int.reduceLT, Int.reduceLE, Int.reduceAdd, Int.reduceSub, Int.reduceMul, Int.reduceEq, Int.reduceNe]
      refine AllocA_intro (fun b8 hb8 => ?_)
      simp -implicitDefEqProofs -proj only [go_sem, Nat.reduceBEq, Nat.reduceLT, Nat.reduceLeDiff, Nat.reduceAdd, Nat.reduceMul, ↓reduceIte, Int.reduceToNat, Int.reducePow, Int.reduceLT, Int.reduceLE, Int.reduceAdd, Int.reduceSub, Int.reduceMul, Int.reduceEq, Int.reduceNe]
      refine ElemA_at [.str sB, .str s0, .int .i64 0, .int .i64 0, .int .i64 d] (by decide) rfl ?_
      simp -implicitDefEqProofs -proj only [go_sem, Nat.reduceBEq, Nat.reduceLT, Nat.reduceLeDiff, Nat.reduceAdd, Nat.reduceMul, ↓reduceIte, Int.reduceToNat, Int.reducePow, Int.reduceLT, Int.reduceLE, Int.reduceAdd, Int.reduceSub, Int.reduceMul, Int.reduceEq, Int.reduceNe]
      refine AllocA_intro (fun b9 hb9 => ?_)
      simp -implicitDefEqProofs only [upd_get] at hb9
      have n1 : ¬ b8 = b9 := fun e => by subst e; simp at hb9
      have n2 : ¬ b9 = b8 := fun e => n1 e.symm
      simp -implicitDefEqProofs -proj only [go_sem, Nat.reduceBEq, Nat.reduceLT, Nat.reduceLeDiff, Nat.reduceAdd, Nat.reduceMul, ↓reduceIte, Int.reduceToNat, Int.reducePow, Int.reduceLT, Int.reduceLE, Int.reduceAdd, Int.reduceSub, Int.reduceMul, Int.reduceEq, Int.reduceNe, n1, n2]
      refine CallA_pure (mtr_ok (by simp)) ?_
      simp -implicitDefEqProofs -proj only [go_sem, Nat.reduceBEq, Nat.reduceLT, Nat.reduceLeDiff, Nat.reduceAdd, Nat.reduceMul, ↓reduceIte, Int.reduceToNat, Int.reducePow, Int.reduceLT, Int.reduceLE, Int.reduceAdd, Int.reduceSub, Int.reduceMul, Int.reduceEq, Int.reduceNe, hw1]
      refine LoopQ_k 1 (by omega) (by omega) rfl ?_ trivial
      simp -implicitDefEqProofs -proj only [go_sem, Nat.reduceBEq, Nat.reduceLT, Nat.reduceLeDiff, Nat.reduceAdd, Nat.reduceMul, ↓reduceIte, Int.reduceToNat, Int.reducePow, Int.reduceLT, Int.reduceLE, Int.reduceAdd, Int.reduceSub, Int.reduceMul, Int.reduceEq, Int.reduceNe, AllAt, hw1]
      try rfl
    · simp -implicitDefEqProofs -proj only [go_sem, Nat.reduceBEq, Nat.reduceLT, Nat.reduceLeDiff, Nat.reduceAdd, Nat.reduceMul, ↓reduceIte, Int.reduceToNat, Int.reducePow, Int.reduceLT, Int.reduceLE, Int.reduceAdd, Int.reduceSub, Int.reduceMul, Int.reduceEq, Int.reduceNe]
      refine ElemA_at [.str sA, .str s0, .int .i64 0, .int .i64 0, .int .i64 0] (by decide) rfl ?_
      simp -implicitDefEqProofs -proj only [go_sem, Nat.reduceBEq, Nat.reduceLT, Nat.reduceLeDiff, Nat.reduceAdd, Nat.reduceMul, ↓reduceIte, Int.reduceToNat, Int.reducePow, Int.reduceLT, Int.reduceLE, Int.reduceAdd, Int.reduceSub, Int.reduceMul, Int.reduceEq, Int.reduceNe]
      refine AllocA_intro (fun b8 hb8 => ?_)
      simp -implicitDefEqProofs -proj only [go_sem, Nat.reduceBEq, Nat.reduceLT, Nat.reduceLeDiff, Nat.reduceAdd, Nat.reduceMul, ↓reduceIte, Int.reduceToNat, Int.reducePow, Int.reduceLT, Int.reduceLE, Int.reduceAdd, Int.reduceSub, Int.reduceMul, Int.reduceEq, Int.reduceNe]
      refine ElemA_at [.str sA, .str s0, .int .i64 0, .int .i64 0, .int .i64 0] (by decide) rfl ?_
      simp -implicitDefEqProofs -proj only [go_sem, Nat.reduceBEq, Nat.reduceLT, Nat.reduceLeDiff, Nat.reduceAdd, Nat.reduceMul, ↓reduceIte, Int.reduceToNat, Int.reducePow, Int.reduceLT, Int.reduceLE, Int.reduceAdd, Int.reduceSub, Int.reduceMul, Int.reduceEq, Int.reduceNe]
      refine AllocA_intro (fun b9 hb9 => ?_)
      simp -implicitDefEqProofs only [upd_get] at hb9
      have n1 : ¬ b8 = b9 := fun e => by subst e; simp at hb9
      have n2 : ¬ b9 = b8 := fun e => n1 e.symm
      simp -implicitDefEqProofs -proj only [go_sem, Nat.reduceBEq, Nat.reduceLT, Nat.reduceLeDiff, Nat.reduceAdd, Nat.reduceMul, ↓reduceIte, Int.reduceToNat, Int.reducePow, Int.reduceLT, Int.reduceLE, Int.reduceAdd, Int.reduceSub, Int.reduceMul, Int.reduceEq, Int.reduceNe, n1, n2]
      refine CallA_pure (mtr_ok (by simp)) ?_
      simp -implicitDefEqProofs -proj only [go_sem, Nat.reduceBEq, Nat.reduceLT, Nat.reduceLeDiff, Nat.reduceAdd, Nat.reduceMul, ↓reduceIte, Int.reduceToNat, Int.reducePow, Int.reduceLT, Int.reduceLE, Int.reduceAdd, Int.reduceSub, Int.reduceMul, Int.reduceEq, Int.reduceNe, hw2]
      refine LoopQ_k 2 (by omega) (by omega) rfl ?_ trivial
      simp -implicitDefEqProofs -proj only [go_sem, Nat.reduceBEq, Nat.reduceLT, Nat.reduceLeDiff, Nat.reduceAdd, Nat.reduceMul, ↓reduceIte, Int.reduceToNat, Int.reducePow, Int.reduceLT, Int.reduceLE, Int.reduceAdd, Int.reduceSub, Int.reduceMul, Int.reduceEq, Int.reduceNe, AllAt, hw2]
      try rfl
    · simp -implicitDefEqProofs -proj only [go_sem, Nat.reduceBEq, Nat.reduceLT, Nat.reduceLeDiff, Nat.reduceAdd, Nat.reduceMul, ↓reduceIte, Int.reduceToNat, Int.reducePow, Int.reduceLT, Int.reduceLE, Int.reduceAdd, Int.reduceSub, Int.reduceMul, Int.reduceEq, Int.reduceNe]
      exact LendV_eq rfl
theorem EachM_ok {c d : Int} : DataW Try.prog f_tree_Each_api_Meter [.d (.sl 5 (rowsP c)), .d (.sl 5 (rowsP d)), .fn f_tree_meter []] (bv true) := by
  refine CallW_intro comp_tree_Each_api_Meter (by simp) ?_
  simp -implicitDefEqProofs -proj only [go_sem, Nat.reduceBEq, Nat.reduceLT, Nat.reduceLeDiff, Nat.reduceAdd, Nat.reduceMul, ↓reduceIte, Int.reduceToNat, Int.reducePow, Int.reduceLT, Int.reduceLE, Int.reduceAdd, Int.reduceSub, Int.reduceMul, Int.reduceEq, Int.reduceNe]
  refine CallA_pure EqM_ok ?_
  simp -implicitDefEqProofs -proj only [go_sem, Nat.reduceBEq, Nat.reduceLT, Nat.reduceLeDiff, Nat.reduceAdd, Nat.reduceMul, ↓reduceIte, Int.reduceToNat, Int.reducePow, Int.reduceLT, Int.reduceLE, Int.reduceAdd, Int.reduceSub, Int.reduceMul, Int.reduceEq, Int.reduceNe]
  exact LendV_eq rfl
theorem EachC_ok : DataW Try.prog f_tree_Each_api_Charge [.d (.sl 16 []), .d (.sl 16 []), .fn f_tree_charge []] (bv true) := by
  have h : DataW Try.prog f_slices_EqualFunc_api_Charge [.d (.sl 16 []), .d (.sl 16 []), .fn f_tree_charge []] (bv true) := by
    refine CallW_intro comp_slices_EqualFunc_api_Charge (by simp) ?_
    simp -implicitDefEqProofs -proj only [go_sem, Nat.reduceBEq, Nat.reduceLT, Nat.reduceLeDiff, Nat.reduceAdd, Nat.reduceMul, ↓reduceIte, Int.reduceToNat, Int.reducePow, Int.reduceLT, Int.reduceLE, Int.reduceAdd, Int.reduceSub, Int.reduceMul, Int.reduceEq, Int.reduceNe]
    refine LoopA_k (fun i : Nat => i = 0) 32 (fun i => [(16, i64 0), (17, i64 0)]) (fun _ => []) (fun i => i) 0 rfl rfl ?_ ?_ ?_
    · simp -implicitDefEqProofs -proj only [go_sem, Nat.reduceBEq, Nat.reduceLT, Nat.reduceLeDiff, Nat.reduceAdd, Nat.reduceMul, ↓reduceIte, Int.reduceToNat, Int.reducePow, Int.reduceLT, Int.reduceLE, Int.reduceAdd, Int.reduceSub, Int.reduceMul, Int.reduceEq, Int.reduceNe, AllAt]
    · simp -implicitDefEqProofs -proj only [go_sem, Nat.reduceBEq, Nat.reduceLT, Nat.reduceLeDiff, Nat.reduceAdd, Nat.reduceMul, ↓reduceIte, Int.reduceToNat, Int.reducePow, Int.reduceLT, Int.reduceLE, Int.reduceAdd, Int.reduceSub, Int.reduceMul, Int.reduceEq, Int.reduceNe, AllH]
    · rintro i rfl
      simp -implicitDefEqProofs -proj only [go_sem, Nat.reduceBEq, Nat.reduceLT, Nat.reduceLeDiff, Nat.reduceAdd, Nat.reduceMul, ↓reduceIte, Int.reduceToNat, Int.reducePow, Int.reduceLT, Int.reduceLE, Int.reduceAdd, Int.reduceSub, Int.reduceMul, Int.reduceEq, Int.reduceNe]
      exact LendV_eq rfl
  refine CallW_intro comp_tree_Each_api_Charge (by simp) ?_
  simp -implicitDefEqProofs -proj only [go_sem, Nat.reduceBEq, Nat.reduceLT, Nat.reduceLeDiff, Nat.reduceAdd, Nat.reduceMul, ↓reduceIte, Int.reduceToNat, Int.reducePow, Int.reduceLT, Int.reduceLE, Int.reduceAdd, Int.reduceSub, Int.reduceMul, Int.reduceEq, Int.reduceNe]
  refine CallA_pure h ?_
  simp -implicitDefEqProofs -proj only [go_sem, Nat.reduceBEq, Nat.reduceLT, Nat.reduceLeDiff, Nat.reduceAdd, Nat.reduceMul, ↓reduceIte, Int.reduceToNat, Int.reducePow, Int.reduceLT, Int.reduceLE, Int.reduceAdd, Int.reduceSub, Int.reduceMul, Int.reduceEq, Int.reduceNe]
  exact LendV_eq rfl
theorem EachF_ok {F : List (List D)} (hF : F = [] ∨ F = rowsF) : DataW Try.prog f_tree_Each_api_Fee [.d (.sl 10 []), .d (.sl 10 F), .fn f_tree_fee []] (bv (decide (F.length = 0))) := by
  have h : DataW Try.prog f_slices_EqualFunc_api_Fee [.d (.sl 10 []), .d (.sl 10 F), .fn f_tree_fee []] (bv (decide (F.length = 0))) := by
    refine CallW_intro comp_slices_EqualFunc_api_Fee (by simp) ?_
    rcases hF with rfl | rfl
    · simp -implicitDefEqProofs -proj only [go_sem, Nat.reduceBEq, Nat.reduceLT, Nat.reduceLeDiff, Nat.reduceAdd, Nat.reduceMul, ↓reduceIte, Int.reduceToNat, Int.reducePow, Int.reduceLT, Int.reduceLE, Int.reduceAdd, Int.reduceSub, Int.reduceMul, Int.reduceEq, Int.reduceNe]
      refine LoopA_k (fun i : Nat => i = 0) 32 (fun i => [(16, i64 0), (17, i64 0)]) (fun _ => []) (fun i => i) 0 rfl rfl ?_ ?_ ?_
      · simp -implicitDefEqProofs -proj only [go_sem, Nat.reduceBEq, Nat.reduceLT, Nat.reduceLeDiff, Nat.reduceAdd, Nat.reduceMul, ↓reduceIte, Int.reduceToNat, Int.reducePow, Int.reduceLT, Int.reduceLE, Int.reduceAdd, Int.reduceSub, Int.reduceMul, Int.reduceEq, Int.reduceNe, AllAt]
      · simp -implicitDefEqProofs -proj only [go_sem, Nat.reduceBEq, Nat.reduceLT, Nat.reduceLeDiff, Nat.reduceAdd, Nat.reduceMul, ↓reduceIte, Int.reduceToNat, Int.reducePow, Int.reduceLT, Int.reduceLE, Int.reduceAdd, Int.reduceSub, Int.reduceMul, Int.reduceEq, Int.reduceNe, AllH]
      · rintro i rfl
        simp -implicitDefEqProofs -proj only [go_sem, Nat.reduceBEq, Nat.reduceLT, Nat.reduceLeDiff, Nat.reduceAdd, Nat.reduceMul, ↓reduceIte, Int.reduceToNat, Int.reducePow, Int.reduceLT, Int.reduceLE, Int.reduceAdd, Int.reduceSub, Int.reduceMul, Int.reduceEq, Int.reduceNe]
        exact LendV_eq rfl
    · simp -implicitDefEqProofs -proj only [go_sem, Nat.reduceBEq, Nat.reduceLT, Nat.reduceLeDiff, Nat.reduceAdd, Nat.reduceMul, ↓reduceIte, Int.reduceToNat, Int.reducePow, Int.reduceLT, Int.reduceLE, Int.reduceAdd, Int.reduceSub, Int.reduceMul, Int.reduceEq, Int.reduceNe]
      exact LendV_eq rfl
  refine CallW_intro comp_tree_Each_api_Fee (by simp) ?_
  simp -implicitDefEqProofs -proj only [go_sem, Nat.reduceBEq, Nat.reduceLT, Nat.reduceLeDiff, Nat.reduceAdd, Nat.reduceMul, ↓reduceIte, Int.reduceToNat, Int.reducePow, Int.reduceLT, Int.reduceLE, Int.reduceAdd, Int.reduceSub, Int.reduceMul, Int.reduceEq, Int.reduceNe]
  refine CallA_pure h ?_
  simp -implicitDefEqProofs -proj only [go_sem, Nat.reduceBEq, Nat.reduceLT, Nat.reduceLeDiff, Nat.reduceAdd, Nat.reduceMul, ↓reduceIte, Int.reduceToNat, Int.reducePow, Int.reduceLT, Int.reduceLE, Int.reduceAdd, Int.reduceSub, Int.reduceMul, Int.reduceEq, Int.reduceNe]
  exact LendV_eq rfl
theorem Same06_ok {c d e : Int} {F : List (List D)} {u : Bool} (h2 : DataW Try.prog f_tree_Each_api_Fee [.d (.sl 10 []), .d (.sl 10 F), .fn f_tree_fee []] (bv u)) : DataW Try.prog f_tree_Same [planV (rowsP c) [] 0, planV (rowsP d) F e] (bv u) := by
  have h1 := EachM_ok (c := c) (d := d)
  have h3 := EachC_ok
  refine CallW_intro comp_tree_Same (by simp) ?_
  simp -implicitDefEqProofs -proj only [go_sem, Nat.reduceBEq, Nat.reduceLT, Nat.reduceLeDiff, Nat.reduceAdd, Nat.reduceMul, ↓reduceIte, Int.reduceToNat, Int.reducePow, Int.reduceLT, Int.reduceLE, Int.reduceAdd, Int.reduceSub, Int.reduceMul, Int.reduceEq, Int.reduceNe]
  refine AllocA_intro (fun b2 hb2 => ?_)
  simp -implicitDefEqProofs -proj only [go_sem, Nat.reduceBEq, Nat.reduceLT, Nat.reduceLeDiff, Nat.reduceAdd, Nat.reduceMul, ↓reduceIte, Int.reduceToNat, Int.reducePow, Int.reduceLT, Int.reduceLE, Int.reduceAdd, Int.reduceSub, Int.reduceMul, Int.reduceEq, Int.reduceNe]
  refine AllocA_intro (fun b3 hb3 => ?_)
  replace hb3 : upd Heap.none b2 _ b3 = none := hb3
  obtain ⟨n1, n2⟩ := fresh_ne hb3 upd_eq
  simp -implicitDefEqProofs -proj only [go_sem, Nat.reduceBEq, Nat.reduceLT, Nat.reduceLeDiff, Nat.reduceAdd, Nat.reduceMul, ↓reduceIte, Int.reduceToNat, Int.reducePow, Int.reduceLT, Int.reduceLE, Int.reduceAdd, Int.reduceSub, Int.reduceMul, Int.reduceEq, Int.reduceNe, n1, n2, Bin_seql, beq_self_eq_true, decide_eq_true (rfl : (0 : Int) = 0)]
  refine CallA_pure h1 ?_
  simp -implicitDefEqProofs -proj only [go_sem, Nat.reduceBEq, Nat.reduceLT, Nat.reduceLeDiff, Nat.reduceAdd, Nat.reduceMul, ↓reduceIte, Int.reduceToNat, Int.reducePow, Int.reduceLT, Int.reduceLE, Int.reduceAdd, Int.reduceSub, Int.reduceMul, Int.reduceEq, Int.reduceNe, n1, n2]
  refine CallA_pure h2 ?_
  cases u
  · simp -implicitDefEqProofs -proj only [go_sem, Nat.reduceBEq, Nat.reduceLT, Nat.reduceLeDiff, Nat.reduceAdd, Nat.reduceMul, ↓reduceIte, Int.reduceToNat, Int.reducePow, Int.reduceLT, Int.reduceLE, Int.reduceAdd, Int.reduceSub, Int.reduceMul, Int.reduceEq, Int.reduceNe, n1, n2]
    exact LendV_eq rfl
  · simp -implicitDefEqProofs -proj only [go_sem, Nat.reduceBEq, Nat.reduceLT, Nat.reduceLeDiff, Nat.reduceAdd, Nat.reduceMul, ↓reduceIte, Int.reduceToNat, Int.reducePow, Int.reduceLT, Int.reduceLE, Int.reduceAdd, Int.reduceSub, Int.reduceMul, Int.reduceEq, Int.reduceNe, n1, n2]
    refine CallA_pure h3 ?_
    simp -implicitDefEqProofs -proj only [go_sem, Nat.reduceBEq, Nat.reduceLT, Nat.reduceLeDiff, Nat.reduceAdd, Nat.reduceMul, ↓reduceIte, Int.reduceToNat, Int.reducePow, Int.reduceLT, Int.reduceLE, Int.reduceAdd, Int.reduceSub, Int.reduceMul, Int.reduceEq, Int.reduceNe]
    exact LendV_eq rfl
theorem eqBA : (sB.toList == sA.toList) = false := by decide +kernel
theorem isM_ok {H : Heap} {b : Nat} {x y : ByteArray} {c : Int} {z : Bool} (hb : H b = some (.box 9 [.d (.str y)])) (h : (x.toList == y.toList) = z) : CallW Try.prog f_tree_Meter_1 [.agg [.d (.str x), .d (.str s0), i64 0, i64 0, i64 c], .ptr b 0] H fun r H' => r = bv z ∧ H' b = some (.box 9 [.d (.str y)]) := by
  refine CallW_intro comp_tree_Meter_1 (by simp) ?_
  simp -implicitDefEqProofs -proj only [go_sem, Nat.reduceBEq, Nat.reduceLT, Nat.reduceLeDiff, Nat.reduceAdd, Nat.reduceMul, ↓reduceIte, Int.reduceToNat, Int.reducePow, Int.reduceLT, Int.reduceLE, Int.reduceAdd, Int.reduceSub, Int.reduceMul, Int.reduceEq, Int.reduceNe]
  refine AllocA_intro (fun b2 hb2 => ?_)
  replace hb2 : H b2 = none := hb2
  obtain ⟨n1, n2⟩ := fresh_ne hb2 hb
  simp -implicitDefEqProofs -proj only [go_sem, Nat.reduceBEq, Nat.reduceLT, Nat.reduceLeDiff, Nat.reduceAdd, Nat.reduceMul, ↓reduceIte, Int.reduceToNat, Int.reducePow, Int.reduceLT, Int.reduceLE, Int.reduceAdd, Int.reduceSub, Int.reduceMul, Int.reduceEq, Int.reduceNe, n1, n2, hb, Bin_seql, h]
theorem IdxM_ok {H : Heap} {b : Nat} (hb : H b = some (.box 9 [.d (.str sA)])) : CallW Try.prog f_slices_IndexFunc_api_Meter [.d (.sl 5 (rowsP 0)), .fn f_tree_Meter_1 [.ptr b 0]] H fun r _ => r = i64 1 := by
  have hw1 : IntKind.i64.wrap 1 = 1 := by decide
  have hall : AllH (keepH [(b, .box 9 [.d (.str sA)])]) [(b, .box 9 [.d (.str sA)])] := keepH_all (by simp [keys])
  refine CallW_intro comp_slices_IndexFunc_api_Meter (by simp) ?_
  simp -implicitDefEqProofs -proj only [go_sem, Nat.reduceBEq, Nat.reduceLT, Nat.reduceLeDiff, Nat.reduceAdd, Nat.reduceMul, ↓reduceIte, Int.reduceToNat, Int.reducePow, Int.reduceLT, Int.reduceLE, Int.reduceAdd, Int.reduceSub, Int.reduceMul, Int.reduceEq, Int.reduceNe]
  refine LoopA_k (fun i : Nat => i ≤ 1) 19 (fun i => [(0, .d (.sl 5 (rowsP 0))), (1, .fn f_tree_Meter_1 [.ptr b 0]), (6, .d (.sl 5 (rowsP 0))), (7, i64 2), (8, i64 i)]) (fun _ => [(b, .box 9 [.d (.str sA)])]) (fun i => 2 - i) 0 (by omega) rfl ?_ ?_ ?_
  · simp -implicitDefEqProofs -proj only [go_sem, Nat.reduceBEq, Nat.reduceLT, Nat.reduceLeDiff, Nat.reduceAdd, Nat.reduceMul, ↓reduceIte, Int.reduceToNat, Int.reducePow, Int.reduceLT, Int.reduceLE, Int.reduceAdd, Int.reduceSub, Int.reduceMul, Int.reduceEq, Int.reduceNe, AllAt]
    try rfl
  · exact ⟨hb, trivial⟩
  · intro i hi
    rcases (by omega : i = 0 ∨ i = 1) with rfl | rfl
    · simp -implicitDefEqProofs -proj only [go_sem, Nat.reduceBEq, Nat.reduceLT, Nat.reduceLeDiff, Nat.reduceAdd, Nat.reduceMul, ↓reduceIte, Int.reduceToNat, Int.reducePow, Int.reduceLT, Int.reduceLE, Int.reduceAdd, Int.reduceSub, Int.reduceMul, Int.reduceEq, Int.reduceNe]
      refine ElemA_at [.str sB, .str s0, .int .i64 0, .int .i64 0, .int .i64 0] (by decide) rfl ?_
      simp -implicitDefEqProofs -proj only [go_sem, Nat.reduceBEq, Nat.reduceLT, Nat.reduceLeDiff, Nat.reduceAdd, Nat.reduceMul, ↓reduceIte, Int.reduceToNat, Int.reducePow, Int.reduceLT, Int.reduceLE, Int.reduceAdd, Int.reduceSub, Int.reduceMul, Int.reduceEq, Int.reduceNe]
      refine CallA_w (isM_ok hall.1 eqBA) (fun r H' hk => ?_)
      obtain ⟨rfl, hk⟩ := hk
      simp -implicitDefEqProofs -proj only [go_sem, Nat.reduceBEq, Nat.reduceLT, Nat.reduceLeDiff, Nat.reduceAdd, Nat.reduceMul, ↓reduceIte, Int.reduceToNat, Int.reducePow, Int.reduceLT, Int.reduceLE, Int.reduceAdd, Int.reduceSub, Int.reduceMul, Int.reduceEq, Int.reduceNe, hw1]
      refine LoopQ_k 1 (by omega) (by omega) rfl ?_ ⟨hk, trivial⟩
      simp -implicitDefEqProofs -proj only [go_sem, Nat.reduceBEq, Nat.reduceLT, Nat.reduceLeDiff, Nat.reduceAdd, Nat.reduceMul, ↓reduceIte, Int.reduceToNat, Int.reducePow, Int.reduceLT, Int.reduceLE, Int.reduceAdd, Int.reduceSub, Int.reduceMul, Int.reduceEq, Int.reduceNe, AllAt, hw1]
      try rfl
    · simp -implicitDefEqProofs -proj only [go_sem, Nat.reduceBEq, Nat.reduceLT, Nat.reduceLeDiff, Nat.reduceAdd, Nat.reduceMul, ↓reduceIte, Int.reduceToNat, Int.reducePow, Int.reduceLT, Int.reduceLE, Int.reduceAdd, Int.reduceSub, Int.reduceMul, Int.reduceEq, Int.reduceNe]
      refine ElemA_at [.str sA, .str s0, .int .i64 0, .int .i64 0, .int .i64 0] (by decide) rfl ?_
      simp -implicitDefEqProofs -proj only [go_sem, Nat.reduceBEq, Nat.reduceLT, Nat.reduceLeDiff, Nat.reduceAdd, Nat.reduceMul, ↓reduceIte, Int.reduceToNat, Int.reducePow, Int.reduceLT, Int.reduceLE, Int.reduceAdd, Int.reduceSub, Int.reduceMul, Int.reduceEq, Int.reduceNe]
      refine CallA_w (isM_ok (z := true) hall.1 (by simp)) (fun r H' hk => ?_)
      obtain ⟨rfl, hk⟩ := hk
      simp -implicitDefEqProofs -proj only [go_sem, Nat.reduceBEq, Nat.reduceLT, Nat.reduceLeDiff, Nat.reduceAdd, Nat.reduceMul, ↓reduceIte, Int.reduceToNat, Int.reducePow, Int.reduceLT, Int.reduceLE, Int.reduceAdd, Int.reduceSub, Int.reduceMul, Int.reduceEq, Int.reduceNe, hw1]
      try rfl
theorem FindM_ok {H : Heap} {b : Nat} (hb : H b = some (.box 9 [.d (.str sA)])) : CallW Try.prog f_tree_Find_api_Meter [.d (.sl 5 (rowsP 0)), .fn f_tree_Meter_1 [.ptr b 0]] H fun r _ => r = i64 1 := by
  refine CallW_intro comp_tree_Find_api_Meter (by simp) ?_
  simp -implicitDefEqProofs -proj only [go_sem, Nat.reduceBEq, Nat.reduceLT, Nat.reduceLeDiff, Nat.reduceAdd, Nat.reduceMul, ↓reduceIte, Int.reduceToNat, Int.reducePow, Int.reduceLT, Int.reduceLE, Int.reduceAdd, Int.reduceSub, Int.reduceMul, Int.reduceEq, Int.reduceNe]
  refine CallA_w (IdxM_ok hb) (fun r H' hk => ?_)
  subst hk
  simp -implicitDefEqProofs -proj only [go_sem, Nat.reduceBEq, Nat.reduceLT, Nat.reduceLeDiff, Nat.reduceAdd, Nat.reduceMul, ↓reduceIte, Int.reduceToNat, Int.reducePow, Int.reduceLT, Int.reduceLE, Int.reduceAdd, Int.reduceSub, Int.reduceMul, Int.reduceEq, Int.reduceNe]
theorem Meter06_ok : DataW Try.prog f_tree_Meter [planV (rowsP 0) [] 0, .d (.str sA)] (i64 1) := by
  refine CallW_intro comp_tree_Meter (by simp) ?_
  simp -implicitDefEqProofs -proj only [go_sem, Nat.reduceBEq, Nat.reduceLT, Nat.reduceLeDiff, Nat.reduceAdd, Nat.reduceMul, ↓reduceIte, Int.reduceToNat, Int.reducePow, Int.reduceLT, Int.reduceLE, Int.reduceAdd, Int.reduceSub, Int.reduceMul, Int.reduceEq, Int.reduceNe]
  refine AllocA_intro (fun b2 hb2 => ?_)
  simp -implicitDefEqProofs -proj only [go_sem, Nat.reduceBEq, Nat.reduceLT, Nat.reduceLeDiff, Nat.reduceAdd, Nat.reduceMul, ↓reduceIte, Int.reduceToNat, Int.reducePow, Int.reduceLT, Int.reduceLE, Int.reduceAdd, Int.reduceSub, Int.reduceMul, Int.reduceEq, Int.reduceNe]
  refine AllocA_intro (fun b3 hb3 => ?_)
  replace hb3 : upd Heap.none b2 _ b3 = none := hb3
  obtain ⟨n1, n2⟩ := fresh_ne hb3 upd_eq
  simp -implicitDefEqProofs -proj only [go_sem, Nat.reduceBEq, Nat.reduceLT, Nat.reduceLeDiff, Nat.reduceAdd, Nat.reduceMul, ↓reduceIte, Int.reduceToNat, Int.reducePow, Int.reduceLT, Int.reduceLE, Int.reduceAdd, Int.reduceSub, Int.reduceMul, Int.reduceEq, Int.reduceNe, n1, n2]
  refine CallA_w (FindM_ok (by simp -implicitDefEqProofs -proj only [go_sem, Nat.reduceBEq, Nat.reduceLT, Nat.reduceLeDiff, Nat.reduceAdd, Nat.reduceMul, ↓reduceIte, Int.reduceToNat, Int.reducePow, Int.reduceLT, Int.reduceLE, Int.reduceAdd, Int.reduceSub, Int.reduceMul, Int.reduceEq, Int.reduceNe])) (fun r H' hk => ?_)
  subst hk
  simp -implicitDefEqProofs -proj only [go_sem, Nat.reduceBEq, Nat.reduceLT, Nat.reduceLeDiff, Nat.reduceAdd, Nat.reduceMul, ↓reduceIte, Int.reduceToNat, Int.reducePow, Int.reduceLT, Int.reduceLE, Int.reduceAdd, Int.reduceSub, Int.reduceMul, Int.reduceEq, Int.reduceNe]
  exact LendV_eq rfl
theorem lend13 {H : Heap} {m f c m' f' c' : AV} {n d : AV} {a1 a2 a3 a4 a5 a6 a7 a8 : AV} (h1 : LendV H m m') (h2 : LendV H f f') (h3 : LendV H c c') : LendV H (.agg [n, d, a1, a2, a3, a4, a5, a6, m, f, c, a7, a8]) (.agg [n, d, a1, a2, a3, a4, a5, a6, m', f', c', a7, a8]) := by
  refine .aggL ?_
  iterate 8 refine lend_cons (.refl _) ?_
  exact lend_cons h1 (lend_cons h2 (lend_cons h3 (LendL.refl _)))
theorem alive06_ok : DataW Try.prog f_poundagelaw06_alive [] (bv true) := by
  have h0 := Names_new
  have h1 := Same06_ok (c := 0) (d := 0) (e := 0) (F := []) (u := true) (EachF_ok (.inl rfl))
  have h2 := Same06_ok (c := 0) (d := 7) (e := 3) (F := rowsF) (u := false) (EachF_ok (.inr rfl))
  have h3 := Meter06_ok
  refine CallW_intro comp_poundagelaw06_alive (by simp) ?_
  simp -implicitDefEqProofs -proj only [go_sem, Nat.reduceBEq, Nat.reduceLT, Nat.reduceLeDiff, Nat.reduceAdd, Nat.reduceMul, ↓reduceIte, Int.reduceToNat, Int.reducePow, Int.reduceLT, Int.reduceLE, Int.reduceAdd, Int.reduceSub, Int.reduceMul, Int.reduceEq, Int.reduceNe]
  refine AllocR_intro (fun bs hs => ?_)
  simp -implicitDefEqProofs -proj only [go_sem, Nat.reduceBEq, Nat.reduceLT, Nat.reduceLeDiff, Nat.reduceAdd, Nat.reduceMul, ↓reduceIte, Int.reduceToNat, Int.reducePow, Int.reduceLT, Int.reduceLE, Int.reduceAdd, Int.reduceSub, Int.reduceMul, Int.reduceEq, Int.reduceNe]
  refine AllocA_intro (fun b1 hb1 => ?_)
  replace hb1 : upd Heap.none bs _ b1 = none := hb1
  obtain ⟨n1, n2⟩ := fresh_ne hb1 upd_eq
  simp -implicitDefEqProofs -proj only [go_sem, Nat.reduceBEq, Nat.reduceLT, Nat.reduceLeDiff, Nat.reduceAdd, Nat.reduceMul, ↓reduceIte, Int.reduceToNat, Int.reducePow, Int.reduceLT, Int.reduceLE, Int.reduceAdd, Int.reduceSub, Int.reduceMul, Int.reduceEq, Int.reduceNe, n1, n2]
  refine AllocR_intro (fun br hr => ?_)
  simp -implicitDefEqProofs only [upd_get, n1, n2, ↓reduceIte] at hr
  have n3 : ¬ b1 = br := fun e => by subst e; simp [n1, n2] at hr
  have n4 : ¬ bs = br := fun e => by subst e; simp [n1, n2] at hr
  have n5 : ¬ br = b1 := fun e => n3 e.symm
  have n6 : ¬ br = bs := fun e => n4 e.symm
  simp -implicitDefEqProofs -proj only [go_sem, Nat.reduceBEq, Nat.reduceLT, Nat.reduceLeDiff, Nat.reduceAdd, Nat.reduceMul, ↓reduceIte, Int.reduceToNat, Int.reducePow, Int.reduceLT, Int.reduceLE, Int.reduceAdd, Int.reduceSub, Int.reduceMul, Int.reduceEq, Int.reduceNe, n1, n2, n3, n4, n5, n6]
  refine AllocR_intro (fun bq hq => ?_)
  simp -implicitDefEqProofs only [upd_get, n1, n2, n3, n4, n5, n6, ↓reduceIte] at hq
  have m1 : ¬ b1 = bq := fun e => by subst e; simp [n1, n2, n3, n4, n5, n6] at hq
  have m2 : ¬ bs = bq := fun e => by subst e; simp [n1, n2, n3, n4, n5, n6] at hq
  have m3 : ¬ br = bq := fun e => by subst e; simp [n1, n2, n3, n4, n5, n6] at hq
  have m4 : ¬ bq = b1 := fun e => m1 e.symm
  have m5 : ¬ bq = bs := fun e => m2 e.symm
  have m6 : ¬ bq = br := fun e => m3 e.symm
  simp -implicitDefEqProofs -proj only [go_sem, Nat.reduceBEq, Nat.reduceLT, Nat.reduceLeDiff, Nat.reduceAdd, Nat.reduceMul, ↓reduceIte, Int.reduceToNat, Int.reducePow, Int.reduceLT, Int.reduceLE, Int.reduceAdd, Int.reduceSub, Int.reduceMul, Int.reduceEq, Int.reduceNe, n1, n2, n3, n4, n5, n6, m1, m2, m3, m4, m5, m6]
  refine AllocA_intro (fun b2 hb2 => ?_)
  simp -implicitDefEqProofs only [upd_get, n1, n2, n3, n4, n5, n6, m1, m2, m3, m4, m5, m6, ↓reduceIte] at hb2
  have k1 : ¬ b1 = b2 := fun e => by subst e; simp [n1, n2, n3, n4, n5, n6, m1, m2, m3, m4, m5, m6] at hb2
  have k2 : ¬ bs = b2 := fun e => by subst e; simp [n1, n2, n3, n4, n5, n6, m1, m2, m3, m4, m5, m6] at hb2
  have k3 : ¬ br = b2 := fun e => by subst e; simp [n1, n2, n3, n4, n5, n6, m1, m2, m3, m4, m5, m6] at hb2
  have k4 : ¬ bq = b2 := fun e => by subst e; simp [n1, n2, n3, n4, n5, n6, m1, m2, m3, m4, m5, m6] at hb2
  have k5 : ¬ b2 = b1 := fun e => k1 e.symm
  have k6 : ¬ b2 = bs := fun e => k2 e.symm
  have k7 : ¬ b2 = br := fun e => k3 e.symm
  have k8 : ¬ b2 = bq := fun e => k4 e.symm
  simp -implicitDefEqProofs -proj only [go_sem, Nat.reduceBEq, Nat.reduceLT, Nat.reduceLeDiff, Nat.reduceAdd, Nat.reduceMul, ↓reduceIte, Int.reduceToNat, Int.reducePow, Int.reduceLT, Int.reduceLE, Int.reduceAdd, Int.reduceSub, Int.reduceMul, Int.reduceEq, Int.reduceNe, n1, n2, n3, n4, n5, n6, m1, m2, m3, m4, m5, m6, k1, k2, k3, k4, k5, k6, k7, k8]
  refine CallA_new h0 (lend_cons (lend13 (lend_own (xs := rowsP 0) (by simp -implicitDefEqProofs -proj only [go_sem, Nat.reduceBEq, Nat.reduceLT, Nat.reduceLeDiff, Nat.reduceAdd, Nat.reduceMul, ↓reduceIte, Int.reduceToNat, Int.reducePow, Int.reduceLT, Int.reduceLE, Int.reduceAdd, Int.reduceSub, Int.reduceMul, Int.reduceEq, Int.reduceNe, n1, n2, n3, n4, n5, n6, m1, m2, m3, m4, m5, m6, k1, k2, k3, k4, k5, k6, k7, k8]; try rfl) rfl) (.nilsl _ _) (.nilsl _ _)) lend_nil) ?_
  simp -implicitDefEqProofs -proj only [go_sem, Nat.reduceBEq, Nat.reduceLT, Nat.reduceLeDiff, Nat.reduceAdd, Nat.reduceMul, ↓reduceIte, Int.reduceToNat, Int.reducePow, Int.reduceLT, Int.reduceLE, Int.reduceAdd, Int.reduceSub, Int.reduceMul, Int.reduceEq, Int.reduceNe, n1, n2, n3, n4, n5, n6, m1, m2, m3, m4, m5, m6, k1, k2, k3, k4, k5, k6, k7, k8]
  refine CallA_lend h1 (lend_cons (lend13 (lend_own (xs := rowsP 0) (by simp -implicitDefEqProofs -proj only [go_sem, Nat.reduceBEq, Nat.reduceLT, Nat.reduceLeDiff, Nat.reduceAdd, Nat.reduceMul, ↓reduceIte, Int.reduceToNat, Int.reducePow, Int.reduceLT, Int.reduceLE, Int.reduceAdd, Int.reduceSub, Int.reduceMul, Int.reduceEq, Int.reduceNe, n1, n2, n3, n4, n5, n6, m1, m2, m3, m4, m5, m6, k1, k2, k3, k4, k5, k6, k7, k8]; try rfl) rfl) (.nilsl _ _) (.nilsl _ _)) (lend_cons (lend13 (lend_own (xs := rowsP 0) (by simp -implicitDefEqProofs -proj only [go_sem, Nat.reduceBEq, Nat.reduceLT, Nat.reduceLeDiff, Nat.reduceAdd, Nat.reduceMul, ↓reduceIte, Int.reduceToNat, Int.reducePow, Int.reduceLT, Int.reduceLE, Int.reduceAdd, Int.reduceSub, Int.reduceMul, Int.reduceEq, Int.reduceNe, n1, n2, n3, n4, n5, n6, m1, m2, m3, m4, m5, m6, k1, k2, k3, k4, k5, k6, k7, k8]; try rfl) rfl) (.nilsl _ _) (.nilsl _ _)) lend_nil)) rfl ?_
  simp -implicitDefEqProofs -proj only [go_sem, Nat.reduceBEq, Nat.reduceLT, Nat.reduceLeDiff, Nat.reduceAdd, Nat.reduceMul, ↓reduceIte, Int.reduceToNat, Int.reducePow, Int.reduceLT, Int.reduceLE, Int.reduceAdd, Int.reduceSub, Int.reduceMul, Int.reduceEq, Int.reduceNe, n1, n2, n3, n4, n5, n6, m1, m2, m3, m4, m5, m6, k1, k2, k3, k4, k5, k6, k7, k8]
  refine CallA_lend h2 (lend_cons (lend13 (lend_own (xs := rowsP 0) (by simp -implicitDefEqProofs -proj only [go_sem, Nat.reduceBEq, Nat.reduceLT, Nat.reduceLeDiff, Nat.reduceAdd, Nat.reduceMul, ↓reduceIte, Int.reduceToNat, Int.reducePow, Int.reduceLT, Int.reduceLE, Int.reduceAdd, Int.reduceSub, Int.reduceMul, Int.reduceEq, Int.reduceNe, n1, n2, n3, n4, n5, n6, m1, m2, m3, m4, m5, m6, k1, k2, k3, k4, k5, k6, k7, k8]; try rfl) rfl) (.nilsl _ _) (.nilsl _ _)) (lend_cons (lend13 (lend_own (xs := rowsP 7) (by simp -implicitDefEqProofs -proj only [go_sem, Nat.reduceBEq, Nat.reduceLT, Nat.reduceLeDiff, Nat.reduceAdd, Nat.reduceMul, ↓reduceIte, Int.reduceToNat, Int.reducePow, Int.reduceLT, Int.reduceLE, Int.reduceAdd, Int.reduceSub, Int.reduceMul, Int.reduceEq, Int.reduceNe, n1, n2, n3, n4, n5, n6, m1, m2, m3, m4, m5, m6, k1, k2, k3, k4, k5, k6, k7, k8]; try rfl) rfl) (lend_own (xs := rowsF) (by simp -implicitDefEqProofs -proj only [go_sem, Nat.reduceBEq, Nat.reduceLT, Nat.reduceLeDiff, Nat.reduceAdd, Nat.reduceMul, ↓reduceIte, Int.reduceToNat, Int.reducePow, Int.reduceLT, Int.reduceLE, Int.reduceAdd, Int.reduceSub, Int.reduceMul, Int.reduceEq, Int.reduceNe, n1, n2, n3, n4, n5, n6, m1, m2, m3, m4, m5, m6, k1, k2, k3, k4, k5, k6, k7, k8]; try rfl) rfl) (.nilsl _ _)) lend_nil)) rfl ?_
  simp -implicitDefEqProofs -proj only [go_sem, Nat.reduceBEq, Nat.reduceLT, Nat.reduceLeDiff, Nat.reduceAdd, Nat.reduceMul, ↓reduceIte, Int.reduceToNat, Int.reducePow, Int.reduceLT, Int.reduceLE, Int.reduceAdd, Int.reduceSub, Int.reduceMul, Int.reduceEq, Int.reduceNe, n1, n2, n3, n4, n5, n6, m1, m2, m3, m4, m5, m6, k1, k2, k3, k4, k5, k6, k7, k8]
  refine CallA_lend h3 (lend_cons (lend13 (lend_own (xs := rowsP 0) (by simp -implicitDefEqProofs -proj only [go_sem, Nat.reduceBEq, Nat.reduceLT, Nat.reduceLeDiff, Nat.reduceAdd, Nat.reduceMul, ↓reduceIte, Int.reduceToNat, Int.reducePow, Int.reduceLT, Int.reduceLE, Int.reduceAdd, Int.reduceSub, Int.reduceMul, Int.reduceEq, Int.reduceNe, n1, n2, n3, n4, n5, n6, m1, m2, m3, m4, m5, m6, k1, k2, k3, k4, k5, k6, k7, k8]; try rfl) rfl) (.nilsl _ _) (.nilsl _ _)) (lend_cons (.refl _) lend_nil)) rfl ?_
  simp -implicitDefEqProofs -proj only [go_sem, Nat.reduceBEq, Nat.reduceLT, Nat.reduceLeDiff, Nat.reduceAdd, Nat.reduceMul, ↓reduceIte, Int.reduceToNat, Int.reducePow, Int.reduceLT, Int.reduceLE, Int.reduceAdd, Int.reduceSub, Int.reduceMul, Int.reduceEq, Int.reduceNe, n1, n2, n3, n4, n5, n6, m1, m2, m3, m4, m5, m6, k1, k2, k3, k4, k5, k6, k7, k8]
  refine ElemA_at [.str sA] (by decide) rfl ?_
  simp -implicitDefEqProofs -proj only [go_sem, Nat.reduceBEq, Nat.reduceLT, Nat.reduceLeDiff, Nat.reduceAdd, Nat.reduceMul, ↓reduceIte, Int.reduceToNat, Int.reducePow, Int.reduceLT, Int.reduceLE, Int.reduceAdd, Int.reduceSub, Int.reduceMul, Int.reduceEq, Int.reduceNe, Bin_seql, beq_self_eq_true]
  exact LendV_eq rfl
theorem TreeRows_ok {a b : List Int} {k : Int} (hfa : AllFit a) (hna : a.length ≤ 9223372036854775807) (hfb : AllFit b) (hnb : b.length ≤ 9223372036854775807) (hk : Fit k) : DataW Try.prog f_poundagelaw06_TreeRows [slI a, slI b, i64 k] (bv true) := by
  refine CallW_intro comp_poundagelaw06_TreeRows (by simp) ?_
  simp -implicitDefEqProofs -proj only [go_sem, Nat.reduceBEq, Nat.reduceLT, Nat.reduceLeDiff, Nat.reduceAdd, Nat.reduceMul, ↓reduceIte, Int.reduceToNat, Int.reducePow, Int.reduceLT, Int.reduceLE, Int.reduceAdd, Int.reduceSub, Int.reduceMul, Int.reduceEq, Int.reduceNe]
  refine AllocA_intro (fun b5 hb5 => ?_)
  simp -implicitDefEqProofs -proj only [go_sem, Nat.reduceBEq, Nat.reduceLT, Nat.reduceLeDiff, Nat.reduceAdd, Nat.reduceMul, ↓reduceIte, Int.reduceToNat, Int.reducePow, Int.reduceLT, Int.reduceLE, Int.reduceAdd, Int.reduceSub, Int.reduceMul, Int.reduceEq, Int.reduceNe]
  refine CallA_pure alive06_ok ?_
  by_cases g1 : 200 < (a.length : Int)
  · simp -implicitDefEqProofs -proj only [go_sem, Nat.reduceBEq, Nat.reduceLT, Nat.reduceLeDiff, Nat.reduceAdd, Nat.reduceMul, ↓reduceIte, Int.reduceToNat, Int.reducePow, Int.reduceLT, Int.reduceLE, Int.reduceAdd, Int.reduceSub, Int.reduceMul, Int.reduceEq, Int.reduceNe, rowI_len, decide_eq_true g1]
    exact LendV_eq rfl
  by_cases g2 : 200 < (b.length : Int)
  · simp -implicitDefEqProofs -proj only [go_sem, Nat.reduceBEq, Nat.reduceLT, Nat.reduceLeDiff, Nat.reduceAdd, Nat.reduceMul, ↓reduceIte, Int.reduceToNat, Int.reducePow, Int.reduceLT, Int.reduceLE, Int.reduceAdd, Int.reduceSub, Int.reduceMul, Int.reduceEq, Int.reduceNe, rowI_len, decide_eq_false g1, decide_eq_true g2]
    exact LendV_eq rfl
  simp -implicitDefEqProofs -proj only [go_sem, Nat.reduceBEq, Nat.reduceLT, Nat.reduceLeDiff, Nat.reduceAdd, Nat.reduceMul, ↓reduceIte, Int.reduceToNat, Int.reducePow, Int.reduceLT, Int.reduceLE, Int.reduceAdd, Int.reduceSub, Int.reduceMul, Int.reduceEq, Int.reduceNe, rowI_len, decide_eq_false g1, decide_eq_false g2]
  refine LoopA_k (fun i : Nat => i ≤ a.length) 76 (fun i => [(0, slI a), (1, slI b), (5, .ptr b5 0), (7, bv (wantN a b i)), (27, i64 a.length), (28, i64 i)]) (fun _ => [(b5, .box 3 [i64 k])]) (fun i => a.length - i) 0 (Nat.zero_le _) rfl ?_ ?_ ?_
  · have hd : decide ((a.length : Int) = b.length) = decide (a.length = b.length) := decide_eq_decide.2 (by omega)
    simp -implicitDefEqProofs -proj only [go_sem, Nat.reduceBEq, Nat.reduceLT, Nat.reduceLeDiff, Nat.reduceAdd, Nat.reduceMul, ↓reduceIte, Int.reduceToNat, Int.reducePow, Int.reduceLT, Int.reduceLE, Int.reduceAdd, Int.reduceSub, Int.reduceMul, Int.reduceEq, Int.reduceNe, AllAt, wantN, hd]
  · simp -implicitDefEqProofs -proj only [go_sem, Nat.reduceBEq, Nat.reduceLT, Nat.reduceLeDiff, Nat.reduceAdd, Nat.reduceMul, ↓reduceIte, Int.reduceToNat, Int.reducePow, Int.reduceLT, Int.reduceLE, Int.reduceAdd, Int.reduceSub, Int.reduceMul, Int.reduceEq, Int.reduceNe, AllH]
  · intro i hi
    have hall : AllH (keepH [(b5, .box 3 [i64 k])]) [(b5, .box 3 [i64 k])] := keepH_all (by simp [keys])
    by_cases h : i < a.length
    · have e1 := rowI_at (List.getElem?_eq_getElem h)
      have hx : a[i]? = some a[i] := List.getElem?_eq_getElem h
      have hw : wantN a b (i + 1) = (wantN a b i && match a[i]?, b[i]? with | some x, some y => decide (x < y) | _, _ => false) := rfl
      rw [hx] at hw
      generalize a[i] = x at *
      cases hc : wantN a b i
      · rw [hc, Bool.false_and] at hw
        simp -implicitDefEqProofs -proj only [go_sem, Nat.reduceBEq, Nat.reduceLT, Nat.reduceLeDiff, Nat.reduceAdd, Nat.reduceMul, ↓reduceIte, Int.reduceToNat, Int.reducePow, Int.reduceLT, Int.reduceLE, Int.reduceAdd, Int.reduceSub, Int.reduceMul, Int.reduceEq, Int.reduceNe, decide_eq_true (show (i : Int) < a.length by omega), hc]
        refine LoopQ_k (i + 1) (by omega) (by omega) rfl ?_ hall
        simp -implicitDefEqProofs -proj only [go_sem, Nat.reduceBEq, Nat.reduceLT, Nat.reduceLeDiff, Nat.reduceAdd, Nat.reduceMul, ↓reduceIte, Int.reduceToNat, Int.reducePow, Int.reduceLT, Int.reduceLE, Int.reduceAdd, Int.reduceSub, Int.reduceMul, Int.reduceEq, Int.reduceNe, AllAt, i64_succ (show i < 9223372036854775807 by omega), hw]
      · rw [hc, Bool.true_and] at hw
        by_cases h' : i < b.length
        · have e2 := rowI_at (List.getElem?_eq_getElem h')
          have hy : b[i]? = some b[i] := List.getElem?_eq_getElem h'
          rw [hy] at hw
          simp -implicitDefEqProofs only [] at hw
          generalize b[i] = y at *
          simp -implicitDefEqProofs -proj only [go_sem, Nat.reduceBEq, Nat.reduceLT, Nat.reduceLeDiff, Nat.reduceAdd, Nat.reduceMul, ↓reduceIte, Int.reduceToNat, Int.reducePow, Int.reduceLT, Int.reduceLE, Int.reduceAdd, Int.reduceSub, Int.reduceMul, Int.reduceEq, Int.reduceNe, decide_eq_true (show (i : Int) < a.length by omega), hc, rowI_len, decide_eq_true (show (i : Int) < b.length by omega)]
          refine ElemA_at _ (by omega) e2 ?_
          simp -implicitDefEqProofs -proj only [go_sem, Nat.reduceBEq, Nat.reduceLT, Nat.reduceLeDiff, Nat.reduceAdd, Nat.reduceMul, ↓reduceIte, Int.reduceToNat, Int.reducePow, Int.reduceLT, Int.reduceLE, Int.reduceAdd, Int.reduceSub, Int.reduceMul, Int.reduceEq, Int.reduceNe]
          refine ElemA_at _ (by omega) e1 ?_
          simp -implicitDefEqProofs -proj only [go_sem, Nat.reduceBEq, Nat.reduceLT, Nat.reduceLeDiff, Nat.reduceAdd, Nat.reduceMul, ↓reduceIte, Int.reduceToNat, Int.reducePow, Int.reduceLT, Int.reduceLE, Int.reduceAdd, Int.reduceSub, Int.reduceMul, Int.reduceEq, Int.reduceNe]
          refine CallA_pure above_ok ?_
          simp -implicitDefEqProofs -proj only [go_sem, Nat.reduceBEq, Nat.reduceLT, Nat.reduceLeDiff, Nat.reduceAdd, Nat.reduceMul, ↓reduceIte, Int.reduceToNat, Int.reducePow, Int.reduceLT, Int.reduceLE, Int.reduceAdd, Int.reduceSub, Int.reduceMul, Int.reduceEq, Int.reduceNe]
          refine LoopQ_k (i + 1) (by omega) (by omega) rfl ?_ hall
          simp -implicitDefEqProofs -proj only [go_sem, Nat.reduceBEq, Nat.reduceLT, Nat.reduceLeDiff, Nat.reduceAdd, Nat.reduceMul, ↓reduceIte, Int.reduceToNat, Int.reducePow, Int.reduceLT, Int.reduceLE, Int.reduceAdd, Int.reduceSub, Int.reduceMul, Int.reduceEq, Int.reduceNe, AllAt, i64_succ (show i < 9223372036854775807 by omega), hw]
        · rw [List.getElem?_eq_none (by omega)] at hw
          simp -implicitDefEqProofs only [] at hw
          simp -implicitDefEqProofs -proj only [go_sem, Nat.reduceBEq, Nat.reduceLT, Nat.reduceLeDiff, Nat.reduceAdd, Nat.reduceMul, ↓reduceIte, Int.reduceToNat, Int.reducePow, Int.reduceLT, Int.reduceLE, Int.reduceAdd, Int.reduceSub, Int.reduceMul, Int.reduceEq, Int.reduceNe, decide_eq_true (show (i : Int) < a.length by omega), hc, rowI_len, decide_eq_false (show ¬ (i : Int) < b.length by omega)]
          refine LoopQ_k (i + 1) (by omega) (by omega) rfl ?_ hall
          simp -implicitDefEqProofs -proj only [go_sem, Nat.reduceBEq, Nat.reduceLT, Nat.reduceLeDiff, Nat.reduceAdd, Nat.reduceMul, ↓reduceIte, Int.reduceToNat, Int.reducePow, Int.reduceLT, Int.reduceLE, Int.reduceAdd, Int.reduceSub, Int.reduceMul, Int.reduceEq, Int.reduceNe, AllAt, i64_succ (show i < 9223372036854775807 by omega), hw]
    · have hi' : i = a.length := by omega
      subst hi'
      have hwl : IntKind.i64.wrap ((a.length : Int) - 1) = (a.length : Int) - 1 := by rw [IntKind.wrap_i64]; omega
      simp -implicitDefEqProofs -proj only [go_sem, Nat.reduceBEq, Nat.reduceLT, Nat.reduceLeDiff, Nat.reduceAdd, Nat.reduceMul, ↓reduceIte, Int.reduceToNat, Int.reducePow, Int.reduceLT, Int.reduceLE, Int.reduceAdd, Int.reduceSub, Int.reduceMul, Int.reduceEq, Int.reduceNe, decide_eq_false (show ¬ (a.length : Int) < a.length by omega), rowI_len, hwl]
      refine LoopA_k (fun n : Nat => n ≤ a.length) 76 (fun n => [(0, slI a), (1, slI b), (5, .ptr b5 0), (7, bv (wantN a b a.length)), (9, i64 (fstN a k n)), (10, i64 ((n : Int) - 1))]) (fun _ => [(b5, .box 3 [i64 k])]) (fun n => n) a.length (Nat.le_refl _) rfl ?_ ?_ ?_
      · simp -implicitDefEqProofs -proj only [go_sem, Nat.reduceBEq, Nat.reduceLT, Nat.reduceLeDiff, Nat.reduceAdd, Nat.reduceMul, ↓reduceIte, Int.reduceToNat, Int.reducePow, Int.reduceLT, Int.reduceLE, Int.reduceAdd, Int.reduceSub, Int.reduceMul, Int.reduceEq, Int.reduceNe, AllAt, fstN_end]
      · exact hall
      · intro n hn
        by_cases h0 : n = 0
        · subst h0
          have hE := Each_ok (a := a) (b := b) (f := f_poundagelaw06_TreeRows_1) (p := fun x y => decide (x < y)) (fun x y => rows1_ok x y) (by omega) (by omega)
          rw [← wantN_eq] at hE
          generalize wantN a b a.length = w at *
          simp -implicitDefEqProofs -proj only [go_sem, Nat.reduceBEq, Nat.reduceLT, Nat.reduceLeDiff, Nat.reduceAdd, Nat.reduceMul, ↓reduceIte, Int.reduceToNat, Int.reducePow, Int.reduceLT, Int.reduceLE, Int.reduceAdd, Int.reduceSub, Int.reduceMul, Int.reduceEq, Int.reduceNe, decide_eq_false (show ¬ (0 : Int) ≤ 0 - 1 by omega)]
          refine CallA_pure hE ?_
          simp -implicitDefEqProofs -proj only [go_sem, Nat.reduceBEq, Nat.reduceLT, Nat.reduceLeDiff, Nat.reduceAdd, Nat.reduceMul, ↓reduceIte, Int.reduceToNat, Int.reducePow, Int.reduceLT, Int.reduceLE, Int.reduceAdd, Int.reduceSub, Int.reduceMul, Int.reduceEq, Int.reduceNe, beq_self_eq_true]
          refine CallA_w (FindI_ok hall.1 (by omega)) (fun r H' hk => ?_)
          subst hk
          simp -implicitDefEqProofs -proj only [go_sem, Nat.reduceBEq, Nat.reduceLT, Nat.reduceLeDiff, Nat.reduceAdd, Nat.reduceMul, ↓reduceIte, Int.reduceToNat, Int.reducePow, Int.reduceLT, Int.reduceLE, Int.reduceAdd, Int.reduceSub, Int.reduceMul, Int.reduceEq, Int.reduceNe, decide_eq_true (rfl : fstN a k 0 = fstN a k 0)]
          exact LendV_eq rfl
        · obtain ⟨j, rfl⟩ : ∃ j, n = j + 1 := ⟨n - 1, by omega⟩
          have hj : j < a.length := by omega
          have e1 := rowI_at (List.getElem?_eq_getElem hj)
          have hst := fstN_step (k := k) hj
          generalize a[j] = x at *
          have e2 : (((j + 1 : Nat) : Int)) - 1 = j := by omega
          have w1 : IntKind.i64.wrap ((j : Int) - 1) = (j : Int) - 1 := by rw [IntKind.wrap_i64]; omega
          by_cases hp : k < x
          · rw [if_pos hp] at hst
            simp -implicitDefEqProofs -proj only [go_sem, Nat.reduceBEq, Nat.reduceLT, Nat.reduceLeDiff, Nat.reduceAdd, Nat.reduceMul, ↓reduceIte, Int.reduceToNat, Int.reducePow, Int.reduceLT, Int.reduceLE, Int.reduceAdd, Int.reduceSub, Int.reduceMul, Int.reduceEq, Int.reduceNe, e2, decide_eq_true (show (0 : Int) ≤ j by omega)]
            refine ElemA_at _ (by omega) e1 ?_
            simp -implicitDefEqProofs -proj only [go_sem, Nat.reduceBEq, Nat.reduceLT, Nat.reduceLeDiff, Nat.reduceAdd, Nat.reduceMul, ↓reduceIte, Int.reduceToNat, Int.reducePow, Int.reduceLT, Int.reduceLE, Int.reduceAdd, Int.reduceSub, Int.reduceMul, Int.reduceEq, Int.reduceNe, hall.1]
            refine CallA_pure above_ok ?_
            simp -implicitDefEqProofs -proj only [go_sem, Nat.reduceBEq, Nat.reduceLT, Nat.reduceLeDiff, Nat.reduceAdd, Nat.reduceMul, ↓reduceIte, Int.reduceToNat, Int.reducePow, Int.reduceLT, Int.reduceLE, Int.reduceAdd, Int.reduceSub, Int.reduceMul, Int.reduceEq, Int.reduceNe, decide_eq_true hp, w1]
            refine LoopQ_k j (by omega) (by omega) rfl ?_ hall
            simp -implicitDefEqProofs -proj only [go_sem, Nat.reduceBEq, Nat.reduceLT, Nat.reduceLeDiff, Nat.reduceAdd, Nat.reduceMul, ↓reduceIte, Int.reduceToNat, Int.reducePow, Int.reduceLT, Int.reduceLE, Int.reduceAdd, Int.reduceSub, Int.reduceMul, Int.reduceEq, Int.reduceNe, AllAt, hst]
          · rw [if_neg hp] at hst
            simp -implicitDefEqProofs -proj only [go_sem, Nat.reduceBEq, Nat.reduceLT, Nat.reduceLeDiff, Nat.reduceAdd, Nat.reduceMul, ↓reduceIte, Int.reduceToNat, Int.reducePow, Int.reduceLT, Int.reduceLE, Int.reduceAdd, Int.reduceSub, Int.reduceMul, Int.reduceEq, Int.reduceNe, e2, decide_eq_true (show (0 : Int) ≤ j by omega)]
            refine ElemA_at _ (by omega) e1 ?_
            simp -implicitDefEqProofs -proj only [go_sem, Nat.reduceBEq, Nat.reduceLT, Nat.reduceLeDiff, Nat.reduceAdd, Nat.reduceMul, ↓reduceIte, Int.reduceToNat, Int.reducePow, Int.reduceLT, Int.reduceLE, Int.reduceAdd, Int.reduceSub, Int.reduceMul, Int.reduceEq, Int.reduceNe, hall.1]
            refine CallA_pure above_ok ?_
            simp -implicitDefEqProofs -proj only [go_sem, Nat.reduceBEq, Nat.reduceLT, Nat.reduceLeDiff, Nat.reduceAdd, Nat.reduceMul, ↓reduceIte, Int.reduceToNat, Int.reducePow, Int.reduceLT, Int.reduceLE, Int.reduceAdd, Int.reduceSub, Int.reduceMul, Int.reduceEq, Int.reduceNe, decide_eq_false hp, w1]
            refine LoopQ_k j (by omega) (by omega) rfl ?_ hall
            simp -implicitDefEqProofs -proj only [go_sem, Nat.reduceBEq, Nat.reduceLT, Nat.reduceLeDiff, Nat.reduceAdd, Nat.reduceMul, ↓reduceIte, Int.reduceToNat, Int.reducePow, Int.reduceLT, Int.reduceLE, Int.reduceAdd, Int.reduceSub, Int.reduceMul, Int.reduceEq, Int.reduceNe, AllAt, hst]
end Go.Proofs.Ytndepejgafppmaa.Abs
