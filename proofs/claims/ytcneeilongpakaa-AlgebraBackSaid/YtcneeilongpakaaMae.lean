/- Contracts of the machine and the contracts of one law (joined by kmerge.py). No claim stands here. -/
import Derived.Below
import Derived.Carry
import Derived.ChangeCalls
import Derived.ChangeOld
import Derived.IntWalk
import Derived.KernelRfl
import Derived.Laws.Append
import Derived.Laws.AppendOwn
import Derived.Laws.Cells
import Derived.Laws.CopyRow
import Derived.Laws.Entries
import Derived.Laws.MakeOwn
import Derived.Laws.NewFold
import Derived.Laws.Rows
import Derived.Laws.StructEq
import Derived.OpenShut
import Derived.Orders
import Derived.OrdersIn
import Derived.ProofKit
import Derived.RangeFuncLeaves
import Derived.RangeFuncSeq
import Derived.SizedLaws
import Derived.TacticsIn
import Derived.WalkKit
import Derived.Test.YtcneeilongpakaaMad
set_option maxRecDepth 100000
set_option linter.unusedSimpArgs false
set_option linter.unusedVariables false
namespace Go.Proofs.Ytcneeilongpakaa.Abs
open Go Go.RowKit Go.Proofs
attribute [local go_sem] RunC_seq AF_n AF_r AF_b St_n St_t St_H Fst_mk Snd_mk RunC_ops RunC_cond RunC_block RunC_loop RunC_exit RunC_ret RunC_skip RunO_nil RunO_code RunO_code_ret RunO_code_exit RunO_blk RunO_blk_ret RunO_blk_exit RunL_nil RunL_guard GuardA_tt GuardA_ff GuardA_tf GuardA_ft GuardA_void CondA_t CondA_f PickA_t PickA_f RunL_mov RunL_pick RunL_alloc RunL_box RunL_load LoadA_ptr LoadB_1 LoadB_n LoadA_dptr LoadA_dptr_n RunL_store StoreA_ptr StoreB_box RunL_bin Bin_add Bin_sub Bin_mul Bin_quo Bin_rem Bin_shl Bin_shr Bin_andI Bin_orI Bin_xorI Bin_eql Bin_neq Bin_lss Bin_leq Bin_gtr Bin_geq RunL_binb Bin_beql Bin_bneq RunL_un UnA_not UnA_neg RunL_conv convV MapA_some RunL_nilCheck nilV RunL_mkfn RunL_fieldAddr faV RunL_field FieldA_1 FieldA_n RunL_elemAddr EAddrA_sl EAddrA_own EptrA_eq RunL_build BuildA_some RunL_extract ExtA_eq RunL_len lenV_sl lenV_nilsl lenV_own RunL_slen RunL_idxStr IdxSA_eq slenV RunL_minmax mmV minmaxL RunL_call RunL_callv CallvA_fn putS ev evL evO evP eqK eqKs EqB_agg RunL_eqAgg EqA_t EqA_f evQ buildC fits_agg cellsAV_agg fits_d cellsAV_d fits_nilp cellsAV_nilp fits_nilsl cellsAV_nilsl fits_nilfn cellsAV_nilfn fits_ptr cellsAV_ptr fits_eptr cellsAV_eptr fits_dptr cellsAV_dptr fits_own cellsAV_own fits_fn cellsAV_fn rowV_fits rowV_cells rowV_len lenAV setSeg nth seg mapD repeatL putT_get upd_get argT keepT_cons keepT_nil keepH_cons keepH_nil cond_true cond_false VC_true finW resW resL resOne LoopQ_exit LoopQ_ret List.cons_append List.nil_append Bool.not_true Bool.not_false Bool.and_true Bool.and_self Nat.lt_add_left_iff_pos Nat.zero_add Nat.add_zero List.drop_succ_cons List.drop_zero List.take_succ_cons List.take_zero beq_self_eq_true Bool.false_eq_true RunC_dops RunL_loadS RunL_loadD LoadDA_dptr RunL_storeS StoreSA_ptr RunL_pcall RunL_pcallv PCallvA_fn newsOk and_self and_true true_and loadW_ptr LoadK_1 LoadK_n upd_upd RunL_loadP LoadPA_ptr RunL_callS RunL_make RunL_buildSlice BSliceA_some RunL_buildSliceD frzL frz cutL LoadA_eptr LoadE_row RunL_append RunL_slice SliceA_sl StoreA_eptr List.length_cons List.length_nil Nat.min_def Int.cast_ofNat_Int Int.natCast_zero Int.natCast_one decide_true decide_false List.getElem?_cons_zero List.getElem?_cons_succ RunC_rangef CallvA_yld putL_nil putL_cons RangeQ_exit RangeQ_ret
theorem lines_yes {la lb : List Int} (ha : CurL la) (hb : CurL lb) (hlen : la.length = lb.length) : DataW Try.prog f_algebra_lines [curL la, curL lb] (.tup [lineV (runs 0 la), lineV (runs 0 lb), bv true]) := by
  have g1 := GoodL_ok ha
  have g2 := GoodL_ok hb
  have l1 := LineL_ok ha
  have l2 := LineL_ok hb
  have ea : curL la = curveV ((la.length : Int) - 1) (gps la) := rfl
  have eb : curL lb = curveV ((la.length : Int) - 1) (gps lb) := by rw [hlen]
  rw [ea] at g1 l1 ⊢
  rw [eb] at g2 l2 ⊢
  clear ea eb
  generalize gps la = A at *
  generalize gps lb = B at *
  generalize runs 0 la = Ra at *
  generalize runs 0 lb = Rb at *
  generalize (la.length : Int) - 1 = m at *
  refine CallW_intro comp_algebra_lines (by simp) ?_
  simp -implicitDefEqProofs -proj only [go_sem, Nat.reduceBEq, Nat.reduceLT, Nat.reduceLeDiff, Nat.reduceAdd, Nat.reduceMul, ↓reduceIte, Int.reduceToNat, Int.reducePow, Int.reduceLT, Int.reduceLE, Int.reduceAdd, Int.reduceSub, Int.reduceMul, Int.reduceEq, Int.reduceNe]
  refine AllocA_intro (fun b2 hb2 => ?_)
  simp -implicitDefEqProofs -proj only [go_sem, Nat.reduceBEq, Nat.reduceLT, Nat.reduceLeDiff, Nat.reduceAdd, Nat.reduceMul, ↓reduceIte, Int.reduceToNat, Int.reducePow, Int.reduceLT, Int.reduceLE, Int.reduceAdd, Int.reduceSub, Int.reduceMul, Int.reduceEq, Int.reduceNe]
  refine AllocA_intro (fun b3 hb3 => ?_)
  replace hb3 : upd Heap.none b2 _ b3 = none := hb3
  obtain ⟨n1, n2⟩ := fresh_ne hb3 upd_eq
  simp -implicitDefEqProofs -proj only [go_sem, Nat.reduceBEq, Nat.reduceLT, Nat.reduceLeDiff, Nat.reduceAdd, Nat.reduceMul, ↓reduceIte, Int.reduceToNat, Int.reducePow, Int.reduceLT, Int.reduceLE, Int.reduceAdd, Int.reduceSub, Int.reduceMul, Int.reduceEq, Int.reduceNe, n1, n2]
  refine AllocA_intro (fun b4 hb4 => ?_)
  replace hb4 : upd (upd Heap.none b2 _) b3 _ b4 = none := hb4
  obtain ⟨n3, n4⟩ := fresh_ne hb4 upd_eq
  obtain ⟨n5, n6⟩ := fresh_ne hb4 (by rw [upd_ne n1]; exact upd_eq)
  simp -implicitDefEqProofs -proj only [go_sem, Nat.reduceBEq, Nat.reduceLT, Nat.reduceLeDiff, Nat.reduceAdd, Nat.reduceMul, ↓reduceIte, Int.reduceToNat, Int.reducePow, Int.reduceLT, Int.reduceLE, Int.reduceAdd, Int.reduceSub, Int.reduceMul, Int.reduceEq, Int.reduceNe, n1, n2, n3, n4, n5, n6]
  refine AllocA_intro (fun b5 hb5 => ?_)
  replace hb5 : upd (upd (upd Heap.none b2 _) b3 _) b4 _ b5 = none := hb5
  obtain ⟨n7, n8⟩ := fresh_ne hb5 upd_eq
  obtain ⟨n9, n10⟩ := fresh_ne hb5 (by rw [upd_ne n3]; exact upd_eq)
  obtain ⟨n11, n12⟩ := fresh_ne hb5 (by rw [upd_ne n5, upd_ne n1]; exact upd_eq)
  simp -implicitDefEqProofs -proj only [go_sem, Nat.reduceBEq, Nat.reduceLT, Nat.reduceLeDiff, Nat.reduceAdd, Nat.reduceMul, ↓reduceIte, Int.reduceToNat, Int.reducePow, Int.reduceLT, Int.reduceLE, Int.reduceAdd, Int.reduceSub, Int.reduceMul, Int.reduceEq, Int.reduceNe, n1, n2, n3, n4, n5, n6, n7, n8, n9, n10, n11, n12, decide_eq_true (rfl : m = m), ne_eq, not_true_eq_false, not_false_eq_true]
  refine CallA_pure g1 ?_
  simp -implicitDefEqProofs -proj only [go_sem, Nat.reduceBEq, Nat.reduceLT, Nat.reduceLeDiff, Nat.reduceAdd, Nat.reduceMul, ↓reduceIte, Int.reduceToNat, Int.reducePow, Int.reduceLT, Int.reduceLE, Int.reduceAdd, Int.reduceSub, Int.reduceMul, Int.reduceEq, Int.reduceNe, n1, n2, n3, n4, n5, n6, n7, n8, n9, n10, n11, n12]
  refine CallA_pure g2 ?_
  simp -implicitDefEqProofs -proj only [go_sem, Nat.reduceBEq, Nat.reduceLT, Nat.reduceLeDiff, Nat.reduceAdd, Nat.reduceMul, ↓reduceIte, Int.reduceToNat, Int.reducePow, Int.reduceLT, Int.reduceLE, Int.reduceAdd, Int.reduceSub, Int.reduceMul, Int.reduceEq, Int.reduceNe, n1, n2, n3, n4, n5, n6, n7, n8, n9, n10, n11, n12]
  refine CallA_pure l1 ?_
  simp -implicitDefEqProofs -proj only [go_sem, Nat.reduceBEq, Nat.reduceLT, Nat.reduceLeDiff, Nat.reduceAdd, Nat.reduceMul, ↓reduceIte, Int.reduceToNat, Int.reducePow, Int.reduceLT, Int.reduceLE, Int.reduceAdd, Int.reduceSub, Int.reduceMul, Int.reduceEq, Int.reduceNe, n1, n2, n3, n4, n5, n6, n7, n8, n9, n10, n11, n12]
  refine AllocA_intro (fun b7 hb7 => ?_)
  replace hb7 : upd (upd (upd (upd Heap.none b2 _) b3 _) b4 _) b5 _ b7 = none := hb7
  obtain ⟨p1, p2⟩ := fresh_ne hb7 upd_eq
  obtain ⟨p3, p4⟩ := fresh_ne hb7 (by rw [upd_ne n7]; exact upd_eq)
  obtain ⟨p5, p6⟩ := fresh_ne hb7 (by rw [upd_ne n9, upd_ne n3]; exact upd_eq)
  obtain ⟨p7, p8⟩ := fresh_ne hb7 (by rw [upd_ne n11, upd_ne n5, upd_ne n1]; exact upd_eq)
  simp -implicitDefEqProofs -proj only [go_sem, Nat.reduceBEq, Nat.reduceLT, Nat.reduceLeDiff, Nat.reduceAdd, Nat.reduceMul, ↓reduceIte, Int.reduceToNat, Int.reducePow, Int.reduceLT, Int.reduceLE, Int.reduceAdd, Int.reduceSub, Int.reduceMul, Int.reduceEq, Int.reduceNe, n1, n2, n3, n4, n5, n6, n7, n8, n9, n10, n11, n12, p1, p2, p3, p4, p5, p6, p7, p8]
  refine CallA_pure l2 ?_
  simp -implicitDefEqProofs -proj only [go_sem, Nat.reduceBEq, Nat.reduceLT, Nat.reduceLeDiff, Nat.reduceAdd, Nat.reduceMul, ↓reduceIte, Int.reduceToNat, Int.reducePow, Int.reduceLT, Int.reduceLE, Int.reduceAdd, Int.reduceSub, Int.reduceMul, Int.reduceEq, Int.reduceNe, n1, n2, n3, n4, n5, n6, n7, n8, n9, n10, n11, n12, p1, p2, p3, p4, p5, p6, p7, p8]
  refine AllocA_intro (fun b9 hb9 => ?_)
  simp -implicitDefEqProofs only [upd_get, n1, n2, n3, n4, n5, n6, n7, n8, n9, n10, n11, n12, p1, p2, p3, p4, p5, p6, p7, p8, ↓reduceIte] at hb9
  have q2 : ¬ b7 = b9 := fun e => by subst e; simp [n1, n2, n3, n4, n5, n6, n7, n8, n9, n10, n11, n12, p1, p2, p3, p4, p5, p6, p7, p8] at hb9
  have q1 : ¬ b9 = b7 := fun e => q2 e.symm
  have q4 : ¬ b5 = b9 := fun e => by subst e; simp [n1, n2, n3, n4, n5, n6, n7, n8, n9, n10, n11, n12, p1, p2, p3, p4, p5, p6, p7, p8] at hb9
  have q3 : ¬ b9 = b5 := fun e => q4 e.symm
  have q6 : ¬ b4 = b9 := fun e => by subst e; simp [n1, n2, n3, n4, n5, n6, n7, n8, n9, n10, n11, n12, p1, p2, p3, p4, p5, p6, p7, p8] at hb9
  have q5 : ¬ b9 = b4 := fun e => q6 e.symm
  simp -implicitDefEqProofs -proj only [go_sem, Nat.reduceBEq, Nat.reduceLT, Nat.reduceLeDiff, Nat.reduceAdd, Nat.reduceMul, ↓reduceIte, Int.reduceToNat, Int.reducePow, Int.reduceLT, Int.reduceLE, Int.reduceAdd, Int.reduceSub, Int.reduceMul, Int.reduceEq, Int.reduceNe, n1, n2, n3, n4, n5, n6, n7, n8, n9, n10, n11, n12, p1, p2, p3, p4, p5, p6, p7, p8, q1, q2, q3, q4, q5, q6]
  (repeat' (with_reducible refine VC_intro ?_ (fun h => ?_); (focus first | decide | omega); clear h; try simp -implicitDefEqProofs -proj only [go_sem, Nat.reduceBEq, Nat.reduceLT, Nat.reduceLeDiff, Nat.reduceAdd, Nat.reduceMul, ↓reduceIte, Int.reduceToNat, Int.reducePow, Int.reduceLT, Int.reduceLE, Int.reduceAdd, Int.reduceSub, Int.reduceMul, Int.reduceEq, Int.reduceNe, eq_self, n1, n2, n3, n4, n5, n6, n7, n8, n9, n10, n11, n12, p1, p2, p3, p4, p5, p6, p7, p8, q1, q2, q3, q4, q5, q6]))
  exact LendV_eq rfl
open Classical in
theorem lines_no {m n : Int} {A B : List Grp} (hA : A.length ≤ 3000) (hB : B.length ≤ 3000) (hm : Fit m) (hn : Fit n) (h : ¬ (m = n ∧ GoodP m A ∧ GoodP n B)) : DataW Try.prog f_algebra_lines [curveV m A, curveV n B] (.tup [lineV [], lineV [], bv false]) := by
  have hdone : ∀ {H : Heap}, LendV H (.tup [.agg [.nilsl 3], .agg [.nilsl 3], bv false]) (.tup [lineV [], lineV [], bv false]) := .tupL (lend_cons (.aggL (lend_cons (.nilsl _ _) lend_nil)) (lend_cons (.aggL (lend_cons (.nilsl _ _) lend_nil)) (lend_cons (.refl _) lend_nil)))
  have g1 := GoodRaw_ok hA hm
  have g2 := GoodRaw_ok hB hn
  refine CallW_intro comp_algebra_lines (by simp) ?_
  simp -implicitDefEqProofs -proj only [go_sem, Nat.reduceBEq, Nat.reduceLT, Nat.reduceLeDiff, Nat.reduceAdd, Nat.reduceMul, ↓reduceIte, Int.reduceToNat, Int.reducePow, Int.reduceLT, Int.reduceLE, Int.reduceAdd, Int.reduceSub, Int.reduceMul, Int.reduceEq, Int.reduceNe]
  refine AllocA_intro (fun b2 hb2 => ?_)
  simp -implicitDefEqProofs -proj only [go_sem, Nat.reduceBEq, Nat.reduceLT, Nat.reduceLeDiff, Nat.reduceAdd, Nat.reduceMul, ↓reduceIte, Int.reduceToNat, Int.reducePow, Int.reduceLT, Int.reduceLE, Int.reduceAdd, Int.reduceSub, Int.reduceMul, Int.reduceEq, Int.reduceNe]
  refine AllocA_intro (fun b3 hb3 => ?_)
  replace hb3 : upd Heap.none b2 _ b3 = none := hb3
  obtain ⟨n1, n2⟩ := fresh_ne hb3 upd_eq
  simp -implicitDefEqProofs -proj only [go_sem, Nat.reduceBEq, Nat.reduceLT, Nat.reduceLeDiff, Nat.reduceAdd, Nat.reduceMul, ↓reduceIte, Int.reduceToNat, Int.reducePow, Int.reduceLT, Int.reduceLE, Int.reduceAdd, Int.reduceSub, Int.reduceMul, Int.reduceEq, Int.reduceNe, n1, n2]
  refine AllocA_intro (fun b4 hb4 => ?_)
  replace hb4 : upd (upd Heap.none b2 _) b3 _ b4 = none := hb4
  obtain ⟨n3, n4⟩ := fresh_ne hb4 upd_eq
  obtain ⟨n5, n6⟩ := fresh_ne hb4 (by rw [upd_ne n1]; exact upd_eq)
  simp -implicitDefEqProofs -proj only [go_sem, Nat.reduceBEq, Nat.reduceLT, Nat.reduceLeDiff, Nat.reduceAdd, Nat.reduceMul, ↓reduceIte, Int.reduceToNat, Int.reducePow, Int.reduceLT, Int.reduceLE, Int.reduceAdd, Int.reduceSub, Int.reduceMul, Int.reduceEq, Int.reduceNe, n1, n2, n3, n4, n5, n6]
  refine AllocA_intro (fun b5 hb5 => ?_)
  replace hb5 : upd (upd (upd Heap.none b2 _) b3 _) b4 _ b5 = none := hb5
  obtain ⟨n7, n8⟩ := fresh_ne hb5 upd_eq
  obtain ⟨n9, n10⟩ := fresh_ne hb5 (by rw [upd_ne n3]; exact upd_eq)
  obtain ⟨n11, n12⟩ := fresh_ne hb5 (by rw [upd_ne n5, upd_ne n1]; exact upd_eq)
  by_cases h1 : m = n
  · have h1' : ¬ (m ≠ n) := fun e => e h1
    by_cases h2 : GoodP m A
    · have h3 : ¬ GoodP n B := fun e => h ⟨h1, h2, e⟩
      rw [decide_eq_true h2] at g1
      rw [decide_eq_false h3] at g2
      simp -implicitDefEqProofs -proj only [go_sem, Nat.reduceBEq, Nat.reduceLT, Nat.reduceLeDiff, Nat.reduceAdd, Nat.reduceMul, ↓reduceIte, Int.reduceToNat, Int.reducePow, Int.reduceLT, Int.reduceLE, Int.reduceAdd, Int.reduceSub, Int.reduceMul, Int.reduceEq, Int.reduceNe, n1, n2, n3, n4, n5, n6, n7, n8, n9, n10, n11, n12, decide_eq_true h1, decide_eq_false h1']
      refine CallA_pure g1 ?_
      simp -implicitDefEqProofs -proj only [go_sem, Nat.reduceBEq, Nat.reduceLT, Nat.reduceLeDiff, Nat.reduceAdd, Nat.reduceMul, ↓reduceIte, Int.reduceToNat, Int.reducePow, Int.reduceLT, Int.reduceLE, Int.reduceAdd, Int.reduceSub, Int.reduceMul, Int.reduceEq, Int.reduceNe, n1, n2, n3, n4, n5, n6, n7, n8, n9, n10, n11, n12]
      refine CallA_pure g2 ?_
      simp -implicitDefEqProofs -proj only [go_sem, Nat.reduceBEq, Nat.reduceLT, Nat.reduceLeDiff, Nat.reduceAdd, Nat.reduceMul, ↓reduceIte, Int.reduceToNat, Int.reducePow, Int.reduceLT, Int.reduceLE, Int.reduceAdd, Int.reduceSub, Int.reduceMul, Int.reduceEq, Int.reduceNe, n1, n2, n3, n4, n5, n6, n7, n8, n9, n10, n11, n12]
      exact hdone
    · rw [decide_eq_false h2] at g1
      simp -implicitDefEqProofs -proj only [go_sem, Nat.reduceBEq, Nat.reduceLT, Nat.reduceLeDiff, Nat.reduceAdd, Nat.reduceMul, ↓reduceIte, Int.reduceToNat, Int.reducePow, Int.reduceLT, Int.reduceLE, Int.reduceAdd, Int.reduceSub, Int.reduceMul, Int.reduceEq, Int.reduceNe, n1, n2, n3, n4, n5, n6, n7, n8, n9, n10, n11, n12, decide_eq_true h1, decide_eq_false h1']
      refine CallA_pure g1 ?_
      simp -implicitDefEqProofs -proj only [go_sem, Nat.reduceBEq, Nat.reduceLT, Nat.reduceLeDiff, Nat.reduceAdd, Nat.reduceMul, ↓reduceIte, Int.reduceToNat, Int.reducePow, Int.reduceLT, Int.reduceLE, Int.reduceAdd, Int.reduceSub, Int.reduceMul, Int.reduceEq, Int.reduceNe, n1, n2, n3, n4, n5, n6, n7, n8, n9, n10, n11, n12]
      exact hdone
  · simp -implicitDefEqProofs -proj only [go_sem, Nat.reduceBEq, Nat.reduceLT, Nat.reduceLeDiff, Nat.reduceAdd, Nat.reduceMul, ↓reduceIte, Int.reduceToNat, Int.reducePow, Int.reduceLT, Int.reduceLE, Int.reduceAdd, Int.reduceSub, Int.reduceMul, Int.reduceEq, Int.reduceNe, n1, n2, n3, n4, n5, n6, n7, n8, n9, n10, n11, n12, decide_eq_false h1, decide_eq_true (show m ≠ n from h1)]
    exact hdone
theorem keepH_sub {H : Heap} : ∀ {l : List (Nat × Blk)}, AllH H l → ∀ k, keepH l k = none ∨ keepH l k = H k
  | [], _, _ => .inl rfl
  | (b, x) :: l, h, k => by
    rw [keepH_cons]
    by_cases e : k = b
    · rw [if_pos e]
      subst e
      exact .inr h.1.symm
    · rw [if_neg e]
      exact keepH_sub h.2 k
theorem two_no {m n : Int} {A B : List Grp} {of : FuncId} (hA : A.length ≤ 3000) (hB : B.length ≤ 3000) (hm : Fit m) (hn : Fit n) (h : ¬ (m = n ∧ GoodP m A ∧ GoodP n B)) : DataW Try.prog f_algebra_two [curveV m A, curveV n B, .fn of []] (.tup [curveV 0 [], bv false]) := by
  have hl := lines_no hA hB hm hn h
  refine CallW_intro comp_algebra_two (by simp) ?_
  simp -implicitDefEqProofs -proj only [go_sem, Nat.reduceBEq, Nat.reduceLT, Nat.reduceLeDiff, Nat.reduceAdd, Nat.reduceMul, ↓reduceIte, Int.reduceToNat, Int.reducePow, Int.reduceLT, Int.reduceLE, Int.reduceAdd, Int.reduceSub, Int.reduceMul, Int.reduceEq, Int.reduceNe]
  refine AllocA_intro (fun b3 hb3 => ?_)
  simp -implicitDefEqProofs -proj only [go_sem, Nat.reduceBEq, Nat.reduceLT, Nat.reduceLeDiff, Nat.reduceAdd, Nat.reduceMul, ↓reduceIte, Int.reduceToNat, Int.reducePow, Int.reduceLT, Int.reduceLE, Int.reduceAdd, Int.reduceSub, Int.reduceMul, Int.reduceEq, Int.reduceNe]
  refine AllocA_intro (fun b4 hb4 => ?_)
  replace hb4 : upd Heap.none b3 _ b4 = none := hb4
  obtain ⟨n1, n2⟩ := fresh_ne hb4 upd_eq
  simp -implicitDefEqProofs -proj only [go_sem, Nat.reduceBEq, Nat.reduceLT, Nat.reduceLeDiff, Nat.reduceAdd, Nat.reduceMul, ↓reduceIte, Int.reduceToNat, Int.reducePow, Int.reduceLT, Int.reduceLE, Int.reduceAdd, Int.reduceSub, Int.reduceMul, Int.reduceEq, Int.reduceNe, n1, n2]
  refine AllocA_intro (fun b5 hb5 => ?_)
  replace hb5 : upd (upd Heap.none b3 _) b4 _ b5 = none := hb5
  obtain ⟨n3, n4⟩ := fresh_ne hb5 upd_eq
  obtain ⟨n5, n6⟩ := fresh_ne hb5 (by rw [upd_ne n1]; exact upd_eq)
  simp -implicitDefEqProofs -proj only [go_sem, Nat.reduceBEq, Nat.reduceLT, Nat.reduceLeDiff, Nat.reduceAdd, Nat.reduceMul, ↓reduceIte, Int.reduceToNat, Int.reducePow, Int.reduceLT, Int.reduceLE, Int.reduceAdd, Int.reduceSub, Int.reduceMul, Int.reduceEq, Int.reduceNe, n1, n2, n3, n4, n5, n6]
  refine AllocA_intro (fun b6 hb6 => ?_)
  replace hb6 : upd (upd (upd Heap.none b3 _) b4 _) b5 _ b6 = none := hb6
  obtain ⟨n7, n8⟩ := fresh_ne hb6 upd_eq
  obtain ⟨n9, n10⟩ := fresh_ne hb6 (by rw [upd_ne n3]; exact upd_eq)
  obtain ⟨n11, n12⟩ := fresh_ne hb6 (by rw [upd_ne n5, upd_ne n1]; exact upd_eq)
  simp -implicitDefEqProofs -proj only [go_sem, Nat.reduceBEq, Nat.reduceLT, Nat.reduceLeDiff, Nat.reduceAdd, Nat.reduceMul, ↓reduceIte, Int.reduceToNat, Int.reducePow, Int.reduceLT, Int.reduceLE, Int.reduceAdd, Int.reduceSub, Int.reduceMul, Int.reduceEq, Int.reduceNe, n1, n2, n3, n4, n5, n6, n7, n8, n9, n10, n11, n12]
  refine CallA_pure hl ?_
  simp -implicitDefEqProofs -proj only [go_sem, Nat.reduceBEq, Nat.reduceLT, Nat.reduceLeDiff, Nat.reduceAdd, Nat.reduceMul, ↓reduceIte, Int.reduceToNat, Int.reducePow, Int.reduceLT, Int.reduceLE, Int.reduceAdd, Int.reduceSub, Int.reduceMul, Int.reduceEq, Int.reduceNe, n1, n2, n3, n4, n5, n6, n7, n8, n9, n10, n11, n12]
  refine AllocA_intro (fun b8 hb8 => ?_)
  replace hb8 : upd (upd (upd (upd Heap.none b3 _) b4 _) b5 _) b6 _ b8 = none := hb8
  obtain ⟨p1, p2⟩ := fresh_ne hb8 upd_eq
  simp -implicitDefEqProofs -proj only [go_sem, Nat.reduceBEq, Nat.reduceLT, Nat.reduceLeDiff, Nat.reduceAdd, Nat.reduceMul, ↓reduceIte, Int.reduceToNat, Int.reducePow, Int.reduceLT, Int.reduceLE, Int.reduceAdd, Int.reduceSub, Int.reduceMul, Int.reduceEq, Int.reduceNe, n1, n2, n3, n4, n5, n6, n7, n8, n9, n10, n11, n12, p1, p2]
  refine AllocA_intro (fun b9 hb9 => ?_)
  replace hb9 : upd (upd (upd (upd (upd Heap.none b3 _) b4 _) b5 _) b6 _) b8 _ b9 = none := hb9
  obtain ⟨q1, q2⟩ := fresh_ne hb9 upd_eq
  obtain ⟨q3, q4⟩ := fresh_ne hb9 (by rw [upd_ne p1]; exact upd_eq)
  simp -implicitDefEqProofs -proj only [go_sem, Nat.reduceBEq, Nat.reduceLT, Nat.reduceLeDiff, Nat.reduceAdd, Nat.reduceMul, ↓reduceIte, Int.reduceToNat, Int.reducePow, Int.reduceLT, Int.reduceLE, Int.reduceAdd, Int.reduceSub, Int.reduceMul, Int.reduceEq, Int.reduceNe, n1, n2, n3, n4, n5, n6, n7, n8, n9, n10, n11, n12, p1, p2, q1, q2, q3, q4]
  exact noCurve_lend
open Classical in
noncomputable def resT (la lb : List Int) (g : Int → Int → Int) (bad : Int → Int → Bool) : AV := if zbG bad (runs 0 la) (runs 0 lb) ((runs 0 la).length + (runs 0 lb).length) 0 0 false = true then noCurve else if CurL (zipL g 0 0 la lb) then .tup [curL (zipL g 0 0 la lb), bv true] else .tup [curveV 0 [], bv false]
set_option maxHeartbeats 4000000 in
open Classical in
theorem two_yes {la lb : List Int} {of : FuncId} {g : Int → Int → Int} {bad : Int → Int → Bool} (ha : CurL la) (hb : CurL lb) (hlen : la.length = lb.length) (hof : ∀ u v, smallV u → smallV v → DataW Try.prog of [i64 u, i64 v] (.tup [i64 (g u v), bv (!bad u v)])) : CallW Try.prog f_algebra_two [curL la, curL lb, .fn of []] Heap.none fun r' H' => LendV H' r' (resT la lb g bad) := by
  have hl := lines_yes ha hb hlen
  have hA := (runs_small (curL_ok.2 ha)).2
  have hB := (runs_small (curL_ok.2 hb)).2
  have hsA := (runs_small (curL_ok.2 ha)).1
  have hsB := (runs_small (curL_ok.2 hb)).1
  have hZ : (zipL g 0 0 la lb).length ≤ 999999 := by rw [zipL_len]; unfold zipN; have := ha.2.1; have := hb.2.1; omega
  have hzip := fun bf bp bo d1 d2 d3 => ZipF_ok (a := runs 0 la) (b := runs 0 lb) (f := f_algebra_two_1) (of := of) (bf := bf) (bp := bp) (bo := bo) (g := g) (bad := bad) d1 d2 d3 (fun x hx y hy => two1_ok (hof _ _ (hsA x hx).2 (hsB y hy).2)) (by omega) (by omega)
  rw [zip_runs] at hzip
  rw [show max (0 : Int) 0 = 0 from rfl] at hzip
  have hback := fun H bf x h1 h2 => back_ok (H := H) (bf := bf) (w := zbG bad (runs 0 la) (runs 0 lb) ((runs 0 la).length + (runs 0 lb).length) 0 0 false) (x := x) (l := zipL g 0 0 la lb) h1 h2 hZ
  unfold resT
  generalize zbG bad (runs 0 la) (runs 0 lb) ((runs 0 la).length + (runs 0 lb).length) 0 0 false = z at *
  obtain ⟨RR, hRR⟩ : ∃ RR, (if z = true then noCurve else if CurL (zipL g 0 0 la lb) then AV.tup [curL (zipL g 0 0 la lb), bv true] else .tup [curveV 0 [], bv false]) = RR := ⟨_, rfl⟩
  have hsh : RR = noCurve ∨ ∃ m G u, RR = .tup [curveV m G, bv u] := by
    rw [← hRR]
    by_cases h1 : z = true
    · rw [if_pos h1]; exact .inl rfl
    · rw [if_neg h1]
      by_cases h : CurL (zipL g 0 0 la lb)
      · rw [if_pos h]; exact .inr ⟨_, _, _, rfl⟩
      · rw [if_neg h]; exact .inr ⟨_, _, _, rfl⟩
  simp -implicitDefEqProofs only [hRR] at hback
  rw [hRR]
  generalize runs 0 (zipL g 0 0 la lb) = ZZ at *
  generalize gps la = A at *
  generalize gps lb = B at *
  generalize runs 0 la = Ra at *
  generalize runs 0 lb = Rb at *
  generalize (la.length : Int) - 1 = m at *
  generalize (lb.length : Int) - 1 = n at *
  refine CallW_intro comp_algebra_two (by simp) ?_
  simp -implicitDefEqProofs -proj only [go_sem, Nat.reduceBEq, Nat.reduceLT, Nat.reduceLeDiff, Nat.reduceAdd, Nat.reduceMul, ↓reduceIte, Int.reduceToNat, Int.reducePow, Int.reduceLT, Int.reduceLE, Int.reduceAdd, Int.reduceSub, Int.reduceMul, Int.reduceEq, Int.reduceNe]
  refine AllocA_intro (fun b3 hb3 => ?_)
  simp -implicitDefEqProofs -proj only [go_sem, Nat.reduceBEq, Nat.reduceLT, Nat.reduceLeDiff, Nat.reduceAdd, Nat.reduceMul, ↓reduceIte, Int.reduceToNat, Int.reducePow, Int.reduceLT, Int.reduceLE, Int.reduceAdd, Int.reduceSub, Int.reduceMul, Int.reduceEq, Int.reduceNe]
  refine AllocA_intro (fun b4 hb4 => ?_)
  replace hb4 : upd Heap.none b3 _ b4 = none := hb4
  obtain ⟨n1, n2⟩ := fresh_ne hb4 upd_eq
  simp -implicitDefEqProofs -proj only [go_sem, Nat.reduceBEq, Nat.reduceLT, Nat.reduceLeDiff, Nat.reduceAdd, Nat.reduceMul, ↓reduceIte, Int.reduceToNat, Int.reducePow, Int.reduceLT, Int.reduceLE, Int.reduceAdd, Int.reduceSub, Int.reduceMul, Int.reduceEq, Int.reduceNe, n1, n2]
  refine AllocA_intro (fun b5 hb5 => ?_)
  replace hb5 : upd (upd Heap.none b3 _) b4 _ b5 = none := hb5
  obtain ⟨n3, n4⟩ := fresh_ne hb5 upd_eq
  obtain ⟨n5, n6⟩ := fresh_ne hb5 (by rw [upd_ne n1]; exact upd_eq)
  simp -implicitDefEqProofs -proj only [go_sem, Nat.reduceBEq, Nat.reduceLT, Nat.reduceLeDiff, Nat.reduceAdd, Nat.reduceMul, ↓reduceIte, Int.reduceToNat, Int.reducePow, Int.reduceLT, Int.reduceLE, Int.reduceAdd, Int.reduceSub, Int.reduceMul, Int.reduceEq, Int.reduceNe, n1, n2, n3, n4, n5, n6]
  refine AllocA_intro (fun b6 hb6 => ?_)
  replace hb6 : upd (upd (upd Heap.none b3 _) b4 _) b5 _ b6 = none := hb6
  obtain ⟨n7, n8⟩ := fresh_ne hb6 upd_eq
  obtain ⟨n9, n10⟩ := fresh_ne hb6 (by rw [upd_ne n3]; exact upd_eq)
  obtain ⟨n11, n12⟩ := fresh_ne hb6 (by rw [upd_ne n5, upd_ne n1]; exact upd_eq)
  simp -implicitDefEqProofs -proj only [go_sem, Nat.reduceBEq, Nat.reduceLT, Nat.reduceLeDiff, Nat.reduceAdd, Nat.reduceMul, ↓reduceIte, Int.reduceToNat, Int.reducePow, Int.reduceLT, Int.reduceLE, Int.reduceAdd, Int.reduceSub, Int.reduceMul, Int.reduceEq, Int.reduceNe, n1, n2, n3, n4, n5, n6, n7, n8, n9, n10, n11, n12]
  refine CallA_pure hl ?_
  simp -implicitDefEqProofs -proj only [go_sem, Nat.reduceBEq, Nat.reduceLT, Nat.reduceLeDiff, Nat.reduceAdd, Nat.reduceMul, ↓reduceIte, Int.reduceToNat, Int.reducePow, Int.reduceLT, Int.reduceLE, Int.reduceAdd, Int.reduceSub, Int.reduceMul, Int.reduceEq, Int.reduceNe, n1, n2, n3, n4, n5, n6, n7, n8, n9, n10, n11, n12]
  refine AllocA_intro (fun b8 hb8 => ?_)
  replace hb8 : upd (upd (upd (upd Heap.none b3 _) b4 _) b5 _) b6 _ b8 = none := hb8
  obtain ⟨p1, p2⟩ := fresh_ne hb8 upd_eq
  obtain ⟨p3, p4⟩ := fresh_ne hb8 (by rw [upd_ne n7]; exact upd_eq)
  simp -implicitDefEqProofs -proj only [go_sem, Nat.reduceBEq, Nat.reduceLT, Nat.reduceLeDiff, Nat.reduceAdd, Nat.reduceMul, ↓reduceIte, Int.reduceToNat, Int.reducePow, Int.reduceLT, Int.reduceLE, Int.reduceAdd, Int.reduceSub, Int.reduceMul, Int.reduceEq, Int.reduceNe, n1, n2, n3, n4, n5, n6, n7, n8, n9, n10, n11, n12, p1, p2, p3, p4]
  refine AllocA_intro (fun b9 hb9 => ?_)
  replace hb9 : upd (upd (upd (upd (upd Heap.none b3 _) b4 _) b5 _) b6 _) b8 _ b9 = none := hb9
  obtain ⟨q1, q2⟩ := fresh_ne hb9 upd_eq
  obtain ⟨q3, q4⟩ := fresh_ne hb9 (by rw [upd_ne p1]; exact upd_eq)
  obtain ⟨q5, q6⟩ := fresh_ne hb9 (by rw [upd_ne p3, upd_ne n7]; exact upd_eq)
  simp -implicitDefEqProofs -proj only [go_sem, Nat.reduceBEq, Nat.reduceLT, Nat.reduceLeDiff, Nat.reduceAdd, Nat.reduceMul, ↓reduceIte, Int.reduceToNat, Int.reducePow, Int.reduceLT, Int.reduceLE, Int.reduceAdd, Int.reduceSub, Int.reduceMul, Int.reduceEq, Int.reduceNe, n1, n2, n3, n4, n5, n6, n7, n8, n9, n10, n11, n12, p1, p2, p3, p4, q1, q2, q3, q4, q5, q6]
  refine AllocA_intro (fun bf hbf => ?_)
  simp -implicitDefEqProofs only [upd_get, n1, n2, n3, n4, n5, n6, n7, n8, n9, n10, n11, n12, p1, p2, p3, p4, q1, q2, q3, q4, q5, q6, ↓reduceIte] at hbf
  have r5 : ¬ b5 = bf := fun e => by subst e; simp [n1, n2, n3, n4, n5, n6, n7, n8, n9, n10, n11, n12, p1, p2, p3, p4, q1, q2, q3, q4, q5, q6] at hbf
  have r6 : ¬ b6 = bf := fun e => by subst e; simp [n1, n2, n3, n4, n5, n6, n7, n8, n9, n10, n11, n12, p1, p2, p3, p4, q1, q2, q3, q4, q5, q6] at hbf
  have r8 : ¬ b8 = bf := fun e => by subst e; simp [n1, n2, n3, n4, n5, n6, n7, n8, n9, n10, n11, n12, p1, p2, p3, p4, q1, q2, q3, q4, q5, q6] at hbf
  have r9 : ¬ b9 = bf := fun e => by subst e; simp [n1, n2, n3, n4, n5, n6, n7, n8, n9, n10, n11, n12, p1, p2, p3, p4, q1, q2, q3, q4, q5, q6] at hbf
  have r5' : ¬ bf = b5 := fun e => r5 e.symm
  have r6' : ¬ bf = b6 := fun e => r6 e.symm
  have r8' : ¬ bf = b8 := fun e => r8 e.symm
  have r9' : ¬ bf = b9 := fun e => r9 e.symm
  simp -implicitDefEqProofs -proj only [go_sem, Nat.reduceBEq, Nat.reduceLT, Nat.reduceLeDiff, Nat.reduceAdd, Nat.reduceMul, ↓reduceIte, Int.reduceToNat, Int.reducePow, Int.reduceLT, Int.reduceLE, Int.reduceAdd, Int.reduceSub, Int.reduceMul, Int.reduceEq, Int.reduceNe, n1, n2, n3, n4, n5, n6, n7, n8, n9, n10, n11, n12, p1, p2, p3, p4, q1, q2, q3, q4, q5, q6, r5, r6, r8, r9, r5', r6', r8', r9']
  refine AllocA_intro (fun bp hbp => ?_)
  simp -implicitDefEqProofs only [upd_get, n1, n2, n3, n4, n5, n6, n7, n8, n9, n10, n11, n12, p1, p2, p3, p4, q1, q2, q3, q4, q5, q6, r5, r6, r8, r9, r5', r6', r8', r9', ↓reduceIte] at hbp
  have s5 : ¬ b5 = bp := fun e => by subst e; simp [n1, n2, n3, n4, n5, n6, n7, n8, n9, n10, n11, n12, p1, p2, p3, p4, q1, q2, q3, q4, q5, q6, r5, r6, r8, r9, r5', r6', r8', r9'] at hbp
  have s6 : ¬ b6 = bp := fun e => by subst e; simp [n1, n2, n3, n4, n5, n6, n7, n8, n9, n10, n11, n12, p1, p2, p3, p4, q1, q2, q3, q4, q5, q6, r5, r6, r8, r9, r5', r6', r8', r9'] at hbp
  have s8 : ¬ b8 = bp := fun e => by subst e; simp [n1, n2, n3, n4, n5, n6, n7, n8, n9, n10, n11, n12, p1, p2, p3, p4, q1, q2, q3, q4, q5, q6, r5, r6, r8, r9, r5', r6', r8', r9'] at hbp
  have s9 : ¬ b9 = bp := fun e => by subst e; simp [n1, n2, n3, n4, n5, n6, n7, n8, n9, n10, n11, n12, p1, p2, p3, p4, q1, q2, q3, q4, q5, q6, r5, r6, r8, r9, r5', r6', r8', r9'] at hbp
  have sf : ¬ bf = bp := fun e => by subst e; simp [n1, n2, n3, n4, n5, n6, n7, n8, n9, n10, n11, n12, p1, p2, p3, p4, q1, q2, q3, q4, q5, q6, r5, r6, r8, r9, r5', r6', r8', r9'] at hbp
  have s5' : ¬ bp = b5 := fun e => s5 e.symm
  have s6' : ¬ bp = b6 := fun e => s6 e.symm
  have s8' : ¬ bp = b8 := fun e => s8 e.symm
  have s9' : ¬ bp = b9 := fun e => s9 e.symm
  have sf' : ¬ bp = bf := fun e => sf e.symm
  simp -implicitDefEqProofs -proj only [go_sem, Nat.reduceBEq, Nat.reduceLT, Nat.reduceLeDiff, Nat.reduceAdd, Nat.reduceMul, ↓reduceIte, Int.reduceToNat, Int.reducePow, Int.reduceLT, Int.reduceLE, Int.reduceAdd, Int.reduceSub, Int.reduceMul, Int.reduceEq, Int.reduceNe, n1, n2, n3, n4, n5, n6, n7, n8, n9, n10, n11, n12, p1, p2, p3, p4, q1, q2, q3, q4, q5, q6, r5, r6, r8, r9, r5', r6', r8', r9', s5, s6, s8, s9, sf, s5', s6', s8', s9', sf']
  (repeat' (with_reducible refine VC_intro ?_ (fun h => ?_); (focus first | decide | omega); clear h; try simp -implicitDefEqProofs -proj only [go_sem, Nat.reduceBEq, Nat.reduceLT, Nat.reduceLeDiff, Nat.reduceAdd, Nat.reduceMul, ↓reduceIte, Int.reduceToNat, Int.reducePow, Int.reduceLT, Int.reduceLE, Int.reduceAdd, Int.reduceSub, Int.reduceMul, Int.reduceEq, Int.reduceNe, eq_self, n1, n2, n3, n4, n5, n6, n7, n8, n9, n10, n11, n12, p1, p2, p3, p4, q1, q2, q3, q4, q5, q6, r5, r6, r8, r9, r5', r6', r8', r9', s5, s6, s8, s9, sf, s5', s6', s8', s9', sf']))
  have hz3 := hzip bf bp b5 sf (fun e => r5 e.symm) (fun e => s5 e.symm)
  refine CallSA_w (CallW_frame hz3 (keepH_sub ?_)) (fun r H' hk => ?_)
  · simp -implicitDefEqProofs -proj only [go_sem, Nat.reduceBEq, Nat.reduceLT, Nat.reduceLeDiff, Nat.reduceAdd, Nat.reduceMul, ↓reduceIte, Int.reduceToNat, Int.reducePow, Int.reduceLT, Int.reduceLE, Int.reduceAdd, Int.reduceSub, Int.reduceMul, Int.reduceEq, Int.reduceNe, AllH, n1, n2, n3, n4, n5, n6, n7, n8, n9, n10, n11, n12, p1, p2, p3, p4, q1, q2, q3, q4, q5, q6, r5, r6, r8, r9, r5', r6', r8', r9', s5, s6, s8, s9, sf, s5', s6', s8', s9', sf']
  obtain ⟨H1, ⟨hv, hfl, hpp⟩, hsub, hfr⟩ := hk
  obtain ⟨x, rfl, hx⟩ := lineX_of hv
  have h6 := hfr b6 (.box 24 [i64 0, .nilsl 5]) (by simp -implicitDefEqProofs -proj only [go_sem, Nat.reduceBEq, Nat.reduceLT, Nat.reduceLeDiff, Nat.reduceAdd, Nat.reduceMul, ↓reduceIte, Int.reduceToNat, Int.reducePow, Int.reduceLT, Int.reduceLE, Int.reduceAdd, Int.reduceSub, Int.reduceMul, Int.reduceEq, Int.reduceNe, n1, n2, n3, n4, n5, n6, n7, n8, n9, n10, n11, n12, p1, p2, p3, p4, q1, q2, q3, q4, q5, q6, r5, r6, r8, r9, r5', r6', r8', r9', s5, s6, s8, s9, sf, s5', s6', s8', s9', sf']) (by simp -implicitDefEqProofs -proj only [go_sem, Nat.reduceBEq, Nat.reduceLT, Nat.reduceLeDiff, Nat.reduceAdd, Nat.reduceMul, ↓reduceIte, Int.reduceToNat, Int.reducePow, Int.reduceLT, Int.reduceLE, Int.reduceAdd, Int.reduceSub, Int.reduceMul, Int.reduceEq, Int.reduceNe, n1, n2, n3, n4, n5, n6, n7, n8, n9, n10, n11, n12, p1, p2, p3, p4, q1, q2, q3, q4, q5, q6, r5, r6, r8, r9, r5', r6', r8', r9', s5, s6, s8, s9, sf, s5', s6', s8', s9', sf'])
  refine ⟨?_, ?_⟩
  · intro d hd k off hdk e cells hkk
    rw [List.mem_singleton] at hd
    subst hd
    simp -implicitDefEqProofs -proj only [go_sem, Nat.reduceBEq, Nat.reduceLT, Nat.reduceLeDiff, Nat.reduceAdd, Nat.reduceMul, ↓reduceIte, Int.reduceToNat, Int.reducePow, Int.reduceLT, Int.reduceLE, Int.reduceAdd, Int.reduceSub, Int.reduceMul, Int.reduceEq, Int.reduceNe, AV.ptr.injEq] at hdk
    obtain ⟨rfl, rfl⟩ := hdk
    have hpp' := hsub bp _ hpp
    simp -implicitDefEqProofs -proj only [go_sem, Nat.reduceBEq, Nat.reduceLT, Nat.reduceLeDiff, Nat.reduceAdd, Nat.reduceMul, ↓reduceIte, Int.reduceToNat, Int.reducePow, Int.reduceLT, Int.reduceLE, Int.reduceAdd, Int.reduceSub, Int.reduceMul, Int.reduceEq, Int.reduceNe, n1, n2, n3, n4, n5, n6, n7, n8, n9, n10, n11, n12, p1, p2, p3, p4, q1, q2, q3, q4, q5, q6, r5, r6, r8, r9, r5', r6', r8', r9', s5, s6, s8, s9, sf, s5', s6', s8', s9', sf', Option.some.injEq] at hkk
    rw [← hkk]
    exact hpp'
  · simp -implicitDefEqProofs -proj only [go_sem, Nat.reduceBEq, Nat.reduceLT, Nat.reduceLeDiff, Nat.reduceAdd, Nat.reduceMul, ↓reduceIte, Int.reduceToNat, Int.reducePow, Int.reduceLT, Int.reduceLE, Int.reduceAdd, Int.reduceSub, Int.reduceMul, Int.reduceEq, Int.reduceNe]
    refine CallA_w (hback H' bf x (hsub bf _ hfl) (hx.mono hsub)) (fun rr H2 hk => ?_)
    obtain ⟨rfl, hk2⟩ := hk
    have h6' := hk2 b6 _ h6
    rcases hsh with rfl | ⟨m', G', u', rfl⟩
    · simp -implicitDefEqProofs -proj only [go_sem, Nat.reduceBEq, Nat.reduceLT, Nat.reduceLeDiff, Nat.reduceAdd, Nat.reduceMul, ↓reduceIte, Int.reduceToNat, Int.reducePow, Int.reduceLT, Int.reduceLE, Int.reduceAdd, Int.reduceSub, Int.reduceMul, Int.reduceEq, Int.reduceNe, noCurve, h6']
      exact .refl _
    · simp -implicitDefEqProofs -proj only [go_sem, Nat.reduceBEq, Nat.reduceLT, Nat.reduceLeDiff, Nat.reduceAdd, Nat.reduceMul, ↓reduceIte, Int.reduceToNat, Int.reducePow, Int.reduceLT, Int.reduceLE, Int.reduceAdd, Int.reduceSub, Int.reduceMul, Int.reduceEq, Int.reduceNe, h6']
      exact .refl _
noncomputable instance tkD (a b : List Int) (i : Nat) : Decidable (a.length = b.length ∧ a.take i = b.take i) := inferInstance
structure CurX where
  m : Int
  G : List Grp
abbrev CurX.av (c : CurX) : AV := curveV c.m c.G
def CurX.Fit (c : CurX) : Prop := Abs.Fit c.m ∧ c.G.length ≤ 9223372036854775807
theorem typed_group {n : Nat} {l : List D} (h : typedW Try.prog (n + 2) 31 l) : ∃ g : Grp, l = g.el := by
  obtain ⟨ls, rfl, h1, _⟩ := typed_struct (fs := #[⟨"From", 3, 0, false, "", "", 0⟩, ⟨"Value", 3, 1, false, "", "", 8⟩, ⟨"Width", 3, 2, false, "", "", 16⟩, ⟨"Rise", 3, 3, false, "", "", 24⟩, ⟨"Count", 3, 4, false, "", "", 32⟩]) h (by kernel_rfl)
  obtain ⟨l0, r0, rfl, t0, h1⟩ := typedL_cons h1
  obtain ⟨l1, r1, rfl, t1, h1⟩ := typedL_cons h1
  obtain ⟨l2, r2, rfl, t2, h1⟩ := typedL_cons h1
  obtain ⟨l3, r3, rfl, t3, h1⟩ := typedL_cons h1
  obtain ⟨l4, r4, rfl, t4, h1⟩ := typedL_cons h1
  obtain rfl := typedL_nil h1
  obtain ⟨z0, rfl, f0, _⟩ := typed_int t0 (by kernel_rfl)
  obtain ⟨z1, rfl, f1, _⟩ := typed_int t1 (by kernel_rfl)
  obtain ⟨z2, rfl, f2, _⟩ := typed_int t2 (by kernel_rfl)
  obtain ⟨z3, rfl, f3, _⟩ := typed_int t3 (by kernel_rfl)
  obtain ⟨z4, rfl, f4, _⟩ := typed_int t4 (by kernel_rfl)
  exact ⟨⟨z0, z1, z2, z3, z4⟩, rfl⟩
theorem typed_groups {n : Nat} {l : List D} (h : typedW Try.prog (n + 3) 22 l) : ∃ zs : List Grp, zs.length ≤ 9223372036854775807 ∧ l = [.sl 5 (rowG zs)] := by
  obtain ⟨xs, rfl, h1, h2, h3⟩ := typed_slice (e := 31) h (by kernel_rfl)
  have hz : ∃ zs : List Grp, xs = rowG zs := by
    clear h1 h3 h
    induction xs with
    | nil => exact ⟨[], rfl⟩
    | cons x xs ih =>
      obtain ⟨g, rfl⟩ := typed_group (h2 x (List.mem_cons_self ..))
      obtain ⟨zs, rfl⟩ := ih (fun y hy => h2 y (List.mem_cons_of_mem _ hy))
      exact ⟨g :: zs, rfl⟩
  obtain ⟨zs, rfl⟩ := hz
  rw [rowG_len] at h1
  exact ⟨zs, h1, by kernel_rfl⟩
theorem typed_curve {n : Nat} {l : List D} (h : typedW Try.prog (n + 4) 24 l) : ∃ c : CurX, c.Fit ∧ l = [.int .i64 c.m, .sl 5 (rowG c.G)] ∧ argAV Try.prog 24 l = c.av := by
  obtain ⟨ls, rfl, h1, e⟩ := typed_struct (fs := #[⟨"Max", 3, 0, false, "", "", 0⟩, ⟨"Groups", 22, 1, false, "", "", 8⟩]) h (by kernel_rfl)
  obtain ⟨l0, r0, rfl, t0, h1⟩ := typedL_cons h1
  obtain ⟨l1, r1, rfl, t1, h1⟩ := typedL_cons h1
  obtain rfl := typedL_nil h1
  obtain ⟨z0, rfl, f0, _⟩ := typed_int t0 (by kernel_rfl)
  obtain ⟨zs, g1, rfl⟩ := typed_groups t1
  exact ⟨⟨z0, zs⟩, ⟨f0, g1⟩, rfl, by rw [e]; rfl⟩
theorem zbG_false {a b : List Run} : ∀ (n i k : Nat), zbG (fun _ _ => false) a b n i k false = false
  | 0, i, k => by rw [zbG]
  | n + 1, i, k => by
    rw [zbG]
    split
    · rw [Bool.or_false, ite_self]
      exact zbG_false n _ _
    · rfl
theorem zipL_eq {g : Int → Int → Int} {a b : List Int} (h : a.length = b.length) : zipL g 0 0 a b = List.zipWith g a b := by
  have hn : zipN 0 0 a b = a.length := by unfold zipN; omega
  refine List.ext_getElem (by rw [zipL_len, hn, List.length_zipWith]; omega) fun i h1 h2 => ?_
  rw [zipL_len, hn] at h1
  have e1 := valL_get (f := 0) (l := a) (i := i) h1
  have e2 := valL_get (f := 0) (l := b) (i := i) (by omega)
  rw [Int.zero_add] at e1 e2
  simp -implicitDefEqProofs only [zipL, List.getElem_map, List.getElem_range, List.getElem_zipWith, show (max (0 : Int) 0) = 0 from rfl, Int.zero_add, e1, e2]
open Classical in
theorem two_res {la lb : List Int} {of : FuncId} {g : Int → Int → Int} (ha : CurL la) (hb : CurL lb) (hlen : la.length = lb.length) (hof : ∀ u v, smallV u → smallV v → DataW Try.prog of [i64 u, i64 v] (.tup [i64 (g u v), bv true])) : DataW Try.prog f_algebra_two [curL la, curL lb, .fn of []] (if CurL (List.zipWith g la lb) then .tup [curL (List.zipWith g la lb), bv true] else .tup [curveV 0 [], bv false]) := by
  have h := two_yes (bad := fun _ _ => false) ha hb hlen hof
  unfold resT at h
  rw [zbG_false, if_neg (by simp), zipL_eq hlen] at h
  exact h
theorem oneSum_ok (u v : Int) (hu : smallV u) (hv : smallV v) : DataW Try.prog f_exact_Add [i64 u, i64 v] (.tup [i64 ((fun u v => u + v) u v), bv true]) := by
  unfold smallV at hu hv
  have h := Add_ok (a := u) (b := v) (by unfold Fit; omega) (by unfold Fit; omega)
  rwa [fitR_yes (by unfold Fit; omega)] at h
theorem Sum_of {m n k : Int} {A B G : List Grp} {u : Bool} (h : DataW Try.prog f_algebra_two [curveV m A, curveV n B, .fn f_exact_Add []] (.tup [curveV k G, bv u])) : DataW Try.prog f_algebra_Sum [curveV m A, curveV n B] (.tup [curveV k G, bv u]) := by
  refine CallW_intro comp_algebra_Sum (by simp) ?_
  simp -implicitDefEqProofs -proj only [go_sem, Nat.reduceBEq, Nat.reduceLT, Nat.reduceLeDiff, Nat.reduceAdd, Nat.reduceMul, ↓reduceIte, Int.reduceToNat, Int.reducePow, Int.reduceLT, Int.reduceLE, Int.reduceAdd, Int.reduceSub, Int.reduceMul, Int.reduceEq, Int.reduceNe]
  refine AllocA_intro (fun b2 hb2 => ?_)
  simp -implicitDefEqProofs -proj only [go_sem, Nat.reduceBEq, Nat.reduceLT, Nat.reduceLeDiff, Nat.reduceAdd, Nat.reduceMul, ↓reduceIte, Int.reduceToNat, Int.reducePow, Int.reduceLT, Int.reduceLE, Int.reduceAdd, Int.reduceSub, Int.reduceMul, Int.reduceEq, Int.reduceNe]
  refine AllocA_intro (fun b3 hb3 => ?_)
  replace hb3 : upd Heap.none b2 _ b3 = none := hb3
  obtain ⟨n1, n2⟩ := fresh_ne hb3 upd_eq
  simp -implicitDefEqProofs -proj only [go_sem, Nat.reduceBEq, Nat.reduceLT, Nat.reduceLeDiff, Nat.reduceAdd, Nat.reduceMul, ↓reduceIte, Int.reduceToNat, Int.reducePow, Int.reduceLT, Int.reduceLE, Int.reduceAdd, Int.reduceSub, Int.reduceMul, Int.reduceEq, Int.reduceNe, n1, n2]
  refine AllocA_intro (fun b4 hb4 => ?_)
  replace hb4 : upd (upd Heap.none b2 _) b3 _ b4 = none := hb4
  obtain ⟨n3, n4⟩ := fresh_ne hb4 upd_eq
  obtain ⟨n5, n6⟩ := fresh_ne hb4 (by rw [upd_ne n1]; exact upd_eq)
  simp -implicitDefEqProofs -proj only [go_sem, Nat.reduceBEq, Nat.reduceLT, Nat.reduceLeDiff, Nat.reduceAdd, Nat.reduceMul, ↓reduceIte, Int.reduceToNat, Int.reducePow, Int.reduceLT, Int.reduceLE, Int.reduceAdd, Int.reduceSub, Int.reduceMul, Int.reduceEq, Int.reduceNe, n1, n2, n3, n4, n5, n6]
  refine CallA_pure h ?_
  simp -implicitDefEqProofs -proj only [go_sem, Nat.reduceBEq, Nat.reduceLT, Nat.reduceLeDiff, Nat.reduceAdd, Nat.reduceMul, ↓reduceIte, Int.reduceToNat, Int.reducePow, Int.reduceLT, Int.reduceLE, Int.reduceAdd, Int.reduceSub, Int.reduceMul, Int.reduceEq, Int.reduceNe, n1, n2, n3, n4, n5, n6]
  exact LendV_eq rfl
open Classical in
theorem Sum_res {la lb : List Int} (ha : CurL la) (hb : CurL lb) (hlen : la.length = lb.length) : DataW Try.prog f_algebra_Sum [curL la, curL lb] (if CurL (List.zipWith (fun u v => u + v) la lb) then .tup [curL (List.zipWith (fun u v => u + v) la lb), bv true] else .tup [curveV 0 [], bv false]) := by
  have h := two_res (of := f_exact_Add) (g := (fun u v => u + v)) ha hb hlen (fun u v hu hv => oneSum_ok u v hu hv)
  by_cases hc : CurL (List.zipWith (fun u v => u + v) la lb)
  · rw [if_pos hc] at h ⊢; exact Sum_of h
  · rw [if_neg hc] at h ⊢; exact Sum_of h
theorem Sum_yes {la lb ls : List Int} (ha : CurL la) (hb : CurL lb) (hlen : la.length = lb.length) (e : List.zipWith (fun u v => u + v) la lb = ls) (hs : CurL ls) : DataW Try.prog f_algebra_Sum [curL la, curL lb] (.tup [curL ls, bv true]) := by
  subst e
  have h := Sum_res ha hb hlen
  rwa [if_pos hs] at h
theorem oneDiff_ok (u v : Int) (hu : smallV u) (hv : smallV v) : DataW Try.prog f_exact_Sub [i64 u, i64 v] (.tup [i64 ((fun u v => u - v) u v), bv true]) := by
  unfold smallV at hu hv
  have h := Sub_ok (a := u) (b := v) (by unfold Fit; omega) (by unfold Fit; omega)
  rwa [fitR_yes (by unfold Fit; omega)] at h
theorem Diff_of {m n k : Int} {A B G : List Grp} {u : Bool} (h : DataW Try.prog f_algebra_two [curveV m A, curveV n B, .fn f_exact_Sub []] (.tup [curveV k G, bv u])) : DataW Try.prog f_algebra_Diff [curveV m A, curveV n B] (.tup [curveV k G, bv u]) := by
  refine CallW_intro comp_algebra_Diff (by simp) ?_
  simp -implicitDefEqProofs -proj only [go_sem, Nat.reduceBEq, Nat.reduceLT, Nat.reduceLeDiff, Nat.reduceAdd, Nat.reduceMul, ↓reduceIte, Int.reduceToNat, Int.reducePow, Int.reduceLT, Int.reduceLE, Int.reduceAdd, Int.reduceSub, Int.reduceMul, Int.reduceEq, Int.reduceNe]
  refine AllocA_intro (fun b2 hb2 => ?_)
  simp -implicitDefEqProofs -proj only [go_sem, Nat.reduceBEq, Nat.reduceLT, Nat.reduceLeDiff, Nat.reduceAdd, Nat.reduceMul, ↓reduceIte, Int.reduceToNat, Int.reducePow, Int.reduceLT, Int.reduceLE, Int.reduceAdd, Int.reduceSub, Int.reduceMul, Int.reduceEq, Int.reduceNe]
  refine AllocA_intro (fun b3 hb3 => ?_)
  replace hb3 : upd Heap.none b2 _ b3 = none := hb3
  obtain ⟨n1, n2⟩ := fresh_ne hb3 upd_eq
  simp -implicitDefEqProofs -proj only [go_sem, Nat.reduceBEq, Nat.reduceLT, Nat.reduceLeDiff, Nat.reduceAdd, Nat.reduceMul, ↓reduceIte, Int.reduceToNat, Int.reducePow, Int.reduceLT, Int.reduceLE, Int.reduceAdd, Int.reduceSub, Int.reduceMul, Int.reduceEq, Int.reduceNe, n1, n2]
  refine AllocA_intro (fun b4 hb4 => ?_)
  replace hb4 : upd (upd Heap.none b2 _) b3 _ b4 = none := hb4
  obtain ⟨n3, n4⟩ := fresh_ne hb4 upd_eq
  obtain ⟨n5, n6⟩ := fresh_ne hb4 (by rw [upd_ne n1]; exact upd_eq)
  simp -implicitDefEqProofs -proj only [go_sem, Nat.reduceBEq, Nat.reduceLT, Nat.reduceLeDiff, Nat.reduceAdd, Nat.reduceMul, ↓reduceIte, Int.reduceToNat, Int.reducePow, Int.reduceLT, Int.reduceLE, Int.reduceAdd, Int.reduceSub, Int.reduceMul, Int.reduceEq, Int.reduceNe, n1, n2, n3, n4, n5, n6]
  refine CallA_pure h ?_
  simp -implicitDefEqProofs -proj only [go_sem, Nat.reduceBEq, Nat.reduceLT, Nat.reduceLeDiff, Nat.reduceAdd, Nat.reduceMul, ↓reduceIte, Int.reduceToNat, Int.reducePow, Int.reduceLT, Int.reduceLE, Int.reduceAdd, Int.reduceSub, Int.reduceMul, Int.reduceEq, Int.reduceNe, n1, n2, n3, n4, n5, n6]
  exact LendV_eq rfl
open Classical in
theorem Diff_res {la lb : List Int} (ha : CurL la) (hb : CurL lb) (hlen : la.length = lb.length) : DataW Try.prog f_algebra_Diff [curL la, curL lb] (if CurL (List.zipWith (fun u v => u - v) la lb) then .tup [curL (List.zipWith (fun u v => u - v) la lb), bv true] else .tup [curveV 0 [], bv false]) := by
  have h := two_res (of := f_exact_Sub) (g := (fun u v => u - v)) ha hb hlen (fun u v hu hv => oneDiff_ok u v hu hv)
  by_cases hc : CurL (List.zipWith (fun u v => u - v) la lb)
  · rw [if_pos hc] at h ⊢; exact Diff_of h
  · rw [if_neg hc] at h ⊢; exact Diff_of h
theorem Diff_yes {la lb ls : List Int} (ha : CurL la) (hb : CurL lb) (hlen : la.length = lb.length) (e : List.zipWith (fun u v => u - v) la lb = ls) (hs : CurL ls) : DataW Try.prog f_algebra_Diff [curL la, curL lb] (.tup [curL ls, bv true]) := by
  subst e
  have h := Diff_res ha hb hlen
  rwa [if_pos hs] at h
theorem oneLesser_ok (u v : Int) (hu : smallV u) (hv : smallV v) : DataW Try.prog f_algebra_Lesser_1 [i64 u, i64 v] (.tup [i64 ((fun u v => min u v) u v), bv true]) := by
  refine CallW_intro comp_algebra_Lesser_1 (by simp) ?_
  simp -implicitDefEqProofs -proj only [go_sem, Nat.reduceBEq, Nat.reduceLT, Nat.reduceLeDiff, Nat.reduceAdd, Nat.reduceMul, ↓reduceIte, Int.reduceToNat, Int.reducePow, Int.reduceLT, Int.reduceLE, Int.reduceAdd, Int.reduceSub, Int.reduceMul, Int.reduceEq, Int.reduceNe]
  exact LendV_eq rfl
theorem Lesser_of {m n k : Int} {A B G : List Grp} {u : Bool} (h : DataW Try.prog f_algebra_two [curveV m A, curveV n B, .fn f_algebra_Lesser_1 []] (.tup [curveV k G, bv u])) : DataW Try.prog f_algebra_Lesser [curveV m A, curveV n B] (.tup [curveV k G, bv u]) := by
  refine CallW_intro comp_algebra_Lesser (by simp) ?_
  simp -implicitDefEqProofs -proj only [go_sem, Nat.reduceBEq, Nat.reduceLT, Nat.reduceLeDiff, Nat.reduceAdd, Nat.reduceMul, ↓reduceIte, Int.reduceToNat, Int.reducePow, Int.reduceLT, Int.reduceLE, Int.reduceAdd, Int.reduceSub, Int.reduceMul, Int.reduceEq, Int.reduceNe]
  refine AllocA_intro (fun b2 hb2 => ?_)
  simp -implicitDefEqProofs -proj only [go_sem, Nat.reduceBEq, Nat.reduceLT, Nat.reduceLeDiff, Nat.reduceAdd, Nat.reduceMul, ↓reduceIte, Int.reduceToNat, Int.reducePow, Int.reduceLT, Int.reduceLE, Int.reduceAdd, Int.reduceSub, Int.reduceMul, Int.reduceEq, Int.reduceNe]
  refine AllocA_intro (fun b3 hb3 => ?_)
  replace hb3 : upd Heap.none b2 _ b3 = none := hb3
  obtain ⟨n1, n2⟩ := fresh_ne hb3 upd_eq
  simp -implicitDefEqProofs -proj only [go_sem, Nat.reduceBEq, Nat.reduceLT, Nat.reduceLeDiff, Nat.reduceAdd, Nat.reduceMul, ↓reduceIte, Int.reduceToNat, Int.reducePow, Int.reduceLT, Int.reduceLE, Int.reduceAdd, Int.reduceSub, Int.reduceMul, Int.reduceEq, Int.reduceNe, n1, n2]
  refine AllocA_intro (fun b4 hb4 => ?_)
  replace hb4 : upd (upd Heap.none b2 _) b3 _ b4 = none := hb4
  obtain ⟨n3, n4⟩ := fresh_ne hb4 upd_eq
  obtain ⟨n5, n6⟩ := fresh_ne hb4 (by rw [upd_ne n1]; exact upd_eq)
  simp -implicitDefEqProofs -proj only [go_sem, Nat.reduceBEq, Nat.reduceLT, Nat.reduceLeDiff, Nat.reduceAdd, Nat.reduceMul, ↓reduceIte, Int.reduceToNat, Int.reducePow, Int.reduceLT, Int.reduceLE, Int.reduceAdd, Int.reduceSub, Int.reduceMul, Int.reduceEq, Int.reduceNe, n1, n2, n3, n4, n5, n6]
  refine CallA_pure h ?_
  simp -implicitDefEqProofs -proj only [go_sem, Nat.reduceBEq, Nat.reduceLT, Nat.reduceLeDiff, Nat.reduceAdd, Nat.reduceMul, ↓reduceIte, Int.reduceToNat, Int.reducePow, Int.reduceLT, Int.reduceLE, Int.reduceAdd, Int.reduceSub, Int.reduceMul, Int.reduceEq, Int.reduceNe, n1, n2, n3, n4, n5, n6]
  exact LendV_eq rfl
open Classical in
theorem Lesser_res {la lb : List Int} (ha : CurL la) (hb : CurL lb) (hlen : la.length = lb.length) : DataW Try.prog f_algebra_Lesser [curL la, curL lb] (if CurL (List.zipWith (fun u v => min u v) la lb) then .tup [curL (List.zipWith (fun u v => min u v) la lb), bv true] else .tup [curveV 0 [], bv false]) := by
  have h := two_res (of := f_algebra_Lesser_1) (g := (fun u v => min u v)) ha hb hlen (fun u v hu hv => oneLesser_ok u v hu hv)
  by_cases hc : CurL (List.zipWith (fun u v => min u v) la lb)
  · rw [if_pos hc] at h ⊢; exact Lesser_of h
  · rw [if_neg hc] at h ⊢; exact Lesser_of h
theorem Lesser_yes {la lb ls : List Int} (ha : CurL la) (hb : CurL lb) (hlen : la.length = lb.length) (e : List.zipWith (fun u v => min u v) la lb = ls) (hs : CurL ls) : DataW Try.prog f_algebra_Lesser [curL la, curL lb] (.tup [curL ls, bv true]) := by
  subst e
  have h := Lesser_res ha hb hlen
  rwa [if_pos hs] at h
theorem oneGreater_ok (u v : Int) (hu : smallV u) (hv : smallV v) : DataW Try.prog f_algebra_Greater_1 [i64 u, i64 v] (.tup [i64 ((fun u v => max u v) u v), bv true]) := by
  refine CallW_intro comp_algebra_Greater_1 (by simp) ?_
  simp -implicitDefEqProofs -proj only [go_sem, Nat.reduceBEq, Nat.reduceLT, Nat.reduceLeDiff, Nat.reduceAdd, Nat.reduceMul, ↓reduceIte, Int.reduceToNat, Int.reducePow, Int.reduceLT, Int.reduceLE, Int.reduceAdd, Int.reduceSub, Int.reduceMul, Int.reduceEq, Int.reduceNe]
  exact LendV_eq rfl
theorem Greater_of {m n k : Int} {A B G : List Grp} {u : Bool} (h : DataW Try.prog f_algebra_two [curveV m A, curveV n B, .fn f_algebra_Greater_1 []] (.tup [curveV k G, bv u])) : DataW Try.prog f_algebra_Greater [curveV m A, curveV n B] (.tup [curveV k G, bv u]) := by
  refine CallW_intro comp_algebra_Greater (by simp) ?_
  simp -implicitDefEqProofs -proj only [go_sem, Nat.reduceBEq, Nat.reduceLT, Nat.reduceLeDiff, Nat.reduceAdd, Nat.reduceMul, ↓reduceIte, Int.reduceToNat, Int.reducePow, Int.reduceLT, Int.reduceLE, Int.reduceAdd, Int.reduceSub, Int.reduceMul, Int.reduceEq, Int.reduceNe]
  refine AllocA_intro (fun b2 hb2 => ?_)
  simp -implicitDefEqProofs -proj only [go_sem, Nat.reduceBEq, Nat.reduceLT, Nat.reduceLeDiff, Nat.reduceAdd, Nat.reduceMul, ↓reduceIte, Int.reduceToNat, Int.reducePow, Int.reduceLT, Int.reduceLE, Int.reduceAdd, Int.reduceSub, Int.reduceMul, Int.reduceEq, Int.reduceNe]
  refine AllocA_intro (fun b3 hb3 => ?_)
  replace hb3 : upd Heap.none b2 _ b3 = none := hb3
  obtain ⟨n1, n2⟩ := fresh_ne hb3 upd_eq
  simp -implicitDefEqProofs -proj only [go_sem, Nat.reduceBEq, Nat.reduceLT, Nat.reduceLeDiff, Nat.reduceAdd, Nat.reduceMul, ↓reduceIte, Int.reduceToNat, Int.reducePow, Int.reduceLT, Int.reduceLE, Int.reduceAdd, Int.reduceSub, Int.reduceMul, Int.reduceEq, Int.reduceNe, n1, n2]
  refine AllocA_intro (fun b4 hb4 => ?_)
  replace hb4 : upd (upd Heap.none b2 _) b3 _ b4 = none := hb4
  obtain ⟨n3, n4⟩ := fresh_ne hb4 upd_eq
  obtain ⟨n5, n6⟩ := fresh_ne hb4 (by rw [upd_ne n1]; exact upd_eq)
  simp -implicitDefEqProofs -proj only [go_sem, Nat.reduceBEq, Nat.reduceLT, Nat.reduceLeDiff, Nat.reduceAdd, Nat.reduceMul, ↓reduceIte, Int.reduceToNat, Int.reducePow, Int.reduceLT, Int.reduceLE, Int.reduceAdd, Int.reduceSub, Int.reduceMul, Int.reduceEq, Int.reduceNe, n1, n2, n3, n4, n5, n6]
  refine CallA_pure h ?_
  simp -implicitDefEqProofs -proj only [go_sem, Nat.reduceBEq, Nat.reduceLT, Nat.reduceLeDiff, Nat.reduceAdd, Nat.reduceMul, ↓reduceIte, Int.reduceToNat, Int.reducePow, Int.reduceLT, Int.reduceLE, Int.reduceAdd, Int.reduceSub, Int.reduceMul, Int.reduceEq, Int.reduceNe, n1, n2, n3, n4, n5, n6]
  exact LendV_eq rfl
open Classical in
theorem Greater_res {la lb : List Int} (ha : CurL la) (hb : CurL lb) (hlen : la.length = lb.length) : DataW Try.prog f_algebra_Greater [curL la, curL lb] (if CurL (List.zipWith (fun u v => max u v) la lb) then .tup [curL (List.zipWith (fun u v => max u v) la lb), bv true] else .tup [curveV 0 [], bv false]) := by
  have h := two_res (of := f_algebra_Greater_1) (g := (fun u v => max u v)) ha hb hlen (fun u v hu hv => oneGreater_ok u v hu hv)
  by_cases hc : CurL (List.zipWith (fun u v => max u v) la lb)
  · rw [if_pos hc] at h ⊢; exact Greater_of h
  · rw [if_neg hc] at h ⊢; exact Greater_of h
theorem Greater_yes {la lb ls : List Int} (ha : CurL la) (hb : CurL lb) (hlen : la.length = lb.length) (e : List.zipWith (fun u v => max u v) la lb = ls) (hs : CurL ls) : DataW Try.prog f_algebra_Greater [curL la, curL lb] (.tup [curL ls, bv true]) := by
  subst e
  have h := Greater_res ha hb hlen
  rwa [if_pos hs] at h
theorem gps_const {n : Nat} {v : Int} (h : 0 < n) : gps (List.replicate n v) = [⟨0, v, 0, 0, 1⟩] := by
  have e : [(⟨0, (n : Int) - 1, v⟩ : Run)] = runs 0 (List.replicate n v) := by
    refine runs_eq (val := fun _ => v) ⟨rfl, by show (0 : Int) ≤ (n : Int) - 1; omega, fun _ _ _ => rfl, fun s hs => by simp at hs, ?_⟩ (fun i hi => by simp)
    show (n : Int) - 1 + 1 = 0 + ((List.replicate n v).length : Int)
    rw [List.length_replicate]; omega
  unfold gps
  rw [← e]
  rfl
theorem cur012 : CurL [0, 1, 2] := ⟨by simp, by simp, by simp [smallV]⟩
theorem cur555 : CurL [5, 5, 5] := ⟨by simp, by simp, by simp [smallV]⟩
theorem cur567 : CurL [5, 6, 7] := ⟨by simp, by simp, by simp [smallV]⟩
theorem gps012 : gps [0, 1, 2] = [⟨0, 0, 1, 1, 3⟩] := by decide +kernel
theorem gps555 : gps [5, 5, 5] = [⟨0, 5, 0, 0, 1⟩] := gps_const (n := 3) (by decide)
theorem gps567 : gps [5, 6, 7] = [⟨0, 5, 1, 1, 3⟩] := by decide +kernel
theorem Flat16_ok : DataW Try.prog f_algebra_Flat [i64 2, i64 5] (.tup [curL [5, 5, 5], bv true]) := by
  have h := OfL_ok (l := [5, 5, 5]) (by decide)
  rw [if_pos cur555, show runs 0 [5, 5, 5] = [(⟨0, 2, 5⟩ : Run)] by decide +kernel] at h
  have h1 : NewW Try.prog f_line_Flat_int [i64 0, i64 2, i64 5] (lineV [(⟨0, 2, 5⟩ : Run)]) := by
    refine CallW_intro comp_line_Flat_int (by simp) ?_
    simp -implicitDefEqProofs -proj only [go_sem, Nat.reduceBEq, Nat.reduceLT, Nat.reduceLeDiff, Nat.reduceAdd, Nat.reduceMul, ↓reduceIte, Int.reduceToNat, Int.reducePow, Int.reduceLT, Int.reduceLE, Int.reduceAdd, Int.reduceSub, Int.reduceMul, Int.reduceEq, Int.reduceNe]
    refine AllocA_intro (fun b6 hb6 => ?_)
    simp -implicitDefEqProofs -proj only [go_sem, Nat.reduceBEq, Nat.reduceLT, Nat.reduceLeDiff, Nat.reduceAdd, Nat.reduceMul, ↓reduceIte, Int.reduceToNat, Int.reducePow, Int.reduceLT, Int.reduceLE, Int.reduceAdd, Int.reduceSub, Int.reduceMul, Int.reduceEq, Int.reduceNe]
    refine AllocR_intro (fun bs hs => ?_)
    replace hs : upd Heap.none b6 _ bs = none := hs
    obtain ⟨n1, n2⟩ := fresh_ne hs upd_eq
    simp -implicitDefEqProofs -proj only [go_sem, Nat.reduceBEq, Nat.reduceLT, Nat.reduceLeDiff, Nat.reduceAdd, Nat.reduceMul, ↓reduceIte, Int.reduceToNat, Int.reducePow, Int.reduceLT, Int.reduceLE, Int.reduceAdd, Int.reduceSub, Int.reduceMul, Int.reduceEq, Int.reduceNe, n1, n2]
    refine lend_agg1 ?_
    exact .own _ _ _ _ _ [[.int .i64 0, .int .i64 2, .int .i64 5]] (by simp -implicitDefEqProofs -proj only [go_sem, Nat.reduceBEq, Nat.reduceLT, Nat.reduceLeDiff, Nat.reduceAdd, Nat.reduceMul, ↓reduceIte, Int.reduceToNat, Int.reducePow, Int.reduceLT, Int.reduceLE, Int.reduceAdd, Int.reduceSub, Int.reduceMul, Int.reduceEq, Int.reduceNe, n1, n2]; rfl) (by intro el he d hd; simp -implicitDefEqProofs only [List.mem_singleton] at he; subst he; simp -implicitDefEqProofs only [List.mem_cons, List.not_mem_nil, or_false] at hd; rcases hd with rfl | rfl | rfl <;> rfl)
  refine CallW_intro comp_algebra_Flat (by simp) ?_
  simp -implicitDefEqProofs -proj only [go_sem, Nat.reduceBEq, Nat.reduceLT, Nat.reduceLeDiff, Nat.reduceAdd, Nat.reduceMul, ↓reduceIte, Int.reduceToNat, Int.reducePow, Int.reduceLT, Int.reduceLE, Int.reduceAdd, Int.reduceSub, Int.reduceMul, Int.reduceEq, Int.reduceNe]
  refine AllocA_intro (fun b4 hb4 => ?_)
  simp -implicitDefEqProofs -proj only [go_sem, Nat.reduceBEq, Nat.reduceLT, Nat.reduceLeDiff, Nat.reduceAdd, Nat.reduceMul, ↓reduceIte, Int.reduceToNat, Int.reducePow, Int.reduceLT, Int.reduceLE, Int.reduceAdd, Int.reduceSub, Int.reduceMul, Int.reduceEq, Int.reduceNe]
  refine CallA_pure h1.data ?_
  simp -implicitDefEqProofs -proj only [go_sem, Nat.reduceBEq, Nat.reduceLT, Nat.reduceLeDiff, Nat.reduceAdd, Nat.reduceMul, ↓reduceIte, Int.reduceToNat, Int.reducePow, Int.reduceLT, Int.reduceLE, Int.reduceAdd, Int.reduceSub, Int.reduceMul, Int.reduceEq, Int.reduceNe]
  refine CallA_pure h.data ?_
  simp -implicitDefEqProofs -proj only [go_sem, Nat.reduceBEq, Nat.reduceLT, Nat.reduceLeDiff, Nat.reduceAdd, Nat.reduceMul, ↓reduceIte, Int.reduceToNat, Int.reducePow, Int.reduceLT, Int.reduceLE, Int.reduceAdd, Int.reduceSub, Int.reduceMul, Int.reduceEq, Int.reduceNe]
  exact LendV_eq rfl
theorem alive16_ok : DataW Try.prog f_poundagelaw16_alive [] (bv true) := by
  have h1 := Flat16_ok
  have h2 := Sum_yes (la := [0, 1, 2]) (lb := [5, 5, 5]) cur012 cur555 rfl (ls := [5, 6, 7]) (by decide) cur567
  unfold curL at h1 h2
  rw [gps012, gps567, gps555] at h2
  rw [gps555] at h1
  refine CallW_intro comp_poundagelaw16_alive (by simp) ?_
  simp -implicitDefEqProofs -proj only [go_sem, Nat.reduceBEq, Nat.reduceLT, Nat.reduceLeDiff, Nat.reduceAdd, Nat.reduceMul, ↓reduceIte, Int.reduceToNat, Int.reducePow, Int.reduceLT, Int.reduceLE, Int.reduceAdd, Int.reduceSub, Int.reduceMul, Int.reduceEq, Int.reduceNe]
  refine AllocR_intro (fun bs hs => ?_)
  simp -implicitDefEqProofs -proj only [go_sem, Nat.reduceBEq, Nat.reduceLT, Nat.reduceLeDiff, Nat.reduceAdd, Nat.reduceMul, ↓reduceIte, Int.reduceToNat, Int.reducePow, Int.reduceLT, Int.reduceLE, Int.reduceAdd, Int.reduceSub, Int.reduceMul, Int.reduceEq, Int.reduceNe]
  refine AllocA_intro (fun b1 hb1 => ?_)
  replace hb1 : upd Heap.none bs _ b1 = none := hb1
  obtain ⟨n1, n2⟩ := fresh_ne hb1 upd_eq
  simp -implicitDefEqProofs -proj only [go_sem, Nat.reduceBEq, Nat.reduceLT, Nat.reduceLeDiff, Nat.reduceAdd, Nat.reduceMul, ↓reduceIte, Int.reduceToNat, Int.reducePow, Int.reduceLT, Int.reduceLE, Int.reduceAdd, Int.reduceSub, Int.reduceMul, Int.reduceEq, Int.reduceNe, n1, n2]
  refine CallA_pure h1 ?_
  simp -implicitDefEqProofs -proj only [go_sem, Nat.reduceBEq, Nat.reduceLT, Nat.reduceLeDiff, Nat.reduceAdd, Nat.reduceMul, ↓reduceIte, Int.reduceToNat, Int.reducePow, Int.reduceLT, Int.reduceLE, Int.reduceAdd, Int.reduceSub, Int.reduceMul, Int.reduceEq, Int.reduceNe, n1, n2]
  refine AllocA_intro (fun b2 hb2 => ?_)
  simp -implicitDefEqProofs only [upd_get, n1, n2, ↓reduceIte] at hb2
  have n3 : ¬ b1 = b2 := fun e => by subst e; simp [n1, n2] at hb2
  have n4 : ¬ bs = b2 := fun e => by subst e; simp [n1, n2] at hb2
  have n5 : ¬ b2 = b1 := fun e => n3 e.symm
  have n6 : ¬ b2 = bs := fun e => n4 e.symm
  simp -implicitDefEqProofs -proj only [go_sem, Nat.reduceBEq, Nat.reduceLT, Nat.reduceLeDiff, Nat.reduceAdd, Nat.reduceMul, ↓reduceIte, Int.reduceToNat, Int.reducePow, Int.reduceLT, Int.reduceLE, Int.reduceAdd, Int.reduceSub, Int.reduceMul, Int.reduceEq, Int.reduceNe, n1, n2, n3, n4, n5, n6]
  refine CallA_gift1 (b := bs) (x := .row 31 5 1 [[.int .i64 0, .int .i64 0, .int .i64 1, .int .i64 1, .int .i64 3]]) (by simp -implicitDefEqProofs -proj only [go_sem, Nat.reduceBEq, Nat.reduceLT, Nat.reduceLeDiff, Nat.reduceAdd, Nat.reduceMul, ↓reduceIte, Int.reduceToNat, Int.reducePow, Int.reduceLT, Int.reduceLE, Int.reduceAdd, Int.reduceSub, Int.reduceMul, Int.reduceEq, Int.reduceNe, n1, n2, n3, n4, n5, n6]) h2 (lend_cons (.aggL (lend_cons (.refl _) (lend_cons (lend_own upd_eq rfl) lend_nil))) (lend_cons (.refl _) lend_nil)) ?_
  simp -implicitDefEqProofs -proj only [go_sem, Nat.reduceBEq, Nat.reduceLT, Nat.reduceLeDiff, Nat.reduceAdd, Nat.reduceMul, ↓reduceIte, Int.reduceToNat, Int.reducePow, Int.reduceLT, Int.reduceLE, Int.reduceAdd, Int.reduceSub, Int.reduceMul, Int.reduceEq, Int.reduceNe, n1, n2, n3, n4, n5, n6]
  refine AllocA_intro (fun b4 hb4 => ?_)
  simp -implicitDefEqProofs -proj only [go_sem, Nat.reduceBEq, Nat.reduceLT, Nat.reduceLeDiff, Nat.reduceAdd, Nat.reduceMul, ↓reduceIte, Int.reduceToNat, Int.reducePow, Int.reduceLT, Int.reduceLE, Int.reduceAdd, Int.reduceSub, Int.reduceMul, Int.reduceEq, Int.reduceNe, n1, n2, n3, n4, n5, n6, decide_eq_true (show ((rowG [(⟨0, 5, 1, 1, 3⟩ : Grp)]).length : Int) = 1 from rfl)]
  refine ElemA_at [.int .i64 0, .int .i64 5, .int .i64 1, .int .i64 1, .int .i64 3] (by decide) rfl ?_
  simp -implicitDefEqProofs -proj only [go_sem, Nat.reduceBEq, Nat.reduceLT, Nat.reduceLeDiff, Nat.reduceAdd, Nat.reduceMul, ↓reduceIte, Int.reduceToNat, Int.reducePow, Int.reduceLT, Int.reduceLE, Int.reduceAdd, Int.reduceSub, Int.reduceMul, Int.reduceEq, Int.reduceNe, n1, n2, n3, n4, n5, n6]
  exact LendV_eq rfl
theorem great16_ok {m : Int} {G : List Grp} : DataW Try.prog f_poundagelaw16_great [curveV m G] (bv (decide (3000 < (G.length : Int)))) := by
  refine CallW_intro comp_poundagelaw16_great (by simp) ?_
  simp -implicitDefEqProofs -proj only [go_sem, Nat.reduceBEq, Nat.reduceLT, Nat.reduceLeDiff, Nat.reduceAdd, Nat.reduceMul, ↓reduceIte, Int.reduceToNat, Int.reducePow, Int.reduceLT, Int.reduceLE, Int.reduceAdd, Int.reduceSub, Int.reduceMul, Int.reduceEq, Int.reduceNe]
  refine AllocA_intro (fun b1 hb1 => ?_)
  simp -implicitDefEqProofs -proj only [go_sem, Nat.reduceBEq, Nat.reduceLT, Nat.reduceLeDiff, Nat.reduceAdd, Nat.reduceMul, ↓reduceIte, Int.reduceToNat, Int.reducePow, Int.reduceLT, Int.reduceLE, Int.reduceAdd, Int.reduceSub, Int.reduceMul, Int.reduceEq, Int.reduceNe, rowG_len]
  exact LendV_eq rfl
theorem walk_big {m n : Int} {A B : List Grp} (h : 3000 < (A.length : Int) ∨ 3000 < (B.length : Int)) : DataW Try.prog f_poundagelaw16_AlgebraBack [curveV m A, curveV n B] (bv true) := by
  have g1 := great16_ok (m := m) (G := A)
  have g2 := great16_ok (m := n) (G := B)
  refine CallW_intro comp_poundagelaw16_AlgebraBack (by simp) ?_
  simp -implicitDefEqProofs -proj only [go_sem, Nat.reduceBEq, Nat.reduceLT, Nat.reduceLeDiff, Nat.reduceAdd, Nat.reduceMul, ↓reduceIte, Int.reduceToNat, Int.reducePow, Int.reduceLT, Int.reduceLE, Int.reduceAdd, Int.reduceSub, Int.reduceMul, Int.reduceEq, Int.reduceNe]
  refine AllocA_intro (fun b2 hb2 => ?_)
  simp -implicitDefEqProofs -proj only [go_sem, Nat.reduceBEq, Nat.reduceLT, Nat.reduceLeDiff, Nat.reduceAdd, Nat.reduceMul, ↓reduceIte, Int.reduceToNat, Int.reducePow, Int.reduceLT, Int.reduceLE, Int.reduceAdd, Int.reduceSub, Int.reduceMul, Int.reduceEq, Int.reduceNe]
  refine AllocA_intro (fun b3 hb3 => ?_)
  replace hb3 : upd Heap.none b2 _ b3 = none := hb3
  obtain ⟨n1, n2⟩ := fresh_ne hb3 upd_eq
  simp -implicitDefEqProofs -proj only [go_sem, Nat.reduceBEq, Nat.reduceLT, Nat.reduceLeDiff, Nat.reduceAdd, Nat.reduceMul, ↓reduceIte, Int.reduceToNat, Int.reducePow, Int.reduceLT, Int.reduceLE, Int.reduceAdd, Int.reduceSub, Int.reduceMul, Int.reduceEq, Int.reduceNe, n1, n2]
  refine CallA_pure alive16_ok ?_
  by_cases hA : 3000 < (A.length : Int)
  · rw [decide_eq_true hA] at g1
    simp -implicitDefEqProofs -proj only [go_sem, Nat.reduceBEq, Nat.reduceLT, Nat.reduceLeDiff, Nat.reduceAdd, Nat.reduceMul, ↓reduceIte, Int.reduceToNat, Int.reducePow, Int.reduceLT, Int.reduceLE, Int.reduceAdd, Int.reduceSub, Int.reduceMul, Int.reduceEq, Int.reduceNe, n1, n2]
    refine CallA_pure g1 ?_
    simp -implicitDefEqProofs -proj only [go_sem, Nat.reduceBEq, Nat.reduceLT, Nat.reduceLeDiff, Nat.reduceAdd, Nat.reduceMul, ↓reduceIte, Int.reduceToNat, Int.reducePow, Int.reduceLT, Int.reduceLE, Int.reduceAdd, Int.reduceSub, Int.reduceMul, Int.reduceEq, Int.reduceNe, n1, n2]
    exact LendV_eq rfl
  · rw [decide_eq_false hA] at g1
    rw [decide_eq_true (h.resolve_left hA)] at g2
    simp -implicitDefEqProofs -proj only [go_sem, Nat.reduceBEq, Nat.reduceLT, Nat.reduceLeDiff, Nat.reduceAdd, Nat.reduceMul, ↓reduceIte, Int.reduceToNat, Int.reducePow, Int.reduceLT, Int.reduceLE, Int.reduceAdd, Int.reduceSub, Int.reduceMul, Int.reduceEq, Int.reduceNe, n1, n2]
    refine CallA_pure g1 ?_
    simp -implicitDefEqProofs -proj only [go_sem, Nat.reduceBEq, Nat.reduceLT, Nat.reduceLeDiff, Nat.reduceAdd, Nat.reduceMul, ↓reduceIte, Int.reduceToNat, Int.reducePow, Int.reduceLT, Int.reduceLE, Int.reduceAdd, Int.reduceSub, Int.reduceMul, Int.reduceEq, Int.reduceNe, n1, n2]
    refine CallA_pure g2 ?_
    simp -implicitDefEqProofs -proj only [go_sem, Nat.reduceBEq, Nat.reduceLT, Nat.reduceLeDiff, Nat.reduceAdd, Nat.reduceMul, ↓reduceIte, Int.reduceToNat, Int.reducePow, Int.reduceLT, Int.reduceLE, Int.reduceAdd, Int.reduceSub, Int.reduceMul, Int.reduceEq, Int.reduceNe, n1, n2]
    exact LendV_eq rfl
theorem walk_no {m n : Int} {A B : List Grp} (hA : ¬ 3000 < (A.length : Int)) (hB : ¬ 3000 < (B.length : Int)) (h1 : DataW Try.prog f_algebra_Sum [curveV m A, curveV n B] (.tup [curveV 0 [], bv false])) : DataW Try.prog f_poundagelaw16_AlgebraBack [curveV m A, curveV n B] (bv true) := by
  have g1 := great16_ok (m := m) (G := A)
  have g2 := great16_ok (m := n) (G := B)
  rw [decide_eq_false hA] at g1
  rw [decide_eq_false hB] at g2
  refine CallW_intro comp_poundagelaw16_AlgebraBack (by simp) ?_
  simp -implicitDefEqProofs -proj only [go_sem, Nat.reduceBEq, Nat.reduceLT, Nat.reduceLeDiff, Nat.reduceAdd, Nat.reduceMul, ↓reduceIte, Int.reduceToNat, Int.reducePow, Int.reduceLT, Int.reduceLE, Int.reduceAdd, Int.reduceSub, Int.reduceMul, Int.reduceEq, Int.reduceNe]
  refine AllocA_intro (fun b2 hb2 => ?_)
  simp -implicitDefEqProofs -proj only [go_sem, Nat.reduceBEq, Nat.reduceLT, Nat.reduceLeDiff, Nat.reduceAdd, Nat.reduceMul, ↓reduceIte, Int.reduceToNat, Int.reducePow, Int.reduceLT, Int.reduceLE, Int.reduceAdd, Int.reduceSub, Int.reduceMul, Int.reduceEq, Int.reduceNe]
  refine AllocA_intro (fun b3 hb3 => ?_)
  replace hb3 : upd Heap.none b2 _ b3 = none := hb3
  obtain ⟨n1, n2⟩ := fresh_ne hb3 upd_eq
  simp -implicitDefEqProofs -proj only [go_sem, Nat.reduceBEq, Nat.reduceLT, Nat.reduceLeDiff, Nat.reduceAdd, Nat.reduceMul, ↓reduceIte, Int.reduceToNat, Int.reducePow, Int.reduceLT, Int.reduceLE, Int.reduceAdd, Int.reduceSub, Int.reduceMul, Int.reduceEq, Int.reduceNe, n1, n2]
  refine CallA_pure alive16_ok ?_
  simp -implicitDefEqProofs -proj only [go_sem, Nat.reduceBEq, Nat.reduceLT, Nat.reduceLeDiff, Nat.reduceAdd, Nat.reduceMul, ↓reduceIte, Int.reduceToNat, Int.reducePow, Int.reduceLT, Int.reduceLE, Int.reduceAdd, Int.reduceSub, Int.reduceMul, Int.reduceEq, Int.reduceNe, n1, n2]
  refine CallA_pure g1 ?_
  simp -implicitDefEqProofs -proj only [go_sem, Nat.reduceBEq, Nat.reduceLT, Nat.reduceLeDiff, Nat.reduceAdd, Nat.reduceMul, ↓reduceIte, Int.reduceToNat, Int.reducePow, Int.reduceLT, Int.reduceLE, Int.reduceAdd, Int.reduceSub, Int.reduceMul, Int.reduceEq, Int.reduceNe, n1, n2]
  refine CallA_pure g2 ?_
  simp -implicitDefEqProofs -proj only [go_sem, Nat.reduceBEq, Nat.reduceLT, Nat.reduceLeDiff, Nat.reduceAdd, Nat.reduceMul, ↓reduceIte, Int.reduceToNat, Int.reducePow, Int.reduceLT, Int.reduceLE, Int.reduceAdd, Int.reduceSub, Int.reduceMul, Int.reduceEq, Int.reduceNe, n1, n2]
  refine CallA_pure h1 ?_
  simp -implicitDefEqProofs -proj only [go_sem, Nat.reduceBEq, Nat.reduceLT, Nat.reduceLeDiff, Nat.reduceAdd, Nat.reduceMul, ↓reduceIte, Int.reduceToNat, Int.reducePow, Int.reduceLT, Int.reduceLE, Int.reduceAdd, Int.reduceSub, Int.reduceMul, Int.reduceEq, Int.reduceNe, n1, n2]
  refine AllocA_intro (fun b5 hb5 => ?_)
  simp -implicitDefEqProofs -proj only [go_sem, Nat.reduceBEq, Nat.reduceLT, Nat.reduceLeDiff, Nat.reduceAdd, Nat.reduceMul, ↓reduceIte, Int.reduceToNat, Int.reducePow, Int.reduceLT, Int.reduceLE, Int.reduceAdd, Int.reduceSub, Int.reduceMul, Int.reduceEq, Int.reduceNe, n1, n2]
  exact LendV_eq rfl
set_option maxHeartbeats 4000000 in
theorem walk_yes {m : Int} {A B S L U : List Grp} (hA : ¬ 3000 < (A.length : Int)) (hB : ¬ 3000 < (B.length : Int)) (hS : S.length ≤ 1000000)
    (h1 : DataW Try.prog f_algebra_Sum [curveV m A, curveV m B] (.tup [curveV m S, bv true]))
    (h2 : DataW Try.prog f_algebra_Diff [curveV m S, curveV m B] (.tup [curveV m A, bv true]))
    (h3 : DataW Try.prog f_algebra_Lesser [curveV m A, curveV m B] (.tup [curveV m L, bv true]))
    (h4 : DataW Try.prog f_algebra_Greater [curveV m A, curveV m B] (.tup [curveV m U, bv true]))
    (h5 : DataW Try.prog f_algebra_Sum [curveV m L, curveV m U] (.tup [curveV m S, bv true]))
    (h6 : DataW Try.prog f_algebra_Diff [curveV m A, curveV m A] (.tup [curveV m [⟨0, 0, 0, 0, 1⟩], bv true])) : DataW Try.prog f_poundagelaw16_AlgebraBack [curveV m A, curveV m B] (bv true) := by
  have g1 := great16_ok (m := m) (G := A)
  have g2 := great16_ok (m := m) (G := B)
  rw [decide_eq_false hA] at g1
  rw [decide_eq_false hB] at g2
  have s1 := RSame_ok (m := m) (n := m) (a := A) (b := A) (by omega) (by omega)
  have s2 := RSame_ok (m := m) (n := m) (a := S) (b := S) hS hS
  rw [decide_eq_true ⟨rfl, rfl⟩] at s1 s2
  refine CallW_intro comp_poundagelaw16_AlgebraBack (by simp) ?_
  simp -implicitDefEqProofs -proj only [go_sem, Nat.reduceBEq, Nat.reduceLT, Nat.reduceLeDiff, Nat.reduceAdd, Nat.reduceMul, ↓reduceIte, Int.reduceToNat, Int.reducePow, Int.reduceLT, Int.reduceLE, Int.reduceAdd, Int.reduceSub, Int.reduceMul, Int.reduceEq, Int.reduceNe]
  refine AllocA_intro (fun b2 hb2 => ?_)
  simp -implicitDefEqProofs -proj only [go_sem, Nat.reduceBEq, Nat.reduceLT, Nat.reduceLeDiff, Nat.reduceAdd, Nat.reduceMul, ↓reduceIte, Int.reduceToNat, Int.reducePow, Int.reduceLT, Int.reduceLE, Int.reduceAdd, Int.reduceSub, Int.reduceMul, Int.reduceEq, Int.reduceNe]
  refine AllocA_intro (fun b3 hb3 => ?_)
  replace hb3 : upd Heap.none b2 _ b3 = none := hb3
  obtain ⟨n1, n2⟩ := fresh_ne hb3 upd_eq
  simp -implicitDefEqProofs -proj only [go_sem, Nat.reduceBEq, Nat.reduceLT, Nat.reduceLeDiff, Nat.reduceAdd, Nat.reduceMul, ↓reduceIte, Int.reduceToNat, Int.reducePow, Int.reduceLT, Int.reduceLE, Int.reduceAdd, Int.reduceSub, Int.reduceMul, Int.reduceEq, Int.reduceNe, n1, n2]
  refine CallA_pure alive16_ok ?_
  simp -implicitDefEqProofs -proj only [go_sem, Nat.reduceBEq, Nat.reduceLT, Nat.reduceLeDiff, Nat.reduceAdd, Nat.reduceMul, ↓reduceIte, Int.reduceToNat, Int.reducePow, Int.reduceLT, Int.reduceLE, Int.reduceAdd, Int.reduceSub, Int.reduceMul, Int.reduceEq, Int.reduceNe, n1, n2]
  refine CallA_pure g1 ?_
  simp -implicitDefEqProofs -proj only [go_sem, Nat.reduceBEq, Nat.reduceLT, Nat.reduceLeDiff, Nat.reduceAdd, Nat.reduceMul, ↓reduceIte, Int.reduceToNat, Int.reducePow, Int.reduceLT, Int.reduceLE, Int.reduceAdd, Int.reduceSub, Int.reduceMul, Int.reduceEq, Int.reduceNe, n1, n2]
  refine CallA_pure g2 ?_
  simp -implicitDefEqProofs -proj only [go_sem, Nat.reduceBEq, Nat.reduceLT, Nat.reduceLeDiff, Nat.reduceAdd, Nat.reduceMul, ↓reduceIte, Int.reduceToNat, Int.reducePow, Int.reduceLT, Int.reduceLE, Int.reduceAdd, Int.reduceSub, Int.reduceMul, Int.reduceEq, Int.reduceNe, n1, n2]
  refine CallA_pure h1 ?_
  simp -implicitDefEqProofs -proj only [go_sem, Nat.reduceBEq, Nat.reduceLT, Nat.reduceLeDiff, Nat.reduceAdd, Nat.reduceMul, ↓reduceIte, Int.reduceToNat, Int.reducePow, Int.reduceLT, Int.reduceLE, Int.reduceAdd, Int.reduceSub, Int.reduceMul, Int.reduceEq, Int.reduceNe, n1, n2]
  refine AllocA_intro (fun b5 hb5 => ?_)
  simp -implicitDefEqProofs only [upd_get, n1, n2, ↓reduceIte] at hb5
  have xb2b5 : ¬ b2 = b5 := fun e => by subst e; simp [n1, n2] at hb5
  have yb2b5 : ¬ b5 = b2 := fun e => xb2b5 e.symm
  have xb3b5 : ¬ b3 = b5 := fun e => by subst e; simp [n1, n2] at hb5
  have yb3b5 : ¬ b5 = b3 := fun e => xb3b5 e.symm
  simp -implicitDefEqProofs -proj only [go_sem, Nat.reduceBEq, Nat.reduceLT, Nat.reduceLeDiff, Nat.reduceAdd, Nat.reduceMul, ↓reduceIte, Int.reduceToNat, Int.reducePow, Int.reduceLT, Int.reduceLE, Int.reduceAdd, Int.reduceSub, Int.reduceMul, Int.reduceEq, Int.reduceNe, n1, n2, xb2b5, yb2b5, xb3b5, yb3b5]
  refine CallA_pure h2 ?_
  simp -implicitDefEqProofs -proj only [go_sem, Nat.reduceBEq, Nat.reduceLT, Nat.reduceLeDiff, Nat.reduceAdd, Nat.reduceMul, ↓reduceIte, Int.reduceToNat, Int.reducePow, Int.reduceLT, Int.reduceLE, Int.reduceAdd, Int.reduceSub, Int.reduceMul, Int.reduceEq, Int.reduceNe, n1, n2, xb2b5, yb2b5, xb3b5, yb3b5]
  refine AllocA_intro (fun b7 hb7 => ?_)
  simp -implicitDefEqProofs only [upd_get, n1, n2, xb2b5, yb2b5, xb3b5, yb3b5, ↓reduceIte] at hb7
  have xb2b7 : ¬ b2 = b7 := fun e => by subst e; simp [n1, n2, xb2b5, yb2b5, xb3b5, yb3b5] at hb7
  have yb2b7 : ¬ b7 = b2 := fun e => xb2b7 e.symm
  have xb3b7 : ¬ b3 = b7 := fun e => by subst e; simp [n1, n2, xb2b5, yb2b5, xb3b5, yb3b5] at hb7
  have yb3b7 : ¬ b7 = b3 := fun e => xb3b7 e.symm
  have xb5b7 : ¬ b5 = b7 := fun e => by subst e; simp [n1, n2, xb2b5, yb2b5, xb3b5, yb3b5] at hb7
  have yb5b7 : ¬ b7 = b5 := fun e => xb5b7 e.symm
  simp -implicitDefEqProofs -proj only [go_sem, Nat.reduceBEq, Nat.reduceLT, Nat.reduceLeDiff, Nat.reduceAdd, Nat.reduceMul, ↓reduceIte, Int.reduceToNat, Int.reducePow, Int.reduceLT, Int.reduceLE, Int.reduceAdd, Int.reduceSub, Int.reduceMul, Int.reduceEq, Int.reduceNe, n1, n2, xb2b5, yb2b5, xb3b5, yb3b5, xb2b7, yb2b7, xb3b7, yb3b7, xb5b7, yb5b7]
  refine CallA_pure s1 ?_
  simp -implicitDefEqProofs -proj only [go_sem, Nat.reduceBEq, Nat.reduceLT, Nat.reduceLeDiff, Nat.reduceAdd, Nat.reduceMul, ↓reduceIte, Int.reduceToNat, Int.reducePow, Int.reduceLT, Int.reduceLE, Int.reduceAdd, Int.reduceSub, Int.reduceMul, Int.reduceEq, Int.reduceNe, n1, n2, xb2b5, yb2b5, xb3b5, yb3b5, xb2b7, yb2b7, xb3b7, yb3b7, xb5b7, yb5b7]
  refine CallA_pure h3 ?_
  simp -implicitDefEqProofs -proj only [go_sem, Nat.reduceBEq, Nat.reduceLT, Nat.reduceLeDiff, Nat.reduceAdd, Nat.reduceMul, ↓reduceIte, Int.reduceToNat, Int.reducePow, Int.reduceLT, Int.reduceLE, Int.reduceAdd, Int.reduceSub, Int.reduceMul, Int.reduceEq, Int.reduceNe, n1, n2, xb2b5, yb2b5, xb3b5, yb3b5, xb2b7, yb2b7, xb3b7, yb3b7, xb5b7, yb5b7]
  refine AllocA_intro (fun b9 hb9 => ?_)
  simp -implicitDefEqProofs only [upd_get, n1, n2, xb2b5, yb2b5, xb3b5, yb3b5, xb2b7, yb2b7, xb3b7, yb3b7, xb5b7, yb5b7, ↓reduceIte] at hb9
  have xb2b9 : ¬ b2 = b9 := fun e => by subst e; simp [n1, n2, xb2b5, yb2b5, xb3b5, yb3b5, xb2b7, yb2b7, xb3b7, yb3b7, xb5b7, yb5b7] at hb9
  have yb2b9 : ¬ b9 = b2 := fun e => xb2b9 e.symm
  have xb3b9 : ¬ b3 = b9 := fun e => by subst e; simp [n1, n2, xb2b5, yb2b5, xb3b5, yb3b5, xb2b7, yb2b7, xb3b7, yb3b7, xb5b7, yb5b7] at hb9
  have yb3b9 : ¬ b9 = b3 := fun e => xb3b9 e.symm
  have xb5b9 : ¬ b5 = b9 := fun e => by subst e; simp [n1, n2, xb2b5, yb2b5, xb3b5, yb3b5, xb2b7, yb2b7, xb3b7, yb3b7, xb5b7, yb5b7] at hb9
  have yb5b9 : ¬ b9 = b5 := fun e => xb5b9 e.symm
  have xb7b9 : ¬ b7 = b9 := fun e => by subst e; simp [n1, n2, xb2b5, yb2b5, xb3b5, yb3b5, xb2b7, yb2b7, xb3b7, yb3b7, xb5b7, yb5b7] at hb9
  have yb7b9 : ¬ b9 = b7 := fun e => xb7b9 e.symm
  simp -implicitDefEqProofs -proj only [go_sem, Nat.reduceBEq, Nat.reduceLT, Nat.reduceLeDiff, Nat.reduceAdd, Nat.reduceMul, ↓reduceIte, Int.reduceToNat, Int.reducePow, Int.reduceLT, Int.reduceLE, Int.reduceAdd, Int.reduceSub, Int.reduceMul, Int.reduceEq, Int.reduceNe, n1, n2, xb2b5, yb2b5, xb3b5, yb3b5, xb2b7, yb2b7, xb3b7, yb3b7, xb5b7, yb5b7, xb2b9, yb2b9, xb3b9, yb3b9, xb5b9, yb5b9, xb7b9, yb7b9]
  refine CallA_pure h4 ?_
  simp -implicitDefEqProofs -proj only [go_sem, Nat.reduceBEq, Nat.reduceLT, Nat.reduceLeDiff, Nat.reduceAdd, Nat.reduceMul, ↓reduceIte, Int.reduceToNat, Int.reducePow, Int.reduceLT, Int.reduceLE, Int.reduceAdd, Int.reduceSub, Int.reduceMul, Int.reduceEq, Int.reduceNe, n1, n2, xb2b5, yb2b5, xb3b5, yb3b5, xb2b7, yb2b7, xb3b7, yb3b7, xb5b7, yb5b7, xb2b9, yb2b9, xb3b9, yb3b9, xb5b9, yb5b9, xb7b9, yb7b9]
  refine AllocA_intro (fun b11 hb11 => ?_)
  simp -implicitDefEqProofs only [upd_get, n1, n2, xb2b5, yb2b5, xb3b5, yb3b5, xb2b7, yb2b7, xb3b7, yb3b7, xb5b7, yb5b7, xb2b9, yb2b9, xb3b9, yb3b9, xb5b9, yb5b9, xb7b9, yb7b9, ↓reduceIte] at hb11
  have xb2b11 : ¬ b2 = b11 := fun e => by subst e; simp [n1, n2, xb2b5, yb2b5, xb3b5, yb3b5, xb2b7, yb2b7, xb3b7, yb3b7, xb5b7, yb5b7, xb2b9, yb2b9, xb3b9, yb3b9, xb5b9, yb5b9, xb7b9, yb7b9] at hb11
  have yb2b11 : ¬ b11 = b2 := fun e => xb2b11 e.symm
  have xb3b11 : ¬ b3 = b11 := fun e => by subst e; simp [n1, n2, xb2b5, yb2b5, xb3b5, yb3b5, xb2b7, yb2b7, xb3b7, yb3b7, xb5b7, yb5b7, xb2b9, yb2b9, xb3b9, yb3b9, xb5b9, yb5b9, xb7b9, yb7b9] at hb11
  have yb3b11 : ¬ b11 = b3 := fun e => xb3b11 e.symm
  have xb5b11 : ¬ b5 = b11 := fun e => by subst e; simp [n1, n2, xb2b5, yb2b5, xb3b5, yb3b5, xb2b7, yb2b7, xb3b7, yb3b7, xb5b7, yb5b7, xb2b9, yb2b9, xb3b9, yb3b9, xb5b9, yb5b9, xb7b9, yb7b9] at hb11
  have yb5b11 : ¬ b11 = b5 := fun e => xb5b11 e.symm
  have xb7b11 : ¬ b7 = b11 := fun e => by subst e; simp [n1, n2, xb2b5, yb2b5, xb3b5, yb3b5, xb2b7, yb2b7, xb3b7, yb3b7, xb5b7, yb5b7, xb2b9, yb2b9, xb3b9, yb3b9, xb5b9, yb5b9, xb7b9, yb7b9] at hb11
  have yb7b11 : ¬ b11 = b7 := fun e => xb7b11 e.symm
  have xb9b11 : ¬ b9 = b11 := fun e => by subst e; simp [n1, n2, xb2b5, yb2b5, xb3b5, yb3b5, xb2b7, yb2b7, xb3b7, yb3b7, xb5b7, yb5b7, xb2b9, yb2b9, xb3b9, yb3b9, xb5b9, yb5b9, xb7b9, yb7b9] at hb11
  have yb9b11 : ¬ b11 = b9 := fun e => xb9b11 e.symm
  simp -implicitDefEqProofs -proj only [go_sem, Nat.reduceBEq, Nat.reduceLT, Nat.reduceLeDiff, Nat.reduceAdd, Nat.reduceMul, ↓reduceIte, Int.reduceToNat, Int.reducePow, Int.reduceLT, Int.reduceLE, Int.reduceAdd, Int.reduceSub, Int.reduceMul, Int.reduceEq, Int.reduceNe, n1, n2, xb2b5, yb2b5, xb3b5, yb3b5, xb2b7, yb2b7, xb3b7, yb3b7, xb5b7, yb5b7, xb2b9, yb2b9, xb3b9, yb3b9, xb5b9, yb5b9, xb7b9, yb7b9, xb2b11, yb2b11, xb3b11, yb3b11, xb5b11, yb5b11, xb7b11, yb7b11, xb9b11, yb9b11]
  refine CallA_pure h5 ?_
  simp -implicitDefEqProofs -proj only [go_sem, Nat.reduceBEq, Nat.reduceLT, Nat.reduceLeDiff, Nat.reduceAdd, Nat.reduceMul, ↓reduceIte, Int.reduceToNat, Int.reducePow, Int.reduceLT, Int.reduceLE, Int.reduceAdd, Int.reduceSub, Int.reduceMul, Int.reduceEq, Int.reduceNe, n1, n2, xb2b5, yb2b5, xb3b5, yb3b5, xb2b7, yb2b7, xb3b7, yb3b7, xb5b7, yb5b7, xb2b9, yb2b9, xb3b9, yb3b9, xb5b9, yb5b9, xb7b9, yb7b9, xb2b11, yb2b11, xb3b11, yb3b11, xb5b11, yb5b11, xb7b11, yb7b11, xb9b11, yb9b11]
  refine AllocA_intro (fun b13 hb13 => ?_)
  simp -implicitDefEqProofs only [upd_get, n1, n2, xb2b5, yb2b5, xb3b5, yb3b5, xb2b7, yb2b7, xb3b7, yb3b7, xb5b7, yb5b7, xb2b9, yb2b9, xb3b9, yb3b9, xb5b9, yb5b9, xb7b9, yb7b9, xb2b11, yb2b11, xb3b11, yb3b11, xb5b11, yb5b11, xb7b11, yb7b11, xb9b11, yb9b11, ↓reduceIte] at hb13
  have xb2b13 : ¬ b2 = b13 := fun e => by subst e; simp [n1, n2, xb2b5, yb2b5, xb3b5, yb3b5, xb2b7, yb2b7, xb3b7, yb3b7, xb5b7, yb5b7, xb2b9, yb2b9, xb3b9, yb3b9, xb5b9, yb5b9, xb7b9, yb7b9, xb2b11, yb2b11, xb3b11, yb3b11, xb5b11, yb5b11, xb7b11, yb7b11, xb9b11, yb9b11] at hb13
  have yb2b13 : ¬ b13 = b2 := fun e => xb2b13 e.symm
  have xb3b13 : ¬ b3 = b13 := fun e => by subst e; simp [n1, n2, xb2b5, yb2b5, xb3b5, yb3b5, xb2b7, yb2b7, xb3b7, yb3b7, xb5b7, yb5b7, xb2b9, yb2b9, xb3b9, yb3b9, xb5b9, yb5b9, xb7b9, yb7b9, xb2b11, yb2b11, xb3b11, yb3b11, xb5b11, yb5b11, xb7b11, yb7b11, xb9b11, yb9b11] at hb13
  have yb3b13 : ¬ b13 = b3 := fun e => xb3b13 e.symm
  have xb5b13 : ¬ b5 = b13 := fun e => by subst e; simp [n1, n2, xb2b5, yb2b5, xb3b5, yb3b5, xb2b7, yb2b7, xb3b7, yb3b7, xb5b7, yb5b7, xb2b9, yb2b9, xb3b9, yb3b9, xb5b9, yb5b9, xb7b9, yb7b9, xb2b11, yb2b11, xb3b11, yb3b11, xb5b11, yb5b11, xb7b11, yb7b11, xb9b11, yb9b11] at hb13
  have yb5b13 : ¬ b13 = b5 := fun e => xb5b13 e.symm
  have xb7b13 : ¬ b7 = b13 := fun e => by subst e; simp [n1, n2, xb2b5, yb2b5, xb3b5, yb3b5, xb2b7, yb2b7, xb3b7, yb3b7, xb5b7, yb5b7, xb2b9, yb2b9, xb3b9, yb3b9, xb5b9, yb5b9, xb7b9, yb7b9, xb2b11, yb2b11, xb3b11, yb3b11, xb5b11, yb5b11, xb7b11, yb7b11, xb9b11, yb9b11] at hb13
  have yb7b13 : ¬ b13 = b7 := fun e => xb7b13 e.symm
  have xb9b13 : ¬ b9 = b13 := fun e => by subst e; simp [n1, n2, xb2b5, yb2b5, xb3b5, yb3b5, xb2b7, yb2b7, xb3b7, yb3b7, xb5b7, yb5b7, xb2b9, yb2b9, xb3b9, yb3b9, xb5b9, yb5b9, xb7b9, yb7b9, xb2b11, yb2b11, xb3b11, yb3b11, xb5b11, yb5b11, xb7b11, yb7b11, xb9b11, yb9b11] at hb13
  have yb9b13 : ¬ b13 = b9 := fun e => xb9b13 e.symm
  have xb11b13 : ¬ b11 = b13 := fun e => by subst e; simp [n1, n2, xb2b5, yb2b5, xb3b5, yb3b5, xb2b7, yb2b7, xb3b7, yb3b7, xb5b7, yb5b7, xb2b9, yb2b9, xb3b9, yb3b9, xb5b9, yb5b9, xb7b9, yb7b9, xb2b11, yb2b11, xb3b11, yb3b11, xb5b11, yb5b11, xb7b11, yb7b11, xb9b11, yb9b11] at hb13
  have yb11b13 : ¬ b13 = b11 := fun e => xb11b13 e.symm
  simp -implicitDefEqProofs -proj only [go_sem, Nat.reduceBEq, Nat.reduceLT, Nat.reduceLeDiff, Nat.reduceAdd, Nat.reduceMul, ↓reduceIte, Int.reduceToNat, Int.reducePow, Int.reduceLT, Int.reduceLE, Int.reduceAdd, Int.reduceSub, Int.reduceMul, Int.reduceEq, Int.reduceNe, n1, n2, xb2b5, yb2b5, xb3b5, yb3b5, xb2b7, yb2b7, xb3b7, yb3b7, xb5b7, yb5b7, xb2b9, yb2b9, xb3b9, yb3b9, xb5b9, yb5b9, xb7b9, yb7b9, xb2b11, yb2b11, xb3b11, yb3b11, xb5b11, yb5b11, xb7b11, yb7b11, xb9b11, yb9b11, xb2b13, yb2b13, xb3b13, yb3b13, xb5b13, yb5b13, xb7b13, yb7b13, xb9b13, yb9b13, xb11b13, yb11b13]
  refine CallA_pure h6 ?_
  simp -implicitDefEqProofs -proj only [go_sem, Nat.reduceBEq, Nat.reduceLT, Nat.reduceLeDiff, Nat.reduceAdd, Nat.reduceMul, ↓reduceIte, Int.reduceToNat, Int.reducePow, Int.reduceLT, Int.reduceLE, Int.reduceAdd, Int.reduceSub, Int.reduceMul, Int.reduceEq, Int.reduceNe, n1, n2, xb2b5, yb2b5, xb3b5, yb3b5, xb2b7, yb2b7, xb3b7, yb3b7, xb5b7, yb5b7, xb2b9, yb2b9, xb3b9, yb3b9, xb5b9, yb5b9, xb7b9, yb7b9, xb2b11, yb2b11, xb3b11, yb3b11, xb5b11, yb5b11, xb7b11, yb7b11, xb9b11, yb9b11, xb2b13, yb2b13, xb3b13, yb3b13, xb5b13, yb5b13, xb7b13, yb7b13, xb9b13, yb9b13, xb11b13, yb11b13]
  refine AllocA_intro (fun b15 hb15 => ?_)
  simp -implicitDefEqProofs only [upd_get, n1, n2, xb2b5, yb2b5, xb3b5, yb3b5, xb2b7, yb2b7, xb3b7, yb3b7, xb5b7, yb5b7, xb2b9, yb2b9, xb3b9, yb3b9, xb5b9, yb5b9, xb7b9, yb7b9, xb2b11, yb2b11, xb3b11, yb3b11, xb5b11, yb5b11, xb7b11, yb7b11, xb9b11, yb9b11, xb2b13, yb2b13, xb3b13, yb3b13, xb5b13, yb5b13, xb7b13, yb7b13, xb9b13, yb9b13, xb11b13, yb11b13, ↓reduceIte] at hb15
  have xb2b15 : ¬ b2 = b15 := fun e => by subst e; simp [n1, n2, xb2b5, yb2b5, xb3b5, yb3b5, xb2b7, yb2b7, xb3b7, yb3b7, xb5b7, yb5b7, xb2b9, yb2b9, xb3b9, yb3b9, xb5b9, yb5b9, xb7b9, yb7b9, xb2b11, yb2b11, xb3b11, yb3b11, xb5b11, yb5b11, xb7b11, yb7b11, xb9b11, yb9b11, xb2b13, yb2b13, xb3b13, yb3b13, xb5b13, yb5b13, xb7b13, yb7b13, xb9b13, yb9b13, xb11b13, yb11b13] at hb15
  have yb2b15 : ¬ b15 = b2 := fun e => xb2b15 e.symm
  have xb3b15 : ¬ b3 = b15 := fun e => by subst e; simp [n1, n2, xb2b5, yb2b5, xb3b5, yb3b5, xb2b7, yb2b7, xb3b7, yb3b7, xb5b7, yb5b7, xb2b9, yb2b9, xb3b9, yb3b9, xb5b9, yb5b9, xb7b9, yb7b9, xb2b11, yb2b11, xb3b11, yb3b11, xb5b11, yb5b11, xb7b11, yb7b11, xb9b11, yb9b11, xb2b13, yb2b13, xb3b13, yb3b13, xb5b13, yb5b13, xb7b13, yb7b13, xb9b13, yb9b13, xb11b13, yb11b13] at hb15
  have yb3b15 : ¬ b15 = b3 := fun e => xb3b15 e.symm
  have xb5b15 : ¬ b5 = b15 := fun e => by subst e; simp [n1, n2, xb2b5, yb2b5, xb3b5, yb3b5, xb2b7, yb2b7, xb3b7, yb3b7, xb5b7, yb5b7, xb2b9, yb2b9, xb3b9, yb3b9, xb5b9, yb5b9, xb7b9, yb7b9, xb2b11, yb2b11, xb3b11, yb3b11, xb5b11, yb5b11, xb7b11, yb7b11, xb9b11, yb9b11, xb2b13, yb2b13, xb3b13, yb3b13, xb5b13, yb5b13, xb7b13, yb7b13, xb9b13, yb9b13, xb11b13, yb11b13] at hb15
  have yb5b15 : ¬ b15 = b5 := fun e => xb5b15 e.symm
  have xb7b15 : ¬ b7 = b15 := fun e => by subst e; simp [n1, n2, xb2b5, yb2b5, xb3b5, yb3b5, xb2b7, yb2b7, xb3b7, yb3b7, xb5b7, yb5b7, xb2b9, yb2b9, xb3b9, yb3b9, xb5b9, yb5b9, xb7b9, yb7b9, xb2b11, yb2b11, xb3b11, yb3b11, xb5b11, yb5b11, xb7b11, yb7b11, xb9b11, yb9b11, xb2b13, yb2b13, xb3b13, yb3b13, xb5b13, yb5b13, xb7b13, yb7b13, xb9b13, yb9b13, xb11b13, yb11b13] at hb15
  have yb7b15 : ¬ b15 = b7 := fun e => xb7b15 e.symm
  have xb9b15 : ¬ b9 = b15 := fun e => by subst e; simp [n1, n2, xb2b5, yb2b5, xb3b5, yb3b5, xb2b7, yb2b7, xb3b7, yb3b7, xb5b7, yb5b7, xb2b9, yb2b9, xb3b9, yb3b9, xb5b9, yb5b9, xb7b9, yb7b9, xb2b11, yb2b11, xb3b11, yb3b11, xb5b11, yb5b11, xb7b11, yb7b11, xb9b11, yb9b11, xb2b13, yb2b13, xb3b13, yb3b13, xb5b13, yb5b13, xb7b13, yb7b13, xb9b13, yb9b13, xb11b13, yb11b13] at hb15
  have yb9b15 : ¬ b15 = b9 := fun e => xb9b15 e.symm
  have xb11b15 : ¬ b11 = b15 := fun e => by subst e; simp [n1, n2, xb2b5, yb2b5, xb3b5, yb3b5, xb2b7, yb2b7, xb3b7, yb3b7, xb5b7, yb5b7, xb2b9, yb2b9, xb3b9, yb3b9, xb5b9, yb5b9, xb7b9, yb7b9, xb2b11, yb2b11, xb3b11, yb3b11, xb5b11, yb5b11, xb7b11, yb7b11, xb9b11, yb9b11, xb2b13, yb2b13, xb3b13, yb3b13, xb5b13, yb5b13, xb7b13, yb7b13, xb9b13, yb9b13, xb11b13, yb11b13] at hb15
  have yb11b15 : ¬ b15 = b11 := fun e => xb11b15 e.symm
  have xb13b15 : ¬ b13 = b15 := fun e => by subst e; simp [n1, n2, xb2b5, yb2b5, xb3b5, yb3b5, xb2b7, yb2b7, xb3b7, yb3b7, xb5b7, yb5b7, xb2b9, yb2b9, xb3b9, yb3b9, xb5b9, yb5b9, xb7b9, yb7b9, xb2b11, yb2b11, xb3b11, yb3b11, xb5b11, yb5b11, xb7b11, yb7b11, xb9b11, yb9b11, xb2b13, yb2b13, xb3b13, yb3b13, xb5b13, yb5b13, xb7b13, yb7b13, xb9b13, yb9b13, xb11b13, yb11b13] at hb15
  have yb13b15 : ¬ b15 = b13 := fun e => xb13b15 e.symm
  simp -implicitDefEqProofs -proj only [go_sem, Nat.reduceBEq, Nat.reduceLT, Nat.reduceLeDiff, Nat.reduceAdd, Nat.reduceMul, ↓reduceIte, Int.reduceToNat, Int.reducePow, Int.reduceLT, Int.reduceLE, Int.reduceAdd, Int.reduceSub, Int.reduceMul, Int.reduceEq, Int.reduceNe, n1, n2, xb2b5, yb2b5, xb3b5, yb3b5, xb2b7, yb2b7, xb3b7, yb3b7, xb5b7, yb5b7, xb2b9, yb2b9, xb3b9, yb3b9, xb5b9, yb5b9, xb7b9, yb7b9, xb2b11, yb2b11, xb3b11, yb3b11, xb5b11, yb5b11, xb7b11, yb7b11, xb9b11, yb9b11, xb2b13, yb2b13, xb3b13, yb3b13, xb5b13, yb5b13, xb7b13, yb7b13, xb9b13, yb9b13, xb11b13, yb11b13, xb2b15, yb2b15, xb3b15, yb3b15, xb5b15, yb5b15, xb7b15, yb7b15, xb9b15, yb9b15, xb11b15, yb11b15, xb13b15, yb13b15]
  refine CallA_pure s2 ?_
  simp -implicitDefEqProofs -proj only [go_sem, Nat.reduceBEq, Nat.reduceLT, Nat.reduceLeDiff, Nat.reduceAdd, Nat.reduceMul, ↓reduceIte, Int.reduceToNat, Int.reducePow, Int.reduceLT, Int.reduceLE, Int.reduceAdd, Int.reduceSub, Int.reduceMul, Int.reduceEq, Int.reduceNe, n1, n2, xb2b5, yb2b5, xb3b5, yb3b5, xb2b7, yb2b7, xb3b7, yb3b7, xb5b7, yb5b7, xb2b9, yb2b9, xb3b9, yb3b9, xb5b9, yb5b9, xb7b9, yb7b9, xb2b11, yb2b11, xb3b11, yb3b11, xb5b11, yb5b11, xb7b11, yb7b11, xb9b11, yb9b11, xb2b13, yb2b13, xb3b13, yb3b13, xb5b13, yb5b13, xb7b13, yb7b13, xb9b13, yb9b13, xb11b13, yb11b13, xb2b15, yb2b15, xb3b15, yb3b15, xb5b15, yb5b15, xb7b15, yb7b15, xb9b15, yb9b15, xb11b15, yb11b15, xb13b15, yb13b15, decide_eq_true (show ((rowG [(⟨0, 0, 0, 0, 1⟩ : Grp)]).length : Int) = 1 from rfl)]
  refine ElemA_at [.int .i64 0, .int .i64 0, .int .i64 0, .int .i64 0, .int .i64 1] (by decide) rfl ?_
  simp -implicitDefEqProofs -proj only [go_sem, Nat.reduceBEq, Nat.reduceLT, Nat.reduceLeDiff, Nat.reduceAdd, Nat.reduceMul, ↓reduceIte, Int.reduceToNat, Int.reducePow, Int.reduceLT, Int.reduceLE, Int.reduceAdd, Int.reduceSub, Int.reduceMul, Int.reduceEq, Int.reduceNe, n1, n2, xb2b5, yb2b5, xb3b5, yb3b5, xb2b7, yb2b7, xb3b7, yb3b7, xb5b7, yb5b7, xb2b9, yb2b9, xb3b9, yb3b9, xb5b9, yb5b9, xb7b9, yb7b9, xb2b11, yb2b11, xb3b11, yb3b11, xb5b11, yb5b11, xb7b11, yb7b11, xb9b11, yb9b11, xb2b13, yb2b13, xb3b13, yb3b13, xb5b13, yb5b13, xb7b13, yb7b13, xb9b13, yb9b13, xb11b13, yb11b13, xb2b15, yb2b15, xb3b15, yb3b15, xb5b15, yb5b15, xb7b15, yb7b15, xb9b15, yb9b15, xb11b15, yb11b15, xb13b15, yb13b15]
  exact LendV_eq rfl
theorem smallMin {u v : Int} (hu : smallV u) (hv : smallV v) : smallV (min u v) ∧ smallV (max u v) := by
  unfold smallV at *; omega
theorem zipW_mem {g : Int → Int → Int} : ∀ {la lb : List Int} {x : Int}, x ∈ List.zipWith g la lb → ∃ u ∈ la, ∃ v ∈ lb, x = g u v
  | [], _, x, h => by simp at h
  | _ :: _, [], x, h => by simp at h
  | a :: la, b :: lb, x, h => by
    rw [List.zipWith_cons_cons, List.mem_cons] at h
    rcases h with rfl | h
    · exact ⟨a, by simp, b, by simp, rfl⟩
    · obtain ⟨u, hu, v, hv, e⟩ := zipW_mem h
      exact ⟨u, by simp [hu], v, by simp [hv], e⟩
theorem cur_zip {g : Int → Int → Int} {la lb : List Int} (ha : CurL la) (hb : CurL lb) (hlen : la.length = lb.length) (hg : ∀ u v, smallV u → smallV v → smallV (g u v)) : CurL (List.zipWith g la lb) := by
  obtain ⟨a1, a2, a3⟩ := ha
  refine ⟨fun e => ?_, by rw [List.length_zipWith]; omega, fun x hx => ?_⟩
  · have := congrArg List.length e
    rw [List.length_zipWith] at this
    have := List.length_pos_iff.2 a1
    simp -implicitDefEqProofs only [List.length_nil] at *
    omega
  · obtain ⟨u, hu, v, hv, rfl⟩ := zipW_mem hx
    exact hg u v (a3 u hu) (hb.2.2 v hv)
open Classical in
theorem AlgebraBack_ok {a b : CurX} (ha : a.Fit) (hb : b.Fit) : DataW Try.prog f_poundagelaw16_AlgebraBack [a.av, b.av] (bv true) := by
  obtain ⟨m, A⟩ := a
  obtain ⟨n, B⟩ := b
  by_cases hA : 3000 < (A.length : Int)
  · exact walk_big (.inl hA)
  by_cases hB : 3000 < (B.length : Int)
  · exact walk_big (.inr hB)
  by_cases hg : m = n ∧ GoodP m A ∧ GoodP n B
  rotate_left
  · exact walk_no hA hB (Sum_of (two_no (m := m) (n := n) (A := A) (B := B) (by omega) (by omega) ha.1 hb.1 hg))
  obtain ⟨hmn, ⟨la, ca, ma, rfl⟩, ⟨lb, cb, mb, rfl⟩⟩ := hg
  have hlen : la.length = lb.length := by omega
  by_cases hs : CurL (List.zipWith (fun u v => u + v) la lb)
  rotate_left
  · have h := Sum_res ca cb hlen
    rw [if_neg hs] at h
    subst ma
    subst mb
    exact walk_no hA hB h
  obtain ⟨ls, hls⟩ : ∃ ls, List.zipWith (fun u v => u + v) la lb = ls := ⟨_, rfl⟩
  obtain ⟨ll, hll⟩ : ∃ ls, List.zipWith (fun u v : Int => min u v) la lb = ls := ⟨_, rfl⟩
  obtain ⟨lu, hlu⟩ : ∃ ls, List.zipWith (fun u v : Int => max u v) la lb = ls := ⟨_, rfl⟩
  rw [hls] at hs
  have cl : CurL ll := by rw [← hll]; exact cur_zip ca cb hlen (fun u v hu hv => (smallMin hu hv).1)
  have cu : CurL lu := by rw [← hlu]; exact cur_zip ca cb hlen (fun u v hu hv => (smallMin hu hv).2)
  have e1 : ls.length = la.length := by rw [← hls, List.length_zipWith]; omega
  have e2 : ll.length = la.length := by rw [← hll, List.length_zipWith]; omega
  have e3 : lu.length = la.length := by rw [← hlu, List.length_zipWith]; omega
  have d1 : List.zipWith (fun u v => u - v) ls lb = la := by
    refine List.ext_getElem (by rw [List.length_zipWith]; omega) fun i h1 h2 => ?_
    subst hls
    simp -implicitDefEqProofs only [List.getElem_zipWith]
    omega
  have d2 : List.zipWith (fun u v => u + v) ll lu = ls := by
    refine List.ext_getElem (by rw [List.length_zipWith]; omega) fun i h1 h2 => ?_
    subst hls hll hlu
    simp -implicitDefEqProofs only [List.getElem_zipWith]
    omega
  have d3 : List.zipWith (fun u v => u - v) la la = List.replicate la.length 0 := by
    refine List.ext_getElem (by rw [List.length_zipWith, List.length_replicate]; omega) fun i h1 h2 => ?_
    simp -implicitDefEqProofs only [List.getElem_zipWith, List.getElem_replicate]
    omega
  have c0 : CurL (List.replicate la.length 0) := by
    refine ⟨fun e => ca.1 ?_, by rw [List.length_replicate]; exact ca.2.1, fun v hv => by rw [(List.mem_replicate.1 hv).2]; unfold smallV; omega⟩
    have := congrArg List.length e
    rw [List.length_replicate] at this
    exact List.length_eq_zero_iff.1 this
  have h1 := Sum_yes ca cb hlen hls hs
  have h2 := Diff_yes hs cb (by omega) d1 ca
  have h3 := Lesser_yes ca cb hlen hll cl
  have h4 := Greater_yes ca cb hlen hlu cu
  have h5 := Sum_yes cl cu (by omega) d2 hs
  have h6 := Diff_yes ca ca rfl d3 c0
  have hp := List.length_pos_iff.2 ca.1
  unfold curL at h1 h2 h3 h4 h5 h6
  rw [gps_const hp, List.length_replicate] at h6
  rw [e1, ← hlen] at h1
  rw [e1, ← hlen] at h2
  rw [e2, ← hlen] at h3
  rw [e3, ← hlen] at h4
  rw [e1, e2, e3] at h5
  rw [← hmn]
  subst ma
  exact walk_yes hA hB (by have := @gps_len ls; have := ca.2.1; omega) h1 h2 h3 h4 h5 h6
end Go.Proofs.Ytcneeilongpakaa.Abs
