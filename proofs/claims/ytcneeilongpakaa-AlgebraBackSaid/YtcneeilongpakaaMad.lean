/- Contracts of the machine and the contracts of one law (joined by kmerge.py). No claim stands here. -/
import Derived.Below
import Derived.Carry
import Derived.ChangeCalls
import Derived.ChangeOld
import Derived.IntWalk
import Derived.KernelRfl
import Derived.Laws.Append
import Derived.Laws.AppendOwn
import Derived.Laws.Cells
import Derived.Laws.CopyRow
import Derived.Laws.Entries
import Derived.Laws.MakeOwn
import Derived.Laws.NewFold
import Derived.Laws.Rows
import Derived.Laws.StructEq
import Derived.OpenShut
import Derived.Orders
import Derived.OrdersIn
import Derived.ProofKit
import Derived.RangeFuncLeaves
import Derived.RangeFuncSeq
import Derived.SizedLaws
import Derived.TacticsIn
import Derived.WalkKit
import Derived.Test.YtcneeilongpakaaMac
set_option maxRecDepth 100000
set_option linter.unusedSimpArgs false
set_option linter.unusedVariables false
namespace Go.Proofs.Ytcneeilongpakaa.Abs
open Go Go.RowKit Go.Proofs
attribute [local go_sem] RunC_seq AF_n AF_r AF_b St_n St_t St_H Fst_mk Snd_mk RunC_ops RunC_cond RunC_block RunC_loop RunC_exit RunC_ret RunC_skip RunO_nil RunO_code RunO_code_ret RunO_code_exit RunO_blk RunO_blk_ret RunO_blk_exit RunL_nil RunL_guard GuardA_tt GuardA_ff GuardA_tf GuardA_ft GuardA_void CondA_t CondA_f PickA_t PickA_f RunL_mov RunL_pick RunL_alloc RunL_box RunL_load LoadA_ptr LoadB_1 LoadB_n LoadA_dptr LoadA_dptr_n RunL_store StoreA_ptr StoreB_box RunL_bin Bin_add Bin_sub Bin_mul Bin_quo Bin_rem Bin_shl Bin_shr Bin_andI Bin_orI Bin_xorI Bin_eql Bin_neq Bin_lss Bin_leq Bin_gtr Bin_geq RunL_binb Bin_beql Bin_bneq RunL_un UnA_not UnA_neg RunL_conv convV MapA_some RunL_nilCheck nilV RunL_mkfn RunL_fieldAddr faV RunL_field FieldA_1 FieldA_n RunL_elemAddr EAddrA_sl EAddrA_own EptrA_eq RunL_build BuildA_some RunL_extract ExtA_eq RunL_len lenV_sl lenV_nilsl lenV_own RunL_slen RunL_idxStr IdxSA_eq slenV RunL_minmax mmV minmaxL RunL_call RunL_callv CallvA_fn putS ev evL evO evP eqK eqKs EqB_agg RunL_eqAgg EqA_t EqA_f evQ buildC fits_agg cellsAV_agg fits_d cellsAV_d fits_nilp cellsAV_nilp fits_nilsl cellsAV_nilsl fits_nilfn cellsAV_nilfn fits_ptr cellsAV_ptr fits_eptr cellsAV_eptr fits_dptr cellsAV_dptr fits_own cellsAV_own fits_fn cellsAV_fn rowV_fits rowV_cells rowV_len lenAV setSeg nth seg mapD repeatL putT_get upd_get argT keepT_cons keepT_nil keepH_cons keepH_nil cond_true cond_false VC_true finW resW resL resOne LoopQ_exit LoopQ_ret List.cons_append List.nil_append Bool.not_true Bool.not_false Bool.and_true Bool.and_self Nat.lt_add_left_iff_pos Nat.zero_add Nat.add_zero List.drop_succ_cons List.drop_zero List.take_succ_cons List.take_zero beq_self_eq_true Bool.false_eq_true RunC_dops RunL_loadS RunL_loadD LoadDA_dptr RunL_storeS StoreSA_ptr RunL_pcall RunL_pcallv PCallvA_fn newsOk and_self and_true true_and loadW_ptr LoadK_1 LoadK_n upd_upd RunL_loadP LoadPA_ptr RunL_callS RunL_make RunL_buildSlice BSliceA_some RunL_buildSliceD frzL frz cutL LoadA_eptr LoadE_row RunL_append RunL_slice SliceA_sl StoreA_eptr List.length_cons List.length_nil Nat.min_def Int.cast_ofNat_Int Int.natCast_zero Int.natCast_one decide_true decide_false List.getElem?_cons_zero List.getElem?_cons_succ RunC_rangef CallvA_yld putL_nil putL_cons RangeQ_exit RangeQ_ret
def fitR (n : Int) : AV := .tup [i64 (if Fit n then n else 0), bv (Fit n)]
theorem fitR_yes {n : Int} (h : Fit n) : fitR n = .tup [i64 n, bv true] := by simp [fitR, h]
theorem fitR_no {n : Int} (h : ¬ Fit n) : fitR n = .tup [i64 0, bv false] := by simp [fitR, h]
theorem fitR_of {n m : Int} {b : Bool} (h : (b = true ∧ m = n ∧ Fit n) ∨ (b = false ∧ m = 0 ∧ ¬ Fit n)) : AV.tup [i64 m, bv b] = fitR n := by
  rcases h with ⟨rfl, rfl, h⟩ | ⟨rfl, rfl, h⟩
  · exact (fitR_yes h).symm
  · exact (fitR_no h).symm
def optR : Option Int → AV
  | some n => .tup [i64 n, bv true]
  | none => .tup [i64 0, bv false]
/-- A run: a value, from a number to another one. -/
structure Run where
  f : Int
  t : Int
  v : Int
  deriving DecidableEq
def Run.el (r : Run) : List D := [.int .i64 r.f, .int .i64 r.t, .int .i64 r.v]
abbrev Run.av (r : Run) : AV := .agg [i64 r.f, i64 r.t, i64 r.v]
def rowR (l : List Run) : List (List D) := l.map Run.el
theorem rowR_len {l : List Run} : (rowR l).length = l.length := List.length_map ..
theorem rowR_nth {l : List Run} {i : Nat} (h : i < l.length) : (rowR l)[i]? = some (Run.el l[i]) := by simp [rowR, h]
theorem rowR_set {l : List Run} {i : Nat} {r : Run} : (rowR l).set i r.el = rowR (l.set i r) := by simp [rowR, List.map_set]
theorem rowR_snoc {l : List Run} {r : Run} : rowR l ++ [r.el] = rowR (l ++ [r]) := by simp [rowR]
/-- A run more, behind all others. -/
def putR (l : List Run) (r : Run) : List Run := match l.getLast? with
  | some q => if q.v = r.v then l.dropLast ++ [{ q with t := r.t }] else l ++ [r]
  | none => [r]
theorem set_last {l : List Run} {x : Run} (h : l ≠ []) : l.set (l.length - 1) x = l.dropLast ++ [x] := by
  rcases List.eq_nil_or_concat l with rfl | ⟨dl, q, rfl⟩
  · exact absurd rfl h
  · simp
/-- A line's cell: its runs, in a row of its own. -/
def LineAt (H : Heap) (b : Nat) (c : Nat) (l : List Run) : Prop :=
  l = [] ∧ H b = some (.box 38 [.nilsl 3]) ∨ l ≠ [] ∧ c ≠ b ∧ ∃ cap, H b = some (.box 38 [.own c 3 0 l.length cap]) ∧ H c = some (.row 53 3 cap (rowR l))
/-- What putting leaves: all other cells lie as they lay. -/
def PutK (b c : Nat) (l0 l : List Run) (H : Heap) (H' : Heap) : Prop := ∃ c', LineAt H' b c' l ∧ (∀ k x, k ≠ b → (l0 ≠ [] → k ≠ c) → H k = some x → H' k = some x ∧ k ≠ c')
theorem put_ok {H : Heap} {b c : Nat} {l : List Run} {r : Run} (h : LineAt H b c l) (hl : l.length ≤ 1000000) : CallW Try.prog f_line_Line_int_put [.ptr b 0, r.av] H fun _ H' => PutK b c l (putR l r) H H' := by
  rcases h with ⟨rfl, h1⟩ | ⟨h0, h3, cap, h1, h2⟩
  · refine CallW_intro comp_line_Line_int_put (by simp) ?_
    simp -implicitDefEqProofs -proj only [go_sem, Nat.reduceBEq, Nat.reduceLT, Nat.reduceLeDiff, Nat.reduceAdd, Nat.reduceMul, ↓reduceIte, Int.reduceToNat, Int.reducePow, Int.reduceLT, Int.reduceLE, Int.reduceAdd, Int.reduceSub, Int.reduceMul, Int.reduceEq, Int.reduceNe, h1]
    refine AllocA_intro (fun b3 hb => ?_)
    replace hb : H b3 = none := hb
    obtain ⟨n1, n2⟩ := fresh_ne hb h1
    simp -implicitDefEqProofs -proj only [go_sem, Nat.reduceBEq, Nat.reduceLT, Nat.reduceLeDiff, Nat.reduceAdd, Nat.reduceMul, ↓reduceIte, Int.reduceToNat, Int.reducePow, Int.reduceLT, Int.reduceLE, Int.reduceAdd, Int.reduceSub, Int.reduceMul, Int.reduceEq, Int.reduceNe, h1, n1, n2]
    (repeat' first
    | (with_reducible refine Guard_split (fun h => ?_) (fun h => ?_) <;> (simp -implicitDefEqProofs -proj only [go_sem, Nat.reduceBEq, Nat.reduceLT, Nat.reduceLeDiff, Nat.reduceAdd, Nat.reduceMul, ↓reduceIte, Int.reduceToNat, Int.reducePow, Int.reduceLT, Int.reduceLE, Int.reduceAdd, Int.reduceSub, Int.reduceMul, Int.reduceEq, Int.reduceNe, h, h1, n1, n2]; try (revert h; intro _)))
    | (with_reducible refine Cond_split (fun h => ?_) (fun h => ?_) <;> (simp -implicitDefEqProofs -proj only [go_sem, Nat.reduceBEq, Nat.reduceLT, Nat.reduceLeDiff, Nat.reduceAdd, Nat.reduceMul, ↓reduceIte, Int.reduceToNat, Int.reducePow, Int.reduceLT, Int.reduceLE, Int.reduceAdd, Int.reduceSub, Int.reduceMul, Int.reduceEq, Int.reduceNe, h, h1, n1, n2]; try (revert h; intro _)))
    | (with_reducible refine Pick_split (fun h => ?_) (fun h => ?_) <;> (simp -implicitDefEqProofs -proj only [go_sem, Nat.reduceBEq, Nat.reduceLT, Nat.reduceLeDiff, Nat.reduceAdd, Nat.reduceMul, ↓reduceIte, Int.reduceToNat, Int.reducePow, Int.reduceLT, Int.reduceLE, Int.reduceAdd, Int.reduceSub, Int.reduceMul, Int.reduceEq, Int.reduceNe, h, h1, n1, n2]; try (revert h; intro _)))
    | (with_reducible refine AllocA_intro (fun _ hb => ?_); simp -implicitDefEqProofs only [upd_none, keepH_none, keepH_nil, Heap.none_get, and_true, true_and] at hb; simp -implicitDefEqProofs -proj only [go_sem, Nat.reduceBEq, Nat.reduceLT, Nat.reduceLeDiff, Nat.reduceAdd, Nat.reduceMul, ↓reduceIte, Int.reduceToNat, Int.reducePow, Int.reduceLT, Int.reduceLE, Int.reduceAdd, Int.reduceSub, Int.reduceMul, Int.reduceEq, Int.reduceNe, h1, n1, n2]; try (revert hb; intro _))
    | (with_reducible refine AllocR_intro (fun _ hb => ?_); simp -implicitDefEqProofs only [upd_none, keepH_none, keepH_nil, Heap.none_get, and_true, true_and] at hb; simp -implicitDefEqProofs -proj only [go_sem, Nat.reduceBEq, Nat.reduceLT, Nat.reduceLeDiff, Nat.reduceAdd, Nat.reduceMul, ↓reduceIte, Int.reduceToNat, Int.reducePow, Int.reduceLT, Int.reduceLE, Int.reduceAdd, Int.reduceSub, Int.reduceMul, Int.reduceEq, Int.reduceNe, h1, n1, n2]; try (revert hb; intro _))
    | (with_reducible refine IdxE_1 _ rfl (by simp) ?_; simp -implicitDefEqProofs -proj only [go_sem, Nat.reduceBEq, Nat.reduceLT, Nat.reduceLeDiff, Nat.reduceAdd, Nat.reduceMul, ↓reduceIte, Int.reduceToNat, Int.reducePow, Int.reduceLT, Int.reduceLE, Int.reduceAdd, Int.reduceSub, Int.reduceMul, Int.reduceEq, Int.reduceNe, h1, n1, n2])
    | (with_reducible refine IdxE_n _ rfl (by simp) ?_; simp -implicitDefEqProofs -proj only [go_sem, Nat.reduceBEq, Nat.reduceLT, Nat.reduceLeDiff, Nat.reduceAdd, Nat.reduceMul, ↓reduceIte, Int.reduceToNat, Int.reducePow, Int.reduceLT, Int.reduceLE, Int.reduceAdd, Int.reduceSub, Int.reduceMul, Int.reduceEq, Int.reduceNe, h1, n1, n2])
    | (with_reducible refine VC_intro ?_ (fun h => ?_); (focus first | decide | omega); try clear h; try simp -implicitDefEqProofs -proj only [go_sem, Nat.reduceBEq, Nat.reduceLT, Nat.reduceLeDiff, Nat.reduceAdd, Nat.reduceMul, ↓reduceIte, Int.reduceToNat, Int.reducePow, Int.reduceLT, Int.reduceLE, Int.reduceAdd, Int.reduceSub, Int.reduceMul, Int.reduceEq, Int.reduceNe, h1, n1, n2])
    | (with_reducible refine VC_intro ?_ (fun h => ?_); rotate_left; try clear h; try simp -implicitDefEqProofs -proj only [go_sem, Nat.reduceBEq, Nat.reduceLT, Nat.reduceLeDiff, Nat.reduceAdd, Nat.reduceMul, ↓reduceIte, Int.reduceToNat, Int.reducePow, Int.reduceLT, Int.reduceLE, Int.reduceAdd, Int.reduceSub, Int.reduceMul, Int.reduceEq, Int.reduceNe, h1, n1, n2]; rotate_right))
    refine BSliceD_intro (ds := r.el) rfl (fun bs hs => ?_)
    replace hs : upd H b3 _ bs = none := hs
    rw [show cutL 3 1 r.el = [r.el] from rfl]
    obtain ⟨m1, m2⟩ := fresh_ne hs (by rw [upd_ne n1]; exact h1)
    simp -implicitDefEqProofs -proj only [go_sem, Nat.reduceBEq, Nat.reduceLT, Nat.reduceLeDiff, Nat.reduceAdd, Nat.reduceMul, ↓reduceIte, Int.reduceToNat, Int.reducePow, Int.reduceLT, Int.reduceLE, Int.reduceAdd, Int.reduceSub, Int.reduceMul, Int.reduceEq, Int.reduceNe, h1, n1, n2, m1, m2]
    refine AppendA_nil1 (ys := [r.el]) (t := 53) (capc := 1) (by simp -implicitDefEqProofs -proj only [go_sem, Nat.reduceBEq, Nat.reduceLT, Nat.reduceLeDiff, Nat.reduceAdd, Nat.reduceMul, ↓reduceIte, Int.reduceToNat, Int.reducePow, Int.reduceLT, Int.reduceLE, Int.reduceAdd, Int.reduceSub, Int.reduceMul, Int.reduceEq, Int.reduceNe]) rfl (by simp) rfl (by simp [maxLen]) (fun c' hc' cap => ?_)
    replace hc' : upd (upd H b3 _) bs _ c' = none := hc'
    obtain ⟨k1, k2⟩ := fresh_ne hc' (by rw [upd_ne m1, upd_ne n1]; exact h1)
    simp -implicitDefEqProofs -proj only [go_sem, Nat.reduceBEq, Nat.reduceLT, Nat.reduceLeDiff, Nat.reduceAdd, Nat.reduceMul, ↓reduceIte, Int.reduceToNat, Int.reducePow, Int.reduceLT, Int.reduceLE, Int.reduceAdd, Int.reduceSub, Int.reduceMul, Int.reduceEq, Int.reduceNe, h1, n1, n2, m1, m2, k1, k2]
    (repeat' first
    | (with_reducible refine Guard_split (fun h => ?_) (fun h => ?_) <;> (simp -implicitDefEqProofs -proj only [go_sem, Nat.reduceBEq, Nat.reduceLT, Nat.reduceLeDiff, Nat.reduceAdd, Nat.reduceMul, ↓reduceIte, Int.reduceToNat, Int.reducePow, Int.reduceLT, Int.reduceLE, Int.reduceAdd, Int.reduceSub, Int.reduceMul, Int.reduceEq, Int.reduceNe, h, h1, n1, n2, m1, m2, k1, k2]; try (revert h; intro _)))
    | (with_reducible refine Cond_split (fun h => ?_) (fun h => ?_) <;> (simp -implicitDefEqProofs -proj only [go_sem, Nat.reduceBEq, Nat.reduceLT, Nat.reduceLeDiff, Nat.reduceAdd, Nat.reduceMul, ↓reduceIte, Int.reduceToNat, Int.reducePow, Int.reduceLT, Int.reduceLE, Int.reduceAdd, Int.reduceSub, Int.reduceMul, Int.reduceEq, Int.reduceNe, h, h1, n1, n2, m1, m2, k1, k2]; try (revert h; intro _)))
    | (with_reducible refine Pick_split (fun h => ?_) (fun h => ?_) <;> (simp -implicitDefEqProofs -proj only [go_sem, Nat.reduceBEq, Nat.reduceLT, Nat.reduceLeDiff, Nat.reduceAdd, Nat.reduceMul, ↓reduceIte, Int.reduceToNat, Int.reducePow, Int.reduceLT, Int.reduceLE, Int.reduceAdd, Int.reduceSub, Int.reduceMul, Int.reduceEq, Int.reduceNe, h, h1, n1, n2, m1, m2, k1, k2]; try (revert h; intro _)))
    | (with_reducible refine AllocA_intro (fun _ hb => ?_); simp -implicitDefEqProofs only [upd_none, keepH_none, keepH_nil, Heap.none_get, and_true, true_and] at hb; simp -implicitDefEqProofs -proj only [go_sem, Nat.reduceBEq, Nat.reduceLT, Nat.reduceLeDiff, Nat.reduceAdd, Nat.reduceMul, ↓reduceIte, Int.reduceToNat, Int.reducePow, Int.reduceLT, Int.reduceLE, Int.reduceAdd, Int.reduceSub, Int.reduceMul, Int.reduceEq, Int.reduceNe, h1, n1, n2, m1, m2, k1, k2]; try (revert hb; intro _))
    | (with_reducible refine AllocR_intro (fun _ hb => ?_); simp -implicitDefEqProofs only [upd_none, keepH_none, keepH_nil, Heap.none_get, and_true, true_and] at hb; simp -implicitDefEqProofs -proj only [go_sem, Nat.reduceBEq, Nat.reduceLT, Nat.reduceLeDiff, Nat.reduceAdd, Nat.reduceMul, ↓reduceIte, Int.reduceToNat, Int.reducePow, Int.reduceLT, Int.reduceLE, Int.reduceAdd, Int.reduceSub, Int.reduceMul, Int.reduceEq, Int.reduceNe, h1, n1, n2, m1, m2, k1, k2]; try (revert hb; intro _))
    | (with_reducible refine IdxE_1 _ rfl (by simp) ?_; simp -implicitDefEqProofs -proj only [go_sem, Nat.reduceBEq, Nat.reduceLT, Nat.reduceLeDiff, Nat.reduceAdd, Nat.reduceMul, ↓reduceIte, Int.reduceToNat, Int.reducePow, Int.reduceLT, Int.reduceLE, Int.reduceAdd, Int.reduceSub, Int.reduceMul, Int.reduceEq, Int.reduceNe, h1, n1, n2, m1, m2, k1, k2])
    | (with_reducible refine IdxE_n _ rfl (by simp) ?_; simp -implicitDefEqProofs -proj only [go_sem, Nat.reduceBEq, Nat.reduceLT, Nat.reduceLeDiff, Nat.reduceAdd, Nat.reduceMul, ↓reduceIte, Int.reduceToNat, Int.reducePow, Int.reduceLT, Int.reduceLE, Int.reduceAdd, Int.reduceSub, Int.reduceMul, Int.reduceEq, Int.reduceNe, h1, n1, n2, m1, m2, k1, k2])
    | (with_reducible refine VC_intro ?_ (fun h => ?_); (focus first | decide | omega); try clear h; try simp -implicitDefEqProofs -proj only [go_sem, Nat.reduceBEq, Nat.reduceLT, Nat.reduceLeDiff, Nat.reduceAdd, Nat.reduceMul, ↓reduceIte, Int.reduceToNat, Int.reducePow, Int.reduceLT, Int.reduceLE, Int.reduceAdd, Int.reduceSub, Int.reduceMul, Int.reduceEq, Int.reduceNe, h1, n1, n2, m1, m2, k1, k2])
    | (with_reducible refine VC_intro ?_ (fun h => ?_); rotate_left; try clear h; try simp -implicitDefEqProofs -proj only [go_sem, Nat.reduceBEq, Nat.reduceLT, Nat.reduceLeDiff, Nat.reduceAdd, Nat.reduceMul, ↓reduceIte, Int.reduceToNat, Int.reducePow, Int.reduceLT, Int.reduceLE, Int.reduceAdd, Int.reduceSub, Int.reduceMul, Int.reduceEq, Int.reduceNe, h1, n1, n2, m1, m2, k1, k2]; rotate_right))
    refine ⟨c', .inr ⟨by simp [putR], k1, cap, ?_, ?_⟩, fun k x hk1 hk2 hk => ?_⟩
    · simp -implicitDefEqProofs -proj only [go_sem, Nat.reduceBEq, Nat.reduceLT, Nat.reduceLeDiff, Nat.reduceAdd, Nat.reduceMul, ↓reduceIte, Int.reduceToNat, Int.reducePow, Int.reduceLT, Int.reduceLE, Int.reduceAdd, Int.reduceSub, Int.reduceMul, Int.reduceEq, Int.reduceNe, putR]
      rfl
    · simp -implicitDefEqProofs -proj only [go_sem, Nat.reduceBEq, Nat.reduceLT, Nat.reduceLeDiff, Nat.reduceAdd, Nat.reduceMul, ↓reduceIte, Int.reduceToNat, Int.reducePow, Int.reduceLT, Int.reduceLE, Int.reduceAdd, Int.reduceSub, Int.reduceMul, Int.reduceEq, Int.reduceNe, k2]
      rfl
    · obtain ⟨p1, p2⟩ := fresh_ne hb hk
      obtain ⟨q1, q2⟩ := fresh_ne hs (by rw [upd_ne p1]; exact hk)
      obtain ⟨r1, r2⟩ := fresh_ne hc' (by rw [upd_ne q1, upd_ne p1]; exact hk)
      refine ⟨?_, r2⟩
      have hk3 : ¬ b = k := fun e => hk1 e.symm
      simp -implicitDefEqProofs -proj only [go_sem, Nat.reduceBEq, Nat.reduceLT, Nat.reduceLeDiff, Nat.reduceAdd, Nat.reduceMul, ↓reduceIte, Int.reduceToNat, Int.reducePow, Int.reduceLT, Int.reduceLE, Int.reduceAdd, Int.reduceSub, Int.reduceMul, Int.reduceEq, Int.reduceNe, p1, q1, r1, hk, hk3]
  · obtain ⟨q, hq⟩ : ∃ q, l.getLast? = some q := by
      cases hh : l.getLast? with
      | none => exact absurd (List.getLast?_eq_none_iff.1 hh) h0
      | some q => exact ⟨q, rfl⟩
    have hlen : 0 < l.length := List.length_pos_iff.2 h0
    have hq2 : l[l.length - 1]? = some q := by rw [← List.getLast?_eq_getElem?]; exact hq
    have hw : IntKind.i64.wrap ((l.length : Int) - 1) = ((l.length - 1 : Nat) : Int) := by rw [IntKind.wrap_i64]; omega
    have hrow : (rowR l)[l.length - 1]? = some [.int .i64 q.f, .int .i64 q.t, .int .i64 q.v] := by simp [rowR, hq2, Run.el]
    have h3' : ¬ b = c := fun e => h3 e.symm
    refine CallW_intro comp_line_Line_int_put (by simp) ?_
    simp -implicitDefEqProofs -proj only [go_sem, Nat.reduceBEq, Nat.reduceLT, Nat.reduceLeDiff, Nat.reduceAdd, Nat.reduceMul, ↓reduceIte, Int.reduceToNat, Int.reducePow, Int.reduceLT, Int.reduceLE, Int.reduceAdd, Int.reduceSub, Int.reduceMul, Int.reduceEq, Int.reduceNe, h1]
    refine AllocA_intro (fun b3 hb => ?_)
    replace hb : H b3 = none := hb
    obtain ⟨n1, n2⟩ := fresh_ne hb h1
    obtain ⟨n3, n4⟩ := fresh_ne hb h2
    have c0 : decide (0 < (l.length : Int)) = true := decide_eq_true (by omega)
    simp -implicitDefEqProofs -proj only [go_sem, Nat.reduceBEq, Nat.reduceLT, Nat.reduceLeDiff, Nat.reduceAdd, Nat.reduceMul, ↓reduceIte, Int.reduceToNat, Int.reducePow, Int.reduceLT, Int.reduceLE, Int.reduceAdd, Int.reduceSub, Int.reduceMul, Int.reduceEq, Int.reduceNe, h1, h2, h3, h3', n1, n2, n3, n4, c0, hw]
    (repeat' first
    | (with_reducible refine Guard_split (fun h => ?_) (fun h => ?_) <;> (simp -implicitDefEqProofs -proj only [go_sem, Nat.reduceBEq, Nat.reduceLT, Nat.reduceLeDiff, Nat.reduceAdd, Nat.reduceMul, ↓reduceIte, Int.reduceToNat, Int.reducePow, Int.reduceLT, Int.reduceLE, Int.reduceAdd, Int.reduceSub, Int.reduceMul, Int.reduceEq, Int.reduceNe, h, h1, h2, h3, h3', n1, n2, n3, n4, c0, hw]; try (revert h; intro _)))
    | (with_reducible refine Cond_split (fun h => ?_) (fun h => ?_) <;> (simp -implicitDefEqProofs -proj only [go_sem, Nat.reduceBEq, Nat.reduceLT, Nat.reduceLeDiff, Nat.reduceAdd, Nat.reduceMul, ↓reduceIte, Int.reduceToNat, Int.reducePow, Int.reduceLT, Int.reduceLE, Int.reduceAdd, Int.reduceSub, Int.reduceMul, Int.reduceEq, Int.reduceNe, h, h1, h2, h3, h3', n1, n2, n3, n4, c0, hw]; try (revert h; intro _)))
    | (with_reducible refine Pick_split (fun h => ?_) (fun h => ?_) <;> (simp -implicitDefEqProofs -proj only [go_sem, Nat.reduceBEq, Nat.reduceLT, Nat.reduceLeDiff, Nat.reduceAdd, Nat.reduceMul, ↓reduceIte, Int.reduceToNat, Int.reducePow, Int.reduceLT, Int.reduceLE, Int.reduceAdd, Int.reduceSub, Int.reduceMul, Int.reduceEq, Int.reduceNe, h, h1, h2, h3, h3', n1, n2, n3, n4, c0, hw]; try (revert h; intro _)))
    | (with_reducible refine AllocA_intro (fun _ hb => ?_); simp -implicitDefEqProofs only [upd_none, keepH_none, keepH_nil, Heap.none_get, and_true, true_and] at hb; simp -implicitDefEqProofs -proj only [go_sem, Nat.reduceBEq, Nat.reduceLT, Nat.reduceLeDiff, Nat.reduceAdd, Nat.reduceMul, ↓reduceIte, Int.reduceToNat, Int.reducePow, Int.reduceLT, Int.reduceLE, Int.reduceAdd, Int.reduceSub, Int.reduceMul, Int.reduceEq, Int.reduceNe, h1, h2, h3, h3', n1, n2, n3, n4, c0, hw]; try (revert hb; intro _))
    | (with_reducible refine AllocR_intro (fun _ hb => ?_); simp -implicitDefEqProofs only [upd_none, keepH_none, keepH_nil, Heap.none_get, and_true, true_and] at hb; simp -implicitDefEqProofs -proj only [go_sem, Nat.reduceBEq, Nat.reduceLT, Nat.reduceLeDiff, Nat.reduceAdd, Nat.reduceMul, ↓reduceIte, Int.reduceToNat, Int.reducePow, Int.reduceLT, Int.reduceLE, Int.reduceAdd, Int.reduceSub, Int.reduceMul, Int.reduceEq, Int.reduceNe, h1, h2, h3, h3', n1, n2, n3, n4, c0, hw]; try (revert hb; intro _))
    | (with_reducible refine IdxE_1 _ rfl (by simp) ?_; simp -implicitDefEqProofs -proj only [go_sem, Nat.reduceBEq, Nat.reduceLT, Nat.reduceLeDiff, Nat.reduceAdd, Nat.reduceMul, ↓reduceIte, Int.reduceToNat, Int.reducePow, Int.reduceLT, Int.reduceLE, Int.reduceAdd, Int.reduceSub, Int.reduceMul, Int.reduceEq, Int.reduceNe, h1, h2, h3, h3', n1, n2, n3, n4, c0, hw])
    | (with_reducible refine IdxE_n _ rfl (by simp) ?_; simp -implicitDefEqProofs -proj only [go_sem, Nat.reduceBEq, Nat.reduceLT, Nat.reduceLeDiff, Nat.reduceAdd, Nat.reduceMul, ↓reduceIte, Int.reduceToNat, Int.reducePow, Int.reduceLT, Int.reduceLE, Int.reduceAdd, Int.reduceSub, Int.reduceMul, Int.reduceEq, Int.reduceNe, h1, h2, h3, h3', n1, n2, n3, n4, c0, hw])
    | (with_reducible refine VC_intro ?_ (fun h => ?_); (focus first | decide | omega); try clear h; try simp -implicitDefEqProofs -proj only [go_sem, Nat.reduceBEq, Nat.reduceLT, Nat.reduceLeDiff, Nat.reduceAdd, Nat.reduceMul, ↓reduceIte, Int.reduceToNat, Int.reducePow, Int.reduceLT, Int.reduceLE, Int.reduceAdd, Int.reduceSub, Int.reduceMul, Int.reduceEq, Int.reduceNe, h1, h2, h3, h3', n1, n2, n3, n4, c0, hw])
    | (with_reducible refine VC_intro ?_ (fun h => ?_); rotate_left; try clear h; try simp -implicitDefEqProofs -proj only [go_sem, Nat.reduceBEq, Nat.reduceLT, Nat.reduceLeDiff, Nat.reduceAdd, Nat.reduceMul, ↓reduceIte, Int.reduceToNat, Int.reducePow, Int.reduceLT, Int.reduceLE, Int.reduceAdd, Int.reduceSub, Int.reduceMul, Int.reduceEq, Int.reduceNe, h1, h2, h3, h3', n1, n2, n3, n4, c0, hw]; rotate_right))
    refine IdxE_1 _ (by rw [Int.toNat_natCast]; exact hrow) (by simp) ?_
    simp -implicitDefEqProofs -proj only [go_sem, Nat.reduceBEq, Nat.reduceLT, Nat.reduceLeDiff, Nat.reduceAdd, Nat.reduceMul, ↓reduceIte, Int.reduceToNat, Int.reducePow, Int.reduceLT, Int.reduceLE, Int.reduceAdd, Int.reduceSub, Int.reduceMul, Int.reduceEq, Int.reduceNe, h1, h2, h3, h3', n1, n2, n3, n4, c0, hw]
    by_cases hv : q.v = r.v
    · have hp : putR l r = l.dropLast ++ [{ q with t := r.t }] := by rw [putR, hq]; exact if_pos hv
      simp -implicitDefEqProofs -proj only [go_sem, Nat.reduceBEq, Nat.reduceLT, Nat.reduceLeDiff, Nat.reduceAdd, Nat.reduceMul, ↓reduceIte, Int.reduceToNat, Int.reducePow, Int.reduceLT, Int.reduceLE, Int.reduceAdd, Int.reduceSub, Int.reduceMul, Int.reduceEq, Int.reduceNe, h1, h2, h3, h3', n1, n2, n3, n4, c0, hw, decide_eq_true hv, Int.toNat_natCast]
      (repeat' first
    | (with_reducible refine Guard_split (fun h => ?_) (fun h => ?_) <;> (simp -implicitDefEqProofs -proj only [go_sem, Nat.reduceBEq, Nat.reduceLT, Nat.reduceLeDiff, Nat.reduceAdd, Nat.reduceMul, ↓reduceIte, Int.reduceToNat, Int.reducePow, Int.reduceLT, Int.reduceLE, Int.reduceAdd, Int.reduceSub, Int.reduceMul, Int.reduceEq, Int.reduceNe, h, h1, h2, h3, h3', n1, n2, n3, n4, c0, hw, Int.toNat_natCast]; try (revert h; intro _)))
    | (with_reducible refine Cond_split (fun h => ?_) (fun h => ?_) <;> (simp -implicitDefEqProofs -proj only [go_sem, Nat.reduceBEq, Nat.reduceLT, Nat.reduceLeDiff, Nat.reduceAdd, Nat.reduceMul, ↓reduceIte, Int.reduceToNat, Int.reducePow, Int.reduceLT, Int.reduceLE, Int.reduceAdd, Int.reduceSub, Int.reduceMul, Int.reduceEq, Int.reduceNe, h, h1, h2, h3, h3', n1, n2, n3, n4, c0, hw, Int.toNat_natCast]; try (revert h; intro _)))
    | (with_reducible refine Pick_split (fun h => ?_) (fun h => ?_) <;> (simp -implicitDefEqProofs -proj only [go_sem, Nat.reduceBEq, Nat.reduceLT, Nat.reduceLeDiff, Nat.reduceAdd, Nat.reduceMul, ↓reduceIte, Int.reduceToNat, Int.reducePow, Int.reduceLT, Int.reduceLE, Int.reduceAdd, Int.reduceSub, Int.reduceMul, Int.reduceEq, Int.reduceNe, h, h1, h2, h3, h3', n1, n2, n3, n4, c0, hw, Int.toNat_natCast]; try (revert h; intro _)))
    | (with_reducible refine AllocA_intro (fun _ hb => ?_); simp -implicitDefEqProofs only [upd_none, keepH_none, keepH_nil, Heap.none_get, and_true, true_and] at hb; simp -implicitDefEqProofs -proj only [go_sem, Nat.reduceBEq, Nat.reduceLT, Nat.reduceLeDiff, Nat.reduceAdd, Nat.reduceMul, ↓reduceIte, Int.reduceToNat, Int.reducePow, Int.reduceLT, Int.reduceLE, Int.reduceAdd, Int.reduceSub, Int.reduceMul, Int.reduceEq, Int.reduceNe, h1, h2, h3, h3', n1, n2, n3, n4, c0, hw, Int.toNat_natCast]; try (revert hb; intro _))
    | (with_reducible refine AllocR_intro (fun _ hb => ?_); simp -implicitDefEqProofs only [upd_none, keepH_none, keepH_nil, Heap.none_get, and_true, true_and] at hb; simp -implicitDefEqProofs -proj only [go_sem, Nat.reduceBEq, Nat.reduceLT, Nat.reduceLeDiff, Nat.reduceAdd, Nat.reduceMul, ↓reduceIte, Int.reduceToNat, Int.reducePow, Int.reduceLT, Int.reduceLE, Int.reduceAdd, Int.reduceSub, Int.reduceMul, Int.reduceEq, Int.reduceNe, h1, h2, h3, h3', n1, n2, n3, n4, c0, hw, Int.toNat_natCast]; try (revert hb; intro _))
    | (with_reducible refine IdxE_1 _ rfl (by simp) ?_; simp -implicitDefEqProofs -proj only [go_sem, Nat.reduceBEq, Nat.reduceLT, Nat.reduceLeDiff, Nat.reduceAdd, Nat.reduceMul, ↓reduceIte, Int.reduceToNat, Int.reducePow, Int.reduceLT, Int.reduceLE, Int.reduceAdd, Int.reduceSub, Int.reduceMul, Int.reduceEq, Int.reduceNe, h1, h2, h3, h3', n1, n2, n3, n4, c0, hw, Int.toNat_natCast])
    | (with_reducible refine IdxE_n _ rfl (by simp) ?_; simp -implicitDefEqProofs -proj only [go_sem, Nat.reduceBEq, Nat.reduceLT, Nat.reduceLeDiff, Nat.reduceAdd, Nat.reduceMul, ↓reduceIte, Int.reduceToNat, Int.reducePow, Int.reduceLT, Int.reduceLE, Int.reduceAdd, Int.reduceSub, Int.reduceMul, Int.reduceEq, Int.reduceNe, h1, h2, h3, h3', n1, n2, n3, n4, c0, hw, Int.toNat_natCast])
    | (with_reducible refine VC_intro ?_ (fun h => ?_); (focus first | decide | omega); try clear h; try simp -implicitDefEqProofs -proj only [go_sem, Nat.reduceBEq, Nat.reduceLT, Nat.reduceLeDiff, Nat.reduceAdd, Nat.reduceMul, ↓reduceIte, Int.reduceToNat, Int.reducePow, Int.reduceLT, Int.reduceLE, Int.reduceAdd, Int.reduceSub, Int.reduceMul, Int.reduceEq, Int.reduceNe, h1, h2, h3, h3', n1, n2, n3, n4, c0, hw, Int.toNat_natCast])
    | (with_reducible refine VC_intro ?_ (fun h => ?_); rotate_left; try clear h; try simp -implicitDefEqProofs -proj only [go_sem, Nat.reduceBEq, Nat.reduceLT, Nat.reduceLeDiff, Nat.reduceAdd, Nat.reduceMul, ↓reduceIte, Int.reduceToNat, Int.reducePow, Int.reduceLT, Int.reduceLE, Int.reduceAdd, Int.reduceSub, Int.reduceMul, Int.reduceEq, Int.reduceNe, h1, h2, h3, h3', n1, n2, n3, n4, c0, hw, Int.toNat_natCast]; rotate_right))
      refine StoreE_1 (xs := rowR l) (t := 53) (cap := cap) (by simp -implicitDefEqProofs -proj only [go_sem, Nat.reduceBEq, Nat.reduceLT, Nat.reduceLeDiff, Nat.reduceAdd, Nat.reduceMul, ↓reduceIte, Int.reduceToNat, Int.reducePow, Int.reduceLT, Int.reduceLE, Int.reduceAdd, Int.reduceSub, Int.reduceMul, Int.reduceEq, Int.reduceNe, n3, h2]) hrow (by simp) ?_
      have hset : (rowR l).set (l.length - 1) (setSegD [.int .i64 q.f, .int .i64 q.t, .int .i64 q.v] 1 [.int .i64 r.t]) = rowR (putR l r) := by
        rw [hp, ← set_last h0, ← rowR_set]; rfl
      have hlp : (putR l r).length = l.length := by rw [hp, List.length_append, List.length_dropLast, List.length_singleton]; omega
      rw [hset]
      simp -implicitDefEqProofs -proj only [go_sem, Nat.reduceBEq, Nat.reduceLT, Nat.reduceLeDiff, Nat.reduceAdd, Nat.reduceMul, ↓reduceIte, Int.reduceToNat, Int.reducePow, Int.reduceLT, Int.reduceLE, Int.reduceAdd, Int.reduceSub, Int.reduceMul, Int.reduceEq, Int.reduceNe, h1, h2, h3, h3', n1, n2, n3, n4, c0, hw]
      refine ⟨c, .inr ⟨by rw [hp]; simp, h3, cap, ?_, ?_⟩, fun k x hk1 hk2 hk => ?_⟩
      · simp -implicitDefEqProofs -proj only [go_sem, Nat.reduceBEq, Nat.reduceLT, Nat.reduceLeDiff, Nat.reduceAdd, Nat.reduceMul, ↓reduceIte, Int.reduceToNat, Int.reducePow, Int.reduceLT, Int.reduceLE, Int.reduceAdd, Int.reduceSub, Int.reduceMul, Int.reduceEq, Int.reduceNe, n1, h3, h1, hlp]
      · simp -implicitDefEqProofs -proj only [go_sem, Nat.reduceBEq, Nat.reduceLT, Nat.reduceLeDiff, Nat.reduceAdd, Nat.reduceMul, ↓reduceIte, Int.reduceToNat, Int.reducePow, Int.reduceLT, Int.reduceLE, Int.reduceAdd, Int.reduceSub, Int.reduceMul, Int.reduceEq, Int.reduceNe]
      · obtain ⟨p1, p2⟩ := fresh_ne hb hk
        have hk3 : ¬ c = k := fun e => hk2 h0 e.symm
        refine ⟨?_, hk2 h0⟩
        simp -implicitDefEqProofs -proj only [go_sem, Nat.reduceBEq, Nat.reduceLT, Nat.reduceLeDiff, Nat.reduceAdd, Nat.reduceMul, ↓reduceIte, Int.reduceToNat, Int.reducePow, Int.reduceLT, Int.reduceLE, Int.reduceAdd, Int.reduceSub, Int.reduceMul, Int.reduceEq, Int.reduceNe, p1, hk3, hk]
    · have hp : putR l r = l ++ [r] := by rw [putR, hq]; exact if_neg hv
      simp -implicitDefEqProofs -proj only [go_sem, Nat.reduceBEq, Nat.reduceLT, Nat.reduceLeDiff, Nat.reduceAdd, Nat.reduceMul, ↓reduceIte, Int.reduceToNat, Int.reducePow, Int.reduceLT, Int.reduceLE, Int.reduceAdd, Int.reduceSub, Int.reduceMul, Int.reduceEq, Int.reduceNe, h1, h2, h3, h3', n1, n2, n3, n4, c0, hw, decide_eq_false hv]
      (repeat' first
    | (with_reducible refine Guard_split (fun h => ?_) (fun h => ?_) <;> (simp -implicitDefEqProofs -proj only [go_sem, Nat.reduceBEq, Nat.reduceLT, Nat.reduceLeDiff, Nat.reduceAdd, Nat.reduceMul, ↓reduceIte, Int.reduceToNat, Int.reducePow, Int.reduceLT, Int.reduceLE, Int.reduceAdd, Int.reduceSub, Int.reduceMul, Int.reduceEq, Int.reduceNe, h, h1, h2, h3, h3', n1, n2, n3, n4, c0, hw]; try (revert h; intro _)))
    | (with_reducible refine Cond_split (fun h => ?_) (fun h => ?_) <;> (simp -implicitDefEqProofs -proj only [go_sem, Nat.reduceBEq, Nat.reduceLT, Nat.reduceLeDiff, Nat.reduceAdd, Nat.reduceMul, ↓reduceIte, Int.reduceToNat, Int.reducePow, Int.reduceLT, Int.reduceLE, Int.reduceAdd, Int.reduceSub, Int.reduceMul, Int.reduceEq, Int.reduceNe, h, h1, h2, h3, h3', n1, n2, n3, n4, c0, hw]; try (revert h; intro _)))
    | (with_reducible refine Pick_split (fun h => ?_) (fun h => ?_) <;> (simp -implicitDefEqProofs -proj only [go_sem, Nat.reduceBEq, Nat.reduceLT, Nat.reduceLeDiff, Nat.reduceAdd, Nat.reduceMul, ↓reduceIte, Int.reduceToNat, Int.reducePow, Int.reduceLT, Int.reduceLE, Int.reduceAdd, Int.reduceSub, Int.reduceMul, Int.reduceEq, Int.reduceNe, h, h1, h2, h3, h3', n1, n2, n3, n4, c0, hw]; try (revert h; intro _)))
    | (with_reducible refine AllocA_intro (fun _ hb => ?_); simp -implicitDefEqProofs only [upd_none, keepH_none, keepH_nil, Heap.none_get, and_true, true_and] at hb; simp -implicitDefEqProofs -proj only [go_sem, Nat.reduceBEq, Nat.reduceLT, Nat.reduceLeDiff, Nat.reduceAdd, Nat.reduceMul, ↓reduceIte, Int.reduceToNat, Int.reducePow, Int.reduceLT, Int.reduceLE, Int.reduceAdd, Int.reduceSub, Int.reduceMul, Int.reduceEq, Int.reduceNe, h1, h2, h3, h3', n1, n2, n3, n4, c0, hw]; try (revert hb; intro _))
    | (with_reducible refine AllocR_intro (fun _ hb => ?_); simp -implicitDefEqProofs only [upd_none, keepH_none, keepH_nil, Heap.none_get, and_true, true_and] at hb; simp -implicitDefEqProofs -proj only [go_sem, Nat.reduceBEq, Nat.reduceLT, Nat.reduceLeDiff, Nat.reduceAdd, Nat.reduceMul, ↓reduceIte, Int.reduceToNat, Int.reducePow, Int.reduceLT, Int.reduceLE, Int.reduceAdd, Int.reduceSub, Int.reduceMul, Int.reduceEq, Int.reduceNe, h1, h2, h3, h3', n1, n2, n3, n4, c0, hw]; try (revert hb; intro _))
    | (with_reducible refine IdxE_1 _ rfl (by simp) ?_; simp -implicitDefEqProofs -proj only [go_sem, Nat.reduceBEq, Nat.reduceLT, Nat.reduceLeDiff, Nat.reduceAdd, Nat.reduceMul, ↓reduceIte, Int.reduceToNat, Int.reducePow, Int.reduceLT, Int.reduceLE, Int.reduceAdd, Int.reduceSub, Int.reduceMul, Int.reduceEq, Int.reduceNe, h1, h2, h3, h3', n1, n2, n3, n4, c0, hw])
    | (with_reducible refine IdxE_n _ rfl (by simp) ?_; simp -implicitDefEqProofs -proj only [go_sem, Nat.reduceBEq, Nat.reduceLT, Nat.reduceLeDiff, Nat.reduceAdd, Nat.reduceMul, ↓reduceIte, Int.reduceToNat, Int.reducePow, Int.reduceLT, Int.reduceLE, Int.reduceAdd, Int.reduceSub, Int.reduceMul, Int.reduceEq, Int.reduceNe, h1, h2, h3, h3', n1, n2, n3, n4, c0, hw])
    | (with_reducible refine VC_intro ?_ (fun h => ?_); (focus first | decide | omega); try clear h; try simp -implicitDefEqProofs -proj only [go_sem, Nat.reduceBEq, Nat.reduceLT, Nat.reduceLeDiff, Nat.reduceAdd, Nat.reduceMul, ↓reduceIte, Int.reduceToNat, Int.reducePow, Int.reduceLT, Int.reduceLE, Int.reduceAdd, Int.reduceSub, Int.reduceMul, Int.reduceEq, Int.reduceNe, h1, h2, h3, h3', n1, n2, n3, n4, c0, hw])
    | (with_reducible refine VC_intro ?_ (fun h => ?_); rotate_left; try clear h; try simp -implicitDefEqProofs -proj only [go_sem, Nat.reduceBEq, Nat.reduceLT, Nat.reduceLeDiff, Nat.reduceAdd, Nat.reduceMul, ↓reduceIte, Int.reduceToNat, Int.reducePow, Int.reduceLT, Int.reduceLE, Int.reduceAdd, Int.reduceSub, Int.reduceMul, Int.reduceEq, Int.reduceNe, h1, h2, h3, h3', n1, n2, n3, n4, c0, hw]; rotate_right))
      refine BSliceD_intro (ds := r.el) rfl (fun bs hs => ?_)
      replace hs : upd H b3 _ bs = none := hs
      rw [show cutL 3 1 r.el = [r.el] from rfl]
      obtain ⟨m1, m2⟩ := fresh_ne hs (by rw [upd_ne n1]; exact h1)
      obtain ⟨m3, m4⟩ := fresh_ne hs (by rw [upd_ne n3]; exact h2)
      simp -implicitDefEqProofs -proj only [go_sem, Nat.reduceBEq, Nat.reduceLT, Nat.reduceLeDiff, Nat.reduceAdd, Nat.reduceMul, ↓reduceIte, Int.reduceToNat, Int.reducePow, Int.reduceLT, Int.reduceLE, Int.reduceAdd, Int.reduceSub, Int.reduceMul, Int.reduceEq, Int.reduceNe, h1, h2, h3, h3', n1, n2, n3, n4, c0, hw, m1, m2, m3, m4]
      refine AppendA_own1 (xs := rowR l) (ys := [r.el]) (t := 53) (capc := 1) (by simp -implicitDefEqProofs -proj only [go_sem, Nat.reduceBEq, Nat.reduceLT, Nat.reduceLeDiff, Nat.reduceAdd, Nat.reduceMul, ↓reduceIte, Int.reduceToNat, Int.reducePow, Int.reduceLT, Int.reduceLE, Int.reduceAdd, Int.reduceSub, Int.reduceMul, Int.reduceEq, Int.reduceNe, m3, n3, h2]) (by simp -implicitDefEqProofs -proj only [go_sem, Nat.reduceBEq, Nat.reduceLT, Nat.reduceLeDiff, Nat.reduceAdd, Nat.reduceMul, ↓reduceIte, Int.reduceToNat, Int.reducePow, Int.reduceLT, Int.reduceLE, Int.reduceAdd, Int.reduceSub, Int.reduceMul, Int.reduceEq, Int.reduceNe]) rowR_len.symm rfl (by simp) rfl (by simp -implicitDefEqProofs only [rowR_len, List.length_singleton, maxLen]; omega) (fun c' cap' hc' => ?_)
      replace hc' : upd (upd (upd H b3 _) bs _) c none c' = none := hc'
      obtain ⟨k1, k2⟩ := fresh_ne hc' (by rw [upd_ne h3, upd_ne m1, upd_ne n1]; exact h1)
      rw [rowR_snoc, List.length_singleton]
      simp -implicitDefEqProofs -proj only [go_sem, Nat.reduceBEq, Nat.reduceLT, Nat.reduceLeDiff, Nat.reduceAdd, Nat.reduceMul, ↓reduceIte, Int.reduceToNat, Int.reducePow, Int.reduceLT, Int.reduceLE, Int.reduceAdd, Int.reduceSub, Int.reduceMul, Int.reduceEq, Int.reduceNe, h1, h2, h3, h3', n1, n2, n3, n4, c0, hw, m1, m2, m3, m4, k1, k2]
      (repeat' first
    | (with_reducible refine Guard_split (fun h => ?_) (fun h => ?_) <;> (simp -implicitDefEqProofs -proj only [go_sem, Nat.reduceBEq, Nat.reduceLT, Nat.reduceLeDiff, Nat.reduceAdd, Nat.reduceMul, ↓reduceIte, Int.reduceToNat, Int.reducePow, Int.reduceLT, Int.reduceLE, Int.reduceAdd, Int.reduceSub, Int.reduceMul, Int.reduceEq, Int.reduceNe, h, h1, h2, h3, h3', n1, n2, n3, n4, c0, hw, m1, m2, m3, m4, k1, k2]; try (revert h; intro _)))
    | (with_reducible refine Cond_split (fun h => ?_) (fun h => ?_) <;> (simp -implicitDefEqProofs -proj only [go_sem, Nat.reduceBEq, Nat.reduceLT, Nat.reduceLeDiff, Nat.reduceAdd, Nat.reduceMul, ↓reduceIte, Int.reduceToNat, Int.reducePow, Int.reduceLT, Int.reduceLE, Int.reduceAdd, Int.reduceSub, Int.reduceMul, Int.reduceEq, Int.reduceNe, h, h1, h2, h3, h3', n1, n2, n3, n4, c0, hw, m1, m2, m3, m4, k1, k2]; try (revert h; intro _)))
    | (with_reducible refine Pick_split (fun h => ?_) (fun h => ?_) <;> (simp -implicitDefEqProofs -proj only [go_sem, Nat.reduceBEq, Nat.reduceLT, Nat.reduceLeDiff, Nat.reduceAdd, Nat.reduceMul, ↓reduceIte, Int.reduceToNat, Int.reducePow, Int.reduceLT, Int.reduceLE, Int.reduceAdd, Int.reduceSub, Int.reduceMul, Int.reduceEq, Int.reduceNe, h, h1, h2, h3, h3', n1, n2, n3, n4, c0, hw, m1, m2, m3, m4, k1, k2]; try (revert h; intro _)))
    | (with_reducible refine AllocA_intro (fun _ hb => ?_); simp -implicitDefEqProofs only [upd_none, keepH_none, keepH_nil, Heap.none_get, and_true, true_and] at hb; simp -implicitDefEqProofs -proj only [go_sem, Nat.reduceBEq, Nat.reduceLT, Nat.reduceLeDiff, Nat.reduceAdd, Nat.reduceMul, ↓reduceIte, Int.reduceToNat, Int.reducePow, Int.reduceLT, Int.reduceLE, Int.reduceAdd, Int.reduceSub, Int.reduceMul, Int.reduceEq, Int.reduceNe, h1, h2, h3, h3', n1, n2, n3, n4, c0, hw, m1, m2, m3, m4, k1, k2]; try (revert hb; intro _))
    | (with_reducible refine AllocR_intro (fun _ hb => ?_); simp -implicitDefEqProofs only [upd_none, keepH_none, keepH_nil, Heap.none_get, and_true, true_and] at hb; simp -implicitDefEqProofs -proj only [go_sem, Nat.reduceBEq, Nat.reduceLT, Nat.reduceLeDiff, Nat.reduceAdd, Nat.reduceMul, ↓reduceIte, Int.reduceToNat, Int.reducePow, Int.reduceLT, Int.reduceLE, Int.reduceAdd, Int.reduceSub, Int.reduceMul, Int.reduceEq, Int.reduceNe, h1, h2, h3, h3', n1, n2, n3, n4, c0, hw, m1, m2, m3, m4, k1, k2]; try (revert hb; intro _))
    | (with_reducible refine IdxE_1 _ rfl (by simp) ?_; simp -implicitDefEqProofs -proj only [go_sem, Nat.reduceBEq, Nat.reduceLT, Nat.reduceLeDiff, Nat.reduceAdd, Nat.reduceMul, ↓reduceIte, Int.reduceToNat, Int.reducePow, Int.reduceLT, Int.reduceLE, Int.reduceAdd, Int.reduceSub, Int.reduceMul, Int.reduceEq, Int.reduceNe, h1, h2, h3, h3', n1, n2, n3, n4, c0, hw, m1, m2, m3, m4, k1, k2])
    | (with_reducible refine IdxE_n _ rfl (by simp) ?_; simp -implicitDefEqProofs -proj only [go_sem, Nat.reduceBEq, Nat.reduceLT, Nat.reduceLeDiff, Nat.reduceAdd, Nat.reduceMul, ↓reduceIte, Int.reduceToNat, Int.reducePow, Int.reduceLT, Int.reduceLE, Int.reduceAdd, Int.reduceSub, Int.reduceMul, Int.reduceEq, Int.reduceNe, h1, h2, h3, h3', n1, n2, n3, n4, c0, hw, m1, m2, m3, m4, k1, k2])
    | (with_reducible refine VC_intro ?_ (fun h => ?_); (focus first | decide | omega); try clear h; try simp -implicitDefEqProofs -proj only [go_sem, Nat.reduceBEq, Nat.reduceLT, Nat.reduceLeDiff, Nat.reduceAdd, Nat.reduceMul, ↓reduceIte, Int.reduceToNat, Int.reducePow, Int.reduceLT, Int.reduceLE, Int.reduceAdd, Int.reduceSub, Int.reduceMul, Int.reduceEq, Int.reduceNe, h1, h2, h3, h3', n1, n2, n3, n4, c0, hw, m1, m2, m3, m4, k1, k2])
    | (with_reducible refine VC_intro ?_ (fun h => ?_); rotate_left; try clear h; try simp -implicitDefEqProofs -proj only [go_sem, Nat.reduceBEq, Nat.reduceLT, Nat.reduceLeDiff, Nat.reduceAdd, Nat.reduceMul, ↓reduceIte, Int.reduceToNat, Int.reducePow, Int.reduceLT, Int.reduceLE, Int.reduceAdd, Int.reduceSub, Int.reduceMul, Int.reduceEq, Int.reduceNe, h1, h2, h3, h3', n1, n2, n3, n4, c0, hw, m1, m2, m3, m4, k1, k2]; rotate_right))
      refine ⟨c', .inr ⟨by rw [hp]; simp, k1, cap', ?_, ?_⟩, fun k x hk1 hk2 hk => ?_⟩
      · simp -implicitDefEqProofs -proj only [go_sem, Nat.reduceBEq, Nat.reduceLT, Nat.reduceLeDiff, Nat.reduceAdd, Nat.reduceMul, ↓reduceIte, Int.reduceToNat, Int.reducePow, Int.reduceLT, Int.reduceLE, Int.reduceAdd, Int.reduceSub, Int.reduceMul, Int.reduceEq, Int.reduceNe, hp, List.length_append]
      · simp -implicitDefEqProofs -proj only [go_sem, Nat.reduceBEq, Nat.reduceLT, Nat.reduceLeDiff, Nat.reduceAdd, Nat.reduceMul, ↓reduceIte, Int.reduceToNat, Int.reducePow, Int.reduceLT, Int.reduceLE, Int.reduceAdd, Int.reduceSub, Int.reduceMul, Int.reduceEq, Int.reduceNe, k2, hp]
      · obtain ⟨p1, p2⟩ := fresh_ne hb hk
        obtain ⟨q1, q2⟩ := fresh_ne hs (by rw [upd_ne p1]; exact hk)
        have hk3 : ¬ c = k := fun e => hk2 h0 e.symm
        have hk4 : ¬ b = k := fun e => hk1 e.symm
        obtain ⟨r1, r2⟩ := fresh_ne hc' (by rw [upd_ne hk3, upd_ne q1, upd_ne p1]; exact hk)
        refine ⟨?_, r2⟩
        simp -implicitDefEqProofs -proj only [go_sem, Nat.reduceBEq, Nat.reduceLT, Nat.reduceLeDiff, Nat.reduceAdd, Nat.reduceMul, ↓reduceIte, Int.reduceToNat, Int.reducePow, Int.reduceLT, Int.reduceLE, Int.reduceAdd, Int.reduceSub, Int.reduceMul, Int.reduceEq, Int.reduceNe, p1, q1, r1, hk3, hk4, hk]
/-- What a round of a loop tells of a line's cells. -/
def LH (b c cap : Nat) (l : List Run) : List (Nat × Blk) := if l = [] then [(b, .box 38 [.nilsl 3])] else [(b, .box 38 [.own c 3 0 l.length cap]), (c, .row 53 3 cap (rowR l))]
theorem AllH_append {H : Heap} {xs ys : List (Nat × Blk)} : AllH H (xs ++ ys) ↔ AllH H xs ∧ AllH H ys := by
  induction xs with
  | nil => simp [AllH]
  | cons p xs ih => obtain ⟨b, x⟩ := p; simp -implicitDefEqProofs only [List.cons_append, AllH, ih, and_assoc]
theorem lineAt_LH {b c cap : Nat} {l : List Run} {rest : List (Nat × Blk)} (hc : l ≠ [] → c ≠ b) : LineAt (keepH (LH b c cap l ++ rest)) b c l := by
  unfold LH
  by_cases h : l = []
  · rw [if_pos h]
    exact .inl ⟨h, by rw [List.cons_append, keepH_cons, if_pos rfl]⟩
  · rw [if_neg h]
    refine .inr ⟨h, hc h, cap, ?_, ?_⟩
    · rw [List.cons_append, keepH_cons, if_pos rfl]
    · rw [List.cons_append, keepH_cons, if_neg (hc h), List.cons_append, keepH_cons, if_pos rfl]
theorem rest_LH {b c cap k : Nat} {l : List Run} {rest : List (Nat × Blk)} (hb : k ≠ b) (hc : l ≠ [] → k ≠ c) : keepH (LH b c cap l ++ rest) k = keepH rest k := by
  unfold LH
  by_cases h : l = []
  · rw [if_pos h, List.cons_append, keepH_cons, if_neg hb, List.nil_append]
  · rw [if_neg h, List.cons_append, keepH_cons, if_neg hb, List.cons_append, keepH_cons, if_neg (hc h), List.nil_append]
theorem allH_LH {H : Heap} {b c : Nat} {l : List Run} (h : LineAt H b c l) : ∃ cap, AllH H (LH b c cap l) ∧ (l ≠ [] → c ≠ b) := by
  rcases h with ⟨rfl, h1⟩ | ⟨h0, h3, cap, h1, h2⟩
  · exact ⟨0, ⟨h1, trivial⟩, fun h => absurd rfl h⟩
  · refine ⟨cap, ?_, fun _ => h3⟩
    unfold LH
    rw [if_neg h0]
    exact ⟨h1, h2, trivial⟩
/-- A line, as data. -/
abbrev lineV (l : List Run) : AV := .agg [.d (.sl 3 (rowR l))]
/-- A line's cell is read: what is there, and that it is the line. -/
theorem rowR_scal {l : List Run} : ∀ el ∈ rowR l, ∀ d ∈ el, scalD d = true := by
  intro el he d hd
  obtain ⟨r, _, rfl⟩ := List.mem_map.1 he
  simp -implicitDefEqProofs only [Run.el, List.mem_cons, List.not_mem_nil, or_false] at hd
  rcases hd with rfl | rfl | rfl <;> rfl
theorem new_own {H : Heap} {b sz cap cap' len : Nat} {e : TypeId} {xs : List (List D)} (h : H b = some (.row e sz cap' xs)) (hl : len = xs.length) (hs : ∀ el ∈ xs, ∀ d ∈ el, scalD d = true) : NewV H (.own b sz 0 len cap) (.d (.sl sz xs)) := by
  subst hl; exact .own b sz cap e cap' xs h hs
theorem LineAt.read {H : Heap} {b c : Nat} {l : List Run} (h : LineAt H b c l) : ∃ v, H b = some (.box 38 [v]) ∧ NewV H v (.d (.sl 3 (rowR l))) ∧ lenV v = some (i64 l.length) := by
  rcases h with ⟨rfl, h1⟩ | ⟨h0, h3, cap, h1, h2⟩
  · exact ⟨_, h1, .nilsl _ _, rfl⟩
  · exact ⟨_, h1, new_own h2 rowR_len.symm rowR_scal, rfl⟩
theorem LineAt.upd {H : Heap} {b c k : Nat} {l : List Run} {x : Option Blk} (h : LineAt H b c l) (hb : ¬ k = b) (hc : l ≠ [] → ¬ k = c) : LineAt (upd H k x) b c l := by
  rcases h with ⟨h0, h1⟩ | ⟨h0, h3, cap, h1, h2⟩
  · exact .inl ⟨h0, by rw [upd_ne hb]; exact h1⟩
  · exact .inr ⟨h0, h3, cap, by rw [upd_ne hb]; exact h1, by rw [upd_ne (hc h0)]; exact h2⟩
/-- The runs of a list's first so many values. -/
def runsN (from' : Int) (l : List Int) : Nat → List Run
  | 0 => []
  | i + 1 => putR (runsN from' l i) ⟨from' + i, from' + i, l.getD i 0⟩
abbrev runs (from' : Int) (l : List Int) : List Run := runsN from' l l.length
theorem putR_ne {l : List Run} {r : Run} : putR l r ≠ [] := by
  unfold putR
  split
  · split <;> simp
  · simp
theorem putR_len {l : List Run} {r : Run} : (putR l r).length ≤ l.length + 1 := by
  unfold putR
  split
  · split
    · simp -implicitDefEqProofs only [List.length_append, List.length_dropLast, List.length_singleton]; omega
    · simp
  · simp
theorem runsN_len {from' : Int} {l : List Int} : ∀ i : Nat, (runsN from' l i).length ≤ i
  | 0 => Nat.le_refl _
  | i + 1 => by
    have := @putR_len (runsN from' l i) ⟨from' + i, from' + i, l.getD i 0⟩
    have := runsN_len (from' := from') (l := l) i
    rw [runsN]; omega
theorem lend_agg1 {H : Heap} {x y : AV} (h : NewV H x y) : NewV H (.agg [x]) (.agg [y]) := by
  refine .agg _ _ rfl fun j u v h1 h2 => ?_
  cases j with
  | zero => cases h1; cases h2; exact h
  | succ j => cases h1
structure LoopX where
  i : Nat
  c : Nat
  cap : Nat
  l : List Run
theorem Of_new {from' : Int} {l : List Int} (hf : -1099511627776 ≤ from' ∧ from' ≤ 1099511627776) (hn : l.length ≤ 999999) : NewW Try.prog f_line_Of_int [i64 from', slI l] (lineV (runs from' l)) := by
  refine CallW_intro comp_line_Of_int (by simp) ?_
  simp -implicitDefEqProofs -proj only [go_sem, Nat.reduceBEq, Nat.reduceLT, Nat.reduceLeDiff, Nat.reduceAdd, Nat.reduceMul, ↓reduceIte, Int.reduceToNat, Int.reducePow, Int.reduceLT, Int.reduceLE, Int.reduceAdd, Int.reduceSub, Int.reduceMul, Int.reduceEq, Int.reduceNe, rowI_len]
  refine AllocA_intro (fun b4 hb => ?_)
  simp -implicitDefEqProofs -proj only [go_sem, Nat.reduceBEq, Nat.reduceLT, Nat.reduceLeDiff, Nat.reduceAdd, Nat.reduceMul, ↓reduceIte, Int.reduceToNat, Int.reducePow, Int.reduceLT, Int.reduceLE, Int.reduceAdd, Int.reduceSub, Int.reduceMul, Int.reduceEq, Int.reduceNe, rowI_len]
  refine AllocA_intro (fun b5 hb5 => ?_)
  replace hb5 : upd Heap.none b4 _ b5 = none := hb5
  obtain ⟨n1, n2⟩ := fresh_ne hb5 upd_eq
  simp -implicitDefEqProofs -proj only [go_sem, Nat.reduceBEq, Nat.reduceLT, Nat.reduceLeDiff, Nat.reduceAdd, Nat.reduceMul, ↓reduceIte, Int.reduceToNat, Int.reducePow, Int.reduceLT, Int.reduceLE, Int.reduceAdd, Int.reduceSub, Int.reduceMul, Int.reduceEq, Int.reduceNe, rowI_len, n1, n2]
  refine LoopA_k (fun x : LoopX => x.i ≤ l.length ∧ x.l = runsN from' l x.i ∧ (x.l ≠ [] → x.c ≠ b5 ∧ x.c ≠ b4)) 26 (fun x => [(8, slI l), (9, i64 l.length), (10, i64 x.i), (5, .ptr b5 0), (4, .ptr b4 0), (0, i64 from')]) (fun x => LH b5 x.c x.cap x.l ++ [(b4, .box 38 [.nilsl 3])]) (fun x => l.length - x.i) ⟨0, 0, 0, []⟩ ⟨Nat.zero_le _, rfl, fun h => absurd rfl h⟩ rfl ?_ ?_ ?_
  · simp -implicitDefEqProofs -proj only [go_sem, Nat.reduceBEq, Nat.reduceLT, Nat.reduceLeDiff, Nat.reduceAdd, Nat.reduceMul, ↓reduceIte, Int.reduceToNat, Int.reducePow, Int.reduceLT, Int.reduceLE, Int.reduceAdd, Int.reduceSub, Int.reduceMul, Int.reduceEq, Int.reduceNe, AllAt]
  · simp -implicitDefEqProofs -proj only [go_sem, Nat.reduceBEq, Nat.reduceLT, Nat.reduceLeDiff, Nat.reduceAdd, Nat.reduceMul, ↓reduceIte, Int.reduceToNat, Int.reducePow, Int.reduceLT, Int.reduceLE, Int.reduceAdd, Int.reduceSub, Int.reduceMul, Int.reduceEq, Int.reduceNe, AllH, AllH_append, LH, n1, n2]
  · rintro ⟨i, c, cap, R⟩ ⟨hi, hR, hc⟩
    simp -implicitDefEqProofs only [] at hi hR hc
    have hat := lineAt_LH (b := b5) (c := c) (cap := cap) (l := R) (rest := [(b4, .box 38 [.nilsl 3])]) (fun h => (hc h).1)
    have h4 : keepH (LH b5 c cap R ++ [(b4, .box 38 [.nilsl 3])]) b4 = some (.box 38 [.nilsl 3]) := by
      rw [rest_LH n2 (fun h e => (hc h).2 e.symm), keepH_cons, if_pos rfl]
    generalize hH : keepH (LH b5 c cap R ++ [(b4, .box 38 [.nilsl 3])]) = H at *
    by_cases h : i < l.length
    · have hel := rowI_nth h
      have hx : l.getD i 0 = l[i] := by simp [h]
      generalize l[i] = x at *
      have hw : IntKind.i64.wrap (from' + i) = from' + i := by rw [IntKind.wrap_i64]; omega
      simp -implicitDefEqProofs -proj only [go_sem, Nat.reduceBEq, Nat.reduceLT, Nat.reduceLeDiff, Nat.reduceAdd, Nat.reduceMul, ↓reduceIte, Int.reduceToNat, Int.reducePow, Int.reduceLT, Int.reduceLE, Int.reduceAdd, Int.reduceSub, Int.reduceMul, Int.reduceEq, Int.reduceNe, decide_eq_true (show (i : Int) < l.length by omega)]
      refine ElemA_at _ (by omega) hel ?_
      simp -implicitDefEqProofs -proj only [go_sem, Nat.reduceBEq, Nat.reduceLT, Nat.reduceLeDiff, Nat.reduceAdd, Nat.reduceMul, ↓reduceIte, Int.reduceToNat, Int.reducePow, Int.reduceLT, Int.reduceLE, Int.reduceAdd, Int.reduceSub, Int.reduceMul, Int.reduceEq, Int.reduceNe, hel, hw]
      have hput := put_ok (r := ⟨from' + i, from' + i, x⟩) hat (by have := runsN_len (from' := from') (l := l) i; rw [← hR] at this; omega)
      refine CallA_w hput (fun r H' hk => ?_)
      obtain ⟨c', hat', hfr⟩ := hk
      obtain ⟨g1, g2⟩ := hfr b4 _ n2 (fun h e => (hc h).2 e.symm) h4
      obtain ⟨cap', ha, hc'⟩ := allH_LH hat'
      have hR' : putR R ⟨from' + i, from' + i, x⟩ = runsN from' l (i + 1) := by rw [runsN, hx, hR]
      simp -implicitDefEqProofs -proj only [go_sem, Nat.reduceBEq, Nat.reduceLT, Nat.reduceLeDiff, Nat.reduceAdd, Nat.reduceMul, ↓reduceIte, Int.reduceToNat, Int.reducePow, Int.reduceLT, Int.reduceLE, Int.reduceAdd, Int.reduceSub, Int.reduceMul, Int.reduceEq, Int.reduceNe]
      refine LoopQ_k ⟨i + 1, c', cap', putR R ⟨from' + i, from' + i, x⟩⟩ ⟨by show i + 1 ≤ l.length; omega, hR', fun h => ⟨hc' h, fun e => g2 e.symm⟩⟩ (by show l.length - (i + 1) < l.length - i; omega) rfl ?_ ?_
      · simp -implicitDefEqProofs -proj only [go_sem, Nat.reduceBEq, Nat.reduceLT, Nat.reduceLeDiff, Nat.reduceAdd, Nat.reduceMul, ↓reduceIte, Int.reduceToNat, Int.reducePow, Int.reduceLT, Int.reduceLE, Int.reduceAdd, Int.reduceSub, Int.reduceMul, Int.reduceEq, Int.reduceNe, AllAt, i64_succ (show i < 9223372036854775807 by omega)]
      · rw [AllH_append]
        exact ⟨ha, g1, trivial⟩
    · have hi' : i = l.length := by omega
      subst hi'
      obtain ⟨v, hv, hl, _⟩ := hat.read
      simp -implicitDefEqProofs -proj only [go_sem, Nat.reduceBEq, Nat.reduceLT, Nat.reduceLeDiff, Nat.reduceAdd, Nat.reduceMul, ↓reduceIte, Int.reduceToNat, Int.reducePow, Int.reduceLT, Int.reduceLE, Int.reduceAdd, Int.reduceSub, Int.reduceMul, Int.reduceEq, Int.reduceNe, decide_eq_false (show ¬ (l.length : Int) < l.length by omega), hv, h4]
      obtain ⟨v2, hv2, hl2, _⟩ := (hat.upd (k := b4) (x := some (.box 38 [v])) n2 (fun h e => (hc h).2 e.symm)).read
      rw [upd_ne n2, hv] at hv2
      cases hv2
      rw [show runs from' l = R from hR.symm]
      exact lend_agg1 hl2
abbrev slR (l : List Run) : AV := .d (.sl 3 (rowR l))
theorem rowR_at {l : List Run} {i : Nat} (h : i < l.length) : (rowR l)[((i : Int)).toNat]? = some [.int .i64 l[i].f, .int .i64 l[i].t, .int .i64 l[i].v] := by
  rw [Int.toNat_natCast]; exact rowR_nth h
/-- Where the first run stands that ends at a number, or behind it. -/
def idxR (l : List Run) (x : Int) : Nat := (l.takeWhile fun r => decide (r.t < x)).length
/-- The value at a number. -/
def atF (l : List Run) (x : Int) : Option Int := match l[idxR l x]? with
  | some r => if r.f ≤ x then some r.v else none
  | none => none
abbrev runArgs (l : List Run) : List (List AV) := l.map fun r => [r.av]
theorem rowR_idx {l : List Run} {i : Nat} (h : i < l.length) : (rowR l)[((i : Int)).toNat]? = some [.int .i64 l[i].f, .int .i64 l[i].t, .int .i64 l[i].v] := rowR_at h
theorem Values1_iter {b : Nat} {l : List Run} (hl : l.length ≤ 1000000) : IterW Try.prog f_slices_Values_line_Run_int_1 [.ptr b 0] [(b, .box 36 [slR l])] (runArgs l) := by
  intro y H J X hA hS hY h0
  refine CallW_intro comp_slices_Values_line_Run_int_1 (by simp) ?_
  have hb : H b = some (.box 36 [slR l]) := (hA [] H h0).1
  simp -implicitDefEqProofs -proj only [go_sem, Nat.reduceBEq, Nat.reduceLT, Nat.reduceLeDiff, Nat.reduceAdd, Nat.reduceMul, ↓reduceIte, Int.reduceToNat, Int.reducePow, Int.reduceLT, Int.reduceLE, Int.reduceAdd, Int.reduceSub, Int.reduceMul, Int.reduceEq, Int.reduceNe, hb, rowR_len]
  refine LoopA_rule (fun x : Nat × Heap => x.1 ≤ l.length ∧ J (runArgs (l.take x.1)) x.2) (fun x => ⟨16, keepT [(0, .yld y), (5, slR l), (6, i64 l.length), (7, i64 x.1)], x.2⟩) (fun x => l.length - x.1) (0, H) ⟨Nat.zero_le _, h0⟩ (Abst_keep rfl ?_ (fun k => .inr rfl)) ?_
  · simp -implicitDefEqProofs -proj only [go_sem, Nat.reduceBEq, Nat.reduceLT, Nat.reduceLeDiff, Nat.reduceAdd, Nat.reduceMul, ↓reduceIte, Int.reduceToNat, Int.reducePow, Int.reduceLT, Int.reduceLE, Int.reduceAdd, Int.reduceSub, Int.reduceMul, Int.reduceEq, Int.reduceNe, AllAt]
  rintro ⟨i, H1⟩ ⟨hi, hj⟩
  simp -implicitDefEqProofs only [] at hi hj
  by_cases h : i < l.length
  · have hel := rowR_idx h
    have hxs : runArgs l = runArgs (l.take i) ++ [(l[i]).av] :: runArgs (l.drop (i + 1)) := by
      rw [← List.map_cons (f := fun r : Run => [r.av]), ← List.map_append, ← List.drop_eq_getElem_cons h, List.take_append_drop]
    have htk : runArgs (l.take i) ++ [[(l[i]).av]] = runArgs (l.take (i + 1)) := by simp -implicitDefEqProofs only [runArgs]; rw [List.take_succ_eq_append_getElem h, List.map_append]; rfl
    generalize l[i] = r at *
    simp -implicitDefEqProofs -proj only [go_sem, Nat.reduceBEq, Nat.reduceLT, Nat.reduceLeDiff, Nat.reduceAdd, Nat.reduceMul, ↓reduceIte, Int.reduceToNat, Int.reducePow, Int.reduceLT, Int.reduceLE, Int.reduceAdd, Int.reduceSub, Int.reduceMul, Int.reduceEq, Int.reduceNe, decide_eq_true (show (i : Int) < l.length by omega)]
    refine ElemA_at _ (by omega) hel ?_
    simp -implicitDefEqProofs -proj only [go_sem, Nat.reduceBEq, Nat.reduceLT, Nat.reduceLeDiff, Nat.reduceAdd, Nat.reduceMul, ↓reduceIte, Int.reduceToNat, Int.reducePow, Int.reduceLT, Int.reduceLE, Int.reduceAdd, Int.reduceSub, Int.reduceMul, Int.reduceEq, Int.reduceNe]
    refine AllocA_intro (fun b4 hb4 => ?_)
    simp -implicitDefEqProofs -proj only [go_sem, Nat.reduceBEq, Nat.reduceLT, Nat.reduceLeDiff, Nat.reduceAdd, Nat.reduceMul, ↓reduceIte, Int.reduceToNat, Int.reducePow, Int.reduceLT, Int.reduceLE, Int.reduceAdd, Int.reduceSub, Int.reduceMul, Int.reduceEq, Int.reduceNe]
    refine YldA_w (hY _ _ _ _ hxs (hS _ _ b4 _ hj hb4)) ?_
    rintro v H2 (⟨rfl, hj2⟩ | ⟨rfl, hx⟩)
    · rw [htk] at hj2
      simp -implicitDefEqProofs -proj only [go_sem, Nat.reduceBEq, Nat.reduceLT, Nat.reduceLeDiff, Nat.reduceAdd, Nat.reduceMul, ↓reduceIte, Int.reduceToNat, Int.reducePow, Int.reduceLT, Int.reduceLE, Int.reduceAdd, Int.reduceSub, Int.reduceMul, Int.reduceEq, Int.reduceNe]
      refine LoopQ_next (i + 1, H2) ⟨by show i + 1 ≤ l.length; omega, hj2⟩ (by show l.length - (i + 1) < l.length - i; omega) (Abst_keep rfl ?_ (fun k => .inr rfl))
      simp -implicitDefEqProofs -proj only [go_sem, Nat.reduceBEq, Nat.reduceLT, Nat.reduceLeDiff, Nat.reduceAdd, Nat.reduceMul, ↓reduceIte, Int.reduceToNat, Int.reducePow, Int.reduceLT, Int.reduceLE, Int.reduceAdd, Int.reduceSub, Int.reduceMul, Int.reduceEq, Int.reduceNe, AllAt, i64_succ (show i < 9223372036854775807 by omega)]
    · simp -implicitDefEqProofs -proj only [go_sem, Nat.reduceBEq, Nat.reduceLT, Nat.reduceLeDiff, Nat.reduceAdd, Nat.reduceMul, ↓reduceIte, Int.reduceToNat, Int.reducePow, Int.reduceLT, Int.reduceLE, Int.reduceAdd, Int.reduceSub, Int.reduceMul, Int.reduceEq, Int.reduceNe]
      exact .inr hx
  · have hi' : i = l.length := by omega
    subst hi'
    rw [List.take_length] at hj
    simp -implicitDefEqProofs -proj only [go_sem, Nat.reduceBEq, Nat.reduceLT, Nat.reduceLeDiff, Nat.reduceAdd, Nat.reduceMul, ↓reduceIte, Int.reduceToNat, Int.reducePow, Int.reduceLT, Int.reduceLE, Int.reduceAdd, Int.reduceSub, Int.reduceMul, Int.reduceEq, Int.reduceNe, decide_eq_false (show ¬ (l.length : Int) < l.length by omega)]
    exact .inl hj
/-- Runs: an iterator, its slice in a block of its own. -/
theorem Values_ok {H : Heap} {l : List Run} : CallW Try.prog f_slices_Values_line_Run_int_ [slR l] H fun r H' => ∃ b, r = .fn f_slices_Values_line_Run_int_1 [.ptr b 0] ∧ H b = none ∧ H' = upd H b (some (.box 36 [slR l])) := by
  refine CallW_intro comp_slices_Values_line_Run_int_ (by simp) ?_
  simp -implicitDefEqProofs -proj only [go_sem, Nat.reduceBEq, Nat.reduceLT, Nat.reduceLeDiff, Nat.reduceAdd, Nat.reduceMul, ↓reduceIte, Int.reduceToNat, Int.reducePow, Int.reduceLT, Int.reduceLE, Int.reduceAdd, Int.reduceSub, Int.reduceMul, Int.reduceEq, Int.reduceNe]
  refine AllocA_intro (fun b hb => ?_)
  simp -implicitDefEqProofs -proj only [go_sem, Nat.reduceBEq, Nat.reduceLT, Nat.reduceLeDiff, Nat.reduceAdd, Nat.reduceMul, ↓reduceIte, Int.reduceToNat, Int.reducePow, Int.reduceLT, Int.reduceLE, Int.reduceAdd, Int.reduceSub, Int.reduceMul, Int.reduceEq, Int.reduceNe]
  exact ⟨b, rfl, hb, rfl⟩
theorem Runs_ok {H : Heap} {l : List Run} : CallW Try.prog f_line_Line_int_Runs [lineV l] H fun r H' => ∃ b, r = .fn f_slices_Values_line_Run_int_1 [.ptr b 0] ∧ H b = none ∧ H' b = some (.box 36 [slR l]) ∧ ∀ k x, H k = some x → H' k = some x := by
  refine CallW_intro comp_line_Line_int_Runs (by simp) ?_
  simp -implicitDefEqProofs -proj only [go_sem, Nat.reduceBEq, Nat.reduceLT, Nat.reduceLeDiff, Nat.reduceAdd, Nat.reduceMul, ↓reduceIte, Int.reduceToNat, Int.reducePow, Int.reduceLT, Int.reduceLE, Int.reduceAdd, Int.reduceSub, Int.reduceMul, Int.reduceEq, Int.reduceNe]
  refine AllocA_intro (fun b1 hb1 => ?_)
  simp -implicitDefEqProofs -proj only [go_sem, Nat.reduceBEq, Nat.reduceLT, Nat.reduceLeDiff, Nat.reduceAdd, Nat.reduceMul, ↓reduceIte, Int.reduceToNat, Int.reducePow, Int.reduceLT, Int.reduceLE, Int.reduceAdd, Int.reduceSub, Int.reduceMul, Int.reduceEq, Int.reduceNe]
  refine CallA_w Values_ok ?_
  rintro r H' ⟨b, rfl, hb, rfl⟩
  simp -implicitDefEqProofs -proj only [go_sem, Nat.reduceBEq, Nat.reduceLT, Nat.reduceLeDiff, Nat.reduceAdd, Nat.reduceMul, ↓reduceIte, Int.reduceToNat, Int.reducePow, Int.reduceLT, Int.reduceLE, Int.reduceAdd, Int.reduceSub, Int.reduceMul, Int.reduceEq, Int.reduceNe]
  have hb' : upd H b1 (some (.box 38 [slR l])) b = none := hb
  have hne : ¬ b1 = b := fun e => by rw [upd_get, if_pos e] at hb'; cases hb'
  refine ⟨b, rfl, by rw [upd_ne hne] at hb'; exact hb', by rw [if_pos rfl], fun k x hk => ?_⟩
  rw [upd_ne hne] at hb'
  obtain ⟨n1, n2⟩ := fresh_ne hb1 hk
  obtain ⟨n3, n4⟩ := fresh_ne hb' hk
  simp -implicitDefEqProofs -proj only [go_sem, Nat.reduceBEq, Nat.reduceLT, Nat.reduceLeDiff, Nat.reduceAdd, Nat.reduceMul, ↓reduceIte, Int.reduceToNat, Int.reducePow, Int.reduceLT, Int.reduceLE, Int.reduceAdd, Int.reduceSub, Int.reduceMul, Int.reduceEq, Int.reduceNe, n1, n3, hk]
theorem LineAt.fresh {H : Heap} {b c k : Nat} {l : List Run} (h : LineAt H b c l) (hk : H k = none) : ¬ k = b ∧ (l ≠ [] → ¬ k = c) := by
  rcases h with ⟨h0, h1⟩ | ⟨h0, h3, cap, h1, h2⟩
  · exact ⟨(fresh_ne hk h1).1, fun h => absurd h0 h⟩
  · exact ⟨(fresh_ne hk h1).1, fun _ => (fresh_ne hk h2).1⟩
/-- What comes of two lines, where they stand at two runs. -/
def zipG (g : Int → Int → Int) (a b : List Run) : Nat → Nat → Nat → List Run → List Run
  | 0, _, _, R => R
  | n + 1, i, k, R => match a[i]?, b[k]? with
    | some x, some y =>
      zipG g a b n (if x.t ≤ y.t then i + 1 else i) (if y.t ≤ x.t then k + 1 else k) (if max x.f y.f ≤ min x.t y.t then putR R ⟨max x.f y.f, min x.t y.t, g x.v y.v⟩ else R)
    | _, _ => R
theorem zipG_stable {g : Int → Int → Int} {a b : List Run} : ∀ (n i k : Nat) (R : List Run), a.length + b.length ≤ n + i + k → zipG g a b (n + 1) i k R = zipG g a b n i k R
  | 0, i, k, R, h => by
    rw [zipG, zipG]
    by_cases h1 : i < a.length
    · have h2 : ¬ k < b.length := by omega
      rw [List.getElem?_eq_none (l := b) (by omega)]
      split <;> first | rfl | simp_all
    · rw [List.getElem?_eq_none (l := a) (by omega)]
  | n + 1, i, k, R, h => by
    rw [zipG, zipG]
    split
    · next x y _ _ =>
      refine zipG_stable n _ _ _ ?_
      split <;> split <;> omega
    · rfl
/-- Runs that lie one behind the other, hold these values, and differ from neighbour to neighbour. -/
def FwdOK (val : Int → Int) (lo hi : Int) : List Run → Prop
  | [] => lo = hi
  | r :: R => r.f = lo ∧ r.f ≤ r.t ∧ (∀ x, r.f ≤ x → x ≤ r.t → val x = r.v) ∧ (∀ s, R.head? = some s → r.v ≠ s.v) ∧ FwdOK val (r.t + 1) hi R
theorem FwdOK.le {val : Int → Int} : ∀ {R : List Run} {lo hi : Int}, FwdOK val lo hi R → lo ≤ hi
  | [], lo, hi, h => by have : lo = hi := h; omega
  | r :: R, lo, hi, h => by
    obtain ⟨h1, h2, _, _, h5⟩ := h
    have := FwdOK.le h5
    omega
theorem putR_cons {r x : Run} {R : List Run} (h : R ≠ []) : putR (r :: R) x = r :: putR R x := by
  obtain ⟨q, hq⟩ : ∃ q, R.getLast? = some q := by
    cases hh : R.getLast? with
    | none => exact absurd (List.getLast?_eq_none_iff.1 hh) h
    | some q => exact ⟨q, rfl⟩
  have h2 : (r :: R).getLast? = some q := by
    rw [List.getLast?_cons, hq]; rfl
  unfold putR
  rw [hq, h2]
  simp -implicitDefEqProofs only []
  split
  · rw [List.dropLast_cons_of_ne_nil h]; rfl
  · rfl
theorem putR_head {x s : Run} {R : List Run} {q : Run} (h : (putR (s :: R) x).head? = some q) : q.v = s.v := by
  cases R with
  | nil =>
    unfold putR at h
    simp -implicitDefEqProofs only [List.getLast?_singleton] at h
    split at h
    · simp at h; subst h; rfl
    · simp at h; subst h; rfl
  | cons t R =>
    rw [putR_cons (by simp)] at h
    simp at h; subst h; rfl
theorem FwdOK.put {val : Int → Int} {hi : Int} : ∀ {R : List Run} {lo : Int}, FwdOK val lo hi R → FwdOK val lo (hi + 1) (putR R ⟨hi, hi, val hi⟩)
  | [], lo, h => by
    have : lo = hi := h
    subst this
    exact ⟨rfl, Int.le_refl _, fun x h1 h2 => by rw [show x = lo from Int.le_antisymm h2 h1], fun s h => (by cases h), rfl⟩
  | [r], lo, h => by
    obtain ⟨h1, h2, h3, h4, h5⟩ := h
    have h5 : r.t + 1 = hi := h5
    unfold putR
    simp -implicitDefEqProofs only [List.getLast?_singleton]
    split
    · next hv =>
      refine ⟨h1, by show r.f ≤ hi; omega, fun x x1 x2 => ?_, fun s h => (by cases h), rfl⟩
      by_cases hx : x = hi
      · subst hx; exact hv.symm
      · exact h3 x x1 (by have : x ≤ hi := x2; omega)
    · next hv =>
      refine ⟨h1, h2, h3, fun s h => ?_, ⟨h5.symm, Int.le_refl _, fun x x1 x2 => by rw [show x = hi from Int.le_antisymm x2 x1], fun s h => (by cases h), rfl⟩⟩
      cases h; exact hv
  | r :: s :: R, lo, h => by
    obtain ⟨h1, h2, h3, h4, h5⟩ := h
    rw [putR_cons (by simp)]
    refine ⟨h1, h2, h3, fun q hq => ?_, FwdOK.put h5⟩
    rw [putR_head hq]
    exact h4 s rfl
theorem runsN_ok (from' : Int) (l : List Int) : ∀ i : Nat, FwdOK (fun x => l.getD (x - from').toNat 0) from' (from' + i) (runsN from' l i)
  | 0 => by show from' = from' + ((0 : Nat) : Int); omega
  | i + 1 => by
    have h := (runsN_ok from' l i).put
    have e : l.getD (from' + (i : Int) - from').toNat 0 = l.getD i 0 := by rw [show (from' + (i : Int) - from').toNat = i by omega]
    try simp -implicitDefEqProofs only [] at h
    rw [e] at h
    rw [runsN, show from' + ((i + 1 : Nat) : Int) = from' + i + 1 by omega]
    exact h
theorem atF_cons {r : Run} {R : List Run} {x : Int} : atF (r :: R) x = if r.t < x then atF R x else if r.f ≤ x then some r.v else none := by
  unfold atF idxR
  by_cases h : r.t < x
  · rw [if_pos h, List.takeWhile_cons_of_pos (by simpa using h), List.length_cons, List.getElem?_cons_succ]
  · rw [if_neg h, List.takeWhile_cons_of_neg (by simpa using h)]
    rfl
/-- Neighbours differ. -/
def Adj2 : List Run → Prop
  | [] => True
  | r :: R => (∀ s, R.head? = some s → r.v ≠ s.v) ∧ Adj2 R
theorem Adj2.last {S R : List Run} {x q : Run} (h : Adj2 (S ++ x :: R)) (hq : S.getLast? = some q) : q.v ≠ x.v := by
  induction S with
  | nil => cases hq
  | cons s S ih =>
    cases S with
    | nil =>
      simp at hq; subst hq
      exact h.1 x rfl
    | cons t S =>
      rw [List.getLast?_cons_cons] at hq
      exact ih h.2 hq
def spanV : List Run → AV
  | [] => .tup [i64 0, i64 0, bv false]
  | r :: R => .tup [i64 r.f, i64 ((r :: R).getLast (by simp)).t, bv true]
theorem Span_ok {R : List Run} (hl : R.length ≤ 1000000) : DataW Try.prog f_line_Line_int_Span [lineV R] (spanV R) := by
  refine CallW_intro comp_line_Line_int_Span (by simp) ?_
  simp -implicitDefEqProofs -proj only [go_sem, Nat.reduceBEq, Nat.reduceLT, Nat.reduceLeDiff, Nat.reduceAdd, Nat.reduceMul, ↓reduceIte, Int.reduceToNat, Int.reducePow, Int.reduceLT, Int.reduceLE, Int.reduceAdd, Int.reduceSub, Int.reduceMul, Int.reduceEq, Int.reduceNe]
  refine AllocA_intro (fun b hb => ?_)
  by_cases h : R = []
  · subst h
    simp -implicitDefEqProofs -proj only [go_sem, Nat.reduceBEq, Nat.reduceLT, Nat.reduceLeDiff, Nat.reduceAdd, Nat.reduceMul, ↓reduceIte, Int.reduceToNat, Int.reducePow, Int.reduceLT, Int.reduceLE, Int.reduceAdd, Int.reduceSub, Int.reduceMul, Int.reduceEq, Int.reduceNe, rowR_len]
    exact LendV_eq rfl
  · have hlen : 0 < R.length := List.length_pos_iff.2 h
    have hw : IntKind.i64.wrap ((R.length : Int) - 1) = ((R.length - 1 : Nat) : Int) := by rw [IntKind.wrap_i64]; omega
    have e0 := rowR_idx (l := R) (i := 0) hlen
    have e1 := rowR_idx (l := R) (i := R.length - 1) (by omega)
    simp -implicitDefEqProofs -proj only [go_sem, Nat.reduceBEq, Nat.reduceLT, Nat.reduceLeDiff, Nat.reduceAdd, Nat.reduceMul, ↓reduceIte, Int.reduceToNat, Int.reducePow, Int.reduceLT, Int.reduceLE, Int.reduceAdd, Int.reduceSub, Int.reduceMul, Int.reduceEq, Int.reduceNe, rowR_len, decide_eq_false (show ¬ (R.length : Int) = 0 by omega), hw]
    refine ElemA_at _ (by omega) e0 ?_
    simp -implicitDefEqProofs -proj only [go_sem, Nat.reduceBEq, Nat.reduceLT, Nat.reduceLeDiff, Nat.reduceAdd, Nat.reduceMul, ↓reduceIte, Int.reduceToNat, Int.reducePow, Int.reduceLT, Int.reduceLE, Int.reduceAdd, Int.reduceSub, Int.reduceMul, Int.reduceEq, Int.reduceNe, rowR_len, hw]
    refine ElemA_at _ (by omega) e1 ?_
    simp -implicitDefEqProofs -proj only [go_sem, Nat.reduceBEq, Nat.reduceLT, Nat.reduceLeDiff, Nat.reduceAdd, Nat.reduceMul, ↓reduceIte, Int.reduceToNat, Int.reducePow, Int.reduceLT, Int.reduceLE, Int.reduceAdd, Int.reduceSub, Int.reduceMul, Int.reduceEq, Int.reduceNe]
    obtain ⟨r, R', rfl⟩ := List.exists_cons_of_ne_nil h
    refine LendV_eq ?_
    simp [spanV, List.getLast_eq_getElem]
theorem FwdOK.out {val : Int → Int} {hi x : Int} : ∀ {R : List Run} {lo : Int}, FwdOK val lo hi R → (x < lo ∨ hi ≤ x) → atF R x = none
  | [], lo, h, _ => rfl
  | r :: R, lo, h, h1 => by
    obtain ⟨g1, g2, g3, g4, g5⟩ := h
    have := g5.le
    rw [atF_cons]
    by_cases ht : r.t < x
    · rw [if_pos ht]; exact FwdOK.out g5 (.inr (by omega))
    · rw [if_neg ht, if_neg (by omega)]
theorem FwdOK.ends {val : Int → Int} {hi : Int} : ∀ {R : List Run} {lo : Int} (hr : R ≠ []), FwdOK val lo hi R → (R.head hr).f = lo ∧ (R.getLast hr).t = hi - 1
  | [r], lo, _, h => ⟨h.1, by have : r.t + 1 = hi := h.2.2.2.2; show r.t = hi - 1; omega⟩
  | r :: s :: R, lo, _, h => ⟨h.1, (FwdOK.ends (R := s :: R) (by simp) h.2.2.2.2).2⟩
theorem FwdOK.congr {val val' : Int → Int} {hi : Int} : ∀ {R : List Run} {lo : Int}, (∀ x, lo ≤ x → x < hi → val x = val' x) → FwdOK val lo hi R → FwdOK val' lo hi R
  | [], _, _, h => h
  | r :: R, lo, he, h => by
    obtain ⟨g1, g2, g3, g4, g5⟩ := h
    have := g5.le
    exact ⟨g1, g2, fun x h1 h2 => by rw [← he x (by omega) (by omega)]; exact g3 x h1 h2, g4, FwdOK.congr (fun x h1 h2 => he x (by omega) h2) g5⟩
theorem FwdOK.putRun {val : Int → Int} {hi t v : Int} (ht : hi ≤ t) (hv : ∀ x, hi ≤ x → x ≤ t → val x = v) : ∀ {R : List Run} {lo : Int}, FwdOK val lo hi R → FwdOK val lo (t + 1) (putR R ⟨hi, t, v⟩)
  | [], lo, h => by
    have : lo = hi := h
    subst this
    exact ⟨rfl, ht, hv, fun s h => (by cases h), rfl⟩
  | [r], lo, h => by
    obtain ⟨h1, h2, h3, h4, h5⟩ := h
    have h5 : r.t + 1 = hi := h5
    unfold putR
    simp -implicitDefEqProofs only [List.getLast?_singleton]
    split
    · next he =>
      refine ⟨h1, by show r.f ≤ t; omega, fun x x1 x2 => ?_, fun s h => (by cases h), rfl⟩
      by_cases hx : hi ≤ x
      · rw [hv x hx x2]; exact he.symm
      · exact h3 x x1 (by omega)
    · next he =>
      refine ⟨h1, h2, h3, fun s h => ?_, ⟨h5.symm, ht, hv, fun s h => (by cases h), rfl⟩⟩
      cases h; exact he
  | r :: s :: R, lo, h => by
    obtain ⟨h1, h2, h3, h4, h5⟩ := h
    rw [putR_cons (by simp)]
    refine ⟨h1, h2, h3, fun q hq => ?_, FwdOK.putRun ht hv h5⟩
    rw [putR_head hq]
    exact h4 s rfl
theorem FwdOK.canon {val : Int → Int} {hi : Int} : ∀ {R S : List Run} {lo : Int}, FwdOK val lo hi R → FwdOK val lo hi S → R = S
  | [], [], _, _, _ => rfl
  | [], s :: S, lo, h, k => by
    have : lo = hi := h
    obtain ⟨k1, k2, _, _, k5⟩ := k
    have := k5.le
    omega
  | r :: R, [], lo, h, k => by
    have : lo = hi := k
    obtain ⟨k1, k2, _, _, k5⟩ := h
    have := k5.le
    omega
  | r :: R, s :: S, lo, h, k => by
    obtain ⟨h1, h2, h3, h4, h5⟩ := h
    obtain ⟨k1, k2, k3, k4, k5⟩ := k
    have hh := h5.le
    have kk := k5.le
    have ev : r.v = s.v := by rw [← h3 lo (by omega) (by omega), ← k3 lo (by omega) (by omega)]
    have key : ∀ {A : List Run} {a b : Run}, FwdOK val (a.t + 1) hi A → b.t + 1 ≤ hi → a.f = lo → b.f = lo → a.f ≤ a.t → (∀ x, b.f ≤ x → x ≤ b.t → val x = b.v) → (∀ q, A.head? = some q → a.v ≠ q.v) → a.v = b.v → ¬ a.t < b.t := by
      intro A a b hA hb ha hb2 haa hbv hne hab hlt
      cases A with
      | nil => have : a.t + 1 = hi := hA; omega
      | cons q A =>
        obtain ⟨q1, q2, q3, _, _⟩ := hA
        have e1 := q3 q.f (Int.le_refl _) q2
        have e2 := hbv q.f (by omega) (by omega)
        exact hne q rfl (by rw [hab, ← e2, e1])
    have et : r.t = s.t := by
      have n1 := key h5 kk h1 k1 h2 k3 h4 ev
      have n2 := key k5 hh k1 h1 k2 h3 k4 ev.symm
      omega
    have ers : r = s := by
      obtain ⟨rf, rt, rv⟩ := r
      obtain ⟨sf, st, sv⟩ := s
      simp -implicitDefEqProofs only at h1 k1 et ev
      subst h1; subst et; subst ev; rw [k1]
    rw [ers]
    rw [et] at h5
    exact congrArg _ (FwdOK.canon h5 k5)
/-- A list's values, at numbers. -/
def valL (f : Int) (l : List Int) : Int → Int := fun x => l.getD (x - f).toNat 0
theorem runs_fwd (f : Int) (l : List Int) : FwdOK (valL f l) f (f + l.length) (runs f l) := runsN_ok f l l.length
theorem runs_eq {val : Int → Int} {f : Int} {l : List Int} {R : List Run} (h : FwdOK val f (f + l.length) R) (hv : ∀ (i : Nat) (hi : i < l.length), val (f + i) = l[i]) : R = runs f l := by
  refine FwdOK.canon (h.congr fun x h1 h2 => ?_) (runs_fwd f l)
  obtain ⟨i, rfl⟩ : ∃ i : Nat, x = f + i := ⟨(x - f).toNat, by omega⟩
  have hi : i < l.length := by omega
  rw [hv i hi, valL, show (f + (i : Int) - f).toNat = i by omega]
  simp [hi]
/-- A group: from a quantity on, its value, how wide its plateaus are, by how much they rise, how many there are. -/
structure Grp where
  f : Int
  v : Int
  w : Int
  r : Int
  c : Int
  deriving DecidableEq
/-- How many runs behind one lie as far off each other, and rise by as much. -/
def runLen (w r : Int) (a : Run) : List Run → Nat
  | [] => 0
  | b :: l => if b.f - a.f = w ∧ b.v - a.v = r then runLen w r b l + 1 else 0
theorem runLen_le {w r : Int} : ∀ {l : List Run} {a : Run}, runLen w r a l ≤ l.length
  | [], a => Nat.le_refl _
  | b :: l, a => by
    rw [runLen]
    split
    · have := @runLen_le w r l b
      simp -implicitDefEqProofs only [List.length_cons]; omega
    · omega
def grpOf (a : Run) : List Run → Grp × Nat
  | [] => (⟨a.f, a.v, 0, 0, 1⟩, 1)
  | b :: l => (⟨a.f, a.v, b.f - a.f, b.v - a.v, ((runLen (b.f - a.f) (b.v - a.v) a (b :: l) + 1 : Nat) : Int)⟩, runLen (b.f - a.f) (b.v - a.v) a (b :: l) + 1)
theorem grpOf_le {a : Run} {l : List Run} : 1 ≤ (grpOf a l).2 ∧ (grpOf a l).2 ≤ l.length + 1 ∧ (grpOf a l).1.c = (grpOf a l).2 := by
  cases l with
  | nil => exact ⟨Nat.le_refl _, Nat.le_refl _, rfl⟩
  | cons b l =>
    have := @runLen_le (b.f - a.f) (b.v - a.v) (b :: l) a
    exact ⟨by show 1 ≤ runLen _ _ _ _ + 1; omega, by show runLen _ _ _ _ + 1 ≤ _; omega, rfl⟩
def groupsF : Nat → List Run → List Grp
  | 0, _ => []
  | _ + 1, [] => []
  | n + 1, a :: l => (grpOf a l).1 :: groupsF n ((a :: l).drop (grpOf a l).2)
def groups (R : List Run) : List Grp := groupsF R.length R
theorem groupsF_fuel : ∀ {n : Nat} {R : List Run}, R.length ≤ n → groupsF n R = groupsF R.length R
  | 0, [], _ => rfl
  | n + 1, [], _ => rfl
  | n + 1, a :: l, h => by
    obtain ⟨h1, h2, _⟩ := @grpOf_le a l
    have hl : ((a :: l).drop (grpOf a l).2).length ≤ l.length := by rw [List.length_drop]; simp -implicitDefEqProofs only [List.length_cons]; omega
    simp -implicitDefEqProofs only [List.length_cons] at h
    rw [List.length_cons, groupsF, groupsF, groupsF_fuel (n := n) (by omega), groupsF_fuel (n := l.length) hl]
theorem groups_cons {a : Run} {l : List Run} : groups (a :: l) = (grpOf a l).1 :: groups ((a :: l).drop (grpOf a l).2) := by
  obtain ⟨h1, h2, _⟩ := @grpOf_le a l
  have hl : ((a :: l).drop (grpOf a l).2).length ≤ l.length := by rw [List.length_drop]; simp -implicitDefEqProofs only [List.length_cons]; omega
  unfold groups
  rw [List.length_cons, groupsF, groupsF_fuel (n := l.length) hl]
theorem groups_nil : groups [] = [] := rfl
theorem groups_len : ∀ {n : Nat} {R : List Run}, R.length ≤ n → (groups R).length ≤ R.length
  | _, [], _ => Nat.le_refl _
  | 0, a :: l, h => absurd h (by simp)
  | n + 1, a :: l, h => by
    obtain ⟨h1, h2, _⟩ := @grpOf_le a l
    simp -implicitDefEqProofs only [List.length_cons] at h
    have hl : ((a :: l).drop (grpOf a l).2).length ≤ l.length := by rw [List.length_drop]; simp -implicitDefEqProofs only [List.length_cons]; omega
    have := groups_len (n := n) (R := (a :: l).drop (grpOf a l).2) (by omega)
    rw [groups_cons]
    simp -implicitDefEqProofs only [List.length_cons]
    omega
/-- A group's number at a quantity. -/
def valG (g : Grp) (q : Int) : Int := if g.w < 1 then g.v else g.v + min ((q - g.f).tdiv g.w) (g.c - 1) * g.r
/-- The number at a quantity, by the last group that begins at it, or ahead. -/
def atG : List Grp → Int → Option Int
  | [], _ => none
  | g :: G, q => match atG G q with
    | some v => some v
    | none => if g.f ≤ q then some (valG g q) else none
/-- The first of a group's runs: where they lie. -/
theorem runLen_nth {w r : Int} : ∀ {l : List Run} {a : Run} (j : Nat), j < runLen w r a l → ∃ h : j < l.length, l[j].f = a.f + (j + 1) * w ∧ l[j].v = a.v + (j + 1) * r
  | [], a, j, h => absurd h (Nat.not_lt_zero _)
  | b :: l, a, j, h => by
    rw [runLen] at h
    split at h
    · next hc =>
      cases j with
      | zero => exact ⟨by simp, by simp -implicitDefEqProofs only [List.getElem_cons_zero]; omega, by simp -implicitDefEqProofs only [List.getElem_cons_zero]; omega⟩
      | succ j =>
        obtain ⟨g1, g2, g3⟩ := runLen_nth (w := w) (r := r) (l := l) (a := b) j (by omega)
        refine ⟨by simpa using g1, ?_, ?_⟩
        · simp -implicitDefEqProofs only [List.getElem_cons_succ]
          rw [g2, show (((j + 1 : Nat) : Int) + 1) * w = ((j : Int) + 1) * w + w by rw [Int.add_mul ((j + 1 : Nat) : Int), Int.one_mul]; rfl]
          omega
        · simp -implicitDefEqProofs only [List.getElem_cons_succ]
          rw [g3, show (((j + 1 : Nat) : Int) + 1) * r = ((j : Int) + 1) * r + r by rw [Int.add_mul ((j + 1 : Nat) : Int), Int.one_mul]; rfl]
          omega
    · omega
/-- All of a group's runs. -/
theorem grp_nth {a : Run} {l : List Run} (j : Nat) (hj : j < (grpOf a l).2) : ∃ h : j < (a :: l).length, (a :: l)[j].f = (grpOf a l).1.f + j * (grpOf a l).1.w ∧ (a :: l)[j].v = (grpOf a l).1.v + j * (grpOf a l).1.r := by
  cases l with
  | nil =>
    have : j = 0 := by simp -implicitDefEqProofs only [grpOf] at hj; omega
    subst this
    exact ⟨by simp, by simp [grpOf], by simp [grpOf]⟩
  | cons b l =>
    cases j with
    | zero => exact ⟨by simp, by simp [grpOf], by simp [grpOf]⟩
    | succ j =>
      simp -implicitDefEqProofs only [grpOf] at hj
      obtain ⟨g1, g2, g3⟩ := runLen_nth (w := b.f - a.f) (r := b.v - a.v) (l := b :: l) (a := a) j (by omega)
      exact ⟨by simpa using g1, by simpa [grpOf] using g2, by simpa [grpOf] using g3⟩
theorem grp_wide {val : Int → Int} {lo hi : Int} {a : Run} {l : List Run} (h : FwdOK val lo hi (a :: l)) : (l = [] ∧ (grpOf a l).1.w = 0 ∧ (grpOf a l).1.r = 0 ∧ (grpOf a l).2 = 1) ∨ (l ≠ [] ∧ 1 ≤ (grpOf a l).1.w ∧ (grpOf a l).1.r ≠ 0 ∧ 2 ≤ (grpOf a l).2) := by
  cases l with
  | nil => exact .inl ⟨rfl, rfl, rfl, rfl⟩
  | cons b l =>
    obtain ⟨g1, g2, g3, g4, g5⟩ := h
    refine .inr ⟨by simp, ?_, ?_, ?_⟩
    · show 1 ≤ b.f - a.f
      have := g5.1
      omega
    · show b.v - a.v ≠ 0
      have := g4 b (by simp)
      omega
    · show 2 ≤ runLen _ _ _ _ + 1
      rw [runLen, if_pos ⟨rfl, rfl⟩]
      omega
theorem FwdOK.drop {val : Int → Int} {hi : Int} : ∀ {R : List Run} {lo : Int} (k : Nat), FwdOK val lo hi R → k ≤ R.length → ∃ m, FwdOK val m hi (R.drop k) ∧ lo + k ≤ m ∧ (∀ q, lo ≤ q → q < m → ∃ (j : Nat) (h : j < R.length), j < k ∧ R[j].f ≤ q ∧ q ≤ R[j].t ∧ val q = R[j].v ∧ (∀ (h2 : j + 1 < R.length), q < R[j + 1].f))
  | R, lo, 0, h, _ => ⟨lo, h, by omega, fun q h1 h2 => by omega⟩
  | [], lo, k + 1, h, hk => absurd hk (by simp)
  | a :: R, lo, k + 1, ⟨g1, g2, g3, g4, g5⟩, hk => by
    obtain ⟨m, k1, k2, k3⟩ := FwdOK.drop k g5 (by simpa using hk)
    refine ⟨m, k1, by omega, fun q h1 h2 => ?_⟩
    by_cases hq : q ≤ a.t
    · refine ⟨0, by simp, by omega, by simpa using (by omega), by simpa using hq, by simpa using g3 q (by omega) hq, fun h3 => ?_⟩
      cases R with
      | nil => simp at h3
      | cons b R =>
        have := g5.1
        simp -implicitDefEqProofs only [List.getElem_cons_succ, List.getElem_cons_zero]
        omega
    · obtain ⟨j, j1, j2, j3, j4, j5, j6⟩ := k3 q (by omega) h2
      exact ⟨j + 1, by simpa using j1, by omega, by simpa using j3, by simpa using j4, by simpa using j5, fun h3 => by simpa using j6 (by simpa using h3)⟩
theorem div_at {x w : Int} {j : Nat} (hw : 1 ≤ w) (h0 : (j : Int) * w ≤ x) : (j : Int) ≤ x.tdiv w ∧ (x < (j + 1) * w → x.tdiv w = j) := by
  have hx : 0 ≤ x := Int.le_trans (Int.mul_nonneg (by omega) (by omega)) h0
  rw [Int.tdiv_eq_ediv_of_nonneg hx]
  refine ⟨Int.le_ediv_of_mul_le (by omega) h0, fun h1 => ?_⟩
  have h2 := Int.le_ediv_of_mul_le (show 0 < w by omega) h0
  have h3 := Int.ediv_lt_of_lt_mul (show 0 < w by omega) h1
  omega
theorem atG_groups {val : Int → Int} {hi : Int} : ∀ (n : Nat) {R : List Run} {lo : Int}, R.length ≤ n → FwdOK val lo hi R → ∀ q, (q < lo → atG (groups R) q = none) ∧ (lo ≤ q → q < hi → atG (groups R) q = some (val q))
  | _, [], lo, _, h, q => ⟨fun _ => rfl, fun h1 h2 => by have : lo = hi := h; omega⟩
  | 0, a :: l, lo, hn, h, q => absurd hn (by simp)
  | n + 1, a :: l, lo, hn, h, q => by
    obtain ⟨h1, h2, hc⟩ := @grpOf_le a l
    simp -implicitDefEqProofs only [List.length_cons] at hn
    obtain ⟨m, k1, k2, k3⟩ := FwdOK.drop (grpOf a l).2 h (by simp -implicitDefEqProofs only [List.length_cons]; omega)
    have hl : ((a :: l).drop (grpOf a l).2).length ≤ n := by rw [List.length_drop]; simp -implicitDefEqProofs only [List.length_cons]; omega
    obtain ⟨i1, i2⟩ := atG_groups n hl k1 q
    have hgf : (grpOf a l).1.f = lo := by
      have := h.1
      cases l <;> exact this
    have hgv : (grpOf a l).1.v = a.v := by cases l <;> rfl
    rw [groups_cons, atG, hgf]
    refine ⟨fun hq => ?_, fun hq hq2 => ?_⟩
    · rw [i1 (by omega)]
      simp -implicitDefEqProofs only []
      rw [if_neg (by omega)]
    · by_cases hm : m ≤ q
      · rw [i2 hm hq2]
      · rw [i1 (by omega)]
        simp -implicitDefEqProofs only []
        rw [if_pos hq]
        congr 1
        obtain ⟨j, j1, j2, j3, j4, j5, j6⟩ := k3 q hq (by omega)
        obtain ⟨e1, e2, e3⟩ := grp_nth (a := a) (l := l) j j2
        rw [j5, e3]
        unfold valG
        rcases grp_wide h with ⟨w0, w1, w2, w3⟩ | ⟨w0, w1, w2, w3⟩
        · rw [if_pos (by omega), w2, Int.mul_zero, Int.add_zero]
        · rw [if_neg (by omega), hc, hgf]
          rw [hgf] at e2
          congr 2
          obtain ⟨d1, d2⟩ := div_at (x := q - lo) (w := (grpOf a l).1.w) (j := j) w1 (by omega)
          by_cases hj : j + 1 < (grpOf a l).2
          · obtain ⟨f1, f2, f3⟩ := grp_nth (a := a) (l := l) (j + 1) hj
            have := j6 (by omega)
            rw [f2, hgf, show (((j + 1 : Nat) : Int)) = (j : Int) + 1 from rfl] at this
            rw [d2 (by omega)]
            omega
          · omega
def bigV (r : Run) : Prop := r.v < -2305843009213693952 ∨ 2305843009213693952 < r.v
instance (r : Run) : Decidable (bigV r) := by unfold bigV; exact inferInstance
theorem Of1_ok (r : Run) : DataW Try.prog f_curve_Of_1 [r.av] (bv (decide (bigV r))) := by
  refine CallW_intro comp_curve_Of_1 (by simp) ?_
  simp -implicitDefEqProofs -proj only [go_sem, Nat.reduceBEq, Nat.reduceLT, Nat.reduceLeDiff, Nat.reduceAdd, Nat.reduceMul, ↓reduceIte, Int.reduceToNat, Int.reducePow, Int.reduceLT, Int.reduceLE, Int.reduceAdd, Int.reduceSub, Int.reduceMul, Int.reduceEq, Int.reduceNe]
  refine AllocA_intro (fun b hb => ?_)
  by_cases h1 : r.v < -2305843009213693952
  · simp -implicitDefEqProofs -proj only [go_sem, Nat.reduceBEq, Nat.reduceLT, Nat.reduceLeDiff, Nat.reduceAdd, Nat.reduceMul, ↓reduceIte, Int.reduceToNat, Int.reducePow, Int.reduceLT, Int.reduceLE, Int.reduceAdd, Int.reduceSub, Int.reduceMul, Int.reduceEq, Int.reduceNe, decide_eq_true h1]
    exact LendV_eq (by rw [decide_eq_true (show bigV r from .inl h1)])
  · by_cases h2 : 2305843009213693952 < r.v
    · simp -implicitDefEqProofs -proj only [go_sem, Nat.reduceBEq, Nat.reduceLT, Nat.reduceLeDiff, Nat.reduceAdd, Nat.reduceMul, ↓reduceIte, Int.reduceToNat, Int.reducePow, Int.reduceLT, Int.reduceLE, Int.reduceAdd, Int.reduceSub, Int.reduceMul, Int.reduceEq, Int.reduceNe, decide_eq_false h1, decide_eq_true h2]
      exact LendV_eq (by rw [decide_eq_true (show bigV r from .inr h2)])
    · simp -implicitDefEqProofs -proj only [go_sem, Nat.reduceBEq, Nat.reduceLT, Nat.reduceLeDiff, Nat.reduceAdd, Nat.reduceMul, ↓reduceIte, Int.reduceToNat, Int.reducePow, Int.reduceLT, Int.reduceLE, Int.reduceAdd, Int.reduceSub, Int.reduceMul, Int.reduceEq, Int.reduceNe, decide_eq_false h1, decide_eq_false h2]
      exact LendV_eq (by rw [decide_eq_false (show ¬ bigV r by unfold bigV; omega)])
def idxRn (p : Run → Bool) (l : List Run) : Int := match l.findIdx? p with
  | some i => i
  | none => -1
theorem IndexFunc_ok {l : List Run} {f : FuncId} {p : Run → Bool} (hf : ∀ r : Run, DataW Try.prog f [r.av] (bv (p r))) (hl : l.length ≤ 1000000) : DataW Try.prog f_slices_IndexFunc_line_Run_int_ [slR l, .fn f []] (i64 (idxRn p l)) := by
  refine CallW_intro comp_slices_IndexFunc_line_Run_int_ (by simp) ?_
  simp -implicitDefEqProofs -proj only [go_sem, Nat.reduceBEq, Nat.reduceLT, Nat.reduceLeDiff, Nat.reduceAdd, Nat.reduceMul, ↓reduceIte, Int.reduceToNat, Int.reducePow, Int.reduceLT, Int.reduceLE, Int.reduceAdd, Int.reduceSub, Int.reduceMul, Int.reduceEq, Int.reduceNe, rowR_len]
  refine LoopA_k (fun i : Nat => i ≤ l.length ∧ ∀ (j : Nat) (h : j < l.length), j < i → p l[j] = false) 19 (fun i => [(0, slR l), (1, .fn f []), (7, i64 l.length), (8, i64 i)]) (fun _ => []) (fun i => l.length - i) 0 ⟨Nat.zero_le _, fun j _ h => absurd h (Nat.not_lt_zero _)⟩ rfl ?_ ?_ ?_
  · simp -implicitDefEqProofs -proj only [go_sem, Nat.reduceBEq, Nat.reduceLT, Nat.reduceLeDiff, Nat.reduceAdd, Nat.reduceMul, ↓reduceIte, Int.reduceToNat, Int.reducePow, Int.reduceLT, Int.reduceLE, Int.reduceAdd, Int.reduceSub, Int.reduceMul, Int.reduceEq, Int.reduceNe, AllAt]
  · trivial
  · rintro i ⟨hi, hs⟩
    by_cases h : i < l.length
    · have hel := rowR_at h
      have hff := hf l[i]
      have hstep : p l[i] = false → ∀ (j : Nat) (h : j < l.length), j < i + 1 → p l[j] = false := by
        intro e j h1 h2
        by_cases hj : j = i
        · subst hj; exact e
        · exact hs j h1 (by omega)
      have hfound : p l[i] = true → idxRn p l = i := by
        intro e
        unfold idxRn
        rw [List.findIdx?_eq_some_iff_getElem.2 ⟨h, e, fun j hj => by simpa using hs j (by omega) hj⟩]
      generalize l[i] = r at *
      simp -implicitDefEqProofs -proj only [go_sem, Nat.reduceBEq, Nat.reduceLT, Nat.reduceLeDiff, Nat.reduceAdd, Nat.reduceMul, ↓reduceIte, Int.reduceToNat, Int.reducePow, Int.reduceLT, Int.reduceLE, Int.reduceAdd, Int.reduceSub, Int.reduceMul, Int.reduceEq, Int.reduceNe, decide_eq_true (show (i : Int) < l.length by omega)]
      refine ElemA_at _ (by omega) hel ?_
      simp -implicitDefEqProofs -proj only [go_sem, Nat.reduceBEq, Nat.reduceLT, Nat.reduceLeDiff, Nat.reduceAdd, Nat.reduceMul, ↓reduceIte, Int.reduceToNat, Int.reducePow, Int.reduceLT, Int.reduceLE, Int.reduceAdd, Int.reduceSub, Int.reduceMul, Int.reduceEq, Int.reduceNe]
      refine CallA_pure hff ?_
      cases hp : p r
      · simp -implicitDefEqProofs -proj only [go_sem, Nat.reduceBEq, Nat.reduceLT, Nat.reduceLeDiff, Nat.reduceAdd, Nat.reduceMul, ↓reduceIte, Int.reduceToNat, Int.reducePow, Int.reduceLT, Int.reduceLE, Int.reduceAdd, Int.reduceSub, Int.reduceMul, Int.reduceEq, Int.reduceNe]
        refine LoopQ_k (i + 1) ⟨by omega, hstep hp⟩ (by omega) rfl ?_ trivial
        simp -implicitDefEqProofs -proj only [go_sem, Nat.reduceBEq, Nat.reduceLT, Nat.reduceLeDiff, Nat.reduceAdd, Nat.reduceMul, ↓reduceIte, Int.reduceToNat, Int.reducePow, Int.reduceLT, Int.reduceLE, Int.reduceAdd, Int.reduceSub, Int.reduceMul, Int.reduceEq, Int.reduceNe, AllAt, i64_succ (show i < 9223372036854775807 by omega)]
      · simp -implicitDefEqProofs -proj only [go_sem, Nat.reduceBEq, Nat.reduceLT, Nat.reduceLeDiff, Nat.reduceAdd, Nat.reduceMul, ↓reduceIte, Int.reduceToNat, Int.reducePow, Int.reduceLT, Int.reduceLE, Int.reduceAdd, Int.reduceSub, Int.reduceMul, Int.reduceEq, Int.reduceNe]
        exact LendV_eq (by rw [hfound hp])
    · have hi' : i = l.length := by omega
      subst hi'
      simp -implicitDefEqProofs -proj only [go_sem, Nat.reduceBEq, Nat.reduceLT, Nat.reduceLeDiff, Nat.reduceAdd, Nat.reduceMul, ↓reduceIte, Int.reduceToNat, Int.reducePow, Int.reduceLT, Int.reduceLE, Int.reduceAdd, Int.reduceSub, Int.reduceMul, Int.reduceEq, Int.reduceNe, decide_eq_false (show ¬ (l.length : Int) < l.length by omega)]
      have : idxRn p l = -1 := by
        unfold idxRn
        rw [List.findIdx?_eq_none_iff.2 fun x hx => ?_]
        obtain ⟨j, hj, rfl⟩ := List.getElem_of_mem hx
        exact hs j hj hj
      exact LendV_eq (by rw [this])
theorem Contains_ok {l : List Run} {f : FuncId} {p : Run → Bool} (hf : ∀ r : Run, DataW Try.prog f [r.av] (bv (p r))) (hl : l.length ≤ 1000000) : DataW Try.prog f_slices_ContainsFunc_line_Run_int_ [slR l, .fn f []] (bv (l.any p)) := by
  refine CallW_intro comp_slices_ContainsFunc_line_Run_int_ (by simp) ?_
  have h := IndexFunc_ok hf hl
  simp -implicitDefEqProofs -proj only [go_sem, Nat.reduceBEq, Nat.reduceLT, Nat.reduceLeDiff, Nat.reduceAdd, Nat.reduceMul, ↓reduceIte, Int.reduceToNat, Int.reducePow, Int.reduceLT, Int.reduceLE, Int.reduceAdd, Int.reduceSub, Int.reduceMul, Int.reduceEq, Int.reduceNe]
  refine CallA_pure h ?_
  have hd : decide (0 ≤ idxRn p l) = l.any p := by
    unfold idxRn
    cases hh : l.findIdx? p with
    | none =>
      have := List.findIdx?_eq_none_iff.1 hh
      simp -implicitDefEqProofs only []
      rw [show l.any p = false from List.any_eq_false.2 fun x hx => by rw [this x hx]; simp]
      decide
    | some i =>
      obtain ⟨h1, h2, _⟩ := List.findIdx?_eq_some_iff_getElem.1 hh
      rw [show l.any p = true from List.any_eq_true.2 ⟨_, List.getElem_mem h1, h2⟩]
      simp
  simp -implicitDefEqProofs -proj only [go_sem, Nat.reduceBEq, Nat.reduceLT, Nat.reduceLeDiff, Nat.reduceAdd, Nat.reduceMul, ↓reduceIte, Int.reduceToNat, Int.reducePow, Int.reduceLT, Int.reduceLE, Int.reduceAdd, Int.reduceSub, Int.reduceMul, Int.reduceEq, Int.reduceNe, hd]
  exact LendV_eq rfl
structure SeqX where
  c : Nat
  cap : Nat
  R : List Run
theorem qx_c {c cap : Nat} {R : List Run} : (SeqX.mk c cap R).c = c := (rfl)
theorem qx_cap {c cap : Nat} {R : List Run} : (SeqX.mk c cap R).cap = cap := (rfl)
theorem qx_R {c cap : Nat} {R : List Run} : (SeqX.mk c cap R).R = R := (rfl)
def seqB (b2 : Nat) (rest : List (Nat × Blk)) (y : SeqX) : List (Nat × Blk) := rowH 53 3 y.c y.cap (rowR y.R) ++ ((b2, .box 36 [rowV 0 3 y.c y.cap (rowR y.R)]) :: rest)
theorem AppendSeq_ok {H : Heap} {f : FuncId} {caps : List AV} {bl : List (Nat × Blk)} {l : List Run} (hit : IterW Try.prog f caps bl (runArgs l)) (rest : List (Nat × Blk)) (hbl : ∀ p ∈ bl, p ∈ rest) (hrest : AllH H rest) (hnd : (keys rest).Nodup) (hl : l.length ≤ 1000000) :
    CallW Try.prog f_slices_AppendSeq_line_Run_int_ [.nilsl 0, .fn f caps] H fun r H' => ∃ c cap, r = rowV 0 3 c cap (rowR l) ∧ AllH H' (rowH 53 3 c cap (rowR l) ++ rest) ∧ (keys (rowH 53 3 c cap (rowR l) ++ rest)).Nodup := by
  refine CallW_intro comp_slices_AppendSeq_line_Run_int_ (by simp) ?_
  simp -implicitDefEqProofs -proj only [go_sem, Nat.reduceBEq, Nat.reduceLT, Nat.reduceLeDiff, Nat.reduceAdd, Nat.reduceMul, ↓reduceIte, Int.reduceToNat, Int.reducePow, Int.reduceLT, Int.reduceLE, Int.reduceAdd, Int.reduceSub, Int.reduceMul, Int.reduceEq, Int.reduceNe]
  refine AllocA_intro (fun b2 hb2 => ?_)
  have a2 := alloc_all (x := .box 36 [.nilsl 0]) hb2 hrest
  have n2 := alloc_keys (x := .box 36 [.nilsl 0]) hb2 hrest hnd
  simp -implicitDefEqProofs -proj only [go_sem, Nat.reduceBEq, Nat.reduceLT, Nat.reduceLeDiff, Nat.reduceAdd, Nat.reduceMul, ↓reduceIte, Int.reduceToNat, Int.reducePow, Int.reduceLT, Int.reduceLE, Int.reduceAdd, Int.reduceSub, Int.reduceMul, Int.reduceEq, Int.reduceNe]
  refine RangeA_k [(2, .ptr b2 0)] (fun pre y => y.R = l.take pre.length ∧ (keys (seqB b2 rest y)).Nodup) (seqB b2 rest) ⟨0, 0, []⟩ hit (by simp -implicitDefEqProofs -proj only [go_sem, Nat.reduceBEq, Nat.reduceLT, Nat.reduceLeDiff, Nat.reduceAdd, Nat.reduceMul, ↓reduceIte, Int.reduceToNat, Int.reducePow, Int.reduceLT, Int.reduceLE, Int.reduceAdd, Int.reduceSub, Int.reduceMul, Int.reduceEq, Int.reduceNe]) rfl (by simp) (by simp -implicitDefEqProofs -proj only [go_sem, Nat.reduceBEq, Nat.reduceLT, Nat.reduceLeDiff, Nat.reduceAdd, Nat.reduceMul, ↓reduceIte, Int.reduceToNat, Int.reducePow, Int.reduceLT, Int.reduceLE, Int.reduceAdd, Int.reduceSub, Int.reduceMul, Int.reduceEq, Int.reduceNe, AllAt]) ?_ ⟨by simp, n2⟩ a2 ?_ ?_
  · intro pre y _ p hp
    exact List.mem_append.2 (.inr (List.mem_cons_of_mem _ (hbl p hp)))
  · rintro pre v post ⟨c, cap, R⟩ hxs ⟨hR, hn⟩
    obtain ⟨hlt, rfl, hpre⟩ := map_split hxs
    have hall := keepH_all hn
    simp -implicitDefEqProofs only [qx_R] at hR
    have hRl : R.length = pre.length := by rw [hR, List.length_take]; omega
    obtain ⟨H1, hH⟩ : ∃ H1, keepH (seqB b2 rest ⟨c, cap, R⟩) = H1 := ⟨_, rfl⟩
    rw [hH] at hall ⊢
    simp -implicitDefEqProofs only [seqB, qx_c, qx_cap, qx_R] at hall hn
    obtain ⟨hrow, h2, _⟩ := AllH_app.1 hall
    have htk : l.take (pre.length + 1) = R ++ [l[pre.length]] := by rw [List.take_succ_eq_append_getElem hlt, hR]
    generalize l[pre.length] = r at *
    simp -implicitDefEqProofs -proj only [go_sem, Nat.reduceBEq, Nat.reduceLT, Nat.reduceLeDiff, Nat.reduceAdd, Nat.reduceMul, ↓reduceIte, Int.reduceToNat, Int.reducePow, Int.reduceLT, Int.reduceLE, Int.reduceAdd, Int.reduceSub, Int.reduceMul, Int.reduceEq, Int.reduceNe]
    refine AllocA_intro (fun b6 hb6 => ?_)
    replace hb6 : H1 b6 = none := hb6
    obtain ⟨p1, p2⟩ := fresh_ne hb6 h2
    simp -implicitDefEqProofs -proj only [go_sem, Nat.reduceBEq, Nat.reduceLT, Nat.reduceLeDiff, Nat.reduceAdd, Nat.reduceMul, ↓reduceIte, Int.reduceToNat, Int.reducePow, Int.reduceLT, Int.reduceLE, Int.reduceAdd, Int.reduceSub, Int.reduceMul, Int.reduceEq, Int.reduceNe, p1, h2]
    refine AllocR_intro (fun bs hs' => ?_)
    replace hs' : upd H1 b6 _ bs = none := hs'
    simp -implicitDefEqProofs -proj only [go_sem, Nat.reduceBEq, Nat.reduceLT, Nat.reduceLeDiff, Nat.reduceAdd, Nat.reduceMul, ↓reduceIte, Int.reduceToNat, Int.reducePow, Int.reduceLT, Int.reduceLE, Int.reduceAdd, Int.reduceSub, Int.reduceMul, Int.reduceEq, Int.reduceNe]
    refine AppendA_grow (xs := rowR R) (y := r.el) (t := 53) (capc := 1) ((b2, .box 36 [rowV 0 3 c cap (rowR R)]) :: rest) rfl (AllH_upd hs' (AllH_upd hb6 hall)) hn (by simp -implicitDefEqProofs -proj only [go_sem, Nat.reduceBEq, Nat.reduceLT, Nat.reduceLeDiff, Nat.reduceAdd, Nat.reduceMul, ↓reduceIte, Int.reduceToNat, Int.reducePow, Int.reduceLT, Int.reduceLE, Int.reduceAdd, Int.reduceSub, Int.reduceMul, Int.reduceEq, Int.reduceNe]; rfl) (by rw [rowR_len]; omega) (by rw [rowR_len]; omega) (fun H' c' cap' ha hk => ?_)
    obtain ⟨hrow', hbox⟩ := AllH_app.1 ha
    simp -implicitDefEqProofs -proj only [go_sem, Nat.reduceBEq, Nat.reduceLT, Nat.reduceLeDiff, Nat.reduceAdd, Nat.reduceMul, ↓reduceIte, Int.reduceToNat, Int.reducePow, Int.reduceLT, Int.reduceLE, Int.reduceAdd, Int.reduceSub, Int.reduceMul, Int.reduceEq, Int.reduceNe, hbox.1]
    rw [rowR_snoc] at hrow' hk ha
    refine RangeQ_k ⟨c', cap', R ++ [r]⟩ ⟨by simp -implicitDefEqProofs only [qx_R, List.length_append, List.length_singleton]; exact htk.symm, ?_⟩ ?_
    · simpa only [keys, seqB, qx_c, qx_cap, qx_R, List.map_append, List.map_cons, List.map_nil] using hk
    · have hne : rowR (R ++ [r]) ≠ [] := by simp [rowR]
      refine AllH_app.2 ⟨?_, ?_⟩
      · refine drop_all hrow' ?_
        simp -implicitDefEqProofs only [keys, List.map_append, List.nodup_append, List.map_cons, List.map_nil, List.mem_cons] at hk
        exact fun hm => hk.2.2 _ hm _ (.inl rfl) rfl
      · have := upd_all (x' := .box 36 [.own c' 3 0 ((rowR R).length + 1) cap']) hbox (by simp -implicitDefEqProofs only [keys, List.map_append, List.nodup_append] at hk ⊢; exact hk.2.1)
        simp -implicitDefEqProofs only [qx_c, qx_cap, qx_R, rowV_ne hne, show (rowR (R ++ [r])).length = (rowR R).length + 1 by simp [rowR]]
        exact this
  · rintro ⟨c, cap, R⟩ ⟨hR, hn⟩
    have hall := keepH_all hn
    simp -implicitDefEqProofs only [qx_R] at hR
    obtain ⟨H1, hH⟩ : ∃ H1, keepH (seqB b2 rest ⟨c, cap, R⟩) = H1 := ⟨_, rfl⟩
    rw [hH] at hall ⊢
    simp -implicitDefEqProofs only [seqB, qx_c, qx_cap, qx_R] at hall hn
    obtain ⟨hrow, h2, hr2⟩ := AllH_app.1 hall
    rw [List.length_map, List.take_length] at hR
    subst hR
    simp -implicitDefEqProofs -proj only [go_sem, Nat.reduceBEq, Nat.reduceLT, Nat.reduceLeDiff, Nat.reduceAdd, Nat.reduceMul, ↓reduceIte, Int.reduceToNat, Int.reducePow, Int.reduceLT, Int.reduceLE, Int.reduceAdd, Int.reduceSub, Int.reduceMul, Int.reduceEq, Int.reduceNe, h2]
    refine ⟨c, cap, rfl, AllH_app.2 ⟨hrow, hr2⟩, ?_⟩
    simp -implicitDefEqProofs only [keys, List.map_append, List.nodup_append, List.map_cons, List.nodup_cons, List.mem_cons] at hn ⊢
    exact ⟨hn.1, hn.2.1.2, fun a ha b hb => hn.2.2 a ha b (.inr hb)⟩
theorem keepH_mem {k : Nat} : ∀ {l : List (Nat × Blk)}, keepH l k ≠ none → k ∈ keys l
  | [], h => absurd rfl h
  | (b, x) :: l, h => by
    rw [keepH_cons] at h
    by_cases e : k = b
    · exact List.mem_cons.2 (.inl e)
    · rw [if_neg e] at h
      exact List.mem_cons_of_mem _ (keepH_mem h)
theorem Collect_ok {H : Heap} {f : FuncId} {caps : List AV} {bl : List (Nat × Blk)} {l : List Run} (hit : IterW Try.prog f caps bl (runArgs l)) (rest : List (Nat × Blk)) (hbl : ∀ p ∈ bl, p ∈ rest) (hrest : AllH H rest) (hnd : (keys rest).Nodup) (hl : l.length ≤ 1000000) :
    CallW Try.prog f_slices_Collect_line_Run_int_ [.fn f caps] H fun r H' => r = slR l ∧ AllH H' rest := by
  have hA := CallW.froze (v := slR l) (K := fun H' => AllH H' rest) (CallW.mono (AppendSeq_ok hit rest hbl hrest hnd hl) fun r H' ⟨c, cap, hr, ha, hk⟩ => by
    subst hr
    have hk1 : (keys (rowH 53 3 c cap (rowR l))).Nodup := by simp -implicitDefEqProofs only [keys, List.map_append, List.nodup_append] at hk; exact hk.1
    refine ⟨keepH (rowH 53 3 c cap (rowR l)), keepH rest, AllH_keep (AllH_app.1 ha).1, fun k => ?_, rowV_new (keepH_all hk1) rowR_scal, keepH_all hnd⟩
    rcases AllH_keep (AllH_app.1 ha).2 k with e | e
    · exact .inl e
    · by_cases hr : keepH rest k = none
      · exact .inl hr
      · refine .inr ⟨e, ?_⟩
        by_cases e1 : keepH (rowH 53 3 c cap (rowR l)) k = none
        · exact e1
        · simp -implicitDefEqProofs only [keys, List.map_append, List.nodup_append] at hk
          exact absurd rfl (hk.2.2 k (keepH_mem e1) k (keepH_mem hr)))
  refine CallW_intro comp_slices_Collect_line_Run_int_ (by simp) ?_
  simp -implicitDefEqProofs -proj only [go_sem, Nat.reduceBEq, Nat.reduceLT, Nat.reduceLeDiff, Nat.reduceAdd, Nat.reduceMul, ↓reduceIte, Int.reduceToNat, Int.reducePow, Int.reduceLT, Int.reduceLE, Int.reduceAdd, Int.reduceSub, Int.reduceMul, Int.reduceEq, Int.reduceNe]
  refine CallA_w hA ?_
  rintro r H' ⟨rfl, h⟩
  simp -implicitDefEqProofs -proj only [go_sem, Nat.reduceBEq, Nat.reduceLT, Nat.reduceLeDiff, Nat.reduceAdd, Nat.reduceMul, ↓reduceIte, Int.reduceToNat, Int.reducePow, Int.reduceLT, Int.reduceLE, Int.reduceAdd, Int.reduceSub, Int.reduceMul, Int.reduceEq, Int.reduceNe]
  exact h
def Grp.el (g : Grp) : List D := [.int .i64 g.f, .int .i64 g.v, .int .i64 g.w, .int .i64 g.r, .int .i64 g.c]
abbrev Grp.av (g : Grp) : AV := .agg [i64 g.f, i64 g.v, i64 g.w, i64 g.r, i64 g.c]
/-- Runs whose numbers are small. -/
def RunOK (r : Run) : Prop := (0 ≤ r.f ∧ r.f ≤ 3000) ∧ (-2305843009213693952 ≤ r.v ∧ r.v ≤ 2305843009213693952)
theorem runLen_at {w r : Int} {S : List Run} {c : Nat} (h0 : 0 < c) (h : c < S.length) : runLen w r (S[c - 1]'(by omega)) (S.drop c) = if S[c].f - (S[c - 1]'(by omega)).f = w ∧ S[c].v - (S[c - 1]'(by omega)).v = r then runLen w r S[c] (S.drop (c + 1)) + 1 else 0 := by
  rw [List.drop_eq_getElem_cons h, runLen]
theorem grpOf_eq {S : List Run} (h : 1 < S.length) : grpOf (S[0]'(by omega)) (S.drop 1) = (⟨(S[0]'(by omega)).f, (S[0]'(by omega)).v, S[1].f - (S[0]'(by omega)).f, S[1].v - (S[0]'(by omega)).v, ((runLen (S[1].f - (S[0]'(by omega)).f) (S[1].v - (S[0]'(by omega)).v) (S[0]'(by omega)) (S.drop 1) + 1 : Nat) : Int)⟩, runLen (S[1].f - (S[0]'(by omega)).f) (S[1].v - (S[0]'(by omega)).v) (S[0]'(by omega)) (S.drop 1) + 1) := by
  match S, h with
  | a :: b :: l, _ => rfl
set_option maxRecDepth 20000 in
theorem group_ok {S : List Run} (h0 : 0 < S.length) (hb : ∀ r ∈ S, RunOK r) (hl : S.length ≤ 3000) : DataW Try.prog f_curve_group [slR S] (.tup [(grpOf S[0] (S.drop 1)).1.av, i64 (grpOf S[0] (S.drop 1)).2]) := by
  refine CallW_intro comp_curve_group (by simp) ?_
  have e0 := rowR_at h0
  have b0 := hb _ (List.getElem_mem h0)
  by_cases h1 : S.length = 1
  · have hg : grpOf S[0] (S.drop 1) = (⟨S[0].f, S[0].v, 0, 0, 1⟩, 1) := by rw [List.drop_eq_nil_of_le (by omega)]; rfl
    rw [hg]
    generalize S[0] = a at *
    simp -implicitDefEqProofs -proj only [go_sem, Nat.reduceBEq, Nat.reduceLT, Nat.reduceLeDiff, Nat.reduceAdd, Nat.reduceMul, ↓reduceIte, Int.reduceToNat, Int.reducePow, Int.reduceLT, Int.reduceLE, Int.reduceAdd, Int.reduceSub, Int.reduceMul, Int.reduceEq, Int.reduceNe]
    refine AllocA_intro (fun b2 hb2 => ?_)
    simp -implicitDefEqProofs -proj only [go_sem, Nat.reduceBEq, Nat.reduceLT, Nat.reduceLeDiff, Nat.reduceAdd, Nat.reduceMul, ↓reduceIte, Int.reduceToNat, Int.reducePow, Int.reduceLT, Int.reduceLE, Int.reduceAdd, Int.reduceSub, Int.reduceMul, Int.reduceEq, Int.reduceNe]
    refine ElemA_at _ (by omega) (i := 0) e0 ?_
    simp -implicitDefEqProofs -proj only [go_sem, Nat.reduceBEq, Nat.reduceLT, Nat.reduceLeDiff, Nat.reduceAdd, Nat.reduceMul, ↓reduceIte, Int.reduceToNat, Int.reducePow, Int.reduceLT, Int.reduceLE, Int.reduceAdd, Int.reduceSub, Int.reduceMul, Int.reduceEq, Int.reduceNe]
    refine ElemA_at _ (by omega) (i := 0) e0 ?_
    simp -implicitDefEqProofs -proj only [go_sem, Nat.reduceBEq, Nat.reduceLT, Nat.reduceLeDiff, Nat.reduceAdd, Nat.reduceMul, ↓reduceIte, Int.reduceToNat, Int.reducePow, Int.reduceLT, Int.reduceLE, Int.reduceAdd, Int.reduceSub, Int.reduceMul, Int.reduceEq, Int.reduceNe]
    refine AllocA_intro (fun b4 hb4 => ?_)
    replace hb4 : upd Heap.none b2 _ b4 = none := hb4
    obtain ⟨n1, n2⟩ := fresh_ne hb4 upd_eq
    simp -implicitDefEqProofs -proj only [go_sem, Nat.reduceBEq, Nat.reduceLT, Nat.reduceLeDiff, Nat.reduceAdd, Nat.reduceMul, ↓reduceIte, Int.reduceToNat, Int.reducePow, Int.reduceLT, Int.reduceLE, Int.reduceAdd, Int.reduceSub, Int.reduceMul, Int.reduceEq, Int.reduceNe, n1, n2, rowR_len, decide_eq_true (show (S.length : Int) = 1 by omega)]
    exact LendV_eq rfl
  · have h1' : 1 < S.length := by omega
    have e1 := rowR_at h1'
    have b1 := hb _ (List.getElem_mem h1')
    have hg := grpOf_eq h1'
    obtain ⟨n, hn⟩ : ∃ n, (grpOf S[0] (S.drop 1)).2 = n := ⟨_, rfl⟩
    have hn1 : runLen (S[1].f - S[0].f) (S[1].v - S[0].v) S[0] (S.drop 1) + 1 = n := by rw [← hn, hg]
    have hg1 : (grpOf S[0] (S.drop 1)).1 = ⟨S[0].f, S[0].v, S[1].f - S[0].f, S[1].v - S[0].v, (n : Int)⟩ := by rw [hg, hn1]
    rw [hn, hg1]
    obtain ⟨w, hw⟩ : ∃ w, S[1].f - S[0].f = w := ⟨_, rfl⟩
    obtain ⟨r, hr⟩ : ∃ r, S[1].v - S[0].v = r := ⟨_, rfl⟩
    have ww : IntKind.i64.wrap (S[1].f - S[0].f) = w := by unfold RunOK at b0 b1; rw [IntKind.wrap_i64]; omega
    have wr : IntKind.i64.wrap (S[1].v - S[0].v) = r := by unfold RunOK at b0 b1; rw [IntKind.wrap_i64]; omega
    rw [hw, hr] at hn1 ⊢
    obtain ⟨a, ha⟩ : ∃ a, S[0] = a := ⟨_, rfl⟩
    obtain ⟨b, hbb⟩ : ∃ b, S[1] = b := ⟨_, rfl⟩
    have hn1' : runLen w r (S[1 - 1]'(by omega)) (S.drop 1) + 1 = n := hn1
    rw [ha] at e0 ww wr ⊢
    rw [hbb] at e1 ww wr
    clear hg hg1 hw hr hn b0 b1
    simp -implicitDefEqProofs -proj only [go_sem, Nat.reduceBEq, Nat.reduceLT, Nat.reduceLeDiff, Nat.reduceAdd, Nat.reduceMul, ↓reduceIte, Int.reduceToNat, Int.reducePow, Int.reduceLT, Int.reduceLE, Int.reduceAdd, Int.reduceSub, Int.reduceMul, Int.reduceEq, Int.reduceNe]
    refine AllocA_intro (fun b2 hb2 => ?_)
    simp -implicitDefEqProofs -proj only [go_sem, Nat.reduceBEq, Nat.reduceLT, Nat.reduceLeDiff, Nat.reduceAdd, Nat.reduceMul, ↓reduceIte, Int.reduceToNat, Int.reducePow, Int.reduceLT, Int.reduceLE, Int.reduceAdd, Int.reduceSub, Int.reduceMul, Int.reduceEq, Int.reduceNe]
    refine ElemA_at _ (by omega) (i := 0) e0 ?_
    simp -implicitDefEqProofs -proj only [go_sem, Nat.reduceBEq, Nat.reduceLT, Nat.reduceLeDiff, Nat.reduceAdd, Nat.reduceMul, ↓reduceIte, Int.reduceToNat, Int.reducePow, Int.reduceLT, Int.reduceLE, Int.reduceAdd, Int.reduceSub, Int.reduceMul, Int.reduceEq, Int.reduceNe]
    refine ElemA_at _ (by omega) (i := 0) e0 ?_
    simp -implicitDefEqProofs -proj only [go_sem, Nat.reduceBEq, Nat.reduceLT, Nat.reduceLeDiff, Nat.reduceAdd, Nat.reduceMul, ↓reduceIte, Int.reduceToNat, Int.reducePow, Int.reduceLT, Int.reduceLE, Int.reduceAdd, Int.reduceSub, Int.reduceMul, Int.reduceEq, Int.reduceNe]
    refine AllocA_intro (fun b4 hb4 => ?_)
    replace hb4 : upd Heap.none b2 _ b4 = none := hb4
    obtain ⟨n1, n2⟩ := fresh_ne hb4 upd_eq
    simp -implicitDefEqProofs -proj only [go_sem, Nat.reduceBEq, Nat.reduceLT, Nat.reduceLeDiff, Nat.reduceAdd, Nat.reduceMul, ↓reduceIte, Int.reduceToNat, Int.reducePow, Int.reduceLT, Int.reduceLE, Int.reduceAdd, Int.reduceSub, Int.reduceMul, Int.reduceEq, Int.reduceNe, n1, n2, rowR_len, decide_eq_false (show ¬ (S.length : Int) = 1 by omega)]
    refine ElemA_at _ (by omega) (i := 1) e1 ?_
    simp -implicitDefEqProofs -proj only [go_sem, Nat.reduceBEq, Nat.reduceLT, Nat.reduceLeDiff, Nat.reduceAdd, Nat.reduceMul, ↓reduceIte, Int.reduceToNat, Int.reducePow, Int.reduceLT, Int.reduceLE, Int.reduceAdd, Int.reduceSub, Int.reduceMul, Int.reduceEq, Int.reduceNe]
    refine ElemA_at _ (by omega) (i := 0) e0 ?_
    simp -implicitDefEqProofs -proj only [go_sem, Nat.reduceBEq, Nat.reduceLT, Nat.reduceLeDiff, Nat.reduceAdd, Nat.reduceMul, ↓reduceIte, Int.reduceToNat, Int.reducePow, Int.reduceLT, Int.reduceLE, Int.reduceAdd, Int.reduceSub, Int.reduceMul, Int.reduceEq, Int.reduceNe]
    refine ElemA_at _ (by omega) (i := 1) e1 ?_
    simp -implicitDefEqProofs -proj only [go_sem, Nat.reduceBEq, Nat.reduceLT, Nat.reduceLeDiff, Nat.reduceAdd, Nat.reduceMul, ↓reduceIte, Int.reduceToNat, Int.reducePow, Int.reduceLT, Int.reduceLE, Int.reduceAdd, Int.reduceSub, Int.reduceMul, Int.reduceEq, Int.reduceNe]
    refine ElemA_at _ (by omega) (i := 0) e0 ?_
    simp -implicitDefEqProofs -proj only [go_sem, Nat.reduceBEq, Nat.reduceLT, Nat.reduceLeDiff, Nat.reduceAdd, Nat.reduceMul, ↓reduceIte, Int.reduceToNat, Int.reducePow, Int.reduceLT, Int.reduceLE, Int.reduceAdd, Int.reduceSub, Int.reduceMul, Int.reduceEq, Int.reduceNe, n1, n2, ww, wr]
    refine LoopA_k (fun c : Nat => 1 ≤ c ∧ ∃ h : c ≤ S.length, c + runLen w r (S[c - 1]'(by omega)) (S.drop c) = n) 81 (fun _ => [(0, slR S), (2, .ptr b2 0), (4, .ptr b4 0)]) (fun c => [(b4, .box 31 [i64 a.f, i64 a.v, i64 w, i64 r, i64 c]), (b2, .box 31 [i64 0, i64 0, i64 0, i64 0, i64 0])]) (fun c => S.length - c) 1 ⟨Nat.le_refl _, by omega, by omega⟩ rfl ?_ ?_ ?_
    · simp -implicitDefEqProofs -proj only [go_sem, Nat.reduceBEq, Nat.reduceLT, Nat.reduceLeDiff, Nat.reduceAdd, Nat.reduceMul, ↓reduceIte, Int.reduceToNat, Int.reducePow, Int.reduceLT, Int.reduceLE, Int.reduceAdd, Int.reduceSub, Int.reduceMul, Int.reduceEq, Int.reduceNe, AllAt]
    · simp -implicitDefEqProofs -proj only [go_sem, Nat.reduceBEq, Nat.reduceLT, Nat.reduceLeDiff, Nat.reduceAdd, Nat.reduceMul, ↓reduceIte, Int.reduceToNat, Int.reducePow, Int.reduceLT, Int.reduceLE, Int.reduceAdd, Int.reduceSub, Int.reduceMul, Int.reduceEq, Int.reduceNe, AllH, n1, n2]
    · rintro c ⟨hc1, hc2, hcn⟩
      have hk : AllH (keepH [(b4, .box 31 [i64 a.f, i64 a.v, i64 w, i64 r, i64 c]), (b2, .box 31 [i64 0, i64 0, i64 0, i64 0, i64 0])]) [(b4, .box 31 [i64 a.f, i64 a.v, i64 w, i64 r, i64 c]), (b2, .box 31 [i64 0, i64 0, i64 0, i64 0, i64 0])] := keepH_all (by simp [keys, n1])
      obtain ⟨H, hH⟩ : ∃ H, keepH [(b4, .box 31 [i64 a.f, i64 a.v, i64 w, i64 r, i64 c]), (b2, .box 31 [i64 0, i64 0, i64 0, i64 0, i64 0])] = H := ⟨_, rfl⟩
      rw [hH] at hk
      obtain ⟨k4, k2, _⟩ := id hk
      rw [hH]
      by_cases hc : c < S.length
      · have ep := rowR_at (l := S) (i := c - 1) (by omega)
        have es := rowR_at hc
        have hstep := runLen_at (w := w) (r := r) (S := S) (by omega) hc
        have bp := hb _ (List.getElem_mem (show c - 1 < S.length by omega))
        have bs := hb _ (List.getElem_mem hc)
        have wc : IntKind.i64.wrap ((c : Int) - 1) = ((c - 1 : Nat) : Int) := by rw [IntKind.wrap_i64]; omega
        have hnext : ∀ (m : Nat), m = c + 1 → (S[m - 1]? = some S[c]) := fun m hm => by subst hm; simp [hc]
        rw [hstep] at hcn
        have hS : ∀ (h : c + 1 ≤ S.length), S[c + 1 - 1]'(by omega) = S[c] := fun _ => rfl
        have hin : ∀ x, runLen w r S[c] (S.drop (c + 1)) = x → c + 1 + x = n → (1 ≤ c + 1 ∧ ∃ h : c + 1 ≤ S.length, c + 1 + runLen w r (S[c + 1 - 1]'(by omega)) (S.drop (c + 1)) = n) := fun x hx hxn => ⟨by omega, by omega, by show c + 1 + runLen w r S[c] (S.drop (c + 1)) = n; rw [hx]; exact hxn⟩
        generalize runLen w r S[c] (S.drop (c + 1)) = x at *
        unfold RunOK at bp bs
        have w1 : IntKind.i64.wrap (S[c].f - S[c - 1].f) = S[c].f - S[c - 1].f := by rw [IntKind.wrap_i64]; omega
        have w2 : IntKind.i64.wrap (S[c].v - S[c - 1].v) = S[c].v - S[c - 1].v := by rw [IntKind.wrap_i64]; omega
        clear bp bs hnext hS hstep
        generalize S[c] = s at *
        generalize S[c - 1] = p at *
        simp -implicitDefEqProofs -proj only [go_sem, Nat.reduceBEq, Nat.reduceLT, Nat.reduceLeDiff, Nat.reduceAdd, Nat.reduceMul, ↓reduceIte, Int.reduceToNat, Int.reducePow, Int.reduceLT, Int.reduceLE, Int.reduceAdd, Int.reduceSub, Int.reduceMul, Int.reduceEq, Int.reduceNe, k4, k2, rowR_len, decide_eq_true (show (c : Int) < S.length by omega), wc]
        refine ElemA_at _ (by omega) ep ?_
        simp -implicitDefEqProofs -proj only [go_sem, Nat.reduceBEq, Nat.reduceLT, Nat.reduceLeDiff, Nat.reduceAdd, Nat.reduceMul, ↓reduceIte, Int.reduceToNat, Int.reducePow, Int.reduceLT, Int.reduceLE, Int.reduceAdd, Int.reduceSub, Int.reduceMul, Int.reduceEq, Int.reduceNe, k4, k2]
        refine ElemA_at _ (by omega) es ?_
        simp -implicitDefEqProofs -proj only [go_sem, Nat.reduceBEq, Nat.reduceLT, Nat.reduceLeDiff, Nat.reduceAdd, Nat.reduceMul, ↓reduceIte, Int.reduceToNat, Int.reducePow, Int.reduceLT, Int.reduceLE, Int.reduceAdd, Int.reduceSub, Int.reduceMul, Int.reduceEq, Int.reduceNe]
        refine AllocA_intro (fun b5 hb5 => ?_)
        replace hb5 : H b5 = none := hb5
        obtain ⟨m1, m2⟩ := fresh_ne hb5 k4
        obtain ⟨m3, m4⟩ := fresh_ne hb5 k2
        simp -implicitDefEqProofs -proj only [go_sem, Nat.reduceBEq, Nat.reduceLT, Nat.reduceLeDiff, Nat.reduceAdd, Nat.reduceMul, ↓reduceIte, Int.reduceToNat, Int.reducePow, Int.reduceLT, Int.reduceLE, Int.reduceAdd, Int.reduceSub, Int.reduceMul, Int.reduceEq, Int.reduceNe]
        refine AllocA_intro (fun b6 hb6 => ?_)
        replace hb6 : upd H b5 _ b6 = none := hb6
        obtain ⟨m5, m6⟩ := fresh_ne hb6 upd_eq
        have hb6' : H b6 = none := by rw [upd_ne m6] at hb6; exact hb6
        obtain ⟨m7, m8⟩ := fresh_ne hb6' k4
        obtain ⟨m9, m10⟩ := fresh_ne hb6' k2
        by_cases c1 : s.f - p.f = w
        · by_cases c2 : s.v - p.v = r
          · rw [if_pos ⟨c1, c2⟩] at hcn
            simp -implicitDefEqProofs -proj only [go_sem, Nat.reduceBEq, Nat.reduceLT, Nat.reduceLeDiff, Nat.reduceAdd, Nat.reduceMul, ↓reduceIte, Int.reduceToNat, Int.reducePow, Int.reduceLT, Int.reduceLE, Int.reduceAdd, Int.reduceSub, Int.reduceMul, Int.reduceEq, Int.reduceNe, k4, k2, m1, m3, m5, m6, m7, m9, w1, w2, decide_eq_true c1, decide_eq_true c2]
            refine LoopQ_k (c + 1) (hin _ rfl (by omega)) (by omega) rfl ?_ ?_
            · simp -implicitDefEqProofs -proj only [go_sem, Nat.reduceBEq, Nat.reduceLT, Nat.reduceLeDiff, Nat.reduceAdd, Nat.reduceMul, ↓reduceIte, Int.reduceToNat, Int.reducePow, Int.reduceLT, Int.reduceLE, Int.reduceAdd, Int.reduceSub, Int.reduceMul, Int.reduceEq, Int.reduceNe, AllAt]
            · simp -implicitDefEqProofs -proj only [go_sem, Nat.reduceBEq, Nat.reduceLT, Nat.reduceLeDiff, Nat.reduceAdd, Nat.reduceMul, ↓reduceIte, Int.reduceToNat, Int.reducePow, Int.reduceLT, Int.reduceLE, Int.reduceAdd, Int.reduceSub, Int.reduceMul, Int.reduceEq, Int.reduceNe, AllH, i64_succ (show c < 9223372036854775807 by omega), k2, n1, n2, m3, m9]
          · rw [if_neg (fun h => c2 h.2)] at hcn
            simp -implicitDefEqProofs -proj only [go_sem, Nat.reduceBEq, Nat.reduceLT, Nat.reduceLeDiff, Nat.reduceAdd, Nat.reduceMul, ↓reduceIte, Int.reduceToNat, Int.reducePow, Int.reduceLT, Int.reduceLE, Int.reduceAdd, Int.reduceSub, Int.reduceMul, Int.reduceEq, Int.reduceNe, k4, k2, m1, m3, m5, m6, m7, m9, w1, w2, decide_eq_true c1, decide_eq_false c2]
            obtain rfl : c = n := by omega
            simp -implicitDefEqProofs -proj only [go_sem, Nat.reduceBEq, Nat.reduceLT, Nat.reduceLeDiff, Nat.reduceAdd, Nat.reduceMul, ↓reduceIte, Int.reduceToNat, Int.reducePow, Int.reduceLT, Int.reduceLE, Int.reduceAdd, Int.reduceSub, Int.reduceMul, Int.reduceEq, Int.reduceNe, if_neg (show ¬ (0 : Nat) = 1 by decide), k4, k2, m1, m3, m5, m6, m7, m9, n1, n2, upd_eq, not_false_eq_true]
            exact LendV_eq rfl
        · rw [if_neg (fun h => c1 h.1)] at hcn
          simp -implicitDefEqProofs -proj only [go_sem, Nat.reduceBEq, Nat.reduceLT, Nat.reduceLeDiff, Nat.reduceAdd, Nat.reduceMul, ↓reduceIte, Int.reduceToNat, Int.reducePow, Int.reduceLT, Int.reduceLE, Int.reduceAdd, Int.reduceSub, Int.reduceMul, Int.reduceEq, Int.reduceNe, k4, k2, m1, m3, m5, m6, m7, m9, w1, w2, decide_eq_false c1]
          obtain rfl : c = n := by omega
          simp -implicitDefEqProofs -proj only [go_sem, Nat.reduceBEq, Nat.reduceLT, Nat.reduceLeDiff, Nat.reduceAdd, Nat.reduceMul, ↓reduceIte, Int.reduceToNat, Int.reducePow, Int.reduceLT, Int.reduceLE, Int.reduceAdd, Int.reduceSub, Int.reduceMul, Int.reduceEq, Int.reduceNe, if_neg (show ¬ (0 : Nat) = 1 by decide), k4, k2, m1, m3, m5, m6, m7, m9, n1, n2, upd_eq, not_false_eq_true]
          exact LendV_eq rfl
      · have : S.drop c = [] := List.drop_eq_nil_of_le (by omega)
        rw [this] at hcn
        rw [show runLen w r (S[c - 1]'(by omega)) [] = 0 from rfl] at hcn
        simp -implicitDefEqProofs -proj only [go_sem, Nat.reduceBEq, Nat.reduceLT, Nat.reduceLeDiff, Nat.reduceAdd, Nat.reduceMul, ↓reduceIte, Int.reduceToNat, Int.reducePow, Int.reduceLT, Int.reduceLE, Int.reduceAdd, Int.reduceSub, Int.reduceMul, Int.reduceEq, Int.reduceNe, k4, k2, rowR_len, decide_eq_false (show ¬ (c : Int) < S.length by omega), n1, n2, not_false_eq_true]
        obtain rfl : c = n := by omega
        exact LendV_eq rfl
def rowG (l : List Grp) : List (List D) := l.map Grp.el
theorem rowG_len {l : List Grp} : (rowG l).length = l.length := List.length_map ..
theorem rowG_at {l : List Grp} {i : Nat} (h : i < l.length) : (rowG l)[((i : Int)).toNat]? = some [.int .i64 l[i].f, .int .i64 l[i].v, .int .i64 l[i].w, .int .i64 l[i].r, .int .i64 l[i].c] := by
  rw [Int.toNat_natCast]; simp [rowG, h, Grp.el]
theorem rowG_scal {l : List Grp} : ∀ el ∈ rowG l, ∀ d ∈ el, scalD d = true := by
  intro el he d hd
  obtain ⟨r, _, rfl⟩ := List.mem_map.1 he
  simp -implicitDefEqProofs only [Grp.el, List.mem_cons, List.not_mem_nil, or_false] at hd
  rcases hd with rfl | rfl | rfl | rfl | rfl <;> rfl
theorem rowG_snoc {l : List Grp} {g : Grp} : rowG l ++ [g.el] = rowG (l ++ [g]) := by simp [rowG]
abbrev slG (l : List Grp) : AV := .d (.sl 5 (rowG l))
abbrev curveV (m : Int) (G : List Grp) : AV := .agg [i64 m, slG G]
theorem rowR_drop {l : List Run} {n : Nat} : (rowR l).drop n = rowR (l.drop n) := List.map_drop.symm
def okOf (R : List Run) : Prop := ∃ h : R ≠ [], (R.head h).f = 0 ∧ (R.getLast h).t ≤ 2000 ∧ ∀ r ∈ R, ¬ bigV r
noncomputable instance (R : List Run) : Decidable (okOf R) := Classical.propDecidable _
def lastT : List Run → Int
  | [] => 0
  | r :: R => ((r :: R).getLast (by simp)).t
noncomputable def ofV (R : List Run) : AV := if okOf R then .tup [curveV (lastT R) (groups R), bv true] else .tup [curveV 0 [], bv false]
theorem groups_step {S : List Run} (h : 0 < S.length) : groups S = (grpOf S[0] (S.drop 1)).1 :: groups (S.drop (grpOf S[0] (S.drop 1)).2) := by
  match S, h with
  | a :: l, _ => exact groups_cons
theorem new_curve {H : Heap} {m : Int} {G : List Grp} {v : AV} (h : NewV H v (slG G)) : NewV H (.agg [i64 m, v]) (curveV m G) := by
  refine .agg _ _ rfl fun j x y h1 h2 => ?_
  match j with
  | 0 => cases h1; cases h2; exact .scal _ rfl
  | 1 => cases h1; cases h2; exact h
  | j + 2 => cases h1
theorem new_tup2 {H : Heap} {x y : AV} {b : Bool} (h : NewV H x y) : NewV H (.tup [x, bv b]) (.tup [y, bv b]) := by
  refine .tup _ _ rfl fun j u v h1 h2 => ?_
  match j with
  | 0 => cases h1; cases h2; exact h
  | 1 => cases h1; cases h2; exact .scal _ rfl
  | j + 2 => cases h1
structure OfX where
  S : List Run
  c : Nat
  cap : Nat
  G : List Grp
theorem ox_S {S : List Run} {c cap : Nat} {G : List Grp} : (OfX.mk S c cap G).S = S := (rfl)
theorem ox_c {S : List Run} {c cap : Nat} {G : List Grp} : (OfX.mk S c cap G).c = c := (rfl)
theorem ox_cap {S : List Run} {c cap : Nat} {G : List Grp} : (OfX.mk S c cap G).cap = cap := (rfl)
theorem ox_G {S : List Run} {c cap : Nat} {G : List Grp} : (OfX.mk S c cap G).G = G := (rfl)
def ofB (b8 b2 : Nat) (m : Int) (y : OfX) : List (Nat × Blk) := rowH 31 5 y.c y.cap (rowG y.G) ++ [(b8, .box 24 [i64 m, rowV 5 5 y.c y.cap (rowG y.G)]), (b2, .box 24 [i64 0, .nilsl 5])]
set_option maxRecDepth 20000 in
theorem Of_curve {R : List Run} (hlR : R.length ≤ 1000000) (hok : okOf R → (∀ r ∈ R, RunOK r) ∧ R.length ≤ 3000) : NewW Try.prog f_curve_Of [lineV R] (ofV R) := by
  have hspan := Span_ok hlR
  refine CallW_intro comp_curve_Of (by simp) ?_
  simp -implicitDefEqProofs -proj only [go_sem, Nat.reduceBEq, Nat.reduceLT, Nat.reduceLeDiff, Nat.reduceAdd, Nat.reduceMul, ↓reduceIte, Int.reduceToNat, Int.reducePow, Int.reduceLT, Int.reduceLE, Int.reduceAdd, Int.reduceSub, Int.reduceMul, Int.reduceEq, Int.reduceNe]
  refine AllocA_intro (fun b1 hb1 => ?_)
  simp -implicitDefEqProofs -proj only [go_sem, Nat.reduceBEq, Nat.reduceLT, Nat.reduceLeDiff, Nat.reduceAdd, Nat.reduceMul, ↓reduceIte, Int.reduceToNat, Int.reducePow, Int.reduceLT, Int.reduceLE, Int.reduceAdd, Int.reduceSub, Int.reduceMul, Int.reduceEq, Int.reduceNe]
  refine AllocA_intro (fun b2 hb2 => ?_)
  replace hb2 : upd Heap.none b1 _ b2 = none := hb2
  obtain ⟨n1, n2⟩ := fresh_ne hb2 upd_eq
  simp -implicitDefEqProofs -proj only [go_sem, Nat.reduceBEq, Nat.reduceLT, Nat.reduceLeDiff, Nat.reduceAdd, Nat.reduceMul, ↓reduceIte, Int.reduceToNat, Int.reducePow, Int.reduceLT, Int.reduceLE, Int.reduceAdd, Int.reduceSub, Int.reduceMul, Int.reduceEq, Int.reduceNe, n1, n2]
  refine CallA_pure hspan ?_
  cases hRe : R with
  | nil =>
    have : ¬ okOf [] := fun ⟨h, _⟩ => h rfl
    rw [ofV, if_neg this]
    simp -implicitDefEqProofs -proj only [go_sem, Nat.reduceBEq, Nat.reduceLT, Nat.reduceLeDiff, Nat.reduceAdd, Nat.reduceMul, ↓reduceIte, Int.reduceToNat, Int.reducePow, Int.reduceLT, Int.reduceLE, Int.reduceAdd, Int.reduceSub, Int.reduceMul, Int.reduceEq, Int.reduceNe, spanV, n1, n2]
    exact new_tup2 (new_curve (.nilsl _ _))
  | cons a l =>
    rw [← hRe]
    have hne : R ≠ [] := by rw [hRe]; simp
    have hsv : spanV R = .tup [i64 (R.head hne).f, i64 (R.getLast hne).t, bv true] := by subst hRe; rfl
    have hlt : lastT R = (R.getLast hne).t := by subst hRe; rfl
    rw [hsv]
    by_cases h0 : (R.head hne).f = 0
    rotate_left
    · have : ¬ okOf R := fun ⟨_, h, _⟩ => h0 h
      rw [ofV, if_neg this]
      simp -implicitDefEqProofs -proj only [go_sem, Nat.reduceBEq, Nat.reduceLT, Nat.reduceLeDiff, Nat.reduceAdd, Nat.reduceMul, ↓reduceIte, Int.reduceToNat, Int.reducePow, Int.reduceLT, Int.reduceLE, Int.reduceAdd, Int.reduceSub, Int.reduceMul, Int.reduceEq, Int.reduceNe, n1, n2, decide_eq_false h0]
      exact new_tup2 (new_curve (.nilsl _ _))
    by_cases h1 : 2000 < (R.getLast hne).t
    · have : ¬ okOf R := fun ⟨_, _, h, _⟩ => by omega
      rw [ofV, if_neg this]
      simp -implicitDefEqProofs -proj only [go_sem, Nat.reduceBEq, Nat.reduceLT, Nat.reduceLeDiff, Nat.reduceAdd, Nat.reduceMul, ↓reduceIte, Int.reduceToNat, Int.reducePow, Int.reduceLT, Int.reduceLE, Int.reduceAdd, Int.reduceSub, Int.reduceMul, Int.reduceEq, Int.reduceNe, n1, n2, decide_eq_true h0, decide_eq_true h1]
      exact new_tup2 (new_curve (.nilsl _ _))
    simp -implicitDefEqProofs -proj only [go_sem, Nat.reduceBEq, Nat.reduceLT, Nat.reduceLeDiff, Nat.reduceAdd, Nat.reduceMul, ↓reduceIte, Int.reduceToNat, Int.reducePow, Int.reduceLT, Int.reduceLE, Int.reduceAdd, Int.reduceSub, Int.reduceMul, Int.reduceEq, Int.reduceNe, n1, n2, decide_eq_true h0, decide_eq_false h1]
    refine CallA_w Runs_ok ?_
    rintro r H6 ⟨bv', rfl, hbv, hv, hkeep⟩
    have k2 : H6 b2 = some (.box 24 [i64 0, .nilsl 5]) := hkeep _ _ upd_eq
    have hnb : ¬ bv' = b2 := fun e => by subst e; rw [k2] at hv; cases hv
    simp -implicitDefEqProofs -proj only [go_sem, Nat.reduceBEq, Nat.reduceLT, Nat.reduceLeDiff, Nat.reduceAdd, Nat.reduceMul, ↓reduceIte, Int.reduceToNat, Int.reducePow, Int.reduceLT, Int.reduceLE, Int.reduceAdd, Int.reduceSub, Int.reduceMul, Int.reduceEq, Int.reduceNe]
    refine CallA_w (Collect_ok (Values1_iter (b := bv') hlR) [(bv', .box 36 [slR R]), (b2, .box 24 [i64 0, .nilsl 5])] (by simp) ⟨hv, k2, trivial⟩ (by simp [keys, hnb]) hlR) ?_
    rintro r H7 ⟨rfl, hr⟩
    obtain ⟨_, k2', _⟩ := hr
    simp -implicitDefEqProofs -proj only [go_sem, Nat.reduceBEq, Nat.reduceLT, Nat.reduceLeDiff, Nat.reduceAdd, Nat.reduceMul, ↓reduceIte, Int.reduceToNat, Int.reducePow, Int.reduceLT, Int.reduceLE, Int.reduceAdd, Int.reduceSub, Int.reduceMul, Int.reduceEq, Int.reduceNe]
    refine CallA_pure (Contains_ok (fun r => Of1_ok r) hlR) ?_
    by_cases hany : (R.any fun r => decide (bigV r)) = true
    · have : ¬ okOf R := fun ⟨_, _, _, h⟩ => by
        obtain ⟨r, hr, hb⟩ := List.any_eq_true.1 hany
        exact h r hr (by simpa using hb)
      rw [ofV, if_neg this, hany]
      simp -implicitDefEqProofs -proj only [go_sem, Nat.reduceBEq, Nat.reduceLT, Nat.reduceLeDiff, Nat.reduceAdd, Nat.reduceMul, ↓reduceIte, Int.reduceToNat, Int.reducePow, Int.reduceLT, Int.reduceLE, Int.reduceAdd, Int.reduceSub, Int.reduceMul, Int.reduceEq, Int.reduceNe, k2']
      exact new_tup2 (new_curve (.nilsl _ _))
    · have hokR : okOf R := ⟨hne, h0, by omega, fun r hr hb => hany (List.any_eq_true.2 ⟨r, hr, by simpa using hb⟩)⟩
      obtain ⟨hro, hl3⟩ := hok hokR
      rw [ofV, if_pos hokR, hlt, show (R.any fun r => decide (bigV r)) = false by simpa using hany]
      generalize (R.getLast hne).t = m at *
      simp -implicitDefEqProofs -proj only [go_sem, Nat.reduceBEq, Nat.reduceLT, Nat.reduceLeDiff, Nat.reduceAdd, Nat.reduceMul, ↓reduceIte, Int.reduceToNat, Int.reducePow, Int.reduceLT, Int.reduceLE, Int.reduceAdd, Int.reduceSub, Int.reduceMul, Int.reduceEq, Int.reduceNe, k2']
      refine AllocA_intro (fun b8 hb8 => ?_)
      replace hb8 : H7 b8 = none := hb8
      obtain ⟨m1, m2⟩ := fresh_ne hb8 k2'
      simp -implicitDefEqProofs -proj only [go_sem, Nat.reduceBEq, Nat.reduceLT, Nat.reduceLeDiff, Nat.reduceAdd, Nat.reduceMul, ↓reduceIte, Int.reduceToNat, Int.reducePow, Int.reduceLT, Int.reduceLE, Int.reduceAdd, Int.reduceSub, Int.reduceMul, Int.reduceEq, Int.reduceNe, m1, m2, k2']
      refine LoopA_k (fun y : OfX => groups R = y.G ++ groups y.S ∧ (∀ r ∈ y.S, RunOK r) ∧ y.S.length ≤ 3000 ∧ y.G.length + y.S.length ≤ 3000 ∧ (keys (ofB b8 b2 m y)).Nodup) 54 (fun y => [(2, .ptr b2 0), (8, .ptr b8 0), (7, slR y.S)]) (ofB b8 b2 m) (fun y => y.S.length) ⟨R, 0, 0, []⟩ ⟨rfl, hro, hl3, by simpa using hl3, by simp [keys, ofB, ox_G, rowG, rowH_nil, m1]⟩ rfl ?_ ?_ ?_
      · simp -implicitDefEqProofs -proj only [go_sem, Nat.reduceBEq, Nat.reduceLT, Nat.reduceLeDiff, Nat.reduceAdd, Nat.reduceMul, ↓reduceIte, Int.reduceToNat, Int.reducePow, Int.reduceLT, Int.reduceLE, Int.reduceAdd, Int.reduceSub, Int.reduceMul, Int.reduceEq, Int.reduceNe, AllAt, ox_S]
      · simp -implicitDefEqProofs -proj only [go_sem, Nat.reduceBEq, Nat.reduceLT, Nat.reduceLeDiff, Nat.reduceAdd, Nat.reduceMul, ↓reduceIte, Int.reduceToNat, Int.reducePow, Int.reduceLT, Int.reduceLE, Int.reduceAdd, Int.reduceSub, Int.reduceMul, Int.reduceEq, Int.reduceNe, AllH, ofB, ox_G, ox_c, ox_cap, rowG, List.map_nil, rowH_nil, rowV_nil, m1, k2']
      · rintro ⟨S, c, cap, G⟩ ⟨hG, hSo, hSl, hGl, hn⟩
        simp -implicitDefEqProofs only [ox_S, ox_G] at hG hSo hSl hGl
        have hall := keepH_all hn
        obtain ⟨H, hH⟩ : ∃ H, keepH (ofB b8 b2 m ⟨S, c, cap, G⟩) = H := ⟨_, rfl⟩
        rw [hH] at hall
        simp -implicitDefEqProofs only [ofB, ox_S, ox_c, ox_cap, ox_G] at hall hn
        obtain ⟨hrow, h8, h2, _⟩ := AllH_app.1 hall
        by_cases hS : 0 < S.length
        · have hgrp := group_ok hS hSo hSl
          have hstep := groups_step hS
          obtain ⟨q1, q2, q3⟩ := @grpOf_le S[0] (S.drop 1)
          rw [List.length_drop] at q2
          generalize (grpOf S[0] (S.drop 1)).2 = n at *
          generalize (grpOf S[0] (S.drop 1)).1 = g at *
          simp -implicitDefEqProofs -proj only [go_sem, Nat.reduceBEq, Nat.reduceLT, Nat.reduceLeDiff, Nat.reduceAdd, Nat.reduceMul, ↓reduceIte, Int.reduceToNat, Int.reducePow, Int.reduceLT, Int.reduceLE, Int.reduceAdd, Int.reduceSub, Int.reduceMul, Int.reduceEq, Int.reduceNe, ox_S, ox_c, ox_cap, ox_G, hH, rowR_len, decide_eq_true (show 0 < (S.length : Int) by omega)]
          refine CallA_pure hgrp ?_
          simp -implicitDefEqProofs -proj only [go_sem, Nat.reduceBEq, Nat.reduceLT, Nat.reduceLeDiff, Nat.reduceAdd, Nat.reduceMul, ↓reduceIte, Int.reduceToNat, Int.reducePow, Int.reduceLT, Int.reduceLE, Int.reduceAdd, Int.reduceSub, Int.reduceMul, Int.reduceEq, Int.reduceNe]
          refine AllocA_intro (fun b9 hb9 => ?_)
          replace hb9 : H b9 = none := hb9
          obtain ⟨p1, p2⟩ := fresh_ne hb9 h8
          obtain ⟨p3, p4⟩ := fresh_ne hb9 h2
          simp -implicitDefEqProofs -proj only [go_sem, Nat.reduceBEq, Nat.reduceLT, Nat.reduceLeDiff, Nat.reduceAdd, Nat.reduceMul, ↓reduceIte, Int.reduceToNat, Int.reducePow, Int.reduceLT, Int.reduceLE, Int.reduceAdd, Int.reduceSub, Int.reduceMul, Int.reduceEq, Int.reduceNe, p1, p3, h8, h2]
          refine AllocR_intro (fun bs hs' => ?_)
          replace hs' : upd H b9 _ bs = none := hs'
          simp -implicitDefEqProofs -proj only [go_sem, Nat.reduceBEq, Nat.reduceLT, Nat.reduceLeDiff, Nat.reduceAdd, Nat.reduceMul, ↓reduceIte, Int.reduceToNat, Int.reducePow, Int.reduceLT, Int.reduceLE, Int.reduceAdd, Int.reduceSub, Int.reduceMul, Int.reduceEq, Int.reduceNe]
          refine AppendA_grow (xs := rowG G) (y := g.el) (t := 31) (capc := 1) [(b8, .box 24 [i64 m, rowV 5 5 c cap (rowG G)]), (b2, .box 24 [i64 0, .nilsl 5])] rfl (AllH_upd hs' (AllH_upd hb9 hall)) hn (by simp -implicitDefEqProofs -proj only [go_sem, Nat.reduceBEq, Nat.reduceLT, Nat.reduceLeDiff, Nat.reduceAdd, Nat.reduceMul, ↓reduceIte, Int.reduceToNat, Int.reducePow, Int.reduceLT, Int.reduceLE, Int.reduceAdd, Int.reduceSub, Int.reduceMul, Int.reduceEq, Int.reduceNe]; rfl) (by rw [rowG_len]; omega) (by rw [rowG_len]; omega) (fun H' c' cap' ha hk => ?_)
          obtain ⟨hrow', hbox⟩ := AllH_app.1 ha
          simp -implicitDefEqProofs -proj only [go_sem, Nat.reduceBEq, Nat.reduceLT, Nat.reduceLeDiff, Nat.reduceAdd, Nat.reduceMul, ↓reduceIte, Int.reduceToNat, Int.reducePow, Int.reduceLT, Int.reduceLE, Int.reduceAdd, Int.reduceSub, Int.reduceMul, Int.reduceEq, Int.reduceNe, hbox.1, SliceA_sl, rowR_len, evO, intOpd, Option.getD_none, Option.getD_some, Int.toNat_natCast]
          refine VC_intro (by omega) (fun _ => ?_)
          rw [rowG_snoc] at hrow' hk ha
          rw [show (rowR S).take S.length = rowR S from List.take_of_length_le (by rw [rowR_len]; omega), rowR_drop]
          refine LoopQ_k ⟨S.drop n, c', cap', G ++ [g]⟩ ⟨by simp -implicitDefEqProofs only [ox_S, ox_G]; rw [hG, hstep]; simp, fun r hr => hSo r (List.mem_of_mem_drop hr), by simp -implicitDefEqProofs only [ox_S, List.length_drop]; omega, by simp -implicitDefEqProofs only [ox_S, ox_G, List.length_drop, List.length_append, List.length_singleton]; omega, ?_⟩ (by show (S.drop n).length < S.length; rw [List.length_drop]; omega) rfl ?_ ?_
          · simpa only [keys, ofB, ox_S, ox_c, ox_cap, ox_G, List.map_append, List.map_cons, List.map_nil] using hk
          · simp -implicitDefEqProofs -proj only [go_sem, Nat.reduceBEq, Nat.reduceLT, Nat.reduceLeDiff, Nat.reduceAdd, Nat.reduceMul, ↓reduceIte, Int.reduceToNat, Int.reducePow, Int.reduceLT, Int.reduceLE, Int.reduceAdd, Int.reduceSub, Int.reduceMul, Int.reduceEq, Int.reduceNe, AllAt, ox_S]
          · have hne2 : rowG (G ++ [g]) ≠ [] := by simp [rowG]
            refine AllH_app.2 ⟨?_, ?_⟩
            · refine drop_all hrow' ?_
              simp -implicitDefEqProofs only [keys, List.map_append, List.nodup_append, List.map_cons, List.map_nil, List.mem_cons] at hk
              exact fun hm => hk.2.2 _ hm _ (.inl rfl) rfl
            · have := upd_all (x' := .box 24 [i64 m, .own c' 5 0 ((rowG G).length + 1) cap']) hbox (by simp -implicitDefEqProofs only [keys, List.map_append, List.nodup_append] at hk ⊢; exact hk.2.1)
              simp -implicitDefEqProofs only [ox_S, ox_c, ox_cap, ox_G, rowV_ne hne2, show (rowG (G ++ [g])).length = (rowG G).length + 1 by simp [rowG]]
              exact this
        · have hS0 : S = [] := List.length_eq_zero_iff.1 (by omega)
          subst hS0
          rw [groups_nil, List.append_nil] at hG
          obtain ⟨x1, x2⟩ : ¬ b8 = b2 ∧ ¬ b2 = b8 := ⟨m1, m2⟩
          simp -implicitDefEqProofs -proj only [go_sem, Nat.reduceBEq, Nat.reduceLT, Nat.reduceLeDiff, Nat.reduceAdd, Nat.reduceMul, ↓reduceIte, Int.reduceToNat, Int.reducePow, Int.reduceLT, Int.reduceLE, Int.reduceAdd, Int.reduceSub, Int.reduceMul, Int.reduceEq, Int.reduceNe, ox_S, ox_c, ox_cap, ox_G, hH, rowR_len, decide_eq_false (show ¬ 0 < ((([] : List Run).length : Nat) : Int) by simp), h8, h2, m1, m2]
          rw [hG]
          refine new_tup2 (new_curve (rowV_new (drop_all hrow ?_) rowG_scal))
          simp -implicitDefEqProofs only [keys, List.map_append, List.nodup_append, List.map_cons, List.map_nil, List.mem_cons] at hn
          exact fun hm => hn.2.2 _ hm _ (.inr (.inl rfl)) rfl
structure GrpOK (g : Grp) : Prop where
  f : 0 ≤ g.f ∧ g.f ≤ 3000
  w : 0 ≤ g.w ∧ g.w ≤ 3000
  c : 1 ≤ g.c ∧ g.c ≤ 3001
  v : -2305843009213693952 ≤ g.v ∧ g.v ≤ 2305843009213693952
  r : ∀ j : Int, 0 ≤ j → j ≤ g.c - 1 → -4611686018427387904 ≤ j * g.r ∧ j * g.r ≤ 4611686018427387904
theorem grp_ok {val : Int → Int} {lo hi : Int} {a : Run} {l : List Run} (h : FwdOK val lo hi (a :: l)) (hb : ∀ r ∈ a :: l, RunOK r) (hl : l.length ≤ 3000) : GrpOK (grpOf a l).1 := by
  obtain ⟨h1, h2, h3⟩ := @grpOf_le a l
  have ha := hb a (List.mem_cons_self ..)
  refine ⟨?_, ?_, by omega, ?_, ?_⟩
  · have : (grpOf a l).1.f = a.f := by cases l <;> rfl
    rw [this]; exact ha.1
  · rcases grp_wide h with ⟨w0, w1, w2, w3⟩ | ⟨w0, w1, w2, w3⟩
    · omega
    · refine ⟨by omega, ?_⟩
      cases l with
      | nil => exact absurd rfl w0
      | cons b l =>
        have hbb := (hb b (by simp)).1
        show b.f - a.f ≤ 3000
        have := ha.1
        omega
  · have : (grpOf a l).1.v = a.v := by cases l <;> rfl
    rw [this]; exact ha.2
  · intro j hj0 hj
    obtain ⟨n, rfl⟩ := Int.eq_ofNat_of_zero_le hj0
    obtain ⟨g1, g2, g3⟩ := grp_nth (a := a) (l := l) n (by omega)
    have hbn := (hb _ (List.getElem_mem g1)).2
    have : (grpOf a l).1.v = a.v := by cases l <;> rfl
    rw [g3, this] at hbn
    have := ha.2
    omega
theorem groups_ok {val : Int → Int} {hi : Int} : ∀ (n : Nat) {R : List Run} {lo : Int}, R.length ≤ n → FwdOK val lo hi R → (∀ r ∈ R, RunOK r) → R.length ≤ 3000 → ∀ g ∈ groups R, GrpOK g
  | _, [], lo, _, h, hb, hl, g, hg => by cases hg
  | 0, a :: l, lo, hn, h, hb, hl, g, hg => absurd hn (by simp)
  | n + 1, a :: l, lo, hn, h, hb, hl, g, hg => by
    obtain ⟨h1, h2, hc⟩ := @grpOf_le a l
    simp -implicitDefEqProofs only [List.length_cons] at hn hl
    obtain ⟨m, k1, k2, k3⟩ := FwdOK.drop (grpOf a l).2 h (by simp -implicitDefEqProofs only [List.length_cons]; omega)
    have hl' : ((a :: l).drop (grpOf a l).2).length ≤ l.length := by rw [List.length_drop]; simp -implicitDefEqProofs only [List.length_cons]; omega
    rw [groups_cons] at hg
    rcases List.mem_cons.1 hg with rfl | hg
    · exact grp_ok h hb (by omega)
    · exact groups_ok n (by omega) k1 (fun r hr => hb r (List.mem_of_mem_drop hr)) (by omega) g hg
theorem atG_app {q : Int} : ∀ {L M : List Grp}, atG (L ++ M) q = match atG M q with
    | some v => some v
    | none => atG L q
  | [], M => by simp -implicitDefEqProofs only [List.nil_append, atG]; cases atG M q <;> rfl
  | g :: L, M => by
    rw [List.cons_append, atG, atG_app]
    cases atG M q <;> rfl
theorem atG_snoc {q : Int} {L : List Grp} {g : Grp} : atG (L ++ [g]) q = if g.f ≤ q then some (valG g q) else atG L q := by
  rw [atG_app]
  simp -implicitDefEqProofs only [atG]
  by_cases h : g.f ≤ q
  · rw [if_pos h, if_pos h]
  · rw [if_neg h, if_neg h]
theorem quo_bound {g : Grp} {q : Int} (h : GrpOK g) (hw : ¬ g.w < 1) (hq : g.f ≤ q) : 0 ≤ (q - g.f).tdiv g.w ∧ (q - g.f).tdiv g.w ≤ q - g.f := by
  have := h.w
  rw [Int.tdiv_eq_ediv_of_nonneg (by omega)]
  exact ⟨Int.ediv_nonneg (by omega) (by omega), Int.ediv_le_self _ (by omega)⟩
set_option maxRecDepth 20000 in
theorem CAt_ok {m q : Int} {G : List Grp} (hG : ∀ g ∈ G, GrpOK g) (hl : G.length ≤ 3001) (hq : Fit q) (hm : m ≤ 3000) : DataW Try.prog f_curve_At [curveV m G, i64 q] (optR (if q < 0 ∨ m < q then none else atG G q)) := by
  refine CallW_intro comp_curve_At (by simp) ?_
  simp -implicitDefEqProofs -proj only [go_sem, Nat.reduceBEq, Nat.reduceLT, Nat.reduceLeDiff, Nat.reduceAdd, Nat.reduceMul, ↓reduceIte, Int.reduceToNat, Int.reducePow, Int.reduceLT, Int.reduceLE, Int.reduceAdd, Int.reduceSub, Int.reduceMul, Int.reduceEq, Int.reduceNe]
  refine AllocA_intro (fun b2 hb2 => ?_)
  by_cases h1 : q < 0
  · rw [if_pos (.inl h1)]
    simp -implicitDefEqProofs -proj only [go_sem, Nat.reduceBEq, Nat.reduceLT, Nat.reduceLeDiff, Nat.reduceAdd, Nat.reduceMul, ↓reduceIte, Int.reduceToNat, Int.reducePow, Int.reduceLT, Int.reduceLE, Int.reduceAdd, Int.reduceSub, Int.reduceMul, Int.reduceEq, Int.reduceNe, decide_eq_true h1]
    exact LendV_eq rfl
  by_cases h2 : m < q
  · rw [if_pos (.inr h2)]
    simp -implicitDefEqProofs -proj only [go_sem, Nat.reduceBEq, Nat.reduceLT, Nat.reduceLeDiff, Nat.reduceAdd, Nat.reduceMul, ↓reduceIte, Int.reduceToNat, Int.reducePow, Int.reduceLT, Int.reduceLE, Int.reduceAdd, Int.reduceSub, Int.reduceMul, Int.reduceEq, Int.reduceNe, decide_eq_false h1, decide_eq_true h2]
    exact LendV_eq rfl
  rw [if_neg (by omega)]
  have hwl : IntKind.i64.wrap ((G.length : Int) - 1) = (G.length : Int) - 1 := by rw [IntKind.wrap_i64]; omega
  simp -implicitDefEqProofs -proj only [go_sem, Nat.reduceBEq, Nat.reduceLT, Nat.reduceLeDiff, Nat.reduceAdd, Nat.reduceMul, ↓reduceIte, Int.reduceToNat, Int.reducePow, Int.reduceLT, Int.reduceLE, Int.reduceAdd, Int.reduceSub, Int.reduceMul, Int.reduceEq, Int.reduceNe, decide_eq_false h1, decide_eq_false h2, rowG_len, hwl]
  refine LoopA_k (fun n : Nat => n ≤ G.length ∧ atG G q = atG (G.take n) q) 63 (fun n => [(1, i64 q), (2, .ptr b2 0), (6, i64 ((n : Int) - 1))]) (fun _ => [(b2, .box 24 [i64 m, slG G])]) (fun n => n) G.length ⟨Nat.le_refl _, by rw [List.take_length]⟩ rfl ?_ ?_ ?_
  · simp -implicitDefEqProofs -proj only [go_sem, Nat.reduceBEq, Nat.reduceLT, Nat.reduceLeDiff, Nat.reduceAdd, Nat.reduceMul, ↓reduceIte, Int.reduceToNat, Int.reducePow, Int.reduceLT, Int.reduceLE, Int.reduceAdd, Int.reduceSub, Int.reduceMul, Int.reduceEq, Int.reduceNe, AllAt]
  · simp -implicitDefEqProofs -proj only [go_sem, Nat.reduceBEq, Nat.reduceLT, Nat.reduceLeDiff, Nat.reduceAdd, Nat.reduceMul, ↓reduceIte, Int.reduceToNat, Int.reducePow, Int.reduceLT, Int.reduceLE, Int.reduceAdd, Int.reduceSub, Int.reduceMul, Int.reduceEq, Int.reduceNe, AllH]
  · rintro n ⟨hn, hat⟩
    have hk : AllH (keepH [(b2, .box 24 [i64 m, slG G])]) [(b2, .box 24 [i64 m, slG G])] := keepH_all (by simp [keys])
    have k2 := hk.1
    by_cases h0 : n = 0
    · subst h0
      rw [List.take_zero] at hat
      rw [hat]
      simp -implicitDefEqProofs -proj only [go_sem, Nat.reduceBEq, Nat.reduceLT, Nat.reduceLeDiff, Nat.reduceAdd, Nat.reduceMul, ↓reduceIte, Int.reduceToNat, Int.reducePow, Int.reduceLT, Int.reduceLE, Int.reduceAdd, Int.reduceSub, Int.reduceMul, Int.reduceEq, Int.reduceNe, k2, decide_eq_false (show ¬ (0 : Int) ≤ 0 - 1 by omega), decide_eq_true (show (0 : Int) - 1 < 0 by omega)]
      exact LendV_eq rfl
    · obtain ⟨j, rfl⟩ : ∃ j, n = j + 1 := ⟨n - 1, by omega⟩
      have hj : j < G.length := by omega
      have hel := rowG_at hj
      have hgok := hG _ (List.getElem_mem hj)
      have hts : G.take (j + 1) = G.take j ++ [G[j]] := List.take_succ_eq_append_getElem hj
      rw [hts, atG_snoc] at hat
      generalize G[j] = g at *
      have e1 : (((j + 1 : Nat) : Int)) - 1 = j := by omega
      have w1 : IntKind.i64.wrap ((j : Int) - 1) = (j : Int) - 1 := by rw [IntKind.wrap_i64]; omega
      simp -implicitDefEqProofs -proj only [go_sem, Nat.reduceBEq, Nat.reduceLT, Nat.reduceLeDiff, Nat.reduceAdd, Nat.reduceMul, ↓reduceIte, Int.reduceToNat, Int.reducePow, Int.reduceLT, Int.reduceLE, Int.reduceAdd, Int.reduceSub, Int.reduceMul, Int.reduceEq, Int.reduceNe, k2, e1, decide_eq_true (show (0 : Int) ≤ j by omega)]
      refine ElemA_at _ (by omega) hel ?_
      by_cases hf : q < g.f
      · rw [if_neg (by omega)] at hat
        simp -implicitDefEqProofs -proj only [go_sem, Nat.reduceBEq, Nat.reduceLT, Nat.reduceLeDiff, Nat.reduceAdd, Nat.reduceMul, ↓reduceIte, Int.reduceToNat, Int.reducePow, Int.reduceLT, Int.reduceLE, Int.reduceAdd, Int.reduceSub, Int.reduceMul, Int.reduceEq, Int.reduceNe, decide_eq_true hf, w1]
        refine LoopQ_k j ⟨by omega, hat⟩ (by omega) rfl ?_ hk
        simp -implicitDefEqProofs -proj only [go_sem, Nat.reduceBEq, Nat.reduceLT, Nat.reduceLeDiff, Nat.reduceAdd, Nat.reduceMul, ↓reduceIte, Int.reduceToNat, Int.reducePow, Int.reduceLT, Int.reduceLE, Int.reduceAdd, Int.reduceSub, Int.reduceMul, Int.reduceEq, Int.reduceNe, AllAt]
      · rw [if_pos (by omega)] at hat
        rw [hat]
        simp -implicitDefEqProofs -proj only [go_sem, Nat.reduceBEq, Nat.reduceLT, Nat.reduceLeDiff, Nat.reduceAdd, Nat.reduceMul, ↓reduceIte, Int.reduceToNat, Int.reducePow, Int.reduceLT, Int.reduceLE, Int.reduceAdd, Int.reduceSub, Int.reduceMul, Int.reduceEq, Int.reduceNe, k2, decide_eq_false hf, decide_eq_false (show ¬ (j : Int) < 0 by omega)]
        refine ElemA_at _ (by omega) hel ?_
        simp -implicitDefEqProofs -proj only [go_sem, Nat.reduceBEq, Nat.reduceLT, Nat.reduceLeDiff, Nat.reduceAdd, Nat.reduceMul, ↓reduceIte, Int.reduceToNat, Int.reducePow, Int.reduceLT, Int.reduceLE, Int.reduceAdd, Int.reduceSub, Int.reduceMul, Int.reduceEq, Int.reduceNe]
        refine AllocA_intro (fun b7 hb7 => ?_)
        unfold valG
        by_cases hw : g.w < 1
        · rw [if_pos hw]
          simp -implicitDefEqProofs -proj only [go_sem, Nat.reduceBEq, Nat.reduceLT, Nat.reduceLeDiff, Nat.reduceAdd, Nat.reduceMul, ↓reduceIte, Int.reduceToNat, Int.reducePow, Int.reduceLT, Int.reduceLE, Int.reduceAdd, Int.reduceSub, Int.reduceMul, Int.reduceEq, Int.reduceNe, decide_eq_true hw]
          exact LendV_eq rfl
        · rw [if_neg hw]
          obtain ⟨q1, q2⟩ := quo_bound (q := q) hgok hw (by omega)
          have gf := hgok.f
          have gw := hgok.w
          have gc := hgok.c
          have gv := hgok.v
          have gr := hgok.r (min ((q - g.f).tdiv g.w) (g.c - 1)) (by omega) (by omega)
          unfold Fit at hq
          have w2 : IntKind.i64.wrap (q - g.f) = q - g.f := by rw [IntKind.wrap_i64]; omega
          have w3 : IntKind.i64.wrap (g.c - 1) = g.c - 1 := by rw [IntKind.wrap_i64]; omega
          have w4 : IntKind.i64.wrap ((q - g.f).tdiv g.w) = (q - g.f).tdiv g.w := by rw [IntKind.wrap_i64]; omega
          have w5 : IntKind.i64.wrap (min ((q - g.f).tdiv g.w) (g.c - 1) * g.r) = min ((q - g.f).tdiv g.w) (g.c - 1) * g.r := by rw [IntKind.wrap_i64]; omega
          have w6 : IntKind.i64.wrap (g.v + min ((q - g.f).tdiv g.w) (g.c - 1) * g.r) = g.v + min ((q - g.f).tdiv g.w) (g.c - 1) * g.r := by rw [IntKind.wrap_i64]; omega
          simp -implicitDefEqProofs -proj only [go_sem, Nat.reduceBEq, Nat.reduceLT, Nat.reduceLeDiff, Nat.reduceAdd, Nat.reduceMul, ↓reduceIte, Int.reduceToNat, Int.reducePow, Int.reduceLT, Int.reduceLE, Int.reduceAdd, Int.reduceSub, Int.reduceMul, Int.reduceEq, Int.reduceNe, decide_eq_false hw, w2, w3, w4, w5, w6]
          refine VC_intro (by omega) (fun _ => ?_)
          exact LendV_eq rfl
theorem grp_dec (p q : Grp) : (decide (p.f = q.f) && (decide (p.v = q.v) && (decide (p.w = q.w) && (decide (p.r = q.r) && decide (p.c = q.c))))) = decide (p = q) := by
  obtain ⟨a, b, c, d, e⟩ := p
  obtain ⟨a', b', c', d', e'⟩ := q
  simp -implicitDefEqProofs only [Grp.mk.injEq]
  rw [← Bool.decide_and, ← Bool.decide_and, ← Bool.decide_and, ← Bool.decide_and]
theorem GEq_ok {a b : List Grp} (ha : a.length ≤ 1000000) (hb : b.length ≤ 1000000) : DataW Try.prog f_slices_Equal_api_Group [slG a, slG b] (bv (decide (a = b))) := by
  refine CallW_intro comp_slices_Equal_api_Group (by simp) ?_
  by_cases hl : a.length = b.length
  · simp -implicitDefEqProofs -proj only [go_sem, Nat.reduceBEq, Nat.reduceLT, Nat.reduceLeDiff, Nat.reduceAdd, Nat.reduceMul, ↓reduceIte, Int.reduceToNat, Int.reducePow, Int.reduceLT, Int.reduceLE, Int.reduceAdd, Int.reduceSub, Int.reduceMul, Int.reduceEq, Int.reduceNe, rowG_len, decide_eq_true (show (a.length : Int) = b.length by omega)]
    refine LoopA_k (fun i : Nat => i ≤ a.length ∧ ∀ (j : Nat) (h : j < a.length) (h' : j < b.length), j < i → a[j] = b[j]) 26 (fun i => [(0, slG a), (1, slG b), (12, i64 a.length), (13, i64 i)]) (fun _ => []) (fun i => a.length - i) 0 ⟨Nat.zero_le _, fun j _ _ h => absurd h (Nat.not_lt_zero _)⟩ rfl ?_ ?_ ?_
    · simp -implicitDefEqProofs -proj only [go_sem, Nat.reduceBEq, Nat.reduceLT, Nat.reduceLeDiff, Nat.reduceAdd, Nat.reduceMul, ↓reduceIte, Int.reduceToNat, Int.reducePow, Int.reduceLT, Int.reduceLE, Int.reduceAdd, Int.reduceSub, Int.reduceMul, Int.reduceEq, Int.reduceNe, AllAt, rowG_len]
    · trivial
    · rintro i ⟨hi, hs⟩
      by_cases h : i < a.length
      · have h' : i < b.length := by omega
        have e1 := rowG_at h
        have e2 := rowG_at h'
        have hd := grp_dec a[i] b[i]
        have hgo : a[i] = b[i] → ∀ (j : Nat) (h : j < a.length) (h' : j < b.length), j < i + 1 → a[j] = b[j] := by
          intro e j h1 h2 h3
          by_cases hj : j = i
          · subst hj; exact e
          · exact hs j h1 h2 (by omega)
        have hno : a[i] ≠ b[i] → a ≠ b := fun hne e => hne (by subst e; rfl)
        generalize a[i] = p at *
        generalize b[i] = q at *
        simp -implicitDefEqProofs -proj only [go_sem, Nat.reduceBEq, Nat.reduceLT, Nat.reduceLeDiff, Nat.reduceAdd, Nat.reduceMul, ↓reduceIte, Int.reduceToNat, Int.reducePow, Int.reduceLT, Int.reduceLE, Int.reduceAdd, Int.reduceSub, Int.reduceMul, Int.reduceEq, Int.reduceNe, decide_eq_true (show (i : Int) < a.length by omega)]
        refine ElemA_at _ (by omega) e1 ?_
        simp -implicitDefEqProofs -proj only [go_sem, Nat.reduceBEq, Nat.reduceLT, Nat.reduceLeDiff, Nat.reduceAdd, Nat.reduceMul, ↓reduceIte, Int.reduceToNat, Int.reducePow, Int.reduceLT, Int.reduceLE, Int.reduceAdd, Int.reduceSub, Int.reduceMul, Int.reduceEq, Int.reduceNe]
        refine ElemA_at _ (by omega) e2 ?_
        by_cases hpq : p = q
        · rw [decide_eq_true hpq] at hd
          simp -implicitDefEqProofs -proj only [go_sem, Nat.reduceBEq, Nat.reduceLT, Nat.reduceLeDiff, Nat.reduceAdd, Nat.reduceMul, ↓reduceIte, Int.reduceToNat, Int.reducePow, Int.reduceLT, Int.reduceLE, Int.reduceAdd, Int.reduceSub, Int.reduceMul, Int.reduceEq, Int.reduceNe, hd]
          (repeat' first
    | (with_reducible refine Guard_split (fun h => ?_) (fun h => ?_) <;> (simp -implicitDefEqProofs -proj only [go_sem, Nat.reduceBEq, Nat.reduceLT, Nat.reduceLeDiff, Nat.reduceAdd, Nat.reduceMul, ↓reduceIte, Int.reduceToNat, Int.reducePow, Int.reduceLT, Int.reduceLE, Int.reduceAdd, Int.reduceSub, Int.reduceMul, Int.reduceEq, Int.reduceNe, h, hd]; try (revert h; intro _)))
    | (with_reducible refine Cond_split (fun h => ?_) (fun h => ?_) <;> (simp -implicitDefEqProofs -proj only [go_sem, Nat.reduceBEq, Nat.reduceLT, Nat.reduceLeDiff, Nat.reduceAdd, Nat.reduceMul, ↓reduceIte, Int.reduceToNat, Int.reducePow, Int.reduceLT, Int.reduceLE, Int.reduceAdd, Int.reduceSub, Int.reduceMul, Int.reduceEq, Int.reduceNe, h, hd]; try (revert h; intro _)))
    | (with_reducible refine Pick_split (fun h => ?_) (fun h => ?_) <;> (simp -implicitDefEqProofs -proj only [go_sem, Nat.reduceBEq, Nat.reduceLT, Nat.reduceLeDiff, Nat.reduceAdd, Nat.reduceMul, ↓reduceIte, Int.reduceToNat, Int.reducePow, Int.reduceLT, Int.reduceLE, Int.reduceAdd, Int.reduceSub, Int.reduceMul, Int.reduceEq, Int.reduceNe, h, hd]; try (revert h; intro _)))
    | (with_reducible refine AllocA_intro (fun _ hb => ?_); simp -implicitDefEqProofs only [upd_none, keepH_none, keepH_nil, Heap.none_get, and_true, true_and] at hb; simp -implicitDefEqProofs -proj only [go_sem, Nat.reduceBEq, Nat.reduceLT, Nat.reduceLeDiff, Nat.reduceAdd, Nat.reduceMul, ↓reduceIte, Int.reduceToNat, Int.reducePow, Int.reduceLT, Int.reduceLE, Int.reduceAdd, Int.reduceSub, Int.reduceMul, Int.reduceEq, Int.reduceNe, hd]; try (revert hb; intro _))
    | (with_reducible refine AllocR_intro (fun _ hb => ?_); simp -implicitDefEqProofs only [upd_none, keepH_none, keepH_nil, Heap.none_get, and_true, true_and] at hb; simp -implicitDefEqProofs -proj only [go_sem, Nat.reduceBEq, Nat.reduceLT, Nat.reduceLeDiff, Nat.reduceAdd, Nat.reduceMul, ↓reduceIte, Int.reduceToNat, Int.reducePow, Int.reduceLT, Int.reduceLE, Int.reduceAdd, Int.reduceSub, Int.reduceMul, Int.reduceEq, Int.reduceNe, hd]; try (revert hb; intro _))
    | (with_reducible refine IdxE_1 _ rfl (by simp) ?_; simp -implicitDefEqProofs -proj only [go_sem, Nat.reduceBEq, Nat.reduceLT, Nat.reduceLeDiff, Nat.reduceAdd, Nat.reduceMul, ↓reduceIte, Int.reduceToNat, Int.reducePow, Int.reduceLT, Int.reduceLE, Int.reduceAdd, Int.reduceSub, Int.reduceMul, Int.reduceEq, Int.reduceNe, hd])
    | (with_reducible refine IdxE_n _ rfl (by simp) ?_; simp -implicitDefEqProofs -proj only [go_sem, Nat.reduceBEq, Nat.reduceLT, Nat.reduceLeDiff, Nat.reduceAdd, Nat.reduceMul, ↓reduceIte, Int.reduceToNat, Int.reducePow, Int.reduceLT, Int.reduceLE, Int.reduceAdd, Int.reduceSub, Int.reduceMul, Int.reduceEq, Int.reduceNe, hd])
    | (with_reducible refine VC_intro ?_ (fun h => ?_); (focus first | decide | omega); try clear h; try simp -implicitDefEqProofs -proj only [go_sem, Nat.reduceBEq, Nat.reduceLT, Nat.reduceLeDiff, Nat.reduceAdd, Nat.reduceMul, ↓reduceIte, Int.reduceToNat, Int.reducePow, Int.reduceLT, Int.reduceLE, Int.reduceAdd, Int.reduceSub, Int.reduceMul, Int.reduceEq, Int.reduceNe, hd])
    | (with_reducible refine VC_intro ?_ (fun h => ?_); rotate_left; try clear h; try simp -implicitDefEqProofs -proj only [go_sem, Nat.reduceBEq, Nat.reduceLT, Nat.reduceLeDiff, Nat.reduceAdd, Nat.reduceMul, ↓reduceIte, Int.reduceToNat, Int.reducePow, Int.reduceLT, Int.reduceLE, Int.reduceAdd, Int.reduceSub, Int.reduceMul, Int.reduceEq, Int.reduceNe, hd]; rotate_right))
          refine LoopQ_k (i + 1) ⟨by omega, hgo hpq⟩ (by omega) rfl ?_ trivial
          simp -implicitDefEqProofs -proj only [go_sem, Nat.reduceBEq, Nat.reduceLT, Nat.reduceLeDiff, Nat.reduceAdd, Nat.reduceMul, ↓reduceIte, Int.reduceToNat, Int.reducePow, Int.reduceLT, Int.reduceLE, Int.reduceAdd, Int.reduceSub, Int.reduceMul, Int.reduceEq, Int.reduceNe, AllAt, i64_succ (show i < 9223372036854775807 by omega)]
        · rw [decide_eq_false hpq] at hd
          simp -implicitDefEqProofs -proj only [go_sem, Nat.reduceBEq, Nat.reduceLT, Nat.reduceLeDiff, Nat.reduceAdd, Nat.reduceMul, ↓reduceIte, Int.reduceToNat, Int.reducePow, Int.reduceLT, Int.reduceLE, Int.reduceAdd, Int.reduceSub, Int.reduceMul, Int.reduceEq, Int.reduceNe, hd]
          (repeat' first
    | (with_reducible refine Guard_split (fun h => ?_) (fun h => ?_) <;> (simp -implicitDefEqProofs -proj only [go_sem, Nat.reduceBEq, Nat.reduceLT, Nat.reduceLeDiff, Nat.reduceAdd, Nat.reduceMul, ↓reduceIte, Int.reduceToNat, Int.reducePow, Int.reduceLT, Int.reduceLE, Int.reduceAdd, Int.reduceSub, Int.reduceMul, Int.reduceEq, Int.reduceNe, h, hd]; try (revert h; intro _)))
    | (with_reducible refine Cond_split (fun h => ?_) (fun h => ?_) <;> (simp -implicitDefEqProofs -proj only [go_sem, Nat.reduceBEq, Nat.reduceLT, Nat.reduceLeDiff, Nat.reduceAdd, Nat.reduceMul, ↓reduceIte, Int.reduceToNat, Int.reducePow, Int.reduceLT, Int.reduceLE, Int.reduceAdd, Int.reduceSub, Int.reduceMul, Int.reduceEq, Int.reduceNe, h, hd]; try (revert h; intro _)))
    | (with_reducible refine Pick_split (fun h => ?_) (fun h => ?_) <;> (simp -implicitDefEqProofs -proj only [go_sem, Nat.reduceBEq, Nat.reduceLT, Nat.reduceLeDiff, Nat.reduceAdd, Nat.reduceMul, ↓reduceIte, Int.reduceToNat, Int.reducePow, Int.reduceLT, Int.reduceLE, Int.reduceAdd, Int.reduceSub, Int.reduceMul, Int.reduceEq, Int.reduceNe, h, hd]; try (revert h; intro _)))
    | (with_reducible refine AllocA_intro (fun _ hb => ?_); simp -implicitDefEqProofs only [upd_none, keepH_none, keepH_nil, Heap.none_get, and_true, true_and] at hb; simp -implicitDefEqProofs -proj only [go_sem, Nat.reduceBEq, Nat.reduceLT, Nat.reduceLeDiff, Nat.reduceAdd, Nat.reduceMul, ↓reduceIte, Int.reduceToNat, Int.reducePow, Int.reduceLT, Int.reduceLE, Int.reduceAdd, Int.reduceSub, Int.reduceMul, Int.reduceEq, Int.reduceNe, hd]; try (revert hb; intro _))
    | (with_reducible refine AllocR_intro (fun _ hb => ?_); simp -implicitDefEqProofs only [upd_none, keepH_none, keepH_nil, Heap.none_get, and_true, true_and] at hb; simp -implicitDefEqProofs -proj only [go_sem, Nat.reduceBEq, Nat.reduceLT, Nat.reduceLeDiff, Nat.reduceAdd, Nat.reduceMul, ↓reduceIte, Int.reduceToNat, Int.reducePow, Int.reduceLT, Int.reduceLE, Int.reduceAdd, Int.reduceSub, Int.reduceMul, Int.reduceEq, Int.reduceNe, hd]; try (revert hb; intro _))
    | (with_reducible refine IdxE_1 _ rfl (by simp) ?_; simp -implicitDefEqProofs -proj only [go_sem, Nat.reduceBEq, Nat.reduceLT, Nat.reduceLeDiff, Nat.reduceAdd, Nat.reduceMul, ↓reduceIte, Int.reduceToNat, Int.reducePow, Int.reduceLT, Int.reduceLE, Int.reduceAdd, Int.reduceSub, Int.reduceMul, Int.reduceEq, Int.reduceNe, hd])
    | (with_reducible refine IdxE_n _ rfl (by simp) ?_; simp -implicitDefEqProofs -proj only [go_sem, Nat.reduceBEq, Nat.reduceLT, Nat.reduceLeDiff, Nat.reduceAdd, Nat.reduceMul, ↓reduceIte, Int.reduceToNat, Int.reducePow, Int.reduceLT, Int.reduceLE, Int.reduceAdd, Int.reduceSub, Int.reduceMul, Int.reduceEq, Int.reduceNe, hd])
    | (with_reducible refine VC_intro ?_ (fun h => ?_); (focus first | decide | omega); try clear h; try simp -implicitDefEqProofs -proj only [go_sem, Nat.reduceBEq, Nat.reduceLT, Nat.reduceLeDiff, Nat.reduceAdd, Nat.reduceMul, ↓reduceIte, Int.reduceToNat, Int.reducePow, Int.reduceLT, Int.reduceLE, Int.reduceAdd, Int.reduceSub, Int.reduceMul, Int.reduceEq, Int.reduceNe, hd])
    | (with_reducible refine VC_intro ?_ (fun h => ?_); rotate_left; try clear h; try simp -implicitDefEqProofs -proj only [go_sem, Nat.reduceBEq, Nat.reduceLT, Nat.reduceLeDiff, Nat.reduceAdd, Nat.reduceMul, ↓reduceIte, Int.reduceToNat, Int.reducePow, Int.reduceLT, Int.reduceLE, Int.reduceAdd, Int.reduceSub, Int.reduceMul, Int.reduceEq, Int.reduceNe, hd]; rotate_right))
          exact LendV_eq (by rw [decide_eq_false (hno hpq)])
      · have hi' : i = a.length := by omega
        subst hi'
        have heq : a = b := List.ext_getElem hl fun j h1 h2 => hs j h1 h2 h1
        simp -implicitDefEqProofs -proj only [go_sem, Nat.reduceBEq, Nat.reduceLT, Nat.reduceLeDiff, Nat.reduceAdd, Nat.reduceMul, ↓reduceIte, Int.reduceToNat, Int.reducePow, Int.reduceLT, Int.reduceLE, Int.reduceAdd, Int.reduceSub, Int.reduceMul, Int.reduceEq, Int.reduceNe, decide_eq_false (show ¬ (a.length : Int) < a.length by omega)]
        exact LendV_eq (by rw [decide_eq_true heq])
  · simp -implicitDefEqProofs -proj only [go_sem, Nat.reduceBEq, Nat.reduceLT, Nat.reduceLeDiff, Nat.reduceAdd, Nat.reduceMul, ↓reduceIte, Int.reduceToNat, Int.reducePow, Int.reduceLT, Int.reduceLE, Int.reduceAdd, Int.reduceSub, Int.reduceMul, Int.reduceEq, Int.reduceNe, rowG_len, decide_eq_false (show ¬ (a.length : Int) = b.length by omega)]
    exact LendV_eq (by rw [decide_eq_false (fun e => hl (by rw [e]))])
theorem CSame_ok {m n : Int} {a b : List Grp} (ha : a.length ≤ 1000000) (hb : b.length ≤ 1000000) : DataW Try.prog f_curve_Same [curveV m a, curveV n b] (bv (decide (m = n ∧ a = b))) := by
  refine CallW_intro comp_curve_Same (by simp) ?_
  simp -implicitDefEqProofs -proj only [go_sem, Nat.reduceBEq, Nat.reduceLT, Nat.reduceLeDiff, Nat.reduceAdd, Nat.reduceMul, ↓reduceIte, Int.reduceToNat, Int.reducePow, Int.reduceLT, Int.reduceLE, Int.reduceAdd, Int.reduceSub, Int.reduceMul, Int.reduceEq, Int.reduceNe]
  refine AllocA_intro (fun b2 hb2 => ?_)
  simp -implicitDefEqProofs -proj only [go_sem, Nat.reduceBEq, Nat.reduceLT, Nat.reduceLeDiff, Nat.reduceAdd, Nat.reduceMul, ↓reduceIte, Int.reduceToNat, Int.reducePow, Int.reduceLT, Int.reduceLE, Int.reduceAdd, Int.reduceSub, Int.reduceMul, Int.reduceEq, Int.reduceNe]
  refine AllocA_intro (fun b3 hb3 => ?_)
  replace hb3 : upd Heap.none b2 _ b3 = none := hb3
  obtain ⟨n1, n2⟩ := fresh_ne hb3 upd_eq
  by_cases h : m = n
  · simp -implicitDefEqProofs -proj only [go_sem, Nat.reduceBEq, Nat.reduceLT, Nat.reduceLeDiff, Nat.reduceAdd, Nat.reduceMul, ↓reduceIte, Int.reduceToNat, Int.reducePow, Int.reduceLT, Int.reduceLE, Int.reduceAdd, Int.reduceSub, Int.reduceMul, Int.reduceEq, Int.reduceNe, n1, n2, decide_eq_true h]
    refine CallA_pure (GEq_ok ha hb) ?_
    simp -implicitDefEqProofs -proj only [go_sem, Nat.reduceBEq, Nat.reduceLT, Nat.reduceLeDiff, Nat.reduceAdd, Nat.reduceMul, ↓reduceIte, Int.reduceToNat, Int.reducePow, Int.reduceLT, Int.reduceLE, Int.reduceAdd, Int.reduceSub, Int.reduceMul, Int.reduceEq, Int.reduceNe]
    exact LendV_eq (congrArg bv (decide_eq_decide.2 ⟨fun e => ⟨h, e⟩, fun e => e.2⟩))
  · simp -implicitDefEqProofs -proj only [go_sem, Nat.reduceBEq, Nat.reduceLT, Nat.reduceLeDiff, Nat.reduceAdd, Nat.reduceMul, ↓reduceIte, Int.reduceToNat, Int.reducePow, Int.reduceLT, Int.reduceLE, Int.reduceAdd, Int.reduceSub, Int.reduceMul, Int.reduceEq, Int.reduceNe, n1, n2, decide_eq_false h]
    exact LendV_eq (by rw [decide_eq_false (fun e => h e.1)])
theorem RSame_ok {m n : Int} {a b : List Grp} (ha : a.length ≤ 1000000) (hb : b.length ≤ 1000000) : DataW Try.prog f_poundageref15_Same [curveV m a, curveV n b] (bv (decide (m = n ∧ a = b))) := by
  refine CallW_intro comp_poundageref15_Same (by simp) ?_
  simp -implicitDefEqProofs -proj only [go_sem, Nat.reduceBEq, Nat.reduceLT, Nat.reduceLeDiff, Nat.reduceAdd, Nat.reduceMul, ↓reduceIte, Int.reduceToNat, Int.reducePow, Int.reduceLT, Int.reduceLE, Int.reduceAdd, Int.reduceSub, Int.reduceMul, Int.reduceEq, Int.reduceNe]
  refine AllocA_intro (fun b2 hb2 => ?_)
  simp -implicitDefEqProofs -proj only [go_sem, Nat.reduceBEq, Nat.reduceLT, Nat.reduceLeDiff, Nat.reduceAdd, Nat.reduceMul, ↓reduceIte, Int.reduceToNat, Int.reducePow, Int.reduceLT, Int.reduceLE, Int.reduceAdd, Int.reduceSub, Int.reduceMul, Int.reduceEq, Int.reduceNe]
  refine AllocA_intro (fun b3 hb3 => ?_)
  replace hb3 : upd Heap.none b2 _ b3 = none := hb3
  obtain ⟨n1, n2⟩ := fresh_ne hb3 upd_eq
  by_cases hm : m = n
  rotate_left
  · simp -implicitDefEqProofs -proj only [go_sem, Nat.reduceBEq, Nat.reduceLT, Nat.reduceLeDiff, Nat.reduceAdd, Nat.reduceMul, ↓reduceIte, Int.reduceToNat, Int.reducePow, Int.reduceLT, Int.reduceLE, Int.reduceAdd, Int.reduceSub, Int.reduceMul, Int.reduceEq, Int.reduceNe, n1, n2, decide_eq_false hm]
    exact LendV_eq (by rw [decide_eq_false (fun e => hm e.1)])
  by_cases hl : a.length = b.length
  rotate_left
  · simp -implicitDefEqProofs -proj only [go_sem, Nat.reduceBEq, Nat.reduceLT, Nat.reduceLeDiff, Nat.reduceAdd, Nat.reduceMul, ↓reduceIte, Int.reduceToNat, Int.reducePow, Int.reduceLT, Int.reduceLE, Int.reduceAdd, Int.reduceSub, Int.reduceMul, Int.reduceEq, Int.reduceNe, n1, n2, decide_eq_true hm, rowG_len, decide_eq_false (show ¬ (a.length : Int) = b.length by omega)]
    exact LendV_eq (by rw [decide_eq_false (fun e => hl (by rw [e.2]))])
  simp -implicitDefEqProofs -proj only [go_sem, Nat.reduceBEq, Nat.reduceLT, Nat.reduceLeDiff, Nat.reduceAdd, Nat.reduceMul, ↓reduceIte, Int.reduceToNat, Int.reducePow, Int.reduceLT, Int.reduceLE, Int.reduceAdd, Int.reduceSub, Int.reduceMul, Int.reduceEq, Int.reduceNe, n1, n2, decide_eq_true hm, rowG_len, decide_eq_true (show (a.length : Int) = b.length by omega)]
  refine LoopA_k (fun i : Nat => i ≤ a.length ∧ ∀ (j : Nat) (h : j < a.length) (h' : j < b.length), j < i → a[j] = b[j]) 38 (fun i => [(2, .ptr b2 0), (3, .ptr b3 0), (22, i64 a.length), (23, i64 i)]) (fun _ => [(b3, .box 24 [i64 n, slG b]), (b2, .box 24 [i64 m, slG a])]) (fun i => a.length - i) 0 ⟨Nat.zero_le _, fun j _ _ h => absurd h (Nat.not_lt_zero _)⟩ rfl ?_ ?_ ?_
  · simp -implicitDefEqProofs -proj only [go_sem, Nat.reduceBEq, Nat.reduceLT, Nat.reduceLeDiff, Nat.reduceAdd, Nat.reduceMul, ↓reduceIte, Int.reduceToNat, Int.reducePow, Int.reduceLT, Int.reduceLE, Int.reduceAdd, Int.reduceSub, Int.reduceMul, Int.reduceEq, Int.reduceNe, AllAt, rowG_len]
  · simp -implicitDefEqProofs -proj only [go_sem, Nat.reduceBEq, Nat.reduceLT, Nat.reduceLeDiff, Nat.reduceAdd, Nat.reduceMul, ↓reduceIte, Int.reduceToNat, Int.reducePow, Int.reduceLT, Int.reduceLE, Int.reduceAdd, Int.reduceSub, Int.reduceMul, Int.reduceEq, Int.reduceNe, AllH, n1, n2]
  · rintro i ⟨hi, hs⟩
    have hk : AllH (keepH [(b3, .box 24 [i64 n, slG b]), (b2, .box 24 [i64 m, slG a])]) [(b3, .box 24 [i64 n, slG b]), (b2, .box 24 [i64 m, slG a])] := keepH_all (by simp [keys, n1])
    obtain ⟨k3, k2, _⟩ := id hk
    by_cases h : i < a.length
    · have h' : i < b.length := by omega
      have e1 := rowG_at h
      have e2 := rowG_at h'
      have hd := grp_dec a[i] b[i]
      have hgo : a[i] = b[i] → ∀ (j : Nat) (h : j < a.length) (h' : j < b.length), j < i + 1 → a[j] = b[j] := by
        intro e j h1 h2 h3
        by_cases hj : j = i
        · subst hj; exact e
        · exact hs j h1 h2 (by omega)
      have hno : a[i] ≠ b[i] → a ≠ b := fun hne e => hne (by subst e; rfl)
      generalize a[i] = p at *
      generalize b[i] = q at *
      simp -implicitDefEqProofs -proj only [go_sem, Nat.reduceBEq, Nat.reduceLT, Nat.reduceLeDiff, Nat.reduceAdd, Nat.reduceMul, ↓reduceIte, Int.reduceToNat, Int.reducePow, Int.reduceLT, Int.reduceLE, Int.reduceAdd, Int.reduceSub, Int.reduceMul, Int.reduceEq, Int.reduceNe, k3, k2, n2, decide_eq_true (show (i : Int) < a.length by omega)]
      refine ElemA_at _ (by omega) e1 ?_
      simp -implicitDefEqProofs -proj only [go_sem, Nat.reduceBEq, Nat.reduceLT, Nat.reduceLeDiff, Nat.reduceAdd, Nat.reduceMul, ↓reduceIte, Int.reduceToNat, Int.reducePow, Int.reduceLT, Int.reduceLE, Int.reduceAdd, Int.reduceSub, Int.reduceMul, Int.reduceEq, Int.reduceNe, k3, k2, n1, n2]
      refine ElemA_at _ (by omega) e2 ?_
      by_cases hpq : p = q
      · rw [decide_eq_true hpq] at hd
        simp -implicitDefEqProofs -proj only [go_sem, Nat.reduceBEq, Nat.reduceLT, Nat.reduceLeDiff, Nat.reduceAdd, Nat.reduceMul, ↓reduceIte, Int.reduceToNat, Int.reducePow, Int.reduceLT, Int.reduceLE, Int.reduceAdd, Int.reduceSub, Int.reduceMul, Int.reduceEq, Int.reduceNe, hd]
        (repeat' first
    | (with_reducible refine Guard_split (fun h => ?_) (fun h => ?_) <;> (simp -implicitDefEqProofs -proj only [go_sem, Nat.reduceBEq, Nat.reduceLT, Nat.reduceLeDiff, Nat.reduceAdd, Nat.reduceMul, ↓reduceIte, Int.reduceToNat, Int.reducePow, Int.reduceLT, Int.reduceLE, Int.reduceAdd, Int.reduceSub, Int.reduceMul, Int.reduceEq, Int.reduceNe, h, hd]; try (revert h; intro _)))
    | (with_reducible refine Cond_split (fun h => ?_) (fun h => ?_) <;> (simp -implicitDefEqProofs -proj only [go_sem, Nat.reduceBEq, Nat.reduceLT, Nat.reduceLeDiff, Nat.reduceAdd, Nat.reduceMul, ↓reduceIte, Int.reduceToNat, Int.reducePow, Int.reduceLT, Int.reduceLE, Int.reduceAdd, Int.reduceSub, Int.reduceMul, Int.reduceEq, Int.reduceNe, h, hd]; try (revert h; intro _)))
    | (with_reducible refine Pick_split (fun h => ?_) (fun h => ?_) <;> (simp -implicitDefEqProofs -proj only [go_sem, Nat.reduceBEq, Nat.reduceLT, Nat.reduceLeDiff, Nat.reduceAdd, Nat.reduceMul, ↓reduceIte, Int.reduceToNat, Int.reducePow, Int.reduceLT, Int.reduceLE, Int.reduceAdd, Int.reduceSub, Int.reduceMul, Int.reduceEq, Int.reduceNe, h, hd]; try (revert h; intro _)))
    | (with_reducible refine AllocA_intro (fun _ hb => ?_); simp -implicitDefEqProofs only [upd_none, keepH_none, keepH_nil, Heap.none_get, and_true, true_and] at hb; simp -implicitDefEqProofs -proj only [go_sem, Nat.reduceBEq, Nat.reduceLT, Nat.reduceLeDiff, Nat.reduceAdd, Nat.reduceMul, ↓reduceIte, Int.reduceToNat, Int.reducePow, Int.reduceLT, Int.reduceLE, Int.reduceAdd, Int.reduceSub, Int.reduceMul, Int.reduceEq, Int.reduceNe, hd]; try (revert hb; intro _))
    | (with_reducible refine AllocR_intro (fun _ hb => ?_); simp -implicitDefEqProofs only [upd_none, keepH_none, keepH_nil, Heap.none_get, and_true, true_and] at hb; simp -implicitDefEqProofs -proj only [go_sem, Nat.reduceBEq, Nat.reduceLT, Nat.reduceLeDiff, Nat.reduceAdd, Nat.reduceMul, ↓reduceIte, Int.reduceToNat, Int.reducePow, Int.reduceLT, Int.reduceLE, Int.reduceAdd, Int.reduceSub, Int.reduceMul, Int.reduceEq, Int.reduceNe, hd]; try (revert hb; intro _))
    | (with_reducible refine IdxE_1 _ rfl (by simp) ?_; simp -implicitDefEqProofs -proj only [go_sem, Nat.reduceBEq, Nat.reduceLT, Nat.reduceLeDiff, Nat.reduceAdd, Nat.reduceMul, ↓reduceIte, Int.reduceToNat, Int.reducePow, Int.reduceLT, Int.reduceLE, Int.reduceAdd, Int.reduceSub, Int.reduceMul, Int.reduceEq, Int.reduceNe, hd])
    | (with_reducible refine IdxE_n _ rfl (by simp) ?_; simp -implicitDefEqProofs -proj only [go_sem, Nat.reduceBEq, Nat.reduceLT, Nat.reduceLeDiff, Nat.reduceAdd, Nat.reduceMul, ↓reduceIte, Int.reduceToNat, Int.reducePow, Int.reduceLT, Int.reduceLE, Int.reduceAdd, Int.reduceSub, Int.reduceMul, Int.reduceEq, Int.reduceNe, hd])
    | (with_reducible refine VC_intro ?_ (fun h => ?_); (focus first | decide | omega); try clear h; try simp -implicitDefEqProofs -proj only [go_sem, Nat.reduceBEq, Nat.reduceLT, Nat.reduceLeDiff, Nat.reduceAdd, Nat.reduceMul, ↓reduceIte, Int.reduceToNat, Int.reducePow, Int.reduceLT, Int.reduceLE, Int.reduceAdd, Int.reduceSub, Int.reduceMul, Int.reduceEq, Int.reduceNe, hd])
    | (with_reducible refine VC_intro ?_ (fun h => ?_); rotate_left; try clear h; try simp -implicitDefEqProofs -proj only [go_sem, Nat.reduceBEq, Nat.reduceLT, Nat.reduceLeDiff, Nat.reduceAdd, Nat.reduceMul, ↓reduceIte, Int.reduceToNat, Int.reducePow, Int.reduceLT, Int.reduceLE, Int.reduceAdd, Int.reduceSub, Int.reduceMul, Int.reduceEq, Int.reduceNe, hd]; rotate_right))
        refine LoopQ_k (i + 1) ⟨by omega, hgo hpq⟩ (by omega) rfl ?_ hk
        simp -implicitDefEqProofs -proj only [go_sem, Nat.reduceBEq, Nat.reduceLT, Nat.reduceLeDiff, Nat.reduceAdd, Nat.reduceMul, ↓reduceIte, Int.reduceToNat, Int.reducePow, Int.reduceLT, Int.reduceLE, Int.reduceAdd, Int.reduceSub, Int.reduceMul, Int.reduceEq, Int.reduceNe, AllAt, i64_succ (show i < 9223372036854775807 by omega)]
      · rw [decide_eq_false hpq] at hd
        simp -implicitDefEqProofs -proj only [go_sem, Nat.reduceBEq, Nat.reduceLT, Nat.reduceLeDiff, Nat.reduceAdd, Nat.reduceMul, ↓reduceIte, Int.reduceToNat, Int.reducePow, Int.reduceLT, Int.reduceLE, Int.reduceAdd, Int.reduceSub, Int.reduceMul, Int.reduceEq, Int.reduceNe, hd]
        (repeat' first
    | (with_reducible refine Guard_split (fun h => ?_) (fun h => ?_) <;> (simp -implicitDefEqProofs -proj only [go_sem, Nat.reduceBEq, Nat.reduceLT, Nat.reduceLeDiff, Nat.reduceAdd, Nat.reduceMul, ↓reduceIte, Int.reduceToNat, Int.reducePow, Int.reduceLT, Int.reduceLE, Int.reduceAdd, Int.reduceSub, Int.reduceMul, Int.reduceEq, Int.reduceNe, h, hd]; try (revert h; intro _)))
    | (with_reducible refine Cond_split (fun h => ?_) (fun h => ?_) <;> (simp -implicitDefEqProofs -proj only [go_sem, Nat.reduceBEq, Nat.reduceLT, Nat.reduceLeDiff, Nat.reduceAdd, Nat.reduceMul, ↓reduceIte, Int.reduceToNat, Int.reducePow, Int.reduceLT, Int.reduceLE, Int.reduceAdd, Int.reduceSub, Int.reduceMul, Int.reduceEq, Int.reduceNe, h, hd]; try (revert h; intro _)))
    | (with_reducible refine Pick_split (fun h => ?_) (fun h => ?_) <;> (simp -implicitDefEqProofs -proj only [go_sem, Nat.reduceBEq, Nat.reduceLT, Nat.reduceLeDiff, Nat.reduceAdd, Nat.reduceMul, ↓reduceIte, Int.reduceToNat, Int.reducePow, Int.reduceLT, Int.reduceLE, Int.reduceAdd, Int.reduceSub, Int.reduceMul, Int.reduceEq, Int.reduceNe, h, hd]; try (revert h; intro _)))
    | (with_reducible refine AllocA_intro (fun _ hb => ?_); simp -implicitDefEqProofs only [upd_none, keepH_none, keepH_nil, Heap.none_get, and_true, true_and] at hb; simp -implicitDefEqProofs -proj only [go_sem, Nat.reduceBEq, Nat.reduceLT, Nat.reduceLeDiff, Nat.reduceAdd, Nat.reduceMul, ↓reduceIte, Int.reduceToNat, Int.reducePow, Int.reduceLT, Int.reduceLE, Int.reduceAdd, Int.reduceSub, Int.reduceMul, Int.reduceEq, Int.reduceNe, hd]; try (revert hb; intro _))
    | (with_reducible refine AllocR_intro (fun _ hb => ?_); simp -implicitDefEqProofs only [upd_none, keepH_none, keepH_nil, Heap.none_get, and_true, true_and] at hb; simp -implicitDefEqProofs -proj only [go_sem, Nat.reduceBEq, Nat.reduceLT, Nat.reduceLeDiff, Nat.reduceAdd, Nat.reduceMul, ↓reduceIte, Int.reduceToNat, Int.reducePow, Int.reduceLT, Int.reduceLE, Int.reduceAdd, Int.reduceSub, Int.reduceMul, Int.reduceEq, Int.reduceNe, hd]; try (revert hb; intro _))
    | (with_reducible refine IdxE_1 _ rfl (by simp) ?_; simp -implicitDefEqProofs -proj only [go_sem, Nat.reduceBEq, Nat.reduceLT, Nat.reduceLeDiff, Nat.reduceAdd, Nat.reduceMul, ↓reduceIte, Int.reduceToNat, Int.reducePow, Int.reduceLT, Int.reduceLE, Int.reduceAdd, Int.reduceSub, Int.reduceMul, Int.reduceEq, Int.reduceNe, hd])
    | (with_reducible refine IdxE_n _ rfl (by simp) ?_; simp -implicitDefEqProofs -proj only [go_sem, Nat.reduceBEq, Nat.reduceLT, Nat.reduceLeDiff, Nat.reduceAdd, Nat.reduceMul, ↓reduceIte, Int.reduceToNat, Int.reducePow, Int.reduceLT, Int.reduceLE, Int.reduceAdd, Int.reduceSub, Int.reduceMul, Int.reduceEq, Int.reduceNe, hd])
    | (with_reducible refine VC_intro ?_ (fun h => ?_); (focus first | decide | omega); try clear h; try simp -implicitDefEqProofs -proj only [go_sem, Nat.reduceBEq, Nat.reduceLT, Nat.reduceLeDiff, Nat.reduceAdd, Nat.reduceMul, ↓reduceIte, Int.reduceToNat, Int.reducePow, Int.reduceLT, Int.reduceLE, Int.reduceAdd, Int.reduceSub, Int.reduceMul, Int.reduceEq, Int.reduceNe, hd])
    | (with_reducible refine VC_intro ?_ (fun h => ?_); rotate_left; try clear h; try simp -implicitDefEqProofs -proj only [go_sem, Nat.reduceBEq, Nat.reduceLT, Nat.reduceLeDiff, Nat.reduceAdd, Nat.reduceMul, ↓reduceIte, Int.reduceToNat, Int.reducePow, Int.reduceLT, Int.reduceLE, Int.reduceAdd, Int.reduceSub, Int.reduceMul, Int.reduceEq, Int.reduceNe, hd]; rotate_right))
        exact LendV_eq (by rw [decide_eq_false (fun e => hno hpq e.2)])
    · have hi' : i = a.length := by omega
      subst hi'
      have heq : a = b := List.ext_getElem hl fun j h1 h2 => hs j h1 h2 h1
      simp -implicitDefEqProofs -proj only [go_sem, Nat.reduceBEq, Nat.reduceLT, Nat.reduceLeDiff, Nat.reduceAdd, Nat.reduceMul, ↓reduceIte, Int.reduceToNat, Int.reducePow, Int.reduceLT, Int.reduceLE, Int.reduceAdd, Int.reduceSub, Int.reduceMul, Int.reduceEq, Int.reduceNe, decide_eq_false (show ¬ (a.length : Int) < a.length by omega)]
      exact LendV_eq (by rw [decide_eq_true ⟨hm, heq⟩])
theorem FwdOK.mem_val {val : Int → Int} {hi : Int} : ∀ {R : List Run} {lo : Int}, FwdOK val lo hi R → ∀ r ∈ R, lo ≤ r.f ∧ r.f ≤ r.t ∧ r.t < hi ∧ val r.f = r.v
  | a :: R, lo, ⟨g1, g2, g3, g4, g5⟩, r, hr => by
    have hle := g5.le
    rcases List.mem_cons.1 hr with rfl | hr
    · exact ⟨by omega, g2, by omega, g3 _ (by omega) g2⟩
    · obtain ⟨h1, h2, h3, h4⟩ := FwdOK.mem_val g5 r hr
      exact ⟨by omega, h2, h3, h4⟩
theorem FwdOK.val_mem {val : Int → Int} {lo hi : Int} {R : List Run} (h : FwdOK val lo hi R) {x : Int} (h1 : lo ≤ x) (h2 : x < hi) : ∃ r ∈ R, r.v = val x := by
  obtain ⟨m, k1, k2, k3⟩ := FwdOK.drop R.length h (Nat.le_refl _)
  rw [List.drop_length] at k1
  have : m = hi := k1
  obtain ⟨j, j1, j2, j3, j4, j5, j6⟩ := k3 x h1 (by omega)
  exact ⟨_, List.getElem_mem j1, j5.symm⟩
def smallV (v : Int) : Prop := -2305843009213693952 ≤ v ∧ v ≤ 2305843009213693952
instance (v : Int) : Decidable (smallV v) := by unfold smallV; exact inferInstance
theorem valL_get {f : Int} {l : List Int} {i : Nat} (h : i < l.length) : valL f l (f + (i : Int)) = l[i] := by
  unfold valL
  rw [show (f + (i : Int) - f).toNat = i by omega]
  simp [h]
theorem runs_nil {f : Int} {l : List Int} : runs f l = [] ↔ l = [] := by
  constructor
  · intro h
    have := runs_fwd f l
    rw [h] at this
    have e : f = f + l.length := this
    exact List.length_eq_zero_iff.1 (by omega)
  · rintro rfl; rfl
theorem runs_ends {f : Int} {l : List Int} (h : runs f l ≠ []) : ((runs f l).head h).f = f ∧ ((runs f l).getLast h).t = f + l.length - 1 := (runs_fwd f l).ends h
theorem lastT_runs {f : Int} {l : List Int} (h : l ≠ []) : lastT (runs f l) = f + l.length - 1 := by
  have hne : runs f l ≠ [] := fun e => h (runs_nil.1 e)
  have := (runs_ends hne).2
  rw [← this]
  generalize runs f l = R at *
  cases R with
  | nil => exact absurd rfl hne
  | cons a R => rfl
theorem okOf_runs {f : Int} {l : List Int} : okOf (runs f l) ↔ l ≠ [] ∧ f = 0 ∧ f + l.length - 1 ≤ 2000 ∧ ∀ v ∈ l, smallV v := by
  have hF := runs_fwd f l
  constructor
  · rintro ⟨h, h1, h2, h3⟩
    obtain ⟨e1, e2⟩ := runs_ends h
    refine ⟨fun e => h (runs_nil.2 e), by omega, by omega, fun v hv => ?_⟩
    obtain ⟨i, hi, rfl⟩ := List.getElem_of_mem hv
    obtain ⟨r, hr, hrv⟩ := hF.val_mem (x := f + i) (by omega) (by omega)
    rw [valL_get hi] at hrv
    have := h3 r hr
    unfold bigV at this
    unfold smallV
    omega
  · rintro ⟨h, h1, h2, h3⟩
    have hne : runs f l ≠ [] := fun e => h (runs_nil.1 e)
    obtain ⟨e1, e2⟩ := runs_ends hne
    refine ⟨hne, by omega, by omega, fun r hr => ?_⟩
    obtain ⟨g1, g2, g3, g4⟩ := hF.mem_val r hr
    have : r.v ∈ l := by
      rw [← g4]
      have hi : (r.f - f).toNat < l.length := by omega
      have := valL_get (f := f) hi
      rw [show f + (((r.f - f).toNat : Nat) : Int) = r.f by omega] at this
      rw [this]
      exact List.getElem_mem hi
    have := h3 _ this
    unfold smallV at this
    unfold bigV
    omega
theorem runs_small {l : List Int} (h : okOf (runs 0 l)) : (∀ r ∈ runs 0 l, RunOK r) ∧ (runs 0 l).length ≤ 3000 := by
  obtain ⟨h1, h2, h3, h4⟩ := okOf_runs.1 h
  have hF := runs_fwd 0 l
  refine ⟨fun r hr => ?_, ?_⟩
  · obtain ⟨g1, g2, g3, g4⟩ := hF.mem_val r hr
    obtain ⟨_, _, _, hb⟩ := h
    have := hb r hr
    unfold bigV at this
    exact ⟨by omega, by omega⟩
  · have := runsN_len (from' := 0) (l := l) l.length
    show (runsN 0 l l.length).length ≤ 3000
    omega
/-- A list that has a curve. -/
def CurL (l : List Int) : Prop := l ≠ [] ∧ l.length ≤ 2001 ∧ ∀ v ∈ l, smallV v
noncomputable instance (l : List Int) : Decidable (CurL l) := Classical.propDecidable _
theorem curL_ok {l : List Int} : okOf (runs 0 l) ↔ CurL l := by
  rw [okOf_runs]
  constructor
  · rintro ⟨h1, h2, h3, h4⟩; exact ⟨h1, by omega, h4⟩
  · rintro ⟨h1, h2, h3⟩; exact ⟨h1, rfl, by omega, h3⟩
abbrev gps (l : List Int) : List Grp := groups (runs 0 l)
theorem gps_at {l : List Int} {i : Nat} (h : i < l.length) : atG (gps l) i = some l[i] := by
  have := (atG_groups _ (Nat.le_refl _) (runs_fwd 0 l) (i : Int)).2 (by omega) (by omega)
  rw [← valL_get (f := 0) h, Int.zero_add]
  exact this
theorem gps_ok {l : List Int} (h : CurL l) : ∀ g ∈ gps l, GrpOK g := by
  obtain ⟨h1, h2⟩ := runs_small (curL_ok.2 h)
  exact groups_ok _ (Nat.le_refl _) (runs_fwd 0 l) h1 h2
theorem gps_len {l : List Int} : (gps l).length ≤ l.length := Nat.le_trans (groups_len (Nat.le_refl _)) (runsN_len l.length)
theorem gps_first {l : List Int} (h : l ≠ []) : ∃ hh : 0 < (gps l).length, (gps l)[0].f = 0 := by
  have hne : runs 0 l ≠ [] := fun e => h (runs_nil.1 e)
  have he := (runs_ends hne).1
  unfold gps
  generalize runs 0 l = R at *
  cases R with
  | nil => exact absurd rfl hne
  | cons a R =>
    rw [groups_cons]
    refine ⟨by simp, ?_⟩
    simp -implicitDefEqProofs only [List.getElem_cons_zero]
    have : (grpOf a R).1.f = a.f := by cases R <;> rfl
    rw [this]
    exact he
/-- The curve of a list. -/
abbrev curL (l : List Int) : AV := curveV ((l.length : Int) - 1) (gps l)
theorem ofV_runs {l : List Int} : ofV (runs 0 l) = if CurL l then .tup [curL l, bv true] else .tup [curveV 0 [], bv false] := by
  unfold ofV
  by_cases h : CurL l
  · rw [if_pos h, if_pos (curL_ok.2 h), lastT_runs h.1, Int.zero_add]
  · rw [if_neg h, if_neg (fun e => h (curL_ok.1 e))]
theorem OfL_ok {l : List Int} (hl : l.length ≤ 999999) : NewW Try.prog f_curve_Of [lineV (runs 0 l)] (if CurL l then .tup [curL l, bv true] else .tup [curveV 0 [], bv false]) := by
  have := Of_curve (R := runs 0 l) (Nat.le_trans (runsN_len l.length) (by omega)) runs_small
  rwa [ofV_runs] at this
theorem AtL_ok {l : List Int} (h : CurL l) {i : Nat} (hi : i < l.length) : DataW Try.prog f_curve_At [curL l, i64 i] (.tup [i64 l[i], bv true]) := by
  have h1 := h.2.1
  have := CAt_ok (m := (l.length : Int) - 1) (q := (i : Int)) (gps_ok h) (Nat.le_trans gps_len (by omega)) (by unfold Fit; omega) (by omega)
  rwa [if_neg (by omega), gps_at hi] at this
structure BackY where
  i : Nat
  c : Nat
  cap : Nat
theorem by_i {i c cap : Nat} : (BackY.mk i c cap).i = i := (rfl)
theorem by_c {i c cap : Nat} : (BackY.mk i c cap).c = c := (rfl)
theorem by_cap {i c cap : Nat} : (BackY.mk i c cap).cap = cap := (rfl)
def lineL (b1 b2 : Nat) (l : List Int) (y : BackY) : List (Nat × Blk) := rowH 3 1 y.c y.cap (rowI (l.take y.i)) ++ [(b2, .box 38 [.nilsl 3]), (b1, .box 24 [i64 ((l.length : Int) - 1), slG (gps l)])]
set_option maxRecDepth 20000 in
theorem LineL_ok {l : List Int} (h : CurL l) : DataW Try.prog f_curve_Line [curL l] (.tup [lineV (runs 0 l), bv true]) := by
  obtain ⟨hne, h1, h2⟩ := id h
  have hn0 : 0 < l.length := List.length_pos_iff.2 hne
  have hgl := gps_len (l := l)
  obtain ⟨hg0, hgf⟩ := gps_first hne
  have hel0 := rowG_at hg0
  rw [hgf] at hel0
  have hof := Of_new (from' := 0) (l := l) (by omega) (by omega)
  have hwl : IntKind.i64.wrap ((l.length : Int) - 1 + 1) = (l.length : Int) := by rw [IntKind.wrap_i64]; omega
  refine CallW_intro comp_curve_Line (by simp) ?_
  simp -implicitDefEqProofs -proj only [go_sem, Nat.reduceBEq, Nat.reduceLT, Nat.reduceLeDiff, Nat.reduceAdd, Nat.reduceMul, ↓reduceIte, Int.reduceToNat, Int.reducePow, Int.reduceLT, Int.reduceLE, Int.reduceAdd, Int.reduceSub, Int.reduceMul, Int.reduceEq, Int.reduceNe]
  refine AllocA_intro (fun b1 hb1 => ?_)
  simp -implicitDefEqProofs -proj only [go_sem, Nat.reduceBEq, Nat.reduceLT, Nat.reduceLeDiff, Nat.reduceAdd, Nat.reduceMul, ↓reduceIte, Int.reduceToNat, Int.reducePow, Int.reduceLT, Int.reduceLE, Int.reduceAdd, Int.reduceSub, Int.reduceMul, Int.reduceEq, Int.reduceNe]
  refine AllocA_intro (fun b2 hb2 => ?_)
  have a1 := alloc_all (x := .box 24 [i64 ((l.length : Int) - 1), slG (gps l)]) hb1 (l := []) trivial
  have k1 := alloc_keys (x := .box 24 [i64 ((l.length : Int) - 1), slG (gps l)]) hb1 (l := []) trivial List.nodup_nil
  have a2 := alloc_all (x := .box 38 [.nilsl 3]) hb2 a1
  have k2 := alloc_keys (x := .box 38 [.nilsl 3]) hb2 a1 k1
  replace hb2 : upd Heap.none b1 _ b2 = none := hb2
  obtain ⟨n1, n2⟩ := fresh_ne hb2 upd_eq
  simp -implicitDefEqProofs -proj only [go_sem, Nat.reduceBEq, Nat.reduceLT, Nat.reduceLeDiff, Nat.reduceAdd, Nat.reduceMul, ↓reduceIte, Int.reduceToNat, Int.reducePow, Int.reduceLT, Int.reduceLE, Int.reduceAdd, Int.reduceSub, Int.reduceMul, Int.reduceEq, Int.reduceNe, n1, n2, rowG_len, decide_eq_false (show ¬ (l.length : Int) - 1 < 0 by omega), decide_eq_false (show ¬ 2000 < (l.length : Int) - 1 by omega), decide_eq_false (show ¬ ((gps l).length : Int) = 0 by omega), hwl, decide_eq_false (show ¬ (l.length : Int) < (gps l).length by omega)]
  refine ElemA_at _ (by omega) (i := 0) hel0 ?_
  simp -implicitDefEqProofs -proj only [go_sem, Nat.reduceBEq, Nat.reduceLT, Nat.reduceLeDiff, Nat.reduceAdd, Nat.reduceMul, ↓reduceIte, Int.reduceToNat, Int.reducePow, Int.reduceLT, Int.reduceLE, Int.reduceAdd, Int.reduceSub, Int.reduceMul, Int.reduceEq, Int.reduceNe, n1, n2, hwl, decide_eq_true (rfl : (0 : Int) = 0)]
  refine LoopA_k (fun y : BackY => y.i ≤ l.length ∧ (keys (lineL b1 b2 l y)).Nodup) 59 (fun y => [(1, .ptr b1 0), (2, .ptr b2 0), (4, rowV 0 1 y.c y.cap (rowI (l.take y.i))), (42, i64 l.length), (43, i64 y.i)]) (lineL b1 b2 l) (fun y => l.length - y.i) ⟨0, 0, 0⟩ ⟨Nat.zero_le _, k2⟩ rfl ?_ ?_ ?_
  · simp -implicitDefEqProofs -proj only [go_sem, Nat.reduceBEq, Nat.reduceLT, Nat.reduceLeDiff, Nat.reduceAdd, Nat.reduceMul, ↓reduceIte, Int.reduceToNat, Int.reducePow, Int.reduceLT, Int.reduceLE, Int.reduceAdd, Int.reduceSub, Int.reduceMul, Int.reduceEq, Int.reduceNe, AllAt, by_i, by_c, by_cap]
    rfl
  · simp -implicitDefEqProofs -proj only [go_sem, Nat.reduceBEq, Nat.reduceLT, Nat.reduceLeDiff, Nat.reduceAdd, Nat.reduceMul, ↓reduceIte, Int.reduceToNat, Int.reducePow, Int.reduceLT, Int.reduceLE, Int.reduceAdd, Int.reduceSub, Int.reduceMul, Int.reduceEq, Int.reduceNe]
    exact a2
  · rintro ⟨i, c, cap⟩ ⟨hi, hn⟩
    simp -implicitDefEqProofs only [by_i] at hi
    have hall := keepH_all hn
    obtain ⟨H, hH⟩ : ∃ H, keepH (lineL b1 b2 l ⟨i, c, cap⟩) = H := ⟨_, rfl⟩
    rw [hH] at hall
    simp -implicitDefEqProofs only [lineL, by_i, by_c, by_cap] at hall hn
    obtain ⟨hrow, e2, e1, _⟩ := AllH_app.1 hall
    by_cases hlt : i < l.length
    · have hat := AtL_ok h hlt
      have htk : l.take (i + 1) = l.take i ++ [l[i]] := List.take_succ_eq_append_getElem hlt
      have hl1 : (rowI (l.take i)).length = i := by rw [rowI_len, List.length_take]; omega
      have hl2 : (rowI (l.take (i + 1))).length = i + 1 := by rw [rowI_len, List.length_take]; omega
      have hne2 : rowI (l.take (i + 1)) ≠ [] := by intro e; rw [e] at hl2; simp at hl2
      generalize l[i] = v at *
      simp -implicitDefEqProofs -proj only [go_sem, Nat.reduceBEq, Nat.reduceLT, Nat.reduceLeDiff, Nat.reduceAdd, Nat.reduceMul, ↓reduceIte, Int.reduceToNat, Int.reducePow, Int.reduceLT, Int.reduceLE, Int.reduceAdd, Int.reduceSub, Int.reduceMul, Int.reduceEq, Int.reduceNe, by_i, by_c, by_cap, hH, e1, decide_eq_true (show (i : Int) < l.length by omega)]
      refine CallA_pure hat ?_
      simp -implicitDefEqProofs -proj only [go_sem, Nat.reduceBEq, Nat.reduceLT, Nat.reduceLeDiff, Nat.reduceAdd, Nat.reduceMul, ↓reduceIte, Int.reduceToNat, Int.reducePow, Int.reduceLT, Int.reduceLE, Int.reduceAdd, Int.reduceSub, Int.reduceMul, Int.reduceEq, Int.reduceNe]
      refine AllocR_intro (fun bs hs' => ?_)
      replace hs' : H bs = none := hs'
      simp -implicitDefEqProofs -proj only [go_sem, Nat.reduceBEq, Nat.reduceLT, Nat.reduceLeDiff, Nat.reduceAdd, Nat.reduceMul, ↓reduceIte, Int.reduceToNat, Int.reducePow, Int.reduceLT, Int.reduceLE, Int.reduceAdd, Int.reduceSub, Int.reduceMul, Int.reduceEq, Int.reduceNe]
      refine AppendA_grow (xs := rowI (l.take i)) (y := [.int .i64 v]) (t := 3) (capc := 1) [(b2, .box 38 [.nilsl 3]), (b1, .box 24 [i64 ((l.length : Int) - 1), slG (gps l)])] rfl (AllH_upd hs' hall) hn (by simp -implicitDefEqProofs -proj only [go_sem, Nat.reduceBEq, Nat.reduceLT, Nat.reduceLeDiff, Nat.reduceAdd, Nat.reduceMul, ↓reduceIte, Int.reduceToNat, Int.reducePow, Int.reduceLT, Int.reduceLE, Int.reduceAdd, Int.reduceSub, Int.reduceMul, Int.reduceEq, Int.reduceNe]) (by rw [hl1]; omega) (by rw [hl1]; omega) (fun H' c' cap' ha hk => ?_)
      rw [show rowI (l.take i) ++ [[.int .i64 v]] = rowI (l.take (i + 1)) by rw [htk]; simp [rowI]] at ha hk
      simp -implicitDefEqProofs -proj only [go_sem, Nat.reduceBEq, Nat.reduceLT, Nat.reduceLeDiff, Nat.reduceAdd, Nat.reduceMul, ↓reduceIte, Int.reduceToNat, Int.reducePow, Int.reduceLT, Int.reduceLE, Int.reduceAdd, Int.reduceSub, Int.reduceMul, Int.reduceEq, Int.reduceNe]
      refine LoopQ_k ⟨i + 1, c', cap'⟩ ⟨by show i + 1 ≤ l.length; omega, hk⟩ (by show l.length - (i + 1) < l.length - i; omega) rfl ?_ ha
      simp -implicitDefEqProofs -proj only [go_sem, Nat.reduceBEq, Nat.reduceLT, Nat.reduceLeDiff, Nat.reduceAdd, Nat.reduceMul, ↓reduceIte, Int.reduceToNat, Int.reducePow, Int.reduceLT, Int.reduceLE, Int.reduceAdd, Int.reduceSub, Int.reduceMul, Int.reduceEq, Int.reduceNe, AllAt, by_i, by_c, by_cap, i64_succ (show i < 9223372036854775807 by omega), rowV_ne hne2, hl1, hl2]
    · have hi' : i = l.length := by omega
      subst hi'
      rw [List.take_length] at hrow
      simp -implicitDefEqProofs -proj only [go_sem, Nat.reduceBEq, Nat.reduceLT, Nat.reduceLeDiff, Nat.reduceAdd, Nat.reduceMul, ↓reduceIte, Int.reduceToNat, Int.reducePow, Int.reduceLT, Int.reduceLE, Int.reduceAdd, Int.reduceSub, Int.reduceMul, Int.reduceEq, Int.reduceNe, by_i, by_c, by_cap, hH, decide_eq_false (show ¬ (l.length : Int) < l.length by omega), List.take_length]
      refine CallA_new hof (lend_cons (.refl _) (lend_cons (rowV_lend hrow) lend_nil)) ?_
      simp -implicitDefEqProofs -proj only [go_sem, Nat.reduceBEq, Nat.reduceLT, Nat.reduceLeDiff, Nat.reduceAdd, Nat.reduceMul, ↓reduceIte, Int.reduceToNat, Int.reducePow, Int.reduceLT, Int.reduceLE, Int.reduceAdd, Int.reduceSub, Int.reduceMul, Int.reduceEq, Int.reduceNe, e2]
      exact LendV_eq rfl
theorem GoodL_ok {l : List Int} (h : CurL l) : DataW Try.prog f_curve_Good [curL l] (bv true) := by
  have h1 := LineL_ok h
  have h2 := (OfL_ok (l := l) (by have := h.2.1; omega)).data
  rw [if_pos h] at h2
  have hgl := gps_len (l := l)
  have h3 := CSame_ok (m := (l.length : Int) - 1) (n := (l.length : Int) - 1) (a := gps l) (b := gps l) (by have := h.2.1; omega) (by have := h.2.1; omega)
  rw [decide_eq_true ⟨rfl, rfl⟩] at h3
  generalize runs 0 l = R at *
  refine CallW_intro comp_curve_Good (by simp) ?_
  simp -implicitDefEqProofs -proj only [go_sem, Nat.reduceBEq, Nat.reduceLT, Nat.reduceLeDiff, Nat.reduceAdd, Nat.reduceMul, ↓reduceIte, Int.reduceToNat, Int.reducePow, Int.reduceLT, Int.reduceLE, Int.reduceAdd, Int.reduceSub, Int.reduceMul, Int.reduceEq, Int.reduceNe]
  refine AllocA_intro (fun b1 hb1 => ?_)
  simp -implicitDefEqProofs -proj only [go_sem, Nat.reduceBEq, Nat.reduceLT, Nat.reduceLeDiff, Nat.reduceAdd, Nat.reduceMul, ↓reduceIte, Int.reduceToNat, Int.reducePow, Int.reduceLT, Int.reduceLE, Int.reduceAdd, Int.reduceSub, Int.reduceMul, Int.reduceEq, Int.reduceNe]
  refine CallA_pure h1 ?_
  simp -implicitDefEqProofs -proj only [go_sem, Nat.reduceBEq, Nat.reduceLT, Nat.reduceLeDiff, Nat.reduceAdd, Nat.reduceMul, ↓reduceIte, Int.reduceToNat, Int.reducePow, Int.reduceLT, Int.reduceLE, Int.reduceAdd, Int.reduceSub, Int.reduceMul, Int.reduceEq, Int.reduceNe]
  refine AllocA_intro (fun b3 hb3 => ?_)
  replace hb3 : upd Heap.none b1 _ b3 = none := hb3
  obtain ⟨n1, n2⟩ := fresh_ne hb3 upd_eq
  simp -implicitDefEqProofs -proj only [go_sem, Nat.reduceBEq, Nat.reduceLT, Nat.reduceLeDiff, Nat.reduceAdd, Nat.reduceMul, ↓reduceIte, Int.reduceToNat, Int.reducePow, Int.reduceLT, Int.reduceLE, Int.reduceAdd, Int.reduceSub, Int.reduceMul, Int.reduceEq, Int.reduceNe, n1, n2]
  refine CallA_pure h2 ?_
  simp -implicitDefEqProofs -proj only [go_sem, Nat.reduceBEq, Nat.reduceLT, Nat.reduceLeDiff, Nat.reduceAdd, Nat.reduceMul, ↓reduceIte, Int.reduceToNat, Int.reducePow, Int.reduceLT, Int.reduceLE, Int.reduceAdd, Int.reduceSub, Int.reduceMul, Int.reduceEq, Int.reduceNe, n1, n2]
  refine AllocA_intro (fun b5 hb5 => ?_)
  replace hb5 : upd (upd Heap.none b1 _) b3 _ b5 = none := hb5
  obtain ⟨n3, n4⟩ := fresh_ne hb5 upd_eq
  obtain ⟨n5, n6⟩ := fresh_ne hb5 (by rw [upd_ne n1]; exact upd_eq)
  simp -implicitDefEqProofs -proj only [go_sem, Nat.reduceBEq, Nat.reduceLT, Nat.reduceLeDiff, Nat.reduceAdd, Nat.reduceMul, ↓reduceIte, Int.reduceToNat, Int.reducePow, Int.reduceLT, Int.reduceLE, Int.reduceAdd, Int.reduceSub, Int.reduceMul, Int.reduceEq, Int.reduceNe, n1, n2, n3, n4, n5, n6]
  refine CallA_pure h3 ?_
  simp -implicitDefEqProofs -proj only [go_sem, Nat.reduceBEq, Nat.reduceLT, Nat.reduceLeDiff, Nat.reduceAdd, Nat.reduceMul, ↓reduceIte, Int.reduceToNat, Int.reducePow, Int.reduceLT, Int.reduceLE, Int.reduceAdd, Int.reduceSub, Int.reduceMul, Int.reduceEq, Int.reduceNe]
  exact LendV_eq rfl
def rawV (g : Grp) (q : Int) : Int := if g.w < 1 then g.v else IntKind.i64.wrap (g.v + IntKind.i64.wrap (min (IntKind.i64.wrap ((IntKind.i64.wrap (q - g.f)).tdiv g.w)) (IntKind.i64.wrap (g.c - 1)) * g.r))
def rawG : List Grp → Int → Option Int
  | [], _ => none
  | g :: L, q => match rawG L q with
    | some v => some v
    | none => if g.f ≤ q then some (rawV g q) else none
theorem rawG_app {q : Int} : ∀ {L M : List Grp}, rawG (L ++ M) q = match rawG M q with
    | some v => some v
    | none => rawG L q
  | [], M => by simp -implicitDefEqProofs only [List.nil_append, rawG]; cases rawG M q <;> rfl
  | g :: L, M => by
    rw [List.cons_append, rawG, rawG_app]
    cases rawG M q <;> rfl
theorem rawG_snoc {q : Int} {L : List Grp} {g : Grp} : rawG (L ++ [g]) q = if g.f ≤ q then some (rawV g q) else rawG L q := by
  rw [rawG_app]
  simp -implicitDefEqProofs only [rawG]
  by_cases h : g.f ≤ q
  · rw [if_pos h, if_pos h]
  · rw [if_neg h, if_neg h]
set_option maxRecDepth 20000 in
theorem CAtRaw_ok {m q : Int} {G : List Grp} (hl : G.length ≤ 3001) : DataW Try.prog f_curve_At [curveV m G, i64 q] (optR (if q < 0 ∨ m < q then none else rawG G q)) := by
  refine CallW_intro comp_curve_At (by simp) ?_
  simp -implicitDefEqProofs -proj only [go_sem, Nat.reduceBEq, Nat.reduceLT, Nat.reduceLeDiff, Nat.reduceAdd, Nat.reduceMul, ↓reduceIte, Int.reduceToNat, Int.reducePow, Int.reduceLT, Int.reduceLE, Int.reduceAdd, Int.reduceSub, Int.reduceMul, Int.reduceEq, Int.reduceNe]
  refine AllocA_intro (fun b2 hb2 => ?_)
  by_cases h1 : q < 0
  · rw [if_pos (.inl h1)]
    simp -implicitDefEqProofs -proj only [go_sem, Nat.reduceBEq, Nat.reduceLT, Nat.reduceLeDiff, Nat.reduceAdd, Nat.reduceMul, ↓reduceIte, Int.reduceToNat, Int.reducePow, Int.reduceLT, Int.reduceLE, Int.reduceAdd, Int.reduceSub, Int.reduceMul, Int.reduceEq, Int.reduceNe, decide_eq_true h1]
    exact LendV_eq rfl
  by_cases h2 : m < q
  · rw [if_pos (.inr h2)]
    simp -implicitDefEqProofs -proj only [go_sem, Nat.reduceBEq, Nat.reduceLT, Nat.reduceLeDiff, Nat.reduceAdd, Nat.reduceMul, ↓reduceIte, Int.reduceToNat, Int.reducePow, Int.reduceLT, Int.reduceLE, Int.reduceAdd, Int.reduceSub, Int.reduceMul, Int.reduceEq, Int.reduceNe, decide_eq_false h1, decide_eq_true h2]
    exact LendV_eq rfl
  rw [if_neg (by omega)]
  have hwl : IntKind.i64.wrap ((G.length : Int) - 1) = (G.length : Int) - 1 := by rw [IntKind.wrap_i64]; omega
  simp -implicitDefEqProofs -proj only [go_sem, Nat.reduceBEq, Nat.reduceLT, Nat.reduceLeDiff, Nat.reduceAdd, Nat.reduceMul, ↓reduceIte, Int.reduceToNat, Int.reducePow, Int.reduceLT, Int.reduceLE, Int.reduceAdd, Int.reduceSub, Int.reduceMul, Int.reduceEq, Int.reduceNe, decide_eq_false h1, decide_eq_false h2, rowG_len, hwl]
  refine LoopA_k (fun n : Nat => n ≤ G.length ∧ rawG G q = rawG (G.take n) q) 63 (fun n => [(1, i64 q), (2, .ptr b2 0), (6, i64 ((n : Int) - 1))]) (fun _ => [(b2, .box 24 [i64 m, slG G])]) (fun n => n) G.length ⟨Nat.le_refl _, by rw [List.take_length]⟩ rfl ?_ ?_ ?_
  · simp -implicitDefEqProofs -proj only [go_sem, Nat.reduceBEq, Nat.reduceLT, Nat.reduceLeDiff, Nat.reduceAdd, Nat.reduceMul, ↓reduceIte, Int.reduceToNat, Int.reducePow, Int.reduceLT, Int.reduceLE, Int.reduceAdd, Int.reduceSub, Int.reduceMul, Int.reduceEq, Int.reduceNe, AllAt]
  · simp -implicitDefEqProofs -proj only [go_sem, Nat.reduceBEq, Nat.reduceLT, Nat.reduceLeDiff, Nat.reduceAdd, Nat.reduceMul, ↓reduceIte, Int.reduceToNat, Int.reducePow, Int.reduceLT, Int.reduceLE, Int.reduceAdd, Int.reduceSub, Int.reduceMul, Int.reduceEq, Int.reduceNe, AllH]
  · rintro n ⟨hn, hat⟩
    have hk : AllH (keepH [(b2, .box 24 [i64 m, slG G])]) [(b2, .box 24 [i64 m, slG G])] := keepH_all (by simp [keys])
    have k2 := hk.1
    by_cases h0 : n = 0
    · subst h0
      rw [List.take_zero] at hat
      rw [hat]
      simp -implicitDefEqProofs -proj only [go_sem, Nat.reduceBEq, Nat.reduceLT, Nat.reduceLeDiff, Nat.reduceAdd, Nat.reduceMul, ↓reduceIte, Int.reduceToNat, Int.reducePow, Int.reduceLT, Int.reduceLE, Int.reduceAdd, Int.reduceSub, Int.reduceMul, Int.reduceEq, Int.reduceNe, k2, decide_eq_false (show ¬ (0 : Int) ≤ 0 - 1 by omega), decide_eq_true (show (0 : Int) - 1 < 0 by omega)]
      exact LendV_eq rfl
    · obtain ⟨j, rfl⟩ : ∃ j, n = j + 1 := ⟨n - 1, by omega⟩
      have hj : j < G.length := by omega
      have hel := rowG_at hj
      have hts : G.take (j + 1) = G.take j ++ [G[j]] := List.take_succ_eq_append_getElem hj
      rw [hts, rawG_snoc] at hat
      generalize G[j] = g at *
      have e1 : (((j + 1 : Nat) : Int)) - 1 = j := by omega
      have w1 : IntKind.i64.wrap ((j : Int) - 1) = (j : Int) - 1 := by rw [IntKind.wrap_i64]; omega
      simp -implicitDefEqProofs -proj only [go_sem, Nat.reduceBEq, Nat.reduceLT, Nat.reduceLeDiff, Nat.reduceAdd, Nat.reduceMul, ↓reduceIte, Int.reduceToNat, Int.reducePow, Int.reduceLT, Int.reduceLE, Int.reduceAdd, Int.reduceSub, Int.reduceMul, Int.reduceEq, Int.reduceNe, k2, e1, decide_eq_true (show (0 : Int) ≤ j by omega)]
      refine ElemA_at _ (by omega) hel ?_
      by_cases hf : q < g.f
      · rw [if_neg (by omega)] at hat
        simp -implicitDefEqProofs -proj only [go_sem, Nat.reduceBEq, Nat.reduceLT, Nat.reduceLeDiff, Nat.reduceAdd, Nat.reduceMul, ↓reduceIte, Int.reduceToNat, Int.reducePow, Int.reduceLT, Int.reduceLE, Int.reduceAdd, Int.reduceSub, Int.reduceMul, Int.reduceEq, Int.reduceNe, decide_eq_true hf, w1]
        refine LoopQ_k j ⟨by omega, hat⟩ (by omega) rfl ?_ hk
        simp -implicitDefEqProofs -proj only [go_sem, Nat.reduceBEq, Nat.reduceLT, Nat.reduceLeDiff, Nat.reduceAdd, Nat.reduceMul, ↓reduceIte, Int.reduceToNat, Int.reducePow, Int.reduceLT, Int.reduceLE, Int.reduceAdd, Int.reduceSub, Int.reduceMul, Int.reduceEq, Int.reduceNe, AllAt]
      · rw [if_pos (by omega)] at hat
        rw [hat]
        simp -implicitDefEqProofs -proj only [go_sem, Nat.reduceBEq, Nat.reduceLT, Nat.reduceLeDiff, Nat.reduceAdd, Nat.reduceMul, ↓reduceIte, Int.reduceToNat, Int.reducePow, Int.reduceLT, Int.reduceLE, Int.reduceAdd, Int.reduceSub, Int.reduceMul, Int.reduceEq, Int.reduceNe, k2, decide_eq_false hf, decide_eq_false (show ¬ (j : Int) < 0 by omega)]
        refine ElemA_at _ (by omega) hel ?_
        simp -implicitDefEqProofs -proj only [go_sem, Nat.reduceBEq, Nat.reduceLT, Nat.reduceLeDiff, Nat.reduceAdd, Nat.reduceMul, ↓reduceIte, Int.reduceToNat, Int.reducePow, Int.reduceLT, Int.reduceLE, Int.reduceAdd, Int.reduceSub, Int.reduceMul, Int.reduceEq, Int.reduceNe]
        refine AllocA_intro (fun b7 hb7 => ?_)
        unfold rawV
        by_cases hw : g.w < 1
        · rw [if_pos hw]
          simp -implicitDefEqProofs -proj only [go_sem, Nat.reduceBEq, Nat.reduceLT, Nat.reduceLeDiff, Nat.reduceAdd, Nat.reduceMul, ↓reduceIte, Int.reduceToNat, Int.reducePow, Int.reduceLT, Int.reduceLE, Int.reduceAdd, Int.reduceSub, Int.reduceMul, Int.reduceEq, Int.reduceNe, decide_eq_true hw]
          exact LendV_eq rfl
        · rw [if_neg hw]
          simp -implicitDefEqProofs -proj only [go_sem, Nat.reduceBEq, Nat.reduceLT, Nat.reduceLeDiff, Nat.reduceAdd, Nat.reduceMul, ↓reduceIte, Int.reduceToNat, Int.reducePow, Int.reduceLT, Int.reduceLE, Int.reduceAdd, Int.reduceSub, Int.reduceMul, Int.reduceEq, Int.reduceNe, decide_eq_false hw]
          refine VC_intro (by omega) (fun _ => ?_)
          exact LendV_eq rfl
/-- A raw curve's numbers. -/
def rawN (m : Int) (G : List Grp) (i : Nat) : Int := (if (i : Int) < 0 ∨ m < i then none else rawG G i).getD 0
def rawL (m : Int) (G : List Grp) : List Int := (List.range (m + 1).toNat).map (rawN m G)
def lineR (b1 b2 : Nat) (m : Int) (G : List Grp) (y : BackY) : List (Nat × Blk) := rowH 3 1 y.c y.cap (rowI ((rawL m G).take y.i)) ++ [(b2, .box 38 [.nilsl 3]), (b1, .box 24 [i64 m, slG G])]
/-- What Line asks of a curve ahead. -/
def preL (m : Int) (G : List Grp) : Prop := ¬ m < 0 ∧ ¬ 2000 < m ∧ ∃ h : 0 < G.length, (G.length : Int) ≤ m + 1 ∧ G[0].f = 0
set_option maxRecDepth 20000 in
theorem LineRaw_no {m : Int} {G : List Grp} (hl : G.length ≤ 1000000) (hm : Fit m) (h : ¬ preL m G) : DataW Try.prog f_curve_Line [curveV m G] (.tup [lineV [], bv false]) := by
  have hdone : ∀ {H : Heap}, LendV H (.tup [.agg [.nilsl 3], bv false]) (.tup [lineV [], bv false]) := .tupL (lend_cons (.aggL (lend_cons (.nilsl _ _) lend_nil)) (lend_cons (.refl _) lend_nil))
  refine CallW_intro comp_curve_Line (by simp) ?_
  simp -implicitDefEqProofs -proj only [go_sem, Nat.reduceBEq, Nat.reduceLT, Nat.reduceLeDiff, Nat.reduceAdd, Nat.reduceMul, ↓reduceIte, Int.reduceToNat, Int.reducePow, Int.reduceLT, Int.reduceLE, Int.reduceAdd, Int.reduceSub, Int.reduceMul, Int.reduceEq, Int.reduceNe]
  refine AllocA_intro (fun b1 hb1 => ?_)
  simp -implicitDefEqProofs -proj only [go_sem, Nat.reduceBEq, Nat.reduceLT, Nat.reduceLeDiff, Nat.reduceAdd, Nat.reduceMul, ↓reduceIte, Int.reduceToNat, Int.reducePow, Int.reduceLT, Int.reduceLE, Int.reduceAdd, Int.reduceSub, Int.reduceMul, Int.reduceEq, Int.reduceNe]
  refine AllocA_intro (fun b2 hb2 => ?_)
  replace hb2 : upd Heap.none b1 _ b2 = none := hb2
  obtain ⟨n1, n2⟩ := fresh_ne hb2 upd_eq
  by_cases h1 : m < 0
  · simp -implicitDefEqProofs -proj only [go_sem, Nat.reduceBEq, Nat.reduceLT, Nat.reduceLeDiff, Nat.reduceAdd, Nat.reduceMul, ↓reduceIte, Int.reduceToNat, Int.reducePow, Int.reduceLT, Int.reduceLE, Int.reduceAdd, Int.reduceSub, Int.reduceMul, Int.reduceEq, Int.reduceNe, n1, n2, decide_eq_true h1]
    exact hdone
  by_cases h2 : 2000 < m
  · simp -implicitDefEqProofs -proj only [go_sem, Nat.reduceBEq, Nat.reduceLT, Nat.reduceLeDiff, Nat.reduceAdd, Nat.reduceMul, ↓reduceIte, Int.reduceToNat, Int.reducePow, Int.reduceLT, Int.reduceLE, Int.reduceAdd, Int.reduceSub, Int.reduceMul, Int.reduceEq, Int.reduceNe, n1, n2, decide_eq_false h1, decide_eq_true h2]
    exact hdone
  by_cases h3 : G.length = 0
  · simp -implicitDefEqProofs -proj only [go_sem, Nat.reduceBEq, Nat.reduceLT, Nat.reduceLeDiff, Nat.reduceAdd, Nat.reduceMul, ↓reduceIte, Int.reduceToNat, Int.reducePow, Int.reduceLT, Int.reduceLE, Int.reduceAdd, Int.reduceSub, Int.reduceMul, Int.reduceEq, Int.reduceNe, n1, n2, decide_eq_false h1, decide_eq_false h2, rowG_len, decide_eq_true (show (G.length : Int) = 0 by omega)]
    exact hdone
  have hwl : IntKind.i64.wrap (m + 1) = m + 1 := by rw [IntKind.wrap_i64]; omega
  by_cases h4 : m + 1 < G.length
  · simp -implicitDefEqProofs -proj only [go_sem, Nat.reduceBEq, Nat.reduceLT, Nat.reduceLeDiff, Nat.reduceAdd, Nat.reduceMul, ↓reduceIte, Int.reduceToNat, Int.reducePow, Int.reduceLT, Int.reduceLE, Int.reduceAdd, Int.reduceSub, Int.reduceMul, Int.reduceEq, Int.reduceNe, n1, n2, decide_eq_false h1, decide_eq_false h2, rowG_len, decide_eq_false (show ¬ (G.length : Int) = 0 by omega), hwl, decide_eq_true h4]
    exact hdone
  have h5 : 0 < G.length := by omega
  have hel0 := rowG_at h5
  have h6 : ¬ G[0].f = 0 := fun e => h ⟨h1, h2, h5, by omega, e⟩
  generalize G[0] = g at *
  simp -implicitDefEqProofs -proj only [go_sem, Nat.reduceBEq, Nat.reduceLT, Nat.reduceLeDiff, Nat.reduceAdd, Nat.reduceMul, ↓reduceIte, Int.reduceToNat, Int.reducePow, Int.reduceLT, Int.reduceLE, Int.reduceAdd, Int.reduceSub, Int.reduceMul, Int.reduceEq, Int.reduceNe, n1, n2, decide_eq_false h1, decide_eq_false h2, rowG_len, decide_eq_false (show ¬ (G.length : Int) = 0 by omega), hwl, decide_eq_false h4]
  refine ElemA_at _ (by omega) (i := 0) hel0 ?_
  simp -implicitDefEqProofs -proj only [go_sem, Nat.reduceBEq, Nat.reduceLT, Nat.reduceLeDiff, Nat.reduceAdd, Nat.reduceMul, ↓reduceIte, Int.reduceToNat, Int.reducePow, Int.reduceLT, Int.reduceLE, Int.reduceAdd, Int.reduceSub, Int.reduceMul, Int.reduceEq, Int.reduceNe, n1, n2, decide_eq_false h6]
  exact hdone
set_option maxRecDepth 20000 in
theorem LineRaw_ok {m : Int} {G : List Grp} (h : preL m G) : DataW Try.prog f_curve_Line [curveV m G] (.tup [lineV (runs 0 (rawL m G)), bv true]) := by
  obtain ⟨h1, h2, hg0, h3, hgf⟩ := h
  obtain ⟨l, hldef⟩ : ∃ l, rawL m G = l := ⟨_, rfl⟩
  have hll : (l.length : Int) = m + 1 := by rw [← hldef]; simp -implicitDefEqProofs only [rawL, List.length_map, List.length_range]; omega
  have hel0 := rowG_at hg0
  rw [hgf] at hel0
  have hof := Of_new (from' := 0) (l := l) (by omega) (by omega)
  have hwl : IntKind.i64.wrap (m + 1) = (l.length : Int) := by rw [IntKind.wrap_i64]; omega
  rw [hldef]
  refine CallW_intro comp_curve_Line (by simp) ?_
  simp -implicitDefEqProofs -proj only [go_sem, Nat.reduceBEq, Nat.reduceLT, Nat.reduceLeDiff, Nat.reduceAdd, Nat.reduceMul, ↓reduceIte, Int.reduceToNat, Int.reducePow, Int.reduceLT, Int.reduceLE, Int.reduceAdd, Int.reduceSub, Int.reduceMul, Int.reduceEq, Int.reduceNe]
  refine AllocA_intro (fun b1 hb1 => ?_)
  simp -implicitDefEqProofs -proj only [go_sem, Nat.reduceBEq, Nat.reduceLT, Nat.reduceLeDiff, Nat.reduceAdd, Nat.reduceMul, ↓reduceIte, Int.reduceToNat, Int.reducePow, Int.reduceLT, Int.reduceLE, Int.reduceAdd, Int.reduceSub, Int.reduceMul, Int.reduceEq, Int.reduceNe]
  refine AllocA_intro (fun b2 hb2 => ?_)
  have a1 := alloc_all (x := .box 24 [i64 m, slG G]) hb1 (l := []) trivial
  have k1 := alloc_keys (x := .box 24 [i64 m, slG G]) hb1 (l := []) trivial List.nodup_nil
  have a2 := alloc_all (x := .box 38 [.nilsl 3]) hb2 a1
  have k2 := alloc_keys (x := .box 38 [.nilsl 3]) hb2 a1 k1
  replace hb2 : upd Heap.none b1 _ b2 = none := hb2
  obtain ⟨n1, n2⟩ := fresh_ne hb2 upd_eq
  simp -implicitDefEqProofs -proj only [go_sem, Nat.reduceBEq, Nat.reduceLT, Nat.reduceLeDiff, Nat.reduceAdd, Nat.reduceMul, ↓reduceIte, Int.reduceToNat, Int.reducePow, Int.reduceLT, Int.reduceLE, Int.reduceAdd, Int.reduceSub, Int.reduceMul, Int.reduceEq, Int.reduceNe, n1, n2, rowG_len, decide_eq_false h1, decide_eq_false h2, decide_eq_false (show ¬ (G.length : Int) = 0 by omega), hwl, decide_eq_false (show ¬ (l.length : Int) < G.length by omega)]
  refine ElemA_at _ (by omega) (i := 0) hel0 ?_
  simp -implicitDefEqProofs -proj only [go_sem, Nat.reduceBEq, Nat.reduceLT, Nat.reduceLeDiff, Nat.reduceAdd, Nat.reduceMul, ↓reduceIte, Int.reduceToNat, Int.reducePow, Int.reduceLT, Int.reduceLE, Int.reduceAdd, Int.reduceSub, Int.reduceMul, Int.reduceEq, Int.reduceNe, n1, n2, hwl, decide_eq_true (rfl : (0 : Int) = 0)]
  refine LoopA_k (fun y : BackY => y.i ≤ l.length ∧ (keys (lineR b1 b2 m G y)).Nodup) 59 (fun y => [(1, .ptr b1 0), (2, .ptr b2 0), (4, rowV 0 1 y.c y.cap (rowI (l.take y.i))), (42, i64 l.length), (43, i64 y.i)]) (lineR b1 b2 m G) (fun y => l.length - y.i) ⟨0, 0, 0⟩ ⟨Nat.zero_le _, k2⟩ rfl ?_ ?_ ?_
  · simp -implicitDefEqProofs -proj only [go_sem, Nat.reduceBEq, Nat.reduceLT, Nat.reduceLeDiff, Nat.reduceAdd, Nat.reduceMul, ↓reduceIte, Int.reduceToNat, Int.reducePow, Int.reduceLT, Int.reduceLE, Int.reduceAdd, Int.reduceSub, Int.reduceMul, Int.reduceEq, Int.reduceNe, AllAt, by_i, by_c, by_cap]
    rfl
  · simp -implicitDefEqProofs -proj only [go_sem, Nat.reduceBEq, Nat.reduceLT, Nat.reduceLeDiff, Nat.reduceAdd, Nat.reduceMul, ↓reduceIte, Int.reduceToNat, Int.reducePow, Int.reduceLT, Int.reduceLE, Int.reduceAdd, Int.reduceSub, Int.reduceMul, Int.reduceEq, Int.reduceNe]
    exact a2
  · rintro ⟨i, c, cap⟩ ⟨hi, hn⟩
    simp -implicitDefEqProofs only [by_i] at hi
    have hall := keepH_all hn
    obtain ⟨H, hH⟩ : ∃ H, keepH (lineR b1 b2 m G ⟨i, c, cap⟩) = H := ⟨_, rfl⟩
    rw [hH] at hall
    simp -implicitDefEqProofs only [lineR, by_i, by_c, by_cap, hldef] at hall hn
    obtain ⟨hrow, e2, e1, _⟩ := AllH_app.1 hall
    by_cases hlt : i < l.length
    · have hat := CAtRaw_ok (m := m) (q := (i : Int)) (G := G) (by omega)
      have hv : l[i] = rawN m G i := by subst hldef; simp [rawL]
      obtain ⟨u, hu⟩ : ∃ u, optR (if (i : Int) < 0 ∨ m < i then none else rawG G i) = .tup [i64 l[i], bv u] := by
        rw [hv, rawN]
        cases (if (i : Int) < 0 ∨ m < i then none else rawG G i) with
        | none => exact ⟨false, rfl⟩
        | some v => exact ⟨true, rfl⟩
      rw [hu] at hat
      have htk : l.take (i + 1) = l.take i ++ [l[i]] := List.take_succ_eq_append_getElem hlt
      have hl1 : (rowI (l.take i)).length = i := by rw [rowI_len, List.length_take]; omega
      have hl2 : (rowI (l.take (i + 1))).length = i + 1 := by rw [rowI_len, List.length_take]; omega
      have hne2 : rowI (l.take (i + 1)) ≠ [] := by intro e; rw [e] at hl2; simp at hl2
      generalize l[i] = v at *
      simp -implicitDefEqProofs -proj only [go_sem, Nat.reduceBEq, Nat.reduceLT, Nat.reduceLeDiff, Nat.reduceAdd, Nat.reduceMul, ↓reduceIte, Int.reduceToNat, Int.reducePow, Int.reduceLT, Int.reduceLE, Int.reduceAdd, Int.reduceSub, Int.reduceMul, Int.reduceEq, Int.reduceNe, by_i, by_c, by_cap, hH, e1, decide_eq_true (show (i : Int) < l.length by omega)]
      refine CallA_pure hat ?_
      simp -implicitDefEqProofs -proj only [go_sem, Nat.reduceBEq, Nat.reduceLT, Nat.reduceLeDiff, Nat.reduceAdd, Nat.reduceMul, ↓reduceIte, Int.reduceToNat, Int.reducePow, Int.reduceLT, Int.reduceLE, Int.reduceAdd, Int.reduceSub, Int.reduceMul, Int.reduceEq, Int.reduceNe]
      refine AllocR_intro (fun bs hs' => ?_)
      replace hs' : H bs = none := hs'
      simp -implicitDefEqProofs -proj only [go_sem, Nat.reduceBEq, Nat.reduceLT, Nat.reduceLeDiff, Nat.reduceAdd, Nat.reduceMul, ↓reduceIte, Int.reduceToNat, Int.reducePow, Int.reduceLT, Int.reduceLE, Int.reduceAdd, Int.reduceSub, Int.reduceMul, Int.reduceEq, Int.reduceNe]
      refine AppendA_grow (xs := rowI (l.take i)) (y := [.int .i64 v]) (t := 3) (capc := 1) [(b2, .box 38 [.nilsl 3]), (b1, .box 24 [i64 m, slG G])] rfl (AllH_upd hs' hall) hn (by simp -implicitDefEqProofs -proj only [go_sem, Nat.reduceBEq, Nat.reduceLT, Nat.reduceLeDiff, Nat.reduceAdd, Nat.reduceMul, ↓reduceIte, Int.reduceToNat, Int.reducePow, Int.reduceLT, Int.reduceLE, Int.reduceAdd, Int.reduceSub, Int.reduceMul, Int.reduceEq, Int.reduceNe]) (by rw [hl1]; omega) (by rw [hl1]; omega) (fun H' c' cap' ha hk => ?_)
      rw [show rowI (l.take i) ++ [[.int .i64 v]] = rowI (l.take (i + 1)) by rw [htk]; simp [rowI]] at ha hk
      simp -implicitDefEqProofs -proj only [go_sem, Nat.reduceBEq, Nat.reduceLT, Nat.reduceLeDiff, Nat.reduceAdd, Nat.reduceMul, ↓reduceIte, Int.reduceToNat, Int.reducePow, Int.reduceLT, Int.reduceLE, Int.reduceAdd, Int.reduceSub, Int.reduceMul, Int.reduceEq, Int.reduceNe]
      refine LoopQ_k ⟨i + 1, c', cap'⟩ ⟨by show i + 1 ≤ l.length; omega, by show (keys (lineR b1 b2 m G ⟨i + 1, c', cap'⟩)).Nodup; simp -implicitDefEqProofs only [lineR, by_i, by_c, by_cap, hldef]; exact hk⟩ (by show l.length - (i + 1) < l.length - i; omega) rfl ?_ (by simp -implicitDefEqProofs only [lineR, by_i, by_c, by_cap, hldef]; exact ha)
      simp -implicitDefEqProofs -proj only [go_sem, Nat.reduceBEq, Nat.reduceLT, Nat.reduceLeDiff, Nat.reduceAdd, Nat.reduceMul, ↓reduceIte, Int.reduceToNat, Int.reducePow, Int.reduceLT, Int.reduceLE, Int.reduceAdd, Int.reduceSub, Int.reduceMul, Int.reduceEq, Int.reduceNe, AllAt, by_i, by_c, by_cap, i64_succ (show i < 9223372036854775807 by omega), rowV_ne hne2, hl1, hl2]
    · have hi' : i = l.length := by omega
      subst hi'
      rw [List.take_length] at hrow
      simp -implicitDefEqProofs -proj only [go_sem, Nat.reduceBEq, Nat.reduceLT, Nat.reduceLeDiff, Nat.reduceAdd, Nat.reduceMul, ↓reduceIte, Int.reduceToNat, Int.reducePow, Int.reduceLT, Int.reduceLE, Int.reduceAdd, Int.reduceSub, Int.reduceMul, Int.reduceEq, Int.reduceNe, by_i, by_c, by_cap, hH, decide_eq_false (show ¬ (l.length : Int) < l.length by omega), List.take_length]
      refine CallA_new hof (lend_cons (.refl _) (lend_cons (rowV_lend hrow) lend_nil)) ?_
      simp -implicitDefEqProofs -proj only [go_sem, Nat.reduceBEq, Nat.reduceLT, Nat.reduceLeDiff, Nat.reduceAdd, Nat.reduceMul, ↓reduceIte, Int.reduceToNat, Int.reducePow, Int.reduceLT, Int.reduceLE, Int.reduceAdd, Int.reduceSub, Int.reduceMul, Int.reduceEq, Int.reduceNe, e2]
      exact LendV_eq rfl
/-- A curve that can be. -/
def GoodP (m : Int) (G : List Grp) : Prop := ∃ l, CurL l ∧ m = (l.length : Int) - 1 ∧ G = gps l
open Classical in
theorem GoodRaw_no {m : Int} {G : List Grp} (hl : G.length ≤ 3000) (hm : Fit m) (h : ¬ GoodP m G) : DataW Try.prog f_curve_Good [curveV m G] (bv false) := by
  by_cases hp : preL m G
  · have h1 := LineRaw_ok hp
    have hll : ((rawL m G).length : Int) = m + 1 := by have := hp.1; simp -implicitDefEqProofs only [rawL, List.length_map, List.length_range]; omega
    have hm2 := hp.2.1
    generalize rawL m G = l at *
    have h2 := (OfL_ok (l := l) (by omega)).data
    obtain ⟨x, u, n, K, hx, hK, h3⟩ : ∃ (x : AV) (u : Bool) (n : Int) (K : List Grp), (if CurL l then AV.tup [curL l, bv true] else .tup [curveV 0 [], bv false]) = .tup [curveV n K, bv u] ∧ K.length ≤ 1000000 ∧ (u = true → ¬ (m = n ∧ G = K)) := by
      by_cases hc : CurL l
      · rw [if_pos hc]
        exact ⟨.nilp, true, _, _, rfl, by have := @gps_len l; omega, fun _ e => h ⟨l, hc, by omega, e.2⟩⟩
      · rw [if_neg hc]
        exact ⟨.nilp, false, 0, [], rfl, by simp, fun e => absurd e (by simp)⟩
    rw [hx] at h2
    have h4 := CSame_ok (m := m) (n := n) (a := G) (b := K) (by omega) hK
    refine CallW_intro comp_curve_Good (by simp) ?_
    simp -implicitDefEqProofs -proj only [go_sem, Nat.reduceBEq, Nat.reduceLT, Nat.reduceLeDiff, Nat.reduceAdd, Nat.reduceMul, ↓reduceIte, Int.reduceToNat, Int.reducePow, Int.reduceLT, Int.reduceLE, Int.reduceAdd, Int.reduceSub, Int.reduceMul, Int.reduceEq, Int.reduceNe]
    refine AllocA_intro (fun b1 hb1 => ?_)
    simp -implicitDefEqProofs -proj only [go_sem, Nat.reduceBEq, Nat.reduceLT, Nat.reduceLeDiff, Nat.reduceAdd, Nat.reduceMul, ↓reduceIte, Int.reduceToNat, Int.reducePow, Int.reduceLT, Int.reduceLE, Int.reduceAdd, Int.reduceSub, Int.reduceMul, Int.reduceEq, Int.reduceNe]
    refine CallA_pure h1 ?_
    simp -implicitDefEqProofs -proj only [go_sem, Nat.reduceBEq, Nat.reduceLT, Nat.reduceLeDiff, Nat.reduceAdd, Nat.reduceMul, ↓reduceIte, Int.reduceToNat, Int.reducePow, Int.reduceLT, Int.reduceLE, Int.reduceAdd, Int.reduceSub, Int.reduceMul, Int.reduceEq, Int.reduceNe]
    refine AllocA_intro (fun b3 hb3 => ?_)
    replace hb3 : upd Heap.none b1 _ b3 = none := hb3
    obtain ⟨n1, n2⟩ := fresh_ne hb3 upd_eq
    simp -implicitDefEqProofs -proj only [go_sem, Nat.reduceBEq, Nat.reduceLT, Nat.reduceLeDiff, Nat.reduceAdd, Nat.reduceMul, ↓reduceIte, Int.reduceToNat, Int.reducePow, Int.reduceLT, Int.reduceLE, Int.reduceAdd, Int.reduceSub, Int.reduceMul, Int.reduceEq, Int.reduceNe, n1, n2]
    refine CallA_pure h2 ?_
    simp -implicitDefEqProofs -proj only [go_sem, Nat.reduceBEq, Nat.reduceLT, Nat.reduceLeDiff, Nat.reduceAdd, Nat.reduceMul, ↓reduceIte, Int.reduceToNat, Int.reducePow, Int.reduceLT, Int.reduceLE, Int.reduceAdd, Int.reduceSub, Int.reduceMul, Int.reduceEq, Int.reduceNe, n1, n2]
    refine AllocA_intro (fun b5 hb5 => ?_)
    replace hb5 : upd (upd Heap.none b1 _) b3 _ b5 = none := hb5
    obtain ⟨n3, n4⟩ := fresh_ne hb5 upd_eq
    obtain ⟨n5, n6⟩ := fresh_ne hb5 (by rw [upd_ne n1]; exact upd_eq)
    cases u
    · simp -implicitDefEqProofs -proj only [go_sem, Nat.reduceBEq, Nat.reduceLT, Nat.reduceLeDiff, Nat.reduceAdd, Nat.reduceMul, ↓reduceIte, Int.reduceToNat, Int.reducePow, Int.reduceLT, Int.reduceLE, Int.reduceAdd, Int.reduceSub, Int.reduceMul, Int.reduceEq, Int.reduceNe, n1, n2, n3, n4, n5, n6]
      exact LendV_eq rfl
    · rw [decide_eq_false (h3 rfl)] at h4
      simp -implicitDefEqProofs -proj only [go_sem, Nat.reduceBEq, Nat.reduceLT, Nat.reduceLeDiff, Nat.reduceAdd, Nat.reduceMul, ↓reduceIte, Int.reduceToNat, Int.reducePow, Int.reduceLT, Int.reduceLE, Int.reduceAdd, Int.reduceSub, Int.reduceMul, Int.reduceEq, Int.reduceNe, n1, n2, n3, n4, n5, n6]
      refine CallA_pure h4 ?_
      simp -implicitDefEqProofs -proj only [go_sem, Nat.reduceBEq, Nat.reduceLT, Nat.reduceLeDiff, Nat.reduceAdd, Nat.reduceMul, ↓reduceIte, Int.reduceToNat, Int.reducePow, Int.reduceLT, Int.reduceLE, Int.reduceAdd, Int.reduceSub, Int.reduceMul, Int.reduceEq, Int.reduceNe]
      exact LendV_eq rfl
  · have h1 := LineRaw_no (by omega) hm hp
    refine CallW_intro comp_curve_Good (by simp) ?_
    simp -implicitDefEqProofs -proj only [go_sem, Nat.reduceBEq, Nat.reduceLT, Nat.reduceLeDiff, Nat.reduceAdd, Nat.reduceMul, ↓reduceIte, Int.reduceToNat, Int.reducePow, Int.reduceLT, Int.reduceLE, Int.reduceAdd, Int.reduceSub, Int.reduceMul, Int.reduceEq, Int.reduceNe]
    refine AllocA_intro (fun b1 hb1 => ?_)
    simp -implicitDefEqProofs -proj only [go_sem, Nat.reduceBEq, Nat.reduceLT, Nat.reduceLeDiff, Nat.reduceAdd, Nat.reduceMul, ↓reduceIte, Int.reduceToNat, Int.reducePow, Int.reduceLT, Int.reduceLE, Int.reduceAdd, Int.reduceSub, Int.reduceMul, Int.reduceEq, Int.reduceNe]
    refine CallA_pure h1 ?_
    simp -implicitDefEqProofs -proj only [go_sem, Nat.reduceBEq, Nat.reduceLT, Nat.reduceLeDiff, Nat.reduceAdd, Nat.reduceMul, ↓reduceIte, Int.reduceToNat, Int.reducePow, Int.reduceLT, Int.reduceLE, Int.reduceAdd, Int.reduceSub, Int.reduceMul, Int.reduceEq, Int.reduceNe]
    refine AllocA_intro (fun b3 hb3 => ?_)
    replace hb3 : upd Heap.none b1 _ b3 = none := hb3
    obtain ⟨n1, n2⟩ := fresh_ne hb3 upd_eq
    simp -implicitDefEqProofs -proj only [go_sem, Nat.reduceBEq, Nat.reduceLT, Nat.reduceLeDiff, Nat.reduceAdd, Nat.reduceMul, ↓reduceIte, Int.reduceToNat, Int.reducePow, Int.reduceLT, Int.reduceLE, Int.reduceAdd, Int.reduceSub, Int.reduceMul, Int.reduceEq, Int.reduceNe, n1, n2]
    exact LendV_eq rfl
open Classical in
theorem GoodRaw_ok {m : Int} {G : List Grp} (hl : G.length ≤ 3000) (hm : Fit m) : DataW Try.prog f_curve_Good [curveV m G] (bv (decide (GoodP m G))) := by
  by_cases h : GoodP m G
  · rw [decide_eq_true h]
    obtain ⟨l, h1, rfl, rfl⟩ := h
    exact GoodL_ok h1
  · rw [decide_eq_false h]
    exact GoodRaw_no hl hm h
/-- Where a line's run begins; behind the last one: where the line ends. -/
def startR (R : List Run) (hi : Int) (i : Nat) : Int := match R[i]? with
  | some r => r.f
  | none => hi
theorem FwdOK.nth {val : Int → Int} {hi : Int} : ∀ {R : List Run} {lo : Int}, FwdOK val lo hi R → ∀ (i : Nat) r, R[i]? = some r → r.f = startR R hi i ∧ r.f ≤ r.t ∧ startR R hi (i + 1) = r.t + 1 ∧ r.t + 1 ≤ hi ∧ lo ≤ r.f ∧ ∀ x, r.f ≤ x → x ≤ r.t → val x = r.v := by
  intro R
  induction R with
  | nil => intro lo _ i r h; simp at h
  | cons q R ih =>
    intro lo h i r hi'
    obtain ⟨g1, g2, g3, g4, g5⟩ := h
    have hle := g5.le
    cases i with
    | zero =>
      simp -implicitDefEqProofs only [List.getElem?_cons_zero, Option.some.injEq] at hi'
      subst hi'
      refine ⟨rfl, g2, ?_, hle, by omega, g3⟩
      unfold startR
      cases R with
      | nil => exact g5.symm
      | cons s R => exact g5.1
    | succ i =>
      obtain ⟨e1, e2, e3, e4, e5, e6⟩ := ih g5 i r (by simpa using hi')
      exact ⟨by rw [e1]; simp [startR], e2, by rw [← e3]; simp [startR], e4, by omega, e6⟩
theorem startR_zero {val : Int → Int} {hi : Int} {R : List Run} {lo : Int} (h : FwdOK val lo hi R) : startR R hi 0 = lo := by
  cases R with
  | nil => exact h.symm
  | cons r R => exact h.1
theorem startR_end {R : List Run} {hi : Int} {i : Nat} (h : R[i]? = none) : startR R hi i = hi := by unfold startR; rw [h]
theorem zipG_fwd {va vb : Int → Int} {fa ha fb hb : Int} {A B : List Run} (hA : FwdOK va fa ha A) (hB : FwdOK vb fb hb B) (g : Int → Int → Int) : ∀ (n i k : Nat) (R : List Run), A.length + B.length ≤ n + i + k →
    FwdOK (fun x => g (va x) (vb x)) (max fa fb) (max (startR A ha i) (startR B hb k)) R → (max (startR A ha i) (startR B hb k) = max fa fb ∨ (max (startR A ha i) (startR B hb k) ≤ ha ∧ max (startR A ha i) (startR B hb k) ≤ hb)) →
    FwdOK (fun x => g (va x) (vb x)) (max fa fb) (max (max fa fb) (min ha hb)) (zipG g A B n i k R) := by
  have fin : ∀ (i k : Nat) (R : List Run), (A[i]? = none ∨ B[k]? = none) → FwdOK (fun x => g (va x) (vb x)) (max fa fb) (max (startR A ha i) (startR B hb k)) R →
      (max (startR A ha i) (startR B hb k) = max fa fb ∨ (max (startR A ha i) (startR B hb k) ≤ ha ∧ max (startR A ha i) (startR B hb k) ≤ hb)) → FwdOK (fun x => g (va x) (vb x)) (max fa fb) (max (max fa fb) (min ha hb)) R := by
    intro i k R h hR hm
    have hle := hR.le
    have : max (max fa fb) (min ha hb) = max (startR A ha i) (startR B hb k) := by
      rcases h with h | h
      · have := startR_end (hi := ha) h; omega
      · have := startR_end (hi := hb) h; omega
    rw [this]
    exact hR
  intro n
  induction n with
  | zero =>
    intro i k R hn hR hm
    rw [zipG]
    refine fin i k R ?_ hR hm
    by_cases h : A.length ≤ i
    · exact .inl (List.getElem?_eq_none h)
    · exact .inr (List.getElem?_eq_none (by omega))
  | succ n ih =>
    intro i k R hn hR hm
    rw [zipG]
    split
    · next x y hx hy =>
      obtain ⟨a1, a2, a3, a4, a5, a6⟩ := hA.nth i x hx
      obtain ⟨b1, b2, b3, b4, b5, b6⟩ := hB.nth k y hy
      have hf : max x.f y.f = max (startR A ha i) (startR B hb k) := by rw [a1, b1]
      have ei : startR A ha (if x.t ≤ y.t then i + 1 else i) = if x.t ≤ y.t then x.t + 1 else x.f := by split <;> simp [a3, a1]
      have ek : startR B hb (if y.t ≤ x.t then k + 1 else k) = if y.t ≤ x.t then y.t + 1 else y.f := by split <;> simp [b3, b1]
      refine ih _ _ _ (by split <;> split <;> omega) ?_ ?_
      · rw [ei, ek]
        by_cases hft : max x.f y.f ≤ min x.t y.t
        · rw [if_pos hft]
          have e : max (if x.t ≤ y.t then x.t + 1 else x.f) (if y.t ≤ x.t then y.t + 1 else y.f) = min x.t y.t + 1 := by split <;> split <;> omega
          rw [e]
          rw [← hf] at hR
          exact FwdOK.putRun (val := fun x => g (va x) (vb x)) (v := g x.v y.v) hft (fun z h1 h2 => by show g (va z) (vb z) = _; rw [a6 z (by omega) (by omega), b6 z (by omega) (by omega)]) hR
        · rw [if_neg hft]
          have e : max (if x.t ≤ y.t then x.t + 1 else x.f) (if y.t ≤ x.t then y.t + 1 else y.f) = max x.f y.f := by split <;> split <;> omega
          rw [e, hf]
          exact hR
      · rw [ei, ek]
        by_cases hft : max x.f y.f ≤ min x.t y.t
        · right
          constructor <;> split <;> split <;> omega
        · have e : max (if x.t ≤ y.t then x.t + 1 else x.f) (if y.t ≤ x.t then y.t + 1 else y.f) = max x.f y.f := by split <;> split <;> omega
          rw [e, hf]
          exact hm
    · next h =>
      refine fin i k R ?_ hR hm
      cases hx : A[i]? with
      | none => exact .inl rfl
      | some x =>
        cases hy : B[k]? with
        | none => exact .inr rfl
        | some y => exact absurd hy (h x y hx)
theorem CallW_frame {P : Program} {f : FuncId} {args : List AV} {H0 H : Heap} {K : AV → Heap → Prop} (h : CallW P f args H0 K) (hs : ∀ k, H0 k = none ∨ H0 k = H k) :
    CallW P f args H fun r H' => ∃ H1, K r H1 ∧ (∀ k x, H1 k = some x → H' k = some x) ∧ ∀ k x, H k = some x → H0 k = none → H' k = some x := by
  classical
  intro F w vs hh hv
  have hsub : ∀ b x, H0 b = some x → H b = some x := fun b x hb => by
    rcases hs b with e | e
    · rw [e] at hb; cases hb
    · rw [← e]; exact hb
  have hh0 : HRel P F H0 w := ⟨fun b x hb => hh.at_ b x (hsub b x hb), fun b x hb => hh.apart b x (hsub b x hb), hh.old⟩
  refine (h F w vs hh0 hv).mono fun e w' hr => ?_
  obtain ⟨r, H1, F', v, rfl, h1, h2, h3, h4⟩ := hr
  have hF0 : ∀ k, F k → H0 k = none := fun k hk => by
    cases e : H0 k with
    | none => rfl
    | some x => exact absurd hk (hh0.apart k x e)
  have hne : ∀ k, H0 k ≠ none → H k ≠ none := fun k hk => by
    cases e : H0 k with
    | none => exact absurd e hk
    | some x => rw [hsub k x e]; simp
  have hfr : ∀ k x, H1 k = some x → ¬ (H k ≠ none ∧ H0 k = none) := fun k x hx hk => by
    rcases h3.dom k (by rw [hx]; simp) with e | e
    · exact e hk.2
    · cases e2 : H k with
      | none => exact hk.1 e2
      | some y => have := (hh.at_ k y e2).lt; omega
  refine ⟨r, fun k => if H k ≠ none ∧ H0 k = none then H k else H1 k, F', v, rfl, h1, ⟨fun b x hb => ?_, fun b x hb hf => ?_, h2.old⟩, ⟨h3.os, h3.tape, h3.output, h3.size, fun k hk e => h3.keep k hk ?_, fun k hk => ?_, h3.mono, fun k hk => ?_⟩, H1, h4, fun k x hx => ?_, fun k x hx hk => ?_⟩
  · by_cases e : H b ≠ none ∧ H0 b = none
    · rw [if_pos e] at hb
      exact (hh.at_ b x hb).mono (h3.keep b (hh.at_ b x hb).lt e.2) h3.mono (fun k hk => h3.keep k (hh.old k hk) (hF0 k hk))
    · rw [if_neg e] at hb
      exact h2.at_ b x hb
  · by_cases e : H b ≠ none ∧ H0 b = none
    · rw [if_pos e] at hb
      rcases h3.new b hf with e2 | e2 | e2
      · exact hh.apart b x hb e2
      · exact e2 e.2
      · have := (hh.at_ b x hb).lt; omega
    · rw [if_neg e] at hb
      exact h2.apart b x hb hf
  · rcases hs k with e2 | e2
    · exact e2
    · rw [e2, e]
  · by_cases e : H k ≠ none ∧ H0 k = none
    · exact .inl e.1
    · rw [if_neg e] at hk
      exact (h3.dom k hk).imp (hne k) id
  · rcases h3.new k hk with e | e | e
    · exact .inl e
    · exact .inr (.inl (hne k e))
    · exact .inr (.inr e)
  · show (if H k ≠ none ∧ H0 k = none then H k else H1 k) = some x
    rw [if_neg (hfr k x hx)]
    exact hx
  · show (if H k ≠ none ∧ H0 k = none then H k else H1 k) = some x
    rw [if_pos ⟨by rw [hx]; simp, hk⟩]
    exact hx
/-- Whether something goes wrong from two runs on. -/
def zbG (bad : Int → Int → Bool) (a b : List Run) : Nat → Nat → Nat → Bool → Bool
  | 0, _, _, x => x
  | n + 1, i, k, w => match a[i]?, b[k]? with
    | some x, some y =>
      zbG bad a b n (if x.t ≤ y.t then i + 1 else i) (if y.t ≤ x.t then k + 1 else k) (if max x.f y.f ≤ min x.t y.t then w || bad x.v y.v else w)
    | _, _ => w
theorem zbG_stable {bad : Int → Int → Bool} {a b : List Run} : ∀ (n i k : Nat) (w : Bool), a.length + b.length ≤ n + i + k → zbG bad a b (n + 1) i k w = zbG bad a b n i k w
  | 0, i, k, w, h => by
    rw [zbG, zbG]
    by_cases h1 : i < a.length
    · have h2 : ¬ k < b.length := by omega
      rw [List.getElem?_eq_none (l := b) (by omega)]
      split <;> first | rfl | simp_all
    · rw [List.getElem?_eq_none (l := a) (by omega)]
  | n + 1, i, k, w, h => by
    rw [zbG, zbG]
    split
    · next x y _ _ =>
      refine zbG_stable n _ _ _ ?_
      split <;> split <;> omega
    · rfl
structure ZipF where
  i : Nat
  k : Nat
  c : Nat
  cap : Nat
  l : List Run
  w : Bool
theorem zf_i {i k c cap : Nat} {l : List Run} {w : Bool} : (ZipF.mk i k c cap l w).i = i := (rfl)
theorem zf_k {i k c cap : Nat} {l : List Run} {w : Bool} : (ZipF.mk i k c cap l w).k = k := (rfl)
abbrev flagB (w : Bool) : Blk := .box 44 [bv w]
abbrev flagP (bf : Nat) : Blk := .box 42 [.ptr bf 0]
abbrev funB (f : FuncId) : Blk := .box 34 [.fn f []]
/-- A function that notes: what it needs, and leaves. -/
def NoteW (f : FuncId) (bf bp bo : Nat) (of : FuncId) (g : Int → Int → Int) (bad : Int → Int → Bool) (u v : Int) : Prop := ∀ (w : Bool) (H : Heap), H bf = some (flagB w) → H bp = some (flagP bf) → H bo = some (funB of) →
  CallW Try.prog f [i64 u, i64 v, .ptr bp 0, .ptr bo 0] H fun r H' => r = i64 (g u v) ∧ H' = upd H bf (some (flagB (w || bad u v)))
set_option maxHeartbeats 4000000 in
theorem ZipF_ok {a b : List Run} {f of : FuncId} {bf bp bo : Nat} {g : Int → Int → Int} {bad : Int → Int → Bool} (d1 : ¬ bf = bp) (d2 : ¬ bf = bo) (d3 : ¬ bp = bo) (hg : ∀ x ∈ a, ∀ y ∈ b, NoteW f bf bp bo of g bad x.v y.v) (ha : a.length ≤ 400000) (hb : b.length ≤ 400000) : CallW Try.prog f_line_Zip_int_int_int [lineV a, lineV b, .fn f [.ptr bp 0, .ptr bo 0]] (keepH [(bf, flagB false), (bp, flagP bf), (bo, funB of)]) fun r H' => NewV H' r (lineV (zipG g a b (a.length + b.length) 0 0 [])) ∧ H' bf = some (flagB (zbG bad a b (a.length + b.length) 0 0 false)) ∧ H' bp = some (flagP bf) := by
  have s1 : ¬ bp = bf := fun e => d1 e.symm
  have s2 : ¬ bo = bf := fun e => d2 e.symm
  have s3 : ¬ bo = bp := fun e => d3 e.symm
  obtain ⟨H0, hH0⟩ : ∃ H0, keepH [(bf, flagB false), (bp, flagP bf), (bo, funB of)] = H0 := ⟨_, rfl⟩
  have zf : H0 bf = some (flagB false) := by rw [← hH0]; simp -implicitDefEqProofs -proj only [go_sem, Nat.reduceBEq, Nat.reduceLT, Nat.reduceLeDiff, Nat.reduceAdd, Nat.reduceMul, ↓reduceIte, Int.reduceToNat, Int.reducePow, Int.reduceLT, Int.reduceLE, Int.reduceAdd, Int.reduceSub, Int.reduceMul, Int.reduceEq, Int.reduceNe]
  have zp : H0 bp = some (flagP bf) := by rw [← hH0]; simp -implicitDefEqProofs -proj only [go_sem, Nat.reduceBEq, Nat.reduceLT, Nat.reduceLeDiff, Nat.reduceAdd, Nat.reduceMul, ↓reduceIte, Int.reduceToNat, Int.reducePow, Int.reduceLT, Int.reduceLE, Int.reduceAdd, Int.reduceSub, Int.reduceMul, Int.reduceEq, Int.reduceNe, d1, s1]
  have zo : H0 bo = some (funB of) := by rw [← hH0]; simp -implicitDefEqProofs -proj only [go_sem, Nat.reduceBEq, Nat.reduceLT, Nat.reduceLeDiff, Nat.reduceAdd, Nat.reduceMul, ↓reduceIte, Int.reduceToNat, Int.reducePow, Int.reduceLT, Int.reduceLE, Int.reduceAdd, Int.reduceSub, Int.reduceMul, Int.reduceEq, Int.reduceNe, d2, s2, d3, s3]
  rw [hH0]
  refine CallW_intro comp_line_Zip_int_int_int (by simp) ?_
  simp -implicitDefEqProofs -proj only [go_sem, Nat.reduceBEq, Nat.reduceLT, Nat.reduceLeDiff, Nat.reduceAdd, Nat.reduceMul, ↓reduceIte, Int.reduceToNat, Int.reducePow, Int.reduceLT, Int.reduceLE, Int.reduceAdd, Int.reduceSub, Int.reduceMul, Int.reduceEq, Int.reduceNe]
  refine AllocA_intro (fun b3 hb3 => ?_)
  replace hb3 : H0 b3 = none := hb3
  obtain ⟨f1, _⟩ := fresh_ne hb3 zf
  obtain ⟨f2, _⟩ := fresh_ne hb3 zp
  obtain ⟨f3, _⟩ := fresh_ne hb3 zo
  simp -implicitDefEqProofs -proj only [go_sem, Nat.reduceBEq, Nat.reduceLT, Nat.reduceLeDiff, Nat.reduceAdd, Nat.reduceMul, ↓reduceIte, Int.reduceToNat, Int.reducePow, Int.reduceLT, Int.reduceLE, Int.reduceAdd, Int.reduceSub, Int.reduceMul, Int.reduceEq, Int.reduceNe]
  refine AllocA_intro (fun b4 hb4 => ?_)
  replace hb4 : upd H0 b3 _ b4 = none := hb4
  obtain ⟨n1, n2⟩ := fresh_ne hb4 upd_eq
  obtain ⟨f4, _⟩ := fresh_ne hb4 (by rw [upd_ne f1]; exact zf)
  obtain ⟨f5, _⟩ := fresh_ne hb4 (by rw [upd_ne f2]; exact zp)
  obtain ⟨f6, _⟩ := fresh_ne hb4 (by rw [upd_ne f3]; exact zo)
  simp -implicitDefEqProofs -proj only [go_sem, Nat.reduceBEq, Nat.reduceLT, Nat.reduceLeDiff, Nat.reduceAdd, Nat.reduceMul, ↓reduceIte, Int.reduceToNat, Int.reducePow, Int.reduceLT, Int.reduceLE, Int.reduceAdd, Int.reduceSub, Int.reduceMul, Int.reduceEq, Int.reduceNe, n1, n2]
  refine AllocA_intro (fun b6 hb6 => ?_)
  replace hb6 : upd (upd H0 b3 _) b4 _ b6 = none := hb6
  obtain ⟨n3, n4⟩ := fresh_ne hb6 upd_eq
  obtain ⟨n5, n6⟩ := fresh_ne hb6 (by rw [upd_ne n1]; exact upd_eq)
  obtain ⟨f7, _⟩ := fresh_ne hb6 (by rw [upd_ne f4, upd_ne f1]; exact zf)
  obtain ⟨f8, _⟩ := fresh_ne hb6 (by rw [upd_ne f5, upd_ne f2]; exact zp)
  obtain ⟨f9, _⟩ := fresh_ne hb6 (by rw [upd_ne f6, upd_ne f3]; exact zo)
  simp -implicitDefEqProofs -proj only [go_sem, Nat.reduceBEq, Nat.reduceLT, Nat.reduceLeDiff, Nat.reduceAdd, Nat.reduceMul, ↓reduceIte, Int.reduceToNat, Int.reducePow, Int.reduceLT, Int.reduceLE, Int.reduceAdd, Int.reduceSub, Int.reduceMul, Int.reduceEq, Int.reduceNe, n1, n2, n3, n4, n5, n6, rowR_len]
  refine AllocA_intro (fun b7 hb7 => ?_)
  replace hb7 : upd (upd (upd H0 b3 _) b4 _) b6 _ b7 = none := hb7
  obtain ⟨n7, n8⟩ := fresh_ne hb7 upd_eq
  obtain ⟨p1, p2⟩ := fresh_ne hb7 (by rw [upd_ne n3]; exact upd_eq)
  obtain ⟨p3, p4⟩ := fresh_ne hb7 (by rw [upd_ne n5, upd_ne n1]; exact upd_eq)
  obtain ⟨fa, fa'⟩ := fresh_ne hb7 (by rw [upd_ne f7, upd_ne f4, upd_ne f1]; exact zf)
  obtain ⟨fb, fb'⟩ := fresh_ne hb7 (by rw [upd_ne f8, upd_ne f5, upd_ne f2]; exact zp)
  obtain ⟨fc, fc'⟩ := fresh_ne hb7 (by rw [upd_ne f9, upd_ne f6, upd_ne f3]; exact zo)
  simp -implicitDefEqProofs -proj only [go_sem, Nat.reduceBEq, Nat.reduceLT, Nat.reduceLeDiff, Nat.reduceAdd, Nat.reduceMul, ↓reduceIte, Int.reduceToNat, Int.reducePow, Int.reduceLT, Int.reduceLE, Int.reduceAdd, Int.reduceSub, Int.reduceMul, Int.reduceEq, Int.reduceNe, n1, n2, n3, n4, n5, n6, n7, n8, p1, p2, p3, p4, rowR_len]
  have c1 : ¬ bf = b3 := fun e => f1 e.symm
  have c2 : ¬ bp = b3 := fun e => f2 e.symm
  have c3 : ¬ bo = b3 := fun e => f3 e.symm
  have c4 : ¬ bf = b4 := fun e => f4 e.symm
  have c5 : ¬ bp = b4 := fun e => f5 e.symm
  have c6 : ¬ bo = b4 := fun e => f6 e.symm
  have c7 : ¬ bf = b6 := fun e => f7 e.symm
  have c8 : ¬ bp = b6 := fun e => f8 e.symm
  have c9 : ¬ bo = b6 := fun e => f9 e.symm
  obtain ⟨rest, hrest⟩ : ∃ rest : Bool → List (Nat × Blk), rest = fun w => [(b6, .box 38 [.nilsl 3]), (b3, .box 38 [slR a]), (b4, .box 38 [slR b]), (bf, flagB w), (bp, flagP bf), (bo, funB of)] := ⟨_, rfl⟩
  refine LoopA_k (fun x : ZipF => x.i ≤ a.length ∧ x.k ≤ b.length ∧ x.l.length ≤ x.i + x.k ∧ zipG g a b (a.length + b.length - x.i - x.k) x.i x.k x.l = zipG g a b (a.length + b.length) 0 0 [] ∧ zbG bad a b (a.length + b.length - x.i - x.k) x.i x.k x.w = zbG bad a b (a.length + b.length) 0 0 false ∧ (x.l ≠ [] → x.c ≠ b7 ∧ x.c ≠ b6 ∧ x.c ≠ b3 ∧ x.c ≠ b4 ∧ x.c ≠ bf ∧ x.c ≠ bp ∧ x.c ≠ bo)) 74 (fun x => [(8, i64 x.i), (9, i64 x.k), (3, .ptr b3 0), (4, .ptr b4 0), (6, .ptr b6 0), (7, .ptr b7 0), (2, .fn f [.ptr bp 0, .ptr bo 0])]) (fun x => LH b7 x.c x.cap x.l ++ rest x.w) (fun x => a.length + b.length - x.i - x.k) ⟨0, 0, 0, 0, [], false⟩ ⟨Nat.zero_le _, Nat.zero_le _, Nat.zero_le _, rfl, rfl, fun h => absurd rfl h⟩ rfl ?_ ?_ ?_
  · simp -implicitDefEqProofs -proj only [go_sem, Nat.reduceBEq, Nat.reduceLT, Nat.reduceLeDiff, Nat.reduceAdd, Nat.reduceMul, ↓reduceIte, Int.reduceToNat, Int.reducePow, Int.reduceLT, Int.reduceLE, Int.reduceAdd, Int.reduceSub, Int.reduceMul, Int.reduceEq, Int.reduceNe, AllAt]
  · rw [AllH_append, hrest]
    simp -implicitDefEqProofs -proj only [go_sem, Nat.reduceBEq, Nat.reduceLT, Nat.reduceLeDiff, Nat.reduceAdd, Nat.reduceMul, ↓reduceIte, Int.reduceToNat, Int.reducePow, Int.reduceLT, Int.reduceLE, Int.reduceAdd, Int.reduceSub, Int.reduceMul, Int.reduceEq, Int.reduceNe, AllH, LH, n1, n2, n3, n4, n5, n6, n7, n8, p1, p2, p3, p4, f1, f2, f3, f4, f5, f6, f7, f8, f9, fa, fb, fc, zf, zp, zo]
  · rintro ⟨i, k, c, cap, R, w⟩ ⟨hi, hk, hlen, hR, hW, hc⟩
    simp -implicitDefEqProofs only [] at hi hk hlen hR hW hc
    have hat := lineAt_LH (b := b7) (c := c) (cap := cap) (l := R) (rest := rest w) (fun h => (hc h).1)
    have h6 : keepH (LH b7 c cap R ++ rest w) b6 = some (.box 38 [.nilsl 3]) := by
      rw [rest_LH n8 (fun h e => (hc h).2.1 e.symm), hrest]; simp -implicitDefEqProofs -proj only [go_sem, Nat.reduceBEq, Nat.reduceLT, Nat.reduceLeDiff, Nat.reduceAdd, Nat.reduceMul, ↓reduceIte, Int.reduceToNat, Int.reducePow, Int.reduceLT, Int.reduceLE, Int.reduceAdd, Int.reduceSub, Int.reduceMul, Int.reduceEq, Int.reduceNe]
    have h3 : keepH (LH b7 c cap R ++ rest w) b3 = some (.box 38 [slR a]) := by
      rw [rest_LH p4 (fun h e => (hc h).2.2.1 e.symm), hrest]; simp -implicitDefEqProofs -proj only [go_sem, Nat.reduceBEq, Nat.reduceLT, Nat.reduceLeDiff, Nat.reduceAdd, Nat.reduceMul, ↓reduceIte, Int.reduceToNat, Int.reducePow, Int.reduceLT, Int.reduceLE, Int.reduceAdd, Int.reduceSub, Int.reduceMul, Int.reduceEq, Int.reduceNe, n6]
    have h4 : keepH (LH b7 c cap R ++ rest w) b4 = some (.box 38 [slR b]) := by
      rw [rest_LH p2 (fun h e => (hc h).2.2.2.1 e.symm), hrest]; simp -implicitDefEqProofs -proj only [go_sem, Nat.reduceBEq, Nat.reduceLT, Nat.reduceLeDiff, Nat.reduceAdd, Nat.reduceMul, ↓reduceIte, Int.reduceToNat, Int.reducePow, Int.reduceLT, Int.reduceLE, Int.reduceAdd, Int.reduceSub, Int.reduceMul, Int.reduceEq, Int.reduceNe, n4, n1]
    have hf : keepH (LH b7 c cap R ++ rest w) bf = some (flagB w) := by
      rw [rest_LH fa' (fun h e => (hc h).2.2.2.2.1 e.symm), hrest]; simp -implicitDefEqProofs -proj only [go_sem, Nat.reduceBEq, Nat.reduceLT, Nat.reduceLeDiff, Nat.reduceAdd, Nat.reduceMul, ↓reduceIte, Int.reduceToNat, Int.reducePow, Int.reduceLT, Int.reduceLE, Int.reduceAdd, Int.reduceSub, Int.reduceMul, Int.reduceEq, Int.reduceNe, c7, c1, c4]
    have hp : keepH (LH b7 c cap R ++ rest w) bp = some (flagP bf) := by
      rw [rest_LH fb' (fun h e => (hc h).2.2.2.2.2.1 e.symm), hrest]; simp -implicitDefEqProofs -proj only [go_sem, Nat.reduceBEq, Nat.reduceLT, Nat.reduceLeDiff, Nat.reduceAdd, Nat.reduceMul, ↓reduceIte, Int.reduceToNat, Int.reducePow, Int.reduceLT, Int.reduceLE, Int.reduceAdd, Int.reduceSub, Int.reduceMul, Int.reduceEq, Int.reduceNe, c8, c2, c5, s1]
    have ho : keepH (LH b7 c cap R ++ rest w) bo = some (funB of) := by
      rw [rest_LH fc' (fun h e => (hc h).2.2.2.2.2.2 e.symm), hrest]; simp -implicitDefEqProofs -proj only [go_sem, Nat.reduceBEq, Nat.reduceLT, Nat.reduceLeDiff, Nat.reduceAdd, Nat.reduceMul, ↓reduceIte, Int.reduceToNat, Int.reducePow, Int.reduceLT, Int.reduceLE, Int.reduceAdd, Int.reduceSub, Int.reduceMul, Int.reduceEq, Int.reduceNe, c9, c3, c6, s2, s3]
    generalize hH : keepH (LH b7 c cap R ++ rest w) = H at *
    by_cases hin : i < a.length ∧ k < b.length
    · obtain ⟨h, h'⟩ := hin
      have e1 := rowR_at h
      have e2 := rowR_at h'
      have hx : a[i]? = some a[i] := List.getElem?_eq_getElem h
      have hy : b[k]? = some b[k] := List.getElem?_eq_getElem h'
      have hgg := hg _ (List.getElem_mem h) _ (List.getElem_mem h')
      generalize a[i] = x at *
      generalize b[k] = y at *
      rw [show a.length + b.length - i - k = (a.length + b.length - i - k - 1) + 1 by omega, zipG, hx, hy] at hR
      rw [show a.length + b.length - i - k = (a.length + b.length - i - k - 1) + 1 by omega, zbG, hx, hy] at hW
      simp -implicitDefEqProofs only [] at hR hW
      simp -implicitDefEqProofs -proj only [go_sem, Nat.reduceBEq, Nat.reduceLT, Nat.reduceLeDiff, Nat.reduceAdd, Nat.reduceMul, ↓reduceIte, Int.reduceToNat, Int.reducePow, Int.reduceLT, Int.reduceLE, Int.reduceAdd, Int.reduceSub, Int.reduceMul, Int.reduceEq, Int.reduceNe, zf_i, zf_k, h3, h4, rowR_len, decide_eq_true (show (i : Int) < a.length by omega), decide_eq_true (show (k : Int) < b.length by omega)]
      (repeat' (with_reducible refine VC_intro ?_ (fun h => ?_); (focus first | decide | omega); clear h; try simp -implicitDefEqProofs -proj only [go_sem, Nat.reduceBEq, Nat.reduceLT, Nat.reduceLeDiff, Nat.reduceAdd, Nat.reduceMul, ↓reduceIte, Int.reduceToNat, Int.reducePow, Int.reduceLT, Int.reduceLE, Int.reduceAdd, Int.reduceSub, Int.reduceMul, Int.reduceEq, Int.reduceNe, eq_self, zf_i, zf_k, h3, h4, rowR_len, decide_eq_true (show (i : Int) < a.length by omega), decide_eq_true (show (k : Int) < b.length by omega)]))
      refine ElemA_at _ (by omega) e1 ?_
      simp -implicitDefEqProofs -proj only [go_sem, Nat.reduceBEq, Nat.reduceLT, Nat.reduceLeDiff, Nat.reduceAdd, Nat.reduceMul, ↓reduceIte, Int.reduceToNat, Int.reducePow, Int.reduceLT, Int.reduceLE, Int.reduceAdd, Int.reduceSub, Int.reduceMul, Int.reduceEq, Int.reduceNe, zf_i, zf_k, h3, h4, rowR_len, decide_eq_true (show (i : Int) < a.length by omega), decide_eq_true (show (k : Int) < b.length by omega)]
      (repeat' (with_reducible refine VC_intro ?_ (fun h => ?_); (focus first | decide | omega); clear h; try simp -implicitDefEqProofs -proj only [go_sem, Nat.reduceBEq, Nat.reduceLT, Nat.reduceLeDiff, Nat.reduceAdd, Nat.reduceMul, ↓reduceIte, Int.reduceToNat, Int.reducePow, Int.reduceLT, Int.reduceLE, Int.reduceAdd, Int.reduceSub, Int.reduceMul, Int.reduceEq, Int.reduceNe, eq_self, zf_i, zf_k, h3, h4, rowR_len, decide_eq_true (show (i : Int) < a.length by omega), decide_eq_true (show (k : Int) < b.length by omega)]))
      refine ElemA_at _ (by omega) e2 ?_
      simp -implicitDefEqProofs -proj only [go_sem, Nat.reduceBEq, Nat.reduceLT, Nat.reduceLeDiff, Nat.reduceAdd, Nat.reduceMul, ↓reduceIte, Int.reduceToNat, Int.reducePow, Int.reduceLT, Int.reduceLE, Int.reduceAdd, Int.reduceSub, Int.reduceMul, Int.reduceEq, Int.reduceNe, zf_i, zf_k, h3, h4, rowR_len, decide_eq_true (show (i : Int) < a.length by omega), decide_eq_true (show (k : Int) < b.length by omega)]
      (repeat' (with_reducible refine VC_intro ?_ (fun h => ?_); (focus first | decide | omega); clear h; try simp -implicitDefEqProofs -proj only [go_sem, Nat.reduceBEq, Nat.reduceLT, Nat.reduceLeDiff, Nat.reduceAdd, Nat.reduceMul, ↓reduceIte, Int.reduceToNat, Int.reducePow, Int.reduceLT, Int.reduceLE, Int.reduceAdd, Int.reduceSub, Int.reduceMul, Int.reduceEq, Int.reduceNe, eq_self, zf_i, zf_k, h3, h4, rowR_len, decide_eq_true (show (i : Int) < a.length by omega), decide_eq_true (show (k : Int) < b.length by omega)]))
      refine AllocA_intro (fun b10 hb10 => ?_)
      replace hb10 : H b10 = none := hb10
      obtain ⟨q1, q3⟩ := hat.fresh hb10
      have t6 := (fresh_ne hb10 h6).1
      have t3 := (fresh_ne hb10 h3).1
      have t4 := (fresh_ne hb10 h4).1
      have tf := (fresh_ne hb10 hf).1
      have tp := (fresh_ne hb10 hp).1
      have to' := (fresh_ne hb10 ho).1
      simp -implicitDefEqProofs -proj only [go_sem, Nat.reduceBEq, Nat.reduceLT, Nat.reduceLeDiff, Nat.reduceAdd, Nat.reduceMul, ↓reduceIte, Int.reduceToNat, Int.reducePow, Int.reduceLT, Int.reduceLE, Int.reduceAdd, Int.reduceSub, Int.reduceMul, Int.reduceEq, Int.reduceNe]
      refine AllocA_intro (fun b11 hb11 => ?_)
      replace hb11 : upd H b10 _ b11 = none := hb11
      obtain ⟨r3, r4⟩ := fresh_ne hb11 upd_eq
      have hb11' : H b11 = none := by rw [upd_ne r4] at hb11; exact hb11
      obtain ⟨r1, r3'⟩ := hat.fresh hb11'
      have u6 := (fresh_ne hb11' h6).1
      have u3 := (fresh_ne hb11' h3).1
      have u4 := (fresh_ne hb11' h4).1
      have uf := (fresh_ne hb11' hf).1
      have up := (fresh_ne hb11' hp).1
      have uo := (fresh_ne hb11' ho).1
      have vf : ¬ bf = b10 := fun e => tf e.symm
      have wf : ¬ bf = b11 := fun e => uf e.symm
      have q2 : ¬ b7 = b10 := fun e => q1 e.symm
      have r2 : ¬ b7 = b11 := fun e => r1 e.symm
      by_cases hA : x.t ≤ y.t
      · by_cases hB : y.t ≤ x.t
        · by_cases hM : max x.f y.f ≤ min x.t y.t
          · rw [if_pos hA, if_pos hB, if_pos hM] at hR hW
            have dM := decide_eq_true hM
            have dA := decide_eq_true hA
            have dB := decide_eq_true hB
            simp -implicitDefEqProofs -proj only [go_sem, Nat.reduceBEq, Nat.reduceLT, Nat.reduceLeDiff, Nat.reduceAdd, Nat.reduceMul, ↓reduceIte, Int.reduceToNat, Int.reducePow, Int.reduceLT, Int.reduceLE, Int.reduceAdd, Int.reduceSub, Int.reduceMul, Int.reduceEq, Int.reduceNe, h3, h4, rowR_len, q1, q2, r1, r2, r3, r4, dM, dA, dB, i64_succ (show i < 9223372036854775807 by omega), i64_succ (show k < 9223372036854775807 by omega)]
            (repeat' (with_reducible refine VC_intro ?_ (fun h => ?_); (focus first | decide | omega); clear h; try simp -implicitDefEqProofs -proj only [go_sem, Nat.reduceBEq, Nat.reduceLT, Nat.reduceLeDiff, Nat.reduceAdd, Nat.reduceMul, ↓reduceIte, Int.reduceToNat, Int.reducePow, Int.reduceLT, Int.reduceLE, Int.reduceAdd, Int.reduceSub, Int.reduceMul, Int.reduceEq, Int.reduceNe, eq_self, h3, h4, rowR_len, q1, q2, r1, r2, r3, r4, dM, dA, dB, i64_succ (show i < 9223372036854775807 by omega), i64_succ (show k < 9223372036854775807 by omega)]))
            have hnote := fun z1 z2 z zz => hgg w (upd (upd (upd (upd H b10 z1) b11 z2) b10 z) b11 zz) (by rw [upd_ne uf, upd_ne tf, upd_ne uf, upd_ne tf]; exact hf) (by rw [upd_ne up, upd_ne tp, upd_ne up, upd_ne tp]; exact hp) (by rw [upd_ne uo, upd_ne to', upd_ne uo, upd_ne to']; exact ho)
            refine CallA_w (hnote _ _ _ _) (fun rr H' hk => ?_)
            obtain ⟨rfl, rfl⟩ := hk
            simp -implicitDefEqProofs -proj only [go_sem, Nat.reduceBEq, Nat.reduceLT, Nat.reduceLeDiff, Nat.reduceAdd, Nat.reduceMul, ↓reduceIte, Int.reduceToNat, Int.reducePow, Int.reduceLT, Int.reduceLE, Int.reduceAdd, Int.reduceSub, Int.reduceMul, Int.reduceEq, Int.reduceNe, h3, h4, rowR_len, q1, q2, r1, r2, r3, r4, dM, dA, dB, i64_succ (show i < 9223372036854775807 by omega), i64_succ (show k < 9223372036854775807 by omega), vf, wf]
            have hput := fun z1 z2 z ww zz => put_ok (r := ⟨max x.f y.f, min x.t y.t, g x.v y.v⟩) (((((hat.upd (k := b10) (x := z1) q1 q3).upd (k := b11) (x := z2) r1 r3').upd (k := b10) (x := z) q1 q3).upd (k := b11) (x := ww) r1 r3').upd (k := bf) (x := zz) fa' (fun h e => (hc h).2.2.2.2.1 e.symm)) (by omega)
            refine CallA_w (hput _ _ _ _ _) (fun rr H' hk => ?_)
            obtain ⟨c', hat', hfr⟩ := hk
            have g6 := hfr b6 _ n8 (fun h e => (hc h).2.1 e.symm) (by rw [upd_ne c7, upd_ne u6, upd_ne t6, upd_ne u6, upd_ne t6]; exact h6)
            have g3 := hfr b3 _ p4 (fun h e => (hc h).2.2.1 e.symm) (by rw [upd_ne c1, upd_ne u3, upd_ne t3, upd_ne u3, upd_ne t3]; exact h3)
            have g4 := hfr b4 _ p2 (fun h e => (hc h).2.2.2.1 e.symm) (by rw [upd_ne c4, upd_ne u4, upd_ne t4, upd_ne u4, upd_ne t4]; exact h4)
            have gf := hfr bf _ fa' (fun h e => (hc h).2.2.2.2.1 e.symm) upd_eq
            have gp := hfr bp _ fb' (fun h e => (hc h).2.2.2.2.2.1 e.symm) (by rw [upd_ne d1, upd_ne up, upd_ne tp, upd_ne up, upd_ne tp]; exact hp)
            have go := hfr bo _ fc' (fun h e => (hc h).2.2.2.2.2.2 e.symm) (by rw [upd_ne d2, upd_ne uo, upd_ne to', upd_ne uo, upd_ne to']; exact ho)
            have g10 := hfr b10 _ q1 q3 (by rw [upd_ne vf, upd_ne r3, upd_eq])
            have g11 := hfr b11 _ r1 r3' (by rw [upd_ne wf, upd_eq])
            obtain ⟨cap', hah, hc'⟩ := allH_LH hat'
            simp -implicitDefEqProofs -proj only [go_sem, Nat.reduceBEq, Nat.reduceLT, Nat.reduceLeDiff, Nat.reduceAdd, Nat.reduceMul, ↓reduceIte, Int.reduceToNat, Int.reducePow, Int.reduceLT, Int.reduceLE, Int.reduceAdd, Int.reduceSub, Int.reduceMul, Int.reduceEq, Int.reduceNe, h3, h4, rowR_len, q1, q2, r1, r2, r3, r4, dM, dA, dB, i64_succ (show i < 9223372036854775807 by omega), i64_succ (show k < 9223372036854775807 by omega), g10.1, g11.1, eq_self]
            have hRR : putR R ⟨max x.f y.f, min x.t y.t, g x.v y.v⟩ ≠ [] := putR_ne
            have hll := @putR_len R ⟨max x.f y.f, min x.t y.t, g x.v y.v⟩
            refine LoopQ_k ⟨i + 1, k + 1, c', cap', putR R ⟨max x.f y.f, min x.t y.t, g x.v y.v⟩, (w || bad x.v y.v)⟩ ⟨by show i + 1 ≤ a.length; omega, by show k + 1 ≤ b.length; omega, by show (putR R _).length ≤ i + 1 + (k + 1); omega, ?_, ?_, fun h => ⟨hc' h, fun e => g6.2 e.symm, fun e => g3.2 e.symm, fun e => g4.2 e.symm, fun e => gf.2 e.symm, fun e => gp.2 e.symm, fun e => go.2 e.symm⟩⟩ (by show a.length + b.length - (i + 1) - (k + 1) < a.length + b.length - i - k; omega) rfl ?_ ?_
            · show zipG g a b (a.length + b.length - (i + 1) - (k + 1)) (i + 1) (k + 1) _ = _
              rw [← hR]
              try rw [show a.length + b.length - i - k - 1 = a.length + b.length - (i + 1) - (k + 1) by omega]
              try (rw [show a.length + b.length - i - k - 1 = (a.length + b.length - (i + 1) - (k + 1)) + 1 by omega, zipG_stable _ _ _ _ (by omega)])
            · show zbG bad a b (a.length + b.length - (i + 1) - (k + 1)) (i + 1) (k + 1) _ = _
              rw [← hW]
              try rw [show a.length + b.length - i - k - 1 = a.length + b.length - (i + 1) - (k + 1) by omega]
              try (rw [show a.length + b.length - i - k - 1 = (a.length + b.length - (i + 1) - (k + 1)) + 1 by omega, zbG_stable _ _ _ _ (by omega)])
            · simp -implicitDefEqProofs -proj only [go_sem, Nat.reduceBEq, Nat.reduceLT, Nat.reduceLeDiff, Nat.reduceAdd, Nat.reduceMul, ↓reduceIte, Int.reduceToNat, Int.reducePow, Int.reduceLT, Int.reduceLE, Int.reduceAdd, Int.reduceSub, Int.reduceMul, Int.reduceEq, Int.reduceNe, AllAt, zf_i, zf_k]
            · rw [AllH_append, hrest]
              exact ⟨hah, g6.1, g3.1, g4.1, gf.1, gp.1, go.1, trivial⟩
          · rw [if_pos hA, if_pos hB, if_neg hM] at hR hW
            have dM := decide_eq_false hM
            have dA := decide_eq_true hA
            have dB := decide_eq_true hB
            simp -implicitDefEqProofs -proj only [go_sem, Nat.reduceBEq, Nat.reduceLT, Nat.reduceLeDiff, Nat.reduceAdd, Nat.reduceMul, ↓reduceIte, Int.reduceToNat, Int.reducePow, Int.reduceLT, Int.reduceLE, Int.reduceAdd, Int.reduceSub, Int.reduceMul, Int.reduceEq, Int.reduceNe, h3, h4, rowR_len, q1, q2, r1, r2, r3, r4, dM, dA, dB, i64_succ (show i < 9223372036854775807 by omega), i64_succ (show k < 9223372036854775807 by omega)]
            (repeat' (with_reducible refine VC_intro ?_ (fun h => ?_); (focus first | decide | omega); clear h; try simp -implicitDefEqProofs -proj only [go_sem, Nat.reduceBEq, Nat.reduceLT, Nat.reduceLeDiff, Nat.reduceAdd, Nat.reduceMul, ↓reduceIte, Int.reduceToNat, Int.reducePow, Int.reduceLT, Int.reduceLE, Int.reduceAdd, Int.reduceSub, Int.reduceMul, Int.reduceEq, Int.reduceNe, eq_self, h3, h4, rowR_len, q1, q2, r1, r2, r3, r4, dM, dA, dB, i64_succ (show i < 9223372036854775807 by omega), i64_succ (show k < 9223372036854775807 by omega)]))
            obtain ⟨cap', hah, hc'⟩ := allH_LH ((((hat.upd (k := b10) (x := some (.box 53 [.d (.int .i64 0), .d (.int .i64 0), .d (.int .i64 0)])) q1 q3).upd (k := b11) (x := some (.box 53 [.d (.int .i64 0), .d (.int .i64 0), .d (.int .i64 0)])) r1 r3').upd (k := b10) (x := some (.box 53 [.d (.int .i64 x.f), .d (.int .i64 x.t), .d (.int .i64 x.v)])) q1 q3).upd (k := b11) (x := some (.box 53 [.d (.int .i64 y.f), .d (.int .i64 y.t), .d (.int .i64 y.v)])) r1 r3')
            refine LoopQ_k ⟨i + 1, k + 1, c, cap', R, w⟩ ⟨by show i + 1 ≤ a.length; omega, by show k + 1 ≤ b.length; omega, by show R.length ≤ i + 1 + (k + 1); omega, ?_, ?_, hc⟩ (by show a.length + b.length - (i + 1) - (k + 1) < a.length + b.length - i - k; omega) rfl ?_ ?_
            · show zipG g a b (a.length + b.length - (i + 1) - (k + 1)) (i + 1) (k + 1) _ = _
              rw [← hR]
              try rw [show a.length + b.length - i - k - 1 = a.length + b.length - (i + 1) - (k + 1) by omega]
              try (rw [show a.length + b.length - i - k - 1 = (a.length + b.length - (i + 1) - (k + 1)) + 1 by omega, zipG_stable _ _ _ _ (by omega)])
            · show zbG bad a b (a.length + b.length - (i + 1) - (k + 1)) (i + 1) (k + 1) _ = _
              rw [← hW]
              try rw [show a.length + b.length - i - k - 1 = a.length + b.length - (i + 1) - (k + 1) by omega]
              try (rw [show a.length + b.length - i - k - 1 = (a.length + b.length - (i + 1) - (k + 1)) + 1 by omega, zbG_stable _ _ _ _ (by omega)])
            · simp -implicitDefEqProofs -proj only [go_sem, Nat.reduceBEq, Nat.reduceLT, Nat.reduceLeDiff, Nat.reduceAdd, Nat.reduceMul, ↓reduceIte, Int.reduceToNat, Int.reducePow, Int.reduceLT, Int.reduceLE, Int.reduceAdd, Int.reduceSub, Int.reduceMul, Int.reduceEq, Int.reduceNe, AllAt, zf_i, zf_k]
            · rw [AllH_append, hrest]
              exact ⟨hah, ((upd_ne u6).trans ((upd_ne t6).trans ((upd_ne u6).trans ((upd_ne t6).trans h6)))), ((upd_ne u3).trans ((upd_ne t3).trans ((upd_ne u3).trans ((upd_ne t3).trans h3)))), ((upd_ne u4).trans ((upd_ne t4).trans ((upd_ne u4).trans ((upd_ne t4).trans h4)))), ((upd_ne uf).trans ((upd_ne tf).trans ((upd_ne uf).trans ((upd_ne tf).trans hf)))), ((upd_ne up).trans ((upd_ne tp).trans ((upd_ne up).trans ((upd_ne tp).trans hp)))), ((upd_ne uo).trans ((upd_ne to').trans ((upd_ne uo).trans ((upd_ne to').trans ho)))), trivial⟩
        · by_cases hM : max x.f y.f ≤ min x.t y.t
          · rw [if_pos hA, if_neg hB, if_pos hM] at hR hW
            have dM := decide_eq_true hM
            have dA := decide_eq_true hA
            have dB := decide_eq_false hB
            simp -implicitDefEqProofs -proj only [go_sem, Nat.reduceBEq, Nat.reduceLT, Nat.reduceLeDiff, Nat.reduceAdd, Nat.reduceMul, ↓reduceIte, Int.reduceToNat, Int.reducePow, Int.reduceLT, Int.reduceLE, Int.reduceAdd, Int.reduceSub, Int.reduceMul, Int.reduceEq, Int.reduceNe, h3, h4, rowR_len, q1, q2, r1, r2, r3, r4, dM, dA, dB, i64_succ (show i < 9223372036854775807 by omega), i64_succ (show k < 9223372036854775807 by omega)]
            (repeat' (with_reducible refine VC_intro ?_ (fun h => ?_); (focus first | decide | omega); clear h; try simp -implicitDefEqProofs -proj only [go_sem, Nat.reduceBEq, Nat.reduceLT, Nat.reduceLeDiff, Nat.reduceAdd, Nat.reduceMul, ↓reduceIte, Int.reduceToNat, Int.reducePow, Int.reduceLT, Int.reduceLE, Int.reduceAdd, Int.reduceSub, Int.reduceMul, Int.reduceEq, Int.reduceNe, eq_self, h3, h4, rowR_len, q1, q2, r1, r2, r3, r4, dM, dA, dB, i64_succ (show i < 9223372036854775807 by omega), i64_succ (show k < 9223372036854775807 by omega)]))
            have hnote := fun z1 z2 z zz => hgg w (upd (upd (upd (upd H b10 z1) b11 z2) b10 z) b11 zz) (by rw [upd_ne uf, upd_ne tf, upd_ne uf, upd_ne tf]; exact hf) (by rw [upd_ne up, upd_ne tp, upd_ne up, upd_ne tp]; exact hp) (by rw [upd_ne uo, upd_ne to', upd_ne uo, upd_ne to']; exact ho)
            refine CallA_w (hnote _ _ _ _) (fun rr H' hk => ?_)
            obtain ⟨rfl, rfl⟩ := hk
            simp -implicitDefEqProofs -proj only [go_sem, Nat.reduceBEq, Nat.reduceLT, Nat.reduceLeDiff, Nat.reduceAdd, Nat.reduceMul, ↓reduceIte, Int.reduceToNat, Int.reducePow, Int.reduceLT, Int.reduceLE, Int.reduceAdd, Int.reduceSub, Int.reduceMul, Int.reduceEq, Int.reduceNe, h3, h4, rowR_len, q1, q2, r1, r2, r3, r4, dM, dA, dB, i64_succ (show i < 9223372036854775807 by omega), i64_succ (show k < 9223372036854775807 by omega), vf, wf]
            have hput := fun z1 z2 z ww zz => put_ok (r := ⟨max x.f y.f, min x.t y.t, g x.v y.v⟩) (((((hat.upd (k := b10) (x := z1) q1 q3).upd (k := b11) (x := z2) r1 r3').upd (k := b10) (x := z) q1 q3).upd (k := b11) (x := ww) r1 r3').upd (k := bf) (x := zz) fa' (fun h e => (hc h).2.2.2.2.1 e.symm)) (by omega)
            refine CallA_w (hput _ _ _ _ _) (fun rr H' hk => ?_)
            obtain ⟨c', hat', hfr⟩ := hk
            have g6 := hfr b6 _ n8 (fun h e => (hc h).2.1 e.symm) (by rw [upd_ne c7, upd_ne u6, upd_ne t6, upd_ne u6, upd_ne t6]; exact h6)
            have g3 := hfr b3 _ p4 (fun h e => (hc h).2.2.1 e.symm) (by rw [upd_ne c1, upd_ne u3, upd_ne t3, upd_ne u3, upd_ne t3]; exact h3)
            have g4 := hfr b4 _ p2 (fun h e => (hc h).2.2.2.1 e.symm) (by rw [upd_ne c4, upd_ne u4, upd_ne t4, upd_ne u4, upd_ne t4]; exact h4)
            have gf := hfr bf _ fa' (fun h e => (hc h).2.2.2.2.1 e.symm) upd_eq
            have gp := hfr bp _ fb' (fun h e => (hc h).2.2.2.2.2.1 e.symm) (by rw [upd_ne d1, upd_ne up, upd_ne tp, upd_ne up, upd_ne tp]; exact hp)
            have go := hfr bo _ fc' (fun h e => (hc h).2.2.2.2.2.2 e.symm) (by rw [upd_ne d2, upd_ne uo, upd_ne to', upd_ne uo, upd_ne to']; exact ho)
            have g10 := hfr b10 _ q1 q3 (by rw [upd_ne vf, upd_ne r3, upd_eq])
            have g11 := hfr b11 _ r1 r3' (by rw [upd_ne wf, upd_eq])
            obtain ⟨cap', hah, hc'⟩ := allH_LH hat'
            simp -implicitDefEqProofs -proj only [go_sem, Nat.reduceBEq, Nat.reduceLT, Nat.reduceLeDiff, Nat.reduceAdd, Nat.reduceMul, ↓reduceIte, Int.reduceToNat, Int.reducePow, Int.reduceLT, Int.reduceLE, Int.reduceAdd, Int.reduceSub, Int.reduceMul, Int.reduceEq, Int.reduceNe, h3, h4, rowR_len, q1, q2, r1, r2, r3, r4, dM, dA, dB, i64_succ (show i < 9223372036854775807 by omega), i64_succ (show k < 9223372036854775807 by omega), g10.1, g11.1, eq_self]
            have hRR : putR R ⟨max x.f y.f, min x.t y.t, g x.v y.v⟩ ≠ [] := putR_ne
            have hll := @putR_len R ⟨max x.f y.f, min x.t y.t, g x.v y.v⟩
            refine LoopQ_k ⟨i + 1, k, c', cap', putR R ⟨max x.f y.f, min x.t y.t, g x.v y.v⟩, (w || bad x.v y.v)⟩ ⟨by show i + 1 ≤ a.length; omega, by show k ≤ b.length; omega, by show (putR R _).length ≤ i + 1 + (k); omega, ?_, ?_, fun h => ⟨hc' h, fun e => g6.2 e.symm, fun e => g3.2 e.symm, fun e => g4.2 e.symm, fun e => gf.2 e.symm, fun e => gp.2 e.symm, fun e => go.2 e.symm⟩⟩ (by show a.length + b.length - (i + 1) - (k) < a.length + b.length - i - k; omega) rfl ?_ ?_
            · show zipG g a b (a.length + b.length - (i + 1) - (k)) (i + 1) (k) _ = _
              rw [← hR]
              try rw [show a.length + b.length - i - k - 1 = a.length + b.length - (i + 1) - (k) by omega]
              try (rw [show a.length + b.length - i - k - 1 = (a.length + b.length - (i + 1) - (k + 1)) + 1 by omega, zipG_stable _ _ _ _ (by omega)])
            · show zbG bad a b (a.length + b.length - (i + 1) - (k)) (i + 1) (k) _ = _
              rw [← hW]
              try rw [show a.length + b.length - i - k - 1 = a.length + b.length - (i + 1) - (k) by omega]
              try (rw [show a.length + b.length - i - k - 1 = (a.length + b.length - (i + 1) - (k + 1)) + 1 by omega, zbG_stable _ _ _ _ (by omega)])
            · simp -implicitDefEqProofs -proj only [go_sem, Nat.reduceBEq, Nat.reduceLT, Nat.reduceLeDiff, Nat.reduceAdd, Nat.reduceMul, ↓reduceIte, Int.reduceToNat, Int.reducePow, Int.reduceLT, Int.reduceLE, Int.reduceAdd, Int.reduceSub, Int.reduceMul, Int.reduceEq, Int.reduceNe, AllAt, zf_i, zf_k]
            · rw [AllH_append, hrest]
              exact ⟨hah, g6.1, g3.1, g4.1, gf.1, gp.1, go.1, trivial⟩
          · rw [if_pos hA, if_neg hB, if_neg hM] at hR hW
            have dM := decide_eq_false hM
            have dA := decide_eq_true hA
            have dB := decide_eq_false hB
            simp -implicitDefEqProofs -proj only [go_sem, Nat.reduceBEq, Nat.reduceLT, Nat.reduceLeDiff, Nat.reduceAdd, Nat.reduceMul, ↓reduceIte, Int.reduceToNat, Int.reducePow, Int.reduceLT, Int.reduceLE, Int.reduceAdd, Int.reduceSub, Int.reduceMul, Int.reduceEq, Int.reduceNe, h3, h4, rowR_len, q1, q2, r1, r2, r3, r4, dM, dA, dB, i64_succ (show i < 9223372036854775807 by omega), i64_succ (show k < 9223372036854775807 by omega)]
            (repeat' (with_reducible refine VC_intro ?_ (fun h => ?_); (focus first | decide | omega); clear h; try simp -implicitDefEqProofs -proj only [go_sem, Nat.reduceBEq, Nat.reduceLT, Nat.reduceLeDiff, Nat.reduceAdd, Nat.reduceMul, ↓reduceIte, Int.reduceToNat, Int.reducePow, Int.reduceLT, Int.reduceLE, Int.reduceAdd, Int.reduceSub, Int.reduceMul, Int.reduceEq, Int.reduceNe, eq_self, h3, h4, rowR_len, q1, q2, r1, r2, r3, r4, dM, dA, dB, i64_succ (show i < 9223372036854775807 by omega), i64_succ (show k < 9223372036854775807 by omega)]))
            obtain ⟨cap', hah, hc'⟩ := allH_LH ((((hat.upd (k := b10) (x := some (.box 53 [.d (.int .i64 0), .d (.int .i64 0), .d (.int .i64 0)])) q1 q3).upd (k := b11) (x := some (.box 53 [.d (.int .i64 0), .d (.int .i64 0), .d (.int .i64 0)])) r1 r3').upd (k := b10) (x := some (.box 53 [.d (.int .i64 x.f), .d (.int .i64 x.t), .d (.int .i64 x.v)])) q1 q3).upd (k := b11) (x := some (.box 53 [.d (.int .i64 y.f), .d (.int .i64 y.t), .d (.int .i64 y.v)])) r1 r3')
            refine LoopQ_k ⟨i + 1, k, c, cap', R, w⟩ ⟨by show i + 1 ≤ a.length; omega, by show k ≤ b.length; omega, by show R.length ≤ i + 1 + (k); omega, ?_, ?_, hc⟩ (by show a.length + b.length - (i + 1) - (k) < a.length + b.length - i - k; omega) rfl ?_ ?_
            · show zipG g a b (a.length + b.length - (i + 1) - (k)) (i + 1) (k) _ = _
              rw [← hR]
              try rw [show a.length + b.length - i - k - 1 = a.length + b.length - (i + 1) - (k) by omega]
              try (rw [show a.length + b.length - i - k - 1 = (a.length + b.length - (i + 1) - (k + 1)) + 1 by omega, zipG_stable _ _ _ _ (by omega)])
            · show zbG bad a b (a.length + b.length - (i + 1) - (k)) (i + 1) (k) _ = _
              rw [← hW]
              try rw [show a.length + b.length - i - k - 1 = a.length + b.length - (i + 1) - (k) by omega]
              try (rw [show a.length + b.length - i - k - 1 = (a.length + b.length - (i + 1) - (k + 1)) + 1 by omega, zbG_stable _ _ _ _ (by omega)])
            · simp -implicitDefEqProofs -proj only [go_sem, Nat.reduceBEq, Nat.reduceLT, Nat.reduceLeDiff, Nat.reduceAdd, Nat.reduceMul, ↓reduceIte, Int.reduceToNat, Int.reducePow, Int.reduceLT, Int.reduceLE, Int.reduceAdd, Int.reduceSub, Int.reduceMul, Int.reduceEq, Int.reduceNe, AllAt, zf_i, zf_k]
            · rw [AllH_append, hrest]
              exact ⟨hah, ((upd_ne u6).trans ((upd_ne t6).trans ((upd_ne u6).trans ((upd_ne t6).trans h6)))), ((upd_ne u3).trans ((upd_ne t3).trans ((upd_ne u3).trans ((upd_ne t3).trans h3)))), ((upd_ne u4).trans ((upd_ne t4).trans ((upd_ne u4).trans ((upd_ne t4).trans h4)))), ((upd_ne uf).trans ((upd_ne tf).trans ((upd_ne uf).trans ((upd_ne tf).trans hf)))), ((upd_ne up).trans ((upd_ne tp).trans ((upd_ne up).trans ((upd_ne tp).trans hp)))), ((upd_ne uo).trans ((upd_ne to').trans ((upd_ne uo).trans ((upd_ne to').trans ho)))), trivial⟩
      · have hB : y.t ≤ x.t := by omega
        by_cases hM : max x.f y.f ≤ min x.t y.t
        · rw [if_neg hA, if_pos hB, if_pos hM] at hR hW
          have dM := decide_eq_true hM
          have dA := decide_eq_false hA
          have dB := decide_eq_true hB
          simp -implicitDefEqProofs -proj only [go_sem, Nat.reduceBEq, Nat.reduceLT, Nat.reduceLeDiff, Nat.reduceAdd, Nat.reduceMul, ↓reduceIte, Int.reduceToNat, Int.reducePow, Int.reduceLT, Int.reduceLE, Int.reduceAdd, Int.reduceSub, Int.reduceMul, Int.reduceEq, Int.reduceNe, h3, h4, rowR_len, q1, q2, r1, r2, r3, r4, dM, dA, dB, i64_succ (show i < 9223372036854775807 by omega), i64_succ (show k < 9223372036854775807 by omega)]
          (repeat' (with_reducible refine VC_intro ?_ (fun h => ?_); (focus first | decide | omega); clear h; try simp -implicitDefEqProofs -proj only [go_sem, Nat.reduceBEq, Nat.reduceLT, Nat.reduceLeDiff, Nat.reduceAdd, Nat.reduceMul, ↓reduceIte, Int.reduceToNat, Int.reducePow, Int.reduceLT, Int.reduceLE, Int.reduceAdd, Int.reduceSub, Int.reduceMul, Int.reduceEq, Int.reduceNe, eq_self, h3, h4, rowR_len, q1, q2, r1, r2, r3, r4, dM, dA, dB, i64_succ (show i < 9223372036854775807 by omega), i64_succ (show k < 9223372036854775807 by omega)]))
          have hnote := fun z1 z2 z zz => hgg w (upd (upd (upd (upd H b10 z1) b11 z2) b10 z) b11 zz) (by rw [upd_ne uf, upd_ne tf, upd_ne uf, upd_ne tf]; exact hf) (by rw [upd_ne up, upd_ne tp, upd_ne up, upd_ne tp]; exact hp) (by rw [upd_ne uo, upd_ne to', upd_ne uo, upd_ne to']; exact ho)
          refine CallA_w (hnote _ _ _ _) (fun rr H' hk => ?_)
          obtain ⟨rfl, rfl⟩ := hk
          simp -implicitDefEqProofs -proj only [go_sem, Nat.reduceBEq, Nat.reduceLT, Nat.reduceLeDiff, Nat.reduceAdd, Nat.reduceMul, ↓reduceIte, Int.reduceToNat, Int.reducePow, Int.reduceLT, Int.reduceLE, Int.reduceAdd, Int.reduceSub, Int.reduceMul, Int.reduceEq, Int.reduceNe, h3, h4, rowR_len, q1, q2, r1, r2, r3, r4, dM, dA, dB, i64_succ (show i < 9223372036854775807 by omega), i64_succ (show k < 9223372036854775807 by omega), vf, wf]
          have hput := fun z1 z2 z ww zz => put_ok (r := ⟨max x.f y.f, min x.t y.t, g x.v y.v⟩) (((((hat.upd (k := b10) (x := z1) q1 q3).upd (k := b11) (x := z2) r1 r3').upd (k := b10) (x := z) q1 q3).upd (k := b11) (x := ww) r1 r3').upd (k := bf) (x := zz) fa' (fun h e => (hc h).2.2.2.2.1 e.symm)) (by omega)
          refine CallA_w (hput _ _ _ _ _) (fun rr H' hk => ?_)
          obtain ⟨c', hat', hfr⟩ := hk
          have g6 := hfr b6 _ n8 (fun h e => (hc h).2.1 e.symm) (by rw [upd_ne c7, upd_ne u6, upd_ne t6, upd_ne u6, upd_ne t6]; exact h6)
          have g3 := hfr b3 _ p4 (fun h e => (hc h).2.2.1 e.symm) (by rw [upd_ne c1, upd_ne u3, upd_ne t3, upd_ne u3, upd_ne t3]; exact h3)
          have g4 := hfr b4 _ p2 (fun h e => (hc h).2.2.2.1 e.symm) (by rw [upd_ne c4, upd_ne u4, upd_ne t4, upd_ne u4, upd_ne t4]; exact h4)
          have gf := hfr bf _ fa' (fun h e => (hc h).2.2.2.2.1 e.symm) upd_eq
          have gp := hfr bp _ fb' (fun h e => (hc h).2.2.2.2.2.1 e.symm) (by rw [upd_ne d1, upd_ne up, upd_ne tp, upd_ne up, upd_ne tp]; exact hp)
          have go := hfr bo _ fc' (fun h e => (hc h).2.2.2.2.2.2 e.symm) (by rw [upd_ne d2, upd_ne uo, upd_ne to', upd_ne uo, upd_ne to']; exact ho)
          have g10 := hfr b10 _ q1 q3 (by rw [upd_ne vf, upd_ne r3, upd_eq])
          have g11 := hfr b11 _ r1 r3' (by rw [upd_ne wf, upd_eq])
          obtain ⟨cap', hah, hc'⟩ := allH_LH hat'
          simp -implicitDefEqProofs -proj only [go_sem, Nat.reduceBEq, Nat.reduceLT, Nat.reduceLeDiff, Nat.reduceAdd, Nat.reduceMul, ↓reduceIte, Int.reduceToNat, Int.reducePow, Int.reduceLT, Int.reduceLE, Int.reduceAdd, Int.reduceSub, Int.reduceMul, Int.reduceEq, Int.reduceNe, h3, h4, rowR_len, q1, q2, r1, r2, r3, r4, dM, dA, dB, i64_succ (show i < 9223372036854775807 by omega), i64_succ (show k < 9223372036854775807 by omega), g10.1, g11.1, eq_self]
          have hRR : putR R ⟨max x.f y.f, min x.t y.t, g x.v y.v⟩ ≠ [] := putR_ne
          have hll := @putR_len R ⟨max x.f y.f, min x.t y.t, g x.v y.v⟩
          refine LoopQ_k ⟨i, k + 1, c', cap', putR R ⟨max x.f y.f, min x.t y.t, g x.v y.v⟩, (w || bad x.v y.v)⟩ ⟨by show i ≤ a.length; omega, by show k + 1 ≤ b.length; omega, by show (putR R _).length ≤ i + (k + 1); omega, ?_, ?_, fun h => ⟨hc' h, fun e => g6.2 e.symm, fun e => g3.2 e.symm, fun e => g4.2 e.symm, fun e => gf.2 e.symm, fun e => gp.2 e.symm, fun e => go.2 e.symm⟩⟩ (by show a.length + b.length - (i) - (k + 1) < a.length + b.length - i - k; omega) rfl ?_ ?_
          · show zipG g a b (a.length + b.length - (i) - (k + 1)) (i) (k + 1) _ = _
            rw [← hR]
            try rw [show a.length + b.length - i - k - 1 = a.length + b.length - (i) - (k + 1) by omega]
            try (rw [show a.length + b.length - i - k - 1 = (a.length + b.length - (i + 1) - (k + 1)) + 1 by omega, zipG_stable _ _ _ _ (by omega)])
          · show zbG bad a b (a.length + b.length - (i) - (k + 1)) (i) (k + 1) _ = _
            rw [← hW]
            try rw [show a.length + b.length - i - k - 1 = a.length + b.length - (i) - (k + 1) by omega]
            try (rw [show a.length + b.length - i - k - 1 = (a.length + b.length - (i + 1) - (k + 1)) + 1 by omega, zbG_stable _ _ _ _ (by omega)])
          · simp -implicitDefEqProofs -proj only [go_sem, Nat.reduceBEq, Nat.reduceLT, Nat.reduceLeDiff, Nat.reduceAdd, Nat.reduceMul, ↓reduceIte, Int.reduceToNat, Int.reducePow, Int.reduceLT, Int.reduceLE, Int.reduceAdd, Int.reduceSub, Int.reduceMul, Int.reduceEq, Int.reduceNe, AllAt, zf_i, zf_k]
          · rw [AllH_append, hrest]
            exact ⟨hah, g6.1, g3.1, g4.1, gf.1, gp.1, go.1, trivial⟩
        · rw [if_neg hA, if_pos hB, if_neg hM] at hR hW
          have dM := decide_eq_false hM
          have dA := decide_eq_false hA
          have dB := decide_eq_true hB
          simp -implicitDefEqProofs -proj only [go_sem, Nat.reduceBEq, Nat.reduceLT, Nat.reduceLeDiff, Nat.reduceAdd, Nat.reduceMul, ↓reduceIte, Int.reduceToNat, Int.reducePow, Int.reduceLT, Int.reduceLE, Int.reduceAdd, Int.reduceSub, Int.reduceMul, Int.reduceEq, Int.reduceNe, h3, h4, rowR_len, q1, q2, r1, r2, r3, r4, dM, dA, dB, i64_succ (show i < 9223372036854775807 by omega), i64_succ (show k < 9223372036854775807 by omega)]
          (repeat' (with_reducible refine VC_intro ?_ (fun h => ?_); (focus first | decide | omega); clear h; try simp -implicitDefEqProofs -proj only [go_sem, Nat.reduceBEq, Nat.reduceLT, Nat.reduceLeDiff, Nat.reduceAdd, Nat.reduceMul, ↓reduceIte, Int.reduceToNat, Int.reducePow, Int.reduceLT, Int.reduceLE, Int.reduceAdd, Int.reduceSub, Int.reduceMul, Int.reduceEq, Int.reduceNe, eq_self, h3, h4, rowR_len, q1, q2, r1, r2, r3, r4, dM, dA, dB, i64_succ (show i < 9223372036854775807 by omega), i64_succ (show k < 9223372036854775807 by omega)]))
          obtain ⟨cap', hah, hc'⟩ := allH_LH ((((hat.upd (k := b10) (x := some (.box 53 [.d (.int .i64 0), .d (.int .i64 0), .d (.int .i64 0)])) q1 q3).upd (k := b11) (x := some (.box 53 [.d (.int .i64 0), .d (.int .i64 0), .d (.int .i64 0)])) r1 r3').upd (k := b10) (x := some (.box 53 [.d (.int .i64 x.f), .d (.int .i64 x.t), .d (.int .i64 x.v)])) q1 q3).upd (k := b11) (x := some (.box 53 [.d (.int .i64 y.f), .d (.int .i64 y.t), .d (.int .i64 y.v)])) r1 r3')
          refine LoopQ_k ⟨i, k + 1, c, cap', R, w⟩ ⟨by show i ≤ a.length; omega, by show k + 1 ≤ b.length; omega, by show R.length ≤ i + (k + 1); omega, ?_, ?_, hc⟩ (by show a.length + b.length - (i) - (k + 1) < a.length + b.length - i - k; omega) rfl ?_ ?_
          · show zipG g a b (a.length + b.length - (i) - (k + 1)) (i) (k + 1) _ = _
            rw [← hR]
            try rw [show a.length + b.length - i - k - 1 = a.length + b.length - (i) - (k + 1) by omega]
            try (rw [show a.length + b.length - i - k - 1 = (a.length + b.length - (i + 1) - (k + 1)) + 1 by omega, zipG_stable _ _ _ _ (by omega)])
          · show zbG bad a b (a.length + b.length - (i) - (k + 1)) (i) (k + 1) _ = _
            rw [← hW]
            try rw [show a.length + b.length - i - k - 1 = a.length + b.length - (i) - (k + 1) by omega]
            try (rw [show a.length + b.length - i - k - 1 = (a.length + b.length - (i + 1) - (k + 1)) + 1 by omega, zbG_stable _ _ _ _ (by omega)])
          · simp -implicitDefEqProofs -proj only [go_sem, Nat.reduceBEq, Nat.reduceLT, Nat.reduceLeDiff, Nat.reduceAdd, Nat.reduceMul, ↓reduceIte, Int.reduceToNat, Int.reducePow, Int.reduceLT, Int.reduceLE, Int.reduceAdd, Int.reduceSub, Int.reduceMul, Int.reduceEq, Int.reduceNe, AllAt, zf_i, zf_k]
          · rw [AllH_append, hrest]
            exact ⟨hah, ((upd_ne u6).trans ((upd_ne t6).trans ((upd_ne u6).trans ((upd_ne t6).trans h6)))), ((upd_ne u3).trans ((upd_ne t3).trans ((upd_ne u3).trans ((upd_ne t3).trans h3)))), ((upd_ne u4).trans ((upd_ne t4).trans ((upd_ne u4).trans ((upd_ne t4).trans h4)))), ((upd_ne uf).trans ((upd_ne tf).trans ((upd_ne uf).trans ((upd_ne tf).trans hf)))), ((upd_ne up).trans ((upd_ne tp).trans ((upd_ne up).trans ((upd_ne tp).trans hp)))), ((upd_ne uo).trans ((upd_ne to').trans ((upd_ne uo).trans ((upd_ne to').trans ho)))), trivial⟩
    · have hz : zipG g a b (a.length + b.length - i - k) i k R = R := by
        generalize a.length + b.length - i - k = n
        cases n with
        | zero => rfl
        | succ n =>
          rw [zipG]
          by_cases h1 : i < a.length
          · rw [List.getElem?_eq_none (l := b) (by omega)]
            split <;> first | rfl | simp_all
          · rw [List.getElem?_eq_none (l := a) (by omega)]
      have hz2 : zbG bad a b (a.length + b.length - i - k) i k w = w := by
        generalize a.length + b.length - i - k = n
        cases n with
        | zero => rfl
        | succ n =>
          rw [zbG]
          by_cases h1 : i < a.length
          · rw [List.getElem?_eq_none (l := b) (by omega)]
            split <;> first | rfl | simp_all
          · rw [List.getElem?_eq_none (l := a) (by omega)]
      obtain ⟨v, hv, hl, _⟩ := hat.read
      obtain ⟨v2, hv2, hl2, _⟩ := (hat.upd (k := b6) (x := some (.box 38 [v])) n8 (fun h e => (hc h).2.1 e.symm)).read
      rw [upd_ne n8, hv] at hv2
      cases hv2
      rw [← hR, hz, ← hW, hz2]
      by_cases h1 : i < a.length
      · have h2 : ¬ (k : Int) < b.length := by omega
        simp -implicitDefEqProofs -proj only [go_sem, Nat.reduceBEq, Nat.reduceLT, Nat.reduceLeDiff, Nat.reduceAdd, Nat.reduceMul, ↓reduceIte, Int.reduceToNat, Int.reducePow, Int.reduceLT, Int.reduceLE, Int.reduceAdd, Int.reduceSub, Int.reduceMul, Int.reduceEq, Int.reduceNe, zf_i, zf_k, h3, h4, h6, hv, rowR_len, decide_eq_true (show (i : Int) < a.length by omega), decide_eq_false h2]
        (repeat' (with_reducible refine VC_intro ?_ (fun h => ?_); (focus first | decide | omega); clear h; try simp -implicitDefEqProofs -proj only [go_sem, Nat.reduceBEq, Nat.reduceLT, Nat.reduceLeDiff, Nat.reduceAdd, Nat.reduceMul, ↓reduceIte, Int.reduceToNat, Int.reducePow, Int.reduceLT, Int.reduceLE, Int.reduceAdd, Int.reduceSub, Int.reduceMul, Int.reduceEq, Int.reduceNe, eq_self, zf_i, zf_k, h3, h4, h6, hv, rowR_len, decide_eq_true (show (i : Int) < a.length by omega), decide_eq_false h2]))
        exact ⟨lend_agg1 hl2, (upd_ne f7).trans hf, (upd_ne f8).trans hp⟩
      · simp -implicitDefEqProofs -proj only [go_sem, Nat.reduceBEq, Nat.reduceLT, Nat.reduceLeDiff, Nat.reduceAdd, Nat.reduceMul, ↓reduceIte, Int.reduceToNat, Int.reducePow, Int.reduceLT, Int.reduceLE, Int.reduceAdd, Int.reduceSub, Int.reduceMul, Int.reduceEq, Int.reduceNe, zf_i, zf_k, h3, h4, h6, hv, rowR_len, decide_eq_false (show ¬ (i : Int) < a.length by omega)]
        (repeat' (with_reducible refine VC_intro ?_ (fun h => ?_); (focus first | decide | omega); clear h; try simp -implicitDefEqProofs -proj only [go_sem, Nat.reduceBEq, Nat.reduceLT, Nat.reduceLeDiff, Nat.reduceAdd, Nat.reduceMul, ↓reduceIte, Int.reduceToNat, Int.reducePow, Int.reduceLT, Int.reduceLE, Int.reduceAdd, Int.reduceSub, Int.reduceMul, Int.reduceEq, Int.reduceNe, eq_self, zf_i, zf_k, h3, h4, h6, hv, rowR_len, decide_eq_false (show ¬ (i : Int) < a.length by omega)]))
        exact ⟨lend_agg1 hl2, (upd_ne f7).trans hf, (upd_ne f8).trans hp⟩
/-- The document's. -/
def zipN (f t : Int) (a b : List Int) : Nat := (min (f + a.length) (t + b.length) - max f t).toNat
def zipL (g : Int → Int → Int) (f t : Int) (a b : List Int) : List Int := (List.range (zipN f t a b)).map fun (i : Nat) => g (valL f a (max f t + (i : Int))) (valL t b (max f t + (i : Int)))
theorem zipL_len {g : Int → Int → Int} {f t : Int} {a b : List Int} : (zipL g f t a b).length = zipN f t a b := by simp [zipL]
theorem zip_runs {g : Int → Int → Int} {f t : Int} {a b : List Int} : zipG g (runs f a) (runs t b) ((runs f a).length + (runs t b).length) 0 0 [] = runs (max f t) (zipL g f t a b) := by
  have hA := runs_fwd f a
  have hB := runs_fwd t b
  have h := zipG_fwd hA hB g ((runs f a).length + (runs t b).length) 0 0 [] (by omega) (by rw [startR_zero hA, startR_zero hB]; rfl) (by rw [startR_zero hA, startR_zero hB]; exact .inl rfl)
  refine runs_eq (val := fun x => g (valL f a x) (valL t b x)) ?_ fun i hi => ?_
  · rw [zipL_len, show max f t + (zipN f t a b : Int) = max (max f t) (min (f + a.length) (t + b.length)) by unfold zipN; omega]
    exact h
  · simp [zipL]
theorem Add_ok {a b : Int} (ha : Fit a) (hb : Fit b) : DataW Try.prog f_exact_Add [i64 a, i64 b] (fitR (a + b)) := by
  refine CallW_intro comp_exact_Add (by simp) ?_
  simp -implicitDefEqProofs -proj only [go_sem, Nat.reduceBEq, Nat.reduceLT, Nat.reduceLeDiff, Nat.reduceAdd, Nat.reduceMul, ↓reduceIte]
  (repeat' first
    | (with_reducible refine Guard_split (fun h => ?_) (fun h => ?_) <;> (simp -implicitDefEqProofs -proj only [go_sem, Nat.reduceBEq, Nat.reduceLT, Nat.reduceLeDiff, Nat.reduceAdd, Nat.reduceMul, ↓reduceIte, *]; try (revert h; intro _)))
    | (with_reducible refine Cond_split (fun h => ?_) (fun h => ?_) <;> (simp -implicitDefEqProofs -proj only [go_sem, Nat.reduceBEq, Nat.reduceLT, Nat.reduceLeDiff, Nat.reduceAdd, Nat.reduceMul, ↓reduceIte, *]; try (revert h; intro _)))
    | (with_reducible refine Pick_split (fun h => ?_) (fun h => ?_) <;> (simp -implicitDefEqProofs -proj only [go_sem, Nat.reduceBEq, Nat.reduceLT, Nat.reduceLeDiff, Nat.reduceAdd, Nat.reduceMul, ↓reduceIte, *]; try (revert h; intro _)))
    | (with_reducible refine AllocA_intro (fun _ hb => ?_); simp only [upd_none, keepH_none, keepH_nil, Heap.none_get, and_true, true_and] at hb; simp -implicitDefEqProofs -proj only [go_sem, Nat.reduceBEq, Nat.reduceLT, Nat.reduceLeDiff, Nat.reduceAdd, Nat.reduceMul, ↓reduceIte, *]; try (revert hb; intro _))
    | (with_reducible refine AllocR_intro (fun _ hb => ?_); simp only [upd_none, keepH_none, keepH_nil, Heap.none_get, and_true, true_and] at hb; simp -implicitDefEqProofs -proj only [go_sem, Nat.reduceBEq, Nat.reduceLT, Nat.reduceLeDiff, Nat.reduceAdd, Nat.reduceMul, ↓reduceIte, *]; try (revert hb; intro _))
    | (with_reducible refine IdxE_1 _ rfl (by simp) ?_; simp -implicitDefEqProofs -proj only [go_sem, Nat.reduceBEq, Nat.reduceLT, Nat.reduceLeDiff, Nat.reduceAdd, Nat.reduceMul, ↓reduceIte, *])
    | (with_reducible refine IdxE_n _ rfl (by simp) ?_; simp -implicitDefEqProofs -proj only [go_sem, Nat.reduceBEq, Nat.reduceLT, Nat.reduceLeDiff, Nat.reduceAdd, Nat.reduceMul, ↓reduceIte, *])
    | (with_reducible refine VC_intro ?_ (fun h => ?_); (focus first | decide | omega); try clear h; try simp -implicitDefEqProofs -proj only [go_sem, Nat.reduceBEq, Nat.reduceLT, Nat.reduceLeDiff, Nat.reduceAdd, Nat.reduceMul, ↓reduceIte, *])
    | (with_reducible refine VC_intro ?_ (fun h => ?_); rotate_left; try clear h; try simp -implicitDefEqProofs -proj only [go_sem, Nat.reduceBEq, Nat.reduceLT, Nat.reduceLeDiff, Nat.reduceAdd, Nat.reduceMul, ↓reduceIte, *]; rotate_right))
  all_goals
    simp -implicitDefEqProofs only [decide_eq_true_eq, decide_eq_false_iff_not, IntKind.wrap_i64] at *
    refine LendV_eq (fitR_of ?_)
    simp -implicitDefEqProofs only [Bool.false_eq_true, reduceCtorEq, true_and, false_and, or_false, false_or]
    unfold Fit at *
    omega
theorem Sub_ok {a b : Int} (ha : Fit a) (hb : Fit b) : DataW Try.prog f_exact_Sub [i64 a, i64 b] (fitR (a - b)) := by
  refine CallW_intro comp_exact_Sub (by simp) ?_
  simp -implicitDefEqProofs -proj only [go_sem, Nat.reduceBEq, Nat.reduceLT, Nat.reduceLeDiff, Nat.reduceAdd, Nat.reduceMul, ↓reduceIte]
  (repeat' first
    | (with_reducible refine Guard_split (fun h => ?_) (fun h => ?_) <;> (simp -implicitDefEqProofs -proj only [go_sem, Nat.reduceBEq, Nat.reduceLT, Nat.reduceLeDiff, Nat.reduceAdd, Nat.reduceMul, ↓reduceIte, *]; try (revert h; intro _)))
    | (with_reducible refine Cond_split (fun h => ?_) (fun h => ?_) <;> (simp -implicitDefEqProofs -proj only [go_sem, Nat.reduceBEq, Nat.reduceLT, Nat.reduceLeDiff, Nat.reduceAdd, Nat.reduceMul, ↓reduceIte, *]; try (revert h; intro _)))
    | (with_reducible refine Pick_split (fun h => ?_) (fun h => ?_) <;> (simp -implicitDefEqProofs -proj only [go_sem, Nat.reduceBEq, Nat.reduceLT, Nat.reduceLeDiff, Nat.reduceAdd, Nat.reduceMul, ↓reduceIte, *]; try (revert h; intro _)))
    | (with_reducible refine AllocA_intro (fun _ hb => ?_); simp only [upd_none, keepH_none, keepH_nil, Heap.none_get, and_true, true_and] at hb; simp -implicitDefEqProofs -proj only [go_sem, Nat.reduceBEq, Nat.reduceLT, Nat.reduceLeDiff, Nat.reduceAdd, Nat.reduceMul, ↓reduceIte, *]; try (revert hb; intro _))
    | (with_reducible refine AllocR_intro (fun _ hb => ?_); simp only [upd_none, keepH_none, keepH_nil, Heap.none_get, and_true, true_and] at hb; simp -implicitDefEqProofs -proj only [go_sem, Nat.reduceBEq, Nat.reduceLT, Nat.reduceLeDiff, Nat.reduceAdd, Nat.reduceMul, ↓reduceIte, *]; try (revert hb; intro _))
    | (with_reducible refine IdxE_1 _ rfl (by simp) ?_; simp -implicitDefEqProofs -proj only [go_sem, Nat.reduceBEq, Nat.reduceLT, Nat.reduceLeDiff, Nat.reduceAdd, Nat.reduceMul, ↓reduceIte, *])
    | (with_reducible refine IdxE_n _ rfl (by simp) ?_; simp -implicitDefEqProofs -proj only [go_sem, Nat.reduceBEq, Nat.reduceLT, Nat.reduceLeDiff, Nat.reduceAdd, Nat.reduceMul, ↓reduceIte, *])
    | (with_reducible refine VC_intro ?_ (fun h => ?_); (focus first | decide | omega); try clear h; try simp -implicitDefEqProofs -proj only [go_sem, Nat.reduceBEq, Nat.reduceLT, Nat.reduceLeDiff, Nat.reduceAdd, Nat.reduceMul, ↓reduceIte, *])
    | (with_reducible refine VC_intro ?_ (fun h => ?_); rotate_left; try clear h; try simp -implicitDefEqProofs -proj only [go_sem, Nat.reduceBEq, Nat.reduceLT, Nat.reduceLeDiff, Nat.reduceAdd, Nat.reduceMul, ↓reduceIte, *]; rotate_right))
  all_goals
    simp -implicitDefEqProofs only [decide_eq_true_eq, decide_eq_false_iff_not, IntKind.wrap_i64] at *
    refine LendV_eq (fitR_of ?_)
    simp -implicitDefEqProofs only [Bool.false_eq_true, reduceCtorEq, true_and, false_and, or_false, false_or]
    unfold Fit at *
    omega
theorem note_ok {H : Heap} {bf : Nat} {w ok : Bool} {n : Int} (hf : H bf = some (flagB w)) : CallW Try.prog f_algebra_flag_note [.ptr bf 0, i64 n, bv ok] H fun r H' => r = i64 n ∧ H' = upd H bf (some (flagB (w || !ok))) := by
  refine CallW_intro comp_algebra_flag_note (by simp) ?_
  cases w
  · simp -implicitDefEqProofs -proj only [go_sem, Nat.reduceBEq, Nat.reduceLT, Nat.reduceLeDiff, Nat.reduceAdd, Nat.reduceMul, ↓reduceIte, Int.reduceToNat, Int.reducePow, Int.reduceLT, Int.reduceLE, Int.reduceAdd, Int.reduceSub, Int.reduceMul, Int.reduceEq, Int.reduceNe, hf]
    first | rfl | simp | exact ⟨rfl, by simp⟩
  · simp -implicitDefEqProofs -proj only [go_sem, Nat.reduceBEq, Nat.reduceLT, Nat.reduceLeDiff, Nat.reduceAdd, Nat.reduceMul, ↓reduceIte, Int.reduceToNat, Int.reducePow, Int.reduceLT, Int.reduceLE, Int.reduceAdd, Int.reduceSub, Int.reduceMul, Int.reduceEq, Int.reduceNe, hf]
    first | rfl | simp | exact ⟨rfl, by simp⟩
theorem two1_ok {of : FuncId} {bf bp bo : Nat} {g : Int → Int → Int} {bad : Int → Int → Bool} {u v : Int} (hof : DataW Try.prog of [i64 u, i64 v] (.tup [i64 (g u v), bv (!bad u v)])) : NoteW f_algebra_two_1 bf bp bo of g bad u v := by
  intro w H hf hp ho
  refine CallW_intro comp_algebra_two_1 (by simp) ?_
  simp -implicitDefEqProofs -proj only [go_sem, Nat.reduceBEq, Nat.reduceLT, Nat.reduceLeDiff, Nat.reduceAdd, Nat.reduceMul, ↓reduceIte, Int.reduceToNat, Int.reducePow, Int.reduceLT, Int.reduceLE, Int.reduceAdd, Int.reduceSub, Int.reduceMul, Int.reduceEq, Int.reduceNe, hp, ho]
  refine PCallA_pure hof ?_
  simp -implicitDefEqProofs -proj only [go_sem, Nat.reduceBEq, Nat.reduceLT, Nat.reduceLeDiff, Nat.reduceAdd, Nat.reduceMul, ↓reduceIte, Int.reduceToNat, Int.reducePow, Int.reduceLT, Int.reduceLE, Int.reduceAdd, Int.reduceSub, Int.reduceMul, Int.reduceEq, Int.reduceNe]
  refine CallA_w (note_ok hf) (fun r H' hk => ?_)
  obtain ⟨rfl, rfl⟩ := hk
  simp -implicitDefEqProofs -proj only [go_sem, Nat.reduceBEq, Nat.reduceLT, Nat.reduceLeDiff, Nat.reduceAdd, Nat.reduceMul, ↓reduceIte, Int.reduceToNat, Int.reducePow, Int.reduceLT, Int.reduceLE, Int.reduceAdd, Int.reduceSub, Int.reduceMul, Int.reduceEq, Int.reduceNe]
  first | rfl | simp | exact ⟨rfl, by simp⟩
/-- A line of one's own: its slice. -/
def LineX (H : Heap) (x : AV) (R : List Run) : Prop := (∃ sz, x = .nilsl sz ∧ R = []) ∨ ∃ c cap cap' t, x = .own c 3 0 R.length cap ∧ H c = some (.row t 3 cap' (rowR R))
theorem lineX_of {H : Heap} {r : AV} {R : List Run} (h : NewV H r (lineV R)) : ∃ x, r = .agg [x] ∧ LineX H x R := by
  obtain ⟨y, hy⟩ : ∃ y, lineV R = y := ⟨_, rfl⟩
  rw [hy] at h
  cases h with
  | scal _ hs => rw [← hy] at hs; simp [scalL, scal, scalD] at hs
  | nilsl => cases hy
  | own => cases hy
  | tup => cases hy
  | agg xs ys hl h =>
    cases hy
    match xs, hl with
    | [x], _ =>
      refine ⟨x, rfl, ?_⟩
      have h0 := h 0 x _ rfl rfl
      obtain ⟨z, hz⟩ : ∃ z, AV.d (D.sl 3 (rowR R)) = z := ⟨_, rfl⟩
      rw [hz] at h0
      cases h0 with
      | scal _ hs => rw [← hz] at hs; simp [scalL, scal, scalD] at hs
      | nilsl sz sz' =>
        refine .inl ⟨sz, rfl, ?_⟩
        simp -implicitDefEqProofs only [AV.d.injEq, D.sl.injEq] at hz
        exact List.map_eq_nil_iff.1 hz.2
      | own b sz cap t cap' xs hb hs =>
        simp -implicitDefEqProofs only [AV.d.injEq, D.sl.injEq] at hz
        obtain ⟨rfl, rfl⟩ := hz
        exact .inr ⟨b, cap, cap', t, by rw [rowR_len], hb⟩
      | agg => cases hz
      | tup => cases hz
theorem LineX.mono {H H' : Heap} {x : AV} {R : List Run} (h : LineX H x R) (hs : ∀ k y, H k = some y → H' k = some y) : LineX H' x R := by
  rcases h with h | ⟨c, cap, cap', t, h1, h2⟩
  · exact .inl h
  · exact .inr ⟨c, cap, cap', t, h1, hs c _ h2⟩
theorem LineX.lend {H : Heap} {x : AV} {R : List Run} (h : LineX H x R) : LendV H (.agg [x]) (lineV R) := by
  refine .aggL (lend_cons ?_ lend_nil)
  rcases h with ⟨sz, rfl, rfl⟩ | ⟨c, cap, cap', t, rfl, h2⟩
  · exact .nilsl _ _
  · rw [← rowR_len]
    exact .own _ _ _ _ _ _ h2
def noCurve : AV := .tup [.agg [i64 0, .nilsl 5], bv false]
theorem noCurve_lend {H : Heap} : LendV H noCurve (.tup [curveV 0 [], bv false]) := .tupL (lend_cons (.aggL (lend_cons (.refl _) (lend_cons (.nilsl _ _) lend_nil))) (lend_cons (.refl _) lend_nil))
open Classical in
theorem back_ok {H : Heap} {bf : Nat} {w : Bool} {x : AV} {l : List Int} (hf : H bf = some (flagB w)) (hx : LineX H x (runs 0 l)) (hl : l.length ≤ 999999) : CallW Try.prog f_algebra_flag_back [.ptr bf 0, .agg [x]] H fun r H' => (r = if w = true then noCurve else if CurL l then .tup [curL l, bv true] else .tup [curveV 0 [], bv false]) ∧ ∀ k y, H k = some y → H' k = some y := by
  have h2 := OfL_ok (l := l) hl
  obtain ⟨m, G, u, hu⟩ : ∃ (m : Int) (G : List Grp) (u : Bool), (if CurL l then AV.tup [curL l, bv true] else .tup [curveV 0 [], bv false]) = .tup [curveV m G, bv u] := by
    by_cases h : CurL l
    · rw [if_pos h]; exact ⟨_, _, _, rfl⟩
    · rw [if_neg h]; exact ⟨_, _, _, rfl⟩
  rw [hu] at h2 ⊢
  generalize runs 0 l = R at *
  rcases hx with ⟨sz, rfl, rfl⟩ | ⟨c, cap, cap', t, rfl, hc⟩
  · refine CallW_intro comp_algebra_flag_back (by simp) ?_
    simp -implicitDefEqProofs -proj only [go_sem, Nat.reduceBEq, Nat.reduceLT, Nat.reduceLeDiff, Nat.reduceAdd, Nat.reduceMul, ↓reduceIte, Int.reduceToNat, Int.reducePow, Int.reduceLT, Int.reduceLE, Int.reduceAdd, Int.reduceSub, Int.reduceMul, Int.reduceEq, Int.reduceNe]
    refine AllocA_intro (fun b3 hb3 => ?_)
    replace hb3 : H b3 = none := hb3
    obtain ⟨n1, n2⟩ := fresh_ne hb3 hf
    simp -implicitDefEqProofs -proj only [go_sem, Nat.reduceBEq, Nat.reduceLT, Nat.reduceLeDiff, Nat.reduceAdd, Nat.reduceMul, ↓reduceIte, Int.reduceToNat, Int.reducePow, Int.reduceLT, Int.reduceLE, Int.reduceAdd, Int.reduceSub, Int.reduceMul, Int.reduceEq, Int.reduceNe]
    refine AllocA_intro (fun b4 hb4 => ?_)
    replace hb4 : upd H b3 _ b4 = none := hb4
    obtain ⟨n3, n4⟩ := fresh_ne hb4 upd_eq
    obtain ⟨n5, n6⟩ := fresh_ne hb4 (by rw [upd_ne n1]; exact hf)
    have hfr : ∀ k y, H k = some y → (¬ b3 = k) ∧ ¬ b4 = k := fun k y hk => by
      have e := fresh_ne hb3 hk
      exact ⟨e.1, (fresh_ne hb4 (by rw [upd_ne e.1]; exact hk)).1⟩
    cases w
    · simp -implicitDefEqProofs -proj only [go_sem, Nat.reduceBEq, Nat.reduceLT, Nat.reduceLeDiff, Nat.reduceAdd, Nat.reduceMul, ↓reduceIte, Int.reduceToNat, Int.reducePow, Int.reduceLT, Int.reduceLE, Int.reduceAdd, Int.reduceSub, Int.reduceMul, Int.reduceEq, Int.reduceNe, n1, n2, n3, n4, n5, n6, hf]
      refine CallA_new h2 (lend_cons (LineX.lend (.inl ⟨_, rfl, rfl⟩)) lend_nil) ?_
      simp -implicitDefEqProofs -proj only [go_sem, Nat.reduceBEq, Nat.reduceLT, Nat.reduceLeDiff, Nat.reduceAdd, Nat.reduceMul, ↓reduceIte, Int.reduceToNat, Int.reducePow, Int.reduceLT, Int.reduceLE, Int.reduceAdd, Int.reduceSub, Int.reduceMul, Int.reduceEq, Int.reduceNe, n1, n2, n3, n4, n5, n6]
      try refine ⟨rfl, ?_⟩
      refine fun k y hk => ?_
      obtain ⟨e1, e2⟩ := hfr k y hk
      simp -implicitDefEqProofs only [upd_get, e1, e2, ↓reduceIte]
      exact hk
    · simp -implicitDefEqProofs -proj only [go_sem, Nat.reduceBEq, Nat.reduceLT, Nat.reduceLeDiff, Nat.reduceAdd, Nat.reduceMul, ↓reduceIte, Int.reduceToNat, Int.reducePow, Int.reduceLT, Int.reduceLE, Int.reduceAdd, Int.reduceSub, Int.reduceMul, Int.reduceEq, Int.reduceNe, n1, n2, n3, n4, n5, n6, hf]
      try refine ⟨rfl, ?_⟩
      refine fun k y hk => ?_
      obtain ⟨e1, e2⟩ := hfr k y hk
      simp -implicitDefEqProofs only [upd_get, e1, e2, ↓reduceIte]
      exact hk
  · refine CallW_intro comp_algebra_flag_back (by simp) ?_
    simp -implicitDefEqProofs -proj only [go_sem, Nat.reduceBEq, Nat.reduceLT, Nat.reduceLeDiff, Nat.reduceAdd, Nat.reduceMul, ↓reduceIte, Int.reduceToNat, Int.reducePow, Int.reduceLT, Int.reduceLE, Int.reduceAdd, Int.reduceSub, Int.reduceMul, Int.reduceEq, Int.reduceNe]
    refine AllocA_intro (fun b3 hb3 => ?_)
    replace hb3 : H b3 = none := hb3
    obtain ⟨n1, n2⟩ := fresh_ne hb3 hf
    simp -implicitDefEqProofs -proj only [go_sem, Nat.reduceBEq, Nat.reduceLT, Nat.reduceLeDiff, Nat.reduceAdd, Nat.reduceMul, ↓reduceIte, Int.reduceToNat, Int.reducePow, Int.reduceLT, Int.reduceLE, Int.reduceAdd, Int.reduceSub, Int.reduceMul, Int.reduceEq, Int.reduceNe]
    refine AllocA_intro (fun b4 hb4 => ?_)
    replace hb4 : upd H b3 _ b4 = none := hb4
    obtain ⟨n3, n4⟩ := fresh_ne hb4 upd_eq
    obtain ⟨n5, n6⟩ := fresh_ne hb4 (by rw [upd_ne n1]; exact hf)
    have hfr : ∀ k y, H k = some y → (¬ b3 = k) ∧ ¬ b4 = k := fun k y hk => by
      have e := fresh_ne hb3 hk
      exact ⟨e.1, (fresh_ne hb4 (by rw [upd_ne e.1]; exact hk)).1⟩
    obtain ⟨q1, q2⟩ := hfr c _ hc
    cases w
    · simp -implicitDefEqProofs -proj only [go_sem, Nat.reduceBEq, Nat.reduceLT, Nat.reduceLeDiff, Nat.reduceAdd, Nat.reduceMul, ↓reduceIte, Int.reduceToNat, Int.reducePow, Int.reduceLT, Int.reduceLE, Int.reduceAdd, Int.reduceSub, Int.reduceMul, Int.reduceEq, Int.reduceNe, n1, n2, n3, n4, n5, n6, hf]
      refine CallA_new h2 (lend_cons (LineX.lend (.inr ⟨c, cap, cap', t, rfl, ?_⟩)) lend_nil) ?_
      · show upd (upd H b3 _) b4 _ c = _
        rw [upd_ne q2, upd_ne q1]
        exact hc
      simp -implicitDefEqProofs -proj only [go_sem, Nat.reduceBEq, Nat.reduceLT, Nat.reduceLeDiff, Nat.reduceAdd, Nat.reduceMul, ↓reduceIte, Int.reduceToNat, Int.reducePow, Int.reduceLT, Int.reduceLE, Int.reduceAdd, Int.reduceSub, Int.reduceMul, Int.reduceEq, Int.reduceNe, n1, n2, n3, n4, n5, n6]
      try refine ⟨rfl, ?_⟩
      refine fun k y hk => ?_
      obtain ⟨e1, e2⟩ := hfr k y hk
      simp -implicitDefEqProofs only [upd_get, e1, e2, ↓reduceIte]
      exact hk
    · simp -implicitDefEqProofs -proj only [go_sem, Nat.reduceBEq, Nat.reduceLT, Nat.reduceLeDiff, Nat.reduceAdd, Nat.reduceMul, ↓reduceIte, Int.reduceToNat, Int.reducePow, Int.reduceLT, Int.reduceLE, Int.reduceAdd, Int.reduceSub, Int.reduceMul, Int.reduceEq, Int.reduceNe, n1, n2, n3, n4, n5, n6, hf]
      try refine ⟨rfl, ?_⟩
      refine fun k y hk => ?_
      obtain ⟨e1, e2⟩ := hfr k y hk
      simp -implicitDefEqProofs only [upd_get, e1, e2, ↓reduceIte]
      exact hk
end Go.Proofs.Ytcneeilongpakaa.Abs
