/- Contracts of the package line: a run is put behind all others. No claim stands here. -/
import Derived.Test.YthamjpioodlckaaKFit
import Derived.Test.YthamjpioodlckaaCode
set_option linter.unusedSimpArgs false
set_option linter.unusedVariables false
namespace Go.Proofs.Ythamjpioodlckaa.Abs
open Go Go.RowKit Go.Proofs
attribute [local go_sem] RunC_seq AF_n AF_r AF_b St_n St_t St_H Fst_mk Snd_mk RunC_ops RunC_cond RunC_block RunC_loop RunC_exit RunC_ret RunC_skip RunO_nil RunO_code RunO_code_ret RunO_code_exit RunO_blk RunO_blk_ret RunO_blk_exit RunL_nil RunL_guard GuardA_tt GuardA_ff GuardA_tf GuardA_ft GuardA_void CondA_t CondA_f PickA_t PickA_f RunL_mov RunL_pick RunL_alloc RunL_box RunL_load LoadA_ptr LoadB_1 LoadB_n LoadA_dptr LoadA_dptr_n RunL_store StoreA_ptr StoreB_box RunL_bin Bin_add Bin_sub Bin_mul Bin_quo Bin_rem Bin_shl Bin_shr Bin_andI Bin_orI Bin_xorI Bin_eql Bin_neq Bin_lss Bin_leq Bin_gtr Bin_geq RunL_binb Bin_beql Bin_bneq RunL_un UnA_not UnA_neg RunL_conv convV MapA_some RunL_nilCheck nilV RunL_mkfn RunL_fieldAddr faV RunL_field FieldA_1 FieldA_n RunL_elemAddr EAddrA_sl EAddrA_own EptrA_eq RunL_build BuildA_some RunL_extract ExtA_eq RunL_len lenV_sl lenV_nilsl lenV_own RunL_slen RunL_idxStr IdxSA_eq slenV RunL_minmax mmV minmaxL RunL_call RunL_callv CallvA_fn putS ev evL evO evP eqK eqKs EqB_agg RunL_eqAgg EqA_t EqA_f evQ buildC fits_agg cellsAV_agg fits_d cellsAV_d fits_nilp cellsAV_nilp fits_nilsl cellsAV_nilsl fits_nilfn cellsAV_nilfn fits_ptr cellsAV_ptr fits_eptr cellsAV_eptr fits_dptr cellsAV_dptr fits_own cellsAV_own fits_fn cellsAV_fn rowV_fits rowV_cells rowV_len lenAV setSeg nth seg mapD repeatL putT_get upd_get argT keepT_cons keepT_nil keepH_cons keepH_nil cond_true cond_false VC_true finW resW resL resOne LoopQ_exit LoopQ_ret List.cons_append List.nil_append Bool.not_true Bool.not_false Bool.and_true Bool.and_self Nat.lt_add_left_iff_pos Nat.zero_add Nat.add_zero List.drop_succ_cons List.drop_zero List.take_succ_cons List.take_zero beq_self_eq_true Bool.false_eq_true RunC_dops RunL_loadS RunL_loadD LoadDA_dptr RunL_storeS StoreSA_ptr RunL_pcall RunL_pcallv PCallvA_fn newsOk and_self and_true true_and loadW_ptr LoadK_1 LoadK_n upd_upd RunL_buildSlice BSliceA_some RunL_buildSliceD frzL frz cutL LoadA_eptr LoadE_row RunL_append RunL_slice SliceA_sl StoreA_eptr List.length_cons List.length_nil Nat.min_def Int.cast_ofNat_Int Int.natCast_zero Int.natCast_one decide_true decide_false List.getElem?_cons_zero List.getElem?_cons_succ RunC_rangef CallvA_yld putL_nil putL_cons RangeQ_exit RangeQ_ret
/-- A run: a value, from a number to another one. -/
structure Run where
  f : Int
  t : Int
  v : Int
  deriving DecidableEq
def Run.el (r : Run) : List D := [.int .i64 r.f, .int .i64 r.t, .int .i64 r.v]
abbrev Run.av (r : Run) : AV := .agg [i64 r.f, i64 r.t, i64 r.v]
def rowR (l : List Run) : List (List D) := l.map Run.el
theorem rowR_len {l : List Run} : (rowR l).length = l.length := List.length_map ..
theorem rowR_nth {l : List Run} {i : Nat} (h : i < l.length) : (rowR l)[i]? = some (Run.el l[i]) := by simp [rowR, h]
theorem rowR_set {l : List Run} {i : Nat} {r : Run} : (rowR l).set i r.el = rowR (l.set i r) := by simp [rowR, List.map_set]
theorem rowR_snoc {l : List Run} {r : Run} : rowR l ++ [r.el] = rowR (l ++ [r]) := by simp [rowR]
/-- A run more, behind all others. -/
def putR (l : List Run) (r : Run) : List Run := match l.getLast? with
  | some q => if q.v = r.v then l.dropLast ++ [{ q with t := r.t }] else l ++ [r]
  | none => [r]
theorem set_last {l : List Run} {x : Run} (h : l ≠ []) : l.set (l.length - 1) x = l.dropLast ++ [x] := by
  rcases List.eq_nil_or_concat l with rfl | ⟨dl, q, rfl⟩
  · exact absurd rfl h
  · simp
/-- A line's cell: its runs, in a row of its own. -/
def LineAt (H : Heap) (b : Nat) (c : Nat) (l : List Run) : Prop :=
  l = [] ∧ H b = some (.box 52 [.nilsl 3]) ∨ l ≠ [] ∧ c ≠ b ∧ ∃ cap, H b = some (.box 52 [.own c 3 0 l.length cap]) ∧ H c = some (.row 62 3 cap (rowR l))
/-- What putting leaves: all other cells lie as they lay. -/
def PutK (b c : Nat) (l0 l : List Run) (H : Heap) (H' : Heap) : Prop := ∃ c', LineAt H' b c' l ∧ (∀ k x, k ≠ b → (l0 ≠ [] → k ≠ c) → H k = some x → H' k = some x ∧ k ≠ c')
theorem put_ok {H : Heap} {b c : Nat} {l : List Run} {r : Run} (h : LineAt H b c l) (hl : l.length ≤ 1000000) : CallW Try.prog f_line_Line_int_put [.ptr b 0, r.av] H fun _ H' => PutK b c l (putR l r) H H' := by
  rcases h with ⟨rfl, h1⟩ | ⟨h0, h3, cap, h1, h2⟩
  · refine CallW_intro comp_line_Line_int_put (by simp) ?_
    simp -implicitDefEqProofs -proj only [go_sem, Nat.reduceBEq, Nat.reduceLT, Nat.reduceLeDiff, Nat.reduceAdd, Nat.reduceMul, ↓reduceIte, Int.reduceToNat, Int.reducePow, Int.reduceLT, Int.reduceLE, Int.reduceAdd, Int.reduceSub, Int.reduceMul, Int.reduceEq, Int.reduceNe, h1]
    refine AllocA_intro (fun b3 hb => ?_)
    replace hb : H b3 = none := hb
    obtain ⟨n1, n2⟩ := fresh_ne hb h1
    simp -implicitDefEqProofs -proj only [go_sem, Nat.reduceBEq, Nat.reduceLT, Nat.reduceLeDiff, Nat.reduceAdd, Nat.reduceMul, ↓reduceIte, Int.reduceToNat, Int.reducePow, Int.reduceLT, Int.reduceLE, Int.reduceAdd, Int.reduceSub, Int.reduceMul, Int.reduceEq, Int.reduceNe, h1, n1, n2]
    (repeat' first
    | (with_reducible refine Guard_split (fun h => ?_) (fun h => ?_) <;> (simp -implicitDefEqProofs -proj only [go_sem, Nat.reduceBEq, Nat.reduceLT, Nat.reduceLeDiff, Nat.reduceAdd, Nat.reduceMul, ↓reduceIte, Int.reduceToNat, Int.reducePow, Int.reduceLT, Int.reduceLE, Int.reduceAdd, Int.reduceSub, Int.reduceMul, Int.reduceEq, Int.reduceNe, h, h1, n1, n2]; try (revert h; intro _)))
    | (with_reducible refine Cond_split (fun h => ?_) (fun h => ?_) <;> (simp -implicitDefEqProofs -proj only [go_sem, Nat.reduceBEq, Nat.reduceLT, Nat.reduceLeDiff, Nat.reduceAdd, Nat.reduceMul, ↓reduceIte, Int.reduceToNat, Int.reducePow, Int.reduceLT, Int.reduceLE, Int.reduceAdd, Int.reduceSub, Int.reduceMul, Int.reduceEq, Int.reduceNe, h, h1, n1, n2]; try (revert h; intro _)))
    | (with_reducible refine Pick_split (fun h => ?_) (fun h => ?_) <;> (simp -implicitDefEqProofs -proj only [go_sem, Nat.reduceBEq, Nat.reduceLT, Nat.reduceLeDiff, Nat.reduceAdd, Nat.reduceMul, ↓reduceIte, Int.reduceToNat, Int.reducePow, Int.reduceLT, Int.reduceLE, Int.reduceAdd, Int.reduceSub, Int.reduceMul, Int.reduceEq, Int.reduceNe, h, h1, n1, n2]; try (revert h; intro _)))
    | (with_reducible refine AllocA_intro (fun _ hb => ?_); simp -implicitDefEqProofs only [upd_none, keepH_none, keepH_nil, Heap.none_get, and_true, true_and] at hb; simp -implicitDefEqProofs -proj only [go_sem, Nat.reduceBEq, Nat.reduceLT, Nat.reduceLeDiff, Nat.reduceAdd, Nat.reduceMul, ↓reduceIte, Int.reduceToNat, Int.reducePow, Int.reduceLT, Int.reduceLE, Int.reduceAdd, Int.reduceSub, Int.reduceMul, Int.reduceEq, Int.reduceNe, h1, n1, n2]; try (revert hb; intro _))
    | (with_reducible refine AllocR_intro (fun _ hb => ?_); simp -implicitDefEqProofs only [upd_none, keepH_none, keepH_nil, Heap.none_get, and_true, true_and] at hb; simp -implicitDefEqProofs -proj only [go_sem, Nat.reduceBEq, Nat.reduceLT, Nat.reduceLeDiff, Nat.reduceAdd, Nat.reduceMul, ↓reduceIte, Int.reduceToNat, Int.reducePow, Int.reduceLT, Int.reduceLE, Int.reduceAdd, Int.reduceSub, Int.reduceMul, Int.reduceEq, Int.reduceNe, h1, n1, n2]; try (revert hb; intro _))
    | (with_reducible refine IdxE_1 _ rfl (by simp) ?_; simp -implicitDefEqProofs -proj only [go_sem, Nat.reduceBEq, Nat.reduceLT, Nat.reduceLeDiff, Nat.reduceAdd, Nat.reduceMul, ↓reduceIte, Int.reduceToNat, Int.reducePow, Int.reduceLT, Int.reduceLE, Int.reduceAdd, Int.reduceSub, Int.reduceMul, Int.reduceEq, Int.reduceNe, h1, n1, n2])
    | (with_reducible refine IdxE_n _ rfl (by simp) ?_; simp -implicitDefEqProofs -proj only [go_sem, Nat.reduceBEq, Nat.reduceLT, Nat.reduceLeDiff, Nat.reduceAdd, Nat.reduceMul, ↓reduceIte, Int.reduceToNat, Int.reducePow, Int.reduceLT, Int.reduceLE, Int.reduceAdd, Int.reduceSub, Int.reduceMul, Int.reduceEq, Int.reduceNe, h1, n1, n2])
    | (with_reducible refine VC_intro ?_ (fun h => ?_); (focus first | decide | omega); try clear h; try simp -implicitDefEqProofs -proj only [go_sem, Nat.reduceBEq, Nat.reduceLT, Nat.reduceLeDiff, Nat.reduceAdd, Nat.reduceMul, ↓reduceIte, Int.reduceToNat, Int.reducePow, Int.reduceLT, Int.reduceLE, Int.reduceAdd, Int.reduceSub, Int.reduceMul, Int.reduceEq, Int.reduceNe, h1, n1, n2])
    | (with_reducible refine VC_intro ?_ (fun h => ?_); rotate_left; try clear h; try simp -implicitDefEqProofs -proj only [go_sem, Nat.reduceBEq, Nat.reduceLT, Nat.reduceLeDiff, Nat.reduceAdd, Nat.reduceMul, ↓reduceIte, Int.reduceToNat, Int.reducePow, Int.reduceLT, Int.reduceLE, Int.reduceAdd, Int.reduceSub, Int.reduceMul, Int.reduceEq, Int.reduceNe, h1, n1, n2]; rotate_right))
    refine BSliceD_intro (ds := r.el) rfl (fun bs hs => ?_)
    replace hs : upd H b3 _ bs = none := hs
    rw [show cutL 3 1 r.el = [r.el] from rfl]
    obtain ⟨m1, m2⟩ := fresh_ne hs (by rw [upd_ne n1]; exact h1)
    simp -implicitDefEqProofs -proj only [go_sem, Nat.reduceBEq, Nat.reduceLT, Nat.reduceLeDiff, Nat.reduceAdd, Nat.reduceMul, ↓reduceIte, Int.reduceToNat, Int.reducePow, Int.reduceLT, Int.reduceLE, Int.reduceAdd, Int.reduceSub, Int.reduceMul, Int.reduceEq, Int.reduceNe, h1, n1, n2, m1, m2]
    refine AppendA_nil1 (ys := [r.el]) (t := 62) (capc := 1) (by simp -implicitDefEqProofs -proj only [go_sem, Nat.reduceBEq, Nat.reduceLT, Nat.reduceLeDiff, Nat.reduceAdd, Nat.reduceMul, ↓reduceIte, Int.reduceToNat, Int.reducePow, Int.reduceLT, Int.reduceLE, Int.reduceAdd, Int.reduceSub, Int.reduceMul, Int.reduceEq, Int.reduceNe]) rfl (by simp) rfl (by simp [maxLen]) (fun c' hc' cap => ?_)
    replace hc' : upd (upd H b3 _) bs _ c' = none := hc'
    obtain ⟨k1, k2⟩ := fresh_ne hc' (by rw [upd_ne m1, upd_ne n1]; exact h1)
    simp -implicitDefEqProofs -proj only [go_sem, Nat.reduceBEq, Nat.reduceLT, Nat.reduceLeDiff, Nat.reduceAdd, Nat.reduceMul, ↓reduceIte, Int.reduceToNat, Int.reducePow, Int.reduceLT, Int.reduceLE, Int.reduceAdd, Int.reduceSub, Int.reduceMul, Int.reduceEq, Int.reduceNe, h1, n1, n2, m1, m2, k1, k2]
    (repeat' first
    | (with_reducible refine Guard_split (fun h => ?_) (fun h => ?_) <;> (simp -implicitDefEqProofs -proj only [go_sem, Nat.reduceBEq, Nat.reduceLT, Nat.reduceLeDiff, Nat.reduceAdd, Nat.reduceMul, ↓reduceIte, Int.reduceToNat, Int.reducePow, Int.reduceLT, Int.reduceLE, Int.reduceAdd, Int.reduceSub, Int.reduceMul, Int.reduceEq, Int.reduceNe, h, h1, n1, n2, m1, m2, k1, k2]; try (revert h; intro _)))
    | (with_reducible refine Cond_split (fun h => ?_) (fun h => ?_) <;> (simp -implicitDefEqProofs -proj only [go_sem, Nat.reduceBEq, Nat.reduceLT, Nat.reduceLeDiff, Nat.reduceAdd, Nat.reduceMul, ↓reduceIte, Int.reduceToNat, Int.reducePow, Int.reduceLT, Int.reduceLE, Int.reduceAdd, Int.reduceSub, Int.reduceMul, Int.reduceEq, Int.reduceNe, h, h1, n1, n2, m1, m2, k1, k2]; try (revert h; intro _)))
    | (with_reducible refine Pick_split (fun h => ?_) (fun h => ?_) <;> (simp -implicitDefEqProofs -proj only [go_sem, Nat.reduceBEq, Nat.reduceLT, Nat.reduceLeDiff, Nat.reduceAdd, Nat.reduceMul, ↓reduceIte, Int.reduceToNat, Int.reducePow, Int.reduceLT, Int.reduceLE, Int.reduceAdd, Int.reduceSub, Int.reduceMul, Int.reduceEq, Int.reduceNe, h, h1, n1, n2, m1, m2, k1, k2]; try (revert h; intro _)))
    | (with_reducible refine AllocA_intro (fun _ hb => ?_); simp -implicitDefEqProofs only [upd_none, keepH_none, keepH_nil, Heap.none_get, and_true, true_and] at hb; simp -implicitDefEqProofs -proj only [go_sem, Nat.reduceBEq, Nat.reduceLT, Nat.reduceLeDiff, Nat.reduceAdd, Nat.reduceMul, ↓reduceIte, Int.reduceToNat, Int.reducePow, Int.reduceLT, Int.reduceLE, Int.reduceAdd, Int.reduceSub, Int.reduceMul, Int.reduceEq, Int.reduceNe, h1, n1, n2, m1, m2, k1, k2]; try (revert hb; intro _))
    | (with_reducible refine AllocR_intro (fun _ hb => ?_); simp -implicitDefEqProofs only [upd_none, keepH_none, keepH_nil, Heap.none_get, and_true, true_and] at hb; simp -implicitDefEqProofs -proj only [go_sem, Nat.reduceBEq, Nat.reduceLT, Nat.reduceLeDiff, Nat.reduceAdd, Nat.reduceMul, ↓reduceIte, Int.reduceToNat, Int.reducePow, Int.reduceLT, Int.reduceLE, Int.reduceAdd, Int.reduceSub, Int.reduceMul, Int.reduceEq, Int.reduceNe, h1, n1, n2, m1, m2, k1, k2]; try (revert hb; intro _))
    | (with_reducible refine IdxE_1 _ rfl (by simp) ?_; simp -implicitDefEqProofs -proj only [go_sem, Nat.reduceBEq, Nat.reduceLT, Nat.reduceLeDiff, Nat.reduceAdd, Nat.reduceMul, ↓reduceIte, Int.reduceToNat, Int.reducePow, Int.reduceLT, Int.reduceLE, Int.reduceAdd, Int.reduceSub, Int.reduceMul, Int.reduceEq, Int.reduceNe, h1, n1, n2, m1, m2, k1, k2])
    | (with_reducible refine IdxE_n _ rfl (by simp) ?_; simp -implicitDefEqProofs -proj only [go_sem, Nat.reduceBEq, Nat.reduceLT, Nat.reduceLeDiff, Nat.reduceAdd, Nat.reduceMul, ↓reduceIte, Int.reduceToNat, Int.reducePow, Int.reduceLT, Int.reduceLE, Int.reduceAdd, Int.reduceSub, Int.reduceMul, Int.reduceEq, Int.reduceNe, h1, n1, n2, m1, m2, k1, k2])
    | (with_reducible refine VC_intro ?_ (fun h => ?_); (focus first | decide | omega); try clear h; try simp -implicitDefEqProofs -proj only [go_sem, Nat.reduceBEq, Nat.reduceLT, Nat.reduceLeDiff, Nat.reduceAdd, Nat.reduceMul, ↓reduceIte, Int.reduceToNat, Int.reducePow, Int.reduceLT, Int.reduceLE, Int.reduceAdd, Int.reduceSub, Int.reduceMul, Int.reduceEq, Int.reduceNe, h1, n1, n2, m1, m2, k1, k2])
    | (with_reducible refine VC_intro ?_ (fun h => ?_); rotate_left; try clear h; try simp -implicitDefEqProofs -proj only [go_sem, Nat.reduceBEq, Nat.reduceLT, Nat.reduceLeDiff, Nat.reduceAdd, Nat.reduceMul, ↓reduceIte, Int.reduceToNat, Int.reducePow, Int.reduceLT, Int.reduceLE, Int.reduceAdd, Int.reduceSub, Int.reduceMul, Int.reduceEq, Int.reduceNe, h1, n1, n2, m1, m2, k1, k2]; rotate_right))
    refine ⟨c', .inr ⟨by simp [putR], k1, cap, ?_, ?_⟩, fun k x hk1 hk2 hk => ?_⟩
    · simp -implicitDefEqProofs -proj only [go_sem, Nat.reduceBEq, Nat.reduceLT, Nat.reduceLeDiff, Nat.reduceAdd, Nat.reduceMul, ↓reduceIte, Int.reduceToNat, Int.reducePow, Int.reduceLT, Int.reduceLE, Int.reduceAdd, Int.reduceSub, Int.reduceMul, Int.reduceEq, Int.reduceNe, putR]
      rfl
    · simp -implicitDefEqProofs -proj only [go_sem, Nat.reduceBEq, Nat.reduceLT, Nat.reduceLeDiff, Nat.reduceAdd, Nat.reduceMul, ↓reduceIte, Int.reduceToNat, Int.reducePow, Int.reduceLT, Int.reduceLE, Int.reduceAdd, Int.reduceSub, Int.reduceMul, Int.reduceEq, Int.reduceNe, k2]
      rfl
    · obtain ⟨p1, p2⟩ := fresh_ne hb hk
      obtain ⟨q1, q2⟩ := fresh_ne hs (by rw [upd_ne p1]; exact hk)
      obtain ⟨r1, r2⟩ := fresh_ne hc' (by rw [upd_ne q1, upd_ne p1]; exact hk)
      refine ⟨?_, r2⟩
      have hk3 : ¬ b = k := fun e => hk1 e.symm
      simp -implicitDefEqProofs -proj only [go_sem, Nat.reduceBEq, Nat.reduceLT, Nat.reduceLeDiff, Nat.reduceAdd, Nat.reduceMul, ↓reduceIte, Int.reduceToNat, Int.reducePow, Int.reduceLT, Int.reduceLE, Int.reduceAdd, Int.reduceSub, Int.reduceMul, Int.reduceEq, Int.reduceNe, p1, q1, r1, hk, hk3]
  · obtain ⟨q, hq⟩ : ∃ q, l.getLast? = some q := by
      cases hh : l.getLast? with
      | none => exact absurd (List.getLast?_eq_none_iff.1 hh) h0
      | some q => exact ⟨q, rfl⟩
    have hlen : 0 < l.length := List.length_pos_iff.2 h0
    have hq2 : l[l.length - 1]? = some q := by rw [← List.getLast?_eq_getElem?]; exact hq
    have hw : IntKind.i64.wrap ((l.length : Int) - 1) = ((l.length - 1 : Nat) : Int) := by rw [IntKind.wrap_i64]; omega
    have hrow : (rowR l)[l.length - 1]? = some [.int .i64 q.f, .int .i64 q.t, .int .i64 q.v] := by simp [rowR, hq2, Run.el]
    have h3' : ¬ b = c := fun e => h3 e.symm
    refine CallW_intro comp_line_Line_int_put (by simp) ?_
    simp -implicitDefEqProofs -proj only [go_sem, Nat.reduceBEq, Nat.reduceLT, Nat.reduceLeDiff, Nat.reduceAdd, Nat.reduceMul, ↓reduceIte, Int.reduceToNat, Int.reducePow, Int.reduceLT, Int.reduceLE, Int.reduceAdd, Int.reduceSub, Int.reduceMul, Int.reduceEq, Int.reduceNe, h1]
    refine AllocA_intro (fun b3 hb => ?_)
    replace hb : H b3 = none := hb
    obtain ⟨n1, n2⟩ := fresh_ne hb h1
    obtain ⟨n3, n4⟩ := fresh_ne hb h2
    have c0 : decide (0 < (l.length : Int)) = true := decide_eq_true (by omega)
    simp -implicitDefEqProofs -proj only [go_sem, Nat.reduceBEq, Nat.reduceLT, Nat.reduceLeDiff, Nat.reduceAdd, Nat.reduceMul, ↓reduceIte, Int.reduceToNat, Int.reducePow, Int.reduceLT, Int.reduceLE, Int.reduceAdd, Int.reduceSub, Int.reduceMul, Int.reduceEq, Int.reduceNe, h1, h2, h3, h3', n1, n2, n3, n4, c0, hw]
    (repeat' first
    | (with_reducible refine Guard_split (fun h => ?_) (fun h => ?_) <;> (simp -implicitDefEqProofs -proj only [go_sem, Nat.reduceBEq, Nat.reduceLT, Nat.reduceLeDiff, Nat.reduceAdd, Nat.reduceMul, ↓reduceIte, Int.reduceToNat, Int.reducePow, Int.reduceLT, Int.reduceLE, Int.reduceAdd, Int.reduceSub, Int.reduceMul, Int.reduceEq, Int.reduceNe, h, h1, h2, h3, h3', n1, n2, n3, n4, c0, hw]; try (revert h; intro _)))
    | (with_reducible refine Cond_split (fun h => ?_) (fun h => ?_) <;> (simp -implicitDefEqProofs -proj only [go_sem, Nat.reduceBEq, Nat.reduceLT, Nat.reduceLeDiff, Nat.reduceAdd, Nat.reduceMul, ↓reduceIte, Int.reduceToNat, Int.reducePow, Int.reduceLT, Int.reduceLE, Int.reduceAdd, Int.reduceSub, Int.reduceMul, Int.reduceEq, Int.reduceNe, h, h1, h2, h3, h3', n1, n2, n3, n4, c0, hw]; try (revert h; intro _)))
    | (with_reducible refine Pick_split (fun h => ?_) (fun h => ?_) <;> (simp -implicitDefEqProofs -proj only [go_sem, Nat.reduceBEq, Nat.reduceLT, Nat.reduceLeDiff, Nat.reduceAdd, Nat.reduceMul, ↓reduceIte, Int.reduceToNat, Int.reducePow, Int.reduceLT, Int.reduceLE, Int.reduceAdd, Int.reduceSub, Int.reduceMul, Int.reduceEq, Int.reduceNe, h, h1, h2, h3, h3', n1, n2, n3, n4, c0, hw]; try (revert h; intro _)))
    | (with_reducible refine AllocA_intro (fun _ hb => ?_); simp -implicitDefEqProofs only [upd_none, keepH_none, keepH_nil, Heap.none_get, and_true, true_and] at hb; simp -implicitDefEqProofs -proj only [go_sem, Nat.reduceBEq, Nat.reduceLT, Nat.reduceLeDiff, Nat.reduceAdd, Nat.reduceMul, ↓reduceIte, Int.reduceToNat, Int.reducePow, Int.reduceLT, Int.reduceLE, Int.reduceAdd, Int.reduceSub, Int.reduceMul, Int.reduceEq, Int.reduceNe, h1, h2, h3, h3', n1, n2, n3, n4, c0, hw]; try (revert hb; intro _))
    | (with_reducible refine AllocR_intro (fun _ hb => ?_); simp -implicitDefEqProofs only [upd_none, keepH_none, keepH_nil, Heap.none_get, and_true, true_and] at hb; simp -implicitDefEqProofs -proj only [go_sem, Nat.reduceBEq, Nat.reduceLT, Nat.reduceLeDiff, Nat.reduceAdd, Nat.reduceMul, ↓reduceIte, Int.reduceToNat, Int.reducePow, Int.reduceLT, Int.reduceLE, Int.reduceAdd, Int.reduceSub, Int.reduceMul, Int.reduceEq, Int.reduceNe, h1, h2, h3, h3', n1, n2, n3, n4, c0, hw]; try (revert hb; intro _))
    | (with_reducible refine IdxE_1 _ rfl (by simp) ?_; simp -implicitDefEqProofs -proj only [go_sem, Nat.reduceBEq, Nat.reduceLT, Nat.reduceLeDiff, Nat.reduceAdd, Nat.reduceMul, ↓reduceIte, Int.reduceToNat, Int.reducePow, Int.reduceLT, Int.reduceLE, Int.reduceAdd, Int.reduceSub, Int.reduceMul, Int.reduceEq, Int.reduceNe, h1, h2, h3, h3', n1, n2, n3, n4, c0, hw])
    | (with_reducible refine IdxE_n _ rfl (by simp) ?_; simp -implicitDefEqProofs -proj only [go_sem, Nat.reduceBEq, Nat.reduceLT, Nat.reduceLeDiff, Nat.reduceAdd, Nat.reduceMul, ↓reduceIte, Int.reduceToNat, Int.reducePow, Int.reduceLT, Int.reduceLE, Int.reduceAdd, Int.reduceSub, Int.reduceMul, Int.reduceEq, Int.reduceNe, h1, h2, h3, h3', n1, n2, n3, n4, c0, hw])
    | (with_reducible refine VC_intro ?_ (fun h => ?_); (focus first | decide | omega); try clear h; try simp -implicitDefEqProofs -proj only [go_sem, Nat.reduceBEq, Nat.reduceLT, Nat.reduceLeDiff, Nat.reduceAdd, Nat.reduceMul, ↓reduceIte, Int.reduceToNat, Int.reducePow, Int.reduceLT, Int.reduceLE, Int.reduceAdd, Int.reduceSub, Int.reduceMul, Int.reduceEq, Int.reduceNe, h1, h2, h3, h3', n1, n2, n3, n4, c0, hw])
    | (with_reducible refine VC_intro ?_ (fun h => ?_); rotate_left; try clear h; try simp -implicitDefEqProofs -proj only [go_sem, Nat.reduceBEq, Nat.reduceLT, Nat.reduceLeDiff, Nat.reduceAdd, Nat.reduceMul, ↓reduceIte, Int.reduceToNat, Int.reducePow, Int.reduceLT, Int.reduceLE, Int.reduceAdd, Int.reduceSub, Int.reduceMul, Int.reduceEq, Int.reduceNe, h1, h2, h3, h3', n1, n2, n3, n4, c0, hw]; rotate_right))
    refine IdxE_1 _ (by rw [Int.toNat_natCast]; exact hrow) (by simp) ?_
    simp -implicitDefEqProofs -proj only [go_sem, Nat.reduceBEq, Nat.reduceLT, Nat.reduceLeDiff, Nat.reduceAdd, Nat.reduceMul, ↓reduceIte, Int.reduceToNat, Int.reducePow, Int.reduceLT, Int.reduceLE, Int.reduceAdd, Int.reduceSub, Int.reduceMul, Int.reduceEq, Int.reduceNe, h1, h2, h3, h3', n1, n2, n3, n4, c0, hw]
    by_cases hv : q.v = r.v
    · have hp : putR l r = l.dropLast ++ [{ q with t := r.t }] := by rw [putR, hq]; exact if_pos hv
      simp -implicitDefEqProofs -proj only [go_sem, Nat.reduceBEq, Nat.reduceLT, Nat.reduceLeDiff, Nat.reduceAdd, Nat.reduceMul, ↓reduceIte, Int.reduceToNat, Int.reducePow, Int.reduceLT, Int.reduceLE, Int.reduceAdd, Int.reduceSub, Int.reduceMul, Int.reduceEq, Int.reduceNe, h1, h2, h3, h3', n1, n2, n3, n4, c0, hw, decide_eq_true hv, Int.toNat_natCast]
      (repeat' first
    | (with_reducible refine Guard_split (fun h => ?_) (fun h => ?_) <;> (simp -implicitDefEqProofs -proj only [go_sem, Nat.reduceBEq, Nat.reduceLT, Nat.reduceLeDiff, Nat.reduceAdd, Nat.reduceMul, ↓reduceIte, Int.reduceToNat, Int.reducePow, Int.reduceLT, Int.reduceLE, Int.reduceAdd, Int.reduceSub, Int.reduceMul, Int.reduceEq, Int.reduceNe, h, h1, h2, h3, h3', n1, n2, n3, n4, c0, hw, Int.toNat_natCast]; try (revert h; intro _)))
    | (with_reducible refine Cond_split (fun h => ?_) (fun h => ?_) <;> (simp -implicitDefEqProofs -proj only [go_sem, Nat.reduceBEq, Nat.reduceLT, Nat.reduceLeDiff, Nat.reduceAdd, Nat.reduceMul, ↓reduceIte, Int.reduceToNat, Int.reducePow, Int.reduceLT, Int.reduceLE, Int.reduceAdd, Int.reduceSub, Int.reduceMul, Int.reduceEq, Int.reduceNe, h, h1, h2, h3, h3', n1, n2, n3, n4, c0, hw, Int.toNat_natCast]; try (revert h; intro _)))
    | (with_reducible refine Pick_split (fun h => ?_) (fun h => ?_) <;> (simp -implicitDefEqProofs -proj only [go_sem, Nat.reduceBEq, Nat.reduceLT, Nat.reduceLeDiff, Nat.reduceAdd, Nat.reduceMul, ↓reduceIte, Int.reduceToNat, Int.reducePow, Int.reduceLT, Int.reduceLE, Int.reduceAdd, Int.reduceSub, Int.reduceMul, Int.reduceEq, Int.reduceNe, h, h1, h2, h3, h3', n1, n2, n3, n4, c0, hw, Int.toNat_natCast]; try (revert h; intro _)))
    | (with_reducible refine AllocA_intro (fun _ hb => ?_); simp -implicitDefEqProofs only [upd_none, keepH_none, keepH_nil, Heap.none_get, and_true, true_and] at hb; simp -implicitDefEqProofs -proj only [go_sem, Nat.reduceBEq, Nat.reduceLT, Nat.reduceLeDiff, Nat.reduceAdd, Nat.reduceMul, ↓reduceIte, Int.reduceToNat, Int.reducePow, Int.reduceLT, Int.reduceLE, Int.reduceAdd, Int.reduceSub, Int.reduceMul, Int.reduceEq, Int.reduceNe, h1, h2, h3, h3', n1, n2, n3, n4, c0, hw, Int.toNat_natCast]; try (revert hb; intro _))
    | (with_reducible refine AllocR_intro (fun _ hb => ?_); simp -implicitDefEqProofs only [upd_none, keepH_none, keepH_nil, Heap.none_get, and_true, true_and] at hb; simp -implicitDefEqProofs -proj only [go_sem, Nat.reduceBEq, Nat.reduceLT, Nat.reduceLeDiff, Nat.reduceAdd, Nat.reduceMul, ↓reduceIte, Int.reduceToNat, Int.reducePow, Int.reduceLT, Int.reduceLE, Int.reduceAdd, Int.reduceSub, Int.reduceMul, Int.reduceEq, Int.reduceNe, h1, h2, h3, h3', n1, n2, n3, n4, c0, hw, Int.toNat_natCast]; try (revert hb; intro _))
    | (with_reducible refine IdxE_1 _ rfl (by simp) ?_; simp -implicitDefEqProofs -proj only [go_sem, Nat.reduceBEq, Nat.reduceLT, Nat.reduceLeDiff, Nat.reduceAdd, Nat.reduceMul, ↓reduceIte, Int.reduceToNat, Int.reducePow, Int.reduceLT, Int.reduceLE, Int.reduceAdd, Int.reduceSub, Int.reduceMul, Int.reduceEq, Int.reduceNe, h1, h2, h3, h3', n1, n2, n3, n4, c0, hw, Int.toNat_natCast])
    | (with_reducible refine IdxE_n _ rfl (by simp) ?_; simp -implicitDefEqProofs -proj only [go_sem, Nat.reduceBEq, Nat.reduceLT, Nat.reduceLeDiff, Nat.reduceAdd, Nat.reduceMul, ↓reduceIte, Int.reduceToNat, Int.reducePow, Int.reduceLT, Int.reduceLE, Int.reduceAdd, Int.reduceSub, Int.reduceMul, Int.reduceEq, Int.reduceNe, h1, h2, h3, h3', n1, n2, n3, n4, c0, hw, Int.toNat_natCast])
    | (with_reducible refine VC_intro ?_ (fun h => ?_); (focus first | decide | omega); try clear h; try simp -implicitDefEqProofs -proj only [go_sem, Nat.reduceBEq, Nat.reduceLT, Nat.reduceLeDiff, Nat.reduceAdd, Nat.reduceMul, ↓reduceIte, Int.reduceToNat, Int.reducePow, Int.reduceLT, Int.reduceLE, Int.reduceAdd, Int.reduceSub, Int.reduceMul, Int.reduceEq, Int.reduceNe, h1, h2, h3, h3', n1, n2, n3, n4, c0, hw, Int.toNat_natCast])
    | (with_reducible refine VC_intro ?_ (fun h => ?_); rotate_left; try clear h; try simp -implicitDefEqProofs -proj only [go_sem, Nat.reduceBEq, Nat.reduceLT, Nat.reduceLeDiff, Nat.reduceAdd, Nat.reduceMul, ↓reduceIte, Int.reduceToNat, Int.reducePow, Int.reduceLT, Int.reduceLE, Int.reduceAdd, Int.reduceSub, Int.reduceMul, Int.reduceEq, Int.reduceNe, h1, h2, h3, h3', n1, n2, n3, n4, c0, hw, Int.toNat_natCast]; rotate_right))
      refine StoreE_1 (xs := rowR l) (t := 62) (cap := cap) (by simp -implicitDefEqProofs -proj only [go_sem, Nat.reduceBEq, Nat.reduceLT, Nat.reduceLeDiff, Nat.reduceAdd, Nat.reduceMul, ↓reduceIte, Int.reduceToNat, Int.reducePow, Int.reduceLT, Int.reduceLE, Int.reduceAdd, Int.reduceSub, Int.reduceMul, Int.reduceEq, Int.reduceNe, n3, h2]) hrow (by simp) ?_
      have hset : (rowR l).set (l.length - 1) (setSegD [.int .i64 q.f, .int .i64 q.t, .int .i64 q.v] 1 [.int .i64 r.t]) = rowR (putR l r) := by
        rw [hp, ← set_last h0, ← rowR_set]; rfl
      have hlp : (putR l r).length = l.length := by rw [hp, List.length_append, List.length_dropLast, List.length_singleton]; omega
      rw [hset]
      simp -implicitDefEqProofs -proj only [go_sem, Nat.reduceBEq, Nat.reduceLT, Nat.reduceLeDiff, Nat.reduceAdd, Nat.reduceMul, ↓reduceIte, Int.reduceToNat, Int.reducePow, Int.reduceLT, Int.reduceLE, Int.reduceAdd, Int.reduceSub, Int.reduceMul, Int.reduceEq, Int.reduceNe, h1, h2, h3, h3', n1, n2, n3, n4, c0, hw]
      refine ⟨c, .inr ⟨by rw [hp]; simp, h3, cap, ?_, ?_⟩, fun k x hk1 hk2 hk => ?_⟩
      · simp -implicitDefEqProofs -proj only [go_sem, Nat.reduceBEq, Nat.reduceLT, Nat.reduceLeDiff, Nat.reduceAdd, Nat.reduceMul, ↓reduceIte, Int.reduceToNat, Int.reducePow, Int.reduceLT, Int.reduceLE, Int.reduceAdd, Int.reduceSub, Int.reduceMul, Int.reduceEq, Int.reduceNe, n1, h3, h1, hlp]
      · simp -implicitDefEqProofs -proj only [go_sem, Nat.reduceBEq, Nat.reduceLT, Nat.reduceLeDiff, Nat.reduceAdd, Nat.reduceMul, ↓reduceIte, Int.reduceToNat, Int.reducePow, Int.reduceLT, Int.reduceLE, Int.reduceAdd, Int.reduceSub, Int.reduceMul, Int.reduceEq, Int.reduceNe]
      · obtain ⟨p1, p2⟩ := fresh_ne hb hk
        have hk3 : ¬ c = k := fun e => hk2 h0 e.symm
        refine ⟨?_, hk2 h0⟩
        simp -implicitDefEqProofs -proj only [go_sem, Nat.reduceBEq, Nat.reduceLT, Nat.reduceLeDiff, Nat.reduceAdd, Nat.reduceMul, ↓reduceIte, Int.reduceToNat, Int.reducePow, Int.reduceLT, Int.reduceLE, Int.reduceAdd, Int.reduceSub, Int.reduceMul, Int.reduceEq, Int.reduceNe, p1, hk3, hk]
    · have hp : putR l r = l ++ [r] := by rw [putR, hq]; exact if_neg hv
      simp -implicitDefEqProofs -proj only [go_sem, Nat.reduceBEq, Nat.reduceLT, Nat.reduceLeDiff, Nat.reduceAdd, Nat.reduceMul, ↓reduceIte, Int.reduceToNat, Int.reducePow, Int.reduceLT, Int.reduceLE, Int.reduceAdd, Int.reduceSub, Int.reduceMul, Int.reduceEq, Int.reduceNe, h1, h2, h3, h3', n1, n2, n3, n4, c0, hw, decide_eq_false hv]
      (repeat' first
    | (with_reducible refine Guard_split (fun h => ?_) (fun h => ?_) <;> (simp -implicitDefEqProofs -proj only [go_sem, Nat.reduceBEq, Nat.reduceLT, Nat.reduceLeDiff, Nat.reduceAdd, Nat.reduceMul, ↓reduceIte, Int.reduceToNat, Int.reducePow, Int.reduceLT, Int.reduceLE, Int.reduceAdd, Int.reduceSub, Int.reduceMul, Int.reduceEq, Int.reduceNe, h, h1, h2, h3, h3', n1, n2, n3, n4, c0, hw]; try (revert h; intro _)))
    | (with_reducible refine Cond_split (fun h => ?_) (fun h => ?_) <;> (simp -implicitDefEqProofs -proj only [go_sem, Nat.reduceBEq, Nat.reduceLT, Nat.reduceLeDiff, Nat.reduceAdd, Nat.reduceMul, ↓reduceIte, Int.reduceToNat, Int.reducePow, Int.reduceLT, Int.reduceLE, Int.reduceAdd, Int.reduceSub, Int.reduceMul, Int.reduceEq, Int.reduceNe, h, h1, h2, h3, h3', n1, n2, n3, n4, c0, hw]; try (revert h; intro _)))
    | (with_reducible refine Pick_split (fun h => ?_) (fun h => ?_) <;> (simp -implicitDefEqProofs -proj only [go_sem, Nat.reduceBEq, Nat.reduceLT, Nat.reduceLeDiff, Nat.reduceAdd, Nat.reduceMul, ↓reduceIte, Int.reduceToNat, Int.reducePow, Int.reduceLT, Int.reduceLE, Int.reduceAdd, Int.reduceSub, Int.reduceMul, Int.reduceEq, Int.reduceNe, h, h1, h2, h3, h3', n1, n2, n3, n4, c0, hw]; try (revert h; intro _)))
    | (with_reducible refine AllocA_intro (fun _ hb => ?_); simp -implicitDefEqProofs only [upd_none, keepH_none, keepH_nil, Heap.none_get, and_true, true_and] at hb; simp -implicitDefEqProofs -proj only [go_sem, Nat.reduceBEq, Nat.reduceLT, Nat.reduceLeDiff, Nat.reduceAdd, Nat.reduceMul, ↓reduceIte, Int.reduceToNat, Int.reducePow, Int.reduceLT, Int.reduceLE, Int.reduceAdd, Int.reduceSub, Int.reduceMul, Int.reduceEq, Int.reduceNe, h1, h2, h3, h3', n1, n2, n3, n4, c0, hw]; try (revert hb; intro _))
    | (with_reducible refine AllocR_intro (fun _ hb => ?_); simp -implicitDefEqProofs only [upd_none, keepH_none, keepH_nil, Heap.none_get, and_true, true_and] at hb; simp -implicitDefEqProofs -proj only [go_sem, Nat.reduceBEq, Nat.reduceLT, Nat.reduceLeDiff, Nat.reduceAdd, Nat.reduceMul, ↓reduceIte, Int.reduceToNat, Int.reducePow, Int.reduceLT, Int.reduceLE, Int.reduceAdd, Int.reduceSub, Int.reduceMul, Int.reduceEq, Int.reduceNe, h1, h2, h3, h3', n1, n2, n3, n4, c0, hw]; try (revert hb; intro _))
    | (with_reducible refine IdxE_1 _ rfl (by simp) ?_; simp -implicitDefEqProofs -proj only [go_sem, Nat.reduceBEq, Nat.reduceLT, Nat.reduceLeDiff, Nat.reduceAdd, Nat.reduceMul, ↓reduceIte, Int.reduceToNat, Int.reducePow, Int.reduceLT, Int.reduceLE, Int.reduceAdd, Int.reduceSub, Int.reduceMul, Int.reduceEq, Int.reduceNe, h1, h2, h3, h3', n1, n2, n3, n4, c0, hw])
    | (with_reducible refine IdxE_n _ rfl (by simp) ?_; simp -implicitDefEqProofs -proj only [go_sem, Nat.reduceBEq, Nat.reduceLT, Nat.reduceLeDiff, Nat.reduceAdd, Nat.reduceMul, ↓reduceIte, Int.reduceToNat, Int.reducePow, Int.reduceLT, Int.reduceLE, Int.reduceAdd, Int.reduceSub, Int.reduceMul, Int.reduceEq, Int.reduceNe, h1, h2, h3, h3', n1, n2, n3, n4, c0, hw])
    | (with_reducible refine VC_intro ?_ (fun h => ?_); (focus first | decide | omega); try clear h; try simp -implicitDefEqProofs -proj only [go_sem, Nat.reduceBEq, Nat.reduceLT, Nat.reduceLeDiff, Nat.reduceAdd, Nat.reduceMul, ↓reduceIte, Int.reduceToNat, Int.reducePow, Int.reduceLT, Int.reduceLE, Int.reduceAdd, Int.reduceSub, Int.reduceMul, Int.reduceEq, Int.reduceNe, h1, h2, h3, h3', n1, n2, n3, n4, c0, hw])
    | (with_reducible refine VC_intro ?_ (fun h => ?_); rotate_left; try clear h; try simp -implicitDefEqProofs -proj only [go_sem, Nat.reduceBEq, Nat.reduceLT, Nat.reduceLeDiff, Nat.reduceAdd, Nat.reduceMul, ↓reduceIte, Int.reduceToNat, Int.reducePow, Int.reduceLT, Int.reduceLE, Int.reduceAdd, Int.reduceSub, Int.reduceMul, Int.reduceEq, Int.reduceNe, h1, h2, h3, h3', n1, n2, n3, n4, c0, hw]; rotate_right))
      refine BSliceD_intro (ds := r.el) rfl (fun bs hs => ?_)
      replace hs : upd H b3 _ bs = none := hs
      rw [show cutL 3 1 r.el = [r.el] from rfl]
      obtain ⟨m1, m2⟩ := fresh_ne hs (by rw [upd_ne n1]; exact h1)
      obtain ⟨m3, m4⟩ := fresh_ne hs (by rw [upd_ne n3]; exact h2)
      simp -implicitDefEqProofs -proj only [go_sem, Nat.reduceBEq, Nat.reduceLT, Nat.reduceLeDiff, Nat.reduceAdd, Nat.reduceMul, ↓reduceIte, Int.reduceToNat, Int.reducePow, Int.reduceLT, Int.reduceLE, Int.reduceAdd, Int.reduceSub, Int.reduceMul, Int.reduceEq, Int.reduceNe, h1, h2, h3, h3', n1, n2, n3, n4, c0, hw, m1, m2, m3, m4]
      refine AppendA_own1 (xs := rowR l) (ys := [r.el]) (t := 62) (capc := 1) (by simp -implicitDefEqProofs -proj only [go_sem, Nat.reduceBEq, Nat.reduceLT, Nat.reduceLeDiff, Nat.reduceAdd, Nat.reduceMul, ↓reduceIte, Int.reduceToNat, Int.reducePow, Int.reduceLT, Int.reduceLE, Int.reduceAdd, Int.reduceSub, Int.reduceMul, Int.reduceEq, Int.reduceNe, m3, n3, h2]) (by simp -implicitDefEqProofs -proj only [go_sem, Nat.reduceBEq, Nat.reduceLT, Nat.reduceLeDiff, Nat.reduceAdd, Nat.reduceMul, ↓reduceIte, Int.reduceToNat, Int.reducePow, Int.reduceLT, Int.reduceLE, Int.reduceAdd, Int.reduceSub, Int.reduceMul, Int.reduceEq, Int.reduceNe]) rowR_len.symm rfl (by simp) rfl (by simp -implicitDefEqProofs only [rowR_len, List.length_singleton, maxLen]; omega) (fun c' cap' hc' => ?_)
      replace hc' : upd (upd (upd H b3 _) bs _) c none c' = none := hc'
      obtain ⟨k1, k2⟩ := fresh_ne hc' (by rw [upd_ne h3, upd_ne m1, upd_ne n1]; exact h1)
      rw [rowR_snoc, List.length_singleton]
      simp -implicitDefEqProofs -proj only [go_sem, Nat.reduceBEq, Nat.reduceLT, Nat.reduceLeDiff, Nat.reduceAdd, Nat.reduceMul, ↓reduceIte, Int.reduceToNat, Int.reducePow, Int.reduceLT, Int.reduceLE, Int.reduceAdd, Int.reduceSub, Int.reduceMul, Int.reduceEq, Int.reduceNe, h1, h2, h3, h3', n1, n2, n3, n4, c0, hw, m1, m2, m3, m4, k1, k2]
      (repeat' first
    | (with_reducible refine Guard_split (fun h => ?_) (fun h => ?_) <;> (simp -implicitDefEqProofs -proj only [go_sem, Nat.reduceBEq, Nat.reduceLT, Nat.reduceLeDiff, Nat.reduceAdd, Nat.reduceMul, ↓reduceIte, Int.reduceToNat, Int.reducePow, Int.reduceLT, Int.reduceLE, Int.reduceAdd, Int.reduceSub, Int.reduceMul, Int.reduceEq, Int.reduceNe, h, h1, h2, h3, h3', n1, n2, n3, n4, c0, hw, m1, m2, m3, m4, k1, k2]; try (revert h; intro _)))
    | (with_reducible refine Cond_split (fun h => ?_) (fun h => ?_) <;> (simp -implicitDefEqProofs -proj only [go_sem, Nat.reduceBEq, Nat.reduceLT, Nat.reduceLeDiff, Nat.reduceAdd, Nat.reduceMul, ↓reduceIte, Int.reduceToNat, Int.reducePow, Int.reduceLT, Int.reduceLE, Int.reduceAdd, Int.reduceSub, Int.reduceMul, Int.reduceEq, Int.reduceNe, h, h1, h2, h3, h3', n1, n2, n3, n4, c0, hw, m1, m2, m3, m4, k1, k2]; try (revert h; intro _)))
    | (with_reducible refine Pick_split (fun h => ?_) (fun h => ?_) <;> (simp -implicitDefEqProofs -proj only [go_sem, Nat.reduceBEq, Nat.reduceLT, Nat.reduceLeDiff, Nat.reduceAdd, Nat.reduceMul, ↓reduceIte, Int.reduceToNat, Int.reducePow, Int.reduceLT, Int.reduceLE, Int.reduceAdd, Int.reduceSub, Int.reduceMul, Int.reduceEq, Int.reduceNe, h, h1, h2, h3, h3', n1, n2, n3, n4, c0, hw, m1, m2, m3, m4, k1, k2]; try (revert h; intro _)))
    | (with_reducible refine AllocA_intro (fun _ hb => ?_); simp -implicitDefEqProofs only [upd_none, keepH_none, keepH_nil, Heap.none_get, and_true, true_and] at hb; simp -implicitDefEqProofs -proj only [go_sem, Nat.reduceBEq, Nat.reduceLT, Nat.reduceLeDiff, Nat.reduceAdd, Nat.reduceMul, ↓reduceIte, Int.reduceToNat, Int.reducePow, Int.reduceLT, Int.reduceLE, Int.reduceAdd, Int.reduceSub, Int.reduceMul, Int.reduceEq, Int.reduceNe, h1, h2, h3, h3', n1, n2, n3, n4, c0, hw, m1, m2, m3, m4, k1, k2]; try (revert hb; intro _))
    | (with_reducible refine AllocR_intro (fun _ hb => ?_); simp -implicitDefEqProofs only [upd_none, keepH_none, keepH_nil, Heap.none_get, and_true, true_and] at hb; simp -implicitDefEqProofs -proj only [go_sem, Nat.reduceBEq, Nat.reduceLT, Nat.reduceLeDiff, Nat.reduceAdd, Nat.reduceMul, ↓reduceIte, Int.reduceToNat, Int.reducePow, Int.reduceLT, Int.reduceLE, Int.reduceAdd, Int.reduceSub, Int.reduceMul, Int.reduceEq, Int.reduceNe, h1, h2, h3, h3', n1, n2, n3, n4, c0, hw, m1, m2, m3, m4, k1, k2]; try (revert hb; intro _))
    | (with_reducible refine IdxE_1 _ rfl (by simp) ?_; simp -implicitDefEqProofs -proj only [go_sem, Nat.reduceBEq, Nat.reduceLT, Nat.reduceLeDiff, Nat.reduceAdd, Nat.reduceMul, ↓reduceIte, Int.reduceToNat, Int.reducePow, Int.reduceLT, Int.reduceLE, Int.reduceAdd, Int.reduceSub, Int.reduceMul, Int.reduceEq, Int.reduceNe, h1, h2, h3, h3', n1, n2, n3, n4, c0, hw, m1, m2, m3, m4, k1, k2])
    | (with_reducible refine IdxE_n _ rfl (by simp) ?_; simp -implicitDefEqProofs -proj only [go_sem, Nat.reduceBEq, Nat.reduceLT, Nat.reduceLeDiff, Nat.reduceAdd, Nat.reduceMul, ↓reduceIte, Int.reduceToNat, Int.reducePow, Int.reduceLT, Int.reduceLE, Int.reduceAdd, Int.reduceSub, Int.reduceMul, Int.reduceEq, Int.reduceNe, h1, h2, h3, h3', n1, n2, n3, n4, c0, hw, m1, m2, m3, m4, k1, k2])
    | (with_reducible refine VC_intro ?_ (fun h => ?_); (focus first | decide | omega); try clear h; try simp -implicitDefEqProofs -proj only [go_sem, Nat.reduceBEq, Nat.reduceLT, Nat.reduceLeDiff, Nat.reduceAdd, Nat.reduceMul, ↓reduceIte, Int.reduceToNat, Int.reducePow, Int.reduceLT, Int.reduceLE, Int.reduceAdd, Int.reduceSub, Int.reduceMul, Int.reduceEq, Int.reduceNe, h1, h2, h3, h3', n1, n2, n3, n4, c0, hw, m1, m2, m3, m4, k1, k2])
    | (with_reducible refine VC_intro ?_ (fun h => ?_); rotate_left; try clear h; try simp -implicitDefEqProofs -proj only [go_sem, Nat.reduceBEq, Nat.reduceLT, Nat.reduceLeDiff, Nat.reduceAdd, Nat.reduceMul, ↓reduceIte, Int.reduceToNat, Int.reducePow, Int.reduceLT, Int.reduceLE, Int.reduceAdd, Int.reduceSub, Int.reduceMul, Int.reduceEq, Int.reduceNe, h1, h2, h3, h3', n1, n2, n3, n4, c0, hw, m1, m2, m3, m4, k1, k2]; rotate_right))
      refine ⟨c', .inr ⟨by rw [hp]; simp, k1, cap', ?_, ?_⟩, fun k x hk1 hk2 hk => ?_⟩
      · simp -implicitDefEqProofs -proj only [go_sem, Nat.reduceBEq, Nat.reduceLT, Nat.reduceLeDiff, Nat.reduceAdd, Nat.reduceMul, ↓reduceIte, Int.reduceToNat, Int.reducePow, Int.reduceLT, Int.reduceLE, Int.reduceAdd, Int.reduceSub, Int.reduceMul, Int.reduceEq, Int.reduceNe, hp, List.length_append]
      · simp -implicitDefEqProofs -proj only [go_sem, Nat.reduceBEq, Nat.reduceLT, Nat.reduceLeDiff, Nat.reduceAdd, Nat.reduceMul, ↓reduceIte, Int.reduceToNat, Int.reducePow, Int.reduceLT, Int.reduceLE, Int.reduceAdd, Int.reduceSub, Int.reduceMul, Int.reduceEq, Int.reduceNe, k2, hp]
      · obtain ⟨p1, p2⟩ := fresh_ne hb hk
        obtain ⟨q1, q2⟩ := fresh_ne hs (by rw [upd_ne p1]; exact hk)
        have hk3 : ¬ c = k := fun e => hk2 h0 e.symm
        have hk4 : ¬ b = k := fun e => hk1 e.symm
        obtain ⟨r1, r2⟩ := fresh_ne hc' (by rw [upd_ne hk3, upd_ne q1, upd_ne p1]; exact hk)
        refine ⟨?_, r2⟩
        simp -implicitDefEqProofs -proj only [go_sem, Nat.reduceBEq, Nat.reduceLT, Nat.reduceLeDiff, Nat.reduceAdd, Nat.reduceMul, ↓reduceIte, Int.reduceToNat, Int.reducePow, Int.reduceLT, Int.reduceLE, Int.reduceAdd, Int.reduceSub, Int.reduceMul, Int.reduceEq, Int.reduceNe, p1, q1, r1, hk3, hk4, hk]
/-- What a round of a loop tells of a line's cells. -/
def LH (b c cap : Nat) (l : List Run) : List (Nat × Blk) := if l = [] then [(b, .box 52 [.nilsl 3])] else [(b, .box 52 [.own c 3 0 l.length cap]), (c, .row 62 3 cap (rowR l))]
theorem AllH_append {H : Heap} {xs ys : List (Nat × Blk)} : AllH H (xs ++ ys) ↔ AllH H xs ∧ AllH H ys := by
  induction xs with
  | nil => simp [AllH]
  | cons p xs ih => obtain ⟨b, x⟩ := p; simp -implicitDefEqProofs only [List.cons_append, AllH, ih, and_assoc]
theorem lineAt_LH {b c cap : Nat} {l : List Run} {rest : List (Nat × Blk)} (hc : l ≠ [] → c ≠ b) : LineAt (keepH (LH b c cap l ++ rest)) b c l := by
  unfold LH
  by_cases h : l = []
  · rw [if_pos h]
    exact .inl ⟨h, by rw [List.cons_append, keepH_cons, if_pos rfl]⟩
  · rw [if_neg h]
    refine .inr ⟨h, hc h, cap, ?_, ?_⟩
    · rw [List.cons_append, keepH_cons, if_pos rfl]
    · rw [List.cons_append, keepH_cons, if_neg (hc h), List.cons_append, keepH_cons, if_pos rfl]
theorem rest_LH {b c cap k : Nat} {l : List Run} {rest : List (Nat × Blk)} (hb : k ≠ b) (hc : l ≠ [] → k ≠ c) : keepH (LH b c cap l ++ rest) k = keepH rest k := by
  unfold LH
  by_cases h : l = []
  · rw [if_pos h, List.cons_append, keepH_cons, if_neg hb, List.nil_append]
  · rw [if_neg h, List.cons_append, keepH_cons, if_neg hb, List.cons_append, keepH_cons, if_neg (hc h), List.nil_append]
theorem allH_LH {H : Heap} {b c : Nat} {l : List Run} (h : LineAt H b c l) : ∃ cap, AllH H (LH b c cap l) ∧ (l ≠ [] → c ≠ b) := by
  rcases h with ⟨rfl, h1⟩ | ⟨h0, h3, cap, h1, h2⟩
  · exact ⟨0, ⟨h1, trivial⟩, fun h => absurd rfl h⟩
  · refine ⟨cap, ?_, fun _ => h3⟩
    unfold LH
    rw [if_neg h0]
    exact ⟨h1, h2, trivial⟩
/-- A line, as data. -/
abbrev lineV (l : List Run) : AV := .agg [.d (.sl 3 (rowR l))]
/-- A line's cell is read: what is there, and that it is the line. -/
theorem rowR_scal {l : List Run} : ∀ el ∈ rowR l, ∀ d ∈ el, scalD d = true := by
  intro el he d hd
  obtain ⟨r, _, rfl⟩ := List.mem_map.1 he
  simp -implicitDefEqProofs only [Run.el, List.mem_cons, List.not_mem_nil, or_false] at hd
  rcases hd with rfl | rfl | rfl <;> rfl
theorem new_own {H : Heap} {b sz cap cap' len : Nat} {e : TypeId} {xs : List (List D)} (h : H b = some (.row e sz cap' xs)) (hl : len = xs.length) (hs : ∀ el ∈ xs, ∀ d ∈ el, scalD d = true) : NewV H (.own b sz 0 len cap) (.d (.sl sz xs)) := by
  subst hl; exact .own b sz cap e cap' xs h hs
theorem LineAt.read {H : Heap} {b c : Nat} {l : List Run} (h : LineAt H b c l) : ∃ v, H b = some (.box 52 [v]) ∧ NewV H v (.d (.sl 3 (rowR l))) ∧ lenV v = some (i64 l.length) := by
  rcases h with ⟨rfl, h1⟩ | ⟨h0, h3, cap, h1, h2⟩
  · exact ⟨_, h1, .nilsl _ _, rfl⟩
  · exact ⟨_, h1, new_own h2 rowR_len.symm rowR_scal, rfl⟩
theorem LineAt.upd {H : Heap} {b c k : Nat} {l : List Run} {x : Option Blk} (h : LineAt H b c l) (hb : ¬ k = b) (hc : l ≠ [] → ¬ k = c) : LineAt (upd H k x) b c l := by
  rcases h with ⟨h0, h1⟩ | ⟨h0, h3, cap, h1, h2⟩
  · exact .inl ⟨h0, by rw [upd_ne hb]; exact h1⟩
  · exact .inr ⟨h0, h3, cap, by rw [upd_ne hb]; exact h1, by rw [upd_ne (hc h0)]; exact h2⟩
/-- The runs of a list's first so many values. -/
def runsN (from' : Int) (l : List Int) : Nat → List Run
  | 0 => []
  | i + 1 => putR (runsN from' l i) ⟨from' + i, from' + i, l.getD i 0⟩
abbrev runs (from' : Int) (l : List Int) : List Run := runsN from' l l.length
theorem putR_ne {l : List Run} {r : Run} : putR l r ≠ [] := by
  unfold putR
  split
  · split <;> simp
  · simp
theorem putR_len {l : List Run} {r : Run} : (putR l r).length ≤ l.length + 1 := by
  unfold putR
  split
  · split
    · simp -implicitDefEqProofs only [List.length_append, List.length_dropLast, List.length_singleton]; omega
    · simp
  · simp
theorem runsN_len {from' : Int} {l : List Int} : ∀ i : Nat, (runsN from' l i).length ≤ i
  | 0 => Nat.le_refl _
  | i + 1 => by
    have := @putR_len (runsN from' l i) ⟨from' + i, from' + i, l.getD i 0⟩
    have := runsN_len (from' := from') (l := l) i
    rw [runsN]; omega
theorem lend_agg1 {H : Heap} {x y : AV} (h : NewV H x y) : NewV H (.agg [x]) (.agg [y]) := by
  refine .agg _ _ rfl fun j u v h1 h2 => ?_
  cases j with
  | zero => cases h1; cases h2; exact h
  | succ j => cases h1
structure LoopX where
  i : Nat
  c : Nat
  cap : Nat
  l : List Run
theorem Of_new {from' : Int} {l : List Int} (hf : -1099511627776 ≤ from' ∧ from' ≤ 1099511627776) (hn : l.length ≤ 999999) : NewW Try.prog f_line_Of_int [i64 from', slI l] (lineV (runs from' l)) := by
  refine CallW_intro comp_line_Of_int (by simp) ?_
  simp -implicitDefEqProofs -proj only [go_sem, Nat.reduceBEq, Nat.reduceLT, Nat.reduceLeDiff, Nat.reduceAdd, Nat.reduceMul, ↓reduceIte, Int.reduceToNat, Int.reducePow, Int.reduceLT, Int.reduceLE, Int.reduceAdd, Int.reduceSub, Int.reduceMul, Int.reduceEq, Int.reduceNe, rowI_len]
  refine AllocA_intro (fun b4 hb => ?_)
  simp -implicitDefEqProofs -proj only [go_sem, Nat.reduceBEq, Nat.reduceLT, Nat.reduceLeDiff, Nat.reduceAdd, Nat.reduceMul, ↓reduceIte, Int.reduceToNat, Int.reducePow, Int.reduceLT, Int.reduceLE, Int.reduceAdd, Int.reduceSub, Int.reduceMul, Int.reduceEq, Int.reduceNe, rowI_len]
  refine AllocA_intro (fun b5 hb5 => ?_)
  replace hb5 : upd Heap.none b4 _ b5 = none := hb5
  obtain ⟨n1, n2⟩ := fresh_ne hb5 upd_eq
  simp -implicitDefEqProofs -proj only [go_sem, Nat.reduceBEq, Nat.reduceLT, Nat.reduceLeDiff, Nat.reduceAdd, Nat.reduceMul, ↓reduceIte, Int.reduceToNat, Int.reducePow, Int.reduceLT, Int.reduceLE, Int.reduceAdd, Int.reduceSub, Int.reduceMul, Int.reduceEq, Int.reduceNe, rowI_len, n1, n2]
  refine LoopA_k (fun x : LoopX => x.i ≤ l.length ∧ x.l = runsN from' l x.i ∧ (x.l ≠ [] → x.c ≠ b5 ∧ x.c ≠ b4)) 26 (fun x => [(8, slI l), (9, i64 l.length), (10, i64 x.i), (5, .ptr b5 0), (4, .ptr b4 0), (0, i64 from')]) (fun x => LH b5 x.c x.cap x.l ++ [(b4, .box 52 [.nilsl 3])]) (fun x => l.length - x.i) ⟨0, 0, 0, []⟩ ⟨Nat.zero_le _, rfl, fun h => absurd rfl h⟩ rfl ?_ ?_ ?_
  · simp -implicitDefEqProofs -proj only [go_sem, Nat.reduceBEq, Nat.reduceLT, Nat.reduceLeDiff, Nat.reduceAdd, Nat.reduceMul, ↓reduceIte, Int.reduceToNat, Int.reducePow, Int.reduceLT, Int.reduceLE, Int.reduceAdd, Int.reduceSub, Int.reduceMul, Int.reduceEq, Int.reduceNe, AllAt]
  · simp -implicitDefEqProofs -proj only [go_sem, Nat.reduceBEq, Nat.reduceLT, Nat.reduceLeDiff, Nat.reduceAdd, Nat.reduceMul, ↓reduceIte, Int.reduceToNat, Int.reducePow, Int.reduceLT, Int.reduceLE, Int.reduceAdd, Int.reduceSub, Int.reduceMul, Int.reduceEq, Int.reduceNe, AllH, AllH_append, LH, n1, n2]
  · rintro ⟨i, c, cap, R⟩ ⟨hi, hR, hc⟩
    simp -implicitDefEqProofs only [] at hi hR hc
    have hat := lineAt_LH (b := b5) (c := c) (cap := cap) (l := R) (rest := [(b4, .box 52 [.nilsl 3])]) (fun h => (hc h).1)
    have h4 : keepH (LH b5 c cap R ++ [(b4, .box 52 [.nilsl 3])]) b4 = some (.box 52 [.nilsl 3]) := by
      rw [rest_LH n2 (fun h e => (hc h).2 e.symm), keepH_cons, if_pos rfl]
    generalize hH : keepH (LH b5 c cap R ++ [(b4, .box 52 [.nilsl 3])]) = H at *
    by_cases h : i < l.length
    · have hel := rowI_nth h
      have hx : l.getD i 0 = l[i] := by simp [h]
      generalize l[i] = x at *
      have hw : IntKind.i64.wrap (from' + i) = from' + i := by rw [IntKind.wrap_i64]; omega
      simp -implicitDefEqProofs -proj only [go_sem, Nat.reduceBEq, Nat.reduceLT, Nat.reduceLeDiff, Nat.reduceAdd, Nat.reduceMul, ↓reduceIte, Int.reduceToNat, Int.reducePow, Int.reduceLT, Int.reduceLE, Int.reduceAdd, Int.reduceSub, Int.reduceMul, Int.reduceEq, Int.reduceNe, decide_eq_true (show (i : Int) < l.length by omega)]
      refine ElemA_at _ (by omega) hel ?_
      simp -implicitDefEqProofs -proj only [go_sem, Nat.reduceBEq, Nat.reduceLT, Nat.reduceLeDiff, Nat.reduceAdd, Nat.reduceMul, ↓reduceIte, Int.reduceToNat, Int.reducePow, Int.reduceLT, Int.reduceLE, Int.reduceAdd, Int.reduceSub, Int.reduceMul, Int.reduceEq, Int.reduceNe, hel, hw]
      have hput := put_ok (r := ⟨from' + i, from' + i, x⟩) hat (by have := runsN_len (from' := from') (l := l) i; rw [← hR] at this; omega)
      refine CallA_w hput (fun r H' hk => ?_)
      obtain ⟨c', hat', hfr⟩ := hk
      obtain ⟨g1, g2⟩ := hfr b4 _ n2 (fun h e => (hc h).2 e.symm) h4
      obtain ⟨cap', ha, hc'⟩ := allH_LH hat'
      have hR' : putR R ⟨from' + i, from' + i, x⟩ = runsN from' l (i + 1) := by rw [runsN, hx, hR]
      simp -implicitDefEqProofs -proj only [go_sem, Nat.reduceBEq, Nat.reduceLT, Nat.reduceLeDiff, Nat.reduceAdd, Nat.reduceMul, ↓reduceIte, Int.reduceToNat, Int.reducePow, Int.reduceLT, Int.reduceLE, Int.reduceAdd, Int.reduceSub, Int.reduceMul, Int.reduceEq, Int.reduceNe]
      refine LoopQ_k ⟨i + 1, c', cap', putR R ⟨from' + i, from' + i, x⟩⟩ ⟨by show i + 1 ≤ l.length; omega, hR', fun h => ⟨hc' h, fun e => g2 e.symm⟩⟩ (by show l.length - (i + 1) < l.length - i; omega) rfl ?_ ?_
      · simp -implicitDefEqProofs -proj only [go_sem, Nat.reduceBEq, Nat.reduceLT, Nat.reduceLeDiff, Nat.reduceAdd, Nat.reduceMul, ↓reduceIte, Int.reduceToNat, Int.reducePow, Int.reduceLT, Int.reduceLE, Int.reduceAdd, Int.reduceSub, Int.reduceMul, Int.reduceEq, Int.reduceNe, AllAt, i64_succ (show i < 9223372036854775807 by omega)]
      · rw [AllH_append]
        exact ⟨ha, g1, trivial⟩
    · have hi' : i = l.length := by omega
      subst hi'
      obtain ⟨v, hv, hl, _⟩ := hat.read
      simp -implicitDefEqProofs -proj only [go_sem, Nat.reduceBEq, Nat.reduceLT, Nat.reduceLeDiff, Nat.reduceAdd, Nat.reduceMul, ↓reduceIte, Int.reduceToNat, Int.reducePow, Int.reduceLT, Int.reduceLE, Int.reduceAdd, Int.reduceSub, Int.reduceMul, Int.reduceEq, Int.reduceNe, decide_eq_false (show ¬ (l.length : Int) < l.length by omega), hv, h4]
      obtain ⟨v2, hv2, hl2, _⟩ := (hat.upd (k := b4) (x := some (.box 52 [v])) n2 (fun h e => (hc h).2 e.symm)).read
      rw [upd_ne n2, hv] at hv2
      cases hv2
      rw [show runs from' l = R from hR.symm]
      exact lend_agg1 hl2
theorem Of_ok {from' : Int} {l : List Int} (hf : -1099511627776 ≤ from' ∧ from' ≤ 1099511627776) (hn : l.length ≤ 999999) : DataW Try.prog f_line_Of_int [i64 from', slI l] (lineV (runs from' l)) := (Of_new hf hn).data
end Go.Proofs.Ythamjpioodlckaa.Abs
