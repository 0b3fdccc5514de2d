/- Contracts of the package line, of lines of sets (printed by ugen.py). No claim stands here. -/
import Derived.Test.YtmkennmppdmnhaaKZipT
set_option linter.unusedSimpArgs false
set_option linter.unusedVariables false
namespace Go.Proofs.Ytmkennmppdmnhaa.Abs
open Go Go.RowKit Go.Proofs
attribute [local go_sem] RunC_seq AF_n AF_r AF_b St_n St_t St_H Fst_mk Snd_mk RunC_ops RunC_cond RunC_block RunC_loop RunC_exit RunC_ret RunC_skip RunO_nil RunO_code RunO_code_ret RunO_code_exit RunO_blk RunO_blk_ret RunO_blk_exit RunL_nil RunL_guard GuardA_tt GuardA_ff GuardA_tf GuardA_ft GuardA_void CondA_t CondA_f PickA_t PickA_f RunL_mov RunL_pick RunL_alloc RunL_box RunL_load LoadA_ptr LoadB_1 LoadB_n LoadA_dptr LoadA_dptr_n RunL_store StoreA_ptr StoreB_box RunL_bin Bin_add Bin_sub Bin_mul Bin_quo Bin_rem Bin_shl Bin_shr Bin_andI Bin_orI Bin_xorI Bin_eql Bin_neq Bin_lss Bin_leq Bin_gtr Bin_geq RunL_binb Bin_beql Bin_bneq RunL_un UnA_not UnA_neg RunL_conv convV MapA_some RunL_nilCheck nilV RunL_mkfn RunL_fieldAddr faV RunL_field FieldA_1 FieldA_n RunL_elemAddr EAddrA_sl EAddrA_own EptrA_eq RunL_build BuildA_some RunL_extract ExtA_eq RunL_len lenV_sl lenV_nilsl lenV_own RunL_slen RunL_idxStr IdxSA_eq slenV RunL_minmax mmV minmaxL RunL_call RunL_callv CallvA_fn putS ev evL evO evP eqK eqKs EqB_agg RunL_eqAgg EqA_t EqA_f evQ buildC fits_agg cellsAV_agg fits_d cellsAV_d fits_nilp cellsAV_nilp fits_nilsl cellsAV_nilsl fits_nilfn cellsAV_nilfn fits_ptr cellsAV_ptr fits_eptr cellsAV_eptr fits_dptr cellsAV_dptr fits_own cellsAV_own fits_fn cellsAV_fn rowV_fits rowV_cells rowV_len lenAV setSeg nth seg mapD repeatL putT_get upd_get argT keepT_cons keepT_nil keepH_cons keepH_nil cond_true cond_false VC_true finW resW resL resOne LoopQ_exit LoopQ_ret List.cons_append List.nil_append Bool.not_true Bool.not_false Bool.and_true Bool.and_self Nat.lt_add_left_iff_pos Nat.zero_add Nat.add_zero List.drop_succ_cons List.drop_zero List.take_succ_cons List.take_zero beq_self_eq_true Bool.false_eq_true RunC_dops RunL_loadS RunL_loadD LoadDA_dptr RunL_storeS StoreSA_ptr RunL_pcall RunL_pcallv PCallvA_fn newsOk and_self and_true true_and loadW_ptr LoadK_1 LoadK_n upd_upd RunL_buildSlice BSliceA_some RunL_buildSliceD frzL frz cutL LoadA_eptr LoadE_row RunL_append RunL_slice SliceA_sl StoreA_eptr List.length_cons List.length_nil Nat.min_def Int.cast_ofNat_Int Int.natCast_zero Int.natCast_one decide_true decide_false List.getElem?_cons_zero List.getElem?_cons_succ RunC_rangef CallvA_yld putL_nil putL_cons RangeQ_exit RangeQ_ret
def optU : Option Int → AV
  | some n => .tup [u64 n, bv true]
  | none => .tup [u64 0, bv false]
theorem new_ownU {H : Heap} {b sz cap cap' len : Nat} {e : TypeId} {xs : List (List D)} (h : H b = some (.row e sz cap' xs)) (hl : len = xs.length) (hs : ∀ el ∈ xs, ∀ d ∈ el, scalD d = true) : NewV H (.own b sz 0 len cap) (.d (.sl sz xs)) := by
  subst hl; exact .own b sz cap e cap' xs h hs
theorem lend_agg1U {H : Heap} {x y : AV} (h : NewV H x y) : NewV H (.agg [x]) (.agg [y]) := by
  refine .agg _ _ rfl fun j u v h1 h2 => ?_
  cases j with
  | zero => cases h1; cases h2; exact h
  | succ j => cases h1
def Run.elU (r : Run) : List D := [.int .i64 r.f, .int .i64 r.t, .int .u64 r.v]
abbrev Run.avU (r : Run) : AV := .agg [i64 r.f, i64 r.t, u64 r.v]
def rowU (l : List Run) : List (List D) := l.map Run.elU
theorem rowU_len {l : List Run} : (rowU l).length = l.length := List.length_map ..
theorem rowU_nth {l : List Run} {i : Nat} (h : i < l.length) : (rowU l)[i]? = some (Run.elU l[i]) := by simp [rowU, h]
theorem rowU_set {l : List Run} {i : Nat} {r : Run} : (rowU l).set i r.elU = rowU (l.set i r) := by simp [rowU, List.map_set]
theorem rowU_snoc {l : List Run} {r : Run} : rowU l ++ [r.elU] = rowU (l ++ [r]) := by simp [rowU]
def LineAtU (H : Heap) (b : Nat) (c : Nat) (l : List Run) : Prop :=
  l = [] ∧ H b = some (.box 31 [.nilsl 3]) ∨ l ≠ [] ∧ c ≠ b ∧ ∃ cap, H b = some (.box 31 [.own c 3 0 l.length cap]) ∧ H c = some (.row 55 3 cap (rowU l))
def PutKU (b c : Nat) (l0 l : List Run) (H : Heap) (H' : Heap) : Prop := ∃ c', LineAtU H' b c' l ∧ (∀ k x, k ≠ b → (l0 ≠ [] → k ≠ c) → H k = some x → H' k = some x ∧ k ≠ c')
theorem putU_ok {H : Heap} {b c : Nat} {l : List Run} {r : Run} (h : LineAtU H b c l) (hl : l.length ≤ 1000000) : CallW Try.prog f_line_Line_days_Set_put [.ptr b 0, r.avU] H fun _ H' => PutKU b c l (putR l r) H H' := by
  rcases h with ⟨rfl, h1⟩ | ⟨h0, h3, cap, h1, h2⟩
  · refine CallW_intro comp_line_Line_days_Set_put (by simp) ?_
    simp -implicitDefEqProofs -proj only [go_sem, Nat.reduceBEq, Nat.reduceLT, Nat.reduceLeDiff, Nat.reduceAdd, Nat.reduceMul, ↓reduceIte, Int.reduceToNat, Int.reducePow, Int.reduceLT, Int.reduceLE, Int.reduceAdd, Int.reduceSub, Int.reduceMul, Int.reduceEq, Int.reduceNe, h1]
    refine AllocA_intro (fun b3 hb => ?_)
    replace hb : H b3 = none := hb
    obtain ⟨n1, n2⟩ := fresh_ne hb h1
    simp -implicitDefEqProofs -proj only [go_sem, Nat.reduceBEq, Nat.reduceLT, Nat.reduceLeDiff, Nat.reduceAdd, Nat.reduceMul, ↓reduceIte, Int.reduceToNat, Int.reducePow, Int.reduceLT, Int.reduceLE, Int.reduceAdd, Int.reduceSub, Int.reduceMul, Int.reduceEq, Int.reduceNe, h1, n1, n2]
    (repeat' first
    | (with_reducible refine Guard_split (fun h => ?_) (fun h => ?_) <;> (simp -implicitDefEqProofs -proj only [go_sem, Nat.reduceBEq, Nat.reduceLT, Nat.reduceLeDiff, Nat.reduceAdd, Nat.reduceMul, ↓reduceIte, Int.reduceToNat, Int.reducePow, Int.reduceLT, Int.reduceLE, Int.reduceAdd, Int.reduceSub, Int.reduceMul, Int.reduceEq, Int.reduceNe, h, h1, n1, n2]; try (revert h; intro _)))
    | (with_reducible refine Cond_split (fun h => ?_) (fun h => ?_) <;> (simp -implicitDefEqProofs -proj only [go_sem, Nat.reduceBEq, Nat.reduceLT, Nat.reduceLeDiff, Nat.reduceAdd, Nat.reduceMul, ↓reduceIte, Int.reduceToNat, Int.reducePow, Int.reduceLT, Int.reduceLE, Int.reduceAdd, Int.reduceSub, Int.reduceMul, Int.reduceEq, Int.reduceNe, h, h1, n1, n2]; try (revert h; intro _)))
    | (with_reducible refine Pick_split (fun h => ?_) (fun h => ?_) <;> (simp -implicitDefEqProofs -proj only [go_sem, Nat.reduceBEq, Nat.reduceLT, Nat.reduceLeDiff, Nat.reduceAdd, Nat.reduceMul, ↓reduceIte, Int.reduceToNat, Int.reducePow, Int.reduceLT, Int.reduceLE, Int.reduceAdd, Int.reduceSub, Int.reduceMul, Int.reduceEq, Int.reduceNe, h, h1, n1, n2]; try (revert h; intro _)))
    | (with_reducible refine AllocA_intro (fun _ hb => ?_); simp -implicitDefEqProofs only [upd_none, keepH_none, keepH_nil, Heap.none_get, and_true, true_and] at hb; simp -implicitDefEqProofs -proj only [go_sem, Nat.reduceBEq, Nat.reduceLT, Nat.reduceLeDiff, Nat.reduceAdd, Nat.reduceMul, ↓reduceIte, Int.reduceToNat, Int.reducePow, Int.reduceLT, Int.reduceLE, Int.reduceAdd, Int.reduceSub, Int.reduceMul, Int.reduceEq, Int.reduceNe, h1, n1, n2]; try (revert hb; intro _))
    | (with_reducible refine AllocR_intro (fun _ hb => ?_); simp -implicitDefEqProofs only [upd_none, keepH_none, keepH_nil, Heap.none_get, and_true, true_and] at hb; simp -implicitDefEqProofs -proj only [go_sem, Nat.reduceBEq, Nat.reduceLT, Nat.reduceLeDiff, Nat.reduceAdd, Nat.reduceMul, ↓reduceIte, Int.reduceToNat, Int.reducePow, Int.reduceLT, Int.reduceLE, Int.reduceAdd, Int.reduceSub, Int.reduceMul, Int.reduceEq, Int.reduceNe, h1, n1, n2]; try (revert hb; intro _))
    | (with_reducible refine IdxE_1 _ rfl (by simp) ?_; simp -implicitDefEqProofs -proj only [go_sem, Nat.reduceBEq, Nat.reduceLT, Nat.reduceLeDiff, Nat.reduceAdd, Nat.reduceMul, ↓reduceIte, Int.reduceToNat, Int.reducePow, Int.reduceLT, Int.reduceLE, Int.reduceAdd, Int.reduceSub, Int.reduceMul, Int.reduceEq, Int.reduceNe, h1, n1, n2])
    | (with_reducible refine IdxE_n _ rfl (by simp) ?_; simp -implicitDefEqProofs -proj only [go_sem, Nat.reduceBEq, Nat.reduceLT, Nat.reduceLeDiff, Nat.reduceAdd, Nat.reduceMul, ↓reduceIte, Int.reduceToNat, Int.reducePow, Int.reduceLT, Int.reduceLE, Int.reduceAdd, Int.reduceSub, Int.reduceMul, Int.reduceEq, Int.reduceNe, h1, n1, n2])
    | (with_reducible refine VC_intro ?_ (fun h => ?_); (focus first | decide | omega); try clear h; try simp -implicitDefEqProofs -proj only [go_sem, Nat.reduceBEq, Nat.reduceLT, Nat.reduceLeDiff, Nat.reduceAdd, Nat.reduceMul, ↓reduceIte, Int.reduceToNat, Int.reducePow, Int.reduceLT, Int.reduceLE, Int.reduceAdd, Int.reduceSub, Int.reduceMul, Int.reduceEq, Int.reduceNe, h1, n1, n2])
    | (with_reducible refine VC_intro ?_ (fun h => ?_); rotate_left; try clear h; try simp -implicitDefEqProofs -proj only [go_sem, Nat.reduceBEq, Nat.reduceLT, Nat.reduceLeDiff, Nat.reduceAdd, Nat.reduceMul, ↓reduceIte, Int.reduceToNat, Int.reducePow, Int.reduceLT, Int.reduceLE, Int.reduceAdd, Int.reduceSub, Int.reduceMul, Int.reduceEq, Int.reduceNe, h1, n1, n2]; rotate_right))
    refine BSliceD_intro (ds := r.elU) rfl (fun bs hs => ?_)
    replace hs : upd H b3 _ bs = none := hs
    rw [show cutL 3 1 r.elU = [r.elU] from rfl]
    obtain ⟨m1, m2⟩ := fresh_ne hs (by rw [upd_ne n1]; exact h1)
    simp -implicitDefEqProofs -proj only [go_sem, Nat.reduceBEq, Nat.reduceLT, Nat.reduceLeDiff, Nat.reduceAdd, Nat.reduceMul, ↓reduceIte, Int.reduceToNat, Int.reducePow, Int.reduceLT, Int.reduceLE, Int.reduceAdd, Int.reduceSub, Int.reduceMul, Int.reduceEq, Int.reduceNe, h1, n1, n2, m1, m2]
    refine AppendA_nil1 (ys := [r.elU]) (t := 55) (capc := 1) (by simp -implicitDefEqProofs -proj only [go_sem, Nat.reduceBEq, Nat.reduceLT, Nat.reduceLeDiff, Nat.reduceAdd, Nat.reduceMul, ↓reduceIte, Int.reduceToNat, Int.reducePow, Int.reduceLT, Int.reduceLE, Int.reduceAdd, Int.reduceSub, Int.reduceMul, Int.reduceEq, Int.reduceNe]) rfl (by simp) rfl (by simp [maxLen]) (fun c' hc' cap => ?_)
    replace hc' : upd (upd H b3 _) bs _ c' = none := hc'
    obtain ⟨k1, k2⟩ := fresh_ne hc' (by rw [upd_ne m1, upd_ne n1]; exact h1)
    simp -implicitDefEqProofs -proj only [go_sem, Nat.reduceBEq, Nat.reduceLT, Nat.reduceLeDiff, Nat.reduceAdd, Nat.reduceMul, ↓reduceIte, Int.reduceToNat, Int.reducePow, Int.reduceLT, Int.reduceLE, Int.reduceAdd, Int.reduceSub, Int.reduceMul, Int.reduceEq, Int.reduceNe, h1, n1, n2, m1, m2, k1, k2]
    (repeat' first
    | (with_reducible refine Guard_split (fun h => ?_) (fun h => ?_) <;> (simp -implicitDefEqProofs -proj only [go_sem, Nat.reduceBEq, Nat.reduceLT, Nat.reduceLeDiff, Nat.reduceAdd, Nat.reduceMul, ↓reduceIte, Int.reduceToNat, Int.reducePow, Int.reduceLT, Int.reduceLE, Int.reduceAdd, Int.reduceSub, Int.reduceMul, Int.reduceEq, Int.reduceNe, h, h1, n1, n2, m1, m2, k1, k2]; try (revert h; intro _)))
    | (with_reducible refine Cond_split (fun h => ?_) (fun h => ?_) <;> (simp -implicitDefEqProofs -proj only [go_sem, Nat.reduceBEq, Nat.reduceLT, Nat.reduceLeDiff, Nat.reduceAdd, Nat.reduceMul, ↓reduceIte, Int.reduceToNat, Int.reducePow, Int.reduceLT, Int.reduceLE, Int.reduceAdd, Int.reduceSub, Int.reduceMul, Int.reduceEq, Int.reduceNe, h, h1, n1, n2, m1, m2, k1, k2]; try (revert h; intro _)))
    | (with_reducible refine Pick_split (fun h => ?_) (fun h => ?_) <;> (simp -implicitDefEqProofs -proj only [go_sem, Nat.reduceBEq, Nat.reduceLT, Nat.reduceLeDiff, Nat.reduceAdd, Nat.reduceMul, ↓reduceIte, Int.reduceToNat, Int.reducePow, Int.reduceLT, Int.reduceLE, Int.reduceAdd, Int.reduceSub, Int.reduceMul, Int.reduceEq, Int.reduceNe, h, h1, n1, n2, m1, m2, k1, k2]; try (revert h; intro _)))
    | (with_reducible refine AllocA_intro (fun _ hb => ?_); simp -implicitDefEqProofs only [upd_none, keepH_none, keepH_nil, Heap.none_get, and_true, true_and] at hb; simp -implicitDefEqProofs -proj only [go_sem, Nat.reduceBEq, Nat.reduceLT, Nat.reduceLeDiff, Nat.reduceAdd, Nat.reduceMul, ↓reduceIte, Int.reduceToNat, Int.reducePow, Int.reduceLT, Int.reduceLE, Int.reduceAdd, Int.reduceSub, Int.reduceMul, Int.reduceEq, Int.reduceNe, h1, n1, n2, m1, m2, k1, k2]; try (revert hb; intro _))
    | (with_reducible refine AllocR_intro (fun _ hb => ?_); simp -implicitDefEqProofs only [upd_none, keepH_none, keepH_nil, Heap.none_get, and_true, true_and] at hb; simp -implicitDefEqProofs -proj only [go_sem, Nat.reduceBEq, Nat.reduceLT, Nat.reduceLeDiff, Nat.reduceAdd, Nat.reduceMul, ↓reduceIte, Int.reduceToNat, Int.reducePow, Int.reduceLT, Int.reduceLE, Int.reduceAdd, Int.reduceSub, Int.reduceMul, Int.reduceEq, Int.reduceNe, h1, n1, n2, m1, m2, k1, k2]; try (revert hb; intro _))
    | (with_reducible refine IdxE_1 _ rfl (by simp) ?_; simp -implicitDefEqProofs -proj only [go_sem, Nat.reduceBEq, Nat.reduceLT, Nat.reduceLeDiff, Nat.reduceAdd, Nat.reduceMul, ↓reduceIte, Int.reduceToNat, Int.reducePow, Int.reduceLT, Int.reduceLE, Int.reduceAdd, Int.reduceSub, Int.reduceMul, Int.reduceEq, Int.reduceNe, h1, n1, n2, m1, m2, k1, k2])
    | (with_reducible refine IdxE_n _ rfl (by simp) ?_; simp -implicitDefEqProofs -proj only [go_sem, Nat.reduceBEq, Nat.reduceLT, Nat.reduceLeDiff, Nat.reduceAdd, Nat.reduceMul, ↓reduceIte, Int.reduceToNat, Int.reducePow, Int.reduceLT, Int.reduceLE, Int.reduceAdd, Int.reduceSub, Int.reduceMul, Int.reduceEq, Int.reduceNe, h1, n1, n2, m1, m2, k1, k2])
    | (with_reducible refine VC_intro ?_ (fun h => ?_); (focus first | decide | omega); try clear h; try simp -implicitDefEqProofs -proj only [go_sem, Nat.reduceBEq, Nat.reduceLT, Nat.reduceLeDiff, Nat.reduceAdd, Nat.reduceMul, ↓reduceIte, Int.reduceToNat, Int.reducePow, Int.reduceLT, Int.reduceLE, Int.reduceAdd, Int.reduceSub, Int.reduceMul, Int.reduceEq, Int.reduceNe, h1, n1, n2, m1, m2, k1, k2])
    | (with_reducible refine VC_intro ?_ (fun h => ?_); rotate_left; try clear h; try simp -implicitDefEqProofs -proj only [go_sem, Nat.reduceBEq, Nat.reduceLT, Nat.reduceLeDiff, Nat.reduceAdd, Nat.reduceMul, ↓reduceIte, Int.reduceToNat, Int.reducePow, Int.reduceLT, Int.reduceLE, Int.reduceAdd, Int.reduceSub, Int.reduceMul, Int.reduceEq, Int.reduceNe, h1, n1, n2, m1, m2, k1, k2]; rotate_right))
    refine ⟨c', .inr ⟨by simp [putR], k1, cap, ?_, ?_⟩, fun k x hk1 hk2 hk => ?_⟩
    · simp -implicitDefEqProofs -proj only [go_sem, Nat.reduceBEq, Nat.reduceLT, Nat.reduceLeDiff, Nat.reduceAdd, Nat.reduceMul, ↓reduceIte, Int.reduceToNat, Int.reducePow, Int.reduceLT, Int.reduceLE, Int.reduceAdd, Int.reduceSub, Int.reduceMul, Int.reduceEq, Int.reduceNe, putR]
      rfl
    · simp -implicitDefEqProofs -proj only [go_sem, Nat.reduceBEq, Nat.reduceLT, Nat.reduceLeDiff, Nat.reduceAdd, Nat.reduceMul, ↓reduceIte, Int.reduceToNat, Int.reducePow, Int.reduceLT, Int.reduceLE, Int.reduceAdd, Int.reduceSub, Int.reduceMul, Int.reduceEq, Int.reduceNe, k2]
      rfl
    · obtain ⟨p1, p2⟩ := fresh_ne hb hk
      obtain ⟨q1, q2⟩ := fresh_ne hs (by rw [upd_ne p1]; exact hk)
      obtain ⟨r1, r2⟩ := fresh_ne hc' (by rw [upd_ne q1, upd_ne p1]; exact hk)
      refine ⟨?_, r2⟩
      have hk3 : ¬ b = k := fun e => hk1 e.symm
      simp -implicitDefEqProofs -proj only [go_sem, Nat.reduceBEq, Nat.reduceLT, Nat.reduceLeDiff, Nat.reduceAdd, Nat.reduceMul, ↓reduceIte, Int.reduceToNat, Int.reducePow, Int.reduceLT, Int.reduceLE, Int.reduceAdd, Int.reduceSub, Int.reduceMul, Int.reduceEq, Int.reduceNe, p1, q1, r1, hk, hk3]
  · obtain ⟨q, hq⟩ : ∃ q, l.getLast? = some q := by
      cases hh : l.getLast? with
      | none => exact absurd (List.getLast?_eq_none_iff.1 hh) h0
      | some q => exact ⟨q, rfl⟩
    have hlen : 0 < l.length := List.length_pos_iff.2 h0
    have hq2 : l[l.length - 1]? = some q := by rw [← List.getLast?_eq_getElem?]; exact hq
    have hw : IntKind.i64.wrap ((l.length : Int) - 1) = ((l.length - 1 : Nat) : Int) := by rw [IntKind.wrap_i64]; omega
    have hrow : (rowU l)[l.length - 1]? = some [.int .i64 q.f, .int .i64 q.t, .int .u64 q.v] := by simp [rowU, hq2, Run.elU]
    have h3' : ¬ b = c := fun e => h3 e.symm
    refine CallW_intro comp_line_Line_days_Set_put (by simp) ?_
    simp -implicitDefEqProofs -proj only [go_sem, Nat.reduceBEq, Nat.reduceLT, Nat.reduceLeDiff, Nat.reduceAdd, Nat.reduceMul, ↓reduceIte, Int.reduceToNat, Int.reducePow, Int.reduceLT, Int.reduceLE, Int.reduceAdd, Int.reduceSub, Int.reduceMul, Int.reduceEq, Int.reduceNe, h1]
    refine AllocA_intro (fun b3 hb => ?_)
    replace hb : H b3 = none := hb
    obtain ⟨n1, n2⟩ := fresh_ne hb h1
    obtain ⟨n3, n4⟩ := fresh_ne hb h2
    have c0 : decide (0 < (l.length : Int)) = true := decide_eq_true (by omega)
    simp -implicitDefEqProofs -proj only [go_sem, Nat.reduceBEq, Nat.reduceLT, Nat.reduceLeDiff, Nat.reduceAdd, Nat.reduceMul, ↓reduceIte, Int.reduceToNat, Int.reducePow, Int.reduceLT, Int.reduceLE, Int.reduceAdd, Int.reduceSub, Int.reduceMul, Int.reduceEq, Int.reduceNe, h1, h2, h3, h3', n1, n2, n3, n4, c0, hw]
    (repeat' first
    | (with_reducible refine Guard_split (fun h => ?_) (fun h => ?_) <;> (simp -implicitDefEqProofs -proj only [go_sem, Nat.reduceBEq, Nat.reduceLT, Nat.reduceLeDiff, Nat.reduceAdd, Nat.reduceMul, ↓reduceIte, Int.reduceToNat, Int.reducePow, Int.reduceLT, Int.reduceLE, Int.reduceAdd, Int.reduceSub, Int.reduceMul, Int.reduceEq, Int.reduceNe, h, h1, h2, h3, h3', n1, n2, n3, n4, c0, hw]; try (revert h; intro _)))
    | (with_reducible refine Cond_split (fun h => ?_) (fun h => ?_) <;> (simp -implicitDefEqProofs -proj only [go_sem, Nat.reduceBEq, Nat.reduceLT, Nat.reduceLeDiff, Nat.reduceAdd, Nat.reduceMul, ↓reduceIte, Int.reduceToNat, Int.reducePow, Int.reduceLT, Int.reduceLE, Int.reduceAdd, Int.reduceSub, Int.reduceMul, Int.reduceEq, Int.reduceNe, h, h1, h2, h3, h3', n1, n2, n3, n4, c0, hw]; try (revert h; intro _)))
    | (with_reducible refine Pick_split (fun h => ?_) (fun h => ?_) <;> (simp -implicitDefEqProofs -proj only [go_sem, Nat.reduceBEq, Nat.reduceLT, Nat.reduceLeDiff, Nat.reduceAdd, Nat.reduceMul, ↓reduceIte, Int.reduceToNat, Int.reducePow, Int.reduceLT, Int.reduceLE, Int.reduceAdd, Int.reduceSub, Int.reduceMul, Int.reduceEq, Int.reduceNe, h, h1, h2, h3, h3', n1, n2, n3, n4, c0, hw]; try (revert h; intro _)))
    | (with_reducible refine AllocA_intro (fun _ hb => ?_); simp -implicitDefEqProofs only [upd_none, keepH_none, keepH_nil, Heap.none_get, and_true, true_and] at hb; simp -implicitDefEqProofs -proj only [go_sem, Nat.reduceBEq, Nat.reduceLT, Nat.reduceLeDiff, Nat.reduceAdd, Nat.reduceMul, ↓reduceIte, Int.reduceToNat, Int.reducePow, Int.reduceLT, Int.reduceLE, Int.reduceAdd, Int.reduceSub, Int.reduceMul, Int.reduceEq, Int.reduceNe, h1, h2, h3, h3', n1, n2, n3, n4, c0, hw]; try (revert hb; intro _))
    | (with_reducible refine AllocR_intro (fun _ hb => ?_); simp -implicitDefEqProofs only [upd_none, keepH_none, keepH_nil, Heap.none_get, and_true, true_and] at hb; simp -implicitDefEqProofs -proj only [go_sem, Nat.reduceBEq, Nat.reduceLT, Nat.reduceLeDiff, Nat.reduceAdd, Nat.reduceMul, ↓reduceIte, Int.reduceToNat, Int.reducePow, Int.reduceLT, Int.reduceLE, Int.reduceAdd, Int.reduceSub, Int.reduceMul, Int.reduceEq, Int.reduceNe, h1, h2, h3, h3', n1, n2, n3, n4, c0, hw]; try (revert hb; intro _))
    | (with_reducible refine IdxE_1 _ rfl (by simp) ?_; simp -implicitDefEqProofs -proj only [go_sem, Nat.reduceBEq, Nat.reduceLT, Nat.reduceLeDiff, Nat.reduceAdd, Nat.reduceMul, ↓reduceIte, Int.reduceToNat, Int.reducePow, Int.reduceLT, Int.reduceLE, Int.reduceAdd, Int.reduceSub, Int.reduceMul, Int.reduceEq, Int.reduceNe, h1, h2, h3, h3', n1, n2, n3, n4, c0, hw])
    | (with_reducible refine IdxE_n _ rfl (by simp) ?_; simp -implicitDefEqProofs -proj only [go_sem, Nat.reduceBEq, Nat.reduceLT, Nat.reduceLeDiff, Nat.reduceAdd, Nat.reduceMul, ↓reduceIte, Int.reduceToNat, Int.reducePow, Int.reduceLT, Int.reduceLE, Int.reduceAdd, Int.reduceSub, Int.reduceMul, Int.reduceEq, Int.reduceNe, h1, h2, h3, h3', n1, n2, n3, n4, c0, hw])
    | (with_reducible refine VC_intro ?_ (fun h => ?_); (focus first | decide | omega); try clear h; try simp -implicitDefEqProofs -proj only [go_sem, Nat.reduceBEq, Nat.reduceLT, Nat.reduceLeDiff, Nat.reduceAdd, Nat.reduceMul, ↓reduceIte, Int.reduceToNat, Int.reducePow, Int.reduceLT, Int.reduceLE, Int.reduceAdd, Int.reduceSub, Int.reduceMul, Int.reduceEq, Int.reduceNe, h1, h2, h3, h3', n1, n2, n3, n4, c0, hw])
    | (with_reducible refine VC_intro ?_ (fun h => ?_); rotate_left; try clear h; try simp -implicitDefEqProofs -proj only [go_sem, Nat.reduceBEq, Nat.reduceLT, Nat.reduceLeDiff, Nat.reduceAdd, Nat.reduceMul, ↓reduceIte, Int.reduceToNat, Int.reducePow, Int.reduceLT, Int.reduceLE, Int.reduceAdd, Int.reduceSub, Int.reduceMul, Int.reduceEq, Int.reduceNe, h1, h2, h3, h3', n1, n2, n3, n4, c0, hw]; rotate_right))
    refine IdxE_1 _ (by rw [Int.toNat_natCast]; exact hrow) (by simp) ?_
    simp -implicitDefEqProofs -proj only [go_sem, Nat.reduceBEq, Nat.reduceLT, Nat.reduceLeDiff, Nat.reduceAdd, Nat.reduceMul, ↓reduceIte, Int.reduceToNat, Int.reducePow, Int.reduceLT, Int.reduceLE, Int.reduceAdd, Int.reduceSub, Int.reduceMul, Int.reduceEq, Int.reduceNe, h1, h2, h3, h3', n1, n2, n3, n4, c0, hw]
    by_cases hv : q.v = r.v
    · have hp : putR l r = l.dropLast ++ [{ q with t := r.t }] := by rw [putR, hq]; exact if_pos hv
      simp -implicitDefEqProofs -proj only [go_sem, Nat.reduceBEq, Nat.reduceLT, Nat.reduceLeDiff, Nat.reduceAdd, Nat.reduceMul, ↓reduceIte, Int.reduceToNat, Int.reducePow, Int.reduceLT, Int.reduceLE, Int.reduceAdd, Int.reduceSub, Int.reduceMul, Int.reduceEq, Int.reduceNe, h1, h2, h3, h3', n1, n2, n3, n4, c0, hw, decide_eq_true hv, Int.toNat_natCast]
      (repeat' first
    | (with_reducible refine Guard_split (fun h => ?_) (fun h => ?_) <;> (simp -implicitDefEqProofs -proj only [go_sem, Nat.reduceBEq, Nat.reduceLT, Nat.reduceLeDiff, Nat.reduceAdd, Nat.reduceMul, ↓reduceIte, Int.reduceToNat, Int.reducePow, Int.reduceLT, Int.reduceLE, Int.reduceAdd, Int.reduceSub, Int.reduceMul, Int.reduceEq, Int.reduceNe, h, h1, h2, h3, h3', n1, n2, n3, n4, c0, hw, Int.toNat_natCast]; try (revert h; intro _)))
    | (with_reducible refine Cond_split (fun h => ?_) (fun h => ?_) <;> (simp -implicitDefEqProofs -proj only [go_sem, Nat.reduceBEq, Nat.reduceLT, Nat.reduceLeDiff, Nat.reduceAdd, Nat.reduceMul, ↓reduceIte, Int.reduceToNat, Int.reducePow, Int.reduceLT, Int.reduceLE, Int.reduceAdd, Int.reduceSub, Int.reduceMul, Int.reduceEq, Int.reduceNe, h, h1, h2, h3, h3', n1, n2, n3, n4, c0, hw, Int.toNat_natCast]; try (revert h; intro _)))
    | (with_reducible refine Pick_split (fun h => ?_) (fun h => ?_) <;> (simp -implicitDefEqProofs -proj only [go_sem, Nat.reduceBEq, Nat.reduceLT, Nat.reduceLeDiff, Nat.reduceAdd, Nat.reduceMul, ↓reduceIte, Int.reduceToNat, Int.reducePow, Int.reduceLT, Int.reduceLE, Int.reduceAdd, Int.reduceSub, Int.reduceMul, Int.reduceEq, Int.reduceNe, h, h1, h2, h3, h3', n1, n2, n3, n4, c0, hw, Int.toNat_natCast]; try (revert h; intro _)))
    | (with_reducible refine AllocA_intro (fun _ hb => ?_); simp -implicitDefEqProofs only [upd_none, keepH_none, keepH_nil, Heap.none_get, and_true, true_and] at hb; simp -implicitDefEqProofs -proj only [go_sem, Nat.reduceBEq, Nat.reduceLT, Nat.reduceLeDiff, Nat.reduceAdd, Nat.reduceMul, ↓reduceIte, Int.reduceToNat, Int.reducePow, Int.reduceLT, Int.reduceLE, Int.reduceAdd, Int.reduceSub, Int.reduceMul, Int.reduceEq, Int.reduceNe, h1, h2, h3, h3', n1, n2, n3, n4, c0, hw, Int.toNat_natCast]; try (revert hb; intro _))
    | (with_reducible refine AllocR_intro (fun _ hb => ?_); simp -implicitDefEqProofs only [upd_none, keepH_none, keepH_nil, Heap.none_get, and_true, true_and] at hb; simp -implicitDefEqProofs -proj only [go_sem, Nat.reduceBEq, Nat.reduceLT, Nat.reduceLeDiff, Nat.reduceAdd, Nat.reduceMul, ↓reduceIte, Int.reduceToNat, Int.reducePow, Int.reduceLT, Int.reduceLE, Int.reduceAdd, Int.reduceSub, Int.reduceMul, Int.reduceEq, Int.reduceNe, h1, h2, h3, h3', n1, n2, n3, n4, c0, hw, Int.toNat_natCast]; try (revert hb; intro _))
    | (with_reducible refine IdxE_1 _ rfl (by simp) ?_; simp -implicitDefEqProofs -proj only [go_sem, Nat.reduceBEq, Nat.reduceLT, Nat.reduceLeDiff, Nat.reduceAdd, Nat.reduceMul, ↓reduceIte, Int.reduceToNat, Int.reducePow, Int.reduceLT, Int.reduceLE, Int.reduceAdd, Int.reduceSub, Int.reduceMul, Int.reduceEq, Int.reduceNe, h1, h2, h3, h3', n1, n2, n3, n4, c0, hw, Int.toNat_natCast])
    | (with_reducible refine IdxE_n _ rfl (by simp) ?_; simp -implicitDefEqProofs -proj only [go_sem, Nat.reduceBEq, Nat.reduceLT, Nat.reduceLeDiff, Nat.reduceAdd, Nat.reduceMul, ↓reduceIte, Int.reduceToNat, Int.reducePow, Int.reduceLT, Int.reduceLE, Int.reduceAdd, Int.reduceSub, Int.reduceMul, Int.reduceEq, Int.reduceNe, h1, h2, h3, h3', n1, n2, n3, n4, c0, hw, Int.toNat_natCast])
    | (with_reducible refine VC_intro ?_ (fun h => ?_); (focus first | decide | omega); try clear h; try simp -implicitDefEqProofs -proj only [go_sem, Nat.reduceBEq, Nat.reduceLT, Nat.reduceLeDiff, Nat.reduceAdd, Nat.reduceMul, ↓reduceIte, Int.reduceToNat, Int.reducePow, Int.reduceLT, Int.reduceLE, Int.reduceAdd, Int.reduceSub, Int.reduceMul, Int.reduceEq, Int.reduceNe, h1, h2, h3, h3', n1, n2, n3, n4, c0, hw, Int.toNat_natCast])
    | (with_reducible refine VC_intro ?_ (fun h => ?_); rotate_left; try clear h; try simp -implicitDefEqProofs -proj only [go_sem, Nat.reduceBEq, Nat.reduceLT, Nat.reduceLeDiff, Nat.reduceAdd, Nat.reduceMul, ↓reduceIte, Int.reduceToNat, Int.reducePow, Int.reduceLT, Int.reduceLE, Int.reduceAdd, Int.reduceSub, Int.reduceMul, Int.reduceEq, Int.reduceNe, h1, h2, h3, h3', n1, n2, n3, n4, c0, hw, Int.toNat_natCast]; rotate_right))
      refine StoreE_1 (xs := rowU l) (t := 55) (cap := cap) (by simp -implicitDefEqProofs -proj only [go_sem, Nat.reduceBEq, Nat.reduceLT, Nat.reduceLeDiff, Nat.reduceAdd, Nat.reduceMul, ↓reduceIte, Int.reduceToNat, Int.reducePow, Int.reduceLT, Int.reduceLE, Int.reduceAdd, Int.reduceSub, Int.reduceMul, Int.reduceEq, Int.reduceNe, n3, h2]) hrow (by simp) ?_
      have hset : (rowU l).set (l.length - 1) (setSegD [.int .i64 q.f, .int .i64 q.t, .int .u64 q.v] 1 [.int .i64 r.t]) = rowU (putR l r) := by
        rw [hp, ← set_last h0, ← rowU_set]; rfl
      have hlp : (putR l r).length = l.length := by rw [hp, List.length_append, List.length_dropLast, List.length_singleton]; omega
      rw [hset]
      simp -implicitDefEqProofs -proj only [go_sem, Nat.reduceBEq, Nat.reduceLT, Nat.reduceLeDiff, Nat.reduceAdd, Nat.reduceMul, ↓reduceIte, Int.reduceToNat, Int.reducePow, Int.reduceLT, Int.reduceLE, Int.reduceAdd, Int.reduceSub, Int.reduceMul, Int.reduceEq, Int.reduceNe, h1, h2, h3, h3', n1, n2, n3, n4, c0, hw]
      refine ⟨c, .inr ⟨by rw [hp]; simp, h3, cap, ?_, ?_⟩, fun k x hk1 hk2 hk => ?_⟩
      · simp -implicitDefEqProofs -proj only [go_sem, Nat.reduceBEq, Nat.reduceLT, Nat.reduceLeDiff, Nat.reduceAdd, Nat.reduceMul, ↓reduceIte, Int.reduceToNat, Int.reducePow, Int.reduceLT, Int.reduceLE, Int.reduceAdd, Int.reduceSub, Int.reduceMul, Int.reduceEq, Int.reduceNe, n1, h3, h1, hlp]
      · simp -implicitDefEqProofs -proj only [go_sem, Nat.reduceBEq, Nat.reduceLT, Nat.reduceLeDiff, Nat.reduceAdd, Nat.reduceMul, ↓reduceIte, Int.reduceToNat, Int.reducePow, Int.reduceLT, Int.reduceLE, Int.reduceAdd, Int.reduceSub, Int.reduceMul, Int.reduceEq, Int.reduceNe]
      · obtain ⟨p1, p2⟩ := fresh_ne hb hk
        have hk3 : ¬ c = k := fun e => hk2 h0 e.symm
        refine ⟨?_, hk2 h0⟩
        simp -implicitDefEqProofs -proj only [go_sem, Nat.reduceBEq, Nat.reduceLT, Nat.reduceLeDiff, Nat.reduceAdd, Nat.reduceMul, ↓reduceIte, Int.reduceToNat, Int.reducePow, Int.reduceLT, Int.reduceLE, Int.reduceAdd, Int.reduceSub, Int.reduceMul, Int.reduceEq, Int.reduceNe, p1, hk3, hk]
    · have hp : putR l r = l ++ [r] := by rw [putR, hq]; exact if_neg hv
      simp -implicitDefEqProofs -proj only [go_sem, Nat.reduceBEq, Nat.reduceLT, Nat.reduceLeDiff, Nat.reduceAdd, Nat.reduceMul, ↓reduceIte, Int.reduceToNat, Int.reducePow, Int.reduceLT, Int.reduceLE, Int.reduceAdd, Int.reduceSub, Int.reduceMul, Int.reduceEq, Int.reduceNe, h1, h2, h3, h3', n1, n2, n3, n4, c0, hw, decide_eq_false hv]
      (repeat' first
    | (with_reducible refine Guard_split (fun h => ?_) (fun h => ?_) <;> (simp -implicitDefEqProofs -proj only [go_sem, Nat.reduceBEq, Nat.reduceLT, Nat.reduceLeDiff, Nat.reduceAdd, Nat.reduceMul, ↓reduceIte, Int.reduceToNat, Int.reducePow, Int.reduceLT, Int.reduceLE, Int.reduceAdd, Int.reduceSub, Int.reduceMul, Int.reduceEq, Int.reduceNe, h, h1, h2, h3, h3', n1, n2, n3, n4, c0, hw]; try (revert h; intro _)))
    | (with_reducible refine Cond_split (fun h => ?_) (fun h => ?_) <;> (simp -implicitDefEqProofs -proj only [go_sem, Nat.reduceBEq, Nat.reduceLT, Nat.reduceLeDiff, Nat.reduceAdd, Nat.reduceMul, ↓reduceIte, Int.reduceToNat, Int.reducePow, Int.reduceLT, Int.reduceLE, Int.reduceAdd, Int.reduceSub, Int.reduceMul, Int.reduceEq, Int.reduceNe, h, h1, h2, h3, h3', n1, n2, n3, n4, c0, hw]; try (revert h; intro _)))
    | (with_reducible refine Pick_split (fun h => ?_) (fun h => ?_) <;> (simp -implicitDefEqProofs -proj only [go_sem, Nat.reduceBEq, Nat.reduceLT, Nat.reduceLeDiff, Nat.reduceAdd, Nat.reduceMul, ↓reduceIte, Int.reduceToNat, Int.reducePow, Int.reduceLT, Int.reduceLE, Int.reduceAdd, Int.reduceSub, Int.reduceMul, Int.reduceEq, Int.reduceNe, h, h1, h2, h3, h3', n1, n2, n3, n4, c0, hw]; try (revert h; intro _)))
    | (with_reducible refine AllocA_intro (fun _ hb => ?_); simp -implicitDefEqProofs only [upd_none, keepH_none, keepH_nil, Heap.none_get, and_true, true_and] at hb; simp -implicitDefEqProofs -proj only [go_sem, Nat.reduceBEq, Nat.reduceLT, Nat.reduceLeDiff, Nat.reduceAdd, Nat.reduceMul, ↓reduceIte, Int.reduceToNat, Int.reducePow, Int.reduceLT, Int.reduceLE, Int.reduceAdd, Int.reduceSub, Int.reduceMul, Int.reduceEq, Int.reduceNe, h1, h2, h3, h3', n1, n2, n3, n4, c0, hw]; try (revert hb; intro _))
    | (with_reducible refine AllocR_intro (fun _ hb => ?_); simp -implicitDefEqProofs only [upd_none, keepH_none, keepH_nil, Heap.none_get, and_true, true_and] at hb; simp -implicitDefEqProofs -proj only [go_sem, Nat.reduceBEq, Nat.reduceLT, Nat.reduceLeDiff, Nat.reduceAdd, Nat.reduceMul, ↓reduceIte, Int.reduceToNat, Int.reducePow, Int.reduceLT, Int.reduceLE, Int.reduceAdd, Int.reduceSub, Int.reduceMul, Int.reduceEq, Int.reduceNe, h1, h2, h3, h3', n1, n2, n3, n4, c0, hw]; try (revert hb; intro _))
    | (with_reducible refine IdxE_1 _ rfl (by simp) ?_; simp -implicitDefEqProofs -proj only [go_sem, Nat.reduceBEq, Nat.reduceLT, Nat.reduceLeDiff, Nat.reduceAdd, Nat.reduceMul, ↓reduceIte, Int.reduceToNat, Int.reducePow, Int.reduceLT, Int.reduceLE, Int.reduceAdd, Int.reduceSub, Int.reduceMul, Int.reduceEq, Int.reduceNe, h1, h2, h3, h3', n1, n2, n3, n4, c0, hw])
    | (with_reducible refine IdxE_n _ rfl (by simp) ?_; simp -implicitDefEqProofs -proj only [go_sem, Nat.reduceBEq, Nat.reduceLT, Nat.reduceLeDiff, Nat.reduceAdd, Nat.reduceMul, ↓reduceIte, Int.reduceToNat, Int.reducePow, Int.reduceLT, Int.reduceLE, Int.reduceAdd, Int.reduceSub, Int.reduceMul, Int.reduceEq, Int.reduceNe, h1, h2, h3, h3', n1, n2, n3, n4, c0, hw])
    | (with_reducible refine VC_intro ?_ (fun h => ?_); (focus first | decide | omega); try clear h; try simp -implicitDefEqProofs -proj only [go_sem, Nat.reduceBEq, Nat.reduceLT, Nat.reduceLeDiff, Nat.reduceAdd, Nat.reduceMul, ↓reduceIte, Int.reduceToNat, Int.reducePow, Int.reduceLT, Int.reduceLE, Int.reduceAdd, Int.reduceSub, Int.reduceMul, Int.reduceEq, Int.reduceNe, h1, h2, h3, h3', n1, n2, n3, n4, c0, hw])
    | (with_reducible refine VC_intro ?_ (fun h => ?_); rotate_left; try clear h; try simp -implicitDefEqProofs -proj only [go_sem, Nat.reduceBEq, Nat.reduceLT, Nat.reduceLeDiff, Nat.reduceAdd, Nat.reduceMul, ↓reduceIte, Int.reduceToNat, Int.reducePow, Int.reduceLT, Int.reduceLE, Int.reduceAdd, Int.reduceSub, Int.reduceMul, Int.reduceEq, Int.reduceNe, h1, h2, h3, h3', n1, n2, n3, n4, c0, hw]; rotate_right))
      refine BSliceD_intro (ds := r.elU) rfl (fun bs hs => ?_)
      replace hs : upd H b3 _ bs = none := hs
      rw [show cutL 3 1 r.elU = [r.elU] from rfl]
      obtain ⟨m1, m2⟩ := fresh_ne hs (by rw [upd_ne n1]; exact h1)
      obtain ⟨m3, m4⟩ := fresh_ne hs (by rw [upd_ne n3]; exact h2)
      simp -implicitDefEqProofs -proj only [go_sem, Nat.reduceBEq, Nat.reduceLT, Nat.reduceLeDiff, Nat.reduceAdd, Nat.reduceMul, ↓reduceIte, Int.reduceToNat, Int.reducePow, Int.reduceLT, Int.reduceLE, Int.reduceAdd, Int.reduceSub, Int.reduceMul, Int.reduceEq, Int.reduceNe, h1, h2, h3, h3', n1, n2, n3, n4, c0, hw, m1, m2, m3, m4]
      refine AppendA_own1 (xs := rowU l) (ys := [r.elU]) (t := 55) (capc := 1) (by simp -implicitDefEqProofs -proj only [go_sem, Nat.reduceBEq, Nat.reduceLT, Nat.reduceLeDiff, Nat.reduceAdd, Nat.reduceMul, ↓reduceIte, Int.reduceToNat, Int.reducePow, Int.reduceLT, Int.reduceLE, Int.reduceAdd, Int.reduceSub, Int.reduceMul, Int.reduceEq, Int.reduceNe, m3, n3, h2]) (by simp -implicitDefEqProofs -proj only [go_sem, Nat.reduceBEq, Nat.reduceLT, Nat.reduceLeDiff, Nat.reduceAdd, Nat.reduceMul, ↓reduceIte, Int.reduceToNat, Int.reducePow, Int.reduceLT, Int.reduceLE, Int.reduceAdd, Int.reduceSub, Int.reduceMul, Int.reduceEq, Int.reduceNe]) rowU_len.symm rfl (by simp) rfl (by simp -implicitDefEqProofs only [rowU_len, List.length_singleton, maxLen]; omega) (fun c' cap' hc' => ?_)
      replace hc' : upd (upd (upd H b3 _) bs _) c none c' = none := hc'
      obtain ⟨k1, k2⟩ := fresh_ne hc' (by rw [upd_ne h3, upd_ne m1, upd_ne n1]; exact h1)
      rw [rowU_snoc, List.length_singleton]
      simp -implicitDefEqProofs -proj only [go_sem, Nat.reduceBEq, Nat.reduceLT, Nat.reduceLeDiff, Nat.reduceAdd, Nat.reduceMul, ↓reduceIte, Int.reduceToNat, Int.reducePow, Int.reduceLT, Int.reduceLE, Int.reduceAdd, Int.reduceSub, Int.reduceMul, Int.reduceEq, Int.reduceNe, h1, h2, h3, h3', n1, n2, n3, n4, c0, hw, m1, m2, m3, m4, k1, k2]
      (repeat' first
    | (with_reducible refine Guard_split (fun h => ?_) (fun h => ?_) <;> (simp -implicitDefEqProofs -proj only [go_sem, Nat.reduceBEq, Nat.reduceLT, Nat.reduceLeDiff, Nat.reduceAdd, Nat.reduceMul, ↓reduceIte, Int.reduceToNat, Int.reducePow, Int.reduceLT, Int.reduceLE, Int.reduceAdd, Int.reduceSub, Int.reduceMul, Int.reduceEq, Int.reduceNe, h, h1, h2, h3, h3', n1, n2, n3, n4, c0, hw, m1, m2, m3, m4, k1, k2]; try (revert h; intro _)))
    | (with_reducible refine Cond_split (fun h => ?_) (fun h => ?_) <;> (simp -implicitDefEqProofs -proj only [go_sem, Nat.reduceBEq, Nat.reduceLT, Nat.reduceLeDiff, Nat.reduceAdd, Nat.reduceMul, ↓reduceIte, Int.reduceToNat, Int.reducePow, Int.reduceLT, Int.reduceLE, Int.reduceAdd, Int.reduceSub, Int.reduceMul, Int.reduceEq, Int.reduceNe, h, h1, h2, h3, h3', n1, n2, n3, n4, c0, hw, m1, m2, m3, m4, k1, k2]; try (revert h; intro _)))
    | (with_reducible refine Pick_split (fun h => ?_) (fun h => ?_) <;> (simp -implicitDefEqProofs -proj only [go_sem, Nat.reduceBEq, Nat.reduceLT, Nat.reduceLeDiff, Nat.reduceAdd, Nat.reduceMul, ↓reduceIte, Int.reduceToNat, Int.reducePow, Int.reduceLT, Int.reduceLE, Int.reduceAdd, Int.reduceSub, Int.reduceMul, Int.reduceEq, Int.reduceNe, h, h1, h2, h3, h3', n1, n2, n3, n4, c0, hw, m1, m2, m3, m4, k1, k2]; try (revert h; intro _)))
    | (with_reducible refine AllocA_intro (fun _ hb => ?_); simp -implicitDefEqProofs only [upd_none, keepH_none, keepH_nil, Heap.none_get, and_true, true_and] at hb; simp -implicitDefEqProofs -proj only [go_sem, Nat.reduceBEq, Nat.reduceLT, Nat.reduceLeDiff, Nat.reduceAdd, Nat.reduceMul, ↓reduceIte, Int.reduceToNat, Int.reducePow, Int.reduceLT, Int.reduceLE, Int.reduceAdd, Int.reduceSub, Int.reduceMul, Int.reduceEq, Int.reduceNe, h1, h2, h3, h3', n1, n2, n3, n4, c0, hw, m1, m2, m3, m4, k1, k2]; try (revert hb; intro _))
    | (with_reducible refine AllocR_intro (fun _ hb => ?_); simp -implicitDefEqProofs only [upd_none, keepH_none, keepH_nil, Heap.none_get, and_true, true_and] at hb; simp -implicitDefEqProofs -proj only [go_sem, Nat.reduceBEq, Nat.reduceLT, Nat.reduceLeDiff, Nat.reduceAdd, Nat.reduceMul, ↓reduceIte, Int.reduceToNat, Int.reducePow, Int.reduceLT, Int.reduceLE, Int.reduceAdd, Int.reduceSub, Int.reduceMul, Int.reduceEq, Int.reduceNe, h1, h2, h3, h3', n1, n2, n3, n4, c0, hw, m1, m2, m3, m4, k1, k2]; try (revert hb; intro _))
    | (with_reducible refine IdxE_1 _ rfl (by simp) ?_; simp -implicitDefEqProofs -proj only [go_sem, Nat.reduceBEq, Nat.reduceLT, Nat.reduceLeDiff, Nat.reduceAdd, Nat.reduceMul, ↓reduceIte, Int.reduceToNat, Int.reducePow, Int.reduceLT, Int.reduceLE, Int.reduceAdd, Int.reduceSub, Int.reduceMul, Int.reduceEq, Int.reduceNe, h1, h2, h3, h3', n1, n2, n3, n4, c0, hw, m1, m2, m3, m4, k1, k2])
    | (with_reducible refine IdxE_n _ rfl (by simp) ?_; simp -implicitDefEqProofs -proj only [go_sem, Nat.reduceBEq, Nat.reduceLT, Nat.reduceLeDiff, Nat.reduceAdd, Nat.reduceMul, ↓reduceIte, Int.reduceToNat, Int.reducePow, Int.reduceLT, Int.reduceLE, Int.reduceAdd, Int.reduceSub, Int.reduceMul, Int.reduceEq, Int.reduceNe, h1, h2, h3, h3', n1, n2, n3, n4, c0, hw, m1, m2, m3, m4, k1, k2])
    | (with_reducible refine VC_intro ?_ (fun h => ?_); (focus first | decide | omega); try clear h; try simp -implicitDefEqProofs -proj only [go_sem, Nat.reduceBEq, Nat.reduceLT, Nat.reduceLeDiff, Nat.reduceAdd, Nat.reduceMul, ↓reduceIte, Int.reduceToNat, Int.reducePow, Int.reduceLT, Int.reduceLE, Int.reduceAdd, Int.reduceSub, Int.reduceMul, Int.reduceEq, Int.reduceNe, h1, h2, h3, h3', n1, n2, n3, n4, c0, hw, m1, m2, m3, m4, k1, k2])
    | (with_reducible refine VC_intro ?_ (fun h => ?_); rotate_left; try clear h; try simp -implicitDefEqProofs -proj only [go_sem, Nat.reduceBEq, Nat.reduceLT, Nat.reduceLeDiff, Nat.reduceAdd, Nat.reduceMul, ↓reduceIte, Int.reduceToNat, Int.reducePow, Int.reduceLT, Int.reduceLE, Int.reduceAdd, Int.reduceSub, Int.reduceMul, Int.reduceEq, Int.reduceNe, h1, h2, h3, h3', n1, n2, n3, n4, c0, hw, m1, m2, m3, m4, k1, k2]; rotate_right))
      refine ⟨c', .inr ⟨by rw [hp]; simp, k1, cap', ?_, ?_⟩, fun k x hk1 hk2 hk => ?_⟩
      · simp -implicitDefEqProofs -proj only [go_sem, Nat.reduceBEq, Nat.reduceLT, Nat.reduceLeDiff, Nat.reduceAdd, Nat.reduceMul, ↓reduceIte, Int.reduceToNat, Int.reducePow, Int.reduceLT, Int.reduceLE, Int.reduceAdd, Int.reduceSub, Int.reduceMul, Int.reduceEq, Int.reduceNe, hp, List.length_append]
      · simp -implicitDefEqProofs -proj only [go_sem, Nat.reduceBEq, Nat.reduceLT, Nat.reduceLeDiff, Nat.reduceAdd, Nat.reduceMul, ↓reduceIte, Int.reduceToNat, Int.reducePow, Int.reduceLT, Int.reduceLE, Int.reduceAdd, Int.reduceSub, Int.reduceMul, Int.reduceEq, Int.reduceNe, k2, hp]
      · obtain ⟨p1, p2⟩ := fresh_ne hb hk
        obtain ⟨q1, q2⟩ := fresh_ne hs (by rw [upd_ne p1]; exact hk)
        have hk3 : ¬ c = k := fun e => hk2 h0 e.symm
        have hk4 : ¬ b = k := fun e => hk1 e.symm
        obtain ⟨r1, r2⟩ := fresh_ne hc' (by rw [upd_ne hk3, upd_ne q1, upd_ne p1]; exact hk)
        refine ⟨?_, r2⟩
        simp -implicitDefEqProofs -proj only [go_sem, Nat.reduceBEq, Nat.reduceLT, Nat.reduceLeDiff, Nat.reduceAdd, Nat.reduceMul, ↓reduceIte, Int.reduceToNat, Int.reducePow, Int.reduceLT, Int.reduceLE, Int.reduceAdd, Int.reduceSub, Int.reduceMul, Int.reduceEq, Int.reduceNe, p1, q1, r1, hk3, hk4, hk]
def LHU (b c cap : Nat) (l : List Run) : List (Nat × Blk) := if l = [] then [(b, .box 31 [.nilsl 3])] else [(b, .box 31 [.own c 3 0 l.length cap]), (c, .row 55 3 cap (rowU l))]
theorem lineAt_LHU {b c cap : Nat} {l : List Run} {rest : List (Nat × Blk)} (hc : l ≠ [] → c ≠ b) : LineAtU (keepH (LHU b c cap l ++ rest)) b c l := by
  unfold LHU
  by_cases h : l = []
  · rw [if_pos h]
    exact .inl ⟨h, by rw [List.cons_append, keepH_cons, if_pos rfl]⟩
  · rw [if_neg h]
    refine .inr ⟨h, hc h, cap, ?_, ?_⟩
    · rw [List.cons_append, keepH_cons, if_pos rfl]
    · rw [List.cons_append, keepH_cons, if_neg (hc h), List.cons_append, keepH_cons, if_pos rfl]
theorem rest_LHU {b c cap k : Nat} {l : List Run} {rest : List (Nat × Blk)} (hb : k ≠ b) (hc : l ≠ [] → k ≠ c) : keepH (LHU b c cap l ++ rest) k = keepH rest k := by
  unfold LHU
  by_cases h : l = []
  · rw [if_pos h, List.cons_append, keepH_cons, if_neg hb, List.nil_append]
  · rw [if_neg h, List.cons_append, keepH_cons, if_neg hb, List.cons_append, keepH_cons, if_neg (hc h), List.nil_append]
theorem allH_LHU {H : Heap} {b c : Nat} {l : List Run} (h : LineAtU H b c l) : ∃ cap, AllH H (LHU b c cap l) ∧ (l ≠ [] → c ≠ b) := by
  rcases h with ⟨rfl, h1⟩ | ⟨h0, h3, cap, h1, h2⟩
  · exact ⟨0, ⟨h1, trivial⟩, fun h => absurd rfl h⟩
  · refine ⟨cap, ?_, fun _ => h3⟩
    unfold LHU
    rw [if_neg h0]
    exact ⟨h1, h2, trivial⟩
abbrev lineU (l : List Run) : AV := .agg [.d (.sl 3 (rowU l))]
theorem rowU_scal {l : List Run} : ∀ el ∈ rowU l, ∀ d ∈ el, scalD d = true := by
  intro el he d hd
  obtain ⟨r, _, rfl⟩ := List.mem_map.1 he
  simp -implicitDefEqProofs only [Run.elU, List.mem_cons, List.not_mem_nil, or_false] at hd
  rcases hd with rfl | rfl | rfl <;> rfl
theorem LineAtU.read {H : Heap} {b c : Nat} {l : List Run} (h : LineAtU H b c l) : ∃ v, H b = some (.box 31 [v]) ∧ NewV H v (.d (.sl 3 (rowU l))) ∧ lenV v = some (i64 l.length) := by
  rcases h with ⟨rfl, h1⟩ | ⟨h0, h3, cap, h1, h2⟩
  · exact ⟨_, h1, .nilsl _ _, rfl⟩
  · exact ⟨_, h1, new_ownU h2 rowU_len.symm rowU_scal, rfl⟩
theorem LineAtU.upd {H : Heap} {b c k : Nat} {l : List Run} {x : Option Blk} (h : LineAtU H b c l) (hb : ¬ k = b) (hc : l ≠ [] → ¬ k = c) : LineAtU (upd H k x) b c l := by
  rcases h with ⟨h0, h1⟩ | ⟨h0, h3, cap, h1, h2⟩
  · exact .inl ⟨h0, by rw [upd_ne hb]; exact h1⟩
  · exact .inr ⟨h0, h3, cap, by rw [upd_ne hb]; exact h1, by rw [upd_ne (hc h0)]; exact h2⟩
abbrev slU (l : List Run) : AV := .d (.sl 3 (rowU l))
theorem rowU_at {l : List Run} {i : Nat} (h : i < l.length) : (rowU l)[((i : Int)).toNat]? = some [.int .i64 l[i].f, .int .i64 l[i].t, .int .u64 l[i].v] := by
  rw [Int.toNat_natCast]; exact rowU_nth h
theorem At1U_ok (r : Run) (x : Int) : DataW Try.prog f_line_Line_days_Set_At_1 [r.avU, i64 x] (i64 (cmpI r.t x)) := by
  refine CallW_intro comp_line_Line_days_Set_At_1 (by simp) ?_
  simp -implicitDefEqProofs -proj only [go_sem, Nat.reduceBEq, Nat.reduceLT, Nat.reduceLeDiff, Nat.reduceAdd, Nat.reduceMul, ↓reduceIte, Int.reduceToNat, Int.reducePow, Int.reduceLT, Int.reduceLE, Int.reduceAdd, Int.reduceSub, Int.reduceMul, Int.reduceEq, Int.reduceNe]
  refine AllocA_intro (fun b hb => ?_)
  simp -implicitDefEqProofs -proj only [go_sem, Nat.reduceBEq, Nat.reduceLT, Nat.reduceLeDiff, Nat.reduceAdd, Nat.reduceMul, ↓reduceIte, Int.reduceToNat, Int.reducePow, Int.reduceLT, Int.reduceLE, Int.reduceAdd, Int.reduceSub, Int.reduceMul, Int.reduceEq, Int.reduceNe]
  (repeat' first
    | (refine CallA_pure (Compare_ok r.t x) ?_; simp -implicitDefEqProofs -proj only [go_sem, Nat.reduceBEq, Nat.reduceLT, Nat.reduceLeDiff, Nat.reduceAdd, Nat.reduceMul, ↓reduceIte, Int.reduceToNat, Int.reducePow, Int.reduceLT, Int.reduceLE, Int.reduceAdd, Int.reduceSub, Int.reduceMul, Int.reduceEq, Int.reduceNe])
    | (with_reducible refine Guard_split (fun h => ?_) (fun h => ?_) <;> (simp -implicitDefEqProofs -proj only [go_sem, Nat.reduceBEq, Nat.reduceLT, Nat.reduceLeDiff, Nat.reduceAdd, Nat.reduceMul, ↓reduceIte, Int.reduceToNat, Int.reducePow, Int.reduceLT, Int.reduceLE, Int.reduceAdd, Int.reduceSub, Int.reduceMul, Int.reduceEq, Int.reduceNe, h]; try (revert h; intro _)))
    | (with_reducible refine Cond_split (fun h => ?_) (fun h => ?_) <;> (simp -implicitDefEqProofs -proj only [go_sem, Nat.reduceBEq, Nat.reduceLT, Nat.reduceLeDiff, Nat.reduceAdd, Nat.reduceMul, ↓reduceIte, Int.reduceToNat, Int.reducePow, Int.reduceLT, Int.reduceLE, Int.reduceAdd, Int.reduceSub, Int.reduceMul, Int.reduceEq, Int.reduceNe, h]; try (revert h; intro _)))
    | (with_reducible refine Pick_split (fun h => ?_) (fun h => ?_) <;> (simp -implicitDefEqProofs -proj only [go_sem, Nat.reduceBEq, Nat.reduceLT, Nat.reduceLeDiff, Nat.reduceAdd, Nat.reduceMul, ↓reduceIte, Int.reduceToNat, Int.reducePow, Int.reduceLT, Int.reduceLE, Int.reduceAdd, Int.reduceSub, Int.reduceMul, Int.reduceEq, Int.reduceNe, h]; try (revert h; intro _)))
    | (with_reducible refine AllocA_intro (fun _ hb => ?_); simp -implicitDefEqProofs only [upd_none, keepH_none, keepH_nil, Heap.none_get, and_true, true_and] at hb; simp -implicitDefEqProofs -proj only [go_sem, Nat.reduceBEq, Nat.reduceLT, Nat.reduceLeDiff, Nat.reduceAdd, Nat.reduceMul, ↓reduceIte, Int.reduceToNat, Int.reducePow, Int.reduceLT, Int.reduceLE, Int.reduceAdd, Int.reduceSub, Int.reduceMul, Int.reduceEq, Int.reduceNe]; try (revert hb; intro _))
    | (with_reducible refine AllocR_intro (fun _ hb => ?_); simp -implicitDefEqProofs only [upd_none, keepH_none, keepH_nil, Heap.none_get, and_true, true_and] at hb; simp -implicitDefEqProofs -proj only [go_sem, Nat.reduceBEq, Nat.reduceLT, Nat.reduceLeDiff, Nat.reduceAdd, Nat.reduceMul, ↓reduceIte, Int.reduceToNat, Int.reducePow, Int.reduceLT, Int.reduceLE, Int.reduceAdd, Int.reduceSub, Int.reduceMul, Int.reduceEq, Int.reduceNe]; try (revert hb; intro _))
    | (with_reducible refine IdxE_1 _ rfl (by simp) ?_; simp -implicitDefEqProofs -proj only [go_sem, Nat.reduceBEq, Nat.reduceLT, Nat.reduceLeDiff, Nat.reduceAdd, Nat.reduceMul, ↓reduceIte, Int.reduceToNat, Int.reducePow, Int.reduceLT, Int.reduceLE, Int.reduceAdd, Int.reduceSub, Int.reduceMul, Int.reduceEq, Int.reduceNe])
    | (with_reducible refine IdxE_n _ rfl (by simp) ?_; simp -implicitDefEqProofs -proj only [go_sem, Nat.reduceBEq, Nat.reduceLT, Nat.reduceLeDiff, Nat.reduceAdd, Nat.reduceMul, ↓reduceIte, Int.reduceToNat, Int.reducePow, Int.reduceLT, Int.reduceLE, Int.reduceAdd, Int.reduceSub, Int.reduceMul, Int.reduceEq, Int.reduceNe])
    | (with_reducible refine VC_intro ?_ (fun h => ?_); (focus first | decide | omega); try clear h; try simp -implicitDefEqProofs -proj only [go_sem, Nat.reduceBEq, Nat.reduceLT, Nat.reduceLeDiff, Nat.reduceAdd, Nat.reduceMul, ↓reduceIte, Int.reduceToNat, Int.reducePow, Int.reduceLT, Int.reduceLE, Int.reduceAdd, Int.reduceSub, Int.reduceMul, Int.reduceEq, Int.reduceNe])
    | (with_reducible refine VC_intro ?_ (fun h => ?_); rotate_left; try clear h; try simp -implicitDefEqProofs -proj only [go_sem, Nat.reduceBEq, Nat.reduceLT, Nat.reduceLeDiff, Nat.reduceAdd, Nat.reduceMul, ↓reduceIte, Int.reduceToNat, Int.reducePow, Int.reduceLT, Int.reduceLE, Int.reduceAdd, Int.reduceSub, Int.reduceMul, Int.reduceEq, Int.reduceNe]; rotate_right))
  exact LendV_eq rfl
theorem CountU_ok {a : List Run} : DataW Try.prog f_line_Line_days_Set_Count [lineU a] (i64 a.length) := by
  refine CallW_intro comp_line_Line_days_Set_Count (by simp) ?_
  simp -implicitDefEqProofs -proj only [go_sem, Nat.reduceBEq, Nat.reduceLT, Nat.reduceLeDiff, Nat.reduceAdd, Nat.reduceMul, ↓reduceIte, Int.reduceToNat, Int.reducePow, Int.reduceLT, Int.reduceLE, Int.reduceAdd, Int.reduceSub, Int.reduceMul, Int.reduceEq, Int.reduceNe]
  refine AllocA_intro (fun b2 h2 => ?_)
  simp -implicitDefEqProofs -proj only [go_sem, Nat.reduceBEq, Nat.reduceLT, Nat.reduceLeDiff, Nat.reduceAdd, Nat.reduceMul, ↓reduceIte, Int.reduceToNat, Int.reducePow, Int.reduceLT, Int.reduceLE, Int.reduceAdd, Int.reduceSub, Int.reduceMul, Int.reduceEq, Int.reduceNe, rowU_len]
  (repeat' first
    | (with_reducible refine Guard_split (fun h => ?_) (fun h => ?_) <;> (simp -implicitDefEqProofs -proj only [go_sem, Nat.reduceBEq, Nat.reduceLT, Nat.reduceLeDiff, Nat.reduceAdd, Nat.reduceMul, ↓reduceIte, Int.reduceToNat, Int.reducePow, Int.reduceLT, Int.reduceLE, Int.reduceAdd, Int.reduceSub, Int.reduceMul, Int.reduceEq, Int.reduceNe, h, rowU_len]; try (revert h; intro _)))
    | (with_reducible refine Cond_split (fun h => ?_) (fun h => ?_) <;> (simp -implicitDefEqProofs -proj only [go_sem, Nat.reduceBEq, Nat.reduceLT, Nat.reduceLeDiff, Nat.reduceAdd, Nat.reduceMul, ↓reduceIte, Int.reduceToNat, Int.reducePow, Int.reduceLT, Int.reduceLE, Int.reduceAdd, Int.reduceSub, Int.reduceMul, Int.reduceEq, Int.reduceNe, h, rowU_len]; try (revert h; intro _)))
    | (with_reducible refine Pick_split (fun h => ?_) (fun h => ?_) <;> (simp -implicitDefEqProofs -proj only [go_sem, Nat.reduceBEq, Nat.reduceLT, Nat.reduceLeDiff, Nat.reduceAdd, Nat.reduceMul, ↓reduceIte, Int.reduceToNat, Int.reducePow, Int.reduceLT, Int.reduceLE, Int.reduceAdd, Int.reduceSub, Int.reduceMul, Int.reduceEq, Int.reduceNe, h, rowU_len]; try (revert h; intro _)))
    | (with_reducible refine AllocA_intro (fun _ hb => ?_); simp -implicitDefEqProofs only [upd_none, keepH_none, keepH_nil, Heap.none_get, and_true, true_and] at hb; simp -implicitDefEqProofs -proj only [go_sem, Nat.reduceBEq, Nat.reduceLT, Nat.reduceLeDiff, Nat.reduceAdd, Nat.reduceMul, ↓reduceIte, Int.reduceToNat, Int.reducePow, Int.reduceLT, Int.reduceLE, Int.reduceAdd, Int.reduceSub, Int.reduceMul, Int.reduceEq, Int.reduceNe, rowU_len]; try (revert hb; intro _))
    | (with_reducible refine AllocR_intro (fun _ hb => ?_); simp -implicitDefEqProofs only [upd_none, keepH_none, keepH_nil, Heap.none_get, and_true, true_and] at hb; simp -implicitDefEqProofs -proj only [go_sem, Nat.reduceBEq, Nat.reduceLT, Nat.reduceLeDiff, Nat.reduceAdd, Nat.reduceMul, ↓reduceIte, Int.reduceToNat, Int.reducePow, Int.reduceLT, Int.reduceLE, Int.reduceAdd, Int.reduceSub, Int.reduceMul, Int.reduceEq, Int.reduceNe, rowU_len]; try (revert hb; intro _))
    | (with_reducible refine IdxE_1 _ rfl (by simp) ?_; simp -implicitDefEqProofs -proj only [go_sem, Nat.reduceBEq, Nat.reduceLT, Nat.reduceLeDiff, Nat.reduceAdd, Nat.reduceMul, ↓reduceIte, Int.reduceToNat, Int.reducePow, Int.reduceLT, Int.reduceLE, Int.reduceAdd, Int.reduceSub, Int.reduceMul, Int.reduceEq, Int.reduceNe, rowU_len])
    | (with_reducible refine IdxE_n _ rfl (by simp) ?_; simp -implicitDefEqProofs -proj only [go_sem, Nat.reduceBEq, Nat.reduceLT, Nat.reduceLeDiff, Nat.reduceAdd, Nat.reduceMul, ↓reduceIte, Int.reduceToNat, Int.reducePow, Int.reduceLT, Int.reduceLE, Int.reduceAdd, Int.reduceSub, Int.reduceMul, Int.reduceEq, Int.reduceNe, rowU_len])
    | (with_reducible refine VC_intro ?_ (fun h => ?_); (focus first | decide | omega); try clear h; try simp -implicitDefEqProofs -proj only [go_sem, Nat.reduceBEq, Nat.reduceLT, Nat.reduceLeDiff, Nat.reduceAdd, Nat.reduceMul, ↓reduceIte, Int.reduceToNat, Int.reducePow, Int.reduceLT, Int.reduceLE, Int.reduceAdd, Int.reduceSub, Int.reduceMul, Int.reduceEq, Int.reduceNe, rowU_len])
    | (with_reducible refine VC_intro ?_ (fun h => ?_); rotate_left; try clear h; try simp -implicitDefEqProofs -proj only [go_sem, Nat.reduceBEq, Nat.reduceLT, Nat.reduceLeDiff, Nat.reduceAdd, Nat.reduceMul, ↓reduceIte, Int.reduceToNat, Int.reducePow, Int.reduceLT, Int.reduceLE, Int.reduceAdd, Int.reduceSub, Int.reduceMul, Int.reduceEq, Int.reduceNe, rowU_len]; rotate_right))
  exact LendV_eq rfl
theorem BinSearchU_ok {l : List Run} {x : Int} {f : FuncId} (hf : ∀ r : Run, DataW Try.prog f [r.avU, i64 x] (i64 (cmpI r.t x))) (hl : l.length ≤ 1000000) (hs : SortedT l) : ∃ u, DataW Try.prog f_slices_BinarySearchFunc_days_Set_int [slU l, i64 x, .fn f []] (.tup [i64 (idxR l x), bv u]) := by
  refine ⟨decide (∃ h : idxR l x < l.length, l[idxR l x].t = x), ?_⟩
  refine CallW_intro comp_slices_BinarySearchFunc_days_Set_int (by simp) ?_
  simp -implicitDefEqProofs -proj only [go_sem, Nat.reduceBEq, Nat.reduceLT, Nat.reduceLeDiff, Nat.reduceAdd, Nat.reduceMul, ↓reduceIte, Int.reduceToNat, Int.reducePow, Int.reduceLT, Int.reduceLE, Int.reduceAdd, Int.reduceSub, Int.reduceMul, Int.reduceEq, Int.reduceNe, rowU_len]
  refine LoopA_k (fun p : BsX => p.i ≤ p.j ∧ p.j ≤ l.length ∧ (∀ (k : Nat) (h : k < l.length), k < p.i → l[k].t < x) ∧ (∀ (k : Nat) (h : k < l.length), p.j ≤ k → x ≤ l[k].t)) 49 (fun p => [(0, slU l), (1, i64 x), (2, .fn f []), (8, i64 l.length), (9, i64 p.i), (10, i64 p.j)]) (fun _ => []) (fun p => p.j - p.i) ⟨0, l.length⟩ ⟨Nat.zero_le _, Nat.le_refl _, fun k _ h => absurd h (Nat.not_lt_zero _), fun k h h' => absurd h (Nat.not_lt.2 h')⟩ rfl ?_ ?_ ?_
  · simp -implicitDefEqProofs -proj only [go_sem, Nat.reduceBEq, Nat.reduceLT, Nat.reduceLeDiff, Nat.reduceAdd, Nat.reduceMul, ↓reduceIte, Int.reduceToNat, Int.reducePow, Int.reduceLT, Int.reduceLE, Int.reduceAdd, Int.reduceSub, Int.reduceMul, Int.reduceEq, Int.reduceNe, AllAt, rowU_len]
  · trivial
  · rintro ⟨i, j⟩ ⟨h1, h2, h3, h4⟩
    simp -implicitDefEqProofs only [] at h1 h2 h3 h4
    by_cases h : i < j
    · have hh := half (i := i) (j := j) (by omega)
      have hm : (i + j) / 2 < l.length := by omega
      have hm1 : i ≤ (i + j) / 2 ∧ (i + j) / 2 < j := by omega
      obtain ⟨m, hme⟩ : ∃ m, (i + j) / 2 = m := ⟨_, rfl⟩
      rw [hme] at hh hm hm1
      have e1 := rowU_at hm
      have hlo : l[m].t < x → ∀ (k : Nat) (h : k < l.length), k < m + 1 → l[k].t < x := fun h0 k hk hkm => Int.lt_of_le_of_lt (hs k m hk hm (by omega)) h0
      have hhi : ¬ l[m].t < x → ∀ (k : Nat) (h : k < l.length), m ≤ k → x ≤ l[k].t := fun h0 k hk hkm => Int.le_trans (by omega) (hs m k hm hk hkm)
      have hcmp := hf l[m]
      generalize l[m] = r at *
      simp -implicitDefEqProofs -proj only [go_sem, Nat.reduceBEq, Nat.reduceLT, Nat.reduceLeDiff, Nat.reduceAdd, Nat.reduceMul, ↓reduceIte, Int.reduceToNat, Int.reducePow, Int.reduceLT, Int.reduceLE, Int.reduceAdd, Int.reduceSub, Int.reduceMul, Int.reduceEq, Int.reduceNe, bsx_i, bsx_j, decide_eq_true (show (i : Int) < j by omega), hh]
      (repeat' (with_reducible refine VC_intro ?_ (fun h => ?_); (focus first | decide | omega); clear h; try simp -implicitDefEqProofs -proj only [go_sem, Nat.reduceBEq, Nat.reduceLT, Nat.reduceLeDiff, Nat.reduceAdd, Nat.reduceMul, ↓reduceIte, Int.reduceToNat, Int.reducePow, Int.reduceLT, Int.reduceLE, Int.reduceAdd, Int.reduceSub, Int.reduceMul, Int.reduceEq, Int.reduceNe, hh]))
      refine ElemA_at _ (by omega) e1 ?_
      simp -implicitDefEqProofs -proj only [go_sem, Nat.reduceBEq, Nat.reduceLT, Nat.reduceLeDiff, Nat.reduceAdd, Nat.reduceMul, ↓reduceIte, Int.reduceToNat, Int.reducePow, Int.reduceLT, Int.reduceLE, Int.reduceAdd, Int.reduceSub, Int.reduceMul, Int.reduceEq, Int.reduceNe, hh]
      refine CallA_pure hcmp ?_
      by_cases hc : r.t < x
      · simp -implicitDefEqProofs -proj only [go_sem, Nat.reduceBEq, Nat.reduceLT, Nat.reduceLeDiff, Nat.reduceAdd, Nat.reduceMul, ↓reduceIte, Int.reduceToNat, Int.reducePow, Int.reduceLT, Int.reduceLE, Int.reduceAdd, Int.reduceSub, Int.reduceMul, Int.reduceEq, Int.reduceNe, decide_eq_true (cmpI_lt.2 hc)]
        refine LoopQ_k ⟨m + 1, j⟩ ⟨by show m + 1 ≤ j; omega, h2, hlo hc, h4⟩ (by show j - (m + 1) < j - i; omega) rfl ?_ trivial
        simp -implicitDefEqProofs -proj only [go_sem, Nat.reduceBEq, Nat.reduceLT, Nat.reduceLeDiff, Nat.reduceAdd, Nat.reduceMul, ↓reduceIte, Int.reduceToNat, Int.reducePow, Int.reduceLT, Int.reduceLE, Int.reduceAdd, Int.reduceSub, Int.reduceMul, Int.reduceEq, Int.reduceNe, AllAt, i64_succ (show m < 9223372036854775807 by omega)]
      · simp -implicitDefEqProofs -proj only [go_sem, Nat.reduceBEq, Nat.reduceLT, Nat.reduceLeDiff, Nat.reduceAdd, Nat.reduceMul, ↓reduceIte, Int.reduceToNat, Int.reducePow, Int.reduceLT, Int.reduceLE, Int.reduceAdd, Int.reduceSub, Int.reduceMul, Int.reduceEq, Int.reduceNe, decide_eq_false (fun h => hc (cmpI_lt.1 h))]
        refine LoopQ_k ⟨i, m⟩ ⟨hm1.1, by show m ≤ l.length; omega, h3, hhi hc⟩ (by show m - i < j - i; omega) rfl ?_ trivial
        simp -implicitDefEqProofs -proj only [go_sem, Nat.reduceBEq, Nat.reduceLT, Nat.reduceLeDiff, Nat.reduceAdd, Nat.reduceMul, ↓reduceIte, Int.reduceToNat, Int.reducePow, Int.reduceLT, Int.reduceLE, Int.reduceAdd, Int.reduceSub, Int.reduceMul, Int.reduceEq, Int.reduceNe, AllAt]
    · have hij : j = i := by omega
      subst hij
      have hix : idxR l x = j := idxR_eq h2 h3 (fun h => h4 j h (Nat.le_refl _))
      rw [hix]
      by_cases hin : j < l.length
      · have e1 := rowU_at hin
        have hcmp := hf l[j]
        have hd : decide (∃ h : j < l.length, l[j].t = x) = decide (cmpI l[j].t x = 0) := by
          rw [decide_eq_decide, cmpI_eq]
          exact ⟨fun ⟨_, h⟩ => h, fun h => ⟨hin, h⟩⟩
        rw [hd]
        generalize l[j] = r at *
        simp -implicitDefEqProofs -proj only [go_sem, Nat.reduceBEq, Nat.reduceLT, Nat.reduceLeDiff, Nat.reduceAdd, Nat.reduceMul, ↓reduceIte, Int.reduceToNat, Int.reducePow, Int.reduceLT, Int.reduceLE, Int.reduceAdd, Int.reduceSub, Int.reduceMul, Int.reduceEq, Int.reduceNe, bsx_i, bsx_j, decide_eq_false (show ¬ (j : Int) < j by omega), decide_eq_true (show (j : Int) < l.length by omega)]
        refine ElemA_at _ (by omega) e1 ?_
        simp -implicitDefEqProofs -proj only [go_sem, Nat.reduceBEq, Nat.reduceLT, Nat.reduceLeDiff, Nat.reduceAdd, Nat.reduceMul, ↓reduceIte, Int.reduceToNat, Int.reducePow, Int.reduceLT, Int.reduceLE, Int.reduceAdd, Int.reduceSub, Int.reduceMul, Int.reduceEq, Int.reduceNe]
        refine CallA_pure hcmp ?_
        simp -implicitDefEqProofs -proj only [go_sem, Nat.reduceBEq, Nat.reduceLT, Nat.reduceLeDiff, Nat.reduceAdd, Nat.reduceMul, ↓reduceIte, Int.reduceToNat, Int.reducePow, Int.reduceLT, Int.reduceLE, Int.reduceAdd, Int.reduceSub, Int.reduceMul, Int.reduceEq, Int.reduceNe]
        exact LendV_eq rfl
      · have hd : decide (∃ h : j < l.length, l[j].t = x) = false := decide_eq_false (fun ⟨h, _⟩ => hin h)
        rw [hd]
        simp -implicitDefEqProofs -proj only [go_sem, Nat.reduceBEq, Nat.reduceLT, Nat.reduceLeDiff, Nat.reduceAdd, Nat.reduceMul, ↓reduceIte, Int.reduceToNat, Int.reducePow, Int.reduceLT, Int.reduceLE, Int.reduceAdd, Int.reduceSub, Int.reduceMul, Int.reduceEq, Int.reduceNe, bsx_i, bsx_j, decide_eq_false (show ¬ (j : Int) < j by omega), decide_eq_false (show ¬ (j : Int) < l.length by omega)]
        exact LendV_eq rfl
theorem AtU_ok {l : List Run} {x : Int} (hl : l.length ≤ 1000000) (hs : SortedT l) : DataW Try.prog f_line_Line_days_Set_At [lineU l, i64 x] (optU (atF l x)) := by
  obtain ⟨u, h1⟩ := BinSearchU_ok (f := f_line_Line_days_Set_At_1) (fun r => At1U_ok r x) hl hs
  refine CallW_intro comp_line_Line_days_Set_At (by simp) ?_
  simp -implicitDefEqProofs -proj only [go_sem, Nat.reduceBEq, Nat.reduceLT, Nat.reduceLeDiff, Nat.reduceAdd, Nat.reduceMul, ↓reduceIte, Int.reduceToNat, Int.reducePow, Int.reduceLT, Int.reduceLE, Int.reduceAdd, Int.reduceSub, Int.reduceMul, Int.reduceEq, Int.reduceNe]
  refine AllocA_intro (fun b2 h2 => ?_)
  simp -implicitDefEqProofs -proj only [go_sem, Nat.reduceBEq, Nat.reduceLT, Nat.reduceLeDiff, Nat.reduceAdd, Nat.reduceMul, ↓reduceIte, Int.reduceToNat, Int.reducePow, Int.reduceLT, Int.reduceLE, Int.reduceAdd, Int.reduceSub, Int.reduceMul, Int.reduceEq, Int.reduceNe]
  (repeat' (with_reducible refine VC_intro ?_ (fun h => ?_); (focus first | decide | omega); clear h; try simp -implicitDefEqProofs -proj only [go_sem, Nat.reduceBEq, Nat.reduceLT, Nat.reduceLeDiff, Nat.reduceAdd, Nat.reduceMul, ↓reduceIte, Int.reduceToNat, Int.reducePow, Int.reduceLT, Int.reduceLE, Int.reduceAdd, Int.reduceSub, Int.reduceMul, Int.reduceEq, Int.reduceNe, rowU_len]))
  refine CallA_pure h1 ?_
  unfold atF
  by_cases hin : idxR l x < l.length
  · have e1 := rowU_at hin
    rw [List.getElem?_eq_getElem hin]
    generalize l[idxR l x] = r at *
    generalize idxR l x = i at *
    simp -implicitDefEqProofs only []
    simp -implicitDefEqProofs -proj only [go_sem, Nat.reduceBEq, Nat.reduceLT, Nat.reduceLeDiff, Nat.reduceAdd, Nat.reduceMul, ↓reduceIte, Int.reduceToNat, Int.reducePow, Int.reduceLT, Int.reduceLE, Int.reduceAdd, Int.reduceSub, Int.reduceMul, Int.reduceEq, Int.reduceNe, rowU_len, decide_eq_true (show (i : Int) < l.length by omega)]
    (repeat' (with_reducible refine VC_intro ?_ (fun h => ?_); (focus first | decide | omega); clear h; try simp -implicitDefEqProofs -proj only [go_sem, Nat.reduceBEq, Nat.reduceLT, Nat.reduceLeDiff, Nat.reduceAdd, Nat.reduceMul, ↓reduceIte, Int.reduceToNat, Int.reducePow, Int.reduceLT, Int.reduceLE, Int.reduceAdd, Int.reduceSub, Int.reduceMul, Int.reduceEq, Int.reduceNe, rowU_len, decide_eq_true (show (i : Int) < l.length by omega)]))
    refine ElemA_at _ (by omega) e1 ?_
    by_cases hf : r.f ≤ x
    · rw [if_pos hf, optU]
      simp -implicitDefEqProofs -proj only [go_sem, Nat.reduceBEq, Nat.reduceLT, Nat.reduceLeDiff, Nat.reduceAdd, Nat.reduceMul, ↓reduceIte, Int.reduceToNat, Int.reducePow, Int.reduceLT, Int.reduceLE, Int.reduceAdd, Int.reduceSub, Int.reduceMul, Int.reduceEq, Int.reduceNe, rowU_len, decide_eq_true hf]
      (repeat' (with_reducible refine VC_intro ?_ (fun h => ?_); (focus first | decide | omega); clear h; try simp -implicitDefEqProofs -proj only [go_sem, Nat.reduceBEq, Nat.reduceLT, Nat.reduceLeDiff, Nat.reduceAdd, Nat.reduceMul, ↓reduceIte, Int.reduceToNat, Int.reducePow, Int.reduceLT, Int.reduceLE, Int.reduceAdd, Int.reduceSub, Int.reduceMul, Int.reduceEq, Int.reduceNe, rowU_len, decide_eq_true hf]))
      refine ElemA_at _ (by omega) e1 ?_
      simp -implicitDefEqProofs -proj only [go_sem, Nat.reduceBEq, Nat.reduceLT, Nat.reduceLeDiff, Nat.reduceAdd, Nat.reduceMul, ↓reduceIte, Int.reduceToNat, Int.reducePow, Int.reduceLT, Int.reduceLE, Int.reduceAdd, Int.reduceSub, Int.reduceMul, Int.reduceEq, Int.reduceNe]
      exact LendV_eq rfl
    · rw [if_neg hf, optU]
      simp -implicitDefEqProofs -proj only [go_sem, Nat.reduceBEq, Nat.reduceLT, Nat.reduceLeDiff, Nat.reduceAdd, Nat.reduceMul, ↓reduceIte, Int.reduceToNat, Int.reducePow, Int.reduceLT, Int.reduceLE, Int.reduceAdd, Int.reduceSub, Int.reduceMul, Int.reduceEq, Int.reduceNe, rowU_len, decide_eq_false hf]
      exact LendV_eq rfl
  · rw [List.getElem?_eq_none (by omega)]
    generalize idxR l x = i at *
    simp -implicitDefEqProofs only []
    simp -implicitDefEqProofs -proj only [go_sem, Nat.reduceBEq, Nat.reduceLT, Nat.reduceLeDiff, Nat.reduceAdd, Nat.reduceMul, ↓reduceIte, Int.reduceToNat, Int.reducePow, Int.reduceLT, Int.reduceLE, Int.reduceAdd, Int.reduceSub, Int.reduceMul, Int.reduceEq, Int.reduceNe, rowU_len, decide_eq_false (show ¬ (i : Int) < l.length by omega), optU]
    (repeat' (with_reducible refine VC_intro ?_ (fun h => ?_); (focus first | decide | omega); clear h; try simp -implicitDefEqProofs -proj only [go_sem, Nat.reduceBEq, Nat.reduceLT, Nat.reduceLeDiff, Nat.reduceAdd, Nat.reduceMul, ↓reduceIte, Int.reduceToNat, Int.reducePow, Int.reduceLT, Int.reduceLE, Int.reduceAdd, Int.reduceSub, Int.reduceMul, Int.reduceEq, Int.reduceNe, rowU_len, decide_eq_false (show ¬ (i : Int) < l.length by omega), optU]))
    exact LendV_eq rfl
theorem LineAtU.fresh {H : Heap} {b c k : Nat} {l : List Run} (h : LineAtU H b c l) (hk : H k = none) : ¬ k = b ∧ (l ≠ [] → ¬ k = c) := by
  rcases h with ⟨h0, h1⟩ | ⟨h0, h3, cap, h1, h2⟩
  · exact ⟨(fresh_ne hk h1).1, fun h => absurd h0 h⟩
  · exact ⟨(fresh_ne hk h1).1, fun _ => (fresh_ne hk h2).1⟩
theorem ZipU_new {a b : List Run} {f : FuncId} {g : Int → Int → Int} (hg : ∀ u v : Int, DataW Try.prog f [u64 u, u64 v] (u64 (g u v))) (ha : a.length ≤ 400000) (hb : b.length ≤ 400000) : NewW Try.prog f_line_Zip_days_Set [lineU a, lineU b, .fn f []] (lineU (zipG g a b (a.length + b.length) 0 0 [])) := by
  refine CallW_intro comp_line_Zip_days_Set (by simp) ?_
  simp -implicitDefEqProofs -proj only [go_sem, Nat.reduceBEq, Nat.reduceLT, Nat.reduceLeDiff, Nat.reduceAdd, Nat.reduceMul, ↓reduceIte, Int.reduceToNat, Int.reducePow, Int.reduceLT, Int.reduceLE, Int.reduceAdd, Int.reduceSub, Int.reduceMul, Int.reduceEq, Int.reduceNe]
  refine AllocA_intro (fun b3 hb3 => ?_)
  simp -implicitDefEqProofs -proj only [go_sem, Nat.reduceBEq, Nat.reduceLT, Nat.reduceLeDiff, Nat.reduceAdd, Nat.reduceMul, ↓reduceIte, Int.reduceToNat, Int.reducePow, Int.reduceLT, Int.reduceLE, Int.reduceAdd, Int.reduceSub, Int.reduceMul, Int.reduceEq, Int.reduceNe]
  refine AllocA_intro (fun b4 hb4 => ?_)
  replace hb4 : upd Heap.none b3 _ b4 = none := hb4
  obtain ⟨n1, n2⟩ := fresh_ne hb4 upd_eq
  simp -implicitDefEqProofs -proj only [go_sem, Nat.reduceBEq, Nat.reduceLT, Nat.reduceLeDiff, Nat.reduceAdd, Nat.reduceMul, ↓reduceIte, Int.reduceToNat, Int.reducePow, Int.reduceLT, Int.reduceLE, Int.reduceAdd, Int.reduceSub, Int.reduceMul, Int.reduceEq, Int.reduceNe, n1, n2]
  refine AllocA_intro (fun b6 hb6 => ?_)
  replace hb6 : upd (upd Heap.none b3 _) b4 _ b6 = none := hb6
  obtain ⟨n3, n4⟩ := fresh_ne hb6 upd_eq
  obtain ⟨n5, n6⟩ := fresh_ne hb6 (by rw [upd_ne n1]; exact upd_eq)
  simp -implicitDefEqProofs -proj only [go_sem, Nat.reduceBEq, Nat.reduceLT, Nat.reduceLeDiff, Nat.reduceAdd, Nat.reduceMul, ↓reduceIte, Int.reduceToNat, Int.reducePow, Int.reduceLT, Int.reduceLE, Int.reduceAdd, Int.reduceSub, Int.reduceMul, Int.reduceEq, Int.reduceNe, n1, n2, n3, n4, n5, n6, rowU_len]
  refine AllocA_intro (fun b7 hb7 => ?_)
  replace hb7 : upd (upd (upd Heap.none b3 _) b4 _) b6 _ b7 = none := hb7
  obtain ⟨n7, n8⟩ := fresh_ne hb7 upd_eq
  obtain ⟨p1, p2⟩ := fresh_ne hb7 (by rw [upd_ne n3]; exact upd_eq)
  obtain ⟨p3, p4⟩ := fresh_ne hb7 (by rw [upd_ne n5, upd_ne n1]; exact upd_eq)
  simp -implicitDefEqProofs -proj only [go_sem, Nat.reduceBEq, Nat.reduceLT, Nat.reduceLeDiff, Nat.reduceAdd, Nat.reduceMul, ↓reduceIte, Int.reduceToNat, Int.reducePow, Int.reduceLT, Int.reduceLE, Int.reduceAdd, Int.reduceSub, Int.reduceMul, Int.reduceEq, Int.reduceNe, n1, n2, n3, n4, n5, n6, n7, n8, p1, p2, p3, p4, rowU_len]
  obtain ⟨rest, hrest⟩ : ∃ rest : List (Nat × Blk), rest = [(b6, .box 31 [.nilsl 3]), (b3, .box 31 [slU a]), (b4, .box 31 [slU b])] := ⟨_, rfl⟩
  refine LoopA_k (fun x : ZipX => x.i ≤ a.length ∧ x.k ≤ b.length ∧ x.l.length ≤ x.i + x.k ∧ zipG g a b (a.length + b.length - x.i - x.k) x.i x.k x.l = zipG g a b (a.length + b.length) 0 0 [] ∧ (x.l ≠ [] → x.c ≠ b7 ∧ x.c ≠ b6 ∧ x.c ≠ b3 ∧ x.c ≠ b4)) 74 (fun x => [(8, i64 x.i), (9, i64 x.k), (3, .ptr b3 0), (4, .ptr b4 0), (6, .ptr b6 0), (7, .ptr b7 0), (2, .fn f [])]) (fun x => LHU b7 x.c x.cap x.l ++ rest) (fun x => a.length + b.length - x.i - x.k) ⟨0, 0, 0, 0, []⟩ ⟨Nat.zero_le _, Nat.zero_le _, Nat.zero_le _, rfl, fun h => absurd rfl h⟩ rfl ?_ ?_ ?_
  · simp -implicitDefEqProofs -proj only [go_sem, Nat.reduceBEq, Nat.reduceLT, Nat.reduceLeDiff, Nat.reduceAdd, Nat.reduceMul, ↓reduceIte, Int.reduceToNat, Int.reducePow, Int.reduceLT, Int.reduceLE, Int.reduceAdd, Int.reduceSub, Int.reduceMul, Int.reduceEq, Int.reduceNe, AllAt]
  · rw [AllH_append, hrest]
    simp -implicitDefEqProofs -proj only [go_sem, Nat.reduceBEq, Nat.reduceLT, Nat.reduceLeDiff, Nat.reduceAdd, Nat.reduceMul, ↓reduceIte, Int.reduceToNat, Int.reducePow, Int.reduceLT, Int.reduceLE, Int.reduceAdd, Int.reduceSub, Int.reduceMul, Int.reduceEq, Int.reduceNe, AllH, LHU, n1, n2, n3, n4, n5, n6, n7, n8, p1, p2, p3, p4]
  · rintro ⟨i, k, c, cap, R⟩ ⟨hi, hk, hlen, hR, hc⟩
    simp -implicitDefEqProofs only [] at hi hk hlen hR hc
    have hat := lineAt_LHU (b := b7) (c := c) (cap := cap) (l := R) (rest := rest) (fun h => (hc h).1)
    have h6 : keepH (LHU b7 c cap R ++ rest) b6 = some (.box 31 [.nilsl 3]) := by
      rw [rest_LHU n8 (fun h e => (hc h).2.1 e.symm), hrest]; simp -implicitDefEqProofs -proj only [go_sem, Nat.reduceBEq, Nat.reduceLT, Nat.reduceLeDiff, Nat.reduceAdd, Nat.reduceMul, ↓reduceIte, Int.reduceToNat, Int.reducePow, Int.reduceLT, Int.reduceLE, Int.reduceAdd, Int.reduceSub, Int.reduceMul, Int.reduceEq, Int.reduceNe]
    have h3 : keepH (LHU b7 c cap R ++ rest) b3 = some (.box 31 [slU a]) := by
      rw [rest_LHU p4 (fun h e => (hc h).2.2.1 e.symm), hrest]; simp -implicitDefEqProofs -proj only [go_sem, Nat.reduceBEq, Nat.reduceLT, Nat.reduceLeDiff, Nat.reduceAdd, Nat.reduceMul, ↓reduceIte, Int.reduceToNat, Int.reducePow, Int.reduceLT, Int.reduceLE, Int.reduceAdd, Int.reduceSub, Int.reduceMul, Int.reduceEq, Int.reduceNe, n6]
    have h4 : keepH (LHU b7 c cap R ++ rest) b4 = some (.box 31 [slU b]) := by
      rw [rest_LHU p2 (fun h e => (hc h).2.2.2 e.symm), hrest]; simp -implicitDefEqProofs -proj only [go_sem, Nat.reduceBEq, Nat.reduceLT, Nat.reduceLeDiff, Nat.reduceAdd, Nat.reduceMul, ↓reduceIte, Int.reduceToNat, Int.reducePow, Int.reduceLT, Int.reduceLE, Int.reduceAdd, Int.reduceSub, Int.reduceMul, Int.reduceEq, Int.reduceNe, n4, n1]
    generalize hH : keepH (LHU b7 c cap R ++ rest) = H at *
    by_cases hin : i < a.length ∧ k < b.length
    · obtain ⟨h, h'⟩ := hin
      have e1 := rowU_at h
      have e2 := rowU_at h'
      have hx : a[i]? = some a[i] := List.getElem?_eq_getElem h
      have hy : b[k]? = some b[k] := List.getElem?_eq_getElem h'
      generalize a[i] = x at *
      generalize b[k] = y at *
      rw [show a.length + b.length - i - k = (a.length + b.length - i - k - 1) + 1 by omega, zipG, hx, hy] at hR
      simp -implicitDefEqProofs only [] at hR
      simp -implicitDefEqProofs -proj only [go_sem, Nat.reduceBEq, Nat.reduceLT, Nat.reduceLeDiff, Nat.reduceAdd, Nat.reduceMul, ↓reduceIte, Int.reduceToNat, Int.reducePow, Int.reduceLT, Int.reduceLE, Int.reduceAdd, Int.reduceSub, Int.reduceMul, Int.reduceEq, Int.reduceNe, zx_i, zx_k, h3, h4, rowU_len, decide_eq_true (show (i : Int) < a.length by omega), decide_eq_true (show (k : Int) < b.length by omega)]
      (repeat' (with_reducible refine VC_intro ?_ (fun h => ?_); (focus first | decide | omega); clear h; try simp -implicitDefEqProofs -proj only [go_sem, Nat.reduceBEq, Nat.reduceLT, Nat.reduceLeDiff, Nat.reduceAdd, Nat.reduceMul, ↓reduceIte, Int.reduceToNat, Int.reducePow, Int.reduceLT, Int.reduceLE, Int.reduceAdd, Int.reduceSub, Int.reduceMul, Int.reduceEq, Int.reduceNe, eq_self, zx_i, zx_k, h3, h4, rowU_len, decide_eq_true (show (i : Int) < a.length by omega), decide_eq_true (show (k : Int) < b.length by omega)]))
      refine ElemA_at _ (by omega) e1 ?_
      simp -implicitDefEqProofs -proj only [go_sem, Nat.reduceBEq, Nat.reduceLT, Nat.reduceLeDiff, Nat.reduceAdd, Nat.reduceMul, ↓reduceIte, Int.reduceToNat, Int.reducePow, Int.reduceLT, Int.reduceLE, Int.reduceAdd, Int.reduceSub, Int.reduceMul, Int.reduceEq, Int.reduceNe, zx_i, zx_k, h3, h4, rowU_len, decide_eq_true (show (i : Int) < a.length by omega), decide_eq_true (show (k : Int) < b.length by omega)]
      (repeat' (with_reducible refine VC_intro ?_ (fun h => ?_); (focus first | decide | omega); clear h; try simp -implicitDefEqProofs -proj only [go_sem, Nat.reduceBEq, Nat.reduceLT, Nat.reduceLeDiff, Nat.reduceAdd, Nat.reduceMul, ↓reduceIte, Int.reduceToNat, Int.reducePow, Int.reduceLT, Int.reduceLE, Int.reduceAdd, Int.reduceSub, Int.reduceMul, Int.reduceEq, Int.reduceNe, eq_self, zx_i, zx_k, h3, h4, rowU_len, decide_eq_true (show (i : Int) < a.length by omega), decide_eq_true (show (k : Int) < b.length by omega)]))
      refine ElemA_at _ (by omega) e2 ?_
      simp -implicitDefEqProofs -proj only [go_sem, Nat.reduceBEq, Nat.reduceLT, Nat.reduceLeDiff, Nat.reduceAdd, Nat.reduceMul, ↓reduceIte, Int.reduceToNat, Int.reducePow, Int.reduceLT, Int.reduceLE, Int.reduceAdd, Int.reduceSub, Int.reduceMul, Int.reduceEq, Int.reduceNe, zx_i, zx_k, h3, h4, rowU_len, decide_eq_true (show (i : Int) < a.length by omega), decide_eq_true (show (k : Int) < b.length by omega)]
      (repeat' (with_reducible refine VC_intro ?_ (fun h => ?_); (focus first | decide | omega); clear h; try simp -implicitDefEqProofs -proj only [go_sem, Nat.reduceBEq, Nat.reduceLT, Nat.reduceLeDiff, Nat.reduceAdd, Nat.reduceMul, ↓reduceIte, Int.reduceToNat, Int.reducePow, Int.reduceLT, Int.reduceLE, Int.reduceAdd, Int.reduceSub, Int.reduceMul, Int.reduceEq, Int.reduceNe, eq_self, zx_i, zx_k, h3, h4, rowU_len, decide_eq_true (show (i : Int) < a.length by omega), decide_eq_true (show (k : Int) < b.length by omega)]))
      refine AllocA_intro (fun b10 hb10 => ?_)
      replace hb10 : H b10 = none := hb10
      obtain ⟨q1, q3⟩ := hat.fresh hb10
      have t6 := (fresh_ne hb10 h6).1
      have t3 := (fresh_ne hb10 h3).1
      have t4 := (fresh_ne hb10 h4).1
      simp -implicitDefEqProofs -proj only [go_sem, Nat.reduceBEq, Nat.reduceLT, Nat.reduceLeDiff, Nat.reduceAdd, Nat.reduceMul, ↓reduceIte, Int.reduceToNat, Int.reducePow, Int.reduceLT, Int.reduceLE, Int.reduceAdd, Int.reduceSub, Int.reduceMul, Int.reduceEq, Int.reduceNe]
      refine AllocA_intro (fun b11 hb11 => ?_)
      replace hb11 : upd H b10 _ b11 = none := hb11
      obtain ⟨r3, r4⟩ := fresh_ne hb11 upd_eq
      have hb11' : H b11 = none := by rw [upd_ne r4] at hb11; exact hb11
      obtain ⟨r1, r3'⟩ := hat.fresh hb11'
      have u6 := (fresh_ne hb11' h6).1
      have u3 := (fresh_ne hb11' h3).1
      have u4 := (fresh_ne hb11' h4).1
      have q2 : ¬ b7 = b10 := fun e => q1 e.symm
      have r2 : ¬ b7 = b11 := fun e => r1 e.symm
      by_cases hA : x.t ≤ y.t
      · by_cases hB : y.t ≤ x.t
        · by_cases hM : max x.f y.f ≤ min x.t y.t
          · rw [if_pos hA, if_pos hB, if_pos hM] at hR
            have dM := decide_eq_true hM
            have dA := decide_eq_true hA
            have dB := decide_eq_true hB
            simp -implicitDefEqProofs -proj only [go_sem, Nat.reduceBEq, Nat.reduceLT, Nat.reduceLeDiff, Nat.reduceAdd, Nat.reduceMul, ↓reduceIte, Int.reduceToNat, Int.reducePow, Int.reduceLT, Int.reduceLE, Int.reduceAdd, Int.reduceSub, Int.reduceMul, Int.reduceEq, Int.reduceNe, h3, h4, rowU_len, q1, q2, r1, r2, r3, r4, dM, dA, dB, i64_succ (show i < 9223372036854775807 by omega), i64_succ (show k < 9223372036854775807 by omega)]
            (repeat' (with_reducible refine VC_intro ?_ (fun h => ?_); (focus first | decide | omega); clear h; try simp -implicitDefEqProofs -proj only [go_sem, Nat.reduceBEq, Nat.reduceLT, Nat.reduceLeDiff, Nat.reduceAdd, Nat.reduceMul, ↓reduceIte, Int.reduceToNat, Int.reducePow, Int.reduceLT, Int.reduceLE, Int.reduceAdd, Int.reduceSub, Int.reduceMul, Int.reduceEq, Int.reduceNe, eq_self, h3, h4, rowU_len, q1, q2, r1, r2, r3, r4, dM, dA, dB, i64_succ (show i < 9223372036854775807 by omega), i64_succ (show k < 9223372036854775807 by omega)]))
            refine CallA_pure (hg x.v y.v) ?_
            simp -implicitDefEqProofs -proj only [go_sem, Nat.reduceBEq, Nat.reduceLT, Nat.reduceLeDiff, Nat.reduceAdd, Nat.reduceMul, ↓reduceIte, Int.reduceToNat, Int.reducePow, Int.reduceLT, Int.reduceLE, Int.reduceAdd, Int.reduceSub, Int.reduceMul, Int.reduceEq, Int.reduceNe, h3, h4, rowU_len, q1, q2, r1, r2, r3, r4, dM, dA, dB, i64_succ (show i < 9223372036854775807 by omega), i64_succ (show k < 9223372036854775807 by omega)]
            have hput := fun z1 z2 z w => putU_ok (r := ⟨max x.f y.f, min x.t y.t, g x.v y.v⟩) ((((hat.upd (k := b10) (x := z1) q1 q3).upd (k := b11) (x := z2) r1 r3').upd (k := b10) (x := z) q1 q3).upd (k := b11) (x := w) r1 r3') (by omega)
            refine CallA_w (hput _ _ _ _) (fun rr H' hk => ?_)
            obtain ⟨c', hat', hfr⟩ := hk
            have g6 := hfr b6 _ n8 (fun h e => (hc h).2.1 e.symm) (by rw [upd_ne u6, upd_ne t6, upd_ne u6, upd_ne t6]; exact h6)
            have g3 := hfr b3 _ p4 (fun h e => (hc h).2.2.1 e.symm) (by rw [upd_ne u3, upd_ne t3, upd_ne u3, upd_ne t3]; exact h3)
            have g4 := hfr b4 _ p2 (fun h e => (hc h).2.2.2 e.symm) (by rw [upd_ne u4, upd_ne t4, upd_ne u4, upd_ne t4]; exact h4)
            have g10 := hfr b10 _ q1 q3 (by rw [upd_ne r3, upd_eq])
            have g11 := hfr b11 _ r1 r3' (by rw [upd_eq])
            obtain ⟨cap', hah, hc'⟩ := allH_LHU hat'
            simp -implicitDefEqProofs -proj only [go_sem, Nat.reduceBEq, Nat.reduceLT, Nat.reduceLeDiff, Nat.reduceAdd, Nat.reduceMul, ↓reduceIte, Int.reduceToNat, Int.reducePow, Int.reduceLT, Int.reduceLE, Int.reduceAdd, Int.reduceSub, Int.reduceMul, Int.reduceEq, Int.reduceNe, h3, h4, rowU_len, q1, q2, r1, r2, r3, r4, dM, dA, dB, i64_succ (show i < 9223372036854775807 by omega), i64_succ (show k < 9223372036854775807 by omega), g10.1, g11.1, eq_self]
            have hRR : putR R ⟨max x.f y.f, min x.t y.t, g x.v y.v⟩ ≠ [] := putR_ne
            have hll := @putR_len R ⟨max x.f y.f, min x.t y.t, g x.v y.v⟩
            refine LoopQ_k ⟨i + 1, k + 1, c', cap', putR R ⟨max x.f y.f, min x.t y.t, g x.v y.v⟩⟩ ⟨by show i + 1 ≤ a.length; omega, by show k + 1 ≤ b.length; omega, by show (putR R _).length ≤ i + 1 + (k + 1); omega, ?_, fun h => ⟨hc' h, fun e => g6.2 e.symm, fun e => g3.2 e.symm, fun e => g4.2 e.symm⟩⟩ (by show a.length + b.length - (i + 1) - (k + 1) < a.length + b.length - i - k; omega) rfl ?_ ?_
            · show zipG g a b (a.length + b.length - (i + 1) - (k + 1)) (i + 1) (k + 1) _ = _
              rw [← hR]
              try rw [show a.length + b.length - i - k - 1 = a.length + b.length - (i + 1) - (k + 1) by omega]
              try (rw [show a.length + b.length - i - k - 1 = (a.length + b.length - (i + 1) - (k + 1)) + 1 by omega, zipG_stable _ _ _ _ (by omega)])
            · simp -implicitDefEqProofs -proj only [go_sem, Nat.reduceBEq, Nat.reduceLT, Nat.reduceLeDiff, Nat.reduceAdd, Nat.reduceMul, ↓reduceIte, Int.reduceToNat, Int.reducePow, Int.reduceLT, Int.reduceLE, Int.reduceAdd, Int.reduceSub, Int.reduceMul, Int.reduceEq, Int.reduceNe, AllAt, zx_i, zx_k]
            · rw [AllH_append, hrest]
              exact ⟨hah, g6.1, g3.1, g4.1, trivial⟩
          · rw [if_pos hA, if_pos hB, if_neg hM] at hR
            have dM := decide_eq_false hM
            have dA := decide_eq_true hA
            have dB := decide_eq_true hB
            simp -implicitDefEqProofs -proj only [go_sem, Nat.reduceBEq, Nat.reduceLT, Nat.reduceLeDiff, Nat.reduceAdd, Nat.reduceMul, ↓reduceIte, Int.reduceToNat, Int.reducePow, Int.reduceLT, Int.reduceLE, Int.reduceAdd, Int.reduceSub, Int.reduceMul, Int.reduceEq, Int.reduceNe, h3, h4, rowU_len, q1, q2, r1, r2, r3, r4, dM, dA, dB, i64_succ (show i < 9223372036854775807 by omega), i64_succ (show k < 9223372036854775807 by omega)]
            (repeat' (with_reducible refine VC_intro ?_ (fun h => ?_); (focus first | decide | omega); clear h; try simp -implicitDefEqProofs -proj only [go_sem, Nat.reduceBEq, Nat.reduceLT, Nat.reduceLeDiff, Nat.reduceAdd, Nat.reduceMul, ↓reduceIte, Int.reduceToNat, Int.reducePow, Int.reduceLT, Int.reduceLE, Int.reduceAdd, Int.reduceSub, Int.reduceMul, Int.reduceEq, Int.reduceNe, eq_self, h3, h4, rowU_len, q1, q2, r1, r2, r3, r4, dM, dA, dB, i64_succ (show i < 9223372036854775807 by omega), i64_succ (show k < 9223372036854775807 by omega)]))
            obtain ⟨cap', hah, hc'⟩ := allH_LHU ((((hat.upd (k := b10) (x := some (.box 55 [.d (.int .i64 0), .d (.int .i64 0), .d (.int .u64 0)])) q1 q3).upd (k := b11) (x := some (.box 55 [.d (.int .i64 0), .d (.int .i64 0), .d (.int .u64 0)])) r1 r3').upd (k := b10) (x := some (.box 55 [.d (.int .i64 x.f), .d (.int .i64 x.t), .d (.int .u64 x.v)])) q1 q3).upd (k := b11) (x := some (.box 55 [.d (.int .i64 y.f), .d (.int .i64 y.t), .d (.int .u64 y.v)])) r1 r3')
            refine LoopQ_k ⟨i + 1, k + 1, c, cap', R⟩ ⟨by show i + 1 ≤ a.length; omega, by show k + 1 ≤ b.length; omega, by show R.length ≤ i + 1 + (k + 1); omega, ?_, hc⟩ (by show a.length + b.length - (i + 1) - (k + 1) < a.length + b.length - i - k; omega) rfl ?_ ?_
            · show zipG g a b (a.length + b.length - (i + 1) - (k + 1)) (i + 1) (k + 1) _ = _
              rw [← hR]
              try rw [show a.length + b.length - i - k - 1 = a.length + b.length - (i + 1) - (k + 1) by omega]
              try (rw [show a.length + b.length - i - k - 1 = (a.length + b.length - (i + 1) - (k + 1)) + 1 by omega, zipG_stable _ _ _ _ (by omega)])
            · simp -implicitDefEqProofs -proj only [go_sem, Nat.reduceBEq, Nat.reduceLT, Nat.reduceLeDiff, Nat.reduceAdd, Nat.reduceMul, ↓reduceIte, Int.reduceToNat, Int.reducePow, Int.reduceLT, Int.reduceLE, Int.reduceAdd, Int.reduceSub, Int.reduceMul, Int.reduceEq, Int.reduceNe, AllAt, zx_i, zx_k]
            · rw [AllH_append, hrest]
              exact ⟨hah, ((upd_ne u6).trans ((upd_ne t6).trans ((upd_ne u6).trans ((upd_ne t6).trans h6)))), ((upd_ne u3).trans ((upd_ne t3).trans ((upd_ne u3).trans ((upd_ne t3).trans h3)))), ((upd_ne u4).trans ((upd_ne t4).trans ((upd_ne u4).trans ((upd_ne t4).trans h4)))), trivial⟩
        · by_cases hM : max x.f y.f ≤ min x.t y.t
          · rw [if_pos hA, if_neg hB, if_pos hM] at hR
            have dM := decide_eq_true hM
            have dA := decide_eq_true hA
            have dB := decide_eq_false hB
            simp -implicitDefEqProofs -proj only [go_sem, Nat.reduceBEq, Nat.reduceLT, Nat.reduceLeDiff, Nat.reduceAdd, Nat.reduceMul, ↓reduceIte, Int.reduceToNat, Int.reducePow, Int.reduceLT, Int.reduceLE, Int.reduceAdd, Int.reduceSub, Int.reduceMul, Int.reduceEq, Int.reduceNe, h3, h4, rowU_len, q1, q2, r1, r2, r3, r4, dM, dA, dB, i64_succ (show i < 9223372036854775807 by omega), i64_succ (show k < 9223372036854775807 by omega)]
            (repeat' (with_reducible refine VC_intro ?_ (fun h => ?_); (focus first | decide | omega); clear h; try simp -implicitDefEqProofs -proj only [go_sem, Nat.reduceBEq, Nat.reduceLT, Nat.reduceLeDiff, Nat.reduceAdd, Nat.reduceMul, ↓reduceIte, Int.reduceToNat, Int.reducePow, Int.reduceLT, Int.reduceLE, Int.reduceAdd, Int.reduceSub, Int.reduceMul, Int.reduceEq, Int.reduceNe, eq_self, h3, h4, rowU_len, q1, q2, r1, r2, r3, r4, dM, dA, dB, i64_succ (show i < 9223372036854775807 by omega), i64_succ (show k < 9223372036854775807 by omega)]))
            refine CallA_pure (hg x.v y.v) ?_
            simp -implicitDefEqProofs -proj only [go_sem, Nat.reduceBEq, Nat.reduceLT, Nat.reduceLeDiff, Nat.reduceAdd, Nat.reduceMul, ↓reduceIte, Int.reduceToNat, Int.reducePow, Int.reduceLT, Int.reduceLE, Int.reduceAdd, Int.reduceSub, Int.reduceMul, Int.reduceEq, Int.reduceNe, h3, h4, rowU_len, q1, q2, r1, r2, r3, r4, dM, dA, dB, i64_succ (show i < 9223372036854775807 by omega), i64_succ (show k < 9223372036854775807 by omega)]
            have hput := fun z1 z2 z w => putU_ok (r := ⟨max x.f y.f, min x.t y.t, g x.v y.v⟩) ((((hat.upd (k := b10) (x := z1) q1 q3).upd (k := b11) (x := z2) r1 r3').upd (k := b10) (x := z) q1 q3).upd (k := b11) (x := w) r1 r3') (by omega)
            refine CallA_w (hput _ _ _ _) (fun rr H' hk => ?_)
            obtain ⟨c', hat', hfr⟩ := hk
            have g6 := hfr b6 _ n8 (fun h e => (hc h).2.1 e.symm) (by rw [upd_ne u6, upd_ne t6, upd_ne u6, upd_ne t6]; exact h6)
            have g3 := hfr b3 _ p4 (fun h e => (hc h).2.2.1 e.symm) (by rw [upd_ne u3, upd_ne t3, upd_ne u3, upd_ne t3]; exact h3)
            have g4 := hfr b4 _ p2 (fun h e => (hc h).2.2.2 e.symm) (by rw [upd_ne u4, upd_ne t4, upd_ne u4, upd_ne t4]; exact h4)
            have g10 := hfr b10 _ q1 q3 (by rw [upd_ne r3, upd_eq])
            have g11 := hfr b11 _ r1 r3' (by rw [upd_eq])
            obtain ⟨cap', hah, hc'⟩ := allH_LHU hat'
            simp -implicitDefEqProofs -proj only [go_sem, Nat.reduceBEq, Nat.reduceLT, Nat.reduceLeDiff, Nat.reduceAdd, Nat.reduceMul, ↓reduceIte, Int.reduceToNat, Int.reducePow, Int.reduceLT, Int.reduceLE, Int.reduceAdd, Int.reduceSub, Int.reduceMul, Int.reduceEq, Int.reduceNe, h3, h4, rowU_len, q1, q2, r1, r2, r3, r4, dM, dA, dB, i64_succ (show i < 9223372036854775807 by omega), i64_succ (show k < 9223372036854775807 by omega), g10.1, g11.1, eq_self]
            have hRR : putR R ⟨max x.f y.f, min x.t y.t, g x.v y.v⟩ ≠ [] := putR_ne
            have hll := @putR_len R ⟨max x.f y.f, min x.t y.t, g x.v y.v⟩
            refine LoopQ_k ⟨i + 1, k, c', cap', putR R ⟨max x.f y.f, min x.t y.t, g x.v y.v⟩⟩ ⟨by show i + 1 ≤ a.length; omega, by show k ≤ b.length; omega, by show (putR R _).length ≤ i + 1 + (k); omega, ?_, fun h => ⟨hc' h, fun e => g6.2 e.symm, fun e => g3.2 e.symm, fun e => g4.2 e.symm⟩⟩ (by show a.length + b.length - (i + 1) - (k) < a.length + b.length - i - k; omega) rfl ?_ ?_
            · show zipG g a b (a.length + b.length - (i + 1) - (k)) (i + 1) (k) _ = _
              rw [← hR]
              try rw [show a.length + b.length - i - k - 1 = a.length + b.length - (i + 1) - (k) by omega]
              try (rw [show a.length + b.length - i - k - 1 = (a.length + b.length - (i + 1) - (k + 1)) + 1 by omega, zipG_stable _ _ _ _ (by omega)])
            · simp -implicitDefEqProofs -proj only [go_sem, Nat.reduceBEq, Nat.reduceLT, Nat.reduceLeDiff, Nat.reduceAdd, Nat.reduceMul, ↓reduceIte, Int.reduceToNat, Int.reducePow, Int.reduceLT, Int.reduceLE, Int.reduceAdd, Int.reduceSub, Int.reduceMul, Int.reduceEq, Int.reduceNe, AllAt, zx_i, zx_k]
            · rw [AllH_append, hrest]
              exact ⟨hah, g6.1, g3.1, g4.1, trivial⟩
          · rw [if_pos hA, if_neg hB, if_neg hM] at hR
            have dM := decide_eq_false hM
            have dA := decide_eq_true hA
            have dB := decide_eq_false hB
            simp -implicitDefEqProofs -proj only [go_sem, Nat.reduceBEq, Nat.reduceLT, Nat.reduceLeDiff, Nat.reduceAdd, Nat.reduceMul, ↓reduceIte, Int.reduceToNat, Int.reducePow, Int.reduceLT, Int.reduceLE, Int.reduceAdd, Int.reduceSub, Int.reduceMul, Int.reduceEq, Int.reduceNe, h3, h4, rowU_len, q1, q2, r1, r2, r3, r4, dM, dA, dB, i64_succ (show i < 9223372036854775807 by omega), i64_succ (show k < 9223372036854775807 by omega)]
            (repeat' (with_reducible refine VC_intro ?_ (fun h => ?_); (focus first | decide | omega); clear h; try simp -implicitDefEqProofs -proj only [go_sem, Nat.reduceBEq, Nat.reduceLT, Nat.reduceLeDiff, Nat.reduceAdd, Nat.reduceMul, ↓reduceIte, Int.reduceToNat, Int.reducePow, Int.reduceLT, Int.reduceLE, Int.reduceAdd, Int.reduceSub, Int.reduceMul, Int.reduceEq, Int.reduceNe, eq_self, h3, h4, rowU_len, q1, q2, r1, r2, r3, r4, dM, dA, dB, i64_succ (show i < 9223372036854775807 by omega), i64_succ (show k < 9223372036854775807 by omega)]))
            obtain ⟨cap', hah, hc'⟩ := allH_LHU ((((hat.upd (k := b10) (x := some (.box 55 [.d (.int .i64 0), .d (.int .i64 0), .d (.int .u64 0)])) q1 q3).upd (k := b11) (x := some (.box 55 [.d (.int .i64 0), .d (.int .i64 0), .d (.int .u64 0)])) r1 r3').upd (k := b10) (x := some (.box 55 [.d (.int .i64 x.f), .d (.int .i64 x.t), .d (.int .u64 x.v)])) q1 q3).upd (k := b11) (x := some (.box 55 [.d (.int .i64 y.f), .d (.int .i64 y.t), .d (.int .u64 y.v)])) r1 r3')
            refine LoopQ_k ⟨i + 1, k, c, cap', R⟩ ⟨by show i + 1 ≤ a.length; omega, by show k ≤ b.length; omega, by show R.length ≤ i + 1 + (k); omega, ?_, hc⟩ (by show a.length + b.length - (i + 1) - (k) < a.length + b.length - i - k; omega) rfl ?_ ?_
            · show zipG g a b (a.length + b.length - (i + 1) - (k)) (i + 1) (k) _ = _
              rw [← hR]
              try rw [show a.length + b.length - i - k - 1 = a.length + b.length - (i + 1) - (k) by omega]
              try (rw [show a.length + b.length - i - k - 1 = (a.length + b.length - (i + 1) - (k + 1)) + 1 by omega, zipG_stable _ _ _ _ (by omega)])
            · simp -implicitDefEqProofs -proj only [go_sem, Nat.reduceBEq, Nat.reduceLT, Nat.reduceLeDiff, Nat.reduceAdd, Nat.reduceMul, ↓reduceIte, Int.reduceToNat, Int.reducePow, Int.reduceLT, Int.reduceLE, Int.reduceAdd, Int.reduceSub, Int.reduceMul, Int.reduceEq, Int.reduceNe, AllAt, zx_i, zx_k]
            · rw [AllH_append, hrest]
              exact ⟨hah, ((upd_ne u6).trans ((upd_ne t6).trans ((upd_ne u6).trans ((upd_ne t6).trans h6)))), ((upd_ne u3).trans ((upd_ne t3).trans ((upd_ne u3).trans ((upd_ne t3).trans h3)))), ((upd_ne u4).trans ((upd_ne t4).trans ((upd_ne u4).trans ((upd_ne t4).trans h4)))), trivial⟩
      · have hB : y.t ≤ x.t := by omega
        by_cases hM : max x.f y.f ≤ min x.t y.t
        · rw [if_neg hA, if_pos hB, if_pos hM] at hR
          have dM := decide_eq_true hM
          have dA := decide_eq_false hA
          have dB := decide_eq_true hB
          simp -implicitDefEqProofs -proj only [go_sem, Nat.reduceBEq, Nat.reduceLT, Nat.reduceLeDiff, Nat.reduceAdd, Nat.reduceMul, ↓reduceIte, Int.reduceToNat, Int.reducePow, Int.reduceLT, Int.reduceLE, Int.reduceAdd, Int.reduceSub, Int.reduceMul, Int.reduceEq, Int.reduceNe, h3, h4, rowU_len, q1, q2, r1, r2, r3, r4, dM, dA, dB, i64_succ (show i < 9223372036854775807 by omega), i64_succ (show k < 9223372036854775807 by omega)]
          (repeat' (with_reducible refine VC_intro ?_ (fun h => ?_); (focus first | decide | omega); clear h; try simp -implicitDefEqProofs -proj only [go_sem, Nat.reduceBEq, Nat.reduceLT, Nat.reduceLeDiff, Nat.reduceAdd, Nat.reduceMul, ↓reduceIte, Int.reduceToNat, Int.reducePow, Int.reduceLT, Int.reduceLE, Int.reduceAdd, Int.reduceSub, Int.reduceMul, Int.reduceEq, Int.reduceNe, eq_self, h3, h4, rowU_len, q1, q2, r1, r2, r3, r4, dM, dA, dB, i64_succ (show i < 9223372036854775807 by omega), i64_succ (show k < 9223372036854775807 by omega)]))
          refine CallA_pure (hg x.v y.v) ?_
          simp -implicitDefEqProofs -proj only [go_sem, Nat.reduceBEq, Nat.reduceLT, Nat.reduceLeDiff, Nat.reduceAdd, Nat.reduceMul, ↓reduceIte, Int.reduceToNat, Int.reducePow, Int.reduceLT, Int.reduceLE, Int.reduceAdd, Int.reduceSub, Int.reduceMul, Int.reduceEq, Int.reduceNe, h3, h4, rowU_len, q1, q2, r1, r2, r3, r4, dM, dA, dB, i64_succ (show i < 9223372036854775807 by omega), i64_succ (show k < 9223372036854775807 by omega)]
          have hput := fun z1 z2 z w => putU_ok (r := ⟨max x.f y.f, min x.t y.t, g x.v y.v⟩) ((((hat.upd (k := b10) (x := z1) q1 q3).upd (k := b11) (x := z2) r1 r3').upd (k := b10) (x := z) q1 q3).upd (k := b11) (x := w) r1 r3') (by omega)
          refine CallA_w (hput _ _ _ _) (fun rr H' hk => ?_)
          obtain ⟨c', hat', hfr⟩ := hk
          have g6 := hfr b6 _ n8 (fun h e => (hc h).2.1 e.symm) (by rw [upd_ne u6, upd_ne t6, upd_ne u6, upd_ne t6]; exact h6)
          have g3 := hfr b3 _ p4 (fun h e => (hc h).2.2.1 e.symm) (by rw [upd_ne u3, upd_ne t3, upd_ne u3, upd_ne t3]; exact h3)
          have g4 := hfr b4 _ p2 (fun h e => (hc h).2.2.2 e.symm) (by rw [upd_ne u4, upd_ne t4, upd_ne u4, upd_ne t4]; exact h4)
          have g10 := hfr b10 _ q1 q3 (by rw [upd_ne r3, upd_eq])
          have g11 := hfr b11 _ r1 r3' (by rw [upd_eq])
          obtain ⟨cap', hah, hc'⟩ := allH_LHU hat'
          simp -implicitDefEqProofs -proj only [go_sem, Nat.reduceBEq, Nat.reduceLT, Nat.reduceLeDiff, Nat.reduceAdd, Nat.reduceMul, ↓reduceIte, Int.reduceToNat, Int.reducePow, Int.reduceLT, Int.reduceLE, Int.reduceAdd, Int.reduceSub, Int.reduceMul, Int.reduceEq, Int.reduceNe, h3, h4, rowU_len, q1, q2, r1, r2, r3, r4, dM, dA, dB, i64_succ (show i < 9223372036854775807 by omega), i64_succ (show k < 9223372036854775807 by omega), g10.1, g11.1, eq_self]
          have hRR : putR R ⟨max x.f y.f, min x.t y.t, g x.v y.v⟩ ≠ [] := putR_ne
          have hll := @putR_len R ⟨max x.f y.f, min x.t y.t, g x.v y.v⟩
          refine LoopQ_k ⟨i, k + 1, c', cap', putR R ⟨max x.f y.f, min x.t y.t, g x.v y.v⟩⟩ ⟨by show i ≤ a.length; omega, by show k + 1 ≤ b.length; omega, by show (putR R _).length ≤ i + (k + 1); omega, ?_, fun h => ⟨hc' h, fun e => g6.2 e.symm, fun e => g3.2 e.symm, fun e => g4.2 e.symm⟩⟩ (by show a.length + b.length - (i) - (k + 1) < a.length + b.length - i - k; omega) rfl ?_ ?_
          · show zipG g a b (a.length + b.length - (i) - (k + 1)) (i) (k + 1) _ = _
            rw [← hR]
            try rw [show a.length + b.length - i - k - 1 = a.length + b.length - (i) - (k + 1) by omega]
            try (rw [show a.length + b.length - i - k - 1 = (a.length + b.length - (i + 1) - (k + 1)) + 1 by omega, zipG_stable _ _ _ _ (by omega)])
          · simp -implicitDefEqProofs -proj only [go_sem, Nat.reduceBEq, Nat.reduceLT, Nat.reduceLeDiff, Nat.reduceAdd, Nat.reduceMul, ↓reduceIte, Int.reduceToNat, Int.reducePow, Int.reduceLT, Int.reduceLE, Int.reduceAdd, Int.reduceSub, Int.reduceMul, Int.reduceEq, Int.reduceNe, AllAt, zx_i, zx_k]
          · rw [AllH_append, hrest]
            exact ⟨hah, g6.1, g3.1, g4.1, trivial⟩
        · rw [if_neg hA, if_pos hB, if_neg hM] at hR
          have dM := decide_eq_false hM
          have dA := decide_eq_false hA
          have dB := decide_eq_true hB
          simp -implicitDefEqProofs -proj only [go_sem, Nat.reduceBEq, Nat.reduceLT, Nat.reduceLeDiff, Nat.reduceAdd, Nat.reduceMul, ↓reduceIte, Int.reduceToNat, Int.reducePow, Int.reduceLT, Int.reduceLE, Int.reduceAdd, Int.reduceSub, Int.reduceMul, Int.reduceEq, Int.reduceNe, h3, h4, rowU_len, q1, q2, r1, r2, r3, r4, dM, dA, dB, i64_succ (show i < 9223372036854775807 by omega), i64_succ (show k < 9223372036854775807 by omega)]
          (repeat' (with_reducible refine VC_intro ?_ (fun h => ?_); (focus first | decide | omega); clear h; try simp -implicitDefEqProofs -proj only [go_sem, Nat.reduceBEq, Nat.reduceLT, Nat.reduceLeDiff, Nat.reduceAdd, Nat.reduceMul, ↓reduceIte, Int.reduceToNat, Int.reducePow, Int.reduceLT, Int.reduceLE, Int.reduceAdd, Int.reduceSub, Int.reduceMul, Int.reduceEq, Int.reduceNe, eq_self, h3, h4, rowU_len, q1, q2, r1, r2, r3, r4, dM, dA, dB, i64_succ (show i < 9223372036854775807 by omega), i64_succ (show k < 9223372036854775807 by omega)]))
          obtain ⟨cap', hah, hc'⟩ := allH_LHU ((((hat.upd (k := b10) (x := some (.box 55 [.d (.int .i64 0), .d (.int .i64 0), .d (.int .u64 0)])) q1 q3).upd (k := b11) (x := some (.box 55 [.d (.int .i64 0), .d (.int .i64 0), .d (.int .u64 0)])) r1 r3').upd (k := b10) (x := some (.box 55 [.d (.int .i64 x.f), .d (.int .i64 x.t), .d (.int .u64 x.v)])) q1 q3).upd (k := b11) (x := some (.box 55 [.d (.int .i64 y.f), .d (.int .i64 y.t), .d (.int .u64 y.v)])) r1 r3')
          refine LoopQ_k ⟨i, k + 1, c, cap', R⟩ ⟨by show i ≤ a.length; omega, by show k + 1 ≤ b.length; omega, by show R.length ≤ i + (k + 1); omega, ?_, hc⟩ (by show a.length + b.length - (i) - (k + 1) < a.length + b.length - i - k; omega) rfl ?_ ?_
          · show zipG g a b (a.length + b.length - (i) - (k + 1)) (i) (k + 1) _ = _
            rw [← hR]
            try rw [show a.length + b.length - i - k - 1 = a.length + b.length - (i) - (k + 1) by omega]
            try (rw [show a.length + b.length - i - k - 1 = (a.length + b.length - (i + 1) - (k + 1)) + 1 by omega, zipG_stable _ _ _ _ (by omega)])
          · simp -implicitDefEqProofs -proj only [go_sem, Nat.reduceBEq, Nat.reduceLT, Nat.reduceLeDiff, Nat.reduceAdd, Nat.reduceMul, ↓reduceIte, Int.reduceToNat, Int.reducePow, Int.reduceLT, Int.reduceLE, Int.reduceAdd, Int.reduceSub, Int.reduceMul, Int.reduceEq, Int.reduceNe, AllAt, zx_i, zx_k]
          · rw [AllH_append, hrest]
            exact ⟨hah, ((upd_ne u6).trans ((upd_ne t6).trans ((upd_ne u6).trans ((upd_ne t6).trans h6)))), ((upd_ne u3).trans ((upd_ne t3).trans ((upd_ne u3).trans ((upd_ne t3).trans h3)))), ((upd_ne u4).trans ((upd_ne t4).trans ((upd_ne u4).trans ((upd_ne t4).trans h4)))), trivial⟩
    · have hz : zipG g a b (a.length + b.length - i - k) i k R = R := by
        generalize a.length + b.length - i - k = n
        cases n with
        | zero => rfl
        | succ n =>
          rw [zipG]
          by_cases h1 : i < a.length
          · rw [List.getElem?_eq_none (l := b) (by omega)]
            split <;> first | rfl | simp_all
          · rw [List.getElem?_eq_none (l := a) (by omega)]
      obtain ⟨v, hv, hl, _⟩ := hat.read
      obtain ⟨v2, hv2, hl2, _⟩ := (hat.upd (k := b6) (x := some (.box 31 [v])) n8 (fun h e => (hc h).2.1 e.symm)).read
      rw [upd_ne n8, hv] at hv2
      cases hv2
      rw [← hR, hz]
      by_cases h1 : i < a.length
      · have h2 : ¬ (k : Int) < b.length := by omega
        simp -implicitDefEqProofs -proj only [go_sem, Nat.reduceBEq, Nat.reduceLT, Nat.reduceLeDiff, Nat.reduceAdd, Nat.reduceMul, ↓reduceIte, Int.reduceToNat, Int.reducePow, Int.reduceLT, Int.reduceLE, Int.reduceAdd, Int.reduceSub, Int.reduceMul, Int.reduceEq, Int.reduceNe, zx_i, zx_k, h3, h4, h6, hv, rowU_len, decide_eq_true (show (i : Int) < a.length by omega), decide_eq_false h2]
        (repeat' (with_reducible refine VC_intro ?_ (fun h => ?_); (focus first | decide | omega); clear h; try simp -implicitDefEqProofs -proj only [go_sem, Nat.reduceBEq, Nat.reduceLT, Nat.reduceLeDiff, Nat.reduceAdd, Nat.reduceMul, ↓reduceIte, Int.reduceToNat, Int.reducePow, Int.reduceLT, Int.reduceLE, Int.reduceAdd, Int.reduceSub, Int.reduceMul, Int.reduceEq, Int.reduceNe, eq_self, zx_i, zx_k, h3, h4, h6, hv, rowU_len, decide_eq_true (show (i : Int) < a.length by omega), decide_eq_false h2]))
        exact lend_agg1U hl2
      · simp -implicitDefEqProofs -proj only [go_sem, Nat.reduceBEq, Nat.reduceLT, Nat.reduceLeDiff, Nat.reduceAdd, Nat.reduceMul, ↓reduceIte, Int.reduceToNat, Int.reducePow, Int.reduceLT, Int.reduceLE, Int.reduceAdd, Int.reduceSub, Int.reduceMul, Int.reduceEq, Int.reduceNe, zx_i, zx_k, h3, h4, h6, hv, rowU_len, decide_eq_false (show ¬ (i : Int) < a.length by omega)]
        (repeat' (with_reducible refine VC_intro ?_ (fun h => ?_); (focus first | decide | omega); clear h; try simp -implicitDefEqProofs -proj only [go_sem, Nat.reduceBEq, Nat.reduceLT, Nat.reduceLeDiff, Nat.reduceAdd, Nat.reduceMul, ↓reduceIte, Int.reduceToNat, Int.reducePow, Int.reduceLT, Int.reduceLE, Int.reduceAdd, Int.reduceSub, Int.reduceMul, Int.reduceEq, Int.reduceNe, eq_self, zx_i, zx_k, h3, h4, h6, hv, rowU_len, decide_eq_false (show ¬ (i : Int) < a.length by omega)]))
        exact lend_agg1U hl2
structure LineSU (H : Heap) (b c : Nat) (R : List Run) (rest : List (Nat × Blk)) : Prop where
  at_ : LineAtU H b c R
  all : AllH H rest
  ne : ∀ p ∈ rest, p.1 ≠ b ∧ (R ≠ [] → p.1 ≠ c)
theorem putU_s {H : Heap} {b c : Nat} {R : List Run} {rest : List (Nat × Blk)} {r : Run} (h : LineSU H b c R rest) (hl : R.length ≤ 1000000) : CallW Try.prog f_line_Line_days_Set_put [.ptr b 0, r.avU] H fun _ H' => ∃ c', LineSU H' b c' (putR R r) rest :=
  (putU_ok (r := r) h.at_ hl).mono fun _ H' ⟨c', h1, h2⟩ =>
    ⟨c', h1, AllH_iff.2 fun p hp => (h2 p.1 p.2 (h.ne p hp).1 (h.ne p hp).2 (AllH_iff.1 h.all p hp)).1, fun p hp => ⟨(h.ne p hp).1, fun _ => (h2 p.1 p.2 (h.ne p hp).1 (h.ne p hp).2 (AllH_iff.1 h.all p hp)).2⟩⟩
theorem LineSU.alloc {H : Heap} {b c k : Nat} {R : List Run} {rest : List (Nat × Blk)} {x : Blk} (h : LineSU H b c R rest) (hk : H k = none) : LineSU (upd H k (some x)) b c R ((k, x) :: rest) := by
  have hf := h.at_.fresh hk
  refine ⟨h.at_.upd hf.1 hf.2, alloc_all hk h.all, fun p hp => ?_⟩
  rcases List.mem_cons.1 hp with rfl | hp
  · exact hf
  · exact h.ne p hp
theorem LineSU.keep {b c cap : Nat} {R : List Run} {rest : List (Nat × Blk)} (hc : R ≠ [] → c ≠ b) (hn : ∀ p ∈ rest, p.1 ≠ b ∧ (R ≠ [] → p.1 ≠ c)) (hk : (keys rest).Nodup) : LineSU (keepH (LHU b c cap R ++ rest)) b c R rest :=
  ⟨lineAt_LHU hc, AllH_iff.2 fun p hp => by rw [rest_LHU (hn p hp).1 (hn p hp).2]; exact AllH_iff.1 (keepH_all hk) p hp, hn⟩
theorem LineSU.sub {H : Heap} {b c : Nat} {R : List Run} {rest rest' : List (Nat × Blk)} (h : LineSU H b c R rest) (hs : ∀ p ∈ rest', p ∈ rest) : LineSU H b c R rest' :=
  ⟨h.at_, AllH_sub h.all hs, fun p hp => h.ne p (hs p hp)⟩
set_option maxRecDepth 20000 in
theorem FillU_new {l : List Run} {lo hi v : Int} (hn : l.length ≤ 300000) (hlo : -1099511627776 ≤ lo ∧ lo ≤ 1099511627776) (hhi : -1099511627776 ≤ hi ∧ hi ≤ 1099511627776) (hb : ∀ r ∈ l, -1099511627776 ≤ r.f ∧ r.t ≤ 1099511627776 ∧ r.f ≤ r.t) :
    NewW Try.prog f_line_Fill_days_Set [lineU l, i64 lo, i64 hi, u64 v] (lineU (fillN lo hi v l l.length)) := by
  refine CallW_intro comp_line_Fill_days_Set (by simp) ?_
  simp -implicitDefEqProofs -proj only [go_sem, Nat.reduceBEq, Nat.reduceLT, Nat.reduceLeDiff, Nat.reduceAdd, Nat.reduceMul, ↓reduceIte, Int.reduceToNat, Int.reducePow, Int.reduceLT, Int.reduceLE, Int.reduceAdd, Int.reduceSub, Int.reduceMul, Int.reduceEq, Int.reduceNe]
  refine AllocA_intro (fun b4 hb4 => ?_)
  simp -implicitDefEqProofs -proj only [go_sem, Nat.reduceBEq, Nat.reduceLT, Nat.reduceLeDiff, Nat.reduceAdd, Nat.reduceMul, ↓reduceIte, Int.reduceToNat, Int.reducePow, Int.reduceLT, Int.reduceLE, Int.reduceAdd, Int.reduceSub, Int.reduceMul, Int.reduceEq, Int.reduceNe]
  refine AllocA_intro (fun b8 hb8 => ?_)
  replace hb8 : upd Heap.none b4 _ b8 = none := hb8
  obtain ⟨n1, n2⟩ := fresh_ne hb8 upd_eq
  simp -implicitDefEqProofs -proj only [go_sem, Nat.reduceBEq, Nat.reduceLT, Nat.reduceLeDiff, Nat.reduceAdd, Nat.reduceMul, ↓reduceIte, Int.reduceToNat, Int.reducePow, Int.reduceLT, Int.reduceLE, Int.reduceAdd, Int.reduceSub, Int.reduceMul, Int.reduceEq, Int.reduceNe]
  refine AllocA_intro (fun b9 hb9 => ?_)
  replace hb9 : upd (upd Heap.none b4 _) b8 _ b9 = none := hb9
  obtain ⟨n3, n4⟩ := fresh_ne hb9 upd_eq
  obtain ⟨n5, n6⟩ := fresh_ne hb9 (by rw [upd_ne n1]; exact upd_eq)
  simp -implicitDefEqProofs -proj only [go_sem, Nat.reduceBEq, Nat.reduceLT, Nat.reduceLeDiff, Nat.reduceAdd, Nat.reduceMul, ↓reduceIte, Int.reduceToNat, Int.reducePow, Int.reduceLT, Int.reduceLE, Int.reduceAdd, Int.reduceSub, Int.reduceMul, Int.reduceEq, Int.reduceNe, n1, n2, n3, n4, n5, n6, rowU_len]
  (repeat' (with_reducible refine VC_intro ?_ (fun h => ?_); (focus first | decide | omega); clear h; try simp -implicitDefEqProofs -proj only [go_sem, Nat.reduceBEq, Nat.reduceLT, Nat.reduceLeDiff, Nat.reduceAdd, Nat.reduceMul, ↓reduceIte, Int.reduceToNat, Int.reducePow, Int.reduceLT, Int.reduceLE, Int.reduceAdd, Int.reduceSub, Int.reduceMul, Int.reduceEq, Int.reduceNe, n1, n2, n3, n4, n5, n6, rowU_len]))
  refine LoopA_k (fun x : LoopX => x.i ≤ l.length ∧ x.l = fillN lo hi v l x.i ∧ (x.l ≠ [] → x.c ≠ b9 ∧ x.c ≠ b8)) 65 (fun x => [(15, slU l), (16, i64 l.length), (17, i64 x.i), (1, i64 lo), (2, i64 hi), (3, u64 v), (9, .ptr b9 0), (8, .ptr b8 0)]) (fun x => LHU b9 x.c x.cap x.l ++ [(b8, .box 31 [.nilsl 3])]) (fun x => l.length - x.i) ⟨0, 0, 0, []⟩ ⟨Nat.zero_le _, rfl, fun h => absurd rfl h⟩ rfl ?_ ?_ ?_
  · simp -implicitDefEqProofs -proj only [go_sem, Nat.reduceBEq, Nat.reduceLT, Nat.reduceLeDiff, Nat.reduceAdd, Nat.reduceMul, ↓reduceIte, Int.reduceToNat, Int.reducePow, Int.reduceLT, Int.reduceLE, Int.reduceAdd, Int.reduceSub, Int.reduceMul, Int.reduceEq, Int.reduceNe, AllAt, rowU_len]
  · simp -implicitDefEqProofs -proj only [go_sem, Nat.reduceBEq, Nat.reduceLT, Nat.reduceLeDiff, Nat.reduceAdd, Nat.reduceMul, ↓reduceIte, Int.reduceToNat, Int.reducePow, Int.reduceLT, Int.reduceLE, Int.reduceAdd, Int.reduceSub, Int.reduceMul, Int.reduceEq, Int.reduceNe, AllH, AllH_append, LHU, n1, n2, n3, n4, n5, n6]
  · rintro ⟨i, c, cap, R⟩ ⟨hi', hR, hc⟩
    simp -implicitDefEqProofs only [] at hi' hR hc
    have hS : LineSU (keepH (LHU b9 c cap R ++ [(b8, .box 31 [.nilsl 3])])) b9 c R [(b8, .box 31 [.nilsl 3])] :=
      LineSU.keep (fun h => (hc h).1) (fun p hp => by simp -implicitDefEqProofs only [List.mem_singleton] at hp; subst hp; exact ⟨n4, fun h e => (hc h).2 e.symm⟩) (by simp [keys])
    generalize hH : keepH (LHU b9 c cap R ++ [(b8, .box 31 [.nilsl 3])]) = H at *
    have hlen := fillN_len (lo := lo) (hi := hi) (v := v) (l := l) i
    rw [← hR] at hlen
    by_cases h : i < l.length
    · have hel := rowU_at h
      have hx : l[i]? = some l[i] := List.getElem?_eq_getElem h
      obtain ⟨q1, q2, q3⟩ := hb l[i] (List.getElem_mem h)
      generalize l[i] = x at *
      have hR' : fillR lo hi v R x = fillN lo hi v l (i + 1) := by rw [fillN, hx, hR]
      have fin : ∀ (H' : Heap) (c' : Nat) (t : TM), LineSU H' b9 c' (fillR lo hi v R x) [(b8, .box 31 [.nilsl 3])] → AllAt t [(15, slU l), (16, i64 l.length), (17, i64 ((i + 1 : Nat) : Int)), (1, i64 lo), (2, i64 hi), (3, u64 v), (9, .ptr b9 0), (8, .ptr b8 0)] →
          LoopQ (fun x : LoopX => x.i ≤ l.length ∧ x.l = fillN lo hi v l x.i ∧ (x.l ≠ [] → x.c ≠ b9 ∧ x.c ≠ b8)) (fun x => (⟨65, keepT [(15, slU l), (16, i64 l.length), (17, i64 x.i), (1, i64 lo), (2, i64 hi), (3, u64 v), (9, .ptr b9 0), (8, .ptr b8 0)], keepH (LHU b9 x.c x.cap x.l ++ [(b8, .box 31 [.nilsl 3])])⟩ : St)) (fun x => l.length - x.i) ⟨i, c, cap, R⟩
            (RunO Try.prog (finW [.cell 8 (some 1)] fun r' H' => NewV H' r' (lineU (fillN lo hi v l l.length))) [.blk 0, .code ((ACode.ops c_line_Fill_days_Set_r14).seq .ret)]) .normal ⟨65, t, H'⟩ := by
        intro H' c' t hS' hat
        obtain ⟨cap', ha, hc'⟩ := allH_LHU hS'.at_
        refine LoopQ_k ⟨i + 1, c', cap', fillR lo hi v R x⟩ ⟨by show i + 1 ≤ l.length; omega, hR', fun h => ⟨hc' h, fun e => (hS'.ne _ (List.mem_singleton.2 rfl)).2 h e.symm⟩⟩ (by show l.length - (i + 1) < l.length - i; omega) rfl hat ?_
        rw [AllH_append]
        exact ⟨ha, hS'.all⟩
      have hsucc := i64_succ (show i < 9223372036854775807 by omega)
      simp -implicitDefEqProofs -proj only [go_sem, Nat.reduceBEq, Nat.reduceLT, Nat.reduceLeDiff, Nat.reduceAdd, Nat.reduceMul, ↓reduceIte, Int.reduceToNat, Int.reducePow, Int.reduceLT, Int.reduceLE, Int.reduceAdd, Int.reduceSub, Int.reduceMul, Int.reduceEq, Int.reduceNe, decide_eq_true (show (i : Int) < l.length by omega)]
      refine ElemA_at _ (by omega) hel ?_
      simp -implicitDefEqProofs -proj only [go_sem, Nat.reduceBEq, Nat.reduceLT, Nat.reduceLeDiff, Nat.reduceAdd, Nat.reduceMul, ↓reduceIte, Int.reduceToNat, Int.reducePow, Int.reduceLT, Int.reduceLE, Int.reduceAdd, Int.reduceSub, Int.reduceMul, Int.reduceEq, Int.reduceNe]
      refine AllocA_intro (fun b11 hb11 => ?_)
      replace hb11 : H b11 = none := hb11
      have hS1 := hS.alloc (x := .box 55 [i64 x.f, i64 x.t, u64 x.v]) hb11
      obtain ⟨H1, hH1⟩ : ∃ H1, upd H b11 (some (.box 55 [i64 x.f, i64 x.t, u64 x.v])) = H1 := ⟨_, rfl⟩
      have e11 : H1 b11 = some (.box 55 [i64 x.f, i64 x.t, u64 x.v]) := by rw [← hH1]; exact upd_eq
      rw [hH1] at hS1
      simp -implicitDefEqProofs -proj only [go_sem, Nat.reduceBEq, Nat.reduceLT, Nat.reduceLeDiff, Nat.reduceAdd, Nat.reduceMul, ↓reduceIte, Int.reduceToNat, Int.reducePow, Int.reduceLT, Int.reduceLE, Int.reduceAdd, Int.reduceSub, Int.reduceMul, Int.reduceEq, Int.reduceNe, hH1, e11]
      have w1 : IntKind.i64.wrap (max x.f lo - 1) = max x.f lo - 1 := by rw [IntKind.wrap_i64]; omega
      have w2 : IntKind.i64.wrap (min x.t hi + 1) = min x.t hi + 1 := by rw [IntKind.wrap_i64]; omega
      by_cases hc1 : min x.t hi < max x.f lo
      · have ef : fillR lo hi v R x = putR R x := by unfold fillR; exact if_pos hc1
        simp -implicitDefEqProofs -proj only [go_sem, Nat.reduceBEq, Nat.reduceLT, Nat.reduceLeDiff, Nat.reduceAdd, Nat.reduceMul, ↓reduceIte, Int.reduceToNat, Int.reducePow, Int.reduceLT, Int.reduceLE, Int.reduceAdd, Int.reduceSub, Int.reduceMul, Int.reduceEq, Int.reduceNe, decide_eq_true hc1, e11]
        refine CallA_w (putU_s (r := x) hS1 (by omega)) ?_
        rintro r2 H2 ⟨c2, hS2⟩
        have e2 : H2 b11 = some (.box 55 [i64 x.f, i64 x.t, u64 x.v]) := hS2.all.1
        simp -implicitDefEqProofs -proj only [go_sem, Nat.reduceBEq, Nat.reduceLT, Nat.reduceLeDiff, Nat.reduceAdd, Nat.reduceMul, ↓reduceIte, Int.reduceToNat, Int.reducePow, Int.reduceLT, Int.reduceLE, Int.reduceAdd, Int.reduceSub, Int.reduceMul, Int.reduceEq, Int.reduceNe, hsucc]
        refine fin _ c2 _ ?_ ?_
        · rw [ef]; exact hS2.sub (fun p hp => List.mem_cons_of_mem _ hp)
        · simp -implicitDefEqProofs -proj only [go_sem, Nat.reduceBEq, Nat.reduceLT, Nat.reduceLeDiff, Nat.reduceAdd, Nat.reduceMul, ↓reduceIte, Int.reduceToNat, Int.reducePow, Int.reduceLT, Int.reduceLE, Int.reduceAdd, Int.reduceSub, Int.reduceMul, Int.reduceEq, Int.reduceNe, AllAt]
      · by_cases hc2 : x.f < max x.f lo
        · simp -implicitDefEqProofs -proj only [go_sem, Nat.reduceBEq, Nat.reduceLT, Nat.reduceLeDiff, Nat.reduceAdd, Nat.reduceMul, ↓reduceIte, Int.reduceToNat, Int.reducePow, Int.reduceLT, Int.reduceLE, Int.reduceAdd, Int.reduceSub, Int.reduceMul, Int.reduceEq, Int.reduceNe, decide_eq_false hc1, decide_eq_true hc2, e11, w1, w2]
          refine CallA_w (putU_s (r := ⟨x.f, max x.f lo - 1, x.v⟩) hS1 (by omega)) ?_
          rintro r2 H2 ⟨c2, hS2⟩
          have e2 : H2 b11 = some (.box 55 [i64 x.f, i64 x.t, u64 x.v]) := hS2.all.1
          have k2 := @putR_len R ⟨x.f, max x.f lo - 1, x.v⟩
          simp -implicitDefEqProofs -proj only [go_sem, Nat.reduceBEq, Nat.reduceLT, Nat.reduceLeDiff, Nat.reduceAdd, Nat.reduceMul, ↓reduceIte, Int.reduceToNat, Int.reducePow, Int.reduceLT, Int.reduceLE, Int.reduceAdd, Int.reduceSub, Int.reduceMul, Int.reduceEq, Int.reduceNe, e2, w1, w2]
          refine CallA_w (putU_s (r := ⟨max x.f lo, min x.t hi, v⟩) hS2 (by omega)) ?_
          rintro r3 H3 ⟨c3, hS3⟩
          have e3 : H3 b11 = some (.box 55 [i64 x.f, i64 x.t, u64 x.v]) := hS3.all.1
          have k3 := @putR_len (putR R ⟨x.f, max x.f lo - 1, x.v⟩) ⟨max x.f lo, min x.t hi, v⟩
          by_cases hc3 : min x.t hi < x.t
          · simp -implicitDefEqProofs -proj only [go_sem, Nat.reduceBEq, Nat.reduceLT, Nat.reduceLeDiff, Nat.reduceAdd, Nat.reduceMul, ↓reduceIte, Int.reduceToNat, Int.reducePow, Int.reduceLT, Int.reduceLE, Int.reduceAdd, Int.reduceSub, Int.reduceMul, Int.reduceEq, Int.reduceNe, e3, w1, w2, decide_eq_true hc3]
            refine CallA_w (putU_s (r := ⟨min x.t hi + 1, x.t, x.v⟩) hS3 (by omega)) ?_
            rintro r4 H4 ⟨c4, hS4⟩
            have e4 : H4 b11 = some (.box 55 [i64 x.f, i64 x.t, u64 x.v]) := hS4.all.1
            simp -implicitDefEqProofs -proj only [go_sem, Nat.reduceBEq, Nat.reduceLT, Nat.reduceLeDiff, Nat.reduceAdd, Nat.reduceMul, ↓reduceIte, Int.reduceToNat, Int.reducePow, Int.reduceLT, Int.reduceLE, Int.reduceAdd, Int.reduceSub, Int.reduceMul, Int.reduceEq, Int.reduceNe, hsucc]
            refine fin _ c4 _ ?_ ?_
            · have ef : fillR lo hi v R x = putR (putR (putR R ⟨x.f, max x.f lo - 1, x.v⟩) ⟨max x.f lo, min x.t hi, v⟩) ⟨min x.t hi + 1, x.t, x.v⟩ := by unfold fillR; simp -implicitDefEqProofs only []; rw [if_neg (by omega), if_pos hc2, if_pos hc3]
              rw [ef]; exact hS4.sub (fun p hp => List.mem_cons_of_mem _ hp)
            · simp -implicitDefEqProofs -proj only [go_sem, Nat.reduceBEq, Nat.reduceLT, Nat.reduceLeDiff, Nat.reduceAdd, Nat.reduceMul, ↓reduceIte, Int.reduceToNat, Int.reducePow, Int.reduceLT, Int.reduceLE, Int.reduceAdd, Int.reduceSub, Int.reduceMul, Int.reduceEq, Int.reduceNe, AllAt]
          · simp -implicitDefEqProofs -proj only [go_sem, Nat.reduceBEq, Nat.reduceLT, Nat.reduceLeDiff, Nat.reduceAdd, Nat.reduceMul, ↓reduceIte, Int.reduceToNat, Int.reducePow, Int.reduceLT, Int.reduceLE, Int.reduceAdd, Int.reduceSub, Int.reduceMul, Int.reduceEq, Int.reduceNe, e3, w1, w2, decide_eq_false hc3, hsucc]
            refine fin _ c3 _ ?_ ?_
            · have ef : fillR lo hi v R x = (putR (putR R ⟨x.f, max x.f lo - 1, x.v⟩) ⟨max x.f lo, min x.t hi, v⟩) := by unfold fillR; simp -implicitDefEqProofs only []; rw [if_neg (by omega), if_pos hc2, if_neg hc3]
              rw [ef]; exact hS3.sub (fun p hp => List.mem_cons_of_mem _ hp)
            · simp -implicitDefEqProofs -proj only [go_sem, Nat.reduceBEq, Nat.reduceLT, Nat.reduceLeDiff, Nat.reduceAdd, Nat.reduceMul, ↓reduceIte, Int.reduceToNat, Int.reducePow, Int.reduceLT, Int.reduceLE, Int.reduceAdd, Int.reduceSub, Int.reduceMul, Int.reduceEq, Int.reduceNe, AllAt]
        · simp -implicitDefEqProofs -proj only [go_sem, Nat.reduceBEq, Nat.reduceLT, Nat.reduceLeDiff, Nat.reduceAdd, Nat.reduceMul, ↓reduceIte, Int.reduceToNat, Int.reducePow, Int.reduceLT, Int.reduceLE, Int.reduceAdd, Int.reduceSub, Int.reduceMul, Int.reduceEq, Int.reduceNe, decide_eq_false hc1, decide_eq_false hc2, e11, w1, w2]
          refine CallA_w (putU_s (r := ⟨max x.f lo, min x.t hi, v⟩) hS1 (by omega)) ?_
          rintro r3 H3 ⟨c3, hS3⟩
          have e3 : H3 b11 = some (.box 55 [i64 x.f, i64 x.t, u64 x.v]) := hS3.all.1
          have k3 := @putR_len R ⟨max x.f lo, min x.t hi, v⟩
          by_cases hc3 : min x.t hi < x.t
          · simp -implicitDefEqProofs -proj only [go_sem, Nat.reduceBEq, Nat.reduceLT, Nat.reduceLeDiff, Nat.reduceAdd, Nat.reduceMul, ↓reduceIte, Int.reduceToNat, Int.reducePow, Int.reduceLT, Int.reduceLE, Int.reduceAdd, Int.reduceSub, Int.reduceMul, Int.reduceEq, Int.reduceNe, e3, w1, w2, decide_eq_true hc3]
            refine CallA_w (putU_s (r := ⟨min x.t hi + 1, x.t, x.v⟩) hS3 (by omega)) ?_
            rintro r4 H4 ⟨c4, hS4⟩
            have e4 : H4 b11 = some (.box 55 [i64 x.f, i64 x.t, u64 x.v]) := hS4.all.1
            simp -implicitDefEqProofs -proj only [go_sem, Nat.reduceBEq, Nat.reduceLT, Nat.reduceLeDiff, Nat.reduceAdd, Nat.reduceMul, ↓reduceIte, Int.reduceToNat, Int.reducePow, Int.reduceLT, Int.reduceLE, Int.reduceAdd, Int.reduceSub, Int.reduceMul, Int.reduceEq, Int.reduceNe, hsucc]
            refine fin _ c4 _ ?_ ?_
            · have ef : fillR lo hi v R x = putR (putR R ⟨max x.f lo, min x.t hi, v⟩) ⟨min x.t hi + 1, x.t, x.v⟩ := by unfold fillR; simp -implicitDefEqProofs only []; rw [if_neg (by omega), if_neg hc2, if_pos hc3]
              rw [ef]; exact hS4.sub (fun p hp => List.mem_cons_of_mem _ hp)
            · simp -implicitDefEqProofs -proj only [go_sem, Nat.reduceBEq, Nat.reduceLT, Nat.reduceLeDiff, Nat.reduceAdd, Nat.reduceMul, ↓reduceIte, Int.reduceToNat, Int.reducePow, Int.reduceLT, Int.reduceLE, Int.reduceAdd, Int.reduceSub, Int.reduceMul, Int.reduceEq, Int.reduceNe, AllAt]
          · simp -implicitDefEqProofs -proj only [go_sem, Nat.reduceBEq, Nat.reduceLT, Nat.reduceLeDiff, Nat.reduceAdd, Nat.reduceMul, ↓reduceIte, Int.reduceToNat, Int.reducePow, Int.reduceLT, Int.reduceLE, Int.reduceAdd, Int.reduceSub, Int.reduceMul, Int.reduceEq, Int.reduceNe, e3, w1, w2, decide_eq_false hc3, hsucc]
            refine fin _ c3 _ ?_ ?_
            · have ef : fillR lo hi v R x = (putR R ⟨max x.f lo, min x.t hi, v⟩) := by unfold fillR; simp -implicitDefEqProofs only []; rw [if_neg (by omega), if_neg hc2, if_neg hc3]
              rw [ef]; exact hS3.sub (fun p hp => List.mem_cons_of_mem _ hp)
            · simp -implicitDefEqProofs -proj only [go_sem, Nat.reduceBEq, Nat.reduceLT, Nat.reduceLeDiff, Nat.reduceAdd, Nat.reduceMul, ↓reduceIte, Int.reduceToNat, Int.reducePow, Int.reduceLT, Int.reduceLE, Int.reduceAdd, Int.reduceSub, Int.reduceMul, Int.reduceEq, Int.reduceNe, AllAt]
    · have hi'' : i = l.length := by omega
      subst hi''
      obtain ⟨v', hv, hl, _⟩ := hS.at_.read
      have h8 := hS.all.1
      simp -implicitDefEqProofs -proj only [go_sem, Nat.reduceBEq, Nat.reduceLT, Nat.reduceLeDiff, Nat.reduceAdd, Nat.reduceMul, ↓reduceIte, Int.reduceToNat, Int.reducePow, Int.reduceLT, Int.reduceLE, Int.reduceAdd, Int.reduceSub, Int.reduceMul, Int.reduceEq, Int.reduceNe, decide_eq_false (show ¬ (l.length : Int) < l.length by omega), hv, h8]
      obtain ⟨v2, hv2, hl2, _⟩ := (hS.at_.upd (k := b8) (x := some (.box 31 [v'])) n4 (fun h e => (hc h).2 e.symm)).read
      rw [upd_ne n4, hv] at hv2
      cases hv2
      rw [show fillN lo hi v l l.length = R from hR.symm]
      exact lend_agg1U hl2
theorem FlatU_new {lo hi v : Int} : NewW Try.prog f_line_Flat_days_Set [i64 lo, i64 hi, u64 v] (lineU (if hi < lo then [] else [⟨lo, hi, v⟩])) := by
  refine CallW_intro comp_line_Flat_days_Set (by simp) ?_
  simp -implicitDefEqProofs -proj only [go_sem, Nat.reduceBEq, Nat.reduceLT, Nat.reduceLeDiff, Nat.reduceAdd, Nat.reduceMul, ↓reduceIte, Int.reduceToNat, Int.reducePow, Int.reduceLT, Int.reduceLE, Int.reduceAdd, Int.reduceSub, Int.reduceMul, Int.reduceEq, Int.reduceNe]
  refine AllocA_intro (fun b6 hb6 => ?_)
  by_cases h : hi < lo
  · rw [if_pos h]
    simp -implicitDefEqProofs -proj only [go_sem, Nat.reduceBEq, Nat.reduceLT, Nat.reduceLeDiff, Nat.reduceAdd, Nat.reduceMul, ↓reduceIte, Int.reduceToNat, Int.reducePow, Int.reduceLT, Int.reduceLE, Int.reduceAdd, Int.reduceSub, Int.reduceMul, Int.reduceEq, Int.reduceNe, decide_eq_true h]
    exact lend_agg1U (.nilsl _ _)
  · rw [if_neg h]
    simp -implicitDefEqProofs -proj only [go_sem, Nat.reduceBEq, Nat.reduceLT, Nat.reduceLeDiff, Nat.reduceAdd, Nat.reduceMul, ↓reduceIte, Int.reduceToNat, Int.reducePow, Int.reduceLT, Int.reduceLE, Int.reduceAdd, Int.reduceSub, Int.reduceMul, Int.reduceEq, Int.reduceNe, decide_eq_false h]
    refine AllocR_intro (fun bs hs => ?_)
    replace hs : upd Heap.none b6 _ bs = none := hs
    obtain ⟨n1, n2⟩ := fresh_ne hs upd_eq
    simp -implicitDefEqProofs -proj only [go_sem, Nat.reduceBEq, Nat.reduceLT, Nat.reduceLeDiff, Nat.reduceAdd, Nat.reduceMul, ↓reduceIte, Int.reduceToNat, Int.reducePow, Int.reduceLT, Int.reduceLE, Int.reduceAdd, Int.reduceSub, Int.reduceMul, Int.reduceEq, Int.reduceNe, n1, n2]
    refine lend_agg1U (new_ownU (xs := rowU [⟨lo, hi, v⟩]) (by rw [upd_ne (by assumption), upd_eq]; rfl) rfl rowU_scal)
abbrev runArgsU (l : List Run) : List (List AV) := l.map fun r => [r.avU]
theorem rowU_idx {l : List Run} {i : Nat} (h : i < l.length) : (rowU l)[((i : Int)).toNat]? = some [.int .i64 l[i].f, .int .i64 l[i].t, .int .u64 l[i].v] := rowU_at h
theorem Values1U_iter {b : Nat} {l : List Run} (hl : l.length ≤ 1000000) : IterW Try.prog f_slices_Values_days_Set_1 [.ptr b 0] [(b, .box 29 [slU l])] (runArgsU l) := by
  intro y H J X hA hS hY h0
  refine CallW_intro comp_slices_Values_days_Set_1 (by simp) ?_
  have hb : H b = some (.box 29 [slU l]) := (hA [] H h0).1
  simp -implicitDefEqProofs -proj only [go_sem, Nat.reduceBEq, Nat.reduceLT, Nat.reduceLeDiff, Nat.reduceAdd, Nat.reduceMul, ↓reduceIte, Int.reduceToNat, Int.reducePow, Int.reduceLT, Int.reduceLE, Int.reduceAdd, Int.reduceSub, Int.reduceMul, Int.reduceEq, Int.reduceNe, hb, rowU_len]
  refine LoopA_rule (fun x : Nat × Heap => x.1 ≤ l.length ∧ J (runArgsU (l.take x.1)) x.2) (fun x => ⟨16, keepT [(0, .yld y), (5, slU l), (6, i64 l.length), (7, i64 x.1)], x.2⟩) (fun x => l.length - x.1) (0, H) ⟨Nat.zero_le _, h0⟩ (Abst_keep rfl ?_ (fun k => .inr rfl)) ?_
  · simp -implicitDefEqProofs -proj only [go_sem, Nat.reduceBEq, Nat.reduceLT, Nat.reduceLeDiff, Nat.reduceAdd, Nat.reduceMul, ↓reduceIte, Int.reduceToNat, Int.reducePow, Int.reduceLT, Int.reduceLE, Int.reduceAdd, Int.reduceSub, Int.reduceMul, Int.reduceEq, Int.reduceNe, AllAt]
  rintro ⟨i, H1⟩ ⟨hi, hj⟩
  simp -implicitDefEqProofs only [] at hi hj
  by_cases h : i < l.length
  · have hel := rowU_idx h
    have hxs : runArgsU l = runArgsU (l.take i) ++ [(l[i]).avU] :: runArgsU (l.drop (i + 1)) := by
      rw [← List.map_cons (f := fun r : Run => [r.avU]), ← List.map_append, ← List.drop_eq_getElem_cons h, List.take_append_drop]
    have htk : runArgsU (l.take i) ++ [[(l[i]).avU]] = runArgsU (l.take (i + 1)) := by simp -implicitDefEqProofs only [runArgsU]; rw [List.take_succ_eq_append_getElem h, List.map_append]; rfl
    generalize l[i] = r at *
    simp -implicitDefEqProofs -proj only [go_sem, Nat.reduceBEq, Nat.reduceLT, Nat.reduceLeDiff, Nat.reduceAdd, Nat.reduceMul, ↓reduceIte, Int.reduceToNat, Int.reducePow, Int.reduceLT, Int.reduceLE, Int.reduceAdd, Int.reduceSub, Int.reduceMul, Int.reduceEq, Int.reduceNe, decide_eq_true (show (i : Int) < l.length by omega)]
    refine ElemA_at _ (by omega) hel ?_
    simp -implicitDefEqProofs -proj only [go_sem, Nat.reduceBEq, Nat.reduceLT, Nat.reduceLeDiff, Nat.reduceAdd, Nat.reduceMul, ↓reduceIte, Int.reduceToNat, Int.reducePow, Int.reduceLT, Int.reduceLE, Int.reduceAdd, Int.reduceSub, Int.reduceMul, Int.reduceEq, Int.reduceNe]
    refine AllocA_intro (fun b4 hb4 => ?_)
    simp -implicitDefEqProofs -proj only [go_sem, Nat.reduceBEq, Nat.reduceLT, Nat.reduceLeDiff, Nat.reduceAdd, Nat.reduceMul, ↓reduceIte, Int.reduceToNat, Int.reducePow, Int.reduceLT, Int.reduceLE, Int.reduceAdd, Int.reduceSub, Int.reduceMul, Int.reduceEq, Int.reduceNe]
    refine YldA_w (hY _ _ _ _ hxs (hS _ _ b4 _ hj hb4)) ?_
    rintro v H2 (⟨rfl, hj2⟩ | ⟨rfl, hx⟩)
    · rw [htk] at hj2
      simp -implicitDefEqProofs -proj only [go_sem, Nat.reduceBEq, Nat.reduceLT, Nat.reduceLeDiff, Nat.reduceAdd, Nat.reduceMul, ↓reduceIte, Int.reduceToNat, Int.reducePow, Int.reduceLT, Int.reduceLE, Int.reduceAdd, Int.reduceSub, Int.reduceMul, Int.reduceEq, Int.reduceNe]
      refine LoopQ_next (i + 1, H2) ⟨by show i + 1 ≤ l.length; omega, hj2⟩ (by show l.length - (i + 1) < l.length - i; omega) (Abst_keep rfl ?_ (fun k => .inr rfl))
      simp -implicitDefEqProofs -proj only [go_sem, Nat.reduceBEq, Nat.reduceLT, Nat.reduceLeDiff, Nat.reduceAdd, Nat.reduceMul, ↓reduceIte, Int.reduceToNat, Int.reducePow, Int.reduceLT, Int.reduceLE, Int.reduceAdd, Int.reduceSub, Int.reduceMul, Int.reduceEq, Int.reduceNe, AllAt, i64_succ (show i < 9223372036854775807 by omega)]
    · simp -implicitDefEqProofs -proj only [go_sem, Nat.reduceBEq, Nat.reduceLT, Nat.reduceLeDiff, Nat.reduceAdd, Nat.reduceMul, ↓reduceIte, Int.reduceToNat, Int.reducePow, Int.reduceLT, Int.reduceLE, Int.reduceAdd, Int.reduceSub, Int.reduceMul, Int.reduceEq, Int.reduceNe]
      exact .inr hx
  · have hi' : i = l.length := by omega
    subst hi'
    rw [List.take_length] at hj
    simp -implicitDefEqProofs -proj only [go_sem, Nat.reduceBEq, Nat.reduceLT, Nat.reduceLeDiff, Nat.reduceAdd, Nat.reduceMul, ↓reduceIte, Int.reduceToNat, Int.reducePow, Int.reduceLT, Int.reduceLE, Int.reduceAdd, Int.reduceSub, Int.reduceMul, Int.reduceEq, Int.reduceNe, decide_eq_false (show ¬ (l.length : Int) < l.length by omega)]
    exact .inl hj
theorem ValuesU_ok {H : Heap} {l : List Run} : CallW Try.prog f_slices_Values_days_Set_ [slU l] H fun r H' => ∃ b, r = .fn f_slices_Values_days_Set_1 [.ptr b 0] ∧ H b = none ∧ H' = upd H b (some (.box 29 [slU l])) := by
  refine CallW_intro comp_slices_Values_days_Set_ (by simp) ?_
  simp -implicitDefEqProofs -proj only [go_sem, Nat.reduceBEq, Nat.reduceLT, Nat.reduceLeDiff, Nat.reduceAdd, Nat.reduceMul, ↓reduceIte, Int.reduceToNat, Int.reducePow, Int.reduceLT, Int.reduceLE, Int.reduceAdd, Int.reduceSub, Int.reduceMul, Int.reduceEq, Int.reduceNe]
  refine AllocA_intro (fun b hb => ?_)
  simp -implicitDefEqProofs -proj only [go_sem, Nat.reduceBEq, Nat.reduceLT, Nat.reduceLeDiff, Nat.reduceAdd, Nat.reduceMul, ↓reduceIte, Int.reduceToNat, Int.reducePow, Int.reduceLT, Int.reduceLE, Int.reduceAdd, Int.reduceSub, Int.reduceMul, Int.reduceEq, Int.reduceNe]
  exact ⟨b, rfl, hb, rfl⟩
theorem RunsU_ok {H : Heap} {l : List Run} : CallW Try.prog f_line_Line_days_Set_Runs [lineU l] H fun r H' => ∃ b, r = .fn f_slices_Values_days_Set_1 [.ptr b 0] ∧ H b = none ∧ H' b = some (.box 29 [slU l]) ∧ ∀ k x, H k = some x → H' k = some x := by
  refine CallW_intro comp_line_Line_days_Set_Runs (by simp) ?_
  simp -implicitDefEqProofs -proj only [go_sem, Nat.reduceBEq, Nat.reduceLT, Nat.reduceLeDiff, Nat.reduceAdd, Nat.reduceMul, ↓reduceIte, Int.reduceToNat, Int.reducePow, Int.reduceLT, Int.reduceLE, Int.reduceAdd, Int.reduceSub, Int.reduceMul, Int.reduceEq, Int.reduceNe]
  refine AllocA_intro (fun b1 hb1 => ?_)
  simp -implicitDefEqProofs -proj only [go_sem, Nat.reduceBEq, Nat.reduceLT, Nat.reduceLeDiff, Nat.reduceAdd, Nat.reduceMul, ↓reduceIte, Int.reduceToNat, Int.reducePow, Int.reduceLT, Int.reduceLE, Int.reduceAdd, Int.reduceSub, Int.reduceMul, Int.reduceEq, Int.reduceNe]
  refine CallA_w ValuesU_ok ?_
  rintro r H' ⟨b, rfl, hb, rfl⟩
  simp -implicitDefEqProofs -proj only [go_sem, Nat.reduceBEq, Nat.reduceLT, Nat.reduceLeDiff, Nat.reduceAdd, Nat.reduceMul, ↓reduceIte, Int.reduceToNat, Int.reducePow, Int.reduceLT, Int.reduceLE, Int.reduceAdd, Int.reduceSub, Int.reduceMul, Int.reduceEq, Int.reduceNe]
  have hb' : upd H b1 (some (.box 31 [slU l])) b = none := hb
  have hne : ¬ b1 = b := fun e => by rw [upd_get, if_pos e] at hb'; cases hb'
  refine ⟨b, rfl, by rw [upd_ne hne] at hb'; exact hb', by rw [if_pos rfl], fun k x hk => ?_⟩
  rw [upd_ne hne] at hb'
  obtain ⟨n1, n2⟩ := fresh_ne hb1 hk
  obtain ⟨n3, n4⟩ := fresh_ne hb' hk
  simp -implicitDefEqProofs -proj only [go_sem, Nat.reduceBEq, Nat.reduceLT, Nat.reduceLeDiff, Nat.reduceAdd, Nat.reduceMul, ↓reduceIte, Int.reduceToNat, Int.reducePow, Int.reduceLT, Int.reduceLE, Int.reduceAdd, Int.reduceSub, Int.reduceMul, Int.reduceEq, Int.reduceNe, n1, n3, hk]
def spanU : List Run → AV
  | [] => .tup [i64 0, i64 0, bv false]
  | r :: R => .tup [i64 r.f, i64 ((r :: R).getLast (by simp)).t, bv true]
theorem SpanU_ok {R : List Run} (hl : R.length ≤ 1000000) : DataW Try.prog f_line_Line_days_Set_Span [lineU R] (spanU R) := by
  refine CallW_intro comp_line_Line_days_Set_Span (by simp) ?_
  simp -implicitDefEqProofs -proj only [go_sem, Nat.reduceBEq, Nat.reduceLT, Nat.reduceLeDiff, Nat.reduceAdd, Nat.reduceMul, ↓reduceIte, Int.reduceToNat, Int.reducePow, Int.reduceLT, Int.reduceLE, Int.reduceAdd, Int.reduceSub, Int.reduceMul, Int.reduceEq, Int.reduceNe]
  refine AllocA_intro (fun b hb => ?_)
  by_cases h : R = []
  · subst h
    simp -implicitDefEqProofs -proj only [go_sem, Nat.reduceBEq, Nat.reduceLT, Nat.reduceLeDiff, Nat.reduceAdd, Nat.reduceMul, ↓reduceIte, Int.reduceToNat, Int.reducePow, Int.reduceLT, Int.reduceLE, Int.reduceAdd, Int.reduceSub, Int.reduceMul, Int.reduceEq, Int.reduceNe, rowU_len]
    exact LendV_eq rfl
  · have hlen : 0 < R.length := List.length_pos_iff.2 h
    have hw : IntKind.i64.wrap ((R.length : Int) - 1) = ((R.length - 1 : Nat) : Int) := by rw [IntKind.wrap_i64]; omega
    have e0 := rowU_idx (l := R) (i := 0) hlen
    have e1 := rowU_idx (l := R) (i := R.length - 1) (by omega)
    simp -implicitDefEqProofs -proj only [go_sem, Nat.reduceBEq, Nat.reduceLT, Nat.reduceLeDiff, Nat.reduceAdd, Nat.reduceMul, ↓reduceIte, Int.reduceToNat, Int.reducePow, Int.reduceLT, Int.reduceLE, Int.reduceAdd, Int.reduceSub, Int.reduceMul, Int.reduceEq, Int.reduceNe, rowU_len, decide_eq_false (show ¬ (R.length : Int) = 0 by omega), hw]
    refine ElemA_at _ (by omega) e0 ?_
    simp -implicitDefEqProofs -proj only [go_sem, Nat.reduceBEq, Nat.reduceLT, Nat.reduceLeDiff, Nat.reduceAdd, Nat.reduceMul, ↓reduceIte, Int.reduceToNat, Int.reducePow, Int.reduceLT, Int.reduceLE, Int.reduceAdd, Int.reduceSub, Int.reduceMul, Int.reduceEq, Int.reduceNe, rowU_len, hw]
    refine ElemA_at _ (by omega) e1 ?_
    simp -implicitDefEqProofs -proj only [go_sem, Nat.reduceBEq, Nat.reduceLT, Nat.reduceLeDiff, Nat.reduceAdd, Nat.reduceMul, ↓reduceIte, Int.reduceToNat, Int.reducePow, Int.reduceLT, Int.reduceLE, Int.reduceAdd, Int.reduceSub, Int.reduceMul, Int.reduceEq, Int.reduceNe]
    obtain ⟨r, R', rfl⟩ := List.exists_cons_of_ne_nil h
    refine LendV_eq ?_
    simp [spanU, List.getLast_eq_getElem]
end Go.Proofs.Ytmkennmppdmnhaa.Abs
