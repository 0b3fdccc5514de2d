/- The document's line, and whether a line is it. No claim stands here. -/
import Derived.Test.YtmkennmppdmnhaaKIter14
import Derived.Test.YtmkennmppdmnhaaKRuns14
set_option linter.unusedSimpArgs false
set_option linter.unusedVariables false
namespace Go.Proofs.Ytmkennmppdmnhaa.Abs
open Go Go.RowKit Go.Proofs
attribute [local go_sem] RunC_seq AF_n AF_r AF_b St_n St_t St_H Fst_mk Snd_mk RunC_ops RunC_cond RunC_block RunC_loop RunC_exit RunC_ret RunC_skip RunO_nil RunO_code RunO_code_ret RunO_code_exit RunO_blk RunO_blk_ret RunO_blk_exit RunL_nil RunL_guard GuardA_tt GuardA_ff GuardA_tf GuardA_ft GuardA_void CondA_t CondA_f PickA_t PickA_f RunL_mov RunL_pick RunL_alloc RunL_box RunL_load LoadA_ptr LoadB_1 LoadB_n LoadA_dptr LoadA_dptr_n RunL_store StoreA_ptr StoreB_box RunL_bin Bin_add Bin_sub Bin_mul Bin_quo Bin_rem Bin_shl Bin_shr Bin_andI Bin_orI Bin_xorI Bin_eql Bin_neq Bin_lss Bin_leq Bin_gtr Bin_geq RunL_binb Bin_beql Bin_bneq RunL_un UnA_not UnA_neg RunL_conv convV MapA_some RunL_nilCheck nilV RunL_mkfn RunL_fieldAddr faV RunL_field FieldA_1 FieldA_n RunL_elemAddr EAddrA_sl EAddrA_own EptrA_eq RunL_build BuildA_some RunL_extract ExtA_eq RunL_len lenV_sl lenV_nilsl lenV_own RunL_slen RunL_idxStr IdxSA_eq slenV RunL_minmax mmV minmaxL RunL_call RunL_callv CallvA_fn putS ev evL evO evP eqK eqKs EqB_agg RunL_eqAgg EqA_t EqA_f evQ buildC fits_agg cellsAV_agg fits_d cellsAV_d fits_nilp cellsAV_nilp fits_nilsl cellsAV_nilsl fits_nilfn cellsAV_nilfn fits_ptr cellsAV_ptr fits_eptr cellsAV_eptr fits_dptr cellsAV_dptr fits_own cellsAV_own fits_fn cellsAV_fn rowV_fits rowV_cells rowV_len lenAV setSeg nth seg mapD repeatL putT_get upd_get argT keepT_cons keepT_nil keepH_cons keepH_nil cond_true cond_false VC_true finW resW resL resOne LoopQ_exit LoopQ_ret List.cons_append List.nil_append Bool.not_true Bool.not_false Bool.and_true Bool.and_self Nat.lt_add_left_iff_pos Nat.zero_add Nat.add_zero List.drop_succ_cons List.drop_zero List.take_succ_cons List.take_zero beq_self_eq_true Bool.false_eq_true RunC_dops RunL_loadS RunL_loadD LoadDA_dptr RunL_storeS StoreSA_ptr RunL_pcall RunL_pcallv PCallvA_fn newsOk and_self and_true true_and loadW_ptr LoadK_1 LoadK_n upd_upd RunL_buildSlice BSliceA_some RunL_buildSliceD frzL frz cutL LoadA_eptr LoadE_row RunL_append RunL_slice SliceA_sl StoreA_eptr List.length_cons List.length_nil Nat.min_def Int.cast_ofNat_Int Int.natCast_zero Int.natCast_one decide_true decide_false List.getElem?_cons_zero List.getElem?_cons_succ RunC_rangef CallvA_yld putL_nil putL_cons RangeQ_exit RangeQ_ret
abbrev refV (f : Int) (l : List Int) : AV := .agg [i64 f, slI l]
def refAt (f : Int) (l : List Int) (x : Int) : Option Int := if x < f ∨ (l.length : Int) ≤ x - f then none else some (l.getD (x - f).toNat 0)
def spanV : List Run → AV
  | [] => .tup [i64 0, i64 0, bv false]
  | r :: R => .tup [i64 r.f, i64 ((r :: R).getLast (by simp)).t, bv true]
theorem putR_last {R : List Run} {r : Run} : ∃ q, (putR R r).getLast? = some q ∧ q.v = r.v ∧ q.t = r.t := by
  unfold putR
  split
  · next q hq =>
    split
    · next hv => exact ⟨{ q with t := r.t }, by rw [List.getLast?_append]; rfl, hv, rfl⟩
    · exact ⟨r, by rw [List.getLast?_append]; rfl, rfl, rfl⟩
  · exact ⟨r, rfl, rfl, rfl⟩
theorem runsN_last {f : Int} {l : List Int} {i : Nat} : ∃ q, (runsN f l (i + 1)).getLast? = some q ∧ q.v = l.getD i 0 ∧ q.t = f + i := putR_last
theorem FwdOK.out {val : Int → Int} {hi x : Int} : ∀ {R : List Run} {lo : Int}, FwdOK val lo hi R → (x < lo ∨ hi ≤ x) → atF R x = none
  | [], lo, h, _ => rfl
  | r :: R, lo, h, h1 => by
    obtain ⟨g1, g2, g3, g4, g5⟩ := h
    have := g5.le
    rw [atF_cons]
    by_cases ht : r.t < x
    · rw [if_pos ht]; exact FwdOK.out g5 (.inr (by omega))
    · rw [if_neg ht, if_neg (by omega)]
theorem at_ref {f : Int} {l : List Int} (x : Int) : atF (runs f l) x = refAt f l x := by
  have h := runsN_ok f l l.length
  unfold refAt
  split
  · next hc => exact h.out (by omega)
  · next hc => exact h.at' (by omega) (by omega)
theorem FwdOK.ends {val : Int → Int} {hi : Int} : ∀ {R : List Run} {lo : Int} (hr : R ≠ []), FwdOK val lo hi R → (R.head hr).f = lo ∧ (R.getLast hr).t = hi - 1
  | [r], lo, _, h => ⟨h.1, by have : r.t + 1 = hi := h.2.2.2.2; show r.t = hi - 1; omega⟩
  | r :: s :: R, lo, _, h => ⟨h.1, (FwdOK.ends (R := s :: R) (by simp) h.2.2.2.2).2⟩
theorem span_runs {f : Int} {l : List Int} (hl : l ≠ []) : spanV (runs f l) = .tup [i64 f, i64 (f + l.length - 1), bv true] ∧ runs f l ≠ [] := by
  have h := runsN_ok f l l.length
  have hne : runs f l ≠ [] := by
    obtain ⟨x, l', rfl⟩ := List.exists_cons_of_ne_nil hl
    exact putR_ne
  refine ⟨?_, hne⟩
  have he := FwdOK.ends hne h
  obtain ⟨r, R, hR⟩ := List.exists_cons_of_ne_nil hne
  have hR' : runs f l = r :: R := hR
  simp -implicitDefEqProofs only [hR'] at he ⊢
  simp -implicitDefEqProofs only [List.head_cons] at he
  rw [spanV, he.1, he.2]
end Go.Proofs.Ytmkennmppdmnhaa.Abs
