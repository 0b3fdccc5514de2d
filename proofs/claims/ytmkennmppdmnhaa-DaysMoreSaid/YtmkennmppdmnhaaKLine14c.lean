/- Contracts of the package line: what comes of a line's values, of two lines'. No claim stands here. -/
import Derived.Test.YtmkennmppdmnhaaKLine14b
set_option linter.unusedSimpArgs false
set_option linter.unusedVariables false
namespace Go.Proofs.Ytmkennmppdmnhaa.Abs
open Go Go.RowKit Go.Proofs
attribute [local go_sem] RunC_seq AF_n AF_r AF_b St_n St_t St_H Fst_mk Snd_mk RunC_ops RunC_cond RunC_block RunC_loop RunC_exit RunC_ret RunC_skip RunO_nil RunO_code RunO_code_ret RunO_code_exit RunO_blk RunO_blk_ret RunO_blk_exit RunL_nil RunL_guard GuardA_tt GuardA_ff GuardA_tf GuardA_ft GuardA_void CondA_t CondA_f PickA_t PickA_f RunL_mov RunL_pick RunL_alloc RunL_box RunL_load LoadA_ptr LoadB_1 LoadB_n LoadA_dptr LoadA_dptr_n RunL_store StoreA_ptr StoreB_box RunL_bin Bin_add Bin_sub Bin_mul Bin_quo Bin_rem Bin_shl Bin_shr Bin_andI Bin_orI Bin_xorI Bin_eql Bin_neq Bin_lss Bin_leq Bin_gtr Bin_geq RunL_binb Bin_beql Bin_bneq RunL_un UnA_not UnA_neg RunL_conv convV MapA_some RunL_nilCheck nilV RunL_mkfn RunL_fieldAddr faV RunL_field FieldA_1 FieldA_n RunL_elemAddr EAddrA_sl EAddrA_own EptrA_eq RunL_build BuildA_some RunL_extract ExtA_eq RunL_len lenV_sl lenV_nilsl lenV_own RunL_slen RunL_idxStr IdxSA_eq slenV RunL_minmax mmV minmaxL RunL_call RunL_callv CallvA_fn putS ev evL evO evP eqK eqKs EqB_agg RunL_eqAgg EqA_t EqA_f evQ buildC fits_agg cellsAV_agg fits_d cellsAV_d fits_nilp cellsAV_nilp fits_nilsl cellsAV_nilsl fits_nilfn cellsAV_nilfn fits_ptr cellsAV_ptr fits_eptr cellsAV_eptr fits_dptr cellsAV_dptr fits_own cellsAV_own fits_fn cellsAV_fn rowV_fits rowV_cells rowV_len lenAV setSeg nth seg mapD repeatL putT_get upd_get argT keepT_cons keepT_nil keepH_cons keepH_nil cond_true cond_false VC_true finW resW resL resOne LoopQ_exit LoopQ_ret List.cons_append List.nil_append Bool.not_true Bool.not_false Bool.and_true Bool.and_self Nat.lt_add_left_iff_pos Nat.zero_add Nat.add_zero List.drop_succ_cons List.drop_zero List.take_succ_cons List.take_zero beq_self_eq_true Bool.false_eq_true RunC_dops RunL_loadS RunL_loadD LoadDA_dptr RunL_storeS StoreSA_ptr RunL_pcall RunL_pcallv PCallvA_fn newsOk and_self and_true true_and loadW_ptr LoadK_1 LoadK_n upd_upd RunL_buildSlice BSliceA_some RunL_buildSliceD frzL frz cutL LoadA_eptr LoadE_row RunL_append RunL_slice SliceA_sl StoreA_eptr List.length_cons List.length_nil Nat.min_def Int.cast_ofNat_Int Int.natCast_zero Int.natCast_one decide_true decide_false List.getElem?_cons_zero List.getElem?_cons_succ RunC_rangef CallvA_yld putL_nil putL_cons RangeQ_exit RangeQ_ret
/-- What comes of the first so many runs. -/
def mapN (g : Int → Int) (l : List Run) : Nat → List Run
  | 0 => []
  | i + 1 => match l[i]? with
    | some r => putR (mapN g l i) ⟨r.f, r.t, g r.v⟩
    | none => mapN g l i
theorem mapN_len {g : Int → Int} {l : List Run} : ∀ i : Nat, (mapN g l i).length ≤ i
  | 0 => Nat.le_refl _
  | i + 1 => by
    have ih := mapN_len (g := g) (l := l) i
    rw [mapN]
    split
    · next r _ =>
      have := @putR_len (mapN g l i) ⟨r.f, r.t, g r.v⟩
      omega
    · omega
/-- What comes of two lines, where they stand at two runs. -/
def zipG (g : Int → Int → Int) (a b : List Run) : Nat → Nat → Nat → List Run → List Run
  | 0, _, _, R => R
  | n + 1, i, k, R => match a[i]?, b[k]? with
    | some x, some y =>
      zipG g a b n (if x.t ≤ y.t then i + 1 else i) (if y.t ≤ x.t then k + 1 else k) (if max x.f y.f ≤ min x.t y.t then putR R ⟨max x.f y.f, min x.t y.t, g x.v y.v⟩ else R)
    | _, _ => R
theorem zipG_stable {g : Int → Int → Int} {a b : List Run} : ∀ (n i k : Nat) (R : List Run), a.length + b.length ≤ n + i + k → zipG g a b (n + 1) i k R = zipG g a b n i k R
  | 0, i, k, R, h => by
    rw [zipG, zipG]
    by_cases h1 : i < a.length
    · have h2 : ¬ k < b.length := by omega
      rw [List.getElem?_eq_none (l := b) (by omega)]
      split <;> first | rfl | simp_all
    · rw [List.getElem?_eq_none (l := a) (by omega)]
  | n + 1, i, k, R, h => by
    rw [zipG, zipG]
    split
    · next x y _ _ =>
      refine zipG_stable n _ _ _ ?_
      split <;> split <;> omega
    · rfl
structure ZipX where
  i : Nat
  k : Nat
  c : Nat
  cap : Nat
  l : List Run
theorem zx_i {i k c cap : Nat} {l : List Run} : (ZipX.mk i k c cap l).i = i := (rfl)
theorem zx_k {i k c cap : Nat} {l : List Run} : (ZipX.mk i k c cap l).k = k := (rfl)
end Go.Proofs.Ytmkennmppdmnhaa.Abs
