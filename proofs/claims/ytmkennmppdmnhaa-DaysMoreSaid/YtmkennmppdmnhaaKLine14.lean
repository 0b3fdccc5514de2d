/- Contracts of the package line: a run is put behind all others. No claim stands here. -/
import Derived.Test.YtmkennmppdmnhaaKFit
import Derived.Test.YtmkennmppdmnhaaCode
set_option linter.unusedSimpArgs false
set_option linter.unusedVariables false
namespace Go.Proofs.Ytmkennmppdmnhaa.Abs
open Go Go.RowKit Go.Proofs
attribute [local go_sem] RunC_seq AF_n AF_r AF_b St_n St_t St_H Fst_mk Snd_mk RunC_ops RunC_cond RunC_block RunC_loop RunC_exit RunC_ret RunC_skip RunO_nil RunO_code RunO_code_ret RunO_code_exit RunO_blk RunO_blk_ret RunO_blk_exit RunL_nil RunL_guard GuardA_tt GuardA_ff GuardA_tf GuardA_ft GuardA_void CondA_t CondA_f PickA_t PickA_f RunL_mov RunL_pick RunL_alloc RunL_box RunL_load LoadA_ptr LoadB_1 LoadB_n LoadA_dptr LoadA_dptr_n RunL_store StoreA_ptr StoreB_box RunL_bin Bin_add Bin_sub Bin_mul Bin_quo Bin_rem Bin_shl Bin_shr Bin_andI Bin_orI Bin_xorI Bin_eql Bin_neq Bin_lss Bin_leq Bin_gtr Bin_geq RunL_binb Bin_beql Bin_bneq RunL_un UnA_not UnA_neg RunL_conv convV MapA_some RunL_nilCheck nilV RunL_mkfn RunL_fieldAddr faV RunL_field FieldA_1 FieldA_n RunL_elemAddr EAddrA_sl EAddrA_own EptrA_eq RunL_build BuildA_some RunL_extract ExtA_eq RunL_len lenV_sl lenV_nilsl lenV_own RunL_slen RunL_idxStr IdxSA_eq slenV RunL_minmax mmV minmaxL RunL_call RunL_callv CallvA_fn putS ev evL evO evP eqK eqKs EqB_agg RunL_eqAgg EqA_t EqA_f evQ buildC fits_agg cellsAV_agg fits_d cellsAV_d fits_nilp cellsAV_nilp fits_nilsl cellsAV_nilsl fits_nilfn cellsAV_nilfn fits_ptr cellsAV_ptr fits_eptr cellsAV_eptr fits_dptr cellsAV_dptr fits_own cellsAV_own fits_fn cellsAV_fn rowV_fits rowV_cells rowV_len lenAV setSeg nth seg mapD repeatL putT_get upd_get argT keepT_cons keepT_nil keepH_cons keepH_nil cond_true cond_false VC_true finW resW resL resOne LoopQ_exit LoopQ_ret List.cons_append List.nil_append Bool.not_true Bool.not_false Bool.and_true Bool.and_self Nat.lt_add_left_iff_pos Nat.zero_add Nat.add_zero List.drop_succ_cons List.drop_zero List.take_succ_cons List.take_zero beq_self_eq_true Bool.false_eq_true RunC_dops RunL_loadS RunL_loadD LoadDA_dptr RunL_storeS StoreSA_ptr RunL_pcall RunL_pcallv PCallvA_fn newsOk and_self and_true true_and loadW_ptr LoadK_1 LoadK_n upd_upd RunL_buildSlice BSliceA_some RunL_buildSliceD frzL frz cutL LoadA_eptr LoadE_row RunL_append RunL_slice SliceA_sl StoreA_eptr List.length_cons List.length_nil Nat.min_def Int.cast_ofNat_Int Int.natCast_zero Int.natCast_one decide_true decide_false List.getElem?_cons_zero List.getElem?_cons_succ RunC_rangef CallvA_yld putL_nil putL_cons RangeQ_exit RangeQ_ret
/-- A run: a value, from a number to another one. -/
structure Run where
  f : Int
  t : Int
  v : Int
  deriving DecidableEq
def Run.el (r : Run) : List D := [.int .i64 r.f, .int .i64 r.t, .int .i64 r.v]
abbrev Run.av (r : Run) : AV := .agg [i64 r.f, i64 r.t, i64 r.v]
def rowR (l : List Run) : List (List D) := l.map Run.el
theorem rowR_len {l : List Run} : (rowR l).length = l.length := List.length_map ..
theorem rowR_nth {l : List Run} {i : Nat} (h : i < l.length) : (rowR l)[i]? = some (Run.el l[i]) := by simp [rowR, h]
theorem rowR_set {l : List Run} {i : Nat} {r : Run} : (rowR l).set i r.el = rowR (l.set i r) := by simp [rowR, List.map_set]
theorem rowR_snoc {l : List Run} {r : Run} : rowR l ++ [r.el] = rowR (l ++ [r]) := by simp [rowR]
/-- A run more, behind all others. -/
def putR (l : List Run) (r : Run) : List Run := match l.getLast? with
  | some q => if q.v = r.v then l.dropLast ++ [{ q with t := r.t }] else l ++ [r]
  | none => [r]
theorem set_last {l : List Run} {x : Run} (h : l ≠ []) : l.set (l.length - 1) x = l.dropLast ++ [x] := by
  rcases List.eq_nil_or_concat l with rfl | ⟨dl, q, rfl⟩
  · exact absurd rfl h
  · simp
theorem AllH_append {H : Heap} {xs ys : List (Nat × Blk)} : AllH H (xs ++ ys) ↔ AllH H xs ∧ AllH H ys := by
  induction xs with
  | nil => simp [AllH]
  | cons p xs ih => obtain ⟨b, x⟩ := p; simp -implicitDefEqProofs only [List.cons_append, AllH, ih, and_assoc]
/-- A line, as data. -/
abbrev lineV (l : List Run) : AV := .agg [.d (.sl 3 (rowR l))]
/-- A line's cell is read: what is there, and that it is the line. -/
theorem rowR_scal {l : List Run} : ∀ el ∈ rowR l, ∀ d ∈ el, scalD d = true := by
  intro el he d hd
  obtain ⟨r, _, rfl⟩ := List.mem_map.1 he
  simp -implicitDefEqProofs only [Run.el, List.mem_cons, List.not_mem_nil, or_false] at hd
  rcases hd with rfl | rfl | rfl <;> rfl
theorem new_own {H : Heap} {b sz cap cap' len : Nat} {e : TypeId} {xs : List (List D)} (h : H b = some (.row e sz cap' xs)) (hl : len = xs.length) (hs : ∀ el ∈ xs, ∀ d ∈ el, scalD d = true) : NewV H (.own b sz 0 len cap) (.d (.sl sz xs)) := by
  subst hl; exact .own b sz cap e cap' xs h hs
/-- The runs of a list's first so many values. -/
def runsN (from' : Int) (l : List Int) : Nat → List Run
  | 0 => []
  | i + 1 => putR (runsN from' l i) ⟨from' + i, from' + i, l.getD i 0⟩
abbrev runs (from' : Int) (l : List Int) : List Run := runsN from' l l.length
theorem putR_ne {l : List Run} {r : Run} : putR l r ≠ [] := by
  unfold putR
  split
  · split <;> simp
  · simp
theorem putR_len {l : List Run} {r : Run} : (putR l r).length ≤ l.length + 1 := by
  unfold putR
  split
  · split
    · simp -implicitDefEqProofs only [List.length_append, List.length_dropLast, List.length_singleton]; omega
    · simp
  · simp
theorem runsN_len {from' : Int} {l : List Int} : ∀ i : Nat, (runsN from' l i).length ≤ i
  | 0 => Nat.le_refl _
  | i + 1 => by
    have := @putR_len (runsN from' l i) ⟨from' + i, from' + i, l.getD i 0⟩
    have := runsN_len (from' := from') (l := l) i
    rw [runsN]; omega
theorem lend_agg1 {H : Heap} {x y : AV} (h : NewV H x y) : NewV H (.agg [x]) (.agg [y]) := by
  refine .agg _ _ rfl fun j u v h1 h2 => ?_
  cases j with
  | zero => cases h1; cases h2; exact h
  | succ j => cases h1
structure LoopX where
  i : Nat
  c : Nat
  cap : Nat
  l : List Run
end Go.Proofs.Ytmkennmppdmnhaa.Abs
