/- Adjustments as data. No claim stands here. -/
import Derived.Test.YtlflfciebidddaaKFit
import Derived.Test.YtlflfciebidddaaCode
import Derived.Test.YtlflfciebidddaaAbsU
import Derived.Test.YtlflfciebidddaaKRound
set_option maxRecDepth 100000
set_option linter.unusedSimpArgs false
set_option linter.unusedVariables false
namespace Go.Proofs.Ytlflfciebidddaa.Abs
open Go Go.RowKit Go.Proofs
attribute [local go_sem] RunC_seq AF_n AF_r AF_b St_n St_t St_H Fst_mk Snd_mk RunC_ops RunC_cond RunC_block RunC_loop RunC_exit RunC_ret RunC_skip RunO_nil RunO_code RunO_code_ret RunO_code_exit RunO_blk RunO_blk_ret RunO_blk_exit RunL_nil RunL_guard GuardA_tt GuardA_ff GuardA_tf GuardA_ft GuardA_void CondA_t CondA_f PickA_t PickA_f RunL_mov RunL_pick RunL_alloc RunL_box RunL_load LoadA_ptr LoadB_1 LoadB_n LoadA_dptr LoadA_dptr_n RunL_store StoreA_ptr StoreB_box RunL_bin Bin_add Bin_sub Bin_mul Bin_quo Bin_rem Bin_shl Bin_shr Bin_andI Bin_orI Bin_xorI Bin_eql Bin_neq Bin_lss Bin_leq Bin_gtr Bin_geq RunL_binb Bin_beql Bin_bneq RunL_un UnA_not UnA_neg RunL_conv convV MapA_some RunL_nilCheck nilV RunL_mkfn RunL_fieldAddr faV RunL_field FieldA_1 FieldA_n RunL_elemAddr EAddrA_sl EAddrA_own EptrA_eq RunL_build BuildA_some RunL_extract ExtA_eq RunL_len lenV_sl lenV_nilsl lenV_own RunL_slen RunL_idxStr IdxSA_eq slenV RunL_minmax mmV minmaxL RunL_call RunL_callv CallvA_fn putS ev evL evO evP eqK eqKs EqB_agg RunL_eqAgg EqA_t EqA_f evQ buildC fits_agg cellsAV_agg fits_d cellsAV_d fits_nilp cellsAV_nilp fits_nilsl cellsAV_nilsl fits_nilfn cellsAV_nilfn fits_ptr cellsAV_ptr fits_eptr cellsAV_eptr fits_dptr cellsAV_dptr fits_own cellsAV_own fits_fn cellsAV_fn rowV_fits rowV_cells rowV_len lenAV setSeg nth seg mapD repeatL putT_get upd_get argT keepT_cons keepT_nil keepH_cons keepH_nil cond_true cond_false VC_true finW resW resL resOne LoopQ_exit LoopQ_ret List.cons_append List.nil_append Bool.not_true Bool.not_false Bool.and_true Bool.and_self Nat.lt_add_left_iff_pos Nat.zero_add Nat.add_zero List.drop_succ_cons List.drop_zero List.take_succ_cons List.take_zero beq_self_eq_true Bool.false_eq_true RunC_dops RunL_loadS RunL_loadD LoadDA_dptr RunL_storeS StoreSA_ptr RunL_pcall RunL_pcallv PCallvA_fn newsOk and_self and_true true_and loadW_ptr LoadK_1 LoadK_n upd_upd RunL_loadP LoadPA_ptr RunL_callS RunL_make RunL_buildSlice BSliceA_some RunL_buildSliceD frzL frz cutL LoadA_eptr LoadE_row RunL_append RunL_slice SliceA_sl StoreA_eptr List.length_cons List.length_nil Nat.min_def Int.cast_ofNat_Int Int.natCast_zero Int.natCast_one decide_true decide_false List.getElem?_cons_zero List.getElem?_cons_succ RunC_rangef CallvA_yld putL_nil putL_cons RangeQ_exit RangeQ_ret
/-- An adjustment: its kind, its number, its mode. -/
structure Adj where
  k : Int
  n : Int
  m : Int
def Adj.el (a : Adj) : List D := [.int .i64 a.k, .int .i64 a.n, .int .i64 a.m]
def rowA (l : List Adj) : List (List D) := l.map Adj.el
theorem rowA_len {l : List Adj} : (rowA l).length = l.length := List.length_map ..
theorem rowA_nth {l : List Adj} {i : Nat} (h : i < l.length) : (rowA l)[((i : Int)).toNat]? = some (Adj.el l[i]) := by
  rw [Int.toNat_natCast]; simp [rowA, h]
abbrev slA (l : List Adj) : AV := .d (.sl 3 (rowA l))
def Adj.Fit (a : Adj) : Prop := Abs.Fit a.k ∧ Abs.Fit a.n ∧ Abs.Fit a.m
def AllFitA (l : List Adj) : Prop := ∀ (i : Nat) (h : i < l.length), (l[i]).Fit
def fitO (n : Int) : Option Int := if Fit n then some n else none
theorem fitO_R (n : Int) : fitR n = optR (fitO n) := by
  unfold fitO
  by_cases h : Fit n
  · rw [fitR_yes h, if_pos h]; rfl
  · rw [fitR_no h, if_neg h]; rfl
def mdO (p c m : Int) : Option Int := if 0 < c ∧ 0 ≤ m ∧ m ≤ 3 then fitO (rnd p c m) else none
theorem mdO_R (p c m : Int) : mdR p c m = optR (mdO p c m) := by
  unfold mdR mdO
  split
  · exact fitO_R _
  · rfl
theorem adj_fit {l : List Adj} (h : ∀ a ∈ l, Adj.Fit a) : AllFitA l := fun i hi => h _ (List.getElem_mem hi)
theorem typed_adj {n : Nat} {l : List D} (h : typedW Try.prog (n + 2) 70 l) : ∃ a : Adj, a.Fit ∧ l = a.el := by
  obtain ⟨ls, rfl, h1, _⟩ := typed_struct (fs := #[⟨"Kind", 3, 0, false, "", "", 0⟩, ⟨"N", 3, 1, false, "", "", 8⟩, ⟨"Mode", 3, 2, false, "", "", 16⟩]) h (by kernel_rfl)
  obtain ⟨l0, r0, rfl, t0, h1⟩ := typedL_cons h1
  obtain ⟨l1, r1, rfl, t1, h1⟩ := typedL_cons h1
  obtain ⟨l2, r2, rfl, t2, h1⟩ := typedL_cons h1
  obtain rfl := typedL_nil h1
  obtain ⟨z0, rfl, f0, _⟩ := typed_int t0 (by kernel_rfl)
  obtain ⟨z1, rfl, f1, _⟩ := typed_int t1 (by kernel_rfl)
  obtain ⟨z2, rfl, f2, _⟩ := typed_int t2 (by kernel_rfl)
  exact ⟨⟨z0, z1, z2⟩, ⟨f0, f1, f2⟩, rfl⟩
theorem typed_adjs {n : Nat} {l : List D} (h : typedW Try.prog (n + 3) 37 l) : ∃ zs : List Adj, AllFitA zs ∧ zs.length ≤ 9223372036854775807 ∧ argAV Try.prog 37 l = slA zs := by
  obtain ⟨xs, rfl, h1, h2, h3⟩ := typed_slice (e := 70) h (by kernel_rfl)
  have hc : Try.prog.cellsOf 70 = 3 := by kernel_rfl
  have : ∃ zs : List Adj, xs = rowA zs ∧ ∀ a ∈ zs, a.Fit := by
    clear h1 h3 h
    induction xs with
    | nil => exact ⟨[], rfl, fun a h => by cases h⟩
    | cons x xs ih =>
      obtain ⟨a, ha, rfl⟩ := typed_adj (h2 x (List.mem_cons_self ..))
      obtain ⟨zs, rfl, hz⟩ := ih fun el h' => h2 el (List.mem_cons_of_mem _ h')
      refine ⟨a :: zs, rfl, fun b hb => ?_⟩
      rcases List.mem_cons.1 hb with rfl | hb
      · exact ha
      · exact hz b hb
  obtain ⟨zs, rfl, hz⟩ := this
  refine ⟨zs, adj_fit hz, by rw [rowA_len] at h1; exact h1, by rw [h3, hc]⟩
end Go.Proofs.Ytlflfciebidddaa.Abs
