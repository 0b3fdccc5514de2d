/- When a core can be, by the program (core.Good). No claim stands here. -/
import Derived.Test.YtlflfciebidddaaKGoodR
set_option linter.unusedSimpArgs false
set_option linter.unusedVariables false
namespace Go.Proofs.Ytlflfciebidddaa.Abs
open Go Go.RowKit Go.Proofs
attribute [local go_sem] RunC_seq AF_n AF_r AF_b St_n St_t St_H Fst_mk Snd_mk RunC_ops RunC_cond RunC_block RunC_loop RunC_exit RunC_ret RunC_skip RunO_nil RunO_code RunO_code_ret RunO_code_exit RunO_blk RunO_blk_ret RunO_blk_exit RunL_nil RunL_guard GuardA_tt GuardA_ff GuardA_tf GuardA_ft GuardA_void CondA_t CondA_f PickA_t PickA_f RunL_mov RunL_pick RunL_alloc RunL_box RunL_load LoadA_ptr LoadB_1 LoadB_n LoadA_dptr LoadA_dptr_n RunL_store StoreA_ptr StoreB_box RunL_bin Bin_add Bin_sub Bin_mul Bin_quo Bin_rem Bin_shl Bin_shr Bin_andI Bin_orI Bin_xorI Bin_eql Bin_neq Bin_lss Bin_leq Bin_gtr Bin_geq RunL_binb Bin_beql Bin_bneq RunL_un UnA_not UnA_neg RunL_conv convV MapA_some RunL_nilCheck nilV RunL_mkfn RunL_fieldAddr faV RunL_field FieldA_1 FieldA_n RunL_elemAddr EAddrA_sl EAddrA_own EptrA_eq RunL_build BuildA_some RunL_extract ExtA_eq RunL_len lenV_sl lenV_nilsl lenV_own RunL_slen RunL_idxStr IdxSA_eq slenV RunL_minmax mmV minmaxL RunL_call RunL_callv CallvA_fn putS ev evL evO evP eqK eqKs EqB_agg RunL_eqAgg EqA_t EqA_f evQ buildC fits_agg cellsAV_agg fits_d cellsAV_d fits_nilp cellsAV_nilp fits_nilsl cellsAV_nilsl fits_nilfn cellsAV_nilfn fits_ptr cellsAV_ptr fits_eptr cellsAV_eptr fits_dptr cellsAV_dptr fits_own cellsAV_own fits_fn cellsAV_fn rowV_fits rowV_cells rowV_len lenAV setSeg nth seg mapD repeatL putT_get upd_get argT keepT_cons keepT_nil keepH_cons keepH_nil cond_true cond_false VC_true finW resW resL resOne LoopQ_exit LoopQ_ret List.cons_append List.nil_append Bool.not_true Bool.not_false Bool.and_true Bool.and_self Nat.lt_add_left_iff_pos Nat.zero_add Nat.add_zero List.drop_succ_cons List.drop_zero List.take_succ_cons List.take_zero beq_self_eq_true Bool.false_eq_true RunC_dops RunL_loadS RunL_loadD LoadDA_dptr RunL_storeS StoreSA_ptr RunL_pcall RunL_pcallv PCallvA_fn newsOk and_self and_true true_and loadW_ptr LoadK_1 LoadK_n upd_upd RunL_loadP LoadPA_ptr RunL_callS RunL_make RunL_buildSlice BSliceA_some RunL_buildSliceD frzL frz cutL LoadA_eptr LoadE_row RunL_append RunL_slice SliceA_sl StoreA_eptr List.length_cons List.length_nil Nat.min_def Int.cast_ofNat_Int Int.natCast_zero Int.natCast_one decide_true decide_false List.getElem?_cons_zero List.getElem?_cons_succ RunC_rangef CallvA_yld putL_nil putL_cons RangeQ_exit RangeQ_ret
theorem Bin_sgeq {P : Program} {Q : Out → St → Prop} {d : Option Nat} {l : List AO} {k : List Item} {s : St} {a b : ByteArray} : BinA P Q .geq (.d (.str a)) (.d (.str b)) d l k s = RunL P Q l k (putS s d (.d (.bool (!Op.bytesLess a.toList b.toList))) s.H) := rfl
theorem Betw_ok {n lo hi : Int} : DataW Try.prog f_core_between [i64 n, i64 lo, i64 hi] (bv (decide (lo ≤ n ∧ n ≤ hi))) := by
  refine CallW_intro comp_core_between (by simp) ?_
  by_cases h1 : lo ≤ n
  · by_cases h2 : n ≤ hi
    · simp -implicitDefEqProofs -proj only [go_sem, Nat.reduceBEq, Nat.reduceLT, Nat.reduceLeDiff, Nat.reduceAdd, Nat.reduceMul, ↓reduceIte, decide_eq_true h1, decide_eq_true h2]
      exact LendV_eq (by rw [decide_eq_true ⟨h1, h2⟩])
    · simp -implicitDefEqProofs -proj only [go_sem, Nat.reduceBEq, Nat.reduceLT, Nat.reduceLeDiff, Nat.reduceAdd, Nat.reduceMul, ↓reduceIte, decide_eq_true h1, decide_eq_false h2]
      exact LendV_eq (by rw [decide_eq_false (fun h => h2 h.2)])
  · simp -implicitDefEqProofs -proj only [go_sem, Nat.reduceBEq, Nat.reduceLT, Nat.reduceLeDiff, Nat.reduceAdd, Nat.reduceMul, ↓reduceIte, decide_eq_false h1]
    exact LendV_eq (by rw [decide_eq_false (fun h => h1 h.1)])
theorem Betw_t {n lo hi : Int} (h : lo ≤ n ∧ n ≤ hi) : DataW Try.prog f_core_between [i64 n, i64 lo, i64 hi] (bv true) := by
  have := @Betw_ok n lo hi; rwa [decide_eq_true h] at this
theorem Betw_f {n lo hi : Int} (h : ¬ (lo ≤ n ∧ n ≤ hi)) : DataW Try.prog f_core_between [i64 n, i64 lo, i64 hi] (bv false) := by
  have := @Betw_ok n lo hi; rwa [decide_eq_false h] at this
abbrev adjV (a : Adj) : AV := .agg [i64 a.k, i64 a.n, i64 a.m]
theorem CAdj_ok {a : Adj} : DataW Try.prog f_core_adjust [adjV a] (bv (decide (adjOK a))) := by
  refine CallW_intro comp_core_adjust (by simp) ?_
  simp -implicitDefEqProofs -proj only [go_sem, Nat.reduceBEq, Nat.reduceLT, Nat.reduceLeDiff, Nat.reduceAdd, Nat.reduceMul, ↓reduceIte]
  refine AllocA_intro (fun b1 hb1 => ?_)
  by_cases h1 : a.k = 1
  · simp -implicitDefEqProofs -proj only [go_sem, Nat.reduceBEq, Nat.reduceLT, Nat.reduceLeDiff, Nat.reduceAdd, Nat.reduceMul, ↓reduceIte, decide_eq_true h1]
    by_cases h2 : 0 ≤ a.n ∧ a.n ≤ 100000000
    rotate_left
    · refine CallA_pure (Betw_f h2) ?_
      simp -implicitDefEqProofs -proj only [go_sem, Nat.reduceBEq, Nat.reduceLT, Nat.reduceLeDiff, Nat.reduceAdd, Nat.reduceMul, ↓reduceIte]
      exact LendV_eq (by rw [decide_eq_false]; unfold adjOK; omega)
    refine CallA_pure (Betw_t h2) ?_
    simp -implicitDefEqProofs -proj only [go_sem, Nat.reduceBEq, Nat.reduceLT, Nat.reduceLeDiff, Nat.reduceAdd, Nat.reduceMul, ↓reduceIte]
    by_cases h3 : 0 ≤ a.m ∧ a.m ≤ 3
    rotate_left
    · refine CallA_pure (Betw_f h3) ?_
      simp -implicitDefEqProofs -proj only [go_sem, Nat.reduceBEq, Nat.reduceLT, Nat.reduceLeDiff, Nat.reduceAdd, Nat.reduceMul, ↓reduceIte]
      exact LendV_eq (by rw [decide_eq_false]; unfold adjOK; omega)
    refine CallA_pure (Betw_t h3) ?_
    simp -implicitDefEqProofs -proj only [go_sem, Nat.reduceBEq, Nat.reduceLT, Nat.reduceLeDiff, Nat.reduceAdd, Nat.reduceMul, ↓reduceIte]
    exact LendV_eq (by rw [decide_eq_true]; unfold adjOK; omega)
  · simp -implicitDefEqProofs -proj only [go_sem, Nat.reduceBEq, Nat.reduceLT, Nat.reduceLeDiff, Nat.reduceAdd, Nat.reduceMul, ↓reduceIte, decide_eq_false h1]
    by_cases h2 : 2 ≤ a.k ∧ a.k ≤ 4
    rotate_left
    · refine CallA_pure (Betw_f h2) ?_
      simp -implicitDefEqProofs -proj only [go_sem, Nat.reduceBEq, Nat.reduceLT, Nat.reduceLeDiff, Nat.reduceAdd, Nat.reduceMul, ↓reduceIte]
      exact LendV_eq (by rw [decide_eq_false]; unfold adjOK; omega)
    refine CallA_pure (Betw_t h2) ?_
    simp -implicitDefEqProofs -proj only [go_sem, Nat.reduceBEq, Nat.reduceLT, Nat.reduceLeDiff, Nat.reduceAdd, Nat.reduceMul, ↓reduceIte]
    by_cases h3 : 0 ≤ a.n ∧ a.n ≤ 1000000000000
    rotate_left
    · refine CallA_pure (Betw_f h3) ?_
      simp -implicitDefEqProofs -proj only [go_sem, Nat.reduceBEq, Nat.reduceLT, Nat.reduceLeDiff, Nat.reduceAdd, Nat.reduceMul, ↓reduceIte]
      exact LendV_eq (by rw [decide_eq_false]; unfold adjOK; omega)
    refine CallA_pure (Betw_t h3) ?_
    by_cases h4 : a.m = 0
    · simp -implicitDefEqProofs -proj only [go_sem, Nat.reduceBEq, Nat.reduceLT, Nat.reduceLeDiff, Nat.reduceAdd, Nat.reduceMul, ↓reduceIte, decide_eq_true h4]
      exact LendV_eq (by rw [decide_eq_true]; unfold adjOK; omega)
    · simp -implicitDefEqProofs -proj only [go_sem, Nat.reduceBEq, Nat.reduceLT, Nat.reduceLeDiff, Nat.reduceAdd, Nat.reduceMul, ↓reduceIte, decide_eq_false h4]
      exact LendV_eq (by rw [decide_eq_false]; unfold adjOK; omega)
theorem Part1_ok {a : Adj} : DataW Try.prog f_core_part_1 [adjV a] (bv (!decide (adjOK a))) := by
  refine CallW_intro comp_core_part_1 (by simp) ?_
  simp -implicitDefEqProofs -proj only [go_sem, Nat.reduceBEq, Nat.reduceLT, Nat.reduceLeDiff, Nat.reduceAdd, Nat.reduceMul, ↓reduceIte]
  refine AllocA_intro (fun b1 hb1 => ?_)
  simp -implicitDefEqProofs -proj only [go_sem, Nat.reduceBEq, Nat.reduceLT, Nat.reduceLeDiff, Nat.reduceAdd, Nat.reduceMul, ↓reduceIte]
  refine CallA_pure CAdj_ok ?_
  simp -implicitDefEqProofs -proj only [go_sem, Nat.reduceBEq, Nat.reduceLT, Nat.reduceLeDiff, Nat.reduceAdd, Nat.reduceMul, ↓reduceIte]
  exact LendV_eq rfl
/-- Where the first one is that has it. -/
def idxP {α : Type} (p : α → Bool) (l : List α) : Int := match l.findIdx? p with
  | some i => i
  | none => -1
theorem idxP_some {α : Type} {p : α → Bool} {l : List α} {i : Nat} (h : i < l.length) (hp : p l[i] = true) (hs : ∀ (j : Nat) (h : j < l.length), j < i → p l[j] = false) : idxP p l = i := by
  unfold idxP
  rw [List.findIdx?_eq_some_iff_getElem.2 ⟨h, hp, fun j hj => by rw [hs j (by omega) hj]; simp⟩]
theorem idxP_none {α : Type} {p : α → Bool} {l : List α} (hs : ∀ (j : Nat) (h : j < l.length), p l[j] = false) : idxP p l = -1 := by
  unfold idxP
  rw [List.findIdx?_eq_none_iff.2 fun x hx => by obtain ⟨j, hj, rfl⟩ := List.getElem_of_mem hx; exact hs j hj]
theorem idxP_any {α : Type} {p : α → Bool} {l : List α} : decide (0 ≤ idxP p l) = l.any p := by
  unfold idxP
  cases h : l.findIdx? p with
  | some i =>
    obtain ⟨h1, h2, _⟩ := List.findIdx?_eq_some_iff_getElem.1 h
    rw [List.any_eq_true.2 ⟨_, List.getElem_mem h1, h2⟩]
    exact decide_eq_true (show (0 : Int) ≤ (i : Int) by omega)
  | none =>
    have := List.findIdx?_eq_none_iff.1 h
    rw [List.any_eq_false.2 (fun x hx => by rw [this x hx]; simp)]
    exact decide_eq_false (show ¬ (0 : Int) ≤ -1 by omega)
theorem IdxA_ok {l : List Adj} {f : FuncId} {p : Adj → Bool} (hf : ∀ a, DataW Try.prog f [adjV a] (bv (p a))) (hl : l.length ≤ 9223372036854775807) : DataW Try.prog f_slices_IndexFunc_api_Adjust [slA l, .fn f []] (i64 (idxP p l)) := by
  refine CallW_intro comp_slices_IndexFunc_api_Adjust (by simp) ?_
  simp -implicitDefEqProofs -proj only [go_sem, Nat.reduceBEq, Nat.reduceLT, Nat.reduceLeDiff, Nat.reduceAdd, Nat.reduceMul, ↓reduceIte, rowA_len]
  refine LoopA_k (fun i : Nat => i ≤ l.length ∧ ∀ (j : Nat) (h : j < l.length), j < i → p l[j] = false) 19 (fun i => [(0, slA l), (1, .fn f []), (6, slA l), (7, i64 l.length), (8, i64 i)]) (fun _ => []) (fun i => l.length - i) 0 ⟨Nat.zero_le _, fun j _ h => absurd h (Nat.not_lt_zero _)⟩ rfl ?_ ?_ ?_
  · simp -implicitDefEqProofs -proj only [go_sem, Nat.reduceBEq, Nat.reduceLT, Nat.reduceLeDiff, Nat.reduceAdd, Nat.reduceMul, ↓reduceIte, AllAt]
  · trivial
  · rintro i ⟨hi, hs⟩
    by_cases h : i < l.length
    · have hel := rowA_at h
      have hcall := hf l[i]
      have hgo : p l[i] = false → ∀ (j : Nat) (h : j < l.length), j < i + 1 → p l[j] = false := step_all (P := fun _ x => p x = false) (List.getElem?_eq_getElem h) hs
      have hyes : p l[i] = true → idxP p l = i := fun e => idxP_some h e hs
      generalize l[i] = a at *
      simp -implicitDefEqProofs -proj only [go_sem, Nat.reduceBEq, Nat.reduceLT, Nat.reduceLeDiff, Nat.reduceAdd, Nat.reduceMul, ↓reduceIte, decide_eq_true (show (i : Int) < l.length by omega)]
      refine ElemA_at _ (by omega) hel ?_
      simp -implicitDefEqProofs -proj only [go_sem, Nat.reduceBEq, Nat.reduceLT, Nat.reduceLeDiff, Nat.reduceAdd, Nat.reduceMul, ↓reduceIte]
      refine CallA_pure hcall ?_
      cases hp : p a
      · simp -implicitDefEqProofs -proj only [go_sem, Nat.reduceBEq, Nat.reduceLT, Nat.reduceLeDiff, Nat.reduceAdd, Nat.reduceMul, ↓reduceIte]
        refine LoopQ_k (i + 1) ⟨by omega, hgo hp⟩ (by show l.length - (i + 1) < l.length - i; omega) rfl ?_ trivial
        simp -implicitDefEqProofs -proj only [go_sem, Nat.reduceBEq, Nat.reduceLT, Nat.reduceLeDiff, Nat.reduceAdd, Nat.reduceMul, ↓reduceIte, AllAt, i64_succ (show i < 9223372036854775807 by omega)]
      · simp -implicitDefEqProofs -proj only [go_sem, Nat.reduceBEq, Nat.reduceLT, Nat.reduceLeDiff, Nat.reduceAdd, Nat.reduceMul, ↓reduceIte]
        rw [hyes hp]
        exact LendV_eq rfl
    · have hi' : i = l.length := by omega
      subst hi'
      simp -implicitDefEqProofs -proj only [go_sem, Nat.reduceBEq, Nat.reduceLT, Nat.reduceLeDiff, Nat.reduceAdd, Nat.reduceMul, ↓reduceIte, decide_eq_false (show ¬ (l.length : Int) < l.length by omega)]
      rw [idxP_none fun j h => hs j h h]
      exact LendV_eq rfl
theorem ContA_ok {l : List Adj} {f : FuncId} {p : Adj → Bool} (hf : ∀ a, DataW Try.prog f [adjV a] (bv (p a))) (hl : l.length ≤ 9223372036854775807) : DataW Try.prog f_slices_ContainsFunc_api_Adjust [slA l, .fn f []] (bv (l.any p)) := by
  refine CallW_intro comp_slices_ContainsFunc_api_Adjust (by simp) ?_
  simp -implicitDefEqProofs -proj only [go_sem, Nat.reduceBEq, Nat.reduceLT, Nat.reduceLeDiff, Nat.reduceAdd, Nat.reduceMul, ↓reduceIte]
  refine CallA_pure (IdxA_ok hf hl) ?_
  simp -implicitDefEqProofs -proj only [go_sem, Nat.reduceBEq, Nat.reduceLT, Nat.reduceLeDiff, Nat.reduceAdd, Nat.reduceMul, ↓reduceIte]
  rw [idxP_any]
  exact LendV_eq rfl
/-- The last tier's end. -/
def lastU (T : List Tier) (i : Nat) : Int := match i with
  | 0 => 0
  | j + 1 => match T[j]? with
    | some p => p.u
    | none => 0
theorem low_pos {T : List Tier} {i : Nat} (hi : i < T.length) (h : ¬ i + 1 = T.length) : 1 ≤ lowT T i := by
  by_cases h0 : i = 0
  · subst h0; rw [(tlow_first h).1]; omega
  · by_cases hu : 1 ≤ T[i - 1].u
    · rw [(tlow_mid (by omega) (by omega) h hu).1]; omega
    · rw [(tlow_mid0 (by omega) (by omega) h hu).1]; omega
theorem low_last {T : List Tier} {i : Nat} (hi : i < T.length) (h : ¬ i + 1 = T.length) (hs : ∀ (j : Nat) (h : j < T.length), j < i → tierOK T j T[j]) : lowT T i = lastU T i + 1 ∧ highT T i = 1000000 ∧ 0 ≤ lastU T i ∧ lastU T i ≤ 1000000 := by
  match i with
  | 0 =>
    obtain ⟨h1, h2⟩ := tlow_first h
    exact ⟨h1, h2, by simp [lastU], by simp [lastU]⟩
  | j + 1 =>
    have hj : j < T.length := by omega
    have hok := hs j hj (by omega)
    have hne : ¬ j + 1 = T.length := by omega
    have hlo := low_pos hj hne
    have hhi : highT T j = 1000000 := if_neg hne
    obtain ⟨_, h2, h3⟩ := hok
    rw [hhi] at h3
    have hl : lastU T (j + 1) = T[j].u := by simp [lastU, List.getElem?_eq_getElem hj]
    obtain ⟨e1, e2⟩ := tlow_mid (T := T) (i := j + 1) (by omega) hj h (by show 1 ≤ T[j].u; omega)
    rw [hl, e1, e2]
    refine ⟨?_, rfl, by omega, h3⟩
    show min T[j].u 1000000 + 1 = _
    omega
theorem CTiers_ok {T : List Tier} (hn : T.length ≤ 9223372036854775807) : DataW Try.prog f_core_tiers [slT T] (bv (decide (tiersOK T ∧ 1 ≤ T.length ∧ T.length ≤ 8))) := by
  refine CallW_intro comp_core_tiers (by simp) ?_
  simp -implicitDefEqProofs -proj only [go_sem, Nat.reduceBEq, Nat.reduceLT, Nat.reduceLeDiff, Nat.reduceAdd, Nat.reduceMul, ↓reduceIte, rowT_len]
  refine LoopA_k (fun i : Nat => i ≤ T.length ∧ ∀ (j : Nat) (h : j < T.length), j < i → tierOK T j T[j]) 49 (fun i => [(0, slT T), (3, i64 (lastU T i)), (7, slT T), (8, i64 T.length), (9, i64 i)]) (fun _ => []) (fun i => T.length - i) 0 ⟨Nat.zero_le _, fun j _ h => absurd h (Nat.not_lt_zero _)⟩ rfl ?_ ?_ ?_
  · simp -implicitDefEqProofs -proj only [go_sem, Nat.reduceBEq, Nat.reduceLT, Nat.reduceLeDiff, Nat.reduceAdd, Nat.reduceMul, ↓reduceIte, AllAt, lastU]
  · trivial
  · rintro i ⟨hi, hs⟩
    by_cases h : i < T.length
    · have hel := rowT_at h
      have hlast := @tlow_last T i
      have hmid := fun k => low_last h k hs
      have hno : ¬ tierOK T i T[i] → decide (tiersOK T ∧ 1 ≤ T.length ∧ T.length ≤ 8) = false := fun e => decide_eq_false fun k => e (k.1 i h)
      have hgo : tierOK T i T[i] → ∀ (j : Nat) (h : j < T.length), j < i + 1 → tierOK T j T[j] := step_all (List.getElem?_eq_getElem h) hs
      have hnx : lastU T (i + 1) = T[i].u := by simp [lastU, List.getElem?_eq_getElem h]
      have hwl : IntKind.i64.wrap ((T.length : Int) - 1) = (T.length : Int) - 1 := by rw [IntKind.wrap_i64]; omega
      generalize T[i] = q at *
      unfold tierOK at hno hgo
      simp -implicitDefEqProofs -proj only [go_sem, Nat.reduceBEq, Nat.reduceLT, Nat.reduceLeDiff, Nat.reduceAdd, Nat.reduceMul, ↓reduceIte, decide_eq_true (show (i : Int) < T.length by omega)]
      refine ElemA_at _ (by omega) hel ?_
      simp -implicitDefEqProofs -proj only [go_sem, Nat.reduceBEq, Nat.reduceLT, Nat.reduceLeDiff, Nat.reduceAdd, Nat.reduceMul, ↓reduceIte]
      refine AllocA_intro (fun b5 hb5 => ?_)
      by_cases hl : i + 1 = T.length
      · obtain ⟨e1, e2⟩ := hlast hl
        simp -implicitDefEqProofs -proj only [go_sem, Nat.reduceBEq, Nat.reduceLT, Nat.reduceLeDiff, Nat.reduceAdd, Nat.reduceMul, ↓reduceIte, rowT_len, hwl, decide_eq_true (show (i : Int) = (T.length : Int) - 1 by omega)]
        by_cases c1 : 0 ≤ q.r ∧ q.r ≤ 1000000000000
        rotate_left
        · refine CallA_pure (Betw_f c1) ?_
          simp -implicitDefEqProofs -proj only [go_sem, Nat.reduceBEq, Nat.reduceLT, Nat.reduceLeDiff, Nat.reduceAdd, Nat.reduceMul, ↓reduceIte]
          exact LendV_eq (by rw [hno (fun k => c1 k.1)])
        refine CallA_pure (Betw_t c1) ?_
        by_cases c2 : q.u = 0
        rotate_left
        · simp -implicitDefEqProofs -proj only [go_sem, Nat.reduceBEq, Nat.reduceLT, Nat.reduceLeDiff, Nat.reduceAdd, Nat.reduceMul, ↓reduceIte, decide_eq_false c2]
          exact LendV_eq (by rw [hno (fun k => by omega)])
        simp -implicitDefEqProofs -proj only [go_sem, Nat.reduceBEq, Nat.reduceLT, Nat.reduceLeDiff, Nat.reduceAdd, Nat.reduceMul, ↓reduceIte, decide_eq_true c2]
        refine LoopQ_k (i + 1) ⟨by omega, hgo ⟨c1, by omega⟩⟩ (by show T.length - (i + 1) < T.length - i; omega) rfl ?_ trivial
        simp -implicitDefEqProofs -proj only [go_sem, Nat.reduceBEq, Nat.reduceLT, Nat.reduceLeDiff, Nat.reduceAdd, Nat.reduceMul, ↓reduceIte, AllAt, hnx, c2, i64_succ (show i < 9223372036854775807 by omega)]
      · obtain ⟨e1, e2, e3, e4⟩ := hmid hl
        have hw : IntKind.i64.wrap (lastU T i + 1) = lastU T i + 1 := by rw [IntKind.wrap_i64]; omega
        simp -implicitDefEqProofs -proj only [go_sem, Nat.reduceBEq, Nat.reduceLT, Nat.reduceLeDiff, Nat.reduceAdd, Nat.reduceMul, ↓reduceIte, rowT_len, hwl, decide_eq_false (show ¬ (i : Int) = (T.length : Int) - 1 by omega)]
        by_cases c1 : 0 ≤ q.r ∧ q.r ≤ 1000000000000
        rotate_left
        · refine CallA_pure (Betw_f c1) ?_
          simp -implicitDefEqProofs -proj only [go_sem, Nat.reduceBEq, Nat.reduceLT, Nat.reduceLeDiff, Nat.reduceAdd, Nat.reduceMul, ↓reduceIte]
          exact LendV_eq (by rw [hno (fun k => c1 k.1)])
        refine CallA_pure (Betw_t c1) ?_
        simp -implicitDefEqProofs -proj only [go_sem, Nat.reduceBEq, Nat.reduceLT, Nat.reduceLeDiff, Nat.reduceAdd, Nat.reduceMul, ↓reduceIte, hw]
        by_cases c2 : lastU T i + 1 ≤ q.u ∧ q.u ≤ 1000000
        rotate_left
        · refine CallA_pure (Betw_f c2) ?_
          simp -implicitDefEqProofs -proj only [go_sem, Nat.reduceBEq, Nat.reduceLT, Nat.reduceLeDiff, Nat.reduceAdd, Nat.reduceMul, ↓reduceIte]
          exact LendV_eq (by rw [hno (fun k => by omega)])
        refine CallA_pure (Betw_t c2) ?_
        simp -implicitDefEqProofs -proj only [go_sem, Nat.reduceBEq, Nat.reduceLT, Nat.reduceLeDiff, Nat.reduceAdd, Nat.reduceMul, ↓reduceIte]
        refine LoopQ_k (i + 1) ⟨by omega, hgo ⟨c1, by omega⟩⟩ (by show T.length - (i + 1) < T.length - i; omega) rfl ?_ trivial
        simp -implicitDefEqProofs -proj only [go_sem, Nat.reduceBEq, Nat.reduceLT, Nat.reduceLeDiff, Nat.reduceAdd, Nat.reduceMul, ↓reduceIte, AllAt, hnx, i64_succ (show i < 9223372036854775807 by omega)]
    · have hi' : i = T.length := by omega
      subst hi'
      simp -implicitDefEqProofs -proj only [go_sem, Nat.reduceBEq, Nat.reduceLT, Nat.reduceLeDiff, Nat.reduceAdd, Nat.reduceMul, ↓reduceIte, rowT_len, decide_eq_false (show ¬ (T.length : Int) < T.length by omega)]
      refine CallA_pure Betw_ok ?_
      simp -implicitDefEqProofs -proj only [go_sem, Nat.reduceBEq, Nat.reduceLT, Nat.reduceLeDiff, Nat.reduceAdd, Nat.reduceMul, ↓reduceIte]
      refine LendV_eq (congrArg (fun b => AV.d (.bool b)) (decide_eq_decide.2 ⟨fun k => ⟨fun j h => hs j h h, by omega, by omega⟩, fun k => by omega⟩))
theorem CPart_ok {cur : ByteArray} {f t : Int} {ms ss ps : List (List D)} {x : PartX} (hm : ms.length ≤ 9223372036854775807) (htn : x.ts.length ≤ 9223372036854775807) (han : x.ad.length ≤ 9223372036854775807) : DataW Try.prog f_core_part [coreV cur f t ms ss ps, partV x] (bv (decide (partOK f t ms.length x))) := by
  have hno : ¬ headOK f t ms.length x → decide (partOK f t ms.length x) = false := fun e => decide_eq_false fun k => e k.1
  have hpd : partOK f t ms.length x ↔ headOK f t ms.length x ∧ tiersOK x.ts ∧ adjsOK x.ad := Iff.rfl
  unfold headOK at hno hpd
  have hwl : IntKind.i64.wrap ((ms.length : Int) - 1) = (ms.length : Int) - 1 := by rw [IntKind.wrap_i64]; omega
  refine CallW_intro comp_core_part (by simp) ?_
  simp -implicitDefEqProofs -proj only [go_sem, Nat.reduceBEq, Nat.reduceLT, Nat.reduceLeDiff, Nat.reduceAdd, Nat.reduceMul, ↓reduceIte]
  refine AllocA_intro (fun b2 hb2 => ?_)
  simp -implicitDefEqProofs -proj only [go_sem, Nat.reduceBEq, Nat.reduceLT, Nat.reduceLeDiff, Nat.reduceAdd, Nat.reduceMul, ↓reduceIte]
  refine AllocA_intro (fun b3 hb3 => ?_)
  replace hb3 : upd Heap.none b2 _ b3 = none := hb3
  obtain ⟨n1, n2⟩ := fresh_ne hb3 upd_eq
  simp -implicitDefEqProofs -proj only [go_sem, Nat.reduceBEq, Nat.reduceLT, Nat.reduceLeDiff, Nat.reduceAdd, Nat.reduceMul, ↓reduceIte, n1, n2, hwl]
  by_cases g1 : 0 ≤ x.me ∧ x.me ≤ (ms.length : Int) - 1
  rotate_left
  · refine CallA_pure (Betw_f g1) ?_
    simp -implicitDefEqProofs -proj only [go_sem, Nat.reduceBEq, Nat.reduceLT, Nat.reduceLeDiff, Nat.reduceAdd, Nat.reduceMul, ↓reduceIte]
    exact LendV_eq (by rw [hno (fun k => by omega)])
  refine CallA_pure (Betw_t g1) ?_
  by_cases g2 : x.t < x.f
  · simp -implicitDefEqProofs -proj only [go_sem, Nat.reduceBEq, Nat.reduceLT, Nat.reduceLeDiff, Nat.reduceAdd, Nat.reduceMul, ↓reduceIte, n1, n2, decide_eq_true g2]
    exact LendV_eq (by rw [hno (fun k => by omega)])
  by_cases g3 : x.f < f
  · simp -implicitDefEqProofs -proj only [go_sem, Nat.reduceBEq, Nat.reduceLT, Nat.reduceLeDiff, Nat.reduceAdd, Nat.reduceMul, ↓reduceIte, n1, n2, decide_eq_false g2, decide_eq_true g3]
    exact LendV_eq (by rw [hno (fun k => by omega)])
  by_cases g4 : t < x.t
  · simp -implicitDefEqProofs -proj only [go_sem, Nat.reduceBEq, Nat.reduceLT, Nat.reduceLeDiff, Nat.reduceAdd, Nat.reduceMul, ↓reduceIte, n1, n2, decide_eq_false g2, decide_eq_false g3, decide_eq_true g4]
    exact LendV_eq (by rw [hno (fun k => by omega)])
  simp -implicitDefEqProofs -proj only [go_sem, Nat.reduceBEq, Nat.reduceLT, Nat.reduceLeDiff, Nat.reduceAdd, Nat.reduceMul, ↓reduceIte, n1, n2, decide_eq_false g2, decide_eq_false g3, decide_eq_false g4]
  by_cases g5 : 0 ≤ x.al ∧ x.al ≤ 1000000
  rotate_left
  · refine CallA_pure (Betw_f g5) ?_
    simp -implicitDefEqProofs -proj only [go_sem, Nat.reduceBEq, Nat.reduceLT, Nat.reduceLeDiff, Nat.reduceAdd, Nat.reduceMul, ↓reduceIte]
    exact LendV_eq (by rw [hno (fun k => g5 k.2.2.2.1)])
  refine CallA_pure (Betw_t g5) ?_
  simp -implicitDefEqProofs -proj only [go_sem, Nat.reduceBEq, Nat.reduceLT, Nat.reduceLeDiff, Nat.reduceAdd, Nat.reduceMul, ↓reduceIte, n1, n2]
  by_cases g6 : 1 ≤ x.bl ∧ x.bl ≤ 1000000
  rotate_left
  · refine CallA_pure (Betw_f g6) ?_
    simp -implicitDefEqProofs -proj only [go_sem, Nat.reduceBEq, Nat.reduceLT, Nat.reduceLeDiff, Nat.reduceAdd, Nat.reduceMul, ↓reduceIte]
    exact LendV_eq (by rw [hno (fun k => g6 k.2.2.2.2.1)])
  refine CallA_pure (Betw_t g6) ?_
  simp -implicitDefEqProofs -proj only [go_sem, Nat.reduceBEq, Nat.reduceLT, Nat.reduceLeDiff, Nat.reduceAdd, Nat.reduceMul, ↓reduceIte, n1, n2]
  by_cases g7 : 1 ≤ x.ki ∧ x.ki ≤ 2
  rotate_left
  · refine CallA_pure (Betw_f g7) ?_
    simp -implicitDefEqProofs -proj only [go_sem, Nat.reduceBEq, Nat.reduceLT, Nat.reduceLeDiff, Nat.reduceAdd, Nat.reduceMul, ↓reduceIte]
    exact LendV_eq (by rw [hno (fun k => by omega)])
  refine CallA_pure (Betw_t g7) ?_
  simp -implicitDefEqProofs -proj only [go_sem, Nat.reduceBEq, Nat.reduceLT, Nat.reduceLeDiff, Nat.reduceAdd, Nat.reduceMul, ↓reduceIte, n1, n2]
  by_cases g8 : 0 ≤ x.mo ∧ x.mo ≤ 3
  rotate_left
  · refine CallA_pure (Betw_f g8) ?_
    simp -implicitDefEqProofs -proj only [go_sem, Nat.reduceBEq, Nat.reduceLT, Nat.reduceLeDiff, Nat.reduceAdd, Nat.reduceMul, ↓reduceIte]
    exact LendV_eq (by rw [hno (fun k => by omega)])
  refine CallA_pure (Betw_t g8) ?_
  by_cases g9 : 6 < (x.ad.length : Int)
  · simp -implicitDefEqProofs -proj only [go_sem, Nat.reduceBEq, Nat.reduceLT, Nat.reduceLeDiff, Nat.reduceAdd, Nat.reduceMul, ↓reduceIte, n1, n2, rowA_len, decide_eq_true g9]
    exact LendV_eq (by rw [hno (fun k => by omega)])
  simp -implicitDefEqProofs -proj only [go_sem, Nat.reduceBEq, Nat.reduceLT, Nat.reduceLeDiff, Nat.reduceAdd, Nat.reduceMul, ↓reduceIte, n1, n2, rowA_len, decide_eq_false g9]
  refine CallA_pure (CTiers_ok htn) ?_
  by_cases g10 : tiersOK x.ts ∧ 1 ≤ x.ts.length ∧ x.ts.length ≤ 8
  rotate_left
  · simp -implicitDefEqProofs -proj only [go_sem, Nat.reduceBEq, Nat.reduceLT, Nat.reduceLeDiff, Nat.reduceAdd, Nat.reduceMul, ↓reduceIte, n1, n2, decide_eq_false g10]
    exact LendV_eq (by rw [decide_eq_false (fun k => g10 ⟨k.2.1, by have := k.1; unfold headOK at this; omega⟩)])
  simp -implicitDefEqProofs -proj only [go_sem, Nat.reduceBEq, Nat.reduceLT, Nat.reduceLeDiff, Nat.reduceAdd, Nat.reduceMul, ↓reduceIte, n1, n2, decide_eq_true g10]
  refine CallA_pure (ContA_ok (fun a => Part1_ok) han) ?_
  simp -implicitDefEqProofs -proj only [go_sem, Nat.reduceBEq, Nat.reduceLT, Nat.reduceLeDiff, Nat.reduceAdd, Nat.reduceMul, ↓reduceIte]
  refine LendV_eq (congrArg (fun b => AV.d (.bool b)) ?_)
  have hiff : (x.ad.any fun a => !decide (adjOK a)) = false ↔ adjsOK x.ad := by
    rw [List.any_eq_false]
    exact ⟨fun h a ha => by have := h a ha; simpa using this, fun h a ha => by simpa using h a ha⟩
  by_cases g11 : adjsOK x.ad
  · rw [hiff.2 g11, decide_eq_true (hpd.2 ⟨by omega, g10.1, g11⟩)]
    rfl
  · rw [decide_eq_false (fun k => g11 (hpd.1 k).2.2)]
    cases e : x.ad.any fun a => !decide (adjOK a)
    · exact absurd (hiff.1 e) g11
    · rfl
/-- The core's cell. -/
abbrev coreB (c : CoreX) : Blk := .box 26 [.d (.str c.cur), i64 c.f, i64 c.t, .d (.sl 5 (rowM c.ms)), .d (.sl 3 (rowS c.ss)), .d (.sl 9 (rowP c.ps))]
noncomputable def badP (c : CoreX) (x : PartX) : Bool := !decide (partOK c.f c.t c.ms.length x)
theorem Good1_ok {c : CoreX} {H : Heap} {b : Nat} {x : PartX} (hb : H b = some (coreB c)) (hm : c.ms.length ≤ 9223372036854775807) (htn : x.ts.length ≤ 9223372036854775807) (han : x.ad.length ≤ 9223372036854775807) : CallW Try.prog f_core_Good_1 [partV x, .ptr b 0] H fun r H' => r = bv (badP c x) ∧ H' b = some (coreB c) := by
  have hcall := CPart_ok (cur := c.cur) (f := c.f) (t := c.t) (ms := rowM c.ms) (ss := rowS c.ss) (ps := rowP c.ps) (x := x) (by rw [rowM_len]; exact hm) htn han
  rw [rowM_len] at hcall
  refine CallW_intro comp_core_Good_1 (by simp) ?_
  simp -implicitDefEqProofs -proj only [go_sem, Nat.reduceBEq, Nat.reduceLT, Nat.reduceLeDiff, Nat.reduceAdd, Nat.reduceMul, ↓reduceIte]
  refine AllocA_intro (fun b2 hb2 => ?_)
  replace hb2 : H b2 = none := hb2
  obtain ⟨n1, n2⟩ := fresh_ne hb2 hb
  simp -implicitDefEqProofs -proj only [go_sem, Nat.reduceBEq, Nat.reduceLT, Nat.reduceLeDiff, Nat.reduceAdd, Nat.reduceMul, ↓reduceIte, n1, n2, hb]
  refine CallA_pure hcall ?_
  simp -implicitDefEqProofs -proj only [go_sem, Nat.reduceBEq, Nat.reduceLT, Nat.reduceLeDiff, Nat.reduceAdd, Nat.reduceMul, ↓reduceIte, n1, n2, hb]
  try first | exact ⟨rfl, rfl⟩ | exact rfl
theorem IdxP_ok {c : CoreX} {H : Heap} {b : Nat} {l : List PartX} (hb : H b = some (coreB c)) (hm : c.ms.length ≤ 9223372036854775807) (hp : ∀ x ∈ l, x.ts.length ≤ 9223372036854775807 ∧ x.ad.length ≤ 9223372036854775807) (hl : l.length ≤ 9223372036854775807) : CallW Try.prog f_slices_IndexFunc_api_Part [.d (.sl 9 (rowP l)), .fn f_core_Good_1 [.ptr b 0]] H fun r H' => r = i64 (idxP (badP c) l) ∧ H' b = some (coreB c) := by
  refine CallW_intro comp_slices_IndexFunc_api_Part (by simp) ?_
  simp -implicitDefEqProofs -proj only [go_sem, Nat.reduceBEq, Nat.reduceLT, Nat.reduceLeDiff, Nat.reduceAdd, Nat.reduceMul, ↓reduceIte, rowP_len]
  refine LoopA_k (fun i : Nat => i ≤ l.length ∧ ∀ (j : Nat) (h : j < l.length), j < i → badP c l[j] = false) 19 (fun i => [(0, .d (.sl 9 (rowP l))), (1, .fn f_core_Good_1 [.ptr b 0]), (6, .d (.sl 9 (rowP l))), (7, i64 l.length), (8, i64 i)]) (fun _ => [(b, coreB c)]) (fun i => l.length - i) 0 ⟨Nat.zero_le _, fun j _ h => absurd h (Nat.not_lt_zero _)⟩ rfl ?_ ?_ ?_
  · simp -implicitDefEqProofs -proj only [go_sem, Nat.reduceBEq, Nat.reduceLT, Nat.reduceLeDiff, Nat.reduceAdd, Nat.reduceMul, ↓reduceIte, AllAt]
  · exact ⟨hb, trivial⟩
  · rintro i ⟨hi, hs⟩
    have hk : AllH (keepH [(b, coreB c)]) [(b, coreB c)] := keepH_all (by simp [keys])
    by_cases h : i < l.length
    · have hel := rowP_at h
      have hpi := hp _ (List.getElem_mem h)
      have hgo : badP c l[i] = false → ∀ (j : Nat) (h : j < l.length), j < i + 1 → badP c l[j] = false := step_all (P := fun _ x => badP c x = false) (List.getElem?_eq_getElem h) hs
      have hyes : badP c l[i] = true → idxP (badP c) l = i := fun e => idxP_some h e hs
      generalize l[i] = x at *
      have hcall := Good1_ok (x := x) hk.1 hm hpi.1 hpi.2
      simp -implicitDefEqProofs -proj only [go_sem, Nat.reduceBEq, Nat.reduceLT, Nat.reduceLeDiff, Nat.reduceAdd, Nat.reduceMul, ↓reduceIte, decide_eq_true (show (i : Int) < l.length by omega)]
      refine ElemA_at _ (by omega) hel ?_
      simp -implicitDefEqProofs -proj only [go_sem, Nat.reduceBEq, Nat.reduceLT, Nat.reduceLeDiff, Nat.reduceAdd, Nat.reduceMul, ↓reduceIte]
      refine CallA_w hcall (fun r H' hr => ?_)
      obtain ⟨rfl, hr⟩ := hr
      cases hpx : badP c x
      · simp -implicitDefEqProofs -proj only [go_sem, Nat.reduceBEq, Nat.reduceLT, Nat.reduceLeDiff, Nat.reduceAdd, Nat.reduceMul, ↓reduceIte]
        refine LoopQ_k (i + 1) ⟨by omega, hgo hpx⟩ (by show l.length - (i + 1) < l.length - i; omega) rfl ?_ ⟨hr, trivial⟩
        simp -implicitDefEqProofs -proj only [go_sem, Nat.reduceBEq, Nat.reduceLT, Nat.reduceLeDiff, Nat.reduceAdd, Nat.reduceMul, ↓reduceIte, AllAt, i64_succ (show i < 9223372036854775807 by omega)]
      · simp -implicitDefEqProofs -proj only [go_sem, Nat.reduceBEq, Nat.reduceLT, Nat.reduceLeDiff, Nat.reduceAdd, Nat.reduceMul, ↓reduceIte]
        rw [hyes hpx]
        try first | exact ⟨rfl, hr⟩ | exact rfl | rfl
    · have hi' : i = l.length := by omega
      subst hi'
      simp -implicitDefEqProofs -proj only [go_sem, Nat.reduceBEq, Nat.reduceLT, Nat.reduceLeDiff, Nat.reduceAdd, Nat.reduceMul, ↓reduceIte, decide_eq_false (show ¬ (l.length : Int) < l.length by omega)]
      rw [idxP_none fun j h => hs j h h]
      try first | exact ⟨rfl, hk.1⟩ | exact rfl
theorem ContP_ok {c : CoreX} {H : Heap} {b : Nat} {l : List PartX} (hb : H b = some (coreB c)) (hm : c.ms.length ≤ 9223372036854775807) (hp : ∀ x ∈ l, x.ts.length ≤ 9223372036854775807 ∧ x.ad.length ≤ 9223372036854775807) (hl : l.length ≤ 9223372036854775807) : CallW Try.prog f_slices_ContainsFunc_api_Part [.d (.sl 9 (rowP l)), .fn f_core_Good_1 [.ptr b 0]] H fun r H' => r = bv (l.any (badP c)) ∧ H' b = some (coreB c) := by
  refine CallW_intro comp_slices_ContainsFunc_api_Part (by simp) ?_
  simp -implicitDefEqProofs -proj only [go_sem, Nat.reduceBEq, Nat.reduceLT, Nat.reduceLeDiff, Nat.reduceAdd, Nat.reduceMul, ↓reduceIte]
  refine CallA_w (IdxP_ok hb hm hp hl) (fun r H' hr => ?_)
  obtain ⟨rfl, hr⟩ := hr
  simp -implicitDefEqProofs -proj only [go_sem, Nat.reduceBEq, Nat.reduceLT, Nat.reduceLeDiff, Nat.reduceAdd, Nat.reduceMul, ↓reduceIte]
  rw [idxP_any]
  try first | exact ⟨rfl, hr⟩ | exact rfl
end Go.Proofs.Ytlflfciebidddaa.Abs
