/- When a core can be (poundageref10.Good). No claim stands here. -/
import Derived.Test.YtlflfciebidddaaKCore
import Derived.Test.YtlflfciebidddaaKGood2
set_option linter.unusedSimpArgs false
set_option linter.unusedVariables false
namespace Go.Proofs.Ytlflfciebidddaa.Abs
open Go Go.RowKit Go.Proofs
attribute [local go_sem] RunC_seq AF_n AF_r AF_b St_n St_t St_H Fst_mk Snd_mk RunC_ops RunC_cond RunC_block RunC_loop RunC_exit RunC_ret RunC_skip RunO_nil RunO_code RunO_code_ret RunO_code_exit RunO_blk RunO_blk_ret RunO_blk_exit RunL_nil RunL_guard GuardA_tt GuardA_ff GuardA_tf GuardA_ft GuardA_void CondA_t CondA_f PickA_t PickA_f RunL_mov RunL_pick RunL_alloc RunL_box RunL_load LoadA_ptr LoadB_1 LoadB_n LoadA_dptr LoadA_dptr_n RunL_store StoreA_ptr StoreB_box RunL_bin Bin_add Bin_sub Bin_mul Bin_quo Bin_rem Bin_shl Bin_shr Bin_andI Bin_orI Bin_xorI Bin_eql Bin_neq Bin_lss Bin_leq Bin_gtr Bin_geq RunL_binb Bin_beql Bin_bneq RunL_un UnA_not UnA_neg RunL_conv convV MapA_some RunL_nilCheck nilV RunL_mkfn RunL_fieldAddr faV RunL_field FieldA_1 FieldA_n RunL_elemAddr EAddrA_sl EAddrA_own EptrA_eq RunL_build BuildA_some RunL_extract ExtA_eq RunL_len lenV_sl lenV_nilsl lenV_own RunL_slen RunL_idxStr IdxSA_eq slenV RunL_minmax mmV minmaxL RunL_call RunL_callv CallvA_fn putS ev evL evO evP eqK eqKs EqB_agg RunL_eqAgg EqA_t EqA_f evQ buildC fits_agg cellsAV_agg fits_d cellsAV_d fits_nilp cellsAV_nilp fits_nilsl cellsAV_nilsl fits_nilfn cellsAV_nilfn fits_ptr cellsAV_ptr fits_eptr cellsAV_eptr fits_dptr cellsAV_dptr fits_own cellsAV_own fits_fn cellsAV_fn rowV_fits rowV_cells rowV_len lenAV setSeg nth seg mapD repeatL putT_get upd_get argT keepT_cons keepT_nil keepH_cons keepH_nil cond_true cond_false VC_true finW resW resL resOne LoopQ_exit LoopQ_ret List.cons_append List.nil_append Bool.not_true Bool.not_false Bool.and_true Bool.and_self Nat.lt_add_left_iff_pos Nat.zero_add Nat.add_zero List.drop_succ_cons List.drop_zero List.take_succ_cons List.take_zero beq_self_eq_true Bool.false_eq_true RunC_dops RunL_loadS RunL_loadD LoadDA_dptr RunL_storeS StoreSA_ptr RunL_pcall RunL_pcallv PCallvA_fn newsOk and_self and_true true_and loadW_ptr LoadK_1 LoadK_n upd_upd RunL_loadP LoadPA_ptr RunL_callS RunL_make RunL_buildSlice BSliceA_some RunL_buildSliceD frzL frz cutL LoadA_eptr LoadE_row RunL_append RunL_slice SliceA_sl StoreA_eptr List.length_cons List.length_nil Nat.min_def Int.cast_ofNat_Int Int.natCast_zero Int.natCast_one decide_true decide_false List.getElem?_cons_zero List.getElem?_cons_succ RunC_rangef CallvA_yld putL_nil putL_cons RangeQ_exit RangeQ_ret
def nameLt (a b : ByteArray) : Bool := Op.bytesLess a.toList b.toList
def meterOK (ms : List MeterX) (i : Nat) (m : MeterX) : Prop := (0 ≤ m.mx ∧ m.mx ≤ 2000) ∧ m.ln = 0 ∧ m.co = 0 ∧ ∀ p, ms[i - 1]? = some p → 0 < i → nameLt p.nm m.nm = true
def sumOK (f t : Int) (s : SumX) : Prop := (0 ≤ s.a ∧ s.a ≤ 1000000000000) ∧ (f ≤ s.f ∧ s.f ≤ s.t ∧ s.t ≤ t)
def headC (c : CoreX) : Prop := (0 ≤ c.f ∧ c.f ≤ 3652058) ∧ (c.f ≤ c.t ∧ c.t ≤ 3652058) ∧ c.t - c.f ≤ 3999 ∧ c.ms.length ≤ 4 ∧ c.ss.length ≤ 8 ∧ c.ps.length ≤ 8
def metersOK (ms : List MeterX) : Prop := ∀ (i : Nat) (h : i < ms.length), meterOK ms i ms[i]
structure goodC (c : CoreX) : Prop where
  hd : headC c
  ms : metersOK c.ms
  ss : ∀ s ∈ c.ss, sumOK c.f c.t s
  ps : ∀ x ∈ c.ps, partOK c.f c.t c.ms.length x
noncomputable instance (c : CoreX) : Decidable (goodC c) := Classical.propDecidable _
theorem RPart_ok {cur : ByteArray} {f t : Int} {ms ss ps : List (List D)} {x : PartX} : DataW Try.prog f_poundageref10_Part [coreV cur f t ms ss ps, partV x] (bv (decide (partOK f t ms.length x))) := by
  by_cases h : headOK f t ms.length x
  · have := RPart_yes (cur := cur) (ss := ss) (ps := ps) h
    rwa [show decide (tiersOK x.ts ∧ adjsOK x.ad) = decide (partOK f t ms.length x) from decide_eq_decide.2 ⟨fun k => ⟨h, k⟩, fun k => k.2⟩] at this
  · have := RPart_no (cur := cur) (ss := ss) (ps := ps) h
    rwa [show false = decide (partOK f t ms.length x) from (decide_eq_false (fun k => h k.1)).symm] at this
theorem step_all {α : Type} {l : List α} {P : Nat → α → Prop} {i : Nat} {x : α} (hi : l[i]? = some x) (hs : ∀ (j : Nat) (h : j < l.length), j < i → P j l[j]) (hx : P i x) : ∀ (j : Nat) (h : j < l.length), j < i + 1 → P j l[j] := by
  intro j h1 h2
  by_cases hj : j = i
  · subst hj
    rw [List.getElem?_eq_getElem h1] at hi
    cases hi
    exact hx
  · exact hs j h1 (by omega)
set_option maxRecDepth 20000 in
theorem RGood_ok {c : CoreX} (hc : c.Fit) : DataW Try.prog f_poundageref10_Good [coreX c] (bv (decide (goodC c))) := by
  obtain ⟨cur, f, t, ms, ss, ps⟩ := c
  obtain ⟨hff, hft, _, hmn, _, hsn, _, hpn⟩ := hc
  simp -implicitDefEqProofs only [] at hff hft hmn hsn hpn
  have hno : ¬ headC ⟨cur, f, t, ms, ss, ps⟩ → decide (goodC ⟨cur, f, t, ms, ss, ps⟩) = false := fun h => decide_eq_false (fun k => h k.hd)
  unfold headC at hno
  simp -implicitDefEqProofs only [] at hno
  refine CallW_intro comp_poundageref10_Good (by simp) ?_
  simp -implicitDefEqProofs -proj only [go_sem, Nat.reduceBEq, Nat.reduceLT, Nat.reduceLeDiff, Nat.reduceAdd, Nat.reduceMul, ↓reduceIte]
  refine AllocA_intro (fun b1 hb1 => ?_)
  simp -implicitDefEqProofs -proj only [go_sem, Nat.reduceBEq, Nat.reduceLT, Nat.reduceLeDiff, Nat.reduceAdd, Nat.reduceMul, ↓reduceIte]
  by_cases g1 : 0 ≤ f ∧ f ≤ 3652058
  rotate_left
  · refine CallA_pure (RIn_f g1) ?_
    simp -implicitDefEqProofs -proj only [go_sem, Nat.reduceBEq, Nat.reduceLT, Nat.reduceLeDiff, Nat.reduceAdd, Nat.reduceMul, ↓reduceIte]
    exact LendV_eq (by rw [hno (fun k => g1 k.1)])
  refine CallA_pure (RIn_t g1) ?_
  simp -implicitDefEqProofs -proj only [go_sem, Nat.reduceBEq, Nat.reduceLT, Nat.reduceLeDiff, Nat.reduceAdd, Nat.reduceMul, ↓reduceIte]
  by_cases g2 : f ≤ t ∧ t ≤ 3652058
  rotate_left
  · refine CallA_pure (RIn_f g2) ?_
    simp -implicitDefEqProofs -proj only [go_sem, Nat.reduceBEq, Nat.reduceLT, Nat.reduceLeDiff, Nat.reduceAdd, Nat.reduceMul, ↓reduceIte]
    exact LendV_eq (by rw [hno (fun k => g2 k.2.1)])
  refine CallA_pure (RIn_t g2) ?_
  have w1 : IntKind.i64.wrap (t - f) = t - f := by rw [IntKind.wrap_i64]; omega
  by_cases g3 : 3999 < t - f
  · simp -implicitDefEqProofs -proj only [go_sem, Nat.reduceBEq, Nat.reduceLT, Nat.reduceLeDiff, Nat.reduceAdd, Nat.reduceMul, ↓reduceIte, w1, decide_eq_true g3]
    exact LendV_eq (by rw [hno (fun k => by omega)])
  by_cases g4 : 4 < (ms.length : Int)
  · simp -implicitDefEqProofs -proj only [go_sem, Nat.reduceBEq, Nat.reduceLT, Nat.reduceLeDiff, Nat.reduceAdd, Nat.reduceMul, ↓reduceIte, w1, rowM_len, rowS_len, rowP_len, decide_eq_false g3, decide_eq_true g4]
    exact LendV_eq (by rw [hno (fun k => by omega)])
  by_cases g5 : 8 < (ss.length : Int)
  · simp -implicitDefEqProofs -proj only [go_sem, Nat.reduceBEq, Nat.reduceLT, Nat.reduceLeDiff, Nat.reduceAdd, Nat.reduceMul, ↓reduceIte, w1, rowM_len, rowS_len, rowP_len, decide_eq_false g3, decide_eq_false g4, decide_eq_true g5]
    exact LendV_eq (by rw [hno (fun k => by omega)])
  by_cases g6 : 8 < (ps.length : Int)
  · simp -implicitDefEqProofs -proj only [go_sem, Nat.reduceBEq, Nat.reduceLT, Nat.reduceLeDiff, Nat.reduceAdd, Nat.reduceMul, ↓reduceIte, w1, rowM_len, rowS_len, rowP_len, decide_eq_false g3, decide_eq_false g4, decide_eq_false g5, decide_eq_true g6]
    exact LendV_eq (by rw [hno (fun k => by omega)])
  have hhd : headC ⟨cur, f, t, ms, ss, ps⟩ := ⟨g1, g2, show t - f ≤ 3999 by omega, show ms.length ≤ 4 by omega, show ss.length ≤ 8 by omega, show ps.length ≤ 8 by omega⟩
  clear hno
  simp -implicitDefEqProofs -proj only [go_sem, Nat.reduceBEq, Nat.reduceLT, Nat.reduceLeDiff, Nat.reduceAdd, Nat.reduceMul, ↓reduceIte, w1, rowM_len, rowS_len, rowP_len, decide_eq_false g3, decide_eq_false g4, decide_eq_false g5, decide_eq_false g6]
  refine LoopA_k (fun i : Nat => i ≤ ms.length ∧ ∀ (j : Nat) (h : j < ms.length), j < i → meterOK ms j ms[j]) 120 (fun i => [(1, .ptr b1 0), (48, .d (.sl 5 (rowM ms))), (49, i64 ms.length), (50, i64 i)]) (fun _ => [(b1, .box 26 [.d (.str cur), i64 f, i64 t, .d (.sl 5 (rowM ms)), .d (.sl 3 (rowS ss)), .d (.sl 9 (rowP ps))])]) (fun i => ms.length - i) 0 ⟨Nat.zero_le _, fun j _ h => absurd h (Nat.not_lt_zero _)⟩ rfl ?_ ?_ ?_
  · simp -implicitDefEqProofs -proj only [go_sem, Nat.reduceBEq, Nat.reduceLT, Nat.reduceLeDiff, Nat.reduceAdd, Nat.reduceMul, ↓reduceIte, AllAt]
  · simp -implicitDefEqProofs -proj only [go_sem, Nat.reduceBEq, Nat.reduceLT, Nat.reduceLeDiff, Nat.reduceAdd, Nat.reduceMul, ↓reduceIte, AllH]
  · rintro i ⟨hi, hs⟩
    have hk : AllH (keepH [(b1, .box 26 [.d (.str cur), i64 f, i64 t, .d (.sl 5 (rowM ms)), .d (.sl 3 (rowS ss)), .d (.sl 9 (rowP ps))])]) [(b1, .box 26 [.d (.str cur), i64 f, i64 t, .d (.sl 5 (rowM ms)), .d (.sl 3 (rowS ss)), .d (.sl 9 (rowP ps))])] := keepH_all (by simp [keys])
    have k1 := hk.1
    by_cases h : i < ms.length
    · have hel := rowM_at h
      have hno : ¬ meterOK ms i ms[i] → decide (goodC ⟨cur, f, t, ms, ss, ps⟩) = false := fun e => decide_eq_false fun k => e (k.ms i h)
      have hgo : meterOK ms i ms[i] → ∀ (j : Nat) (h : j < ms.length), j < i + 1 → meterOK ms j ms[j] := step_all (List.getElem?_eq_getElem h) hs
      generalize ms[i] = m at *
      unfold meterOK at hno hgo
      simp -implicitDefEqProofs -proj only [go_sem, Nat.reduceBEq, Nat.reduceLT, Nat.reduceLeDiff, Nat.reduceAdd, Nat.reduceMul, ↓reduceIte, decide_eq_true (show (i : Int) < ms.length by omega)]
      refine ElemA_at _ (by omega) hel ?_
      simp -implicitDefEqProofs -proj only [go_sem, Nat.reduceBEq, Nat.reduceLT, Nat.reduceLeDiff, Nat.reduceAdd, Nat.reduceMul, ↓reduceIte]
      refine AllocA_intro (fun b4 hb4 => ?_)
      replace hb4 : keepH [(b1, Blk.box 26 [.d (.str cur), i64 f, i64 t, .d (.sl 5 (rowM ms)), .d (.sl 3 (rowS ss)), .d (.sl 9 (rowP ps))])] b4 = none := hb4
      obtain ⟨n1, n2⟩ := fresh_ne hb4 k1
      simp -implicitDefEqProofs -proj only [go_sem, Nat.reduceBEq, Nat.reduceLT, Nat.reduceLeDiff, Nat.reduceAdd, Nat.reduceMul, ↓reduceIte, n1, n2]
      by_cases c1 : 0 ≤ m.mx ∧ m.mx ≤ 2000
      rotate_left
      · refine CallA_pure (RIn_f c1) ?_
        simp -implicitDefEqProofs -proj only [go_sem, Nat.reduceBEq, Nat.reduceLT, Nat.reduceLeDiff, Nat.reduceAdd, Nat.reduceMul, ↓reduceIte]
        exact LendV_eq (by rw [hno (fun k => c1 k.1)])
      refine CallA_pure (RIn_t c1) ?_
      by_cases c2 : m.ln = 0
      rotate_left
      · simp -implicitDefEqProofs -proj only [go_sem, Nat.reduceBEq, Nat.reduceLT, Nat.reduceLeDiff, Nat.reduceAdd, Nat.reduceMul, ↓reduceIte, n1, n2, decide_eq_false c2]
        exact LendV_eq (by rw [hno (fun k => c2 k.2.1)])
      by_cases c3 : m.co = 0
      rotate_left
      · simp -implicitDefEqProofs -proj only [go_sem, Nat.reduceBEq, Nat.reduceLT, Nat.reduceLeDiff, Nat.reduceAdd, Nat.reduceMul, ↓reduceIte, n1, n2, decide_eq_true c2, decide_eq_false c3]
        exact LendV_eq (by rw [hno (fun k => c3 k.2.2.1)])
      by_cases c4 : i = 0
      · simp -implicitDefEqProofs -proj only [go_sem, Nat.reduceBEq, Nat.reduceLT, Nat.reduceLeDiff, Nat.reduceAdd, Nat.reduceMul, ↓reduceIte, n1, n2, decide_eq_true c2, decide_eq_true c3, decide_eq_false (show ¬ 0 < (i : Int) by omega)]
        refine LoopQ_k (i + 1) ⟨by omega, hgo ⟨c1, c2, c3, fun p _ h => absurd h (by omega)⟩⟩ (by show ms.length - (i + 1) < ms.length - i; omega) rfl ?_ (AllH_upd hb4 hk)
        simp -implicitDefEqProofs -proj only [go_sem, Nat.reduceBEq, Nat.reduceLT, Nat.reduceLeDiff, Nat.reduceAdd, Nat.reduceMul, ↓reduceIte, AllAt, i64_succ (show i < 9223372036854775807 by omega)]
      · have hw : IntKind.i64.wrap ((i : Int) - 1) = ((i - 1 : Nat) : Int) := by rw [IntKind.wrap_i64]; omega
        have hip : i - 1 < ms.length := by omega
        have hel2 := rowM_at hip
        have hpe : ms[i - 1]? = some ms[i - 1] := List.getElem?_eq_getElem hip
        generalize ms[i - 1] = p at *
        simp -implicitDefEqProofs -proj only [go_sem, Nat.reduceBEq, Nat.reduceLT, Nat.reduceLeDiff, Nat.reduceAdd, Nat.reduceMul, ↓reduceIte, n1, n2, k1, hw, decide_eq_true c2, decide_eq_true c3, decide_eq_true (show 0 < (i : Int) by omega)]
        refine ElemA_at _ (by omega) hel2 ?_
        by_cases c5 : nameLt p.nm m.nm = true
        · have c5' : Op.bytesLess p.nm.toList m.nm.toList = true := c5
          simp -implicitDefEqProofs -proj only [go_sem, Nat.reduceBEq, Nat.reduceLT, Nat.reduceLeDiff, Nat.reduceAdd, Nat.reduceMul, ↓reduceIte, n1, n2, Bin_slss, c5']
          refine LoopQ_k (i + 1) ⟨by omega, hgo ⟨c1, c2, c3, fun q hq _ => by rw [hpe] at hq; cases hq; exact c5⟩⟩ (by show ms.length - (i + 1) < ms.length - i; omega) rfl ?_ (AllH_upd hb4 hk)
          simp -implicitDefEqProofs -proj only [go_sem, Nat.reduceBEq, Nat.reduceLT, Nat.reduceLeDiff, Nat.reduceAdd, Nat.reduceMul, ↓reduceIte, AllAt, i64_succ (show i < 9223372036854775807 by omega)]
        · have c5' : Op.bytesLess p.nm.toList m.nm.toList = false := by simpa [nameLt] using c5
          simp -implicitDefEqProofs -proj only [go_sem, Nat.reduceBEq, Nat.reduceLT, Nat.reduceLeDiff, Nat.reduceAdd, Nat.reduceMul, ↓reduceIte, n1, n2, Bin_slss, c5']
          exact LendV_eq (by rw [hno (fun k => c5 (k.2.2.2 p hpe (by omega)))])
    · have hi' : i = ms.length := by omega
      subst hi'
      simp -implicitDefEqProofs -proj only [go_sem, Nat.reduceBEq, Nat.reduceLT, Nat.reduceLeDiff, Nat.reduceAdd, Nat.reduceMul, ↓reduceIte, k1, rowS_len, decide_eq_false (show ¬ (ms.length : Int) < ms.length by omega)]
      refine LoopA_k (fun i : Nat => i ≤ ss.length ∧ ∀ (j : Nat) (h : j < ss.length), j < i → sumOK f t ss[j]) 120 (fun i => [(1, .ptr b1 0), (88, .d (.sl 3 (rowS ss))), (89, i64 ss.length), (90, i64 i)]) (fun _ => [(b1, .box 26 [.d (.str cur), i64 f, i64 t, .d (.sl 5 (rowM ms)), .d (.sl 3 (rowS ss)), .d (.sl 9 (rowP ps))])]) (fun i => ss.length - i) 0 ⟨Nat.zero_le _, fun j _ h => absurd h (Nat.not_lt_zero _)⟩ rfl ?_ ?_ ?_
      · simp -implicitDefEqProofs -proj only [go_sem, Nat.reduceBEq, Nat.reduceLT, Nat.reduceLeDiff, Nat.reduceAdd, Nat.reduceMul, ↓reduceIte, AllAt]
      · exact hk
      · rintro i ⟨hi2, hs2⟩
        by_cases h2 : i < ss.length
        · have hel := rowS_at h2
          have hno : ¬ sumOK f t ss[i] → decide (goodC ⟨cur, f, t, ms, ss, ps⟩) = false := fun e => decide_eq_false fun k => e (k.ss _ (List.getElem_mem h2))
          have hgo : sumOK f t ss[i] → ∀ (j : Nat) (h : j < ss.length), j < i + 1 → sumOK f t ss[j] := step_all (P := fun _ x => sumOK f t x) (List.getElem?_eq_getElem h2) hs2
          generalize ss[i] = x at *
          unfold sumOK at hno hgo
          simp -implicitDefEqProofs -proj only [go_sem, Nat.reduceBEq, Nat.reduceLT, Nat.reduceLeDiff, Nat.reduceAdd, Nat.reduceMul, ↓reduceIte, decide_eq_true (show (i : Int) < ss.length by omega)]
          refine ElemA_at _ (by omega) hel ?_
          simp -implicitDefEqProofs -proj only [go_sem, Nat.reduceBEq, Nat.reduceLT, Nat.reduceLeDiff, Nat.reduceAdd, Nat.reduceMul, ↓reduceIte]
          refine AllocA_intro (fun b4 hb4 => ?_)
          replace hb4 : keepH [(b1, Blk.box 26 [.d (.str cur), i64 f, i64 t, .d (.sl 5 (rowM ms)), .d (.sl 3 (rowS ss)), .d (.sl 9 (rowP ps))])] b4 = none := hb4
          obtain ⟨n1, n2⟩ := fresh_ne hb4 k1
          simp -implicitDefEqProofs -proj only [go_sem, Nat.reduceBEq, Nat.reduceLT, Nat.reduceLeDiff, Nat.reduceAdd, Nat.reduceMul, ↓reduceIte, n1, n2]
          by_cases c1 : 0 ≤ x.a ∧ x.a ≤ 1000000000000
          rotate_left
          · refine CallA_pure (RIn_f c1) ?_
            simp -implicitDefEqProofs -proj only [go_sem, Nat.reduceBEq, Nat.reduceLT, Nat.reduceLeDiff, Nat.reduceAdd, Nat.reduceMul, ↓reduceIte]
            exact LendV_eq (by rw [hno (fun k => c1 k.1)])
          refine CallA_pure (RIn_t c1) ?_
          simp -implicitDefEqProofs -proj only [go_sem, Nat.reduceBEq, Nat.reduceLT, Nat.reduceLeDiff, Nat.reduceAdd, Nat.reduceMul, ↓reduceIte, n1, n2, k1]
          refine CallA_pure RSpan_ok ?_
          by_cases c2 : f ≤ x.f ∧ x.f ≤ x.t ∧ x.t ≤ t
          rotate_left
          · simp -implicitDefEqProofs -proj only [go_sem, Nat.reduceBEq, Nat.reduceLT, Nat.reduceLeDiff, Nat.reduceAdd, Nat.reduceMul, ↓reduceIte, n1, n2, decide_eq_false c2]
            exact LendV_eq (by rw [hno (fun k => c2 k.2)])
          simp -implicitDefEqProofs -proj only [go_sem, Nat.reduceBEq, Nat.reduceLT, Nat.reduceLeDiff, Nat.reduceAdd, Nat.reduceMul, ↓reduceIte, n1, n2, decide_eq_true c2]
          refine LoopQ_k (i + 1) ⟨by omega, hgo ⟨c1, c2⟩⟩ (by show ss.length - (i + 1) < ss.length - i; omega) rfl ?_ (AllH_upd hb4 hk)
          simp -implicitDefEqProofs -proj only [go_sem, Nat.reduceBEq, Nat.reduceLT, Nat.reduceLeDiff, Nat.reduceAdd, Nat.reduceMul, ↓reduceIte, AllAt, i64_succ (show i < 9223372036854775807 by omega)]
        · have hi3 : i = ss.length := by omega
          subst hi3
          simp -implicitDefEqProofs -proj only [go_sem, Nat.reduceBEq, Nat.reduceLT, Nat.reduceLeDiff, Nat.reduceAdd, Nat.reduceMul, ↓reduceIte, k1, rowP_len, decide_eq_false (show ¬ (ss.length : Int) < ss.length by omega)]
          refine LoopA_k (fun i : Nat => i ≤ ps.length ∧ ∀ (j : Nat) (h : j < ps.length), j < i → partOK f t ms.length ps[j]) 120 (fun i => [(1, .ptr b1 0), (109, .d (.sl 9 (rowP ps))), (110, i64 ps.length), (111, i64 i)]) (fun _ => [(b1, .box 26 [.d (.str cur), i64 f, i64 t, .d (.sl 5 (rowM ms)), .d (.sl 3 (rowS ss)), .d (.sl 9 (rowP ps))])]) (fun i => ps.length - i) 0 ⟨Nat.zero_le _, fun j _ h => absurd h (Nat.not_lt_zero _)⟩ rfl ?_ ?_ ?_
          · simp -implicitDefEqProofs -proj only [go_sem, Nat.reduceBEq, Nat.reduceLT, Nat.reduceLeDiff, Nat.reduceAdd, Nat.reduceMul, ↓reduceIte, AllAt]
          · exact hk
          · rintro i ⟨hi4, hs4⟩
            by_cases h4 : i < ps.length
            · have hel := rowP_at h4
              have hno : ¬ partOK f t ms.length ps[i] → decide (goodC ⟨cur, f, t, ms, ss, ps⟩) = false := fun e => decide_eq_false fun k => e (k.ps _ (List.getElem_mem h4))
              have hgo : partOK f t ms.length ps[i] → ∀ (j : Nat) (h : j < ps.length), j < i + 1 → partOK f t ms.length ps[j] := step_all (P := fun _ x => partOK f t ms.length x) (List.getElem?_eq_getElem h4) hs4
              generalize ps[i] = x at *
              have hcall := RPart_ok (cur := cur) (f := f) (t := t) (ms := rowM ms) (ss := rowS ss) (ps := rowP ps) (x := x)
              rw [rowM_len] at hcall
              simp -implicitDefEqProofs -proj only [go_sem, Nat.reduceBEq, Nat.reduceLT, Nat.reduceLeDiff, Nat.reduceAdd, Nat.reduceMul, ↓reduceIte, decide_eq_true (show (i : Int) < ps.length by omega)]
              refine ElemA_at _ (by omega) hel ?_
              simp -implicitDefEqProofs -proj only [go_sem, Nat.reduceBEq, Nat.reduceLT, Nat.reduceLeDiff, Nat.reduceAdd, Nat.reduceMul, ↓reduceIte]
              refine AllocA_intro (fun b4 hb4 => ?_)
              replace hb4 : keepH [(b1, Blk.box 26 [.d (.str cur), i64 f, i64 t, .d (.sl 5 (rowM ms)), .d (.sl 3 (rowS ss)), .d (.sl 9 (rowP ps))])] b4 = none := hb4
              obtain ⟨n1, n2⟩ := fresh_ne hb4 k1
              simp -implicitDefEqProofs -proj only [go_sem, Nat.reduceBEq, Nat.reduceLT, Nat.reduceLeDiff, Nat.reduceAdd, Nat.reduceMul, ↓reduceIte, n1, n2, k1]
              refine CallA_pure hcall ?_
              by_cases c1 : partOK f t ms.length x
              rotate_left
              · simp -implicitDefEqProofs -proj only [go_sem, Nat.reduceBEq, Nat.reduceLT, Nat.reduceLeDiff, Nat.reduceAdd, Nat.reduceMul, ↓reduceIte, decide_eq_false c1]
                exact LendV_eq (by rw [hno c1])
              simp -implicitDefEqProofs -proj only [go_sem, Nat.reduceBEq, Nat.reduceLT, Nat.reduceLeDiff, Nat.reduceAdd, Nat.reduceMul, ↓reduceIte, n1, n2, decide_eq_true c1]
              refine LoopQ_k (i + 1) ⟨by omega, hgo c1⟩ (by show ps.length - (i + 1) < ps.length - i; omega) rfl ?_ (AllH_upd hb4 hk)
              simp -implicitDefEqProofs -proj only [go_sem, Nat.reduceBEq, Nat.reduceLT, Nat.reduceLeDiff, Nat.reduceAdd, Nat.reduceMul, ↓reduceIte, AllAt, i64_succ (show i < 9223372036854775807 by omega)]
            · have hi5 : i = ps.length := by omega
              subst hi5
              have hfin : goodC ⟨cur, f, t, ms, ss, ps⟩ := ⟨hhd, fun j h => hs j h h, fun s hm => by obtain ⟨j, hj, rfl⟩ := List.getElem_of_mem hm; exact hs2 j hj hj, fun s hm => by obtain ⟨j, hj, rfl⟩ := List.getElem_of_mem hm; exact hs4 j hj hj⟩
              simp -implicitDefEqProofs -proj only [go_sem, Nat.reduceBEq, Nat.reduceLT, Nat.reduceLeDiff, Nat.reduceAdd, Nat.reduceMul, ↓reduceIte, decide_eq_false (show ¬ (ps.length : Int) < ps.length by omega)]
              exact LendV_eq (by rw [decide_eq_true hfin])
end Go.Proofs.Ytlflfciebidddaa.Abs
