/- The laws of chapter 2 that speak of the program alone: what their functions answer. No claim stands here. -/
import Derived.Test.YthfdbgcccbcnlaaKRound
import Derived.Test.YthfdbgcccbcnlaaKMul01
set_option linter.unusedSimpArgs false
set_option linter.unusedVariables false
namespace Go.Proofs.Ythfdbgcccbcnlaa.Abs
open Go Go.RowKit Go.Proofs
attribute [local go_sem] RunC_seq AF_n AF_r AF_b St_n St_t St_H Fst_mk Snd_mk RunC_ops RunC_cond RunC_block RunC_loop RunC_exit RunC_ret RunC_skip RunO_nil RunO_code RunO_code_ret RunO_code_exit RunO_blk RunO_blk_ret RunO_blk_exit RunL_nil RunL_guard GuardA_tt GuardA_ff GuardA_tf GuardA_ft GuardA_void CondA_t CondA_f PickA_t PickA_f RunL_mov RunL_pick RunL_alloc RunL_box RunL_load LoadA_ptr LoadB_1 LoadB_n LoadA_dptr LoadA_dptr_n RunL_store StoreA_ptr StoreB_box RunL_bin Bin_add Bin_sub Bin_mul Bin_quo Bin_rem Bin_shl Bin_shr Bin_andI Bin_orI Bin_xorI Bin_eql Bin_neq Bin_lss Bin_leq Bin_gtr Bin_geq RunL_binb Bin_beql Bin_bneq RunL_un UnA_not UnA_neg RunL_conv convV MapA_some RunL_nilCheck nilV RunL_mkfn RunL_fieldAddr faV RunL_field FieldA_1 FieldA_n RunL_elemAddr EAddrA_sl EAddrA_own EptrA_eq RunL_build BuildA_some RunL_extract ExtA_eq RunL_len lenV RunL_slen RunL_idxStr IdxSA_eq slenV RunL_minmax mmV minmaxL RunL_call RunL_callv CallvA_fn putS ev evL evO evP eqK eqKs EqB_agg RunL_eqAgg EqA_t EqA_f evQ buildC fits okCell cellsAV lenAV setSeg nth seg mapD repeatL putT_get upd_get argT keepT_cons keepT_nil keepH_cons keepH_nil cond_true cond_false VC_true finW resW resL resOne LoopQ_exit LoopQ_ret List.cons_append List.nil_append Bool.not_true Bool.not_false Bool.and_true Bool.and_self Nat.lt_add_left_iff_pos Nat.zero_add Nat.add_zero List.drop_succ_cons List.drop_zero List.take_succ_cons List.take_zero beq_self_eq_true RunC_dops RunL_loadS RunL_storeS StoreSA_ptr RunL_pcall RunL_pcallv PCallvA_fn newsOk and_self and_true true_and loadW_ptr LoadK_1 LoadK_n upd_upd RunL_buildSlice BSliceA_some RunL_buildSliceD frzL frz cutL LoadA_eptr LoadE_row RunL_append RunL_slice SliceA_sl StoreA_eptr List.length_cons List.length_nil Nat.min_def Int.cast_ofNat_Int Int.natCast_zero Int.natCast_one decide_true decide_false List.getElem?_cons_zero List.getElem?_cons_succ
theorem alive02_ok : DataW Try.prog f_poundagelaw02_alive [] (bv true) := by
  have h1 : DataW Try.prog f_round_MulDiv [i64 (-7), i64 1, i64 2, i64 0] (.tup [i64 (-4), bv true]) := by
    have h := MulDiv_ok (a := -7) (b := 1) (c := 2) (m := 0) (by decide) (by decide) (by decide)
    rwa [mdR_yes (by decide) (by decide), show rnd (-7 * 1) 2 0 = -4 from by decide, fitR_yes (by decide)] at h
  have h2 : DataW Try.prog f_round_MulDiv [i64 (-7), i64 1, i64 2, i64 2] (.tup [i64 (-3), bv true]) := by
    have h := MulDiv_ok (a := -7) (b := 1) (c := 2) (m := 2) (by decide) (by decide) (by decide)
    rwa [mdR_yes (by decide) (by decide), show rnd (-7 * 1) 2 2 = -3 from by decide, fitR_yes (by decide)] at h
  have h3 : DataW Try.prog f_round_Good [i64 3] (bv true) := Good_ok
  refine CallW_intro comp_poundagelaw02_alive (by simp) ?_
  simp -implicitDefEqProofs -proj only [go_sem, Nat.reduceBEq, Nat.reduceLT, Nat.reduceLeDiff, Nat.reduceAdd, Nat.reduceMul, ↓reduceIte, Int.reduceToNat, Int.reducePow, Int.reduceLT, Int.reduceLE, Int.reduceAdd, Int.reduceSub, Int.reduceMul, Int.reduceEq, Int.reduceNe]
  (repeat' first
    | (refine CallA_pure (h1) ?_; try simp -implicitDefEqProofs -proj only [go_sem, Nat.reduceBEq, Nat.reduceLT, Nat.reduceLeDiff, Nat.reduceAdd, Nat.reduceMul, ↓reduceIte, Int.reduceToNat, Int.reducePow, Int.reduceLT, Int.reduceLE, Int.reduceAdd, Int.reduceSub, Int.reduceMul, Int.reduceEq, Int.reduceNe, *])
    | (refine CallA_pure (h2) ?_; try simp -implicitDefEqProofs -proj only [go_sem, Nat.reduceBEq, Nat.reduceLT, Nat.reduceLeDiff, Nat.reduceAdd, Nat.reduceMul, ↓reduceIte, Int.reduceToNat, Int.reducePow, Int.reduceLT, Int.reduceLE, Int.reduceAdd, Int.reduceSub, Int.reduceMul, Int.reduceEq, Int.reduceNe, *])
    | (refine CallA_pure (h3) ?_; try simp -implicitDefEqProofs -proj only [go_sem, Nat.reduceBEq, Nat.reduceLT, Nat.reduceLeDiff, Nat.reduceAdd, Nat.reduceMul, ↓reduceIte, Int.reduceToNat, Int.reducePow, Int.reduceLT, Int.reduceLE, Int.reduceAdd, Int.reduceSub, Int.reduceMul, Int.reduceEq, Int.reduceNe, *]))
  exact LendV_eq rfl
/-- Of what MulDiv answers: it, or nothing. -/
theorem mdR_ex (p c m : Int) : (∃ n, mdR p c m = .tup [i64 n, bv true] ∧ 0 < c ∧ (0 ≤ m ∧ m ≤ 3) ∧ n = rnd p c m ∧ Fit n) ∨ (mdR p c m = .tup [i64 0, bv false] ∧ (0 < c → 0 ≤ m ∧ m ≤ 3 → ¬ Fit (rnd p c m))) := by
  by_cases h : 0 < c ∧ 0 ≤ m ∧ m ≤ 3
  · rw [mdR_yes h.1 h.2]
    by_cases hf : Fit (rnd p c m)
    · exact .inl ⟨_, fitR_yes hf, h.1, h.2, rfl, hf⟩
    · exact .inr ⟨fitR_no hf, fun _ _ => hf⟩
  · exact .inr ⟨mdR_no h, fun h1 h2 => absurd ⟨h1, h2⟩ h⟩
theorem RoundOrder_ok {a b c m : Int} (ha : Fit a) (hb : Fit b) (hc : Fit c) (_hm : Fit m) : DataW Try.prog f_poundagelaw02_RoundOrder [i64 a, i64 b, i64 c, i64 m] (bv true) := by
  refine CallW_intro comp_poundagelaw02_RoundOrder (by simp) ?_
  simp -implicitDefEqProofs -proj only [go_sem, Nat.reduceBEq, Nat.reduceLT, Nat.reduceLeDiff, Nat.reduceAdd, Nat.reduceMul, ↓reduceIte, Int.reduceToNat, Int.reducePow, Int.reduceLT, Int.reduceLE, Int.reduceAdd, Int.reduceSub, Int.reduceMul, Int.reduceEq, Int.reduceNe]
  refine CallA_pure alive02_ok ?_
  by_cases h0 : b < a
  · simp -implicitDefEqProofs -proj only [go_sem, Nat.reduceBEq, Nat.reduceLT, Nat.reduceLeDiff, Nat.reduceAdd, Nat.reduceMul, ↓reduceIte, Int.reduceToNat, Int.reducePow, Int.reduceLT, Int.reduceLE, Int.reduceAdd, Int.reduceSub, Int.reduceMul, Int.reduceEq, Int.reduceNe, decide_eq_true h0]
    exact LendV_eq rfl
  · simp -implicitDefEqProofs -proj only [go_sem, Nat.reduceBEq, Nat.reduceLT, Nat.reduceLeDiff, Nat.reduceAdd, Nat.reduceMul, ↓reduceIte, Int.reduceToNat, Int.reducePow, Int.reduceLT, Int.reduceLE, Int.reduceAdd, Int.reduceSub, Int.reduceMul, Int.reduceEq, Int.reduceNe, decide_eq_false h0]
    have h1 := Div_ok (m := m) ha hc
    have h2 := Div_ok (m := m) hb hc
    by_cases h : 0 < c ∧ 0 ≤ m ∧ m ≤ 3
    · rw [mdR_yes h.1 h.2, fitR_yes (rnd_fit h.1 h.2 ha)] at h1
      rw [mdR_yes h.1 h.2, fitR_yes (rnd_fit h.1 h.2 hb)] at h2
      have hle := rnd_mono (p := a) (p' := b) h.1 h.2 (by omega)
      refine CallA_pure h1 ?_
      simp -implicitDefEqProofs -proj only [go_sem, Nat.reduceBEq, Nat.reduceLT, Nat.reduceLeDiff, Nat.reduceAdd, Nat.reduceMul, ↓reduceIte, Int.reduceToNat, Int.reducePow, Int.reduceLT, Int.reduceLE, Int.reduceAdd, Int.reduceSub, Int.reduceMul, Int.reduceEq, Int.reduceNe]
      refine CallA_pure h2 ?_
      simp -implicitDefEqProofs -proj only [go_sem, Nat.reduceBEq, Nat.reduceLT, Nat.reduceLeDiff, Nat.reduceAdd, Nat.reduceMul, ↓reduceIte, Int.reduceToNat, Int.reducePow, Int.reduceLT, Int.reduceLE, Int.reduceAdd, Int.reduceSub, Int.reduceMul, Int.reduceEq, Int.reduceNe, decide_eq_true hle]
      exact LendV_eq rfl
    · rw [mdR_no h] at h1 h2
      refine CallA_pure h1 ?_
      simp -implicitDefEqProofs -proj only [go_sem, Nat.reduceBEq, Nat.reduceLT, Nat.reduceLeDiff, Nat.reduceAdd, Nat.reduceMul, ↓reduceIte, Int.reduceToNat, Int.reducePow, Int.reduceLT, Int.reduceLE, Int.reduceAdd, Int.reduceSub, Int.reduceMul, Int.reduceEq, Int.reduceNe]
      refine CallA_pure h2 ?_
      simp -implicitDefEqProofs -proj only [go_sem, Nat.reduceBEq, Nat.reduceLT, Nat.reduceLeDiff, Nat.reduceAdd, Nat.reduceMul, ↓reduceIte, Int.reduceToNat, Int.reducePow, Int.reduceLT, Int.reduceLE, Int.reduceAdd, Int.reduceSub, Int.reduceMul, Int.reduceEq, Int.reduceNe]
      exact LendV_eq rfl
set_option maxRecDepth 20000 in
set_option maxHeartbeats 2000000 in
theorem RoundTurned_ok {a b c : Int} (ha : Fit a) (hb : Fit b) (hc : Fit c) : DataW Try.prog f_poundagelaw02_RoundTurned [i64 a, i64 b, i64 c] (bv true) := by
  refine CallW_intro comp_poundagelaw02_RoundTurned (by simp) ?_
  simp -implicitDefEqProofs -proj only [go_sem, Nat.reduceBEq, Nat.reduceLT, Nat.reduceLeDiff, Nat.reduceAdd, Nat.reduceMul, ↓reduceIte, Int.reduceToNat, Int.reducePow, Int.reduceLT, Int.reduceLE, Int.reduceAdd, Int.reduceSub, Int.reduceMul, Int.reduceEq, Int.reduceNe]
  refine CallA_pure alive02_ok ?_
  by_cases h0 : a = -9223372036854775808
  · subst h0
    simp -implicitDefEqProofs -proj only [go_sem, Nat.reduceBEq, Nat.reduceLT, Nat.reduceLeDiff, Nat.reduceAdd, Nat.reduceMul, ↓reduceIte, Int.reduceToNat, Int.reducePow, Int.reduceLT, Int.reduceLE, Int.reduceAdd, Int.reduceSub, Int.reduceMul, Int.reduceEq, Int.reduceNe, eq_self]
    exact LendV_eq rfl
  · have hw : IntKind.i64.wrap (0 - a) = -a := by rw [IntKind.wrap_i64]; unfold Fit at ha; omega
    have hna : Fit (-a) := by unfold Fit at *; omega
    have h1 := MulDiv_ok (a := a) (b := b) (c := c) (m := 0) ha hb hc
    have h2 := MulDiv_ok (a := -a) (b := b) (c := c) (m := 1) hna hb hc
    have h3 := MulDiv_ok (a := a) (b := b) (c := c) (m := 3) ha hb hc
    have h4 := MulDiv_ok (a := -a) (b := b) (c := c) (m := 3) hna hb hc
    rw [Int.neg_mul] at h2 h4
    have t1 := fun h => rnd_turn (p := a * b) (c := c) h
    have t2 := fun h => rnd_even (p := a * b) (c := c) h
    generalize a * b = p at *
    have k1 : ∀ x y : Int, mdR p c 0 = .tup [i64 x, bv true] → mdR (-p) c 1 = .tup [i64 y, bv true] → x = IntKind.i64.wrap (0 - y) := by
      intro x y e1 e2
      rcases mdR_ex p c 0 with ⟨n, f1, hc0, _, rfl, f2⟩ | ⟨f1, _⟩ <;> rw [f1] at e1 <;> cases e1
      rcases mdR_ex (-p) c 1 with ⟨n, g1, _, _, rfl, g2⟩ | ⟨g1, _⟩ <;> rw [g1] at e2 <;> cases e2
      rw [t1 hc0, IntKind.wrap_i64]; unfold Fit at f2; omega
    have k2 : ∀ x y : Int, mdR p c 3 = .tup [i64 x, bv true] → mdR (-p) c 3 = .tup [i64 y, bv true] → x = IntKind.i64.wrap (0 - y) := by
      intro x y e1 e2
      rcases mdR_ex p c 3 with ⟨n, f1, hc0, _, rfl, f2⟩ | ⟨f1, _⟩ <;> rw [f1] at e1 <;> cases e1
      rcases mdR_ex (-p) c 3 with ⟨n, g1, _, _, rfl, g2⟩ | ⟨g1, _⟩ <;> rw [g1] at e2 <;> cases e2
      rw [t2 hc0, IntKind.wrap_i64]; unfold Fit at f2; omega
    have ex : ∀ q m, ∃ x u, mdR q c m = .tup [i64 x, bv u] := by
      intro q m
      rcases mdR_ex q c m with ⟨n, f, _⟩ | ⟨f, _⟩ <;> exact ⟨_, _, f⟩
    obtain ⟨x1, u1, e1⟩ := ex p 0
    obtain ⟨x2, u2, e2⟩ := ex (-p) 1
    obtain ⟨x3, u3, e3⟩ := ex p 3
    obtain ⟨x4, u4, e4⟩ := ex (-p) 3
    rw [e1] at h1; rw [e2] at h2; rw [e3] at h3; rw [e4] at h4
    simp -implicitDefEqProofs -proj only [go_sem, Nat.reduceBEq, Nat.reduceLT, Nat.reduceLeDiff, Nat.reduceAdd, Nat.reduceMul, ↓reduceIte, Int.reduceToNat, Int.reducePow, Int.reduceLT, Int.reduceLE, Int.reduceAdd, Int.reduceSub, Int.reduceMul, Int.reduceEq, Int.reduceNe, decide_eq_false h0, hw]
    refine CallA_pure h1 ?_
    simp -implicitDefEqProofs -proj only [go_sem, Nat.reduceBEq, Nat.reduceLT, Nat.reduceLeDiff, Nat.reduceAdd, Nat.reduceMul, ↓reduceIte, Int.reduceToNat, Int.reducePow, Int.reduceLT, Int.reduceLE, Int.reduceAdd, Int.reduceSub, Int.reduceMul, Int.reduceEq, Int.reduceNe, hw]
    refine CallA_pure h2 ?_
    simp -implicitDefEqProofs -proj only [go_sem, Nat.reduceBEq, Nat.reduceLT, Nat.reduceLeDiff, Nat.reduceAdd, Nat.reduceMul, ↓reduceIte, Int.reduceToNat, Int.reducePow, Int.reduceLT, Int.reduceLE, Int.reduceAdd, Int.reduceSub, Int.reduceMul, Int.reduceEq, Int.reduceNe, hw]
    refine CallA_pure h3 ?_
    simp -implicitDefEqProofs -proj only [go_sem, Nat.reduceBEq, Nat.reduceLT, Nat.reduceLeDiff, Nat.reduceAdd, Nat.reduceMul, ↓reduceIte, Int.reduceToNat, Int.reducePow, Int.reduceLT, Int.reduceLE, Int.reduceAdd, Int.reduceSub, Int.reduceMul, Int.reduceEq, Int.reduceNe, hw]
    refine CallA_pure h4 ?_
    cases u1 <;> cases u2 <;> cases u3 <;> cases u4
    all_goals
      try (have k3 := k1 x1 x2 e1 e2)
      try (have k4 := k2 x3 x4 e3 e4)
      simp -implicitDefEqProofs -proj only [go_sem, Nat.reduceBEq, Nat.reduceLT, Nat.reduceLeDiff, Nat.reduceAdd, Nat.reduceMul, ↓reduceIte, Int.reduceToNat, Int.reducePow, Int.reduceLT, Int.reduceLE, Int.reduceAdd, Int.reduceSub, Int.reduceMul, Int.reduceEq, Int.reduceNe, *]
      exact LendV_eq rfl
end Go.Proofs.Ythfdbgcccbcnlaa.Abs
