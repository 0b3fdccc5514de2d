/- The law of sums: what its function answers. No claim stands here. -/
import Derived.Test.YthmcidkcindmpaaKLaw01
set_option linter.unusedSimpArgs false
set_option linter.unusedVariables false
namespace Go.Proofs.Ythmcidkcindmpaa.Abs
open Go Go.RowKit Go.Proofs
attribute [local go_sem] RunC_seq AF_n AF_r AF_b St_n St_t St_H Fst_mk Snd_mk RunC_ops RunC_cond RunC_block RunC_loop RunC_exit RunC_ret RunC_skip RunO_nil RunO_code RunO_code_ret RunO_code_exit RunO_blk RunO_blk_ret RunO_blk_exit RunL_nil RunL_guard GuardA_tt GuardA_ff GuardA_tf GuardA_ft GuardA_void CondA_t CondA_f PickA_t PickA_f RunL_mov RunL_pick RunL_alloc RunL_box RunL_load LoadA_ptr LoadB_1 LoadB_n LoadA_dptr LoadA_dptr_n RunL_store StoreA_ptr StoreB_box RunL_bin Bin_add Bin_sub Bin_mul Bin_quo Bin_rem Bin_shl Bin_shr Bin_and Bin_or Bin_xor Bin_eql Bin_neq Bin_lss Bin_leq Bin_gtr Bin_geq RunL_binb Bin_beql Bin_bneq RunL_un UnA_not UnA_neg RunL_conv convV MapA_some RunL_nilCheck nilV RunL_mkfn RunL_fieldAddr faV RunL_field FieldA_1 FieldA_n RunL_elemAddr EAddrA_sl EAddrA_own EptrA_eq RunL_build BuildA_some RunL_extract ExtA_eq RunL_len lenV RunL_slen slenV RunL_minmax mmV minmaxL RunL_call RunL_callv CallvA_fn putS ev evL evO evP evQ buildC fits okCell cellsAV lenAV setSeg nth seg mapD repeatL putT_get upd_get argT keepT_cons keepT_nil keepH_cons keepH_nil cond_true cond_false VC_true finW resW resL resOne LoopQ_exit LoopQ_ret List.cons_append List.nil_append Bool.not_true Bool.not_false Bool.and_true Bool.and_self Nat.lt_add_left_iff_pos Nat.zero_add Nat.add_zero List.drop_succ_cons List.drop_zero List.take_succ_cons List.take_zero beq_self_eq_true RunC_dops RunL_loadS RunL_storeS StoreSA_ptr RunL_pcall RunL_pcallv PCallvA_fn newsOk and_self and_true true_and loadW_ptr LoadK_1 LoadK_n upd_upd RunL_buildSlice BSliceA_some RunL_buildSliceD frzL frz cutL LoadA_eptr LoadE_row RunL_append RunL_slice SliceA_sl StoreA_eptr List.length_cons List.length_nil Nat.min_def Int.cast_ofNat_Int Int.natCast_zero Int.natCast_one decide_true decide_false List.getElem?_cons_zero List.getElem?_cons_succ
theorem pickL_mem {lt : Int → Int → Bool} {b : Int} {l : List Int} : pickL lt b l = b ∨ pickL lt b l ∈ l := by
  induction l generalizing b with
  | nil => exact .inl rfl
  | cons x l ih =>
    rw [pickL]
    rcases @ih (if lt x b = true then x else b) with h | h
    · rw [h]; split
      · exact .inr (List.mem_cons_self ..)
      · exact .inl rfl
    · exact .inr (List.mem_cons_of_mem _ h)
theorem least_le {b : Int} {l : List Int} : pickL (fun a b => decide (a < b)) b l ≤ b ∧ ∀ x ∈ l, pickL (fun a b => decide (a < b)) b l ≤ x := by
  induction l generalizing b with
  | nil => exact ⟨Int.le_refl _, by simp⟩
  | cons y l ih =>
    rw [pickL]
    have h := @ih (if decide (y < b) = true then y else b)
    simp -implicitDefEqProofs only [decide_eq_true_eq] at *
    refine ⟨?_, fun x hx => ?_⟩
    · have := h.1; split at this <;> omega
    · rcases List.mem_cons.1 hx with rfl | hx
      · have := h.1; split at this <;> omega
      · exact h.2 x hx
theorem most_ge {b : Int} {l : List Int} : b ≤ pickL (fun a b => decide (a > b)) b l ∧ ∀ x ∈ l, x ≤ pickL (fun a b => decide (a > b)) b l := by
  induction l generalizing b with
  | nil => exact ⟨Int.le_refl _, by simp⟩
  | cons y l ih =>
    rw [pickL]
    have h := @ih (if decide (y > b) = true then y else b)
    simp -implicitDefEqProofs only [decide_eq_true_eq] at *
    refine ⟨?_, fun x hx => ?_⟩
    · have := h.1; split at this <;> omega
    · rcases List.mem_cons.1 hx with rfl | hx
      · have := h.1; split at this <;> omega
      · exact h.2 x hx
theorem pick_ex {l : List Int} (h : l ≠ []) : ∃ s t, pickF (fun a b => decide (a < b)) l = some s ∧ pickF (fun a b => decide (a > b)) l = some t ∧ s ∈ l ∧ t ∈ l ∧ ∀ x ∈ l, s ≤ x ∧ x ≤ t := by
  cases l with
  | nil => exact absurd rfl h
  | cons y l =>
    refine ⟨_, _, rfl, rfl, ?_, ?_, fun x hx => ⟨least_le.2 x hx, most_ge.2 x hx⟩⟩
    · rcases pickL_mem (lt := fun a b => decide (a < b)) (b := y) (l := y :: l) with h | h
      · rw [h]; exact List.mem_cons_self ..
      · exact h
    · rcases pickL_mem (lt := fun a b => decide (a > b)) (b := y) (l := y :: l) with h | h
      · rw [h]; exact List.mem_cons_self ..
      · exact h
theorem optR_ex (o : Option Int) : ∃ n b, optR o = .tup [i64 n, bv b] := by cases o <;> exact ⟨_, _, rfl⟩
theorem take_mem {l : List Int} {i : Nat} (h : i < l.length) {s : Int} : s ∈ l.take (i + 1) ↔ s ∈ l.take i ∨ l[i] = s := by
  rw [List.take_succ_eq_append_getElem h, List.mem_append, List.mem_singleton]
  exact or_congr_right eq_comm
set_option maxRecDepth 20000 in
set_option maxHeartbeats 4000000 in
theorem ExactSums_ok {l : List Int} (hl : AllFit l) (hn0 : l.length ≤ 9223372036854775807) : DataW Try.prog f_poundagelaw01_ExactSums [slI l] (bv true) := by
  refine CallW_intro comp_poundagelaw01_ExactSums (by simp) ?_
  simp -implicitDefEqProofs -proj only [go_sem, Nat.reduceBEq, Nat.reduceLT, Nat.reduceLeDiff, Nat.reduceAdd, Nat.reduceMul, ↓reduceIte, Int.reduceToNat, Int.reducePow, Int.reduceLT, Int.reduceLE, Int.reduceAdd, Int.reduceSub, Int.reduceMul, Int.reduceEq, Int.reduceNe]
  refine CallA_pure alive01_ok ?_
  simp -implicitDefEqProofs -proj only [go_sem, Nat.reduceBEq, Nat.reduceLT, Nat.reduceLeDiff, Nat.reduceAdd, Nat.reduceMul, ↓reduceIte, Int.reduceToNat, Int.reducePow, Int.reduceLT, Int.reduceLE, Int.reduceAdd, Int.reduceSub, Int.reduceMul, Int.reduceEq, Int.reduceNe, rowI_len]
  refine Cond_split (fun h => ?_) (fun h => ?_)
  · simp -implicitDefEqProofs -proj only [go_sem, Nat.reduceBEq, Nat.reduceLT, Nat.reduceLeDiff, Nat.reduceAdd, Nat.reduceMul, ↓reduceIte, Int.reduceToNat, Int.reducePow, Int.reduceLT, Int.reduceLE, Int.reduceAdd, Int.reduceSub, Int.reduceMul, Int.reduceEq, Int.reduceNe, h]
    exact LendV_eq rfl
  · simp -implicitDefEqProofs -proj only [go_sem, Nat.reduceBEq, Nat.reduceLT, Nat.reduceLeDiff, Nat.reduceAdd, Nat.reduceMul, ↓reduceIte, Int.reduceToNat, Int.reducePow, Int.reduceLT, Int.reduceLE, Int.reduceAdd, Int.reduceSub, Int.reduceMul, Int.reduceEq, Int.reduceNe, h]
    simp -implicitDefEqProofs only [decide_eq_true_eq, decide_eq_false_iff_not, Bool.not_eq_true', Bool.not_eq_false', Bool.and_eq_true, Bool.and_eq_false_iff, Bool.or_eq_true, Bool.or_eq_false_iff, beq_iff_eq, beq_eq_false_iff_ne, ne_eq, decide_eq_decide, Bool.not_eq_true, Bool.not_eq_false] at h
    have hn : l.length ≤ 4611686018427387904 := by omega
    have h1 := Sum_ok hl hn
    have h2 := RSum_ok hl hn
    obtain ⟨n, c, e⟩ := optR_ex (sumF 0 l)
    rw [e] at h1 h2
    refine CallA_pure h1 ?_
    simp -implicitDefEqProofs -proj only [go_sem, Nat.reduceBEq, Nat.reduceLT, Nat.reduceLeDiff, Nat.reduceAdd, Nat.reduceMul, ↓reduceIte, Int.reduceToNat, Int.reducePow, Int.reduceLT, Int.reduceLE, Int.reduceAdd, Int.reduceSub, Int.reduceMul, Int.reduceEq, Int.reduceNe]
    refine CallA_pure h2 ?_
    simp -implicitDefEqProofs -proj only [go_sem, Nat.reduceBEq, Nat.reduceLT, Nat.reduceLeDiff, Nat.reduceAdd, Nat.reduceMul, ↓reduceIte, Int.reduceToNat, Int.reducePow, Int.reduceLT, Int.reduceLE, Int.reduceAdd, Int.reduceSub, Int.reduceMul, Int.reduceEq, Int.reduceNe, bne_self_eq_false, eq_self, not_true_eq_false]
    by_cases h0 : l = []
    · subst h0
      have h3 : DataW Try.prog f_exact_Least [slI []] (.tup [i64 0, bv false]) := Least_ok hn
      have h4 : DataW Try.prog f_exact_Most [slI []] (.tup [i64 0, bv false]) := Most_ok hn
      refine CallA_pure h3 ?_
      simp -implicitDefEqProofs -proj only [go_sem, Nat.reduceBEq, Nat.reduceLT, Nat.reduceLeDiff, Nat.reduceAdd, Nat.reduceMul, ↓reduceIte, Int.reduceToNat, Int.reducePow, Int.reduceLT, Int.reduceLE, Int.reduceAdd, Int.reduceSub, Int.reduceMul, Int.reduceEq, Int.reduceNe]
      refine CallA_pure h4 ?_
      simp -implicitDefEqProofs -proj only [go_sem, Nat.reduceBEq, Nat.reduceLT, Nat.reduceLeDiff, Nat.reduceAdd, Nat.reduceMul, ↓reduceIte, Int.reduceToNat, Int.reducePow, Int.reduceLT, Int.reduceLE, Int.reduceAdd, Int.reduceSub, Int.reduceMul, Int.reduceEq, Int.reduceNe, eq_self, rowI_len]
      exact LendV_eq rfl
    · obtain ⟨s, t, e1, e2, m1, m2, hb⟩ := pick_ex h0
      have h3 := Least_ok hn
      have h4 := Most_ok hn
      rw [e1] at h3; rw [e2] at h4
      rw [optR] at h3 h4
      have hlen : 0 < l.length := List.length_pos_iff.2 h0
      refine CallA_pure h3 ?_
      simp -implicitDefEqProofs -proj only [go_sem, Nat.reduceBEq, Nat.reduceLT, Nat.reduceLeDiff, Nat.reduceAdd, Nat.reduceMul, ↓reduceIte, Int.reduceToNat, Int.reducePow, Int.reduceLT, Int.reduceLE, Int.reduceAdd, Int.reduceSub, Int.reduceMul, Int.reduceEq, Int.reduceNe]
      refine CallA_pure h4 ?_
      simp -implicitDefEqProofs -proj only [go_sem, Nat.reduceBEq, Nat.reduceLT, Nat.reduceLeDiff, Nat.reduceAdd, Nat.reduceMul, ↓reduceIte, Int.reduceToNat, Int.reducePow, Int.reduceLT, Int.reduceLE, Int.reduceAdd, Int.reduceSub, Int.reduceMul, Int.reduceEq, Int.reduceNe, eq_self, rowI_len, decide_eq_false (show ¬ (l.length : Int) = 0 by omega)]
      refine LoopA_k (fun p : Nat × Bool × Bool => p.1 ≤ l.length ∧ (p.2.1 = true ↔ s ∈ l.take p.1) ∧ (p.2.2 = true ↔ t ∈ l.take p.1)) 102 (fun p => [(65, slI l), (66, i64 l.length), (67, i64 p.1), (7, i64 s), (9, i64 t), (11, bv p.2.1), (12, bv p.2.2), (8, bv true), (10, bv true)]) (fun _ => []) (fun p => l.length - p.1) (0, false, false) ⟨by omega, by simp, by simp⟩ rfl ?_ ?_ ?_
      · simp -implicitDefEqProofs -proj only [go_sem, Nat.reduceBEq, Nat.reduceLT, Nat.reduceLeDiff, Nat.reduceAdd, Nat.reduceMul, ↓reduceIte, Int.reduceToNat, Int.reducePow, Int.reduceLT, Int.reduceLE, Int.reduceAdd, Int.reduceSub, Int.reduceMul, Int.reduceEq, Int.reduceNe, AllAt]
      · trivial
      · rintro ⟨i, u, v⟩ ⟨hi, hu, hv⟩
        simp -implicitDefEqProofs only [Fst_mk, Snd_mk] at hi hu hv
        by_cases h : i < l.length
        · have hx := hb _ (List.getElem_mem h)
          have hc := rowI_nth h
          have hs := take_mem (s := s) h
          have ht := take_mem (s := t) h
          generalize l[i] = x at *
          simp -implicitDefEqProofs -proj only [go_sem, Nat.reduceBEq, Nat.reduceLT, Nat.reduceLeDiff, Nat.reduceAdd, Nat.reduceMul, ↓reduceIte, Int.reduceToNat, Int.reducePow, Int.reduceLT, Int.reduceLE, Int.reduceAdd, Int.reduceSub, Int.reduceMul, Int.reduceEq, Int.reduceNe, decide_eq_true (show (i : Int) < l.length by omega)]
          refine ElemA_at _ (by omega) hc ?_
          simp -implicitDefEqProofs -proj only [go_sem, Nat.reduceBEq, Nat.reduceLT, Nat.reduceLeDiff, Nat.reduceAdd, Nat.reduceMul, ↓reduceIte, Int.reduceToNat, Int.reducePow, Int.reduceLT, Int.reduceLE, Int.reduceAdd, Int.reduceSub, Int.reduceMul, Int.reduceEq, Int.reduceNe, decide_eq_false (show ¬ x < s by omega), decide_eq_false (show ¬ x > t by omega)]
          have hu' : (u || decide (x = s)) = true ↔ s ∈ List.take (i + 1) l := by rw [hs, ← hu]; simp
          have hv' : (v || decide (x = t)) = true ↔ t ∈ List.take (i + 1) l := by rw [ht, ← hv]; simp
          have next : ∀ (u' v' : Bool) (s' : St), (u || decide (x = s)) = u' → (v || decide (x = t)) = v' → 102 = s'.n → AllAt s'.t [(65, slI l), (66, i64 l.length), (67, i64 ((i + 1 : Nat) : Int)), (7, i64 s), (9, i64 t), (11, bv u'), (12, bv v'), (8, bv true), (10, bv true)] → _ := fun u' v' s' q1 q2 q3 q4 => LoopQ_k (I := fun p : Nat × Bool × Bool => p.1 ≤ l.length ∧ (p.2.1 = true ↔ s ∈ l.take p.1) ∧ (p.2.2 = true ↔ t ∈ l.take p.1)) (n := 102) (tl := fun p => [(65, slI l), (66, i64 l.length), (67, i64 p.1), (7, i64 s), (9, i64 t), (11, bv p.2.1), (12, bv p.2.2), (8, bv true), (10, bv true)]) (hl := fun _ => []) (μ := fun p => l.length - p.1) (x := (i, u, v)) (R := RunO Try.prog (finW [ARes.tmp 2] fun r' H' => LendV H' r' (bv true)) [Item.blk 0, Item.code ((ACode.ops c_poundagelaw01_ExactSums_r22).seq ACode.ret)]) (i + 1, u', v') ⟨by simp -implicitDefEqProofs only [Fst_mk]; omega, by simp -implicitDefEqProofs only [Fst_mk, Snd_mk]; rw [← q1]; exact hu', by simp -implicitDefEqProofs only [Fst_mk, Snd_mk]; rw [← q2]; exact hv'⟩ (by simp -implicitDefEqProofs only [Fst_mk]; omega) q3 q4 trivial
          cases u <;> cases v
          all_goals
            simp -implicitDefEqProofs -proj only [go_sem, Nat.reduceBEq, Nat.reduceLT, Nat.reduceLeDiff, Nat.reduceAdd, Nat.reduceMul, ↓reduceIte, Int.reduceToNat, Int.reducePow, Int.reduceLT, Int.reduceLE, Int.reduceAdd, Int.reduceSub, Int.reduceMul, Int.reduceEq, Int.reduceNe]
            refine next _ _ _ rfl rfl rfl ?_
            simp -implicitDefEqProofs -proj only [go_sem, Nat.reduceBEq, Nat.reduceLT, Nat.reduceLeDiff, Nat.reduceAdd, Nat.reduceMul, ↓reduceIte, Int.reduceToNat, Int.reducePow, Int.reduceLT, Int.reduceLE, Int.reduceAdd, Int.reduceSub, Int.reduceMul, Int.reduceEq, Int.reduceNe, AllAt, i64_succ (show i < 9223372036854775807 by omega), Bool.false_or, Bool.true_or]
        · have hi' : i = l.length := by omega
          subst hi'
          rw [List.take_length] at hu hv
          simp -implicitDefEqProofs -proj only [go_sem, Nat.reduceBEq, Nat.reduceLT, Nat.reduceLeDiff, Nat.reduceAdd, Nat.reduceMul, ↓reduceIte, Int.reduceToNat, Int.reducePow, Int.reduceLT, Int.reduceLE, Int.reduceAdd, Int.reduceSub, Int.reduceMul, Int.reduceEq, Int.reduceNe, decide_eq_false (show ¬ (l.length : Int) < l.length by omega), hu.2 m1, hv.2 m2]
          exact LendV_eq rfl
end Go.Proofs.Ythmcidkcindmpaa.Abs
