/- The document's price of a part (poundageref11, 12, 13). No claim stands here. -/
import Derived.Test.YtlflfciebidddaaKRef11
import Derived.Test.YtlflfciebidddaaKAdjust
set_option maxRecDepth 100000
set_option linter.unusedSimpArgs false
set_option linter.unusedVariables false
namespace Go.Proofs.Ytlflfciebidddaa.Abs
open Go Go.RowKit Go.Proofs
attribute [local go_sem] RunC_seq AF_n AF_r AF_b St_n St_t St_H Fst_mk Snd_mk RunC_ops RunC_cond RunC_block RunC_loop RunC_exit RunC_ret RunC_skip RunO_nil RunO_code RunO_code_ret RunO_code_exit RunO_blk RunO_blk_ret RunO_blk_exit RunL_nil RunL_guard GuardA_tt GuardA_ff GuardA_tf GuardA_ft GuardA_void CondA_t CondA_f PickA_t PickA_f RunL_mov RunL_pick RunL_alloc RunL_box RunL_load LoadA_ptr LoadB_1 LoadB_n LoadA_dptr LoadA_dptr_n RunL_store StoreA_ptr StoreB_box RunL_bin Bin_add Bin_sub Bin_mul Bin_quo Bin_rem Bin_shl Bin_shr Bin_andI Bin_orI Bin_xorI Bin_eql Bin_neq Bin_lss Bin_leq Bin_gtr Bin_geq RunL_binb Bin_beql Bin_bneq RunL_un UnA_not UnA_neg RunL_conv convV MapA_some RunL_nilCheck nilV RunL_mkfn RunL_fieldAddr faV RunL_field FieldA_1 FieldA_n RunL_elemAddr EAddrA_sl EAddrA_own EptrA_eq RunL_build BuildA_some RunL_extract ExtA_eq RunL_len lenV_sl lenV_nilsl lenV_own RunL_slen RunL_idxStr IdxSA_eq slenV RunL_minmax mmV minmaxL RunL_call RunL_callv CallvA_fn putS ev evL evO evP eqK eqKs EqB_agg RunL_eqAgg EqA_t EqA_f evQ buildC fits_agg cellsAV_agg fits_d cellsAV_d fits_nilp cellsAV_nilp fits_nilsl cellsAV_nilsl fits_nilfn cellsAV_nilfn fits_ptr cellsAV_ptr fits_eptr cellsAV_eptr fits_dptr cellsAV_dptr fits_own cellsAV_own fits_fn cellsAV_fn rowV_fits rowV_cells rowV_len lenAV setSeg nth seg mapD repeatL putT_get upd_get argT keepT_cons keepT_nil keepH_cons keepH_nil cond_true cond_false VC_true finW resW resL resOne LoopQ_exit LoopQ_ret List.cons_append List.nil_append Bool.not_true Bool.not_false Bool.and_true Bool.and_self Nat.lt_add_left_iff_pos Nat.zero_add Nat.add_zero List.drop_succ_cons List.drop_zero List.take_succ_cons List.take_zero beq_self_eq_true Bool.false_eq_true RunC_dops RunL_loadS RunL_loadD LoadDA_dptr RunL_storeS StoreSA_ptr RunL_pcall RunL_pcallv PCallvA_fn newsOk and_self and_true true_and loadW_ptr LoadK_1 LoadK_n upd_upd RunL_loadP LoadPA_ptr RunL_callS RunL_make RunL_buildSlice BSliceA_some RunL_buildSliceD frzL frz cutL LoadA_eptr LoadE_row RunL_append RunL_slice SliceA_sl StoreA_eptr List.length_cons List.length_nil Nat.min_def Int.cast_ofNat_Int Int.natCast_zero Int.natCast_one decide_true decide_false List.getElem?_cons_zero List.getElem?_cons_succ RunC_rangef CallvA_yld putL_nil putL_cons RangeQ_exit RangeQ_ret
theorem big_fit {n : Int} (h : n.natAbs ≤ 85070591730234615865843651857942052864) : Big n.natAbs := ⟨by omega, by omega⟩
theorem addS_yes {s : TStep} {a : Int} (h1 : Fit (s.r * (s.t - s.f))) (h2 : Fit (a + s.r * (s.t - s.f))) : addS s a = some (a + s.r * (s.t - s.f)) := if_pos ⟨h1, h2⟩
theorem addS_no {s : TStep} {a : Int} (h : ¬ (Fit (s.r * (s.t - s.f)) ∧ Fit (a + s.r * (s.t - s.f)))) : addS s a = none := if_neg h
theorem steps_ref {x : PartX} {n : Int} (S : Srt x.ts) : (if x.ki = 2 then volL x.ts n else refL x.ts n) = stepsL x n := by
  unfold stepsL
  split
  · rfl
  · exact (gradL_ref S).symm
theorem volI_len {T : List Tier} {q : Int} : ∀ i, (volI T q i).length ≤ 1
  | 0 => by simp [volI]
  | i + 1 => by
    have := volI_len (T := T) (q := q) i
    rw [volI]
    repeat' split
    all_goals first | omega | simp
theorem steps_len {x : PartX} {n : Int} (S : Srt x.ts) (h : 1 ≤ x.ts.length) : (stepsL x n).length ≤ x.ts.length := by
  unfold stepsL
  split
  · have := volI_len (T := x.ts) (q := n) x.ts.length
    exact Nat.le_trans this h
  · rw [gradL_ref S]
    exact refN_len x.ts.length
theorem RMicro_ok {x : PartX} {q : Int} (hx : x.Fit) (hq : Fit q) (G : GoodX x) (S : Srt x.ts) : DataW Try.prog f_poundageref11_Micro [partV x, i64 q] (optR (microO x q)) := by
  have hleft := Left_ok hx hq G.al.1 G.bl.1
  have htn := G.tn
  unfold microO
  rw [show rnd (max (q - x.al) 0) x.bl 1 * x.bl = leftI x q from rfl]
  refine CallW_intro comp_poundageref11_Micro (by simp) ?_
  simp -implicitDefEqProofs -proj only [go_sem, Nat.reduceBEq, Nat.reduceLT, Nat.reduceLeDiff, Nat.reduceAdd, Nat.reduceMul, ↓reduceIte]
  refine AllocA_intro (fun b2 hb2 => ?_)
  simp -implicitDefEqProofs -proj only [go_sem, Nat.reduceBEq, Nat.reduceLT, Nat.reduceLeDiff, Nat.reduceAdd, Nat.reduceMul, ↓reduceIte]
  refine CallA_pure hleft ?_
  by_cases h0 : q < 0
  · rw [if_pos h0, if_pos h0, optR]
    simp -implicitDefEqProofs -proj only [go_sem, Nat.reduceBEq, Nat.reduceLT, Nat.reduceLeDiff, Nat.reduceAdd, Nat.reduceMul, ↓reduceIte]
    exact LendV_eq rfl
  rw [if_neg h0, if_neg h0]
  by_cases hf : Fit (leftI x q)
  rotate_left
  · rw [fitR_no hf, if_neg hf, optR]
    simp -implicitDefEqProofs -proj only [go_sem, Nat.reduceBEq, Nat.reduceLT, Nat.reduceLeDiff, Nat.reduceAdd, Nat.reduceMul, ↓reduceIte]
    exact LendV_eq rfl
  rw [fitR_yes hf, if_pos hf]
  have hst := (RefSteps_new (x := x) (q := leftI x q) (by omega) htn.1).data
  rw [steps_ref S] at hst
  have hln := steps_len (n := leftI x q) S htn.1
  have hsf := steps_fit (n := leftI x q) S hf
  generalize stepsL x (leftI x q) = L at *
  simp -implicitDefEqProofs -proj only [go_sem, Nat.reduceBEq, Nat.reduceLT, Nat.reduceLeDiff, Nat.reduceAdd, Nat.reduceMul, ↓reduceIte]
  refine CallA_pure hst ?_
  simp -implicitDefEqProofs -proj only [go_sem, Nat.reduceBEq, Nat.reduceLT, Nat.reduceLeDiff, Nat.reduceAdd, Nat.reduceMul, ↓reduceIte, rowS3_len]
  refine LoopA_k (fun p : Nat × Int => p.1 ≤ L.length ∧ Fit p.2 ∧ sumS (L.drop p.1) p.2 = sumS L 0) 61 (fun p => [(8, i64 p.2), (25, slS3 L), (26, i64 L.length), (27, i64 p.1)]) (fun _ => []) (fun p => L.length - p.1) (0, 0) ⟨Nat.zero_le _, by decide, rfl⟩ rfl ?_ ?_ ?_
  · simp -implicitDefEqProofs -proj only [go_sem, Nat.reduceBEq, Nat.reduceLT, Nat.reduceLeDiff, Nat.reduceAdd, Nat.reduceMul, ↓reduceIte, AllAt]
  · trivial
  · rintro ⟨i, a⟩ ⟨hi, ha, hs⟩
    rw [Fst_mk] at hi; rw [Snd_mk] at ha; rw [Fst_mk, Snd_mk] at hs
    by_cases h : i < L.length
    · have hel := rowS3_at h
      obtain ⟨f1, f2, f3, f4⟩ := hsf _ (List.getElem_mem h)
      rw [List.drop_eq_getElem_cons h, sumS] at hs
      generalize L[i] = s at *
      have w1 : IntKind.i64.wrap (s.t - s.f) = s.t - s.f := by unfold Fit at f4; rw [IntKind.wrap_i64]; omega
      have hmul := RMul_ok f3 f4
      have hps := prod_small f3 f4
      have hint := RInt_ok (n := s.r * (s.t - s.f)) (big_fit hps)
      have hofa := ROf_ok ha
      simp -implicitDefEqProofs -proj only [go_sem, Nat.reduceBEq, Nat.reduceLT, Nat.reduceLeDiff, Nat.reduceAdd, Nat.reduceMul, ↓reduceIte, decide_eq_true (show (i : Int) < L.length by omega)]
      refine ElemA_at _ (by omega) hel ?_
      simp -implicitDefEqProofs -proj only [go_sem, Nat.reduceBEq, Nat.reduceLT, Nat.reduceLeDiff, Nat.reduceAdd, Nat.reduceMul, ↓reduceIte]
      refine AllocA_intro (fun b10 hb10 => ?_)
      simp -implicitDefEqProofs -proj only [go_sem, Nat.reduceBEq, Nat.reduceLT, Nat.reduceLeDiff, Nat.reduceAdd, Nat.reduceMul, ↓reduceIte, w1]
      refine CallA_pure hmul ?_
      simp -implicitDefEqProofs -proj only [go_sem, Nat.reduceBEq, Nat.reduceLT, Nat.reduceLeDiff, Nat.reduceAdd, Nat.reduceMul, ↓reduceIte]
      refine CallA_pure hint ?_
      by_cases c1 : Fit (s.r * (s.t - s.f))
      · have hofp := ROf_ok c1
        have hadd := RAdd_ok (a := a) (b := s.r * (s.t - s.f)) (by unfold Fit at ha; omega) (by omega)
        have hint2 := RInt_ok (n := a + s.r * (s.t - s.f)) (big_fit (by unfold Fit at ha c1; omega))
        rw [fitR_yes c1]
        simp -implicitDefEqProofs -proj only [go_sem, Nat.reduceBEq, Nat.reduceLT, Nat.reduceLeDiff, Nat.reduceAdd, Nat.reduceMul, ↓reduceIte]
        refine CallA_pure hofa ?_
        simp -implicitDefEqProofs -proj only [go_sem, Nat.reduceBEq, Nat.reduceLT, Nat.reduceLeDiff, Nat.reduceAdd, Nat.reduceMul, ↓reduceIte]
        refine CallA_pure hofp ?_
        simp -implicitDefEqProofs -proj only [go_sem, Nat.reduceBEq, Nat.reduceLT, Nat.reduceLeDiff, Nat.reduceAdd, Nat.reduceMul, ↓reduceIte]
        refine CallA_pure hadd ?_
        simp -implicitDefEqProofs -proj only [go_sem, Nat.reduceBEq, Nat.reduceLT, Nat.reduceLeDiff, Nat.reduceAdd, Nat.reduceMul, ↓reduceIte]
        refine CallA_pure hint2 ?_
        by_cases c2 : Fit (a + s.r * (s.t - s.f))
        · rw [addS_yes c1 c2] at hs
          simp -implicitDefEqProofs only [] at hs
          rw [fitR_yes c2]
          simp -implicitDefEqProofs -proj only [go_sem, Nat.reduceBEq, Nat.reduceLT, Nat.reduceLeDiff, Nat.reduceAdd, Nat.reduceMul, ↓reduceIte]
          refine LoopQ_k (i + 1, a + s.r * (s.t - s.f)) ⟨by rw [Fst_mk]; omega, c2, hs⟩ (by rw [Fst_mk, Fst_mk]; omega) rfl ?_ trivial
          simp -implicitDefEqProofs -proj only [go_sem, Nat.reduceBEq, Nat.reduceLT, Nat.reduceLeDiff, Nat.reduceAdd, Nat.reduceMul, ↓reduceIte, AllAt, i64_succ (show i < 9223372036854775807 by omega)]
        · rw [addS_no (fun k => c2 k.2)] at hs
          simp -implicitDefEqProofs only [] at hs
          rw [fitR_no c2, ← hs, optR]
          simp -implicitDefEqProofs -proj only [go_sem, Nat.reduceBEq, Nat.reduceLT, Nat.reduceLeDiff, Nat.reduceAdd, Nat.reduceMul, ↓reduceIte]
          exact LendV_eq rfl
      · have hofp := ROf_ok (a := 0) (by decide)
        have hadd := RAdd_ok (a := a) (b := 0) (by unfold Fit at ha; omega) (by decide)
        rw [Int.add_zero] at hadd
        have hint2 := RInt_ok (n := a) (big_fit (by unfold Fit at ha; omega))
        rw [fitR_yes ha] at hint2
        rw [addS_no (fun k => c1 k.1)] at hs
        simp -implicitDefEqProofs only [] at hs
        rw [fitR_no c1, ← hs, optR]
        simp -implicitDefEqProofs -proj only [go_sem, Nat.reduceBEq, Nat.reduceLT, Nat.reduceLeDiff, Nat.reduceAdd, Nat.reduceMul, ↓reduceIte]
        refine CallA_pure hofa ?_
        simp -implicitDefEqProofs -proj only [go_sem, Nat.reduceBEq, Nat.reduceLT, Nat.reduceLeDiff, Nat.reduceAdd, Nat.reduceMul, ↓reduceIte]
        refine CallA_pure hofp ?_
        simp -implicitDefEqProofs -proj only [go_sem, Nat.reduceBEq, Nat.reduceLT, Nat.reduceLeDiff, Nat.reduceAdd, Nat.reduceMul, ↓reduceIte]
        refine CallA_pure hadd ?_
        simp -implicitDefEqProofs -proj only [go_sem, Nat.reduceBEq, Nat.reduceLT, Nat.reduceLeDiff, Nat.reduceAdd, Nat.reduceMul, ↓reduceIte]
        refine CallA_pure hint2 ?_
        simp -implicitDefEqProofs -proj only [go_sem, Nat.reduceBEq, Nat.reduceLT, Nat.reduceLeDiff, Nat.reduceAdd, Nat.reduceMul, ↓reduceIte]
        exact LendV_eq rfl
    · have hi' : i = L.length := by omega
      subst hi'
      rw [List.drop_length] at hs
      simp -implicitDefEqProofs -proj only [go_sem, Nat.reduceBEq, Nat.reduceLT, Nat.reduceLeDiff, Nat.reduceAdd, Nat.reduceMul, ↓reduceIte, decide_eq_false (show ¬ (L.length : Int) < L.length by omega)]
      rw [← hs, sumS, optR]
      exact LendV_eq rfl
theorem RCharge_ok {x : PartX} {q : Int} (hx : x.Fit) (hq : Fit q) (G : GoodX x) (S : Srt x.ts) : DataW Try.prog f_poundageref11_Charge [partV x, i64 q] (optR (chargeO x q)) := by
  have hm := RMicro_ok hx hq G S
  have hf := fun n => @micro_fit x q n
  unfold chargeO
  refine CallW_intro comp_poundageref11_Charge (by simp) ?_
  simp -implicitDefEqProofs -proj only [go_sem, Nat.reduceBEq, Nat.reduceLT, Nat.reduceLeDiff, Nat.reduceAdd, Nat.reduceMul, ↓reduceIte]
  refine AllocA_intro (fun b2 hb2 => ?_)
  simp -implicitDefEqProofs -proj only [go_sem, Nat.reduceBEq, Nat.reduceLT, Nat.reduceLeDiff, Nat.reduceAdd, Nat.reduceMul, ↓reduceIte]
  refine CallA_pure hm ?_
  cases e : microO x q with
  | none =>
    simp -implicitDefEqProofs -proj only [go_sem, Nat.reduceBEq, Nat.reduceLT, Nat.reduceLeDiff, Nat.reduceAdd, Nat.reduceMul, ↓reduceIte, optR]
    exact LendV_eq rfl
  | some n =>
    have hd := RMulDiv_ok (a := n) (b := 1) (c := 1000000) (m := x.mo) (hf n e) (by decide) (by decide)
    rw [Int.mul_one, mdO_R] at hd
    simp -implicitDefEqProofs only []
    simp -implicitDefEqProofs -proj only [go_sem, Nat.reduceBEq, Nat.reduceLT, Nat.reduceLeDiff, Nat.reduceAdd, Nat.reduceMul, ↓reduceIte, optR]
    refine CallA_pure hd ?_
    cases mdO n 1000000 x.mo with
    | none => simp -implicitDefEqProofs -proj only [go_sem, Nat.reduceBEq, Nat.reduceLT, Nat.reduceLeDiff, Nat.reduceAdd, Nat.reduceMul, ↓reduceIte, optR]; exact LendV_eq rfl
    | some m => simp -implicitDefEqProofs -proj only [go_sem, Nat.reduceBEq, Nat.reduceLT, Nat.reduceLeDiff, Nat.reduceAdd, Nat.reduceMul, ↓reduceIte, optR]; exact LendV_eq rfl
theorem ROneA_ok {a : Adj} {x : Int} (ha : a.Fit) (hx : Fit x) : DataW Try.prog f_poundageref12_One [.agg [i64 a.k, i64 a.n, i64 a.m], i64 x] (optR (oneF a x)) := by
  obtain ⟨k, n, m⟩ := a
  obtain ⟨hk, hn, hm⟩ := ha
  simp -implicitDefEqProofs only [] at hk hn hm
  have h1 := RMulDiv_ok (a := x) (b := n) (c := 100000) (m := m) hx hn (by decide)
  rw [mdO_R] at h1
  have hofx := ROf_ok hx
  have hofn := ROf_ok hn
  have hadd := RAdd_ok (a := x) (b := n) (by unfold Fit at hx; omega) (by unfold Fit at hn; omega)
  have hint := RInt_ok (n := x + n) (big_fit (by unfold Fit at hx hn; omega))
  rw [fitO_R] at hint
  unfold oneF
  simp -implicitDefEqProofs only []
  refine CallW_intro comp_poundageref12_One (by simp) ?_
  simp -implicitDefEqProofs -proj only [go_sem, Nat.reduceBEq, Nat.reduceLT, Nat.reduceLeDiff, Nat.reduceAdd, Nat.reduceMul, ↓reduceIte]
  refine AllocA_intro (fun b2 hb2 => ?_)
  by_cases c1 : k = 1
  · rw [if_pos c1]
    simp -implicitDefEqProofs -proj only [go_sem, Nat.reduceBEq, Nat.reduceLT, Nat.reduceLeDiff, Nat.reduceAdd, Nat.reduceMul, ↓reduceIte, decide_eq_true c1]
    refine CallA_pure h1 ?_
    cases mdO (x * n) 100000 m with
    | none => simp -implicitDefEqProofs -proj only [go_sem, Nat.reduceBEq, Nat.reduceLT, Nat.reduceLeDiff, Nat.reduceAdd, Nat.reduceMul, ↓reduceIte, optR]; exact LendV_eq rfl
    | some m => simp -implicitDefEqProofs -proj only [go_sem, Nat.reduceBEq, Nat.reduceLT, Nat.reduceLeDiff, Nat.reduceAdd, Nat.reduceMul, ↓reduceIte, optR]; exact LendV_eq rfl
  rw [if_neg c1]
  by_cases c2 : k = 2
  · rw [if_pos c2, optR]
    by_cases d : n < x
    · rw [show min x n = n by omega]
      simp -implicitDefEqProofs -proj only [go_sem, Nat.reduceBEq, Nat.reduceLT, Nat.reduceLeDiff, Nat.reduceAdd, Nat.reduceMul, ↓reduceIte, decide_eq_false c1, decide_eq_true c2, decide_eq_true d]
      exact LendV_eq rfl
    · rw [show min x n = x by omega]
      simp -implicitDefEqProofs -proj only [go_sem, Nat.reduceBEq, Nat.reduceLT, Nat.reduceLeDiff, Nat.reduceAdd, Nat.reduceMul, ↓reduceIte, decide_eq_false c1, decide_eq_true c2, decide_eq_false d, show (false == true) = false from rfl]
      exact LendV_eq rfl
  rw [if_neg c2]
  by_cases c3 : k = 3
  · rw [if_pos c3, optR]
    by_cases d : n < x
    · rw [show max x n = x by omega]
      simp -implicitDefEqProofs -proj only [go_sem, Nat.reduceBEq, Nat.reduceLT, Nat.reduceLeDiff, Nat.reduceAdd, Nat.reduceMul, ↓reduceIte, decide_eq_false c1, decide_eq_false c2, decide_eq_true c3, decide_eq_true d, show (true == false) = false from rfl]
      exact LendV_eq rfl
    · rw [show max x n = n by omega]
      simp -implicitDefEqProofs -proj only [go_sem, Nat.reduceBEq, Nat.reduceLT, Nat.reduceLeDiff, Nat.reduceAdd, Nat.reduceMul, ↓reduceIte, decide_eq_false c1, decide_eq_false c2, decide_eq_true c3, decide_eq_false d]
      exact LendV_eq rfl
  rw [if_neg c3]
  by_cases c4 : k = 4
  · rw [if_pos c4]
    simp -implicitDefEqProofs -proj only [go_sem, Nat.reduceBEq, Nat.reduceLT, Nat.reduceLeDiff, Nat.reduceAdd, Nat.reduceMul, ↓reduceIte, decide_eq_false c1, decide_eq_false c2, decide_eq_false c3, decide_eq_true c4]
    refine PCallA_pure hofx ?_
    simp -implicitDefEqProofs -proj only [go_sem, Nat.reduceBEq, Nat.reduceLT, Nat.reduceLeDiff, Nat.reduceAdd, Nat.reduceMul, ↓reduceIte]
    refine CallA_pure hofn ?_
    simp -implicitDefEqProofs -proj only [go_sem, Nat.reduceBEq, Nat.reduceLT, Nat.reduceLeDiff, Nat.reduceAdd, Nat.reduceMul, ↓reduceIte]
    refine CallA_pure hadd ?_
    simp -implicitDefEqProofs -proj only [go_sem, Nat.reduceBEq, Nat.reduceLT, Nat.reduceLeDiff, Nat.reduceAdd, Nat.reduceMul, ↓reduceIte]
    refine CallA_pure hint ?_
    cases fitO (x + n) with
    | none => simp -implicitDefEqProofs -proj only [go_sem, Nat.reduceBEq, Nat.reduceLT, Nat.reduceLeDiff, Nat.reduceAdd, Nat.reduceMul, ↓reduceIte, optR]; exact LendV_eq rfl
    | some m => simp -implicitDefEqProofs -proj only [go_sem, Nat.reduceBEq, Nat.reduceLT, Nat.reduceLeDiff, Nat.reduceAdd, Nat.reduceMul, ↓reduceIte, optR]; exact LendV_eq rfl
  rw [if_neg c4, optR]
  simp -implicitDefEqProofs -proj only [go_sem, Nat.reduceBEq, Nat.reduceLT, Nat.reduceLeDiff, Nat.reduceAdd, Nat.reduceMul, ↓reduceIte, decide_eq_false c1, decide_eq_false c2, decide_eq_false c3, decide_eq_false c4]
  exact LendV_eq rfl
theorem RAllA_ok {l : List Adj} {x : Int} (hl : ∀ a ∈ l, Adj.Fit a) (hx : Fit x) (hn : l.length ≤ 4611686018427387904) : DataW Try.prog f_poundageref12_All [i64 x, slA l] (optR (allF x l)) := by
  refine CallW_intro comp_poundageref12_All (by simp) ?_
  simp -implicitDefEqProofs -proj only [go_sem, Nat.reduceBEq, Nat.reduceLT, Nat.reduceLeDiff, Nat.reduceAdd, Nat.reduceMul, ↓reduceIte, rowA_len]
  refine LoopA_k (fun p : Nat × Int => p.1 ≤ l.length ∧ Fit p.2 ∧ allF p.2 (l.drop p.1) = allF x l) 27 (fun p => [(0, i64 p.2), (10, slA l), (11, i64 l.length), (12, i64 p.1)]) (fun _ => []) (fun p => l.length - p.1) (0, x) ⟨Nat.zero_le _, hx, rfl⟩ rfl ?_ ?_ ?_
  · simp -implicitDefEqProofs -proj only [go_sem, Nat.reduceBEq, Nat.reduceLT, Nat.reduceLeDiff, Nat.reduceAdd, Nat.reduceMul, ↓reduceIte, AllAt]
  · trivial
  · rintro ⟨i, a⟩ ⟨hi, ha, hs⟩
    rw [Fst_mk] at hi; rw [Snd_mk] at ha; rw [Fst_mk, Snd_mk] at hs
    by_cases h : i < l.length
    · have hel := rowA_at h
      have hfit := hl _ (List.getElem_mem h)
      rw [List.drop_eq_getElem_cons h, allF] at hs
      generalize l[i] = s at *
      have hone := ROneA_ok hfit ha
      simp -implicitDefEqProofs -proj only [go_sem, Nat.reduceBEq, Nat.reduceLT, Nat.reduceLeDiff, Nat.reduceAdd, Nat.reduceMul, ↓reduceIte, decide_eq_true (show (i : Int) < l.length by omega)]
      refine ElemA_at _ (by omega) hel ?_
      simp -implicitDefEqProofs -proj only [go_sem, Nat.reduceBEq, Nat.reduceLT, Nat.reduceLeDiff, Nat.reduceAdd, Nat.reduceMul, ↓reduceIte]
      refine AllocA_intro (fun b7 hb7 => ?_)
      simp -implicitDefEqProofs -proj only [go_sem, Nat.reduceBEq, Nat.reduceLT, Nat.reduceLeDiff, Nat.reduceAdd, Nat.reduceMul, ↓reduceIte]
      refine CallA_pure hone ?_
      cases e : oneF s a with
      | none =>
        rw [e] at hs
        simp -implicitDefEqProofs only [] at hs
        rw [← hs, optR]
        simp -implicitDefEqProofs -proj only [go_sem, Nat.reduceBEq, Nat.reduceLT, Nat.reduceLeDiff, Nat.reduceAdd, Nat.reduceMul, ↓reduceIte, optR]
        exact LendV_eq rfl
      | some y =>
        rw [e] at hs
        simp -implicitDefEqProofs only [] at hs
        simp -implicitDefEqProofs -proj only [go_sem, Nat.reduceBEq, Nat.reduceLT, Nat.reduceLeDiff, Nat.reduceAdd, Nat.reduceMul, ↓reduceIte, optR]
        refine LoopQ_k (i + 1, y) ⟨by rw [Fst_mk]; omega, oneF_fit hfit ha e, hs⟩ (by rw [Fst_mk, Fst_mk]; omega) rfl ?_ trivial
        simp -implicitDefEqProofs -proj only [go_sem, Nat.reduceBEq, Nat.reduceLT, Nat.reduceLeDiff, Nat.reduceAdd, Nat.reduceMul, ↓reduceIte, AllAt, i64_succ (show i < 9223372036854775807 by omega)]
    · have hi' : i = l.length := by omega
      subst hi'
      rw [List.drop_length] at hs
      simp -implicitDefEqProofs -proj only [go_sem, Nat.reduceBEq, Nat.reduceLT, Nat.reduceLeDiff, Nat.reduceAdd, Nat.reduceMul, ↓reduceIte, decide_eq_false (show ¬ (l.length : Int) < l.length by omega)]
      rw [← hs, allF, optR]
      exact LendV_eq rfl
/-- A part's price. -/
def partO (x : PartX) (q : Int) : Option Int := match chargeO x q with
  | some n => allF n x.ad
  | none => none
theorem charge_fit {x : PartX} {q n : Int} (h : chargeO x q = some n) : Fit n := by
  unfold chargeO at h
  split at h
  · exact (mdO_fit h).1
  · cases h
theorem PPart_ok {x : PartX} {q : Int} (hx : x.Fit) (hq : Fit q) (G : GoodX x) (S : Srt x.ts) : DataW Try.prog f_price_Part [partV x, i64 q] (optR (partO x q)) := by
  have hc := Charge_ok hx hq G.al.1 G.bl.1 (by have := G.tn; omega) (fun n hn => steps_fit S hn)
  unfold partO
  refine CallW_intro comp_price_Part (by simp) ?_
  simp -implicitDefEqProofs -proj only [go_sem, Nat.reduceBEq, Nat.reduceLT, Nat.reduceLeDiff, Nat.reduceAdd, Nat.reduceMul, ↓reduceIte]
  refine AllocA_intro (fun b2 hb2 => ?_)
  simp -implicitDefEqProofs -proj only [go_sem, Nat.reduceBEq, Nat.reduceLT, Nat.reduceLeDiff, Nat.reduceAdd, Nat.reduceMul, ↓reduceIte]
  refine CallA_pure hc ?_
  cases e : chargeO x q with
  | none =>
    simp -implicitDefEqProofs -proj only [go_sem, Nat.reduceBEq, Nat.reduceLT, Nat.reduceLeDiff, Nat.reduceAdd, Nat.reduceMul, ↓reduceIte, optR]
    exact LendV_eq rfl
  | some n =>
    have ha := All_ok (l := x.ad) (x := n) (adj_fit hx.ad) (charge_fit e) (by have := G.an; omega)
    simp -implicitDefEqProofs only []
    simp -implicitDefEqProofs -proj only [go_sem, Nat.reduceBEq, Nat.reduceLT, Nat.reduceLeDiff, Nat.reduceAdd, Nat.reduceMul, ↓reduceIte, optR]
    refine CallA_pure ha ?_
    cases allF n x.ad with
    | none => simp -implicitDefEqProofs -proj only [go_sem, Nat.reduceBEq, Nat.reduceLT, Nat.reduceLeDiff, Nat.reduceAdd, Nat.reduceMul, ↓reduceIte, optR]; exact LendV_eq rfl
    | some m => simp -implicitDefEqProofs -proj only [go_sem, Nat.reduceBEq, Nat.reduceLT, Nat.reduceLeDiff, Nat.reduceAdd, Nat.reduceMul, ↓reduceIte, optR]; exact LendV_eq rfl
theorem RPPart_ok {x : PartX} {q : Int} (hx : x.Fit) (hq : Fit q) (G : GoodX x) (S : Srt x.ts) : DataW Try.prog f_poundageref13_Part [partV x, i64 q] (optR (partO x q)) := by
  have hc := RCharge_ok hx hq G S
  unfold partO
  refine CallW_intro comp_poundageref13_Part (by simp) ?_
  simp -implicitDefEqProofs -proj only [go_sem, Nat.reduceBEq, Nat.reduceLT, Nat.reduceLeDiff, Nat.reduceAdd, Nat.reduceMul, ↓reduceIte]
  refine AllocA_intro (fun b2 hb2 => ?_)
  simp -implicitDefEqProofs -proj only [go_sem, Nat.reduceBEq, Nat.reduceLT, Nat.reduceLeDiff, Nat.reduceAdd, Nat.reduceMul, ↓reduceIte]
  refine CallA_pure hc ?_
  cases e : chargeO x q with
  | none =>
    simp -implicitDefEqProofs -proj only [go_sem, Nat.reduceBEq, Nat.reduceLT, Nat.reduceLeDiff, Nat.reduceAdd, Nat.reduceMul, ↓reduceIte, optR]
    exact LendV_eq rfl
  | some n =>
    have ha := RAllA_ok (l := x.ad) (x := n) hx.ad (charge_fit e) (by have := G.an; omega)
    simp -implicitDefEqProofs only []
    simp -implicitDefEqProofs -proj only [go_sem, Nat.reduceBEq, Nat.reduceLT, Nat.reduceLeDiff, Nat.reduceAdd, Nat.reduceMul, ↓reduceIte, optR]
    refine CallA_pure ha ?_
    cases allF n x.ad with
    | none => simp -implicitDefEqProofs -proj only [go_sem, Nat.reduceBEq, Nat.reduceLT, Nat.reduceLeDiff, Nat.reduceAdd, Nat.reduceMul, ↓reduceIte, optR]; exact LendV_eq rfl
    | some m => simp -implicitDefEqProofs -proj only [go_sem, Nat.reduceBEq, Nat.reduceLT, Nat.reduceLeDiff, Nat.reduceAdd, Nat.reduceMul, ↓reduceIte, optR]; exact LendV_eq rfl
end Go.Proofs.Ytlflfciebidddaa.Abs
