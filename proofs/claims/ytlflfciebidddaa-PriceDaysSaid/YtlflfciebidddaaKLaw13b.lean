/- The laws PriceParts, PriceDays. No claim stands here. -/
import Derived.Test.YtlflfciebidddaaKLaw13
set_option maxRecDepth 100000
set_option linter.unusedSimpArgs false
set_option linter.unusedVariables false
namespace Go.Proofs.Ytlflfciebidddaa.Abs
open Go Go.RowKit Go.Proofs
attribute [local go_sem] RunC_seq AF_n AF_r AF_b St_n St_t St_H Fst_mk Snd_mk RunC_ops RunC_cond RunC_block RunC_loop RunC_exit RunC_ret RunC_skip RunO_nil RunO_code RunO_code_ret RunO_code_exit RunO_blk RunO_blk_ret RunO_blk_exit RunL_nil RunL_guard GuardA_tt GuardA_ff GuardA_tf GuardA_ft GuardA_void CondA_t CondA_f PickA_t PickA_f RunL_mov RunL_pick RunL_alloc RunL_box RunL_load LoadA_ptr LoadB_1 LoadB_n LoadA_dptr LoadA_dptr_n RunL_store StoreA_ptr StoreB_box RunL_bin Bin_add Bin_sub Bin_mul Bin_quo Bin_rem Bin_shl Bin_shr Bin_andI Bin_orI Bin_xorI Bin_eql Bin_neq Bin_lss Bin_leq Bin_gtr Bin_geq RunL_binb Bin_beql Bin_bneq RunL_un UnA_not UnA_neg RunL_conv convV MapA_some RunL_nilCheck nilV RunL_mkfn RunL_fieldAddr faV RunL_field FieldA_1 FieldA_n RunL_elemAddr EAddrA_sl EAddrA_own EptrA_eq RunL_build BuildA_some RunL_extract ExtA_eq RunL_len lenV_sl lenV_nilsl lenV_own RunL_slen RunL_idxStr IdxSA_eq slenV RunL_minmax mmV minmaxL RunL_call RunL_callv CallvA_fn putS ev evL evO evP eqK eqKs EqB_agg RunL_eqAgg EqA_t EqA_f evQ buildC fits_agg cellsAV_agg fits_d cellsAV_d fits_nilp cellsAV_nilp fits_nilsl cellsAV_nilsl fits_nilfn cellsAV_nilfn fits_ptr cellsAV_ptr fits_eptr cellsAV_eptr fits_dptr cellsAV_dptr fits_own cellsAV_own fits_fn cellsAV_fn rowV_fits rowV_cells rowV_len lenAV setSeg nth seg mapD repeatL putT_get upd_get argT keepT_cons keepT_nil keepH_cons keepH_nil cond_true cond_false VC_true finW resW resL resOne LoopQ_exit LoopQ_ret List.cons_append List.nil_append Bool.not_true Bool.not_false Bool.and_true Bool.and_self Nat.lt_add_left_iff_pos Nat.zero_add Nat.add_zero List.drop_succ_cons List.drop_zero List.take_succ_cons List.take_zero beq_self_eq_true Bool.false_eq_true RunC_dops RunL_loadS RunL_loadD LoadDA_dptr RunL_storeS StoreSA_ptr RunL_pcall RunL_pcallv PCallvA_fn newsOk and_self and_true true_and loadW_ptr LoadK_1 LoadK_n upd_upd RunL_loadP LoadPA_ptr RunL_callS RunL_make RunL_buildSlice BSliceA_some RunL_buildSliceD frzL frz cutL LoadA_eptr LoadE_row RunL_append RunL_slice SliceA_sl StoreA_eptr List.length_cons List.length_nil Nat.min_def Int.cast_ofNat_Int Int.natCast_zero Int.natCast_one decide_true decide_false List.getElem?_cons_zero List.getElem?_cons_succ RunC_rangef CallvA_yld putL_nil putL_cons RangeQ_exit RangeQ_ret
theorem PriceParts_ok {x : PartX} {q : Int} (hx : x.Fit) (hq : Fit q) : DataW Try.prog f_poundagelaw13_PriceParts [partV x, i64 q] (bv true) := by
  have hp := RPart_ok (cur := ⟨⟨[]⟩⟩) (f := 0) (t := 0) (ms := [[.str ⟨⟨[]⟩⟩, .str ⟨⟨[]⟩⟩, .int .i64 0, .int .i64 0, .int .i64 0]]) (ss := []) (ps := []) (x := zeroP x)
  refine CallW_intro comp_poundagelaw13_PriceParts (by simp) ?_
  simp -implicitDefEqProofs -proj only [go_sem, Nat.reduceBEq, Nat.reduceLT, Nat.reduceLeDiff, Nat.reduceAdd, Nat.reduceMul, ↓reduceIte]
  refine AllocA_intro (fun b2 hb2 => ?_)
  simp -implicitDefEqProofs -proj only [go_sem, Nat.reduceBEq, Nat.reduceLT, Nat.reduceLeDiff, Nat.reduceAdd, Nat.reduceMul, ↓reduceIte]
  refine CallA_pure alive13_ok ?_
  by_cases g1 : 40 < (x.ts.length : Int)
  · simp -implicitDefEqProofs -proj only [go_sem, Nat.reduceBEq, Nat.reduceLT, Nat.reduceLeDiff, Nat.reduceAdd, Nat.reduceMul, ↓reduceIte, rowT_len, rowA_len, decide_eq_true g1]
    exact LendV_eq rfl
  by_cases g2 : 40 < (x.ad.length : Int)
  · simp -implicitDefEqProofs -proj only [go_sem, Nat.reduceBEq, Nat.reduceLT, Nat.reduceLeDiff, Nat.reduceAdd, Nat.reduceMul, ↓reduceIte, rowT_len, rowA_len, decide_eq_false g1, decide_eq_true g2]
    exact LendV_eq rfl
  simp -implicitDefEqProofs -proj only [go_sem, Nat.reduceBEq, Nat.reduceLT, Nat.reduceLeDiff, Nat.reduceAdd, Nat.reduceMul, ↓reduceIte, rowT_len, rowA_len, decide_eq_false g1, decide_eq_false g2]
  refine AllocA_intro (fun b5 hb5 => ?_)
  replace hb5 : upd Heap.none b2 (some (.box 39 [i64 x.me, i64 x.f, i64 x.t, i64 x.al, i64 x.bl, i64 x.ki, slT x.ts, i64 x.mo, slA x.ad])) b5 = none := hb5
  obtain ⟨n1, n2⟩ := fresh_ne hb5 upd_eq
  simp -implicitDefEqProofs -proj only [go_sem, Nat.reduceBEq, Nat.reduceLT, Nat.reduceLeDiff, Nat.reduceAdd, Nat.reduceMul, ↓reduceIte, n1, n2]
  refine AllocR_intro (fun b27 hb27 => ?_)
  have a2 : AllH (upd Heap.none b2 (some (.box 39 [i64 x.me, i64 x.f, i64 x.t, i64 x.al, i64 x.bl, i64 x.ki, slT x.ts, i64 x.mo, slA x.ad]))) [(b2, .box 39 [i64 x.me, i64 x.f, i64 x.t, i64 x.al, i64 x.bl, i64 x.ki, slT x.ts, i64 x.mo, slA x.ad])] := ⟨upd_eq, trivial⟩
  have a5 := alloc_all (x := .box 39 [i64 0, i64 0, i64 0, i64 x.al, i64 x.bl, i64 x.ki, slT x.ts, i64 x.mo, slA x.ad]) hb5 a2
  replace hb27 : upd (upd Heap.none b2 (some (.box 39 [i64 x.me, i64 x.f, i64 x.t, i64 x.al, i64 x.bl, i64 x.ki, slT x.ts, i64 x.mo, slA x.ad]))) b5 (some (.box 39 [i64 0, i64 0, i64 0, i64 x.al, i64 x.bl, i64 x.ki, slT x.ts, i64 x.mo, slA x.ad])) b27 = none := hb27
  obtain ⟨k5, k2, _⟩ := id a5
  obtain ⟨m1, m2⟩ := fresh_ne hb27 k5
  obtain ⟨m3, m4⟩ := fresh_ne hb27 k2
  simp -implicitDefEqProofs -proj only [go_sem, Nat.reduceBEq, Nat.reduceLT, Nat.reduceLeDiff, Nat.reduceAdd, Nat.reduceMul, ↓reduceIte, n1, n2, m1, m2, m3, m4]
  refine CallA_lend hp (lend_cons (lend_core13 (lend_own upd_eq rfl) (.nilsl _ _) (.nilsl _ _)) (lend_cons (.refl _) lend_nil)) rfl ?_
  by_cases g3 : partOK 0 0 1 (zeroP x)
  rotate_left
  · simp -implicitDefEqProofs -proj only [go_sem, Nat.reduceBEq, Nat.reduceLT, Nat.reduceLeDiff, Nat.reduceAdd, Nat.reduceMul, ↓reduceIte, show decide (partOK 0 0 (List.length [[D.str ⟨⟨[]⟩⟩, .str ⟨⟨[]⟩⟩, .int .i64 0, .int .i64 0, .int .i64 0]]) (zeroP x)) = false from decide_eq_false g3, decide_eq_false g3]
    exact LendV_eq rfl
  have G := good_of g3
  have S := srt_of G.ts
  have h1 := PPart_ok hx hq G S
  have h2 := RPPart_ok hx hq G S
  simp -implicitDefEqProofs -proj only [go_sem, Nat.reduceBEq, Nat.reduceLT, Nat.reduceLeDiff, Nat.reduceAdd, Nat.reduceMul, ↓reduceIte, decide_eq_true g3, n1, n2, m1, m2, m3, m4]
  refine CallA_pure h1 ?_
  generalize partO x q = o at *
  cases o with
  | none =>
    simp -implicitDefEqProofs -proj only [go_sem, Nat.reduceBEq, Nat.reduceLT, Nat.reduceLeDiff, Nat.reduceAdd, Nat.reduceMul, ↓reduceIte, optR, n1, n2, m1, m2, m3, m4]
    refine CallA_pure h2 ?_
    simp -implicitDefEqProofs -proj only [go_sem, Nat.reduceBEq, Nat.reduceLT, Nat.reduceLeDiff, Nat.reduceAdd, Nat.reduceMul, ↓reduceIte, optR, decide_true]
    exact LendV_eq rfl
  | some n =>
    simp -implicitDefEqProofs -proj only [go_sem, Nat.reduceBEq, Nat.reduceLT, Nat.reduceLeDiff, Nat.reduceAdd, Nat.reduceMul, ↓reduceIte, optR, n1, n2, m1, m2, m3, m4]
    refine CallA_pure h2 ?_
    simp -implicitDefEqProofs -proj only [go_sem, Nat.reduceBEq, Nat.reduceLT, Nat.reduceLeDiff, Nat.reduceAdd, Nat.reduceMul, ↓reduceIte, optR, decide_true]
    exact LendV_eq rfl
theorem sumsN_days {ss : List SumX} {a b : Int} (h : ∀ (j : Nat) (h : j < ss.length), inW a ss[j].f ss[j].t ↔ inW b ss[j].f ss[j].t) : ∀ i, sumsN ss a i = sumsN ss b i
  | 0 => rfl
  | i + 1 => by
    rw [sumsN, sumsN, sumsN_days h i]
    cases e : ss[i]? with
    | none => rfl
    | some s =>
      obtain ⟨hi, rfl⟩ := List.getElem?_eq_some_iff.1 e
      simp -implicitDefEqProofs only []
      by_cases k : inW a ss[i].f ss[i].t
      · rw [if_pos k, if_pos ((h i hi).1 k)]
      · rw [if_neg k, if_neg (fun k2 => k ((h i hi).2 k2))]
theorem partsN_days {ss : List SumX} {ps : List PartX} {a b : Int} {l : List Int} (hs : ∀ (j : Nat) (h : j < ss.length), inW a ss[j].f ss[j].t ↔ inW b ss[j].f ss[j].t) (h : ∀ (j : Nat) (h : j < ps.length), inW a ps[j].f ps[j].t ↔ inW b ps[j].f ps[j].t) : ∀ i, partsN ss ps a l i = partsN ss ps b l i
  | 0 => by rw [partsN, partsN, sumsN_days hs]
  | i + 1 => by
    rw [partsN, partsN, partsN_days hs h i]
    cases partsN ss ps b l i with
    | none => rfl
    | some m =>
      cases e : ps[i]? with
      | none => rfl
      | some x =>
        obtain ⟨hi, rfl⟩ := List.getElem?_eq_some_iff.1 e
        simp -implicitDefEqProofs only []
        by_cases k : inW a ps[i].f ps[i].t
        · rw [if_pos k, if_pos ((h i hi).1 k)]
        · rw [if_neg k, if_neg (fun k2 => k ((h i hi).2 k2))]
theorem inW_bools {d f t : Int} {R : Bool → Prop} (h1 : f ≤ d → d ≤ t → R true) (h2 : f ≤ d → ¬ d ≤ t → R false) (h3 : ¬ f ≤ d → R false) : R (decide (inW d f t)) := by
  by_cases a : f ≤ d
  · by_cases b : d ≤ t
    · rw [decide_eq_true (show inW d f t from ⟨a, b⟩)]; exact h1 a b
    · rw [decide_eq_false (fun k : inW d f t => b k.2)]; exact h2 a b
  · rw [decide_eq_false (fun k : inW d f t => a k.1)]; exact h3 a
theorem btf : (true == false) = false := rfl
theorem bft : (false == true) = false := rfl
set_option maxHeartbeats 2000000 in
theorem PriceDays_ok {c : CoreX} {a b : Int} {l : List Int} (hc : c.Fit) (ha : Fit a) (hb : Fit b) (hfl : AllFit l) (hln : l.length ≤ 9223372036854775807) : DataW Try.prog f_poundagelaw13_PriceDays [coreX c, i64 a, i64 b, slI l] (bv true) := by
  have hrg := RGood_ok hc
  have hpa := Price_ok (d := a) (b := l) hc hln
  have hpb := Price_ok (d := b) (b := l) hc hln
  refine CallW_intro comp_poundagelaw13_PriceDays (by simp) ?_
  simp -implicitDefEqProofs -proj only [go_sem, Nat.reduceBEq, Nat.reduceLT, Nat.reduceLeDiff, Nat.reduceAdd, Nat.reduceMul, ↓reduceIte]
  refine AllocA_intro (fun b4 hb4 => ?_)
  simp -implicitDefEqProofs -proj only [go_sem, Nat.reduceBEq, Nat.reduceLT, Nat.reduceLeDiff, Nat.reduceAdd, Nat.reduceMul, ↓reduceIte]
  refine CallA_pure alive13_ok ?_
  simp -implicitDefEqProofs -proj only [go_sem, Nat.reduceBEq, Nat.reduceLT, Nat.reduceLeDiff, Nat.reduceAdd, Nat.reduceMul, ↓reduceIte]
  refine CallA_pure Great_ok ?_
  by_cases g1 : greatC c
  · simp -implicitDefEqProofs -proj only [go_sem, Nat.reduceBEq, Nat.reduceLT, Nat.reduceLeDiff, Nat.reduceAdd, Nat.reduceMul, ↓reduceIte, decide_eq_true g1]
    exact LendV_eq rfl
  by_cases g2 : 100 < (l.length : Int)
  · simp -implicitDefEqProofs -proj only [go_sem, Nat.reduceBEq, Nat.reduceLT, Nat.reduceLeDiff, Nat.reduceAdd, Nat.reduceMul, ↓reduceIte, rowI_len, decide_eq_false g1, decide_eq_true g2]
    exact LendV_eq rfl
  simp -implicitDefEqProofs -proj only [go_sem, Nat.reduceBEq, Nat.reduceLT, Nat.reduceLeDiff, Nat.reduceAdd, Nat.reduceMul, ↓reduceIte, rowI_len, decide_eq_false g1, decide_eq_false g2]
  refine CallA_pure hrg ?_
  by_cases hg : goodC c
  rotate_left
  · simp -implicitDefEqProofs -proj only [go_sem, Nat.reduceBEq, Nat.reduceLT, Nat.reduceLeDiff, Nat.reduceAdd, Nat.reduceMul, ↓reduceIte, decide_eq_false hg]
    exact LendV_eq rfl
  obtain ⟨_, _, _, _, a7, a8⟩ := id hg.hd
  simp -implicitDefEqProofs -proj only [go_sem, Nat.reduceBEq, Nat.reduceLT, Nat.reduceLeDiff, Nat.reduceAdd, Nat.reduceMul, ↓reduceIte, decide_eq_true hg, rowS_len]
  refine LoopA_k (fun i : Nat => i ≤ c.ss.length ∧ ∀ (j : Nat) (h : j < c.ss.length), j < i → (inW a c.ss[j].f c.ss[j].t ↔ inW b c.ss[j].f c.ss[j].t)) 138 (fun i => [(1, i64 a), (2, i64 b), (3, slI l), (4, .ptr b4 0), (32, .d (.sl 3 (rowS c.ss))), (33, i64 c.ss.length), (34, i64 i)]) (fun _ => [(b4, coreB c)]) (fun i => c.ss.length - i) 0 ⟨Nat.zero_le _, fun j _ h => absurd h (Nat.not_lt_zero _)⟩ rfl ?_ ?_ ?_
  · simp -implicitDefEqProofs -proj only [go_sem, Nat.reduceBEq, Nat.reduceLT, Nat.reduceLeDiff, Nat.reduceAdd, Nat.reduceMul, ↓reduceIte, AllAt, rowP_len]
  · exact ⟨upd_eq, trivial⟩
  · rintro i ⟨hi, hs1⟩
    have hk : AllH (keepH [(b4, coreB c)]) [(b4, coreB c)] := keepH_all (by simp [keys])
    have k4 := hk.1
    by_cases h : i < c.ss.length
    · have hel := rowS_at h
      have hgo : (inW a c.ss[i].f c.ss[i].t ↔ inW b c.ss[i].f c.ss[i].t) → ∀ (j : Nat) (h : j < c.ss.length), j < i + 1 → (inW a c.ss[j].f c.ss[j].t ↔ inW b c.ss[j].f c.ss[j].t) := step_all (P := fun _ x => inW a x.f x.t ↔ inW b x.f x.t) (List.getElem?_eq_getElem h) hs1
      generalize c.ss[i] = s at *
      simp -implicitDefEqProofs -proj only [go_sem, Nat.reduceBEq, Nat.reduceLT, Nat.reduceLeDiff, Nat.reduceAdd, Nat.reduceMul, ↓reduceIte, decide_eq_true (show (i : Int) < c.ss.length by omega)]
      refine ElemA_at _ (by omega) hel ?_
      simp -implicitDefEqProofs -proj only [go_sem, Nat.reduceBEq, Nat.reduceLT, Nat.reduceLeDiff, Nat.reduceAdd, Nat.reduceMul, ↓reduceIte]
      refine AllocA_intro (fun b0 hb0 => ?_)
      replace hb0 : keepH [(b4, coreB c)] b0 = none := hb0
      obtain ⟨m1, m2⟩ := fresh_ne hb0 k4
      by_cases p1 : s.f ≤ a
      · by_cases p2 : a ≤ s.t
        · by_cases q1 : s.f ≤ b
          · by_cases q2 : b ≤ s.t
            · simp -implicitDefEqProofs -proj only [go_sem, Nat.reduceBEq, Nat.reduceLT, Nat.reduceLeDiff, Nat.reduceAdd, Nat.reduceMul, ↓reduceIte, m1, m2, btf, bft, decide_eq_true p1, decide_eq_true p2, decide_eq_true q1, decide_eq_true q2]
              refine LoopQ_k (i + 1) ⟨by omega, hgo (by unfold inW; omega)⟩ (by show c.ss.length - (i + 1) < c.ss.length - i; omega) rfl ?_ (AllH_upd hb0 hk)
              simp -implicitDefEqProofs -proj only [go_sem, Nat.reduceBEq, Nat.reduceLT, Nat.reduceLeDiff, Nat.reduceAdd, Nat.reduceMul, ↓reduceIte, AllAt, i64_succ (show i < 9223372036854775807 by omega)]
            · simp -implicitDefEqProofs -proj only [go_sem, Nat.reduceBEq, Nat.reduceLT, Nat.reduceLeDiff, Nat.reduceAdd, Nat.reduceMul, ↓reduceIte, m1, m2, btf, bft, decide_eq_true p1, decide_eq_true p2, decide_eq_true q1, decide_eq_false q2]
              exact LendV_eq rfl
          · simp -implicitDefEqProofs -proj only [go_sem, Nat.reduceBEq, Nat.reduceLT, Nat.reduceLeDiff, Nat.reduceAdd, Nat.reduceMul, ↓reduceIte, m1, m2, btf, bft, decide_eq_true p1, decide_eq_true p2, decide_eq_false q1]
            exact LendV_eq rfl
        · by_cases q1 : s.f ≤ b
          · by_cases q2 : b ≤ s.t
            · simp -implicitDefEqProofs -proj only [go_sem, Nat.reduceBEq, Nat.reduceLT, Nat.reduceLeDiff, Nat.reduceAdd, Nat.reduceMul, ↓reduceIte, m1, m2, btf, bft, decide_eq_true p1, decide_eq_false p2, decide_eq_true q1, decide_eq_true q2]
              exact LendV_eq rfl
            · simp -implicitDefEqProofs -proj only [go_sem, Nat.reduceBEq, Nat.reduceLT, Nat.reduceLeDiff, Nat.reduceAdd, Nat.reduceMul, ↓reduceIte, m1, m2, btf, bft, decide_eq_true p1, decide_eq_false p2, decide_eq_true q1, decide_eq_false q2]
              refine LoopQ_k (i + 1) ⟨by omega, hgo (by unfold inW; omega)⟩ (by show c.ss.length - (i + 1) < c.ss.length - i; omega) rfl ?_ (AllH_upd hb0 hk)
              simp -implicitDefEqProofs -proj only [go_sem, Nat.reduceBEq, Nat.reduceLT, Nat.reduceLeDiff, Nat.reduceAdd, Nat.reduceMul, ↓reduceIte, AllAt, i64_succ (show i < 9223372036854775807 by omega)]
          · simp -implicitDefEqProofs -proj only [go_sem, Nat.reduceBEq, Nat.reduceLT, Nat.reduceLeDiff, Nat.reduceAdd, Nat.reduceMul, ↓reduceIte, m1, m2, btf, bft, decide_eq_true p1, decide_eq_false p2, decide_eq_false q1]
            refine LoopQ_k (i + 1) ⟨by omega, hgo (by unfold inW; omega)⟩ (by show c.ss.length - (i + 1) < c.ss.length - i; omega) rfl ?_ (AllH_upd hb0 hk)
            simp -implicitDefEqProofs -proj only [go_sem, Nat.reduceBEq, Nat.reduceLT, Nat.reduceLeDiff, Nat.reduceAdd, Nat.reduceMul, ↓reduceIte, AllAt, i64_succ (show i < 9223372036854775807 by omega)]
      · by_cases q1 : s.f ≤ b
        · by_cases q2 : b ≤ s.t
          · simp -implicitDefEqProofs -proj only [go_sem, Nat.reduceBEq, Nat.reduceLT, Nat.reduceLeDiff, Nat.reduceAdd, Nat.reduceMul, ↓reduceIte, m1, m2, btf, bft, decide_eq_false p1, decide_eq_true q1, decide_eq_true q2]
            exact LendV_eq rfl
          · simp -implicitDefEqProofs -proj only [go_sem, Nat.reduceBEq, Nat.reduceLT, Nat.reduceLeDiff, Nat.reduceAdd, Nat.reduceMul, ↓reduceIte, m1, m2, btf, bft, decide_eq_false p1, decide_eq_true q1, decide_eq_false q2]
            refine LoopQ_k (i + 1) ⟨by omega, hgo (by unfold inW; omega)⟩ (by show c.ss.length - (i + 1) < c.ss.length - i; omega) rfl ?_ (AllH_upd hb0 hk)
            simp -implicitDefEqProofs -proj only [go_sem, Nat.reduceBEq, Nat.reduceLT, Nat.reduceLeDiff, Nat.reduceAdd, Nat.reduceMul, ↓reduceIte, AllAt, i64_succ (show i < 9223372036854775807 by omega)]
        · simp -implicitDefEqProofs -proj only [go_sem, Nat.reduceBEq, Nat.reduceLT, Nat.reduceLeDiff, Nat.reduceAdd, Nat.reduceMul, ↓reduceIte, m1, m2, btf, bft, decide_eq_false p1, decide_eq_false q1]
          refine LoopQ_k (i + 1) ⟨by omega, hgo (by unfold inW; omega)⟩ (by show c.ss.length - (i + 1) < c.ss.length - i; omega) rfl ?_ (AllH_upd hb0 hk)
          simp -implicitDefEqProofs -proj only [go_sem, Nat.reduceBEq, Nat.reduceLT, Nat.reduceLeDiff, Nat.reduceAdd, Nat.reduceMul, ↓reduceIte, AllAt, i64_succ (show i < 9223372036854775807 by omega)]
    · have hi' : i = c.ss.length := by omega
      subst hi'
      simp -implicitDefEqProofs -proj only [go_sem, Nat.reduceBEq, Nat.reduceLT, Nat.reduceLeDiff, Nat.reduceAdd, Nat.reduceMul, ↓reduceIte, k4, rowP_len, decide_eq_false (show ¬ (c.ss.length : Int) < c.ss.length by omega)]
      refine LoopA_k (fun i : Nat => i ≤ c.ps.length ∧ ∀ (j : Nat) (h : j < c.ps.length), j < i → (inW a c.ps[j].f c.ps[j].t ↔ inW b c.ps[j].f c.ps[j].t)) 138 (fun i => [(1, i64 a), (2, i64 b), (3, slI l), (4, .ptr b4 0), (61, .d (.sl 9 (rowP c.ps))), (62, i64 c.ps.length), (63, i64 i)]) (fun _ => [(b4, coreB c)]) (fun i => c.ps.length - i) 0 ⟨Nat.zero_le _, fun j _ h => absurd h (Nat.not_lt_zero _)⟩ rfl ?_ ?_ ?_
      · simp -implicitDefEqProofs -proj only [go_sem, Nat.reduceBEq, Nat.reduceLT, Nat.reduceLeDiff, Nat.reduceAdd, Nat.reduceMul, ↓reduceIte, AllAt, rowP_len]
      · exact hk
      · rintro i ⟨hi, hs2⟩
        have hk : AllH (keepH [(b4, coreB c)]) [(b4, coreB c)] := keepH_all (by simp [keys])
        have k4 := hk.1
        by_cases h : i < c.ps.length
        · have hel := rowP_at h
          have hgo : (inW a c.ps[i].f c.ps[i].t ↔ inW b c.ps[i].f c.ps[i].t) → ∀ (j : Nat) (h : j < c.ps.length), j < i + 1 → (inW a c.ps[j].f c.ps[j].t ↔ inW b c.ps[j].f c.ps[j].t) := step_all (P := fun _ x => inW a x.f x.t ↔ inW b x.f x.t) (List.getElem?_eq_getElem h) hs2
          generalize c.ps[i] = s at *
          simp -implicitDefEqProofs -proj only [go_sem, Nat.reduceBEq, Nat.reduceLT, Nat.reduceLeDiff, Nat.reduceAdd, Nat.reduceMul, ↓reduceIte, decide_eq_true (show (i : Int) < c.ps.length by omega)]
          refine ElemA_at _ (by omega) hel ?_
          simp -implicitDefEqProofs -proj only [go_sem, Nat.reduceBEq, Nat.reduceLT, Nat.reduceLeDiff, Nat.reduceAdd, Nat.reduceMul, ↓reduceIte]
          refine AllocA_intro (fun b0 hb0 => ?_)
          replace hb0 : keepH [(b4, coreB c)] b0 = none := hb0
          obtain ⟨m1, m2⟩ := fresh_ne hb0 k4
          by_cases p1 : s.f ≤ a
          · by_cases p2 : a ≤ s.t
            · by_cases q1 : s.f ≤ b
              · by_cases q2 : b ≤ s.t
                · simp -implicitDefEqProofs -proj only [go_sem, Nat.reduceBEq, Nat.reduceLT, Nat.reduceLeDiff, Nat.reduceAdd, Nat.reduceMul, ↓reduceIte, m1, m2, btf, bft, decide_eq_true p1, decide_eq_true p2, decide_eq_true q1, decide_eq_true q2]
                  refine LoopQ_k (i + 1) ⟨by omega, hgo (by unfold inW; omega)⟩ (by show c.ps.length - (i + 1) < c.ps.length - i; omega) rfl ?_ (AllH_upd hb0 hk)
                  simp -implicitDefEqProofs -proj only [go_sem, Nat.reduceBEq, Nat.reduceLT, Nat.reduceLeDiff, Nat.reduceAdd, Nat.reduceMul, ↓reduceIte, AllAt, i64_succ (show i < 9223372036854775807 by omega)]
                · simp -implicitDefEqProofs -proj only [go_sem, Nat.reduceBEq, Nat.reduceLT, Nat.reduceLeDiff, Nat.reduceAdd, Nat.reduceMul, ↓reduceIte, m1, m2, btf, bft, decide_eq_true p1, decide_eq_true p2, decide_eq_true q1, decide_eq_false q2]
                  exact LendV_eq rfl
              · simp -implicitDefEqProofs -proj only [go_sem, Nat.reduceBEq, Nat.reduceLT, Nat.reduceLeDiff, Nat.reduceAdd, Nat.reduceMul, ↓reduceIte, m1, m2, btf, bft, decide_eq_true p1, decide_eq_true p2, decide_eq_false q1]
                exact LendV_eq rfl
            · by_cases q1 : s.f ≤ b
              · by_cases q2 : b ≤ s.t
                · simp -implicitDefEqProofs -proj only [go_sem, Nat.reduceBEq, Nat.reduceLT, Nat.reduceLeDiff, Nat.reduceAdd, Nat.reduceMul, ↓reduceIte, m1, m2, btf, bft, decide_eq_true p1, decide_eq_false p2, decide_eq_true q1, decide_eq_true q2]
                  exact LendV_eq rfl
                · simp -implicitDefEqProofs -proj only [go_sem, Nat.reduceBEq, Nat.reduceLT, Nat.reduceLeDiff, Nat.reduceAdd, Nat.reduceMul, ↓reduceIte, m1, m2, btf, bft, decide_eq_true p1, decide_eq_false p2, decide_eq_true q1, decide_eq_false q2]
                  refine LoopQ_k (i + 1) ⟨by omega, hgo (by unfold inW; omega)⟩ (by show c.ps.length - (i + 1) < c.ps.length - i; omega) rfl ?_ (AllH_upd hb0 hk)
                  simp -implicitDefEqProofs -proj only [go_sem, Nat.reduceBEq, Nat.reduceLT, Nat.reduceLeDiff, Nat.reduceAdd, Nat.reduceMul, ↓reduceIte, AllAt, i64_succ (show i < 9223372036854775807 by omega)]
              · simp -implicitDefEqProofs -proj only [go_sem, Nat.reduceBEq, Nat.reduceLT, Nat.reduceLeDiff, Nat.reduceAdd, Nat.reduceMul, ↓reduceIte, m1, m2, btf, bft, decide_eq_true p1, decide_eq_false p2, decide_eq_false q1]
                refine LoopQ_k (i + 1) ⟨by omega, hgo (by unfold inW; omega)⟩ (by show c.ps.length - (i + 1) < c.ps.length - i; omega) rfl ?_ (AllH_upd hb0 hk)
                simp -implicitDefEqProofs -proj only [go_sem, Nat.reduceBEq, Nat.reduceLT, Nat.reduceLeDiff, Nat.reduceAdd, Nat.reduceMul, ↓reduceIte, AllAt, i64_succ (show i < 9223372036854775807 by omega)]
          · by_cases q1 : s.f ≤ b
            · by_cases q2 : b ≤ s.t
              · simp -implicitDefEqProofs -proj only [go_sem, Nat.reduceBEq, Nat.reduceLT, Nat.reduceLeDiff, Nat.reduceAdd, Nat.reduceMul, ↓reduceIte, m1, m2, btf, bft, decide_eq_false p1, decide_eq_true q1, decide_eq_true q2]
                exact LendV_eq rfl
              · simp -implicitDefEqProofs -proj only [go_sem, Nat.reduceBEq, Nat.reduceLT, Nat.reduceLeDiff, Nat.reduceAdd, Nat.reduceMul, ↓reduceIte, m1, m2, btf, bft, decide_eq_false p1, decide_eq_true q1, decide_eq_false q2]
                refine LoopQ_k (i + 1) ⟨by omega, hgo (by unfold inW; omega)⟩ (by show c.ps.length - (i + 1) < c.ps.length - i; omega) rfl ?_ (AllH_upd hb0 hk)
                simp -implicitDefEqProofs -proj only [go_sem, Nat.reduceBEq, Nat.reduceLT, Nat.reduceLeDiff, Nat.reduceAdd, Nat.reduceMul, ↓reduceIte, AllAt, i64_succ (show i < 9223372036854775807 by omega)]
            · simp -implicitDefEqProofs -proj only [go_sem, Nat.reduceBEq, Nat.reduceLT, Nat.reduceLeDiff, Nat.reduceAdd, Nat.reduceMul, ↓reduceIte, m1, m2, btf, bft, decide_eq_false p1, decide_eq_false q1]
              refine LoopQ_k (i + 1) ⟨by omega, hgo (by unfold inW; omega)⟩ (by show c.ps.length - (i + 1) < c.ps.length - i; omega) rfl ?_ (AllH_upd hb0 hk)
              simp -implicitDefEqProofs -proj only [go_sem, Nat.reduceBEq, Nat.reduceLT, Nat.reduceLeDiff, Nat.reduceAdd, Nat.reduceMul, ↓reduceIte, AllAt, i64_succ (show i < 9223372036854775807 by omega)]
        · have hi' : i = c.ps.length := by omega
          subst hi'
          have hss := fun j h => hs1 j h h
          have hpp := fun j h => hs2 j h h
          have hit : itemsO c a l = itemsO c b l := partsN_days hss hpp _
          simp -implicitDefEqProofs -proj only [go_sem, Nat.reduceBEq, Nat.reduceLT, Nat.reduceLeDiff, Nat.reduceAdd, Nat.reduceMul, ↓reduceIte, decide_eq_false (show ¬ (c.ps.length : Int) < c.ps.length by omega), k4]
          by_cases ha1 : inW a c.f c.t
          · by_cases hb1 : inW b c.f c.t
            · have hp : priceF c a l = priceF c b l := by
                unfold priceF
                simp [hg, ha1, hb1, hit]
              rw [hp] at hpa
              generalize priceF c b l = pr at *
              refine CallA_pure hpa ?_
              simp -implicitDefEqProofs -proj only [go_sem, Nat.reduceBEq, Nat.reduceLT, Nat.reduceLeDiff, Nat.reduceAdd, Nat.reduceMul, ↓reduceIte, k4]
              refine CallA_pure hpb ?_
              obtain ⟨v1, v2⟩ := ha1
              obtain ⟨v3, v4⟩ := hb1
              simp -implicitDefEqProofs -proj only [go_sem, Nat.reduceBEq, Nat.reduceLT, Nat.reduceLeDiff, Nat.reduceAdd, Nat.reduceMul, ↓reduceIte, k4, btf, bft, decide_eq_false (show ¬ a < c.f by omega), decide_eq_false (show ¬ c.t < a by omega), decide_eq_false (show ¬ b < c.f by omega), decide_eq_false (show ¬ c.t < b by omega), decide_true]
              exact LendV_eq rfl
            · have hq : priceF c b l = (0, 8) := by unfold priceF; rw [if_neg (fun k => k hg), if_pos (.inl hb1)]
              rw [hq] at hpb
              simp -implicitDefEqProofs only [] at hpb
              refine CallA_pure hpa ?_
              simp -implicitDefEqProofs -proj only [go_sem, Nat.reduceBEq, Nat.reduceLT, Nat.reduceLeDiff, Nat.reduceAdd, Nat.reduceMul, ↓reduceIte, k4]
              refine CallA_pure hpb ?_
              obtain ⟨v1, v2⟩ := ha1
              have hor : (decide ((priceF c a l).2 = 8) = true ∨ decide ((priceF c a l).2 = 8) = false) := by cases decide ((priceF c a l).2 = 8) <;> simp
              by_cases w1 : b < c.f
              · rcases hor with hor | hor
                · simp -implicitDefEqProofs -proj only [go_sem, Nat.reduceBEq, Nat.reduceLT, Nat.reduceLeDiff, Nat.reduceAdd, Nat.reduceMul, ↓reduceIte, k4, btf, bft, decide_eq_false (show ¬ a < c.f by omega), decide_eq_false (show ¬ c.t < a by omega), decide_eq_true w1, hor]
                  exact LendV_eq rfl
                · simp -implicitDefEqProofs -proj only [go_sem, Nat.reduceBEq, Nat.reduceLT, Nat.reduceLeDiff, Nat.reduceAdd, Nat.reduceMul, ↓reduceIte, k4, btf, bft, decide_eq_false (show ¬ a < c.f by omega), decide_eq_false (show ¬ c.t < a by omega), decide_eq_true w1, hor, decide_true]
                  exact LendV_eq rfl
              · have w2 : c.t < b := by unfold inW at hb1; omega
                rcases hor with hor | hor
                · simp -implicitDefEqProofs -proj only [go_sem, Nat.reduceBEq, Nat.reduceLT, Nat.reduceLeDiff, Nat.reduceAdd, Nat.reduceMul, ↓reduceIte, k4, btf, bft, decide_eq_false (show ¬ a < c.f by omega), decide_eq_false (show ¬ c.t < a by omega), decide_eq_false w1, decide_eq_true w2, hor]
                  exact LendV_eq rfl
                · simp -implicitDefEqProofs -proj only [go_sem, Nat.reduceBEq, Nat.reduceLT, Nat.reduceLeDiff, Nat.reduceAdd, Nat.reduceMul, ↓reduceIte, k4, btf, bft, decide_eq_false (show ¬ a < c.f by omega), decide_eq_false (show ¬ c.t < a by omega), decide_eq_false w1, decide_eq_true w2, hor, decide_true]
                  exact LendV_eq rfl
          · have hq : priceF c a l = (0, 8) := by unfold priceF; rw [if_neg (fun k => k hg), if_pos (.inl ha1)]
            rw [hq] at hpa
            simp -implicitDefEqProofs only [] at hpa
            refine CallA_pure hpa ?_
            simp -implicitDefEqProofs -proj only [go_sem, Nat.reduceBEq, Nat.reduceLT, Nat.reduceLeDiff, Nat.reduceAdd, Nat.reduceMul, ↓reduceIte, k4]
            refine CallA_pure hpb ?_
            by_cases hb1 : inW b c.f c.t
            · obtain ⟨v1, v2⟩ := hb1
              by_cases w1 : a < c.f
              · simp -implicitDefEqProofs -proj only [go_sem, Nat.reduceBEq, Nat.reduceLT, Nat.reduceLeDiff, Nat.reduceAdd, Nat.reduceMul, ↓reduceIte, k4, btf, bft, decide_eq_false (show ¬ b < c.f by omega), decide_eq_false (show ¬ c.t < b by omega), decide_eq_true w1, decide_true]
                exact LendV_eq rfl
              · have w2 : c.t < a := by unfold inW at ha1; omega
                simp -implicitDefEqProofs -proj only [go_sem, Nat.reduceBEq, Nat.reduceLT, Nat.reduceLeDiff, Nat.reduceAdd, Nat.reduceMul, ↓reduceIte, k4, btf, bft, decide_eq_false (show ¬ b < c.f by omega), decide_eq_false (show ¬ c.t < b by omega), decide_eq_false w1, decide_eq_true w2, decide_true]
                exact LendV_eq rfl
            · have hq2 : priceF c b l = (0, 8) := by unfold priceF; rw [if_neg (fun k => k hg), if_pos (.inl hb1)]
              rw [hq2]
              by_cases w1 : a < c.f
              · by_cases w3 : b < c.f
                · simp -implicitDefEqProofs -proj only [go_sem, Nat.reduceBEq, Nat.reduceLT, Nat.reduceLeDiff, Nat.reduceAdd, Nat.reduceMul, ↓reduceIte, k4, btf, bft, decide_eq_true w1, decide_eq_true w3, decide_true]
                  exact LendV_eq rfl
                · have w4 : c.t < b := by unfold inW at hb1; omega
                  simp -implicitDefEqProofs -proj only [go_sem, Nat.reduceBEq, Nat.reduceLT, Nat.reduceLeDiff, Nat.reduceAdd, Nat.reduceMul, ↓reduceIte, k4, btf, bft, decide_eq_true w1, decide_eq_false w3, decide_eq_true w4, decide_true]
                  exact LendV_eq rfl
              · have w2 : c.t < a := by unfold inW at ha1; omega
                by_cases w3 : b < c.f
                · simp -implicitDefEqProofs -proj only [go_sem, Nat.reduceBEq, Nat.reduceLT, Nat.reduceLeDiff, Nat.reduceAdd, Nat.reduceMul, ↓reduceIte, k4, btf, bft, decide_eq_false w1, decide_eq_true w2, decide_eq_true w3, decide_true]
                  exact LendV_eq rfl
                · have w4 : c.t < b := by unfold inW at hb1; omega
                  simp -implicitDefEqProofs -proj only [go_sem, Nat.reduceBEq, Nat.reduceLT, Nat.reduceLeDiff, Nat.reduceAdd, Nat.reduceMul, ↓reduceIte, k4, btf, bft, decide_eq_false w1, decide_eq_true w2, decide_eq_false w3, decide_eq_true w4, decide_true]
                  exact LendV_eq rfl
end Go.Proofs.Ytlflfciebidddaa.Abs
