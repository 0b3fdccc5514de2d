/- The law CurveGroups (printed by mkgroups.py). No claim stands here. -/
import Derived.Test.YtonlgniaoompaaaKLaw15
set_option linter.unusedSimpArgs false
set_option linter.unusedVariables false
namespace Go.Proofs.Ytonlgniaoompaaa.Abs
open Go Go.RowKit Go.Proofs
attribute [local go_sem] RunC_seq AF_n AF_r AF_b St_n St_t St_H Fst_mk Snd_mk RunC_ops RunC_cond RunC_block RunC_loop RunC_exit RunC_ret RunC_skip RunO_nil RunO_code RunO_code_ret RunO_code_exit RunO_blk RunO_blk_ret RunO_blk_exit RunL_nil RunL_guard GuardA_tt GuardA_ff GuardA_tf GuardA_ft GuardA_void CondA_t CondA_f PickA_t PickA_f RunL_mov RunL_pick RunL_alloc RunL_box RunL_load LoadA_ptr LoadB_1 LoadB_n LoadA_dptr LoadA_dptr_n RunL_store StoreA_ptr StoreB_box RunL_bin Bin_add Bin_sub Bin_mul Bin_quo Bin_rem Bin_shl Bin_shr Bin_andI Bin_orI Bin_xorI Bin_eql Bin_neq Bin_lss Bin_leq Bin_gtr Bin_geq RunL_binb Bin_beql Bin_bneq RunL_un UnA_not UnA_neg RunL_conv convV MapA_some RunL_nilCheck nilV RunL_mkfn RunL_fieldAddr faV RunL_field FieldA_1 FieldA_n RunL_elemAddr EAddrA_sl EAddrA_own EptrA_eq RunL_build BuildA_some RunL_extract ExtA_eq RunL_len lenV_sl lenV_nilsl lenV_own RunL_slen RunL_idxStr IdxSA_eq slenV RunL_minmax mmV minmaxL RunL_call RunL_callv CallvA_fn putS ev evL evO evP eqK eqKs EqB_agg RunL_eqAgg EqA_t EqA_f evQ buildC fits_agg cellsAV_agg fits_d cellsAV_d fits_nilp cellsAV_nilp fits_nilsl cellsAV_nilsl fits_nilfn cellsAV_nilfn fits_ptr cellsAV_ptr fits_eptr cellsAV_eptr fits_dptr cellsAV_dptr fits_own cellsAV_own fits_fn cellsAV_fn rowV_fits rowV_cells rowV_len lenAV setSeg nth seg mapD repeatL putT_get upd_get argT keepT_cons keepT_nil keepH_cons keepH_nil cond_true cond_false VC_true finW resW resL resOne LoopQ_exit LoopQ_ret List.cons_append List.nil_append Bool.not_true Bool.not_false Bool.and_true Bool.and_self Nat.lt_add_left_iff_pos Nat.zero_add Nat.add_zero List.drop_succ_cons List.drop_zero List.take_succ_cons List.take_zero beq_self_eq_true Bool.false_eq_true RunC_dops RunL_loadS RunL_loadD LoadDA_dptr RunL_storeS StoreSA_ptr RunL_pcall RunL_pcallv PCallvA_fn newsOk and_self and_true true_and loadW_ptr LoadK_1 LoadK_n upd_upd RunL_buildSlice BSliceA_some RunL_buildSliceD frzL frz cutL LoadA_eptr LoadE_row RunL_append RunL_slice SliceA_sl StoreA_eptr List.length_cons List.length_nil Nat.min_def Int.cast_ofNat_Int Int.natCast_zero Int.natCast_one decide_true decide_false List.getElem?_cons_zero List.getElem?_cons_succ RunC_rangef CallvA_yld putL_nil putL_cons RangeQ_exit RangeQ_ret
theorem FwdOK.uniq {val val' : Int → Int} {m m' hi : Int} {R : List Run} (h : FwdOK val m hi R) (h' : FwdOK val' m' hi R) : m = m' := by
  cases R with
  | nil => have e1 : m = hi := h; have e2 : m' = hi := h'; omega
  | cons a R => rw [← h.1, ← h'.1]
theorem FwdOK.behind {val : Int → Int} {hi : Int} : ∀ {R : List Run} {lo : Int} (k : Nat) (h : k < R.length), FwdOK val lo hi R → FwdOK val (R[k].t + 1) hi (R.drop (k + 1)) ∧ R[k].f ≤ R[k].t
  | a :: R, lo, 0, h, ⟨g1, g2, g3, g4, g5⟩ => ⟨g5, g2⟩
  | a :: R, lo, k + 1, h, ⟨g1, g2, g3, g4, g5⟩ => by
    obtain ⟨h1, h2⟩ := FwdOK.behind k (by simpa using h) g5
    exact ⟨by simpa using h1, by simpa using h2⟩
/-- Groups, one behind the other. -/
def GChain (val : Int → Int) (n : Int) : List Grp → Int → Prop
  | [], _ => True
  | g :: G, at' => at' ≤ g.f ∧ (G ≠ [] → 2 ≤ g.c) ∧ 1 ≤ g.c ∧ (g.c = 1 → g.w = 0 ∧ g.r = 0) ∧ (1 < g.c → 1 ≤ g.w ∧ g.r ≠ 0) ∧ (∀ k : Nat, (k : Int) < g.c → 0 ≤ g.f + k * g.w ∧ g.f + k * g.w < n ∧ val (g.f + k * g.w) = g.v + k * g.r) ∧ GChain val n G (g.f + (g.c - 1) * g.w + 1)
theorem groups_chain {val : Int → Int} {hi : Int} : ∀ (n : Nat) {R : List Run} {lo at' : Int}, R.length ≤ n → FwdOK val lo hi R → 0 ≤ lo → at' ≤ lo → GChain val hi (groups R) at'
  | _, [], lo, at', _, h, _, _ => trivial
  | 0, a :: l, lo, at', hn, h, _, _ => absurd hn (by simp)
  | n + 1, a :: l, lo, at', hn, h, h0, hat => by
    obtain ⟨h1, h2, hc⟩ := @grpOf_le a l
    simp -implicitDefEqProofs only [List.length_cons] at hn
    obtain ⟨m, k1, k2, k3⟩ := FwdOK.drop (grpOf a l).2 h (by simp -implicitDefEqProofs only [List.length_cons]; omega)
    have hl' : ((a :: l).drop (grpOf a l).2).length ≤ n := by rw [List.length_drop]; simp -implicitDefEqProofs only [List.length_cons]; omega
    have hgf : (grpOf a l).1.f = lo := by
      have := h.1
      cases l <;> exact this
    have hmem := h.mem_val
    have hlast : (grpOf a l).1.f + ((grpOf a l).1.c - 1) * (grpOf a l).1.w + 1 ≤ m := by
      obtain ⟨j, hj⟩ : ∃ j, (grpOf a l).2 = j + 1 := ⟨(grpOf a l).2 - 1, by omega⟩
      obtain ⟨e1, e2, e3⟩ := grp_nth (a := a) (l := l) j (by omega)
      obtain ⟨b1, b2⟩ := h.behind j e1
      rw [← hj] at b1
      have := b1.uniq k1
      rw [hc, hj, show (((j + 1 : Nat) : Int) - 1) = j by omega, ← e2]
      omega
    rw [groups_cons]
    refine ⟨by omega, fun hne => ?_, by omega, fun h3 => ?_, fun h3 => ?_, fun k hk => ?_, groups_chain n hl' k1 (by omega) hlast⟩
    · rcases grp_wide h with ⟨w0, w1, w2, w3⟩ | ⟨w0, w1, w2, w3⟩
      · subst w0; exact absurd (show groups (List.drop 1 [a]) = [] from rfl) hne
      · omega
    · rcases grp_wide h with ⟨w0, w1, w2, w3⟩ | ⟨w0, w1, w2, w3⟩
      · exact ⟨w1, w2⟩
      · omega
    · rcases grp_wide h with ⟨w0, w1, w2, w3⟩ | ⟨w0, w1, w2, w3⟩
      · omega
      · exact ⟨w1, w2⟩
    · obtain ⟨e1, e2, e3⟩ := grp_nth (a := a) (l := l) k (by omega)
      obtain ⟨m1, m2, m3, m4⟩ := hmem _ (List.getElem_mem e1)
      rw [e2, e3] at m4
      rw [e2] at m1 m2
      exact ⟨by omega, by omega, m4⟩
theorem gps_chain {l : List Int} : GChain (valL 0 l) l.length (gps l) 0 := by
  have := groups_chain _ (Nat.le_refl _) (runs_fwd 0 l) (Int.le_refl _) (Int.le_refl _)
  rwa [Int.zero_add] at this
structure GX where
  i : Nat
  at' : Int
theorem gx_i {i : Nat} {a : Int} : (GX.mk i a).i = i := (rfl)
theorem gx_at {i : Nat} {a : Int} : (GX.mk i a).at' = a := (rfl)
set_option maxRecDepth 20000 in
set_option maxHeartbeats 1000000 in
theorem CurveGroups_ok {l : List Int} (hfl : AllFit l) (hln : l.length ≤ 9223372036854775807) : DataW Try.prog f_poundagelaw15_CurveGroups [slI l] (bv true) := by
  refine CallW_intro comp_poundagelaw15_CurveGroups (by simp) ?_
  simp -implicitDefEqProofs -proj only [go_sem, Nat.reduceBEq, Nat.reduceLT, Nat.reduceLeDiff, Nat.reduceAdd, Nat.reduceMul, ↓reduceIte, Int.reduceToNat, Int.reducePow, Int.reduceLT, Int.reduceLE, Int.reduceAdd, Int.reduceSub, Int.reduceMul, Int.reduceEq, Int.reduceNe]
  refine CallA_pure alive15_ok ?_
  by_cases g1 : 2001 < (l.length : Int)
  · simp -implicitDefEqProofs -proj only [go_sem, Nat.reduceBEq, Nat.reduceLT, Nat.reduceLeDiff, Nat.reduceAdd, Nat.reduceMul, ↓reduceIte, Int.reduceToNat, Int.reducePow, Int.reduceLT, Int.reduceLE, Int.reduceAdd, Int.reduceSub, Int.reduceMul, Int.reduceEq, Int.reduceNe, rowI_len, decide_eq_true g1]
    exact LendV_eq rfl
  have oa := Of_ok (from' := 0) (l := l) (by decide) (by omega)
  have ca := (OfL_ok (l := l) (by omega)).data
  have hga := gps_len (l := l)
  have hch := gps_chain (l := l)
  generalize runs 0 l = Ra at oa ca
  simp -implicitDefEqProofs -proj only [go_sem, Nat.reduceBEq, Nat.reduceLT, Nat.reduceLeDiff, Nat.reduceAdd, Nat.reduceMul, ↓reduceIte, Int.reduceToNat, Int.reducePow, Int.reduceLT, Int.reduceLE, Int.reduceAdd, Int.reduceSub, Int.reduceMul, Int.reduceEq, Int.reduceNe, rowI_len, decide_eq_false g1]
  refine CallA_pure oa ?_
  simp -implicitDefEqProofs -proj only [go_sem, Nat.reduceBEq, Nat.reduceLT, Nat.reduceLeDiff, Nat.reduceAdd, Nat.reduceMul, ↓reduceIte, Int.reduceToNat, Int.reducePow, Int.reduceLT, Int.reduceLE, Int.reduceAdd, Int.reduceSub, Int.reduceMul, Int.reduceEq, Int.reduceNe]
  refine CallA_pure ca ?_
  by_cases hca : CurL l
  rotate_left
  · rw [if_neg hca]
    simp -implicitDefEqProofs -proj only [go_sem, Nat.reduceBEq, Nat.reduceLT, Nat.reduceLeDiff, Nat.reduceAdd, Nat.reduceMul, ↓reduceIte, Int.reduceToNat, Int.reducePow, Int.reduceLT, Int.reduceLE, Int.reduceAdd, Int.reduceSub, Int.reduceMul, Int.reduceEq, Int.reduceNe]
    refine AllocA_intro (fun b5 hb5 => ?_)
    simp -implicitDefEqProofs -proj only [go_sem, Nat.reduceBEq, Nat.reduceLT, Nat.reduceLeDiff, Nat.reduceAdd, Nat.reduceMul, ↓reduceIte, Int.reduceToNat, Int.reducePow, Int.reduceLT, Int.reduceLE, Int.reduceAdd, Int.reduceSub, Int.reduceMul, Int.reduceEq, Int.reduceNe]
    exact LendV_eq rfl
  rw [if_pos hca]
  have hgok := gps_ok hca
  obtain ⟨hg0, hgf0⟩ := gps_first hca.1
  unfold curL
  generalize gps l = G at *
  simp -implicitDefEqProofs -proj only [go_sem, Nat.reduceBEq, Nat.reduceLT, Nat.reduceLeDiff, Nat.reduceAdd, Nat.reduceMul, ↓reduceIte, Int.reduceToNat, Int.reducePow, Int.reduceLT, Int.reduceLE, Int.reduceAdd, Int.reduceSub, Int.reduceMul, Int.reduceEq, Int.reduceNe]
  refine AllocA_intro (fun b3 hb3 => ?_)
  simp -implicitDefEqProofs -proj only [go_sem, Nat.reduceBEq, Nat.reduceLT, Nat.reduceLeDiff, Nat.reduceAdd, Nat.reduceMul, ↓reduceIte, Int.reduceToNat, Int.reducePow, Int.reduceLT, Int.reduceLE, Int.reduceAdd, Int.reduceSub, Int.reduceMul, Int.reduceEq, Int.reduceNe, rowG_len]
  refine LoopA_k (fun y : GX => y.i ≤ G.length ∧ GChain (valL 0 l) l.length (G.drop y.i) y.at') 127 (fun y => [(0, slI l), (3, .ptr b3 0), (5, i64 y.at'), (24, slG G), (25, i64 G.length), (26, i64 y.i)]) (fun _ => [(b3, .box 26 [i64 ((l.length : Int) - 1), slG G])]) (fun y => G.length - y.i) ⟨0, 0⟩ ⟨Nat.zero_le _, hch⟩ rfl ?_ ?_ ?_
  · simp -implicitDefEqProofs -proj only [go_sem, Nat.reduceBEq, Nat.reduceLT, Nat.reduceLeDiff, Nat.reduceAdd, Nat.reduceMul, ↓reduceIte, Int.reduceToNat, Int.reducePow, Int.reduceLT, Int.reduceLE, Int.reduceAdd, Int.reduceSub, Int.reduceMul, Int.reduceEq, Int.reduceNe, AllAt, gx_i, gx_at]
  · simp -implicitDefEqProofs -proj only [go_sem, Nat.reduceBEq, Nat.reduceLT, Nat.reduceLeDiff, Nat.reduceAdd, Nat.reduceMul, ↓reduceIte, Int.reduceToNat, Int.reducePow, Int.reduceLT, Int.reduceLE, Int.reduceAdd, Int.reduceSub, Int.reduceMul, Int.reduceEq, Int.reduceNe, AllH]
  · rintro ⟨i, at0⟩ ⟨hi, hc⟩
    simp -implicitDefEqProofs only [gx_i, gx_at] at hi hc
    have hk : AllH (keepH [(b3, .box 26 [i64 ((l.length : Int) - 1), slG G])]) [(b3, .box 26 [i64 ((l.length : Int) - 1), slG G])] := keepH_all (by simp [keys])
    have k3 := hk.1
    by_cases h : i < G.length
    · have hel := rowG_at h
      have hok := hgok _ (List.getElem_mem h)
      rw [List.drop_eq_getElem_cons h] at hc
      obtain ⟨c1, c2, c3, c4, c5, c6, c7⟩ := hc
      have c2' : i + 1 < G.length → 2 ≤ G[i].c := fun hlt => c2 (by rw [← List.length_pos_iff, List.length_drop]; omega)
      have hf0 : i = 0 → G[i].f = 0 := fun e => by subst e; exact hgf0
      clear c2 hgf0 hch
      generalize G[i] = g at *
      have gf := hok.f
      have gw := hok.w
      have gc := hok.c
      have gv := hok.v
      simp -implicitDefEqProofs -proj only [go_sem, Nat.reduceBEq, Nat.reduceLT, Nat.reduceLeDiff, Nat.reduceAdd, Nat.reduceMul, ↓reduceIte, Int.reduceToNat, Int.reducePow, Int.reduceLT, Int.reduceLE, Int.reduceAdd, Int.reduceSub, Int.reduceMul, Int.reduceEq, Int.reduceNe, gx_i, gx_at, decide_eq_true (show (i : Int) < G.length by omega)]
      refine ElemA_at _ (by omega) hel ?_
      simp -implicitDefEqProofs -proj only [go_sem, Nat.reduceBEq, Nat.reduceLT, Nat.reduceLeDiff, Nat.reduceAdd, Nat.reduceMul, ↓reduceIte, Int.reduceToNat, Int.reducePow, Int.reduceLT, Int.reduceLE, Int.reduceAdd, Int.reduceSub, Int.reduceMul, Int.reduceEq, Int.reduceNe]
      refine AllocA_intro (fun b7 hb7 => ?_)
      replace hb7 : keepH [(b3, Blk.box 26 [i64 ((l.length : Int) - 1), slG G])] b7 = none := hb7
      obtain ⟨m1, m2⟩ := fresh_ne hb7 k3
      have hwi : IntKind.i64.wrap ((i : Int) + 1) = (i : Int) + 1 := by rw [IntKind.wrap_i64]; omega
      by_cases h0 : i = 0
      · have e0 := hf0 h0
        by_cases hc1 : g.c = 1
        · obtain ⟨cw, cr⟩ := c4 hc1
          simp -implicitDefEqProofs -proj only [go_sem, Nat.reduceBEq, Nat.reduceLT, Nat.reduceLeDiff, Nat.reduceAdd, Nat.reduceMul, ↓reduceIte, Int.reduceToNat, Int.reducePow, Int.reduceLT, Int.reduceLE, Int.reduceAdd, Int.reduceSub, Int.reduceMul, Int.reduceEq, Int.reduceNe, k3, m1, m2, rowG_len, hwi, decide_eq_true (show (i : Int) = 0 by omega), decide_eq_true e0, decide_eq_false (show ¬ g.f < at0 by omega), decide_eq_true (show g.c < 2 by omega), decide_eq_false (show ¬ (i : Int) + 1 < G.length by omega), decide_eq_true hc1, decide_eq_true cw, decide_eq_true cr, decide_eq_false (show ¬ 1 < g.c by omega)]
          refine LoopA_k (fun k : Nat => (k : Int) ≤ g.c) 127 (fun k => [(0, slI l), (3, .ptr b3 0), (5, i64 (if k = 0 then at0 else g.f + ((k : Int) - 1) * g.w + 1)), (24, slG G), (25, i64 G.length), (26, i64 i), (7, .ptr b7 0), (8, i64 k)]) (fun _ => [(b7, .box 40 [i64 g.f, i64 g.v, i64 g.w, i64 g.r, i64 g.c]), (b3, .box 26 [i64 ((l.length : Int) - 1), slG G])]) (fun k => g.c.toNat - k) 0 (by omega) rfl ?_ ?_ ?_
          · simp -implicitDefEqProofs -proj only [go_sem, Nat.reduceBEq, Nat.reduceLT, Nat.reduceLeDiff, Nat.reduceAdd, Nat.reduceMul, ↓reduceIte, Int.reduceToNat, Int.reducePow, Int.reduceLT, Int.reduceLE, Int.reduceAdd, Int.reduceSub, Int.reduceMul, Int.reduceEq, Int.reduceNe, AllAt]
          · simp -implicitDefEqProofs -proj only [go_sem, Nat.reduceBEq, Nat.reduceLT, Nat.reduceLeDiff, Nat.reduceAdd, Nat.reduceMul, ↓reduceIte, Int.reduceToNat, Int.reducePow, Int.reduceLT, Int.reduceLE, Int.reduceAdd, Int.reduceSub, Int.reduceMul, Int.reduceEq, Int.reduceNe, AllH, m1, m2, k3]
          · intro k hkc
            have hk2 : AllH (keepH [(b7, .box 40 [i64 g.f, i64 g.v, i64 g.w, i64 g.r, i64 g.c]), (b3, .box 26 [i64 ((l.length : Int) - 1), slG G])]) [(b7, .box 40 [i64 g.f, i64 g.v, i64 g.w, i64 g.r, i64 g.c]), (b3, .box 26 [i64 ((l.length : Int) - 1), slG G])] := keepH_all (by simp [keys, m1])
            obtain ⟨j7, j3, _⟩ := id hk2
            by_cases hkk : (k : Int) < g.c
            · obtain ⟨d1, d2, d3⟩ := c6 k hkk
              have gr := hok.r k (by omega) (by omega)
              have w1 : IntKind.i64.wrap ((k : Int) * g.w) = (k : Int) * g.w := by rw [IntKind.wrap_i64]; omega
              have w2 : IntKind.i64.wrap (g.f + (k : Int) * g.w) = g.f + (k : Int) * g.w := by rw [IntKind.wrap_i64]; omega
              have w3 : IntKind.i64.wrap ((k : Int) * g.r) = (k : Int) * g.r := by rw [IntKind.wrap_i64]; omega
              have w4 : IntKind.i64.wrap (g.v + (k : Int) * g.r) = g.v + (k : Int) * g.r := by rw [IntKind.wrap_i64]; omega
              have w5 : IntKind.i64.wrap (g.f + (k : Int) * g.w + 1) = g.f + (k : Int) * g.w + 1 := by rw [IntKind.wrap_i64]; omega
              have hq : (g.f + (k : Int) * g.w).toNat < l.length := by omega
              have hel2 := rowI_at (List.getElem?_eq_getElem hq)
              have hv := valL_get (f := 0) hq
              rw [Int.zero_add, show (((g.f + (k : Int) * g.w).toNat : Nat) : Int) = g.f + (k : Int) * g.w by omega, d3] at hv
              rw [← hv] at hel2
              have hnx : (((k + 1 : Nat) : Int) - 1) = k := by omega
              simp -implicitDefEqProofs -proj only [go_sem, Nat.reduceBEq, Nat.reduceLT, Nat.reduceLeDiff, Nat.reduceAdd, Nat.reduceMul, ↓reduceIte, Int.reduceToNat, Int.reducePow, Int.reduceLT, Int.reduceLE, Int.reduceAdd, Int.reduceSub, Int.reduceMul, Int.reduceEq, Int.reduceNe, j7, j3, decide_eq_true hkk, w1, w2, rowI_len, decide_eq_false (show ¬ (l.length : Int) ≤ g.f + (k : Int) * g.w by omega)]
              refine ElemA_at _ (by omega) hel2 ?_
              simp -implicitDefEqProofs -proj only [go_sem, Nat.reduceBEq, Nat.reduceLT, Nat.reduceLeDiff, Nat.reduceAdd, Nat.reduceMul, ↓reduceIte, Int.reduceToNat, Int.reducePow, Int.reduceLT, Int.reduceLE, Int.reduceAdd, Int.reduceSub, Int.reduceMul, Int.reduceEq, Int.reduceNe, j7, j3, w3, w4, w5, decide_eq_true (rfl : g.v + (k : Int) * g.r = g.v + (k : Int) * g.r)]
              refine LoopQ_k (k + 1) (by omega) (by omega) rfl ?_ hk2
              simp -implicitDefEqProofs -proj only [go_sem, Nat.reduceBEq, Nat.reduceLT, Nat.reduceLeDiff, Nat.reduceAdd, Nat.reduceMul, ↓reduceIte, Int.reduceToNat, Int.reducePow, Int.reduceLT, Int.reduceLE, Int.reduceAdd, Int.reduceSub, Int.reduceMul, Int.reduceEq, Int.reduceNe, AllAt, if_neg (show ¬ k + 1 = 0 by omega), hnx, i64_succ (show k < 9223372036854775807 by omega)]
            · have hkc2 : (k : Int) = g.c := by omega
              simp -implicitDefEqProofs -proj only [go_sem, Nat.reduceBEq, Nat.reduceLT, Nat.reduceLeDiff, Nat.reduceAdd, Nat.reduceMul, ↓reduceIte, Int.reduceToNat, Int.reducePow, Int.reduceLT, Int.reduceLE, Int.reduceAdd, Int.reduceSub, Int.reduceMul, Int.reduceEq, Int.reduceNe, j7, j3, decide_eq_false hkk, if_neg (show ¬ k = 0 by omega)]
              refine LoopQ_k ⟨i + 1, g.f + ((k : Int) - 1) * g.w + 1⟩ ⟨by show i + 1 ≤ G.length; omega, by show GChain _ _ (G.drop (i + 1)) (g.f + ((k : Int) - 1) * g.w + 1); rw [hkc2]; exact c7⟩ (by show G.length - (i + 1) < G.length - i; omega) rfl ?_ ⟨j3, trivial⟩
              simp -implicitDefEqProofs -proj only [go_sem, Nat.reduceBEq, Nat.reduceLT, Nat.reduceLeDiff, Nat.reduceAdd, Nat.reduceMul, ↓reduceIte, Int.reduceToNat, Int.reducePow, Int.reduceLT, Int.reduceLE, Int.reduceAdd, Int.reduceSub, Int.reduceMul, Int.reduceEq, Int.reduceNe, AllAt, gx_i, gx_at, i64_succ (show i < 9223372036854775807 by omega)]
        · obtain ⟨cw, cr⟩ := c5 (by omega)
          simp -implicitDefEqProofs -proj only [go_sem, Nat.reduceBEq, Nat.reduceLT, Nat.reduceLeDiff, Nat.reduceAdd, Nat.reduceMul, ↓reduceIte, Int.reduceToNat, Int.reducePow, Int.reduceLT, Int.reduceLE, Int.reduceAdd, Int.reduceSub, Int.reduceMul, Int.reduceEq, Int.reduceNe, k3, m1, m2, rowG_len, hwi, decide_eq_true (show (i : Int) = 0 by omega), decide_eq_true e0, decide_eq_false (show ¬ g.f < at0 by omega), decide_eq_false (show ¬ g.c < 2 by omega), decide_eq_false hc1, decide_eq_false (show ¬ g.w < 1 by omega), decide_eq_false cr, decide_eq_true (show 1 < g.c by omega)]
          refine LoopA_k (fun k : Nat => (k : Int) ≤ g.c) 127 (fun k => [(0, slI l), (3, .ptr b3 0), (5, i64 (if k = 0 then at0 else g.f + ((k : Int) - 1) * g.w + 1)), (24, slG G), (25, i64 G.length), (26, i64 i), (7, .ptr b7 0), (8, i64 k)]) (fun _ => [(b7, .box 40 [i64 g.f, i64 g.v, i64 g.w, i64 g.r, i64 g.c]), (b3, .box 26 [i64 ((l.length : Int) - 1), slG G])]) (fun k => g.c.toNat - k) 0 (by omega) rfl ?_ ?_ ?_
          · simp -implicitDefEqProofs -proj only [go_sem, Nat.reduceBEq, Nat.reduceLT, Nat.reduceLeDiff, Nat.reduceAdd, Nat.reduceMul, ↓reduceIte, Int.reduceToNat, Int.reducePow, Int.reduceLT, Int.reduceLE, Int.reduceAdd, Int.reduceSub, Int.reduceMul, Int.reduceEq, Int.reduceNe, AllAt]
          · simp -implicitDefEqProofs -proj only [go_sem, Nat.reduceBEq, Nat.reduceLT, Nat.reduceLeDiff, Nat.reduceAdd, Nat.reduceMul, ↓reduceIte, Int.reduceToNat, Int.reducePow, Int.reduceLT, Int.reduceLE, Int.reduceAdd, Int.reduceSub, Int.reduceMul, Int.reduceEq, Int.reduceNe, AllH, m1, m2, k3]
          · intro k hkc
            have hk2 : AllH (keepH [(b7, .box 40 [i64 g.f, i64 g.v, i64 g.w, i64 g.r, i64 g.c]), (b3, .box 26 [i64 ((l.length : Int) - 1), slG G])]) [(b7, .box 40 [i64 g.f, i64 g.v, i64 g.w, i64 g.r, i64 g.c]), (b3, .box 26 [i64 ((l.length : Int) - 1), slG G])] := keepH_all (by simp [keys, m1])
            obtain ⟨j7, j3, _⟩ := id hk2
            by_cases hkk : (k : Int) < g.c
            · obtain ⟨d1, d2, d3⟩ := c6 k hkk
              have gr := hok.r k (by omega) (by omega)
              have w1 : IntKind.i64.wrap ((k : Int) * g.w) = (k : Int) * g.w := by rw [IntKind.wrap_i64]; omega
              have w2 : IntKind.i64.wrap (g.f + (k : Int) * g.w) = g.f + (k : Int) * g.w := by rw [IntKind.wrap_i64]; omega
              have w3 : IntKind.i64.wrap ((k : Int) * g.r) = (k : Int) * g.r := by rw [IntKind.wrap_i64]; omega
              have w4 : IntKind.i64.wrap (g.v + (k : Int) * g.r) = g.v + (k : Int) * g.r := by rw [IntKind.wrap_i64]; omega
              have w5 : IntKind.i64.wrap (g.f + (k : Int) * g.w + 1) = g.f + (k : Int) * g.w + 1 := by rw [IntKind.wrap_i64]; omega
              have hq : (g.f + (k : Int) * g.w).toNat < l.length := by omega
              have hel2 := rowI_at (List.getElem?_eq_getElem hq)
              have hv := valL_get (f := 0) hq
              rw [Int.zero_add, show (((g.f + (k : Int) * g.w).toNat : Nat) : Int) = g.f + (k : Int) * g.w by omega, d3] at hv
              rw [← hv] at hel2
              have hnx : (((k + 1 : Nat) : Int) - 1) = k := by omega
              simp -implicitDefEqProofs -proj only [go_sem, Nat.reduceBEq, Nat.reduceLT, Nat.reduceLeDiff, Nat.reduceAdd, Nat.reduceMul, ↓reduceIte, Int.reduceToNat, Int.reducePow, Int.reduceLT, Int.reduceLE, Int.reduceAdd, Int.reduceSub, Int.reduceMul, Int.reduceEq, Int.reduceNe, j7, j3, decide_eq_true hkk, w1, w2, rowI_len, decide_eq_false (show ¬ (l.length : Int) ≤ g.f + (k : Int) * g.w by omega)]
              refine ElemA_at _ (by omega) hel2 ?_
              simp -implicitDefEqProofs -proj only [go_sem, Nat.reduceBEq, Nat.reduceLT, Nat.reduceLeDiff, Nat.reduceAdd, Nat.reduceMul, ↓reduceIte, Int.reduceToNat, Int.reducePow, Int.reduceLT, Int.reduceLE, Int.reduceAdd, Int.reduceSub, Int.reduceMul, Int.reduceEq, Int.reduceNe, j7, j3, w3, w4, w5, decide_eq_true (rfl : g.v + (k : Int) * g.r = g.v + (k : Int) * g.r)]
              refine LoopQ_k (k + 1) (by omega) (by omega) rfl ?_ hk2
              simp -implicitDefEqProofs -proj only [go_sem, Nat.reduceBEq, Nat.reduceLT, Nat.reduceLeDiff, Nat.reduceAdd, Nat.reduceMul, ↓reduceIte, Int.reduceToNat, Int.reducePow, Int.reduceLT, Int.reduceLE, Int.reduceAdd, Int.reduceSub, Int.reduceMul, Int.reduceEq, Int.reduceNe, AllAt, if_neg (show ¬ k + 1 = 0 by omega), hnx, i64_succ (show k < 9223372036854775807 by omega)]
            · have hkc2 : (k : Int) = g.c := by omega
              simp -implicitDefEqProofs -proj only [go_sem, Nat.reduceBEq, Nat.reduceLT, Nat.reduceLeDiff, Nat.reduceAdd, Nat.reduceMul, ↓reduceIte, Int.reduceToNat, Int.reducePow, Int.reduceLT, Int.reduceLE, Int.reduceAdd, Int.reduceSub, Int.reduceMul, Int.reduceEq, Int.reduceNe, j7, j3, decide_eq_false hkk, if_neg (show ¬ k = 0 by omega)]
              refine LoopQ_k ⟨i + 1, g.f + ((k : Int) - 1) * g.w + 1⟩ ⟨by show i + 1 ≤ G.length; omega, by show GChain _ _ (G.drop (i + 1)) (g.f + ((k : Int) - 1) * g.w + 1); rw [hkc2]; exact c7⟩ (by show G.length - (i + 1) < G.length - i; omega) rfl ?_ ⟨j3, trivial⟩
              simp -implicitDefEqProofs -proj only [go_sem, Nat.reduceBEq, Nat.reduceLT, Nat.reduceLeDiff, Nat.reduceAdd, Nat.reduceMul, ↓reduceIte, Int.reduceToNat, Int.reducePow, Int.reduceLT, Int.reduceLE, Int.reduceAdd, Int.reduceSub, Int.reduceMul, Int.reduceEq, Int.reduceNe, AllAt, gx_i, gx_at, i64_succ (show i < 9223372036854775807 by omega)]
      · by_cases hc1 : g.c = 1
        · obtain ⟨cw, cr⟩ := c4 hc1
          simp -implicitDefEqProofs -proj only [go_sem, Nat.reduceBEq, Nat.reduceLT, Nat.reduceLeDiff, Nat.reduceAdd, Nat.reduceMul, ↓reduceIte, Int.reduceToNat, Int.reducePow, Int.reduceLT, Int.reduceLE, Int.reduceAdd, Int.reduceSub, Int.reduceMul, Int.reduceEq, Int.reduceNe, k3, m1, m2, rowG_len, hwi, decide_eq_false (show ¬ (i : Int) = 0 by omega), decide_eq_false (show ¬ g.f < at0 by omega), decide_eq_true (show g.c < 2 by omega), decide_eq_false (show ¬ (i : Int) + 1 < G.length by omega), decide_eq_true hc1, decide_eq_true cw, decide_eq_true cr, decide_eq_false (show ¬ 1 < g.c by omega)]
          refine LoopA_k (fun k : Nat => (k : Int) ≤ g.c) 127 (fun k => [(0, slI l), (3, .ptr b3 0), (5, i64 (if k = 0 then at0 else g.f + ((k : Int) - 1) * g.w + 1)), (24, slG G), (25, i64 G.length), (26, i64 i), (7, .ptr b7 0), (8, i64 k)]) (fun _ => [(b7, .box 40 [i64 g.f, i64 g.v, i64 g.w, i64 g.r, i64 g.c]), (b3, .box 26 [i64 ((l.length : Int) - 1), slG G])]) (fun k => g.c.toNat - k) 0 (by omega) rfl ?_ ?_ ?_
          · simp -implicitDefEqProofs -proj only [go_sem, Nat.reduceBEq, Nat.reduceLT, Nat.reduceLeDiff, Nat.reduceAdd, Nat.reduceMul, ↓reduceIte, Int.reduceToNat, Int.reducePow, Int.reduceLT, Int.reduceLE, Int.reduceAdd, Int.reduceSub, Int.reduceMul, Int.reduceEq, Int.reduceNe, AllAt]
          · simp -implicitDefEqProofs -proj only [go_sem, Nat.reduceBEq, Nat.reduceLT, Nat.reduceLeDiff, Nat.reduceAdd, Nat.reduceMul, ↓reduceIte, Int.reduceToNat, Int.reducePow, Int.reduceLT, Int.reduceLE, Int.reduceAdd, Int.reduceSub, Int.reduceMul, Int.reduceEq, Int.reduceNe, AllH, m1, m2, k3]
          · intro k hkc
            have hk2 : AllH (keepH [(b7, .box 40 [i64 g.f, i64 g.v, i64 g.w, i64 g.r, i64 g.c]), (b3, .box 26 [i64 ((l.length : Int) - 1), slG G])]) [(b7, .box 40 [i64 g.f, i64 g.v, i64 g.w, i64 g.r, i64 g.c]), (b3, .box 26 [i64 ((l.length : Int) - 1), slG G])] := keepH_all (by simp [keys, m1])
            obtain ⟨j7, j3, _⟩ := id hk2
            by_cases hkk : (k : Int) < g.c
            · obtain ⟨d1, d2, d3⟩ := c6 k hkk
              have gr := hok.r k (by omega) (by omega)
              have w1 : IntKind.i64.wrap ((k : Int) * g.w) = (k : Int) * g.w := by rw [IntKind.wrap_i64]; omega
              have w2 : IntKind.i64.wrap (g.f + (k : Int) * g.w) = g.f + (k : Int) * g.w := by rw [IntKind.wrap_i64]; omega
              have w3 : IntKind.i64.wrap ((k : Int) * g.r) = (k : Int) * g.r := by rw [IntKind.wrap_i64]; omega
              have w4 : IntKind.i64.wrap (g.v + (k : Int) * g.r) = g.v + (k : Int) * g.r := by rw [IntKind.wrap_i64]; omega
              have w5 : IntKind.i64.wrap (g.f + (k : Int) * g.w + 1) = g.f + (k : Int) * g.w + 1 := by rw [IntKind.wrap_i64]; omega
              have hq : (g.f + (k : Int) * g.w).toNat < l.length := by omega
              have hel2 := rowI_at (List.getElem?_eq_getElem hq)
              have hv := valL_get (f := 0) hq
              rw [Int.zero_add, show (((g.f + (k : Int) * g.w).toNat : Nat) : Int) = g.f + (k : Int) * g.w by omega, d3] at hv
              rw [← hv] at hel2
              have hnx : (((k + 1 : Nat) : Int) - 1) = k := by omega
              simp -implicitDefEqProofs -proj only [go_sem, Nat.reduceBEq, Nat.reduceLT, Nat.reduceLeDiff, Nat.reduceAdd, Nat.reduceMul, ↓reduceIte, Int.reduceToNat, Int.reducePow, Int.reduceLT, Int.reduceLE, Int.reduceAdd, Int.reduceSub, Int.reduceMul, Int.reduceEq, Int.reduceNe, j7, j3, decide_eq_true hkk, w1, w2, rowI_len, decide_eq_false (show ¬ (l.length : Int) ≤ g.f + (k : Int) * g.w by omega)]
              refine ElemA_at _ (by omega) hel2 ?_
              simp -implicitDefEqProofs -proj only [go_sem, Nat.reduceBEq, Nat.reduceLT, Nat.reduceLeDiff, Nat.reduceAdd, Nat.reduceMul, ↓reduceIte, Int.reduceToNat, Int.reducePow, Int.reduceLT, Int.reduceLE, Int.reduceAdd, Int.reduceSub, Int.reduceMul, Int.reduceEq, Int.reduceNe, j7, j3, w3, w4, w5, decide_eq_true (rfl : g.v + (k : Int) * g.r = g.v + (k : Int) * g.r)]
              refine LoopQ_k (k + 1) (by omega) (by omega) rfl ?_ hk2
              simp -implicitDefEqProofs -proj only [go_sem, Nat.reduceBEq, Nat.reduceLT, Nat.reduceLeDiff, Nat.reduceAdd, Nat.reduceMul, ↓reduceIte, Int.reduceToNat, Int.reducePow, Int.reduceLT, Int.reduceLE, Int.reduceAdd, Int.reduceSub, Int.reduceMul, Int.reduceEq, Int.reduceNe, AllAt, if_neg (show ¬ k + 1 = 0 by omega), hnx, i64_succ (show k < 9223372036854775807 by omega)]
            · have hkc2 : (k : Int) = g.c := by omega
              simp -implicitDefEqProofs -proj only [go_sem, Nat.reduceBEq, Nat.reduceLT, Nat.reduceLeDiff, Nat.reduceAdd, Nat.reduceMul, ↓reduceIte, Int.reduceToNat, Int.reducePow, Int.reduceLT, Int.reduceLE, Int.reduceAdd, Int.reduceSub, Int.reduceMul, Int.reduceEq, Int.reduceNe, j7, j3, decide_eq_false hkk, if_neg (show ¬ k = 0 by omega)]
              refine LoopQ_k ⟨i + 1, g.f + ((k : Int) - 1) * g.w + 1⟩ ⟨by show i + 1 ≤ G.length; omega, by show GChain _ _ (G.drop (i + 1)) (g.f + ((k : Int) - 1) * g.w + 1); rw [hkc2]; exact c7⟩ (by show G.length - (i + 1) < G.length - i; omega) rfl ?_ ⟨j3, trivial⟩
              simp -implicitDefEqProofs -proj only [go_sem, Nat.reduceBEq, Nat.reduceLT, Nat.reduceLeDiff, Nat.reduceAdd, Nat.reduceMul, ↓reduceIte, Int.reduceToNat, Int.reducePow, Int.reduceLT, Int.reduceLE, Int.reduceAdd, Int.reduceSub, Int.reduceMul, Int.reduceEq, Int.reduceNe, AllAt, gx_i, gx_at, i64_succ (show i < 9223372036854775807 by omega)]
        · obtain ⟨cw, cr⟩ := c5 (by omega)
          simp -implicitDefEqProofs -proj only [go_sem, Nat.reduceBEq, Nat.reduceLT, Nat.reduceLeDiff, Nat.reduceAdd, Nat.reduceMul, ↓reduceIte, Int.reduceToNat, Int.reducePow, Int.reduceLT, Int.reduceLE, Int.reduceAdd, Int.reduceSub, Int.reduceMul, Int.reduceEq, Int.reduceNe, k3, m1, m2, rowG_len, hwi, decide_eq_false (show ¬ (i : Int) = 0 by omega), decide_eq_false (show ¬ g.f < at0 by omega), decide_eq_false (show ¬ g.c < 2 by omega), decide_eq_false hc1, decide_eq_false (show ¬ g.w < 1 by omega), decide_eq_false cr, decide_eq_true (show 1 < g.c by omega)]
          refine LoopA_k (fun k : Nat => (k : Int) ≤ g.c) 127 (fun k => [(0, slI l), (3, .ptr b3 0), (5, i64 (if k = 0 then at0 else g.f + ((k : Int) - 1) * g.w + 1)), (24, slG G), (25, i64 G.length), (26, i64 i), (7, .ptr b7 0), (8, i64 k)]) (fun _ => [(b7, .box 40 [i64 g.f, i64 g.v, i64 g.w, i64 g.r, i64 g.c]), (b3, .box 26 [i64 ((l.length : Int) - 1), slG G])]) (fun k => g.c.toNat - k) 0 (by omega) rfl ?_ ?_ ?_
          · simp -implicitDefEqProofs -proj only [go_sem, Nat.reduceBEq, Nat.reduceLT, Nat.reduceLeDiff, Nat.reduceAdd, Nat.reduceMul, ↓reduceIte, Int.reduceToNat, Int.reducePow, Int.reduceLT, Int.reduceLE, Int.reduceAdd, Int.reduceSub, Int.reduceMul, Int.reduceEq, Int.reduceNe, AllAt]
          · simp -implicitDefEqProofs -proj only [go_sem, Nat.reduceBEq, Nat.reduceLT, Nat.reduceLeDiff, Nat.reduceAdd, Nat.reduceMul, ↓reduceIte, Int.reduceToNat, Int.reducePow, Int.reduceLT, Int.reduceLE, Int.reduceAdd, Int.reduceSub, Int.reduceMul, Int.reduceEq, Int.reduceNe, AllH, m1, m2, k3]
          · intro k hkc
            have hk2 : AllH (keepH [(b7, .box 40 [i64 g.f, i64 g.v, i64 g.w, i64 g.r, i64 g.c]), (b3, .box 26 [i64 ((l.length : Int) - 1), slG G])]) [(b7, .box 40 [i64 g.f, i64 g.v, i64 g.w, i64 g.r, i64 g.c]), (b3, .box 26 [i64 ((l.length : Int) - 1), slG G])] := keepH_all (by simp [keys, m1])
            obtain ⟨j7, j3, _⟩ := id hk2
            by_cases hkk : (k : Int) < g.c
            · obtain ⟨d1, d2, d3⟩ := c6 k hkk
              have gr := hok.r k (by omega) (by omega)
              have w1 : IntKind.i64.wrap ((k : Int) * g.w) = (k : Int) * g.w := by rw [IntKind.wrap_i64]; omega
              have w2 : IntKind.i64.wrap (g.f + (k : Int) * g.w) = g.f + (k : Int) * g.w := by rw [IntKind.wrap_i64]; omega
              have w3 : IntKind.i64.wrap ((k : Int) * g.r) = (k : Int) * g.r := by rw [IntKind.wrap_i64]; omega
              have w4 : IntKind.i64.wrap (g.v + (k : Int) * g.r) = g.v + (k : Int) * g.r := by rw [IntKind.wrap_i64]; omega
              have w5 : IntKind.i64.wrap (g.f + (k : Int) * g.w + 1) = g.f + (k : Int) * g.w + 1 := by rw [IntKind.wrap_i64]; omega
              have hq : (g.f + (k : Int) * g.w).toNat < l.length := by omega
              have hel2 := rowI_at (List.getElem?_eq_getElem hq)
              have hv := valL_get (f := 0) hq
              rw [Int.zero_add, show (((g.f + (k : Int) * g.w).toNat : Nat) : Int) = g.f + (k : Int) * g.w by omega, d3] at hv
              rw [← hv] at hel2
              have hnx : (((k + 1 : Nat) : Int) - 1) = k := by omega
              simp -implicitDefEqProofs -proj only [go_sem, Nat.reduceBEq, Nat.reduceLT, Nat.reduceLeDiff, Nat.reduceAdd, Nat.reduceMul, ↓reduceIte, Int.reduceToNat, Int.reducePow, Int.reduceLT, Int.reduceLE, Int.reduceAdd, Int.reduceSub, Int.reduceMul, Int.reduceEq, Int.reduceNe, j7, j3, decide_eq_true hkk, w1, w2, rowI_len, decide_eq_false (show ¬ (l.length : Int) ≤ g.f + (k : Int) * g.w by omega)]
              refine ElemA_at _ (by omega) hel2 ?_
              simp -implicitDefEqProofs -proj only [go_sem, Nat.reduceBEq, Nat.reduceLT, Nat.reduceLeDiff, Nat.reduceAdd, Nat.reduceMul, ↓reduceIte, Int.reduceToNat, Int.reducePow, Int.reduceLT, Int.reduceLE, Int.reduceAdd, Int.reduceSub, Int.reduceMul, Int.reduceEq, Int.reduceNe, j7, j3, w3, w4, w5, decide_eq_true (rfl : g.v + (k : Int) * g.r = g.v + (k : Int) * g.r)]
              refine LoopQ_k (k + 1) (by omega) (by omega) rfl ?_ hk2
              simp -implicitDefEqProofs -proj only [go_sem, Nat.reduceBEq, Nat.reduceLT, Nat.reduceLeDiff, Nat.reduceAdd, Nat.reduceMul, ↓reduceIte, Int.reduceToNat, Int.reducePow, Int.reduceLT, Int.reduceLE, Int.reduceAdd, Int.reduceSub, Int.reduceMul, Int.reduceEq, Int.reduceNe, AllAt, if_neg (show ¬ k + 1 = 0 by omega), hnx, i64_succ (show k < 9223372036854775807 by omega)]
            · have hkc2 : (k : Int) = g.c := by omega
              simp -implicitDefEqProofs -proj only [go_sem, Nat.reduceBEq, Nat.reduceLT, Nat.reduceLeDiff, Nat.reduceAdd, Nat.reduceMul, ↓reduceIte, Int.reduceToNat, Int.reducePow, Int.reduceLT, Int.reduceLE, Int.reduceAdd, Int.reduceSub, Int.reduceMul, Int.reduceEq, Int.reduceNe, j7, j3, decide_eq_false hkk, if_neg (show ¬ k = 0 by omega)]
              refine LoopQ_k ⟨i + 1, g.f + ((k : Int) - 1) * g.w + 1⟩ ⟨by show i + 1 ≤ G.length; omega, by show GChain _ _ (G.drop (i + 1)) (g.f + ((k : Int) - 1) * g.w + 1); rw [hkc2]; exact c7⟩ (by show G.length - (i + 1) < G.length - i; omega) rfl ?_ ⟨j3, trivial⟩
              simp -implicitDefEqProofs -proj only [go_sem, Nat.reduceBEq, Nat.reduceLT, Nat.reduceLeDiff, Nat.reduceAdd, Nat.reduceMul, ↓reduceIte, Int.reduceToNat, Int.reducePow, Int.reduceLT, Int.reduceLE, Int.reduceAdd, Int.reduceSub, Int.reduceMul, Int.reduceEq, Int.reduceNe, AllAt, gx_i, gx_at, i64_succ (show i < 9223372036854775807 by omega)]
    · have hi' : i = G.length := by omega
      subst hi'
      have hwl : IntKind.i64.wrap ((l.length : Int) - 1) = (l.length : Int) - 1 := by rw [IntKind.wrap_i64]; omega
      simp -implicitDefEqProofs -proj only [go_sem, Nat.reduceBEq, Nat.reduceLT, Nat.reduceLeDiff, Nat.reduceAdd, Nat.reduceMul, ↓reduceIte, Int.reduceToNat, Int.reducePow, Int.reduceLT, Int.reduceLE, Int.reduceAdd, Int.reduceSub, Int.reduceMul, Int.reduceEq, Int.reduceNe, gx_i, gx_at, k3, rowI_len, hwl, decide_eq_false (show ¬ (G.length : Int) < G.length by omega), decide_eq_true (rfl : (l.length : Int) - 1 = (l.length : Int) - 1)]
      exact LendV_eq rfl
end Go.Proofs.Ytonlgniaoompaaa.Abs
