/- The package curve: At, Same. No claim stands here. -/
import Derived.Test.YthamjpioodlckaaKCurve15b
set_option linter.unusedSimpArgs false
set_option linter.unusedVariables false
namespace Go.Proofs.Ythamjpioodlckaa.Abs
open Go Go.RowKit Go.Proofs
attribute [local go_sem] RunC_seq AF_n AF_r AF_b St_n St_t St_H Fst_mk Snd_mk RunC_ops RunC_cond RunC_block RunC_loop RunC_exit RunC_ret RunC_skip RunO_nil RunO_code RunO_code_ret RunO_code_exit RunO_blk RunO_blk_ret RunO_blk_exit RunL_nil RunL_guard GuardA_tt GuardA_ff GuardA_tf GuardA_ft GuardA_void CondA_t CondA_f PickA_t PickA_f RunL_mov RunL_pick RunL_alloc RunL_box RunL_load LoadA_ptr LoadB_1 LoadB_n LoadA_dptr LoadA_dptr_n RunL_store StoreA_ptr StoreB_box RunL_bin Bin_add Bin_sub Bin_mul Bin_quo Bin_rem Bin_shl Bin_shr Bin_andI Bin_orI Bin_xorI Bin_eql Bin_neq Bin_lss Bin_leq Bin_gtr Bin_geq RunL_binb Bin_beql Bin_bneq RunL_un UnA_not UnA_neg RunL_conv convV MapA_some RunL_nilCheck nilV RunL_mkfn RunL_fieldAddr faV RunL_field FieldA_1 FieldA_n RunL_elemAddr EAddrA_sl EAddrA_own EptrA_eq RunL_build BuildA_some RunL_extract ExtA_eq RunL_len lenV_sl lenV_nilsl lenV_own RunL_slen RunL_idxStr IdxSA_eq slenV RunL_minmax mmV minmaxL RunL_call RunL_callv CallvA_fn putS ev evL evO evP eqK eqKs EqB_agg RunL_eqAgg EqA_t EqA_f evQ buildC fits_agg cellsAV_agg fits_d cellsAV_d fits_nilp cellsAV_nilp fits_nilsl cellsAV_nilsl fits_nilfn cellsAV_nilfn fits_ptr cellsAV_ptr fits_eptr cellsAV_eptr fits_dptr cellsAV_dptr fits_own cellsAV_own fits_fn cellsAV_fn rowV_fits rowV_cells rowV_len lenAV setSeg nth seg mapD repeatL putT_get upd_get argT keepT_cons keepT_nil keepH_cons keepH_nil cond_true cond_false VC_true finW resW resL resOne LoopQ_exit LoopQ_ret List.cons_append List.nil_append Bool.not_true Bool.not_false Bool.and_true Bool.and_self Nat.lt_add_left_iff_pos Nat.zero_add Nat.add_zero List.drop_succ_cons List.drop_zero List.take_succ_cons List.take_zero beq_self_eq_true Bool.false_eq_true RunC_dops RunL_loadS RunL_loadD LoadDA_dptr RunL_storeS StoreSA_ptr RunL_pcall RunL_pcallv PCallvA_fn newsOk and_self and_true true_and loadW_ptr LoadK_1 LoadK_n upd_upd RunL_buildSlice BSliceA_some RunL_buildSliceD frzL frz cutL LoadA_eptr LoadE_row RunL_append RunL_slice SliceA_sl StoreA_eptr List.length_cons List.length_nil Nat.min_def Int.cast_ofNat_Int Int.natCast_zero Int.natCast_one decide_true decide_false List.getElem?_cons_zero List.getElem?_cons_succ RunC_rangef CallvA_yld putL_nil putL_cons RangeQ_exit RangeQ_ret
structure GrpOK (g : Grp) : Prop where
  f : 0 ≤ g.f ∧ g.f ≤ 3000
  w : 0 ≤ g.w ∧ g.w ≤ 3000
  c : 1 ≤ g.c ∧ g.c ≤ 3001
  v : -2305843009213693952 ≤ g.v ∧ g.v ≤ 2305843009213693952
  r : ∀ j : Int, 0 ≤ j → j ≤ g.c - 1 → -4611686018427387904 ≤ j * g.r ∧ j * g.r ≤ 4611686018427387904
theorem grp_ok {val : Int → Int} {lo hi : Int} {a : Run} {l : List Run} (h : FwdOK val lo hi (a :: l)) (hb : ∀ r ∈ a :: l, RunOK r) (hl : l.length ≤ 3000) : GrpOK (grpOf a l).1 := by
  obtain ⟨h1, h2, h3⟩ := @grpOf_le a l
  have ha := hb a (List.mem_cons_self ..)
  refine ⟨?_, ?_, by omega, ?_, ?_⟩
  · have : (grpOf a l).1.f = a.f := by cases l <;> rfl
    rw [this]; exact ha.1
  · rcases grp_wide h with ⟨w0, w1, w2, w3⟩ | ⟨w0, w1, w2, w3⟩
    · omega
    · refine ⟨by omega, ?_⟩
      cases l with
      | nil => exact absurd rfl w0
      | cons b l =>
        have hbb := (hb b (by simp)).1
        show b.f - a.f ≤ 3000
        have := ha.1
        omega
  · have : (grpOf a l).1.v = a.v := by cases l <;> rfl
    rw [this]; exact ha.2
  · intro j hj0 hj
    obtain ⟨n, rfl⟩ := Int.eq_ofNat_of_zero_le hj0
    obtain ⟨g1, g2, g3⟩ := grp_nth (a := a) (l := l) n (by omega)
    have hbn := (hb _ (List.getElem_mem g1)).2
    have : (grpOf a l).1.v = a.v := by cases l <;> rfl
    rw [g3, this] at hbn
    have := ha.2
    omega
theorem groups_ok {val : Int → Int} {hi : Int} : ∀ (n : Nat) {R : List Run} {lo : Int}, R.length ≤ n → FwdOK val lo hi R → (∀ r ∈ R, RunOK r) → R.length ≤ 3000 → ∀ g ∈ groups R, GrpOK g
  | _, [], lo, _, h, hb, hl, g, hg => by cases hg
  | 0, a :: l, lo, hn, h, hb, hl, g, hg => absurd hn (by simp)
  | n + 1, a :: l, lo, hn, h, hb, hl, g, hg => by
    obtain ⟨h1, h2, hc⟩ := @grpOf_le a l
    simp -implicitDefEqProofs only [List.length_cons] at hn hl
    obtain ⟨m, k1, k2, k3⟩ := FwdOK.drop (grpOf a l).2 h (by simp -implicitDefEqProofs only [List.length_cons]; omega)
    have hl' : ((a :: l).drop (grpOf a l).2).length ≤ l.length := by rw [List.length_drop]; simp -implicitDefEqProofs only [List.length_cons]; omega
    rw [groups_cons] at hg
    rcases List.mem_cons.1 hg with rfl | hg
    · exact grp_ok h hb (by omega)
    · exact groups_ok n (by omega) k1 (fun r hr => hb r (List.mem_of_mem_drop hr)) (by omega) g hg
theorem atG_app {q : Int} : ∀ {L M : List Grp}, atG (L ++ M) q = match atG M q with
    | some v => some v
    | none => atG L q
  | [], M => by simp -implicitDefEqProofs only [List.nil_append, atG]; cases atG M q <;> rfl
  | g :: L, M => by
    rw [List.cons_append, atG, atG_app]
    cases atG M q <;> rfl
theorem atG_snoc {q : Int} {L : List Grp} {g : Grp} : atG (L ++ [g]) q = if g.f ≤ q then some (valG g q) else atG L q := by
  rw [atG_app]
  simp -implicitDefEqProofs only [atG]
  by_cases h : g.f ≤ q
  · rw [if_pos h, if_pos h]
  · rw [if_neg h, if_neg h]
theorem quo_bound {g : Grp} {q : Int} (h : GrpOK g) (hw : ¬ g.w < 1) (hq : g.f ≤ q) : 0 ≤ (q - g.f).tdiv g.w ∧ (q - g.f).tdiv g.w ≤ q - g.f := by
  have := h.w
  rw [Int.tdiv_eq_ediv_of_nonneg (by omega)]
  exact ⟨Int.ediv_nonneg (by omega) (by omega), Int.ediv_le_self _ (by omega)⟩
set_option maxRecDepth 20000 in
theorem CAt_ok {m q : Int} {G : List Grp} (hG : ∀ g ∈ G, GrpOK g) (hl : G.length ≤ 3001) (hq : Fit q) (hm : m ≤ 3000) : DataW Try.prog f_curve_At [curveV m G, i64 q] (optR (if q < 0 ∨ m < q then none else atG G q)) := by
  refine CallW_intro comp_curve_At (by simp) ?_
  simp -implicitDefEqProofs -proj only [go_sem, Nat.reduceBEq, Nat.reduceLT, Nat.reduceLeDiff, Nat.reduceAdd, Nat.reduceMul, ↓reduceIte, Int.reduceToNat, Int.reducePow, Int.reduceLT, Int.reduceLE, Int.reduceAdd, Int.reduceSub, Int.reduceMul, Int.reduceEq, Int.reduceNe]
  refine AllocA_intro (fun b2 hb2 => ?_)
  by_cases h1 : q < 0
  · rw [if_pos (.inl h1)]
    simp -implicitDefEqProofs -proj only [go_sem, Nat.reduceBEq, Nat.reduceLT, Nat.reduceLeDiff, Nat.reduceAdd, Nat.reduceMul, ↓reduceIte, Int.reduceToNat, Int.reducePow, Int.reduceLT, Int.reduceLE, Int.reduceAdd, Int.reduceSub, Int.reduceMul, Int.reduceEq, Int.reduceNe, decide_eq_true h1]
    exact LendV_eq rfl
  by_cases h2 : m < q
  · rw [if_pos (.inr h2)]
    simp -implicitDefEqProofs -proj only [go_sem, Nat.reduceBEq, Nat.reduceLT, Nat.reduceLeDiff, Nat.reduceAdd, Nat.reduceMul, ↓reduceIte, Int.reduceToNat, Int.reducePow, Int.reduceLT, Int.reduceLE, Int.reduceAdd, Int.reduceSub, Int.reduceMul, Int.reduceEq, Int.reduceNe, decide_eq_false h1, decide_eq_true h2]
    exact LendV_eq rfl
  rw [if_neg (by omega)]
  have hwl : IntKind.i64.wrap ((G.length : Int) - 1) = (G.length : Int) - 1 := by rw [IntKind.wrap_i64]; omega
  simp -implicitDefEqProofs -proj only [go_sem, Nat.reduceBEq, Nat.reduceLT, Nat.reduceLeDiff, Nat.reduceAdd, Nat.reduceMul, ↓reduceIte, Int.reduceToNat, Int.reducePow, Int.reduceLT, Int.reduceLE, Int.reduceAdd, Int.reduceSub, Int.reduceMul, Int.reduceEq, Int.reduceNe, decide_eq_false h1, decide_eq_false h2, rowG_len, hwl]
  refine LoopA_k (fun n : Nat => n ≤ G.length ∧ atG G q = atG (G.take n) q) 63 (fun n => [(1, i64 q), (2, .ptr b2 0), (6, i64 ((n : Int) - 1))]) (fun _ => [(b2, .box 26 [i64 m, slG G])]) (fun n => n) G.length ⟨Nat.le_refl _, by rw [List.take_length]⟩ rfl ?_ ?_ ?_
  · simp -implicitDefEqProofs -proj only [go_sem, Nat.reduceBEq, Nat.reduceLT, Nat.reduceLeDiff, Nat.reduceAdd, Nat.reduceMul, ↓reduceIte, Int.reduceToNat, Int.reducePow, Int.reduceLT, Int.reduceLE, Int.reduceAdd, Int.reduceSub, Int.reduceMul, Int.reduceEq, Int.reduceNe, AllAt]
  · simp -implicitDefEqProofs -proj only [go_sem, Nat.reduceBEq, Nat.reduceLT, Nat.reduceLeDiff, Nat.reduceAdd, Nat.reduceMul, ↓reduceIte, Int.reduceToNat, Int.reducePow, Int.reduceLT, Int.reduceLE, Int.reduceAdd, Int.reduceSub, Int.reduceMul, Int.reduceEq, Int.reduceNe, AllH]
  · rintro n ⟨hn, hat⟩
    have hk : AllH (keepH [(b2, .box 26 [i64 m, slG G])]) [(b2, .box 26 [i64 m, slG G])] := keepH_all (by simp [keys])
    have k2 := hk.1
    by_cases h0 : n = 0
    · subst h0
      rw [List.take_zero] at hat
      rw [hat]
      simp -implicitDefEqProofs -proj only [go_sem, Nat.reduceBEq, Nat.reduceLT, Nat.reduceLeDiff, Nat.reduceAdd, Nat.reduceMul, ↓reduceIte, Int.reduceToNat, Int.reducePow, Int.reduceLT, Int.reduceLE, Int.reduceAdd, Int.reduceSub, Int.reduceMul, Int.reduceEq, Int.reduceNe, k2, decide_eq_false (show ¬ (0 : Int) ≤ 0 - 1 by omega), decide_eq_true (show (0 : Int) - 1 < 0 by omega)]
      exact LendV_eq rfl
    · obtain ⟨j, rfl⟩ : ∃ j, n = j + 1 := ⟨n - 1, by omega⟩
      have hj : j < G.length := by omega
      have hel := rowG_at hj
      have hgok := hG _ (List.getElem_mem hj)
      have hts : G.take (j + 1) = G.take j ++ [G[j]] := List.take_succ_eq_append_getElem hj
      rw [hts, atG_snoc] at hat
      generalize G[j] = g at *
      have e1 : (((j + 1 : Nat) : Int)) - 1 = j := by omega
      have w1 : IntKind.i64.wrap ((j : Int) - 1) = (j : Int) - 1 := by rw [IntKind.wrap_i64]; omega
      simp -implicitDefEqProofs -proj only [go_sem, Nat.reduceBEq, Nat.reduceLT, Nat.reduceLeDiff, Nat.reduceAdd, Nat.reduceMul, ↓reduceIte, Int.reduceToNat, Int.reducePow, Int.reduceLT, Int.reduceLE, Int.reduceAdd, Int.reduceSub, Int.reduceMul, Int.reduceEq, Int.reduceNe, k2, e1, decide_eq_true (show (0 : Int) ≤ j by omega)]
      refine ElemA_at _ (by omega) hel ?_
      by_cases hf : q < g.f
      · rw [if_neg (by omega)] at hat
        simp -implicitDefEqProofs -proj only [go_sem, Nat.reduceBEq, Nat.reduceLT, Nat.reduceLeDiff, Nat.reduceAdd, Nat.reduceMul, ↓reduceIte, Int.reduceToNat, Int.reducePow, Int.reduceLT, Int.reduceLE, Int.reduceAdd, Int.reduceSub, Int.reduceMul, Int.reduceEq, Int.reduceNe, decide_eq_true hf, w1]
        refine LoopQ_k j ⟨by omega, hat⟩ (by omega) rfl ?_ hk
        simp -implicitDefEqProofs -proj only [go_sem, Nat.reduceBEq, Nat.reduceLT, Nat.reduceLeDiff, Nat.reduceAdd, Nat.reduceMul, ↓reduceIte, Int.reduceToNat, Int.reducePow, Int.reduceLT, Int.reduceLE, Int.reduceAdd, Int.reduceSub, Int.reduceMul, Int.reduceEq, Int.reduceNe, AllAt]
      · rw [if_pos (by omega)] at hat
        rw [hat]
        simp -implicitDefEqProofs -proj only [go_sem, Nat.reduceBEq, Nat.reduceLT, Nat.reduceLeDiff, Nat.reduceAdd, Nat.reduceMul, ↓reduceIte, Int.reduceToNat, Int.reducePow, Int.reduceLT, Int.reduceLE, Int.reduceAdd, Int.reduceSub, Int.reduceMul, Int.reduceEq, Int.reduceNe, k2, decide_eq_false hf, decide_eq_false (show ¬ (j : Int) < 0 by omega)]
        refine ElemA_at _ (by omega) hel ?_
        simp -implicitDefEqProofs -proj only [go_sem, Nat.reduceBEq, Nat.reduceLT, Nat.reduceLeDiff, Nat.reduceAdd, Nat.reduceMul, ↓reduceIte, Int.reduceToNat, Int.reducePow, Int.reduceLT, Int.reduceLE, Int.reduceAdd, Int.reduceSub, Int.reduceMul, Int.reduceEq, Int.reduceNe]
        refine AllocA_intro (fun b7 hb7 => ?_)
        unfold valG
        by_cases hw : g.w < 1
        · rw [if_pos hw]
          simp -implicitDefEqProofs -proj only [go_sem, Nat.reduceBEq, Nat.reduceLT, Nat.reduceLeDiff, Nat.reduceAdd, Nat.reduceMul, ↓reduceIte, Int.reduceToNat, Int.reducePow, Int.reduceLT, Int.reduceLE, Int.reduceAdd, Int.reduceSub, Int.reduceMul, Int.reduceEq, Int.reduceNe, decide_eq_true hw]
          exact LendV_eq rfl
        · rw [if_neg hw]
          obtain ⟨q1, q2⟩ := quo_bound (q := q) hgok hw (by omega)
          have gf := hgok.f
          have gw := hgok.w
          have gc := hgok.c
          have gv := hgok.v
          have gr := hgok.r (min ((q - g.f).tdiv g.w) (g.c - 1)) (by omega) (by omega)
          unfold Fit at hq
          have w2 : IntKind.i64.wrap (q - g.f) = q - g.f := by rw [IntKind.wrap_i64]; omega
          have w3 : IntKind.i64.wrap (g.c - 1) = g.c - 1 := by rw [IntKind.wrap_i64]; omega
          have w4 : IntKind.i64.wrap ((q - g.f).tdiv g.w) = (q - g.f).tdiv g.w := by rw [IntKind.wrap_i64]; omega
          have w5 : IntKind.i64.wrap (min ((q - g.f).tdiv g.w) (g.c - 1) * g.r) = min ((q - g.f).tdiv g.w) (g.c - 1) * g.r := by rw [IntKind.wrap_i64]; omega
          have w6 : IntKind.i64.wrap (g.v + min ((q - g.f).tdiv g.w) (g.c - 1) * g.r) = g.v + min ((q - g.f).tdiv g.w) (g.c - 1) * g.r := by rw [IntKind.wrap_i64]; omega
          simp -implicitDefEqProofs -proj only [go_sem, Nat.reduceBEq, Nat.reduceLT, Nat.reduceLeDiff, Nat.reduceAdd, Nat.reduceMul, ↓reduceIte, Int.reduceToNat, Int.reducePow, Int.reduceLT, Int.reduceLE, Int.reduceAdd, Int.reduceSub, Int.reduceMul, Int.reduceEq, Int.reduceNe, decide_eq_false hw, w2, w3, w4, w5, w6]
          refine VC_intro (by omega) (fun _ => ?_)
          exact LendV_eq rfl
theorem grp_dec (p q : Grp) : (decide (p.f = q.f) && (decide (p.v = q.v) && (decide (p.w = q.w) && (decide (p.r = q.r) && decide (p.c = q.c))))) = decide (p = q) := by
  obtain ⟨a, b, c, d, e⟩ := p
  obtain ⟨a', b', c', d', e'⟩ := q
  simp -implicitDefEqProofs only [Grp.mk.injEq]
  rw [← Bool.decide_and, ← Bool.decide_and, ← Bool.decide_and, ← Bool.decide_and]
theorem GEq_ok {a b : List Grp} (ha : a.length ≤ 1000000) (hb : b.length ≤ 1000000) : DataW Try.prog f_slices_Equal_api_Group [slG a, slG b] (bv (decide (a = b))) := by
  refine CallW_intro comp_slices_Equal_api_Group (by simp) ?_
  by_cases hl : a.length = b.length
  · simp -implicitDefEqProofs -proj only [go_sem, Nat.reduceBEq, Nat.reduceLT, Nat.reduceLeDiff, Nat.reduceAdd, Nat.reduceMul, ↓reduceIte, Int.reduceToNat, Int.reducePow, Int.reduceLT, Int.reduceLE, Int.reduceAdd, Int.reduceSub, Int.reduceMul, Int.reduceEq, Int.reduceNe, rowG_len, decide_eq_true (show (a.length : Int) = b.length by omega)]
    refine LoopA_k (fun i : Nat => i ≤ a.length ∧ ∀ (j : Nat) (h : j < a.length) (h' : j < b.length), j < i → a[j] = b[j]) 26 (fun i => [(0, slG a), (1, slG b), (12, i64 a.length), (13, i64 i)]) (fun _ => []) (fun i => a.length - i) 0 ⟨Nat.zero_le _, fun j _ _ h => absurd h (Nat.not_lt_zero _)⟩ rfl ?_ ?_ ?_
    · simp -implicitDefEqProofs -proj only [go_sem, Nat.reduceBEq, Nat.reduceLT, Nat.reduceLeDiff, Nat.reduceAdd, Nat.reduceMul, ↓reduceIte, Int.reduceToNat, Int.reducePow, Int.reduceLT, Int.reduceLE, Int.reduceAdd, Int.reduceSub, Int.reduceMul, Int.reduceEq, Int.reduceNe, AllAt, rowG_len]
    · trivial
    · rintro i ⟨hi, hs⟩
      by_cases h : i < a.length
      · have h' : i < b.length := by omega
        have e1 := rowG_at h
        have e2 := rowG_at h'
        have hd := grp_dec a[i] b[i]
        have hgo : a[i] = b[i] → ∀ (j : Nat) (h : j < a.length) (h' : j < b.length), j < i + 1 → a[j] = b[j] := by
          intro e j h1 h2 h3
          by_cases hj : j = i
          · subst hj; exact e
          · exact hs j h1 h2 (by omega)
        have hno : a[i] ≠ b[i] → a ≠ b := fun hne e => hne (by subst e; rfl)
        generalize a[i] = p at *
        generalize b[i] = q at *
        simp -implicitDefEqProofs -proj only [go_sem, Nat.reduceBEq, Nat.reduceLT, Nat.reduceLeDiff, Nat.reduceAdd, Nat.reduceMul, ↓reduceIte, Int.reduceToNat, Int.reducePow, Int.reduceLT, Int.reduceLE, Int.reduceAdd, Int.reduceSub, Int.reduceMul, Int.reduceEq, Int.reduceNe, decide_eq_true (show (i : Int) < a.length by omega)]
        refine ElemA_at _ (by omega) e1 ?_
        simp -implicitDefEqProofs -proj only [go_sem, Nat.reduceBEq, Nat.reduceLT, Nat.reduceLeDiff, Nat.reduceAdd, Nat.reduceMul, ↓reduceIte, Int.reduceToNat, Int.reducePow, Int.reduceLT, Int.reduceLE, Int.reduceAdd, Int.reduceSub, Int.reduceMul, Int.reduceEq, Int.reduceNe]
        refine ElemA_at _ (by omega) e2 ?_
        by_cases hpq : p = q
        · rw [decide_eq_true hpq] at hd
          simp -implicitDefEqProofs -proj only [go_sem, Nat.reduceBEq, Nat.reduceLT, Nat.reduceLeDiff, Nat.reduceAdd, Nat.reduceMul, ↓reduceIte, Int.reduceToNat, Int.reducePow, Int.reduceLT, Int.reduceLE, Int.reduceAdd, Int.reduceSub, Int.reduceMul, Int.reduceEq, Int.reduceNe, hd]
          (repeat' first
    | (with_reducible refine Guard_split (fun h => ?_) (fun h => ?_) <;> (simp -implicitDefEqProofs -proj only [go_sem, Nat.reduceBEq, Nat.reduceLT, Nat.reduceLeDiff, Nat.reduceAdd, Nat.reduceMul, ↓reduceIte, Int.reduceToNat, Int.reducePow, Int.reduceLT, Int.reduceLE, Int.reduceAdd, Int.reduceSub, Int.reduceMul, Int.reduceEq, Int.reduceNe, h, hd]; try (revert h; intro _)))
    | (with_reducible refine Cond_split (fun h => ?_) (fun h => ?_) <;> (simp -implicitDefEqProofs -proj only [go_sem, Nat.reduceBEq, Nat.reduceLT, Nat.reduceLeDiff, Nat.reduceAdd, Nat.reduceMul, ↓reduceIte, Int.reduceToNat, Int.reducePow, Int.reduceLT, Int.reduceLE, Int.reduceAdd, Int.reduceSub, Int.reduceMul, Int.reduceEq, Int.reduceNe, h, hd]; try (revert h; intro _)))
    | (with_reducible refine Pick_split (fun h => ?_) (fun h => ?_) <;> (simp -implicitDefEqProofs -proj only [go_sem, Nat.reduceBEq, Nat.reduceLT, Nat.reduceLeDiff, Nat.reduceAdd, Nat.reduceMul, ↓reduceIte, Int.reduceToNat, Int.reducePow, Int.reduceLT, Int.reduceLE, Int.reduceAdd, Int.reduceSub, Int.reduceMul, Int.reduceEq, Int.reduceNe, h, hd]; try (revert h; intro _)))
    | (with_reducible refine AllocA_intro (fun _ hb => ?_); simp -implicitDefEqProofs only [upd_none, keepH_none, keepH_nil, Heap.none_get, and_true, true_and] at hb; simp -implicitDefEqProofs -proj only [go_sem, Nat.reduceBEq, Nat.reduceLT, Nat.reduceLeDiff, Nat.reduceAdd, Nat.reduceMul, ↓reduceIte, Int.reduceToNat, Int.reducePow, Int.reduceLT, Int.reduceLE, Int.reduceAdd, Int.reduceSub, Int.reduceMul, Int.reduceEq, Int.reduceNe, hd]; try (revert hb; intro _))
    | (with_reducible refine AllocR_intro (fun _ hb => ?_); simp -implicitDefEqProofs only [upd_none, keepH_none, keepH_nil, Heap.none_get, and_true, true_and] at hb; simp -implicitDefEqProofs -proj only [go_sem, Nat.reduceBEq, Nat.reduceLT, Nat.reduceLeDiff, Nat.reduceAdd, Nat.reduceMul, ↓reduceIte, Int.reduceToNat, Int.reducePow, Int.reduceLT, Int.reduceLE, Int.reduceAdd, Int.reduceSub, Int.reduceMul, Int.reduceEq, Int.reduceNe, hd]; try (revert hb; intro _))
    | (with_reducible refine IdxE_1 _ rfl (by simp) ?_; simp -implicitDefEqProofs -proj only [go_sem, Nat.reduceBEq, Nat.reduceLT, Nat.reduceLeDiff, Nat.reduceAdd, Nat.reduceMul, ↓reduceIte, Int.reduceToNat, Int.reducePow, Int.reduceLT, Int.reduceLE, Int.reduceAdd, Int.reduceSub, Int.reduceMul, Int.reduceEq, Int.reduceNe, hd])
    | (with_reducible refine IdxE_n _ rfl (by simp) ?_; simp -implicitDefEqProofs -proj only [go_sem, Nat.reduceBEq, Nat.reduceLT, Nat.reduceLeDiff, Nat.reduceAdd, Nat.reduceMul, ↓reduceIte, Int.reduceToNat, Int.reducePow, Int.reduceLT, Int.reduceLE, Int.reduceAdd, Int.reduceSub, Int.reduceMul, Int.reduceEq, Int.reduceNe, hd])
    | (with_reducible refine VC_intro ?_ (fun h => ?_); (focus first | decide | omega); try clear h; try simp -implicitDefEqProofs -proj only [go_sem, Nat.reduceBEq, Nat.reduceLT, Nat.reduceLeDiff, Nat.reduceAdd, Nat.reduceMul, ↓reduceIte, Int.reduceToNat, Int.reducePow, Int.reduceLT, Int.reduceLE, Int.reduceAdd, Int.reduceSub, Int.reduceMul, Int.reduceEq, Int.reduceNe, hd])
    | (with_reducible refine VC_intro ?_ (fun h => ?_); rotate_left; try clear h; try simp -implicitDefEqProofs -proj only [go_sem, Nat.reduceBEq, Nat.reduceLT, Nat.reduceLeDiff, Nat.reduceAdd, Nat.reduceMul, ↓reduceIte, Int.reduceToNat, Int.reducePow, Int.reduceLT, Int.reduceLE, Int.reduceAdd, Int.reduceSub, Int.reduceMul, Int.reduceEq, Int.reduceNe, hd]; rotate_right))
          refine LoopQ_k (i + 1) ⟨by omega, hgo hpq⟩ (by omega) rfl ?_ trivial
          simp -implicitDefEqProofs -proj only [go_sem, Nat.reduceBEq, Nat.reduceLT, Nat.reduceLeDiff, Nat.reduceAdd, Nat.reduceMul, ↓reduceIte, Int.reduceToNat, Int.reducePow, Int.reduceLT, Int.reduceLE, Int.reduceAdd, Int.reduceSub, Int.reduceMul, Int.reduceEq, Int.reduceNe, AllAt, i64_succ (show i < 9223372036854775807 by omega)]
        · rw [decide_eq_false hpq] at hd
          simp -implicitDefEqProofs -proj only [go_sem, Nat.reduceBEq, Nat.reduceLT, Nat.reduceLeDiff, Nat.reduceAdd, Nat.reduceMul, ↓reduceIte, Int.reduceToNat, Int.reducePow, Int.reduceLT, Int.reduceLE, Int.reduceAdd, Int.reduceSub, Int.reduceMul, Int.reduceEq, Int.reduceNe, hd]
          (repeat' first
    | (with_reducible refine Guard_split (fun h => ?_) (fun h => ?_) <;> (simp -implicitDefEqProofs -proj only [go_sem, Nat.reduceBEq, Nat.reduceLT, Nat.reduceLeDiff, Nat.reduceAdd, Nat.reduceMul, ↓reduceIte, Int.reduceToNat, Int.reducePow, Int.reduceLT, Int.reduceLE, Int.reduceAdd, Int.reduceSub, Int.reduceMul, Int.reduceEq, Int.reduceNe, h, hd]; try (revert h; intro _)))
    | (with_reducible refine Cond_split (fun h => ?_) (fun h => ?_) <;> (simp -implicitDefEqProofs -proj only [go_sem, Nat.reduceBEq, Nat.reduceLT, Nat.reduceLeDiff, Nat.reduceAdd, Nat.reduceMul, ↓reduceIte, Int.reduceToNat, Int.reducePow, Int.reduceLT, Int.reduceLE, Int.reduceAdd, Int.reduceSub, Int.reduceMul, Int.reduceEq, Int.reduceNe, h, hd]; try (revert h; intro _)))
    | (with_reducible refine Pick_split (fun h => ?_) (fun h => ?_) <;> (simp -implicitDefEqProofs -proj only [go_sem, Nat.reduceBEq, Nat.reduceLT, Nat.reduceLeDiff, Nat.reduceAdd, Nat.reduceMul, ↓reduceIte, Int.reduceToNat, Int.reducePow, Int.reduceLT, Int.reduceLE, Int.reduceAdd, Int.reduceSub, Int.reduceMul, Int.reduceEq, Int.reduceNe, h, hd]; try (revert h; intro _)))
    | (with_reducible refine AllocA_intro (fun _ hb => ?_); simp -implicitDefEqProofs only [upd_none, keepH_none, keepH_nil, Heap.none_get, and_true, true_and] at hb; simp -implicitDefEqProofs -proj only [go_sem, Nat.reduceBEq, Nat.reduceLT, Nat.reduceLeDiff, Nat.reduceAdd, Nat.reduceMul, ↓reduceIte, Int.reduceToNat, Int.reducePow, Int.reduceLT, Int.reduceLE, Int.reduceAdd, Int.reduceSub, Int.reduceMul, Int.reduceEq, Int.reduceNe, hd]; try (revert hb; intro _))
    | (with_reducible refine AllocR_intro (fun _ hb => ?_); simp -implicitDefEqProofs only [upd_none, keepH_none, keepH_nil, Heap.none_get, and_true, true_and] at hb; simp -implicitDefEqProofs -proj only [go_sem, Nat.reduceBEq, Nat.reduceLT, Nat.reduceLeDiff, Nat.reduceAdd, Nat.reduceMul, ↓reduceIte, Int.reduceToNat, Int.reducePow, Int.reduceLT, Int.reduceLE, Int.reduceAdd, Int.reduceSub, Int.reduceMul, Int.reduceEq, Int.reduceNe, hd]; try (revert hb; intro _))
    | (with_reducible refine IdxE_1 _ rfl (by simp) ?_; simp -implicitDefEqProofs -proj only [go_sem, Nat.reduceBEq, Nat.reduceLT, Nat.reduceLeDiff, Nat.reduceAdd, Nat.reduceMul, ↓reduceIte, Int.reduceToNat, Int.reducePow, Int.reduceLT, Int.reduceLE, Int.reduceAdd, Int.reduceSub, Int.reduceMul, Int.reduceEq, Int.reduceNe, hd])
    | (with_reducible refine IdxE_n _ rfl (by simp) ?_; simp -implicitDefEqProofs -proj only [go_sem, Nat.reduceBEq, Nat.reduceLT, Nat.reduceLeDiff, Nat.reduceAdd, Nat.reduceMul, ↓reduceIte, Int.reduceToNat, Int.reducePow, Int.reduceLT, Int.reduceLE, Int.reduceAdd, Int.reduceSub, Int.reduceMul, Int.reduceEq, Int.reduceNe, hd])
    | (with_reducible refine VC_intro ?_ (fun h => ?_); (focus first | decide | omega); try clear h; try simp -implicitDefEqProofs -proj only [go_sem, Nat.reduceBEq, Nat.reduceLT, Nat.reduceLeDiff, Nat.reduceAdd, Nat.reduceMul, ↓reduceIte, Int.reduceToNat, Int.reducePow, Int.reduceLT, Int.reduceLE, Int.reduceAdd, Int.reduceSub, Int.reduceMul, Int.reduceEq, Int.reduceNe, hd])
    | (with_reducible refine VC_intro ?_ (fun h => ?_); rotate_left; try clear h; try simp -implicitDefEqProofs -proj only [go_sem, Nat.reduceBEq, Nat.reduceLT, Nat.reduceLeDiff, Nat.reduceAdd, Nat.reduceMul, ↓reduceIte, Int.reduceToNat, Int.reducePow, Int.reduceLT, Int.reduceLE, Int.reduceAdd, Int.reduceSub, Int.reduceMul, Int.reduceEq, Int.reduceNe, hd]; rotate_right))
          exact LendV_eq (by rw [decide_eq_false (hno hpq)])
      · have hi' : i = a.length := by omega
        subst hi'
        have heq : a = b := List.ext_getElem hl fun j h1 h2 => hs j h1 h2 h1
        simp -implicitDefEqProofs -proj only [go_sem, Nat.reduceBEq, Nat.reduceLT, Nat.reduceLeDiff, Nat.reduceAdd, Nat.reduceMul, ↓reduceIte, Int.reduceToNat, Int.reducePow, Int.reduceLT, Int.reduceLE, Int.reduceAdd, Int.reduceSub, Int.reduceMul, Int.reduceEq, Int.reduceNe, decide_eq_false (show ¬ (a.length : Int) < a.length by omega)]
        exact LendV_eq (by rw [decide_eq_true heq])
  · simp -implicitDefEqProofs -proj only [go_sem, Nat.reduceBEq, Nat.reduceLT, Nat.reduceLeDiff, Nat.reduceAdd, Nat.reduceMul, ↓reduceIte, Int.reduceToNat, Int.reducePow, Int.reduceLT, Int.reduceLE, Int.reduceAdd, Int.reduceSub, Int.reduceMul, Int.reduceEq, Int.reduceNe, rowG_len, decide_eq_false (show ¬ (a.length : Int) = b.length by omega)]
    exact LendV_eq (by rw [decide_eq_false (fun e => hl (by rw [e]))])
theorem CSame_ok {m n : Int} {a b : List Grp} (ha : a.length ≤ 1000000) (hb : b.length ≤ 1000000) : DataW Try.prog f_curve_Same [curveV m a, curveV n b] (bv (decide (m = n ∧ a = b))) := by
  refine CallW_intro comp_curve_Same (by simp) ?_
  simp -implicitDefEqProofs -proj only [go_sem, Nat.reduceBEq, Nat.reduceLT, Nat.reduceLeDiff, Nat.reduceAdd, Nat.reduceMul, ↓reduceIte, Int.reduceToNat, Int.reducePow, Int.reduceLT, Int.reduceLE, Int.reduceAdd, Int.reduceSub, Int.reduceMul, Int.reduceEq, Int.reduceNe]
  refine AllocA_intro (fun b2 hb2 => ?_)
  simp -implicitDefEqProofs -proj only [go_sem, Nat.reduceBEq, Nat.reduceLT, Nat.reduceLeDiff, Nat.reduceAdd, Nat.reduceMul, ↓reduceIte, Int.reduceToNat, Int.reducePow, Int.reduceLT, Int.reduceLE, Int.reduceAdd, Int.reduceSub, Int.reduceMul, Int.reduceEq, Int.reduceNe]
  refine AllocA_intro (fun b3 hb3 => ?_)
  replace hb3 : upd Heap.none b2 _ b3 = none := hb3
  obtain ⟨n1, n2⟩ := fresh_ne hb3 upd_eq
  by_cases h : m = n
  · simp -implicitDefEqProofs -proj only [go_sem, Nat.reduceBEq, Nat.reduceLT, Nat.reduceLeDiff, Nat.reduceAdd, Nat.reduceMul, ↓reduceIte, Int.reduceToNat, Int.reducePow, Int.reduceLT, Int.reduceLE, Int.reduceAdd, Int.reduceSub, Int.reduceMul, Int.reduceEq, Int.reduceNe, n1, n2, decide_eq_true h]
    refine CallA_pure (GEq_ok ha hb) ?_
    simp -implicitDefEqProofs -proj only [go_sem, Nat.reduceBEq, Nat.reduceLT, Nat.reduceLeDiff, Nat.reduceAdd, Nat.reduceMul, ↓reduceIte, Int.reduceToNat, Int.reducePow, Int.reduceLT, Int.reduceLE, Int.reduceAdd, Int.reduceSub, Int.reduceMul, Int.reduceEq, Int.reduceNe]
    exact LendV_eq (congrArg bv (decide_eq_decide.2 ⟨fun e => ⟨h, e⟩, fun e => e.2⟩))
  · simp -implicitDefEqProofs -proj only [go_sem, Nat.reduceBEq, Nat.reduceLT, Nat.reduceLeDiff, Nat.reduceAdd, Nat.reduceMul, ↓reduceIte, Int.reduceToNat, Int.reducePow, Int.reduceLT, Int.reduceLE, Int.reduceAdd, Int.reduceSub, Int.reduceMul, Int.reduceEq, Int.reduceNe, n1, n2, decide_eq_false h]
    exact LendV_eq (by rw [decide_eq_false (fun e => h e.1)])
end Go.Proofs.Ythamjpioodlckaa.Abs
