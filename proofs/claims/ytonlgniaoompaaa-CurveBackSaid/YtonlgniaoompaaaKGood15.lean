/- The document's number at a quantity, its list, and when a curve can be; the law CurveBack. No claim stands here. -/
import Derived.Test.YtonlgniaoompaaaKLaw15d
set_option linter.unusedSimpArgs false
set_option linter.unusedVariables false
namespace Go.Proofs.Ytonlgniaoompaaa.Abs
open Go Go.RowKit Go.Proofs
attribute [local go_sem] RunC_seq AF_n AF_r AF_b St_n St_t St_H Fst_mk Snd_mk RunC_ops RunC_cond RunC_block RunC_loop RunC_exit RunC_ret RunC_skip RunO_nil RunO_code RunO_code_ret RunO_code_exit RunO_blk RunO_blk_ret RunO_blk_exit RunL_nil RunL_guard GuardA_tt GuardA_ff GuardA_tf GuardA_ft GuardA_void CondA_t CondA_f PickA_t PickA_f RunL_mov RunL_pick RunL_alloc RunL_box RunL_load LoadA_ptr LoadB_1 LoadB_n LoadA_dptr LoadA_dptr_n RunL_store StoreA_ptr StoreB_box RunL_bin Bin_add Bin_sub Bin_mul Bin_quo Bin_rem Bin_shl Bin_shr Bin_andI Bin_orI Bin_xorI Bin_eql Bin_neq Bin_lss Bin_leq Bin_gtr Bin_geq RunL_binb Bin_beql Bin_bneq RunL_un UnA_not UnA_neg RunL_conv convV MapA_some RunL_nilCheck nilV RunL_mkfn RunL_fieldAddr faV RunL_field FieldA_1 FieldA_n RunL_elemAddr EAddrA_sl EAddrA_own EptrA_eq RunL_build BuildA_some RunL_extract ExtA_eq RunL_len lenV_sl lenV_nilsl lenV_own RunL_slen RunL_idxStr IdxSA_eq slenV RunL_minmax mmV minmaxL RunL_call RunL_callv CallvA_fn putS ev evL evO evP eqK eqKs EqB_agg RunL_eqAgg EqA_t EqA_f evQ buildC fits_agg cellsAV_agg fits_d cellsAV_d fits_nilp cellsAV_nilp fits_nilsl cellsAV_nilsl fits_nilfn cellsAV_nilfn fits_ptr cellsAV_ptr fits_eptr cellsAV_eptr fits_dptr cellsAV_dptr fits_own cellsAV_own fits_fn cellsAV_fn rowV_fits rowV_cells rowV_len lenAV setSeg nth seg mapD repeatL putT_get upd_get argT keepT_cons keepT_nil keepH_cons keepH_nil cond_true cond_false VC_true finW resW resL resOne LoopQ_exit LoopQ_ret List.cons_append List.nil_append Bool.not_true Bool.not_false Bool.and_true Bool.and_self Nat.lt_add_left_iff_pos Nat.zero_add Nat.add_zero List.drop_succ_cons List.drop_zero List.take_succ_cons List.take_zero beq_self_eq_true Bool.false_eq_true RunC_dops RunL_loadS RunL_loadD LoadDA_dptr RunL_storeS StoreSA_ptr RunL_pcall RunL_pcallv PCallvA_fn newsOk and_self and_true true_and loadW_ptr LoadK_1 LoadK_n upd_upd RunL_buildSlice BSliceA_some RunL_buildSliceD frzL frz cutL LoadA_eptr LoadE_row RunL_append RunL_slice SliceA_sl StoreA_eptr List.length_cons List.length_nil Nat.min_def Int.cast_ofNat_Int Int.natCast_zero Int.natCast_one decide_true decide_false List.getElem?_cons_zero List.getElem?_cons_succ RunC_rangef CallvA_yld putL_nil putL_cons RangeQ_exit RangeQ_ret
theorem rowI_scal' {l : List Int} : ∀ el ∈ rowI l, ∀ d ∈ el, scalD d = true := by
  intro el he d hd
  obtain ⟨r, _, rfl⟩ := List.mem_map.1 he
  simp -implicitDefEqProofs only [List.mem_singleton] at hd
  subst hd; rfl
/-- The number so far, and whether there is one. -/
def soFar (G : List Grp) (q : Int) : Int × Bool := match atG G q with
  | some v => (v, true)
  | none => (0, false)
set_option maxRecDepth 20000 in
theorem RAt_ok {m q : Int} {G : List Grp} (hG : ∀ g ∈ G, GrpOK g) (hl : G.length ≤ 3001) (hq : Fit q) (hm : m ≤ 3000) : DataW Try.prog f_poundageref15_At [curveV m G, i64 q] (optR (if q < 0 ∨ m < q then none else atG G q)) := by
  refine CallW_intro comp_poundageref15_At (by simp) ?_
  simp -implicitDefEqProofs -proj only [go_sem, Nat.reduceBEq, Nat.reduceLT, Nat.reduceLeDiff, Nat.reduceAdd, Nat.reduceMul, ↓reduceIte, Int.reduceToNat, Int.reducePow, Int.reduceLT, Int.reduceLE, Int.reduceAdd, Int.reduceSub, Int.reduceMul, Int.reduceEq, Int.reduceNe]
  refine AllocA_intro (fun b2 hb2 => ?_)
  by_cases h1 : q < 0
  · rw [if_pos (.inl h1)]
    simp -implicitDefEqProofs -proj only [go_sem, Nat.reduceBEq, Nat.reduceLT, Nat.reduceLeDiff, Nat.reduceAdd, Nat.reduceMul, ↓reduceIte, Int.reduceToNat, Int.reducePow, Int.reduceLT, Int.reduceLE, Int.reduceAdd, Int.reduceSub, Int.reduceMul, Int.reduceEq, Int.reduceNe, decide_eq_true h1]
    exact LendV_eq rfl
  by_cases h2 : m < q
  · rw [if_pos (.inr h2)]
    simp -implicitDefEqProofs -proj only [go_sem, Nat.reduceBEq, Nat.reduceLT, Nat.reduceLeDiff, Nat.reduceAdd, Nat.reduceMul, ↓reduceIte, Int.reduceToNat, Int.reducePow, Int.reduceLT, Int.reduceLE, Int.reduceAdd, Int.reduceSub, Int.reduceMul, Int.reduceEq, Int.reduceNe, decide_eq_false h1, decide_eq_true h2]
    exact LendV_eq rfl
  rw [if_neg (by omega)]
  simp -implicitDefEqProofs -proj only [go_sem, Nat.reduceBEq, Nat.reduceLT, Nat.reduceLeDiff, Nat.reduceAdd, Nat.reduceMul, ↓reduceIte, Int.reduceToNat, Int.reducePow, Int.reduceLT, Int.reduceLE, Int.reduceAdd, Int.reduceSub, Int.reduceMul, Int.reduceEq, Int.reduceNe, decide_eq_false h1, decide_eq_false h2, rowG_len]
  refine LoopA_k (fun i : Nat => i ≤ G.length) 61 (fun i => [(1, i64 q), (20, slG G), (21, i64 G.length), (22, i64 i), (6, i64 (soFar (G.take i) q).1), (7, bv (soFar (G.take i) q).2)]) (fun _ => []) (fun i => G.length - i) 0 (Nat.zero_le _) rfl ?_ ?_ ?_
  · simp -implicitDefEqProofs -proj only [go_sem, Nat.reduceBEq, Nat.reduceLT, Nat.reduceLeDiff, Nat.reduceAdd, Nat.reduceMul, ↓reduceIte, Int.reduceToNat, Int.reducePow, Int.reduceLT, Int.reduceLE, Int.reduceAdd, Int.reduceSub, Int.reduceMul, Int.reduceEq, Int.reduceNe, AllAt]
    exact ⟨rfl, rfl⟩
  · trivial
  · intro i hi
    by_cases h : i < G.length
    · have hel := rowG_at h
      have hok := hG _ (List.getElem_mem h)
      have hts : G.take (i + 1) = G.take i ++ [G[i]] := List.take_succ_eq_append_getElem h
      have hsf : soFar (G.take (i + 1)) q = if G[i].f ≤ q then (valG G[i] q, true) else soFar (G.take i) q := by
        unfold soFar
        rw [hts, atG_snoc]
        by_cases hf : G[i].f ≤ q
        · rw [if_pos hf, if_pos hf]
        · rw [if_neg hf, if_neg hf]
      generalize hsn : soFar (G.take (i + 1)) q = sn at *
      generalize hsi : soFar (G.take i) q = si at *
      obtain ⟨sv, sb⟩ := si
      generalize G[i] = g at *
      simp -implicitDefEqProofs only []
      simp -implicitDefEqProofs -proj only [go_sem, Nat.reduceBEq, Nat.reduceLT, Nat.reduceLeDiff, Nat.reduceAdd, Nat.reduceMul, ↓reduceIte, Int.reduceToNat, Int.reducePow, Int.reduceLT, Int.reduceLE, Int.reduceAdd, Int.reduceSub, Int.reduceMul, Int.reduceEq, Int.reduceNe, hsi, decide_eq_true (show (i : Int) < G.length by omega)]
      refine ElemA_at _ (by omega) hel ?_
      simp -implicitDefEqProofs -proj only [go_sem, Nat.reduceBEq, Nat.reduceLT, Nat.reduceLeDiff, Nat.reduceAdd, Nat.reduceMul, ↓reduceIte, Int.reduceToNat, Int.reducePow, Int.reduceLT, Int.reduceLE, Int.reduceAdd, Int.reduceSub, Int.reduceMul, Int.reduceEq, Int.reduceNe]
      refine AllocA_intro (fun b9 hb9 => ?_)
      by_cases hf : q < g.f
      · rw [if_neg (by omega)] at hsf
        subst hsf
        simp -implicitDefEqProofs -proj only [go_sem, Nat.reduceBEq, Nat.reduceLT, Nat.reduceLeDiff, Nat.reduceAdd, Nat.reduceMul, ↓reduceIte, Int.reduceToNat, Int.reducePow, Int.reduceLT, Int.reduceLE, Int.reduceAdd, Int.reduceSub, Int.reduceMul, Int.reduceEq, Int.reduceNe, decide_eq_true hf, if_pos (rfl : (1 : Nat) = 1)]
        refine LoopQ_k (i + 1) (by omega) (by omega) rfl ?_ trivial
        simp -implicitDefEqProofs -proj only [go_sem, Nat.reduceBEq, Nat.reduceLT, Nat.reduceLeDiff, Nat.reduceAdd, Nat.reduceMul, ↓reduceIte, Int.reduceToNat, Int.reducePow, Int.reduceLT, Int.reduceLE, Int.reduceAdd, Int.reduceSub, Int.reduceMul, Int.reduceEq, Int.reduceNe, AllAt, hsn, i64_succ (show i < 9223372036854775807 by omega)]
      · rw [if_pos (by omega)] at hsf
        subst hsf
        have gf := hok.f
        have gw := hok.w
        have gc := hok.c
        have gv := hok.v
        have hQ : 1 ≤ g.w → 0 ≤ (q - g.f).tdiv g.w ∧ (q - g.f).tdiv g.w ≤ q - g.f := fun h => quo_bound (q := q) hok (by omega) (by omega)
        unfold Fit at hq
        have w1 : IntKind.i64.wrap (q - g.f) = q - g.f := by rw [IntKind.wrap_i64]; omega
        have w2 : 1 ≤ g.w → IntKind.i64.wrap ((q - g.f).tdiv g.w) = (q - g.f).tdiv g.w := fun h => by have := hQ h; rw [IntKind.wrap_i64]; omega
        simp -implicitDefEqProofs -proj only [go_sem, Nat.reduceBEq, Nat.reduceLT, Nat.reduceLeDiff, Nat.reduceAdd, Nat.reduceMul, ↓reduceIte, Int.reduceToNat, Int.reducePow, Int.reduceLT, Int.reduceLE, Int.reduceAdd, Int.reduceSub, Int.reduceMul, Int.reduceEq, Int.reduceNe, decide_eq_false hf]
        refine LoopA_k (fun k : Nat => 1 ≤ k ∧ (k : Int) ≤ g.c ∧ (k = 1 ∨ (1 ≤ g.w ∧ (k : Int) - 1 ≤ (q - g.f).tdiv g.w))) 61 (fun k => [(1, i64 q), (20, slG G), (21, i64 G.length), (22, i64 i), (9, .ptr b9 0), (10, i64 k), (6, i64 (g.v + ((k : Int) - 1) * g.r)), (7, bv true)]) (fun _ => [(b9, .box 40 [i64 g.f, i64 g.v, i64 g.w, i64 g.r, i64 g.c])]) (fun k => (g.c - k).toNat) 1 ⟨Nat.le_refl _, by omega, .inl rfl⟩ rfl ?_ ?_ ?_
        · simp -implicitDefEqProofs -proj only [go_sem, Nat.reduceBEq, Nat.reduceLT, Nat.reduceLeDiff, Nat.reduceAdd, Nat.reduceMul, ↓reduceIte, Int.reduceToNat, Int.reducePow, Int.reduceLT, Int.reduceLE, Int.reduceAdd, Int.reduceSub, Int.reduceMul, Int.reduceEq, Int.reduceNe, AllAt, Int.sub_self, Int.zero_mul, Int.add_zero]
        · simp -implicitDefEqProofs -proj only [go_sem, Nat.reduceBEq, Nat.reduceLT, Nat.reduceLeDiff, Nat.reduceAdd, Nat.reduceMul, ↓reduceIte, Int.reduceToNat, Int.reducePow, Int.reduceLT, Int.reduceLE, Int.reduceAdd, Int.reduceSub, Int.reduceMul, Int.reduceEq, Int.reduceNe, AllH]
        · rintro k ⟨hk1, hk2, hk3⟩
          have hk : AllH (keepH [(b9, .box 40 [i64 g.f, i64 g.v, i64 g.w, i64 g.r, i64 g.c])]) [(b9, .box 40 [i64 g.f, i64 g.v, i64 g.w, i64 g.r, i64 g.c])] := keepH_all (by simp [keys])
          have k9 := hk.1
          have hval : g.v + ((k : Int) - 1) * g.r = valG g q → i64 (g.v + ((k : Int) - 1) * g.r) = i64 (valG g q) := fun e => by rw [e]
          by_cases hw : 0 < g.w
          · have hq0 := hQ (by omega)
            have w2' := w2 (by omega)
            have gr := hok.r ((k : Int) - 1) (by omega) (by omega)
            by_cases hkc : (k : Int) < g.c
            · by_cases hkq : (k : Int) ≤ (q - g.f).tdiv g.w
              · have gr2 := hok.r (k : Int) (by omega) (by omega)
                have e1 : ((k : Int) - 1) * g.r + g.r = (k : Int) * g.r := by rw [Int.sub_mul]; omega
                have w3 : IntKind.i64.wrap (g.v + ((k : Int) - 1) * g.r + g.r) = g.v + (((k + 1 : Nat) : Int) - 1) * g.r := by
                  rw [show ((k + 1 : Nat) : Int) - 1 = (k : Int) by omega, IntKind.wrap_i64]
                  omega
                simp -implicitDefEqProofs -proj only [go_sem, Nat.reduceBEq, Nat.reduceLT, Nat.reduceLeDiff, Nat.reduceAdd, Nat.reduceMul, ↓reduceIte, Int.reduceToNat, Int.reducePow, Int.reduceLT, Int.reduceLE, Int.reduceAdd, Int.reduceSub, Int.reduceMul, Int.reduceEq, Int.reduceNe, k9, decide_eq_true hw, decide_eq_true hkc, w1, w2', decide_eq_true hkq]
                (repeat' (with_reducible refine VC_intro ?_ (fun h => ?_); (focus first | decide | omega); clear h; try simp -implicitDefEqProofs -proj only [go_sem, Nat.reduceBEq, Nat.reduceLT, Nat.reduceLeDiff, Nat.reduceAdd, Nat.reduceMul, ↓reduceIte, Int.reduceToNat, Int.reducePow, Int.reduceLT, Int.reduceLE, Int.reduceAdd, Int.reduceSub, Int.reduceMul, Int.reduceEq, Int.reduceNe, w1]))
                try simp -implicitDefEqProofs -proj only [go_sem, Nat.reduceBEq, Nat.reduceLT, Nat.reduceLeDiff, Nat.reduceAdd, Nat.reduceMul, ↓reduceIte, Int.reduceToNat, Int.reducePow, Int.reduceLT, Int.reduceLE, Int.reduceAdd, Int.reduceSub, Int.reduceMul, Int.reduceEq, Int.reduceNe, k9, w2', w3, decide_eq_true hkq]
                refine LoopQ_k (k + 1) ⟨by omega, by omega, .inr ⟨by omega, by omega⟩⟩ (by omega) rfl ?_ hk
                simp -implicitDefEqProofs -proj only [go_sem, Nat.reduceBEq, Nat.reduceLT, Nat.reduceLeDiff, Nat.reduceAdd, Nat.reduceMul, ↓reduceIte, Int.reduceToNat, Int.reducePow, Int.reduceLT, Int.reduceLE, Int.reduceAdd, Int.reduceSub, Int.reduceMul, Int.reduceEq, Int.reduceNe, AllAt, i64_succ (show k < 9223372036854775807 by omega), w3]
              · have e : g.v + ((k : Int) - 1) * g.r = valG g q := by
                  unfold valG
                  rw [if_neg (by omega), show min ((q - g.f).tdiv g.w) (g.c - 1) = (k : Int) - 1 by omega]
                simp -implicitDefEqProofs -proj only [go_sem, Nat.reduceBEq, Nat.reduceLT, Nat.reduceLeDiff, Nat.reduceAdd, Nat.reduceMul, ↓reduceIte, Int.reduceToNat, Int.reducePow, Int.reduceLT, Int.reduceLE, Int.reduceAdd, Int.reduceSub, Int.reduceMul, Int.reduceEq, Int.reduceNe, k9, decide_eq_true hw, decide_eq_true hkc, w1, w2', decide_eq_false hkq]
                (repeat' (with_reducible refine VC_intro ?_ (fun h => ?_); (focus first | decide | omega); clear h; try simp -implicitDefEqProofs -proj only [go_sem, Nat.reduceBEq, Nat.reduceLT, Nat.reduceLeDiff, Nat.reduceAdd, Nat.reduceMul, ↓reduceIte, Int.reduceToNat, Int.reducePow, Int.reduceLT, Int.reduceLE, Int.reduceAdd, Int.reduceSub, Int.reduceMul, Int.reduceEq, Int.reduceNe, w1]))
                try simp -implicitDefEqProofs -proj only [go_sem, Nat.reduceBEq, Nat.reduceLT, Nat.reduceLeDiff, Nat.reduceAdd, Nat.reduceMul, ↓reduceIte, Int.reduceToNat, Int.reducePow, Int.reduceLT, Int.reduceLE, Int.reduceAdd, Int.reduceSub, Int.reduceMul, Int.reduceEq, Int.reduceNe, k9, w2', decide_eq_false hkq, if_neg (show ¬ (2 : Nat) = 3 by decide)]
                refine LoopQ_k (i + 1) (by omega) (by omega) rfl ?_ trivial
                simp -implicitDefEqProofs -proj only [go_sem, Nat.reduceBEq, Nat.reduceLT, Nat.reduceLeDiff, Nat.reduceAdd, Nat.reduceMul, ↓reduceIte, Int.reduceToNat, Int.reducePow, Int.reduceLT, Int.reduceLE, Int.reduceAdd, Int.reduceSub, Int.reduceMul, Int.reduceEq, Int.reduceNe, AllAt, hsn, e, i64_succ (show i < 9223372036854775807 by omega)]
            · have e : g.v + ((k : Int) - 1) * g.r = valG g q := by
                unfold valG
                rw [if_neg (by omega), show min ((q - g.f).tdiv g.w) (g.c - 1) = (k : Int) - 1 by omega]
              simp -implicitDefEqProofs -proj only [go_sem, Nat.reduceBEq, Nat.reduceLT, Nat.reduceLeDiff, Nat.reduceAdd, Nat.reduceMul, ↓reduceIte, Int.reduceToNat, Int.reducePow, Int.reduceLT, Int.reduceLE, Int.reduceAdd, Int.reduceSub, Int.reduceMul, Int.reduceEq, Int.reduceNe, k9, decide_eq_true hw, decide_eq_false hkc, if_neg (show ¬ (2 : Nat) = 3 by decide)]
              refine LoopQ_k (i + 1) (by omega) (by omega) rfl ?_ trivial
              simp -implicitDefEqProofs -proj only [go_sem, Nat.reduceBEq, Nat.reduceLT, Nat.reduceLeDiff, Nat.reduceAdd, Nat.reduceMul, ↓reduceIte, Int.reduceToNat, Int.reducePow, Int.reduceLT, Int.reduceLE, Int.reduceAdd, Int.reduceSub, Int.reduceMul, Int.reduceEq, Int.reduceNe, AllAt, hsn, e, i64_succ (show i < 9223372036854775807 by omega)]
          · have e : g.v + ((k : Int) - 1) * g.r = valG g q := by
              unfold valG
              rw [if_pos (by omega)]
              have : k = 1 := by omega
              subst this
              simp
            simp -implicitDefEqProofs -proj only [go_sem, Nat.reduceBEq, Nat.reduceLT, Nat.reduceLeDiff, Nat.reduceAdd, Nat.reduceMul, ↓reduceIte, Int.reduceToNat, Int.reducePow, Int.reduceLT, Int.reduceLE, Int.reduceAdd, Int.reduceSub, Int.reduceMul, Int.reduceEq, Int.reduceNe, k9, decide_eq_false hw, if_neg (show ¬ (2 : Nat) = 3 by decide)]
            refine LoopQ_k (i + 1) (by omega) (by omega) rfl ?_ trivial
            simp -implicitDefEqProofs -proj only [go_sem, Nat.reduceBEq, Nat.reduceLT, Nat.reduceLeDiff, Nat.reduceAdd, Nat.reduceMul, ↓reduceIte, Int.reduceToNat, Int.reducePow, Int.reduceLT, Int.reduceLE, Int.reduceAdd, Int.reduceSub, Int.reduceMul, Int.reduceEq, Int.reduceNe, AllAt, hsn, e, i64_succ (show i < 9223372036854775807 by omega)]
    · have hi' : i = G.length := by omega
      subst hi'
      rw [List.take_length]
      have : optR (atG G q) = .tup [i64 (soFar G q).1, bv (soFar G q).2] := by
        unfold soFar
        cases atG G q <;> rfl
      rw [this]
      simp -implicitDefEqProofs -proj only [go_sem, Nat.reduceBEq, Nat.reduceLT, Nat.reduceLeDiff, Nat.reduceAdd, Nat.reduceMul, ↓reduceIte, Int.reduceToNat, Int.reducePow, Int.reduceLT, Int.reduceLE, Int.reduceAdd, Int.reduceSub, Int.reduceMul, Int.reduceEq, Int.reduceNe, decide_eq_false (show ¬ (G.length : Int) < G.length by omega)]
      exact LendV_eq rfl
theorem RAtL_ok {l : List Int} (h : CurL l) {i : Nat} (hi : i < l.length) : DataW Try.prog f_poundageref15_At [curL l, i64 i] (.tup [i64 l[i], bv true]) := by
  have h1 := h.2.1
  have := RAt_ok (m := (l.length : Int) - 1) (q := (i : Int)) (gps_ok h) (Nat.le_trans gps_len (by omega)) (by unfold Fit; omega) (by omega)
  rwa [if_neg (by omega), gps_at hi] at this
def listL (b1 : Nat) (l : List Int) (y : BackY) : List (Nat × Blk) := rowH 3 1 y.c y.cap (rowI (l.take y.i)) ++ [(b1, .box 26 [i64 ((l.length : Int) - 1), slG (gps l)])]
theorem RList_new {l : List Int} (h : CurL l) : NewW Try.prog f_poundageref15_List [curL l] (slI l) := by
  obtain ⟨hne, h1, h2⟩ := id h
  refine CallW_intro comp_poundageref15_List (by simp) ?_
  simp -implicitDefEqProofs -proj only [go_sem, Nat.reduceBEq, Nat.reduceLT, Nat.reduceLeDiff, Nat.reduceAdd, Nat.reduceMul, ↓reduceIte, Int.reduceToNat, Int.reducePow, Int.reduceLT, Int.reduceLE, Int.reduceAdd, Int.reduceSub, Int.reduceMul, Int.reduceEq, Int.reduceNe]
  refine AllocA_intro (fun b1 hb1 => ?_)
  have a1 := alloc_all (x := .box 26 [i64 ((l.length : Int) - 1), slG (gps l)]) hb1 (l := []) trivial
  have k1 := alloc_keys (x := .box 26 [i64 ((l.length : Int) - 1), slG (gps l)]) hb1 (l := []) trivial List.nodup_nil
  simp -implicitDefEqProofs -proj only [go_sem, Nat.reduceBEq, Nat.reduceLT, Nat.reduceLeDiff, Nat.reduceAdd, Nat.reduceMul, ↓reduceIte, Int.reduceToNat, Int.reducePow, Int.reduceLT, Int.reduceLE, Int.reduceAdd, Int.reduceSub, Int.reduceMul, Int.reduceEq, Int.reduceNe]
  refine LoopA_k (fun y : BackY => y.i ≤ l.length ∧ (keys (listL b1 l y)).Nodup) 24 (fun y => [(1, .ptr b1 0), (3, rowV 0 1 y.c y.cap (rowI (l.take y.i))), (4, i64 y.i)]) (listL b1 l) (fun y => l.length - y.i) ⟨0, 0, 0⟩ ⟨Nat.zero_le _, k1⟩ rfl ?_ ?_ ?_
  · simp -implicitDefEqProofs -proj only [go_sem, Nat.reduceBEq, Nat.reduceLT, Nat.reduceLeDiff, Nat.reduceAdd, Nat.reduceMul, ↓reduceIte, Int.reduceToNat, Int.reducePow, Int.reduceLT, Int.reduceLE, Int.reduceAdd, Int.reduceSub, Int.reduceMul, Int.reduceEq, Int.reduceNe, AllAt, by_i, by_c, by_cap]
    rfl
  · simp -implicitDefEqProofs -proj only [go_sem, Nat.reduceBEq, Nat.reduceLT, Nat.reduceLeDiff, Nat.reduceAdd, Nat.reduceMul, ↓reduceIte, Int.reduceToNat, Int.reducePow, Int.reduceLT, Int.reduceLE, Int.reduceAdd, Int.reduceSub, Int.reduceMul, Int.reduceEq, Int.reduceNe]
    exact a1
  · rintro ⟨i, c, cap⟩ ⟨hi, hn⟩
    simp -implicitDefEqProofs only [by_i] at hi
    have hall := keepH_all hn
    obtain ⟨H, hH⟩ : ∃ H, keepH (listL b1 l ⟨i, c, cap⟩) = H := ⟨_, rfl⟩
    rw [hH] at hall
    simp -implicitDefEqProofs only [listL, by_i, by_c, by_cap] at hall hn
    obtain ⟨hrow, e1, _⟩ := AllH_app.1 hall
    by_cases hlt : i < l.length
    · have hat := RAtL_ok h hlt
      have htk : l.take (i + 1) = l.take i ++ [l[i]] := List.take_succ_eq_append_getElem hlt
      have hl1 : (rowI (l.take i)).length = i := by rw [rowI_len, List.length_take]; omega
      have hl2 : (rowI (l.take (i + 1))).length = i + 1 := by rw [rowI_len, List.length_take]; omega
      have hne2 : rowI (l.take (i + 1)) ≠ [] := by intro e; rw [e] at hl2; simp at hl2
      generalize l[i] = v at *
      simp -implicitDefEqProofs -proj only [go_sem, Nat.reduceBEq, Nat.reduceLT, Nat.reduceLeDiff, Nat.reduceAdd, Nat.reduceMul, ↓reduceIte, Int.reduceToNat, Int.reducePow, Int.reduceLT, Int.reduceLE, Int.reduceAdd, Int.reduceSub, Int.reduceMul, Int.reduceEq, Int.reduceNe, by_i, by_c, by_cap, hH, e1, decide_eq_true (show (i : Int) ≤ (l.length : Int) - 1 by omega)]
      refine CallA_pure hat ?_
      simp -implicitDefEqProofs -proj only [go_sem, Nat.reduceBEq, Nat.reduceLT, Nat.reduceLeDiff, Nat.reduceAdd, Nat.reduceMul, ↓reduceIte, Int.reduceToNat, Int.reducePow, Int.reduceLT, Int.reduceLE, Int.reduceAdd, Int.reduceSub, Int.reduceMul, Int.reduceEq, Int.reduceNe]
      refine AllocR_intro (fun bs hs' => ?_)
      replace hs' : H bs = none := hs'
      simp -implicitDefEqProofs -proj only [go_sem, Nat.reduceBEq, Nat.reduceLT, Nat.reduceLeDiff, Nat.reduceAdd, Nat.reduceMul, ↓reduceIte, Int.reduceToNat, Int.reducePow, Int.reduceLT, Int.reduceLE, Int.reduceAdd, Int.reduceSub, Int.reduceMul, Int.reduceEq, Int.reduceNe]
      refine AppendA_grow (xs := rowI (l.take i)) (y := [.int .i64 v]) (t := 3) (capc := 1) [(b1, .box 26 [i64 ((l.length : Int) - 1), slG (gps l)])] rfl (AllH_upd hs' hall) hn (by simp -implicitDefEqProofs -proj only [go_sem, Nat.reduceBEq, Nat.reduceLT, Nat.reduceLeDiff, Nat.reduceAdd, Nat.reduceMul, ↓reduceIte, Int.reduceToNat, Int.reducePow, Int.reduceLT, Int.reduceLE, Int.reduceAdd, Int.reduceSub, Int.reduceMul, Int.reduceEq, Int.reduceNe]) (by rw [hl1]; omega) (by rw [hl1]; omega) (fun H' c' cap' ha hk => ?_)
      rw [show rowI (l.take i) ++ [[.int .i64 v]] = rowI (l.take (i + 1)) by rw [htk]; simp [rowI]] at ha hk
      simp -implicitDefEqProofs -proj only [go_sem, Nat.reduceBEq, Nat.reduceLT, Nat.reduceLeDiff, Nat.reduceAdd, Nat.reduceMul, ↓reduceIte, Int.reduceToNat, Int.reducePow, Int.reduceLT, Int.reduceLE, Int.reduceAdd, Int.reduceSub, Int.reduceMul, Int.reduceEq, Int.reduceNe]
      refine LoopQ_k ⟨i + 1, c', cap'⟩ ⟨by show i + 1 ≤ l.length; omega, hk⟩ (by show l.length - (i + 1) < l.length - i; omega) rfl ?_ ha
      simp -implicitDefEqProofs -proj only [go_sem, Nat.reduceBEq, Nat.reduceLT, Nat.reduceLeDiff, Nat.reduceAdd, Nat.reduceMul, ↓reduceIte, Int.reduceToNat, Int.reducePow, Int.reduceLT, Int.reduceLE, Int.reduceAdd, Int.reduceSub, Int.reduceMul, Int.reduceEq, Int.reduceNe, AllAt, by_i, by_c, by_cap, i64_succ (show i < 9223372036854775807 by omega), rowV_ne hne2, hl1, hl2]
    · have hi' : i = l.length := by omega
      subst hi'
      rw [List.take_length] at hrow
      simp -implicitDefEqProofs -proj only [go_sem, Nat.reduceBEq, Nat.reduceLT, Nat.reduceLeDiff, Nat.reduceAdd, Nat.reduceMul, ↓reduceIte, Int.reduceToNat, Int.reducePow, Int.reduceLT, Int.reduceLE, Int.reduceAdd, Int.reduceSub, Int.reduceMul, Int.reduceEq, Int.reduceNe, by_i, by_c, by_cap, hH, e1, decide_eq_false (show ¬ (l.length : Int) ≤ (l.length : Int) - 1 by omega), List.take_length]
      exact rowV_new hrow rowI_scal'
set_option maxRecDepth 20000 in
theorem RGoodL_ok {l : List Int} (hfl : AllFit l) (h : CurL l) : DataW Try.prog f_poundageref15_Good [curL l] (bv true) := by
  obtain ⟨hne, h1, h2⟩ := id h
  have hn0 : 0 < l.length := List.length_pos_iff.2 hne
  have hgl := gps_len (l := l)
  obtain ⟨hg0, hgf⟩ := gps_first hne
  have hel0 := rowG_at hg0
  rw [hgf] at hel0
  have hwl : IntKind.i64.wrap ((l.length : Int) - 1 + 1) = (l.length : Int) := by rw [IntKind.wrap_i64]; omega
  have hlist := (RList_new h).data
  have ro := ROf_data hfl (show l.length ≤ 3000 by omega)
  rw [if_pos h] at ro
  have hs := RSame_ok (m := (l.length : Int) - 1) (n := (l.length : Int) - 1) (a := gps l) (b := gps l) (by omega) (by omega)
  rw [decide_eq_true ⟨rfl, rfl⟩] at hs
  refine CallW_intro comp_poundageref15_Good (by simp) ?_
  simp -implicitDefEqProofs -proj only [go_sem, Nat.reduceBEq, Nat.reduceLT, Nat.reduceLeDiff, Nat.reduceAdd, Nat.reduceMul, ↓reduceIte, Int.reduceToNat, Int.reducePow, Int.reduceLT, Int.reduceLE, Int.reduceAdd, Int.reduceSub, Int.reduceMul, Int.reduceEq, Int.reduceNe]
  refine AllocA_intro (fun b1 hb1 => ?_)
  simp -implicitDefEqProofs -proj only [go_sem, Nat.reduceBEq, Nat.reduceLT, Nat.reduceLeDiff, Nat.reduceAdd, Nat.reduceMul, ↓reduceIte, Int.reduceToNat, Int.reducePow, Int.reduceLT, Int.reduceLE, Int.reduceAdd, Int.reduceSub, Int.reduceMul, Int.reduceEq, Int.reduceNe, rowG_len, decide_eq_false (show ¬ (l.length : Int) - 1 < 0 by omega), decide_eq_false (show ¬ 2000 < (l.length : Int) - 1 by omega), decide_eq_false (show ¬ ((gps l).length : Int) = 0 by omega), hwl, decide_eq_false (show ¬ (l.length : Int) < (gps l).length by omega)]
  refine ElemA_at _ (by omega) (i := 0) hel0 ?_
  simp -implicitDefEqProofs -proj only [go_sem, Nat.reduceBEq, Nat.reduceLT, Nat.reduceLeDiff, Nat.reduceAdd, Nat.reduceMul, ↓reduceIte, Int.reduceToNat, Int.reducePow, Int.reduceLT, Int.reduceLE, Int.reduceAdd, Int.reduceSub, Int.reduceMul, Int.reduceEq, Int.reduceNe, hwl, decide_eq_true (rfl : (0 : Int) = 0)]
  refine CallA_pure hlist ?_
  simp -implicitDefEqProofs -proj only [go_sem, Nat.reduceBEq, Nat.reduceLT, Nat.reduceLeDiff, Nat.reduceAdd, Nat.reduceMul, ↓reduceIte, Int.reduceToNat, Int.reducePow, Int.reduceLT, Int.reduceLE, Int.reduceAdd, Int.reduceSub, Int.reduceMul, Int.reduceEq, Int.reduceNe]
  refine CallA_pure ro ?_
  simp -implicitDefEqProofs -proj only [go_sem, Nat.reduceBEq, Nat.reduceLT, Nat.reduceLeDiff, Nat.reduceAdd, Nat.reduceMul, ↓reduceIte, Int.reduceToNat, Int.reducePow, Int.reduceLT, Int.reduceLE, Int.reduceAdd, Int.reduceSub, Int.reduceMul, Int.reduceEq, Int.reduceNe]
  refine AllocA_intro (fun b3 hb3 => ?_)
  replace hb3 : upd Heap.none b1 _ b3 = none := hb3
  obtain ⟨n1, n2⟩ := fresh_ne hb3 upd_eq
  simp -implicitDefEqProofs -proj only [go_sem, Nat.reduceBEq, Nat.reduceLT, Nat.reduceLeDiff, Nat.reduceAdd, Nat.reduceMul, ↓reduceIte, Int.reduceToNat, Int.reducePow, Int.reduceLT, Int.reduceLE, Int.reduceAdd, Int.reduceSub, Int.reduceMul, Int.reduceEq, Int.reduceNe, n1, n2]
  refine CallA_pure hs ?_
  simp -implicitDefEqProofs -proj only [go_sem, Nat.reduceBEq, Nat.reduceLT, Nat.reduceLeDiff, Nat.reduceAdd, Nat.reduceMul, ↓reduceIte, Int.reduceToNat, Int.reducePow, Int.reduceLT, Int.reduceLE, Int.reduceAdd, Int.reduceSub, Int.reduceMul, Int.reduceEq, Int.reduceNe]
  exact LendV_eq rfl
set_option maxRecDepth 20000 in
theorem CurveBack_ok {l : List Int} (hfl : AllFit l) (hln : l.length ≤ 9223372036854775807) : DataW Try.prog f_poundagelaw15_CurveBack [slI l] (bv true) := by
  refine CallW_intro comp_poundagelaw15_CurveBack (by simp) ?_
  simp -implicitDefEqProofs -proj only [go_sem, Nat.reduceBEq, Nat.reduceLT, Nat.reduceLeDiff, Nat.reduceAdd, Nat.reduceMul, ↓reduceIte, Int.reduceToNat, Int.reducePow, Int.reduceLT, Int.reduceLE, Int.reduceAdd, Int.reduceSub, Int.reduceMul, Int.reduceEq, Int.reduceNe]
  refine CallA_pure alive15_ok ?_
  by_cases g1 : 2001 < (l.length : Int)
  · simp -implicitDefEqProofs -proj only [go_sem, Nat.reduceBEq, Nat.reduceLT, Nat.reduceLeDiff, Nat.reduceAdd, Nat.reduceMul, ↓reduceIte, Int.reduceToNat, Int.reducePow, Int.reduceLT, Int.reduceLE, Int.reduceAdd, Int.reduceSub, Int.reduceMul, Int.reduceEq, Int.reduceNe, rowI_len, decide_eq_true g1]
    exact LendV_eq rfl
  have oa := Of_ok (from' := 0) (l := l) (by decide) (by omega)
  have ca := (OfL_ok (l := l) (by omega)).data
  have heq := Equal_ok (a := runs 0 l) (b := runs 0 l) (Nat.le_trans (runsN_len l.length) (by omega)) (Nat.le_trans (runsN_len l.length) (by omega))
  rw [decide_eq_true rfl] at heq
  have hli := fun h => LineL_ok (l := l) h
  have hgo := fun h => GoodL_ok (l := l) h
  have hrg := fun h => RGoodL_ok (l := l) hfl h
  generalize runs 0 l = R at oa ca heq hli
  simp -implicitDefEqProofs -proj only [go_sem, Nat.reduceBEq, Nat.reduceLT, Nat.reduceLeDiff, Nat.reduceAdd, Nat.reduceMul, ↓reduceIte, Int.reduceToNat, Int.reducePow, Int.reduceLT, Int.reduceLE, Int.reduceAdd, Int.reduceSub, Int.reduceMul, Int.reduceEq, Int.reduceNe, rowI_len, decide_eq_false g1]
  refine CallA_pure oa ?_
  simp -implicitDefEqProofs -proj only [go_sem, Nat.reduceBEq, Nat.reduceLT, Nat.reduceLeDiff, Nat.reduceAdd, Nat.reduceMul, ↓reduceIte, Int.reduceToNat, Int.reducePow, Int.reduceLT, Int.reduceLE, Int.reduceAdd, Int.reduceSub, Int.reduceMul, Int.reduceEq, Int.reduceNe]
  refine AllocA_intro (fun b3 hb3 => ?_)
  simp -implicitDefEqProofs -proj only [go_sem, Nat.reduceBEq, Nat.reduceLT, Nat.reduceLeDiff, Nat.reduceAdd, Nat.reduceMul, ↓reduceIte, Int.reduceToNat, Int.reducePow, Int.reduceLT, Int.reduceLE, Int.reduceAdd, Int.reduceSub, Int.reduceMul, Int.reduceEq, Int.reduceNe]
  refine CallA_pure ca ?_
  by_cases hc : CurL l
  rotate_left
  · rw [if_neg hc]
    simp -implicitDefEqProofs -proj only [go_sem, Nat.reduceBEq, Nat.reduceLT, Nat.reduceLeDiff, Nat.reduceAdd, Nat.reduceMul, ↓reduceIte, Int.reduceToNat, Int.reducePow, Int.reduceLT, Int.reduceLE, Int.reduceAdd, Int.reduceSub, Int.reduceMul, Int.reduceEq, Int.reduceNe]
    refine AllocA_intro (fun b4 hb4 => ?_)
    simp -implicitDefEqProofs -proj only [go_sem, Nat.reduceBEq, Nat.reduceLT, Nat.reduceLeDiff, Nat.reduceAdd, Nat.reduceMul, ↓reduceIte, Int.reduceToNat, Int.reducePow, Int.reduceLT, Int.reduceLE, Int.reduceAdd, Int.reduceSub, Int.reduceMul, Int.reduceEq, Int.reduceNe]
    exact LendV_eq rfl
  rw [if_pos hc]
  simp -implicitDefEqProofs -proj only [go_sem, Nat.reduceBEq, Nat.reduceLT, Nat.reduceLeDiff, Nat.reduceAdd, Nat.reduceMul, ↓reduceIte, Int.reduceToNat, Int.reducePow, Int.reduceLT, Int.reduceLE, Int.reduceAdd, Int.reduceSub, Int.reduceMul, Int.reduceEq, Int.reduceNe]
  refine AllocA_intro (fun b4 hb4 => ?_)
  replace hb4 : upd Heap.none b3 _ b4 = none := hb4
  obtain ⟨n1, n2⟩ := fresh_ne hb4 upd_eq
  simp -implicitDefEqProofs -proj only [go_sem, Nat.reduceBEq, Nat.reduceLT, Nat.reduceLeDiff, Nat.reduceAdd, Nat.reduceMul, ↓reduceIte, Int.reduceToNat, Int.reducePow, Int.reduceLT, Int.reduceLE, Int.reduceAdd, Int.reduceSub, Int.reduceMul, Int.reduceEq, Int.reduceNe, n1, n2]
  refine CallA_pure (hli hc) ?_
  simp -implicitDefEqProofs -proj only [go_sem, Nat.reduceBEq, Nat.reduceLT, Nat.reduceLeDiff, Nat.reduceAdd, Nat.reduceMul, ↓reduceIte, Int.reduceToNat, Int.reducePow, Int.reduceLT, Int.reduceLE, Int.reduceAdd, Int.reduceSub, Int.reduceMul, Int.reduceEq, Int.reduceNe]
  refine AllocA_intro (fun b6 hb6 => ?_)
  replace hb6 : upd (upd Heap.none b3 _) b4 _ b6 = none := hb6
  obtain ⟨n3, n4⟩ := fresh_ne hb6 upd_eq
  obtain ⟨n5, n6⟩ := fresh_ne hb6 (by rw [upd_ne n1]; exact upd_eq)
  simp -implicitDefEqProofs -proj only [go_sem, Nat.reduceBEq, Nat.reduceLT, Nat.reduceLeDiff, Nat.reduceAdd, Nat.reduceMul, ↓reduceIte, Int.reduceToNat, Int.reducePow, Int.reduceLT, Int.reduceLE, Int.reduceAdd, Int.reduceSub, Int.reduceMul, Int.reduceEq, Int.reduceNe, n1, n2, n3, n4, n5, n6]
  refine CallA_pure heq ?_
  simp -implicitDefEqProofs -proj only [go_sem, Nat.reduceBEq, Nat.reduceLT, Nat.reduceLeDiff, Nat.reduceAdd, Nat.reduceMul, ↓reduceIte, Int.reduceToNat, Int.reducePow, Int.reduceLT, Int.reduceLE, Int.reduceAdd, Int.reduceSub, Int.reduceMul, Int.reduceEq, Int.reduceNe, n1, n2, n3, n4, n5, n6]
  refine CallA_pure (hgo hc) ?_
  simp -implicitDefEqProofs -proj only [go_sem, Nat.reduceBEq, Nat.reduceLT, Nat.reduceLeDiff, Nat.reduceAdd, Nat.reduceMul, ↓reduceIte, Int.reduceToNat, Int.reducePow, Int.reduceLT, Int.reduceLE, Int.reduceAdd, Int.reduceSub, Int.reduceMul, Int.reduceEq, Int.reduceNe, n1, n2, n3, n4, n5, n6]
  refine CallA_pure (hrg hc) ?_
  simp -implicitDefEqProofs -proj only [go_sem, Nat.reduceBEq, Nat.reduceLT, Nat.reduceLeDiff, Nat.reduceAdd, Nat.reduceMul, ↓reduceIte, Int.reduceToNat, Int.reducePow, Int.reduceLT, Int.reduceLE, Int.reduceAdd, Int.reduceSub, Int.reduceMul, Int.reduceEq, Int.reduceNe]
  exact LendV_eq rfl
end Go.Proofs.Ytonlgniaoompaaa.Abs
