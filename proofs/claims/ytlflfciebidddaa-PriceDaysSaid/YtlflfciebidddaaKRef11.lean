/- The document's tiers (poundageref11; printed by mkref11.py). No claim stands here. -/
import Derived.Test.YtlflfciebidddaaKTier2
import Derived.Test.YtlflfciebidddaaKRef02
set_option linter.unusedSimpArgs false
set_option linter.unusedVariables false
namespace Go.Proofs.Ytlflfciebidddaa.Abs
open Go Go.RowKit Go.Proofs
attribute [local go_sem] RunC_seq AF_n AF_r AF_b St_n St_t St_H Fst_mk Snd_mk RunC_ops RunC_cond RunC_block RunC_loop RunC_exit RunC_ret RunC_skip RunO_nil RunO_code RunO_code_ret RunO_code_exit RunO_blk RunO_blk_ret RunO_blk_exit RunL_nil RunL_guard GuardA_tt GuardA_ff GuardA_tf GuardA_ft GuardA_void CondA_t CondA_f PickA_t PickA_f RunL_mov RunL_pick RunL_alloc RunL_box RunL_load LoadA_ptr LoadB_1 LoadB_n LoadA_dptr LoadA_dptr_n RunL_store StoreA_ptr StoreB_box RunL_bin Bin_add Bin_sub Bin_mul Bin_quo Bin_rem Bin_shl Bin_shr Bin_andI Bin_orI Bin_xorI Bin_eql Bin_neq Bin_lss Bin_leq Bin_gtr Bin_geq RunL_binb Bin_beql Bin_bneq RunL_un UnA_not UnA_neg RunL_conv convV MapA_some RunL_nilCheck nilV RunL_mkfn RunL_fieldAddr faV RunL_field FieldA_1 FieldA_n RunL_elemAddr EAddrA_sl EAddrA_own EptrA_eq RunL_build BuildA_some RunL_extract ExtA_eq RunL_len lenV_sl lenV_nilsl lenV_own RunL_slen RunL_idxStr IdxSA_eq slenV RunL_minmax mmV minmaxL RunL_call RunL_callv CallvA_fn putS ev evL evO evP eqK eqKs EqB_agg RunL_eqAgg EqA_t EqA_f evQ buildC fits_agg cellsAV_agg fits_d cellsAV_d fits_nilp cellsAV_nilp fits_nilsl cellsAV_nilsl fits_nilfn cellsAV_nilfn fits_ptr cellsAV_ptr fits_eptr cellsAV_eptr fits_dptr cellsAV_dptr fits_own cellsAV_own fits_fn cellsAV_fn rowV_fits rowV_cells rowV_len lenAV setSeg nth seg mapD repeatL putT_get upd_get argT keepT_cons keepT_nil keepH_cons keepH_nil cond_true cond_false VC_true finW resW resL resOne LoopQ_exit LoopQ_ret List.cons_append List.nil_append Bool.not_true Bool.not_false Bool.and_true Bool.and_self Nat.lt_add_left_iff_pos Nat.zero_add Nat.add_zero List.drop_succ_cons List.drop_zero List.take_succ_cons List.take_zero beq_self_eq_true Bool.false_eq_true RunC_dops RunL_loadS RunL_loadD LoadDA_dptr RunL_storeS StoreSA_ptr RunL_pcall RunL_pcallv PCallvA_fn newsOk and_self and_true true_and loadW_ptr LoadK_1 LoadK_n upd_upd RunL_loadP LoadPA_ptr RunL_callS RunL_make RunL_buildSlice BSliceA_some RunL_buildSliceD frzL frz cutL LoadA_eptr LoadE_row RunL_append RunL_slice SliceA_sl StoreA_eptr List.length_cons List.length_nil Nat.min_def Int.cast_ofNat_Int Int.natCast_zero Int.natCast_one decide_true decide_false List.getElem?_cons_zero List.getElem?_cons_succ RunC_rangef CallvA_yld putL_nil putL_cons RangeQ_exit RangeQ_ret
theorem lend_part {H : Heap} {x : PartX} {tv av : AV} (h1 : LendV H tv (slT x.ts)) (h2 : LendV H av (slA x.ad)) : LendV H (.agg [i64 x.me, i64 x.f, i64 x.t, i64 x.al, i64 x.bl, i64 x.ki, tv, i64 x.mo, av]) (partV x) := by
  refine .agg _ _ rfl fun j u v g1 g2 => ?_
  match j with
  | 0 => cases g1; cases g2; exact .refl _
  | 1 => cases g1; cases g2; exact .refl _
  | 2 => cases g1; cases g2; exact .refl _
  | 3 => cases g1; cases g2; exact .refl _
  | 4 => cases g1; cases g2; exact .refl _
  | 5 => cases g1; cases g2; exact .refl _
  | 6 => cases g1; cases g2; exact h1
  | 7 => cases g1; cases g2; exact .refl _
  | 8 => cases g1; cases g2; exact h2
  | j + 9 => cases g1
def zeroP (x : PartX) : PartX := { x with me := 0, f := 0, t := 0 }
theorem good_of {x : PartX} (h : partOK 0 0 1 (zeroP x)) : GoodX x := by
  obtain ⟨⟨g1, g2, g3, g4, g5, g6, g7, g8, g9, g10⟩, h2, h3⟩ := h
  exact ⟨g4, g5, g6, g7, ⟨g8, g9⟩, g10, h2, h3⟩
theorem Left_ok {x : PartX} {q : Int} (hx : x.Fit) (hq : Fit q) (ha : 0 ≤ x.al) (hb : 1 ≤ x.bl) : DataW Try.prog f_poundageref11_Left [partV x, i64 q] (if q < 0 then .tup [i64 0, bv false] else fitR (leftI x q)) := by
  refine CallW_intro comp_poundageref11_Left (by simp) ?_
  simp -implicitDefEqProofs -proj only [go_sem, Nat.reduceBEq, Nat.reduceLT, Nat.reduceLeDiff, Nat.reduceAdd, Nat.reduceMul, ↓reduceIte]
  refine AllocA_intro (fun b2 hb2 => ?_)
  by_cases h : q < 0
  · rw [if_pos h]
    simp -implicitDefEqProofs -proj only [go_sem, Nat.reduceBEq, Nat.reduceLT, Nat.reduceLeDiff, Nat.reduceAdd, Nat.reduceMul, ↓reduceIte, decide_eq_true h]
    exact LendV_eq rfl
  · rw [if_neg h]
    have hal := hx.al
    have hbl := hx.bl
    unfold Fit at hal hq
    have hw : IntKind.i64.wrap (q - x.al) = q - x.al := by rw [IntKind.wrap_i64]; omega
    have hf : Fit (rnd (max (q - x.al) 0) x.bl 1) := by
      have := rnd_fit (a := max (q - x.al) 0) (c := x.bl) (m := 1) (by omega) (by decide) (by omega)
      unfold Fit
      omega
    have h1 := RMulDiv_ok (a := max (q - x.al) 0) (b := 1) (c := x.bl) (m := 1) (by unfold Fit; omega) (by decide) hbl
    rw [Int.mul_one, mdR_yes (by omega) (by decide), fitR_yes hf] at h1
    have h2 := RMul_ok hf hbl
    have h3 := RInt_ok (n := rnd (max (q - x.al) 0) x.bl 1 * x.bl) (by have := prod_small hf hbl; unfold Big; omega)
    unfold leftI
    generalize rnd (max (q - x.al) 0) x.bl 1 = k at *
    simp -implicitDefEqProofs -proj only [go_sem, Nat.reduceBEq, Nat.reduceLT, Nat.reduceLeDiff, Nat.reduceAdd, Nat.reduceMul, ↓reduceIte, decide_eq_false h, hw]
    refine CallA_pure h1 ?_
    simp -implicitDefEqProofs -proj only [go_sem, Nat.reduceBEq, Nat.reduceLT, Nat.reduceLeDiff, Nat.reduceAdd, Nat.reduceMul, ↓reduceIte]
    refine CallA_pure h2 ?_
    simp -implicitDefEqProofs -proj only [go_sem, Nat.reduceBEq, Nat.reduceLT, Nat.reduceLeDiff, Nat.reduceAdd, Nat.reduceMul, ↓reduceIte]
    refine CallA_pure h3 ?_
    unfold fitR
    simp -implicitDefEqProofs -proj only [go_sem, Nat.reduceBEq, Nat.reduceLT, Nat.reduceLeDiff, Nat.reduceAdd, Nat.reduceMul, ↓reduceIte]
    exact LendV_eq rfl
theorem rowS3_scal {l : List TStep} : ∀ el ∈ rowS3 l, ∀ d ∈ el, scalD d = true := by
  intro el he d hd
  obtain ⟨r, _, rfl⟩ := List.mem_map.1 he
  simp -implicitDefEqProofs only [TStep.el, List.mem_cons, List.not_mem_nil, or_false] at hd
  rcases hd with rfl | rfl | rfl <;> rfl
theorem rowS3_snoc {l : List TStep} {s : TStep} : rowS3 l ++ [s.el] = rowS3 (l ++ [s]) := by simp [rowS3]
theorem rowS3_at {l : List TStep} {i : Nat} (h : i < l.length) : (rowS3 l)[((i : Int)).toNat]? = some [.int .i64 l[i].f, .int .i64 l[i].t, .int .i64 l[i].r] := by
  rw [Int.toNat_natCast]; simp [rowS3, h, TStep.el]
structure RsX where
  i : Nat
  c : Nat
  cap : Nat
theorem sx_i {i c cap : Nat} : (RsX.mk i c cap).i = i := (rfl)
theorem sx_c {i c cap : Nat} : (RsX.mk i c cap).c = c := (rfl)
theorem sx_cap {i c cap : Nat} : (RsX.mk i c cap).cap = cap := (rfl)
theorem refN_len {T : List Tier} {q : Int} : ∀ i, (refN T q i).length ≤ i
  | 0 => Nat.le_refl _
  | i + 1 => by
    have := refN_len (T := T) (q := q) i
    rw [refN]
    split
    · simp -implicitDefEqProofs only [List.length_append, List.length_singleton]; omega
    · omega
def refB (b2 : Nat) (x : PartX) (q : Int) (y : RsX) : List (Nat × Blk) := rowH 136 3 y.c y.cap (rowS3 (refN x.ts q y.i)) ++ [(b2, .box 39 [i64 x.me, i64 x.f, i64 x.t, i64 x.al, i64 x.bl, i64 x.ki, slT x.ts, i64 x.mo, slA x.ad])]
set_option maxRecDepth 20000 in
theorem RefSteps_new {x : PartX} {q : Int} (hl : x.ts.length ≤ 1000000) (hn0 : 1 ≤ x.ts.length) : NewW Try.prog f_poundageref11_Steps [partV x, i64 q] (slS3 (if x.ki = 2 then volL x.ts q else refL x.ts q)) := by
  have hwl : IntKind.i64.wrap ((x.ts.length : Int) - 1) = (x.ts.length : Int) - 1 := by rw [IntKind.wrap_i64]; omega
  refine CallW_intro comp_poundageref11_Steps (by simp) ?_
  simp -implicitDefEqProofs -proj only [go_sem, Nat.reduceBEq, Nat.reduceLT, Nat.reduceLeDiff, Nat.reduceAdd, Nat.reduceMul, ↓reduceIte]
  refine AllocA_intro (fun b2 hb2 => ?_)
  have c2 := alloc_all (x := .box 39 [i64 x.me, i64 x.f, i64 x.t, i64 x.al, i64 x.bl, i64 x.ki, slT x.ts, i64 x.mo, slA x.ad]) hb2 (l := []) trivial
  have n2 := alloc_keys (x := .box 39 [i64 x.me, i64 x.f, i64 x.t, i64 x.al, i64 x.bl, i64 x.ki, slT x.ts, i64 x.mo, slA x.ad]) hb2 (l := []) trivial List.nodup_nil
  by_cases hk : x.ki = 2
  · rw [if_pos hk]
    simp -implicitDefEqProofs -proj only [go_sem, Nat.reduceBEq, Nat.reduceLT, Nat.reduceLeDiff, Nat.reduceAdd, Nat.reduceMul, ↓reduceIte, rowT_len, hwl, decide_eq_true hk]
    refine LoopA_k (fun i : Nat => i ≤ x.ts.length ∧ volL x.ts q = volI x.ts q (x.ts.length - i)) 91 (fun i => [(21, slT x.ts), (22, i64 x.ts.length), (23, i64 i), (6, i64 ((x.ts.length : Int) - 1)), (1, i64 q), (5, .nilsl 0)]) (fun _ => []) (fun i => x.ts.length - i) 0 ⟨Nat.zero_le _, rfl⟩ rfl ?_ ?_ ?_
    · simp -implicitDefEqProofs -proj only [go_sem, Nat.reduceBEq, Nat.reduceLT, Nat.reduceLeDiff, Nat.reduceAdd, Nat.reduceMul, ↓reduceIte, AllAt]
    · trivial
    · rintro i ⟨hi, hv⟩
      by_cases h : i < x.ts.length
      · have hel := rowT_at h
        obtain ⟨n, hn⟩ : ∃ n, x.ts.length - i = n + 1 := ⟨x.ts.length - i - 1, by omega⟩
        have hg : volI x.ts q (n + 1) = if n = 0 ∨ q ≤ x.ts[i].u then (if 0 < q then [⟨0, q, x.ts[i].r⟩] else []) else volI x.ts q n := by
          rw [volI, show x.ts.length - (n + 1) = i by omega, List.getElem?_eq_getElem h]
        rw [hn, hg] at hv
        generalize x.ts[i] = t at *
        simp -implicitDefEqProofs -proj only [go_sem, Nat.reduceBEq, Nat.reduceLT, Nat.reduceLeDiff, Nat.reduceAdd, Nat.reduceMul, ↓reduceIte, decide_eq_true (show (i : Int) < x.ts.length by omega)]
        refine ElemA_at _ (by omega) hel ?_
        simp -implicitDefEqProofs -proj only [go_sem, Nat.reduceBEq, Nat.reduceLT, Nat.reduceLeDiff, Nat.reduceAdd, Nat.reduceMul, ↓reduceIte]
        refine AllocA_intro (fun b8 hb8 => ?_)
        replace hb8 : keepH [] b8 = none := hb8
        by_cases hn0 : n = 0
        · rw [if_pos (show n = 0 ∨ q ≤ t.u from .inl hn0)] at hv
          simp -implicitDefEqProofs -proj only [go_sem, Nat.reduceBEq, Nat.reduceLT, Nat.reduceLeDiff, Nat.reduceAdd, Nat.reduceMul, ↓reduceIte, decide_eq_true (show (i : Int) = (x.ts.length : Int) - 1 by omega)]
          by_cases hq : 0 < q
          · rw [if_pos hq] at hv
            simp -implicitDefEqProofs -proj only [go_sem, Nat.reduceBEq, Nat.reduceLT, Nat.reduceLeDiff, Nat.reduceAdd, Nat.reduceMul, ↓reduceIte, decide_eq_true hq]
            refine AllocR_intro (fun bs hs => ?_)
            simp -implicitDefEqProofs -proj only [go_sem, Nat.reduceBEq, Nat.reduceLT, Nat.reduceLeDiff, Nat.reduceAdd, Nat.reduceMul, ↓reduceIte]
            refine AppendA_grow (xs := []) (y := [.int .i64 0, .int .i64 q, .int .i64 t.r]) (t := 136) (e := 136) (c := 0) (cap := 0) (z0 := 0) (capc := 1) [] rfl trivial List.nodup_nil (by simp -implicitDefEqProofs -proj only [go_sem, Nat.reduceBEq, Nat.reduceLT, Nat.reduceLeDiff, Nat.reduceAdd, Nat.reduceMul, ↓reduceIte]) (by decide) (by decide) (fun H' c' cap' ha hk => ?_)
            simp -implicitDefEqProofs -proj only [go_sem, Nat.reduceBEq, Nat.reduceLT, Nat.reduceLeDiff, Nat.reduceAdd, Nat.reduceMul, ↓reduceIte]
            rw [hv]
            exact rowV_new (z := 3) (xs := rowS3 [⟨0, q, t.r⟩]) (AllH_app.1 ha).1 rowS3_scal
          · rw [if_neg hq] at hv
            simp -implicitDefEqProofs -proj only [go_sem, Nat.reduceBEq, Nat.reduceLT, Nat.reduceLeDiff, Nat.reduceAdd, Nat.reduceMul, ↓reduceIte, decide_eq_false hq]
            rw [hv]
            exact .nilsl _ _
        · by_cases hu : q ≤ t.u
          · rw [if_pos (show n = 0 ∨ q ≤ t.u from .inr hu)] at hv
            simp -implicitDefEqProofs -proj only [go_sem, Nat.reduceBEq, Nat.reduceLT, Nat.reduceLeDiff, Nat.reduceAdd, Nat.reduceMul, ↓reduceIte, decide_eq_false (show ¬ (i : Int) = (x.ts.length : Int) - 1 by omega), decide_eq_true hu]
            by_cases hq : 0 < q
            · rw [if_pos hq] at hv
              simp -implicitDefEqProofs -proj only [go_sem, Nat.reduceBEq, Nat.reduceLT, Nat.reduceLeDiff, Nat.reduceAdd, Nat.reduceMul, ↓reduceIte, decide_eq_true hq]
              refine AllocR_intro (fun bs hs => ?_)
              simp -implicitDefEqProofs -proj only [go_sem, Nat.reduceBEq, Nat.reduceLT, Nat.reduceLeDiff, Nat.reduceAdd, Nat.reduceMul, ↓reduceIte]
              refine AppendA_grow (xs := []) (y := [.int .i64 0, .int .i64 q, .int .i64 t.r]) (t := 136) (e := 136) (c := 0) (cap := 0) (z0 := 0) (capc := 1) [] rfl trivial List.nodup_nil (by simp -implicitDefEqProofs -proj only [go_sem, Nat.reduceBEq, Nat.reduceLT, Nat.reduceLeDiff, Nat.reduceAdd, Nat.reduceMul, ↓reduceIte]) (by decide) (by decide) (fun H' c' cap' ha hk => ?_)
              simp -implicitDefEqProofs -proj only [go_sem, Nat.reduceBEq, Nat.reduceLT, Nat.reduceLeDiff, Nat.reduceAdd, Nat.reduceMul, ↓reduceIte]
              rw [hv]
              exact rowV_new (z := 3) (xs := rowS3 [⟨0, q, t.r⟩]) (AllH_app.1 ha).1 rowS3_scal
            · rw [if_neg hq] at hv
              simp -implicitDefEqProofs -proj only [go_sem, Nat.reduceBEq, Nat.reduceLT, Nat.reduceLeDiff, Nat.reduceAdd, Nat.reduceMul, ↓reduceIte, decide_eq_false hq]
              rw [hv]
              exact .nilsl _ _
          · rw [if_neg (show ¬ (n = 0 ∨ q ≤ t.u) by omega)] at hv
            simp -implicitDefEqProofs -proj only [go_sem, Nat.reduceBEq, Nat.reduceLT, Nat.reduceLeDiff, Nat.reduceAdd, Nat.reduceMul, ↓reduceIte, decide_eq_false (show ¬ (i : Int) = (x.ts.length : Int) - 1 by omega), decide_eq_false hu]
            refine LoopQ_k (i + 1) ⟨by omega, by rw [hv]; congr 1; omega⟩ (by omega) rfl ?_ trivial
            simp -implicitDefEqProofs -proj only [go_sem, Nat.reduceBEq, Nat.reduceLT, Nat.reduceLeDiff, Nat.reduceAdd, Nat.reduceMul, ↓reduceIte, AllAt, i64_succ (show i < 9223372036854775807 by omega)]
      · have hi' : i = x.ts.length := by omega
        subst hi'
        rw [Nat.sub_self] at hv
        simp -implicitDefEqProofs -proj only [go_sem, Nat.reduceBEq, Nat.reduceLT, Nat.reduceLeDiff, Nat.reduceAdd, Nat.reduceMul, ↓reduceIte, decide_eq_false (show ¬ (x.ts.length : Int) < x.ts.length by omega)]
        rw [hv]
        exact .nilsl _ _
  · rw [if_neg hk]
    simp -implicitDefEqProofs -proj only [go_sem, Nat.reduceBEq, Nat.reduceLT, Nat.reduceLeDiff, Nat.reduceAdd, Nat.reduceMul, ↓reduceIte, rowT_len, hwl, decide_eq_false hk]
    refine LoopA_k (fun y : RsX => y.i ≤ x.ts.length ∧ (keys (refB b2 x q y)).Nodup) 91 (fun y => [(50, slT x.ts), (51, i64 x.ts.length), (52, i64 y.i), (6, i64 ((x.ts.length : Int) - 1)), (1, i64 q), (2, .ptr b2 0), (5, rowV 0 3 y.c y.cap (rowS3 (refN x.ts q y.i)))]) (refB b2 x q) (fun y => x.ts.length - y.i) ⟨0, 0, 0⟩ ⟨Nat.zero_le _, n2⟩ rfl ?_ ?_ ?_
    · simp -implicitDefEqProofs -proj only [go_sem, Nat.reduceBEq, Nat.reduceLT, Nat.reduceLeDiff, Nat.reduceAdd, Nat.reduceMul, ↓reduceIte, AllAt, sx_i, sx_c, sx_cap]
      rfl
    · simp -implicitDefEqProofs -proj only [go_sem, Nat.reduceBEq, Nat.reduceLT, Nat.reduceLeDiff, Nat.reduceAdd, Nat.reduceMul, ↓reduceIte]
      exact c2
    · rintro ⟨i, c, cap⟩ ⟨hi, hn⟩
      simp -implicitDefEqProofs only [sx_i] at hi
      have hall := keepH_all hn
      obtain ⟨H, hH⟩ : ∃ H, keepH (refB b2 x q ⟨i, c, cap⟩) = H := ⟨_, rfl⟩
      rw [hH] at hall
      simp -implicitDefEqProofs only [refB, sx_i, sx_c, sx_cap] at hall hn
      obtain ⟨hrow, h2, _⟩ := AllH_app.1 hall
      simp -implicitDefEqProofs -proj only [go_sem, Nat.reduceBEq, Nat.reduceLT, Nat.reduceLeDiff, Nat.reduceAdd, Nat.reduceMul, ↓reduceIte, sx_i, sx_c, sx_cap, hH]
      by_cases h : i < x.ts.length
      · have hel := rowT_at h
        have hN := refN.eq_2 x.ts q i
        have hlen := refN_len (T := x.ts) (q := q) i
        have hlen1 := refN_len (T := x.ts) (q := q) (i + 1)
        have hu := uAt_eq h
        have hr := rAt_eq h
        rw [← hu, ← hr] at hel
        clear hu hr
        generalize hR : refN x.ts q i = R at *
        generalize hR1 : refN x.ts q (i + 1) = R1 at *
        have hhi : hiR x.ts q i = if i + 1 < x.ts.length ∧ uAt x.ts i < q then uAt x.ts i else q := rfl
        generalize hiR x.ts q i = hi' at *
        generalize uAt x.ts i = u at *
        generalize rAt x.ts i = r at *
        simp -implicitDefEqProofs -proj only [go_sem, Nat.reduceBEq, Nat.reduceLT, Nat.reduceLeDiff, Nat.reduceAdd, Nat.reduceMul, ↓reduceIte, decide_eq_true (show (i : Int) < x.ts.length by omega)]
        refine ElemA_at _ (by omega) hel ?_
        simp -implicitDefEqProofs -proj only [go_sem, Nat.reduceBEq, Nat.reduceLT, Nat.reduceLeDiff, Nat.reduceAdd, Nat.reduceMul, ↓reduceIte]
        refine AllocA_intro (fun b10 hb10 => ?_)
        replace hb10 : H b10 = none := hb10
        obtain ⟨m1, m2⟩ := fresh_ne hb10 h2
        by_cases h0 : i = 0
        · have hlow : lowR x.ts i = 0 := if_pos h0
          rw [hlow] at hN
          simp -implicitDefEqProofs -proj only [go_sem, Nat.reduceBEq, Nat.reduceLT, Nat.reduceLeDiff, Nat.reduceAdd, Nat.reduceMul, ↓reduceIte, m1, h2, decide_eq_false (show ¬ 0 < (i : Int) by omega)]
          by_cases g1 : i + 1 < x.ts.length
          · by_cases g2 : u < q
            · rw [if_pos ⟨g1, g2⟩] at hhi
              rw [hhi] at hN
              simp -implicitDefEqProofs -proj only [go_sem, Nat.reduceBEq, Nat.reduceLT, Nat.reduceLeDiff, Nat.reduceAdd, Nat.reduceMul, ↓reduceIte, m1, h2, decide_eq_true (show (i : Int) < (x.ts.length : Int) - 1 by omega), decide_eq_true g2]
              by_cases hem : 0 < u
              · rw [if_pos hem] at hN
                simp -implicitDefEqProofs -proj only [go_sem, Nat.reduceBEq, Nat.reduceLT, Nat.reduceLeDiff, Nat.reduceAdd, Nat.reduceMul, ↓reduceIte, m1, h2, decide_eq_true hem]
                refine AllocR_intro (fun bs hs => ?_)
                replace hs : upd H b10 _ bs = none := hs
                simp -implicitDefEqProofs -proj only [go_sem, Nat.reduceBEq, Nat.reduceLT, Nat.reduceLeDiff, Nat.reduceAdd, Nat.reduceMul, ↓reduceIte]
                refine AppendA_grow (xs := rowS3 R) (y := [.int .i64 0, .int .i64 u, .int .i64 r]) (t := 136) (capc := 1) [(b2, .box 39 [i64 x.me, i64 x.f, i64 x.t, i64 x.al, i64 x.bl, i64 x.ki, slT x.ts, i64 x.mo, slA x.ad])] rfl (AllH_upd hs (AllH_upd hb10 hall)) hn (by simp -implicitDefEqProofs -proj only [go_sem, Nat.reduceBEq, Nat.reduceLT, Nat.reduceLeDiff, Nat.reduceAdd, Nat.reduceMul, ↓reduceIte]) (by rw [rowS3_len]; omega) (by rw [rowS3_len]; omega) (fun H' c' cap' ha hk => ?_)
                rw [show rowS3 R ++ [[.int .i64 0, .int .i64 u, .int .i64 r]] = rowS3 R1 by rw [hN]; simp [rowS3, TStep.el]] at ha hk
                have hne : rowS3 R1 ≠ [] := by rw [hN]; simp [rowS3]
                have hl1 : (rowS3 R1).length = (rowS3 R).length + 1 := by rw [hN]; simp [rowS3]
                simp -implicitDefEqProofs -proj only [go_sem, Nat.reduceBEq, Nat.reduceLT, Nat.reduceLeDiff, Nat.reduceAdd, Nat.reduceMul, ↓reduceIte]
                refine LoopQ_k ⟨i + 1, c', cap'⟩ ⟨by show i + 1 ≤ x.ts.length; omega, by simp -implicitDefEqProofs only [refB, sx_i, sx_c, sx_cap, hR1]; exact hk⟩ (by show x.ts.length - (i + 1) < x.ts.length - i; omega) rfl ?_ (by simp -implicitDefEqProofs only [refB, sx_i, sx_c, sx_cap, hR1]; exact ha)
                simp -implicitDefEqProofs -proj only [go_sem, Nat.reduceBEq, Nat.reduceLT, Nat.reduceLeDiff, Nat.reduceAdd, Nat.reduceMul, ↓reduceIte, AllAt, sx_i, sx_c, sx_cap, i64_succ (show i < 9223372036854775807 by omega), hR1, rowV_ne hne, hl1]
              · rw [if_neg hem] at hN
                simp -implicitDefEqProofs -proj only [go_sem, Nat.reduceBEq, Nat.reduceLT, Nat.reduceLeDiff, Nat.reduceAdd, Nat.reduceMul, ↓reduceIte, m1, h2, decide_eq_false hem]
                refine LoopQ_k ⟨i + 1, c, cap⟩ ⟨by show i + 1 ≤ x.ts.length; omega, by simp -implicitDefEqProofs only [refB, sx_i, sx_c, sx_cap, hR1, hN]; exact hn⟩ (by show x.ts.length - (i + 1) < x.ts.length - i; omega) rfl ?_ (by simp -implicitDefEqProofs only [refB, sx_i, sx_c, sx_cap, hR1, hN]; exact AllH_upd hb10 hall)
                simp -implicitDefEqProofs -proj only [go_sem, Nat.reduceBEq, Nat.reduceLT, Nat.reduceLeDiff, Nat.reduceAdd, Nat.reduceMul, ↓reduceIte, AllAt, sx_i, sx_c, sx_cap, i64_succ (show i < 9223372036854775807 by omega), hR1, hN]
            · rw [if_neg (fun h => g2 h.2)] at hhi
              rw [hhi] at hN
              simp -implicitDefEqProofs -proj only [go_sem, Nat.reduceBEq, Nat.reduceLT, Nat.reduceLeDiff, Nat.reduceAdd, Nat.reduceMul, ↓reduceIte, m1, h2, decide_eq_true (show (i : Int) < (x.ts.length : Int) - 1 by omega), decide_eq_false g2]
              by_cases hem : 0 < q
              · rw [if_pos hem] at hN
                simp -implicitDefEqProofs -proj only [go_sem, Nat.reduceBEq, Nat.reduceLT, Nat.reduceLeDiff, Nat.reduceAdd, Nat.reduceMul, ↓reduceIte, m1, h2, decide_eq_true hem]
                refine AllocR_intro (fun bs hs => ?_)
                replace hs : upd H b10 _ bs = none := hs
                simp -implicitDefEqProofs -proj only [go_sem, Nat.reduceBEq, Nat.reduceLT, Nat.reduceLeDiff, Nat.reduceAdd, Nat.reduceMul, ↓reduceIte]
                refine AppendA_grow (xs := rowS3 R) (y := [.int .i64 0, .int .i64 q, .int .i64 r]) (t := 136) (capc := 1) [(b2, .box 39 [i64 x.me, i64 x.f, i64 x.t, i64 x.al, i64 x.bl, i64 x.ki, slT x.ts, i64 x.mo, slA x.ad])] rfl (AllH_upd hs (AllH_upd hb10 hall)) hn (by simp -implicitDefEqProofs -proj only [go_sem, Nat.reduceBEq, Nat.reduceLT, Nat.reduceLeDiff, Nat.reduceAdd, Nat.reduceMul, ↓reduceIte]) (by rw [rowS3_len]; omega) (by rw [rowS3_len]; omega) (fun H' c' cap' ha hk => ?_)
                rw [show rowS3 R ++ [[.int .i64 0, .int .i64 q, .int .i64 r]] = rowS3 R1 by rw [hN]; simp [rowS3, TStep.el]] at ha hk
                have hne : rowS3 R1 ≠ [] := by rw [hN]; simp [rowS3]
                have hl1 : (rowS3 R1).length = (rowS3 R).length + 1 := by rw [hN]; simp [rowS3]
                simp -implicitDefEqProofs -proj only [go_sem, Nat.reduceBEq, Nat.reduceLT, Nat.reduceLeDiff, Nat.reduceAdd, Nat.reduceMul, ↓reduceIte]
                refine LoopQ_k ⟨i + 1, c', cap'⟩ ⟨by show i + 1 ≤ x.ts.length; omega, by simp -implicitDefEqProofs only [refB, sx_i, sx_c, sx_cap, hR1]; exact hk⟩ (by show x.ts.length - (i + 1) < x.ts.length - i; omega) rfl ?_ (by simp -implicitDefEqProofs only [refB, sx_i, sx_c, sx_cap, hR1]; exact ha)
                simp -implicitDefEqProofs -proj only [go_sem, Nat.reduceBEq, Nat.reduceLT, Nat.reduceLeDiff, Nat.reduceAdd, Nat.reduceMul, ↓reduceIte, AllAt, sx_i, sx_c, sx_cap, i64_succ (show i < 9223372036854775807 by omega), hR1, rowV_ne hne, hl1]
              · rw [if_neg hem] at hN
                simp -implicitDefEqProofs -proj only [go_sem, Nat.reduceBEq, Nat.reduceLT, Nat.reduceLeDiff, Nat.reduceAdd, Nat.reduceMul, ↓reduceIte, m1, h2, decide_eq_false hem]
                refine LoopQ_k ⟨i + 1, c, cap⟩ ⟨by show i + 1 ≤ x.ts.length; omega, by simp -implicitDefEqProofs only [refB, sx_i, sx_c, sx_cap, hR1, hN]; exact hn⟩ (by show x.ts.length - (i + 1) < x.ts.length - i; omega) rfl ?_ (by simp -implicitDefEqProofs only [refB, sx_i, sx_c, sx_cap, hR1, hN]; exact AllH_upd hb10 hall)
                simp -implicitDefEqProofs -proj only [go_sem, Nat.reduceBEq, Nat.reduceLT, Nat.reduceLeDiff, Nat.reduceAdd, Nat.reduceMul, ↓reduceIte, AllAt, sx_i, sx_c, sx_cap, i64_succ (show i < 9223372036854775807 by omega), hR1, hN]
          · rw [if_neg (fun h => g1 h.1)] at hhi
            rw [hhi] at hN
            simp -implicitDefEqProofs -proj only [go_sem, Nat.reduceBEq, Nat.reduceLT, Nat.reduceLeDiff, Nat.reduceAdd, Nat.reduceMul, ↓reduceIte, m1, h2, decide_eq_false (show ¬ (i : Int) < (x.ts.length : Int) - 1 by omega)]
            by_cases hem : 0 < q
            · rw [if_pos hem] at hN
              simp -implicitDefEqProofs -proj only [go_sem, Nat.reduceBEq, Nat.reduceLT, Nat.reduceLeDiff, Nat.reduceAdd, Nat.reduceMul, ↓reduceIte, m1, h2, decide_eq_true hem]
              refine AllocR_intro (fun bs hs => ?_)
              replace hs : upd H b10 _ bs = none := hs
              simp -implicitDefEqProofs -proj only [go_sem, Nat.reduceBEq, Nat.reduceLT, Nat.reduceLeDiff, Nat.reduceAdd, Nat.reduceMul, ↓reduceIte]
              refine AppendA_grow (xs := rowS3 R) (y := [.int .i64 0, .int .i64 q, .int .i64 r]) (t := 136) (capc := 1) [(b2, .box 39 [i64 x.me, i64 x.f, i64 x.t, i64 x.al, i64 x.bl, i64 x.ki, slT x.ts, i64 x.mo, slA x.ad])] rfl (AllH_upd hs (AllH_upd hb10 hall)) hn (by simp -implicitDefEqProofs -proj only [go_sem, Nat.reduceBEq, Nat.reduceLT, Nat.reduceLeDiff, Nat.reduceAdd, Nat.reduceMul, ↓reduceIte]) (by rw [rowS3_len]; omega) (by rw [rowS3_len]; omega) (fun H' c' cap' ha hk => ?_)
              rw [show rowS3 R ++ [[.int .i64 0, .int .i64 q, .int .i64 r]] = rowS3 R1 by rw [hN]; simp [rowS3, TStep.el]] at ha hk
              have hne : rowS3 R1 ≠ [] := by rw [hN]; simp [rowS3]
              have hl1 : (rowS3 R1).length = (rowS3 R).length + 1 := by rw [hN]; simp [rowS3]
              simp -implicitDefEqProofs -proj only [go_sem, Nat.reduceBEq, Nat.reduceLT, Nat.reduceLeDiff, Nat.reduceAdd, Nat.reduceMul, ↓reduceIte]
              refine LoopQ_k ⟨i + 1, c', cap'⟩ ⟨by show i + 1 ≤ x.ts.length; omega, by simp -implicitDefEqProofs only [refB, sx_i, sx_c, sx_cap, hR1]; exact hk⟩ (by show x.ts.length - (i + 1) < x.ts.length - i; omega) rfl ?_ (by simp -implicitDefEqProofs only [refB, sx_i, sx_c, sx_cap, hR1]; exact ha)
              simp -implicitDefEqProofs -proj only [go_sem, Nat.reduceBEq, Nat.reduceLT, Nat.reduceLeDiff, Nat.reduceAdd, Nat.reduceMul, ↓reduceIte, AllAt, sx_i, sx_c, sx_cap, i64_succ (show i < 9223372036854775807 by omega), hR1, rowV_ne hne, hl1]
            · rw [if_neg hem] at hN
              simp -implicitDefEqProofs -proj only [go_sem, Nat.reduceBEq, Nat.reduceLT, Nat.reduceLeDiff, Nat.reduceAdd, Nat.reduceMul, ↓reduceIte, m1, h2, decide_eq_false hem]
              refine LoopQ_k ⟨i + 1, c, cap⟩ ⟨by show i + 1 ≤ x.ts.length; omega, by simp -implicitDefEqProofs only [refB, sx_i, sx_c, sx_cap, hR1, hN]; exact hn⟩ (by show x.ts.length - (i + 1) < x.ts.length - i; omega) rfl ?_ (by simp -implicitDefEqProofs only [refB, sx_i, sx_c, sx_cap, hR1, hN]; exact AllH_upd hb10 hall)
              simp -implicitDefEqProofs -proj only [go_sem, Nat.reduceBEq, Nat.reduceLT, Nat.reduceLeDiff, Nat.reduceAdd, Nat.reduceMul, ↓reduceIte, AllAt, sx_i, sx_c, sx_cap, i64_succ (show i < 9223372036854775807 by omega), hR1, hN]
        · have hep := rowT_at (l := x.ts) (i := i - 1) (by omega)
          have wi : IntKind.i64.wrap ((i : Int) - 1) = ((i - 1 : Nat) : Int) := by rw [IntKind.wrap_i64]; omega
          have hlow : lowR x.ts i = uAt x.ts (i - 1) := if_neg h0
          rw [← uAt_eq (show i - 1 < x.ts.length by omega)] at hep
          rw [hlow] at hN
          generalize uAt x.ts (i - 1) = lo at *
          simp -implicitDefEqProofs -proj only [go_sem, Nat.reduceBEq, Nat.reduceLT, Nat.reduceLeDiff, Nat.reduceAdd, Nat.reduceMul, ↓reduceIte, m1, h2, decide_eq_true (show 0 < (i : Int) by omega), wi]
          (repeat' (with_reducible refine VC_intro ?_ (fun h => ?_); (focus first | decide | omega); clear h; try simp -implicitDefEqProofs -proj only [go_sem, Nat.reduceBEq, Nat.reduceLT, Nat.reduceLeDiff, Nat.reduceAdd, Nat.reduceMul, ↓reduceIte, wi]))
          refine ElemA_at _ (by omega) hep ?_
          simp -implicitDefEqProofs -proj only [go_sem, Nat.reduceBEq, Nat.reduceLT, Nat.reduceLeDiff, Nat.reduceAdd, Nat.reduceMul, ↓reduceIte, m1, h2]
          by_cases g1 : i + 1 < x.ts.length
          · by_cases g2 : u < q
            · rw [if_pos ⟨g1, g2⟩] at hhi
              rw [hhi] at hN
              simp -implicitDefEqProofs -proj only [go_sem, Nat.reduceBEq, Nat.reduceLT, Nat.reduceLeDiff, Nat.reduceAdd, Nat.reduceMul, ↓reduceIte, m1, h2, decide_eq_true (show (i : Int) < (x.ts.length : Int) - 1 by omega), decide_eq_true g2]
              by_cases hem : lo < u
              · rw [if_pos hem] at hN
                simp -implicitDefEqProofs -proj only [go_sem, Nat.reduceBEq, Nat.reduceLT, Nat.reduceLeDiff, Nat.reduceAdd, Nat.reduceMul, ↓reduceIte, m1, h2, decide_eq_true hem]
                refine AllocR_intro (fun bs hs => ?_)
                replace hs : upd H b10 _ bs = none := hs
                simp -implicitDefEqProofs -proj only [go_sem, Nat.reduceBEq, Nat.reduceLT, Nat.reduceLeDiff, Nat.reduceAdd, Nat.reduceMul, ↓reduceIte]
                refine AppendA_grow (xs := rowS3 R) (y := [.int .i64 lo, .int .i64 u, .int .i64 r]) (t := 136) (capc := 1) [(b2, .box 39 [i64 x.me, i64 x.f, i64 x.t, i64 x.al, i64 x.bl, i64 x.ki, slT x.ts, i64 x.mo, slA x.ad])] rfl (AllH_upd hs (AllH_upd hb10 hall)) hn (by simp -implicitDefEqProofs -proj only [go_sem, Nat.reduceBEq, Nat.reduceLT, Nat.reduceLeDiff, Nat.reduceAdd, Nat.reduceMul, ↓reduceIte]) (by rw [rowS3_len]; omega) (by rw [rowS3_len]; omega) (fun H' c' cap' ha hk => ?_)
                rw [show rowS3 R ++ [[.int .i64 lo, .int .i64 u, .int .i64 r]] = rowS3 R1 by rw [hN]; simp [rowS3, TStep.el]] at ha hk
                have hne : rowS3 R1 ≠ [] := by rw [hN]; simp [rowS3]
                have hl1 : (rowS3 R1).length = (rowS3 R).length + 1 := by rw [hN]; simp [rowS3]
                simp -implicitDefEqProofs -proj only [go_sem, Nat.reduceBEq, Nat.reduceLT, Nat.reduceLeDiff, Nat.reduceAdd, Nat.reduceMul, ↓reduceIte]
                refine LoopQ_k ⟨i + 1, c', cap'⟩ ⟨by show i + 1 ≤ x.ts.length; omega, by simp -implicitDefEqProofs only [refB, sx_i, sx_c, sx_cap, hR1]; exact hk⟩ (by show x.ts.length - (i + 1) < x.ts.length - i; omega) rfl ?_ (by simp -implicitDefEqProofs only [refB, sx_i, sx_c, sx_cap, hR1]; exact ha)
                simp -implicitDefEqProofs -proj only [go_sem, Nat.reduceBEq, Nat.reduceLT, Nat.reduceLeDiff, Nat.reduceAdd, Nat.reduceMul, ↓reduceIte, AllAt, sx_i, sx_c, sx_cap, i64_succ (show i < 9223372036854775807 by omega), hR1, rowV_ne hne, hl1]
              · rw [if_neg hem] at hN
                simp -implicitDefEqProofs -proj only [go_sem, Nat.reduceBEq, Nat.reduceLT, Nat.reduceLeDiff, Nat.reduceAdd, Nat.reduceMul, ↓reduceIte, m1, h2, decide_eq_false hem]
                refine LoopQ_k ⟨i + 1, c, cap⟩ ⟨by show i + 1 ≤ x.ts.length; omega, by simp -implicitDefEqProofs only [refB, sx_i, sx_c, sx_cap, hR1, hN]; exact hn⟩ (by show x.ts.length - (i + 1) < x.ts.length - i; omega) rfl ?_ (by simp -implicitDefEqProofs only [refB, sx_i, sx_c, sx_cap, hR1, hN]; exact AllH_upd hb10 hall)
                simp -implicitDefEqProofs -proj only [go_sem, Nat.reduceBEq, Nat.reduceLT, Nat.reduceLeDiff, Nat.reduceAdd, Nat.reduceMul, ↓reduceIte, AllAt, sx_i, sx_c, sx_cap, i64_succ (show i < 9223372036854775807 by omega), hR1, hN]
            · rw [if_neg (fun h => g2 h.2)] at hhi
              rw [hhi] at hN
              simp -implicitDefEqProofs -proj only [go_sem, Nat.reduceBEq, Nat.reduceLT, Nat.reduceLeDiff, Nat.reduceAdd, Nat.reduceMul, ↓reduceIte, m1, h2, decide_eq_true (show (i : Int) < (x.ts.length : Int) - 1 by omega), decide_eq_false g2]
              by_cases hem : lo < q
              · rw [if_pos hem] at hN
                simp -implicitDefEqProofs -proj only [go_sem, Nat.reduceBEq, Nat.reduceLT, Nat.reduceLeDiff, Nat.reduceAdd, Nat.reduceMul, ↓reduceIte, m1, h2, decide_eq_true hem]
                refine AllocR_intro (fun bs hs => ?_)
                replace hs : upd H b10 _ bs = none := hs
                simp -implicitDefEqProofs -proj only [go_sem, Nat.reduceBEq, Nat.reduceLT, Nat.reduceLeDiff, Nat.reduceAdd, Nat.reduceMul, ↓reduceIte]
                refine AppendA_grow (xs := rowS3 R) (y := [.int .i64 lo, .int .i64 q, .int .i64 r]) (t := 136) (capc := 1) [(b2, .box 39 [i64 x.me, i64 x.f, i64 x.t, i64 x.al, i64 x.bl, i64 x.ki, slT x.ts, i64 x.mo, slA x.ad])] rfl (AllH_upd hs (AllH_upd hb10 hall)) hn (by simp -implicitDefEqProofs -proj only [go_sem, Nat.reduceBEq, Nat.reduceLT, Nat.reduceLeDiff, Nat.reduceAdd, Nat.reduceMul, ↓reduceIte]) (by rw [rowS3_len]; omega) (by rw [rowS3_len]; omega) (fun H' c' cap' ha hk => ?_)
                rw [show rowS3 R ++ [[.int .i64 lo, .int .i64 q, .int .i64 r]] = rowS3 R1 by rw [hN]; simp [rowS3, TStep.el]] at ha hk
                have hne : rowS3 R1 ≠ [] := by rw [hN]; simp [rowS3]
                have hl1 : (rowS3 R1).length = (rowS3 R).length + 1 := by rw [hN]; simp [rowS3]
                simp -implicitDefEqProofs -proj only [go_sem, Nat.reduceBEq, Nat.reduceLT, Nat.reduceLeDiff, Nat.reduceAdd, Nat.reduceMul, ↓reduceIte]
                refine LoopQ_k ⟨i + 1, c', cap'⟩ ⟨by show i + 1 ≤ x.ts.length; omega, by simp -implicitDefEqProofs only [refB, sx_i, sx_c, sx_cap, hR1]; exact hk⟩ (by show x.ts.length - (i + 1) < x.ts.length - i; omega) rfl ?_ (by simp -implicitDefEqProofs only [refB, sx_i, sx_c, sx_cap, hR1]; exact ha)
                simp -implicitDefEqProofs -proj only [go_sem, Nat.reduceBEq, Nat.reduceLT, Nat.reduceLeDiff, Nat.reduceAdd, Nat.reduceMul, ↓reduceIte, AllAt, sx_i, sx_c, sx_cap, i64_succ (show i < 9223372036854775807 by omega), hR1, rowV_ne hne, hl1]
              · rw [if_neg hem] at hN
                simp -implicitDefEqProofs -proj only [go_sem, Nat.reduceBEq, Nat.reduceLT, Nat.reduceLeDiff, Nat.reduceAdd, Nat.reduceMul, ↓reduceIte, m1, h2, decide_eq_false hem]
                refine LoopQ_k ⟨i + 1, c, cap⟩ ⟨by show i + 1 ≤ x.ts.length; omega, by simp -implicitDefEqProofs only [refB, sx_i, sx_c, sx_cap, hR1, hN]; exact hn⟩ (by show x.ts.length - (i + 1) < x.ts.length - i; omega) rfl ?_ (by simp -implicitDefEqProofs only [refB, sx_i, sx_c, sx_cap, hR1, hN]; exact AllH_upd hb10 hall)
                simp -implicitDefEqProofs -proj only [go_sem, Nat.reduceBEq, Nat.reduceLT, Nat.reduceLeDiff, Nat.reduceAdd, Nat.reduceMul, ↓reduceIte, AllAt, sx_i, sx_c, sx_cap, i64_succ (show i < 9223372036854775807 by omega), hR1, hN]
          · rw [if_neg (fun h => g1 h.1)] at hhi
            rw [hhi] at hN
            simp -implicitDefEqProofs -proj only [go_sem, Nat.reduceBEq, Nat.reduceLT, Nat.reduceLeDiff, Nat.reduceAdd, Nat.reduceMul, ↓reduceIte, m1, h2, decide_eq_false (show ¬ (i : Int) < (x.ts.length : Int) - 1 by omega)]
            by_cases hem : lo < q
            · rw [if_pos hem] at hN
              simp -implicitDefEqProofs -proj only [go_sem, Nat.reduceBEq, Nat.reduceLT, Nat.reduceLeDiff, Nat.reduceAdd, Nat.reduceMul, ↓reduceIte, m1, h2, decide_eq_true hem]
              refine AllocR_intro (fun bs hs => ?_)
              replace hs : upd H b10 _ bs = none := hs
              simp -implicitDefEqProofs -proj only [go_sem, Nat.reduceBEq, Nat.reduceLT, Nat.reduceLeDiff, Nat.reduceAdd, Nat.reduceMul, ↓reduceIte]
              refine AppendA_grow (xs := rowS3 R) (y := [.int .i64 lo, .int .i64 q, .int .i64 r]) (t := 136) (capc := 1) [(b2, .box 39 [i64 x.me, i64 x.f, i64 x.t, i64 x.al, i64 x.bl, i64 x.ki, slT x.ts, i64 x.mo, slA x.ad])] rfl (AllH_upd hs (AllH_upd hb10 hall)) hn (by simp -implicitDefEqProofs -proj only [go_sem, Nat.reduceBEq, Nat.reduceLT, Nat.reduceLeDiff, Nat.reduceAdd, Nat.reduceMul, ↓reduceIte]) (by rw [rowS3_len]; omega) (by rw [rowS3_len]; omega) (fun H' c' cap' ha hk => ?_)
              rw [show rowS3 R ++ [[.int .i64 lo, .int .i64 q, .int .i64 r]] = rowS3 R1 by rw [hN]; simp [rowS3, TStep.el]] at ha hk
              have hne : rowS3 R1 ≠ [] := by rw [hN]; simp [rowS3]
              have hl1 : (rowS3 R1).length = (rowS3 R).length + 1 := by rw [hN]; simp [rowS3]
              simp -implicitDefEqProofs -proj only [go_sem, Nat.reduceBEq, Nat.reduceLT, Nat.reduceLeDiff, Nat.reduceAdd, Nat.reduceMul, ↓reduceIte]
              refine LoopQ_k ⟨i + 1, c', cap'⟩ ⟨by show i + 1 ≤ x.ts.length; omega, by simp -implicitDefEqProofs only [refB, sx_i, sx_c, sx_cap, hR1]; exact hk⟩ (by show x.ts.length - (i + 1) < x.ts.length - i; omega) rfl ?_ (by simp -implicitDefEqProofs only [refB, sx_i, sx_c, sx_cap, hR1]; exact ha)
              simp -implicitDefEqProofs -proj only [go_sem, Nat.reduceBEq, Nat.reduceLT, Nat.reduceLeDiff, Nat.reduceAdd, Nat.reduceMul, ↓reduceIte, AllAt, sx_i, sx_c, sx_cap, i64_succ (show i < 9223372036854775807 by omega), hR1, rowV_ne hne, hl1]
            · rw [if_neg hem] at hN
              simp -implicitDefEqProofs -proj only [go_sem, Nat.reduceBEq, Nat.reduceLT, Nat.reduceLeDiff, Nat.reduceAdd, Nat.reduceMul, ↓reduceIte, m1, h2, decide_eq_false hem]
              refine LoopQ_k ⟨i + 1, c, cap⟩ ⟨by show i + 1 ≤ x.ts.length; omega, by simp -implicitDefEqProofs only [refB, sx_i, sx_c, sx_cap, hR1, hN]; exact hn⟩ (by show x.ts.length - (i + 1) < x.ts.length - i; omega) rfl ?_ (by simp -implicitDefEqProofs only [refB, sx_i, sx_c, sx_cap, hR1, hN]; exact AllH_upd hb10 hall)
              simp -implicitDefEqProofs -proj only [go_sem, Nat.reduceBEq, Nat.reduceLT, Nat.reduceLeDiff, Nat.reduceAdd, Nat.reduceMul, ↓reduceIte, AllAt, sx_i, sx_c, sx_cap, i64_succ (show i < 9223372036854775807 by omega), hR1, hN]
      · have hi' : i = x.ts.length := by omega
        subst hi'
        simp -implicitDefEqProofs -proj only [go_sem, Nat.reduceBEq, Nat.reduceLT, Nat.reduceLeDiff, Nat.reduceAdd, Nat.reduceMul, ↓reduceIte, decide_eq_false (show ¬ (x.ts.length : Int) < x.ts.length by omega)]
        exact rowV_new hrow rowS3_scal
end Go.Proofs.Ytlflfciebidddaa.Abs
