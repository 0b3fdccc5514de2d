/- The package tiers: what is left of a quantity, and its steps. No claim stands here. -/
import Derived.Test.YtlflfciebidddaaKGood2
import Derived.Test.YtlflfciebidddaaKExact
set_option linter.unusedSimpArgs false
set_option linter.unusedVariables false
namespace Go.Proofs.Ytlflfciebidddaa.Abs
open Go Go.RowKit Go.Proofs
attribute [local go_sem] RunC_seq AF_n AF_r AF_b St_n St_t St_H Fst_mk Snd_mk RunC_ops RunC_cond RunC_block RunC_loop RunC_exit RunC_ret RunC_skip RunO_nil RunO_code RunO_code_ret RunO_code_exit RunO_blk RunO_blk_ret RunO_blk_exit RunL_nil RunL_guard GuardA_tt GuardA_ff GuardA_tf GuardA_ft GuardA_void CondA_t CondA_f PickA_t PickA_f RunL_mov RunL_pick RunL_alloc RunL_box RunL_load LoadA_ptr LoadB_1 LoadB_n LoadA_dptr LoadA_dptr_n RunL_store StoreA_ptr StoreB_box RunL_bin Bin_add Bin_sub Bin_mul Bin_quo Bin_rem Bin_shl Bin_shr Bin_andI Bin_orI Bin_xorI Bin_eql Bin_neq Bin_lss Bin_leq Bin_gtr Bin_geq RunL_binb Bin_beql Bin_bneq RunL_un UnA_not UnA_neg RunL_conv convV MapA_some RunL_nilCheck nilV RunL_mkfn RunL_fieldAddr faV RunL_field FieldA_1 FieldA_n RunL_elemAddr EAddrA_sl EAddrA_own EptrA_eq RunL_build BuildA_some RunL_extract ExtA_eq RunL_len lenV_sl lenV_nilsl lenV_own RunL_slen RunL_idxStr IdxSA_eq slenV RunL_minmax mmV minmaxL RunL_call RunL_callv CallvA_fn putS ev evL evO evP eqK eqKs EqB_agg RunL_eqAgg EqA_t EqA_f evQ buildC fits_agg cellsAV_agg fits_d cellsAV_d fits_nilp cellsAV_nilp fits_nilsl cellsAV_nilsl fits_nilfn cellsAV_nilfn fits_ptr cellsAV_ptr fits_eptr cellsAV_eptr fits_dptr cellsAV_dptr fits_own cellsAV_own fits_fn cellsAV_fn rowV_fits rowV_cells rowV_len lenAV setSeg nth seg mapD repeatL putT_get upd_get argT keepT_cons keepT_nil keepH_cons keepH_nil cond_true cond_false VC_true finW resW resL resOne LoopQ_exit LoopQ_ret List.cons_append List.nil_append Bool.not_true Bool.not_false Bool.and_true Bool.and_self Nat.lt_add_left_iff_pos Nat.zero_add Nat.add_zero List.drop_succ_cons List.drop_zero List.take_succ_cons List.take_zero beq_self_eq_true Bool.false_eq_true RunC_dops RunL_loadS RunL_loadD LoadDA_dptr RunL_storeS StoreSA_ptr RunL_pcall RunL_pcallv PCallvA_fn newsOk and_self and_true true_and loadW_ptr LoadK_1 LoadK_n upd_upd RunL_loadP LoadPA_ptr RunL_callS RunL_make RunL_buildSlice BSliceA_some RunL_buildSliceD frzL frz cutL LoadA_eptr LoadE_row RunL_append RunL_slice SliceA_sl StoreA_eptr List.length_cons List.length_nil Nat.min_def Int.cast_ofNat_Int Int.natCast_zero Int.natCast_one decide_true decide_false List.getElem?_cons_zero List.getElem?_cons_succ RunC_rangef CallvA_yld putL_nil putL_cons RangeQ_exit RangeQ_ret
/-- A step: from a quantity to another one, at a rate. -/
structure TStep where
  f : Int
  t : Int
  r : Int
abbrev TStep.av (s : TStep) : AV := .agg [i64 s.f, i64 s.t, i64 s.r]
def TStep.el (s : TStep) : List D := [.int .i64 s.f, .int .i64 s.t, .int .i64 s.r]
def rowS3 (l : List TStep) : List (List D) := l.map TStep.el
theorem rowS3_len {l : List TStep} : (rowS3 l).length = l.length := List.length_map ..
abbrev slS3 (l : List TStep) : AV := .d (.sl 3 (rowS3 l))
abbrev stepArgs (l : List TStep) : List (List AV) := l.map fun s => [s.av]
/-- The steps by the first so many tiers, and how far they reach. -/
def toG (T : List Tier) (q : Int) (i : Nat) (t : Tier) : Int := if i + 1 < T.length then min q t.u else q
def gradN (T : List Tier) (q : Int) : Nat → Int × List TStep
  | 0 => (0, [])
  | i + 1 => match T[i]? with
    | some t => (max (gradN T q i).1 (toG T q i t), if (gradN T q i).1 < toG T q i t then (gradN T q i).2 ++ [⟨(gradN T q i).1, toG T q i t, t.r⟩] else (gradN T q i).2)
    | none => gradN T q i
def gradL (T : List Tier) (q : Int) : List TStep := (gradN T q T.length).2
theorem gradN_pre {T : List Tier} {q : Int} : ∀ (n i : Nat), ∃ rest, (gradN T q (i + n)).2 = (gradN T q i).2 ++ rest
  | 0, i => ⟨[], by simp⟩
  | n + 1, i => by
    obtain ⟨rest, h⟩ := gradN_pre (T := T) (q := q) n i
    rw [← Nat.add_assoc, gradN]
    split
    · simp -implicitDefEqProofs only []
      split
      · exact ⟨rest ++ [_], by rw [h, List.append_assoc]⟩
      · exact ⟨rest, h⟩
    · exact ⟨rest, h⟩
theorem gradL_pre {T : List Tier} {q : Int} {i : Nat} (h : i ≤ T.length) : ∃ rest, gradL T q = (gradN T q i).2 ++ rest := by
  obtain ⟨rest, hr⟩ := gradN_pre (T := T) (q := q) (T.length - i) i
  exact ⟨rest, by rw [← hr, gradL]; congr 2; omega⟩
theorem Quant_ok {x : PartX} {q : Int} (hx : x.Fit) (hq : Fit q) (ha : 0 ≤ x.al) (hb : 1 ≤ x.bl) : DataW Try.prog f_tiers_Quantity [partV x, i64 q] (if q < 0 then .tup [i64 0, bv false] else fitR (rnd (max (q - x.al) 0) x.bl 1 * x.bl)) := by
  refine CallW_intro comp_tiers_Quantity (by simp) ?_
  simp -implicitDefEqProofs -proj only [go_sem, Nat.reduceBEq, Nat.reduceLT, Nat.reduceLeDiff, Nat.reduceAdd, Nat.reduceMul, ↓reduceIte]
  refine AllocA_intro (fun b2 hb2 => ?_)
  by_cases h : q < 0
  · rw [if_pos h]
    simp -implicitDefEqProofs -proj only [go_sem, Nat.reduceBEq, Nat.reduceLT, Nat.reduceLeDiff, Nat.reduceAdd, Nat.reduceMul, ↓reduceIte, decide_eq_true h]
    exact LendV_eq rfl
  · rw [if_neg h]
    have hal := hx.al
    unfold Fit at hal hq
    have hw : IntKind.i64.wrap (q - x.al) = q - x.al := by rw [IntKind.wrap_i64]; omega
    have hup := Up_ok (a := max (q - x.al) 0) (c := x.bl) (by unfold Fit; omega) hx.bl
    rw [upR, if_pos (by omega)] at hup
    simp -implicitDefEqProofs -proj only [go_sem, Nat.reduceBEq, Nat.reduceLT, Nat.reduceLeDiff, Nat.reduceAdd, Nat.reduceMul, ↓reduceIte, decide_eq_false h, decide_eq_false (show ¬ x.al < 0 by omega), decide_eq_false (show ¬ x.bl < 1 by omega), hw]
    refine CallA_pure hup ?_
    unfold fitR
    simp -implicitDefEqProofs -proj only [go_sem, Nat.reduceBEq, Nat.reduceLT, Nat.reduceLeDiff, Nat.reduceAdd, Nat.reduceMul, ↓reduceIte]
    exact LendV_eq rfl
theorem Grad1_iter {b2 b3 : Nat} {T : List Tier} {q : Int} (hl : T.length ≤ 1000000) : IterW Try.prog f_tiers_graduated_1 [.ptr b2 0, .ptr b3 0] [(b2, .box 36 [slT T]), (b3, .box 3 [i64 q])] (stepArgs (gradL T q)) := by
  intro y H J X hA hS hY h0
  refine CallW_intro comp_tiers_graduated_1 (by simp) ?_
  have hb := (hA [] H h0).1
  simp -implicitDefEqProofs -proj only [go_sem, Nat.reduceBEq, Nat.reduceLT, Nat.reduceLeDiff, Nat.reduceAdd, Nat.reduceMul, ↓reduceIte, hb, rowT_len]
  refine LoopA_rule (fun x : Nat × Heap => x.1 ≤ T.length ∧ J (stepArgs (gradN T q x.1).2) x.2) (fun x => ⟨42, keepT [(0, .yld y), (1, .ptr b2 0), (2, .ptr b3 0), (8, slT T), (9, i64 T.length), (10, i64 x.1), (4, i64 (gradN T q x.1).1)], x.2⟩) (fun x => T.length - x.1) (0, H) ⟨Nat.zero_le _, h0⟩ (Abst_keep rfl ?_ (fun k => .inr rfl)) ?_
  · simp -implicitDefEqProofs -proj only [go_sem, Nat.reduceBEq, Nat.reduceLT, Nat.reduceLeDiff, Nat.reduceAdd, Nat.reduceMul, ↓reduceIte, AllAt, gradN]
  rintro ⟨i, H1⟩ ⟨hi, hj⟩
  simp -implicitDefEqProofs only [] at hi hj
  obtain ⟨h2, h3, _⟩ := hA _ _ hj
  by_cases h : i < T.length
  · have hel := rowT_at h
    have hg : gradN T q (i + 1) = (max (gradN T q i).1 (toG T q i T[i]), if (gradN T q i).1 < toG T q i T[i] then (gradN T q i).2 ++ [⟨(gradN T q i).1, toG T q i T[i], T[i].r⟩] else (gradN T q i).2) := by rw [gradN, List.getElem?_eq_getElem h]
    obtain ⟨rest, hrest⟩ := gradL_pre (q := q) (show i + 1 ≤ T.length by omega)
    have hwl : IntKind.i64.wrap ((T.length : Int) - 1) = (T.length : Int) - 1 := by rw [IntKind.wrap_i64]; omega
    generalize hN : gradN T q (i + 1) = N at *
    generalize gradN T q i = Gi at *
    obtain ⟨fr, out⟩ := Gi
    simp -implicitDefEqProofs only [] at hg hj
    generalize T[i] = t at *
    have htt : toG T q i t = if i + 1 < T.length then min q t.u else q := rfl
    simp -implicitDefEqProofs -proj only [go_sem, Nat.reduceBEq, Nat.reduceLT, Nat.reduceLeDiff, Nat.reduceAdd, Nat.reduceMul, ↓reduceIte, decide_eq_true (show (i : Int) < T.length by omega)]
    refine ElemA_at _ (by omega) hel ?_
    simp -implicitDefEqProofs -proj only [go_sem, Nat.reduceBEq, Nat.reduceLT, Nat.reduceLeDiff, Nat.reduceAdd, Nat.reduceMul, ↓reduceIte]
    refine AllocA_intro (fun b6 hb6 => ?_)
    replace hb6 : H1 b6 = none := hb6
    obtain ⟨m1, m2⟩ := fresh_ne hb6 h2
    obtain ⟨m3, m4⟩ := fresh_ne hb6 h3
    have hj' := fun v => hS _ _ b6 v hj hb6
    by_cases hm : i + 1 < T.length
    · rw [if_pos hm] at htt
      rw [htt] at hg
      simp -implicitDefEqProofs -proj only [go_sem, Nat.reduceBEq, Nat.reduceLT, Nat.reduceLeDiff, Nat.reduceAdd, Nat.reduceMul, ↓reduceIte, m1, m3, h2, h3, rowT_len, hwl, decide_eq_true (show (i : Int) < (T.length : Int) - 1 by omega)]
      by_cases hto : fr < min q t.u
      · rw [if_pos hto] at hg
        subst hg
        have hxs : stepArgs (gradL T q) = stepArgs out ++ [(TStep.mk fr (min q t.u) t.r).av] :: stepArgs rest := by rw [hrest]; simp [stepArgs]
        simp -implicitDefEqProofs -proj only [go_sem, Nat.reduceBEq, Nat.reduceLT, Nat.reduceLeDiff, Nat.reduceAdd, Nat.reduceMul, ↓reduceIte, m1, m3, h2, h3, decide_eq_true hto]
        refine YldA_w (hY _ _ _ _ hxs (hj' _)) ?_
        rintro v H2 (⟨rfl, hj2⟩ | ⟨rfl, hx⟩)
        · simp -implicitDefEqProofs -proj only [go_sem, Nat.reduceBEq, Nat.reduceLT, Nat.reduceLeDiff, Nat.reduceAdd, Nat.reduceMul, ↓reduceIte]
          refine LoopQ_next (i + 1, H2) ⟨by show i + 1 ≤ T.length; omega, ?_⟩ (by show T.length - (i + 1) < T.length - i; omega) (Abst_keep rfl ?_ (fun k => .inr rfl))
          · show J (stepArgs (gradN T q (i + 1)).2) H2
            rw [hN]
            simpa [stepArgs] using hj2
          · simp -implicitDefEqProofs -proj only [go_sem, Nat.reduceBEq, Nat.reduceLT, Nat.reduceLeDiff, Nat.reduceAdd, Nat.reduceMul, ↓reduceIte, AllAt, i64_succ (show i < 9223372036854775807 by omega), hN]
        · simp -implicitDefEqProofs -proj only [go_sem, Nat.reduceBEq, Nat.reduceLT, Nat.reduceLeDiff, Nat.reduceAdd, Nat.reduceMul, ↓reduceIte]
          exact .inr hx
      · rw [if_neg hto] at hg
        subst hg
        simp -implicitDefEqProofs -proj only [go_sem, Nat.reduceBEq, Nat.reduceLT, Nat.reduceLeDiff, Nat.reduceAdd, Nat.reduceMul, ↓reduceIte, m1, m3, h2, h3, decide_eq_false hto]
        refine LoopQ_next (i + 1, _) ⟨by show i + 1 ≤ T.length; omega, ?_⟩ (by show T.length - (i + 1) < T.length - i; omega) (Abst_keep rfl ?_ (fun k => .inr rfl))
        · show J (stepArgs (gradN T q (i + 1)).2) _
          rw [hN]
          exact hj' _
        · simp -implicitDefEqProofs -proj only [go_sem, Nat.reduceBEq, Nat.reduceLT, Nat.reduceLeDiff, Nat.reduceAdd, Nat.reduceMul, ↓reduceIte, AllAt, i64_succ (show i < 9223372036854775807 by omega), hN]
    · rw [if_neg hm] at htt
      rw [htt] at hg
      simp -implicitDefEqProofs -proj only [go_sem, Nat.reduceBEq, Nat.reduceLT, Nat.reduceLeDiff, Nat.reduceAdd, Nat.reduceMul, ↓reduceIte, m1, m3, h2, h3, rowT_len, hwl, decide_eq_false (show ¬ (i : Int) < (T.length : Int) - 1 by omega)]
      by_cases hto : fr < q
      · rw [if_pos hto] at hg
        subst hg
        have hxs : stepArgs (gradL T q) = stepArgs out ++ [(TStep.mk fr q t.r).av] :: stepArgs rest := by rw [hrest]; simp [stepArgs]
        simp -implicitDefEqProofs -proj only [go_sem, Nat.reduceBEq, Nat.reduceLT, Nat.reduceLeDiff, Nat.reduceAdd, Nat.reduceMul, ↓reduceIte, m1, m3, h2, h3, decide_eq_true hto]
        refine YldA_w (hY _ _ _ _ hxs (hj' _)) ?_
        rintro v H2 (⟨rfl, hj2⟩ | ⟨rfl, hx⟩)
        · simp -implicitDefEqProofs -proj only [go_sem, Nat.reduceBEq, Nat.reduceLT, Nat.reduceLeDiff, Nat.reduceAdd, Nat.reduceMul, ↓reduceIte]
          refine LoopQ_next (i + 1, H2) ⟨by show i + 1 ≤ T.length; omega, ?_⟩ (by show T.length - (i + 1) < T.length - i; omega) (Abst_keep rfl ?_ (fun k => .inr rfl))
          · show J (stepArgs (gradN T q (i + 1)).2) H2
            rw [hN]
            simpa [stepArgs] using hj2
          · simp -implicitDefEqProofs -proj only [go_sem, Nat.reduceBEq, Nat.reduceLT, Nat.reduceLeDiff, Nat.reduceAdd, Nat.reduceMul, ↓reduceIte, AllAt, i64_succ (show i < 9223372036854775807 by omega), hN]
        · simp -implicitDefEqProofs -proj only [go_sem, Nat.reduceBEq, Nat.reduceLT, Nat.reduceLeDiff, Nat.reduceAdd, Nat.reduceMul, ↓reduceIte]
          exact .inr hx
      · rw [if_neg hto] at hg
        subst hg
        simp -implicitDefEqProofs -proj only [go_sem, Nat.reduceBEq, Nat.reduceLT, Nat.reduceLeDiff, Nat.reduceAdd, Nat.reduceMul, ↓reduceIte, m1, m3, h2, h3, decide_eq_false hto]
        refine LoopQ_next (i + 1, _) ⟨by show i + 1 ≤ T.length; omega, ?_⟩ (by show T.length - (i + 1) < T.length - i; omega) (Abst_keep rfl ?_ (fun k => .inr rfl))
        · show J (stepArgs (gradN T q (i + 1)).2) _
          rw [hN]
          exact hj' _
        · simp -implicitDefEqProofs -proj only [go_sem, Nat.reduceBEq, Nat.reduceLT, Nat.reduceLeDiff, Nat.reduceAdd, Nat.reduceMul, ↓reduceIte, AllAt, i64_succ (show i < 9223372036854775807 by omega), hN]
  · have hi' : i = T.length := by omega
    subst hi'
    simp -implicitDefEqProofs -proj only [go_sem, Nat.reduceBEq, Nat.reduceLT, Nat.reduceLeDiff, Nat.reduceAdd, Nat.reduceMul, ↓reduceIte, decide_eq_false (show ¬ (T.length : Int) < T.length by omega)]
    exact .inl hj
/-- The tier in which a quantity lies. -/
def volI (T : List Tier) (q : Int) : Nat → List TStep
  | 0 => []
  | n + 1 => match T[T.length - (n + 1)]? with
    | some t => if n = 0 ∨ q ≤ t.u then (if 0 < q then [⟨0, q, t.r⟩] else []) else volI T q n
    | none => []
def volL (T : List Tier) (q : Int) : List TStep := volI T q T.length
theorem Vol1_iter {b2 b3 : Nat} {T : List Tier} {q : Int} (hl : T.length ≤ 1000000) : IterW Try.prog f_tiers_volume_1 [.ptr b2 0, .ptr b3 0] [(b2, .box 36 [slT T]), (b3, .box 3 [i64 q])] (stepArgs (volL T q)) := by
  intro y H J X hA hS hY h0
  refine CallW_intro comp_tiers_volume_1 (by simp) ?_
  have hb := (hA [] H h0).1
  simp -implicitDefEqProofs -proj only [go_sem, Nat.reduceBEq, Nat.reduceLT, Nat.reduceLeDiff, Nat.reduceAdd, Nat.reduceMul, ↓reduceIte, hb, rowT_len]
  refine LoopA_rule (fun x : Nat × Heap => x.1 ≤ T.length ∧ volL T q = volI T q (T.length - x.1) ∧ J [] x.2) (fun x => ⟨33, keepT [(0, .yld y), (1, .ptr b2 0), (2, .ptr b3 0), (6, slT T), (7, i64 T.length), (8, i64 x.1)], x.2⟩) (fun x => T.length - x.1) (0, H) ⟨Nat.zero_le _, rfl, h0⟩ (Abst_keep rfl ?_ (fun k => .inr rfl)) ?_
  · simp -implicitDefEqProofs -proj only [go_sem, Nat.reduceBEq, Nat.reduceLT, Nat.reduceLeDiff, Nat.reduceAdd, Nat.reduceMul, ↓reduceIte, AllAt]
  rintro ⟨i, H1⟩ ⟨hi, hv, hj⟩
  simp -implicitDefEqProofs only [] at hi hj hv
  obtain ⟨h2, h3, _⟩ := hA _ _ hj
  by_cases h : i < T.length
  · have hel := rowT_at h
    obtain ⟨n, hn⟩ : ∃ n, T.length - i = n + 1 := ⟨T.length - i - 1, by omega⟩
    have hg : volI T q (n + 1) = if n = 0 ∨ q ≤ T[i].u then (if 0 < q then [⟨0, q, T[i].r⟩] else []) else volI T q n := by
      rw [volI, show T.length - (n + 1) = i by omega, List.getElem?_eq_getElem h]
    rw [hn, hg] at hv
    have hwl : IntKind.i64.wrap ((T.length : Int) - 1) = (T.length : Int) - 1 := by rw [IntKind.wrap_i64]; omega
    generalize T[i] = t at *
    simp -implicitDefEqProofs -proj only [go_sem, Nat.reduceBEq, Nat.reduceLT, Nat.reduceLeDiff, Nat.reduceAdd, Nat.reduceMul, ↓reduceIte, decide_eq_true (show (i : Int) < T.length by omega)]
    refine ElemA_at _ (by omega) hel ?_
    simp -implicitDefEqProofs -proj only [go_sem, Nat.reduceBEq, Nat.reduceLT, Nat.reduceLeDiff, Nat.reduceAdd, Nat.reduceMul, ↓reduceIte]
    refine AllocA_intro (fun b5 hb5 => ?_)
    replace hb5 : H1 b5 = none := hb5
    obtain ⟨m1, m2⟩ := fresh_ne hb5 h2
    obtain ⟨m3, m4⟩ := fresh_ne hb5 h3
    have hj' := fun v => hS _ _ b5 v hj hb5
    by_cases hn0 : n = 0
    · rw [if_pos (.inl hn0)] at hv
      simp -implicitDefEqProofs -proj only [go_sem, Nat.reduceBEq, Nat.reduceLT, Nat.reduceLeDiff, Nat.reduceAdd, Nat.reduceMul, ↓reduceIte, m1, m3, h2, h3, rowT_len, hwl, decide_eq_true (show (i : Int) = (T.length : Int) - 1 by omega)]
      by_cases hq : 0 < q
      · rw [if_pos hq] at hv
        have hxs : stepArgs (volL T q) = [] ++ [(TStep.mk 0 q t.r).av] :: [] := by rw [hv]; rfl
        simp -implicitDefEqProofs -proj only [go_sem, Nat.reduceBEq, Nat.reduceLT, Nat.reduceLeDiff, Nat.reduceAdd, Nat.reduceMul, ↓reduceIte, m1, m3, h2, h3, decide_eq_true hq]
        refine YldA_w (hY _ _ _ _ hxs (hj' _)) ?_
        rintro v H2 (⟨rfl, hj2⟩ | ⟨rfl, hx⟩)
        · simp -implicitDefEqProofs -proj only [go_sem, Nat.reduceBEq, Nat.reduceLT, Nat.reduceLeDiff, Nat.reduceAdd, Nat.reduceMul, ↓reduceIte]
          rw [hxs]
          exact .inl hj2
        · simp -implicitDefEqProofs -proj only [go_sem, Nat.reduceBEq, Nat.reduceLT, Nat.reduceLeDiff, Nat.reduceAdd, Nat.reduceMul, ↓reduceIte]
          exact .inr hx
      · rw [if_neg hq] at hv
        simp -implicitDefEqProofs -proj only [go_sem, Nat.reduceBEq, Nat.reduceLT, Nat.reduceLeDiff, Nat.reduceAdd, Nat.reduceMul, ↓reduceIte, m1, m3, h2, h3, decide_eq_false hq]
        rw [show stepArgs (volL T q) = [] by rw [hv]; rfl]
        exact .inl (hj' _)
    · by_cases hu : q ≤ t.u
      · rw [if_pos (.inr hu)] at hv
        simp -implicitDefEqProofs -proj only [go_sem, Nat.reduceBEq, Nat.reduceLT, Nat.reduceLeDiff, Nat.reduceAdd, Nat.reduceMul, ↓reduceIte, m1, m3, h2, h3, rowT_len, hwl, decide_eq_false (show ¬ (i : Int) = (T.length : Int) - 1 by omega), decide_eq_true hu]
        by_cases hq : 0 < q
        · rw [if_pos hq] at hv
          have hxs : stepArgs (volL T q) = [] ++ [(TStep.mk 0 q t.r).av] :: [] := by rw [hv]; rfl
          simp -implicitDefEqProofs -proj only [go_sem, Nat.reduceBEq, Nat.reduceLT, Nat.reduceLeDiff, Nat.reduceAdd, Nat.reduceMul, ↓reduceIte, m1, m3, h2, h3, decide_eq_true hq]
          refine YldA_w (hY _ _ _ _ hxs (hj' _)) ?_
          rintro v H2 (⟨rfl, hj2⟩ | ⟨rfl, hx⟩)
          · simp -implicitDefEqProofs -proj only [go_sem, Nat.reduceBEq, Nat.reduceLT, Nat.reduceLeDiff, Nat.reduceAdd, Nat.reduceMul, ↓reduceIte]
            rw [hxs]
            exact .inl hj2
          · simp -implicitDefEqProofs -proj only [go_sem, Nat.reduceBEq, Nat.reduceLT, Nat.reduceLeDiff, Nat.reduceAdd, Nat.reduceMul, ↓reduceIte]
            exact .inr hx
        · rw [if_neg hq] at hv
          simp -implicitDefEqProofs -proj only [go_sem, Nat.reduceBEq, Nat.reduceLT, Nat.reduceLeDiff, Nat.reduceAdd, Nat.reduceMul, ↓reduceIte, m1, m3, h2, h3, decide_eq_false hq]
          rw [show stepArgs (volL T q) = [] by rw [hv]; rfl]
          exact .inl (hj' _)
      · rw [if_neg (by omega)] at hv
        simp -implicitDefEqProofs -proj only [go_sem, Nat.reduceBEq, Nat.reduceLT, Nat.reduceLeDiff, Nat.reduceAdd, Nat.reduceMul, ↓reduceIte, m1, m3, h2, h3, rowT_len, hwl, decide_eq_false (show ¬ (i : Int) = (T.length : Int) - 1 by omega), decide_eq_false hu]
        refine LoopQ_next (i + 1, _) ⟨by show i + 1 ≤ T.length; omega, by rw [hv]; congr 1; show n = T.length - (i + 1); omega, hj' _⟩ (by show T.length - (i + 1) < T.length - i; omega) (Abst_keep rfl ?_ (fun k => .inr rfl))
        simp -implicitDefEqProofs -proj only [go_sem, Nat.reduceBEq, Nat.reduceLT, Nat.reduceLeDiff, Nat.reduceAdd, Nat.reduceMul, ↓reduceIte, AllAt, i64_succ (show i < 9223372036854775807 by omega)]
  · have hi' : i = T.length := by omega
    subst hi'
    rw [Nat.sub_self] at hv
    simp -implicitDefEqProofs -proj only [go_sem, Nat.reduceBEq, Nat.reduceLT, Nat.reduceLeDiff, Nat.reduceAdd, Nat.reduceMul, ↓reduceIte, decide_eq_false (show ¬ (T.length : Int) < T.length by omega)]
    rw [show stepArgs (volL T q) = [] by rw [hv]; rfl]
    exact .inl hj
/-- The steps of a quantity that is left. -/
def stepsL (x : PartX) (q : Int) : List TStep := if x.ki = 2 then volL x.ts q else gradL x.ts q
def iterB (b2 b3 : Nat) (T : List Tier) (q : Int) : List (Nat × Blk) := [(b2, .box 36 [slT T]), (b3, .box 3 [i64 q])]
theorem volume_ok {H : Heap} {T : List Tier} {q : Int} : CallW Try.prog f_tiers_volume [slT T, i64 q] H fun r H' => ∃ b2 b3, r = .fn f_tiers_volume_1 [.ptr b2 0, .ptr b3 0] ∧ AllH H' (iterB b2 b3 T q) ∧ (∀ k v, H k = some v → H' k = some v) ∧ (H b2 = none ∧ H b3 = none ∧ ¬ b2 = b3) := by
  refine CallW_intro comp_tiers_volume (by simp) ?_
  simp -implicitDefEqProofs -proj only [go_sem, Nat.reduceBEq, Nat.reduceLT, Nat.reduceLeDiff, Nat.reduceAdd, Nat.reduceMul, ↓reduceIte]
  refine AllocA_intro (fun b2 hb2 => ?_)
  simp -implicitDefEqProofs -proj only [go_sem, Nat.reduceBEq, Nat.reduceLT, Nat.reduceLeDiff, Nat.reduceAdd, Nat.reduceMul, ↓reduceIte]
  refine AllocA_intro (fun b3 hb3 => ?_)
  replace hb2 : H b2 = none := hb2
  replace hb3 : upd H b2 _ b3 = none := hb3
  obtain ⟨n1, n2⟩ := fresh_ne hb3 upd_eq
  have hb3' : H b3 = none := by rw [upd_ne n2] at hb3; exact hb3
  simp -implicitDefEqProofs -proj only [go_sem, Nat.reduceBEq, Nat.reduceLT, Nat.reduceLeDiff, Nat.reduceAdd, Nat.reduceMul, ↓reduceIte, n1, n2]
  refine ⟨b2, b3, rfl, ⟨by rw [upd_ne n1, upd_eq], upd_eq, trivial⟩, fun k v hk => ?_, hb2, hb3', n2⟩
  rw [if_neg (fresh_ne hb3' hk).1, if_neg (fresh_ne hb2 hk).1, hk]
theorem graduated_ok {H : Heap} {T : List Tier} {q : Int} : CallW Try.prog f_tiers_graduated [slT T, i64 q] H fun r H' => ∃ b2 b3, r = .fn f_tiers_graduated_1 [.ptr b2 0, .ptr b3 0] ∧ AllH H' (iterB b2 b3 T q) ∧ (∀ k v, H k = some v → H' k = some v) ∧ (H b2 = none ∧ H b3 = none ∧ ¬ b2 = b3) := by
  refine CallW_intro comp_tiers_graduated (by simp) ?_
  simp -implicitDefEqProofs -proj only [go_sem, Nat.reduceBEq, Nat.reduceLT, Nat.reduceLeDiff, Nat.reduceAdd, Nat.reduceMul, ↓reduceIte]
  refine AllocA_intro (fun b2 hb2 => ?_)
  simp -implicitDefEqProofs -proj only [go_sem, Nat.reduceBEq, Nat.reduceLT, Nat.reduceLeDiff, Nat.reduceAdd, Nat.reduceMul, ↓reduceIte]
  refine AllocA_intro (fun b3 hb3 => ?_)
  replace hb2 : H b2 = none := hb2
  replace hb3 : upd H b2 _ b3 = none := hb3
  obtain ⟨n1, n2⟩ := fresh_ne hb3 upd_eq
  have hb3' : H b3 = none := by rw [upd_ne n2] at hb3; exact hb3
  simp -implicitDefEqProofs -proj only [go_sem, Nat.reduceBEq, Nat.reduceLT, Nat.reduceLeDiff, Nat.reduceAdd, Nat.reduceMul, ↓reduceIte, n1, n2]
  refine ⟨b2, b3, rfl, ⟨by rw [upd_ne n1, upd_eq], upd_eq, trivial⟩, fun k v hk => ?_, hb2, hb3', n2⟩
  rw [if_neg (fresh_ne hb3' hk).1, if_neg (fresh_ne hb2 hk).1, hk]
theorem Steps_ok {H : Heap} {x : PartX} {q : Int} (hl : x.ts.length ≤ 1000000) : CallW Try.prog f_tiers_Steps [partV x, i64 q] H fun r H' => ∃ f b2 b3, r = .fn f [.ptr b2 0, .ptr b3 0] ∧ IterW Try.prog f [.ptr b2 0, .ptr b3 0] (iterB b2 b3 x.ts q) (stepArgs (stepsL x q)) ∧ AllH H' (iterB b2 b3 x.ts q) ∧ (∀ k v, H k = some v → H' k = some v) ∧ (H b2 = none ∧ H b3 = none ∧ ¬ b2 = b3) := by
  have up : ∀ {b0 b : Nat} {v : Blk}, upd H b0 (some v) b = none → H b = none := fun {b0 b v} h => by
    rw [upd_get] at h
    split at h
    · cases h
    · exact h
  refine CallW_intro comp_tiers_Steps (by simp) ?_
  simp -implicitDefEqProofs -proj only [go_sem, Nat.reduceBEq, Nat.reduceLT, Nat.reduceLeDiff, Nat.reduceAdd, Nat.reduceMul, ↓reduceIte]
  refine AllocA_intro (fun b0 hb0 => ?_)
  replace hb0 : H b0 = none := hb0
  by_cases hk : x.ki = 2
  · simp -implicitDefEqProofs -proj only [go_sem, Nat.reduceBEq, Nat.reduceLT, Nat.reduceLeDiff, Nat.reduceAdd, Nat.reduceMul, ↓reduceIte, decide_eq_true hk]
    refine CallA_w volume_ok ?_
    rintro r H' ⟨b2, b3, rfl, h1, h2, h3, h4, h5⟩
    simp -implicitDefEqProofs -proj only [go_sem, Nat.reduceBEq, Nat.reduceLT, Nat.reduceLeDiff, Nat.reduceAdd, Nat.reduceMul, ↓reduceIte]
    refine ⟨_, b2, b3, rfl, ?_, h1, fun k v hk => h2 k v ((upd_ne (fresh_ne hb0 hk).1).trans hk), up h3, up h4, h5⟩
    rw [stepsL, if_pos hk]
    exact Vol1_iter hl
  · simp -implicitDefEqProofs -proj only [go_sem, Nat.reduceBEq, Nat.reduceLT, Nat.reduceLeDiff, Nat.reduceAdd, Nat.reduceMul, ↓reduceIte, decide_eq_false hk]
    refine CallA_w graduated_ok ?_
    rintro r H' ⟨b2, b3, rfl, h1, h2, h3, h4, h5⟩
    simp -implicitDefEqProofs -proj only [go_sem, Nat.reduceBEq, Nat.reduceLT, Nat.reduceLeDiff, Nat.reduceAdd, Nat.reduceMul, ↓reduceIte]
    refine ⟨_, b2, b3, rfl, ?_, h1, fun k v hk => h2 k v ((upd_ne (fresh_ne hb0 hk).1).trans hk), up h3, up h4, h5⟩
    rw [stepsL, if_neg hk]
    exact Grad1_iter hl
/-- What steps come to; none: beyond 64 bits. -/
def addS (s : TStep) (a : Int) : Option Int := if Fit (s.r * (s.t - s.f)) ∧ Fit (a + s.r * (s.t - s.f)) then some (a + s.r * (s.t - s.f)) else none
def sumS : List TStep → Int → Option Int
  | [], a => some a
  | s :: l, a => match addS s a with
    | some b => sumS l b
    | none => none
def StepFit (s : TStep) : Prop := Fit s.f ∧ Fit s.t ∧ Fit s.r ∧ Fit (s.t - s.f)
structure MicX where
  a : Int
theorem mx_a {a : Int} : (MicX.mk a).a = a := (rfl)
theorem sumS_app {l r : List TStep} {a b : Int} (h : sumS l a = some b) : sumS (l ++ r) a = sumS r b := by
  induction l generalizing a with
  | nil => cases h; rfl
  | cons s l ih =>
    simp -implicitDefEqProofs only [List.cons_append, sumS] at h ⊢
    cases hs : addS s a with
    | none => rw [hs] at h; cases h
    | some c => rw [hs] at h; exact ih h
theorem sumS_fit {l : List TStep} {a b : Int} (h : sumS l a = some b) (ha : Fit a) : Fit b := by
  induction l generalizing a with
  | nil => cases h; exact ha
  | cons s l ih =>
    simp -implicitDefEqProofs only [sumS] at h
    cases hs : addS s a with
    | none => rw [hs] at h; cases h
    | some c =>
      rw [hs] at h
      refine ih h ?_
      unfold addS at hs
      split at hs
      · next hc => cases hs; exact hc.2
      · cases hs
def micL (b4 b5 b8 c2 c3 : Nat) (T : List Tier) (L : Int) (y : MicX) : List (Nat × Blk) := [(b4, .box 3 [i64 0]), (b5, .box 4 [bv false]), (b8, .box 3 [i64 y.a]), (c2, .box 36 [slT T]), (c3, .box 3 [i64 L])]
def microO (x : PartX) (q : Int) : Option Int := if q < 0 then none else if Fit (rnd (max (q - x.al) 0) x.bl 1 * x.bl) then sumS (stepsL x (rnd (max (q - x.al) 0) x.bl 1 * x.bl)) 0 else none
set_option maxRecDepth 20000 in
theorem Micro_ok {x : PartX} {q : Int} (hx : x.Fit) (hq : Fit q) (ha : 0 ≤ x.al) (hb : 1 ≤ x.bl) (hl : x.ts.length ≤ 1000000) (hs : ∀ n, Fit n → ∀ s ∈ stepsL x n, StepFit s) : DataW Try.prog f_tiers_Micro [partV x, i64 q] (optR (microO x q)) := by
  have hquant := Quant_ok hx hq ha hb
  unfold microO
  generalize hL : rnd (max (q - x.al) 0) x.bl 1 * x.bl = L at *
  refine CallW_intro comp_tiers_Micro (by simp) ?_
  simp -implicitDefEqProofs -proj only [go_sem, Nat.reduceBEq, Nat.reduceLT, Nat.reduceLeDiff, Nat.reduceAdd, Nat.reduceMul, ↓reduceIte]
  refine AllocA_intro (fun b2 hb2 => ?_)
  simp -implicitDefEqProofs -proj only [go_sem, Nat.reduceBEq, Nat.reduceLT, Nat.reduceLeDiff, Nat.reduceAdd, Nat.reduceMul, ↓reduceIte]
  refine AllocA_intro (fun b4 hb4 => ?_)
  replace hb4 : upd Heap.none b2 _ b4 = none := hb4
  obtain ⟨n1, n2⟩ := fresh_ne hb4 upd_eq
  simp -implicitDefEqProofs -proj only [go_sem, Nat.reduceBEq, Nat.reduceLT, Nat.reduceLeDiff, Nat.reduceAdd, Nat.reduceMul, ↓reduceIte]
  refine AllocA_intro (fun b5 hb5 => ?_)
  replace hb5 : upd (upd Heap.none b2 _) b4 _ b5 = none := hb5
  obtain ⟨n3, n4⟩ := fresh_ne hb5 upd_eq
  obtain ⟨n5, n6⟩ := fresh_ne hb5 (by rw [upd_ne n1]; exact upd_eq)
  simp -implicitDefEqProofs -proj only [go_sem, Nat.reduceBEq, Nat.reduceLT, Nat.reduceLeDiff, Nat.reduceAdd, Nat.reduceMul, ↓reduceIte, n1, n2, n3, n4, n5, n6]
  refine CallA_pure hquant ?_
  by_cases h : q < 0
  · rw [if_pos h, if_pos h]
    simp -implicitDefEqProofs -proj only [go_sem, Nat.reduceBEq, Nat.reduceLT, Nat.reduceLeDiff, Nat.reduceAdd, Nat.reduceMul, ↓reduceIte, n1, n2, n3, n4, n5, n6]
    exact LendV_eq rfl
  rw [if_neg h, if_neg h]
  by_cases hf : Fit L
  rotate_left
  · rw [if_neg hf, fitR_no hf]
    simp -implicitDefEqProofs -proj only [go_sem, Nat.reduceBEq, Nat.reduceLT, Nat.reduceLeDiff, Nat.reduceAdd, Nat.reduceMul, ↓reduceIte, n1, n2, n3, n4, n5, n6]
    exact LendV_eq rfl
  rw [if_pos hf, fitR_yes hf]
  have hst := hs L hf
  simp -implicitDefEqProofs -proj only [go_sem, Nat.reduceBEq, Nat.reduceLT, Nat.reduceLeDiff, Nat.reduceAdd, Nat.reduceMul, ↓reduceIte, n1, n2, n3, n4, n5, n6]
  refine AllocA_intro (fun b8 hb8 => ?_)
  replace hb8 : upd (upd (upd Heap.none b2 _) b4 _) b5 _ b8 = none := hb8
  obtain ⟨n7, n8⟩ := fresh_ne hb8 upd_eq
  obtain ⟨n9, n10⟩ := fresh_ne hb8 (by rw [upd_ne n3]; exact upd_eq)
  obtain ⟨n11, n12⟩ := fresh_ne hb8 (by rw [upd_ne n5, upd_ne n1]; exact upd_eq)
  simp -implicitDefEqProofs -proj only [go_sem, Nat.reduceBEq, Nat.reduceLT, Nat.reduceLeDiff, Nat.reduceAdd, Nat.reduceMul, ↓reduceIte, n1, n2, n3, n4, n5, n6, n7, n8, n9, n10, n11, n12]
  refine CallA_w (Steps_ok hl) ?_
  rintro r H6 ⟨f, c2, c3, rfl, hit, hbl, hkeep, hc2, hc3, hc23⟩
  obtain ⟨H5, hH5⟩ : ∃ H5, upd (upd (upd (upd Heap.none b2 (some (.box 39 [i64 x.me, i64 x.f, i64 x.t, i64 x.al, i64 x.bl, i64 x.ki, slT x.ts, i64 x.mo, slA x.ad]))) b4 (some (.box 3 [i64 0]))) b5 (some (.box 4 [bv false]))) b8 (some (.box 3 [i64 0])) = H5 := ⟨_, rfl⟩
  have k4 : H5 b4 = some (.box 3 [i64 0]) := by rw [← hH5, upd_ne n9, upd_ne n3, upd_eq]
  have k5 : H5 b5 = some (.box 4 [bv false]) := by rw [← hH5, upd_ne n7, upd_eq]
  have k8 : H5 b8 = some (.box 3 [i64 0]) := by rw [← hH5, upd_eq]
  replace hkeep : ∀ k v, H5 k = some v → H6 k = some v := by rw [← hH5]; exact hkeep
  replace hc2 : H5 c2 = none := by rw [← hH5]; exact hc2
  replace hc3 : H5 c3 = none := by rw [← hH5]; exact hc3
  have d1 := (fresh_ne hc2 k4).2
  have d2 := (fresh_ne hc2 k5).2
  have d3 := (fresh_ne hc2 k8).2
  have d4 := (fresh_ne hc3 k4).2
  have d5 := (fresh_ne hc3 k5).2
  have d6 := (fresh_ne hc3 k8).2
  have hnd : ∀ y, (keys (micL b4 b5 b8 c2 c3 x.ts L y)).Nodup := by
    intro y
    simp [keys, micL, d1, d2, d3, d4, d5, d6, n4, n8, n10, hc23]
  have hall0 : AllH H6 (micL b4 b5 b8 c2 c3 x.ts L ⟨0⟩) := ⟨hkeep _ _ k4, hkeep _ _ k5, hkeep _ _ k8, hbl.1, hbl.2.1, trivial⟩
  obtain ⟨S, hS⟩ : ∃ S, stepsL x L = S := ⟨_, rfl⟩
  rw [hS] at hst hit ⊢
  simp -implicitDefEqProofs -proj only [go_sem, Nat.reduceBEq, Nat.reduceLT, Nat.reduceLeDiff, Nat.reduceAdd, Nat.reduceMul, ↓reduceIte]
  refine RangeA_k [(4, .ptr b4 0), (5, .ptr b5 0), (8, .ptr b8 0)] (fun pre y => sumS (S.take pre.length) 0 = some y.a) (micL b4 b5 b8 c2 c3 x.ts L) ⟨0⟩ hit (by simp -implicitDefEqProofs -proj only [go_sem, Nat.reduceBEq, Nat.reduceLT, Nat.reduceLeDiff, Nat.reduceAdd, Nat.reduceMul, ↓reduceIte]) rfl (by simp) (by simp -implicitDefEqProofs -proj only [go_sem, Nat.reduceBEq, Nat.reduceLT, Nat.reduceLeDiff, Nat.reduceAdd, Nat.reduceMul, ↓reduceIte, AllAt]) ?_ (by simp [sumS]) hall0 ?_ ?_
  · intro pre y _ p hp
    simp -implicitDefEqProofs only [iterB, List.mem_cons, List.not_mem_nil, or_false] at hp
    rcases hp with rfl | rfl <;> simp [micL]
  · rintro pre v post ⟨a⟩ hxs hI
    simp -implicitDefEqProofs only [mx_a] at hI
    obtain ⟨hlt, rfl, hpre⟩ := map_split hxs
    have hall := keepH_all (hnd ⟨a⟩)
    obtain ⟨h4, h5, h8, h9, h10, _⟩ := id hall
    obtain ⟨f1, f2, f3, f4⟩ := hst _ (List.getElem_mem hlt)
    have hfa : Fit a := sumS_fit hI (by decide)
    have hstep : S.take (pre.length + 1) = S.take pre.length ++ [S[pre.length]] := List.take_succ_eq_append_getElem hlt
    have hsp : S = S.take pre.length ++ (S[pre.length] :: S.drop (pre.length + 1)) := by rw [← List.drop_eq_getElem_cons hlt, List.take_append_drop]
    generalize S[pre.length] = s at *
    have hnone : addS s a = none → sumS S 0 = none := fun e => by rw [hsp, sumS_app hI, sumS, e]
    have hsome : ∀ b, addS s a = some b → sumS (S.take (pre.length + 1)) 0 = some b := fun b e => by rw [hstep, sumS_app hI, sumS, e]; rfl
    have hw : IntKind.i64.wrap (s.t - s.f) = s.t - s.f := by unfold Fit at f4; rw [IntKind.wrap_i64]; omega
    clear hstep hsp hxs hpre
    have hmul := Mul_ok f3 f4
    obtain ⟨H, hH⟩ : ∃ H, keepH (micL b4 b5 b8 c2 c3 x.ts L ⟨a⟩) = H := ⟨_, rfl⟩
    rw [hH] at hall h4 h5 h8 h9 h10
    simp -implicitDefEqProofs only [mx_a] at h8
    simp -implicitDefEqProofs -proj only [go_sem, Nat.reduceBEq, Nat.reduceLT, Nat.reduceLeDiff, Nat.reduceAdd, Nat.reduceMul, ↓reduceIte, hH]
    refine AllocA_intro (fun b9 hb9 => ?_)
    replace hb9 : H b9 = none := hb9
    obtain ⟨p1, p2⟩ := fresh_ne hb9 h4
    obtain ⟨p3, p4⟩ := fresh_ne hb9 h5
    obtain ⟨p5, p6⟩ := fresh_ne hb9 h8
    simp -implicitDefEqProofs -proj only [go_sem, Nat.reduceBEq, Nat.reduceLT, Nat.reduceLeDiff, Nat.reduceAdd, Nat.reduceMul, ↓reduceIte, p1, p3, p5, h4, h5, h8, hw]
    refine CallA_pure hmul ?_
    by_cases c1 : Fit (s.r * (s.t - s.f))
    · rw [fitR_yes c1]
      have hadd := Add_ok hfa c1
      simp -implicitDefEqProofs -proj only [go_sem, Nat.reduceBEq, Nat.reduceLT, Nat.reduceLeDiff, Nat.reduceAdd, Nat.reduceMul, ↓reduceIte, p1, p3, p5, h4, h5, h8, hw]
      refine CallA_pure hadd ?_
      by_cases c2' : Fit (a + s.r * (s.t - s.f))
      · rw [fitR_yes c2']
        simp -implicitDefEqProofs -proj only [go_sem, Nat.reduceBEq, Nat.reduceLT, Nat.reduceLeDiff, Nat.reduceAdd, Nat.reduceMul, ↓reduceIte, p1, p3, p5, h4, h5, h8, hw]
        refine RangeQ_k ⟨a + s.r * (s.t - s.f)⟩ (by simp -implicitDefEqProofs only [mx_a, List.length_append, List.length_singleton]; exact hsome _ (if_pos ⟨c1, c2'⟩)) ?_
        obtain ⟨p7, p8⟩ := fresh_ne hb9 h9
        obtain ⟨p9, p10⟩ := fresh_ne hb9 h10
        simp -implicitDefEqProofs -proj only [go_sem, Nat.reduceBEq, Nat.reduceLT, Nat.reduceLeDiff, Nat.reduceAdd, Nat.reduceMul, ↓reduceIte, AllH, micL, mx_a, p1, p3, p5, p7, p9, n7, n8, n9, n10, d3, d6, h4, h5, h8, h9, h10]
      · rw [fitR_no c2']
        simp -implicitDefEqProofs -proj only [go_sem, Nat.reduceBEq, Nat.reduceLT, Nat.reduceLeDiff, Nat.reduceAdd, Nat.reduceMul, ↓reduceIte, p1, p3, p5, n3, n4, n7, n8, n9, n10, h4, h5, h8, hw]
        rw [hnone (if_neg (fun h => c2' h.2))]
        exact LendV_eq rfl
    · rw [fitR_no c1]
      have hadd := Add_ok (b := 0) hfa (by decide)
      simp -implicitDefEqProofs -proj only [go_sem, Nat.reduceBEq, Nat.reduceLT, Nat.reduceLeDiff, Nat.reduceAdd, Nat.reduceMul, ↓reduceIte, p1, p3, p5, h4, h5, h8, hw]
      refine CallA_pure hadd ?_
      rw [fitR_yes (by rw [Int.add_zero]; exact hfa)]
      simp -implicitDefEqProofs -proj only [go_sem, Nat.reduceBEq, Nat.reduceLT, Nat.reduceLeDiff, Nat.reduceAdd, Nat.reduceMul, ↓reduceIte, p1, p3, p5, n3, n4, n7, n8, n9, n10, h4, h5, h8, hw]
      rw [hnone (if_neg (fun h => c1 h.1))]
      exact LendV_eq rfl
  · rintro ⟨a⟩ hI
    simp -implicitDefEqProofs only [mx_a] at hI
    rw [List.length_map, List.take_length] at hI
    have hall := keepH_all (hnd ⟨a⟩)
    obtain ⟨h4, h5, h8, h9, h10, _⟩ := id hall
    obtain ⟨H, hH⟩ : ∃ H, keepH (micL b4 b5 b8 c2 c3 x.ts L ⟨a⟩) = H := ⟨_, rfl⟩
    rw [hH] at hall h4 h5 h8 h9 h10
    simp -implicitDefEqProofs only [mx_a] at h8
    rw [hI]
    simp -implicitDefEqProofs -proj only [go_sem, Nat.reduceBEq, Nat.reduceLT, Nat.reduceLeDiff, Nat.reduceAdd, Nat.reduceMul, ↓reduceIte, hH, h4, h5, h8, n3, n4]
    exact LendV_eq rfl
theorem micro_fit {x : PartX} {q n : Int} (h : microO x q = some n) : Fit n := by
  unfold microO at h
  split at h
  · cases h
  · split at h
    · exact sumS_fit h (by decide)
    · cases h
def chargeO (x : PartX) (q : Int) : Option Int := match microO x q with
  | some n => mdO n 1000000 x.mo
  | none => none
theorem Charge_ok {x : PartX} {q : Int} (hx : x.Fit) (hq : Fit q) (ha : 0 ≤ x.al) (hb : 1 ≤ x.bl) (hl : x.ts.length ≤ 1000000) (hs : ∀ n, Fit n → ∀ s ∈ stepsL x n, StepFit s) : DataW Try.prog f_tiers_Charge [partV x, i64 q] (optR (chargeO x q)) := by
  have hm := Micro_ok hx hq ha hb hl hs
  have hf := fun n => @micro_fit x q n
  unfold chargeO
  generalize microO x q = m at *
  refine CallW_intro comp_tiers_Charge (by simp) ?_
  simp -implicitDefEqProofs -proj only [go_sem, Nat.reduceBEq, Nat.reduceLT, Nat.reduceLeDiff, Nat.reduceAdd, Nat.reduceMul, ↓reduceIte]
  refine AllocA_intro (fun b2 hb2 => ?_)
  simp -implicitDefEqProofs -proj only [go_sem, Nat.reduceBEq, Nat.reduceLT, Nat.reduceLeDiff, Nat.reduceAdd, Nat.reduceMul, ↓reduceIte]
  refine CallA_pure hm ?_
  cases m with
  | none =>
    simp -implicitDefEqProofs -proj only [go_sem, Nat.reduceBEq, Nat.reduceLT, Nat.reduceLeDiff, Nat.reduceAdd, Nat.reduceMul, ↓reduceIte, optR]
    exact LendV_eq rfl
  | some n =>
    have hd := Div_ok (m := x.mo) (hf n rfl) (show Fit 1000000 by decide)
    rw [mdO_R] at hd
    simp -implicitDefEqProofs -proj only [go_sem, Nat.reduceBEq, Nat.reduceLT, Nat.reduceLeDiff, Nat.reduceAdd, Nat.reduceMul, ↓reduceIte, optR]
    refine CallA_pure hd ?_
    generalize mdO n 1000000 x.mo = o
    cases o <;> simp -implicitDefEqProofs only [optR]
    · simp -implicitDefEqProofs -proj only [go_sem, Nat.reduceBEq, Nat.reduceLT, Nat.reduceLeDiff, Nat.reduceAdd, Nat.reduceMul, ↓reduceIte]
      exact LendV_eq rfl
    · simp -implicitDefEqProofs -proj only [go_sem, Nat.reduceBEq, Nat.reduceLT, Nat.reduceLeDiff, Nat.reduceAdd, Nat.reduceMul, ↓reduceIte]
      exact LendV_eq rfl
end Go.Proofs.Ytlflfciebidddaa.Abs
