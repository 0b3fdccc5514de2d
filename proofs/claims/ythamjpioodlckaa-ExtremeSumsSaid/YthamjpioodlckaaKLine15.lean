/- The package curve: the curve of a list, and the line of it. No claim stands here. -/
import Derived.Test.YthamjpioodlckaaKAt15
set_option linter.unusedSimpArgs false
set_option linter.unusedVariables false
namespace Go.Proofs.Ythamjpioodlckaa.Abs
open Go Go.RowKit Go.Proofs
attribute [local go_sem] RunC_seq AF_n AF_r AF_b St_n St_t St_H Fst_mk Snd_mk RunC_ops RunC_cond RunC_block RunC_loop RunC_exit RunC_ret RunC_skip RunO_nil RunO_code RunO_code_ret RunO_code_exit RunO_blk RunO_blk_ret RunO_blk_exit RunL_nil RunL_guard GuardA_tt GuardA_ff GuardA_tf GuardA_ft GuardA_void CondA_t CondA_f PickA_t PickA_f RunL_mov RunL_pick RunL_alloc RunL_box RunL_load LoadA_ptr LoadB_1 LoadB_n LoadA_dptr LoadA_dptr_n RunL_store StoreA_ptr StoreB_box RunL_bin Bin_add Bin_sub Bin_mul Bin_quo Bin_rem Bin_shl Bin_shr Bin_andI Bin_orI Bin_xorI Bin_eql Bin_neq Bin_lss Bin_leq Bin_gtr Bin_geq RunL_binb Bin_beql Bin_bneq RunL_un UnA_not UnA_neg RunL_conv convV MapA_some RunL_nilCheck nilV RunL_mkfn RunL_fieldAddr faV RunL_field FieldA_1 FieldA_n RunL_elemAddr EAddrA_sl EAddrA_own EptrA_eq RunL_build BuildA_some RunL_extract ExtA_eq RunL_len lenV_sl lenV_nilsl lenV_own RunL_slen RunL_idxStr IdxSA_eq slenV RunL_minmax mmV minmaxL RunL_call RunL_callv CallvA_fn putS ev evL evO evP eqK eqKs EqB_agg RunL_eqAgg EqA_t EqA_f evQ buildC fits_agg cellsAV_agg fits_d cellsAV_d fits_nilp cellsAV_nilp fits_nilsl cellsAV_nilsl fits_nilfn cellsAV_nilfn fits_ptr cellsAV_ptr fits_eptr cellsAV_eptr fits_dptr cellsAV_dptr fits_own cellsAV_own fits_fn cellsAV_fn rowV_fits rowV_cells rowV_len lenAV setSeg nth seg mapD repeatL putT_get upd_get argT keepT_cons keepT_nil keepH_cons keepH_nil cond_true cond_false VC_true finW resW resL resOne LoopQ_exit LoopQ_ret List.cons_append List.nil_append Bool.not_true Bool.not_false Bool.and_true Bool.and_self Nat.lt_add_left_iff_pos Nat.zero_add Nat.add_zero List.drop_succ_cons List.drop_zero List.take_succ_cons List.take_zero beq_self_eq_true Bool.false_eq_true RunC_dops RunL_loadS RunL_loadD LoadDA_dptr RunL_storeS StoreSA_ptr RunL_pcall RunL_pcallv PCallvA_fn newsOk and_self and_true true_and loadW_ptr LoadK_1 LoadK_n upd_upd RunL_buildSlice BSliceA_some RunL_buildSliceD frzL frz cutL LoadA_eptr LoadE_row RunL_append RunL_slice SliceA_sl StoreA_eptr List.length_cons List.length_nil Nat.min_def Int.cast_ofNat_Int Int.natCast_zero Int.natCast_one decide_true decide_false List.getElem?_cons_zero List.getElem?_cons_succ RunC_rangef CallvA_yld putL_nil putL_cons RangeQ_exit RangeQ_ret
theorem FwdOK.mem_val {val : Int → Int} {hi : Int} : ∀ {R : List Run} {lo : Int}, FwdOK val lo hi R → ∀ r ∈ R, lo ≤ r.f ∧ r.f ≤ r.t ∧ r.t < hi ∧ val r.f = r.v
  | a :: R, lo, ⟨g1, g2, g3, g4, g5⟩, r, hr => by
    have hle := g5.le
    rcases List.mem_cons.1 hr with rfl | hr
    · exact ⟨by omega, g2, by omega, g3 _ (by omega) g2⟩
    · obtain ⟨h1, h2, h3, h4⟩ := FwdOK.mem_val g5 r hr
      exact ⟨by omega, h2, h3, h4⟩
theorem FwdOK.val_mem {val : Int → Int} {lo hi : Int} {R : List Run} (h : FwdOK val lo hi R) {x : Int} (h1 : lo ≤ x) (h2 : x < hi) : ∃ r ∈ R, r.v = val x := by
  obtain ⟨m, k1, k2, k3⟩ := FwdOK.drop R.length h (Nat.le_refl _)
  rw [List.drop_length] at k1
  have : m = hi := k1
  obtain ⟨j, j1, j2, j3, j4, j5, j6⟩ := k3 x h1 (by omega)
  exact ⟨_, List.getElem_mem j1, j5.symm⟩
def smallV (v : Int) : Prop := -2305843009213693952 ≤ v ∧ v ≤ 2305843009213693952
instance (v : Int) : Decidable (smallV v) := by unfold smallV; exact inferInstance
theorem valL_get {f : Int} {l : List Int} {i : Nat} (h : i < l.length) : valL f l (f + (i : Int)) = l[i] := by
  unfold valL
  rw [show (f + (i : Int) - f).toNat = i by omega]
  simp [h]
theorem runs_nil {f : Int} {l : List Int} : runs f l = [] ↔ l = [] := by
  constructor
  · intro h
    have := runs_fwd f l
    rw [h] at this
    have e : f = f + l.length := this
    exact List.length_eq_zero_iff.1 (by omega)
  · rintro rfl; rfl
theorem runs_ends {f : Int} {l : List Int} (h : runs f l ≠ []) : ((runs f l).head h).f = f ∧ ((runs f l).getLast h).t = f + l.length - 1 := (runs_fwd f l).ends h
theorem lastT_runs {f : Int} {l : List Int} (h : l ≠ []) : lastT (runs f l) = f + l.length - 1 := by
  have hne : runs f l ≠ [] := fun e => h (runs_nil.1 e)
  have := (runs_ends hne).2
  rw [← this]
  generalize runs f l = R at *
  cases R with
  | nil => exact absurd rfl hne
  | cons a R => rfl
theorem okOf_runs {f : Int} {l : List Int} : okOf (runs f l) ↔ l ≠ [] ∧ f = 0 ∧ f + l.length - 1 ≤ 2000 ∧ ∀ v ∈ l, smallV v := by
  have hF := runs_fwd f l
  constructor
  · rintro ⟨h, h1, h2, h3⟩
    obtain ⟨e1, e2⟩ := runs_ends h
    refine ⟨fun e => h (runs_nil.2 e), by omega, by omega, fun v hv => ?_⟩
    obtain ⟨i, hi, rfl⟩ := List.getElem_of_mem hv
    obtain ⟨r, hr, hrv⟩ := hF.val_mem (x := f + i) (by omega) (by omega)
    rw [valL_get hi] at hrv
    have := h3 r hr
    unfold bigV at this
    unfold smallV
    omega
  · rintro ⟨h, h1, h2, h3⟩
    have hne : runs f l ≠ [] := fun e => h (runs_nil.1 e)
    obtain ⟨e1, e2⟩ := runs_ends hne
    refine ⟨hne, by omega, by omega, fun r hr => ?_⟩
    obtain ⟨g1, g2, g3, g4⟩ := hF.mem_val r hr
    have : r.v ∈ l := by
      rw [← g4]
      have hi : (r.f - f).toNat < l.length := by omega
      have := valL_get (f := f) hi
      rw [show f + (((r.f - f).toNat : Nat) : Int) = r.f by omega] at this
      rw [this]
      exact List.getElem_mem hi
    have := h3 _ this
    unfold smallV at this
    unfold bigV
    omega
theorem runs_small {l : List Int} (h : okOf (runs 0 l)) : (∀ r ∈ runs 0 l, RunOK r) ∧ (runs 0 l).length ≤ 3000 := by
  obtain ⟨h1, h2, h3, h4⟩ := okOf_runs.1 h
  have hF := runs_fwd 0 l
  refine ⟨fun r hr => ?_, ?_⟩
  · obtain ⟨g1, g2, g3, g4⟩ := hF.mem_val r hr
    obtain ⟨_, _, _, hb⟩ := h
    have := hb r hr
    unfold bigV at this
    exact ⟨by omega, by omega⟩
  · have := runsN_len (from' := 0) (l := l) l.length
    show (runsN 0 l l.length).length ≤ 3000
    omega
/-- A list that has a curve. -/
def CurL (l : List Int) : Prop := l ≠ [] ∧ l.length ≤ 2001 ∧ ∀ v ∈ l, smallV v
noncomputable instance (l : List Int) : Decidable (CurL l) := Classical.propDecidable _
theorem curL_ok {l : List Int} : okOf (runs 0 l) ↔ CurL l := by
  rw [okOf_runs]
  constructor
  · rintro ⟨h1, h2, h3, h4⟩; exact ⟨h1, by omega, h4⟩
  · rintro ⟨h1, h2, h3⟩; exact ⟨h1, rfl, by omega, h3⟩
abbrev gps (l : List Int) : List Grp := groups (runs 0 l)
theorem gps_at {l : List Int} {i : Nat} (h : i < l.length) : atG (gps l) i = some l[i] := by
  have := (atG_groups _ (Nat.le_refl _) (runs_fwd 0 l) (i : Int)).2 (by omega) (by omega)
  rw [← valL_get (f := 0) h, Int.zero_add]
  exact this
theorem gps_ok {l : List Int} (h : CurL l) : ∀ g ∈ gps l, GrpOK g := by
  obtain ⟨h1, h2⟩ := runs_small (curL_ok.2 h)
  exact groups_ok _ (Nat.le_refl _) (runs_fwd 0 l) h1 h2
theorem gps_len {l : List Int} : (gps l).length ≤ l.length := Nat.le_trans (groups_len (Nat.le_refl _)) (runsN_len l.length)
theorem gps_first {l : List Int} (h : l ≠ []) : ∃ hh : 0 < (gps l).length, (gps l)[0].f = 0 := by
  have hne : runs 0 l ≠ [] := fun e => h (runs_nil.1 e)
  have he := (runs_ends hne).1
  unfold gps
  generalize runs 0 l = R at *
  cases R with
  | nil => exact absurd rfl hne
  | cons a R =>
    rw [groups_cons]
    refine ⟨by simp, ?_⟩
    simp -implicitDefEqProofs only [List.getElem_cons_zero]
    have : (grpOf a R).1.f = a.f := by cases R <;> rfl
    rw [this]
    exact he
/-- The curve of a list. -/
abbrev curL (l : List Int) : AV := curveV ((l.length : Int) - 1) (gps l)
theorem ofV_runs {l : List Int} : ofV (runs 0 l) = if CurL l then .tup [curL l, bv true] else .tup [curveV 0 [], bv false] := by
  unfold ofV
  by_cases h : CurL l
  · rw [if_pos h, if_pos (curL_ok.2 h), lastT_runs h.1, Int.zero_add]
  · rw [if_neg h, if_neg (fun e => h (curL_ok.1 e))]
theorem OfL_ok {l : List Int} (hl : l.length ≤ 999999) : NewW Try.prog f_curve_Of [lineV (runs 0 l)] (if CurL l then .tup [curL l, bv true] else .tup [curveV 0 [], bv false]) := by
  have := Of_curve (R := runs 0 l) (Nat.le_trans (runsN_len l.length) (by omega)) runs_small
  rwa [ofV_runs] at this
theorem AtL_ok {l : List Int} (h : CurL l) {i : Nat} (hi : i < l.length) : DataW Try.prog f_curve_At [curL l, i64 i] (.tup [i64 l[i], bv true]) := by
  have h1 := h.2.1
  have := CAt_ok (m := (l.length : Int) - 1) (q := (i : Int)) (gps_ok h) (Nat.le_trans gps_len (by omega)) (by unfold Fit; omega) (by omega)
  rwa [if_neg (by omega), gps_at hi] at this
structure BackY where
  i : Nat
  c : Nat
  cap : Nat
theorem by_i {i c cap : Nat} : (BackY.mk i c cap).i = i := (rfl)
theorem by_c {i c cap : Nat} : (BackY.mk i c cap).c = c := (rfl)
theorem by_cap {i c cap : Nat} : (BackY.mk i c cap).cap = cap := (rfl)
def lineL (b1 b2 : Nat) (l : List Int) (y : BackY) : List (Nat × Blk) := rowH 3 1 y.c y.cap (rowI (l.take y.i)) ++ [(b2, .box 52 [.nilsl 3]), (b1, .box 26 [i64 ((l.length : Int) - 1), slG (gps l)])]
set_option maxRecDepth 20000 in
theorem LineL_ok {l : List Int} (h : CurL l) : DataW Try.prog f_curve_Line [curL l] (.tup [lineV (runs 0 l), bv true]) := by
  obtain ⟨hne, h1, h2⟩ := id h
  have hn0 : 0 < l.length := List.length_pos_iff.2 hne
  have hgl := gps_len (l := l)
  obtain ⟨hg0, hgf⟩ := gps_first hne
  have hel0 := rowG_at hg0
  rw [hgf] at hel0
  have hof := Of_new (from' := 0) (l := l) (by omega) (by omega)
  have hwl : IntKind.i64.wrap ((l.length : Int) - 1 + 1) = (l.length : Int) := by rw [IntKind.wrap_i64]; omega
  refine CallW_intro comp_curve_Line (by simp) ?_
  simp -implicitDefEqProofs -proj only [go_sem, Nat.reduceBEq, Nat.reduceLT, Nat.reduceLeDiff, Nat.reduceAdd, Nat.reduceMul, ↓reduceIte, Int.reduceToNat, Int.reducePow, Int.reduceLT, Int.reduceLE, Int.reduceAdd, Int.reduceSub, Int.reduceMul, Int.reduceEq, Int.reduceNe]
  refine AllocA_intro (fun b1 hb1 => ?_)
  simp -implicitDefEqProofs -proj only [go_sem, Nat.reduceBEq, Nat.reduceLT, Nat.reduceLeDiff, Nat.reduceAdd, Nat.reduceMul, ↓reduceIte, Int.reduceToNat, Int.reducePow, Int.reduceLT, Int.reduceLE, Int.reduceAdd, Int.reduceSub, Int.reduceMul, Int.reduceEq, Int.reduceNe]
  refine AllocA_intro (fun b2 hb2 => ?_)
  have a1 := alloc_all (x := .box 26 [i64 ((l.length : Int) - 1), slG (gps l)]) hb1 (l := []) trivial
  have k1 := alloc_keys (x := .box 26 [i64 ((l.length : Int) - 1), slG (gps l)]) hb1 (l := []) trivial List.nodup_nil
  have a2 := alloc_all (x := .box 52 [.nilsl 3]) hb2 a1
  have k2 := alloc_keys (x := .box 52 [.nilsl 3]) hb2 a1 k1
  replace hb2 : upd Heap.none b1 _ b2 = none := hb2
  obtain ⟨n1, n2⟩ := fresh_ne hb2 upd_eq
  simp -implicitDefEqProofs -proj only [go_sem, Nat.reduceBEq, Nat.reduceLT, Nat.reduceLeDiff, Nat.reduceAdd, Nat.reduceMul, ↓reduceIte, Int.reduceToNat, Int.reducePow, Int.reduceLT, Int.reduceLE, Int.reduceAdd, Int.reduceSub, Int.reduceMul, Int.reduceEq, Int.reduceNe, n1, n2, rowG_len, decide_eq_false (show ¬ (l.length : Int) - 1 < 0 by omega), decide_eq_false (show ¬ 2000 < (l.length : Int) - 1 by omega), decide_eq_false (show ¬ ((gps l).length : Int) = 0 by omega), hwl, decide_eq_false (show ¬ (l.length : Int) < (gps l).length by omega)]
  refine ElemA_at _ (by omega) (i := 0) hel0 ?_
  simp -implicitDefEqProofs -proj only [go_sem, Nat.reduceBEq, Nat.reduceLT, Nat.reduceLeDiff, Nat.reduceAdd, Nat.reduceMul, ↓reduceIte, Int.reduceToNat, Int.reducePow, Int.reduceLT, Int.reduceLE, Int.reduceAdd, Int.reduceSub, Int.reduceMul, Int.reduceEq, Int.reduceNe, n1, n2, hwl, decide_eq_true (rfl : (0 : Int) = 0)]
  refine LoopA_k (fun y : BackY => y.i ≤ l.length ∧ (keys (lineL b1 b2 l y)).Nodup) 59 (fun y => [(1, .ptr b1 0), (2, .ptr b2 0), (4, rowV 0 1 y.c y.cap (rowI (l.take y.i))), (42, i64 l.length), (43, i64 y.i)]) (lineL b1 b2 l) (fun y => l.length - y.i) ⟨0, 0, 0⟩ ⟨Nat.zero_le _, k2⟩ rfl ?_ ?_ ?_
  · simp -implicitDefEqProofs -proj only [go_sem, Nat.reduceBEq, Nat.reduceLT, Nat.reduceLeDiff, Nat.reduceAdd, Nat.reduceMul, ↓reduceIte, Int.reduceToNat, Int.reducePow, Int.reduceLT, Int.reduceLE, Int.reduceAdd, Int.reduceSub, Int.reduceMul, Int.reduceEq, Int.reduceNe, AllAt, by_i, by_c, by_cap]
    rfl
  · simp -implicitDefEqProofs -proj only [go_sem, Nat.reduceBEq, Nat.reduceLT, Nat.reduceLeDiff, Nat.reduceAdd, Nat.reduceMul, ↓reduceIte, Int.reduceToNat, Int.reducePow, Int.reduceLT, Int.reduceLE, Int.reduceAdd, Int.reduceSub, Int.reduceMul, Int.reduceEq, Int.reduceNe]
    exact a2
  · rintro ⟨i, c, cap⟩ ⟨hi, hn⟩
    simp -implicitDefEqProofs only [by_i] at hi
    have hall := keepH_all hn
    obtain ⟨H, hH⟩ : ∃ H, keepH (lineL b1 b2 l ⟨i, c, cap⟩) = H := ⟨_, rfl⟩
    rw [hH] at hall
    simp -implicitDefEqProofs only [lineL, by_i, by_c, by_cap] at hall hn
    obtain ⟨hrow, e2, e1, _⟩ := AllH_app.1 hall
    by_cases hlt : i < l.length
    · have hat := AtL_ok h hlt
      have htk : l.take (i + 1) = l.take i ++ [l[i]] := List.take_succ_eq_append_getElem hlt
      have hl1 : (rowI (l.take i)).length = i := by rw [rowI_len, List.length_take]; omega
      have hl2 : (rowI (l.take (i + 1))).length = i + 1 := by rw [rowI_len, List.length_take]; omega
      have hne2 : rowI (l.take (i + 1)) ≠ [] := by intro e; rw [e] at hl2; simp at hl2
      generalize l[i] = v at *
      simp -implicitDefEqProofs -proj only [go_sem, Nat.reduceBEq, Nat.reduceLT, Nat.reduceLeDiff, Nat.reduceAdd, Nat.reduceMul, ↓reduceIte, Int.reduceToNat, Int.reducePow, Int.reduceLT, Int.reduceLE, Int.reduceAdd, Int.reduceSub, Int.reduceMul, Int.reduceEq, Int.reduceNe, by_i, by_c, by_cap, hH, e1, decide_eq_true (show (i : Int) < l.length by omega)]
      refine CallA_pure hat ?_
      simp -implicitDefEqProofs -proj only [go_sem, Nat.reduceBEq, Nat.reduceLT, Nat.reduceLeDiff, Nat.reduceAdd, Nat.reduceMul, ↓reduceIte, Int.reduceToNat, Int.reducePow, Int.reduceLT, Int.reduceLE, Int.reduceAdd, Int.reduceSub, Int.reduceMul, Int.reduceEq, Int.reduceNe]
      refine AllocR_intro (fun bs hs' => ?_)
      replace hs' : H bs = none := hs'
      simp -implicitDefEqProofs -proj only [go_sem, Nat.reduceBEq, Nat.reduceLT, Nat.reduceLeDiff, Nat.reduceAdd, Nat.reduceMul, ↓reduceIte, Int.reduceToNat, Int.reducePow, Int.reduceLT, Int.reduceLE, Int.reduceAdd, Int.reduceSub, Int.reduceMul, Int.reduceEq, Int.reduceNe]
      refine AppendA_grow (xs := rowI (l.take i)) (y := [.int .i64 v]) (t := 3) (capc := 1) [(b2, .box 52 [.nilsl 3]), (b1, .box 26 [i64 ((l.length : Int) - 1), slG (gps l)])] rfl (AllH_upd hs' hall) hn (by simp -implicitDefEqProofs -proj only [go_sem, Nat.reduceBEq, Nat.reduceLT, Nat.reduceLeDiff, Nat.reduceAdd, Nat.reduceMul, ↓reduceIte, Int.reduceToNat, Int.reducePow, Int.reduceLT, Int.reduceLE, Int.reduceAdd, Int.reduceSub, Int.reduceMul, Int.reduceEq, Int.reduceNe]) (by rw [hl1]; omega) (by rw [hl1]; omega) (fun H' c' cap' ha hk => ?_)
      rw [show rowI (l.take i) ++ [[.int .i64 v]] = rowI (l.take (i + 1)) by rw [htk]; simp [rowI]] at ha hk
      simp -implicitDefEqProofs -proj only [go_sem, Nat.reduceBEq, Nat.reduceLT, Nat.reduceLeDiff, Nat.reduceAdd, Nat.reduceMul, ↓reduceIte, Int.reduceToNat, Int.reducePow, Int.reduceLT, Int.reduceLE, Int.reduceAdd, Int.reduceSub, Int.reduceMul, Int.reduceEq, Int.reduceNe]
      refine LoopQ_k ⟨i + 1, c', cap'⟩ ⟨by show i + 1 ≤ l.length; omega, hk⟩ (by show l.length - (i + 1) < l.length - i; omega) rfl ?_ ha
      simp -implicitDefEqProofs -proj only [go_sem, Nat.reduceBEq, Nat.reduceLT, Nat.reduceLeDiff, Nat.reduceAdd, Nat.reduceMul, ↓reduceIte, Int.reduceToNat, Int.reducePow, Int.reduceLT, Int.reduceLE, Int.reduceAdd, Int.reduceSub, Int.reduceMul, Int.reduceEq, Int.reduceNe, AllAt, by_i, by_c, by_cap, i64_succ (show i < 9223372036854775807 by omega), rowV_ne hne2, hl1, hl2]
    · have hi' : i = l.length := by omega
      subst hi'
      rw [List.take_length] at hrow
      simp -implicitDefEqProofs -proj only [go_sem, Nat.reduceBEq, Nat.reduceLT, Nat.reduceLeDiff, Nat.reduceAdd, Nat.reduceMul, ↓reduceIte, Int.reduceToNat, Int.reducePow, Int.reduceLT, Int.reduceLE, Int.reduceAdd, Int.reduceSub, Int.reduceMul, Int.reduceEq, Int.reduceNe, by_i, by_c, by_cap, hH, decide_eq_false (show ¬ (l.length : Int) < l.length by omega), List.take_length]
      refine CallA_new hof (lend_cons (.refl _) (lend_cons (rowV_lend hrow) lend_nil)) ?_
      simp -implicitDefEqProofs -proj only [go_sem, Nat.reduceBEq, Nat.reduceLT, Nat.reduceLeDiff, Nat.reduceAdd, Nat.reduceMul, ↓reduceIte, Int.reduceToNat, Int.reducePow, Int.reduceLT, Int.reduceLE, Int.reduceAdd, Int.reduceSub, Int.reduceMul, Int.reduceEq, Int.reduceNe, e2]
      exact LendV_eq rfl
theorem GoodL_ok {l : List Int} (h : CurL l) : DataW Try.prog f_curve_Good [curL l] (bv true) := by
  have h1 := LineL_ok h
  have h2 := (OfL_ok (l := l) (by have := h.2.1; omega)).data
  rw [if_pos h] at h2
  have hgl := gps_len (l := l)
  have h3 := CSame_ok (m := (l.length : Int) - 1) (n := (l.length : Int) - 1) (a := gps l) (b := gps l) (by have := h.2.1; omega) (by have := h.2.1; omega)
  rw [decide_eq_true ⟨rfl, rfl⟩] at h3
  generalize runs 0 l = R at *
  refine CallW_intro comp_curve_Good (by simp) ?_
  simp -implicitDefEqProofs -proj only [go_sem, Nat.reduceBEq, Nat.reduceLT, Nat.reduceLeDiff, Nat.reduceAdd, Nat.reduceMul, ↓reduceIte, Int.reduceToNat, Int.reducePow, Int.reduceLT, Int.reduceLE, Int.reduceAdd, Int.reduceSub, Int.reduceMul, Int.reduceEq, Int.reduceNe]
  refine AllocA_intro (fun b1 hb1 => ?_)
  simp -implicitDefEqProofs -proj only [go_sem, Nat.reduceBEq, Nat.reduceLT, Nat.reduceLeDiff, Nat.reduceAdd, Nat.reduceMul, ↓reduceIte, Int.reduceToNat, Int.reducePow, Int.reduceLT, Int.reduceLE, Int.reduceAdd, Int.reduceSub, Int.reduceMul, Int.reduceEq, Int.reduceNe]
  refine CallA_pure h1 ?_
  simp -implicitDefEqProofs -proj only [go_sem, Nat.reduceBEq, Nat.reduceLT, Nat.reduceLeDiff, Nat.reduceAdd, Nat.reduceMul, ↓reduceIte, Int.reduceToNat, Int.reducePow, Int.reduceLT, Int.reduceLE, Int.reduceAdd, Int.reduceSub, Int.reduceMul, Int.reduceEq, Int.reduceNe]
  refine AllocA_intro (fun b3 hb3 => ?_)
  replace hb3 : upd Heap.none b1 _ b3 = none := hb3
  obtain ⟨n1, n2⟩ := fresh_ne hb3 upd_eq
  simp -implicitDefEqProofs -proj only [go_sem, Nat.reduceBEq, Nat.reduceLT, Nat.reduceLeDiff, Nat.reduceAdd, Nat.reduceMul, ↓reduceIte, Int.reduceToNat, Int.reducePow, Int.reduceLT, Int.reduceLE, Int.reduceAdd, Int.reduceSub, Int.reduceMul, Int.reduceEq, Int.reduceNe, n1, n2]
  refine CallA_pure h2 ?_
  simp -implicitDefEqProofs -proj only [go_sem, Nat.reduceBEq, Nat.reduceLT, Nat.reduceLeDiff, Nat.reduceAdd, Nat.reduceMul, ↓reduceIte, Int.reduceToNat, Int.reducePow, Int.reduceLT, Int.reduceLE, Int.reduceAdd, Int.reduceSub, Int.reduceMul, Int.reduceEq, Int.reduceNe, n1, n2]
  refine AllocA_intro (fun b5 hb5 => ?_)
  replace hb5 : upd (upd Heap.none b1 _) b3 _ b5 = none := hb5
  obtain ⟨n3, n4⟩ := fresh_ne hb5 upd_eq
  obtain ⟨n5, n6⟩ := fresh_ne hb5 (by rw [upd_ne n1]; exact upd_eq)
  simp -implicitDefEqProofs -proj only [go_sem, Nat.reduceBEq, Nat.reduceLT, Nat.reduceLeDiff, Nat.reduceAdd, Nat.reduceMul, ↓reduceIte, Int.reduceToNat, Int.reducePow, Int.reduceLT, Int.reduceLE, Int.reduceAdd, Int.reduceSub, Int.reduceMul, Int.reduceEq, Int.reduceNe, n1, n2, n3, n4, n5, n6]
  refine CallA_pure h3 ?_
  simp -implicitDefEqProofs -proj only [go_sem, Nat.reduceBEq, Nat.reduceLT, Nat.reduceLeDiff, Nat.reduceAdd, Nat.reduceMul, ↓reduceIte, Int.reduceToNat, Int.reducePow, Int.reduceLT, Int.reduceLE, Int.reduceAdd, Int.reduceSub, Int.reduceMul, Int.reduceEq, Int.reduceNe]
  exact LendV_eq rfl
end Go.Proofs.Ythamjpioodlckaa.Abs
