/- The package curve: of a line's runs, in groups. No claim stands here. -/
import Derived.Test.YthamjpioodlckaaKGrp15
set_option linter.unusedSimpArgs false
set_option linter.unusedVariables false
namespace Go.Proofs.Ythamjpioodlckaa.Abs
open Go Go.RowKit Go.Proofs
attribute [local go_sem] RunC_seq AF_n AF_r AF_b St_n St_t St_H Fst_mk Snd_mk RunC_ops RunC_cond RunC_block RunC_loop RunC_exit RunC_ret RunC_skip RunO_nil RunO_code RunO_code_ret RunO_code_exit RunO_blk RunO_blk_ret RunO_blk_exit RunL_nil RunL_guard GuardA_tt GuardA_ff GuardA_tf GuardA_ft GuardA_void CondA_t CondA_f PickA_t PickA_f RunL_mov RunL_pick RunL_alloc RunL_box RunL_load LoadA_ptr LoadB_1 LoadB_n LoadA_dptr LoadA_dptr_n RunL_store StoreA_ptr StoreB_box RunL_bin Bin_add Bin_sub Bin_mul Bin_quo Bin_rem Bin_shl Bin_shr Bin_andI Bin_orI Bin_xorI Bin_eql Bin_neq Bin_lss Bin_leq Bin_gtr Bin_geq RunL_binb Bin_beql Bin_bneq RunL_un UnA_not UnA_neg RunL_conv convV MapA_some RunL_nilCheck nilV RunL_mkfn RunL_fieldAddr faV RunL_field FieldA_1 FieldA_n RunL_elemAddr EAddrA_sl EAddrA_own EptrA_eq RunL_build BuildA_some RunL_extract ExtA_eq RunL_len lenV_sl lenV_nilsl lenV_own RunL_slen RunL_idxStr IdxSA_eq slenV RunL_minmax mmV minmaxL RunL_call RunL_callv CallvA_fn putS ev evL evO evP eqK eqKs EqB_agg RunL_eqAgg EqA_t EqA_f evQ buildC fits_agg cellsAV_agg fits_d cellsAV_d fits_nilp cellsAV_nilp fits_nilsl cellsAV_nilsl fits_nilfn cellsAV_nilfn fits_ptr cellsAV_ptr fits_eptr cellsAV_eptr fits_dptr cellsAV_dptr fits_own cellsAV_own fits_fn cellsAV_fn rowV_fits rowV_cells rowV_len lenAV setSeg nth seg mapD repeatL putT_get upd_get argT keepT_cons keepT_nil keepH_cons keepH_nil cond_true cond_false VC_true finW resW resL resOne LoopQ_exit LoopQ_ret List.cons_append List.nil_append Bool.not_true Bool.not_false Bool.and_true Bool.and_self Nat.lt_add_left_iff_pos Nat.zero_add Nat.add_zero List.drop_succ_cons List.drop_zero List.take_succ_cons List.take_zero beq_self_eq_true Bool.false_eq_true RunC_dops RunL_loadS RunL_loadD LoadDA_dptr RunL_storeS StoreSA_ptr RunL_pcall RunL_pcallv PCallvA_fn newsOk and_self and_true true_and loadW_ptr LoadK_1 LoadK_n upd_upd RunL_buildSlice BSliceA_some RunL_buildSliceD frzL frz cutL LoadA_eptr LoadE_row RunL_append RunL_slice SliceA_sl StoreA_eptr List.length_cons List.length_nil Nat.min_def Int.cast_ofNat_Int Int.natCast_zero Int.natCast_one decide_true decide_false List.getElem?_cons_zero List.getElem?_cons_succ RunC_rangef CallvA_yld putL_nil putL_cons RangeQ_exit RangeQ_ret
def bigV (r : Run) : Prop := r.v < -2305843009213693952 ∨ 2305843009213693952 < r.v
instance (r : Run) : Decidable (bigV r) := by unfold bigV; exact inferInstance
theorem Of1_ok (r : Run) : DataW Try.prog f_curve_Of_1 [r.av] (bv (decide (bigV r))) := by
  refine CallW_intro comp_curve_Of_1 (by simp) ?_
  simp -implicitDefEqProofs -proj only [go_sem, Nat.reduceBEq, Nat.reduceLT, Nat.reduceLeDiff, Nat.reduceAdd, Nat.reduceMul, ↓reduceIte, Int.reduceToNat, Int.reducePow, Int.reduceLT, Int.reduceLE, Int.reduceAdd, Int.reduceSub, Int.reduceMul, Int.reduceEq, Int.reduceNe]
  refine AllocA_intro (fun b hb => ?_)
  by_cases h1 : r.v < -2305843009213693952
  · simp -implicitDefEqProofs -proj only [go_sem, Nat.reduceBEq, Nat.reduceLT, Nat.reduceLeDiff, Nat.reduceAdd, Nat.reduceMul, ↓reduceIte, Int.reduceToNat, Int.reducePow, Int.reduceLT, Int.reduceLE, Int.reduceAdd, Int.reduceSub, Int.reduceMul, Int.reduceEq, Int.reduceNe, decide_eq_true h1]
    exact LendV_eq (by rw [decide_eq_true (show bigV r from .inl h1)])
  · by_cases h2 : 2305843009213693952 < r.v
    · simp -implicitDefEqProofs -proj only [go_sem, Nat.reduceBEq, Nat.reduceLT, Nat.reduceLeDiff, Nat.reduceAdd, Nat.reduceMul, ↓reduceIte, Int.reduceToNat, Int.reducePow, Int.reduceLT, Int.reduceLE, Int.reduceAdd, Int.reduceSub, Int.reduceMul, Int.reduceEq, Int.reduceNe, decide_eq_false h1, decide_eq_true h2]
      exact LendV_eq (by rw [decide_eq_true (show bigV r from .inr h2)])
    · simp -implicitDefEqProofs -proj only [go_sem, Nat.reduceBEq, Nat.reduceLT, Nat.reduceLeDiff, Nat.reduceAdd, Nat.reduceMul, ↓reduceIte, Int.reduceToNat, Int.reducePow, Int.reduceLT, Int.reduceLE, Int.reduceAdd, Int.reduceSub, Int.reduceMul, Int.reduceEq, Int.reduceNe, decide_eq_false h1, decide_eq_false h2]
      exact LendV_eq (by rw [decide_eq_false (show ¬ bigV r by unfold bigV; omega)])
def idxP (p : Run → Bool) (l : List Run) : Int := match l.findIdx? p with
  | some i => i
  | none => -1
theorem IndexFunc_ok {l : List Run} {f : FuncId} {p : Run → Bool} (hf : ∀ r : Run, DataW Try.prog f [r.av] (bv (p r))) (hl : l.length ≤ 1000000) : DataW Try.prog f_slices_IndexFunc_line_Run_int_ [slR l, .fn f []] (i64 (idxP p l)) := by
  refine CallW_intro comp_slices_IndexFunc_line_Run_int_ (by simp) ?_
  simp -implicitDefEqProofs -proj only [go_sem, Nat.reduceBEq, Nat.reduceLT, Nat.reduceLeDiff, Nat.reduceAdd, Nat.reduceMul, ↓reduceIte, Int.reduceToNat, Int.reducePow, Int.reduceLT, Int.reduceLE, Int.reduceAdd, Int.reduceSub, Int.reduceMul, Int.reduceEq, Int.reduceNe, rowR_len]
  refine LoopA_k (fun i : Nat => i ≤ l.length ∧ ∀ (j : Nat) (h : j < l.length), j < i → p l[j] = false) 19 (fun i => [(0, slR l), (1, .fn f []), (7, i64 l.length), (8, i64 i)]) (fun _ => []) (fun i => l.length - i) 0 ⟨Nat.zero_le _, fun j _ h => absurd h (Nat.not_lt_zero _)⟩ rfl ?_ ?_ ?_
  · simp -implicitDefEqProofs -proj only [go_sem, Nat.reduceBEq, Nat.reduceLT, Nat.reduceLeDiff, Nat.reduceAdd, Nat.reduceMul, ↓reduceIte, Int.reduceToNat, Int.reducePow, Int.reduceLT, Int.reduceLE, Int.reduceAdd, Int.reduceSub, Int.reduceMul, Int.reduceEq, Int.reduceNe, AllAt]
  · trivial
  · rintro i ⟨hi, hs⟩
    by_cases h : i < l.length
    · have hel := rowR_at h
      have hff := hf l[i]
      have hstep : p l[i] = false → ∀ (j : Nat) (h : j < l.length), j < i + 1 → p l[j] = false := by
        intro e j h1 h2
        by_cases hj : j = i
        · subst hj; exact e
        · exact hs j h1 (by omega)
      have hfound : p l[i] = true → idxP p l = i := by
        intro e
        unfold idxP
        rw [List.findIdx?_eq_some_iff_getElem.2 ⟨h, e, fun j hj => by simpa using hs j (by omega) hj⟩]
      generalize l[i] = r at *
      simp -implicitDefEqProofs -proj only [go_sem, Nat.reduceBEq, Nat.reduceLT, Nat.reduceLeDiff, Nat.reduceAdd, Nat.reduceMul, ↓reduceIte, Int.reduceToNat, Int.reducePow, Int.reduceLT, Int.reduceLE, Int.reduceAdd, Int.reduceSub, Int.reduceMul, Int.reduceEq, Int.reduceNe, decide_eq_true (show (i : Int) < l.length by omega)]
      refine ElemA_at _ (by omega) hel ?_
      simp -implicitDefEqProofs -proj only [go_sem, Nat.reduceBEq, Nat.reduceLT, Nat.reduceLeDiff, Nat.reduceAdd, Nat.reduceMul, ↓reduceIte, Int.reduceToNat, Int.reducePow, Int.reduceLT, Int.reduceLE, Int.reduceAdd, Int.reduceSub, Int.reduceMul, Int.reduceEq, Int.reduceNe]
      refine CallA_pure hff ?_
      cases hp : p r
      · simp -implicitDefEqProofs -proj only [go_sem, Nat.reduceBEq, Nat.reduceLT, Nat.reduceLeDiff, Nat.reduceAdd, Nat.reduceMul, ↓reduceIte, Int.reduceToNat, Int.reducePow, Int.reduceLT, Int.reduceLE, Int.reduceAdd, Int.reduceSub, Int.reduceMul, Int.reduceEq, Int.reduceNe]
        refine LoopQ_k (i + 1) ⟨by omega, hstep hp⟩ (by omega) rfl ?_ trivial
        simp -implicitDefEqProofs -proj only [go_sem, Nat.reduceBEq, Nat.reduceLT, Nat.reduceLeDiff, Nat.reduceAdd, Nat.reduceMul, ↓reduceIte, Int.reduceToNat, Int.reducePow, Int.reduceLT, Int.reduceLE, Int.reduceAdd, Int.reduceSub, Int.reduceMul, Int.reduceEq, Int.reduceNe, AllAt, i64_succ (show i < 9223372036854775807 by omega)]
      · simp -implicitDefEqProofs -proj only [go_sem, Nat.reduceBEq, Nat.reduceLT, Nat.reduceLeDiff, Nat.reduceAdd, Nat.reduceMul, ↓reduceIte, Int.reduceToNat, Int.reducePow, Int.reduceLT, Int.reduceLE, Int.reduceAdd, Int.reduceSub, Int.reduceMul, Int.reduceEq, Int.reduceNe]
        exact LendV_eq (by rw [hfound hp])
    · have hi' : i = l.length := by omega
      subst hi'
      simp -implicitDefEqProofs -proj only [go_sem, Nat.reduceBEq, Nat.reduceLT, Nat.reduceLeDiff, Nat.reduceAdd, Nat.reduceMul, ↓reduceIte, Int.reduceToNat, Int.reducePow, Int.reduceLT, Int.reduceLE, Int.reduceAdd, Int.reduceSub, Int.reduceMul, Int.reduceEq, Int.reduceNe, decide_eq_false (show ¬ (l.length : Int) < l.length by omega)]
      have : idxP p l = -1 := by
        unfold idxP
        rw [List.findIdx?_eq_none_iff.2 fun x hx => ?_]
        obtain ⟨j, hj, rfl⟩ := List.getElem_of_mem hx
        exact hs j hj hj
      exact LendV_eq (by rw [this])
theorem Contains_ok {l : List Run} {f : FuncId} {p : Run → Bool} (hf : ∀ r : Run, DataW Try.prog f [r.av] (bv (p r))) (hl : l.length ≤ 1000000) : DataW Try.prog f_slices_ContainsFunc_line_Run_int_ [slR l, .fn f []] (bv (l.any p)) := by
  refine CallW_intro comp_slices_ContainsFunc_line_Run_int_ (by simp) ?_
  have h := IndexFunc_ok hf hl
  simp -implicitDefEqProofs -proj only [go_sem, Nat.reduceBEq, Nat.reduceLT, Nat.reduceLeDiff, Nat.reduceAdd, Nat.reduceMul, ↓reduceIte, Int.reduceToNat, Int.reducePow, Int.reduceLT, Int.reduceLE, Int.reduceAdd, Int.reduceSub, Int.reduceMul, Int.reduceEq, Int.reduceNe]
  refine CallA_pure h ?_
  have hd : decide (0 ≤ idxP p l) = l.any p := by
    unfold idxP
    cases hh : l.findIdx? p with
    | none =>
      have := List.findIdx?_eq_none_iff.1 hh
      simp -implicitDefEqProofs only []
      rw [show l.any p = false from List.any_eq_false.2 fun x hx => by rw [this x hx]; simp]
      decide
    | some i =>
      obtain ⟨h1, h2, _⟩ := List.findIdx?_eq_some_iff_getElem.1 hh
      rw [show l.any p = true from List.any_eq_true.2 ⟨_, List.getElem_mem h1, h2⟩]
      simp
  simp -implicitDefEqProofs -proj only [go_sem, Nat.reduceBEq, Nat.reduceLT, Nat.reduceLeDiff, Nat.reduceAdd, Nat.reduceMul, ↓reduceIte, Int.reduceToNat, Int.reducePow, Int.reduceLT, Int.reduceLE, Int.reduceAdd, Int.reduceSub, Int.reduceMul, Int.reduceEq, Int.reduceNe, hd]
  exact LendV_eq rfl
structure SeqX where
  c : Nat
  cap : Nat
  R : List Run
theorem qx_c {c cap : Nat} {R : List Run} : (SeqX.mk c cap R).c = c := (rfl)
theorem qx_cap {c cap : Nat} {R : List Run} : (SeqX.mk c cap R).cap = cap := (rfl)
theorem qx_R {c cap : Nat} {R : List Run} : (SeqX.mk c cap R).R = R := (rfl)
def seqB (b2 : Nat) (rest : List (Nat × Blk)) (y : SeqX) : List (Nat × Blk) := rowH 62 3 y.c y.cap (rowR y.R) ++ ((b2, .box 50 [rowV 0 3 y.c y.cap (rowR y.R)]) :: rest)
theorem AppendSeq_ok {H : Heap} {f : FuncId} {caps : List AV} {bl : List (Nat × Blk)} {l : List Run} (hit : IterW Try.prog f caps bl (runArgs l)) (rest : List (Nat × Blk)) (hbl : ∀ p ∈ bl, p ∈ rest) (hrest : AllH H rest) (hnd : (keys rest).Nodup) (hl : l.length ≤ 1000000) :
    CallW Try.prog f_slices_AppendSeq_line_Run_int_ [.nilsl 0, .fn f caps] H fun r H' => ∃ c cap, r = rowV 0 3 c cap (rowR l) ∧ AllH H' (rowH 62 3 c cap (rowR l) ++ rest) ∧ (keys (rowH 62 3 c cap (rowR l) ++ rest)).Nodup := by
  refine CallW_intro comp_slices_AppendSeq_line_Run_int_ (by simp) ?_
  simp -implicitDefEqProofs -proj only [go_sem, Nat.reduceBEq, Nat.reduceLT, Nat.reduceLeDiff, Nat.reduceAdd, Nat.reduceMul, ↓reduceIte, Int.reduceToNat, Int.reducePow, Int.reduceLT, Int.reduceLE, Int.reduceAdd, Int.reduceSub, Int.reduceMul, Int.reduceEq, Int.reduceNe]
  refine AllocA_intro (fun b2 hb2 => ?_)
  have a2 := alloc_all (x := .box 50 [.nilsl 0]) hb2 hrest
  have n2 := alloc_keys (x := .box 50 [.nilsl 0]) hb2 hrest hnd
  simp -implicitDefEqProofs -proj only [go_sem, Nat.reduceBEq, Nat.reduceLT, Nat.reduceLeDiff, Nat.reduceAdd, Nat.reduceMul, ↓reduceIte, Int.reduceToNat, Int.reducePow, Int.reduceLT, Int.reduceLE, Int.reduceAdd, Int.reduceSub, Int.reduceMul, Int.reduceEq, Int.reduceNe]
  refine RangeA_k [(2, .ptr b2 0)] (fun pre y => y.R = l.take pre.length ∧ (keys (seqB b2 rest y)).Nodup) (seqB b2 rest) ⟨0, 0, []⟩ hit (by simp -implicitDefEqProofs -proj only [go_sem, Nat.reduceBEq, Nat.reduceLT, Nat.reduceLeDiff, Nat.reduceAdd, Nat.reduceMul, ↓reduceIte, Int.reduceToNat, Int.reducePow, Int.reduceLT, Int.reduceLE, Int.reduceAdd, Int.reduceSub, Int.reduceMul, Int.reduceEq, Int.reduceNe]) rfl (by simp) (by simp -implicitDefEqProofs -proj only [go_sem, Nat.reduceBEq, Nat.reduceLT, Nat.reduceLeDiff, Nat.reduceAdd, Nat.reduceMul, ↓reduceIte, Int.reduceToNat, Int.reducePow, Int.reduceLT, Int.reduceLE, Int.reduceAdd, Int.reduceSub, Int.reduceMul, Int.reduceEq, Int.reduceNe, AllAt]) ?_ ⟨by simp, n2⟩ a2 ?_ ?_
  · intro pre y _ p hp
    exact List.mem_append.2 (.inr (List.mem_cons_of_mem _ (hbl p hp)))
  · rintro pre v post ⟨c, cap, R⟩ hxs ⟨hR, hn⟩
    obtain ⟨hlt, rfl, hpre⟩ := map_split hxs
    have hall := keepH_all hn
    simp -implicitDefEqProofs only [qx_R] at hR
    have hRl : R.length = pre.length := by rw [hR, List.length_take]; omega
    obtain ⟨H1, hH⟩ : ∃ H1, keepH (seqB b2 rest ⟨c, cap, R⟩) = H1 := ⟨_, rfl⟩
    rw [hH] at hall ⊢
    simp -implicitDefEqProofs only [seqB, qx_c, qx_cap, qx_R] at hall hn
    obtain ⟨hrow, h2, _⟩ := AllH_app.1 hall
    have htk : l.take (pre.length + 1) = R ++ [l[pre.length]] := by rw [List.take_succ_eq_append_getElem hlt, hR]
    generalize l[pre.length] = r at *
    simp -implicitDefEqProofs -proj only [go_sem, Nat.reduceBEq, Nat.reduceLT, Nat.reduceLeDiff, Nat.reduceAdd, Nat.reduceMul, ↓reduceIte, Int.reduceToNat, Int.reducePow, Int.reduceLT, Int.reduceLE, Int.reduceAdd, Int.reduceSub, Int.reduceMul, Int.reduceEq, Int.reduceNe]
    refine AllocA_intro (fun b6 hb6 => ?_)
    replace hb6 : H1 b6 = none := hb6
    obtain ⟨p1, p2⟩ := fresh_ne hb6 h2
    simp -implicitDefEqProofs -proj only [go_sem, Nat.reduceBEq, Nat.reduceLT, Nat.reduceLeDiff, Nat.reduceAdd, Nat.reduceMul, ↓reduceIte, Int.reduceToNat, Int.reducePow, Int.reduceLT, Int.reduceLE, Int.reduceAdd, Int.reduceSub, Int.reduceMul, Int.reduceEq, Int.reduceNe, p1, h2]
    refine AllocR_intro (fun bs hs' => ?_)
    replace hs' : upd H1 b6 _ bs = none := hs'
    simp -implicitDefEqProofs -proj only [go_sem, Nat.reduceBEq, Nat.reduceLT, Nat.reduceLeDiff, Nat.reduceAdd, Nat.reduceMul, ↓reduceIte, Int.reduceToNat, Int.reducePow, Int.reduceLT, Int.reduceLE, Int.reduceAdd, Int.reduceSub, Int.reduceMul, Int.reduceEq, Int.reduceNe]
    refine AppendA_grow (xs := rowR R) (y := r.el) (t := 62) (capc := 1) ((b2, .box 50 [rowV 0 3 c cap (rowR R)]) :: rest) rfl (AllH_upd hs' (AllH_upd hb6 hall)) hn (by simp -implicitDefEqProofs -proj only [go_sem, Nat.reduceBEq, Nat.reduceLT, Nat.reduceLeDiff, Nat.reduceAdd, Nat.reduceMul, ↓reduceIte, Int.reduceToNat, Int.reducePow, Int.reduceLT, Int.reduceLE, Int.reduceAdd, Int.reduceSub, Int.reduceMul, Int.reduceEq, Int.reduceNe]; rfl) (by rw [rowR_len]; omega) (by rw [rowR_len]; omega) (fun H' c' cap' ha hk => ?_)
    obtain ⟨hrow', hbox⟩ := AllH_app.1 ha
    simp -implicitDefEqProofs -proj only [go_sem, Nat.reduceBEq, Nat.reduceLT, Nat.reduceLeDiff, Nat.reduceAdd, Nat.reduceMul, ↓reduceIte, Int.reduceToNat, Int.reducePow, Int.reduceLT, Int.reduceLE, Int.reduceAdd, Int.reduceSub, Int.reduceMul, Int.reduceEq, Int.reduceNe, hbox.1]
    rw [rowR_snoc] at hrow' hk ha
    refine RangeQ_k ⟨c', cap', R ++ [r]⟩ ⟨by simp -implicitDefEqProofs only [qx_R, List.length_append, List.length_singleton]; exact htk.symm, ?_⟩ ?_
    · simpa only [keys, seqB, qx_c, qx_cap, qx_R, List.map_append, List.map_cons, List.map_nil] using hk
    · have hne : rowR (R ++ [r]) ≠ [] := by simp [rowR]
      refine AllH_app.2 ⟨?_, ?_⟩
      · refine drop_all hrow' ?_
        simp -implicitDefEqProofs only [keys, List.map_append, List.nodup_append, List.map_cons, List.map_nil, List.mem_cons] at hk
        exact fun hm => hk.2.2 _ hm _ (.inl rfl) rfl
      · have := upd_all (x' := .box 50 [.own c' 3 0 ((rowR R).length + 1) cap']) hbox (by simp -implicitDefEqProofs only [keys, List.map_append, List.nodup_append] at hk ⊢; exact hk.2.1)
        simp -implicitDefEqProofs only [qx_c, qx_cap, qx_R, rowV_ne hne, show (rowR (R ++ [r])).length = (rowR R).length + 1 by simp [rowR]]
        exact this
  · rintro ⟨c, cap, R⟩ ⟨hR, hn⟩
    have hall := keepH_all hn
    simp -implicitDefEqProofs only [qx_R] at hR
    obtain ⟨H1, hH⟩ : ∃ H1, keepH (seqB b2 rest ⟨c, cap, R⟩) = H1 := ⟨_, rfl⟩
    rw [hH] at hall ⊢
    simp -implicitDefEqProofs only [seqB, qx_c, qx_cap, qx_R] at hall hn
    obtain ⟨hrow, h2, hr2⟩ := AllH_app.1 hall
    rw [List.length_map, List.take_length] at hR
    subst hR
    simp -implicitDefEqProofs -proj only [go_sem, Nat.reduceBEq, Nat.reduceLT, Nat.reduceLeDiff, Nat.reduceAdd, Nat.reduceMul, ↓reduceIte, Int.reduceToNat, Int.reducePow, Int.reduceLT, Int.reduceLE, Int.reduceAdd, Int.reduceSub, Int.reduceMul, Int.reduceEq, Int.reduceNe, h2]
    refine ⟨c, cap, rfl, AllH_app.2 ⟨hrow, hr2⟩, ?_⟩
    simp -implicitDefEqProofs only [keys, List.map_append, List.nodup_append, List.map_cons, List.nodup_cons, List.mem_cons] at hn ⊢
    exact ⟨hn.1, hn.2.1.2, fun a ha b hb => hn.2.2 a ha b (.inr hb)⟩
theorem keepH_mem {k : Nat} : ∀ {l : List (Nat × Blk)}, keepH l k ≠ none → k ∈ keys l
  | [], h => absurd rfl h
  | (b, x) :: l, h => by
    rw [keepH_cons] at h
    by_cases e : k = b
    · exact List.mem_cons.2 (.inl e)
    · rw [if_neg e] at h
      exact List.mem_cons_of_mem _ (keepH_mem h)
theorem Collect_ok {H : Heap} {f : FuncId} {caps : List AV} {bl : List (Nat × Blk)} {l : List Run} (hit : IterW Try.prog f caps bl (runArgs l)) (rest : List (Nat × Blk)) (hbl : ∀ p ∈ bl, p ∈ rest) (hrest : AllH H rest) (hnd : (keys rest).Nodup) (hl : l.length ≤ 1000000) :
    CallW Try.prog f_slices_Collect_line_Run_int_ [.fn f caps] H fun r H' => r = slR l ∧ AllH H' rest := by
  have hA := CallW.froze (v := slR l) (K := fun H' => AllH H' rest) (CallW.mono (AppendSeq_ok hit rest hbl hrest hnd hl) fun r H' ⟨c, cap, hr, ha, hk⟩ => by
    subst hr
    have hk1 : (keys (rowH 62 3 c cap (rowR l))).Nodup := by simp -implicitDefEqProofs only [keys, List.map_append, List.nodup_append] at hk; exact hk.1
    refine ⟨keepH (rowH 62 3 c cap (rowR l)), keepH rest, AllH_keep (AllH_app.1 ha).1, fun k => ?_, rowV_new (keepH_all hk1) rowR_scal, keepH_all hnd⟩
    rcases AllH_keep (AllH_app.1 ha).2 k with e | e
    · exact .inl e
    · by_cases hr : keepH rest k = none
      · exact .inl hr
      · refine .inr ⟨e, ?_⟩
        by_cases e1 : keepH (rowH 62 3 c cap (rowR l)) k = none
        · exact e1
        · simp -implicitDefEqProofs only [keys, List.map_append, List.nodup_append] at hk
          exact absurd rfl (hk.2.2 k (keepH_mem e1) k (keepH_mem hr)))
  refine CallW_intro comp_slices_Collect_line_Run_int_ (by simp) ?_
  simp -implicitDefEqProofs -proj only [go_sem, Nat.reduceBEq, Nat.reduceLT, Nat.reduceLeDiff, Nat.reduceAdd, Nat.reduceMul, ↓reduceIte, Int.reduceToNat, Int.reducePow, Int.reduceLT, Int.reduceLE, Int.reduceAdd, Int.reduceSub, Int.reduceMul, Int.reduceEq, Int.reduceNe]
  refine CallA_w hA ?_
  rintro r H' ⟨rfl, h⟩
  simp -implicitDefEqProofs -proj only [go_sem, Nat.reduceBEq, Nat.reduceLT, Nat.reduceLeDiff, Nat.reduceAdd, Nat.reduceMul, ↓reduceIte, Int.reduceToNat, Int.reducePow, Int.reduceLT, Int.reduceLE, Int.reduceAdd, Int.reduceSub, Int.reduceMul, Int.reduceEq, Int.reduceNe]
  exact h
def Grp.el (g : Grp) : List D := [.int .i64 g.f, .int .i64 g.v, .int .i64 g.w, .int .i64 g.r, .int .i64 g.c]
abbrev Grp.av (g : Grp) : AV := .agg [i64 g.f, i64 g.v, i64 g.w, i64 g.r, i64 g.c]
/-- Runs whose numbers are small. -/
def RunOK (r : Run) : Prop := (0 ≤ r.f ∧ r.f ≤ 3000) ∧ (-2305843009213693952 ≤ r.v ∧ r.v ≤ 2305843009213693952)
theorem runLen_at {w r : Int} {S : List Run} {c : Nat} (h0 : 0 < c) (h : c < S.length) : runLen w r (S[c - 1]'(by omega)) (S.drop c) = if S[c].f - (S[c - 1]'(by omega)).f = w ∧ S[c].v - (S[c - 1]'(by omega)).v = r then runLen w r S[c] (S.drop (c + 1)) + 1 else 0 := by
  rw [List.drop_eq_getElem_cons h, runLen]
theorem grpOf_eq {S : List Run} (h : 1 < S.length) : grpOf (S[0]'(by omega)) (S.drop 1) = (⟨(S[0]'(by omega)).f, (S[0]'(by omega)).v, S[1].f - (S[0]'(by omega)).f, S[1].v - (S[0]'(by omega)).v, ((runLen (S[1].f - (S[0]'(by omega)).f) (S[1].v - (S[0]'(by omega)).v) (S[0]'(by omega)) (S.drop 1) + 1 : Nat) : Int)⟩, runLen (S[1].f - (S[0]'(by omega)).f) (S[1].v - (S[0]'(by omega)).v) (S[0]'(by omega)) (S.drop 1) + 1) := by
  match S, h with
  | a :: b :: l, _ => rfl
set_option maxRecDepth 20000 in
theorem group_ok {S : List Run} (h0 : 0 < S.length) (hb : ∀ r ∈ S, RunOK r) (hl : S.length ≤ 3000) : DataW Try.prog f_curve_group [slR S] (.tup [(grpOf S[0] (S.drop 1)).1.av, i64 (grpOf S[0] (S.drop 1)).2]) := by
  refine CallW_intro comp_curve_group (by simp) ?_
  have e0 := rowR_at h0
  have b0 := hb _ (List.getElem_mem h0)
  by_cases h1 : S.length = 1
  · have hg : grpOf S[0] (S.drop 1) = (⟨S[0].f, S[0].v, 0, 0, 1⟩, 1) := by rw [List.drop_eq_nil_of_le (by omega)]; rfl
    rw [hg]
    generalize S[0] = a at *
    simp -implicitDefEqProofs -proj only [go_sem, Nat.reduceBEq, Nat.reduceLT, Nat.reduceLeDiff, Nat.reduceAdd, Nat.reduceMul, ↓reduceIte, Int.reduceToNat, Int.reducePow, Int.reduceLT, Int.reduceLE, Int.reduceAdd, Int.reduceSub, Int.reduceMul, Int.reduceEq, Int.reduceNe]
    refine AllocA_intro (fun b2 hb2 => ?_)
    simp -implicitDefEqProofs -proj only [go_sem, Nat.reduceBEq, Nat.reduceLT, Nat.reduceLeDiff, Nat.reduceAdd, Nat.reduceMul, ↓reduceIte, Int.reduceToNat, Int.reducePow, Int.reduceLT, Int.reduceLE, Int.reduceAdd, Int.reduceSub, Int.reduceMul, Int.reduceEq, Int.reduceNe]
    refine ElemA_at _ (by omega) (i := 0) e0 ?_
    simp -implicitDefEqProofs -proj only [go_sem, Nat.reduceBEq, Nat.reduceLT, Nat.reduceLeDiff, Nat.reduceAdd, Nat.reduceMul, ↓reduceIte, Int.reduceToNat, Int.reducePow, Int.reduceLT, Int.reduceLE, Int.reduceAdd, Int.reduceSub, Int.reduceMul, Int.reduceEq, Int.reduceNe]
    refine ElemA_at _ (by omega) (i := 0) e0 ?_
    simp -implicitDefEqProofs -proj only [go_sem, Nat.reduceBEq, Nat.reduceLT, Nat.reduceLeDiff, Nat.reduceAdd, Nat.reduceMul, ↓reduceIte, Int.reduceToNat, Int.reducePow, Int.reduceLT, Int.reduceLE, Int.reduceAdd, Int.reduceSub, Int.reduceMul, Int.reduceEq, Int.reduceNe]
    refine AllocA_intro (fun b4 hb4 => ?_)
    replace hb4 : upd Heap.none b2 _ b4 = none := hb4
    obtain ⟨n1, n2⟩ := fresh_ne hb4 upd_eq
    simp -implicitDefEqProofs -proj only [go_sem, Nat.reduceBEq, Nat.reduceLT, Nat.reduceLeDiff, Nat.reduceAdd, Nat.reduceMul, ↓reduceIte, Int.reduceToNat, Int.reducePow, Int.reduceLT, Int.reduceLE, Int.reduceAdd, Int.reduceSub, Int.reduceMul, Int.reduceEq, Int.reduceNe, n1, n2, rowR_len, decide_eq_true (show (S.length : Int) = 1 by omega)]
    exact LendV_eq rfl
  · have h1' : 1 < S.length := by omega
    have e1 := rowR_at h1'
    have b1 := hb _ (List.getElem_mem h1')
    have hg := grpOf_eq h1'
    obtain ⟨n, hn⟩ : ∃ n, (grpOf S[0] (S.drop 1)).2 = n := ⟨_, rfl⟩
    have hn1 : runLen (S[1].f - S[0].f) (S[1].v - S[0].v) S[0] (S.drop 1) + 1 = n := by rw [← hn, hg]
    have hg1 : (grpOf S[0] (S.drop 1)).1 = ⟨S[0].f, S[0].v, S[1].f - S[0].f, S[1].v - S[0].v, (n : Int)⟩ := by rw [hg, hn1]
    rw [hn, hg1]
    obtain ⟨w, hw⟩ : ∃ w, S[1].f - S[0].f = w := ⟨_, rfl⟩
    obtain ⟨r, hr⟩ : ∃ r, S[1].v - S[0].v = r := ⟨_, rfl⟩
    have ww : IntKind.i64.wrap (S[1].f - S[0].f) = w := by unfold RunOK at b0 b1; rw [IntKind.wrap_i64]; omega
    have wr : IntKind.i64.wrap (S[1].v - S[0].v) = r := by unfold RunOK at b0 b1; rw [IntKind.wrap_i64]; omega
    rw [hw, hr] at hn1 ⊢
    obtain ⟨a, ha⟩ : ∃ a, S[0] = a := ⟨_, rfl⟩
    obtain ⟨b, hbb⟩ : ∃ b, S[1] = b := ⟨_, rfl⟩
    have hn1' : runLen w r (S[1 - 1]'(by omega)) (S.drop 1) + 1 = n := hn1
    rw [ha] at e0 ww wr ⊢
    rw [hbb] at e1 ww wr
    clear hg hg1 hw hr hn b0 b1
    simp -implicitDefEqProofs -proj only [go_sem, Nat.reduceBEq, Nat.reduceLT, Nat.reduceLeDiff, Nat.reduceAdd, Nat.reduceMul, ↓reduceIte, Int.reduceToNat, Int.reducePow, Int.reduceLT, Int.reduceLE, Int.reduceAdd, Int.reduceSub, Int.reduceMul, Int.reduceEq, Int.reduceNe]
    refine AllocA_intro (fun b2 hb2 => ?_)
    simp -implicitDefEqProofs -proj only [go_sem, Nat.reduceBEq, Nat.reduceLT, Nat.reduceLeDiff, Nat.reduceAdd, Nat.reduceMul, ↓reduceIte, Int.reduceToNat, Int.reducePow, Int.reduceLT, Int.reduceLE, Int.reduceAdd, Int.reduceSub, Int.reduceMul, Int.reduceEq, Int.reduceNe]
    refine ElemA_at _ (by omega) (i := 0) e0 ?_
    simp -implicitDefEqProofs -proj only [go_sem, Nat.reduceBEq, Nat.reduceLT, Nat.reduceLeDiff, Nat.reduceAdd, Nat.reduceMul, ↓reduceIte, Int.reduceToNat, Int.reducePow, Int.reduceLT, Int.reduceLE, Int.reduceAdd, Int.reduceSub, Int.reduceMul, Int.reduceEq, Int.reduceNe]
    refine ElemA_at _ (by omega) (i := 0) e0 ?_
    simp -implicitDefEqProofs -proj only [go_sem, Nat.reduceBEq, Nat.reduceLT, Nat.reduceLeDiff, Nat.reduceAdd, Nat.reduceMul, ↓reduceIte, Int.reduceToNat, Int.reducePow, Int.reduceLT, Int.reduceLE, Int.reduceAdd, Int.reduceSub, Int.reduceMul, Int.reduceEq, Int.reduceNe]
    refine AllocA_intro (fun b4 hb4 => ?_)
    replace hb4 : upd Heap.none b2 _ b4 = none := hb4
    obtain ⟨n1, n2⟩ := fresh_ne hb4 upd_eq
    simp -implicitDefEqProofs -proj only [go_sem, Nat.reduceBEq, Nat.reduceLT, Nat.reduceLeDiff, Nat.reduceAdd, Nat.reduceMul, ↓reduceIte, Int.reduceToNat, Int.reducePow, Int.reduceLT, Int.reduceLE, Int.reduceAdd, Int.reduceSub, Int.reduceMul, Int.reduceEq, Int.reduceNe, n1, n2, rowR_len, decide_eq_false (show ¬ (S.length : Int) = 1 by omega)]
    refine ElemA_at _ (by omega) (i := 1) e1 ?_
    simp -implicitDefEqProofs -proj only [go_sem, Nat.reduceBEq, Nat.reduceLT, Nat.reduceLeDiff, Nat.reduceAdd, Nat.reduceMul, ↓reduceIte, Int.reduceToNat, Int.reducePow, Int.reduceLT, Int.reduceLE, Int.reduceAdd, Int.reduceSub, Int.reduceMul, Int.reduceEq, Int.reduceNe]
    refine ElemA_at _ (by omega) (i := 0) e0 ?_
    simp -implicitDefEqProofs -proj only [go_sem, Nat.reduceBEq, Nat.reduceLT, Nat.reduceLeDiff, Nat.reduceAdd, Nat.reduceMul, ↓reduceIte, Int.reduceToNat, Int.reducePow, Int.reduceLT, Int.reduceLE, Int.reduceAdd, Int.reduceSub, Int.reduceMul, Int.reduceEq, Int.reduceNe]
    refine ElemA_at _ (by omega) (i := 1) e1 ?_
    simp -implicitDefEqProofs -proj only [go_sem, Nat.reduceBEq, Nat.reduceLT, Nat.reduceLeDiff, Nat.reduceAdd, Nat.reduceMul, ↓reduceIte, Int.reduceToNat, Int.reducePow, Int.reduceLT, Int.reduceLE, Int.reduceAdd, Int.reduceSub, Int.reduceMul, Int.reduceEq, Int.reduceNe]
    refine ElemA_at _ (by omega) (i := 0) e0 ?_
    simp -implicitDefEqProofs -proj only [go_sem, Nat.reduceBEq, Nat.reduceLT, Nat.reduceLeDiff, Nat.reduceAdd, Nat.reduceMul, ↓reduceIte, Int.reduceToNat, Int.reducePow, Int.reduceLT, Int.reduceLE, Int.reduceAdd, Int.reduceSub, Int.reduceMul, Int.reduceEq, Int.reduceNe, n1, n2, ww, wr]
    refine LoopA_k (fun c : Nat => 1 ≤ c ∧ ∃ h : c ≤ S.length, c + runLen w r (S[c - 1]'(by omega)) (S.drop c) = n) 81 (fun _ => [(0, slR S), (2, .ptr b2 0), (4, .ptr b4 0)]) (fun c => [(b4, .box 42 [i64 a.f, i64 a.v, i64 w, i64 r, i64 c]), (b2, .box 42 [i64 0, i64 0, i64 0, i64 0, i64 0])]) (fun c => S.length - c) 1 ⟨Nat.le_refl _, by omega, by omega⟩ rfl ?_ ?_ ?_
    · simp -implicitDefEqProofs -proj only [go_sem, Nat.reduceBEq, Nat.reduceLT, Nat.reduceLeDiff, Nat.reduceAdd, Nat.reduceMul, ↓reduceIte, Int.reduceToNat, Int.reducePow, Int.reduceLT, Int.reduceLE, Int.reduceAdd, Int.reduceSub, Int.reduceMul, Int.reduceEq, Int.reduceNe, AllAt]
    · simp -implicitDefEqProofs -proj only [go_sem, Nat.reduceBEq, Nat.reduceLT, Nat.reduceLeDiff, Nat.reduceAdd, Nat.reduceMul, ↓reduceIte, Int.reduceToNat, Int.reducePow, Int.reduceLT, Int.reduceLE, Int.reduceAdd, Int.reduceSub, Int.reduceMul, Int.reduceEq, Int.reduceNe, AllH, n1, n2]
    · rintro c ⟨hc1, hc2, hcn⟩
      have hk : AllH (keepH [(b4, .box 42 [i64 a.f, i64 a.v, i64 w, i64 r, i64 c]), (b2, .box 42 [i64 0, i64 0, i64 0, i64 0, i64 0])]) [(b4, .box 42 [i64 a.f, i64 a.v, i64 w, i64 r, i64 c]), (b2, .box 42 [i64 0, i64 0, i64 0, i64 0, i64 0])] := keepH_all (by simp [keys, n1])
      obtain ⟨H, hH⟩ : ∃ H, keepH [(b4, .box 42 [i64 a.f, i64 a.v, i64 w, i64 r, i64 c]), (b2, .box 42 [i64 0, i64 0, i64 0, i64 0, i64 0])] = H := ⟨_, rfl⟩
      rw [hH] at hk
      obtain ⟨k4, k2, _⟩ := id hk
      rw [hH]
      by_cases hc : c < S.length
      · have ep := rowR_at (l := S) (i := c - 1) (by omega)
        have es := rowR_at hc
        have hstep := runLen_at (w := w) (r := r) (S := S) (by omega) hc
        have bp := hb _ (List.getElem_mem (show c - 1 < S.length by omega))
        have bs := hb _ (List.getElem_mem hc)
        have wc : IntKind.i64.wrap ((c : Int) - 1) = ((c - 1 : Nat) : Int) := by rw [IntKind.wrap_i64]; omega
        have hnext : ∀ (m : Nat), m = c + 1 → (S[m - 1]? = some S[c]) := fun m hm => by subst hm; simp [hc]
        rw [hstep] at hcn
        have hS : ∀ (h : c + 1 ≤ S.length), S[c + 1 - 1]'(by omega) = S[c] := fun _ => rfl
        have hin : ∀ x, runLen w r S[c] (S.drop (c + 1)) = x → c + 1 + x = n → (1 ≤ c + 1 ∧ ∃ h : c + 1 ≤ S.length, c + 1 + runLen w r (S[c + 1 - 1]'(by omega)) (S.drop (c + 1)) = n) := fun x hx hxn => ⟨by omega, by omega, by show c + 1 + runLen w r S[c] (S.drop (c + 1)) = n; rw [hx]; exact hxn⟩
        generalize runLen w r S[c] (S.drop (c + 1)) = x at *
        unfold RunOK at bp bs
        have w1 : IntKind.i64.wrap (S[c].f - S[c - 1].f) = S[c].f - S[c - 1].f := by rw [IntKind.wrap_i64]; omega
        have w2 : IntKind.i64.wrap (S[c].v - S[c - 1].v) = S[c].v - S[c - 1].v := by rw [IntKind.wrap_i64]; omega
        clear bp bs hnext hS hstep
        generalize S[c] = s at *
        generalize S[c - 1] = p at *
        simp -implicitDefEqProofs -proj only [go_sem, Nat.reduceBEq, Nat.reduceLT, Nat.reduceLeDiff, Nat.reduceAdd, Nat.reduceMul, ↓reduceIte, Int.reduceToNat, Int.reducePow, Int.reduceLT, Int.reduceLE, Int.reduceAdd, Int.reduceSub, Int.reduceMul, Int.reduceEq, Int.reduceNe, k4, k2, rowR_len, decide_eq_true (show (c : Int) < S.length by omega), wc]
        refine ElemA_at _ (by omega) ep ?_
        simp -implicitDefEqProofs -proj only [go_sem, Nat.reduceBEq, Nat.reduceLT, Nat.reduceLeDiff, Nat.reduceAdd, Nat.reduceMul, ↓reduceIte, Int.reduceToNat, Int.reducePow, Int.reduceLT, Int.reduceLE, Int.reduceAdd, Int.reduceSub, Int.reduceMul, Int.reduceEq, Int.reduceNe, k4, k2]
        refine ElemA_at _ (by omega) es ?_
        simp -implicitDefEqProofs -proj only [go_sem, Nat.reduceBEq, Nat.reduceLT, Nat.reduceLeDiff, Nat.reduceAdd, Nat.reduceMul, ↓reduceIte, Int.reduceToNat, Int.reducePow, Int.reduceLT, Int.reduceLE, Int.reduceAdd, Int.reduceSub, Int.reduceMul, Int.reduceEq, Int.reduceNe]
        refine AllocA_intro (fun b5 hb5 => ?_)
        replace hb5 : H b5 = none := hb5
        obtain ⟨m1, m2⟩ := fresh_ne hb5 k4
        obtain ⟨m3, m4⟩ := fresh_ne hb5 k2
        simp -implicitDefEqProofs -proj only [go_sem, Nat.reduceBEq, Nat.reduceLT, Nat.reduceLeDiff, Nat.reduceAdd, Nat.reduceMul, ↓reduceIte, Int.reduceToNat, Int.reducePow, Int.reduceLT, Int.reduceLE, Int.reduceAdd, Int.reduceSub, Int.reduceMul, Int.reduceEq, Int.reduceNe]
        refine AllocA_intro (fun b6 hb6 => ?_)
        replace hb6 : upd H b5 _ b6 = none := hb6
        obtain ⟨m5, m6⟩ := fresh_ne hb6 upd_eq
        have hb6' : H b6 = none := by rw [upd_ne m6] at hb6; exact hb6
        obtain ⟨m7, m8⟩ := fresh_ne hb6' k4
        obtain ⟨m9, m10⟩ := fresh_ne hb6' k2
        by_cases c1 : s.f - p.f = w
        · by_cases c2 : s.v - p.v = r
          · rw [if_pos ⟨c1, c2⟩] at hcn
            simp -implicitDefEqProofs -proj only [go_sem, Nat.reduceBEq, Nat.reduceLT, Nat.reduceLeDiff, Nat.reduceAdd, Nat.reduceMul, ↓reduceIte, Int.reduceToNat, Int.reducePow, Int.reduceLT, Int.reduceLE, Int.reduceAdd, Int.reduceSub, Int.reduceMul, Int.reduceEq, Int.reduceNe, k4, k2, m1, m3, m5, m6, m7, m9, w1, w2, decide_eq_true c1, decide_eq_true c2]
            refine LoopQ_k (c + 1) (hin _ rfl (by omega)) (by omega) rfl ?_ ?_
            · simp -implicitDefEqProofs -proj only [go_sem, Nat.reduceBEq, Nat.reduceLT, Nat.reduceLeDiff, Nat.reduceAdd, Nat.reduceMul, ↓reduceIte, Int.reduceToNat, Int.reducePow, Int.reduceLT, Int.reduceLE, Int.reduceAdd, Int.reduceSub, Int.reduceMul, Int.reduceEq, Int.reduceNe, AllAt]
            · simp -implicitDefEqProofs -proj only [go_sem, Nat.reduceBEq, Nat.reduceLT, Nat.reduceLeDiff, Nat.reduceAdd, Nat.reduceMul, ↓reduceIte, Int.reduceToNat, Int.reducePow, Int.reduceLT, Int.reduceLE, Int.reduceAdd, Int.reduceSub, Int.reduceMul, Int.reduceEq, Int.reduceNe, AllH, i64_succ (show c < 9223372036854775807 by omega), k2, n1, n2, m3, m9]
          · rw [if_neg (fun h => c2 h.2)] at hcn
            simp -implicitDefEqProofs -proj only [go_sem, Nat.reduceBEq, Nat.reduceLT, Nat.reduceLeDiff, Nat.reduceAdd, Nat.reduceMul, ↓reduceIte, Int.reduceToNat, Int.reducePow, Int.reduceLT, Int.reduceLE, Int.reduceAdd, Int.reduceSub, Int.reduceMul, Int.reduceEq, Int.reduceNe, k4, k2, m1, m3, m5, m6, m7, m9, w1, w2, decide_eq_true c1, decide_eq_false c2]
            obtain rfl : c = n := by omega
            simp -implicitDefEqProofs -proj only [go_sem, Nat.reduceBEq, Nat.reduceLT, Nat.reduceLeDiff, Nat.reduceAdd, Nat.reduceMul, ↓reduceIte, Int.reduceToNat, Int.reducePow, Int.reduceLT, Int.reduceLE, Int.reduceAdd, Int.reduceSub, Int.reduceMul, Int.reduceEq, Int.reduceNe, if_neg (show ¬ (0 : Nat) = 1 by decide), k4, k2, m1, m3, m5, m6, m7, m9, n1, n2, upd_eq, not_false_eq_true]
            exact LendV_eq rfl
        · rw [if_neg (fun h => c1 h.1)] at hcn
          simp -implicitDefEqProofs -proj only [go_sem, Nat.reduceBEq, Nat.reduceLT, Nat.reduceLeDiff, Nat.reduceAdd, Nat.reduceMul, ↓reduceIte, Int.reduceToNat, Int.reducePow, Int.reduceLT, Int.reduceLE, Int.reduceAdd, Int.reduceSub, Int.reduceMul, Int.reduceEq, Int.reduceNe, k4, k2, m1, m3, m5, m6, m7, m9, w1, w2, decide_eq_false c1]
          obtain rfl : c = n := by omega
          simp -implicitDefEqProofs -proj only [go_sem, Nat.reduceBEq, Nat.reduceLT, Nat.reduceLeDiff, Nat.reduceAdd, Nat.reduceMul, ↓reduceIte, Int.reduceToNat, Int.reducePow, Int.reduceLT, Int.reduceLE, Int.reduceAdd, Int.reduceSub, Int.reduceMul, Int.reduceEq, Int.reduceNe, if_neg (show ¬ (0 : Nat) = 1 by decide), k4, k2, m1, m3, m5, m6, m7, m9, n1, n2, upd_eq, not_false_eq_true]
          exact LendV_eq rfl
      · have : S.drop c = [] := List.drop_eq_nil_of_le (by omega)
        rw [this] at hcn
        rw [show runLen w r (S[c - 1]'(by omega)) [] = 0 from rfl] at hcn
        simp -implicitDefEqProofs -proj only [go_sem, Nat.reduceBEq, Nat.reduceLT, Nat.reduceLeDiff, Nat.reduceAdd, Nat.reduceMul, ↓reduceIte, Int.reduceToNat, Int.reducePow, Int.reduceLT, Int.reduceLE, Int.reduceAdd, Int.reduceSub, Int.reduceMul, Int.reduceEq, Int.reduceNe, k4, k2, rowR_len, decide_eq_false (show ¬ (c : Int) < S.length by omega), n1, n2, not_false_eq_true]
        obtain rfl : c = n := by omega
        exact LendV_eq rfl
end Go.Proofs.Ythamjpioodlckaa.Abs
