/- The package curve: Of. No claim stands here. -/
import Derived.Test.YthamjpioodlckaaKCurve15
set_option linter.unusedSimpArgs false
set_option linter.unusedVariables false
namespace Go.Proofs.Ythamjpioodlckaa.Abs
open Go Go.RowKit Go.Proofs
attribute [local go_sem] RunC_seq AF_n AF_r AF_b St_n St_t St_H Fst_mk Snd_mk RunC_ops RunC_cond RunC_block RunC_loop RunC_exit RunC_ret RunC_skip RunO_nil RunO_code RunO_code_ret RunO_code_exit RunO_blk RunO_blk_ret RunO_blk_exit RunL_nil RunL_guard GuardA_tt GuardA_ff GuardA_tf GuardA_ft GuardA_void CondA_t CondA_f PickA_t PickA_f RunL_mov RunL_pick RunL_alloc RunL_box RunL_load LoadA_ptr LoadB_1 LoadB_n LoadA_dptr LoadA_dptr_n RunL_store StoreA_ptr StoreB_box RunL_bin Bin_add Bin_sub Bin_mul Bin_quo Bin_rem Bin_shl Bin_shr Bin_andI Bin_orI Bin_xorI Bin_eql Bin_neq Bin_lss Bin_leq Bin_gtr Bin_geq RunL_binb Bin_beql Bin_bneq RunL_un UnA_not UnA_neg RunL_conv convV MapA_some RunL_nilCheck nilV RunL_mkfn RunL_fieldAddr faV RunL_field FieldA_1 FieldA_n RunL_elemAddr EAddrA_sl EAddrA_own EptrA_eq RunL_build BuildA_some RunL_extract ExtA_eq RunL_len lenV_sl lenV_nilsl lenV_own RunL_slen RunL_idxStr IdxSA_eq slenV RunL_minmax mmV minmaxL RunL_call RunL_callv CallvA_fn putS ev evL evO evP eqK eqKs EqB_agg RunL_eqAgg EqA_t EqA_f evQ buildC fits_agg cellsAV_agg fits_d cellsAV_d fits_nilp cellsAV_nilp fits_nilsl cellsAV_nilsl fits_nilfn cellsAV_nilfn fits_ptr cellsAV_ptr fits_eptr cellsAV_eptr fits_dptr cellsAV_dptr fits_own cellsAV_own fits_fn cellsAV_fn rowV_fits rowV_cells rowV_len lenAV setSeg nth seg mapD repeatL putT_get upd_get argT keepT_cons keepT_nil keepH_cons keepH_nil cond_true cond_false VC_true finW resW resL resOne LoopQ_exit LoopQ_ret List.cons_append List.nil_append Bool.not_true Bool.not_false Bool.and_true Bool.and_self Nat.lt_add_left_iff_pos Nat.zero_add Nat.add_zero List.drop_succ_cons List.drop_zero List.take_succ_cons List.take_zero beq_self_eq_true Bool.false_eq_true RunC_dops RunL_loadS RunL_loadD LoadDA_dptr RunL_storeS StoreSA_ptr RunL_pcall RunL_pcallv PCallvA_fn newsOk and_self and_true true_and loadW_ptr LoadK_1 LoadK_n upd_upd RunL_buildSlice BSliceA_some RunL_buildSliceD frzL frz cutL LoadA_eptr LoadE_row RunL_append RunL_slice SliceA_sl StoreA_eptr List.length_cons List.length_nil Nat.min_def Int.cast_ofNat_Int Int.natCast_zero Int.natCast_one decide_true decide_false List.getElem?_cons_zero List.getElem?_cons_succ RunC_rangef CallvA_yld putL_nil putL_cons RangeQ_exit RangeQ_ret
def rowG (l : List Grp) : List (List D) := l.map Grp.el
theorem rowG_len {l : List Grp} : (rowG l).length = l.length := List.length_map ..
theorem rowG_at {l : List Grp} {i : Nat} (h : i < l.length) : (rowG l)[((i : Int)).toNat]? = some [.int .i64 l[i].f, .int .i64 l[i].v, .int .i64 l[i].w, .int .i64 l[i].r, .int .i64 l[i].c] := by
  rw [Int.toNat_natCast]; simp [rowG, h, Grp.el]
theorem rowG_scal {l : List Grp} : ∀ el ∈ rowG l, ∀ d ∈ el, scalD d = true := by
  intro el he d hd
  obtain ⟨r, _, rfl⟩ := List.mem_map.1 he
  simp -implicitDefEqProofs only [Grp.el, List.mem_cons, List.not_mem_nil, or_false] at hd
  rcases hd with rfl | rfl | rfl | rfl | rfl <;> rfl
theorem rowG_snoc {l : List Grp} {g : Grp} : rowG l ++ [g.el] = rowG (l ++ [g]) := by simp [rowG]
abbrev slG (l : List Grp) : AV := .d (.sl 5 (rowG l))
abbrev curveV (m : Int) (G : List Grp) : AV := .agg [i64 m, slG G]
theorem rowR_drop {l : List Run} {n : Nat} : (rowR l).drop n = rowR (l.drop n) := List.map_drop.symm
def okOf (R : List Run) : Prop := ∃ h : R ≠ [], (R.head h).f = 0 ∧ (R.getLast h).t ≤ 2000 ∧ ∀ r ∈ R, ¬ bigV r
noncomputable instance (R : List Run) : Decidable (okOf R) := Classical.propDecidable _
def lastT : List Run → Int
  | [] => 0
  | r :: R => ((r :: R).getLast (by simp)).t
noncomputable def ofV (R : List Run) : AV := if okOf R then .tup [curveV (lastT R) (groups R), bv true] else .tup [curveV 0 [], bv false]
theorem groups_step {S : List Run} (h : 0 < S.length) : groups S = (grpOf S[0] (S.drop 1)).1 :: groups (S.drop (grpOf S[0] (S.drop 1)).2) := by
  match S, h with
  | a :: l, _ => exact groups_cons
theorem new_curve {H : Heap} {m : Int} {G : List Grp} {v : AV} (h : NewV H v (slG G)) : NewV H (.agg [i64 m, v]) (curveV m G) := by
  refine .agg _ _ rfl fun j x y h1 h2 => ?_
  match j with
  | 0 => cases h1; cases h2; exact .scal _ rfl
  | 1 => cases h1; cases h2; exact h
  | j + 2 => cases h1
theorem new_tup2 {H : Heap} {x y : AV} {b : Bool} (h : NewV H x y) : NewV H (.tup [x, bv b]) (.tup [y, bv b]) := by
  refine .tup _ _ rfl fun j u v h1 h2 => ?_
  match j with
  | 0 => cases h1; cases h2; exact h
  | 1 => cases h1; cases h2; exact .scal _ rfl
  | j + 2 => cases h1
structure OfX where
  S : List Run
  c : Nat
  cap : Nat
  G : List Grp
theorem ox_S {S : List Run} {c cap : Nat} {G : List Grp} : (OfX.mk S c cap G).S = S := (rfl)
theorem ox_c {S : List Run} {c cap : Nat} {G : List Grp} : (OfX.mk S c cap G).c = c := (rfl)
theorem ox_cap {S : List Run} {c cap : Nat} {G : List Grp} : (OfX.mk S c cap G).cap = cap := (rfl)
theorem ox_G {S : List Run} {c cap : Nat} {G : List Grp} : (OfX.mk S c cap G).G = G := (rfl)
def ofB (b8 b2 : Nat) (m : Int) (y : OfX) : List (Nat × Blk) := rowH 42 5 y.c y.cap (rowG y.G) ++ [(b8, .box 26 [i64 m, rowV 5 5 y.c y.cap (rowG y.G)]), (b2, .box 26 [i64 0, .nilsl 5])]
set_option maxRecDepth 20000 in
theorem Of_curve {R : List Run} (hlR : R.length ≤ 1000000) (hok : okOf R → (∀ r ∈ R, RunOK r) ∧ R.length ≤ 3000) : NewW Try.prog f_curve_Of [lineV R] (ofV R) := by
  have hspan := Span_ok hlR
  refine CallW_intro comp_curve_Of (by simp) ?_
  simp -implicitDefEqProofs -proj only [go_sem, Nat.reduceBEq, Nat.reduceLT, Nat.reduceLeDiff, Nat.reduceAdd, Nat.reduceMul, ↓reduceIte, Int.reduceToNat, Int.reducePow, Int.reduceLT, Int.reduceLE, Int.reduceAdd, Int.reduceSub, Int.reduceMul, Int.reduceEq, Int.reduceNe]
  refine AllocA_intro (fun b1 hb1 => ?_)
  simp -implicitDefEqProofs -proj only [go_sem, Nat.reduceBEq, Nat.reduceLT, Nat.reduceLeDiff, Nat.reduceAdd, Nat.reduceMul, ↓reduceIte, Int.reduceToNat, Int.reducePow, Int.reduceLT, Int.reduceLE, Int.reduceAdd, Int.reduceSub, Int.reduceMul, Int.reduceEq, Int.reduceNe]
  refine AllocA_intro (fun b2 hb2 => ?_)
  replace hb2 : upd Heap.none b1 _ b2 = none := hb2
  obtain ⟨n1, n2⟩ := fresh_ne hb2 upd_eq
  simp -implicitDefEqProofs -proj only [go_sem, Nat.reduceBEq, Nat.reduceLT, Nat.reduceLeDiff, Nat.reduceAdd, Nat.reduceMul, ↓reduceIte, Int.reduceToNat, Int.reducePow, Int.reduceLT, Int.reduceLE, Int.reduceAdd, Int.reduceSub, Int.reduceMul, Int.reduceEq, Int.reduceNe, n1, n2]
  refine CallA_pure hspan ?_
  cases hRe : R with
  | nil =>
    have : ¬ okOf [] := fun ⟨h, _⟩ => h rfl
    rw [ofV, if_neg this]
    simp -implicitDefEqProofs -proj only [go_sem, Nat.reduceBEq, Nat.reduceLT, Nat.reduceLeDiff, Nat.reduceAdd, Nat.reduceMul, ↓reduceIte, Int.reduceToNat, Int.reducePow, Int.reduceLT, Int.reduceLE, Int.reduceAdd, Int.reduceSub, Int.reduceMul, Int.reduceEq, Int.reduceNe, spanV, n1, n2]
    exact new_tup2 (new_curve (.nilsl _ _))
  | cons a l =>
    rw [← hRe]
    have hne : R ≠ [] := by rw [hRe]; simp
    have hsv : spanV R = .tup [i64 (R.head hne).f, i64 (R.getLast hne).t, bv true] := by subst hRe; rfl
    have hlt : lastT R = (R.getLast hne).t := by subst hRe; rfl
    rw [hsv]
    by_cases h0 : (R.head hne).f = 0
    rotate_left
    · have : ¬ okOf R := fun ⟨_, h, _⟩ => h0 h
      rw [ofV, if_neg this]
      simp -implicitDefEqProofs -proj only [go_sem, Nat.reduceBEq, Nat.reduceLT, Nat.reduceLeDiff, Nat.reduceAdd, Nat.reduceMul, ↓reduceIte, Int.reduceToNat, Int.reducePow, Int.reduceLT, Int.reduceLE, Int.reduceAdd, Int.reduceSub, Int.reduceMul, Int.reduceEq, Int.reduceNe, n1, n2, decide_eq_false h0]
      exact new_tup2 (new_curve (.nilsl _ _))
    by_cases h1 : 2000 < (R.getLast hne).t
    · have : ¬ okOf R := fun ⟨_, _, h, _⟩ => by omega
      rw [ofV, if_neg this]
      simp -implicitDefEqProofs -proj only [go_sem, Nat.reduceBEq, Nat.reduceLT, Nat.reduceLeDiff, Nat.reduceAdd, Nat.reduceMul, ↓reduceIte, Int.reduceToNat, Int.reducePow, Int.reduceLT, Int.reduceLE, Int.reduceAdd, Int.reduceSub, Int.reduceMul, Int.reduceEq, Int.reduceNe, n1, n2, decide_eq_true h0, decide_eq_true h1]
      exact new_tup2 (new_curve (.nilsl _ _))
    simp -implicitDefEqProofs -proj only [go_sem, Nat.reduceBEq, Nat.reduceLT, Nat.reduceLeDiff, Nat.reduceAdd, Nat.reduceMul, ↓reduceIte, Int.reduceToNat, Int.reducePow, Int.reduceLT, Int.reduceLE, Int.reduceAdd, Int.reduceSub, Int.reduceMul, Int.reduceEq, Int.reduceNe, n1, n2, decide_eq_true h0, decide_eq_false h1]
    refine CallA_w Runs_ok ?_
    rintro r H6 ⟨bv', rfl, hbv, hv, hkeep⟩
    have k2 : H6 b2 = some (.box 26 [i64 0, .nilsl 5]) := hkeep _ _ upd_eq
    have hnb : ¬ bv' = b2 := fun e => by subst e; rw [k2] at hv; cases hv
    simp -implicitDefEqProofs -proj only [go_sem, Nat.reduceBEq, Nat.reduceLT, Nat.reduceLeDiff, Nat.reduceAdd, Nat.reduceMul, ↓reduceIte, Int.reduceToNat, Int.reducePow, Int.reduceLT, Int.reduceLE, Int.reduceAdd, Int.reduceSub, Int.reduceMul, Int.reduceEq, Int.reduceNe]
    refine CallA_w (Collect_ok (Values1_iter (b := bv') hlR) [(bv', .box 50 [slR R]), (b2, .box 26 [i64 0, .nilsl 5])] (by simp) ⟨hv, k2, trivial⟩ (by simp [keys, hnb]) hlR) ?_
    rintro r H7 ⟨rfl, hr⟩
    obtain ⟨_, k2', _⟩ := hr
    simp -implicitDefEqProofs -proj only [go_sem, Nat.reduceBEq, Nat.reduceLT, Nat.reduceLeDiff, Nat.reduceAdd, Nat.reduceMul, ↓reduceIte, Int.reduceToNat, Int.reducePow, Int.reduceLT, Int.reduceLE, Int.reduceAdd, Int.reduceSub, Int.reduceMul, Int.reduceEq, Int.reduceNe]
    refine CallA_pure (Contains_ok (fun r => Of1_ok r) hlR) ?_
    by_cases hany : (R.any fun r => decide (bigV r)) = true
    · have : ¬ okOf R := fun ⟨_, _, _, h⟩ => by
        obtain ⟨r, hr, hb⟩ := List.any_eq_true.1 hany
        exact h r hr (by simpa using hb)
      rw [ofV, if_neg this, hany]
      simp -implicitDefEqProofs -proj only [go_sem, Nat.reduceBEq, Nat.reduceLT, Nat.reduceLeDiff, Nat.reduceAdd, Nat.reduceMul, ↓reduceIte, Int.reduceToNat, Int.reducePow, Int.reduceLT, Int.reduceLE, Int.reduceAdd, Int.reduceSub, Int.reduceMul, Int.reduceEq, Int.reduceNe, k2']
      exact new_tup2 (new_curve (.nilsl _ _))
    · have hokR : okOf R := ⟨hne, h0, by omega, fun r hr hb => hany (List.any_eq_true.2 ⟨r, hr, by simpa using hb⟩)⟩
      obtain ⟨hro, hl3⟩ := hok hokR
      rw [ofV, if_pos hokR, hlt, show (R.any fun r => decide (bigV r)) = false by simpa using hany]
      generalize (R.getLast hne).t = m at *
      simp -implicitDefEqProofs -proj only [go_sem, Nat.reduceBEq, Nat.reduceLT, Nat.reduceLeDiff, Nat.reduceAdd, Nat.reduceMul, ↓reduceIte, Int.reduceToNat, Int.reducePow, Int.reduceLT, Int.reduceLE, Int.reduceAdd, Int.reduceSub, Int.reduceMul, Int.reduceEq, Int.reduceNe, k2']
      refine AllocA_intro (fun b8 hb8 => ?_)
      replace hb8 : H7 b8 = none := hb8
      obtain ⟨m1, m2⟩ := fresh_ne hb8 k2'
      simp -implicitDefEqProofs -proj only [go_sem, Nat.reduceBEq, Nat.reduceLT, Nat.reduceLeDiff, Nat.reduceAdd, Nat.reduceMul, ↓reduceIte, Int.reduceToNat, Int.reducePow, Int.reduceLT, Int.reduceLE, Int.reduceAdd, Int.reduceSub, Int.reduceMul, Int.reduceEq, Int.reduceNe, m1, m2, k2']
      refine LoopA_k (fun y : OfX => groups R = y.G ++ groups y.S ∧ (∀ r ∈ y.S, RunOK r) ∧ y.S.length ≤ 3000 ∧ y.G.length + y.S.length ≤ 3000 ∧ (keys (ofB b8 b2 m y)).Nodup) 54 (fun y => [(2, .ptr b2 0), (8, .ptr b8 0), (7, slR y.S)]) (ofB b8 b2 m) (fun y => y.S.length) ⟨R, 0, 0, []⟩ ⟨rfl, hro, hl3, by simpa using hl3, by simp [keys, ofB, ox_G, rowG, rowH_nil, m1]⟩ rfl ?_ ?_ ?_
      · simp -implicitDefEqProofs -proj only [go_sem, Nat.reduceBEq, Nat.reduceLT, Nat.reduceLeDiff, Nat.reduceAdd, Nat.reduceMul, ↓reduceIte, Int.reduceToNat, Int.reducePow, Int.reduceLT, Int.reduceLE, Int.reduceAdd, Int.reduceSub, Int.reduceMul, Int.reduceEq, Int.reduceNe, AllAt, ox_S]
      · simp -implicitDefEqProofs -proj only [go_sem, Nat.reduceBEq, Nat.reduceLT, Nat.reduceLeDiff, Nat.reduceAdd, Nat.reduceMul, ↓reduceIte, Int.reduceToNat, Int.reducePow, Int.reduceLT, Int.reduceLE, Int.reduceAdd, Int.reduceSub, Int.reduceMul, Int.reduceEq, Int.reduceNe, AllH, ofB, ox_G, ox_c, ox_cap, rowG, List.map_nil, rowH_nil, rowV_nil, m1, k2']
      · rintro ⟨S, c, cap, G⟩ ⟨hG, hSo, hSl, hGl, hn⟩
        simp -implicitDefEqProofs only [ox_S, ox_G] at hG hSo hSl hGl
        have hall := keepH_all hn
        obtain ⟨H, hH⟩ : ∃ H, keepH (ofB b8 b2 m ⟨S, c, cap, G⟩) = H := ⟨_, rfl⟩
        rw [hH] at hall
        simp -implicitDefEqProofs only [ofB, ox_S, ox_c, ox_cap, ox_G] at hall hn
        obtain ⟨hrow, h8, h2, _⟩ := AllH_app.1 hall
        by_cases hS : 0 < S.length
        · have hgrp := group_ok hS hSo hSl
          have hstep := groups_step hS
          obtain ⟨q1, q2, q3⟩ := @grpOf_le S[0] (S.drop 1)
          rw [List.length_drop] at q2
          generalize (grpOf S[0] (S.drop 1)).2 = n at *
          generalize (grpOf S[0] (S.drop 1)).1 = g at *
          simp -implicitDefEqProofs -proj only [go_sem, Nat.reduceBEq, Nat.reduceLT, Nat.reduceLeDiff, Nat.reduceAdd, Nat.reduceMul, ↓reduceIte, Int.reduceToNat, Int.reducePow, Int.reduceLT, Int.reduceLE, Int.reduceAdd, Int.reduceSub, Int.reduceMul, Int.reduceEq, Int.reduceNe, ox_S, ox_c, ox_cap, ox_G, hH, rowR_len, decide_eq_true (show 0 < (S.length : Int) by omega)]
          refine CallA_pure hgrp ?_
          simp -implicitDefEqProofs -proj only [go_sem, Nat.reduceBEq, Nat.reduceLT, Nat.reduceLeDiff, Nat.reduceAdd, Nat.reduceMul, ↓reduceIte, Int.reduceToNat, Int.reducePow, Int.reduceLT, Int.reduceLE, Int.reduceAdd, Int.reduceSub, Int.reduceMul, Int.reduceEq, Int.reduceNe]
          refine AllocA_intro (fun b9 hb9 => ?_)
          replace hb9 : H b9 = none := hb9
          obtain ⟨p1, p2⟩ := fresh_ne hb9 h8
          obtain ⟨p3, p4⟩ := fresh_ne hb9 h2
          simp -implicitDefEqProofs -proj only [go_sem, Nat.reduceBEq, Nat.reduceLT, Nat.reduceLeDiff, Nat.reduceAdd, Nat.reduceMul, ↓reduceIte, Int.reduceToNat, Int.reducePow, Int.reduceLT, Int.reduceLE, Int.reduceAdd, Int.reduceSub, Int.reduceMul, Int.reduceEq, Int.reduceNe, p1, p3, h8, h2]
          refine AllocR_intro (fun bs hs' => ?_)
          replace hs' : upd H b9 _ bs = none := hs'
          simp -implicitDefEqProofs -proj only [go_sem, Nat.reduceBEq, Nat.reduceLT, Nat.reduceLeDiff, Nat.reduceAdd, Nat.reduceMul, ↓reduceIte, Int.reduceToNat, Int.reducePow, Int.reduceLT, Int.reduceLE, Int.reduceAdd, Int.reduceSub, Int.reduceMul, Int.reduceEq, Int.reduceNe]
          refine AppendA_grow (xs := rowG G) (y := g.el) (t := 42) (capc := 1) [(b8, .box 26 [i64 m, rowV 5 5 c cap (rowG G)]), (b2, .box 26 [i64 0, .nilsl 5])] rfl (AllH_upd hs' (AllH_upd hb9 hall)) hn (by simp -implicitDefEqProofs -proj only [go_sem, Nat.reduceBEq, Nat.reduceLT, Nat.reduceLeDiff, Nat.reduceAdd, Nat.reduceMul, ↓reduceIte, Int.reduceToNat, Int.reducePow, Int.reduceLT, Int.reduceLE, Int.reduceAdd, Int.reduceSub, Int.reduceMul, Int.reduceEq, Int.reduceNe]; rfl) (by rw [rowG_len]; omega) (by rw [rowG_len]; omega) (fun H' c' cap' ha hk => ?_)
          obtain ⟨hrow', hbox⟩ := AllH_app.1 ha
          simp -implicitDefEqProofs -proj only [go_sem, Nat.reduceBEq, Nat.reduceLT, Nat.reduceLeDiff, Nat.reduceAdd, Nat.reduceMul, ↓reduceIte, Int.reduceToNat, Int.reducePow, Int.reduceLT, Int.reduceLE, Int.reduceAdd, Int.reduceSub, Int.reduceMul, Int.reduceEq, Int.reduceNe, hbox.1, SliceA_sl, rowR_len, evO, intOpd, Option.getD_none, Option.getD_some, Int.toNat_natCast]
          refine VC_intro (by omega) (fun _ => ?_)
          rw [rowG_snoc] at hrow' hk ha
          rw [show (rowR S).take S.length = rowR S from List.take_of_length_le (by rw [rowR_len]; omega), rowR_drop]
          refine LoopQ_k ⟨S.drop n, c', cap', G ++ [g]⟩ ⟨by simp -implicitDefEqProofs only [ox_S, ox_G]; rw [hG, hstep]; simp, fun r hr => hSo r (List.mem_of_mem_drop hr), by simp -implicitDefEqProofs only [ox_S, List.length_drop]; omega, by simp -implicitDefEqProofs only [ox_S, ox_G, List.length_drop, List.length_append, List.length_singleton]; omega, ?_⟩ (by show (S.drop n).length < S.length; rw [List.length_drop]; omega) rfl ?_ ?_
          · simpa only [keys, ofB, ox_S, ox_c, ox_cap, ox_G, List.map_append, List.map_cons, List.map_nil] using hk
          · simp -implicitDefEqProofs -proj only [go_sem, Nat.reduceBEq, Nat.reduceLT, Nat.reduceLeDiff, Nat.reduceAdd, Nat.reduceMul, ↓reduceIte, Int.reduceToNat, Int.reducePow, Int.reduceLT, Int.reduceLE, Int.reduceAdd, Int.reduceSub, Int.reduceMul, Int.reduceEq, Int.reduceNe, AllAt, ox_S]
          · have hne2 : rowG (G ++ [g]) ≠ [] := by simp [rowG]
            refine AllH_app.2 ⟨?_, ?_⟩
            · refine drop_all hrow' ?_
              simp -implicitDefEqProofs only [keys, List.map_append, List.nodup_append, List.map_cons, List.map_nil, List.mem_cons] at hk
              exact fun hm => hk.2.2 _ hm _ (.inl rfl) rfl
            · have := upd_all (x' := .box 26 [i64 m, .own c' 5 0 ((rowG G).length + 1) cap']) hbox (by simp -implicitDefEqProofs only [keys, List.map_append, List.nodup_append] at hk ⊢; exact hk.2.1)
              simp -implicitDefEqProofs only [ox_S, ox_c, ox_cap, ox_G, rowV_ne hne2, show (rowG (G ++ [g])).length = (rowG G).length + 1 by simp [rowG]]
              exact this
        · have hS0 : S = [] := List.length_eq_zero_iff.1 (by omega)
          subst hS0
          rw [groups_nil, List.append_nil] at hG
          obtain ⟨x1, x2⟩ : ¬ b8 = b2 ∧ ¬ b2 = b8 := ⟨m1, m2⟩
          simp -implicitDefEqProofs -proj only [go_sem, Nat.reduceBEq, Nat.reduceLT, Nat.reduceLeDiff, Nat.reduceAdd, Nat.reduceMul, ↓reduceIte, Int.reduceToNat, Int.reducePow, Int.reduceLT, Int.reduceLE, Int.reduceAdd, Int.reduceSub, Int.reduceMul, Int.reduceEq, Int.reduceNe, ox_S, ox_c, ox_cap, ox_G, hH, rowR_len, decide_eq_false (show ¬ 0 < ((([] : List Run).length : Nat) : Int) by simp), h8, h2, m1, m2]
          rw [hG]
          refine new_tup2 (new_curve (rowV_new (drop_all hrow ?_) rowG_scal))
          simp -implicitDefEqProofs only [keys, List.map_append, List.nodup_append, List.map_cons, List.map_nil, List.mem_cons] at hn
          exact fun hm => hn.2.2 _ hm _ (.inr (.inl rfl)) rfl
end Go.Proofs.Ythamjpioodlckaa.Abs
