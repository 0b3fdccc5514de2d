/- What a basket costs, by the program and by the document. No claim stands here. -/
import Derived.Test.YtlflfciebidddaaKRefP13
import Derived.Test.YtlflfciebidddaaKGoodC2
import Derived.Test.YtlflfciebidddaaKSum01
import Derived.Test.YtlflfciebidddaaAbsV
set_option maxRecDepth 100000
set_option linter.unusedSimpArgs false
set_option linter.unusedVariables false
namespace Go.Proofs.Ytlflfciebidddaa.Abs
open Go Go.RowKit Go.Proofs
attribute [local go_sem] RunC_seq AF_n AF_r AF_b St_n St_t St_H Fst_mk Snd_mk RunC_ops RunC_cond RunC_block RunC_loop RunC_exit RunC_ret RunC_skip RunO_nil RunO_code RunO_code_ret RunO_code_exit RunO_blk RunO_blk_ret RunO_blk_exit RunL_nil RunL_guard GuardA_tt GuardA_ff GuardA_tf GuardA_ft GuardA_void CondA_t CondA_f PickA_t PickA_f RunL_mov RunL_pick RunL_alloc RunL_box RunL_load LoadA_ptr LoadB_1 LoadB_n LoadA_dptr LoadA_dptr_n RunL_store StoreA_ptr StoreB_box RunL_bin Bin_add Bin_sub Bin_mul Bin_quo Bin_rem Bin_shl Bin_shr Bin_andI Bin_orI Bin_xorI Bin_eql Bin_neq Bin_lss Bin_leq Bin_gtr Bin_geq RunL_binb Bin_beql Bin_bneq RunL_un UnA_not UnA_neg RunL_conv convV MapA_some RunL_nilCheck nilV RunL_mkfn RunL_fieldAddr faV RunL_field FieldA_1 FieldA_n RunL_elemAddr EAddrA_sl EAddrA_own EptrA_eq RunL_build BuildA_some RunL_extract ExtA_eq RunL_len lenV_sl lenV_nilsl lenV_own RunL_slen RunL_idxStr IdxSA_eq slenV RunL_minmax mmV minmaxL RunL_call RunL_callv CallvA_fn putS ev evL evO evP eqK eqKs EqB_agg RunL_eqAgg EqA_t EqA_f evQ buildC fits_agg cellsAV_agg fits_d cellsAV_d fits_nilp cellsAV_nilp fits_nilsl cellsAV_nilsl fits_nilfn cellsAV_nilfn fits_ptr cellsAV_ptr fits_eptr cellsAV_eptr fits_dptr cellsAV_dptr fits_own cellsAV_own fits_fn cellsAV_fn rowV_fits rowV_cells rowV_len lenAV setSeg nth seg mapD repeatL putT_get upd_get argT keepT_cons keepT_nil keepH_cons keepH_nil cond_true cond_false VC_true finW resW resL resOne LoopQ_exit LoopQ_ret List.cons_append List.nil_append Bool.not_true Bool.not_false Bool.and_true Bool.and_self Nat.lt_add_left_iff_pos Nat.zero_add Nat.add_zero List.drop_succ_cons List.drop_zero List.take_succ_cons List.take_zero beq_self_eq_true Bool.false_eq_true RunC_dops RunL_loadS RunL_loadD LoadDA_dptr RunL_storeS StoreSA_ptr RunL_pcall RunL_pcallv PCallvA_fn newsOk and_self and_true true_and loadW_ptr LoadK_1 LoadK_n upd_upd RunL_loadP LoadPA_ptr RunL_callS RunL_make RunL_buildSlice BSliceA_some RunL_buildSliceD frzL frz cutL LoadA_eptr LoadE_row RunL_append RunL_slice SliceA_sl StoreA_eptr List.length_cons List.length_nil Nat.min_def Int.cast_ofNat_Int Int.natCast_zero Int.natCast_one decide_true decide_false List.getElem?_cons_zero List.getElem?_cons_succ RunC_rangef CallvA_yld putL_nil putL_cons RangeQ_exit RangeQ_ret
theorem goodX_of {f t : Int} {n : Nat} {x : PartX} (h : partOK f t n x) : GoodX x := by
  obtain ⟨⟨g1, g2, g3, g4, g5, g6, g7, g8, g9, g10⟩, h2, h3⟩ := h
  exact ⟨g4, g5, g6, g7, ⟨g8, g9⟩, g10, h2, h3⟩
/-- What holds on a day, with its amounts. -/
def inW (d f t : Int) : Prop := f ≤ d ∧ d ≤ t
instance (d f t : Int) : Decidable (inW d f t) := by unfold inW; exact inferInstance
def sumsN (ss : List SumX) (d : Int) : Nat → List Int
  | 0 => []
  | i + 1 => match ss[i]? with
    | some s => if inW d s.f s.t then sumsN ss d i ++ [s.a] else sumsN ss d i
    | none => sumsN ss d i
def bq (b : List Int) (m : Int) : Int := b.getD m.toNat 0
def partsN (ss : List SumX) (ps : List PartX) (d : Int) (b : List Int) : Nat → Option (List Int)
  | 0 => some (sumsN ss d ss.length)
  | i + 1 => match partsN ss ps d b i, ps[i]? with
    | some l, some x => if inW d x.f x.t then (match partO x (bq b x.me) with
      | some n => some (l ++ [n])
      | none => none) else some l
    | some l, none => some l
    | none, _ => none
def itemsO (c : CoreX) (d : Int) (b : List Int) : Option (List Int) := partsN c.ss c.ps d b c.ps.length
def basketOK (c : CoreX) (b : List Int) : Prop := b.length = c.ms.length ∧ ∀ (i : Nat) (h : i < b.length) (h2 : i < c.ms.length), 0 ≤ b[i] ∧ b[i] ≤ (c.ms[i]).mx
noncomputable instance (c : CoreX) (b : List Int) : Decidable (basketOK c b) := Classical.propDecidable _
noncomputable def priceF (c : CoreX) (d : Int) (b : List Int) : Int × Int :=
  if ¬ goodC c then (0, 1) else if ¬ inW d c.f c.t ∨ ¬ basketOK c b then (0, 8) else match itemsO c d b with
  | none => (0, 2)
  | some l => match sumF 0 l with
    | none => (0, 2)
    | some n => (n, 0)
theorem PHolds_ok {d f t : Int} : DataW Try.prog f_price_holds [i64 d, i64 f, i64 t] (bv (decide (inW d f t))) := by
  refine CallW_intro comp_price_holds (by simp) ?_
  by_cases h1 : f ≤ d
  · by_cases h2 : d ≤ t
    · simp -implicitDefEqProofs -proj only [go_sem, Nat.reduceBEq, Nat.reduceLT, Nat.reduceLeDiff, Nat.reduceAdd, Nat.reduceMul, ↓reduceIte, decide_eq_true h1, decide_eq_true h2]
      exact LendV_eq (by rw [decide_eq_true (show inW d f t from ⟨h1, h2⟩)])
    · simp -implicitDefEqProofs -proj only [go_sem, Nat.reduceBEq, Nat.reduceLT, Nat.reduceLeDiff, Nat.reduceAdd, Nat.reduceMul, ↓reduceIte, decide_eq_true h1, decide_eq_false h2]
      exact LendV_eq (by rw [decide_eq_false (fun h : inW d f t => h2 h.2)])
  · simp -implicitDefEqProofs -proj only [go_sem, Nat.reduceBEq, Nat.reduceLT, Nat.reduceLeDiff, Nat.reduceAdd, Nat.reduceMul, ↓reduceIte, decide_eq_false h1]
    exact LendV_eq (by rw [decide_eq_false (fun h : inW d f t => h1 h.1)])
theorem PFits_ok {c : CoreX} {b : List Int} (hc : c.Fit) (hbn : b.length ≤ 9223372036854775807) : DataW Try.prog f_price_fits [coreX c, slI b] (bv (decide (basketOK c b))) := by
  obtain ⟨cur, f, t, ms, ss, ps⟩ := c
  refine CallW_intro comp_price_fits (by simp) ?_
  simp -implicitDefEqProofs -proj only [go_sem, Nat.reduceBEq, Nat.reduceLT, Nat.reduceLeDiff, Nat.reduceAdd, Nat.reduceMul, ↓reduceIte]
  refine AllocA_intro (fun b2 hb2 => ?_)
  by_cases g1 : b.length = ms.length
  rotate_left
  · simp -implicitDefEqProofs -proj only [go_sem, Nat.reduceBEq, Nat.reduceLT, Nat.reduceLeDiff, Nat.reduceAdd, Nat.reduceMul, ↓reduceIte, rowI_len, rowM_len, decide_eq_false (show ¬ (b.length : Int) = ms.length by omega)]
    exact LendV_eq (by rw [decide_eq_false (fun k : basketOK _ _ => g1 k.1)])
  simp -implicitDefEqProofs -proj only [go_sem, Nat.reduceBEq, Nat.reduceLT, Nat.reduceLeDiff, Nat.reduceAdd, Nat.reduceMul, ↓reduceIte, rowI_len, rowM_len, decide_eq_true (show (b.length : Int) = ms.length by omega)]
  refine LoopA_k (fun i : Nat => i ≤ b.length ∧ ∀ (j : Nat) (h : j < b.length) (h2 : j < ms.length), j < i → 0 ≤ b[j] ∧ b[j] ≤ (ms[j]).mx) 33 (fun i => [(2, .ptr b2 0), (13, slI b), (14, i64 b.length), (15, i64 i)]) (fun _ => [(b2, coreB ⟨cur, f, t, ms, ss, ps⟩)]) (fun i => b.length - i) 0 ⟨Nat.zero_le _, fun j _ _ h => absurd h (Nat.not_lt_zero _)⟩ rfl ?_ ?_ ?_
  · simp -implicitDefEqProofs -proj only [go_sem, Nat.reduceBEq, Nat.reduceLT, Nat.reduceLeDiff, Nat.reduceAdd, Nat.reduceMul, ↓reduceIte, AllAt, rowI_len]
  · exact ⟨upd_eq, trivial⟩
  · rintro i ⟨hi, hs⟩
    have hk : AllH (keepH [(b2, coreB ⟨cur, f, t, ms, ss, ps⟩)]) [(b2, coreB ⟨cur, f, t, ms, ss, ps⟩)] := keepH_all (by simp [keys])
    have k2 := hk.1
    by_cases h : i < b.length
    · have h2 : i < ms.length := by omega
      have hel := rowI_nth h
      have hel2 := rowM_at h2
      have hno : ¬ (0 ≤ b[i] ∧ b[i] ≤ (ms[i]).mx) → decide (basketOK ⟨cur, f, t, ms, ss, ps⟩ b) = false := fun e => decide_eq_false fun k => e (k.2 i h h2)
      have hgo : (0 ≤ b[i] ∧ b[i] ≤ (ms[i]).mx) → ∀ (j : Nat) (h : j < b.length) (h2 : j < ms.length), j < i + 1 → 0 ≤ b[j] ∧ b[j] ≤ (ms[j]).mx := by
        intro e j h1 h2 h3
        by_cases hj : j = i
        · subst hj; exact e
        · exact hs j h1 h2 (by omega)
      generalize b[i] = q at *
      generalize ms[i] = m at *
      simp -implicitDefEqProofs -proj only [go_sem, Nat.reduceBEq, Nat.reduceLT, Nat.reduceLeDiff, Nat.reduceAdd, Nat.reduceMul, ↓reduceIte, decide_eq_true (show (i : Int) < b.length by omega)]
      refine ElemA_at _ (by omega) hel ?_
      by_cases c1 : q < 0
      · simp -implicitDefEqProofs -proj only [go_sem, Nat.reduceBEq, Nat.reduceLT, Nat.reduceLeDiff, Nat.reduceAdd, Nat.reduceMul, ↓reduceIte, decide_eq_true c1]
        exact LendV_eq (by rw [hno (fun k => by omega)])
      simp -implicitDefEqProofs -proj only [go_sem, Nat.reduceBEq, Nat.reduceLT, Nat.reduceLeDiff, Nat.reduceAdd, Nat.reduceMul, ↓reduceIte, decide_eq_false c1, k2]
      refine ElemA_at _ (by omega) hel2 ?_
      by_cases c2 : m.mx < q
      · simp -implicitDefEqProofs -proj only [go_sem, Nat.reduceBEq, Nat.reduceLT, Nat.reduceLeDiff, Nat.reduceAdd, Nat.reduceMul, ↓reduceIte, decide_eq_true c2]
        exact LendV_eq (by rw [hno (fun k => by omega)])
      simp -implicitDefEqProofs -proj only [go_sem, Nat.reduceBEq, Nat.reduceLT, Nat.reduceLeDiff, Nat.reduceAdd, Nat.reduceMul, ↓reduceIte, decide_eq_false c2]
      refine LoopQ_k (i + 1) ⟨by omega, hgo (by omega)⟩ (by show b.length - (i + 1) < b.length - i; omega) rfl ?_ hk
      simp -implicitDefEqProofs -proj only [go_sem, Nat.reduceBEq, Nat.reduceLT, Nat.reduceLeDiff, Nat.reduceAdd, Nat.reduceMul, ↓reduceIte, AllAt, i64_succ (show i < 9223372036854775807 by omega)]
    · have hi' : i = b.length := by omega
      subst hi'
      simp -implicitDefEqProofs -proj only [go_sem, Nat.reduceBEq, Nat.reduceLT, Nat.reduceLeDiff, Nat.reduceAdd, Nat.reduceMul, ↓reduceIte, decide_eq_false (show ¬ (b.length : Int) < b.length by omega)]
      exact LendV_eq (by rw [decide_eq_true (show basketOK ⟨cur, f, t, ms, ss, ps⟩ b from ⟨g1, fun j h h2 => hs j h h2 h⟩)])
/-- The items, in a row. -/
structure IX where
  i : Nat
  c : Nat
  cap : Nat
  l : List Int
theorem ix_i {i c cap : Nat} {l : List Int} : (IX.mk i c cap l).i = i := (rfl)
theorem ix_c {i c cap : Nat} {l : List Int} : (IX.mk i c cap l).c = c := (rfl)
theorem ix_cap {i c cap : Nat} {l : List Int} : (IX.mk i c cap l).cap = cap := (rfl)
theorem ix_l {i c cap : Nat} {l : List Int} : (IX.mk i c cap l).l = l := (rfl)
def itB (b3 : Nat) (x : CoreX) (y : IX) : List (Nat × Blk) := rowH 3 1 y.c y.cap (rowI y.l) ++ [(b3, coreB x)]
theorem rowI_scal13 {l : List Int} : ∀ el ∈ rowI l, ∀ d ∈ el, scalD d = true := by
  intro el he d hd
  obtain ⟨r, _, rfl⟩ := List.mem_map.1 he
  simp -implicitDefEqProofs only [List.mem_singleton] at hd
  subst hd; rfl
theorem rowI_sn13 {l : List Int} {x : Int} : rowI l ++ [[.int .i64 x]] = rowI (l ++ [x]) := by simp [rowI]
theorem sumsN_len {ss : List SumX} {d : Int} : ∀ i, (sumsN ss d i).length ≤ i
  | 0 => by simp [sumsN]
  | i + 1 => by
    have := sumsN_len (ss := ss) (d := d) i
    rw [sumsN]
    split
    · split
      · rw [List.length_append, List.length_singleton]; omega
      · omega
    · omega
theorem partsN_len {ss : List SumX} {ps : List PartX} {d : Int} {b : List Int} : ∀ i l, partsN ss ps d b i = some l → l.length ≤ ss.length + i
  | 0, l, h => by
    have := sumsN_len (ss := ss) (d := d) ss.length
    rw [partsN] at h
    cases h
    omega
  | i + 1, l, h => by
    rw [partsN] at h
    cases e : partsN ss ps d b i with
    | none => rw [e] at h; cases h
    | some m =>
      have := partsN_len i m e
      rw [e] at h
      cases e2 : ps[i]? with
      | none => rw [e2] at h; cases h; omega
      | some x =>
        rw [e2] at h
        simp -implicitDefEqProofs only [] at h
        split at h
        · split at h
          · cases h; rw [List.length_append, List.length_singleton]; omega
          · cases h
        · cases h; omega
theorem partsN_none {ss : List SumX} {ps : List PartX} {d : Int} {b : List Int} {i : Nat} (h : partsN ss ps d b i = none) : ∀ k, partsN ss ps d b (i + k) = none
  | 0 => h
  | k + 1 => by
    rw [← Nat.add_assoc, partsN, partsN_none h k]
theorem partsN_fail {ss : List SumX} {ps : List PartX} {d : Int} {b : List Int} {i : Nat} (hi : i < ps.length) (h : partsN ss ps d b (i + 1) = none) : partsN ss ps d b ps.length = none := by
  have := partsN_none h (ps.length - (i + 1))
  rwa [show i + 1 + (ps.length - (i + 1)) = ps.length by omega] at this
set_option maxRecDepth 20000 in
theorem Items_new {c : CoreX} {d : Int} {b : List Int} (hc : c.Fit) (hg : goodC c) (hb : basketOK c b) : NewW Try.prog f_price_items [coreX c, i64 d, slI b] (match itemsO c d b with | some l => .tup [slI l, bv true] | none => .tup [slI [], bv false]) := by
  obtain ⟨⟨a1, a2⟩, ⟨a3, a4⟩, a5, a6, a7, a8⟩ := hg.hd
  have hmx := hg.ms
  have hps := hg.ps
  have hfp := hc.ps
  obtain ⟨hb1, hb2⟩ := hb
  obtain ⟨cur, f, t, ms, ss, ps⟩ := c
  simp -implicitDefEqProofs only [] at a1 a2 a3 a4 a5 a6 a7 a8 hmx hps hfp hb1 hb2
  unfold itemsO
  simp -implicitDefEqProofs only []
  refine CallW_intro comp_price_items (by simp) ?_
  simp -implicitDefEqProofs -proj only [go_sem, Nat.reduceBEq, Nat.reduceLT, Nat.reduceLeDiff, Nat.reduceAdd, Nat.reduceMul, ↓reduceIte]
  refine AllocA_intro (fun b3 hb3 => ?_)
  simp -implicitDefEqProofs -proj only [go_sem, Nat.reduceBEq, Nat.reduceLT, Nat.reduceLeDiff, Nat.reduceAdd, Nat.reduceMul, ↓reduceIte, rowS_len]
  refine LoopA_k (fun y : IX => y.i ≤ ss.length ∧ y.l = sumsN ss d y.i ∧ (keys (itB b3 ⟨cur, f, t, ms, ss, ps⟩ y)).Nodup) 66 (fun y => [(1, i64 d), (2, slI b), (3, .ptr b3 0), (8, rowV 0 1 y.c y.cap (rowI y.l)), (16, .d (.sl 3 (rowS ss))), (17, i64 ss.length), (18, i64 y.i)]) (itB b3 ⟨cur, f, t, ms, ss, ps⟩) (fun y => ss.length - y.i) ⟨0, 0, 0, []⟩ ⟨Nat.zero_le _, rfl, by simp [keys, itB, ix_l, rowI, rowH]⟩ rfl ?_ ?_ ?_
  · simp -implicitDefEqProofs -proj only [go_sem, Nat.reduceBEq, Nat.reduceLT, Nat.reduceLeDiff, Nat.reduceAdd, Nat.reduceMul, ↓reduceIte, AllAt, ix_i, ix_l]
    try rfl
  · simp -implicitDefEqProofs only [itB, ix_l, rowI, List.map_nil, rowH_nil, List.nil_append]
    exact ⟨upd_eq, trivial⟩
  · rintro ⟨i, c1, cap, l⟩ ⟨hi, hl, hn⟩
    simp -implicitDefEqProofs only [ix_i, ix_l] at hi hl
    have hall := keepH_all hn
    obtain ⟨H, hH⟩ : ∃ H, keepH (itB b3 ⟨cur, f, t, ms, ss, ps⟩ ⟨i, c1, cap, l⟩) = H := ⟨_, rfl⟩
    rw [hH] at hall
    simp -implicitDefEqProofs only [itB, ix_c, ix_cap, ix_l] at hall hn
    obtain ⟨hrow, k3, _⟩ := AllH_app.1 hall
    have hll : l.length ≤ i := by rw [hl]; exact sumsN_len i
    by_cases h : i < ss.length
    · have hel := rowS_at h
      have hstep : sumsN ss d (i + 1) = if inW d ss[i].f ss[i].t then l ++ [ss[i].a] else l := by rw [sumsN, List.getElem?_eq_getElem h, ← hl]
      generalize ss[i] = s at *
      simp -implicitDefEqProofs -proj only [go_sem, Nat.reduceBEq, Nat.reduceLT, Nat.reduceLeDiff, Nat.reduceAdd, Nat.reduceMul, ↓reduceIte, ix_i, ix_c, ix_cap, ix_l, hH, decide_eq_true (show (i : Int) < ss.length by omega)]
      refine ElemA_at _ (by omega) hel ?_
      simp -implicitDefEqProofs -proj only [go_sem, Nat.reduceBEq, Nat.reduceLT, Nat.reduceLeDiff, Nat.reduceAdd, Nat.reduceMul, ↓reduceIte]
      refine AllocA_intro (fun b10 hb10 => ?_)
      replace hb10 : H b10 = none := hb10
      simp -implicitDefEqProofs -proj only [go_sem, Nat.reduceBEq, Nat.reduceLT, Nat.reduceLeDiff, Nat.reduceAdd, Nat.reduceMul, ↓reduceIte]
      refine CallA_pure PHolds_ok ?_
      by_cases c2 : inW d s.f s.t
      · rw [if_pos c2] at hstep
        simp -implicitDefEqProofs -proj only [go_sem, Nat.reduceBEq, Nat.reduceLT, Nat.reduceLeDiff, Nat.reduceAdd, Nat.reduceMul, ↓reduceIte, decide_eq_true c2]
        refine AllocR_intro (fun bs hs => ?_)
        replace hs : upd H b10 _ bs = none := hs
        simp -implicitDefEqProofs -proj only [go_sem, Nat.reduceBEq, Nat.reduceLT, Nat.reduceLeDiff, Nat.reduceAdd, Nat.reduceMul, ↓reduceIte]
        refine AppendA_grow (xs := rowI l) (y := [.int .i64 s.a]) (t := 3) (capc := 1) [(b3, coreB ⟨cur, f, t, ms, ss, ps⟩)] rfl (AllH_upd hs (AllH_upd hb10 hall)) hn (by simp -implicitDefEqProofs -proj only [go_sem, Nat.reduceBEq, Nat.reduceLT, Nat.reduceLeDiff, Nat.reduceAdd, Nat.reduceMul, ↓reduceIte]; try rfl) (by rw [rowI_len]; omega) (by rw [rowI_len]; omega) (fun H' c2 cap2 ha hk => ?_)
        rw [rowI_sn13] at ha hk
        have hne : rowI (l ++ [s.a]) ≠ [] := by simp [rowI]
        simp -implicitDefEqProofs -proj only [go_sem, Nat.reduceBEq, Nat.reduceLT, Nat.reduceLeDiff, Nat.reduceAdd, Nat.reduceMul, ↓reduceIte, rowI_len]
        refine LoopQ_k ⟨i + 1, c2, cap2, l ++ [s.a]⟩ ⟨by rw [ix_i]; omega, hstep.symm, by simpa only [itB, ix_c, ix_cap, ix_l] using hk⟩ (by show ss.length - (i + 1) < ss.length - i; omega) rfl ?_ (by simpa only [itB, ix_c, ix_cap, ix_l] using ha)
        simp -implicitDefEqProofs -proj only [go_sem, Nat.reduceBEq, Nat.reduceLT, Nat.reduceLeDiff, Nat.reduceAdd, Nat.reduceMul, ↓reduceIte, AllAt, ix_i, ix_c, ix_cap, ix_l, rowV_ne hne, rowI_len, List.length_append, i64_succ (show i < 9223372036854775807 by omega)]
      · rw [if_neg c2] at hstep
        simp -implicitDefEqProofs -proj only [go_sem, Nat.reduceBEq, Nat.reduceLT, Nat.reduceLeDiff, Nat.reduceAdd, Nat.reduceMul, ↓reduceIte, decide_eq_false c2]
        refine LoopQ_k ⟨i + 1, c1, cap, l⟩ ⟨by rw [ix_i]; omega, hstep.symm, by simpa only [itB, ix_c, ix_cap, ix_l] using hn⟩ (by show ss.length - (i + 1) < ss.length - i; omega) rfl ?_ (by simpa only [itB, ix_c, ix_cap, ix_l] using AllH_upd hb10 hall)
        simp -implicitDefEqProofs -proj only [go_sem, Nat.reduceBEq, Nat.reduceLT, Nat.reduceLeDiff, Nat.reduceAdd, Nat.reduceMul, ↓reduceIte, AllAt, ix_i, ix_c, ix_cap, ix_l, i64_succ (show i < 9223372036854775807 by omega)]
    · have hi' : i = ss.length := by omega
      subst hi'
      simp -implicitDefEqProofs -proj only [go_sem, Nat.reduceBEq, Nat.reduceLT, Nat.reduceLeDiff, Nat.reduceAdd, Nat.reduceMul, ↓reduceIte, ix_i, ix_c, ix_cap, ix_l, hH, k3, rowP_len, decide_eq_false (show ¬ (ss.length : Int) < ss.length by omega)]
      refine LoopA_k (fun y : IX => y.i ≤ ps.length ∧ partsN ss ps d b y.i = some y.l ∧ (keys (itB b3 ⟨cur, f, t, ms, ss, ps⟩ y)).Nodup) 66 (fun y => [(1, i64 d), (2, slI b), (8, rowV 0 1 y.c y.cap (rowI y.l)), (35, .d (.sl 9 (rowP ps))), (36, i64 ps.length), (37, i64 y.i)]) (itB b3 ⟨cur, f, t, ms, ss, ps⟩) (fun y => ps.length - y.i) ⟨0, c1, cap, l⟩ ⟨Nat.zero_le _, by rw [partsN]; exact congrArg some hl.symm, hn⟩ rfl ?_ ?_ ?_
      · simp -implicitDefEqProofs -proj only [go_sem, Nat.reduceBEq, Nat.reduceLT, Nat.reduceLeDiff, Nat.reduceAdd, Nat.reduceMul, ↓reduceIte, AllAt, ix_i, ix_c, ix_cap, ix_l]
      · exact hall
      · rintro ⟨i, c1, cap, l⟩ ⟨hi, hl, hn⟩
        simp -implicitDefEqProofs only [ix_i, ix_l] at hi hl
        have hall := keepH_all hn
        obtain ⟨H, hH⟩ : ∃ H, keepH (itB b3 ⟨cur, f, t, ms, ss, ps⟩ ⟨i, c1, cap, l⟩) = H := ⟨_, rfl⟩
        rw [hH] at hall
        simp -implicitDefEqProofs only [itB, ix_c, ix_cap, ix_l] at hall hn
        obtain ⟨hrow, k3, _⟩ := AllH_app.1 hall
        have hll := partsN_len i l hl
        by_cases h : i < ps.length
        · have hel := rowP_at h
          have hok := hps _ (List.getElem_mem h)
          have hfx := hfp _ (List.getElem_mem h)
          have hstep : partsN ss ps d b (i + 1) = if inW d ps[i].f ps[i].t then (match partO ps[i] (bq b ps[i].me) with | some n => some (l ++ [n]) | none => none) else some l := by rw [partsN, hl, List.getElem?_eq_getElem h]
          have hfail := fun e => partsN_fail (ss := ss) (ps := ps) (d := d) (b := b) h e
          obtain ⟨m1, m2⟩ := (show 0 ≤ ps[i].me ∧ ps[i].me < (ms.length : Int) from ⟨hok.1.1, hok.1.2.1⟩)
          have hqb : (ps[i].me).toNat < b.length := by omega
          have hq : bq b ps[i].me = b[(ps[i].me).toNat] := by unfold bq; rw [List.getD_eq_getElem?_getD, List.getElem?_eq_getElem hqb, Option.getD_some]
          have hq2 := hb2 _ hqb (by omega)
          have hmxx := hmx (ps[i].me).toNat (by omega)
          have helq : (rowI b)[(ps[i].me).toNat]? = some [.int .i64 (bq b ps[i].me)] := by rw [hq]; exact rowI_at (List.getElem?_eq_getElem hqb)
          have hfq : Fit (bq b ps[i].me) := by rw [hq]; have := hmxx.1; unfold Fit; omega
          have G := goodX_of hok
          have hcall := PPart_ok hfx hfq G (srt_of G.ts)
          clear hq hq2 hmxx hok G
          generalize bq b ps[i].me = qq at *
          generalize ps[i] = x at *
          simp -implicitDefEqProofs -proj only [go_sem, Nat.reduceBEq, Nat.reduceLT, Nat.reduceLeDiff, Nat.reduceAdd, Nat.reduceMul, ↓reduceIte, ix_i, ix_c, ix_cap, ix_l, hH, decide_eq_true (show (i : Int) < ps.length by omega)]
          refine ElemA_at _ (by omega) hel ?_
          simp -implicitDefEqProofs -proj only [go_sem, Nat.reduceBEq, Nat.reduceLT, Nat.reduceLeDiff, Nat.reduceAdd, Nat.reduceMul, ↓reduceIte]
          refine AllocA_intro (fun b12 hb12 => ?_)
          replace hb12 : H b12 = none := hb12
          simp -implicitDefEqProofs -proj only [go_sem, Nat.reduceBEq, Nat.reduceLT, Nat.reduceLeDiff, Nat.reduceAdd, Nat.reduceMul, ↓reduceIte]
          refine CallA_pure PHolds_ok ?_
          by_cases c2 : inW d x.f x.t
          rotate_left
          · rw [if_neg c2] at hstep
            simp -implicitDefEqProofs -proj only [go_sem, Nat.reduceBEq, Nat.reduceLT, Nat.reduceLeDiff, Nat.reduceAdd, Nat.reduceMul, ↓reduceIte, decide_eq_false c2]
            refine LoopQ_k ⟨i + 1, c1, cap, l⟩ ⟨by rw [ix_i]; omega, hstep, by simpa only [itB, ix_c, ix_cap, ix_l] using hn⟩ (by show ps.length - (i + 1) < ps.length - i; omega) rfl ?_ (by simpa only [itB, ix_c, ix_cap, ix_l] using AllH_upd hb12 hall)
            simp -implicitDefEqProofs -proj only [go_sem, Nat.reduceBEq, Nat.reduceLT, Nat.reduceLeDiff, Nat.reduceAdd, Nat.reduceMul, ↓reduceIte, AllAt, ix_i, ix_c, ix_cap, ix_l, i64_succ (show i < 9223372036854775807 by omega)]
          rw [if_pos c2] at hstep
          simp -implicitDefEqProofs -proj only [go_sem, Nat.reduceBEq, Nat.reduceLT, Nat.reduceLeDiff, Nat.reduceAdd, Nat.reduceMul, ↓reduceIte, decide_eq_true c2]
          refine ElemA_at _ m1 helq ?_
          simp -implicitDefEqProofs -proj only [go_sem, Nat.reduceBEq, Nat.reduceLT, Nat.reduceLeDiff, Nat.reduceAdd, Nat.reduceMul, ↓reduceIte]
          refine CallA_pure hcall ?_
          cases e : partO x qq with
          | none =>
            rw [e] at hstep
            simp -implicitDefEqProofs only [] at hstep
            rw [hfail hstep]
            simp -implicitDefEqProofs -proj only [go_sem, Nat.reduceBEq, Nat.reduceLT, Nat.reduceLeDiff, Nat.reduceAdd, Nat.reduceMul, ↓reduceIte, optR]
            exact NewV.tup _ _ rfl (fun j u v g1 g2 => by
              match j with
              | 0 => cases g1; cases g2; exact .nilsl _ _
              | 1 => cases g1; cases g2; exact .scal _ rfl
              | j + 2 => cases g1)
          | some n =>
            rw [e] at hstep
            simp -implicitDefEqProofs only [] at hstep
            simp -implicitDefEqProofs -proj only [go_sem, Nat.reduceBEq, Nat.reduceLT, Nat.reduceLeDiff, Nat.reduceAdd, Nat.reduceMul, ↓reduceIte, optR]
            refine AllocR_intro (fun bs hs => ?_)
            replace hs : upd H b12 _ bs = none := hs
            simp -implicitDefEqProofs -proj only [go_sem, Nat.reduceBEq, Nat.reduceLT, Nat.reduceLeDiff, Nat.reduceAdd, Nat.reduceMul, ↓reduceIte]
            refine AppendA_grow (xs := rowI l) (y := [.int .i64 n]) (t := 3) (capc := 1) [(b3, coreB ⟨cur, f, t, ms, ss, ps⟩)] rfl (AllH_upd hs (AllH_upd hb12 hall)) hn (by simp -implicitDefEqProofs -proj only [go_sem, Nat.reduceBEq, Nat.reduceLT, Nat.reduceLeDiff, Nat.reduceAdd, Nat.reduceMul, ↓reduceIte]; try rfl) (by rw [rowI_len]; omega) (by rw [rowI_len]; omega) (fun H' c2 cap2 ha hk => ?_)
            rw [rowI_sn13] at ha hk
            have hne : rowI (l ++ [n]) ≠ [] := by simp [rowI]
            simp -implicitDefEqProofs -proj only [go_sem, Nat.reduceBEq, Nat.reduceLT, Nat.reduceLeDiff, Nat.reduceAdd, Nat.reduceMul, ↓reduceIte, rowI_len]
            refine LoopQ_k ⟨i + 1, c2, cap2, l ++ [n]⟩ ⟨by rw [ix_i]; omega, hstep, by simpa only [itB, ix_c, ix_cap, ix_l] using hk⟩ (by show ps.length - (i + 1) < ps.length - i; omega) rfl ?_ (by simpa only [itB, ix_c, ix_cap, ix_l] using ha)
            simp -implicitDefEqProofs -proj only [go_sem, Nat.reduceBEq, Nat.reduceLT, Nat.reduceLeDiff, Nat.reduceAdd, Nat.reduceMul, ↓reduceIte, AllAt, ix_i, ix_c, ix_cap, ix_l, rowV_ne hne, rowI_len, List.length_append, i64_succ (show i < 9223372036854775807 by omega)]
        · have hi' : i = ps.length := by omega
          subst hi'
          rw [hl]
          simp -implicitDefEqProofs -proj only [go_sem, Nat.reduceBEq, Nat.reduceLT, Nat.reduceLeDiff, Nat.reduceAdd, Nat.reduceMul, ↓reduceIte, ix_i, ix_c, ix_cap, ix_l, hH, decide_eq_false (show ¬ (ps.length : Int) < ps.length by omega)]
          exact NewV.tup _ _ rfl (fun j u v g1 g2 => by
            match j with
            | 0 => cases g1; cases g2; exact rowV_new hrow rowI_scal13
            | 1 => cases g1; cases g2; exact .scal _ rfl
            | j + 2 => cases g1)
end Go.Proofs.Ytlflfciebidddaa.Abs
