/- The law DaysAll. No claim stands here. -/
import Derived.Test.YtmkennmppdmnhaaKLaw17b
import Derived.Test.YtmkennmppdmnhaaKLaw17c
set_option linter.unusedSimpArgs false
set_option linter.unusedVariables false
namespace Go.Proofs.Ytmkennmppdmnhaa.Abs
open Go Go.RowKit Go.Proofs
attribute [local go_sem] RunC_seq AF_n AF_r AF_b St_n St_t St_H Fst_mk Snd_mk RunC_ops RunC_cond RunC_block RunC_loop RunC_exit RunC_ret RunC_skip RunO_nil RunO_code RunO_code_ret RunO_code_exit RunO_blk RunO_blk_ret RunO_blk_exit RunL_nil RunL_guard GuardA_tt GuardA_ff GuardA_tf GuardA_ft GuardA_void CondA_t CondA_f PickA_t PickA_f RunL_mov RunL_pick RunL_alloc RunL_box RunL_load LoadA_ptr LoadB_1 LoadB_n LoadA_dptr LoadA_dptr_n RunL_store StoreA_ptr StoreB_box RunL_bin Bin_add Bin_sub Bin_mul Bin_quo Bin_rem Bin_shl Bin_shr Bin_andI Bin_orI Bin_xorI Bin_eql Bin_neq Bin_lss Bin_leq Bin_gtr Bin_geq RunL_binb Bin_beql Bin_bneq RunL_un UnA_not UnA_neg RunL_conv convV MapA_some RunL_nilCheck nilV RunL_mkfn RunL_fieldAddr faV RunL_field FieldA_1 FieldA_n RunL_elemAddr EAddrA_sl EAddrA_own EptrA_eq RunL_build BuildA_some RunL_extract ExtA_eq RunL_len lenV_sl lenV_nilsl lenV_own RunL_slen RunL_idxStr IdxSA_eq slenV RunL_minmax mmV minmaxL RunL_call RunL_callv CallvA_fn putS ev evL evO evP eqK eqKs EqB_agg RunL_eqAgg EqA_t EqA_f evQ buildC fits_agg cellsAV_agg fits_d cellsAV_d fits_nilp cellsAV_nilp fits_nilsl cellsAV_nilsl fits_nilfn cellsAV_nilfn fits_ptr cellsAV_ptr fits_eptr cellsAV_eptr fits_dptr cellsAV_dptr fits_own cellsAV_own fits_fn cellsAV_fn rowV_fits rowV_cells rowV_len lenAV setSeg nth seg mapD repeatL putT_get upd_get argT keepT_cons keepT_nil keepH_cons keepH_nil cond_true cond_false VC_true finW resW resL resOne LoopQ_exit LoopQ_ret List.cons_append List.nil_append Bool.not_true Bool.not_false Bool.and_true Bool.and_self Nat.lt_add_left_iff_pos Nat.zero_add Nat.add_zero List.drop_succ_cons List.drop_zero List.take_succ_cons List.take_zero beq_self_eq_true Bool.false_eq_true RunC_dops RunL_loadS RunL_loadD LoadDA_dptr RunL_storeS StoreSA_ptr RunL_pcall RunL_pcallv PCallvA_fn newsOk and_self and_true true_and loadW_ptr LoadK_1 LoadK_n upd_upd RunL_buildSlice BSliceA_some RunL_buildSliceD frzL frz cutL LoadA_eptr LoadE_row RunL_append RunL_slice SliceA_sl StoreA_eptr List.length_cons List.length_nil Nat.min_def Int.cast_ofNat_Int Int.natCast_zero Int.natCast_one decide_true decide_false List.getElem?_cons_zero List.getElem?_cons_succ RunC_rangef CallvA_yld putL_nil putL_cons RangeQ_exit RangeQ_ret
theorem two_bit {i k : Nat} : (2 ^ i).testBit k = decide (k = i) := by
  rw [Nat.testBit_two_pow]
  exact decide_eq_decide.2 ⟨fun h => h.symm, fun h => h.symm⟩
theorem two_bit8 {i k : Nat} : (256 * 2 ^ i).testBit k = decide (k = 8 + i) := by
  rw [show 256 * 2 ^ i = 2 ^ (8 + i) by rw [Nat.pow_add], two_bit]
def wantS : Nat → Nat
  | 0 => 0
  | i + 1 => wantS i ||| 2 ^ i
def wantP (n : Nat) : Nat → Nat
  | 0 => wantS n
  | i + 1 => wantP n i ||| 256 * 2 ^ i
theorem wantS_bit {k : Nat} : ∀ {i : Nat}, (wantS i).testBit k = decide (k < i)
  | 0 => by simp [wantS]
  | i + 1 => by
    rw [wantS, Nat.testBit_or, wantS_bit, two_bit, ← Bool.decide_or]
    exact decide_eq_decide.2 (by omega)
theorem wantP_bit {n k : Nat} : ∀ {i : Nat}, (wantP n i).testBit k = decide (k < n ∨ 8 ≤ k ∧ k < 8 + i)
  | 0 => by
    rw [wantP, wantS_bit]
    exact decide_eq_decide.2 (by omega)
  | i + 1 => by
    rw [wantP, Nat.testBit_or, wantP_bit, two_bit8, ← Bool.decide_or]
    exact decide_eq_decide.2 (by omega)
theorem wantS_lt : ∀ i : Nat, wantS i < 2 ^ i
  | 0 => by simp [wantS]
  | i + 1 => by
    have h := wantS_lt i
    have hp : 2 ^ i < 2 ^ (i + 1) := Nat.pow_lt_pow_right (by omega) (by omega)
    rw [wantS]
    exact Nat.or_lt_two_pow (by omega) hp
theorem wantP_lt {n : Nat} (h8 : n ≤ 8) : ∀ i : Nat, wantP n i < 2 ^ (8 + i)
  | 0 => by
    have h := wantS_lt n
    have : 2 ^ n ≤ 2 ^ 8 := Nat.pow_le_pow_right (by omega) h8
    show wantS n < 2 ^ 8
    omega
  | i + 1 => by
    have h := wantP_lt h8 i
    have hp : 2 ^ (8 + i) < 2 ^ (8 + i + 1) := Nat.pow_lt_pow_right (by omega) (by omega)
    rw [wantP]
    exact Nat.or_lt_two_pow (by show _ < 2 ^ (8 + i + 1); omega) (by rw [show 256 * 2 ^ i = 2 ^ (8 + i) by rw [Nat.pow_add]]; exact hp)
theorem setS_bit {ss : List SumX} {d : Int} {k : Nat} : ∀ {i : Nat}, i ≤ ss.length → ((setS ss d i).testBit k = true ↔ k < i ∧ ∃ s, ss[k]? = some s ∧ s.f ≤ d ∧ d ≤ s.t)
  | 0, _ => by simp [setS]
  | i + 1, h => by
    have ih := setS_bit (ss := ss) (d := d) (k := k) (i := i) (by omega)
    rw [setS, Nat.testBit_or, Bool.or_eq_true, ih, List.getElem?_eq_getElem (show i < ss.length by omega)]
    simp -implicitDefEqProofs only []
    by_cases hd : ss[i].f ≤ d ∧ d ≤ ss[i].t
    · rw [if_pos hd, two_bit, decide_eq_true_eq]
      constructor
      · rintro (⟨h1, h2⟩ | rfl)
        · exact ⟨by omega, h2⟩
        · exact ⟨by omega, _, List.getElem?_eq_getElem (by omega), hd⟩
      · rintro ⟨h1, h2⟩
        by_cases hk : k = i
        · exact .inr hk
        · exact .inl ⟨by omega, h2⟩
    · rw [if_neg hd]
      simp -implicitDefEqProofs only [Nat.zero_testBit, Bool.false_eq_true, or_false]
      constructor
      · rintro ⟨h1, h2⟩; exact ⟨by omega, h2⟩
      · rintro ⟨h1, s, h2, h3⟩
        refine ⟨?_, s, h2, h3⟩
        by_cases hk : k = i
        · subst hk
          rw [List.getElem?_eq_getElem (by omega)] at h2
          rw [← Option.some.inj h2] at h3
          exact absurd h3 hd
        · omega
theorem setP_bit {ss : List SumX} {ps : List PartX} {d : Int} {k : Nat} : ∀ {i : Nat}, i ≤ ps.length → ((setP ss ps d i).testBit k = true ↔ (setS ss d ss.length).testBit k = true ∨ 8 ≤ k ∧ k < 8 + i ∧ ∃ s, ps[k - 8]? = some s ∧ s.f ≤ d ∧ d ≤ s.t)
  | 0, _ => by
    rw [setP]
    exact ⟨.inl, fun h => h.elim id (fun k => absurd k.2.1 (by omega))⟩
  | i + 1, h => by
    have ih := setP_bit (ss := ss) (ps := ps) (d := d) (k := k) (i := i) (by omega)
    rw [setP, Nat.testBit_or, Bool.or_eq_true, ih, List.getElem?_eq_getElem (show i < ps.length by omega)]
    simp -implicitDefEqProofs only []
    by_cases hd : ps[i].f ≤ d ∧ d ≤ ps[i].t
    · rw [if_pos hd, two_bit8, decide_eq_true_eq]
      constructor
      · rintro ((h1 | ⟨h1, h2, h3⟩) | rfl)
        · exact .inl h1
        · exact .inr ⟨h1, by omega, h3⟩
        · exact .inr ⟨by omega, by omega, _, by rw [show 8 + i - 8 = i by omega]; exact List.getElem?_eq_getElem (by omega), hd⟩
      · rintro (h1 | ⟨h1, h2, h3⟩)
        · exact .inl (.inl h1)
        · by_cases hk : k = 8 + i
          · exact .inr hk
          · exact .inl (.inr ⟨h1, by omega, h3⟩)
    · rw [if_neg hd]
      simp -implicitDefEqProofs only [Nat.zero_testBit, Bool.false_eq_true, or_false]
      constructor
      · rintro (h1 | ⟨h1, h2, h3⟩)
        · exact .inl h1
        · exact .inr ⟨h1, by omega, h3⟩
      · rintro (h1 | ⟨h1, h2, s, h3, h4⟩)
        · exact .inl h1
        · refine .inr ⟨h1, ?_, s, h3, h4⟩
          by_cases hk : k = 8 + i
          · subst hk
            rw [show 8 + i - 8 = i by omega, List.getElem?_eq_getElem (by omega)] at h3
            rw [← Option.some.inj h3] at h4
            exact absurd h4 hd
          · omega
def orN (R : List Run) : Nat → Nat
  | 0 => 0
  | i + 1 => orN R i ||| (match R[i]? with | some r => r.v.toNat | none => 0)
theorem orN_bit {R : List Run} {k : Nat} : ∀ {i : Nat}, (orN R i).testBit k = true ↔ ∃ j, j < i ∧ ∃ r, R[j]? = some r ∧ r.v.toNat.testBit k = true
  | 0 => by simp [orN]
  | i + 1 => by
    rw [orN, Nat.testBit_or, Bool.or_eq_true, orN_bit]
    constructor
    · rintro (⟨j, h1, h2⟩ | h)
      · exact ⟨j, by omega, h2⟩
      · cases e : R[i]? with
        | some r => rw [e] at h; exact ⟨i, by omega, r, e, h⟩
        | none => rw [e] at h; simp at h
    · rintro ⟨j, h1, r, h2, h3⟩
      by_cases hj : j = i
      · subst hj
        refine .inr ?_
        rw [h2]
        exact h3
      · exact .inl ⟨j, by omega, r, h2, h3⟩
theorem orN_lt {R : List Run} (h : ∀ r ∈ R, r.v.toNat < 65536) : ∀ i : Nat, orN R i < 65536
  | 0 => by simp [orN]
  | i + 1 => by
    have ih := orN_lt h i
    rw [orN]
    refine Nat.or_lt_two_pow (n := 16) ih ?_
    split
    · next r e => exact h r (List.mem_of_getElem? e)
    · decide
theorem FwdOK.cover {val : Int → Int} {hi x : Int} : ∀ {R : List Run} {lo : Int}, FwdOK val lo hi R → lo ≤ x → x < hi → ∃ r ∈ R, r.v = val x
  | [], lo, h, h1, h2 => by have : lo = hi := h; omega
  | r :: R, lo, ⟨g1, g2, g3, g4, g5⟩, h1, h2 => by
    by_cases hx : x ≤ r.t
    · exact ⟨r, List.mem_cons_self .., (g3 x (by omega) hx).symm⟩
    · obtain ⟨q, q1, q2⟩ := g5.cover (x := x) (by omega) h2
      exact ⟨q, List.mem_cons_of_mem _ q1, q2⟩
theorem FwdOK.vals {val : Int → Int} {hi : Int} : ∀ {R : List Run} {lo : Int}, FwdOK val lo hi R → ∀ r ∈ R, r.v = val r.f
  | r :: R, lo, ⟨g1, g2, g3, g4, g5⟩, q, hq => by
    rcases List.mem_cons.1 hq with rfl | hq
    · exact (g3 q.f (Int.le_refl _) g2).symm
    · exact g5.vals q hq
theorem all_want {c : CoreX} (hg : goodC c) : orN (holdsR c) (holdsR c).length = wantP c.ss.length c.ps.length := by
  obtain ⟨⟨a1, a2⟩, ⟨a3, a4⟩, a5, a6, a7, a8⟩ := hg.hd
  have hR := holds_fwd a3
  apply Nat.eq_of_testBit_eq
  intro k
  rw [wantP_bit, Bool.eq_iff_iff, orN_bit, decide_eq_true_eq]
  have key : ∀ d, (setC c d).testBit k = true ↔ (k < c.ss.length ∧ ∃ s, c.ss[k]? = some s ∧ s.f ≤ d ∧ d ≤ s.t) ∨ 8 ≤ k ∧ k < 8 + c.ps.length ∧ ∃ s, c.ps[k - 8]? = some s ∧ s.f ≤ d ∧ d ≤ s.t := fun d => by
    unfold setC
    rw [setP_bit (Nat.le_refl _), setS_bit (Nat.le_refl _)]
  have up : ∀ d, c.f ≤ d → d ≤ c.t → (setC c d).testBit k = true → ∃ j, j < (holdsR c).length ∧ ∃ r, (holdsR c)[j]? = some r ∧ r.v.toNat.testBit k = true := fun d h1 h2 h3 => by
    obtain ⟨r, hr, hv⟩ := hR.cover (x := d) h1 (by omega)
    obtain ⟨j, hj, rfl⟩ := List.getElem_of_mem hr
    exact ⟨j, hj, _, List.getElem?_eq_getElem hj, by rw [hv, Int.toNat_natCast]; exact h3⟩
  constructor
  · rintro ⟨j, h1, r, h2, h3⟩
    rw [hR.vals r (List.mem_of_getElem? h2), Int.toNat_natCast, key] at h3
    rcases h3 with h3 | h3
    · exact .inl h3.1
    · exact .inr ⟨h3.1, h3.2.1⟩
  · rintro (h | ⟨h1, h2⟩)
    · obtain ⟨_, q1, q2, q3⟩ := hg.ss _ (List.getElem_mem h)
      exact up (c.ss[k]).f q1 (by omega) ((key _).2 (.inl ⟨h, _, List.getElem?_eq_getElem h, Int.le_refl _, q2⟩))
    · have h : k - 8 < c.ps.length := by omega
      obtain ⟨q1, q2, q3⟩ := (hg.ps _ (List.getElem_mem h)).1.2.2.1
      exact up (c.ps[k - 8]).f q1 (by omega) ((key _).2 (.inr ⟨h1, h2, _, List.getElem?_eq_getElem h, Int.le_refl _, q2⟩))
theorem has_bit {a i : Nat} (ha : a < 65536) (hi : i < 16) (h : a.testBit i = true) : decide (bandI .u64 (a : Int) ((2 ^ i : Nat) : Int) = ((2 ^ i : Nat) : Int)) = true := by
  have hp : 2 ^ i ≤ 65536 := Nat.pow_le_pow_right (n := 2) (by omega) (show i ≤ 16 by omega)
  rw [band_nat (by omega) (by omega)]
  refine decide_eq_true ?_
  have : a &&& 2 ^ i = 2 ^ i := by
    apply Nat.eq_of_testBit_eq
    intro j
    rw [Nat.testBit_and, two_bit]
    by_cases hj : j = i
    · subst hj; rw [h]; simp
    · simp [hj]
  rw [this]
set_option maxRecDepth 20000 in
theorem DaysAll_ok {c : CoreX} (hc : c.Fit) : DataW Try.prog f_poundagelaw17_DaysAll [coreX c] (bv true) := by
  have hrg := RGood_ok hc
  refine CallW_intro comp_poundagelaw17_DaysAll (by simp) ?_
  simp -implicitDefEqProofs -proj only [go_sem, Nat.reduceBEq, Nat.reduceLT, Nat.reduceLeDiff, Nat.reduceAdd, Nat.reduceMul, ↓reduceIte, Int.reduceToNat, Int.reducePow, Int.reduceLT, Int.reduceLE, Int.reduceAdd, Int.reduceSub, Int.reduceMul, Int.reduceEq, Int.reduceNe]
  refine AllocA_intro (fun b1 hb1 => ?_)
  simp -implicitDefEqProofs -proj only [go_sem, Nat.reduceBEq, Nat.reduceLT, Nat.reduceLeDiff, Nat.reduceAdd, Nat.reduceMul, ↓reduceIte, Int.reduceToNat, Int.reducePow, Int.reduceLT, Int.reduceLE, Int.reduceAdd, Int.reduceSub, Int.reduceMul, Int.reduceEq, Int.reduceNe]
  refine CallA_pure alive17_ok ?_
  simp -implicitDefEqProofs -proj only [go_sem, Nat.reduceBEq, Nat.reduceLT, Nat.reduceLeDiff, Nat.reduceAdd, Nat.reduceMul, ↓reduceIte, Int.reduceToNat, Int.reducePow, Int.reduceLT, Int.reduceLE, Int.reduceAdd, Int.reduceSub, Int.reduceMul, Int.reduceEq, Int.reduceNe]
  refine CallA_pure Great_ok ?_
  by_cases g1 : greatC c
  · simp -implicitDefEqProofs -proj only [go_sem, Nat.reduceBEq, Nat.reduceLT, Nat.reduceLeDiff, Nat.reduceAdd, Nat.reduceMul, ↓reduceIte, Int.reduceToNat, Int.reducePow, Int.reduceLT, Int.reduceLE, Int.reduceAdd, Int.reduceSub, Int.reduceMul, Int.reduceEq, Int.reduceNe, decide_eq_true g1]
    exact LendV_eq rfl
  simp -implicitDefEqProofs -proj only [go_sem, Nat.reduceBEq, Nat.reduceLT, Nat.reduceLeDiff, Nat.reduceAdd, Nat.reduceMul, ↓reduceIte, Int.reduceToNat, Int.reducePow, Int.reduceLT, Int.reduceLE, Int.reduceAdd, Int.reduceSub, Int.reduceMul, Int.reduceEq, Int.reduceNe, decide_eq_false g1]
  refine CallA_pure hrg ?_
  by_cases hg : goodC c
  rotate_left
  · simp -implicitDefEqProofs -proj only [go_sem, Nat.reduceBEq, Nat.reduceLT, Nat.reduceLeDiff, Nat.reduceAdd, Nat.reduceMul, ↓reduceIte, Int.reduceToNat, Int.reducePow, Int.reduceLT, Int.reduceLE, Int.reduceAdd, Int.reduceSub, Int.reduceMul, Int.reduceEq, Int.reduceNe, decide_eq_false hg]
    exact LendV_eq rfl
  have hho := Holds_yes hc hg
  have haw := all_want hg
  obtain ⟨⟨a1, a2⟩, ⟨a3, a4⟩, a5, a6, a7, a8⟩ := hg.hd
  have hR := holds_fwd a3
  have hlen := hR.len
  have hset : ∀ d, setC c d < 65536 := fun d => Nat.lt_of_lt_of_le (setP_lt a7 c.ps.length) (pow_le16 a8)
  have hat : ∀ d, c.f ≤ d → d ≤ c.t → DataW Try.prog f_line_Line_days_Set_At [lineU (holdsR c), i64 d] (optU (some ((setC c d : Nat) : Int))) := fun d h1 h2 => by
    have := AtU_ok (l := holdsR c) (x := d) (by omega) hR.sorted
    rwa [hR.at' h1 (by omega)] at this
  have hvals := fun r hr => hR.vals r hr
  have hvl : ∀ r ∈ holdsR c, r.v.toNat < 65536 ∧ 0 ≤ r.v := fun r hr => by rw [hvals r hr, Int.toNat_natCast]; exact ⟨hset _, by omega⟩
  clear hvals hR
  have hol := orN_lt (R := holdsR c) (fun r hr => (hvl r hr).1)
  generalize holdsR c = R at *
  simp -implicitDefEqProofs -proj only [go_sem, Nat.reduceBEq, Nat.reduceLT, Nat.reduceLeDiff, Nat.reduceAdd, Nat.reduceMul, ↓reduceIte, Int.reduceToNat, Int.reducePow, Int.reduceLT, Int.reduceLE, Int.reduceAdd, Int.reduceSub, Int.reduceMul, Int.reduceEq, Int.reduceNe, decide_eq_true hg]
  refine CallA_pure hho ?_
  simp -implicitDefEqProofs -proj only [go_sem, Nat.reduceBEq, Nat.reduceLT, Nat.reduceLeDiff, Nat.reduceAdd, Nat.reduceMul, ↓reduceIte, Int.reduceToNat, Int.reducePow, Int.reduceLT, Int.reduceLE, Int.reduceAdd, Int.reduceSub, Int.reduceMul, Int.reduceEq, Int.reduceNe]
  refine AllocA_intro (fun b3 hb3 => ?_)
  replace hb3 : upd Heap.none b1 (some (coreB c)) b3 = none := hb3
  simp -implicitDefEqProofs -proj only [go_sem, Nat.reduceBEq, Nat.reduceLT, Nat.reduceLeDiff, Nat.reduceAdd, Nat.reduceMul, ↓reduceIte, Int.reduceToNat, Int.reducePow, Int.reduceLT, Int.reduceLE, Int.reduceAdd, Int.reduceSub, Int.reduceMul, Int.reduceEq, Int.reduceNe]
  refine AllocA_intro (fun b4 hb4 => ?_)
  replace hb4 : upd (upd Heap.none b1 (some (coreB c))) b3 (some (.box 31 [slU R])) b4 = none := hb4
  have c1 := alloc_all (x := coreB c) hb1 (l := []) trivial
  have m1 := alloc_keys (x := coreB c) hb1 (l := []) trivial List.nodup_nil
  have c3 := alloc_all (x := .box 31 [slU R]) hb3 c1
  have m3 := alloc_keys (x := .box 31 [slU R]) hb3 c1 m1
  have c4 := alloc_all (x := .box 36 [u64 0]) hb4 c3
  have m4 := alloc_keys (x := .box 36 [u64 0]) hb4 c3 m3
  obtain ⟨H5, hH5⟩ : ∃ H5, upd (upd (upd Heap.none b1 (some (coreB c))) b3 (some (.box 31 [slU R]))) b4 (some (.box 36 [u64 0])) = H5 := ⟨_, rfl⟩
  rw [hH5] at c4
  rw [hH5]
  have e3 := c4.2.1
  simp -implicitDefEqProofs -proj only [go_sem, Nat.reduceBEq, Nat.reduceLT, Nat.reduceLeDiff, Nat.reduceAdd, Nat.reduceMul, ↓reduceIte, Int.reduceToNat, Int.reducePow, Int.reduceLT, Int.reduceLE, Int.reduceAdd, Int.reduceSub, Int.reduceMul, Int.reduceEq, Int.reduceNe, e3]
  refine CallA_w RunsU_ok ?_
  rintro r H6 ⟨bv, rfl, hbv, hv, hkeep⟩
  have n6 : ∀ W : Int, (keys ([(b4, .box 36 [u64 W]), (b3, .box 31 [slU R]), (b1, coreB c), (bv, .box 29 [slU R])] : List (Nat × Blk))).Nodup := fun W => by
    have := fresh_keys hbv c4
    simp -implicitDefEqProofs only [keys, List.map_nil, List.map_cons, List.nodup_cons, List.mem_cons, List.not_mem_nil, or_false, not_or, not_false_eq_true, List.nodup_nil, and_true] at this m4 ⊢
    exact ⟨⟨m4.1.1, m4.1.2, fun e => this.1 e.symm⟩, ⟨m4.2, fun e => this.2.1 e.symm⟩, fun e => this.2.2 e.symm⟩
  have a6 : AllH H6 [(b4, .box 36 [u64 ((orN R 0 : Nat) : Int)]), (b3, .box 31 [slU R]), (b1, coreB c), (bv, .box 29 [slU R])] := ⟨hkeep _ _ c4.1, hkeep _ _ c4.2.1, hkeep _ _ c4.2.2.1, hv, trivial⟩
  simp -implicitDefEqProofs -proj only [go_sem, Nat.reduceBEq, Nat.reduceLT, Nat.reduceLeDiff, Nat.reduceAdd, Nat.reduceMul, ↓reduceIte, Int.reduceToNat, Int.reducePow, Int.reduceLT, Int.reduceLE, Int.reduceAdd, Int.reduceSub, Int.reduceMul, Int.reduceEq, Int.reduceNe]
  refine RangeA_k [(4, .ptr b4 0)] (fun pre (y : Int) => y = ((orN R pre.length : Nat) : Int)) (fun y => [(b4, .box 36 [u64 y]), (b3, .box 31 [slU R]), (b1, coreB c), (bv, .box 29 [slU R])]) _ (Values1U_iter (b := bv) (l := R) (by omega)) (by simp -implicitDefEqProofs -proj only [go_sem, Nat.reduceBEq, Nat.reduceLT, Nat.reduceLeDiff, Nat.reduceAdd, Nat.reduceMul, ↓reduceIte, Int.reduceToNat, Int.reducePow, Int.reduceLT, Int.reduceLE, Int.reduceAdd, Int.reduceSub, Int.reduceMul, Int.reduceEq, Int.reduceNe]) rfl (by simp) (by simp -implicitDefEqProofs -proj only [go_sem, Nat.reduceBEq, Nat.reduceLT, Nat.reduceLeDiff, Nat.reduceAdd, Nat.reduceMul, ↓reduceIte, Int.reduceToNat, Int.reducePow, Int.reduceLT, Int.reduceLE, Int.reduceAdd, Int.reduceSub, Int.reduceMul, Int.reduceEq, Int.reduceNe, AllAt]) ?_ rfl a6 ?_ ?_
  · intro pre y _ p hp
    simp -implicitDefEqProofs only [List.mem_singleton] at hp
    subst hp
    simp
  · rintro pre x post y hxs rfl
    obtain ⟨hlt, rfl, hpre⟩ := map_split hxs
    have hall := keepH_all (n6 ((orN R pre.length : Nat) : Int))
    have hr := hvl _ (List.getElem_mem hlt)
    have hstep : orN R (pre.length + 1) = orN R pre.length ||| (R[pre.length]).v.toNat := by rw [orN, List.getElem?_eq_getElem hlt]
    have hol1 := hol pre.length
    generalize R[pre.length] = r at *
    have hor : borI .u64 ((orN R pre.length : Nat) : Int) r.v = ((orN R (pre.length + 1) : Nat) : Int) := by
      rw [hstep, ← bor_nat (by omega) (by omega), Int.toNat_of_nonneg hr.2]
    generalize orN R pre.length = A at *
    obtain ⟨H, hH⟩ : ∃ H, keepH ([(b4, .box 36 [u64 (A : Int)]), (b3, .box 31 [slU R]), (b1, coreB c), (bv, .box 29 [slU R])] : List (Nat × Blk)) = H := ⟨_, rfl⟩
    rw [hH] at hall ⊢
    have h4 := hall.1
    simp -implicitDefEqProofs -proj only [go_sem, Nat.reduceBEq, Nat.reduceLT, Nat.reduceLeDiff, Nat.reduceAdd, Nat.reduceMul, ↓reduceIte, Int.reduceToNat, Int.reducePow, Int.reduceLT, Int.reduceLE, Int.reduceAdd, Int.reduceSub, Int.reduceMul, Int.reduceEq, Int.reduceNe]
    refine AllocA_intro (fun b6 hb6 => ?_)
    replace hb6 : H b6 = none := hb6
    obtain ⟨p1, p2⟩ := fresh_ne hb6 h4
    simp -implicitDefEqProofs -proj only [go_sem, Nat.reduceBEq, Nat.reduceLT, Nat.reduceLeDiff, Nat.reduceAdd, Nat.reduceMul, ↓reduceIte, Int.reduceToNat, Int.reducePow, Int.reduceLT, Int.reduceLE, Int.reduceAdd, Int.reduceSub, Int.reduceMul, Int.reduceEq, Int.reduceNe, p1, p2, h4, hor]
    refine RangeQ_k (((orN R (pre.length + 1) : Nat) : Int)) (by rw [List.length_append, List.length_singleton]) ?_
    exact upd_all (AllH_upd hb6 hall) (n6 (A : Int))
  · rintro y hy
    rw [show (runArgsU R).length = R.length by simp, haw] at hy
    generalize hW : ((wantP c.ss.length c.ps.length : Nat) : Int) = W at *
    subst hy
    have hall := keepH_all (n6 y)
    have hall0 : AllH (keepH ([(b4, .box 36 [u64 y]), (b3, .box 31 [slU R]), (b1, coreB c), (bv, .box 29 [slU R])] : List (Nat × Blk))) [(b4, .box 36 [u64 y]), (b3, .box 31 [slU R]), (b1, coreB c)] := ⟨hall.1, hall.2.1, hall.2.2.1, trivial⟩
    have hnd : (keys ([(b4, .box 36 [u64 y]), (b3, .box 31 [slU R]), (b1, coreB c)] : List (Nat × Blk))).Nodup := by
      have := n6 y
      simp -implicitDefEqProofs only [keys, List.map_nil, List.map_cons, List.nodup_cons, List.mem_cons, List.not_mem_nil, or_false, not_or, not_false_eq_true, List.nodup_nil, and_true] at this ⊢
      exact ⟨⟨this.1.1, this.1.2.1⟩, this.2.1.1⟩
    clear hall
    simp -implicitDefEqProofs -proj only [go_sem, Nat.reduceBEq, Nat.reduceLT, Nat.reduceLeDiff, Nat.reduceAdd, Nat.reduceMul, ↓reduceIte, Int.reduceToNat, Int.reducePow, Int.reduceLT, Int.reduceLE, Int.reduceAdd, Int.reduceSub, Int.reduceMul, Int.reduceEq, Int.reduceNe, hall0.2.2.1, rowS_len]
    have hall := keepH_all hnd
    refine LoopA_k (fun i : Nat => i ≤ c.ss.length) 118 (fun i => [(1, .ptr b1 0), (3, .ptr b3 0), (4, .ptr b4 0), (5, u64 ((wantS i : Nat) : Int)), (38, .d (.sl 3 (rowS c.ss))), (39, i64 c.ss.length), (40, i64 i)]) (fun _ => [(b4, .box 36 [u64 y]), (b3, .box 31 [slU R]), (b1, coreB c)]) (fun i => c.ss.length - i) 0 (Nat.zero_le _) rfl ?_ ?_ ?_
    · simp -implicitDefEqProofs -proj only [go_sem, Nat.reduceBEq, Nat.reduceLT, Nat.reduceLeDiff, Nat.reduceAdd, Nat.reduceMul, ↓reduceIte, Int.reduceToNat, Int.reducePow, Int.reduceLT, Int.reduceLE, Int.reduceAdd, Int.reduceSub, Int.reduceMul, Int.reduceEq, Int.reduceNe, AllAt, wantS, wantP]
      try rfl
    · exact hall0
    · rintro i hi
      by_cases h : i < c.ss.length
      · have hel := rowS_at h
        have hin := hg.ss _ (List.getElem_mem h)
        have hn8 : i < 8 := by omega
        have hp8 := pow_le8 (i := i) (by omega)
        have hlt : wantS i < 65536 := Nat.lt_of_lt_of_le (wantS_lt i) (Nat.le_trans (pow_le8 (by omega)) (by decide))
        have hor : borI .u64 ((wantS i : Nat) : Int) ((2 ^ i : Nat) : Int) = ((wantS (i + 1) : Nat) : Int) := bor_nat (by omega) (by omega)
        have hsum := Sum_ok17 (i := (i : Int))
        rw [sumN_nat hn8] at hsum
        have hbit : ∀ d, c.ss[i].f ≤ d → d ≤ c.ss[i].t → (setC c d).testBit (i) = true := fun d h1 h2 => by
          unfold setC
          rw [setP_bit (Nat.le_refl _), setS_bit (Nat.le_refl _)]
          exact .inl ⟨h, _, List.getElem?_eq_getElem h, h1, h2⟩
        have hf1 : c.f ≤ c.ss[i].f ∧ c.ss[i].f ≤ c.ss[i].t ∧ c.ss[i].t ≤ c.t := hin.2
        have hat1 := hat c.ss[i].f hf1.1 (by omega)
        have hat2 := hat c.ss[i].t (by omega) hf1.2.2
        have hh1 := has_bit (hset c.ss[i].f) (by omega) (hbit _ (Int.le_refl _) hf1.2.1)
        have hh2 := has_bit (hset c.ss[i].t) (by omega) (hbit _ hf1.2.1 (Int.le_refl _))

        have hA1 := @Has_ok ((setC c c.ss[i].f : Nat) : Int) ((2 ^ i : Nat) : Int)
        have hA2 := @Has_ok ((setC c c.ss[i].t : Nat) : Int) ((2 ^ i : Nat) : Int)
        rw [hh1] at hA1
        rw [hh2] at hA2
        clear hbit hin hf1 hh1 hh2
        generalize setC c c.ss[i].f = v1 at *
        generalize setC c c.ss[i].t = v2 at *
        generalize c.ss[i] = s at *
        generalize 2 ^ i = p at *
        generalize hW1 : wantS (i + 1) = W' at *
        generalize wantS i = W0 at *
        simp -implicitDefEqProofs -proj only [go_sem, Nat.reduceBEq, Nat.reduceLT, Nat.reduceLeDiff, Nat.reduceAdd, Nat.reduceMul, ↓reduceIte, Int.reduceToNat, Int.reducePow, Int.reduceLT, Int.reduceLE, Int.reduceAdd, Int.reduceSub, Int.reduceMul, Int.reduceEq, Int.reduceNe, decide_eq_true (show (i : Int) < c.ss.length by omega)]
        refine ElemA_at _ (by omega) hel ?_
        simp -implicitDefEqProofs -proj only [go_sem, Nat.reduceBEq, Nat.reduceLT, Nat.reduceLeDiff, Nat.reduceAdd, Nat.reduceMul, ↓reduceIte, Int.reduceToNat, Int.reducePow, Int.reduceLT, Int.reduceLE, Int.reduceAdd, Int.reduceSub, Int.reduceMul, Int.reduceEq, Int.reduceNe]
        refine AllocA_intro (fun b6 hb6 => ?_)
        replace hb6 : keepH [(b4, Blk.box 36 [u64 y]), (b3, .box 31 [slU R]), (b1, coreB c)] b6 = none := hb6
        obtain ⟨p1, p2⟩ := fresh_ne hb6 hall.1
        obtain ⟨p3, p4⟩ := fresh_ne hb6 hall.2.1
        have k3 := hall.2.1
        simp -implicitDefEqProofs -proj only [go_sem, Nat.reduceBEq, Nat.reduceLT, Nat.reduceLeDiff, Nat.reduceAdd, Nat.reduceMul, ↓reduceIte, Int.reduceToNat, Int.reducePow, Int.reduceLT, Int.reduceLE, Int.reduceAdd, Int.reduceSub, Int.reduceMul, Int.reduceEq, Int.reduceNe, p1, p2, p3, p4, k3]
        refine CallA_pure hat1 ?_
        simp -implicitDefEqProofs -proj only [go_sem, Nat.reduceBEq, Nat.reduceLT, Nat.reduceLeDiff, Nat.reduceAdd, Nat.reduceMul, ↓reduceIte, Int.reduceToNat, Int.reducePow, Int.reduceLT, Int.reduceLE, Int.reduceAdd, Int.reduceSub, Int.reduceMul, Int.reduceEq, Int.reduceNe, optU, p1, p2, p3, p4, k3]
        refine CallA_pure hat2 ?_
        simp -implicitDefEqProofs -proj only [go_sem, Nat.reduceBEq, Nat.reduceLT, Nat.reduceLeDiff, Nat.reduceAdd, Nat.reduceMul, ↓reduceIte, Int.reduceToNat, Int.reducePow, Int.reduceLT, Int.reduceLE, Int.reduceAdd, Int.reduceSub, Int.reduceMul, Int.reduceEq, Int.reduceNe, optU, p1, p2, p3, p4, k3]
        refine CallA_pure hsum ?_
        simp -implicitDefEqProofs -proj only [go_sem, Nat.reduceBEq, Nat.reduceLT, Nat.reduceLeDiff, Nat.reduceAdd, Nat.reduceMul, ↓reduceIte, Int.reduceToNat, Int.reducePow, Int.reduceLT, Int.reduceLE, Int.reduceAdd, Int.reduceSub, Int.reduceMul, Int.reduceEq, Int.reduceNe]
        refine CallA_pure hA1 ?_
        simp -implicitDefEqProofs -proj only [go_sem, Nat.reduceBEq, Nat.reduceLT, Nat.reduceLeDiff, Nat.reduceAdd, Nat.reduceMul, ↓reduceIte, Int.reduceToNat, Int.reducePow, Int.reduceLT, Int.reduceLE, Int.reduceAdd, Int.reduceSub, Int.reduceMul, Int.reduceEq, Int.reduceNe]
        refine CallA_pure hsum ?_
        simp -implicitDefEqProofs -proj only [go_sem, Nat.reduceBEq, Nat.reduceLT, Nat.reduceLeDiff, Nat.reduceAdd, Nat.reduceMul, ↓reduceIte, Int.reduceToNat, Int.reducePow, Int.reduceLT, Int.reduceLE, Int.reduceAdd, Int.reduceSub, Int.reduceMul, Int.reduceEq, Int.reduceNe]
        refine CallA_pure hA2 ?_
        simp -implicitDefEqProofs -proj only [go_sem, Nat.reduceBEq, Nat.reduceLT, Nat.reduceLeDiff, Nat.reduceAdd, Nat.reduceMul, ↓reduceIte, Int.reduceToNat, Int.reducePow, Int.reduceLT, Int.reduceLE, Int.reduceAdd, Int.reduceSub, Int.reduceMul, Int.reduceEq, Int.reduceNe]
        refine CallA_pure hsum ?_
        simp -implicitDefEqProofs -proj only [go_sem, Nat.reduceBEq, Nat.reduceLT, Nat.reduceLeDiff, Nat.reduceAdd, Nat.reduceMul, ↓reduceIte, Int.reduceToNat, Int.reducePow, Int.reduceLT, Int.reduceLE, Int.reduceAdd, Int.reduceSub, Int.reduceMul, Int.reduceEq, Int.reduceNe, hor]
        refine LoopQ_k (i + 1) (by omega) (by show c.ss.length - (i + 1) < c.ss.length - i; omega) rfl ?_ (AllH_upd hb6 hall)
        simp -implicitDefEqProofs -proj only [go_sem, Nat.reduceBEq, Nat.reduceLT, Nat.reduceLeDiff, Nat.reduceAdd, Nat.reduceMul, ↓reduceIte, Int.reduceToNat, Int.reducePow, Int.reduceLT, Int.reduceLE, Int.reduceAdd, Int.reduceSub, Int.reduceMul, Int.reduceEq, Int.reduceNe, AllAt, hW1, i64_succ (show i < 9223372036854775807 by omega)]
      · have hi' : i = c.ss.length := by omega
        subst hi'
        simp -implicitDefEqProofs -proj only [go_sem, Nat.reduceBEq, Nat.reduceLT, Nat.reduceLeDiff, Nat.reduceAdd, Nat.reduceMul, ↓reduceIte, Int.reduceToNat, Int.reducePow, Int.reduceLT, Int.reduceLE, Int.reduceAdd, Int.reduceSub, Int.reduceMul, Int.reduceEq, Int.reduceNe, hall.2.2.1, rowP_len, decide_eq_false (show ¬ (c.ss.length : Int) < c.ss.length by omega)]
        refine LoopA_k (fun i : Nat => i ≤ c.ps.length) 118 (fun i => [(1, .ptr b1 0), (3, .ptr b3 0), (4, .ptr b4 0), (5, u64 ((wantP c.ss.length i : Nat) : Int)), (77, .d (.sl 9 (rowP c.ps))), (78, i64 c.ps.length), (79, i64 i)]) (fun _ => [(b4, .box 36 [u64 y]), (b3, .box 31 [slU R]), (b1, coreB c)]) (fun i => c.ps.length - i) 0 (Nat.zero_le _) rfl ?_ ?_ ?_
        · simp -implicitDefEqProofs -proj only [go_sem, Nat.reduceBEq, Nat.reduceLT, Nat.reduceLeDiff, Nat.reduceAdd, Nat.reduceMul, ↓reduceIte, Int.reduceToNat, Int.reducePow, Int.reduceLT, Int.reduceLE, Int.reduceAdd, Int.reduceSub, Int.reduceMul, Int.reduceEq, Int.reduceNe, AllAt, wantS, wantP]
          try rfl
        · exact hall
        · rintro i hi
          by_cases h : i < c.ps.length
          · have hel := rowP_at h
            have hin := (hg.ps _ (List.getElem_mem h)).1.2.2.1
            have hn8 : i < 8 := by omega
            have hp8 := pow_le8 (i := i) (by omega)
            have hlt : wantP c.ss.length i < 65536 := Nat.lt_of_lt_of_le (wantP_lt a7 i) (pow_le16 (by omega))
            have hor : borI .u64 ((wantP c.ss.length i : Nat) : Int) ((256 * 2 ^ i : Nat) : Int) = ((wantP c.ss.length (i + 1) : Nat) : Int) := bor_nat (by omega) (by omega)
            have hsum := Part_ok17 (i := (i : Int))
            rw [partN_nat hn8] at hsum
            have hbit : ∀ d, c.ps[i].f ≤ d → d ≤ c.ps[i].t → (setC c d).testBit (8 + i) = true := fun d h1 h2 => by
              unfold setC
              rw [setP_bit (Nat.le_refl _)]
              exact .inr ⟨by omega, by omega, _, by rw [show 8 + i - 8 = i by omega]; exact List.getElem?_eq_getElem h, h1, h2⟩
            have hf1 : c.f ≤ c.ps[i].f ∧ c.ps[i].f ≤ c.ps[i].t ∧ c.ps[i].t ≤ c.t := hin
            have hat1 := hat c.ps[i].f hf1.1 (by omega)
            have hat2 := hat c.ps[i].t (by omega) hf1.2.2
            have hh1 := has_bit (hset c.ps[i].f) (by omega) (hbit _ (Int.le_refl _) hf1.2.1)
            have hh2 := has_bit (hset c.ps[i].t) (by omega) (hbit _ hf1.2.1 (Int.le_refl _))
            rw [show 2 ^ (8 + i) = 256 * 2 ^ i by rw [Nat.pow_add]] at hh1 hh2
            have hA1 := @Has_ok ((setC c c.ps[i].f : Nat) : Int) ((256 * 2 ^ i : Nat) : Int)
            have hA2 := @Has_ok ((setC c c.ps[i].t : Nat) : Int) ((256 * 2 ^ i : Nat) : Int)
            rw [hh1] at hA1
            rw [hh2] at hA2
            clear hbit hin hf1 hh1 hh2
            generalize setC c c.ps[i].f = v1 at *
            generalize setC c c.ps[i].t = v2 at *
            generalize c.ps[i] = s at *
            generalize 256 * 2 ^ i = p at *
            generalize hW1 : wantP c.ss.length (i + 1) = W' at *
            generalize wantP c.ss.length i = W0 at *
            simp -implicitDefEqProofs -proj only [go_sem, Nat.reduceBEq, Nat.reduceLT, Nat.reduceLeDiff, Nat.reduceAdd, Nat.reduceMul, ↓reduceIte, Int.reduceToNat, Int.reducePow, Int.reduceLT, Int.reduceLE, Int.reduceAdd, Int.reduceSub, Int.reduceMul, Int.reduceEq, Int.reduceNe, decide_eq_true (show (i : Int) < c.ps.length by omega)]
            refine ElemA_at _ (by omega) hel ?_
            simp -implicitDefEqProofs -proj only [go_sem, Nat.reduceBEq, Nat.reduceLT, Nat.reduceLeDiff, Nat.reduceAdd, Nat.reduceMul, ↓reduceIte, Int.reduceToNat, Int.reducePow, Int.reduceLT, Int.reduceLE, Int.reduceAdd, Int.reduceSub, Int.reduceMul, Int.reduceEq, Int.reduceNe]
            refine AllocA_intro (fun b6 hb6 => ?_)
            replace hb6 : keepH [(b4, Blk.box 36 [u64 y]), (b3, .box 31 [slU R]), (b1, coreB c)] b6 = none := hb6
            obtain ⟨p1, p2⟩ := fresh_ne hb6 hall.1
            obtain ⟨p3, p4⟩ := fresh_ne hb6 hall.2.1
            have k3 := hall.2.1
            simp -implicitDefEqProofs -proj only [go_sem, Nat.reduceBEq, Nat.reduceLT, Nat.reduceLeDiff, Nat.reduceAdd, Nat.reduceMul, ↓reduceIte, Int.reduceToNat, Int.reducePow, Int.reduceLT, Int.reduceLE, Int.reduceAdd, Int.reduceSub, Int.reduceMul, Int.reduceEq, Int.reduceNe, p1, p2, p3, p4, k3]
            refine CallA_pure hat1 ?_
            simp -implicitDefEqProofs -proj only [go_sem, Nat.reduceBEq, Nat.reduceLT, Nat.reduceLeDiff, Nat.reduceAdd, Nat.reduceMul, ↓reduceIte, Int.reduceToNat, Int.reducePow, Int.reduceLT, Int.reduceLE, Int.reduceAdd, Int.reduceSub, Int.reduceMul, Int.reduceEq, Int.reduceNe, optU, p1, p2, p3, p4, k3]
            refine CallA_pure hat2 ?_
            simp -implicitDefEqProofs -proj only [go_sem, Nat.reduceBEq, Nat.reduceLT, Nat.reduceLeDiff, Nat.reduceAdd, Nat.reduceMul, ↓reduceIte, Int.reduceToNat, Int.reducePow, Int.reduceLT, Int.reduceLE, Int.reduceAdd, Int.reduceSub, Int.reduceMul, Int.reduceEq, Int.reduceNe, optU, p1, p2, p3, p4, k3]
            refine CallA_pure hsum ?_
            simp -implicitDefEqProofs -proj only [go_sem, Nat.reduceBEq, Nat.reduceLT, Nat.reduceLeDiff, Nat.reduceAdd, Nat.reduceMul, ↓reduceIte, Int.reduceToNat, Int.reducePow, Int.reduceLT, Int.reduceLE, Int.reduceAdd, Int.reduceSub, Int.reduceMul, Int.reduceEq, Int.reduceNe]
            refine CallA_pure hA1 ?_
            simp -implicitDefEqProofs -proj only [go_sem, Nat.reduceBEq, Nat.reduceLT, Nat.reduceLeDiff, Nat.reduceAdd, Nat.reduceMul, ↓reduceIte, Int.reduceToNat, Int.reducePow, Int.reduceLT, Int.reduceLE, Int.reduceAdd, Int.reduceSub, Int.reduceMul, Int.reduceEq, Int.reduceNe]
            refine CallA_pure hsum ?_
            simp -implicitDefEqProofs -proj only [go_sem, Nat.reduceBEq, Nat.reduceLT, Nat.reduceLeDiff, Nat.reduceAdd, Nat.reduceMul, ↓reduceIte, Int.reduceToNat, Int.reducePow, Int.reduceLT, Int.reduceLE, Int.reduceAdd, Int.reduceSub, Int.reduceMul, Int.reduceEq, Int.reduceNe]
            refine CallA_pure hA2 ?_
            simp -implicitDefEqProofs -proj only [go_sem, Nat.reduceBEq, Nat.reduceLT, Nat.reduceLeDiff, Nat.reduceAdd, Nat.reduceMul, ↓reduceIte, Int.reduceToNat, Int.reducePow, Int.reduceLT, Int.reduceLE, Int.reduceAdd, Int.reduceSub, Int.reduceMul, Int.reduceEq, Int.reduceNe]
            refine CallA_pure hsum ?_
            simp -implicitDefEqProofs -proj only [go_sem, Nat.reduceBEq, Nat.reduceLT, Nat.reduceLeDiff, Nat.reduceAdd, Nat.reduceMul, ↓reduceIte, Int.reduceToNat, Int.reducePow, Int.reduceLT, Int.reduceLE, Int.reduceAdd, Int.reduceSub, Int.reduceMul, Int.reduceEq, Int.reduceNe, hor]
            refine LoopQ_k (i + 1) (by omega) (by show c.ps.length - (i + 1) < c.ps.length - i; omega) rfl ?_ (AllH_upd hb6 hall)
            simp -implicitDefEqProofs -proj only [go_sem, Nat.reduceBEq, Nat.reduceLT, Nat.reduceLeDiff, Nat.reduceAdd, Nat.reduceMul, ↓reduceIte, Int.reduceToNat, Int.reducePow, Int.reduceLT, Int.reduceLE, Int.reduceAdd, Int.reduceSub, Int.reduceMul, Int.reduceEq, Int.reduceNe, AllAt, hW1, i64_succ (show i < 9223372036854775807 by omega)]
          · have hi' : i = c.ps.length := by omega
            subst hi'
            simp -implicitDefEqProofs -proj only [go_sem, Nat.reduceBEq, Nat.reduceLT, Nat.reduceLeDiff, Nat.reduceAdd, Nat.reduceMul, ↓reduceIte, Int.reduceToNat, Int.reducePow, Int.reduceLT, Int.reduceLE, Int.reduceAdd, Int.reduceSub, Int.reduceMul, Int.reduceEq, Int.reduceNe, hall.1, hW, decide_eq_false (show ¬ (c.ps.length : Int) < c.ps.length by omega), decide_true]
            exact LendV_eq rfl
end Go.Proofs.Ytmkennmppdmnhaa.Abs
