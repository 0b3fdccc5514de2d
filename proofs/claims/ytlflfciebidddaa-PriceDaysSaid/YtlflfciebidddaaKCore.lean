/- Cores as data; what is greater than is played (poundageref10.Great). No claim stands here. -/
import Derived.Test.YtlflfciebidddaaKPart
set_option maxRecDepth 100000
set_option linter.unusedSimpArgs false
set_option linter.unusedVariables false
namespace Go.Proofs.Ytlflfciebidddaa.Abs
open Go Go.RowKit Go.Proofs
attribute [local go_sem] RunC_seq AF_n AF_r AF_b St_n St_t St_H Fst_mk Snd_mk RunC_ops RunC_cond RunC_block RunC_loop RunC_exit RunC_ret RunC_skip RunO_nil RunO_code RunO_code_ret RunO_code_exit RunO_blk RunO_blk_ret RunO_blk_exit RunL_nil RunL_guard GuardA_tt GuardA_ff GuardA_tf GuardA_ft GuardA_void CondA_t CondA_f PickA_t PickA_f RunL_mov RunL_pick RunL_alloc RunL_box RunL_load LoadA_ptr LoadB_1 LoadB_n LoadA_dptr LoadA_dptr_n RunL_store StoreA_ptr StoreB_box RunL_bin Bin_add Bin_sub Bin_mul Bin_quo Bin_rem Bin_shl Bin_shr Bin_andI Bin_orI Bin_xorI Bin_eql Bin_neq Bin_lss Bin_leq Bin_gtr Bin_geq RunL_binb Bin_beql Bin_bneq RunL_un UnA_not UnA_neg RunL_conv convV MapA_some RunL_nilCheck nilV RunL_mkfn RunL_fieldAddr faV RunL_field FieldA_1 FieldA_n RunL_elemAddr EAddrA_sl EAddrA_own EptrA_eq RunL_build BuildA_some RunL_extract ExtA_eq RunL_len lenV_sl lenV_nilsl lenV_own RunL_slen RunL_idxStr IdxSA_eq slenV RunL_minmax mmV minmaxL RunL_call RunL_callv CallvA_fn putS ev evL evO evP eqK eqKs EqB_agg RunL_eqAgg EqA_t EqA_f evQ buildC fits_agg cellsAV_agg fits_d cellsAV_d fits_nilp cellsAV_nilp fits_nilsl cellsAV_nilsl fits_nilfn cellsAV_nilfn fits_ptr cellsAV_ptr fits_eptr cellsAV_eptr fits_dptr cellsAV_dptr fits_own cellsAV_own fits_fn cellsAV_fn rowV_fits rowV_cells rowV_len lenAV setSeg nth seg mapD repeatL putT_get upd_get argT keepT_cons keepT_nil keepH_cons keepH_nil cond_true cond_false VC_true finW resW resL resOne LoopQ_exit LoopQ_ret List.cons_append List.nil_append Bool.not_true Bool.not_false Bool.and_true Bool.and_self Nat.lt_add_left_iff_pos Nat.zero_add Nat.add_zero List.drop_succ_cons List.drop_zero List.take_succ_cons List.take_zero beq_self_eq_true Bool.false_eq_true RunC_dops RunL_loadS RunL_loadD LoadDA_dptr RunL_storeS StoreSA_ptr RunL_pcall RunL_pcallv PCallvA_fn newsOk and_self and_true true_and loadW_ptr LoadK_1 LoadK_n upd_upd RunL_loadP LoadPA_ptr RunL_callS RunL_make RunL_buildSlice BSliceA_some RunL_buildSliceD frzL frz cutL LoadA_eptr LoadE_row RunL_append RunL_slice SliceA_sl StoreA_eptr List.length_cons List.length_nil Nat.min_def Int.cast_ofNat_Int Int.natCast_zero Int.natCast_one decide_true decide_false List.getElem?_cons_zero List.getElem?_cons_succ RunC_rangef CallvA_yld putL_nil putL_cons RangeQ_exit RangeQ_ret
structure MeterX where
  nm : ByteArray
  un : ByteArray
  mx : Int
  ln : Int
  co : Int
def MeterX.el (a : MeterX) : List D := [.str a.nm, .str a.un, .int .i64 a.mx, .int .i64 a.ln, .int .i64 a.co]
def rowM (l : List MeterX) : List (List D) := l.map MeterX.el
theorem rowM_len {l : List MeterX} : (rowM l).length = l.length := List.length_map ..
theorem rowM_at {l : List MeterX} {i : Nat} (h : i < l.length) : (rowM l)[((i : Int)).toNat]? = some [.str l[i].nm, .str l[i].un, .int .i64 l[i].mx, .int .i64 l[i].ln, .int .i64 l[i].co] := by
  rw [Int.toNat_natCast]; simp [rowM, h, MeterX.el]
def MeterX.Fit (a : MeterX) : Prop := Abs.Fit a.mx ∧ Abs.Fit a.ln ∧ Abs.Fit a.co
structure SumX where
  a : Int
  f : Int
  t : Int
def SumX.el (a : SumX) : List D := [.int .i64 a.a, .int .i64 a.f, .int .i64 a.t]
def rowS (l : List SumX) : List (List D) := l.map SumX.el
theorem rowS_len {l : List SumX} : (rowS l).length = l.length := List.length_map ..
theorem rowS_at {l : List SumX} {i : Nat} (h : i < l.length) : (rowS l)[((i : Int)).toNat]? = some [.int .i64 l[i].a, .int .i64 l[i].f, .int .i64 l[i].t] := by
  rw [Int.toNat_natCast]; simp [rowS, h, SumX.el]
def SumX.Fit (a : SumX) : Prop := Abs.Fit a.a ∧ Abs.Fit a.f ∧ Abs.Fit a.t
def rowP (l : List PartX) : List (List D) := l.map PartX.el
theorem rowP_len {l : List PartX} : (rowP l).length = l.length := List.length_map ..
theorem rowP_at {l : List PartX} {i : Nat} (h : i < l.length) : (rowP l)[((i : Int)).toNat]? = some [.int .i64 l[i].me, .int .i64 l[i].f, .int .i64 l[i].t, .int .i64 l[i].al, .int .i64 l[i].bl, .int .i64 l[i].ki, .sl 2 (rowT l[i].ts), .int .i64 l[i].mo, .sl 3 (rowA l[i].ad)] := by
  rw [Int.toNat_natCast]; simp [rowP, h, PartX.el]
structure CoreX where
  cur : ByteArray
  f : Int
  t : Int
  ms : List MeterX
  ss : List SumX
  ps : List PartX
abbrev coreX (c : CoreX) : AV := coreV c.cur c.f c.t (rowM c.ms) (rowS c.ss) (rowP c.ps)
structure CoreX.Fit (c : CoreX) : Prop where
  f : Abs.Fit c.f
  t : Abs.Fit c.t
  ms : ∀ a ∈ c.ms, a.Fit
  mn : c.ms.length ≤ 9223372036854775807
  ss : ∀ a ∈ c.ss, a.Fit
  sn : c.ss.length ≤ 9223372036854775807
  ps : ∀ a ∈ c.ps, a.Fit
  pn : c.ps.length ≤ 9223372036854775807
theorem typed_string {n : Nat} {t : TypeId} {l : List D} (h : typedW Try.prog (n + 1) t l) (ht : Try.prog.underlying t = some .string) : ∃ s, l = [.str s] := by
  rw [typedW, ht] at h
  obtain ⟨s, rfl, _⟩ := h
  exact ⟨s, rfl⟩
theorem typed_meter {n : Nat} {l : List D} (h : typedW Try.prog (n + 2) 42 l) : ∃ a : MeterX, a.Fit ∧ l = a.el := by
  obtain ⟨ls, rfl, h1, _⟩ := typed_struct (fs := #[⟨"Name", 9, 0, false, "", "", 0⟩, ⟨"Unit", 9, 1, false, "", "", 16⟩, ⟨"Max", 3, 2, false, "", "", 32⟩, ⟨"Line", 3, 3, false, "", "", 40⟩, ⟨"Col", 3, 4, false, "", "", 48⟩]) h (by kernel_rfl)
  obtain ⟨l0, r0, rfl, t0, h1⟩ := typedL_cons h1
  obtain ⟨l1, r1, rfl, t1, h1⟩ := typedL_cons h1
  obtain ⟨l2, r2, rfl, t2, h1⟩ := typedL_cons h1
  obtain ⟨l3, r3, rfl, t3, h1⟩ := typedL_cons h1
  obtain ⟨l4, r4, rfl, t4, h1⟩ := typedL_cons h1
  obtain rfl := typedL_nil h1
  obtain ⟨z0, rfl⟩ := typed_string t0 (by kernel_rfl)
  obtain ⟨z1, rfl⟩ := typed_string t1 (by kernel_rfl)
  obtain ⟨z2, rfl, f2, _⟩ := typed_int t2 (by kernel_rfl)
  obtain ⟨z3, rfl, f3, _⟩ := typed_int t3 (by kernel_rfl)
  obtain ⟨z4, rfl, f4, _⟩ := typed_int t4 (by kernel_rfl)
  exact ⟨⟨z0, z1, z2, z3, z4⟩, ⟨f2, f3, f4⟩, rfl⟩
theorem typed_sum {n : Nat} {l : List D} (h : typedW Try.prog (n + 2) 59 l) : ∃ a : SumX, a.Fit ∧ l = a.el := by
  obtain ⟨ls, rfl, h1, _⟩ := typed_struct (fs := #[⟨"Amount", 3, 0, false, "", "", 0⟩, ⟨"From", 3, 1, false, "", "", 8⟩, ⟨"To", 3, 2, false, "", "", 16⟩]) h (by kernel_rfl)
  obtain ⟨l0, r0, rfl, t0, h1⟩ := typedL_cons h1
  obtain ⟨l1, r1, rfl, t1, h1⟩ := typedL_cons h1
  obtain ⟨l2, r2, rfl, t2, h1⟩ := typedL_cons h1
  obtain rfl := typedL_nil h1
  obtain ⟨z0, rfl, f0, _⟩ := typed_int t0 (by kernel_rfl)
  obtain ⟨z1, rfl, f1, _⟩ := typed_int t1 (by kernel_rfl)
  obtain ⟨z2, rfl, f2, _⟩ := typed_int t2 (by kernel_rfl)
  exact ⟨⟨z0, z1, z2⟩, ⟨f0, f1, f2⟩, rfl⟩
theorem typed_core {n : Nat} {l : List D} (h : typedW Try.prog (n + 6) 26 l) : ∃ c : CoreX, c.Fit ∧ l = [.str c.cur, .int .i64 c.f, .int .i64 c.t, .sl 5 (rowM c.ms), .sl 3 (rowS c.ss), .sl 9 (rowP c.ps)] ∧ argAV Try.prog 26 l = coreX c := by
  obtain ⟨ls, rfl, h1, e⟩ := typed_struct (fs := #[⟨"Currency", 9, 0, false, "", "", 0⟩, ⟨"From", 3, 1, false, "", "", 16⟩, ⟨"To", 3, 2, false, "", "", 24⟩, ⟨"Meters", 22, 3, false, "", "", 32⟩, ⟨"Sums", 23, 4, false, "", "", 56⟩, ⟨"Parts", 24, 5, false, "", "", 80⟩]) h (by kernel_rfl)
  obtain ⟨l0, r0, rfl, t0, h1⟩ := typedL_cons h1
  obtain ⟨l1, r1, rfl, t1, h1⟩ := typedL_cons h1
  obtain ⟨l2, r2, rfl, t2, h1⟩ := typedL_cons h1
  obtain ⟨l3, r3, rfl, t3, h1⟩ := typedL_cons h1
  obtain ⟨l4, r4, rfl, t4, h1⟩ := typedL_cons h1
  obtain ⟨l5, r5, rfl, t5, h1⟩ := typedL_cons h1
  obtain rfl := typedL_nil h1
  obtain ⟨z0, rfl⟩ := typed_string t0 (by kernel_rfl)
  obtain ⟨z1, rfl, f1, _⟩ := typed_int t1 (by kernel_rfl)
  obtain ⟨z2, rfl, f2, _⟩ := typed_int t2 (by kernel_rfl)
  obtain ⟨z3, rfl, f3, g3⟩ := typed_sl (k := 5) (e := 42) (fun l h => typed_meter h) (by kernel_rfl) (by kernel_rfl) t3
  obtain ⟨z4, rfl, f4, g4⟩ := typed_sl (k := 3) (e := 59) (fun l h => typed_sum h) (by kernel_rfl) (by kernel_rfl) t4
  obtain ⟨z5, rfl, f5, g5⟩ := typed_sl (k := 9) (e := 39) (g := PartX.el) (F := PartX.Fit) (fun l h => by obtain ⟨x, h1, h2, _⟩ := typed_part h; exact ⟨x, h1, h2⟩) (by kernel_rfl) (by kernel_rfl) t5
  exact ⟨⟨z0, z1, z2, z3, z4, z5⟩, ⟨f1, f2, f3, g3, f4, g4, f5, g5⟩, rfl, e⟩
/-- More than is played. -/
def meterBig (m : MeterX) : Prop := 200 < (m.nm.size : Int) ∨ 200 < (m.un.size : Int)
def partBig (x : PartX) : Prop := 40 < (x.ts.length : Int) ∨ 40 < (x.ad.length : Int)
def greatC (c : CoreX) : Prop := (20 < (c.ms.length : Int) ∨ 40 < (c.ss.length : Int) ∨ 40 < (c.ps.length : Int) ∨ 200 < (c.cur.size : Int)) ∨ (∃ m ∈ c.ms, meterBig m) ∨ ∃ x ∈ c.ps, partBig x
noncomputable instance (c : CoreX) : Decidable (greatC c) := Classical.propDecidable _
theorem Great_ok {c : CoreX} : DataW Try.prog f_poundageref10_Great [coreX c] (bv (decide (greatC c))) := by
  obtain ⟨cur, f, t, ms, ss, ps⟩ := c
  refine CallW_intro comp_poundageref10_Great (by simp) ?_
  simp -implicitDefEqProofs -proj only [go_sem, Nat.reduceBEq, Nat.reduceLT, Nat.reduceLeDiff, Nat.reduceAdd, Nat.reduceMul, ↓reduceIte]
  refine AllocA_intro (fun b1 hb1 => ?_)
  by_cases g1 : 20 < (ms.length : Int)
  · simp -implicitDefEqProofs -proj only [go_sem, Nat.reduceBEq, Nat.reduceLT, Nat.reduceLeDiff, Nat.reduceAdd, Nat.reduceMul, ↓reduceIte, rowM_len, rowS_len, rowP_len, decide_eq_true g1]
    exact LendV_eq (by rw [decide_eq_true (.inl (.inl g1))])
  by_cases g2 : 40 < (ss.length : Int)
  · simp -implicitDefEqProofs -proj only [go_sem, Nat.reduceBEq, Nat.reduceLT, Nat.reduceLeDiff, Nat.reduceAdd, Nat.reduceMul, ↓reduceIte, rowM_len, rowS_len, rowP_len, decide_eq_false g1, decide_eq_true g2]
    exact LendV_eq (by rw [decide_eq_true (.inl (.inr (.inl g2)))])
  by_cases g3 : 40 < (ps.length : Int)
  · simp -implicitDefEqProofs -proj only [go_sem, Nat.reduceBEq, Nat.reduceLT, Nat.reduceLeDiff, Nat.reduceAdd, Nat.reduceMul, ↓reduceIte, rowM_len, rowS_len, rowP_len, decide_eq_false g1, decide_eq_false g2, decide_eq_true g3]
    exact LendV_eq (by rw [decide_eq_true (.inl (.inr (.inr (.inl g3))))])
  by_cases g4 : 200 < (cur.size : Int)
  · simp -implicitDefEqProofs -proj only [go_sem, Nat.reduceBEq, Nat.reduceLT, Nat.reduceLeDiff, Nat.reduceAdd, Nat.reduceMul, ↓reduceIte, rowM_len, rowS_len, rowP_len, decide_eq_false g1, decide_eq_false g2, decide_eq_false g3, decide_eq_true g4]
    exact LendV_eq (by rw [decide_eq_true (.inl (.inr (.inr (.inr g4))))])
  simp -implicitDefEqProofs -proj only [go_sem, Nat.reduceBEq, Nat.reduceLT, Nat.reduceLeDiff, Nat.reduceAdd, Nat.reduceMul, ↓reduceIte, rowM_len, rowS_len, rowP_len, decide_eq_false g1, decide_eq_false g2, decide_eq_false g3, decide_eq_false g4]
  refine LoopA_k (fun i : Nat => i ≤ ms.length ∧ ∀ (j : Nat) (h : j < ms.length), j < i → ¬ meterBig ms[j]) 65 (fun i => [(1, .ptr b1 0), (30, .d (.sl 5 (rowM ms))), (31, i64 ms.length), (32, i64 i)]) (fun _ => [(b1, .box 26 [.d (.str cur), i64 f, i64 t, .d (.sl 5 (rowM ms)), .d (.sl 3 (rowS ss)), .d (.sl 9 (rowP ps))])]) (fun i => ms.length - i) 0 ⟨Nat.zero_le _, fun j _ h => absurd h (Nat.not_lt_zero _)⟩ rfl ?_ ?_ ?_
  · simp -implicitDefEqProofs -proj only [go_sem, Nat.reduceBEq, Nat.reduceLT, Nat.reduceLeDiff, Nat.reduceAdd, Nat.reduceMul, ↓reduceIte, AllAt]
  · simp -implicitDefEqProofs -proj only [go_sem, Nat.reduceBEq, Nat.reduceLT, Nat.reduceLeDiff, Nat.reduceAdd, Nat.reduceMul, ↓reduceIte, AllH]
  · rintro i ⟨hi, hs⟩
    have hk : AllH (keepH [(b1, .box 26 [.d (.str cur), i64 f, i64 t, .d (.sl 5 (rowM ms)), .d (.sl 3 (rowS ss)), .d (.sl 9 (rowP ps))])]) [(b1, .box 26 [.d (.str cur), i64 f, i64 t, .d (.sl 5 (rowM ms)), .d (.sl 3 (rowS ss)), .d (.sl 9 (rowP ps))])] := keepH_all (by simp [keys])
    have k1 := hk.1
    by_cases h : i < ms.length
    · have hel := rowM_at h
      have hno : meterBig ms[i] → greatC ⟨cur, f, t, ms, ss, ps⟩ := fun e => .inr (.inl ⟨_, List.getElem_mem h, e⟩)
      have hgo : ¬ meterBig ms[i] → ∀ (j : Nat) (h : j < ms.length), j < i + 1 → ¬ meterBig ms[j] := by
        intro e j h1 h2
        by_cases hj : j = i
        · subst hj; exact e
        · exact hs j h1 (by omega)
      generalize ms[i] = m at *
      simp -implicitDefEqProofs -proj only [go_sem, Nat.reduceBEq, Nat.reduceLT, Nat.reduceLeDiff, Nat.reduceAdd, Nat.reduceMul, ↓reduceIte, decide_eq_true (show (i : Int) < ms.length by omega)]
      refine ElemA_at _ (by omega) hel ?_
      simp -implicitDefEqProofs -proj only [go_sem, Nat.reduceBEq, Nat.reduceLT, Nat.reduceLeDiff, Nat.reduceAdd, Nat.reduceMul, ↓reduceIte]
      refine AllocA_intro (fun b4 hb4 => ?_)
      replace hb4 : keepH [(b1, Blk.box 26 [.d (.str cur), i64 f, i64 t, .d (.sl 5 (rowM ms)), .d (.sl 3 (rowS ss)), .d (.sl 9 (rowP ps))])] b4 = none := hb4
      obtain ⟨n1, n2⟩ := fresh_ne hb4 k1
      by_cases c1 : 200 < (m.nm.size : Int)
      · simp -implicitDefEqProofs -proj only [go_sem, Nat.reduceBEq, Nat.reduceLT, Nat.reduceLeDiff, Nat.reduceAdd, Nat.reduceMul, ↓reduceIte, n1, n2, decide_eq_true c1]
        exact LendV_eq (by rw [decide_eq_true (hno (.inl c1))])
      by_cases c2 : 200 < (m.un.size : Int)
      · simp -implicitDefEqProofs -proj only [go_sem, Nat.reduceBEq, Nat.reduceLT, Nat.reduceLeDiff, Nat.reduceAdd, Nat.reduceMul, ↓reduceIte, n1, n2, decide_eq_false c1, decide_eq_true c2]
        exact LendV_eq (by rw [decide_eq_true (hno (.inr c2))])
      simp -implicitDefEqProofs -proj only [go_sem, Nat.reduceBEq, Nat.reduceLT, Nat.reduceLeDiff, Nat.reduceAdd, Nat.reduceMul, ↓reduceIte, n1, n2, decide_eq_false c1, decide_eq_false c2]
      refine LoopQ_k (i + 1) ⟨by omega, hgo (fun e => e.elim c1 c2)⟩ (by show ms.length - (i + 1) < ms.length - i; omega) rfl ?_ (AllH_upd hb4 hk)
      simp -implicitDefEqProofs -proj only [go_sem, Nat.reduceBEq, Nat.reduceLT, Nat.reduceLeDiff, Nat.reduceAdd, Nat.reduceMul, ↓reduceIte, AllAt, i64_succ (show i < 9223372036854775807 by omega)]
    · have hi' : i = ms.length := by omega
      subst hi'
      simp -implicitDefEqProofs -proj only [go_sem, Nat.reduceBEq, Nat.reduceLT, Nat.reduceLeDiff, Nat.reduceAdd, Nat.reduceMul, ↓reduceIte, k1, rowP_len, decide_eq_false (show ¬ (ms.length : Int) < ms.length by omega)]
      refine LoopA_k (fun i : Nat => i ≤ ps.length ∧ ∀ (j : Nat) (h : j < ps.length), j < i → ¬ partBig ps[j]) 65 (fun i => [(48, .d (.sl 9 (rowP ps))), (49, i64 ps.length), (50, i64 i)]) (fun _ => []) (fun i => ps.length - i) 0 ⟨Nat.zero_le _, fun j _ h => absurd h (Nat.not_lt_zero _)⟩ rfl ?_ ?_ ?_
      · simp -implicitDefEqProofs -proj only [go_sem, Nat.reduceBEq, Nat.reduceLT, Nat.reduceLeDiff, Nat.reduceAdd, Nat.reduceMul, ↓reduceIte, AllAt]
      · trivial
      · rintro i ⟨hi2, hs2⟩
        by_cases h2 : i < ps.length
        · have hel := rowP_at h2
          have hno : partBig ps[i] → greatC ⟨cur, f, t, ms, ss, ps⟩ := fun e => .inr (.inr ⟨_, List.getElem_mem h2, e⟩)
          have hgo : ¬ partBig ps[i] → ∀ (j : Nat) (h : j < ps.length), j < i + 1 → ¬ partBig ps[j] := by
            intro e j h1 h2
            by_cases hj : j = i
            · subst hj; exact e
            · exact hs2 j h1 (by omega)
          generalize ps[i] = x at *
          simp -implicitDefEqProofs -proj only [go_sem, Nat.reduceBEq, Nat.reduceLT, Nat.reduceLeDiff, Nat.reduceAdd, Nat.reduceMul, ↓reduceIte, decide_eq_true (show (i : Int) < ps.length by omega)]
          refine ElemA_at _ (by omega) hel ?_
          simp -implicitDefEqProofs -proj only [go_sem, Nat.reduceBEq, Nat.reduceLT, Nat.reduceLeDiff, Nat.reduceAdd, Nat.reduceMul, ↓reduceIte]
          refine AllocA_intro (fun b4 hb4 => ?_)
          by_cases c1 : 40 < (x.ts.length : Int)
          · simp -implicitDefEqProofs -proj only [go_sem, Nat.reduceBEq, Nat.reduceLT, Nat.reduceLeDiff, Nat.reduceAdd, Nat.reduceMul, ↓reduceIte, rowT_len, rowA_len, decide_eq_true c1]
            exact LendV_eq (by rw [decide_eq_true (hno (.inl c1))])
          by_cases c2 : 40 < (x.ad.length : Int)
          · simp -implicitDefEqProofs -proj only [go_sem, Nat.reduceBEq, Nat.reduceLT, Nat.reduceLeDiff, Nat.reduceAdd, Nat.reduceMul, ↓reduceIte, rowT_len, rowA_len, decide_eq_false c1, decide_eq_true c2]
            exact LendV_eq (by rw [decide_eq_true (hno (.inr c2))])
          simp -implicitDefEqProofs -proj only [go_sem, Nat.reduceBEq, Nat.reduceLT, Nat.reduceLeDiff, Nat.reduceAdd, Nat.reduceMul, ↓reduceIte, rowT_len, rowA_len, decide_eq_false c1, decide_eq_false c2]
          refine LoopQ_k (i + 1) ⟨by omega, hgo (fun e => e.elim c1 c2)⟩ (by show ps.length - (i + 1) < ps.length - i; omega) rfl ?_ trivial
          simp -implicitDefEqProofs -proj only [go_sem, Nat.reduceBEq, Nat.reduceLT, Nat.reduceLeDiff, Nat.reduceAdd, Nat.reduceMul, ↓reduceIte, AllAt, i64_succ (show i < 9223372036854775807 by omega)]
        · have hi3 : i = ps.length := by omega
          subst hi3
          have hfin : ¬ greatC ⟨cur, f, t, ms, ss, ps⟩ := by
            rintro (h | ⟨m, hm, h⟩ | ⟨x, hx, h⟩)
            · simp -implicitDefEqProofs only [] at h; omega
            · obtain ⟨j, hj, rfl⟩ := List.getElem_of_mem hm
              exact hs j hj hj h
            · obtain ⟨j, hj, rfl⟩ := List.getElem_of_mem hx
              exact hs2 j hj hj h
          simp -implicitDefEqProofs -proj only [go_sem, Nat.reduceBEq, Nat.reduceLT, Nat.reduceLeDiff, Nat.reduceAdd, Nat.reduceMul, ↓reduceIte, decide_eq_false (show ¬ (ps.length : Int) < ps.length by omega)]
          exact LendV_eq (by rw [decide_eq_false hfin])
end Go.Proofs.Ytlflfciebidddaa.Abs
