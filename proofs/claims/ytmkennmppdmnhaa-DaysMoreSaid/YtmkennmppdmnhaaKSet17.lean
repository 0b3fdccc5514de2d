/- The package days: sets, and what holds on a day. No claim stands here. -/
import Derived.Test.YtmkennmppdmnhaaKLineU
import Derived.Test.YtmkennmppdmnhaaKGoodC2
set_option linter.unusedSimpArgs false
set_option linter.unusedVariables false
namespace Go.Proofs.Ytmkennmppdmnhaa.Abs
open Go Go.RowKit Go.Proofs
attribute [local go_sem] RunC_seq AF_n AF_r AF_b St_n St_t St_H Fst_mk Snd_mk RunC_ops RunC_cond RunC_block RunC_loop RunC_exit RunC_ret RunC_skip RunO_nil RunO_code RunO_code_ret RunO_code_exit RunO_blk RunO_blk_ret RunO_blk_exit RunL_nil RunL_guard GuardA_tt GuardA_ff GuardA_tf GuardA_ft GuardA_void CondA_t CondA_f PickA_t PickA_f RunL_mov RunL_pick RunL_alloc RunL_box RunL_load LoadA_ptr LoadB_1 LoadB_n LoadA_dptr LoadA_dptr_n RunL_store StoreA_ptr StoreB_box RunL_bin Bin_add Bin_sub Bin_mul Bin_quo Bin_rem Bin_shl Bin_shr Bin_andI Bin_orI Bin_xorI Bin_eql Bin_neq Bin_lss Bin_leq Bin_gtr Bin_geq RunL_binb Bin_beql Bin_bneq RunL_un UnA_not UnA_neg RunL_conv convV MapA_some RunL_nilCheck nilV RunL_mkfn RunL_fieldAddr faV RunL_field FieldA_1 FieldA_n RunL_elemAddr EAddrA_sl EAddrA_own EptrA_eq RunL_build BuildA_some RunL_extract ExtA_eq RunL_len lenV_sl lenV_nilsl lenV_own RunL_slen RunL_idxStr IdxSA_eq slenV RunL_minmax mmV minmaxL RunL_call RunL_callv CallvA_fn putS ev evL evO evP eqK eqKs EqB_agg RunL_eqAgg EqA_t EqA_f evQ buildC fits_agg cellsAV_agg fits_d cellsAV_d fits_nilp cellsAV_nilp fits_nilsl cellsAV_nilsl fits_nilfn cellsAV_nilfn fits_ptr cellsAV_ptr fits_eptr cellsAV_eptr fits_dptr cellsAV_dptr fits_own cellsAV_own fits_fn cellsAV_fn rowV_fits rowV_cells rowV_len lenAV setSeg nth seg mapD repeatL putT_get upd_get argT keepT_cons keepT_nil keepH_cons keepH_nil cond_true cond_false VC_true finW resW resL resOne LoopQ_exit LoopQ_ret List.cons_append List.nil_append Bool.not_true Bool.not_false Bool.and_true Bool.and_self Nat.lt_add_left_iff_pos Nat.zero_add Nat.add_zero List.drop_succ_cons List.drop_zero List.take_succ_cons List.take_zero beq_self_eq_true Bool.false_eq_true RunC_dops RunL_loadS RunL_loadD LoadDA_dptr RunL_storeS StoreSA_ptr RunL_pcall RunL_pcallv PCallvA_fn newsOk and_self and_true true_and loadW_ptr LoadK_1 LoadK_n upd_upd RunL_buildSlice BSliceA_some RunL_buildSliceD frzL frz cutL LoadA_eptr LoadE_row RunL_append RunL_slice SliceA_sl StoreA_eptr List.length_cons List.length_nil Nat.min_def Int.cast_ofNat_Int Int.natCast_zero Int.natCast_one decide_true decide_false List.getElem?_cons_zero List.getElem?_cons_succ RunC_rangef CallvA_yld putL_nil putL_cons RangeQ_exit RangeQ_ret
theorem ofNat64 {a : Nat} (h : a < 18446744073709551616) : (BitVec.ofInt 64 (a : Int)).toNat = a := by
  rw [BitVec.toNat_ofInt]
  have : (a : Int) % ((2 ^ 64 : Nat) : Int) = a := Int.emod_eq_of_lt (by omega) (by simp; omega)
  rw [this, Int.toNat_natCast]
theorem bor_nat {a b : Nat} (ha : a < 18446744073709551616) (hb : b < 18446744073709551616) : borI .u64 (a : Int) (b : Int) = ((a ||| b : Nat) : Int) := by
  have h : a ||| b < 2 ^ 64 := Nat.or_lt_two_pow (by simpa using ha) (by simpa using hb)
  rw [borI, IntKind.wrap_u64, show IntKind.u64.bits = 64 from rfl, BitVec.toNat_or, ofNat64 ha, ofNat64 hb]
  have : a ||| b < 18446744073709551616 := by simpa using h
  omega
theorem band_nat {a b : Nat} (ha : a < 18446744073709551616) (hb : b < 18446744073709551616) : bandI .u64 (a : Int) (b : Int) = ((a &&& b : Nat) : Int) := by
  have h : a &&& b ≤ a := Nat.and_le_left
  rw [bandI, IntKind.wrap_u64, show IntKind.u64.bits = 64 from rfl, BitVec.toNat_and, ofNat64 ha, ofNat64 hb]
  omega
def sumN (i : Int) : Nat := if 0 ≤ i ∧ i < 8 then 2 ^ i.toNat else 0
def partN (i : Int) : Nat := if 0 ≤ i ∧ i < 8 then 256 * 2 ^ i.toNat else 0
theorem Bit_ok {i : Int} : DataW Try.prog f_days_bit [i64 i, i64 8] (u64 (sumN i : Nat)) := by
  refine CallW_intro comp_days_bit (by simp) ?_
  by_cases g1 : i < 0
  · simp -implicitDefEqProofs -proj only [go_sem, Nat.reduceBEq, Nat.reduceLT, Nat.reduceLeDiff, Nat.reduceAdd, Nat.reduceMul, ↓reduceIte, Int.reduceToNat, Int.reducePow, Int.reduceLT, Int.reduceLE, Int.reduceAdd, Int.reduceSub, Int.reduceMul, Int.reduceEq, Int.reduceNe, decide_eq_true g1]
    exact LendV_eq (by rw [sumN, if_neg (by omega)]; rfl)
  by_cases g2 : 8 ≤ i
  · simp -implicitDefEqProofs -proj only [go_sem, Nat.reduceBEq, Nat.reduceLT, Nat.reduceLeDiff, Nat.reduceAdd, Nat.reduceMul, ↓reduceIte, Int.reduceToNat, Int.reducePow, Int.reduceLT, Int.reduceLE, Int.reduceAdd, Int.reduceSub, Int.reduceMul, Int.reduceEq, Int.reduceNe, decide_eq_false g1, decide_eq_true g2]
    exact LendV_eq (by rw [sumN, if_neg (by omega)]; rfl)
  simp -implicitDefEqProofs -proj only [go_sem, Nat.reduceBEq, Nat.reduceLT, Nat.reduceLeDiff, Nat.reduceAdd, Nat.reduceMul, ↓reduceIte, Int.reduceToNat, Int.reducePow, Int.reduceLT, Int.reduceLE, Int.reduceAdd, Int.reduceSub, Int.reduceMul, Int.reduceEq, Int.reduceNe, decide_eq_false g1, decide_eq_false g2]
  (repeat' (with_reducible refine VC_intro ?_ (fun h => ?_); (focus first | decide | omega); clear h; try simp -implicitDefEqProofs -proj only [go_sem, Nat.reduceBEq, Nat.reduceLT, Nat.reduceLeDiff, Nat.reduceAdd, Nat.reduceMul, ↓reduceIte, Int.reduceToNat, Int.reducePow, Int.reduceLT, Int.reduceLE, Int.reduceAdd, Int.reduceSub, Int.reduceMul, Int.reduceEq, Int.reduceNe, eq_self]))
  refine LendV_eq ?_
  obtain h | h | h | h | h | h | h | h : i = 0 ∨ i = 1 ∨ i = 2 ∨ i = 3 ∨ i = 4 ∨ i = 5 ∨ i = 6 ∨ i = 7 := by omega
  all_goals subst h; rfl
theorem Sum_ok17 {i : Int} : DataW Try.prog f_days_Sum [i64 i] (u64 (sumN i : Nat)) := by
  refine CallW_intro comp_days_Sum (by simp) ?_
  simp -implicitDefEqProofs -proj only [go_sem, Nat.reduceBEq, Nat.reduceLT, Nat.reduceLeDiff, Nat.reduceAdd, Nat.reduceMul, ↓reduceIte, Int.reduceToNat, Int.reducePow, Int.reduceLT, Int.reduceLE, Int.reduceAdd, Int.reduceSub, Int.reduceMul, Int.reduceEq, Int.reduceNe]
  refine CallA_pure Bit_ok ?_
  simp -implicitDefEqProofs -proj only [go_sem, Nat.reduceBEq, Nat.reduceLT, Nat.reduceLeDiff, Nat.reduceAdd, Nat.reduceMul, ↓reduceIte, Int.reduceToNat, Int.reducePow, Int.reduceLT, Int.reduceLE, Int.reduceAdd, Int.reduceSub, Int.reduceMul, Int.reduceEq, Int.reduceNe]
  exact LendV_eq rfl
theorem Part_ok17 {i : Int} : DataW Try.prog f_days_Part [i64 i] (u64 (partN i : Nat)) := by
  refine CallW_intro comp_days_Part (by simp) ?_
  simp -implicitDefEqProofs -proj only [go_sem, Nat.reduceBEq, Nat.reduceLT, Nat.reduceLeDiff, Nat.reduceAdd, Nat.reduceMul, ↓reduceIte, Int.reduceToNat, Int.reducePow, Int.reduceLT, Int.reduceLE, Int.reduceAdd, Int.reduceSub, Int.reduceMul, Int.reduceEq, Int.reduceNe]
  refine CallA_pure Bit_ok ?_
  simp -implicitDefEqProofs -proj only [go_sem, Nat.reduceBEq, Nat.reduceLT, Nat.reduceLeDiff, Nat.reduceAdd, Nat.reduceMul, ↓reduceIte, Int.reduceToNat, Int.reducePow, Int.reduceLT, Int.reduceLE, Int.reduceAdd, Int.reduceSub, Int.reduceMul, Int.reduceEq, Int.reduceNe]
  (repeat' (with_reducible refine VC_intro ?_ (fun h => ?_); (focus first | decide | omega); clear h; try simp -implicitDefEqProofs -proj only [go_sem, Nat.reduceBEq, Nat.reduceLT, Nat.reduceLeDiff, Nat.reduceAdd, Nat.reduceMul, ↓reduceIte, Int.reduceToNat, Int.reducePow, Int.reduceLT, Int.reduceLE, Int.reduceAdd, Int.reduceSub, Int.reduceMul, Int.reduceEq, Int.reduceNe, eq_self]))
  refine LendV_eq ?_
  unfold sumN partN
  by_cases h8 : 0 ≤ i ∧ i < 8
  · rw [if_pos h8, if_pos h8]
    obtain h | h | h | h | h | h | h | h : i = 0 ∨ i = 1 ∨ i = 2 ∨ i = 3 ∨ i = 4 ∨ i = 5 ∨ i = 6 ∨ i = 7 := by omega
    all_goals subst h; rfl
  · rw [if_neg h8, if_neg h8]
    rfl
theorem Has_ok {a b : Int} : DataW Try.prog f_days_Set_Has [u64 a, u64 b] (bv (decide (bandI .u64 a b = b))) := by
  refine CallW_intro comp_days_Set_Has (by simp) ?_
  simp -implicitDefEqProofs -proj only [go_sem, Nat.reduceBEq, Nat.reduceLT, Nat.reduceLeDiff, Nat.reduceAdd, Nat.reduceMul, ↓reduceIte, Int.reduceToNat, Int.reducePow, Int.reduceLT, Int.reduceLE, Int.reduceAdd, Int.reduceSub, Int.reduceMul, Int.reduceEq, Int.reduceNe]
  exact LendV_eq rfl
theorem With1_ok (u v : Int) : DataW Try.prog f_days_with_1 [u64 u, u64 v] (u64 (borI .u64 u v)) := by
  refine CallW_intro comp_days_with_1 (by simp) ?_
  simp -implicitDefEqProofs -proj only [go_sem, Nat.reduceBEq, Nat.reduceLT, Nat.reduceLeDiff, Nat.reduceAdd, Nat.reduceMul, ↓reduceIte, Int.reduceToNat, Int.reducePow, Int.reduceLT, Int.reduceLE, Int.reduceAdd, Int.reduceSub, Int.reduceMul, Int.reduceEq, Int.reduceNe]
  exact LendV_eq rfl
theorem FwdOK.len {val : Int → Int} {hi : Int} : ∀ {R : List Run} {lo : Int}, FwdOK val lo hi R → (R.length : Int) ≤ hi - lo
  | [], lo, h => by have : lo = hi := h; simp; omega
  | r :: R, lo, ⟨g1, g2, g3, g4, g5⟩ => by
    have := g5.len
    simp -implicitDefEqProofs only [List.length_cons]
    omega
theorem FwdOK.ne {val : Int → Int} {hi : Int} {R : List Run} {lo : Int} (h : FwdOK val lo hi R) (hl : lo < hi) : R ≠ [] := by
  rintro rfl
  have : lo = hi := h
  omega
theorem span_fwd {val : Int → Int} {hi : Int} {R : List Run} {lo : Int} (h : FwdOK val lo (hi + 1) R) (hl : lo ≤ hi) : spanU R = .tup [i64 lo, i64 hi, bv true] := by
  have hne := h.ne (by omega)
  obtain ⟨e1, e2⟩ := FwdOK.ends hne h
  match R, hne, e1, e2 with
  | r :: R, _, e1, e2 =>
    rw [spanU]
    rw [show r.f = lo from e1, e2, show hi + 1 - 1 = hi by omega]
theorem flat_fwd {v lo hi : Int} (h : lo ≤ hi) : FwdOK (fun _ => v) lo (hi + 1) [⟨lo, hi, v⟩] :=
  ⟨rfl, h, fun _ _ _ => rfl, fun s h => (by cases h), rfl⟩
/-- What holds besides. -/
def orW (val : Int → Int) (a b more : Int) : Int → Int := fun x => borI .u64 (val x) (if a ≤ x ∧ x ≤ b then more else 0)
theorem With_ok {val : Int → Int} {f h a b more : Int} {R : List Run} (hR : FwdOK val f (h + 1) R) (hfh : f ≤ h) (hf : -1099511627776 ≤ f) (hh : h ≤ 1099511627776) (hn : h - f ≤ 100000) (ha : -1099511627776 ≤ a ∧ a ≤ 1099511627776) (hb : -1099511627776 ≤ b ∧ b ≤ 1099511627776) :
    ∃ R', DataW Try.prog f_days_with [lineU R, i64 a, i64 b, u64 more] (lineU R') ∧ FwdOK (orW val a b more) f (h + 1) R' := by
  have hl := hR.len
  have hfl := flat_fwd (v := 0) hfh
  have hfill := fillN_fwd hfl (lo := a) (hi := b) (v := more) 1 (by simp)
  rw [startR_end (by simp)] at hfill
  have hz := zipG_fwd hR hfill (borI .u64) (R.length + (fillN a b more [⟨f, h, 0⟩] 1).length) 0 0 [] (by omega) (by rw [startR_zero hR, startR_zero hfill]; rfl) (by rw [startR_zero hR, startR_zero hfill]; exact .inl rfl)
  rw [show max f f = f by omega, show max f (min (h + 1) (h + 1)) = h + 1 by omega] at hz
  have hsp := SpanU_ok (R := R) (by omega)
  rw [span_fwd hR hfh] at hsp
  have hflat := (FlatU_new (lo := f) (hi := h) (v := 0)).data
  rw [if_neg (by omega)] at hflat
  have hfi := (FillU_new (l := [⟨f, h, 0⟩]) (lo := a) (hi := b) (v := more) (by simp) ha hb (fun r hr => by rw [List.mem_singleton] at hr; subst hr; exact ⟨hf, hh, hfh⟩)).data
  have hfln := fillN_len (lo := a) (hi := b) (v := more) (l := [⟨f, h, 0⟩]) 1
  have hzip := (ZipU_new (a := R) (b := fillN a b more [⟨f, h, 0⟩] 1) (g := borI .u64) With1_ok (by omega) (by omega)).data
  refine ⟨_, ?_, hz⟩
  generalize zipG (borI .u64) R (fillN a b more [⟨f, h, 0⟩] 1) (R.length + (fillN a b more [⟨f, h, 0⟩] 1).length) 0 0 [] = Z at *
  rw [show ([⟨f, h, 0⟩] : List Run).length = 1 from rfl] at hfi
  generalize fillN a b more [⟨f, h, 0⟩] 1 = F at *
  refine CallW_intro comp_days_with (by simp) ?_
  simp -implicitDefEqProofs -proj only [go_sem, Nat.reduceBEq, Nat.reduceLT, Nat.reduceLeDiff, Nat.reduceAdd, Nat.reduceMul, ↓reduceIte, Int.reduceToNat, Int.reducePow, Int.reduceLT, Int.reduceLE, Int.reduceAdd, Int.reduceSub, Int.reduceMul, Int.reduceEq, Int.reduceNe]
  refine AllocA_intro (fun b4 hb4 => ?_)
  simp -implicitDefEqProofs -proj only [go_sem, Nat.reduceBEq, Nat.reduceLT, Nat.reduceLeDiff, Nat.reduceAdd, Nat.reduceMul, ↓reduceIte, Int.reduceToNat, Int.reducePow, Int.reduceLT, Int.reduceLE, Int.reduceAdd, Int.reduceSub, Int.reduceMul, Int.reduceEq, Int.reduceNe]
  refine AllocA_intro (fun b8 hb8 => ?_)
  replace hb8 : upd Heap.none b4 _ b8 = none := hb8
  obtain ⟨n1, n2⟩ := fresh_ne hb8 upd_eq
  simp -implicitDefEqProofs -proj only [go_sem, Nat.reduceBEq, Nat.reduceLT, Nat.reduceLeDiff, Nat.reduceAdd, Nat.reduceMul, ↓reduceIte, Int.reduceToNat, Int.reducePow, Int.reduceLT, Int.reduceLE, Int.reduceAdd, Int.reduceSub, Int.reduceMul, Int.reduceEq, Int.reduceNe, n1, n2]
  refine CallA_pure hsp ?_
  simp -implicitDefEqProofs -proj only [go_sem, Nat.reduceBEq, Nat.reduceLT, Nat.reduceLeDiff, Nat.reduceAdd, Nat.reduceMul, ↓reduceIte, Int.reduceToNat, Int.reducePow, Int.reduceLT, Int.reduceLE, Int.reduceAdd, Int.reduceSub, Int.reduceMul, Int.reduceEq, Int.reduceNe]
  refine CallA_pure hflat ?_
  simp -implicitDefEqProofs -proj only [go_sem, Nat.reduceBEq, Nat.reduceLT, Nat.reduceLeDiff, Nat.reduceAdd, Nat.reduceMul, ↓reduceIte, Int.reduceToNat, Int.reducePow, Int.reduceLT, Int.reduceLE, Int.reduceAdd, Int.reduceSub, Int.reduceMul, Int.reduceEq, Int.reduceNe]
  refine CallA_pure hfi ?_
  simp -implicitDefEqProofs -proj only [go_sem, Nat.reduceBEq, Nat.reduceLT, Nat.reduceLeDiff, Nat.reduceAdd, Nat.reduceMul, ↓reduceIte, Int.reduceToNat, Int.reducePow, Int.reduceLT, Int.reduceLE, Int.reduceAdd, Int.reduceSub, Int.reduceMul, Int.reduceEq, Int.reduceNe]
  refine AllocA_intro (fun b12 hb12 => ?_)
  replace hb12 : upd (upd Heap.none b4 _) b8 _ b12 = none := hb12
  obtain ⟨n3, n4⟩ := fresh_ne hb12 upd_eq
  obtain ⟨n5, n6⟩ := fresh_ne hb12 (by rw [upd_ne n1]; exact upd_eq)
  simp -implicitDefEqProofs -proj only [go_sem, Nat.reduceBEq, Nat.reduceLT, Nat.reduceLeDiff, Nat.reduceAdd, Nat.reduceMul, ↓reduceIte, Int.reduceToNat, Int.reducePow, Int.reduceLT, Int.reduceLE, Int.reduceAdd, Int.reduceSub, Int.reduceMul, Int.reduceEq, Int.reduceNe, n1, n2, n3, n4, n5, n6]
  refine CallA_pure hzip ?_
  simp -implicitDefEqProofs -proj only [go_sem, Nat.reduceBEq, Nat.reduceLT, Nat.reduceLeDiff, Nat.reduceAdd, Nat.reduceMul, ↓reduceIte, Int.reduceToNat, Int.reducePow, Int.reduceLT, Int.reduceLE, Int.reduceAdd, Int.reduceSub, Int.reduceMul, Int.reduceEq, Int.reduceNe, n1, n2, n3, n4, n5, n6]
  exact LendV_eq rfl
/-- What holds on a day. -/
def setS (ss : List SumX) (d : Int) : Nat → Nat
  | 0 => 0
  | i + 1 => setS ss d i ||| (match ss[i]? with | some s => if s.f ≤ d ∧ d ≤ s.t then 2 ^ i else 0 | none => 0)
def setP (ss : List SumX) (ps : List PartX) (d : Int) : Nat → Nat
  | 0 => setS ss d ss.length
  | i + 1 => setP ss ps d i ||| (match ps[i]? with | some s => if s.f ≤ d ∧ d ≤ s.t then 256 * 2 ^ i else 0 | none => 0)
def setC (c : CoreX) (d : Int) : Nat := setP c.ss c.ps d c.ps.length
theorem setS_lt {ss : List SumX} {d : Int} : ∀ i : Nat, setS ss d i < 2 ^ i
  | 0 => by simp [setS]
  | i + 1 => by
    have h := setS_lt (ss := ss) (d := d) i
    have hp : 2 ^ i < 2 ^ (i + 1) := Nat.pow_lt_pow_right (by omega) (by omega)
    rw [setS]
    refine Nat.or_lt_two_pow (by omega) ?_
    split
    · split <;> omega
    · omega
theorem setP_lt {ss : List SumX} {ps : List PartX} {d : Int} (h8 : ss.length ≤ 8) : ∀ i : Nat, setP ss ps d i < 2 ^ (8 + i)
  | 0 => by
    have h := setS_lt (ss := ss) (d := d) ss.length
    have : 2 ^ ss.length ≤ 2 ^ 8 := Nat.pow_le_pow_right (by omega) h8
    rw [setP]
    show _ < 2 ^ 8
    omega
  | i + 1 => by
    have h := setP_lt (ps := ps) (d := d) h8 i
    have hp : 2 ^ (8 + i) < 2 ^ (8 + i + 1) := Nat.pow_lt_pow_right (by omega) (by omega)
    have he : 256 * 2 ^ i = 2 ^ (8 + i) := by rw [Nat.pow_add]
    rw [setP]
    refine Nat.or_lt_two_pow (by show _ < 2 ^ (8 + i + 1); omega) ?_
    show _ < 2 ^ (8 + i + 1)
    split
    · split
      · rw [he]; exact hp
      · exact Nat.two_pow_pos _
    · exact Nat.two_pow_pos _
theorem pow_le8 {i : Nat} (h : i ≤ 8) : 2 ^ i ≤ 256 := Nat.pow_le_pow_right (n := 2) (by omega) h
theorem pow_le16 {i : Nat} (h : i ≤ 8) : 2 ^ (8 + i) ≤ 65536 := Nat.pow_le_pow_right (show 0 < 2 by omega) (show 8 + i ≤ 16 by omega)
theorem pow_u64 {i : Nat} (h : i < 8) : IntKind.u64.wrap (1 * 2 ^ (if i ≤ 64 then i else 64)) = ((2 ^ i : Nat) : Int) := by
  obtain h | h | h | h | h | h | h | h : i = 0 ∨ i = 1 ∨ i = 2 ∨ i = 3 ∨ i = 4 ∨ i = 5 ∨ i = 6 ∨ i = 7 := by omega
  all_goals subst h; rfl
theorem pow_u64p {i : Nat} (h : i < 8) : IntKind.u64.wrap (256 * 2 ^ (if i ≤ 64 then i else 64)) = ((256 * 2 ^ i : Nat) : Int) := by
  obtain h | h | h | h | h | h | h | h : i = 0 ∨ i = 1 ∨ i = 2 ∨ i = 3 ∨ i = 4 ∨ i = 5 ∨ i = 6 ∨ i = 7 := by omega
  all_goals subst h; rfl
theorem sumN_nat {i : Nat} (h : i < 8) : sumN (i : Int) = 2 ^ i := by unfold sumN; rw [if_pos (by omega), Int.toNat_natCast]
theorem partN_nat {i : Nat} (h : i < 8) : partN (i : Int) = 256 * 2 ^ i := by unfold partN; rw [if_pos (by omega), Int.toNat_natCast]
theorem setS_step {ss : List SumX} {i : Nat} (h : i < ss.length) (h8 : ss.length ≤ 8) : (fun d => ((setS ss d (i + 1) : Nat) : Int)) = orW (fun d => ((setS ss d i : Nat) : Int)) ss[i].f ss[i].t ((sumN (i : Int) : Nat) : Int) := by
  funext d
  have h1 := setS_lt (ss := ss) (d := d) i
  have h2 := pow_le8 (i := i) (by omega)
  rw [orW, setS, List.getElem?_eq_getElem h, sumN_nat (by omega)]
  simp -implicitDefEqProofs only []
  by_cases hd : ss[i].f ≤ d ∧ d ≤ ss[i].t
  · rw [if_pos hd, if_pos hd, bor_nat (by omega) (by omega)]
  · rw [if_neg hd, if_neg hd, show (0 : Int) = ((0 : Nat) : Int) from rfl, bor_nat (by omega) (by omega)]
theorem setP_step {ss : List SumX} {ps : List PartX} {i : Nat} (h : i < ps.length) (h8 : ss.length ≤ 8) (h9 : ps.length ≤ 8) : (fun d => ((setP ss ps d (i + 1) : Nat) : Int)) = orW (fun d => ((setP ss ps d i : Nat) : Int)) ps[i].f ps[i].t ((partN (i : Int) : Nat) : Int) := by
  funext d
  have h1 := setP_lt (ps := ps) (d := d) h8 i
  have h2 := pow_le16 (i := i) (by omega)
  have h3 := pow_le8 (i := i) (by omega)
  rw [orW, setP, List.getElem?_eq_getElem h, partN_nat (by omega)]
  simp -implicitDefEqProofs only []
  by_cases hd : ps[i].f ≤ d ∧ d ≤ ps[i].t
  · rw [if_pos hd, if_pos hd, bor_nat (by omega) (by omega)]
  · rw [if_neg hd, if_neg hd, show (0 : Int) = ((0 : Nat) : Int) from rfl, bor_nat (by omega) (by omega)]
/-- The line of all days. -/
def listC (c : CoreX) : List Int := (List.range (c.t + 1 - c.f).toNat).map fun (i : Nat) => ((setC c (c.f + i) : Nat) : Int)
def holdsR (c : CoreX) : List Run := runs c.f (listC c)
theorem listC_len {c : CoreX} : (listC c).length = (c.t + 1 - c.f).toNat := by simp [listC]
theorem holds_eq {c : CoreX} {R : List Run} (h : FwdOK (fun d => ((setC c d : Nat) : Int)) c.f (c.t + 1) R) (hft : c.f ≤ c.t) : R = holdsR c := by
  refine runs_eq (val := fun d => ((setC c d : Nat) : Int)) ?_ fun i hi => ?_
  · rw [listC_len, show c.f + (((c.t + 1 - c.f).toNat : Nat) : Int) = c.t + 1 by omega]
    exact h
  · simp [listC]
end Go.Proofs.Ytmkennmppdmnhaa.Abs
