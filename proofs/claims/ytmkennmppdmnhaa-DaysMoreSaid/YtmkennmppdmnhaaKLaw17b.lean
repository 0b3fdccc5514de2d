/- The law DaysSets. No claim stands here. -/
import Derived.Test.YtmkennmppdmnhaaKLaw17
set_option linter.unusedSimpArgs false
set_option linter.unusedVariables false
namespace Go.Proofs.Ytmkennmppdmnhaa.Abs
open Go Go.RowKit Go.Proofs
attribute [local go_sem] RunC_seq AF_n AF_r AF_b St_n St_t St_H Fst_mk Snd_mk RunC_ops RunC_cond RunC_block RunC_loop RunC_exit RunC_ret RunC_skip RunO_nil RunO_code RunO_code_ret RunO_code_exit RunO_blk RunO_blk_ret RunO_blk_exit RunL_nil RunL_guard GuardA_tt GuardA_ff GuardA_tf GuardA_ft GuardA_void CondA_t CondA_f PickA_t PickA_f RunL_mov RunL_pick RunL_alloc RunL_box RunL_load LoadA_ptr LoadB_1 LoadB_n LoadA_dptr LoadA_dptr_n RunL_store StoreA_ptr StoreB_box RunL_bin Bin_add Bin_sub Bin_mul Bin_quo Bin_rem Bin_shl Bin_shr Bin_andI Bin_orI Bin_xorI Bin_eql Bin_neq Bin_lss Bin_leq Bin_gtr Bin_geq RunL_binb Bin_beql Bin_bneq RunL_un UnA_not UnA_neg RunL_conv convV MapA_some RunL_nilCheck nilV RunL_mkfn RunL_fieldAddr faV RunL_field FieldA_1 FieldA_n RunL_elemAddr EAddrA_sl EAddrA_own EptrA_eq RunL_build BuildA_some RunL_extract ExtA_eq RunL_len lenV_sl lenV_nilsl lenV_own RunL_slen RunL_idxStr IdxSA_eq slenV RunL_minmax mmV minmaxL RunL_call RunL_callv CallvA_fn putS ev evL evO evP eqK eqKs EqB_agg RunL_eqAgg EqA_t EqA_f evQ buildC fits_agg cellsAV_agg fits_d cellsAV_d fits_nilp cellsAV_nilp fits_nilsl cellsAV_nilsl fits_nilfn cellsAV_nilfn fits_ptr cellsAV_ptr fits_eptr cellsAV_eptr fits_dptr cellsAV_dptr fits_own cellsAV_own fits_fn cellsAV_fn rowV_fits rowV_cells rowV_len lenAV setSeg nth seg mapD repeatL putT_get upd_get argT keepT_cons keepT_nil keepH_cons keepH_nil cond_true cond_false VC_true finW resW resL resOne LoopQ_exit LoopQ_ret List.cons_append List.nil_append Bool.not_true Bool.not_false Bool.and_true Bool.and_self Nat.lt_add_left_iff_pos Nat.zero_add Nat.add_zero List.drop_succ_cons List.drop_zero List.take_succ_cons List.take_zero beq_self_eq_true Bool.false_eq_true RunC_dops RunL_loadS RunL_loadD LoadDA_dptr RunL_storeS StoreSA_ptr RunL_pcall RunL_pcallv PCallvA_fn newsOk and_self and_true true_and loadW_ptr LoadK_1 LoadK_n upd_upd RunL_buildSlice BSliceA_some RunL_buildSliceD frzL frz cutL LoadA_eptr LoadE_row RunL_append RunL_slice SliceA_sl StoreA_eptr List.length_cons List.length_nil Nat.min_def Int.cast_ofNat_Int Int.natCast_zero Int.natCast_one decide_true decide_false List.getElem?_cons_zero List.getElem?_cons_succ RunC_rangef CallvA_yld putL_nil putL_cons RangeQ_exit RangeQ_ret
def bandNotI (j : IntKind) (a b : Int) : Int := j.wrap (BitVec.ofInt j.bits a &&& ~~~ BitVec.ofInt j.bits b).toNat
theorem Bin_andNotI {P : Program} {Q : Out → St → Prop} {d : Option Nat} {l : List AO} {k : List Item} {s : St} {j : IntKind} {a b : Int} : BinA P Q .andNot (.d (.int j a)) (.d (.int j b)) d l k s = RunL P Q l k (putS s d (.d (.int j (bandNotI j a b))) s.H) := by simp [BinA, binW, VC, bandNotI]
theorem typed_u64 {P : Program} {n : Nat} {t : TypeId} {l : List D} (h : typedW P (n + 1) t l) (ht : P.underlying t = some (.int .u64)) : ∃ z : Nat, l = [.int .u64 z] ∧ z < 18446744073709551616 ∧ argAV P t l = u64 z := by
  rw [typedW, ht] at h
  obtain ⟨z, rfl, h⟩ := h
  have hb : 0 ≤ z ∧ z < 18446744073709551616 := by
    simp -implicitDefEqProofs only [Lit.wf, Bool.and_eq_true, decide_eq_true_eq, IntKind.min, IntKind.max, IntKind.signed, IntKind.bits] at h
    constructor
    · have := h.1; simp at this; omega
    · have := h.2; simp at this; omega
  obtain ⟨m, rfl⟩ := Int.eq_ofNat_of_zero_le hb.1
  exact ⟨m, rfl, by omega, by simp [argAV, ht, cell1]⟩
theorem bv_sub (A B : BitVec 64) : (B &&& ~~~ A = 0#64) ↔ A &&& B = B := by
  constructor
  · intro h
    apply BitVec.eq_of_getLsbD_eq
    intro i hi
    have := congrArg (fun x => x.getLsbD i) h
    simp -implicitDefEqProofs only [BitVec.getLsbD_and, BitVec.getLsbD_not, hi, decide_true, Bool.true_and, BitVec.getLsbD_zero] at this ⊢
    cases hA : A.getLsbD i <;> cases hB : B.getLsbD i <;> simp_all
  · intro h
    apply BitVec.eq_of_getLsbD_eq
    intro i hi
    have := congrArg (fun x => x.getLsbD i) h
    simp -implicitDefEqProofs only [BitVec.getLsbD_and, BitVec.getLsbD_not, hi, decide_true, Bool.true_and, BitVec.getLsbD_zero] at this ⊢
    cases hA : A.getLsbD i <;> cases hB : B.getLsbD i <;> simp_all
theorem andNot_nat {a b : Nat} (ha : a < 18446744073709551616) (hb : b < 18446744073709551616) : bandNotI .u64 (b : Int) (a : Int) = 0 ↔ bandI .u64 (a : Int) (b : Int) = (b : Int) := by
  rw [bandNotI, show IntKind.u64.bits = 64 from rfl, band_nat ha hb]
  have h1 := bv_sub (BitVec.ofInt 64 (a : Int)) (BitVec.ofInt 64 (b : Int))
  have h2 : (BitVec.ofInt 64 (a : Int) &&& BitVec.ofInt 64 (b : Int)).toNat = a &&& b := by rw [BitVec.toNat_and, ofNat64 ha, ofNat64 hb]
  have h3 : (BitVec.ofInt 64 (b : Int)).toNat = b := ofNat64 hb
  have hl := (BitVec.ofInt 64 (b : Int) &&& ~~~ BitVec.ofInt 64 (a : Int)).isLt
  have h4 : (BitVec.ofInt 64 (b : Int) &&& ~~~ BitVec.ofInt 64 (a : Int)).toNat = 0 ↔ (BitVec.ofInt 64 (b : Int) &&& ~~~ BitVec.ofInt 64 (a : Int)) = 0#64 := ⟨fun h => BitVec.eq_of_toNat_eq (by rw [h]; rfl), fun h => by rw [h]; rfl⟩
  have h5 : a &&& b = b ↔ BitVec.ofInt 64 (a : Int) &&& BitVec.ofInt 64 (b : Int) = BitVec.ofInt 64 (b : Int) := ⟨fun h => BitVec.eq_of_toNat_eq (by rw [h2, h3, h]), fun h => by rw [← h2, h, h3]⟩
  rw [IntKind.wrap_u64]
  generalize (BitVec.ofInt 64 (b : Int) &&& ~~~ BitVec.ofInt 64 (a : Int)).toNat = q at *
  have h6 : q < 18446744073709551616 := by simpa using hl
  constructor
  · intro h
    have : a &&& b = b := h5.2 (h1.1 (h4.1 (by omega)))
    rw [this]
  · intro h
    have : a &&& b = b := by omega
    have := h4.2 (h1.2 (h5.1 this))
    omega
theorem bit_nat {a i : Nat} : a &&& 2 ^ i = 2 ^ i ↔ a / 2 ^ i % 2 = 1 := by
  have hd : a.testBit i = decide (a / 2 ^ i % 2 = 1) := Nat.testBit_eq_decide_div_mod_eq
  constructor
  · intro h
    have h2 := congrArg (fun x => Nat.testBit x i) h
    simp -implicitDefEqProofs only [Nat.testBit_and, Nat.testBit_two_pow_self, Bool.and_true] at h2
    rw [hd] at h2
    exact of_decide_eq_true h2
  · intro h
    rw [decide_eq_true h] at hd
    apply Nat.eq_of_testBit_eq
    intro j
    rw [Nat.testBit_and, Nat.testBit_two_pow]
    by_cases hj : i = j
    · subst hj; rw [hd]; simp
    · simp [hj]
theorem DaysSets_ok {i : Int} {a b : Nat} (hi : Fit i) (ha : a < 18446744073709551616) (hb : b < 18446744073709551616) : DataW Try.prog f_poundagelaw17_DaysSets [i64 i, u64 a, u64 b] (bv true) := by
  refine CallW_intro comp_poundagelaw17_DaysSets (by simp) ?_
  simp -implicitDefEqProofs -proj only [go_sem, Nat.reduceBEq, Nat.reduceLT, Nat.reduceLeDiff, Nat.reduceAdd, Nat.reduceMul, ↓reduceIte, Int.reduceToNat, Int.reducePow, Int.reduceLT, Int.reduceLE, Int.reduceAdd, Int.reduceSub, Int.reduceMul, Int.reduceEq, Int.reduceNe]
  refine CallA_pure alive17_ok ?_
  simp -implicitDefEqProofs -proj only [go_sem, Nat.reduceBEq, Nat.reduceLT, Nat.reduceLeDiff, Nat.reduceAdd, Nat.reduceMul, ↓reduceIte, Int.reduceToNat, Int.reducePow, Int.reduceLT, Int.reduceLE, Int.reduceAdd, Int.reduceSub, Int.reduceMul, Int.reduceEq, Int.reduceNe]
  refine CallA_pure Sum_ok17 ?_
  simp -implicitDefEqProofs -proj only [go_sem, Nat.reduceBEq, Nat.reduceLT, Nat.reduceLeDiff, Nat.reduceAdd, Nat.reduceMul, ↓reduceIte, Int.reduceToNat, Int.reducePow, Int.reduceLT, Int.reduceLE, Int.reduceAdd, Int.reduceSub, Int.reduceMul, Int.reduceEq, Int.reduceNe]
  refine CallA_pure Part_ok17 ?_
  by_cases g1 : i < 0
  · have e1 : sumN i = 0 := if_neg (by omega)
    have e2 : partN i = 0 := if_neg (by omega)
    rw [e1, e2]
    simp -implicitDefEqProofs -proj only [go_sem, Nat.reduceBEq, Nat.reduceLT, Nat.reduceLeDiff, Nat.reduceAdd, Nat.reduceMul, ↓reduceIte, Int.reduceToNat, Int.reducePow, Int.reduceLT, Int.reduceLE, Int.reduceAdd, Int.reduceSub, Int.reduceMul, Int.reduceEq, Int.reduceNe, decide_eq_true g1, decide_true]
    exact LendV_eq rfl
  by_cases g2 : 7 < i
  · have e1 : sumN i = 0 := if_neg (by omega)
    have e2 : partN i = 0 := if_neg (by omega)
    rw [e1, e2]
    simp -implicitDefEqProofs -proj only [go_sem, Nat.reduceBEq, Nat.reduceLT, Nat.reduceLeDiff, Nat.reduceAdd, Nat.reduceMul, ↓reduceIte, Int.reduceToNat, Int.reducePow, Int.reduceLT, Int.reduceLE, Int.reduceAdd, Int.reduceSub, Int.reduceMul, Int.reduceEq, Int.reduceNe, decide_eq_false g1, decide_eq_true g2, decide_true]
    exact LendV_eq rfl
  obtain ⟨n, rfl⟩ := Int.eq_ofNat_of_zero_le (show 0 ≤ i by omega)
  have hn : n < 8 := by omega
  have hp8 := pow_le8 (i := n) (by omega)
  have w1 : IntKind.u64.wrap (n : Int) = n := by rw [IntKind.wrap_u64]; omega
  have w2 : IntKind.i64.wrap (8 + (n : Int)) = ((8 + n : Nat) : Int) := by rw [IntKind.wrap_i64]; omega
  have w3 : IntKind.u64.wrap ((8 + n : Nat) : Int) = ((8 + n : Nat) : Int) := by rw [IntKind.wrap_u64]; omega
  have w7 : (if 8 + n ≤ 64 then 8 + n else 64) = 8 + n := if_pos (by omega)
  have w4 : IntKind.u64.wrap (1 * 2 ^ n) = ((2 ^ n : Nat) : Int) := by
    have := pow_u64 hn
    rwa [if_pos (by omega)] at this
  have w5 : IntKind.u64.wrap (1 * 2 ^ (8 + n)) = ((256 * 2 ^ n : Nat) : Int) := by
    obtain h | h | h | h | h | h | h | h : n = 0 ∨ n = 1 ∨ n = 2 ∨ n = 3 ∨ n = 4 ∨ n = 5 ∨ n = 6 ∨ n = 7 := by omega
    all_goals subst h; rfl
  have w6 : (if n ≤ 64 then n else 64) = n := if_pos (by omega)
  have hx := @Has_ok (a : Int) (b : Int)
  have hy := @Has_ok (a : Int) ((2 ^ n : Nat) : Int)
  have e1 := andNot_nat ha hb
  have e2 : ((a : Int).fdiv (2 ^ n)).tmod 2 = 1 ↔ bandI .u64 (a : Int) ((2 ^ n : Nat) : Int) = ((2 ^ n : Nat) : Int) := by
    rw [band_nat ha (by omega)]
    have hq : (a : Int).fdiv (2 ^ n) = ((a / 2 ^ n : Nat) : Int) := by
      rw [show (2 : Int) ^ n = ((2 ^ n : Nat) : Int) by simp, Int.natCast_ediv, Int.fdiv_eq_ediv_of_nonneg _ (by omega)]
    rw [hq]
    have := bit_nat (a := a) (i := n)
    generalize a / 2 ^ n = q at *
    rw [Int.tmod_eq_emod_of_nonneg (by omega)]
    omega
  rw [sumN_nat hn, partN_nat hn]
  simp -implicitDefEqProofs -proj only [go_sem, Nat.reduceBEq, Nat.reduceLT, Nat.reduceLeDiff, Nat.reduceAdd, Nat.reduceMul, ↓reduceIte, Int.reduceToNat, Int.reducePow, Int.reduceLT, Int.reduceLE, Int.reduceAdd, Int.reduceSub, Int.reduceMul, Int.reduceEq, Int.reduceNe, decide_eq_false g1, decide_eq_false g2, w1, w2, w3, Int.toNat_natCast, w4, w5, w6, w7, decide_true]
  (repeat' (with_reducible refine VC_intro ?_ (fun h => ?_); (focus first | decide | omega); clear h; try simp -implicitDefEqProofs -proj only [go_sem, Nat.reduceBEq, Nat.reduceLT, Nat.reduceLeDiff, Nat.reduceAdd, Nat.reduceMul, ↓reduceIte, Int.reduceToNat, Int.reducePow, Int.reduceLT, Int.reduceLE, Int.reduceAdd, Int.reduceSub, Int.reduceMul, Int.reduceEq, Int.reduceNe, eq_self, w1, w2, w3, Int.toNat_natCast, w4, w5, w6, w7, decide_true]))
  refine CallA_pure hx ?_
  have k1 : (decide (bandI .u64 (a : Int) (b : Int) = (b : Int)) == decide (bandNotI .u64 (b : Int) (a : Int) = 0)) = true := by
    rw [show decide (bandNotI .u64 (b : Int) (a : Int) = 0) = decide (bandI .u64 (a : Int) (b : Int) = (b : Int)) from decide_eq_decide.2 e1]
    simp
  have k2 : (decide (bandI .u64 (a : Int) ((2 ^ n : Nat) : Int) = ((2 ^ n : Nat) : Int)) == decide (((a : Int).fdiv (2 ^ n)).tmod 2 = 1)) = true := by
    rw [show decide (((a : Int).fdiv (2 ^ n)).tmod 2 = 1) = decide (bandI .u64 (a : Int) ((2 ^ n : Nat) : Int) = ((2 ^ n : Nat) : Int)) from decide_eq_decide.2 e2]
    simp
  simp -implicitDefEqProofs -proj only [go_sem, Nat.reduceBEq, Nat.reduceLT, Nat.reduceLeDiff, Nat.reduceAdd, Nat.reduceMul, ↓reduceIte, Int.reduceToNat, Int.reducePow, Int.reduceLT, Int.reduceLE, Int.reduceAdd, Int.reduceSub, Int.reduceMul, Int.reduceEq, Int.reduceNe, Bin_andNotI, w1, Int.toNat_natCast, w6, k1]
  refine CallA_pure hy ?_
  simp -implicitDefEqProofs -proj only [go_sem, Nat.reduceBEq, Nat.reduceLT, Nat.reduceLeDiff, Nat.reduceAdd, Nat.reduceMul, ↓reduceIte, Int.reduceToNat, Int.reducePow, Int.reduceLT, Int.reduceLE, Int.reduceAdd, Int.reduceSub, Int.reduceMul, Int.reduceEq, Int.reduceNe, w1, Int.toNat_natCast, w6, k2]
  (repeat' (with_reducible refine VC_intro ?_ (fun h => ?_); (focus first | decide | omega); clear h; try simp -implicitDefEqProofs -proj only [go_sem, Nat.reduceBEq, Nat.reduceLT, Nat.reduceLeDiff, Nat.reduceAdd, Nat.reduceMul, ↓reduceIte, Int.reduceToNat, Int.reducePow, Int.reduceLT, Int.reduceLE, Int.reduceAdd, Int.reduceSub, Int.reduceMul, Int.reduceEq, Int.reduceNe, eq_self, w1, Int.toNat_natCast, w6, k2]))
  exact LendV_eq rfl
end Go.Proofs.Ytmkennmppdmnhaa.Abs
