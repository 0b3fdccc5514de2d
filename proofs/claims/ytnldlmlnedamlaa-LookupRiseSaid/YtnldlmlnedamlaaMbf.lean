/- Contracts of the machine and the contracts of one law (joined by kmerge.py). No claim stands here. -/
import Derived.Below
import Derived.Carry
import Derived.ChangeCalls
import Derived.ChangeOld
import Derived.IntWalk
import Derived.KernelRfl
import Derived.Laws.Append
import Derived.Laws.AppendOwn
import Derived.Laws.Cells
import Derived.Laws.CopyRow
import Derived.Laws.Entries
import Derived.Laws.MakeOwn
import Derived.Laws.NewFold
import Derived.Laws.Rows
import Derived.Laws.StructEq
import Derived.OpenShut
import Derived.Orders
import Derived.OrdersIn
import Derived.ProofKit
import Derived.RangeFuncLeaves
import Derived.RangeFuncSeq
import Derived.SizedLaws
import Derived.TacticsIn
import Derived.WalkKit
import Derived.Test.YtnldlmlnedamlaaMbe
set_option maxRecDepth 100000
set_option linter.unusedSimpArgs false
set_option linter.unusedVariables false
namespace Go.Proofs.Ytnldlmlnedamlaa.Abs
open Go Go.RowKit Go.Proofs
attribute [local go_sem] RunC_seq AF_n AF_r AF_b St_n St_t St_H Fst_mk Snd_mk RunC_ops RunC_cond RunC_block RunC_loop RunC_exit RunC_ret RunC_skip RunO_nil RunO_code RunO_code_ret RunO_code_exit RunO_blk RunO_blk_ret RunO_blk_exit RunL_nil RunL_guard GuardA_tt GuardA_ff GuardA_tf GuardA_ft GuardA_void CondA_t CondA_f PickA_t PickA_f RunL_mov RunL_pick RunL_alloc RunL_box RunL_load LoadA_ptr LoadB_1 LoadB_n LoadA_dptr LoadA_dptr_n RunL_store StoreA_ptr StoreB_box RunL_bin Bin_add Bin_sub Bin_mul Bin_quo Bin_rem Bin_shl Bin_shr Bin_andI Bin_orI Bin_xorI Bin_eql Bin_neq Bin_lss Bin_leq Bin_gtr Bin_geq RunL_binb Bin_beql Bin_bneq RunL_un UnA_not UnA_neg RunL_conv convV MapA_some RunL_nilCheck nilV RunL_mkfn RunL_fieldAddr faV RunL_field FieldA_1 FieldA_n RunL_elemAddr EAddrA_sl EAddrA_own EptrA_eq RunL_build BuildA_some RunL_extract ExtA_eq RunL_len lenV_sl lenV_nilsl lenV_own RunL_slen RunL_idxStr IdxSA_eq slenV RunL_minmax mmV minmaxL RunL_call RunL_callv CallvA_fn putS ev evL evO evP eqK eqKs EqB_agg RunL_eqAgg EqA_t EqA_f evQ buildC fits_agg cellsAV_agg fits_d cellsAV_d fits_nilp cellsAV_nilp fits_nilsl cellsAV_nilsl fits_nilfn cellsAV_nilfn fits_ptr cellsAV_ptr fits_eptr cellsAV_eptr fits_dptr cellsAV_dptr fits_own cellsAV_own fits_fn cellsAV_fn rowV_fits rowV_cells rowV_len lenAV setSeg nth seg mapD repeatL putT_get upd_get argT keepT_cons keepT_nil keepH_cons keepH_nil cond_true cond_false VC_true finW resW resL resOne LoopQ_exit LoopQ_ret List.cons_append List.nil_append Bool.not_true Bool.not_false Bool.and_true Bool.and_self Nat.lt_add_left_iff_pos Nat.zero_add Nat.add_zero List.drop_succ_cons List.drop_zero List.take_succ_cons List.take_zero beq_self_eq_true Bool.false_eq_true RunC_dops RunL_loadS RunL_loadD LoadDA_dptr RunL_storeS StoreSA_ptr RunL_pcall RunL_pcallv PCallvA_fn newsOk and_self and_true true_and loadW_ptr LoadK_1 LoadK_n upd_upd RunL_loadP LoadPA_ptr RunL_callS RunL_make RunL_buildSlice BSliceA_some RunL_buildSliceD frzL frz cutL LoadA_eptr LoadE_row RunL_append RunL_slice SliceA_sl StoreA_eptr List.length_cons List.length_nil Nat.min_def Int.cast_ofNat_Int Int.natCast_zero Int.natCast_one decide_true decide_false List.getElem?_cons_zero List.getElem?_cons_succ RunC_rangef CallvA_yld putL_nil putL_cons RangeQ_exit RangeQ_ret
/-- A meter's numbers, so many parts on, and of the next part so many quantities on. -/
def qL (c : CoreX) (d : Int) (m : Nat) (mx : Int) (j k : Nat) : List Int := (List.range (mx + 1).toNat).map fun (q : Nat) => sg (riseAt c.ps d m q) (if q < k then j + 1 else j)
theorem qL_len {c : CoreX} {d : Int} {m : Nat} {mx : Int} {j k : Nat} : (qL c d m mx j k).length = (mx + 1).toNat := by simp [qL]
theorem qL_next {c : CoreX} {d : Int} {m : Nat} {mx : Int} {j : Nat} : qL c d m mx j (mx + 1).toNat = qL c d m mx (j + 1) 0 := by
  unfold qL
  refine List.map_congr_left fun q hq => ?_
  rw [if_pos (List.mem_range.1 hq), if_neg (Nat.not_lt_zero _)]
theorem qL_zero {c : CoreX} {d : Int} {m : Nat} {mx : Int} : qL c d m mx 0 0 = List.replicate (mx + 1).toNat 0 := by
  unfold qL
  refine List.ext_getElem (by simp) fun i h1 h2 => ?_
  simp [sg]
theorem qL_end {c : CoreX} {d : Int} {m : Nat} {mx : Int} : qL c d m mx c.ps.length 0 = dayL c d m mx := by
  unfold qL dayL dayQ
  refine List.map_congr_left fun q hq => ?_
  rw [if_neg (Nat.not_lt_zero _)]
theorem qL_at {c : CoreX} {d : Int} {m : Nat} {mx : Int} {j k : Nat} (h : k < (mx + 1).toNat) : (qL c d m mx j k)[k]? = some (sg (riseAt c.ps d m k) j) := by
  simp [qL, h]
theorem qL_set {c : CoreX} {d : Int} {m : Nat} {mx : Int} {j k : Nat} (h : k < (mx + 1).toNat) : (qL c d m mx j k).set k (sg (riseAt c.ps d m k) (j + 1)) = qL c d m mx j (k + 1) := by
  refine List.ext_getElem (by simp [qL]) fun i h1 h2 => ?_
  have hi : i < (mx + 1).toNat := by rw [qL_len] at h2; exact h2
  rw [List.getElem_set]
  by_cases e : k = i
  · subst e; simp [qL]
  · rw [if_neg e]
    simp -implicitDefEqProofs only [qL, List.getElem_map, List.getElem_range]
    by_cases h3 : i < k
    · rw [if_pos h3, if_pos (by omega)]
    · rw [if_neg h3, if_neg (by omega)]
theorem riseAt_off {ps : List PartX} {d q : Int} {m j : Nat} {x : PartX} (h : ps[j]? = some x) (hn : ¬ (x.me = m ∧ inW d x.f x.t)) : riseAt ps d m q j = 0 := by
  unfold riseAt; rw [h]; simp -implicitDefEqProofs only []; rw [if_neg hn]
theorem riseAt_on {ps : List PartX} {d q : Int} {m j : Nat} {x : PartX} (h : ps[j]? = some x) (hn : x.me = m ∧ inW d x.f x.t) : riseAt ps d m q j = pv x q - pv x 0 := by
  unfold riseAt; rw [h]; simp -implicitDefEqProofs only []; rw [if_pos hn]
theorem baseAt_off {ps : List PartX} {d : Int} {m j : Nat} {x : PartX} (h : ps[j]? = some x) (hn : ¬ (x.me = m ∧ inW d x.f x.t)) : baseAt ps d m j = 0 := by
  unfold baseAt; rw [h]; simp -implicitDefEqProofs only []; rw [if_neg hn]
theorem baseAt_on {ps : List PartX} {d : Int} {m j : Nat} {x : PartX} (h : ps[j]? = some x) (hn : x.me = m ∧ inW d x.f x.t) : baseAt ps d m j = pv x 0 := by
  unfold baseAt; rw [h]; simp -implicitDefEqProofs only []; rw [if_pos hn]
theorem qL_skip {c : CoreX} {d : Int} {m : Nat} {mx : Int} {j : Nat} {x : PartX} (h : c.ps[j]? = some x) (hn : ¬ (x.me = m ∧ inW d x.f x.t)) : qL c d m mx (j + 1) 0 = qL c d m mx j 0 := by
  unfold qL
  refine List.map_congr_left fun q hq => ?_
  rw [if_neg (Nat.not_lt_zero _), if_neg (Nat.not_lt_zero _), sg, riseAt_off h hn, Int.add_zero]
theorem rowI_set18 {l : List Int} {i : Nat} {x : Int} : (rowI l).set i [.int .i64 x] = rowI (l.set i x) := by simp [rowI, List.map_set]
structure DY where
  i : Nat
  c : Nat
  cap : Nat
theorem dy_i {i c cap : Nat} : (DY.mk i c cap).i = i := (rfl)
theorem dy_c {i c cap : Nat} : (DY.mk i c cap).c = c := (rfl)
theorem dy_cap {i c cap : Nat} : (DY.mk i c cap).cap = cap := (rfl)
abbrev spanB (d x : Int) (v : AV) : Blk := .box 41 [i64 d, i64 d, i64 x, v]
def dayB (b2 b4 b5 : Nat) (c : CoreX) (d : Int) (y : DY) : List (Nat × Blk) := rowH 59 2 y.c y.cap (rowC (dayLs c d y.i)) ++ [(b5, spanB d (fixS c d + sg (fixM c d) y.i) (rowV 2 2 y.c y.cap (rowC (dayLs c d y.i)))), (b2, coreB c), (b4, spanB 0 0 (.nilsl 2))]
/-- Within a meter: the row of its numbers ahead. -/
def dayD (b2 b4 b5 b10 : Nat) (c : CoreX) (d : Int) (y : DY) (mx : Int) (fx : Int) (j k : Nat) : List (Nat × Blk) := (b10, .row 3 1 (mx + 1).toNat (rowI (qL c d y.i mx j k))) :: (rowH 59 2 y.c y.cap (rowC (dayLs c d y.i)) ++ [(b5, spanB d fx (rowV 2 2 y.c y.cap (rowC (dayLs c d y.i)))), (b2, coreB c), (b4, spanB 0 0 (.nilsl 2))])
theorem RDay_ok {c : CoreX} {d : Int} (hc : c.Fit) (hf : fitsC c) (hd : Fit d) : DataW Try.prog f_poundageref18_Day [coreX c, i64 d] (segV ⟨d, d, dayV c d⟩) := by
  obtain ⟨_, _, _, a6, a7, a8⟩ := hf.good.hd
  have hps := hf.good.ps
  have hfp := hc.ps
  have hmxb := (fitsC.bnd hf.good).mx
  refine CallW_intro comp_poundageref18_Day (by simp) ?_
  simp -implicitDefEqProofs -proj only [go_sem, Nat.reduceBEq, Nat.reduceLT, Nat.reduceLeDiff, Nat.reduceAdd, Nat.reduceMul, ↓reduceIte, Int.reduceToNat, Int.reducePow, Int.reduceLT, Int.reduceLE, Int.reduceAdd, Int.reduceSub, Int.reduceMul, Int.reduceEq, Int.reduceNe]
  refine AllocA_intro (fun b2 hb2 => ?_)
  simp -implicitDefEqProofs -proj only [go_sem, Nat.reduceBEq, Nat.reduceLT, Nat.reduceLeDiff, Nat.reduceAdd, Nat.reduceMul, ↓reduceIte, Int.reduceToNat, Int.reducePow, Int.reduceLT, Int.reduceLE, Int.reduceAdd, Int.reduceSub, Int.reduceMul, Int.reduceEq, Int.reduceNe]
  refine AllocA_intro (fun b4 hb4 => ?_)
  replace hb4 : upd Heap.none b2 _ b4 = none := hb4
  obtain ⟨n1, n2⟩ := fresh_ne hb4 upd_eq
  simp -implicitDefEqProofs -proj only [go_sem, Nat.reduceBEq, Nat.reduceLT, Nat.reduceLeDiff, Nat.reduceAdd, Nat.reduceMul, ↓reduceIte, Int.reduceToNat, Int.reducePow, Int.reduceLT, Int.reduceLE, Int.reduceAdd, Int.reduceSub, Int.reduceMul, Int.reduceEq, Int.reduceNe, n1, n2]
  refine AllocA_intro (fun b5 hb5 => ?_)
  replace hb5 : upd (upd Heap.none b2 _) b4 _ b5 = none := hb5
  obtain ⟨n3, n4⟩ := fresh_ne hb5 upd_eq
  obtain ⟨n5, n6⟩ := fresh_ne hb5 (by rw [upd_ne n1]; exact upd_eq)
  simp -implicitDefEqProofs -proj only [go_sem, Nat.reduceBEq, Nat.reduceLT, Nat.reduceLeDiff, Nat.reduceAdd, Nat.reduceMul, ↓reduceIte, Int.reduceToNat, Int.reducePow, Int.reduceLT, Int.reduceLE, Int.reduceAdd, Int.reduceSub, Int.reduceMul, Int.reduceEq, Int.reduceNe, n1, n2, n3, n4, n5, n6, rowS_len]
  refine LoopA_k (fun i : Nat => i ≤ c.ss.length) 129 (fun i => [(1, i64 d), (2, .ptr b2 0), (4, .ptr b4 0), (5, .ptr b5 0), (24, .d (.sl 3 (rowS c.ss))), (25, i64 c.ss.length), (26, i64 i)]) (fun i => [(b5, spanB d (sg (sumAt c.ss d) i) (.nilsl 2)), (b2, coreB c), (b4, spanB 0 0 (.nilsl 2))]) (fun i => c.ss.length - i) 0 (Nat.zero_le _) rfl ?_ ?_ ?_
  · simp -implicitDefEqProofs -proj only [go_sem, Nat.reduceBEq, Nat.reduceLT, Nat.reduceLeDiff, Nat.reduceAdd, Nat.reduceMul, ↓reduceIte, Int.reduceToNat, Int.reducePow, Int.reduceLT, Int.reduceLE, Int.reduceAdd, Int.reduceSub, Int.reduceMul, Int.reduceEq, Int.reduceNe, AllAt, rowS_len]
  · refine ⟨upd_eq, ?_, ?_, trivial⟩
    · show upd (upd (upd Heap.none b2 _) b4 _) b5 _ b2 = _
      rw [upd_ne n5, upd_ne n1]; exact upd_eq
    · show upd (upd (upd Heap.none b2 _) b4 _) b5 _ b4 = _
      rw [upd_ne n3]; exact upd_eq
  · rintro i hi
    have hk : AllH (keepH [(b5, spanB d (sg (sumAt c.ss d) i) (.nilsl 2)), (b2, coreB c), (b4, spanB 0 0 (.nilsl 2))]) [(b5, spanB d (sg (sumAt c.ss d) i) (.nilsl 2)), (b2, coreB c), (b4, spanB 0 0 (.nilsl 2))] := keepH_all (by simp [keys, n1, n2, n3, n4, n5, n6])
    obtain ⟨k5, k2, k4, _⟩ := id hk
    have hb1 := fixS_bnd hf.good d hi
    by_cases h : i < c.ss.length
    · have hel := rowS_at h
      have hb2 := fixS_bnd hf.good d (show i + 1 ≤ c.ss.length by omega)
      have hstep : sg (sumAt c.ss d) (i + 1) = sg (sumAt c.ss d) i + (if inW d c.ss[i].f c.ss[i].t then c.ss[i].a else 0) := by
        rw [sg]; unfold sumAt; rw [List.getElem?_eq_getElem h]
      generalize c.ss[i] = s at *
      generalize hS : sg (sumAt c.ss d) i = S at *
      generalize hS2 : sg (sumAt c.ss d) (i + 1) = S2 at *
      simp -implicitDefEqProofs -proj only [go_sem, Nat.reduceBEq, Nat.reduceLT, Nat.reduceLeDiff, Nat.reduceAdd, Nat.reduceMul, ↓reduceIte, Int.reduceToNat, Int.reducePow, Int.reduceLT, Int.reduceLE, Int.reduceAdd, Int.reduceSub, Int.reduceMul, Int.reduceEq, Int.reduceNe, decide_eq_true (show (i : Int) < c.ss.length by omega)]
      refine ElemA_at _ (by omega) hel ?_
      simp -implicitDefEqProofs -proj only [go_sem, Nat.reduceBEq, Nat.reduceLT, Nat.reduceLeDiff, Nat.reduceAdd, Nat.reduceMul, ↓reduceIte, Int.reduceToNat, Int.reducePow, Int.reduceLT, Int.reduceLE, Int.reduceAdd, Int.reduceSub, Int.reduceMul, Int.reduceEq, Int.reduceNe]
      refine AllocA_intro (fun b7 hb7 => ?_)
      obtain ⟨m1, m2⟩ := fresh_ne hb7 k5
      obtain ⟨m3, m4⟩ := fresh_ne hb7 k2
      obtain ⟨m5, m6⟩ := fresh_ne hb7 k4
      by_cases p1 : s.f ≤ d
      · by_cases p2 : d ≤ s.t
        · rw [if_pos ⟨p1, p2⟩] at hstep
          have w : IntKind.i64.wrap (S + s.a) = S2 := by rw [IntKind.wrap_i64]; omega
          simp -implicitDefEqProofs -proj only [go_sem, Nat.reduceBEq, Nat.reduceLT, Nat.reduceLeDiff, Nat.reduceAdd, Nat.reduceMul, ↓reduceIte, Int.reduceToNat, Int.reducePow, Int.reduceLT, Int.reduceLE, Int.reduceAdd, Int.reduceSub, Int.reduceMul, Int.reduceEq, Int.reduceNe, m1, m2, m3, m4, m5, m6, k5, k2, k4, decide_eq_true p1, decide_eq_true p2, w]
          refine LoopQ_k (i + 1) (by omega) (by show c.ss.length - (i + 1) < c.ss.length - i; omega) rfl ?_ ?_
          · simp -implicitDefEqProofs -proj only [go_sem, Nat.reduceBEq, Nat.reduceLT, Nat.reduceLeDiff, Nat.reduceAdd, Nat.reduceMul, ↓reduceIte, Int.reduceToNat, Int.reducePow, Int.reduceLT, Int.reduceLE, Int.reduceAdd, Int.reduceSub, Int.reduceMul, Int.reduceEq, Int.reduceNe, AllAt, i64_succ (show i < 9223372036854775807 by omega)]
          · rw [hS2]
            exact ⟨upd_eq, (upd_ne n5).trans ((upd_ne m3).trans k2), (upd_ne n3).trans ((upd_ne m5).trans k4), trivial⟩
        · rw [if_neg (fun k => p2 k.2)] at hstep
          simp -implicitDefEqProofs -proj only [go_sem, Nat.reduceBEq, Nat.reduceLT, Nat.reduceLeDiff, Nat.reduceAdd, Nat.reduceMul, ↓reduceIte, Int.reduceToNat, Int.reducePow, Int.reduceLT, Int.reduceLE, Int.reduceAdd, Int.reduceSub, Int.reduceMul, Int.reduceEq, Int.reduceNe, m1, m2, m3, m4, m5, m6, k5, k2, k4, decide_eq_true p1, decide_eq_false p2]
          refine LoopQ_k (i + 1) (by omega) (by show c.ss.length - (i + 1) < c.ss.length - i; omega) rfl ?_ ?_
          · simp -implicitDefEqProofs -proj only [go_sem, Nat.reduceBEq, Nat.reduceLT, Nat.reduceLeDiff, Nat.reduceAdd, Nat.reduceMul, ↓reduceIte, Int.reduceToNat, Int.reducePow, Int.reduceLT, Int.reduceLE, Int.reduceAdd, Int.reduceSub, Int.reduceMul, Int.reduceEq, Int.reduceNe, AllAt, i64_succ (show i < 9223372036854775807 by omega)]
          · rw [hS2, hstep, Int.add_zero]; exact AllH_upd hb7 hk
      · rw [if_neg (fun k => p1 k.1)] at hstep
        simp -implicitDefEqProofs -proj only [go_sem, Nat.reduceBEq, Nat.reduceLT, Nat.reduceLeDiff, Nat.reduceAdd, Nat.reduceMul, ↓reduceIte, Int.reduceToNat, Int.reducePow, Int.reduceLT, Int.reduceLE, Int.reduceAdd, Int.reduceSub, Int.reduceMul, Int.reduceEq, Int.reduceNe, m1, m2, m3, m4, m5, m6, k5, k2, k4, decide_eq_false p1]
        refine LoopQ_k (i + 1) (by omega) (by show c.ss.length - (i + 1) < c.ss.length - i; omega) rfl ?_ ?_
        · simp -implicitDefEqProofs -proj only [go_sem, Nat.reduceBEq, Nat.reduceLT, Nat.reduceLeDiff, Nat.reduceAdd, Nat.reduceMul, ↓reduceIte, Int.reduceToNat, Int.reducePow, Int.reduceLT, Int.reduceLE, Int.reduceAdd, Int.reduceSub, Int.reduceMul, Int.reduceEq, Int.reduceNe, AllAt, i64_succ (show i < 9223372036854775807 by omega)]
        · rw [hS2, hstep, Int.add_zero]; exact AllH_upd hb7 hk
    · have hi' : i = c.ss.length := by omega
      subst hi'
      simp -implicitDefEqProofs -proj only [go_sem, Nat.reduceBEq, Nat.reduceLT, Nat.reduceLeDiff, Nat.reduceAdd, Nat.reduceMul, ↓reduceIte, Int.reduceToNat, Int.reducePow, Int.reduceLT, Int.reduceLE, Int.reduceAdd, Int.reduceSub, Int.reduceMul, Int.reduceEq, Int.reduceNe, k2, decide_eq_false (show ¬ (c.ss.length : Int) < c.ss.length by omega), rowM_len]
      refine LoopA_k (fun y : DY => y.i ≤ c.ms.length ∧ (keys (dayB b2 b4 b5 c d y)).Nodup) 129 (fun y => [(1, i64 d), (2, .ptr b2 0), (4, .ptr b4 0), (5, .ptr b5 0), (48, .d (.sl 5 (rowM c.ms))), (49, i64 c.ms.length), (50, i64 y.i)]) (dayB b2 b4 b5 c d) (fun y => c.ms.length - y.i) ⟨0, 0, 0⟩ ⟨Nat.zero_le _, by simp [keys, dayB, dayLs, rowC, rowH, n1, n2, n3, n4, n5, n6]⟩ rfl ?_ ?_ ?_
      · simp -implicitDefEqProofs -proj only [go_sem, Nat.reduceBEq, Nat.reduceLT, Nat.reduceLeDiff, Nat.reduceAdd, Nat.reduceMul, ↓reduceIte, Int.reduceToNat, Int.reducePow, Int.reduceLT, Int.reduceLE, Int.reduceAdd, Int.reduceSub, Int.reduceMul, Int.reduceEq, Int.reduceNe, AllAt, dy_i, rowM_len]
      · simp -implicitDefEqProofs only [dayB, dy_i, dayLs, List.range_zero, List.map_nil, rowC, rowH, rowV, sg, Int.add_zero, List.nil_append]
        exact ⟨k5, k2, k4, trivial⟩
      · rintro ⟨i, c1, cap⟩ ⟨hi, hn⟩
        simp -implicitDefEqProofs only [dy_i] at hi
        have hall := keepH_all hn
        obtain ⟨H, hH⟩ : ∃ H, keepH (dayB b2 b4 b5 c d ⟨i, c1, cap⟩) = H := ⟨_, rfl⟩
        rw [hH] at hall
        simp -implicitDefEqProofs only [dayB, dy_i, dy_c, dy_cap] at hall hn
        obtain ⟨hrow, k5, k2, k4, _⟩ := AllH_app.1 hall
        by_cases h : i < c.ms.length
        · have hel := rowM_at h
          have hb := hmxb i h
          have hsn := dayLs_snoc (c := c) (d := d) h
          have hlc := dayL_cur hf d h
          have hri := fun (q : Int) (h0 : 0 ≤ q) (hq : q ≤ c.ms[i].mx) (j : Nat) (hj : j ≤ c.ps.length) => rise_bnd hf d h h0 hq hj
          have hmxx : mxAt c.ms (i : Int) = c.ms[i].mx := mxAt_eq h
          generalize c.ms[i] = m at *
          have w1 : IntKind.i64.wrap (m.mx + 1) = (((m.mx + 1).toNat : Nat) : Int) := by rw [IntKind.wrap_i64]; omega
          simp -implicitDefEqProofs -proj only [go_sem, Nat.reduceBEq, Nat.reduceLT, Nat.reduceLeDiff, Nat.reduceAdd, Nat.reduceMul, ↓reduceIte, Int.reduceToNat, Int.reducePow, Int.reduceLT, Int.reduceLE, Int.reduceAdd, Int.reduceSub, Int.reduceMul, Int.reduceEq, Int.reduceNe, dy_i, dy_c, dy_cap, hH, decide_eq_true (show (i : Int) < c.ms.length by omega)]
          refine ElemA_at _ (by omega) hel ?_
          simp -implicitDefEqProofs -proj only [go_sem, Nat.reduceBEq, Nat.reduceLT, Nat.reduceLeDiff, Nat.reduceAdd, Nat.reduceMul, ↓reduceIte, Int.reduceToNat, Int.reducePow, Int.reduceLT, Int.reduceLE, Int.reduceAdd, Int.reduceSub, Int.reduceMul, Int.reduceEq, Int.reduceNe]
          refine AllocA_intro (fun b9 hb9 => ?_)
          replace hb9 : H b9 = none := hb9
          simp -implicitDefEqProofs -proj only [go_sem, Nat.reduceBEq, Nat.reduceLT, Nat.reduceLeDiff, Nat.reduceAdd, Nat.reduceMul, ↓reduceIte, Int.reduceToNat, Int.reducePow, Int.reduceLT, Int.reduceLE, Int.reduceAdd, Int.reduceSub, Int.reduceMul, Int.reduceEq, Int.reduceNe, w1]
          refine MakeA_1 (by omega) (by omega) (fun b10 hb10 => ?_)
          replace hb10 : upd H b9 _ b10 = none := hb10
          obtain ⟨e1, e2⟩ := fresh_ne hb10 upd_eq
          have hb10' : H b10 = none := by rw [upd_ne e2] at hb10; exact hb10
          have hall9 := AllH_upd (y := some (.box 54 [.d (.str m.nm), .d (.str m.un), i64 m.mx, i64 m.ln, i64 m.co])) hb9 hall
          have hall10 := alloc_all (x := .row 3 1 (m.mx + 1).toNat (rowI (qL c d i m.mx 0 0))) hb10 hall9
          have hn10 := alloc_keys (x := .row 3 1 (m.mx + 1).toNat (rowI (qL c d i m.mx 0 0))) hb10 hall9 hn
          have hfm0 : sg (fixM c d) (i + 1) = sg (fixM c d) i + sg (baseAt c.ps d i) c.ps.length := by rw [sg]; rfl
          have hrep : List.replicate (m.mx + 1).toNat [D.int .i64 0] = rowI (qL c d i m.mx 0 0) := by rw [qL_zero]; simp [rowI]
          obtain ⟨H10, hH10⟩ : ∃ H10, upd (upd H b9 (some (.box 54 [.d (.str m.nm), .d (.str m.un), i64 m.mx, i64 m.ln, i64 m.co]))) b10 (some (.row 3 1 (m.mx + 1).toNat (rowI (qL c d i m.mx 0 0)))) = H10 := ⟨_, rfl⟩
          rw [hH10] at hall10
          obtain ⟨u10, u5, u2, u4, _⟩ := (⟨hall10.1, (AllH_app.1 hall10.2).2⟩ : _ ∧ _)
          simp -implicitDefEqProofs -proj only [go_sem, Nat.reduceBEq, Nat.reduceLT, Nat.reduceLeDiff, Nat.reduceAdd, Nat.reduceMul, ↓reduceIte, Int.reduceToNat, Int.reducePow, Int.reduceLT, Int.reduceLE, Int.reduceAdd, Int.reduceSub, Int.reduceMul, Int.reduceEq, Int.reduceNe, hrep, hH10, u2, rowP_len]
          refine LoopA_k (fun j : Nat => j ≤ c.ps.length ∧ (keys (dayD b2 b4 b5 b10 c d ⟨i, c1, cap⟩ m.mx (fixS c d + sg (fixM c d) i + sg (baseAt c.ps d i) j) j 0)).Nodup) 129 (fun j => [(1, i64 d), (2, .ptr b2 0), (4, .ptr b4 0), (5, .ptr b5 0), (48, .d (.sl 5 (rowM c.ms))), (49, i64 c.ms.length), (50, i64 i), (8, i64 i), (10, .own b10 1 0 (m.mx + 1).toNat (m.mx + 1).toNat), (60, .d (.sl 9 (rowP c.ps))), (61, i64 c.ps.length), (62, i64 j)]) (fun j => dayD b2 b4 b5 b10 c d ⟨i, c1, cap⟩ m.mx (fixS c d + sg (fixM c d) i + sg (baseAt c.ps d i) j) j 0) (fun j => c.ps.length - j) 0 ⟨Nat.zero_le _, ?_⟩ rfl ?_ ?_ ?_
          · simpa only [dayD, dy_i, dy_c, dy_cap, keys, List.map_cons, List.map_append] using hn10
          · simp -implicitDefEqProofs -proj only [go_sem, Nat.reduceBEq, Nat.reduceLT, Nat.reduceLeDiff, Nat.reduceAdd, Nat.reduceMul, ↓reduceIte, Int.reduceToNat, Int.reducePow, Int.reduceLT, Int.reduceLE, Int.reduceAdd, Int.reduceSub, Int.reduceMul, Int.reduceEq, Int.reduceNe, AllAt, rowP_len]
          · simpa only [dayD, dy_i, dy_c, dy_cap, sg, Int.add_zero] using hall10
          · rintro j ⟨hj, hnj⟩
            have hallj := keepH_all hnj
            generalize hHj : keepH (dayD b2 b4 b5 b10 c d ⟨i, c1, cap⟩ m.mx (fixS c d + sg (fixM c d) i + sg (baseAt c.ps d i) j) j 0) = Hj at *
            simp -implicitDefEqProofs only [dayD, dy_i, dy_c, dy_cap] at hallj hnj
            obtain ⟨v10, hr⟩ := id hallj
            obtain ⟨vrow, v5, v2, v4, _⟩ := AllH_app.1 hr
            have hfb := fixMs_bnd hf d i
            have hfS : 0 ≤ fixS c d ∧ fixS c d ≤ 1000000000000 * c.ss.length := fixS_bnd hf.good d (Nat.le_refl c.ss.length)
            have hbj := fixM_bnd hf d i hj
            by_cases h' : j < c.ps.length
            · have helj := rowP_at h'
              have hx := List.getElem_mem h'
              have hok := hps _ hx
              have hfx := hfp _ hx
              have hgx : c.ps[j]? = some c.ps[j] := List.getElem?_eq_getElem h'
              have hpb := fun (q : Int) (h0 : 0 ≤ q) (hq : q ≤ mxAt c.ms c.ps[j].me) => part_bnd hf hx h0 hq
              have hbj2 := fixM_bnd hf d i (show j + 1 ≤ c.ps.length by omega)
              have hsb : sg (baseAt c.ps d i) (j + 1) = sg (baseAt c.ps d i) j + baseAt c.ps d i j := by rw [sg]
              generalize c.ps[j] = x at *
              simp -implicitDefEqProofs -proj only [go_sem, Nat.reduceBEq, Nat.reduceLT, Nat.reduceLeDiff, Nat.reduceAdd, Nat.reduceMul, ↓reduceIte, Int.reduceToNat, Int.reducePow, Int.reduceLT, Int.reduceLE, Int.reduceAdd, Int.reduceSub, Int.reduceMul, Int.reduceEq, Int.reduceNe, decide_eq_true (show (j : Int) < c.ps.length by omega)]
              refine ElemA_at _ (by omega) helj ?_
              simp -implicitDefEqProofs -proj only [go_sem, Nat.reduceBEq, Nat.reduceLT, Nat.reduceLeDiff, Nat.reduceAdd, Nat.reduceMul, ↓reduceIte, Int.reduceToNat, Int.reducePow, Int.reduceLT, Int.reduceLE, Int.reduceAdd, Int.reduceSub, Int.reduceMul, Int.reduceEq, Int.reduceNe]
              refine AllocA_intro (fun b12 hb12 => ?_)
              replace hb12 : Hj b12 = none := hb12
              by_cases hon : x.me = (i : Int) ∧ inW d x.f x.t
              rotate_left
              · have hqs := qL_skip (mx := m.mx) hgx hon
                have hb0 := baseAt_off hgx hon
                rw [hb0, Int.add_zero] at hsb
                have hfin : AllH (upd Hj b12 (some (.box 51 [i64 x.me, i64 x.f, i64 x.t, i64 x.al, i64 x.bl, i64 x.ki, slT x.ts, i64 x.mo, slA x.ad]))) (dayD b2 b4 b5 b10 c d ⟨i, c1, cap⟩ m.mx (fixS c d + sg (fixM c d) i + sg (baseAt c.ps d i) (j + 1)) (j + 1) 0) := by
                  simp -implicitDefEqProofs only [dayD, dy_i, dy_c, dy_cap, hqs, hsb]
                  exact AllH_upd hb12 hallj
                have hnj1 : (keys (dayD b2 b4 b5 b10 c d ⟨i, c1, cap⟩ m.mx (fixS c d + sg (fixM c d) i + sg (baseAt c.ps d i) (j + 1)) (j + 1) 0)).Nodup := by
                  simpa only [dayD, dy_i, dy_c, dy_cap, keys, List.map_cons, List.map_append] using hnj
                by_cases c1' : x.me = (i : Int)
                · by_cases c2 : d < x.f
                  · simp -implicitDefEqProofs -proj only [go_sem, Nat.reduceBEq, Nat.reduceLT, Nat.reduceLeDiff, Nat.reduceAdd, Nat.reduceMul, ↓reduceIte, Int.reduceToNat, Int.reducePow, Int.reduceLT, Int.reduceLE, Int.reduceAdd, Int.reduceSub, Int.reduceMul, Int.reduceEq, Int.reduceNe, decide_eq_true c1', Bool.not_true, decide_eq_true c2]
                    refine LoopQ_k (j + 1) ⟨by omega, hnj1⟩ (by show c.ps.length - (j + 1) < c.ps.length - j; omega) rfl ?_ hfin
                    simp -implicitDefEqProofs -proj only [go_sem, Nat.reduceBEq, Nat.reduceLT, Nat.reduceLeDiff, Nat.reduceAdd, Nat.reduceMul, ↓reduceIte, Int.reduceToNat, Int.reducePow, Int.reduceLT, Int.reduceLE, Int.reduceAdd, Int.reduceSub, Int.reduceMul, Int.reduceEq, Int.reduceNe, AllAt, i64_succ (show j < 9223372036854775807 by omega)]
                  · have c3 : x.t < d := by unfold inW at hon; omega
                    simp -implicitDefEqProofs -proj only [go_sem, Nat.reduceBEq, Nat.reduceLT, Nat.reduceLeDiff, Nat.reduceAdd, Nat.reduceMul, ↓reduceIte, Int.reduceToNat, Int.reducePow, Int.reduceLT, Int.reduceLE, Int.reduceAdd, Int.reduceSub, Int.reduceMul, Int.reduceEq, Int.reduceNe, decide_eq_true c1', Bool.not_true, decide_eq_false c2, decide_eq_true c3]
                    refine LoopQ_k (j + 1) ⟨by omega, hnj1⟩ (by show c.ps.length - (j + 1) < c.ps.length - j; omega) rfl ?_ hfin
                    simp -implicitDefEqProofs -proj only [go_sem, Nat.reduceBEq, Nat.reduceLT, Nat.reduceLeDiff, Nat.reduceAdd, Nat.reduceMul, ↓reduceIte, Int.reduceToNat, Int.reducePow, Int.reduceLT, Int.reduceLE, Int.reduceAdd, Int.reduceSub, Int.reduceMul, Int.reduceEq, Int.reduceNe, AllAt, i64_succ (show j < 9223372036854775807 by omega)]
                · simp -implicitDefEqProofs -proj only [go_sem, Nat.reduceBEq, Nat.reduceLT, Nat.reduceLeDiff, Nat.reduceAdd, Nat.reduceMul, ↓reduceIte, Int.reduceToNat, Int.reducePow, Int.reduceLT, Int.reduceLE, Int.reduceAdd, Int.reduceSub, Int.reduceMul, Int.reduceEq, Int.reduceNe, decide_eq_false c1', Bool.not_false]
                  refine LoopQ_k (j + 1) ⟨by omega, hnj1⟩ (by show c.ps.length - (j + 1) < c.ps.length - j; omega) rfl ?_ hfin
                  simp -implicitDefEqProofs -proj only [go_sem, Nat.reduceBEq, Nat.reduceLT, Nat.reduceLeDiff, Nat.reduceAdd, Nat.reduceMul, ↓reduceIte, Int.reduceToNat, Int.reducePow, Int.reduceLT, Int.reduceLE, Int.reduceAdd, Int.reduceSub, Int.reduceMul, Int.reduceEq, Int.reduceNe, AllAt, i64_succ (show j < 9223372036854775807 by omega)]
              obtain ⟨c1', c2', c3'⟩ := id hon
              have hb0 := baseAt_on hgx hon
              have hmx0 : mxAt c.ms x.me = m.mx := by rw [c1']; exact hmxx
              have G := goodX_of hok
              have hp0 := hpb 0 (Int.le_refl 0) (by omega)
              have hcall0 := RPPart_ok (q := 0) hfx (by decide) G (srt_of G.ts)
              rw [hp0.1, optR] at hcall0
              simp -implicitDefEqProofs -proj only [go_sem, Nat.reduceBEq, Nat.reduceLT, Nat.reduceLeDiff, Nat.reduceAdd, Nat.reduceMul, ↓reduceIte, Int.reduceToNat, Int.reducePow, Int.reduceLT, Int.reduceLE, Int.reduceAdd, Int.reduceSub, Int.reduceMul, Int.reduceEq, Int.reduceNe, decide_eq_true c1', Bool.not_true, decide_eq_false (show ¬ d < x.f by omega), decide_eq_false (show ¬ x.t < d by omega)]
              refine CallA_pure hcall0 ?_
              obtain ⟨x1, x2⟩ := fresh_ne hb12 v5
              obtain ⟨x3, x4⟩ := fresh_ne hb12 v10
              have w2 : IntKind.i64.wrap (fixS c d + sg (fixM c d) i + sg (baseAt c.ps d i) j + pv x 0) = fixS c d + sg (fixM c d) i + sg (baseAt c.ps d i) (j + 1) := by rw [IntKind.wrap_i64]; omega
              have hnd2 : (keys ((b12, Blk.box 51 [i64 x.me, i64 x.f, i64 x.t, i64 x.al, i64 x.bl, i64 x.ki, slT x.ts, i64 x.mo, slA x.ad]) :: dayD b2 b4 b5 b10 c d ⟨i, c1, cap⟩ m.mx (fixS c d + sg (fixM c d) i + sg (baseAt c.ps d i) (j + 1)) j 0)).Nodup := by
                have := alloc_keys (x := Blk.box 51 [i64 x.me, i64 x.f, i64 x.t, i64 x.al, i64 x.bl, i64 x.ki, slT x.ts, i64 x.mo, slA x.ad]) hb12 hallj hnj
                simpa only [dayD, dy_i, dy_c, dy_cap, keys, List.map_cons, List.map_append] using this
              simp -implicitDefEqProofs -proj only [go_sem, Nat.reduceBEq, Nat.reduceLT, Nat.reduceLeDiff, Nat.reduceAdd, Nat.reduceMul, ↓reduceIte, Int.reduceToNat, Int.reducePow, Int.reduceLT, Int.reduceLE, Int.reduceAdd, Int.reduceSub, Int.reduceMul, Int.reduceEq, Int.reduceNe, v5, x1, x2, w2]
              refine LoopA_k (fun k : Nat => k ≤ (m.mx + 1).toNat) 129 (fun k => [(1, i64 d), (2, .ptr b2 0), (4, .ptr b4 0), (5, .ptr b5 0), (48, .d (.sl 5 (rowM c.ms))), (49, i64 c.ms.length), (50, i64 i), (8, i64 i), (10, .own b10 1 0 (m.mx + 1).toNat (m.mx + 1).toNat), (60, .d (.sl 9 (rowP c.ps))), (61, i64 c.ps.length), (62, i64 j), (12, .ptr b12 0), (13, i64 (pv x 0)), (93, i64 (m.mx + 1).toNat), (94, i64 k)]) (fun k => (b12, Blk.box 51 [i64 x.me, i64 x.f, i64 x.t, i64 x.al, i64 x.bl, i64 x.ki, slT x.ts, i64 x.mo, slA x.ad]) :: dayD b2 b4 b5 b10 c d ⟨i, c1, cap⟩ m.mx (fixS c d + sg (fixM c d) i + sg (baseAt c.ps d i) (j + 1)) j k) (fun k => (m.mx + 1).toNat - k) 0 (Nat.zero_le _) rfl ?_ ?_ ?_
              · simp -implicitDefEqProofs -proj only [go_sem, Nat.reduceBEq, Nat.reduceLT, Nat.reduceLeDiff, Nat.reduceAdd, Nat.reduceMul, ↓reduceIte, Int.reduceToNat, Int.reducePow, Int.reduceLT, Int.reduceLE, Int.reduceAdd, Int.reduceSub, Int.reduceMul, Int.reduceEq, Int.reduceNe, AllAt]
              · simp -implicitDefEqProofs only [dayD, dy_i, dy_c, dy_cap]
                have hnr : b5 ∉ keys [(b2, coreB c), (b4, spanB 0 0 (.nilsl 2))] := by simp [keys, n3, n5]
                have hnrow : b5 ∉ keys (rowH 59 2 c1 cap (rowC (dayLs c d i))) := by
                  have h1 := (List.nodup_cons.1 hnj).2
                  simp -implicitDefEqProofs only [keys, List.map_append, List.map_cons] at h1
                  exact fun hm => (List.nodup_append.1 h1).2.2 _ hm _ (List.mem_cons_self ..) rfl
                have hn10 : ¬ b5 = b10 := fun e => (List.nodup_cons.1 hnj).1 (by rw [← e]; simp [keys])
                refine ⟨(upd_ne x2).trans upd_eq, (upd_ne hn10).trans ((upd_ne x3).trans v10), AllH_app.2 ⟨drop_all (AllH_upd hb12 vrow) hnrow, upd_eq, drop_all (AllH_upd hb12 ⟨v2, v4, trivial⟩) hnr⟩⟩
              · rintro k hk
                have hndk : (keys ((b12, Blk.box 51 [i64 x.me, i64 x.f, i64 x.t, i64 x.al, i64 x.bl, i64 x.ki, slT x.ts, i64 x.mo, slA x.ad]) :: dayD b2 b4 b5 b10 c d ⟨i, c1, cap⟩ m.mx (fixS c d + sg (fixM c d) i + sg (baseAt c.ps d i) (j + 1)) j k)).Nodup := by
                  simpa only [dayD, dy_i, dy_c, dy_cap, keys, List.map_cons, List.map_append] using hnd2
                have hallk := keepH_all hndk
                generalize hHk : keepH ((b12, Blk.box 51 [i64 x.me, i64 x.f, i64 x.t, i64 x.al, i64 x.bl, i64 x.ki, slT x.ts, i64 x.mo, slA x.ad]) :: dayD b2 b4 b5 b10 c d ⟨i, c1, cap⟩ m.mx (fixS c d + sg (fixM c d) i + sg (baseAt c.ps d i) (j + 1)) j k) = Hk at *
                simp -implicitDefEqProofs only [dayD, dy_i, dy_c, dy_cap] at hallk
                obtain ⟨y12, y10, yr⟩ := id hallk
                by_cases h'' : k < (m.mx + 1).toNat
                · have hpk := hpb k (by omega) (by omega)
                  have hcallk := RPPart_ok (q := (k : Int)) hfx (by unfold Fit; omega) G (srt_of G.ts)
                  rw [hpk.1, optR] at hcallk
                  have hrj := hri k (by omega) (by omega) j (by omega)
                  have hrj2 := hri k (by omega) (by omega) (j + 1) (by omega)
                  have hrs : sg (riseAt c.ps d i k) (j + 1) = sg (riseAt c.ps d i k) j + (pv x k - pv x 0) := by rw [sg, riseAt_on hgx hon]
                  have hge := rowI_at (qL_at (c := c) (d := d) (m := i) (mx := m.mx) (j := j) h'')
                  have hset : (rowI (qL c d i m.mx j k)).set k [.int .i64 (sg (riseAt c.ps d i k) (j + 1))] = rowI (qL c d i m.mx j (k + 1)) := by rw [rowI_set18, qL_set h'']
                  have w3 : IntKind.i64.wrap (IntKind.i64.wrap (sg (riseAt c.ps d i k) j + pv x k) - pv x 0) = sg (riseAt c.ps d i k) (j + 1) := by
                    rw [IntKind.wrap_i64 (sg _ _ + _), IntKind.wrap_i64]; omega
                  simp -implicitDefEqProofs -proj only [go_sem, Nat.reduceBEq, Nat.reduceLT, Nat.reduceLeDiff, Nat.reduceAdd, Nat.reduceMul, ↓reduceIte, Int.reduceToNat, Int.reducePow, Int.reduceLT, Int.reduceLE, Int.reduceAdd, Int.reduceSub, Int.reduceMul, Int.reduceEq, Int.reduceNe, y12, decide_eq_true (show (k : Int) < (((m.mx + 1).toNat : Nat) : Int) by omega)]
                  refine CallA_pure hcallk ?_
                  simp -implicitDefEqProofs -proj only [go_sem, Nat.reduceBEq, Nat.reduceLT, Nat.reduceLeDiff, Nat.reduceAdd, Nat.reduceMul, ↓reduceIte, Int.reduceToNat, Int.reducePow, Int.reduceLT, Int.reduceLE, Int.reduceAdd, Int.reduceSub, Int.reduceMul, Int.reduceEq, Int.reduceNe, Int.toNat_natCast, y12, y10]
                  refine VC_intro ⟨by omega, by omega⟩ (fun _ => ?_)
                  refine IdxE_1 _ hge (by simp) ?_
                  simp -implicitDefEqProofs -proj only [go_sem, Nat.reduceBEq, Nat.reduceLT, Nat.reduceLeDiff, Nat.reduceAdd, Nat.reduceMul, ↓reduceIte, Int.reduceToNat, Int.reducePow, Int.reduceLT, Int.reduceLE, Int.reduceAdd, Int.reduceSub, Int.reduceMul, Int.reduceEq, Int.reduceNe, Int.toNat_natCast, y12, y10, w3]
                  refine VC_intro ⟨by omega, by omega⟩ (fun _ => ?_)
                  refine StoreE_1 y10 hge (by simp) ?_
                  simp -implicitDefEqProofs -proj only [go_sem, Nat.reduceBEq, Nat.reduceLT, Nat.reduceLeDiff, Nat.reduceAdd, Nat.reduceMul, ↓reduceIte, Int.reduceToNat, Int.reducePow, Int.reduceLT, Int.reduceLE, Int.reduceAdd, Int.reduceSub, Int.reduceMul, Int.reduceEq, Int.reduceNe, setSegD, hset]
                  have hne12 : ¬ b10 = b12 := x4
                  have hnr : b10 ∉ keys (rowH 59 2 c1 cap (rowC (dayLs c d i)) ++ [(b5, spanB d (fixS c d + sg (fixM c d) i + sg (baseAt c.ps d i) (j + 1)) (rowV 2 2 c1 cap (rowC (dayLs c d i)))), (b2, coreB c), (b4, spanB 0 0 (.nilsl 2))]) := by
                    have := (List.nodup_cons.1 (List.nodup_cons.1 hndk).2).1
                    simpa only [dayD, dy_i, dy_c, dy_cap, keys, List.map_cons, List.map_append] using this
                  refine LoopQ_k (k + 1) (by omega) (by show (m.mx + 1).toNat - (k + 1) < (m.mx + 1).toNat - k; omega) rfl ?_ ?_
                  · simp -implicitDefEqProofs -proj only [go_sem, Nat.reduceBEq, Nat.reduceLT, Nat.reduceLeDiff, Nat.reduceAdd, Nat.reduceMul, ↓reduceIte, Int.reduceToNat, Int.reducePow, Int.reduceLT, Int.reduceLE, Int.reduceAdd, Int.reduceSub, Int.reduceMul, Int.reduceEq, Int.reduceNe, AllAt, i64_succ (show k < 9223372036854775807 by omega)]
                  · simp -implicitDefEqProofs only [dayD, dy_i, dy_c, dy_cap]
                    exact ⟨(upd_ne hne12).trans y12, upd_eq, drop_all yr hnr⟩
                · have hk' : k = (m.mx + 1).toNat := by omega
                  subst hk'
                  simp -implicitDefEqProofs -proj only [go_sem, Nat.reduceBEq, Nat.reduceLT, Nat.reduceLeDiff, Nat.reduceAdd, Nat.reduceMul, ↓reduceIte, Int.reduceToNat, Int.reducePow, Int.reduceLT, Int.reduceLE, Int.reduceAdd, Int.reduceSub, Int.reduceMul, Int.reduceEq, Int.reduceNe, decide_eq_false (show ¬ (((m.mx + 1).toNat : Nat) : Int) < (((m.mx + 1).toNat : Nat) : Int) by omega)]
                  rw [qL_next] at y10
                  refine LoopQ_k (j + 1) ⟨by omega, ?_⟩ (by show c.ps.length - (j + 1) < c.ps.length - j; omega) rfl ?_ ?_
                  · have := (List.nodup_cons.1 hnd2).2
                    simpa only [dayD, dy_i, dy_c, dy_cap, keys, List.map_cons, List.map_append] using this
                  · simp -implicitDefEqProofs -proj only [go_sem, Nat.reduceBEq, Nat.reduceLT, Nat.reduceLeDiff, Nat.reduceAdd, Nat.reduceMul, ↓reduceIte, Int.reduceToNat, Int.reducePow, Int.reduceLT, Int.reduceLE, Int.reduceAdd, Int.reduceSub, Int.reduceMul, Int.reduceEq, Int.reduceNe, AllAt, i64_succ (show j < 9223372036854775807 by omega)]
                  · simp -implicitDefEqProofs only [dayD, dy_i, dy_c, dy_cap]
                    exact ⟨y10, yr⟩
            · have hj' : j = c.ps.length := by omega
              subst hj'
              rw [qL_end] at v10
              have hfl : AllFit (dayL c d i m.mx) := fun q hq => by
                have := hlc.2.2 _ (List.getElem_mem hq)
                unfold smallV at this
                unfold Fit; omega
              have hof := ROf_new hfl (by rw [dayL_len]; omega)
              rw [if_pos hlc] at hof
              simp -implicitDefEqProofs -proj only [go_sem, Nat.reduceBEq, Nat.reduceLT, Nat.reduceLeDiff, Nat.reduceAdd, Nat.reduceMul, ↓reduceIte, Int.reduceToNat, Int.reducePow, Int.reduceLT, Int.reduceLE, Int.reduceAdd, Int.reduceSub, Int.reduceMul, Int.reduceEq, Int.reduceNe, decide_eq_false (show ¬ (c.ps.length : Int) < c.ps.length by omega)]
              refine CallA_new hof (lend_cons (lend_own v10 (by rw [rowI_len, dayL_len])) lend_nil) ?_
              simp -implicitDefEqProofs -proj only [go_sem, Nat.reduceBEq, Nat.reduceLT, Nat.reduceLeDiff, Nat.reduceAdd, Nat.reduceMul, ↓reduceIte, Int.reduceToNat, Int.reducePow, Int.reduceLT, Int.reduceLE, Int.reduceAdd, Int.reduceSub, Int.reduceMul, Int.reduceEq, Int.reduceNe]
              refine AllocA_intro (fun b18 hb18 => ?_)
              replace hb18 : Hj b18 = none := hb18
              obtain ⟨z1, z2⟩ := fresh_ne hb18 v5
              simp -implicitDefEqProofs -proj only [go_sem, Nat.reduceBEq, Nat.reduceLT, Nat.reduceLeDiff, Nat.reduceAdd, Nat.reduceMul, ↓reduceIte, Int.reduceToNat, Int.reducePow, Int.reduceLT, Int.reduceLE, Int.reduceAdd, Int.reduceSub, Int.reduceMul, Int.reduceEq, Int.reduceNe, v5, z1, z2]
              refine AllocR_intro (fun bs hs => ?_)
              have hs' : upd Hj b18 _ bs = none := hs
              obtain ⟨hall', hn'⟩ : AllH Hj (rowH 59 2 c1 cap (rowC (dayLs c d i)) ++ [(b5, spanB d (fixS c d + sg (fixM c d) i + sg (baseAt c.ps d i) c.ps.length) (rowV 2 2 c1 cap (rowC (dayLs c d i)))), (b2, coreB c), (b4, spanB 0 0 (.nilsl 2))]) ∧ (keys (rowH 59 2 c1 cap (rowC (dayLs c d i)) ++ [(b5, spanB d (fixS c d + sg (fixM c d) i + sg (baseAt c.ps d i) c.ps.length) (rowV 2 2 c1 cap (rowC (dayLs c d i)))), (b2, coreB c), (b4, spanB 0 0 (.nilsl 2))])).Nodup := ⟨hr, (List.nodup_cons.1 hnj).2⟩
              obtain ⟨q1, q2⟩ := fresh_ne hs' (by rw [upd_ne z1]; exact v5)
              simp -implicitDefEqProofs -proj only [go_sem, Nat.reduceBEq, Nat.reduceLT, Nat.reduceLeDiff, Nat.reduceAdd, Nat.reduceMul, ↓reduceIte, Int.reduceToNat, Int.reducePow, Int.reduceLT, Int.reduceLE, Int.reduceAdd, Int.reduceSub, Int.reduceMul, Int.reduceEq, Int.reduceNe, q1, q2, z1, z2]
              refine AppendA_grow (xs := rowC (dayLs c d i)) (y := [.int .i64 (((dayL c d i m.mx).length : Int) - 1), .sl 5 (rowG (gps (dayL c d i m.mx)))]) (t := 59) (capc := 1) [(b5, spanB d (fixS c d + sg (fixM c d) i + sg (baseAt c.ps d i) c.ps.length) (rowV 2 2 c1 cap (rowC (dayLs c d i)))), (b2, coreB c), (b4, spanB 0 0 (.nilsl 2))] rfl (AllH_upd hs' (AllH_upd hb18 hall')) hn' (by simp -implicitDefEqProofs -proj only [go_sem, Nat.reduceBEq, Nat.reduceLT, Nat.reduceLeDiff, Nat.reduceAdd, Nat.reduceMul, ↓reduceIte, Int.reduceToNat, Int.reducePow, Int.reduceLT, Int.reduceLE, Int.reduceAdd, Int.reduceSub, Int.reduceMul, Int.reduceEq, Int.reduceNe]; try rfl) (by rw [rowC_len, dayLs_len]; omega) (by rw [rowC_len, dayLs_len]; omega) (fun H' c2 cap2 ha hk => ?_)
              rw [rowC_snoc, ← hsn] at ha hk
              obtain ⟨hrow2, g5, g2, g4, _⟩ := AllH_app.1 ha
              have hne : rowC (dayLs c d (i + 1)) ≠ [] := by rw [hsn]; simp [rowC]
              have hl1 : (rowC (dayLs c d (i + 1))).length = i + 1 := by rw [rowC_len, dayLs_len]
              have hfx1 : fixS c d + sg (fixM c d) i + sg (baseAt c.ps d i) c.ps.length = fixS c d + sg (fixM c d) (i + 1) := by rw [hfm0]; omega
              rw [hfx1] at g5
              simp -implicitDefEqProofs -proj only [go_sem, Nat.reduceBEq, Nat.reduceLT, Nat.reduceLeDiff, Nat.reduceAdd, Nat.reduceMul, ↓reduceIte, Int.reduceToNat, Int.reducePow, Int.reduceLT, Int.reduceLE, Int.reduceAdd, Int.reduceSub, Int.reduceMul, Int.reduceEq, Int.reduceNe, g5, rowC_len, dayLs_len]
              have hk2 : (keys (dayB b2 b4 b5 c d ⟨i + 1, c2, cap2⟩)).Nodup := by simpa only [dayB, dy_i, dy_c, dy_cap, keys, List.map_cons, List.map_append] using hk
              have hk5 : b5 ∉ keys (rowH 59 2 c2 cap2 (rowC (dayLs c d (i + 1)))) := by
                simp -implicitDefEqProofs only [keys, List.map_append, List.map_cons] at hk
                exact fun hm => (List.nodup_append.1 hk).2.2 _ hm _ (List.mem_cons_self ..) rfl
              refine LoopQ_k ⟨i + 1, c2, cap2⟩ ⟨by rw [dy_i]; omega, hk2⟩ (by show c.ms.length - (i + 1) < c.ms.length - i; omega) rfl ?_ ?_
              · simp -implicitDefEqProofs -proj only [go_sem, Nat.reduceBEq, Nat.reduceLT, Nat.reduceLeDiff, Nat.reduceAdd, Nat.reduceMul, ↓reduceIte, Int.reduceToNat, Int.reducePow, Int.reduceLT, Int.reduceLE, Int.reduceAdd, Int.reduceSub, Int.reduceMul, Int.reduceEq, Int.reduceNe, AllAt, dy_i, i64_succ (show i < 9223372036854775807 by omega)]
              · simp -implicitDefEqProofs only [dayB, dy_i, dy_c, dy_cap, rowV_ne hne, hl1]
                exact AllH_app.2 ⟨drop_all hrow2 hk5, upd_eq, (upd_ne n5).trans g2, (upd_ne n3).trans g4, trivial⟩
        · have hi' : i = c.ms.length := by omega
          subst hi'
          simp -implicitDefEqProofs -proj only [go_sem, Nat.reduceBEq, Nat.reduceLT, Nat.reduceLeDiff, Nat.reduceAdd, Nat.reduceMul, ↓reduceIte, Int.reduceToNat, Int.reducePow, Int.reduceLT, Int.reduceLE, Int.reduceAdd, Int.reduceSub, Int.reduceMul, Int.reduceEq, Int.reduceNe, dy_i, dy_c, dy_cap, hH, k5, k4, decide_eq_false (show ¬ (c.ms.length : Int) < c.ms.length by omega)]
          exact lend_span (rowV_lend (drop_all hrow (by
            have := hn
            simp -implicitDefEqProofs only [keys, List.map_append, List.map_cons] at this
            exact fun hm => (List.nodup_append.1 this).2.2 _ hm _ (by simp) rfl)))
theorem alike_lists {a b : List (List Int)} (hl : a.length = b.length) (h : ∀ (i : Nat) (h1 : i < a.length) (h2 : i < b.length), a[i] = b[i]) : a = b := List.ext_getElem hl h
theorem RAlike_ok {a b : Seg DayV} (ha : ∀ l ∈ a.v.2, CurL l) (hb : ∀ l ∈ b.v.2, CurL l) (hla : a.v.2.length ≤ 1000000) (hlb : b.v.2.length ≤ 1000000) : DataW Try.prog f_poundageref18_Alike [segV a, segV b] (bv (decide (a.v = b.v))) := by
  obtain ⟨af, at', x, A⟩ := a
  obtain ⟨bf, bt', y, B⟩ := b
  simp -implicitDefEqProofs only [] at ha hb hla hlb
  refine CallW_intro comp_poundageref18_Alike (by simp) ?_
  simp -implicitDefEqProofs -proj only [go_sem, Nat.reduceBEq, Nat.reduceLT, Nat.reduceLeDiff, Nat.reduceAdd, Nat.reduceMul, ↓reduceIte, Int.reduceToNat, Int.reducePow, Int.reduceLT, Int.reduceLE, Int.reduceAdd, Int.reduceSub, Int.reduceMul, Int.reduceEq, Int.reduceNe]
  refine AllocA_intro (fun b2 hb2 => ?_)
  simp -implicitDefEqProofs -proj only [go_sem, Nat.reduceBEq, Nat.reduceLT, Nat.reduceLeDiff, Nat.reduceAdd, Nat.reduceMul, ↓reduceIte, Int.reduceToNat, Int.reducePow, Int.reduceLT, Int.reduceLE, Int.reduceAdd, Int.reduceSub, Int.reduceMul, Int.reduceEq, Int.reduceNe]
  refine AllocA_intro (fun b3 hb3 => ?_)
  replace hb3 : upd Heap.none b2 _ b3 = none := hb3
  obtain ⟨n1, n2⟩ := fresh_ne hb3 upd_eq
  by_cases g1 : x = y
  rotate_left
  · simp -implicitDefEqProofs -proj only [go_sem, Nat.reduceBEq, Nat.reduceLT, Nat.reduceLeDiff, Nat.reduceAdd, Nat.reduceMul, ↓reduceIte, Int.reduceToNat, Int.reducePow, Int.reduceLT, Int.reduceLE, Int.reduceAdd, Int.reduceSub, Int.reduceMul, Int.reduceEq, Int.reduceNe, n1, n2, decide_eq_false g1, Bool.not_false]
    exact LendV_eq (by rw [decide_eq_false (fun k => g1 (Prod.mk.inj k).1)])
  by_cases g2 : A.length = B.length
  rotate_left
  · simp -implicitDefEqProofs -proj only [go_sem, Nat.reduceBEq, Nat.reduceLT, Nat.reduceLeDiff, Nat.reduceAdd, Nat.reduceMul, ↓reduceIte, Int.reduceToNat, Int.reducePow, Int.reduceLT, Int.reduceLE, Int.reduceAdd, Int.reduceSub, Int.reduceMul, Int.reduceEq, Int.reduceNe, n1, n2, decide_eq_true g1, Bool.not_true, rowC_len, decide_eq_false (show ¬ (A.length : Int) = B.length by omega), Bool.not_false]
    exact LendV_eq (by rw [decide_eq_false (fun k => g2 (by rw [(Prod.mk.inj k).2]))])
  simp -implicitDefEqProofs -proj only [go_sem, Nat.reduceBEq, Nat.reduceLT, Nat.reduceLeDiff, Nat.reduceAdd, Nat.reduceMul, ↓reduceIte, Int.reduceToNat, Int.reducePow, Int.reduceLT, Int.reduceLE, Int.reduceAdd, Int.reduceSub, Int.reduceMul, Int.reduceEq, Int.reduceNe, n1, n2, decide_eq_true g1, Bool.not_true, rowC_len, decide_eq_true (show (A.length : Int) = B.length by omega)]
  refine LoopA_k (fun i : Nat => i ≤ A.length ∧ ∀ (j : Nat) (h : j < A.length) (h2 : j < B.length), j < i → A[j] = B[j]) 39 (fun i => [(2, .ptr b2 0), (3, .ptr b3 0), (22, i64 A.length), (23, i64 i)]) (fun _ => [(b3, .box 41 [i64 bf, i64 bt', i64 y, slC B]), (b2, .box 41 [i64 af, i64 at', i64 x, slC A])]) (fun i => A.length - i) 0 ⟨Nat.zero_le _, fun j _ _ h => absurd h (Nat.not_lt_zero _)⟩ rfl ?_ ?_ ?_
  · simp -implicitDefEqProofs -proj only [go_sem, Nat.reduceBEq, Nat.reduceLT, Nat.reduceLeDiff, Nat.reduceAdd, Nat.reduceMul, ↓reduceIte, Int.reduceToNat, Int.reducePow, Int.reduceLT, Int.reduceLE, Int.reduceAdd, Int.reduceSub, Int.reduceMul, Int.reduceEq, Int.reduceNe, AllAt, rowC_len]
  · exact ⟨upd_eq, (upd_ne n1).trans upd_eq, trivial⟩
  · rintro i ⟨hi, hs⟩
    have hk : AllH (keepH [(b3, .box 41 [i64 bf, i64 bt', i64 y, slC B]), (b2, .box 41 [i64 af, i64 at', i64 x, slC A])]) [(b3, .box 41 [i64 bf, i64 bt', i64 y, slC B]), (b2, .box 41 [i64 af, i64 at', i64 x, slC A])] := keepH_all (by simp [keys, n1])
    obtain ⟨k3, k2, _⟩ := id hk
    by_cases h : i < A.length
    · have h2 : i < B.length := by omega
      have e1 := rowC_at h
      have e2 := rowC_at h2
      have hca := ha _ (List.getElem_mem h)
      have hcb := hb _ (List.getElem_mem h2)
      have hno : A[i] ≠ B[i] → (x, A) ≠ (y, B) := fun hn k => hn (by
        have := (Prod.mk.inj k).2
        subst this; rfl)
      have hgo : A[i] = B[i] → ∀ (j : Nat) (h : j < A.length) (h2 : j < B.length), j < i + 1 → A[j] = B[j] := fun he j h1 h2 h3 => by
        by_cases hj : j = i
        · subst hj; exact he
        · exact hs j h1 h2 (by omega)
      generalize A[i] = l at *
      generalize B[i] = m at *
      have hla' : (gps l).length ≤ 1000000 := by have := @gps_len l; have := hca.2.1; omega
      have hlb' : (gps m).length ≤ 1000000 := by have := @gps_len m; have := hcb.2.1; omega
      have hcall := RSame_ok (m := (l.length : Int) - 1) (n := (m.length : Int) - 1) hla' hlb'
      rw [show decide ((l.length : Int) - 1 = (m.length : Int) - 1 ∧ gps l = gps m) = decide (l = m) from decide_eq_decide.2 cur_eq] at hcall
      simp -implicitDefEqProofs -proj only [go_sem, Nat.reduceBEq, Nat.reduceLT, Nat.reduceLeDiff, Nat.reduceAdd, Nat.reduceMul, ↓reduceIte, Int.reduceToNat, Int.reducePow, Int.reduceLT, Int.reduceLE, Int.reduceAdd, Int.reduceSub, Int.reduceMul, Int.reduceEq, Int.reduceNe, k3, k2, n1, n2, decide_eq_true (show (i : Int) < A.length by omega)]
      refine ElemA_at _ (by omega) e1 ?_
      simp -implicitDefEqProofs -proj only [go_sem, Nat.reduceBEq, Nat.reduceLT, Nat.reduceLeDiff, Nat.reduceAdd, Nat.reduceMul, ↓reduceIte, Int.reduceToNat, Int.reducePow, Int.reduceLT, Int.reduceLE, Int.reduceAdd, Int.reduceSub, Int.reduceMul, Int.reduceEq, Int.reduceNe, k3, k2, n1, n2]
      refine ElemA_at _ (by omega) e2 ?_
      simp -implicitDefEqProofs -proj only [go_sem, Nat.reduceBEq, Nat.reduceLT, Nat.reduceLeDiff, Nat.reduceAdd, Nat.reduceMul, ↓reduceIte, Int.reduceToNat, Int.reducePow, Int.reduceLT, Int.reduceLE, Int.reduceAdd, Int.reduceSub, Int.reduceMul, Int.reduceEq, Int.reduceNe, k3, k2, n1, n2]
      refine CallA_pure hcall ?_
      by_cases c : l = m
      · simp -implicitDefEqProofs -proj only [go_sem, Nat.reduceBEq, Nat.reduceLT, Nat.reduceLeDiff, Nat.reduceAdd, Nat.reduceMul, ↓reduceIte, Int.reduceToNat, Int.reducePow, Int.reduceLT, Int.reduceLE, Int.reduceAdd, Int.reduceSub, Int.reduceMul, Int.reduceEq, Int.reduceNe, decide_eq_true c, Bool.not_true]
        refine LoopQ_k (i + 1) ⟨by omega, hgo c⟩ (by show A.length - (i + 1) < A.length - i; omega) rfl ?_ hk
        simp -implicitDefEqProofs -proj only [go_sem, Nat.reduceBEq, Nat.reduceLT, Nat.reduceLeDiff, Nat.reduceAdd, Nat.reduceMul, ↓reduceIte, Int.reduceToNat, Int.reducePow, Int.reduceLT, Int.reduceLE, Int.reduceAdd, Int.reduceSub, Int.reduceMul, Int.reduceEq, Int.reduceNe, AllAt, i64_succ (show i < 9223372036854775807 by omega)]
      · simp -implicitDefEqProofs -proj only [go_sem, Nat.reduceBEq, Nat.reduceLT, Nat.reduceLeDiff, Nat.reduceAdd, Nat.reduceMul, ↓reduceIte, Int.reduceToNat, Int.reducePow, Int.reduceLT, Int.reduceLE, Int.reduceAdd, Int.reduceSub, Int.reduceMul, Int.reduceEq, Int.reduceNe, decide_eq_false c, Bool.not_false]
        exact LendV_eq (by rw [decide_eq_false (hno c)])
    · have hi' : i = A.length := by omega
      subst hi'
      simp -implicitDefEqProofs -proj only [go_sem, Nat.reduceBEq, Nat.reduceLT, Nat.reduceLeDiff, Nat.reduceAdd, Nat.reduceMul, ↓reduceIte, Int.reduceToNat, Int.reducePow, Int.reduceLT, Int.reduceLE, Int.reduceAdd, Int.reduceSub, Int.reduceMul, Int.reduceEq, Int.reduceNe, decide_eq_false (show ¬ (A.length : Int) < A.length by omega)]
      exact LendV_eq (by rw [decide_eq_true (show (x, A) = (y, B) by rw [g1, alike_lists g2 fun j h1 h2 => hs j h1 h2 h1])])
theorem rowI_scalB {l : List Int} : ∀ el ∈ rowI l, ∀ d ∈ el, scalD d = true := by
  intro el he d hd
  obtain ⟨r, _, rfl⟩ := List.mem_map.1 he
  simp -implicitDefEqProofs only [List.mem_singleton] at hd
  subst hd; rfl
theorem rowI_snB {l : List Int} {x : Int} : rowI l ++ [[.int .i64 x]] = rowI (l ++ [x]) := by simp [rowI]
structure BX17 where
  i : Nat
  c : Nat
  cap : Nat
theorem bx17_i {i c cap : Nat} : (BX17.mk i c cap).i = i := (rfl)
theorem bx17_c {i c cap : Nat} : (BX17.mk i c cap).c = c := (rfl)
theorem bx17_cap {i c cap : Nat} : (BX17.mk i c cap).cap = cap := (rfl)
theorem breaksN_len {val : Int → Int} {f : Int} : ∀ n : Nat, (breaksN val f n).length ≤ n
  | 0 => by simp [breaksN]
  | n + 1 => by
    have := breaksN_len (val := val) (f := f) n
    rw [breaksN]
    split
    · omega
    · rw [List.length_append, List.length_singleton]; omega
def brkB (b1 : Nat) (x : CoreX) (val : Int → Int) (y : BX17) : List (Nat × Blk) := rowH 3 1 y.c y.cap (rowI (breaksN val x.f y.i)) ++ [(b1, coreB x)]
theorem Breaks_ok {c : CoreX} (hg : goodC c) : NewW Try.prog f_poundageref17_Breaks [coreX c] (slI (breaksN (fun d => ((setC c d : Nat) : Int)) c.f (c.t - c.f).toNat)) := by
  obtain ⟨⟨a1, a2⟩, ⟨a3, a4⟩, a5, a6, a7, a8⟩ := hg.hd
  have hrh := fun day => RHolds_ok (c := c) (day := day) a7 a8
  obtain ⟨val, hval⟩ : ∃ val : Int → Int, (fun d => ((setC c d : Nat) : Int)) = val := ⟨_, rfl⟩
  have hv : ∀ d, ((setC c d : Nat) : Int) = val d := fun d => congrFun hval d
  rw [hval]
  simp -implicitDefEqProofs only [hv] at hrh
  refine CallW_intro comp_poundageref17_Breaks (by simp) ?_
  simp -implicitDefEqProofs -proj only [go_sem, Nat.reduceBEq, Nat.reduceLT, Nat.reduceLeDiff, Nat.reduceAdd, Nat.reduceMul, ↓reduceIte, Int.reduceToNat, Int.reducePow, Int.reduceLT, Int.reduceLE, Int.reduceAdd, Int.reduceSub, Int.reduceMul, Int.reduceEq, Int.reduceNe]
  refine AllocA_intro (fun b1 hb1 => ?_)
  have w1 : IntKind.i64.wrap (c.f + 1) = c.f + 1 := by rw [IntKind.wrap_i64]; omega
  simp -implicitDefEqProofs -proj only [go_sem, Nat.reduceBEq, Nat.reduceLT, Nat.reduceLeDiff, Nat.reduceAdd, Nat.reduceMul, ↓reduceIte, Int.reduceToNat, Int.reducePow, Int.reduceLT, Int.reduceLE, Int.reduceAdd, Int.reduceSub, Int.reduceMul, Int.reduceEq, Int.reduceNe, w1]
  refine LoopA_k (fun y : BX17 => y.i ≤ (c.t - c.f).toNat ∧ (keys (brkB b1 c val y)).Nodup) 27 (fun y => [(1, .ptr b1 0), (3, rowV 0 1 y.c y.cap (rowI (breaksN val c.f y.i))), (4, i64 (c.f + 1 + y.i))]) (brkB b1 c val) (fun y => (c.t - c.f).toNat + 1 - y.i) ⟨0, 0, 0⟩ ⟨Nat.zero_le _, by simp [keys, brkB, bx17_i, breaksN, rowI, rowH]⟩ rfl ?_ ?_ ?_
  · simp -implicitDefEqProofs -proj only [go_sem, Nat.reduceBEq, Nat.reduceLT, Nat.reduceLeDiff, Nat.reduceAdd, Nat.reduceMul, ↓reduceIte, Int.reduceToNat, Int.reducePow, Int.reduceLT, Int.reduceLE, Int.reduceAdd, Int.reduceSub, Int.reduceMul, Int.reduceEq, Int.reduceNe, AllAt, bx17_i, Int.add_zero]
    try rfl
  · simp -implicitDefEqProofs only [brkB, bx17_i, breaksN, rowI, List.map_nil, rowH_nil, List.nil_append]
    exact ⟨upd_eq, trivial⟩
  · rintro ⟨i, c1, cap⟩ ⟨hi, hn⟩
    simp -implicitDefEqProofs only [bx17_i] at hi
    have hall := keepH_all hn
    obtain ⟨H, hH⟩ : ∃ H, keepH (brkB b1 c val ⟨i, c1, cap⟩) = H := ⟨_, rfl⟩
    rw [hH] at hall
    simp -implicitDefEqProofs only [brkB, bx17_i, bx17_c, bx17_cap] at hall hn
    obtain ⟨hrow, k1, _⟩ := AllH_app.1 hall
    by_cases h : i < (c.t - c.f).toNat
    · have hbl := breaksN_len (val := val) (f := c.f) i
      have w2 : IntKind.i64.wrap (c.f + 1 + (i : Int) - 1) = c.f + i := by rw [IntKind.wrap_i64]; omega
      have w3 : IntKind.i64.wrap (c.f + 1 + (i : Int) + 1) = c.f + 1 + ((i + 1 : Nat) : Int) := by rw [IntKind.wrap_i64]; omega
      have h1 := hrh (c.f + 1 + i)
      have h2 := hrh (c.f + i)
      have hb : breaksN val c.f (i + 1) = if val (c.f + 1 + i) = val (c.f + i) then breaksN val c.f i else breaksN val c.f i ++ [c.f + 1 + i] := rfl
      generalize hG : breaksN val c.f i = G at *
      simp -implicitDefEqProofs -proj only [go_sem, Nat.reduceBEq, Nat.reduceLT, Nat.reduceLeDiff, Nat.reduceAdd, Nat.reduceMul, ↓reduceIte, Int.reduceToNat, Int.reducePow, Int.reduceLT, Int.reduceLE, Int.reduceAdd, Int.reduceSub, Int.reduceMul, Int.reduceEq, Int.reduceNe, bx17_i, bx17_c, bx17_cap, hH, hG, k1, decide_eq_true (show c.f + 1 + (i : Int) ≤ c.t by omega)]
      refine PCallA_pure h1 ?_
      simp -implicitDefEqProofs -proj only [go_sem, Nat.reduceBEq, Nat.reduceLT, Nat.reduceLeDiff, Nat.reduceAdd, Nat.reduceMul, ↓reduceIte, Int.reduceToNat, Int.reducePow, Int.reduceLT, Int.reduceLE, Int.reduceAdd, Int.reduceSub, Int.reduceMul, Int.reduceEq, Int.reduceNe, k1, w2]
      refine CallA_pure h2 ?_
      by_cases he : val (c.f + 1 + i) = val (c.f + i)
      · rw [if_pos he] at hb
        simp -implicitDefEqProofs -proj only [go_sem, Nat.reduceBEq, Nat.reduceLT, Nat.reduceLeDiff, Nat.reduceAdd, Nat.reduceMul, ↓reduceIte, Int.reduceToNat, Int.reducePow, Int.reduceLT, Int.reduceLE, Int.reduceAdd, Int.reduceSub, Int.reduceMul, Int.reduceEq, Int.reduceNe, decide_eq_true he, w3]
        refine LoopQ_k ⟨i + 1, c1, cap⟩ ⟨by rw [bx17_i]; omega, by simpa only [brkB, bx17_i, bx17_c, bx17_cap, hb] using hn⟩ (by show (c.t - c.f).toNat + 1 - (i + 1) < (c.t - c.f).toNat + 1 - i; omega) rfl ?_ ?_
        · simp -implicitDefEqProofs -proj only [go_sem, Nat.reduceBEq, Nat.reduceLT, Nat.reduceLeDiff, Nat.reduceAdd, Nat.reduceMul, ↓reduceIte, Int.reduceToNat, Int.reducePow, Int.reduceLT, Int.reduceLE, Int.reduceAdd, Int.reduceSub, Int.reduceMul, Int.reduceEq, Int.reduceNe, AllAt, bx17_i, bx17_c, bx17_cap, hb]
        · simpa only [brkB, bx17_i, bx17_c, bx17_cap, hb] using hall
      · rw [if_neg he] at hb
        have hne : rowI (breaksN val c.f (i + 1)) ≠ [] := by rw [hb]; simp [rowI]
        have hl2 : (rowI (breaksN val c.f (i + 1))).length = G.length + 1 := by rw [rowI_len, hb, List.length_append, List.length_singleton]
        simp -implicitDefEqProofs -proj only [go_sem, Nat.reduceBEq, Nat.reduceLT, Nat.reduceLeDiff, Nat.reduceAdd, Nat.reduceMul, ↓reduceIte, Int.reduceToNat, Int.reducePow, Int.reduceLT, Int.reduceLE, Int.reduceAdd, Int.reduceSub, Int.reduceMul, Int.reduceEq, Int.reduceNe, decide_eq_false he]
        refine AllocR_intro (fun bs hs => ?_)
        replace hs : H bs = none := hs
        simp -implicitDefEqProofs -proj only [go_sem, Nat.reduceBEq, Nat.reduceLT, Nat.reduceLeDiff, Nat.reduceAdd, Nat.reduceMul, ↓reduceIte, Int.reduceToNat, Int.reducePow, Int.reduceLT, Int.reduceLE, Int.reduceAdd, Int.reduceSub, Int.reduceMul, Int.reduceEq, Int.reduceNe]
        refine AppendA_grow (xs := rowI G) (y := [.int .i64 (c.f + 1 + i)]) (t := 3) (capc := 1) [(b1, coreB c)] rfl (AllH_upd hs hall) hn (by simp -implicitDefEqProofs -proj only [go_sem, Nat.reduceBEq, Nat.reduceLT, Nat.reduceLeDiff, Nat.reduceAdd, Nat.reduceMul, ↓reduceIte, Int.reduceToNat, Int.reducePow, Int.reduceLT, Int.reduceLE, Int.reduceAdd, Int.reduceSub, Int.reduceMul, Int.reduceEq, Int.reduceNe]; try rfl) (by rw [rowI_len]; omega) (by rw [rowI_len]; omega) (fun H' c2 cap2 ha hk => ?_)
        rw [rowI_snB, ← hb] at ha hk
        simp -implicitDefEqProofs -proj only [go_sem, Nat.reduceBEq, Nat.reduceLT, Nat.reduceLeDiff, Nat.reduceAdd, Nat.reduceMul, ↓reduceIte, Int.reduceToNat, Int.reducePow, Int.reduceLT, Int.reduceLE, Int.reduceAdd, Int.reduceSub, Int.reduceMul, Int.reduceEq, Int.reduceNe, w3, rowI_len]
        refine LoopQ_k ⟨i + 1, c2, cap2⟩ ⟨by rw [bx17_i]; omega, by simpa only [brkB, bx17_i, bx17_c, bx17_cap] using hk⟩ (by show (c.t - c.f).toNat + 1 - (i + 1) < (c.t - c.f).toNat + 1 - i; omega) rfl ?_ ?_
        · simp -implicitDefEqProofs -proj only [go_sem, Nat.reduceBEq, Nat.reduceLT, Nat.reduceLeDiff, Nat.reduceAdd, Nat.reduceMul, ↓reduceIte, Int.reduceToNat, Int.reducePow, Int.reduceLT, Int.reduceLE, Int.reduceAdd, Int.reduceSub, Int.reduceMul, Int.reduceEq, Int.reduceNe, AllAt, bx17_i, bx17_c, bx17_cap, rowV_ne hne, hl2, rowI_len]
        · simpa only [brkB, bx17_i, bx17_c, bx17_cap] using ha
    · have hi' : i = (c.t - c.f).toNat := by omega
      subst hi'
      simp -implicitDefEqProofs -proj only [go_sem, Nat.reduceBEq, Nat.reduceLT, Nat.reduceLeDiff, Nat.reduceAdd, Nat.reduceMul, ↓reduceIte, Int.reduceToNat, Int.reducePow, Int.reduceLT, Int.reduceLE, Int.reduceAdd, Int.reduceSub, Int.reduceMul, Int.reduceEq, Int.reduceNe, bx17_i, bx17_c, bx17_cap, hH, k1, decide_eq_false (show ¬ c.f + 1 + (((c.t - c.f).toNat : Nat) : Int) ≤ c.t by omega)]
      exact rowV_new hrow rowI_scalB
section
variable {P : Program} {Q : Out → St → Prop} {k : List Item} {s : St} {d : Option Nat} {l : List AO}
/-- Data behind a row of one's own, be it empty or not. -/
theorem AppendA_ext {e : TypeId} {sz bytes b len cap : Nat} {z : List AV} {xs ys : List (List D)} (hb : s.H b = some (.row e sz cap xs)) (hlb : len = xs.length) (hz : z.length = sz) (hbd : (xs.length + ys.length) * bytes ≤ 140737488355328 ∧ xs.length + ys.length ≤ maxLen)
    (hk : ∀ b' cap' H', H' b' = some (.row e sz cap' (xs ++ ys)) → (∀ k x, s.H k = some x → ¬ k = b → H' k = some x ∧ ¬ k = b' ∧ ¬ b' = k) → RunL P Q l k (putS s d (.own b' sz 0 (len + ys.length) cap') H')) : AppendA e sz bytes z (.own b sz 0 len cap) (.d (.sl sz ys)) d l k s P Q := by
  by_cases h : ys = []
  · subst h
    refine AppendA_none hz ?_
    have := hk b cap s.H (by rw [List.append_nil]; exact hb) (fun k x h1 h2 => ⟨h1, h2, fun e => h2 e.symm⟩)
    simpa using this
  · refine AppendA_data (len := 0) hb hlb h hz hbd (fun b' cap' hb' => hk b' cap' _ upd_eq (fun k x h1 h2 => ?_))
    have hne : ¬ k = b' := by
      rintro rfl
      rw [upd_ne (fun e => h2 e.symm), h1] at hb'
      cases hb'
    exact ⟨by rw [upd_ne (fun e => hne e.symm), upd_ne (fun e => h2 e.symm)]; exact h1, hne, fun e => hne e.symm⟩
end
structure MkY where
  i : Nat
  c : Nat
  cap : Nat
theorem mky_i {i c cap : Nat} : (MkY.mk i c cap).i = i := (rfl)
theorem mky_c {i c cap : Nat} : (MkY.mk i c cap).c = c := (rfl)
theorem mky_cap {i c cap : Nat} : (MkY.mk i c cap).cap = cap := (rfl)
def mkA (b1 b2 b3 bm bd capm capd : Nat) (c : CoreX) (ds : List Int) (c1 cap : Nat) (acc : List (Seg DayV)) : List (Nat × Blk) := rowH 41 4 c1 cap (rowX acc) ++ [(b3, .box 32 [.d (.str c.cur), i64 c.f, i64 c.t, .own bm 5 0 c.ms.length capm, rowV 4 4 c1 cap (rowX acc)]), (bm, .row 54 5 capm (rowM c.ms)), (bd, .row 3 1 capd (rowI ds)), (b1, coreB c), (b2, .box 32 [.d (.str ⟨⟨[]⟩⟩), i64 0, i64 0, .nilsl 5, .nilsl 4])]
theorem mkA_keys {b1 b2 b3 bm bd capm capd : Nat} {c : CoreX} {ds : List Int} {c1 cap : Nat} {A : List (Seg DayV)} {s s' : Seg DayV} : keys (mkA b1 b2 b3 bm bd capm capd c ds c1 cap (A ++ [s])) = keys (mkA b1 b2 b3 bm bd capm capd c ds c1 cap (A ++ [s'])) := by
  have h : ∀ s : Seg DayV, rowX (A ++ [s]) ≠ [] := fun s => by simp [rowX]
  simp -implicitDefEqProofs only [mkA, rowH_ne (h s), rowH_ne (h s'), keys, List.map_append, List.map_cons, List.map_nil]
theorem RMake_ok {c : CoreX} (hc : c.Fit) (hf : fitsC c) : DataW Try.prog f_poundageref18_Make [coreX c] (formV c.cur c.f c.t c.ms (spansF c)) := by
  obtain ⟨⟨a1, a2⟩, ⟨a3, a4⟩, a5, a6, a7, a8⟩ := hf.good.hd
  have hbr := (Breaks_ok hf.good).data
  have hst := holds_starts (c := c) a3
  have hfw := holds_fwd (c := c) a3
  have hlen := breaks_len (c := c) a7 a8 (c.t - c.f).toNat
  have hday := fun (d : Int) (hd : Fit d) => RDay_ok (d := d) hc hf hd
  have hcurs := fun d => dayLs_cur hf d
  have hfin : spansF c = endSg (addNg (dayV c) ((holdsR c).map (·.f)) (holdsR c).length) c.t := rfl
  have hadd := addNg_fwd hfw (dayV_seg a7)
  have hRl : (holdsR c).length = (breaksN (fun d => ((setC c d : Nat) : Int)) c.f (c.t - c.f).toNat).length + 1 := by
    have := congrArg List.length hst
    simpa using this
  have hnth := hfw.nth2
  rw [hfin]
  rw [hst] at hadd ⊢
  generalize holdsR c = R at *
  generalize breaksN (fun d => ((setC c d : Nat) : Int)) c.f (c.t - c.f).toNat = bs at *
  refine CallW_intro comp_poundageref18_Make (by simp) ?_
  simp -implicitDefEqProofs -proj only [go_sem, Nat.reduceBEq, Nat.reduceLT, Nat.reduceLeDiff, Nat.reduceAdd, Nat.reduceMul, ↓reduceIte, Int.reduceToNat, Int.reducePow, Int.reduceLT, Int.reduceLE, Int.reduceAdd, Int.reduceSub, Int.reduceMul, Int.reduceEq, Int.reduceNe]
  refine AllocA_intro (fun b1 hb1 => ?_)
  simp -implicitDefEqProofs -proj only [go_sem, Nat.reduceBEq, Nat.reduceLT, Nat.reduceLeDiff, Nat.reduceAdd, Nat.reduceMul, ↓reduceIte, Int.reduceToNat, Int.reducePow, Int.reduceLT, Int.reduceLE, Int.reduceAdd, Int.reduceSub, Int.reduceMul, Int.reduceEq, Int.reduceNe]
  refine AllocA_intro (fun b2 hb2 => ?_)
  replace hb2 : upd Heap.none b1 _ b2 = none := hb2
  obtain ⟨n1, n2⟩ := fresh_ne hb2 upd_eq
  simp -implicitDefEqProofs -proj only [go_sem, Nat.reduceBEq, Nat.reduceLT, Nat.reduceLeDiff, Nat.reduceAdd, Nat.reduceMul, ↓reduceIte, Int.reduceToNat, Int.reducePow, Int.reduceLT, Int.reduceLE, Int.reduceAdd, Int.reduceSub, Int.reduceMul, Int.reduceEq, Int.reduceNe, n1, n2]
  have A1 : AllH (upd (upd Heap.none b1 (some (coreB c))) b2 (some (.box 32 [.d (.str ⟨⟨[]⟩⟩), i64 0, i64 0, .nilsl 5, .nilsl 4]))) [(b1, coreB c), (b2, .box 32 [.d (.str ⟨⟨[]⟩⟩), i64 0, i64 0, .nilsl 5, .nilsl 4])] := ⟨(upd_ne n1).trans upd_eq, upd_eq, trivial⟩
  have N1 : (keys [(b1, coreB c), (b2, Blk.box 32 [.d (.str ⟨⟨[]⟩⟩), i64 0, i64 0, .nilsl 5, .nilsl 4])]).Nodup := by simp [keys, n2]
  obtain ⟨H0, hH0⟩ : ∃ H0, upd (upd Heap.none b1 (some (coreB c))) b2 (some (.box 32 [.d (.str ⟨⟨[]⟩⟩), i64 0, i64 0, .nilsl 5, .nilsl 4])) = H0 := ⟨_, rfl⟩
  rw [hH0] at A1
  rw [hH0]
  refine BSliceD_intro (ds := []) rfl (fun b14 hb14 => ?_)
  replace hb14 : H0 b14 = none := hb14
  obtain ⟨k1, k2, _⟩ := id A1
  obtain ⟨m1, m2⟩ := fresh_ne hb14 k1
  obtain ⟨m3, m4⟩ := fresh_ne hb14 k2
  simp -implicitDefEqProofs -proj only [go_sem, Nat.reduceBEq, Nat.reduceLT, Nat.reduceLeDiff, Nat.reduceAdd, Nat.reduceMul, ↓reduceIte, Int.reduceToNat, Int.reducePow, Int.reduceLT, Int.reduceLE, Int.reduceAdd, Int.reduceSub, Int.reduceMul, Int.reduceEq, Int.reduceNe]
  refine AppendA_ext (xs := []) (by exact upd_eq) rfl (by rfl) (by rw [rowM_len]; constructor <;> simp [maxLen] <;> omega) (fun bm capm H1 hm hfr => ?_)
  obtain ⟨g1, g2, g3⟩ := hfr b1 _ ((upd_ne m1).trans k1) m2
  obtain ⟨g4, g5, g6⟩ := hfr b2 _ ((upd_ne m3).trans k2) m4
  simp -implicitDefEqProofs -proj only [go_sem, Nat.reduceBEq, Nat.reduceLT, Nat.reduceLeDiff, Nat.reduceAdd, Nat.reduceMul, ↓reduceIte, Int.reduceToNat, Int.reducePow, Int.reduceLT, Int.reduceLE, Int.reduceAdd, Int.reduceSub, Int.reduceMul, Int.reduceEq, Int.reduceNe, rowM_len]
  refine AllocA_intro (fun b3 hb3 => ?_)
  replace hb3 : H1 b3 = none := hb3
  obtain ⟨p1, p2⟩ := fresh_ne hb3 g1
  obtain ⟨p3, p4⟩ := fresh_ne hb3 g4
  obtain ⟨p5, p6⟩ := fresh_ne hb3 hm
  obtain ⟨H2, hH2⟩ : ∃ H2, upd H1 b3 (some (.box 32 [.d (.str c.cur), i64 c.f, i64 c.t, .own bm 5 0 c.ms.length capm, .nilsl 4])) = H2 := ⟨_, rfl⟩
  have A2 : AllH H2 [(b3, .box 32 [.d (.str c.cur), i64 c.f, i64 c.t, .own bm 5 0 c.ms.length capm, .nilsl 4]), (bm, .row 54 5 capm (rowM c.ms)), (b1, coreB c), (b2, .box 32 [.d (.str ⟨⟨[]⟩⟩), i64 0, i64 0, .nilsl 5, .nilsl 4])] := by
    rw [← hH2]
    exact ⟨upd_eq, (upd_ne p5).trans hm, (upd_ne p1).trans g1, (upd_ne p3).trans g4, trivial⟩
  have N2 : (keys [(b3, Blk.box 32 [.d (.str c.cur), i64 c.f, i64 c.t, .own bm 5 0 c.ms.length capm, .nilsl 4]), (bm, .row 54 5 capm (rowM c.ms)), (b1, coreB c), (b2, .box 32 [.d (.str ⟨⟨[]⟩⟩), i64 0, i64 0, .nilsl 5, .nilsl 4])]).Nodup := by
    simp [keys, p1, p3, p5, g3, g6, n2]
  obtain ⟨e3, em, e1, e2, _⟩ := id A2
  simp -implicitDefEqProofs -proj only [go_sem, Nat.reduceBEq, Nat.reduceLT, Nat.reduceLeDiff, Nat.reduceAdd, Nat.reduceMul, ↓reduceIte, Int.reduceToNat, Int.reducePow, Int.reduceLT, Int.reduceLE, Int.reduceAdd, Int.reduceSub, Int.reduceMul, Int.reduceEq, Int.reduceNe, p1, p2, p3, p4, p5, p6, hH2, e1]
  refine PCallA_pure hbr ?_
  simp -implicitDefEqProofs -proj only [go_sem, Nat.reduceBEq, Nat.reduceLT, Nat.reduceLeDiff, Nat.reduceAdd, Nat.reduceMul, ↓reduceIte, Int.reduceToNat, Int.reducePow, Int.reduceLT, Int.reduceLE, Int.reduceAdd, Int.reduceSub, Int.reduceMul, Int.reduceEq, Int.reduceNe]
  refine BSliceD_intro (ds := [.int .i64 c.f]) rfl (fun b21 hb21 => ?_)
  replace hb21 : H2 b21 = none := hb21
  have A3 := AllH_upd (y := some (.row 3 1 1 [[.int .i64 c.f]])) hb21 A2
  simp -implicitDefEqProofs -proj only [go_sem, Nat.reduceBEq, Nat.reduceLT, Nat.reduceLeDiff, Nat.reduceAdd, Nat.reduceMul, ↓reduceIte, Int.reduceToNat, Int.reducePow, Int.reduceLT, Int.reduceLE, Int.reduceAdd, Int.reduceSub, Int.reduceMul, Int.reduceEq, Int.reduceNe]
  refine AppendA_ext (xs := [[.int .i64 c.f]]) upd_eq rfl (by rfl) (by rw [rowI_len]; constructor <;> simp [maxLen] <;> omega) (fun bd capd H3 hd hfr3 => ?_)
  have A4 : AllH H3 ((bd, .row 3 1 capd (rowI (c.f :: bs))) :: [(b3, .box 32 [.d (.str c.cur), i64 c.f, i64 c.t, .own bm 5 0 c.ms.length capm, .nilsl 4]), (bm, .row 54 5 capm (rowM c.ms)), (b1, coreB c), (b2, .box 32 [.d (.str ⟨⟨[]⟩⟩), i64 0, i64 0, .nilsl 5, .nilsl 4])]) :=
    ⟨hd, AllH_iff.2 fun p hp => (hfr3 p.1 p.2 (AllH_iff.1 A3 p hp) (fun e => by
      have := AllH_iff.1 A2 p hp
      rw [e, hb21] at this; cases this)).1⟩
  have N4 : bd ∉ keys [(b3, Blk.box 32 [.d (.str c.cur), i64 c.f, i64 c.t, .own bm 5 0 c.ms.length capm, .nilsl 4]), (bm, .row 54 5 capm (rowM c.ms)), (b1, coreB c), (b2, .box 32 [.d (.str ⟨⟨[]⟩⟩), i64 0, i64 0, .nilsl 5, .nilsl 4])] := fun hm => by
    obtain ⟨p, hp, e⟩ := List.mem_map.1 hm
    exact (hfr3 p.1 p.2 (AllH_iff.1 A3 p hp) (fun e => by
      have := AllH_iff.1 A2 p hp
      rw [e, hb21] at this; cases this)).2.1 e
  have hlR : 1 + bs.length = R.length := by omega
  obtain ⟨f3, fm, f1, f2, _⟩ := id A4.2
  simp -implicitDefEqProofs -proj only [go_sem, Nat.reduceBEq, Nat.reduceLT, Nat.reduceLeDiff, Nat.reduceAdd, Nat.reduceMul, ↓reduceIte, Int.reduceToNat, Int.reducePow, Int.reduceLT, Int.reduceLE, Int.reduceAdd, Int.reduceSub, Int.reduceMul, Int.reduceEq, Int.reduceNe, rowI_len, hlR]
  have hkk : ∀ (c1 cap : Nat), (keys (mkA b1 b2 b3 bm bd capm capd c (c.f :: bs) c1 cap [])).Nodup := fun c1 cap => by
    exact nodup_mid (A := [b3, bm]) (B := [b1, b2]) (List.nodup_cons.2 ⟨N4, N2⟩)
  refine LoopA_k (fun y : MkY => y.i ≤ R.length ∧ (keys (mkA b1 b2 b3 bm bd capm capd c (c.f :: bs) y.c y.cap (addNg (dayV c) (c.f :: bs) y.i))).Nodup) 81 (fun y => [(1, .ptr b1 0), (2, .ptr b2 0), (3, .ptr b3 0), (24, .own bd 1 0 R.length capd), (25, i64 R.length), (26, i64 y.i)]) (fun y => mkA b1 b2 b3 bm bd capm capd c (c.f :: bs) y.c y.cap (addNg (dayV c) (c.f :: bs) y.i)) (fun y => R.length - y.i) ⟨0, 0, 0⟩ ⟨Nat.zero_le _, hkk _ _⟩ rfl ?_ ?_ ?_
  · simp -implicitDefEqProofs -proj only [go_sem, Nat.reduceBEq, Nat.reduceLT, Nat.reduceLeDiff, Nat.reduceAdd, Nat.reduceMul, ↓reduceIte, Int.reduceToNat, Int.reducePow, Int.reduceLT, Int.reduceLE, Int.reduceAdd, Int.reduceSub, Int.reduceMul, Int.reduceEq, Int.reduceNe, AllAt, mky_i, rowI_len, hlR]
  · simp -implicitDefEqProofs only [mkA, mky_i, addNg, rowX, List.map_nil, rowH_nil, rowV_nil, List.nil_append]
    exact ⟨f3, fm, A4.1, f1, f2, trivial⟩
  · rintro ⟨i, c1, cap⟩ ⟨hi, hn⟩
    simp -implicitDefEqProofs only [mky_i, mky_c, mky_cap] at hi hn
    have hall := keepH_all hn
    obtain ⟨H, hH⟩ : ∃ H, keepH (mkA b1 b2 b3 bm bd capm capd c (c.f :: bs) c1 cap (addNg (dayV c) (c.f :: bs) i)) = H := ⟨_, rfl⟩
    rw [hH] at hall
    simp -implicitDefEqProofs only [mkA] at hall
    obtain ⟨hrow, h3, hm3, hd3, h1, h2, _⟩ := AllH_app.1 hall
    by_cases h : i < R.length
    · have hr := List.getElem?_eq_getElem h
      obtain ⟨r1, r2, r3, r4, r5, r6, r7⟩ := hnth i _ hr
      have hds : (c.f :: bs)[i]? = some R[i].f := by rw [← hst]; simp [h]
      have hdi := rowI_at hds
      have hstep : addNg (dayV c) (c.f :: bs) (i + 1) = addSg (addNg (dayV c) (c.f :: bs) i) R[i].f (dayV c R[i].f) := by rw [addNg, hds]
      have hdy := hday R[i].f (by unfold Fit; omega)
      have hcu : ∀ l ∈ (dayV c R[i].f).2, CurL l := hcurs R[i].f
      have hdl : (dayV c R[i].f).2.length = c.ms.length := dayLs_len
      have hacc : ∀ A s, addNg (dayV c) (c.f :: bs) i = A ++ [s] → (∀ l ∈ s.v.2, CurL l) ∧ s.v.2.length ≤ 4 := fun A s e => by
        cases i with
        | zero => rw [addNg] at e; have := congrArg List.length e; simp at this
        | succ i =>
          obtain ⟨A', s', e1, e2, _⟩ := hadd i R[i] (List.getElem?_eq_getElem (by omega))
          rw [e1] at e
          have := (List.append_inj' e rfl).2
          cases this
          rw [e2]
          exact ⟨dayLs_cur hf _, by show (dayLs c _ _).length ≤ 4; rw [dayLs_len]; exact a6⟩
      have hal : (addNg (dayV c) (c.f :: bs) i).length ≤ 4000 := by
        cases i with
        | zero => rw [addNg]; simp
        | succ i =>
          obtain ⟨A', s', e1, e2, e3, e4⟩ := hadd i R[i] (List.getElem?_eq_getElem (by omega))
          obtain ⟨_, q2, q3, _⟩ := hnth i R[i] (List.getElem?_eq_getElem (by omega))
          have := (e4 R[i].f (Int.le_refl _) q2).len
          rw [e1]
          simp -implicitDefEqProofs only [List.length_append, List.length_singleton] at this ⊢
          omega
      generalize R[i] = r at *
      generalize hacd : addNg (dayV c) (c.f :: bs) i = acc at *
      generalize dayV c r.f = v at *
      have w1 : IntKind.i64.wrap (r.f - 1) = r.f - 1 := by rw [IntKind.wrap_i64]; omega
      simp -implicitDefEqProofs -proj only [go_sem, Nat.reduceBEq, Nat.reduceLT, Nat.reduceLeDiff, Nat.reduceAdd, Nat.reduceMul, ↓reduceIte, Int.reduceToNat, Int.reducePow, Int.reduceLT, Int.reduceLE, Int.reduceAdd, Int.reduceSub, Int.reduceMul, Int.reduceEq, Int.reduceNe, mky_i, mky_c, mky_cap, hacd, hH, hd3, decide_eq_true (show (i : Int) < R.length by omega)]
      refine VC_intro ⟨by omega, by omega⟩ (fun _ => ?_)
      rw [Int.toNat_natCast]
      refine IdxE_1 _ hdi (by simp) ?_
      simp -implicitDefEqProofs -proj only [go_sem, Nat.reduceBEq, Nat.reduceLT, Nat.reduceLeDiff, Nat.reduceAdd, Nat.reduceMul, ↓reduceIte, Int.reduceToNat, Int.reducePow, Int.reduceLT, Int.reduceLE, Int.reduceAdd, Int.reduceSub, Int.reduceMul, Int.reduceEq, Int.reduceNe, h1]
      refine CallA_pure hdy ?_
      simp -implicitDefEqProofs -proj only [go_sem, Nat.reduceBEq, Nat.reduceLT, Nat.reduceLeDiff, Nat.reduceAdd, Nat.reduceMul, ↓reduceIte, Int.reduceToNat, Int.reducePow, Int.reduceLT, Int.reduceLE, Int.reduceAdd, Int.reduceSub, Int.reduceMul, Int.reduceEq, Int.reduceNe]
      refine AllocA_intro (fun b6 hb6 => ?_)
      replace hb6 : H b6 = none := hb6
      obtain ⟨y1, y2⟩ := fresh_ne hb6 h3
      have hall6 := AllH_upd (y := some (.box 41 [i64 r.f, i64 r.f, i64 v.1, slC v.2])) hb6 hall
      by_cases c0 : acc = []
      · subst c0
        have hnew : addNg (dayV c) (c.f :: bs) (i + 1) = [⟨r.f, r.f, v⟩] := by rw [hstep]; rfl
        simp -implicitDefEqProofs only [rowX, List.map_nil, rowV_nil, rowH_nil, List.nil_append] at h3 hall6 hn
        have hn6 : (keys (rowH 41 4 0 0 (rowX []) ++ [(b3, Blk.box 32 [.d (.str c.cur), i64 c.f, i64 c.t, .own bm 5 0 c.ms.length capm, .nilsl 4]), (bm, .row 54 5 capm (rowM c.ms)), (bd, .row 3 1 capd (rowI (c.f :: bs))), (b1, coreB c), (b2, .box 32 [.d (.str ⟨⟨[]⟩⟩), i64 0, i64 0, .nilsl 5, .nilsl 4])])).Nodup := hkk 0 0
        simp -implicitDefEqProofs -proj only [go_sem, Nat.reduceBEq, Nat.reduceLT, Nat.reduceLeDiff, Nat.reduceAdd, Nat.reduceMul, ↓reduceIte, Int.reduceToNat, Int.reducePow, Int.reduceLT, Int.reduceLE, Int.reduceAdd, Int.reduceSub, Int.reduceMul, Int.reduceEq, Int.reduceNe, h3, y1, y2]
        refine AllocR_intro (fun bs' hs => ?_)
        replace hs : (upd H b6 (some (.box 41 [i64 r.f, i64 r.f, i64 v.1, slC v.2]))) bs' = none := hs
        simp -implicitDefEqProofs -proj only [go_sem, Nat.reduceBEq, Nat.reduceLT, Nat.reduceLeDiff, Nat.reduceAdd, Nat.reduceMul, ↓reduceIte, Int.reduceToNat, Int.reducePow, Int.reduceLT, Int.reduceLE, Int.reduceAdd, Int.reduceSub, Int.reduceMul, Int.reduceEq, Int.reduceNe]
        refine AppendA_grow (c := 0) (cap := 0) (z0 := 4) (xs := rowX (([] : List (Seg DayV)))) (y := [.int .i64 r.f, .int .i64 r.f, .int .i64 v.1, .sl 2 (rowC v.2)]) (t := 41) (capc := 1) [(b3, Blk.box 32 [.d (.str c.cur), i64 c.f, i64 c.t, .own bm 5 0 c.ms.length capm, .nilsl 4]), (bm, .row 54 5 capm (rowM c.ms)), (bd, .row 3 1 capd (rowI (c.f :: bs))), (b1, coreB c), (b2, .box 32 [.d (.str ⟨⟨[]⟩⟩), i64 0, i64 0, .nilsl 5, .nilsl 4])] rfl (AllH_upd hs hall6) hn6 (by simp -implicitDefEqProofs -proj only [go_sem, Nat.reduceBEq, Nat.reduceLT, Nat.reduceLeDiff, Nat.reduceAdd, Nat.reduceMul, ↓reduceIte, Int.reduceToNat, Int.reducePow, Int.reduceLT, Int.reduceLE, Int.reduceAdd, Int.reduceSub, Int.reduceMul, Int.reduceEq, Int.reduceNe]; try rfl) (by simp [rowX]) (by simp [rowX]) (fun H' c2 cap2 ha hk => ?_)
        rw [show rowX (([] : List (Seg DayV))) ++ [[.int .i64 r.f, .int .i64 r.f, .int .i64 v.1, .sl 2 (rowC v.2)]] = rowX ([⟨r.f, r.f, v⟩]) by simp [rowX, segEl]] at ha hk
        obtain ⟨hrow', q3, qm, qd, q1, q2, _⟩ := AllH_app.1 ha
        simp -implicitDefEqProofs -proj only [go_sem, Nat.reduceBEq, Nat.reduceLT, Nat.reduceLeDiff, Nat.reduceAdd, Nat.reduceMul, ↓reduceIte, Int.reduceToNat, Int.reducePow, Int.reduceLT, Int.reduceLE, Int.reduceAdd, Int.reduceSub, Int.reduceMul, Int.reduceEq, Int.reduceNe, q3]
        have hne' : rowX ([⟨r.f, r.f, v⟩]) ≠ [] := by simp [rowX]
        have hk2 : (keys (mkA b1 b2 b3 bm bd capm capd c (c.f :: bs) c2 cap2 ([⟨r.f, r.f, v⟩]))).Nodup := by simpa only [mkA, keys, List.map_cons, List.map_append] using hk
        have hk3 : b3 ∉ keys (rowH 41 4 c2 cap2 (rowX ([⟨r.f, r.f, v⟩]))) := by
          simp -implicitDefEqProofs only [keys, List.map_append, List.map_cons] at hk
          exact fun hm => (List.nodup_append.1 hk).2.2 _ hm _ (List.mem_cons_self ..) rfl
        have hkr : b3 ∉ keys [(bm, Blk.row 54 5 capm (rowM c.ms)), (bd, .row 3 1 capd (rowI (c.f :: bs))), (b1, coreB c), (b2, .box 32 [.d (.str ⟨⟨[]⟩⟩), i64 0, i64 0, .nilsl 5, .nilsl 4])] := by
          simp -implicitDefEqProofs only [keys, List.map_append, List.map_cons] at hk
          exact (List.nodup_cons.1 (List.nodup_append.1 hk).2.1).1
        refine LoopQ_k ⟨i + 1, c2, cap2⟩ ⟨by rw [mky_i]; omega, by simp -implicitDefEqProofs only [mky_i, mky_c, mky_cap]; rw [hnew]; exact hk2⟩ (by show R.length - (i + 1) < R.length - i; omega) rfl ?_ ?_
        · simp -implicitDefEqProofs -proj only [go_sem, Nat.reduceBEq, Nat.reduceLT, Nat.reduceLeDiff, Nat.reduceAdd, Nat.reduceMul, ↓reduceIte, Int.reduceToNat, Int.reducePow, Int.reduceLT, Int.reduceLE, Int.reduceAdd, Int.reduceSub, Int.reduceMul, Int.reduceEq, Int.reduceNe, AllAt, mky_i, i64_succ (show i < 9223372036854775807 by omega)]
        · simp -implicitDefEqProofs only [mky_i, mky_c, mky_cap]
          rw [hnew]
          simp -implicitDefEqProofs only [mkA, rowV_ne hne', rowX_len, List.length_nil, List.length_append, List.length_cons]
          exact AllH_app.2 ⟨drop_all hrow' hk3, upd_eq, drop_all ⟨qm, qd, q1, q2, trivial⟩ hkr⟩
      · obtain ⟨A, s, hAs⟩ : ∃ A s, acc = A ++ [s] := ⟨acc.dropLast, acc.getLast c0, (List.dropLast_concat_getLast c0).symm⟩
        subst hAs
        have hne : rowX (A ++ [s]) ≠ [] := by simp [rowX]
        have hne1 : rowX (A ++ [⟨s.f, r.f - 1, s.v⟩]) ≠ [] := by simp [rowX]
        have hxl : (rowX (A ++ [s])).length = A.length + 1 := by rw [rowX_len]; simp
        have hxl1 : (rowX (A ++ [⟨s.f, r.f - 1, s.v⟩])).length = A.length + 1 := by rw [rowX_len]; simp
        obtain ⟨hsc, hsl⟩ := hacc A s rfl
        rw [rowH_ne hne] at hrow
        rw [rowV_ne hne, hxl] at h3
        have hkc1 := hrow.1
        have hn' := hn
        simp -implicitDefEqProofs only [mkA, rowH_ne hne, keys, List.map_append, List.map_cons, List.map_nil, List.cons_append, List.nil_append] at hn'
        obtain ⟨z1, z2⟩ := fresh_ne hb6 hkc1
        obtain ⟨x1, x2, x3, x4, x5⟩ : ¬ c1 = b3 ∧ ¬ c1 = bm ∧ ¬ c1 = bd ∧ ¬ c1 = b1 ∧ ¬ c1 = b2 := by
          have := (List.nodup_cons.1 hn').1
          simp -implicitDefEqProofs only [List.mem_cons, List.not_mem_nil, or_false, not_or] at this
          exact this
        have x1' : ¬ b3 = c1 := fun e => x1 e.symm
        have w2 : IntKind.i64.wrap (((A.length + 1 : Nat) : Int) - 1) = (A.length : Int) := by rw [IntKind.wrap_i64]; simp -implicitDefEqProofs only [List.length_append, List.length_singleton] at hal; omega
        have hat := rowX_nth (S := A ++ [s]) (i := A.length) (s := s) (by simp)
        have hat2 := rowX_nth (S := A ++ [⟨s.f, r.f - 1, s.v⟩]) (i := A.length) (s := ⟨s.f, r.f - 1, s.v⟩) (by simp)
        have hset := rowX_last (A := A) (s := s) (x := r.f - 1)
        have hal' : A.length ≤ 4000 := by simp -implicitDefEqProofs only [List.length_append, List.length_singleton] at hal; omega
        have dz : decide (((A.length + 1 : Nat) : Int) = 0) = false := decide_eq_false (by omega)
        have hcall := RAlike_ok (a := ⟨s.f, r.f - 1, s.v⟩) (b := ⟨r.f, r.f, v⟩) hsc hcu (by show s.v.2.length ≤ 1000000; omega) (by show v.2.length ≤ 1000000; omega)
        simp -implicitDefEqProofs -proj only [go_sem, Nat.reduceBEq, Nat.reduceLT, Nat.reduceLeDiff, Nat.reduceAdd, Nat.reduceMul, ↓reduceIte, Int.reduceToNat, Int.reducePow, Int.reduceLT, Int.reduceLE, Int.reduceAdd, Int.reduceSub, Int.reduceMul, Int.reduceEq, Int.reduceNe, h3, y1, y2, hxl, w2, w1, decide_eq_true (show (0 : Int) < ((A.length + 1 : Nat) : Int) by omega)]
        refine VC_intro ⟨by omega, by omega⟩ (fun _ => ?_)
        rw [Int.toNat_natCast]
        refine StoreE_1 (cap := cap) ((upd_ne z1).trans hkc1) hat (by simp) ?_
        obtain ⟨H5, hH5⟩ : ∃ H5, upd (upd H b6 (some (.box 41 [i64 r.f, i64 r.f, i64 v.1, slC v.2]))) c1 (some (.row 41 4 cap (rowX (A ++ [⟨s.f, r.f - 1, s.v⟩])))) = H5 := ⟨_, rfl⟩
        have hall5 : AllH H5 ((b6, .box 41 [i64 r.f, i64 r.f, i64 v.1, slC v.2]) :: mkA b1 b2 b3 bm bd capm capd c (c.f :: bs) c1 cap (A ++ [⟨s.f, r.f - 1, s.v⟩])) := by
          rw [← hH5]
          simp -implicitDefEqProofs only [mkA, rowH_ne hne1, rowV_ne hne1, hxl1, List.cons_append, List.nil_append]
          have h6 := hall6
          rw [rowH_ne hne, rowV_ne hne, hxl] at h6
          exact ⟨(upd_ne (fun e => z1 e.symm)).trans upd_eq, upd_eq, drop_all h6.2 (List.nodup_cons.1 hn').1⟩
        simp -implicitDefEqProofs only [mkA, rowH_ne hne1, rowV_ne hne1, hxl1, List.cons_append, List.nil_append] at hall5
        obtain ⟨u6, uc, u3, um, ud, u1, u2, _⟩ := id hall5
        simp -implicitDefEqProofs -proj only [go_sem, Nat.reduceBEq, Nat.reduceLT, Nat.reduceLeDiff, Nat.reduceAdd, Nat.reduceMul, ↓reduceIte, Int.reduceToNat, Int.reducePow, Int.reduceLT, Int.reduceLE, Int.reduceAdd, Int.reduceSub, Int.reduceMul, Int.reduceEq, Int.reduceNe, setSegD, hset, hH5, dz, u3, uc, u6, w2]
        refine VC_intro ⟨by omega, by omega⟩ (fun _ => ?_)
        simp -implicitDefEqProofs -proj only [go_sem, Nat.reduceBEq, Nat.reduceLT, Nat.reduceLeDiff, Nat.reduceAdd, Nat.reduceMul, ↓reduceIte, Int.reduceToNat, Int.reducePow, Int.reduceLT, Int.reduceLE, Int.reduceAdd, Int.reduceSub, Int.reduceMul, Int.reduceEq, Int.reduceNe, Int.toNat_natCast, uc]
        refine IdxE_n _ hat2 (by simp) ?_
        simp -implicitDefEqProofs -proj only [go_sem, Nat.reduceBEq, Nat.reduceLT, Nat.reduceLeDiff, Nat.reduceAdd, Nat.reduceMul, ↓reduceIte, Int.reduceToNat, Int.reducePow, Int.reduceLT, Int.reduceLE, Int.reduceAdd, Int.reduceSub, Int.reduceMul, Int.reduceEq, Int.reduceNe, u6]
        refine CallA_pure hcall ?_
        by_cases ca : s.v = v
        · have hnew : addNg (dayV c) (c.f :: bs) (i + 1) = A ++ [⟨s.f, r.f - 1, s.v⟩] := by
            rw [hstep, addSg]
            simp -implicitDefEqProofs only [List.getLast?_append, List.getLast?_singleton, Option.some_or, List.dropLast_concat, if_pos ca]
          simp -implicitDefEqProofs -proj only [go_sem, Nat.reduceBEq, Nat.reduceLT, Nat.reduceLeDiff, Nat.reduceAdd, Nat.reduceMul, ↓reduceIte, Int.reduceToNat, Int.reducePow, Int.reduceLT, Int.reduceLE, Int.reduceAdd, Int.reduceSub, Int.reduceMul, Int.reduceEq, Int.reduceNe, decide_eq_true ca, Bool.not_true]
          refine LoopQ_k ⟨i + 1, c1, cap⟩ ⟨by rw [mky_i]; omega, by simp -implicitDefEqProofs only [mky_i, mky_c, mky_cap]; rw [hnew, mkA_keys (s' := s)]; exact hn⟩ (by show R.length - (i + 1) < R.length - i; omega) rfl ?_ ?_
          · simp -implicitDefEqProofs -proj only [go_sem, Nat.reduceBEq, Nat.reduceLT, Nat.reduceLeDiff, Nat.reduceAdd, Nat.reduceMul, ↓reduceIte, Int.reduceToNat, Int.reducePow, Int.reduceLT, Int.reduceLE, Int.reduceAdd, Int.reduceSub, Int.reduceMul, Int.reduceEq, Int.reduceNe, AllAt, mky_i, i64_succ (show i < 9223372036854775807 by omega)]
          · simp -implicitDefEqProofs only [mky_i, mky_c, mky_cap]
            rw [hnew]
            simp -implicitDefEqProofs only [mkA, rowH_ne hne1, rowV_ne hne1, hxl1, List.cons_append, List.nil_append]
            exact hall5.2
        · have hnew : addNg (dayV c) (c.f :: bs) (i + 1) = A ++ [⟨s.f, r.f - 1, s.v⟩] ++ [⟨r.f, r.f, v⟩] := by
            rw [hstep, addSg]
            simp -implicitDefEqProofs only [List.getLast?_append, List.getLast?_singleton, Option.some_or, List.dropLast_concat, if_neg ca]
          have hall7 : AllH H5 (rowH 41 4 c1 cap (rowX (A ++ [⟨s.f, r.f - 1, s.v⟩])) ++ [(b3, Blk.box 32 [.d (.str c.cur), i64 c.f, i64 c.t, .own bm 5 0 c.ms.length capm, rowV 4 4 c1 cap (rowX (A ++ [⟨s.f, r.f - 1, s.v⟩]))]), (bm, .row 54 5 capm (rowM c.ms)), (bd, .row 3 1 capd (rowI (c.f :: bs))), (b1, coreB c), (b2, .box 32 [.d (.str ⟨⟨[]⟩⟩), i64 0, i64 0, .nilsl 5, .nilsl 4])]) := by
            simp -implicitDefEqProofs only [rowH_ne hne1, rowV_ne hne1, hxl1, List.cons_append, List.nil_append]
            exact hall5.2
          have hn7 : (keys (rowH 41 4 c1 cap (rowX (A ++ [⟨s.f, r.f - 1, s.v⟩])) ++ [(b3, Blk.box 32 [.d (.str c.cur), i64 c.f, i64 c.t, .own bm 5 0 c.ms.length capm, rowV 4 4 c1 cap (rowX (A ++ [⟨s.f, r.f - 1, s.v⟩]))]), (bm, .row 54 5 capm (rowM c.ms)), (bd, .row 3 1 capd (rowI (c.f :: bs))), (b1, coreB c), (b2, .box 32 [.d (.str ⟨⟨[]⟩⟩), i64 0, i64 0, .nilsl 5, .nilsl 4])])).Nodup := by
            rw [mkA_keys (s' := ⟨s.f, r.f - 1, s.v⟩)] at hn
            exact hn
          obtain ⟨_, u3', _⟩ := AllH_app.1 hall7
          simp -implicitDefEqProofs -proj only [go_sem, Nat.reduceBEq, Nat.reduceLT, Nat.reduceLeDiff, Nat.reduceAdd, Nat.reduceMul, ↓reduceIte, Int.reduceToNat, Int.reducePow, Int.reduceLT, Int.reduceLE, Int.reduceAdd, Int.reduceSub, Int.reduceMul, Int.reduceEq, Int.reduceNe, decide_eq_false ca, Bool.not_false, u3', u6]
          refine AllocR_intro (fun bs' hs => ?_)
          replace hs : H5 bs' = none := hs
          simp -implicitDefEqProofs -proj only [go_sem, Nat.reduceBEq, Nat.reduceLT, Nat.reduceLeDiff, Nat.reduceAdd, Nat.reduceMul, ↓reduceIte, Int.reduceToNat, Int.reducePow, Int.reduceLT, Int.reduceLE, Int.reduceAdd, Int.reduceSub, Int.reduceMul, Int.reduceEq, Int.reduceNe]
          refine AppendA_grow (c := c1) (cap := cap) (z0 := 4) (xs := rowX (A ++ [Seg.mk s.f (r.f - 1) s.v])) (y := [.int .i64 r.f, .int .i64 r.f, .int .i64 v.1, .sl 2 (rowC v.2)]) (t := 41) (capc := 1) [(b3, Blk.box 32 [.d (.str c.cur), i64 c.f, i64 c.t, .own bm 5 0 c.ms.length capm, rowV 4 4 c1 cap (rowX (A ++ [⟨s.f, r.f - 1, s.v⟩]))]), (bm, .row 54 5 capm (rowM c.ms)), (bd, .row 3 1 capd (rowI (c.f :: bs))), (b1, coreB c), (b2, .box 32 [.d (.str ⟨⟨[]⟩⟩), i64 0, i64 0, .nilsl 5, .nilsl 4])] rfl (AllH_upd hs hall7) hn7 (by simp -implicitDefEqProofs -proj only [go_sem, Nat.reduceBEq, Nat.reduceLT, Nat.reduceLeDiff, Nat.reduceAdd, Nat.reduceMul, ↓reduceIte, Int.reduceToNat, Int.reducePow, Int.reduceLT, Int.reduceLE, Int.reduceAdd, Int.reduceSub, Int.reduceMul, Int.reduceEq, Int.reduceNe]; try rfl) (by rw [hxl1]; omega) (by rw [hxl1]; omega) (fun H' c2 cap2 ha hk => ?_)
          rw [show rowX (A ++ [⟨s.f, r.f - 1, s.v⟩]) ++ [[.int .i64 r.f, .int .i64 r.f, .int .i64 v.1, .sl 2 (rowC v.2)]] = rowX (A ++ [⟨s.f, r.f - 1, s.v⟩] ++ [⟨r.f, r.f, v⟩]) by simp [rowX, segEl]] at ha hk
          obtain ⟨hrow', q3, qm, qd, q1, q2, _⟩ := AllH_app.1 ha
          simp -implicitDefEqProofs -proj only [go_sem, Nat.reduceBEq, Nat.reduceLT, Nat.reduceLeDiff, Nat.reduceAdd, Nat.reduceMul, ↓reduceIte, Int.reduceToNat, Int.reducePow, Int.reduceLT, Int.reduceLE, Int.reduceAdd, Int.reduceSub, Int.reduceMul, Int.reduceEq, Int.reduceNe, q3]
          have hne' : rowX (A ++ [⟨s.f, r.f - 1, s.v⟩] ++ [⟨r.f, r.f, v⟩]) ≠ [] := by simp [rowX]
          have hk2 : (keys (mkA b1 b2 b3 bm bd capm capd c (c.f :: bs) c2 cap2 (A ++ [⟨s.f, r.f - 1, s.v⟩] ++ [⟨r.f, r.f, v⟩]))).Nodup := by simpa only [mkA, keys, List.map_cons, List.map_append] using hk
          have hk3 : b3 ∉ keys (rowH 41 4 c2 cap2 (rowX (A ++ [⟨s.f, r.f - 1, s.v⟩] ++ [⟨r.f, r.f, v⟩]))) := by
            simp -implicitDefEqProofs only [keys, List.map_append, List.map_cons] at hk
            exact fun hm => (List.nodup_append.1 hk).2.2 _ hm _ (List.mem_cons_self ..) rfl
          have hkr : b3 ∉ keys [(bm, Blk.row 54 5 capm (rowM c.ms)), (bd, .row 3 1 capd (rowI (c.f :: bs))), (b1, coreB c), (b2, .box 32 [.d (.str ⟨⟨[]⟩⟩), i64 0, i64 0, .nilsl 5, .nilsl 4])] := by
            simp -implicitDefEqProofs only [keys, List.map_append, List.map_cons] at hk
            exact (List.nodup_cons.1 (List.nodup_append.1 hk).2.1).1
          refine LoopQ_k ⟨i + 1, c2, cap2⟩ ⟨by rw [mky_i]; omega, by simp -implicitDefEqProofs only [mky_i, mky_c, mky_cap]; rw [hnew]; exact hk2⟩ (by show R.length - (i + 1) < R.length - i; omega) rfl ?_ ?_
          · simp -implicitDefEqProofs -proj only [go_sem, Nat.reduceBEq, Nat.reduceLT, Nat.reduceLeDiff, Nat.reduceAdd, Nat.reduceMul, ↓reduceIte, Int.reduceToNat, Int.reducePow, Int.reduceLT, Int.reduceLE, Int.reduceAdd, Int.reduceSub, Int.reduceMul, Int.reduceEq, Int.reduceNe, AllAt, mky_i, i64_succ (show i < 9223372036854775807 by omega)]
          · simp -implicitDefEqProofs only [mky_i, mky_c, mky_cap]
            rw [hnew]
            simp -implicitDefEqProofs only [mkA, rowV_ne hne', rowX_len, List.length_nil, List.length_append, List.length_cons]
            exact AllH_app.2 ⟨drop_all hrow' hk3, upd_eq, drop_all ⟨qm, qd, q1, q2, trivial⟩ hkr⟩
    · have hi' : i = R.length := by omega
      subst hi'
      have hR0 : R.length - 1 < R.length := by omega
      obtain ⟨A, s, e1, e2, e3, e4⟩ := hadd (R.length - 1) _ (List.getElem?_eq_getElem hR0)
      rw [show R.length - 1 + 1 = R.length by omega] at e1
      rw [e1] at hrow h3 hall hn hH
      have hal : A.length ≤ 4000 := by
        obtain ⟨_, q2, q3, _⟩ := hnth (R.length - 1) _ (List.getElem?_eq_getElem hR0)
        have := (e4 _ (Int.le_refl _) q2).len
        simp -implicitDefEqProofs only [List.length_append, List.length_singleton] at this
        omega
      have hne : rowX (A ++ [s]) ≠ [] := by simp [rowX]
      have hne1 : rowX (A ++ [⟨s.f, c.t, s.v⟩]) ≠ [] := by simp [rowX]
      have hxl : (rowX (A ++ [s])).length = A.length + 1 := by rw [rowX_len]; simp
      have hxl1 : (rowX (A ++ [⟨s.f, c.t, s.v⟩])).length = A.length + 1 := by rw [rowX_len]; simp
      rw [rowH_ne hne] at hrow
      rw [rowV_ne hne, hxl] at h3
      have hkc1 := hrow.1
      have hn' := hn
      simp -implicitDefEqProofs only [mkA, rowH_ne hne, keys, List.map_append, List.map_cons, List.map_nil, List.cons_append, List.nil_append] at hn'
      obtain ⟨x1, x2, x3, x4, x5⟩ : ¬ c1 = b3 ∧ ¬ c1 = bm ∧ ¬ c1 = bd ∧ ¬ c1 = b1 ∧ ¬ c1 = b2 := by
        have := (List.nodup_cons.1 hn').1
        simp -implicitDefEqProofs only [List.mem_cons, List.not_mem_nil, or_false, not_or] at this
        exact this
      have x1' : ¬ b3 = c1 := fun e => x1 e.symm
      have x5' : ¬ b2 = c1 := fun e => x5 e.symm
      have y23 : ¬ b2 = b3 := by
        have := (List.nodup_cons.1 (List.nodup_cons.1 hn').2).1
        simp -implicitDefEqProofs only [List.mem_cons, List.not_mem_nil, or_false, not_or] at this
        exact fun e => this.2.2.2 e.symm
      have y2m : ¬ b2 = bm := by
        have := (List.nodup_cons.1 (List.nodup_cons.1 (List.nodup_cons.1 hn').2).2).1
        simp -implicitDefEqProofs only [List.mem_cons, List.not_mem_nil, or_false, not_or] at this
        exact fun e => this.2.2 e.symm
      have w2 : IntKind.i64.wrap (((A.length + 1 : Nat) : Int) - 1) = (A.length : Int) := by rw [IntKind.wrap_i64]; omega
      have hat := rowX_nth (S := A ++ [s]) (i := A.length) (s := s) (by simp)
      have hset := rowX_last (A := A) (s := s) (x := c.t)
      have hres : endSg (addNg (dayV c) (c.f :: bs) R.length) c.t = A ++ [⟨s.f, c.t, s.v⟩] := by
        rw [e1, endSg]
        simp -implicitDefEqProofs only [List.getLast?_append, List.getLast?_singleton, Option.some_or, List.dropLast_concat]
      rw [hres]
      simp -implicitDefEqProofs -proj only [go_sem, Nat.reduceBEq, Nat.reduceLT, Nat.reduceLeDiff, Nat.reduceAdd, Nat.reduceMul, ↓reduceIte, Int.reduceToNat, Int.reducePow, Int.reduceLT, Int.reduceLE, Int.reduceAdd, Int.reduceSub, Int.reduceMul, Int.reduceEq, Int.reduceNe, mky_i, mky_c, mky_cap, e1, hH, h3, h1, hxl, w2, decide_eq_true (show (0 : Int) < ((A.length + 1 : Nat) : Int) by omega), decide_eq_false (show ¬ (R.length : Int) < R.length by omega)]
      refine VC_intro ⟨by omega, by omega⟩ (fun _ => ?_)
      rw [Int.toNat_natCast]
      refine StoreE_1 (cap := cap) hkc1 hat (by simp) ?_
      simp -implicitDefEqProofs -proj only [go_sem, Nat.reduceBEq, Nat.reduceLT, Nat.reduceLeDiff, Nat.reduceAdd, Nat.reduceMul, ↓reduceIte, Int.reduceToNat, Int.reducePow, Int.reduceLT, Int.reduceLE, Int.reduceAdd, Int.reduceSub, Int.reduceMul, Int.reduceEq, Int.reduceNe, setSegD, hset, x1, x1', x5, x5', h3, h2]
      refine lend_form ?_ ?_
      · exact lend_own ((upd_ne y2m).trans ((upd_ne x2).trans hm3)) (by rw [rowM_len])
      · exact lend_own ((upd_ne x5').trans upd_eq) (by rw [hxl1])
def seg19 : Seg DayV := ⟨0, 9, (5, [[0, 2, 4, 6]])⟩
theorem gps19 : gps [0, 2, 4, 6] = [⟨0, 0, 1, 2, 4⟩] := by decide +kernel
theorem rowX19 : rowX [seg19] = [[.int .i64 0, .int .i64 9, .int .i64 5, .sl 2 [[.int .i64 3, .sl 5 [[.int .i64 0, .int .i64 0, .int .i64 1, .int .i64 2, .int .i64 4]]]]]] := by
  simp [rowX, segEl, seg19, rowC, curEl, gps19, rowG, Grp.el]
theorem ok19 : okV seg19.v := by
  have h : ∀ l ∈ seg19.v.2, l = [0, 2, 4, 6] := fun l hl => by simpa [seg19] using hl
  refine ⟨by decide, by decide, fun l hl => ?_, fun l hl x hx => ?_⟩
  · rw [h l hl]
    refine ⟨by simp, by decide, fun v hv => ?_⟩
    have : v = 0 ∨ v = 2 ∨ v = 4 ∨ v = 6 := by simpa using hv
    unfold smallV; omega
  · rw [h l hl] at hx
    have : x = 0 ∨ x = 2 ∨ x = 4 ∨ x = 6 := by simpa using hx
    omega
theorem fwd19 : FwdB (fun _ => seg19.v) 0 10 [seg19] := ⟨rfl, by decide, fun _ _ _ => rfl, fun s h => (by cases h), rfl⟩
theorem look19 : lookF seg19.v [3] = (11, 0) := by decide +kernel
theorem alive19_ok : DataW Try.prog f_poundagelaw19_alive [] (bv true) := by
  have h1 := LPrice_in (cur := ⟨⟨[]⟩⟩) (f := 0) (t := 9) (ms := [⟨⟨⟨[109]⟩⟩, ⟨⟨[]⟩⟩, 3, 0, 0⟩]) (d := 4) (b := [3]) (by decide) fwd19 (i := 0) (r := seg19) rfl (by decide) (by decide) ok19 (fun i h => by
    have : i = 0 := by have : i < 1 := h; omega
    subst this; show Fit 3; decide)
  have h2 := LPrice_out (cur := ⟨⟨[]⟩⟩) (f := 0) (t := 9) (ms := [⟨⟨⟨[109]⟩⟩, ⟨⟨[]⟩⟩, 3, 0, 0⟩]) (d := 10) (b := [3]) (by decide) fwd19 (.inr (by decide))
  rw [look19] at h1
  simp -implicitDefEqProofs only [rowX19] at h1 h2
  refine CallW_intro comp_poundagelaw19_alive (by simp) ?_
  simp -implicitDefEqProofs -proj only [go_sem, Nat.reduceBEq, Nat.reduceLT, Nat.reduceLeDiff, Nat.reduceAdd, Nat.reduceMul, ↓reduceIte, Int.reduceToNat, Int.reducePow, Int.reduceLT, Int.reduceLE, Int.reduceAdd, Int.reduceSub, Int.reduceMul, Int.reduceEq, Int.reduceNe]
  refine AllocR_intro (fun b7 h7 => ?_)
  simp -implicitDefEqProofs -proj only [go_sem, Nat.reduceBEq, Nat.reduceLT, Nat.reduceLeDiff, Nat.reduceAdd, Nat.reduceMul, ↓reduceIte, Int.reduceToNat, Int.reducePow, Int.reduceLT, Int.reduceLE, Int.reduceAdd, Int.reduceSub, Int.reduceMul, Int.reduceEq, Int.reduceNe]
  refine AllocR_intro (fun b9 h9 => ?_)
  replace h9 : upd Heap.none b7 (some _) b9 = none := h9
  obtain ⟨n1, n2⟩ := fresh_ne h9 upd_eq
  simp -implicitDefEqProofs -proj only [go_sem, Nat.reduceBEq, Nat.reduceLT, Nat.reduceLeDiff, Nat.reduceAdd, Nat.reduceMul, ↓reduceIte, Int.reduceToNat, Int.reducePow, Int.reduceLT, Int.reduceLE, Int.reduceAdd, Int.reduceSub, Int.reduceMul, Int.reduceEq, Int.reduceNe, n1, n2]
  refine AllocR_intro (fun b11 h11 => ?_)
  replace h11 : upd (upd Heap.none b7 (some _)) b9 _ b11 = none := h11
  obtain ⟨n3, n4⟩ := fresh_ne h11 (by rw [upd_ne n1]; exact upd_eq)
  simp -implicitDefEqProofs -proj only [go_sem, Nat.reduceBEq, Nat.reduceLT, Nat.reduceLeDiff, Nat.reduceAdd, Nat.reduceMul, ↓reduceIte, Int.reduceToNat, Int.reducePow, Int.reduceLT, Int.reduceLE, Int.reduceAdd, Int.reduceSub, Int.reduceMul, Int.reduceEq, Int.reduceNe, n1, n2, n3, n4]
  refine AllocR_intro (fun b13 h13 => ?_)
  replace h13 : upd (upd (upd Heap.none b7 (some (.row 54 5 1 [[.str ⟨⟨[109]⟩⟩, .str ⟨⟨[]⟩⟩, .int .i64 3, .int .i64 0, .int .i64 0]]))) b9 none) b11 none b13 = none := h13
  have A0 : AllH (upd (upd (upd Heap.none b7 (some (.row 54 5 1 [[.str ⟨⟨[109]⟩⟩, .str ⟨⟨[]⟩⟩, .int .i64 3, .int .i64 0, .int .i64 0]]))) b9 none) b11 none) [(b7, .row 54 5 1 [[.str ⟨⟨[109]⟩⟩, .str ⟨⟨[]⟩⟩, .int .i64 3, .int .i64 0, .int .i64 0]])] := ⟨(upd_ne n3).trans ((upd_ne n1).trans upd_eq), trivial⟩
  obtain ⟨H0, hH0⟩ : ∃ H0, upd (upd (upd Heap.none b7 (some (.row 54 5 1 [[.str ⟨⟨[109]⟩⟩, .str ⟨⟨[]⟩⟩, .int .i64 3, .int .i64 0, .int .i64 0]]))) b9 none) b11 none = H0 := ⟨_, rfl⟩
  rw [hH0] at A0 h13
  have A1 := alloc_all (x := .row 41 4 1 [[.int .i64 0, .int .i64 9, .int .i64 5, .sl 2 [[.int .i64 3, .sl 5 [[.int .i64 0, .int .i64 0, .int .i64 1, .int .i64 2, .int .i64 4]]]]]]) h13 A0
  simp -implicitDefEqProofs -proj only [go_sem, Nat.reduceBEq, Nat.reduceLT, Nat.reduceLeDiff, Nat.reduceAdd, Nat.reduceMul, ↓reduceIte, Int.reduceToNat, Int.reducePow, Int.reduceLT, Int.reduceLE, Int.reduceAdd, Int.reduceSub, Int.reduceMul, Int.reduceEq, Int.reduceNe, hH0]
  refine AllocA_intro (fun b1 hb1 => ?_)
  replace hb1 : upd H0 b13 _ b1 = none := hb1
  have A2 := alloc_all (x := .box 32 [.d (.str ⟨⟨[]⟩⟩), i64 0, i64 9, .own b7 5 0 1 1, .own b13 4 0 1 1]) hb1 A1
  simp -implicitDefEqProofs -proj only [go_sem, Nat.reduceBEq, Nat.reduceLT, Nat.reduceLeDiff, Nat.reduceAdd, Nat.reduceMul, ↓reduceIte, Int.reduceToNat, Int.reducePow, Int.reduceLT, Int.reduceLE, Int.reduceAdd, Int.reduceSub, Int.reduceMul, Int.reduceEq, Int.reduceNe]
  refine AllocR_intro (fun b17 hb17 => ?_)
  replace hb17 : upd (upd H0 b13 (some (.row 41 4 1 [[.int .i64 0, .int .i64 9, .int .i64 5, .sl 2 [[.int .i64 3, .sl 5 [[.int .i64 0, .int .i64 0, .int .i64 1, .int .i64 2, .int .i64 4]]]]]]))) b1 (some (.box 32 [.d (.str ⟨⟨[]⟩⟩), i64 0, i64 9, .own b7 5 0 1 1, .own b13 4 0 1 1])) b17 = none := hb17
  have A3 := alloc_all (x := .row 3 1 1 [[.int .i64 3]]) hb17 A2
  obtain ⟨H2, hH2⟩ : ∃ H2, upd (upd (upd H0 b13 (some (.row 41 4 1 [[.int .i64 0, .int .i64 9, .int .i64 5, .sl 2 [[.int .i64 3, .sl 5 [[.int .i64 0, .int .i64 0, .int .i64 1, .int .i64 2, .int .i64 4]]]]]]))) b1 (some (.box 32 [.d (.str ⟨⟨[]⟩⟩), i64 0, i64 9, .own b7 5 0 1 1, .own b13 4 0 1 1]))) b17 (some (.row 3 1 1 [[.int .i64 3]])) = H2 := ⟨_, rfl⟩
  rw [hH2] at A3
  obtain ⟨q17, q1, q13, q7, _⟩ := id A3
  simp -implicitDefEqProofs -proj only [go_sem, Nat.reduceBEq, Nat.reduceLT, Nat.reduceLeDiff, Nat.reduceAdd, Nat.reduceMul, ↓reduceIte, Int.reduceToNat, Int.reducePow, Int.reduceLT, Int.reduceLE, Int.reduceAdd, Int.reduceSub, Int.reduceMul, Int.reduceEq, Int.reduceNe, hH2]
  have lf : ∀ H : Heap, H b7 = some (.row 54 5 1 [[.str ⟨⟨[109]⟩⟩, .str ⟨⟨[]⟩⟩, .int .i64 3, .int .i64 0, .int .i64 0]]) → H b13 = some (.row 41 4 1 [[.int .i64 0, .int .i64 9, .int .i64 5, .sl 2 [[.int .i64 3, .sl 5 [[.int .i64 0, .int .i64 0, .int .i64 1, .int .i64 2, .int .i64 4]]]]]]) → LendV H (.agg [.d (.str ⟨⟨[]⟩⟩), i64 0, i64 9, .own b7 5 0 1 1, .own b13 4 0 1 1]) (.agg [.d (.str ⟨⟨[]⟩⟩), i64 0, i64 9, .d (.sl 5 (rowM [⟨⟨⟨[109]⟩⟩, ⟨⟨[]⟩⟩, 3, 0, 0⟩])), .d (.sl 4 [[.int .i64 0, .int .i64 9, .int .i64 5, .sl 2 [[.int .i64 3, .sl 5 [[.int .i64 0, .int .i64 0, .int .i64 1, .int .i64 2, .int .i64 4]]]]]])]) := fun H a b => by
    refine .agg _ _ rfl fun j u v e1 e2 => ?_
    match j with
    | 0 => cases e1; cases e2; exact .refl _
    | 1 => cases e1; cases e2; exact .refl _
    | 2 => cases e1; cases e2; exact .refl _
    | 3 => cases e1; cases e2; exact lend_own a rfl
    | 4 => cases e1; cases e2; exact lend_own b rfl
    | j + 5 => cases e1
  refine CallA_lend h1 (lend_cons (lf _ q7 q13) (lend_cons (.refl _) (lend_cons (lend_own q17 rfl) lend_nil))) rfl ?_
  simp -implicitDefEqProofs -proj only [go_sem, Nat.reduceBEq, Nat.reduceLT, Nat.reduceLeDiff, Nat.reduceAdd, Nat.reduceMul, ↓reduceIte, Int.reduceToNat, Int.reducePow, Int.reduceLT, Int.reduceLE, Int.reduceAdd, Int.reduceSub, Int.reduceMul, Int.reduceEq, Int.reduceNe, q1]
  refine AllocR_intro (fun b23 hb23 => ?_)
  replace hb23 : H2 b23 = none := hb23
  have A4 := alloc_all (x := .row 3 1 1 [[.int .i64 3]]) hb23 A3
  obtain ⟨H3, hH3⟩ : ∃ H3, upd H2 b23 (some (.row 3 1 1 [[.int .i64 3]])) = H3 := ⟨_, rfl⟩
  rw [hH3] at A4
  obtain ⟨r23, r17, r1, r13, r7, _⟩ := id A4
  simp -implicitDefEqProofs -proj only [go_sem, Nat.reduceBEq, Nat.reduceLT, Nat.reduceLeDiff, Nat.reduceAdd, Nat.reduceMul, ↓reduceIte, Int.reduceToNat, Int.reducePow, Int.reduceLT, Int.reduceLE, Int.reduceAdd, Int.reduceSub, Int.reduceMul, Int.reduceEq, Int.reduceNe, hH3]
  refine CallA_lend h2 (lend_cons (lf _ r7 r13) (lend_cons (.refl _) (lend_cons (lend_own r23 rfl) lend_nil))) rfl ?_
  simp -implicitDefEqProofs -proj only [go_sem, Nat.reduceBEq, Nat.reduceLT, Nat.reduceLeDiff, Nat.reduceAdd, Nat.reduceMul, ↓reduceIte, Int.reduceToNat, Int.reducePow, Int.reduceLT, Int.reduceLE, Int.reduceAdd, Int.reduceSub, Int.reduceMul, Int.reduceEq, Int.reduceNe, decide_true]
  exact LendV_eq rfl
theorem spans_len {c : CoreX} (hg : goodC c) : (spansF c).length ≤ 1000000 := by
  have h := (spans_fwd hg).len
  have := hg.hd.2.2.1
  omega
/-- A day of the horizon has a span, and one alone. -/
theorem spans_find {c : CoreX} (hf : fitsC c) {d : Int} (h : c.f ≤ d ∧ d ≤ c.t) : ∃ (i : Nat) (r : Seg DayV), (spansF c)[i]? = some r ∧ r.f ≤ d ∧ d ≤ r.t ∧ r.v = dayV c d ∧ okV r.v ∧ c.ms.length = r.v.2.length := by
  have hw := spans_fwd hf.good
  obtain ⟨i, r, h1, h2, h3⟩ := hw.find h.1 (by omega)
  have h4 := (hw.nth i r h1).2.2.2.1 d h2 h3
  refine ⟨i, r, h1, h2, h3, h4.symm, by rw [← h4]; exact dayV_ok hf d, ?_⟩
  rw [← h4]
  exact dayLs_len.symm
theorem oneF_monoR {a : Adj} {x x' y y' : Int} (hn : 0 ≤ a.n) (hx : x ≤ x') (h : oneF a x = some y) (h' : oneF a x' = some y') : y ≤ y' := by
  unfold oneF at h h'
  split at h
  · next hk =>
    rw [if_pos hk] at h'
    obtain ⟨_, rfl, hc, hm⟩ := mdO_fit h
    obtain ⟨_, rfl, _⟩ := mdO_fit h'
    exact rnd_mono hc hm (Int.mul_le_mul_of_nonneg_right hx hn)
  · next hk =>
    rw [if_neg hk] at h'
    split at h
    · next hk => rw [if_pos hk] at h'; cases h; cases h'; omega
    · next hk =>
      rw [if_neg hk] at h'
      split at h
      · next hk => rw [if_pos hk] at h'; cases h; cases h'; omega
      · next hk =>
        rw [if_neg hk] at h'
        split at h
        · next hk =>
          rw [if_pos hk] at h'
          obtain ⟨_, rfl⟩ := fitO_fit h
          obtain ⟨_, rfl⟩ := fitO_fit h'
          omega
        · cases h
theorem allF_monoR {l : List Adj} {x x' y y' : Int} (hn : ∀ a ∈ l, 0 ≤ a.n) (hx : x ≤ x') (h : allF x l = some y) (h' : allF x' l = some y') : y ≤ y' := by
  induction l generalizing x x' with
  | nil => cases h; cases h'; exact hx
  | cons a l ih =>
    rw [allF] at h h'
    cases ho : oneF a x with
    | none => rw [ho] at h; cases h
    | some u =>
      cases ho' : oneF a x' with
      | none => rw [ho'] at h'; cases h'
      | some u' =>
        rw [ho] at h; rw [ho'] at h'
        exact ih (fun b hb => hn b (List.mem_cons_of_mem _ hb)) (oneF_monoR (hn a (List.mem_cons_self ..)) hx ho ho') h h'
theorem grad_riseR {T : List Tier} {m n : Int} (h : Srt T) (hmn : m ≤ n) : tot (gradL T m) ≤ tot (gradL T n) := by
  rw [gradL_ref h, gradL_ref h, refL, refL, tot_ref, tot_ref]
  exact gsum_mono h hmn _ (Nat.le_refl _)
theorem left_monoR {x : PartX} {q q' : Int} (hb : 1 ≤ x.bl) (h : q ≤ q') : leftI x q ≤ leftI x q' := by
  unfold leftI
  refine Int.mul_le_mul_of_nonneg_right ?_ (by omega)
  exact rnd_mono (by omega) (by decide) (by omega)
/-- What a charge that there is comes of. -/
theorem charge_ofR {x : PartX} {q a : Int} (S : Srt x.ts) (hm : 0 ≤ x.mo ∧ x.mo ≤ 3) (h : chargeO x q = some a) : 0 ≤ q ∧ Fit (leftI x q) ∧ a = rnd (tot (stepsL x (leftI x q))) 1000000 x.mo := by
  unfold chargeO at h
  rw [micro_eq S] at h
  by_cases h1 : q < 0
  · rw [if_pos h1] at h; cases h
  · rw [if_neg h1] at h
    by_cases h2 : Fit (leftI x q)
    · rw [if_pos h2] at h
      split at h
      · next n hn =>
        split at hn
        · cases hn
          unfold mdO at h
          rw [if_pos ⟨by decide, hm⟩] at h
          unfold fitO at h
          split at h
          · cases h; exact ⟨by omega, h2, rfl⟩
          · cases h
        · cases hn
      · cases h
    · rw [if_neg h2] at h; cases h
theorem pv_mono {c : CoreX} (hf : fitsC c) {x : PartX} (hx : x ∈ c.ps) (hk : x.ki = 1) {q q' : Int} (h0 : 0 ≤ q) (hq : q ≤ q') (hm : q' ≤ mxAt c.ms x.me) : pv x q ≤ pv x q' := by
  obtain ⟨e1, _⟩ := part_bnd hf hx h0 (by omega)
  obtain ⟨e2, _⟩ := part_bnd hf hx (show 0 ≤ q' by omega) hm
  have hok := hf.good.ps x hx
  have G := goodX_of hok
  have S := srt_of G.ts
  unfold partO at e1 e2
  cases k1 : chargeO x q with
  | none => rw [k1] at e1; cases e1
  | some a =>
    cases k2 : chargeO x q' with
    | none => rw [k2] at e2; cases e2
    | some b =>
      rw [k1] at e1; rw [k2] at e2
      obtain ⟨_, _, ea⟩ := charge_ofR S G.mo k1
      obtain ⟨_, _, eb⟩ := charge_ofR S G.mo k2
      have hle := left_monoR (x := x) G.bl.1 hq
      have hab : a ≤ b := by
        rw [ea, eb]
        refine rnd_mono (by decide) G.mo ?_
        rw [show stepsL x (leftI x q) = gradL x.ts (leftI x q) from if_neg (by omega), show stepsL x (leftI x q') = gradL x.ts (leftI x q') from if_neg (by omega)]
        exact grad_riseR S hle
      have hn : ∀ a ∈ x.ad, 0 ≤ a.n := fun a ha => by
        have := G.ad a ha
        unfold adjOK at this
        omega
      exact allF_monoR hn hab e1 e2
theorem dayQ_mono {c : CoreX} (hf : fitsC c) (hk : ∀ x ∈ c.ps, x.ki = 1) (d : Int) {m : Nat} (hm : m < c.ms.length) {q q' : Int} (h0 : 0 ≤ q) (hq : q ≤ q') (h1 : q' ≤ c.ms[m].mx) : dayQ c d m q ≤ dayQ c d m q' := by
  unfold dayQ
  refine sg_le fun j hj => ?_
  unfold riseAt
  rw [List.getElem?_eq_getElem hj]
  simp -implicitDefEqProofs only []
  have hx := List.getElem_mem hj
  have hkx := hk _ hx
  generalize c.ps[j] = x at *
  by_cases hon : x.me = m ∧ inW d x.f x.t
  · rw [if_pos hon, if_pos hon]
    have hmx : mxAt c.ms x.me = c.ms[m].mx := by rw [hon.1]; exact mxAt_eq hm
    have := pv_mono hf hx hkx h0 hq (by omega)
    omega
  · rw [if_neg hon, if_neg hon]; exact Int.le_refl _
theorem valO_mono {c : CoreX} (hf : fitsC c) (hk : ∀ x ∈ c.ps, x.ki = 1) (d : Int) {l : List Int} {i : Nat} (hl : (dayV c d).2[i]? = some l) {q q' v v' : Int} (hq : q ≤ q') (h : valO l q = some v) (h' : valO l q' = some v') : v ≤ v' := by
  have hi : i < (dayV c d).2.length := (List.getElem?_eq_some_iff.1 hl).1
  have hi' : i < c.ms.length := by
    have : (dayV c d).2.length = c.ms.length := dayLs_len
    omega
  have e : (dayV c d).2[i] = dayL c d i c.ms[i].mx := dayLs_at hi' hi'
  rw [List.getElem?_eq_getElem hi, e] at hl
  cases hl
  have key : ∀ {z w : Int}, valO (dayL c d i c.ms[i].mx) z = some w → 0 ≤ z ∧ z ≤ c.ms[i].mx ∧ w = dayQ c d i z := by
    intro z w hz
    unfold valO at hz
    split at hz
    · next hb =>
      rw [dayL_len] at hb
      have hz' : z.toNat < (c.ms[i].mx + 1).toNat := by omega
      refine ⟨hb.1, by omega, ?_⟩
      have := dayL_at (c := c) (d := d) (m := i) hz'
      rw [Int.toNat_of_nonneg hb.1] at this
      rw [← this]
      cases hz
      rw [List.getD_eq_getElem?_getD, List.getElem?_eq_getElem (by rw [dayL_len]; exact hz'), Option.getD_some]
    · cases hz
  obtain ⟨a1, a2, rfl⟩ := key h
  obtain ⟨b1, b2, rfl⟩ := key h'
  exact dayQ_mono hf hk d hi' a1 hq b2
theorem lookN_mono {x : Int} {ls : List (List Int)} {b u : List Int} (h : ∀ (i : Nat) l q q' v v', ls[i]? = some l → b[i]? = some q → u[i]? = some q' → valO l q = some v → valO l q' = some v' → v ≤ v') : ∀ (i : Nat) n n', lookN x ls b i = some n → lookN x ls u i = some n' → n ≤ n'
  | 0, n, n', h1, h2 => by cases h1; cases h2; exact Int.le_refl _
  | i + 1, n, n', h1, h2 => by
    rw [lookN] at h1 h2
    split at h1
    · next m l q e1 e2 e3 =>
      split at h1
      · next v e4 =>
        cases h1
        split at h2
        · next m' l' q' f1 f2 f3 =>
          split at h2
          · next v' f4 =>
            cases h2
            have := lookN_mono h i m m' e1 f1
            rw [e2] at f2
            cases f2
            have := h i l q q' v v' e2 e3 f3 e4 f4
            omega
          · cases h2
        · cases h2
      · cases h1
    · cases h1
/-- More of a quantity. -/
def upB (b : List Int) (m : Nat) (more : Int) : List Int := b.set m (IntKind.i64.wrap (b.getD m 0 + more))
theorem upB_fit {b : List Int} {m : Nat} {more : Int} (h : AllFit b) : AllFit (upB b m more) := by
  unfold upB AllFit
  intro i hi
  rw [List.getElem_set]
  split
  · rw [IntKind.wrap_i64]; unfold Fit; omega
  · exact h i (by simpa using hi)
theorem look_rise {c : CoreX} (hf : fitsC c) (hk : ∀ x ∈ c.ps, x.ki = 1) (d : Int) {b : List Int} {m : Nat} {more : Int} (hm : m < b.length) (h0 : 0 ≤ more ∧ more ≤ 2000) : (lookF (dayV c d) b).2 = 0 → (lookF (dayV c d) (upB b m more)).2 = 0 → (lookF (dayV c d) b).1 ≤ (lookF (dayV c d) (upB b m more)).1 := by
  have hul : (upB b m more).length = b.length := by simp [upB]
  intro h1 h2
  unfold lookF at *
  rw [hul] at h2 ⊢
  by_cases g : b.length = (dayV c d).2.length
  rotate_left
  · rw [if_neg g] at h1; exact absurd h1 (by decide)
  rw [if_pos g] at h1 h2 ⊢
  rw [if_pos g]
  cases e1 : lookN (dayV c d).1 (dayV c d).2 b b.length with
  | none => rw [e1] at h1; exact absurd h1 (by decide)
  | some n =>
    cases e2 : lookN (dayV c d).1 (dayV c d).2 (upB b m more) b.length with
    | none => rw [e2] at h2; exact absurd h2 (by decide)
    | some n' =>
      simp -implicitDefEqProofs only []
      refine lookN_mono (fun i l q q' v v' k1 k2 k3 k4 k5 => ?_) _ n n' e1 e2
      by_cases hi : m = i
      · subst hi
        unfold upB at k3
        rw [List.getElem?_set_self hm] at k3
        have hgd : b.getD m 0 = q := by rw [List.getD_eq_getElem?_getD, k2]; rfl
        rw [hgd] at k3
        cases k3
        have hlen : l.length ≤ 2001 := ((dayV_ok hf d).c l (List.mem_of_getElem? k1)).2.1
        have hq : 0 ≤ q ∧ q < l.length := by
          unfold valO at k4
          split at k4
          · assumption
          · cases k4
        have w : IntKind.i64.wrap (q + more) = q + more := by rw [IntKind.wrap_i64]; omega
        rw [w] at k5
        exact valO_mono hf hk d k1 (by omega) k4 k5
      · unfold upB at k3
        rw [List.getElem?_set_ne hi, k2] at k3
        cases k3
        rw [k4] at k5
        cases k5
        exact Int.le_refl _
set_option maxHeartbeats 4000000 in
theorem LookupRise_ok {c : CoreX} {d m more : Int} {b : List Int} (hc : c.Fit) (hd : Fit d) (hfb : AllFit b) (hbn : b.length ≤ 9223372036854775807) (hm : Fit m) (hmo : Fit more) : DataW Try.prog f_poundagelaw19_LookupRise [coreX c, i64 d, slI b, i64 m, i64 more] (bv true) := by
  have hft := RFits_ok hc
  refine CallW_intro comp_poundagelaw19_LookupRise (by simp) ?_
  simp -implicitDefEqProofs -proj only [go_sem, Nat.reduceBEq, Nat.reduceLT, Nat.reduceLeDiff, Nat.reduceAdd, Nat.reduceMul, ↓reduceIte, Int.reduceToNat, Int.reducePow, Int.reduceLT, Int.reduceLE, Int.reduceAdd, Int.reduceSub, Int.reduceMul, Int.reduceEq, Int.reduceNe]
  refine AllocA_intro (fun b5 hb5 => ?_)
  simp -implicitDefEqProofs -proj only [go_sem, Nat.reduceBEq, Nat.reduceLT, Nat.reduceLeDiff, Nat.reduceAdd, Nat.reduceMul, ↓reduceIte, Int.reduceToNat, Int.reducePow, Int.reduceLT, Int.reduceLE, Int.reduceAdd, Int.reduceSub, Int.reduceMul, Int.reduceEq, Int.reduceNe]
  refine CallA_pure alive19_ok ?_
  simp -implicitDefEqProofs -proj only [go_sem, Nat.reduceBEq, Nat.reduceLT, Nat.reduceLeDiff, Nat.reduceAdd, Nat.reduceMul, ↓reduceIte, Int.reduceToNat, Int.reducePow, Int.reduceLT, Int.reduceLE, Int.reduceAdd, Int.reduceSub, Int.reduceMul, Int.reduceEq, Int.reduceNe]
  refine CallA_pure hft ?_
  by_cases g1 : fitsC c
  rotate_left
  · simp -implicitDefEqProofs -proj only [go_sem, Nat.reduceBEq, Nat.reduceLT, Nat.reduceLeDiff, Nat.reduceAdd, Nat.reduceMul, ↓reduceIte, Int.reduceToNat, Int.reducePow, Int.reduceLT, Int.reduceLE, Int.reduceAdd, Int.reduceSub, Int.reduceMul, Int.reduceEq, Int.reduceNe, decide_eq_false g1, Bool.not_false]
    exact LendV_eq rfl
  by_cases g2 : 100 < (b.length : Int)
  · simp -implicitDefEqProofs -proj only [go_sem, Nat.reduceBEq, Nat.reduceLT, Nat.reduceLeDiff, Nat.reduceAdd, Nat.reduceMul, ↓reduceIte, Int.reduceToNat, Int.reducePow, Int.reduceLT, Int.reduceLE, Int.reduceAdd, Int.reduceSub, Int.reduceMul, Int.reduceEq, Int.reduceNe, rowI_len, decide_eq_true g1, Bool.not_true, decide_eq_true g2]
    exact LendV_eq rfl
  by_cases g3 : m < 0
  · simp -implicitDefEqProofs -proj only [go_sem, Nat.reduceBEq, Nat.reduceLT, Nat.reduceLeDiff, Nat.reduceAdd, Nat.reduceMul, ↓reduceIte, Int.reduceToNat, Int.reducePow, Int.reduceLT, Int.reduceLE, Int.reduceAdd, Int.reduceSub, Int.reduceMul, Int.reduceEq, Int.reduceNe, rowI_len, decide_eq_true g1, Bool.not_true, decide_eq_false g2, decide_eq_true g3]
    exact LendV_eq rfl
  by_cases g4 : (b.length : Int) ≤ m
  · simp -implicitDefEqProofs -proj only [go_sem, Nat.reduceBEq, Nat.reduceLT, Nat.reduceLeDiff, Nat.reduceAdd, Nat.reduceMul, ↓reduceIte, Int.reduceToNat, Int.reducePow, Int.reduceLT, Int.reduceLE, Int.reduceAdd, Int.reduceSub, Int.reduceMul, Int.reduceEq, Int.reduceNe, rowI_len, decide_eq_true g1, Bool.not_true, decide_eq_false g2, decide_eq_false g3, decide_eq_true g4]
    exact LendV_eq rfl
  by_cases g5 : more < 0
  · simp -implicitDefEqProofs -proj only [go_sem, Nat.reduceBEq, Nat.reduceLT, Nat.reduceLeDiff, Nat.reduceAdd, Nat.reduceMul, ↓reduceIte, Int.reduceToNat, Int.reducePow, Int.reduceLT, Int.reduceLE, Int.reduceAdd, Int.reduceSub, Int.reduceMul, Int.reduceEq, Int.reduceNe, rowI_len, decide_eq_true g1, Bool.not_true, decide_eq_false g2, decide_eq_false g3, decide_eq_false g4, decide_eq_true g5]
    exact LendV_eq rfl
  by_cases g6 : 2000 < more
  · simp -implicitDefEqProofs -proj only [go_sem, Nat.reduceBEq, Nat.reduceLT, Nat.reduceLeDiff, Nat.reduceAdd, Nat.reduceMul, ↓reduceIte, Int.reduceToNat, Int.reducePow, Int.reduceLT, Int.reduceLE, Int.reduceAdd, Int.reduceSub, Int.reduceMul, Int.reduceEq, Int.reduceNe, rowI_len, decide_eq_true g1, Bool.not_true, decide_eq_false g2, decide_eq_false g3, decide_eq_false g4, decide_eq_false g5, decide_eq_true g6]
    exact LendV_eq rfl
  have hmk := RMake_ok hc g1
  have hw := spans_fwd g1.good
  have hsl := spans_len g1.good
  have hp8 := g1.good.hd.2.2.2.2.2
  obtain ⟨mn, rfl⟩ : ∃ mn : Nat, m = mn := ⟨m.toNat, by omega⟩
  have hmb : mn < b.length := by omega
  have hub : AllFit (upB b mn more) := upB_fit hfb
  simp -implicitDefEqProofs -proj only [go_sem, Nat.reduceBEq, Nat.reduceLT, Nat.reduceLeDiff, Nat.reduceAdd, Nat.reduceMul, ↓reduceIte, Int.reduceToNat, Int.reducePow, Int.reduceLT, Int.reduceLE, Int.reduceAdd, Int.reduceSub, Int.reduceMul, Int.reduceEq, Int.reduceNe, rowI_len, decide_eq_true g1, Bool.not_true, decide_eq_false g2, decide_eq_false g3, decide_eq_false g4, decide_eq_false g5, decide_eq_false g6, rowP_len]
  refine LoopA_k (fun i : Nat => i ≤ c.ps.length ∧ ∀ (j : Nat) (h : j < c.ps.length), j < i → c.ps[j].ki = 1) 97 (fun i => [(1, i64 d), (2, slI b), (3, i64 mn), (4, i64 more), (5, .ptr b5 0), (48, .d (.sl 9 (rowP c.ps))), (49, i64 c.ps.length), (50, i64 i)]) (fun _ => [(b5, coreB c)]) (fun i => c.ps.length - i) 0 ⟨Nat.zero_le _, fun j _ h => absurd h (Nat.not_lt_zero _)⟩ rfl ?_ ?_ ?_
  · simp -implicitDefEqProofs -proj only [go_sem, Nat.reduceBEq, Nat.reduceLT, Nat.reduceLeDiff, Nat.reduceAdd, Nat.reduceMul, ↓reduceIte, Int.reduceToNat, Int.reducePow, Int.reduceLT, Int.reduceLE, Int.reduceAdd, Int.reduceSub, Int.reduceMul, Int.reduceEq, Int.reduceNe, AllAt, rowP_len]
  · exact ⟨upd_eq, trivial⟩
  · rintro i ⟨hi, hs⟩
    have hk : AllH (keepH [(b5, coreB c)]) [(b5, coreB c)] := keepH_all (by simp [keys])
    have k5 := hk.1
    by_cases h : i < c.ps.length
    · have hel := rowP_at h
      have hgo : c.ps[i].ki = 1 → ∀ (j : Nat) (h : j < c.ps.length), j < i + 1 → c.ps[j].ki = 1 := fun e j h1 h2 => by
        by_cases hj : j = i
        · subst hj; exact e
        · exact hs j h1 (by omega)
      generalize c.ps[i] = x at *
      simp -implicitDefEqProofs -proj only [go_sem, Nat.reduceBEq, Nat.reduceLT, Nat.reduceLeDiff, Nat.reduceAdd, Nat.reduceMul, ↓reduceIte, Int.reduceToNat, Int.reducePow, Int.reduceLT, Int.reduceLE, Int.reduceAdd, Int.reduceSub, Int.reduceMul, Int.reduceEq, Int.reduceNe, decide_eq_true (show (i : Int) < c.ps.length by omega)]
      refine ElemA_at _ (by omega) hel ?_
      simp -implicitDefEqProofs -proj only [go_sem, Nat.reduceBEq, Nat.reduceLT, Nat.reduceLeDiff, Nat.reduceAdd, Nat.reduceMul, ↓reduceIte, Int.reduceToNat, Int.reducePow, Int.reduceLT, Int.reduceLE, Int.reduceAdd, Int.reduceSub, Int.reduceMul, Int.reduceEq, Int.reduceNe]
      refine AllocA_intro (fun b12 hb12 => ?_)
      by_cases c1 : x.ki = 1
      · simp -implicitDefEqProofs -proj only [go_sem, Nat.reduceBEq, Nat.reduceLT, Nat.reduceLeDiff, Nat.reduceAdd, Nat.reduceMul, ↓reduceIte, Int.reduceToNat, Int.reducePow, Int.reduceLT, Int.reduceLE, Int.reduceAdd, Int.reduceSub, Int.reduceMul, Int.reduceEq, Int.reduceNe, decide_eq_true c1, Bool.not_true]
        refine LoopQ_k (i + 1) ⟨by omega, hgo c1⟩ (by show c.ps.length - (i + 1) < c.ps.length - i; omega) rfl ?_ (AllH_upd hb12 hk)
        simp -implicitDefEqProofs -proj only [go_sem, Nat.reduceBEq, Nat.reduceLT, Nat.reduceLeDiff, Nat.reduceAdd, Nat.reduceMul, ↓reduceIte, Int.reduceToNat, Int.reducePow, Int.reduceLT, Int.reduceLE, Int.reduceAdd, Int.reduceSub, Int.reduceMul, Int.reduceEq, Int.reduceNe, AllAt, i64_succ (show i < 9223372036854775807 by omega)]
      · simp -implicitDefEqProofs -proj only [go_sem, Nat.reduceBEq, Nat.reduceLT, Nat.reduceLeDiff, Nat.reduceAdd, Nat.reduceMul, ↓reduceIte, Int.reduceToNat, Int.reducePow, Int.reduceLT, Int.reduceLE, Int.reduceAdd, Int.reduceSub, Int.reduceMul, Int.reduceEq, Int.reduceNe, decide_eq_false c1, Bool.not_false]
        exact LendV_eq rfl
    · have hi' : i = c.ps.length := by omega
      subst hi'
      have hall : ∀ x ∈ c.ps, x.ki = 1 := fun x hx => by
        obtain ⟨j, hj, rfl⟩ := List.getElem_of_mem hx
        exact hs j hj hj
      obtain ⟨p, hp1, hp2, hp3⟩ : ∃ p : (Int × Int) × (Int × Int), DataW Try.prog f_lookup_Price [formV c.cur c.f c.t c.ms (spansF c), i64 d, slI b] (.tup [i64 p.1.1, i64 p.1.2]) ∧ DataW Try.prog f_lookup_Price [formV c.cur c.f c.t c.ms (spansF c), i64 d, slI (upB b mn more)] (.tup [i64 p.2.1, i64 p.2.2]) ∧ (p.1.2 = 0 → p.2.2 = 0 → p.1.1 ≤ p.2.1) := by
        by_cases hin : c.f ≤ d ∧ d ≤ c.t
        · obtain ⟨i, r, h1, h2, h3, h4, h5, h6⟩ := spans_find g1 hin
          refine ⟨(lookF r.v b, lookF r.v (upB b mn more)), LPrice_in hsl hw h1 h2 h3 h5 hfb, LPrice_in hsl hw h1 h2 h3 h5 hub, ?_⟩
          rw [h4]
          exact look_rise g1 hall d hmb (by omega)
        · have ho : d < c.f ∨ c.t + 1 ≤ d := by omega
          exact ⟨((0, 8), (0, 8)), LPrice_out hsl hw ho, LPrice_out hsl hw ho, fun h => absurd h (by decide)⟩
      obtain ⟨⟨n, e⟩, ⟨n', e'⟩⟩ := p
      simp -implicitDefEqProofs only [] at hp1 hp2 hp3
      generalize spansF c = S at *
      simp -implicitDefEqProofs -proj only [go_sem, Nat.reduceBEq, Nat.reduceLT, Nat.reduceLeDiff, Nat.reduceAdd, Nat.reduceMul, ↓reduceIte, Int.reduceToNat, Int.reducePow, Int.reduceLT, Int.reduceLE, Int.reduceAdd, Int.reduceSub, Int.reduceMul, Int.reduceEq, Int.reduceNe, k5, decide_eq_false (show ¬ (c.ps.length : Int) < c.ps.length by omega)]
      refine CallA_pure hmk ?_
      simp -implicitDefEqProofs -proj only [go_sem, Nat.reduceBEq, Nat.reduceLT, Nat.reduceLeDiff, Nat.reduceAdd, Nat.reduceMul, ↓reduceIte, Int.reduceToNat, Int.reducePow, Int.reduceLT, Int.reduceLE, Int.reduceAdd, Int.reduceSub, Int.reduceMul, Int.reduceEq, Int.reduceNe]
      refine AllocA_intro (fun b13 hb13 => ?_)
      replace hb13 : keepH [(b5, coreB c)] b13 = none := hb13
      obtain ⟨x1, x2⟩ := fresh_ne hb13 k5
      have A1 := alloc_all (x := .box 32 [.d (.str c.cur), i64 c.f, i64 c.t, .d (.sl 5 (rowM c.ms)), slX S]) hb13 hk
      simp -implicitDefEqProofs -proj only [go_sem, Nat.reduceBEq, Nat.reduceLT, Nat.reduceLeDiff, Nat.reduceAdd, Nat.reduceMul, ↓reduceIte, Int.reduceToNat, Int.reducePow, Int.reduceLT, Int.reduceLE, Int.reduceAdd, Int.reduceSub, Int.reduceMul, Int.reduceEq, Int.reduceNe]
      refine CallA_pure hp1 ?_
      simp -implicitDefEqProofs -proj only [go_sem, Nat.reduceBEq, Nat.reduceLT, Nat.reduceLeDiff, Nat.reduceAdd, Nat.reduceMul, ↓reduceIte, Int.reduceToNat, Int.reducePow, Int.reduceLT, Int.reduceLE, Int.reduceAdd, Int.reduceSub, Int.reduceMul, Int.reduceEq, Int.reduceNe]
      refine AllocR_intro (fun b67 hb67 => ?_)
      obtain ⟨y1, y2⟩ := fresh_ne hb67 A1.1
      simp -implicitDefEqProofs -proj only [go_sem, Nat.reduceBEq, Nat.reduceLT, Nat.reduceLeDiff, Nat.reduceAdd, Nat.reduceMul, ↓reduceIte, Int.reduceToNat, Int.reducePow, Int.reduceLT, Int.reduceLE, Int.reduceAdd, Int.reduceSub, Int.reduceMul, Int.reduceEq, Int.reduceNe]
      have A2 := AllH_upd (y := some (.row 3 1 0 [])) hb67 A1
      refine AppendA_ext (xs := []) upd_eq rfl (by rfl) (by rw [rowI_len]; constructor <;> simp [maxLen] <;> omega) (fun bu capu Hu hu hfr => ?_)
      rw [List.nil_append] at hu
      obtain ⟨z1, z2, z3⟩ := hfr b13 _ A2.1 y2
      have hge := rowI_at (List.getElem?_eq_getElem hmb)
      have hgd : b[mn] = b.getD mn 0 := by rw [List.getD_eq_getElem?_getD, List.getElem?_eq_getElem hmb, Option.getD_some]
      have hset : (rowI b).set mn [.int .i64 (IntKind.i64.wrap (b[mn] + more))] = rowI (upB b mn more) := by unfold upB; rw [← hgd]; simp [rowI, List.map_set]
      simp -implicitDefEqProofs -proj only [go_sem, Nat.reduceBEq, Nat.reduceLT, Nat.reduceLeDiff, Nat.reduceAdd, Nat.reduceMul, ↓reduceIte, Int.reduceToNat, Int.reducePow, Int.reduceLT, Int.reduceLE, Int.reduceAdd, Int.reduceSub, Int.reduceMul, Int.reduceEq, Int.reduceNe, rowI_len]
      refine VC_intro ⟨by omega, by omega⟩ (fun _ => ?_)
      simp -implicitDefEqProofs -proj only [go_sem, Nat.reduceBEq, Nat.reduceLT, Nat.reduceLeDiff, Nat.reduceAdd, Nat.reduceMul, ↓reduceIte, Int.reduceToNat, Int.reducePow, Int.reduceLT, Int.reduceLE, Int.reduceAdd, Int.reduceSub, Int.reduceMul, Int.reduceEq, Int.reduceNe, Int.toNat_natCast, hu]
      refine IdxE_1 _ hge (by simp) ?_
      simp -implicitDefEqProofs -proj only [go_sem, Nat.reduceBEq, Nat.reduceLT, Nat.reduceLeDiff, Nat.reduceAdd, Nat.reduceMul, ↓reduceIte, Int.reduceToNat, Int.reducePow, Int.reduceLT, Int.reduceLE, Int.reduceAdd, Int.reduceSub, Int.reduceMul, Int.reduceEq, Int.reduceNe, Int.toNat_natCast]
      refine VC_intro ⟨by omega, by omega⟩ (fun _ => ?_)
      refine StoreE_1 hu hge (by simp) ?_
      simp -implicitDefEqProofs -proj only [go_sem, Nat.reduceBEq, Nat.reduceLT, Nat.reduceLeDiff, Nat.reduceAdd, Nat.reduceMul, ↓reduceIte, Int.reduceToNat, Int.reducePow, Int.reduceLT, Int.reduceLE, Int.reduceAdd, Int.reduceSub, Int.reduceMul, Int.reduceEq, Int.reduceNe, setSegD, hset, z1, z2, z3]
      have hul : b.length = (rowI (upB b mn more)).length := by rw [rowI_len]; simp [upB]
      refine CallA_lend hp2 (lend_cons (.refl _) (lend_cons (.refl _) (lend_cons (lend_own upd_eq hul) lend_nil))) rfl ?_
      by_cases e1 : e = 0
      rotate_left
      · simp -implicitDefEqProofs -proj only [go_sem, Nat.reduceBEq, Nat.reduceLT, Nat.reduceLeDiff, Nat.reduceAdd, Nat.reduceMul, ↓reduceIte, Int.reduceToNat, Int.reducePow, Int.reduceLT, Int.reduceLE, Int.reduceAdd, Int.reduceSub, Int.reduceMul, Int.reduceEq, Int.reduceNe, decide_eq_false e1, Bool.not_false]
        exact LendV_eq rfl
      by_cases e2 : e' = 0
      rotate_left
      · simp -implicitDefEqProofs -proj only [go_sem, Nat.reduceBEq, Nat.reduceLT, Nat.reduceLeDiff, Nat.reduceAdd, Nat.reduceMul, ↓reduceIte, Int.reduceToNat, Int.reducePow, Int.reduceLT, Int.reduceLE, Int.reduceAdd, Int.reduceSub, Int.reduceMul, Int.reduceEq, Int.reduceNe, decide_eq_true e1, Bool.not_true, decide_eq_false e2, Bool.not_false]
        exact LendV_eq rfl
      simp -implicitDefEqProofs -proj only [go_sem, Nat.reduceBEq, Nat.reduceLT, Nat.reduceLeDiff, Nat.reduceAdd, Nat.reduceMul, ↓reduceIte, Int.reduceToNat, Int.reducePow, Int.reduceLT, Int.reduceLE, Int.reduceAdd, Int.reduceSub, Int.reduceMul, Int.reduceEq, Int.reduceNe, decide_eq_true e1, decide_eq_true e2, Bool.not_true, decide_eq_true (hp3 e1 e2)]
      exact LendV_eq rfl
end Go.Proofs.Ytnldlmlnedamlaa.Abs
