/- The law ExtremeSums. No claim stands here. -/
import Derived.Test.YthamjpioodlckaaKSum20
set_option linter.unusedSimpArgs false
set_option linter.unusedVariables false
namespace Go.Proofs.Ythamjpioodlckaa.Abs
open Go Go.RowKit Go.Proofs
attribute [local go_sem] RunC_seq AF_n AF_r AF_b St_n St_t St_H Fst_mk Snd_mk RunC_ops RunC_cond RunC_block RunC_loop RunC_exit RunC_ret RunC_skip RunO_nil RunO_code RunO_code_ret RunO_code_exit RunO_blk RunO_blk_ret RunO_blk_exit RunL_nil RunL_guard GuardA_tt GuardA_ff GuardA_tf GuardA_ft GuardA_void CondA_t CondA_f PickA_t PickA_f RunL_mov RunL_pick RunL_alloc RunL_box RunL_load LoadA_ptr LoadB_1 LoadB_n LoadA_dptr LoadA_dptr_n RunL_store StoreA_ptr StoreB_box RunL_bin Bin_add Bin_sub Bin_mul Bin_quo Bin_rem Bin_shl Bin_shr Bin_andI Bin_orI Bin_xorI Bin_eql Bin_neq Bin_lss Bin_leq Bin_gtr Bin_geq RunL_binb Bin_beql Bin_bneq RunL_un UnA_not UnA_neg RunL_conv convV MapA_some RunL_nilCheck nilV RunL_mkfn RunL_fieldAddr faV RunL_field FieldA_1 FieldA_n RunL_elemAddr EAddrA_sl EAddrA_own EptrA_eq RunL_build BuildA_some RunL_extract ExtA_eq RunL_len lenV_sl lenV_nilsl lenV_own RunL_slen RunL_idxStr IdxSA_eq slenV RunL_minmax mmV minmaxL RunL_call RunL_callv CallvA_fn putS ev evL evO evP eqK eqKs EqB_agg RunL_eqAgg EqA_t EqA_f evQ buildC fits_agg cellsAV_agg fits_d cellsAV_d fits_nilp cellsAV_nilp fits_nilsl cellsAV_nilsl fits_nilfn cellsAV_nilfn fits_ptr cellsAV_ptr fits_eptr cellsAV_eptr fits_dptr cellsAV_dptr fits_own cellsAV_own fits_fn cellsAV_fn rowV_fits rowV_cells rowV_len lenAV setSeg nth seg mapD repeatL putT_get upd_get argT keepT_cons keepT_nil keepH_cons keepH_nil cond_true cond_false VC_true finW resW resL resOne LoopQ_exit LoopQ_ret List.cons_append List.nil_append Bool.not_true Bool.not_false Bool.and_true Bool.and_self Nat.lt_add_left_iff_pos Nat.zero_add Nat.add_zero List.drop_succ_cons List.drop_zero List.take_succ_cons List.take_zero beq_self_eq_true Bool.false_eq_true RunC_dops RunL_loadS RunL_loadD LoadDA_dptr RunL_storeS StoreSA_ptr RunL_pcall RunL_pcallv PCallvA_fn newsOk and_self and_true true_and loadW_ptr LoadK_1 LoadK_n upd_upd RunL_buildSlice BSliceA_some RunL_buildSliceD frzL frz cutL LoadA_eptr LoadE_row RunL_append RunL_slice SliceA_sl StoreA_eptr List.length_cons List.length_nil Nat.min_def Int.cast_ofNat_Int Int.natCast_zero Int.natCast_one decide_true decide_false List.getElem?_cons_zero List.getElem?_cons_succ RunC_rangef CallvA_yld putL_nil putL_cons RangeQ_exit RangeQ_ret
/-- A row of rows. -/
def cellL (l : List Int) : List D := [.sl 1 (rowI l)]
def rowL (ls : List (List Int)) : List (List D) := ls.map cellL
abbrev slL (ls : List (List Int)) : AV := .d (.sl 1 (rowL ls))
theorem rowL_len {ls : List (List Int)} : (rowL ls).length = ls.length := List.length_map ..
theorem rowL_nth {ls : List (List Int)} {i : Nat} (h : i < ls.length) : (rowL ls)[((i : Int)).toNat]? = some [.sl 1 (rowI ls[i])] := by
  rw [Int.toNat_natCast]; simp [rowL, h, cellL]
theorem typed_rowL {n : Nat} {l : List D} (h : typedW Try.prog (n + 2) 22 l) : ∃ zs : List Int, (AllFit zs ∧ zs.length ≤ 9223372036854775807) ∧ l = cellL zs := by
  obtain ⟨xs, rfl, h1, h2, _⟩ := typed_slice (e := 3) h (by kernel_rfl)
  obtain ⟨zs, rfl, h4⟩ := typed_rowI h2 (by kernel_rfl)
  rw [rowI_len] at h1
  have hc : Try.prog.cellsOf 3 = 1 := by kernel_rfl
  exact ⟨zs, ⟨h4, h1⟩, by rw [hc]; rfl⟩
theorem typed_rowsL {n : Nat} {l : List D} (h : typedW Try.prog (n + 3) 34 l) : ∃ zs : List (List Int), (∀ l ∈ zs, AllFit l ∧ l.length ≤ 9223372036854775807) ∧ zs.length ≤ 9223372036854775807 ∧ argAV Try.prog 34 l = slL zs := by
  obtain ⟨xs, rfl, h1, h2, h3⟩ := typed_slice (e := 22) h (by kernel_rfl)
  have hc : Try.prog.cellsOf 22 = 1 := by kernel_rfl
  have : ∃ zs : List (List Int), xs = rowL zs ∧ ∀ a ∈ zs, AllFit a ∧ a.length ≤ 9223372036854775807 := by
    clear h1 h3 h
    induction xs with
    | nil => exact ⟨[], rfl, fun a h => by cases h⟩
    | cons x xs ih =>
      obtain ⟨a, ha, rfl⟩ := typed_rowL (h2 x (List.mem_cons_self ..))
      obtain ⟨zs, rfl, hz⟩ := ih fun el h' => h2 el (List.mem_cons_of_mem _ h')
      refine ⟨a :: zs, rfl, fun b hb => ?_⟩
      rcases List.mem_cons.1 hb with rfl | hb
      · exact ha
      · exact hz b hb
  obtain ⟨zs, rfl, hz⟩ := this
  refine ⟨zs, hz, by rw [rowL_len] at h1; exact h1, by rw [h3, hc]⟩
structure EX where
  i : Nat
  c : Nat
  cap : Nat
  a : Int
  m : Int
  o : Int
theorem ex_i {i c cap : Nat} {a m o : Int} : (EX.mk i c cap a m o).i = i := (rfl)
theorem ex_c {i c cap : Nat} {a m o : Int} : (EX.mk i c cap a m o).c = c := (rfl)
theorem ex_cap {i c cap : Nat} {a m o : Int} : (EX.mk i c cap a m o).cap = cap := (rfl)
theorem ex_a {i c cap : Nat} {a m o : Int} : (EX.mk i c cap a m o).a = a := (rfl)
theorem ex_m {i c cap : Nat} {a m o : Int} : (EX.mk i c cap a m o).m = m := (rfl)
theorem ex_o {i c cap : Nat} {a m o : Int} : (EX.mk i c cap a m o).o = o := (rfl)
theorem rowC_sn {ls : List (List Int)} {l : List Int} : rowC ls ++ [[.int .i64 ((l.length : Int) - 1), .sl 5 (rowG (gps l))]] = rowC (ls ++ [l]) := by simp [rowC, cellC]
def mostN (l : List Int) : Int := (bestG gtB (gps l)).1
def leastN (l : List Int) : Int := (bestG ltB (gps l)).1
structure EInv (ls : List (List Int)) (y : EX) : Prop where
  i : y.i ≤ ls.length
  cur : ∀ l ∈ ls.take y.i, CurL l
  sm : sumF 0 ((ls.take y.i).map mostN) = some y.m
  so : sumF 0 ((ls.take y.i).map leastN) = some y.o
  le : y.o ≤ y.a ∧ y.a ≤ y.m
  b : -(y.i : Int) * 288230376151711744 ≤ y.o ∧ y.m ≤ (y.i : Int) * 288230376151711744
  nd : (keys (rowH 26 2 y.c y.cap (rowC (ls.take y.i)))).Nodup
theorem einv0 {ls : List (List Int)} : EInv ls ⟨0, 0, 0, 0, 0, 0⟩ :=
  ⟨Nat.zero_le _, fun l hl => by rw [ex_i, List.take_zero] at hl; (cases hl), rfl, rfl, by decide, by decide, by simp [keys, ex_i, rowC, rowH]⟩
theorem fresh_key {H : Heap} {b : Nat} (hb : H b = none) : ∀ {xs : List (Nat × Blk)}, AllH H xs → ∀ k ∈ keys xs, k ≠ b
  | [], _, k, hk => by cases hk
  | (c, x) :: xs, h, k, hk => by
    rcases List.mem_cons.1 hk with rfl | hk
    · intro e
      exact absurd (h.1.symm.trans ((congrArg H e).trans hb)) (by simp)
    · exact fresh_key hb h.2 k hk
theorem keys_one {H : Heap} {b : Nat} {x : Blk} {xs : List (Nat × Blk)} (hn : (keys xs).Nodup) (ha : AllH H xs) (hb : H b = none) : (keys (xs ++ [(b, x)])).Nodup := by
  have hk := fresh_key hb ha
  unfold keys at *
  rw [List.map_append, List.nodup_append]
  exact ⟨hn, by simp, fun a h1 c h2 => by rw [List.map_cons, List.map_nil, List.mem_singleton] at h2; rw [h2]; exact hk a h1⟩
theorem rowI_val {l : List Int} {q v : Int} (h1 : 0 ≤ q) (h2 : q < l.length) (h3 : valL 0 l q = v) : (rowI l)[q.toNat]? = some [.int .i64 v] := by
  have hq : q.toNat < l.length := by omega
  have := valL_get (f := 0) hq
  rw [show (0 : Int) + ((q.toNat : Nat) : Int) = q by omega, h3] at this
  rw [this]
  exact rowI_at (List.getElem?_eq_getElem hq)
theorem val_in {l : List Int} {q v : Int} (h1 : 0 ≤ q) (h2 : q < l.length) (h3 : valL 0 l q = v) {P : Int → Prop} (hP : ∀ (k : Nat) (h : k < l.length), P l[k]) : P v := by
  have hq : q.toNat < l.length := by omega
  have := valL_get (f := 0) hq
  rw [show (0 : Int) + ((q.toNat : Nat) : Int) = q by omega, h3] at this
  rw [this]
  exact hP _ hq
set_option maxRecDepth 20000 in
set_option maxHeartbeats 1000000 in
theorem ExtremeSums_ok {ls : List (List Int)} {ns : List Int} (hfl : ∀ l ∈ ls, AllFit l ∧ l.length ≤ 9223372036854775807) (hln : ls.length ≤ 9223372036854775807) (hfn : AllFit ns) (hnn : ns.length ≤ 9223372036854775807) : DataW Try.prog f_poundagelaw20_ExtremeSums [slL ls, slI ns] (bv true) := by
  refine CallW_intro comp_poundagelaw20_ExtremeSums (by simp) ?_
  simp -implicitDefEqProofs -proj only [go_sem, Nat.reduceBEq, Nat.reduceLT, Nat.reduceLeDiff, Nat.reduceAdd, Nat.reduceMul, ↓reduceIte, Int.reduceToNat, Int.reducePow, Int.reduceLT, Int.reduceLE, Int.reduceAdd, Int.reduceSub, Int.reduceMul, Int.reduceEq, Int.reduceNe]
  refine CallA_pure alive20_ok ?_
  by_cases g1 : 6 < (ls.length : Int)
  · simp -implicitDefEqProofs -proj only [go_sem, Nat.reduceBEq, Nat.reduceLT, Nat.reduceLeDiff, Nat.reduceAdd, Nat.reduceMul, ↓reduceIte, Int.reduceToNat, Int.reducePow, Int.reduceLT, Int.reduceLE, Int.reduceAdd, Int.reduceSub, Int.reduceMul, Int.reduceEq, Int.reduceNe, rowL_len, rowI_len, decide_eq_true g1]
    exact LendV_eq rfl
  by_cases g2 : (ns.length : Int) < ls.length
  · simp -implicitDefEqProofs -proj only [go_sem, Nat.reduceBEq, Nat.reduceLT, Nat.reduceLeDiff, Nat.reduceAdd, Nat.reduceMul, ↓reduceIte, Int.reduceToNat, Int.reducePow, Int.reduceLT, Int.reduceLE, Int.reduceAdd, Int.reduceSub, Int.reduceMul, Int.reduceEq, Int.reduceNe, rowL_len, rowI_len, decide_eq_false g1, decide_eq_true g2]
    exact LendV_eq rfl
  simp -implicitDefEqProofs -proj only [go_sem, Nat.reduceBEq, Nat.reduceLT, Nat.reduceLeDiff, Nat.reduceAdd, Nat.reduceMul, ↓reduceIte, Int.reduceToNat, Int.reducePow, Int.reduceLT, Int.reduceLE, Int.reduceAdd, Int.reduceSub, Int.reduceMul, Int.reduceEq, Int.reduceNe, rowL_len, rowI_len, decide_eq_false g1, decide_eq_false g2]
  refine LoopA_k (EInv ls) 176 (fun y => [(1, slI ns), (35, slL ls), (36, i64 ls.length), (37, i64 y.i), (5, rowV 0 2 y.c y.cap (rowC (ls.take y.i))), (6, i64 y.a), (7, i64 y.m), (8, i64 y.o)]) (fun y => rowH 26 2 y.c y.cap (rowC (ls.take y.i))) (fun y => ls.length - y.i) ⟨0, 0, 0, 0, 0, 0⟩ einv0 rfl ?_ ?_ ?_
  · simp -implicitDefEqProofs -proj only [go_sem, Nat.reduceBEq, Nat.reduceLT, Nat.reduceLeDiff, Nat.reduceAdd, Nat.reduceMul, ↓reduceIte, Int.reduceToNat, Int.reducePow, Int.reduceLT, Int.reduceLE, Int.reduceAdd, Int.reduceSub, Int.reduceMul, Int.reduceEq, Int.reduceNe, AllAt, ex_i, ex_a, ex_m, ex_o]
    rfl
  · simp -implicitDefEqProofs -proj only [go_sem, Nat.reduceBEq, Nat.reduceLT, Nat.reduceLeDiff, Nat.reduceAdd, Nat.reduceMul, ↓reduceIte, Int.reduceToNat, Int.reducePow, Int.reduceLT, Int.reduceLE, Int.reduceAdd, Int.reduceSub, Int.reduceMul, Int.reduceEq, Int.reduceNe, AllH, ex_i, rowC, List.take_zero, List.map_nil, rowH_nil]
  · rintro ⟨i, c, cap, at', ms, lo⟩ ⟨hi, hcur, hsm, hso, hle, hb, hnd⟩
    simp -implicitDefEqProofs only [ex_i, ex_a, ex_m, ex_o] at hi hcur hsm hso hle hb
    have hall := keepH_all hnd
    simp -implicitDefEqProofs only [ex_i, ex_c, ex_cap] at hall hnd
    by_cases hlt : i < ls.length
    · have hel := rowL_nth hlt
      obtain ⟨hfl1, hln1⟩ := hfl _ (List.getElem_mem hlt)
      have hn1 := rowI_nth (l := ns) (i := i) (by omega)
      have hfn1 := hfn i (by omega)
      have t1 : ls.take (i + 1) = ls.take i ++ [ls[i]] := List.take_succ_eq_append_getElem (by omega)
      have hl1 : (rowC (ls.take i)).length = i := by rw [rowC_len, List.length_take]; omega
      have hl3 : (rowC (ls.take (i + 1))).length = i + 1 := by rw [rowC_len, List.length_take]; omega
      have hne1 : rowC (ls.take (i + 1)) ≠ [] := by intro e; rw [e] at hl3; simp at hl3
      generalize ls[i] = l at *
      generalize ns[i] = n at *
      obtain ⟨R, hR⟩ : ∃ R, rowC (ls.take i) = R := ⟨_, rfl⟩
      rw [hR] at hl1 hnd hall
      simp -implicitDefEqProofs -proj only [go_sem, Nat.reduceBEq, Nat.reduceLT, Nat.reduceLeDiff, Nat.reduceAdd, Nat.reduceMul, ↓reduceIte, Int.reduceToNat, Int.reducePow, Int.reduceLT, Int.reduceLE, Int.reduceAdd, Int.reduceSub, Int.reduceMul, Int.reduceEq, Int.reduceNe, ex_i, ex_c, ex_cap, ex_a, ex_m, ex_o, hR, decide_eq_true (show (i : Int) < ls.length by omega)]
      refine ElemA_at _ (by omega) hel ?_
      by_cases g3 : (l.length : Int) = 0
      · simp -implicitDefEqProofs -proj only [go_sem, Nat.reduceBEq, Nat.reduceLT, Nat.reduceLeDiff, Nat.reduceAdd, Nat.reduceMul, ↓reduceIte, Int.reduceToNat, Int.reducePow, Int.reduceLT, Int.reduceLE, Int.reduceAdd, Int.reduceSub, Int.reduceMul, Int.reduceEq, Int.reduceNe, rowI_len, decide_eq_true g3]
        exact LendV_eq rfl
      by_cases g4 : 400 < (l.length : Int)
      · simp -implicitDefEqProofs -proj only [go_sem, Nat.reduceBEq, Nat.reduceLT, Nat.reduceLeDiff, Nat.reduceAdd, Nat.reduceMul, ↓reduceIte, Int.reduceToNat, Int.reducePow, Int.reduceLT, Int.reduceLE, Int.reduceAdd, Int.reduceSub, Int.reduceMul, Int.reduceEq, Int.reduceNe, rowI_len, decide_eq_false g3, decide_eq_true g4]
        exact LendV_eq rfl
      simp -implicitDefEqProofs -proj only [go_sem, Nat.reduceBEq, Nat.reduceLT, Nat.reduceLeDiff, Nat.reduceAdd, Nat.reduceMul, ↓reduceIte, Int.reduceToNat, Int.reducePow, Int.reduceLT, Int.reduceLE, Int.reduceAdd, Int.reduceSub, Int.reduceMul, Int.reduceEq, Int.reduceNe, rowI_len, decide_eq_false g3, decide_eq_false g4]
      refine LoopA_k (fun j : Nat => j ≤ l.length ∧ ∀ (k : Nat) (h : k < l.length), k < j → -288230376151711744 ≤ l[k] ∧ l[k] ≤ 288230376151711744) 176 (fun j => [(1, slI ns), (35, slL ls), (36, i64 ls.length), (37, i64 i), (5, rowV 0 2 c cap R), (6, i64 at'), (7, i64 ms), (8, i64 lo), (9, i64 i), (10, slI l), (50, slI l), (51, i64 l.length), (52, i64 j)]) (fun _ => rowH 26 2 c cap R) (fun j => l.length - j) 0 ⟨Nat.zero_le _, fun j _ h => absurd h (Nat.not_lt_zero _)⟩ rfl ?_ ?_ ?_
      · simp -implicitDefEqProofs -proj only [go_sem, Nat.reduceBEq, Nat.reduceLT, Nat.reduceLeDiff, Nat.reduceAdd, Nat.reduceMul, ↓reduceIte, Int.reduceToNat, Int.reducePow, Int.reduceLT, Int.reduceLE, Int.reduceAdd, Int.reduceSub, Int.reduceMul, Int.reduceEq, Int.reduceNe, AllAt]
        try rfl
      · exact hall
      · rintro j ⟨hj, hsmall⟩
        by_cases h : j < l.length
        · have hel2 := rowI_nth h
          have hstep : (-288230376151711744 ≤ l[j] ∧ l[j] ≤ 288230376151711744) → ∀ (k : Nat) (h : k < l.length), k < j + 1 → -288230376151711744 ≤ l[k] ∧ l[k] ≤ 288230376151711744 := by
            intro e k h1 h2
            by_cases hj : k = j
            · subst hj; exact e
            · exact hsmall k h1 (by omega)
          generalize l[j] = x at *
          simp -implicitDefEqProofs -proj only [go_sem, Nat.reduceBEq, Nat.reduceLT, Nat.reduceLeDiff, Nat.reduceAdd, Nat.reduceMul, ↓reduceIte, Int.reduceToNat, Int.reducePow, Int.reduceLT, Int.reduceLE, Int.reduceAdd, Int.reduceSub, Int.reduceMul, Int.reduceEq, Int.reduceNe, decide_eq_true (show (j : Int) < l.length by omega)]
          refine ElemA_at _ (by omega) hel2 ?_
          by_cases c1 : 288230376151711744 < x
          · simp -implicitDefEqProofs -proj only [go_sem, Nat.reduceBEq, Nat.reduceLT, Nat.reduceLeDiff, Nat.reduceAdd, Nat.reduceMul, ↓reduceIte, Int.reduceToNat, Int.reducePow, Int.reduceLT, Int.reduceLE, Int.reduceAdd, Int.reduceSub, Int.reduceMul, Int.reduceEq, Int.reduceNe, decide_eq_true c1]
            exact LendV_eq rfl
          by_cases c2 : x < -288230376151711744
          · simp -implicitDefEqProofs -proj only [go_sem, Nat.reduceBEq, Nat.reduceLT, Nat.reduceLeDiff, Nat.reduceAdd, Nat.reduceMul, ↓reduceIte, Int.reduceToNat, Int.reducePow, Int.reduceLT, Int.reduceLE, Int.reduceAdd, Int.reduceSub, Int.reduceMul, Int.reduceEq, Int.reduceNe, decide_eq_false c1, decide_eq_true c2]
            exact LendV_eq rfl
          simp -implicitDefEqProofs -proj only [go_sem, Nat.reduceBEq, Nat.reduceLT, Nat.reduceLeDiff, Nat.reduceAdd, Nat.reduceMul, ↓reduceIte, Int.reduceToNat, Int.reducePow, Int.reduceLT, Int.reduceLE, Int.reduceAdd, Int.reduceSub, Int.reduceMul, Int.reduceEq, Int.reduceNe, decide_eq_false c1, decide_eq_false c2]
          refine LoopQ_k (j + 1) ⟨by omega, hstep (by omega)⟩ (by show l.length - (j + 1) < l.length - j; omega) rfl ?_ hall
          simp -implicitDefEqProofs -proj only [go_sem, Nat.reduceBEq, Nat.reduceLT, Nat.reduceLeDiff, Nat.reduceAdd, Nat.reduceMul, ↓reduceIte, Int.reduceToNat, Int.reducePow, Int.reduceLT, Int.reduceLE, Int.reduceAdd, Int.reduceSub, Int.reduceMul, Int.reduceEq, Int.reduceNe, AllAt, i64_succ (show j < 9223372036854775807 by omega)]
        · have hj' : j = l.length := by omega
          subst hj'
          have hne : l ≠ [] := fun e => g3 (by rw [e]; rfl)
          have hcl : CurL l := ⟨hne, by omega, fun v hv => by obtain ⟨j, hj, rfl⟩ := List.getElem_of_mem hv; have := hsmall j hj hj; unfold smallV; omega⟩
          have o1 := ROf_data hfl1 (show l.length ≤ 3000 by omega)
          rw [if_pos hcl] at o1
          have m1 := Most_ok hcl
          have m2 := Least_ok hcl
          obtain ⟨⟨p1, p2, p3⟩, p4⟩ := most_spec hcl (B := bestG gtB (gps l)) rfl
          obtain ⟨⟨q1, q2, q3⟩, q4⟩ := least_spec hcl (B := bestG ltB (gps l)) rfl
          have hsm2 : ∀ (k : Nat) (h : k < l.length), -288230376151711744 ≤ l[k] ∧ l[k] ≤ 288230376151711744 := fun k h => hsmall k h h
          have pb := val_in (P := fun v => -288230376151711744 ≤ v ∧ v ≤ 288230376151711744) p1 p2 p3 hsm2
          have qb := val_in (P := fun v => -288230376151711744 ≤ v ∧ v ≤ 288230376151711744) q1 q2 q3 hsm2
          have pr := rowI_val p1 p2 p3
          have qr := rowI_val q1 q2 q3
          have hmN : mostN l = (bestG gtB (gps l)).1 := rfl
          have hlN : leastN l = (bestG ltB (gps l)).1 := rfl
          have hcell := rowC_sn (ls := ls.take i) (l := l)
          rw [hR, ← t1] at hcell
          unfold curL at o1 m1 m2
          generalize bestG gtB (gps l) = B at *
          generalize bestG ltB (gps l) = C at *
          generalize hG : gps l = G at *
          obtain ⟨Bn, Ba⟩ := B
          obtain ⟨Cn, Ca⟩ := C
          simp -implicitDefEqProofs only [] at p1 p2 p3 p4 q1 q2 q3 q4 pb qb pr qr hmN hlN m1 m2
          obtain ⟨z, hz⟩ : ∃ z : Nat, z = (IntKind.u64.wrap n).toNat % l.length := ⟨_, rfl⟩
          have hzl : z < l.length := by rw [hz]; exact Nat.mod_lt _ (by omega)
          have hxr := rowI_nth hzl
          have k1 : IntKind.u64.wrap (l.length : Int) = l.length := by rw [IntKind.wrap_u64]; omega
          have k0 : 0 ≤ IntKind.u64.wrap n := by rw [IntKind.wrap_u64]; omega
          have k2 : IntKind.i64.wrap ((IntKind.u64.wrap n).tmod (l.length : Int)) = (z : Int) := by
            rw [Int.tmod_eq_emod_of_nonneg k0]
            have e : (z : Int) = (IntKind.u64.wrap n) % (l.length : Int) := by rw [hz, Int.natCast_emod, Int.toNat_of_nonneg k0]
            rw [← e, IntKind.wrap_i64]
            omega
          have hx1 := p4 z hzl
          have hx2 := q4 z hzl
          generalize l[z] = x at *
          simp -implicitDefEqProofs -proj only [go_sem, Nat.reduceBEq, Nat.reduceLT, Nat.reduceLeDiff, Nat.reduceAdd, Nat.reduceMul, ↓reduceIte, Int.reduceToNat, Int.reducePow, Int.reduceLT, Int.reduceLE, Int.reduceAdd, Int.reduceSub, Int.reduceMul, Int.reduceEq, Int.reduceNe, decide_eq_false (show ¬ (l.length : Int) < l.length by omega)]
          refine CallA_pure o1 ?_
          simp -implicitDefEqProofs -proj only [go_sem, Nat.reduceBEq, Nat.reduceLT, Nat.reduceLeDiff, Nat.reduceAdd, Nat.reduceMul, ↓reduceIte, Int.reduceToNat, Int.reducePow, Int.reduceLT, Int.reduceLE, Int.reduceAdd, Int.reduceSub, Int.reduceMul, Int.reduceEq, Int.reduceNe]
          refine AllocA_intro (fun b13 hb13 => ?_)
          simp -implicitDefEqProofs -proj only [go_sem, Nat.reduceBEq, Nat.reduceLT, Nat.reduceLeDiff, Nat.reduceAdd, Nat.reduceMul, ↓reduceIte, Int.reduceToNat, Int.reducePow, Int.reduceLT, Int.reduceLE, Int.reduceAdd, Int.reduceSub, Int.reduceMul, Int.reduceEq, Int.reduceNe]
          refine AllocR_intro (fun bs hs => ?_)
          replace hs : upd (keepH (rowH 26 2 c cap R)) b13 _ bs = none := hs
          obtain ⟨⟨s1, s2⟩, s3⟩ := peel2 hs
          simp -implicitDefEqProofs -proj only [go_sem, Nat.reduceBEq, Nat.reduceLT, Nat.reduceLeDiff, Nat.reduceAdd, Nat.reduceMul, ↓reduceIte, Int.reduceToNat, Int.reducePow, Int.reduceLT, Int.reduceLE, Int.reduceAdd, Int.reduceSub, Int.reduceMul, Int.reduceEq, Int.reduceNe, s1, s2]
          refine AppendA_grow (xs := R) (y := [.int .i64 ((l.length : Int) - 1), .sl 5 (rowG G)]) (t := 26) (capc := 1) [(b13, .box 26 [i64 ((l.length : Int) - 1), slG G])] rfl (AllH_upd hs (AllH_app.2 ⟨AllH_upd hb13 hall, upd_eq, trivial⟩)) (keys_one hnd hall hb13) (by simp -implicitDefEqProofs -proj only [go_sem, Nat.reduceBEq, Nat.reduceLT, Nat.reduceLeDiff, Nat.reduceAdd, Nat.reduceMul, ↓reduceIte, Int.reduceToNat, Int.reducePow, Int.reduceLT, Int.reduceLE, Int.reduceAdd, Int.reduceSub, Int.reduceMul, Int.reduceEq, Int.reduceNe]) (by rw [hl1]; omega) (by rw [hl1]; omega) (fun H' c' cap' ha hk => ?_)
          rw [hcell] at ha hk
          simp -implicitDefEqProofs -proj only [go_sem, Nat.reduceBEq, Nat.reduceLT, Nat.reduceLeDiff, Nat.reduceAdd, Nat.reduceMul, ↓reduceIte, Int.reduceToNat, Int.reducePow, Int.reduceLT, Int.reduceLE, Int.reduceAdd, Int.reduceSub, Int.reduceMul, Int.reduceEq, Int.reduceNe]
          refine ElemA_at _ (by omega) hn1 ?_
          simp -implicitDefEqProofs -proj only [go_sem, Nat.reduceBEq, Nat.reduceLT, Nat.reduceLeDiff, Nat.reduceAdd, Nat.reduceMul, ↓reduceIte, Int.reduceToNat, Int.reducePow, Int.reduceLT, Int.reduceLE, Int.reduceAdd, Int.reduceSub, Int.reduceMul, Int.reduceEq, Int.reduceNe, rowI_len, k1, k2]
          (repeat' (with_reducible refine VC_intro ?_ (fun h => ?_); (focus first | decide | omega); clear h; try simp -implicitDefEqProofs -proj only [go_sem, Nat.reduceBEq, Nat.reduceLT, Nat.reduceLeDiff, Nat.reduceAdd, Nat.reduceMul, ↓reduceIte, Int.reduceToNat, Int.reducePow, Int.reduceLT, Int.reduceLE, Int.reduceAdd, Int.reduceSub, Int.reduceMul, Int.reduceEq, Int.reduceNe, g3]))
          refine ElemA_at _ (by omega) hxr ?_
          obtain ⟨har, ha13, _⟩ := AllH_app.1 ha
          simp -implicitDefEqProofs -proj only [go_sem, Nat.reduceBEq, Nat.reduceLT, Nat.reduceLeDiff, Nat.reduceAdd, Nat.reduceMul, ↓reduceIte, Int.reduceToNat, Int.reducePow, Int.reduceLT, Int.reduceLE, Int.reduceAdd, Int.reduceSub, Int.reduceMul, Int.reduceEq, Int.reduceNe, ha13]
          refine CallA_pure m1 ?_
          simp -implicitDefEqProofs -proj only [go_sem, Nat.reduceBEq, Nat.reduceLT, Nat.reduceLeDiff, Nat.reduceAdd, Nat.reduceMul, ↓reduceIte, Int.reduceToNat, Int.reducePow, Int.reduceLT, Int.reduceLE, Int.reduceAdd, Int.reduceSub, Int.reduceMul, Int.reduceEq, Int.reduceNe]
          refine AllocA_intro (fun b15 hb15 => ?_)
          replace hb15 : H' b15 = none := hb15
          obtain ⟨n15, n15'⟩ := fresh_ne hb15 ha13
          simp -implicitDefEqProofs -proj only [go_sem, Nat.reduceBEq, Nat.reduceLT, Nat.reduceLeDiff, Nat.reduceAdd, Nat.reduceMul, ↓reduceIte, Int.reduceToNat, Int.reducePow, Int.reduceLT, Int.reduceLE, Int.reduceAdd, Int.reduceSub, Int.reduceMul, Int.reduceEq, Int.reduceNe, ha13, n15, n15']
          refine CallA_pure m2 ?_
          simp -implicitDefEqProofs -proj only [go_sem, Nat.reduceBEq, Nat.reduceLT, Nat.reduceLeDiff, Nat.reduceAdd, Nat.reduceMul, ↓reduceIte, Int.reduceToNat, Int.reducePow, Int.reduceLT, Int.reduceLE, Int.reduceAdd, Int.reduceSub, Int.reduceMul, Int.reduceEq, Int.reduceNe, ha13, n15, n15']
          refine AllocA_intro (fun b17 hb17 => ?_)
          replace hb17 : upd H' b15 _ b17 = none := hb17
          obtain ⟨⟨n17, n17'⟩, hb17'⟩ := peel2 hb17
          obtain ⟨n18, n18'⟩ := fresh_ne hb17' ha13
          simp -implicitDefEqProofs -proj only [go_sem, Nat.reduceBEq, Nat.reduceLT, Nat.reduceLeDiff, Nat.reduceAdd, Nat.reduceMul, ↓reduceIte, Int.reduceToNat, Int.reducePow, Int.reduceLT, Int.reduceLE, Int.reduceAdd, Int.reduceSub, Int.reduceMul, Int.reduceEq, Int.reduceNe, ha13, n15, n15', n17, n17', n18, n18', decide_eq_false (show ¬ Ba < 0 by omega), decide_eq_false (show ¬ Ca < 0 by omega), decide_eq_false (show ¬ (l.length : Int) ≤ Ba by omega), decide_eq_false (show ¬ (l.length : Int) ≤ Ca by omega), rowI_len]
          refine ElemA_at _ p1 pr ?_
          simp -implicitDefEqProofs -proj only [go_sem, Nat.reduceBEq, Nat.reduceLT, Nat.reduceLeDiff, Nat.reduceAdd, Nat.reduceMul, ↓reduceIte, Int.reduceToNat, Int.reducePow, Int.reduceLT, Int.reduceLE, Int.reduceAdd, Int.reduceSub, Int.reduceMul, Int.reduceEq, Int.reduceNe, n15, n15', n17, n17', n18, n18']
          refine ElemA_at _ q1 qr ?_
          have w1 : IntKind.i64.wrap (at' + x) = at' + x := by rw [IntKind.wrap_i64]; omega
          have w2 : IntKind.i64.wrap (ms + Bn) = ms + Bn := by rw [IntKind.wrap_i64]; omega
          have w3 : IntKind.i64.wrap (lo + Cn) = lo + Cn := by rw [IntKind.wrap_i64]; omega
          have e1 : sumF 0 ((ls.take (i + 1)).map mostN) = some (ms + Bn) := by
            rw [t1, List.map_append, List.map_cons, List.map_nil, hmN]
            exact sumF_snoc hsm (by unfold Fit; omega)
          have e2 : sumF 0 ((ls.take (i + 1)).map leastN) = some (lo + Cn) := by
            rw [t1, List.map_append, List.map_cons, List.map_nil, hlN]
            exact sumF_snoc hso (by unfold Fit; omega)
          have e3 : ∀ l' ∈ ls.take (i + 1), CurL l' := fun l' hl' => by
            rw [t1, List.mem_append, List.mem_singleton] at hl'
            rcases hl' with hl' | rfl
            · exact hcur l' hl'
            · exact hcl
          simp -implicitDefEqProofs -proj only [go_sem, Nat.reduceBEq, Nat.reduceLT, Nat.reduceLeDiff, Nat.reduceAdd, Nat.reduceMul, ↓reduceIte, Int.reduceToNat, Int.reducePow, Int.reduceLT, Int.reduceLE, Int.reduceAdd, Int.reduceSub, Int.reduceMul, Int.reduceEq, Int.reduceNe, w1, w2, w3]
          refine LoopQ_k ⟨i + 1, c', cap', at' + x, ms + Bn, lo + Cn⟩ ⟨by rw [ex_i]; omega, e3, e1, e2, by rw [ex_a, ex_m, ex_o]; omega, by rw [ex_i, ex_m, ex_o]; omega, ?_⟩ (by show ls.length - (i + 1) < ls.length - i; omega) rfl ?_ (AllH_upd hb17 (AllH_upd hb15 har))
          · unfold keys at hk ⊢
            rw [List.map_append, List.nodup_append] at hk
            exact hk.1
          · simp -implicitDefEqProofs -proj only [go_sem, Nat.reduceBEq, Nat.reduceLT, Nat.reduceLeDiff, Nat.reduceAdd, Nat.reduceMul, ↓reduceIte, Int.reduceToNat, Int.reducePow, Int.reduceLT, Int.reduceLE, Int.reduceAdd, Int.reduceSub, Int.reduceMul, Int.reduceEq, Int.reduceNe, AllAt, ex_i, ex_c, ex_cap, ex_a, ex_m, ex_o, i64_succ (show i < 9223372036854775807 by omega), rowV_ne hne1, hl1, hl3]
    · have hi' : i = ls.length := by omega
      subst hi'
      rw [List.take_of_length_le (Nat.le_refl _)] at hcur hsm hso hall
      have s1 := Sum20_ok (b := fun l => (bestG gtB (gps l)).1) (a := fun l => (bestG gtB (gps l)).2) hcur (fun l hl => Most_ok hl) (fun l hl => by have := best_bound (bt := gtB) hl; unfold Fit; omega) (by omega)
      have s2 := Sum20_ok (b := fun l => (bestG ltB (gps l)).1) (a := fun l => (bestG ltB (gps l)).2) hcur (fun l hl => Least_ok hl) (fun l hl => by have := best_bound (bt := ltB) hl; unfold Fit; omega) (by omega)
      rw [show (ls.map fun l => (bestG gtB (gps l)).1) = ls.map mostN from rfl, hsm, optR] at s1
      rw [show (ls.map fun l => (bestG ltB (gps l)).1) = ls.map leastN from rfl, hso, optR] at s2
      simp -implicitDefEqProofs -proj only [go_sem, Nat.reduceBEq, Nat.reduceLT, Nat.reduceLeDiff, Nat.reduceAdd, Nat.reduceMul, ↓reduceIte, Int.reduceToNat, Int.reducePow, Int.reduceLT, Int.reduceLE, Int.reduceAdd, Int.reduceSub, Int.reduceMul, Int.reduceEq, Int.reduceNe, ex_i, ex_c, ex_cap, ex_a, ex_m, ex_o, decide_eq_false (show ¬ (ls.length : Int) < ls.length by omega), List.take_of_length_le (Nat.le_refl ls.length)]
      refine CallA_lend s1 (lend_cons (rowV_lend hall) (lend_cons (.refl _) lend_nil)) rfl ?_
      simp -implicitDefEqProofs -proj only [go_sem, Nat.reduceBEq, Nat.reduceLT, Nat.reduceLeDiff, Nat.reduceAdd, Nat.reduceMul, ↓reduceIte, Int.reduceToNat, Int.reducePow, Int.reduceLT, Int.reduceLE, Int.reduceAdd, Int.reduceSub, Int.reduceMul, Int.reduceEq, Int.reduceNe]
      refine CallA_lend s2 (lend_cons (rowV_lend hall) (lend_cons (.refl _) lend_nil)) rfl ?_
      simp -implicitDefEqProofs -proj only [go_sem, Nat.reduceBEq, Nat.reduceLT, Nat.reduceLeDiff, Nat.reduceAdd, Nat.reduceMul, ↓reduceIte, Int.reduceToNat, Int.reducePow, Int.reduceLT, Int.reduceLE, Int.reduceAdd, Int.reduceSub, Int.reduceMul, Int.reduceEq, Int.reduceNe, decide_true, decide_eq_true hle.1, decide_eq_true hle.2]
      exact LendV_eq rfl
end Go.Proofs.Ythamjpioodlckaa.Abs
