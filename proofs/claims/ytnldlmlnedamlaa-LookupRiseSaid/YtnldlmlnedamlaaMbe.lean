/- Contracts of the machine and the contracts of one law (joined by kmerge.py). No claim stands here. -/
import Derived.Below
import Derived.Carry
import Derived.ChangeCalls
import Derived.ChangeOld
import Derived.IntWalk
import Derived.KernelRfl
import Derived.Laws.Append
import Derived.Laws.AppendOwn
import Derived.Laws.Cells
import Derived.Laws.CopyRow
import Derived.Laws.Entries
import Derived.Laws.MakeOwn
import Derived.Laws.NewFold
import Derived.Laws.Rows
import Derived.Laws.StructEq
import Derived.OpenShut
import Derived.Orders
import Derived.OrdersIn
import Derived.ProofKit
import Derived.RangeFuncLeaves
import Derived.RangeFuncSeq
import Derived.SizedLaws
import Derived.TacticsIn
import Derived.WalkKit
import Derived.Test.YtnldlmlnedamlaaMbd
set_option maxRecDepth 100000
set_option linter.unusedSimpArgs false
set_option linter.unusedVariables false
namespace Go.Proofs.Ytnldlmlnedamlaa.Abs
open Go Go.RowKit Go.Proofs
attribute [local go_sem] RunC_seq AF_n AF_r AF_b St_n St_t St_H Fst_mk Snd_mk RunC_ops RunC_cond RunC_block RunC_loop RunC_exit RunC_ret RunC_skip RunO_nil RunO_code RunO_code_ret RunO_code_exit RunO_blk RunO_blk_ret RunO_blk_exit RunL_nil RunL_guard GuardA_tt GuardA_ff GuardA_tf GuardA_ft GuardA_void CondA_t CondA_f PickA_t PickA_f RunL_mov RunL_pick RunL_alloc RunL_box RunL_load LoadA_ptr LoadB_1 LoadB_n LoadA_dptr LoadA_dptr_n RunL_store StoreA_ptr StoreB_box RunL_bin Bin_add Bin_sub Bin_mul Bin_quo Bin_rem Bin_shl Bin_shr Bin_andI Bin_orI Bin_xorI Bin_eql Bin_neq Bin_lss Bin_leq Bin_gtr Bin_geq RunL_binb Bin_beql Bin_bneq RunL_un UnA_not UnA_neg RunL_conv convV MapA_some RunL_nilCheck nilV RunL_mkfn RunL_fieldAddr faV RunL_field FieldA_1 FieldA_n RunL_elemAddr EAddrA_sl EAddrA_own EptrA_eq RunL_build BuildA_some RunL_extract ExtA_eq RunL_len lenV_sl lenV_nilsl lenV_own RunL_slen RunL_idxStr IdxSA_eq slenV RunL_minmax mmV minmaxL RunL_call RunL_callv CallvA_fn putS ev evL evO evP eqK eqKs EqB_agg RunL_eqAgg EqA_t EqA_f evQ buildC fits_agg cellsAV_agg fits_d cellsAV_d fits_nilp cellsAV_nilp fits_nilsl cellsAV_nilsl fits_nilfn cellsAV_nilfn fits_ptr cellsAV_ptr fits_eptr cellsAV_eptr fits_dptr cellsAV_dptr fits_own cellsAV_own fits_fn cellsAV_fn rowV_fits rowV_cells rowV_len lenAV setSeg nth seg mapD repeatL putT_get upd_get argT keepT_cons keepT_nil keepH_cons keepH_nil cond_true cond_false VC_true finW resW resL resOne LoopQ_exit LoopQ_ret List.cons_append List.nil_append Bool.not_true Bool.not_false Bool.and_true Bool.and_self Nat.lt_add_left_iff_pos Nat.zero_add Nat.add_zero List.drop_succ_cons List.drop_zero List.take_succ_cons List.take_zero beq_self_eq_true Bool.false_eq_true RunC_dops RunL_loadS RunL_loadD LoadDA_dptr RunL_storeS StoreSA_ptr RunL_pcall RunL_pcallv PCallvA_fn newsOk and_self and_true true_and loadW_ptr LoadK_1 LoadK_n upd_upd RunL_loadP LoadPA_ptr RunL_callS RunL_make RunL_buildSlice BSliceA_some RunL_buildSliceD frzL frz cutL LoadA_eptr LoadE_row RunL_append RunL_slice SliceA_sl StoreA_eptr List.length_cons List.length_nil Nat.min_def Int.cast_ofNat_Int Int.natCast_zero Int.natCast_one decide_true decide_false List.getElem?_cons_zero List.getElem?_cons_succ RunC_rangef CallvA_yld putL_nil putL_cons RangeQ_exit RangeQ_ret
theorem Left_ok {x : PartX} {q : Int} (hx : x.Fit) (hq : Fit q) (ha : 0 ≤ x.al) (hb : 1 ≤ x.bl) : DataW Try.prog f_poundageref11_Left [partV x, i64 q] (if q < 0 then .tup [i64 0, bv false] else fitR (leftI x q)) := by
  refine CallW_intro comp_poundageref11_Left (by simp) ?_
  simp -implicitDefEqProofs -proj only [go_sem, Nat.reduceBEq, Nat.reduceLT, Nat.reduceLeDiff, Nat.reduceAdd, Nat.reduceMul, ↓reduceIte]
  refine AllocA_intro (fun b2 hb2 => ?_)
  by_cases h : q < 0
  · rw [if_pos h]
    simp -implicitDefEqProofs -proj only [go_sem, Nat.reduceBEq, Nat.reduceLT, Nat.reduceLeDiff, Nat.reduceAdd, Nat.reduceMul, ↓reduceIte, decide_eq_true h]
    exact LendV_eq rfl
  · rw [if_neg h]
    have hal := hx.al
    have hbl := hx.bl
    unfold Fit at hal hq
    have hw : IntKind.i64.wrap (q - x.al) = q - x.al := by rw [IntKind.wrap_i64]; omega
    have hf : Fit (rnd (max (q - x.al) 0) x.bl 1) := by
      have := rnd_fit (a := max (q - x.al) 0) (c := x.bl) (m := 1) (by omega) (by decide) (by omega)
      unfold Fit
      omega
    have h1 := RMulDiv_ok (a := max (q - x.al) 0) (b := 1) (c := x.bl) (m := 1) (by unfold Fit; omega) (by decide) hbl
    rw [Int.mul_one, mdR_yes (by omega) (by decide), fitR_yes hf] at h1
    have h2 := RMul_ok hf hbl
    have h3 := RInt_ok (n := rnd (max (q - x.al) 0) x.bl 1 * x.bl) (by have := prod_small hf hbl; unfold Big; omega)
    unfold leftI
    generalize rnd (max (q - x.al) 0) x.bl 1 = k at *
    simp -implicitDefEqProofs -proj only [go_sem, Nat.reduceBEq, Nat.reduceLT, Nat.reduceLeDiff, Nat.reduceAdd, Nat.reduceMul, ↓reduceIte, decide_eq_false h, hw]
    refine CallA_pure h1 ?_
    simp -implicitDefEqProofs -proj only [go_sem, Nat.reduceBEq, Nat.reduceLT, Nat.reduceLeDiff, Nat.reduceAdd, Nat.reduceMul, ↓reduceIte]
    refine CallA_pure h2 ?_
    simp -implicitDefEqProofs -proj only [go_sem, Nat.reduceBEq, Nat.reduceLT, Nat.reduceLeDiff, Nat.reduceAdd, Nat.reduceMul, ↓reduceIte]
    refine CallA_pure h3 ?_
    unfold fitR
    simp -implicitDefEqProofs -proj only [go_sem, Nat.reduceBEq, Nat.reduceLT, Nat.reduceLeDiff, Nat.reduceAdd, Nat.reduceMul, ↓reduceIte]
    exact LendV_eq rfl
theorem rowS3_scal {l : List TStep} : ∀ el ∈ rowS3 l, ∀ d ∈ el, scalD d = true := by
  intro el he d hd
  obtain ⟨r, _, rfl⟩ := List.mem_map.1 he
  simp -implicitDefEqProofs only [TStep.el, List.mem_cons, List.not_mem_nil, or_false] at hd
  rcases hd with rfl | rfl | rfl <;> rfl
theorem rowS3_at {l : List TStep} {i : Nat} (h : i < l.length) : (rowS3 l)[((i : Int)).toNat]? = some [.int .i64 l[i].f, .int .i64 l[i].t, .int .i64 l[i].r] := by
  rw [Int.toNat_natCast]; simp [rowS3, h, TStep.el]
structure RsX where
  i : Nat
  c : Nat
  cap : Nat
theorem sx_i {i c cap : Nat} : (RsX.mk i c cap).i = i := (rfl)
theorem sx_c {i c cap : Nat} : (RsX.mk i c cap).c = c := (rfl)
theorem sx_cap {i c cap : Nat} : (RsX.mk i c cap).cap = cap := (rfl)
theorem refN_len {T : List Tier} {q : Int} : ∀ i, (refN T q i).length ≤ i
  | 0 => Nat.le_refl _
  | i + 1 => by
    have := refN_len (T := T) (q := q) i
    rw [refN]
    split
    · simp -implicitDefEqProofs only [List.length_append, List.length_singleton]; omega
    · omega
def refB (b2 : Nat) (x : PartX) (q : Int) (y : RsX) : List (Nat × Blk) := rowH 91 3 y.c y.cap (rowS3 (refN x.ts q y.i)) ++ [(b2, .box 51 [i64 x.me, i64 x.f, i64 x.t, i64 x.al, i64 x.bl, i64 x.ki, slT x.ts, i64 x.mo, slA x.ad])]
set_option maxRecDepth 20000 in
theorem RefSteps_new {x : PartX} {q : Int} (hl : x.ts.length ≤ 1000000) (hn0 : 1 ≤ x.ts.length) : NewW Try.prog f_poundageref11_Steps [partV x, i64 q] (slS3 (if x.ki = 2 then volL x.ts q else refL x.ts q)) := by
  have hwl : IntKind.i64.wrap ((x.ts.length : Int) - 1) = (x.ts.length : Int) - 1 := by rw [IntKind.wrap_i64]; omega
  refine CallW_intro comp_poundageref11_Steps (by simp) ?_
  simp -implicitDefEqProofs -proj only [go_sem, Nat.reduceBEq, Nat.reduceLT, Nat.reduceLeDiff, Nat.reduceAdd, Nat.reduceMul, ↓reduceIte]
  refine AllocA_intro (fun b2 hb2 => ?_)
  have c2 := alloc_all (x := .box 51 [i64 x.me, i64 x.f, i64 x.t, i64 x.al, i64 x.bl, i64 x.ki, slT x.ts, i64 x.mo, slA x.ad]) hb2 (l := []) trivial
  have n2 := alloc_keys (x := .box 51 [i64 x.me, i64 x.f, i64 x.t, i64 x.al, i64 x.bl, i64 x.ki, slT x.ts, i64 x.mo, slA x.ad]) hb2 (l := []) trivial List.nodup_nil
  by_cases hk : x.ki = 2
  · rw [if_pos hk]
    simp -implicitDefEqProofs -proj only [go_sem, Nat.reduceBEq, Nat.reduceLT, Nat.reduceLeDiff, Nat.reduceAdd, Nat.reduceMul, ↓reduceIte, rowT_len, hwl, decide_eq_true hk]
    refine LoopA_k (fun i : Nat => i ≤ x.ts.length ∧ volL x.ts q = volI x.ts q (x.ts.length - i)) 91 (fun i => [(21, slT x.ts), (22, i64 x.ts.length), (23, i64 i), (6, i64 ((x.ts.length : Int) - 1)), (1, i64 q), (5, .nilsl 0)]) (fun _ => []) (fun i => x.ts.length - i) 0 ⟨Nat.zero_le _, rfl⟩ rfl ?_ ?_ ?_
    · simp -implicitDefEqProofs -proj only [go_sem, Nat.reduceBEq, Nat.reduceLT, Nat.reduceLeDiff, Nat.reduceAdd, Nat.reduceMul, ↓reduceIte, AllAt]
    · trivial
    · rintro i ⟨hi, hv⟩
      by_cases h : i < x.ts.length
      · have hel := rowT_at h
        obtain ⟨n, hn⟩ : ∃ n, x.ts.length - i = n + 1 := ⟨x.ts.length - i - 1, by omega⟩
        have hg : volI x.ts q (n + 1) = if n = 0 ∨ q ≤ x.ts[i].u then (if 0 < q then [⟨0, q, x.ts[i].r⟩] else []) else volI x.ts q n := by
          rw [volI, show x.ts.length - (n + 1) = i by omega, List.getElem?_eq_getElem h]
        rw [hn, hg] at hv
        generalize x.ts[i] = t at *
        simp -implicitDefEqProofs -proj only [go_sem, Nat.reduceBEq, Nat.reduceLT, Nat.reduceLeDiff, Nat.reduceAdd, Nat.reduceMul, ↓reduceIte, decide_eq_true (show (i : Int) < x.ts.length by omega)]
        refine ElemA_at _ (by omega) hel ?_
        simp -implicitDefEqProofs -proj only [go_sem, Nat.reduceBEq, Nat.reduceLT, Nat.reduceLeDiff, Nat.reduceAdd, Nat.reduceMul, ↓reduceIte]
        refine AllocA_intro (fun b8 hb8 => ?_)
        replace hb8 : keepH [] b8 = none := hb8
        by_cases hn0 : n = 0
        · rw [if_pos (show n = 0 ∨ q ≤ t.u from .inl hn0)] at hv
          simp -implicitDefEqProofs -proj only [go_sem, Nat.reduceBEq, Nat.reduceLT, Nat.reduceLeDiff, Nat.reduceAdd, Nat.reduceMul, ↓reduceIte, decide_eq_true (show (i : Int) = (x.ts.length : Int) - 1 by omega)]
          by_cases hq : 0 < q
          · rw [if_pos hq] at hv
            simp -implicitDefEqProofs -proj only [go_sem, Nat.reduceBEq, Nat.reduceLT, Nat.reduceLeDiff, Nat.reduceAdd, Nat.reduceMul, ↓reduceIte, decide_eq_true hq]
            refine AllocR_intro (fun bs hs => ?_)
            simp -implicitDefEqProofs -proj only [go_sem, Nat.reduceBEq, Nat.reduceLT, Nat.reduceLeDiff, Nat.reduceAdd, Nat.reduceMul, ↓reduceIte]
            refine AppendA_grow (xs := []) (y := [.int .i64 0, .int .i64 q, .int .i64 t.r]) (t := 91) (e := 91) (c := 0) (cap := 0) (z0 := 0) (capc := 1) [] rfl trivial List.nodup_nil (by simp -implicitDefEqProofs -proj only [go_sem, Nat.reduceBEq, Nat.reduceLT, Nat.reduceLeDiff, Nat.reduceAdd, Nat.reduceMul, ↓reduceIte]) (by decide) (by decide) (fun H' c' cap' ha hk => ?_)
            simp -implicitDefEqProofs -proj only [go_sem, Nat.reduceBEq, Nat.reduceLT, Nat.reduceLeDiff, Nat.reduceAdd, Nat.reduceMul, ↓reduceIte]
            rw [hv]
            exact rowV_new (z := 3) (xs := rowS3 [⟨0, q, t.r⟩]) (AllH_app.1 ha).1 rowS3_scal
          · rw [if_neg hq] at hv
            simp -implicitDefEqProofs -proj only [go_sem, Nat.reduceBEq, Nat.reduceLT, Nat.reduceLeDiff, Nat.reduceAdd, Nat.reduceMul, ↓reduceIte, decide_eq_false hq]
            rw [hv]
            exact .nilsl _ _
        · by_cases hu : q ≤ t.u
          · rw [if_pos (show n = 0 ∨ q ≤ t.u from .inr hu)] at hv
            simp -implicitDefEqProofs -proj only [go_sem, Nat.reduceBEq, Nat.reduceLT, Nat.reduceLeDiff, Nat.reduceAdd, Nat.reduceMul, ↓reduceIte, decide_eq_false (show ¬ (i : Int) = (x.ts.length : Int) - 1 by omega), decide_eq_true hu]
            by_cases hq : 0 < q
            · rw [if_pos hq] at hv
              simp -implicitDefEqProofs -proj only [go_sem, Nat.reduceBEq, Nat.reduceLT, Nat.reduceLeDiff, Nat.reduceAdd, Nat.reduceMul, ↓reduceIte, decide_eq_true hq]
              refine AllocR_intro (fun bs hs => ?_)
              simp -implicitDefEqProofs -proj only [go_sem, Nat.reduceBEq, Nat.reduceLT, Nat.reduceLeDiff, Nat.reduceAdd, Nat.reduceMul, ↓reduceIte]
              refine AppendA_grow (xs := []) (y := [.int .i64 0, .int .i64 q, .int .i64 t.r]) (t := 91) (e := 91) (c := 0) (cap := 0) (z0 := 0) (capc := 1) [] rfl trivial List.nodup_nil (by simp -implicitDefEqProofs -proj only [go_sem, Nat.reduceBEq, Nat.reduceLT, Nat.reduceLeDiff, Nat.reduceAdd, Nat.reduceMul, ↓reduceIte]) (by decide) (by decide) (fun H' c' cap' ha hk => ?_)
              simp -implicitDefEqProofs -proj only [go_sem, Nat.reduceBEq, Nat.reduceLT, Nat.reduceLeDiff, Nat.reduceAdd, Nat.reduceMul, ↓reduceIte]
              rw [hv]
              exact rowV_new (z := 3) (xs := rowS3 [⟨0, q, t.r⟩]) (AllH_app.1 ha).1 rowS3_scal
            · rw [if_neg hq] at hv
              simp -implicitDefEqProofs -proj only [go_sem, Nat.reduceBEq, Nat.reduceLT, Nat.reduceLeDiff, Nat.reduceAdd, Nat.reduceMul, ↓reduceIte, decide_eq_false hq]
              rw [hv]
              exact .nilsl _ _
          · rw [if_neg (show ¬ (n = 0 ∨ q ≤ t.u) by omega)] at hv
            simp -implicitDefEqProofs -proj only [go_sem, Nat.reduceBEq, Nat.reduceLT, Nat.reduceLeDiff, Nat.reduceAdd, Nat.reduceMul, ↓reduceIte, decide_eq_false (show ¬ (i : Int) = (x.ts.length : Int) - 1 by omega), decide_eq_false hu]
            refine LoopQ_k (i + 1) ⟨by omega, by rw [hv]; congr 1; omega⟩ (by omega) rfl ?_ trivial
            simp -implicitDefEqProofs -proj only [go_sem, Nat.reduceBEq, Nat.reduceLT, Nat.reduceLeDiff, Nat.reduceAdd, Nat.reduceMul, ↓reduceIte, AllAt, i64_succ (show i < 9223372036854775807 by omega)]
      · have hi' : i = x.ts.length := by omega
        subst hi'
        rw [Nat.sub_self] at hv
        simp -implicitDefEqProofs -proj only [go_sem, Nat.reduceBEq, Nat.reduceLT, Nat.reduceLeDiff, Nat.reduceAdd, Nat.reduceMul, ↓reduceIte, decide_eq_false (show ¬ (x.ts.length : Int) < x.ts.length by omega)]
        rw [hv]
        exact .nilsl _ _
  · rw [if_neg hk]
    simp -implicitDefEqProofs -proj only [go_sem, Nat.reduceBEq, Nat.reduceLT, Nat.reduceLeDiff, Nat.reduceAdd, Nat.reduceMul, ↓reduceIte, rowT_len, hwl, decide_eq_false hk]
    refine LoopA_k (fun y : RsX => y.i ≤ x.ts.length ∧ (keys (refB b2 x q y)).Nodup) 91 (fun y => [(50, slT x.ts), (51, i64 x.ts.length), (52, i64 y.i), (6, i64 ((x.ts.length : Int) - 1)), (1, i64 q), (2, .ptr b2 0), (5, rowV 0 3 y.c y.cap (rowS3 (refN x.ts q y.i)))]) (refB b2 x q) (fun y => x.ts.length - y.i) ⟨0, 0, 0⟩ ⟨Nat.zero_le _, n2⟩ rfl ?_ ?_ ?_
    · simp -implicitDefEqProofs -proj only [go_sem, Nat.reduceBEq, Nat.reduceLT, Nat.reduceLeDiff, Nat.reduceAdd, Nat.reduceMul, ↓reduceIte, AllAt, sx_i, sx_c, sx_cap]
      rfl
    · simp -implicitDefEqProofs -proj only [go_sem, Nat.reduceBEq, Nat.reduceLT, Nat.reduceLeDiff, Nat.reduceAdd, Nat.reduceMul, ↓reduceIte]
      exact c2
    · rintro ⟨i, c, cap⟩ ⟨hi, hn⟩
      simp -implicitDefEqProofs only [sx_i] at hi
      have hall := keepH_all hn
      obtain ⟨H, hH⟩ : ∃ H, keepH (refB b2 x q ⟨i, c, cap⟩) = H := ⟨_, rfl⟩
      rw [hH] at hall
      simp -implicitDefEqProofs only [refB, sx_i, sx_c, sx_cap] at hall hn
      obtain ⟨hrow, h2, _⟩ := AllH_app.1 hall
      simp -implicitDefEqProofs -proj only [go_sem, Nat.reduceBEq, Nat.reduceLT, Nat.reduceLeDiff, Nat.reduceAdd, Nat.reduceMul, ↓reduceIte, sx_i, sx_c, sx_cap, hH]
      by_cases h : i < x.ts.length
      · have hel := rowT_at h
        have hN := refN.eq_2 x.ts q i
        have hlen := refN_len (T := x.ts) (q := q) i
        have hlen1 := refN_len (T := x.ts) (q := q) (i + 1)
        have hu := uAt_eq h
        have hr := rAt_eq h
        rw [← hu, ← hr] at hel
        clear hu hr
        generalize hR : refN x.ts q i = R at *
        generalize hR1 : refN x.ts q (i + 1) = R1 at *
        have hhi : hiR x.ts q i = if i + 1 < x.ts.length ∧ uAt x.ts i < q then uAt x.ts i else q := rfl
        generalize hiR x.ts q i = hi' at *
        generalize uAt x.ts i = u at *
        generalize rAt x.ts i = r at *
        simp -implicitDefEqProofs -proj only [go_sem, Nat.reduceBEq, Nat.reduceLT, Nat.reduceLeDiff, Nat.reduceAdd, Nat.reduceMul, ↓reduceIte, decide_eq_true (show (i : Int) < x.ts.length by omega)]
        refine ElemA_at _ (by omega) hel ?_
        simp -implicitDefEqProofs -proj only [go_sem, Nat.reduceBEq, Nat.reduceLT, Nat.reduceLeDiff, Nat.reduceAdd, Nat.reduceMul, ↓reduceIte]
        refine AllocA_intro (fun b10 hb10 => ?_)
        replace hb10 : H b10 = none := hb10
        obtain ⟨m1, m2⟩ := fresh_ne hb10 h2
        by_cases h0 : i = 0
        · have hlow : lowR x.ts i = 0 := if_pos h0
          rw [hlow] at hN
          simp -implicitDefEqProofs -proj only [go_sem, Nat.reduceBEq, Nat.reduceLT, Nat.reduceLeDiff, Nat.reduceAdd, Nat.reduceMul, ↓reduceIte, m1, h2, decide_eq_false (show ¬ 0 < (i : Int) by omega)]
          by_cases g1 : i + 1 < x.ts.length
          · by_cases g2 : u < q
            · rw [if_pos ⟨g1, g2⟩] at hhi
              rw [hhi] at hN
              simp -implicitDefEqProofs -proj only [go_sem, Nat.reduceBEq, Nat.reduceLT, Nat.reduceLeDiff, Nat.reduceAdd, Nat.reduceMul, ↓reduceIte, m1, h2, decide_eq_true (show (i : Int) < (x.ts.length : Int) - 1 by omega), decide_eq_true g2]
              by_cases hem : 0 < u
              · rw [if_pos hem] at hN
                simp -implicitDefEqProofs -proj only [go_sem, Nat.reduceBEq, Nat.reduceLT, Nat.reduceLeDiff, Nat.reduceAdd, Nat.reduceMul, ↓reduceIte, m1, h2, decide_eq_true hem]
                refine AllocR_intro (fun bs hs => ?_)
                replace hs : upd H b10 _ bs = none := hs
                simp -implicitDefEqProofs -proj only [go_sem, Nat.reduceBEq, Nat.reduceLT, Nat.reduceLeDiff, Nat.reduceAdd, Nat.reduceMul, ↓reduceIte]
                refine AppendA_grow (xs := rowS3 R) (y := [.int .i64 0, .int .i64 u, .int .i64 r]) (t := 91) (capc := 1) [(b2, .box 51 [i64 x.me, i64 x.f, i64 x.t, i64 x.al, i64 x.bl, i64 x.ki, slT x.ts, i64 x.mo, slA x.ad])] rfl (AllH_upd hs (AllH_upd hb10 hall)) hn (by simp -implicitDefEqProofs -proj only [go_sem, Nat.reduceBEq, Nat.reduceLT, Nat.reduceLeDiff, Nat.reduceAdd, Nat.reduceMul, ↓reduceIte]) (by rw [rowS3_len]; omega) (by rw [rowS3_len]; omega) (fun H' c' cap' ha hk => ?_)
                rw [show rowS3 R ++ [[.int .i64 0, .int .i64 u, .int .i64 r]] = rowS3 R1 by rw [hN]; simp [rowS3, TStep.el]] at ha hk
                have hne : rowS3 R1 ≠ [] := by rw [hN]; simp [rowS3]
                have hl1 : (rowS3 R1).length = (rowS3 R).length + 1 := by rw [hN]; simp [rowS3]
                simp -implicitDefEqProofs -proj only [go_sem, Nat.reduceBEq, Nat.reduceLT, Nat.reduceLeDiff, Nat.reduceAdd, Nat.reduceMul, ↓reduceIte]
                refine LoopQ_k ⟨i + 1, c', cap'⟩ ⟨by show i + 1 ≤ x.ts.length; omega, by simp -implicitDefEqProofs only [refB, sx_i, sx_c, sx_cap, hR1]; exact hk⟩ (by show x.ts.length - (i + 1) < x.ts.length - i; omega) rfl ?_ (by simp -implicitDefEqProofs only [refB, sx_i, sx_c, sx_cap, hR1]; exact ha)
                simp -implicitDefEqProofs -proj only [go_sem, Nat.reduceBEq, Nat.reduceLT, Nat.reduceLeDiff, Nat.reduceAdd, Nat.reduceMul, ↓reduceIte, AllAt, sx_i, sx_c, sx_cap, i64_succ (show i < 9223372036854775807 by omega), hR1, rowV_ne hne, hl1]
              · rw [if_neg hem] at hN
                simp -implicitDefEqProofs -proj only [go_sem, Nat.reduceBEq, Nat.reduceLT, Nat.reduceLeDiff, Nat.reduceAdd, Nat.reduceMul, ↓reduceIte, m1, h2, decide_eq_false hem]
                refine LoopQ_k ⟨i + 1, c, cap⟩ ⟨by show i + 1 ≤ x.ts.length; omega, by simp -implicitDefEqProofs only [refB, sx_i, sx_c, sx_cap, hR1, hN]; exact hn⟩ (by show x.ts.length - (i + 1) < x.ts.length - i; omega) rfl ?_ (by simp -implicitDefEqProofs only [refB, sx_i, sx_c, sx_cap, hR1, hN]; exact AllH_upd hb10 hall)
                simp -implicitDefEqProofs -proj only [go_sem, Nat.reduceBEq, Nat.reduceLT, Nat.reduceLeDiff, Nat.reduceAdd, Nat.reduceMul, ↓reduceIte, AllAt, sx_i, sx_c, sx_cap, i64_succ (show i < 9223372036854775807 by omega), hR1, hN]
            · rw [if_neg (fun h => g2 h.2)] at hhi
              rw [hhi] at hN
              simp -implicitDefEqProofs -proj only [go_sem, Nat.reduceBEq, Nat.reduceLT, Nat.reduceLeDiff, Nat.reduceAdd, Nat.reduceMul, ↓reduceIte, m1, h2, decide_eq_true (show (i : Int) < (x.ts.length : Int) - 1 by omega), decide_eq_false g2]
              by_cases hem : 0 < q
              · rw [if_pos hem] at hN
                simp -implicitDefEqProofs -proj only [go_sem, Nat.reduceBEq, Nat.reduceLT, Nat.reduceLeDiff, Nat.reduceAdd, Nat.reduceMul, ↓reduceIte, m1, h2, decide_eq_true hem]
                refine AllocR_intro (fun bs hs => ?_)
                replace hs : upd H b10 _ bs = none := hs
                simp -implicitDefEqProofs -proj only [go_sem, Nat.reduceBEq, Nat.reduceLT, Nat.reduceLeDiff, Nat.reduceAdd, Nat.reduceMul, ↓reduceIte]
                refine AppendA_grow (xs := rowS3 R) (y := [.int .i64 0, .int .i64 q, .int .i64 r]) (t := 91) (capc := 1) [(b2, .box 51 [i64 x.me, i64 x.f, i64 x.t, i64 x.al, i64 x.bl, i64 x.ki, slT x.ts, i64 x.mo, slA x.ad])] rfl (AllH_upd hs (AllH_upd hb10 hall)) hn (by simp -implicitDefEqProofs -proj only [go_sem, Nat.reduceBEq, Nat.reduceLT, Nat.reduceLeDiff, Nat.reduceAdd, Nat.reduceMul, ↓reduceIte]) (by rw [rowS3_len]; omega) (by rw [rowS3_len]; omega) (fun H' c' cap' ha hk => ?_)
                rw [show rowS3 R ++ [[.int .i64 0, .int .i64 q, .int .i64 r]] = rowS3 R1 by rw [hN]; simp [rowS3, TStep.el]] at ha hk
                have hne : rowS3 R1 ≠ [] := by rw [hN]; simp [rowS3]
                have hl1 : (rowS3 R1).length = (rowS3 R).length + 1 := by rw [hN]; simp [rowS3]
                simp -implicitDefEqProofs -proj only [go_sem, Nat.reduceBEq, Nat.reduceLT, Nat.reduceLeDiff, Nat.reduceAdd, Nat.reduceMul, ↓reduceIte]
                refine LoopQ_k ⟨i + 1, c', cap'⟩ ⟨by show i + 1 ≤ x.ts.length; omega, by simp -implicitDefEqProofs only [refB, sx_i, sx_c, sx_cap, hR1]; exact hk⟩ (by show x.ts.length - (i + 1) < x.ts.length - i; omega) rfl ?_ (by simp -implicitDefEqProofs only [refB, sx_i, sx_c, sx_cap, hR1]; exact ha)
                simp -implicitDefEqProofs -proj only [go_sem, Nat.reduceBEq, Nat.reduceLT, Nat.reduceLeDiff, Nat.reduceAdd, Nat.reduceMul, ↓reduceIte, AllAt, sx_i, sx_c, sx_cap, i64_succ (show i < 9223372036854775807 by omega), hR1, rowV_ne hne, hl1]
              · rw [if_neg hem] at hN
                simp -implicitDefEqProofs -proj only [go_sem, Nat.reduceBEq, Nat.reduceLT, Nat.reduceLeDiff, Nat.reduceAdd, Nat.reduceMul, ↓reduceIte, m1, h2, decide_eq_false hem]
                refine LoopQ_k ⟨i + 1, c, cap⟩ ⟨by show i + 1 ≤ x.ts.length; omega, by simp -implicitDefEqProofs only [refB, sx_i, sx_c, sx_cap, hR1, hN]; exact hn⟩ (by show x.ts.length - (i + 1) < x.ts.length - i; omega) rfl ?_ (by simp -implicitDefEqProofs only [refB, sx_i, sx_c, sx_cap, hR1, hN]; exact AllH_upd hb10 hall)
                simp -implicitDefEqProofs -proj only [go_sem, Nat.reduceBEq, Nat.reduceLT, Nat.reduceLeDiff, Nat.reduceAdd, Nat.reduceMul, ↓reduceIte, AllAt, sx_i, sx_c, sx_cap, i64_succ (show i < 9223372036854775807 by omega), hR1, hN]
          · rw [if_neg (fun h => g1 h.1)] at hhi
            rw [hhi] at hN
            simp -implicitDefEqProofs -proj only [go_sem, Nat.reduceBEq, Nat.reduceLT, Nat.reduceLeDiff, Nat.reduceAdd, Nat.reduceMul, ↓reduceIte, m1, h2, decide_eq_false (show ¬ (i : Int) < (x.ts.length : Int) - 1 by omega)]
            by_cases hem : 0 < q
            · rw [if_pos hem] at hN
              simp -implicitDefEqProofs -proj only [go_sem, Nat.reduceBEq, Nat.reduceLT, Nat.reduceLeDiff, Nat.reduceAdd, Nat.reduceMul, ↓reduceIte, m1, h2, decide_eq_true hem]
              refine AllocR_intro (fun bs hs => ?_)
              replace hs : upd H b10 _ bs = none := hs
              simp -implicitDefEqProofs -proj only [go_sem, Nat.reduceBEq, Nat.reduceLT, Nat.reduceLeDiff, Nat.reduceAdd, Nat.reduceMul, ↓reduceIte]
              refine AppendA_grow (xs := rowS3 R) (y := [.int .i64 0, .int .i64 q, .int .i64 r]) (t := 91) (capc := 1) [(b2, .box 51 [i64 x.me, i64 x.f, i64 x.t, i64 x.al, i64 x.bl, i64 x.ki, slT x.ts, i64 x.mo, slA x.ad])] rfl (AllH_upd hs (AllH_upd hb10 hall)) hn (by simp -implicitDefEqProofs -proj only [go_sem, Nat.reduceBEq, Nat.reduceLT, Nat.reduceLeDiff, Nat.reduceAdd, Nat.reduceMul, ↓reduceIte]) (by rw [rowS3_len]; omega) (by rw [rowS3_len]; omega) (fun H' c' cap' ha hk => ?_)
              rw [show rowS3 R ++ [[.int .i64 0, .int .i64 q, .int .i64 r]] = rowS3 R1 by rw [hN]; simp [rowS3, TStep.el]] at ha hk
              have hne : rowS3 R1 ≠ [] := by rw [hN]; simp [rowS3]
              have hl1 : (rowS3 R1).length = (rowS3 R).length + 1 := by rw [hN]; simp [rowS3]
              simp -implicitDefEqProofs -proj only [go_sem, Nat.reduceBEq, Nat.reduceLT, Nat.reduceLeDiff, Nat.reduceAdd, Nat.reduceMul, ↓reduceIte]
              refine LoopQ_k ⟨i + 1, c', cap'⟩ ⟨by show i + 1 ≤ x.ts.length; omega, by simp -implicitDefEqProofs only [refB, sx_i, sx_c, sx_cap, hR1]; exact hk⟩ (by show x.ts.length - (i + 1) < x.ts.length - i; omega) rfl ?_ (by simp -implicitDefEqProofs only [refB, sx_i, sx_c, sx_cap, hR1]; exact ha)
              simp -implicitDefEqProofs -proj only [go_sem, Nat.reduceBEq, Nat.reduceLT, Nat.reduceLeDiff, Nat.reduceAdd, Nat.reduceMul, ↓reduceIte, AllAt, sx_i, sx_c, sx_cap, i64_succ (show i < 9223372036854775807 by omega), hR1, rowV_ne hne, hl1]
            · rw [if_neg hem] at hN
              simp -implicitDefEqProofs -proj only [go_sem, Nat.reduceBEq, Nat.reduceLT, Nat.reduceLeDiff, Nat.reduceAdd, Nat.reduceMul, ↓reduceIte, m1, h2, decide_eq_false hem]
              refine LoopQ_k ⟨i + 1, c, cap⟩ ⟨by show i + 1 ≤ x.ts.length; omega, by simp -implicitDefEqProofs only [refB, sx_i, sx_c, sx_cap, hR1, hN]; exact hn⟩ (by show x.ts.length - (i + 1) < x.ts.length - i; omega) rfl ?_ (by simp -implicitDefEqProofs only [refB, sx_i, sx_c, sx_cap, hR1, hN]; exact AllH_upd hb10 hall)
              simp -implicitDefEqProofs -proj only [go_sem, Nat.reduceBEq, Nat.reduceLT, Nat.reduceLeDiff, Nat.reduceAdd, Nat.reduceMul, ↓reduceIte, AllAt, sx_i, sx_c, sx_cap, i64_succ (show i < 9223372036854775807 by omega), hR1, hN]
        · have hep := rowT_at (l := x.ts) (i := i - 1) (by omega)
          have wi : IntKind.i64.wrap ((i : Int) - 1) = ((i - 1 : Nat) : Int) := by rw [IntKind.wrap_i64]; omega
          have hlow : lowR x.ts i = uAt x.ts (i - 1) := if_neg h0
          rw [← uAt_eq (show i - 1 < x.ts.length by omega)] at hep
          rw [hlow] at hN
          generalize uAt x.ts (i - 1) = lo at *
          simp -implicitDefEqProofs -proj only [go_sem, Nat.reduceBEq, Nat.reduceLT, Nat.reduceLeDiff, Nat.reduceAdd, Nat.reduceMul, ↓reduceIte, m1, h2, decide_eq_true (show 0 < (i : Int) by omega), wi]
          (repeat' (with_reducible refine VC_intro ?_ (fun h => ?_); (focus first | decide | omega); clear h; try simp -implicitDefEqProofs -proj only [go_sem, Nat.reduceBEq, Nat.reduceLT, Nat.reduceLeDiff, Nat.reduceAdd, Nat.reduceMul, ↓reduceIte, wi]))
          refine ElemA_at _ (by omega) hep ?_
          simp -implicitDefEqProofs -proj only [go_sem, Nat.reduceBEq, Nat.reduceLT, Nat.reduceLeDiff, Nat.reduceAdd, Nat.reduceMul, ↓reduceIte, m1, h2]
          by_cases g1 : i + 1 < x.ts.length
          · by_cases g2 : u < q
            · rw [if_pos ⟨g1, g2⟩] at hhi
              rw [hhi] at hN
              simp -implicitDefEqProofs -proj only [go_sem, Nat.reduceBEq, Nat.reduceLT, Nat.reduceLeDiff, Nat.reduceAdd, Nat.reduceMul, ↓reduceIte, m1, h2, decide_eq_true (show (i : Int) < (x.ts.length : Int) - 1 by omega), decide_eq_true g2]
              by_cases hem : lo < u
              · rw [if_pos hem] at hN
                simp -implicitDefEqProofs -proj only [go_sem, Nat.reduceBEq, Nat.reduceLT, Nat.reduceLeDiff, Nat.reduceAdd, Nat.reduceMul, ↓reduceIte, m1, h2, decide_eq_true hem]
                refine AllocR_intro (fun bs hs => ?_)
                replace hs : upd H b10 _ bs = none := hs
                simp -implicitDefEqProofs -proj only [go_sem, Nat.reduceBEq, Nat.reduceLT, Nat.reduceLeDiff, Nat.reduceAdd, Nat.reduceMul, ↓reduceIte]
                refine AppendA_grow (xs := rowS3 R) (y := [.int .i64 lo, .int .i64 u, .int .i64 r]) (t := 91) (capc := 1) [(b2, .box 51 [i64 x.me, i64 x.f, i64 x.t, i64 x.al, i64 x.bl, i64 x.ki, slT x.ts, i64 x.mo, slA x.ad])] rfl (AllH_upd hs (AllH_upd hb10 hall)) hn (by simp -implicitDefEqProofs -proj only [go_sem, Nat.reduceBEq, Nat.reduceLT, Nat.reduceLeDiff, Nat.reduceAdd, Nat.reduceMul, ↓reduceIte]) (by rw [rowS3_len]; omega) (by rw [rowS3_len]; omega) (fun H' c' cap' ha hk => ?_)
                rw [show rowS3 R ++ [[.int .i64 lo, .int .i64 u, .int .i64 r]] = rowS3 R1 by rw [hN]; simp [rowS3, TStep.el]] at ha hk
                have hne : rowS3 R1 ≠ [] := by rw [hN]; simp [rowS3]
                have hl1 : (rowS3 R1).length = (rowS3 R).length + 1 := by rw [hN]; simp [rowS3]
                simp -implicitDefEqProofs -proj only [go_sem, Nat.reduceBEq, Nat.reduceLT, Nat.reduceLeDiff, Nat.reduceAdd, Nat.reduceMul, ↓reduceIte]
                refine LoopQ_k ⟨i + 1, c', cap'⟩ ⟨by show i + 1 ≤ x.ts.length; omega, by simp -implicitDefEqProofs only [refB, sx_i, sx_c, sx_cap, hR1]; exact hk⟩ (by show x.ts.length - (i + 1) < x.ts.length - i; omega) rfl ?_ (by simp -implicitDefEqProofs only [refB, sx_i, sx_c, sx_cap, hR1]; exact ha)
                simp -implicitDefEqProofs -proj only [go_sem, Nat.reduceBEq, Nat.reduceLT, Nat.reduceLeDiff, Nat.reduceAdd, Nat.reduceMul, ↓reduceIte, AllAt, sx_i, sx_c, sx_cap, i64_succ (show i < 9223372036854775807 by omega), hR1, rowV_ne hne, hl1]
              · rw [if_neg hem] at hN
                simp -implicitDefEqProofs -proj only [go_sem, Nat.reduceBEq, Nat.reduceLT, Nat.reduceLeDiff, Nat.reduceAdd, Nat.reduceMul, ↓reduceIte, m1, h2, decide_eq_false hem]
                refine LoopQ_k ⟨i + 1, c, cap⟩ ⟨by show i + 1 ≤ x.ts.length; omega, by simp -implicitDefEqProofs only [refB, sx_i, sx_c, sx_cap, hR1, hN]; exact hn⟩ (by show x.ts.length - (i + 1) < x.ts.length - i; omega) rfl ?_ (by simp -implicitDefEqProofs only [refB, sx_i, sx_c, sx_cap, hR1, hN]; exact AllH_upd hb10 hall)
                simp -implicitDefEqProofs -proj only [go_sem, Nat.reduceBEq, Nat.reduceLT, Nat.reduceLeDiff, Nat.reduceAdd, Nat.reduceMul, ↓reduceIte, AllAt, sx_i, sx_c, sx_cap, i64_succ (show i < 9223372036854775807 by omega), hR1, hN]
            · rw [if_neg (fun h => g2 h.2)] at hhi
              rw [hhi] at hN
              simp -implicitDefEqProofs -proj only [go_sem, Nat.reduceBEq, Nat.reduceLT, Nat.reduceLeDiff, Nat.reduceAdd, Nat.reduceMul, ↓reduceIte, m1, h2, decide_eq_true (show (i : Int) < (x.ts.length : Int) - 1 by omega), decide_eq_false g2]
              by_cases hem : lo < q
              · rw [if_pos hem] at hN
                simp -implicitDefEqProofs -proj only [go_sem, Nat.reduceBEq, Nat.reduceLT, Nat.reduceLeDiff, Nat.reduceAdd, Nat.reduceMul, ↓reduceIte, m1, h2, decide_eq_true hem]
                refine AllocR_intro (fun bs hs => ?_)
                replace hs : upd H b10 _ bs = none := hs
                simp -implicitDefEqProofs -proj only [go_sem, Nat.reduceBEq, Nat.reduceLT, Nat.reduceLeDiff, Nat.reduceAdd, Nat.reduceMul, ↓reduceIte]
                refine AppendA_grow (xs := rowS3 R) (y := [.int .i64 lo, .int .i64 q, .int .i64 r]) (t := 91) (capc := 1) [(b2, .box 51 [i64 x.me, i64 x.f, i64 x.t, i64 x.al, i64 x.bl, i64 x.ki, slT x.ts, i64 x.mo, slA x.ad])] rfl (AllH_upd hs (AllH_upd hb10 hall)) hn (by simp -implicitDefEqProofs -proj only [go_sem, Nat.reduceBEq, Nat.reduceLT, Nat.reduceLeDiff, Nat.reduceAdd, Nat.reduceMul, ↓reduceIte]) (by rw [rowS3_len]; omega) (by rw [rowS3_len]; omega) (fun H' c' cap' ha hk => ?_)
                rw [show rowS3 R ++ [[.int .i64 lo, .int .i64 q, .int .i64 r]] = rowS3 R1 by rw [hN]; simp [rowS3, TStep.el]] at ha hk
                have hne : rowS3 R1 ≠ [] := by rw [hN]; simp [rowS3]
                have hl1 : (rowS3 R1).length = (rowS3 R).length + 1 := by rw [hN]; simp [rowS3]
                simp -implicitDefEqProofs -proj only [go_sem, Nat.reduceBEq, Nat.reduceLT, Nat.reduceLeDiff, Nat.reduceAdd, Nat.reduceMul, ↓reduceIte]
                refine LoopQ_k ⟨i + 1, c', cap'⟩ ⟨by show i + 1 ≤ x.ts.length; omega, by simp -implicitDefEqProofs only [refB, sx_i, sx_c, sx_cap, hR1]; exact hk⟩ (by show x.ts.length - (i + 1) < x.ts.length - i; omega) rfl ?_ (by simp -implicitDefEqProofs only [refB, sx_i, sx_c, sx_cap, hR1]; exact ha)
                simp -implicitDefEqProofs -proj only [go_sem, Nat.reduceBEq, Nat.reduceLT, Nat.reduceLeDiff, Nat.reduceAdd, Nat.reduceMul, ↓reduceIte, AllAt, sx_i, sx_c, sx_cap, i64_succ (show i < 9223372036854775807 by omega), hR1, rowV_ne hne, hl1]
              · rw [if_neg hem] at hN
                simp -implicitDefEqProofs -proj only [go_sem, Nat.reduceBEq, Nat.reduceLT, Nat.reduceLeDiff, Nat.reduceAdd, Nat.reduceMul, ↓reduceIte, m1, h2, decide_eq_false hem]
                refine LoopQ_k ⟨i + 1, c, cap⟩ ⟨by show i + 1 ≤ x.ts.length; omega, by simp -implicitDefEqProofs only [refB, sx_i, sx_c, sx_cap, hR1, hN]; exact hn⟩ (by show x.ts.length - (i + 1) < x.ts.length - i; omega) rfl ?_ (by simp -implicitDefEqProofs only [refB, sx_i, sx_c, sx_cap, hR1, hN]; exact AllH_upd hb10 hall)
                simp -implicitDefEqProofs -proj only [go_sem, Nat.reduceBEq, Nat.reduceLT, Nat.reduceLeDiff, Nat.reduceAdd, Nat.reduceMul, ↓reduceIte, AllAt, sx_i, sx_c, sx_cap, i64_succ (show i < 9223372036854775807 by omega), hR1, hN]
          · rw [if_neg (fun h => g1 h.1)] at hhi
            rw [hhi] at hN
            simp -implicitDefEqProofs -proj only [go_sem, Nat.reduceBEq, Nat.reduceLT, Nat.reduceLeDiff, Nat.reduceAdd, Nat.reduceMul, ↓reduceIte, m1, h2, decide_eq_false (show ¬ (i : Int) < (x.ts.length : Int) - 1 by omega)]
            by_cases hem : lo < q
            · rw [if_pos hem] at hN
              simp -implicitDefEqProofs -proj only [go_sem, Nat.reduceBEq, Nat.reduceLT, Nat.reduceLeDiff, Nat.reduceAdd, Nat.reduceMul, ↓reduceIte, m1, h2, decide_eq_true hem]
              refine AllocR_intro (fun bs hs => ?_)
              replace hs : upd H b10 _ bs = none := hs
              simp -implicitDefEqProofs -proj only [go_sem, Nat.reduceBEq, Nat.reduceLT, Nat.reduceLeDiff, Nat.reduceAdd, Nat.reduceMul, ↓reduceIte]
              refine AppendA_grow (xs := rowS3 R) (y := [.int .i64 lo, .int .i64 q, .int .i64 r]) (t := 91) (capc := 1) [(b2, .box 51 [i64 x.me, i64 x.f, i64 x.t, i64 x.al, i64 x.bl, i64 x.ki, slT x.ts, i64 x.mo, slA x.ad])] rfl (AllH_upd hs (AllH_upd hb10 hall)) hn (by simp -implicitDefEqProofs -proj only [go_sem, Nat.reduceBEq, Nat.reduceLT, Nat.reduceLeDiff, Nat.reduceAdd, Nat.reduceMul, ↓reduceIte]) (by rw [rowS3_len]; omega) (by rw [rowS3_len]; omega) (fun H' c' cap' ha hk => ?_)
              rw [show rowS3 R ++ [[.int .i64 lo, .int .i64 q, .int .i64 r]] = rowS3 R1 by rw [hN]; simp [rowS3, TStep.el]] at ha hk
              have hne : rowS3 R1 ≠ [] := by rw [hN]; simp [rowS3]
              have hl1 : (rowS3 R1).length = (rowS3 R).length + 1 := by rw [hN]; simp [rowS3]
              simp -implicitDefEqProofs -proj only [go_sem, Nat.reduceBEq, Nat.reduceLT, Nat.reduceLeDiff, Nat.reduceAdd, Nat.reduceMul, ↓reduceIte]
              refine LoopQ_k ⟨i + 1, c', cap'⟩ ⟨by show i + 1 ≤ x.ts.length; omega, by simp -implicitDefEqProofs only [refB, sx_i, sx_c, sx_cap, hR1]; exact hk⟩ (by show x.ts.length - (i + 1) < x.ts.length - i; omega) rfl ?_ (by simp -implicitDefEqProofs only [refB, sx_i, sx_c, sx_cap, hR1]; exact ha)
              simp -implicitDefEqProofs -proj only [go_sem, Nat.reduceBEq, Nat.reduceLT, Nat.reduceLeDiff, Nat.reduceAdd, Nat.reduceMul, ↓reduceIte, AllAt, sx_i, sx_c, sx_cap, i64_succ (show i < 9223372036854775807 by omega), hR1, rowV_ne hne, hl1]
            · rw [if_neg hem] at hN
              simp -implicitDefEqProofs -proj only [go_sem, Nat.reduceBEq, Nat.reduceLT, Nat.reduceLeDiff, Nat.reduceAdd, Nat.reduceMul, ↓reduceIte, m1, h2, decide_eq_false hem]
              refine LoopQ_k ⟨i + 1, c, cap⟩ ⟨by show i + 1 ≤ x.ts.length; omega, by simp -implicitDefEqProofs only [refB, sx_i, sx_c, sx_cap, hR1, hN]; exact hn⟩ (by show x.ts.length - (i + 1) < x.ts.length - i; omega) rfl ?_ (by simp -implicitDefEqProofs only [refB, sx_i, sx_c, sx_cap, hR1, hN]; exact AllH_upd hb10 hall)
              simp -implicitDefEqProofs -proj only [go_sem, Nat.reduceBEq, Nat.reduceLT, Nat.reduceLeDiff, Nat.reduceAdd, Nat.reduceMul, ↓reduceIte, AllAt, sx_i, sx_c, sx_cap, i64_succ (show i < 9223372036854775807 by omega), hR1, hN]
      · have hi' : i = x.ts.length := by omega
        subst hi'
        simp -implicitDefEqProofs -proj only [go_sem, Nat.reduceBEq, Nat.reduceLT, Nat.reduceLeDiff, Nat.reduceAdd, Nat.reduceMul, ↓reduceIte, decide_eq_false (show ¬ (x.ts.length : Int) < x.ts.length by omega)]
        exact rowV_new hrow rowS3_scal
/-- An amount behind an adjustment. -/
def oneF (a : Adj) (x : Int) : Option Int :=
  if a.k = 1 then mdO (x * a.n) 100000 a.m
  else if a.k = 2 then some (min x a.n)
  else if a.k = 3 then some (max x a.n)
  else if a.k = 4 then fitO (x + a.n)
  else none
def allF : Int → List Adj → Option Int
  | x, [] => some x
  | x, a :: l => match oneF a x with
    | some y => allF y l
    | none => none
theorem fitO_fit {n y : Int} (h : fitO n = some y) : Fit y ∧ y = n := by
  unfold fitO at h; split at h
  · next hf => cases h; exact ⟨hf, rfl⟩
  · cases h
theorem mdO_fit {p c m y : Int} (h : mdO p c m = some y) : Fit y ∧ y = rnd p c m ∧ 0 < c ∧ 0 ≤ m ∧ m ≤ 3 := by
  unfold mdO at h; split at h
  · next hh => exact ⟨(fitO_fit h).1, (fitO_fit h).2, hh⟩
  · cases h
theorem oneF_fit {a : Adj} {x y : Int} (ha : a.Fit) (hx : Fit x) (h : oneF a x = some y) : Fit y := by
  unfold oneF at h
  obtain ⟨_, hn, _⟩ := ha
  split at h
  · exact (mdO_fit h).1
  split at h
  · cases h; unfold Fit at *; omega
  split at h
  · cases h; unfold Fit at *; omega
  split at h
  · exact (fitO_fit h).1
  · cases h
theorem big_fit {n : Int} (h : n.natAbs ≤ 85070591730234615865843651857942052864) : Big n.natAbs := ⟨by omega, by omega⟩
theorem addS_yes {s : TStep} {a : Int} (h1 : Fit (s.r * (s.t - s.f))) (h2 : Fit (a + s.r * (s.t - s.f))) : addS s a = some (a + s.r * (s.t - s.f)) := if_pos ⟨h1, h2⟩
theorem addS_no {s : TStep} {a : Int} (h : ¬ (Fit (s.r * (s.t - s.f)) ∧ Fit (a + s.r * (s.t - s.f)))) : addS s a = none := if_neg h
theorem steps_ref {x : PartX} {n : Int} (S : Srt x.ts) : (if x.ki = 2 then volL x.ts n else refL x.ts n) = stepsL x n := by
  unfold stepsL
  split
  · rfl
  · exact (gradL_ref S).symm
theorem volI_len {T : List Tier} {q : Int} : ∀ i, (volI T q i).length ≤ 1
  | 0 => by simp [volI]
  | i + 1 => by
    have := volI_len (T := T) (q := q) i
    rw [volI]
    repeat' split
    all_goals first | omega | simp
theorem steps_len {x : PartX} {n : Int} (S : Srt x.ts) (h : 1 ≤ x.ts.length) : (stepsL x n).length ≤ x.ts.length := by
  unfold stepsL
  split
  · have := volI_len (T := x.ts) (q := n) x.ts.length
    exact Nat.le_trans this h
  · rw [gradL_ref S]
    exact refN_len x.ts.length
theorem RMicro_ok {x : PartX} {q : Int} (hx : x.Fit) (hq : Fit q) (G : GoodX x) (S : Srt x.ts) : DataW Try.prog f_poundageref11_Micro [partV x, i64 q] (optR (microO x q)) := by
  have hleft := Left_ok hx hq G.al.1 G.bl.1
  have htn := G.tn
  unfold microO
  rw [show rnd (max (q - x.al) 0) x.bl 1 * x.bl = leftI x q from rfl]
  refine CallW_intro comp_poundageref11_Micro (by simp) ?_
  simp -implicitDefEqProofs -proj only [go_sem, Nat.reduceBEq, Nat.reduceLT, Nat.reduceLeDiff, Nat.reduceAdd, Nat.reduceMul, ↓reduceIte]
  refine AllocA_intro (fun b2 hb2 => ?_)
  simp -implicitDefEqProofs -proj only [go_sem, Nat.reduceBEq, Nat.reduceLT, Nat.reduceLeDiff, Nat.reduceAdd, Nat.reduceMul, ↓reduceIte]
  refine CallA_pure hleft ?_
  by_cases h0 : q < 0
  · rw [if_pos h0, if_pos h0, optR]
    simp -implicitDefEqProofs -proj only [go_sem, Nat.reduceBEq, Nat.reduceLT, Nat.reduceLeDiff, Nat.reduceAdd, Nat.reduceMul, ↓reduceIte]
    exact LendV_eq rfl
  rw [if_neg h0, if_neg h0]
  by_cases hf : Fit (leftI x q)
  rotate_left
  · rw [fitR_no hf, if_neg hf, optR]
    simp -implicitDefEqProofs -proj only [go_sem, Nat.reduceBEq, Nat.reduceLT, Nat.reduceLeDiff, Nat.reduceAdd, Nat.reduceMul, ↓reduceIte]
    exact LendV_eq rfl
  rw [fitR_yes hf, if_pos hf]
  have hst := (RefSteps_new (x := x) (q := leftI x q) (by omega) htn.1).data
  rw [steps_ref S] at hst
  have hln := steps_len (n := leftI x q) S htn.1
  have hsf := steps_fit (n := leftI x q) S hf
  generalize stepsL x (leftI x q) = L at *
  simp -implicitDefEqProofs -proj only [go_sem, Nat.reduceBEq, Nat.reduceLT, Nat.reduceLeDiff, Nat.reduceAdd, Nat.reduceMul, ↓reduceIte]
  refine CallA_pure hst ?_
  simp -implicitDefEqProofs -proj only [go_sem, Nat.reduceBEq, Nat.reduceLT, Nat.reduceLeDiff, Nat.reduceAdd, Nat.reduceMul, ↓reduceIte, rowS3_len]
  refine LoopA_k (fun p : Nat × Int => p.1 ≤ L.length ∧ Fit p.2 ∧ sumS (L.drop p.1) p.2 = sumS L 0) 61 (fun p => [(8, i64 p.2), (25, slS3 L), (26, i64 L.length), (27, i64 p.1)]) (fun _ => []) (fun p => L.length - p.1) (0, 0) ⟨Nat.zero_le _, by decide, rfl⟩ rfl ?_ ?_ ?_
  · simp -implicitDefEqProofs -proj only [go_sem, Nat.reduceBEq, Nat.reduceLT, Nat.reduceLeDiff, Nat.reduceAdd, Nat.reduceMul, ↓reduceIte, AllAt]
  · trivial
  · rintro ⟨i, a⟩ ⟨hi, ha, hs⟩
    rw [Fst_mk] at hi; rw [Snd_mk] at ha; rw [Fst_mk, Snd_mk] at hs
    by_cases h : i < L.length
    · have hel := rowS3_at h
      obtain ⟨f1, f2, f3, f4⟩ := hsf _ (List.getElem_mem h)
      rw [List.drop_eq_getElem_cons h, sumS] at hs
      generalize L[i] = s at *
      have w1 : IntKind.i64.wrap (s.t - s.f) = s.t - s.f := by unfold Fit at f4; rw [IntKind.wrap_i64]; omega
      have hmul := RMul_ok f3 f4
      have hps := prod_small f3 f4
      have hint := RInt_ok (n := s.r * (s.t - s.f)) (big_fit hps)
      have hofa := ROf_ok ha
      simp -implicitDefEqProofs -proj only [go_sem, Nat.reduceBEq, Nat.reduceLT, Nat.reduceLeDiff, Nat.reduceAdd, Nat.reduceMul, ↓reduceIte, decide_eq_true (show (i : Int) < L.length by omega)]
      refine ElemA_at _ (by omega) hel ?_
      simp -implicitDefEqProofs -proj only [go_sem, Nat.reduceBEq, Nat.reduceLT, Nat.reduceLeDiff, Nat.reduceAdd, Nat.reduceMul, ↓reduceIte]
      refine AllocA_intro (fun b10 hb10 => ?_)
      simp -implicitDefEqProofs -proj only [go_sem, Nat.reduceBEq, Nat.reduceLT, Nat.reduceLeDiff, Nat.reduceAdd, Nat.reduceMul, ↓reduceIte, w1]
      refine CallA_pure hmul ?_
      simp -implicitDefEqProofs -proj only [go_sem, Nat.reduceBEq, Nat.reduceLT, Nat.reduceLeDiff, Nat.reduceAdd, Nat.reduceMul, ↓reduceIte]
      refine CallA_pure hint ?_
      by_cases c1 : Fit (s.r * (s.t - s.f))
      · have hofp := ROf_ok c1
        have hadd := RAdd_ok (a := a) (b := s.r * (s.t - s.f)) (by unfold Fit at ha; omega) (by omega)
        have hint2 := RInt_ok (n := a + s.r * (s.t - s.f)) (big_fit (by unfold Fit at ha c1; omega))
        rw [fitR_yes c1]
        simp -implicitDefEqProofs -proj only [go_sem, Nat.reduceBEq, Nat.reduceLT, Nat.reduceLeDiff, Nat.reduceAdd, Nat.reduceMul, ↓reduceIte]
        refine CallA_pure hofa ?_
        simp -implicitDefEqProofs -proj only [go_sem, Nat.reduceBEq, Nat.reduceLT, Nat.reduceLeDiff, Nat.reduceAdd, Nat.reduceMul, ↓reduceIte]
        refine CallA_pure hofp ?_
        simp -implicitDefEqProofs -proj only [go_sem, Nat.reduceBEq, Nat.reduceLT, Nat.reduceLeDiff, Nat.reduceAdd, Nat.reduceMul, ↓reduceIte]
        refine CallA_pure hadd ?_
        simp -implicitDefEqProofs -proj only [go_sem, Nat.reduceBEq, Nat.reduceLT, Nat.reduceLeDiff, Nat.reduceAdd, Nat.reduceMul, ↓reduceIte]
        refine CallA_pure hint2 ?_
        by_cases c2 : Fit (a + s.r * (s.t - s.f))
        · rw [addS_yes c1 c2] at hs
          simp -implicitDefEqProofs only [] at hs
          rw [fitR_yes c2]
          simp -implicitDefEqProofs -proj only [go_sem, Nat.reduceBEq, Nat.reduceLT, Nat.reduceLeDiff, Nat.reduceAdd, Nat.reduceMul, ↓reduceIte]
          refine LoopQ_k (i + 1, a + s.r * (s.t - s.f)) ⟨by rw [Fst_mk]; omega, c2, hs⟩ (by rw [Fst_mk, Fst_mk]; omega) rfl ?_ trivial
          simp -implicitDefEqProofs -proj only [go_sem, Nat.reduceBEq, Nat.reduceLT, Nat.reduceLeDiff, Nat.reduceAdd, Nat.reduceMul, ↓reduceIte, AllAt, i64_succ (show i < 9223372036854775807 by omega)]
        · rw [addS_no (fun k => c2 k.2)] at hs
          simp -implicitDefEqProofs only [] at hs
          rw [fitR_no c2, ← hs, optR]
          simp -implicitDefEqProofs -proj only [go_sem, Nat.reduceBEq, Nat.reduceLT, Nat.reduceLeDiff, Nat.reduceAdd, Nat.reduceMul, ↓reduceIte]
          exact LendV_eq rfl
      · have hofp := ROf_ok (a := 0) (by decide)
        have hadd := RAdd_ok (a := a) (b := 0) (by unfold Fit at ha; omega) (by decide)
        rw [Int.add_zero] at hadd
        have hint2 := RInt_ok (n := a) (big_fit (by unfold Fit at ha; omega))
        rw [fitR_yes ha] at hint2
        rw [addS_no (fun k => c1 k.1)] at hs
        simp -implicitDefEqProofs only [] at hs
        rw [fitR_no c1, ← hs, optR]
        simp -implicitDefEqProofs -proj only [go_sem, Nat.reduceBEq, Nat.reduceLT, Nat.reduceLeDiff, Nat.reduceAdd, Nat.reduceMul, ↓reduceIte]
        refine CallA_pure hofa ?_
        simp -implicitDefEqProofs -proj only [go_sem, Nat.reduceBEq, Nat.reduceLT, Nat.reduceLeDiff, Nat.reduceAdd, Nat.reduceMul, ↓reduceIte]
        refine CallA_pure hofp ?_
        simp -implicitDefEqProofs -proj only [go_sem, Nat.reduceBEq, Nat.reduceLT, Nat.reduceLeDiff, Nat.reduceAdd, Nat.reduceMul, ↓reduceIte]
        refine CallA_pure hadd ?_
        simp -implicitDefEqProofs -proj only [go_sem, Nat.reduceBEq, Nat.reduceLT, Nat.reduceLeDiff, Nat.reduceAdd, Nat.reduceMul, ↓reduceIte]
        refine CallA_pure hint2 ?_
        simp -implicitDefEqProofs -proj only [go_sem, Nat.reduceBEq, Nat.reduceLT, Nat.reduceLeDiff, Nat.reduceAdd, Nat.reduceMul, ↓reduceIte]
        exact LendV_eq rfl
    · have hi' : i = L.length := by omega
      subst hi'
      rw [List.drop_length] at hs
      simp -implicitDefEqProofs -proj only [go_sem, Nat.reduceBEq, Nat.reduceLT, Nat.reduceLeDiff, Nat.reduceAdd, Nat.reduceMul, ↓reduceIte, decide_eq_false (show ¬ (L.length : Int) < L.length by omega)]
      rw [← hs, sumS, optR]
      exact LendV_eq rfl
theorem RCharge_ok {x : PartX} {q : Int} (hx : x.Fit) (hq : Fit q) (G : GoodX x) (S : Srt x.ts) : DataW Try.prog f_poundageref11_Charge [partV x, i64 q] (optR (chargeO x q)) := by
  have hm := RMicro_ok hx hq G S
  have hf := fun n => @micro_fit x q n
  unfold chargeO
  refine CallW_intro comp_poundageref11_Charge (by simp) ?_
  simp -implicitDefEqProofs -proj only [go_sem, Nat.reduceBEq, Nat.reduceLT, Nat.reduceLeDiff, Nat.reduceAdd, Nat.reduceMul, ↓reduceIte]
  refine AllocA_intro (fun b2 hb2 => ?_)
  simp -implicitDefEqProofs -proj only [go_sem, Nat.reduceBEq, Nat.reduceLT, Nat.reduceLeDiff, Nat.reduceAdd, Nat.reduceMul, ↓reduceIte]
  refine CallA_pure hm ?_
  cases e : microO x q with
  | none =>
    simp -implicitDefEqProofs -proj only [go_sem, Nat.reduceBEq, Nat.reduceLT, Nat.reduceLeDiff, Nat.reduceAdd, Nat.reduceMul, ↓reduceIte, optR]
    exact LendV_eq rfl
  | some n =>
    have hd := RMulDiv_ok (a := n) (b := 1) (c := 1000000) (m := x.mo) (hf n e) (by decide) (by decide)
    rw [Int.mul_one, mdO_R] at hd
    simp -implicitDefEqProofs only []
    simp -implicitDefEqProofs -proj only [go_sem, Nat.reduceBEq, Nat.reduceLT, Nat.reduceLeDiff, Nat.reduceAdd, Nat.reduceMul, ↓reduceIte, optR]
    refine CallA_pure hd ?_
    cases mdO n 1000000 x.mo with
    | none => simp -implicitDefEqProofs -proj only [go_sem, Nat.reduceBEq, Nat.reduceLT, Nat.reduceLeDiff, Nat.reduceAdd, Nat.reduceMul, ↓reduceIte, optR]; exact LendV_eq rfl
    | some m => simp -implicitDefEqProofs -proj only [go_sem, Nat.reduceBEq, Nat.reduceLT, Nat.reduceLeDiff, Nat.reduceAdd, Nat.reduceMul, ↓reduceIte, optR]; exact LendV_eq rfl
theorem ROneA_ok {a : Adj} {x : Int} (ha : a.Fit) (hx : Fit x) : DataW Try.prog f_poundageref12_One [.agg [i64 a.k, i64 a.n, i64 a.m], i64 x] (optR (oneF a x)) := by
  obtain ⟨k, n, m⟩ := a
  obtain ⟨hk, hn, hm⟩ := ha
  simp -implicitDefEqProofs only [] at hk hn hm
  have h1 := RMulDiv_ok (a := x) (b := n) (c := 100000) (m := m) hx hn (by decide)
  rw [mdO_R] at h1
  have hofx := ROf_ok hx
  have hofn := ROf_ok hn
  have hadd := RAdd_ok (a := x) (b := n) (by unfold Fit at hx; omega) (by unfold Fit at hn; omega)
  have hint := RInt_ok (n := x + n) (big_fit (by unfold Fit at hx hn; omega))
  rw [fitO_R] at hint
  unfold oneF
  simp -implicitDefEqProofs only []
  refine CallW_intro comp_poundageref12_One (by simp) ?_
  simp -implicitDefEqProofs -proj only [go_sem, Nat.reduceBEq, Nat.reduceLT, Nat.reduceLeDiff, Nat.reduceAdd, Nat.reduceMul, ↓reduceIte]
  refine AllocA_intro (fun b2 hb2 => ?_)
  by_cases c1 : k = 1
  · rw [if_pos c1]
    simp -implicitDefEqProofs -proj only [go_sem, Nat.reduceBEq, Nat.reduceLT, Nat.reduceLeDiff, Nat.reduceAdd, Nat.reduceMul, ↓reduceIte, decide_eq_true c1]
    refine CallA_pure h1 ?_
    cases mdO (x * n) 100000 m with
    | none => simp -implicitDefEqProofs -proj only [go_sem, Nat.reduceBEq, Nat.reduceLT, Nat.reduceLeDiff, Nat.reduceAdd, Nat.reduceMul, ↓reduceIte, optR]; exact LendV_eq rfl
    | some m => simp -implicitDefEqProofs -proj only [go_sem, Nat.reduceBEq, Nat.reduceLT, Nat.reduceLeDiff, Nat.reduceAdd, Nat.reduceMul, ↓reduceIte, optR]; exact LendV_eq rfl
  rw [if_neg c1]
  by_cases c2 : k = 2
  · rw [if_pos c2, optR]
    by_cases d : n < x
    · rw [show min x n = n by omega]
      simp -implicitDefEqProofs -proj only [go_sem, Nat.reduceBEq, Nat.reduceLT, Nat.reduceLeDiff, Nat.reduceAdd, Nat.reduceMul, ↓reduceIte, decide_eq_false c1, decide_eq_true c2, decide_eq_true d]
      exact LendV_eq rfl
    · rw [show min x n = x by omega]
      simp -implicitDefEqProofs -proj only [go_sem, Nat.reduceBEq, Nat.reduceLT, Nat.reduceLeDiff, Nat.reduceAdd, Nat.reduceMul, ↓reduceIte, decide_eq_false c1, decide_eq_true c2, decide_eq_false d, show (false == true) = false from rfl]
      exact LendV_eq rfl
  rw [if_neg c2]
  by_cases c3 : k = 3
  · rw [if_pos c3, optR]
    by_cases d : n < x
    · rw [show max x n = x by omega]
      simp -implicitDefEqProofs -proj only [go_sem, Nat.reduceBEq, Nat.reduceLT, Nat.reduceLeDiff, Nat.reduceAdd, Nat.reduceMul, ↓reduceIte, decide_eq_false c1, decide_eq_false c2, decide_eq_true c3, decide_eq_true d, show (true == false) = false from rfl]
      exact LendV_eq rfl
    · rw [show max x n = n by omega]
      simp -implicitDefEqProofs -proj only [go_sem, Nat.reduceBEq, Nat.reduceLT, Nat.reduceLeDiff, Nat.reduceAdd, Nat.reduceMul, ↓reduceIte, decide_eq_false c1, decide_eq_false c2, decide_eq_true c3, decide_eq_false d]
      exact LendV_eq rfl
  rw [if_neg c3]
  by_cases c4 : k = 4
  · rw [if_pos c4]
    simp -implicitDefEqProofs -proj only [go_sem, Nat.reduceBEq, Nat.reduceLT, Nat.reduceLeDiff, Nat.reduceAdd, Nat.reduceMul, ↓reduceIte, decide_eq_false c1, decide_eq_false c2, decide_eq_false c3, decide_eq_true c4]
    refine PCallA_pure hofx ?_
    simp -implicitDefEqProofs -proj only [go_sem, Nat.reduceBEq, Nat.reduceLT, Nat.reduceLeDiff, Nat.reduceAdd, Nat.reduceMul, ↓reduceIte]
    refine CallA_pure hofn ?_
    simp -implicitDefEqProofs -proj only [go_sem, Nat.reduceBEq, Nat.reduceLT, Nat.reduceLeDiff, Nat.reduceAdd, Nat.reduceMul, ↓reduceIte]
    refine CallA_pure hadd ?_
    simp -implicitDefEqProofs -proj only [go_sem, Nat.reduceBEq, Nat.reduceLT, Nat.reduceLeDiff, Nat.reduceAdd, Nat.reduceMul, ↓reduceIte]
    refine CallA_pure hint ?_
    cases fitO (x + n) with
    | none => simp -implicitDefEqProofs -proj only [go_sem, Nat.reduceBEq, Nat.reduceLT, Nat.reduceLeDiff, Nat.reduceAdd, Nat.reduceMul, ↓reduceIte, optR]; exact LendV_eq rfl
    | some m => simp -implicitDefEqProofs -proj only [go_sem, Nat.reduceBEq, Nat.reduceLT, Nat.reduceLeDiff, Nat.reduceAdd, Nat.reduceMul, ↓reduceIte, optR]; exact LendV_eq rfl
  rw [if_neg c4, optR]
  simp -implicitDefEqProofs -proj only [go_sem, Nat.reduceBEq, Nat.reduceLT, Nat.reduceLeDiff, Nat.reduceAdd, Nat.reduceMul, ↓reduceIte, decide_eq_false c1, decide_eq_false c2, decide_eq_false c3, decide_eq_false c4]
  exact LendV_eq rfl
theorem RAllA_ok {l : List Adj} {x : Int} (hl : ∀ a ∈ l, Adj.Fit a) (hx : Fit x) (hn : l.length ≤ 4611686018427387904) : DataW Try.prog f_poundageref12_All [i64 x, slA l] (optR (allF x l)) := by
  refine CallW_intro comp_poundageref12_All (by simp) ?_
  simp -implicitDefEqProofs -proj only [go_sem, Nat.reduceBEq, Nat.reduceLT, Nat.reduceLeDiff, Nat.reduceAdd, Nat.reduceMul, ↓reduceIte, rowA_len]
  refine LoopA_k (fun p : Nat × Int => p.1 ≤ l.length ∧ Fit p.2 ∧ allF p.2 (l.drop p.1) = allF x l) 27 (fun p => [(0, i64 p.2), (10, slA l), (11, i64 l.length), (12, i64 p.1)]) (fun _ => []) (fun p => l.length - p.1) (0, x) ⟨Nat.zero_le _, hx, rfl⟩ rfl ?_ ?_ ?_
  · simp -implicitDefEqProofs -proj only [go_sem, Nat.reduceBEq, Nat.reduceLT, Nat.reduceLeDiff, Nat.reduceAdd, Nat.reduceMul, ↓reduceIte, AllAt]
  · trivial
  · rintro ⟨i, a⟩ ⟨hi, ha, hs⟩
    rw [Fst_mk] at hi; rw [Snd_mk] at ha; rw [Fst_mk, Snd_mk] at hs
    by_cases h : i < l.length
    · have hel := rowA_at h
      have hfit := hl _ (List.getElem_mem h)
      rw [List.drop_eq_getElem_cons h, allF] at hs
      generalize l[i] = s at *
      have hone := ROneA_ok hfit ha
      simp -implicitDefEqProofs -proj only [go_sem, Nat.reduceBEq, Nat.reduceLT, Nat.reduceLeDiff, Nat.reduceAdd, Nat.reduceMul, ↓reduceIte, decide_eq_true (show (i : Int) < l.length by omega)]
      refine ElemA_at _ (by omega) hel ?_
      simp -implicitDefEqProofs -proj only [go_sem, Nat.reduceBEq, Nat.reduceLT, Nat.reduceLeDiff, Nat.reduceAdd, Nat.reduceMul, ↓reduceIte]
      refine AllocA_intro (fun b7 hb7 => ?_)
      simp -implicitDefEqProofs -proj only [go_sem, Nat.reduceBEq, Nat.reduceLT, Nat.reduceLeDiff, Nat.reduceAdd, Nat.reduceMul, ↓reduceIte]
      refine CallA_pure hone ?_
      cases e : oneF s a with
      | none =>
        rw [e] at hs
        simp -implicitDefEqProofs only [] at hs
        rw [← hs, optR]
        simp -implicitDefEqProofs -proj only [go_sem, Nat.reduceBEq, Nat.reduceLT, Nat.reduceLeDiff, Nat.reduceAdd, Nat.reduceMul, ↓reduceIte, optR]
        exact LendV_eq rfl
      | some y =>
        rw [e] at hs
        simp -implicitDefEqProofs only [] at hs
        simp -implicitDefEqProofs -proj only [go_sem, Nat.reduceBEq, Nat.reduceLT, Nat.reduceLeDiff, Nat.reduceAdd, Nat.reduceMul, ↓reduceIte, optR]
        refine LoopQ_k (i + 1, y) ⟨by rw [Fst_mk]; omega, oneF_fit hfit ha e, hs⟩ (by rw [Fst_mk, Fst_mk]; omega) rfl ?_ trivial
        simp -implicitDefEqProofs -proj only [go_sem, Nat.reduceBEq, Nat.reduceLT, Nat.reduceLeDiff, Nat.reduceAdd, Nat.reduceMul, ↓reduceIte, AllAt, i64_succ (show i < 9223372036854775807 by omega)]
    · have hi' : i = l.length := by omega
      subst hi'
      rw [List.drop_length] at hs
      simp -implicitDefEqProofs -proj only [go_sem, Nat.reduceBEq, Nat.reduceLT, Nat.reduceLeDiff, Nat.reduceAdd, Nat.reduceMul, ↓reduceIte, decide_eq_false (show ¬ (l.length : Int) < l.length by omega)]
      rw [← hs, allF, optR]
      exact LendV_eq rfl
/-- A part's price. -/
def partO (x : PartX) (q : Int) : Option Int := match chargeO x q with
  | some n => allF n x.ad
  | none => none
theorem charge_fit {x : PartX} {q n : Int} (h : chargeO x q = some n) : Fit n := by
  unfold chargeO at h
  split at h
  · exact (mdO_fit h).1
  · cases h
theorem RPPart_ok {x : PartX} {q : Int} (hx : x.Fit) (hq : Fit q) (G : GoodX x) (S : Srt x.ts) : DataW Try.prog f_poundageref13_Part [partV x, i64 q] (optR (partO x q)) := by
  have hc := RCharge_ok hx hq G S
  unfold partO
  refine CallW_intro comp_poundageref13_Part (by simp) ?_
  simp -implicitDefEqProofs -proj only [go_sem, Nat.reduceBEq, Nat.reduceLT, Nat.reduceLeDiff, Nat.reduceAdd, Nat.reduceMul, ↓reduceIte]
  refine AllocA_intro (fun b2 hb2 => ?_)
  simp -implicitDefEqProofs -proj only [go_sem, Nat.reduceBEq, Nat.reduceLT, Nat.reduceLeDiff, Nat.reduceAdd, Nat.reduceMul, ↓reduceIte]
  refine CallA_pure hc ?_
  cases e : chargeO x q with
  | none =>
    simp -implicitDefEqProofs -proj only [go_sem, Nat.reduceBEq, Nat.reduceLT, Nat.reduceLeDiff, Nat.reduceAdd, Nat.reduceMul, ↓reduceIte, optR]
    exact LendV_eq rfl
  | some n =>
    have ha := RAllA_ok (l := x.ad) (x := n) hx.ad (charge_fit e) (by have := G.an; omega)
    simp -implicitDefEqProofs only []
    simp -implicitDefEqProofs -proj only [go_sem, Nat.reduceBEq, Nat.reduceLT, Nat.reduceLeDiff, Nat.reduceAdd, Nat.reduceMul, ↓reduceIte, optR]
    refine CallA_pure ha ?_
    cases allF n x.ad with
    | none => simp -implicitDefEqProofs -proj only [go_sem, Nat.reduceBEq, Nat.reduceLT, Nat.reduceLeDiff, Nat.reduceAdd, Nat.reduceMul, ↓reduceIte, optR]; exact LendV_eq rfl
    | some m => simp -implicitDefEqProofs -proj only [go_sem, Nat.reduceBEq, Nat.reduceLT, Nat.reduceLeDiff, Nat.reduceAdd, Nat.reduceMul, ↓reduceIte, optR]; exact LendV_eq rfl
/-- The core's cell. -/
abbrev coreB (c : CoreX) : Blk := .box 26 [.d (.str c.cur), i64 c.f, i64 c.t, .d (.sl 5 (rowM c.ms)), .d (.sl 3 (rowS c.ss)), .d (.sl 9 (rowP c.ps))]
theorem goodX_of {f t : Int} {n : Nat} {x : PartX} (h : partOK f t n x) : GoodX x := by
  obtain ⟨⟨g1, g2, g3, g4, g5, g6, g7, g8, g9, g10⟩, h2, h3⟩ := h
  exact ⟨g4, g5, g6, g7, ⟨g8, g9⟩, g10, h2, h3⟩
/-- What holds on a day, with its amounts. -/
def inW (d f t : Int) : Prop := f ≤ d ∧ d ≤ t
instance (d f t : Int) : Decidable (inW d f t) := by unfold inW; exact inferInstance
def bq (b : List Int) (m : Int) : Int := b.getD m.toNat 0
def basketOK (c : CoreX) (b : List Int) : Prop := b.length = c.ms.length ∧ ∀ (i : Nat) (h : i < b.length) (h2 : i < c.ms.length), 0 ≤ b[i] ∧ b[i] ≤ (c.ms[i]).mx
noncomputable instance (c : CoreX) (b : List Int) : Decidable (basketOK c b) := Classical.propDecidable _
/-- A sum of the first ones. -/
def sg (g : Nat → Int) : Nat → Int
  | 0 => 0
  | n + 1 => sg g n + g n
theorem sg_congr {g h : Nat → Int} : ∀ {n : Nat}, (∀ i, i < n → g i = h i) → sg g n = sg h n
  | 0, _ => rfl
  | n + 1, k => by rw [sg, sg, sg_congr (fun i hi => k i (by omega)), k n (by omega)]
theorem sg_le {g h : Nat → Int} : ∀ {n : Nat}, (∀ i, i < n → g i ≤ h i) → sg g n ≤ sg h n
  | 0, _ => Int.le_refl _
  | n + 1, k => by
    have := sg_le (n := n) (fun i hi => k i (by omega))
    have := k n (by omega)
    rw [sg, sg]; omega
theorem sg_neg {g : Nat → Int} : ∀ n : Nat, sg (fun i => - g i) n = - sg g n
  | 0 => rfl
  | n + 1 => by rw [sg, sg, sg_neg n]; omega
theorem sg_nonneg {g : Nat → Int} : ∀ {n : Nat}, (∀ i, i < n → 0 ≤ g i) → 0 ≤ sg g n
  | 0, _ => Int.le_refl _
  | n + 1, k => by
    have := sg_nonneg (n := n) (fun i hi => k i (by omega))
    have := k n (by omega)
    rw [sg]; omega
theorem sg_abs {g h : Nat → Int} {n : Nat} (k : ∀ i, i < n → -h i ≤ g i ∧ g i ≤ h i) : -sg h n ≤ sg g n ∧ sg g n ≤ sg h n := by
  refine ⟨?_, sg_le fun i hi => (k i hi).2⟩
  rw [← sg_neg]
  exact sg_le fun i hi => (k i hi).1
theorem sg_add {g h : Nat → Int} : ∀ n : Nat, sg (fun i => g i + h i) n = sg g n + sg h n
  | 0 => rfl
  | n + 1 => by rw [sg, sg, sg, sg_add n]; omega
theorem sg_zero : ∀ n : Nat, sg (fun _ => 0) n = 0
  | 0 => rfl
  | n + 1 => by rw [sg, sg_zero n]; rfl
theorem sg_swap {g : Nat → Nat → Int} {n : Nat} : ∀ m : Nat, sg (fun i => sg (g i) m) n = sg (fun j => sg (fun i => g i j) n) m
  | 0 => by simp -implicitDefEqProofs only [sg, sg_zero]
  | m + 1 => by
    have : sg (fun i => sg (g i) (m + 1)) n = sg (fun i => sg (g i) m + g i m) n := sg_congr fun i _ => by rw [sg]
    rw [this, sg_add, sg_swap m, sg]
/-- Of one alone. -/
theorem sg_one {v : Int} {k : Nat} : ∀ {n : Nat}, sg (fun i => if i = k then v else 0) n = if k < n then v else 0
  | 0 => rfl
  | n + 1 => by
    rw [sg, sg_one]
    by_cases h : k < n
    · rw [if_pos h, if_neg (by omega), if_pos (by omega)]; omega
    · rw [if_neg h]
      by_cases e : n = k
      · rw [if_pos e, if_pos (by omega)]; omega
      · rw [if_neg e, if_neg (by omega)]; omega
/-- A part's price, where there is one. -/
def pv (x : PartX) (q : Int) : Int := (partO x q).getD 0
def sumAt (ss : List SumX) (d : Int) (j : Nat) : Int := match ss[j]? with
  | some s => if inW d s.f s.t then s.a else 0
  | none => 0
def baseAt (ps : List PartX) (d : Int) (m j : Nat) : Int := match ps[j]? with
  | some x => if x.me = m ∧ inW d x.f x.t then pv x 0 else 0
  | none => 0
def riseAt (ps : List PartX) (d : Int) (m : Nat) (q : Int) (j : Nat) : Int := match ps[j]? with
  | some x => if x.me = m ∧ inW d x.f x.t then pv x q - pv x 0 else 0
  | none => 0
def fixS (c : CoreX) (d : Int) : Int := sg (sumAt c.ss d) c.ss.length
def fixM (c : CoreX) (d : Int) (m : Nat) : Int := sg (baseAt c.ps d m) c.ps.length
def dayF (c : CoreX) (d : Int) : Int := fixS c d + sg (fixM c d) c.ms.length
def dayQ (c : CoreX) (d : Int) (m : Nat) (q : Int) : Int := sg (riseAt c.ps d m q) c.ps.length
def dayL (c : CoreX) (d : Int) (m : Nat) (mx : Int) : List Int := (List.range (mx + 1).toNat).map fun (q : Nat) => dayQ c d m q
def dayLs (c : CoreX) (d : Int) (k : Nat) : List (List Int) := (List.range k).map fun m => dayL c d m (match c.ms[m]? with | some x => x.mx | none => 0)
abbrev DayV : Type := Int × List (List Int)
def dayV (c : CoreX) (d : Int) : DayV := (dayF c d, dayLs c d c.ms.length)
/-- The greatest of a part's prices below a number. -/
def bestN (x : PartX) : Nat → Int
  | 0 => 0
  | n + 1 => max (bestN x n) (pv x n)
theorem bestN_pos {x : PartX} : ∀ n, 0 ≤ bestN x n
  | 0 => Int.le_refl _
  | n + 1 => by have := bestN_pos (x := x) n; rw [bestN]; omega
theorem bestN_ge {x : PartX} : ∀ {n k : Nat}, k < n → pv x k ≤ bestN x n
  | 0, k, h => by omega
  | n + 1, k, h => by
    rw [bestN]
    by_cases e : k = n
    · subst e; omega
    · have := bestN_ge (x := x) (show k < n by omega); omega
def mxAt (ms : List MeterX) (m : Int) : Int := match ms[m.toNat]? with
  | some x => x.mx
  | none => 0
def bestAt (c : CoreX) (j : Nat) : Int := match c.ps[j]? with
  | some x => bestN x (mxAt c.ms x.me + 1).toNat
  | none => 0
theorem bestAt_pos {c : CoreX} (j : Nat) : 0 ≤ bestAt c j := by
  unfold bestAt; split
  · exact bestN_pos _
  · exact Int.le_refl _
def amtAt (ss : List SumX) (j : Nat) : Int := match ss[j]? with
  | some s => s.a
  | none => 0
def totN (c : CoreX) (i : Nat) : Int := sg (amtAt c.ss) c.ss.length + sg (bestAt c) i
/-- A price that is neither missing nor too great. -/
def okQ (x : PartX) (q : Int) : Prop := ∃ n, partO x q = some n ∧ 0 ≤ n ∧ n ≤ 1152921504606846976
structure fitsC (c : CoreX) : Prop where
  great : ¬ greatC c
  good : goodC c
  parts : ∀ x ∈ c.ps, ∀ q : Nat, q < (mxAt c.ms x.me + 1).toNat → okQ x q
  tot : ∀ i, i ≤ c.ps.length → totN c i ≤ 1152921504606846976
noncomputable instance (c : CoreX) : Decidable (fitsC c) := Classical.propDecidable _
theorem okQ_pv {x : PartX} {q : Int} (h : okQ x q) : partO x q = some (pv x q) ∧ 0 ≤ pv x q ∧ pv x q ≤ 1152921504606846976 := by
  obtain ⟨n, h1, h2, h3⟩ := h
  unfold pv
  rw [h1]
  exact ⟨rfl, h2, h3⟩
/-- What fits, in bounds. -/
structure BndC (c : CoreX) : Prop where
  mx : ∀ (m : Nat) (h : m < c.ms.length), 0 ≤ c.ms[m].mx ∧ c.ms[m].mx ≤ 2000
  me : ∀ x ∈ c.ps, 0 ≤ x.me ∧ x.me < (c.ms.length : Int)
  amt : ∀ s ∈ c.ss, 0 ≤ s.a ∧ s.a ≤ 1000000000000
theorem fitsC.bnd {c : CoreX} (h : goodC c) : BndC c :=
  ⟨fun m hm => (h.ms m hm).1, fun x hx => ⟨(h.ps x hx).1.1, (h.ps x hx).1.2.1⟩, fun s hs => (h.ss s hs).1⟩
theorem mxAt_eq {ms : List MeterX} {m : Nat} (h : m < ms.length) : mxAt ms m = ms[m].mx := by
  unfold mxAt; rw [Int.toNat_natCast, List.getElem?_eq_getElem h]
theorem amt_pos {c : CoreX} (h : goodC c) (j : Nat) : 0 ≤ amtAt c.ss j := by
  unfold amtAt
  cases e : c.ss[j]? with
  | none => exact Int.le_refl _
  | some s => exact ((fitsC.bnd h).amt s (List.mem_of_getElem? e)).1
theorem sumAt_bnd {c : CoreX} (h : goodC c) (d : Int) (j : Nat) : 0 ≤ sumAt c.ss d j ∧ sumAt c.ss d j ≤ amtAt c.ss j := by
  have hp := amt_pos h j
  unfold amtAt at *
  unfold sumAt
  cases e : c.ss[j]? with
  | none => exact ⟨Int.le_refl _, Int.le_refl _⟩
  | some s =>
    rw [e] at hp
    simp -implicitDefEqProofs only [] at hp ⊢
    split <;> omega
theorem part_bnd {c : CoreX} (h : fitsC c) {x : PartX} (hx : x ∈ c.ps) {q : Int} (h0 : 0 ≤ q) (hq : q ≤ mxAt c.ms x.me) : partO x q = some (pv x q) ∧ 0 ≤ pv x q ∧ pv x q ≤ bestN x (mxAt c.ms x.me + 1).toNat ∧ pv x q ≤ 1152921504606846976 := by
  have hk := h.parts x hx q.toNat (by omega)
  rw [Int.toNat_of_nonneg h0] at hk
  obtain ⟨h1, h2, h3⟩ := okQ_pv hk
  have hb := bestN_ge (x := x) (show q.toNat < (mxAt c.ms x.me + 1).toNat by omega)
  rw [Int.toNat_of_nonneg h0] at hb
  exact ⟨h1, h2, hb, h3⟩
theorem mx_nonneg {c : CoreX} (h : goodC c) {x : PartX} (hx : x ∈ c.ps) : 0 ≤ mxAt c.ms x.me := by
  obtain ⟨h1, h2⟩ := (fitsC.bnd h).me x hx
  have := (fitsC.bnd h).mx x.me.toNat (by omega)
  unfold mxAt
  rw [List.getElem?_eq_getElem (show x.me.toNat < c.ms.length by omega)]
  exact this.1
theorem baseAt_bnd {c : CoreX} (h : fitsC c) (d : Int) (m j : Nat) : 0 ≤ baseAt c.ps d m j ∧ baseAt c.ps d m j ≤ bestAt c j := by
  have hp := bestAt_pos (c := c) j
  unfold bestAt at *
  unfold baseAt
  cases e : c.ps[j]? with
  | none => exact ⟨Int.le_refl _, Int.le_refl _⟩
  | some x =>
    have hx := List.mem_of_getElem? e
    rw [e] at hp
    simp -implicitDefEqProofs only [] at hp ⊢
    obtain ⟨h1, h2, h3, h4⟩ := part_bnd h hx (Int.le_refl 0) (mx_nonneg h.good hx)
    split <;> omega
theorem riseAt_bnd {c : CoreX} (h : fitsC c) (d : Int) {m : Nat} (hm : m < c.ms.length) {q : Int} (h0 : 0 ≤ q) (hq : q ≤ c.ms[m].mx) (j : Nat) : -bestAt c j ≤ riseAt c.ps d m q j ∧ riseAt c.ps d m q j ≤ bestAt c j := by
  have hp := bestAt_pos (c := c) j
  unfold bestAt at *
  unfold riseAt
  cases e : c.ps[j]? with
  | none => exact ⟨Int.le_refl _, Int.le_refl _⟩
  | some x =>
    have hx := List.mem_of_getElem? e
    rw [e] at hp
    simp -implicitDefEqProofs only [] at hp ⊢
    by_cases hc : x.me = m ∧ inW d x.f x.t
    · rw [if_pos hc]
      have hmx : mxAt c.ms x.me = c.ms[m].mx := by rw [hc.1]; exact mxAt_eq hm
      obtain ⟨h1, h2, h3, h4⟩ := part_bnd h hx (Int.le_refl 0) (mx_nonneg h.good hx)
      obtain ⟨g1, g2, g3, g4⟩ := part_bnd h hx h0 (by rw [hmx]; exact hq)
      omega
    · rw [if_neg hc]; omega
theorem sgAmt_pos {c : CoreX} (h : goodC c) (n : Nat) : 0 ≤ sg (amtAt c.ss) n := sg_nonneg fun i _ => amt_pos h i
theorem best_le {c : CoreX} (h : fitsC c) {i : Nat} (hi : i ≤ c.ps.length) : 0 ≤ sg (bestAt c) i ∧ sg (bestAt c) i ≤ 1152921504606846976 := by
  have h1 := h.tot i hi
  have h2 := sgAmt_pos h.good c.ss.length
  unfold totN at h1
  exact ⟨sg_nonneg fun i _ => bestAt_pos i, by omega⟩
theorem fixS_bnd {c : CoreX} (h : goodC c) (d : Int) {i : Nat} (hi : i ≤ c.ss.length) : 0 ≤ sg (sumAt c.ss d) i ∧ sg (sumAt c.ss d) i ≤ 1000000000000 * i := by
  refine ⟨sg_nonneg fun j _ => (sumAt_bnd h d j).1, ?_⟩
  have key : ∀ n : Nat, n ≤ c.ss.length → sg (amtAt c.ss) n ≤ 1000000000000 * n := by
    intro n
    induction n with
    | zero => intro _; exact Int.le_refl _
    | succ n ih =>
      intro hn
      have := ih (by omega)
      have h1 := ((fitsC.bnd h).amt _ (List.getElem_mem (show n < c.ss.length by omega))).2
      rw [sg]
      have : amtAt c.ss n = c.ss[n].a := by unfold amtAt; rw [List.getElem?_eq_getElem (by omega)]
      omega
  have := sg_le (n := i) fun j _ => (sumAt_bnd h d j).2
  have := key i hi
  omega
theorem fixM_bnd {c : CoreX} (h : fitsC c) (d : Int) (m : Nat) {i : Nat} (hi : i ≤ c.ps.length) : 0 ≤ sg (baseAt c.ps d m) i ∧ sg (baseAt c.ps d m) i ≤ 1152921504606846976 := by
  have := (best_le h hi).2
  have h2 := sg_le (n := i) fun j _ => (baseAt_bnd h d m j).2
  exact ⟨sg_nonneg fun j _ => (baseAt_bnd h d m j).1, by omega⟩
theorem rise_bnd {c : CoreX} (h : fitsC c) (d : Int) {m : Nat} (hm : m < c.ms.length) {q : Int} (h0 : 0 ≤ q) (hq : q ≤ c.ms[m].mx) {i : Nat} (hi : i ≤ c.ps.length) : -1152921504606846976 ≤ sg (riseAt c.ps d m q) i ∧ sg (riseAt c.ps d m q) i ≤ 1152921504606846976 := by
  have := (best_le h hi).2
  have h2 := sg_abs (n := i) fun j _ => riseAt_bnd h d hm h0 hq j
  omega
theorem fixMs_bnd {c : CoreX} (h : fitsC c) (d : Int) : ∀ k : Nat, 0 ≤ sg (fixM c d) k ∧ sg (fixM c d) k ≤ 1152921504606846976 * k
  | 0 => ⟨Int.le_refl _, Int.le_refl _⟩
  | k + 1 => by
    have := fixMs_bnd h d k
    have := fixM_bnd h d k (Nat.le_refl c.ps.length)
    unfold fixM at *
    rw [sg]; omega
/-- A run: a value, from a number to another one. -/
structure Run where
  f : Int
  t : Int
  v : Int
  deriving DecidableEq
def Run.el (r : Run) : List D := [.int .i64 r.f, .int .i64 r.t, .int .i64 r.v]
abbrev Run.av (r : Run) : AV := .agg [i64 r.f, i64 r.t, i64 r.v]
/-- A run more, behind all others. -/
def putR (l : List Run) (r : Run) : List Run := match l.getLast? with
  | some q => if q.v = r.v then l.dropLast ++ [{ q with t := r.t }] else l ++ [r]
  | none => [r]
/-- The runs of a list's first so many values. -/
def runsN (from' : Int) (l : List Int) : Nat → List Run
  | 0 => []
  | i + 1 => putR (runsN from' l i) ⟨from' + i, from' + i, l.getD i 0⟩
abbrev runs (from' : Int) (l : List Int) : List Run := runsN from' l l.length
theorem putR_ne {l : List Run} {r : Run} : putR l r ≠ [] := by
  unfold putR
  split
  · split <;> simp
  · simp
theorem putR_len {l : List Run} {r : Run} : (putR l r).length ≤ l.length + 1 := by
  unfold putR
  split
  · split
    · simp -implicitDefEqProofs only [List.length_append, List.length_dropLast, List.length_singleton]; omega
    · simp
  · simp
theorem runsN_len {from' : Int} {l : List Int} : ∀ i : Nat, (runsN from' l i).length ≤ i
  | 0 => Nat.le_refl _
  | i + 1 => by
    have := @putR_len (runsN from' l i) ⟨from' + i, from' + i, l.getD i 0⟩
    have := runsN_len (from' := from') (l := l) i
    rw [runsN]; omega
theorem isNaN_ok (a : Int) : DataW Try.prog f_cmp_isNaN_int [i64 a] (bv false) := by
  refine CallW_intro comp_cmp_isNaN_int (by simp) ?_
  simp -implicitDefEqProofs -proj only [go_sem, Nat.reduceBEq, Nat.reduceLT, Nat.reduceLeDiff, Nat.reduceAdd, Nat.reduceMul, ↓reduceIte, Int.reduceToNat, Int.reducePow, Int.reduceLT, Int.reduceLE, Int.reduceAdd, Int.reduceSub, Int.reduceMul, Int.reduceEq, Int.reduceNe, eq_self]
  exact LendV_eq rfl
def cmpI (a b : Int) : Int := if a < b then -1 else if b < a then 1 else 0
theorem Compare_ok (a b : Int) : DataW Try.prog f_cmp_Compare_int [i64 a, i64 b] (i64 (cmpI a b)) := by
  refine CallW_intro comp_cmp_Compare_int (by simp) ?_
  simp -implicitDefEqProofs -proj only [go_sem, Nat.reduceBEq, Nat.reduceLT, Nat.reduceLeDiff, Nat.reduceAdd, Nat.reduceMul, ↓reduceIte, Int.reduceToNat, Int.reducePow, Int.reduceLT, Int.reduceLE, Int.reduceAdd, Int.reduceSub, Int.reduceMul, Int.reduceEq, Int.reduceNe]
  refine CallA_pure (isNaN_ok a) ?_
  simp -implicitDefEqProofs -proj only [go_sem, Nat.reduceBEq, Nat.reduceLT, Nat.reduceLeDiff, Nat.reduceAdd, Nat.reduceMul, ↓reduceIte, Int.reduceToNat, Int.reducePow, Int.reduceLT, Int.reduceLE, Int.reduceAdd, Int.reduceSub, Int.reduceMul, Int.reduceEq, Int.reduceNe]
  refine CallA_pure (isNaN_ok b) ?_
  unfold cmpI
  by_cases h1 : a < b
  · rw [if_pos h1]
    simp -implicitDefEqProofs -proj only [go_sem, Nat.reduceBEq, Nat.reduceLT, Nat.reduceLeDiff, Nat.reduceAdd, Nat.reduceMul, ↓reduceIte, Int.reduceToNat, Int.reducePow, Int.reduceLT, Int.reduceLE, Int.reduceAdd, Int.reduceSub, Int.reduceMul, Int.reduceEq, Int.reduceNe, decide_eq_true h1]
    exact LendV_eq rfl
  · rw [if_neg h1]
    by_cases h2 : b < a
    · rw [if_pos h2]
      simp -implicitDefEqProofs -proj only [go_sem, Nat.reduceBEq, Nat.reduceLT, Nat.reduceLeDiff, Nat.reduceAdd, Nat.reduceMul, ↓reduceIte, Int.reduceToNat, Int.reducePow, Int.reduceLT, Int.reduceLE, Int.reduceAdd, Int.reduceSub, Int.reduceMul, Int.reduceEq, Int.reduceNe, decide_eq_false h1, decide_eq_true h2]
      exact LendV_eq rfl
    · rw [if_neg h2]
      simp -implicitDefEqProofs -proj only [go_sem, Nat.reduceBEq, Nat.reduceLT, Nat.reduceLeDiff, Nat.reduceAdd, Nat.reduceMul, ↓reduceIte, Int.reduceToNat, Int.reducePow, Int.reduceLT, Int.reduceLE, Int.reduceAdd, Int.reduceSub, Int.reduceMul, Int.reduceEq, Int.reduceNe, decide_eq_false h1, decide_eq_false h2]
      exact LendV_eq rfl
/-- Where the first run stands that ends at a number, or behind it. -/
def idxR (l : List Run) (x : Int) : Nat := (l.takeWhile fun r => decide (r.t < x)).length
structure BsX where
  i : Nat
  j : Nat
theorem bsx_i {i j : Nat} : (BsX.mk i j).i = i := (rfl)
theorem bsx_j {i j : Nat} : (BsX.mk i j).j = j := (rfl)
theorem cmpI_lt {a b : Int} : cmpI a b < 0 ↔ a < b := by unfold cmpI; split <;> (try split) <;> omega
theorem cmpI_eq {a b : Int} : cmpI a b = 0 ↔ a = b := by unfold cmpI; split <;> (try split) <;> omega
theorem half {i j : Nat} (h : i + j ≤ 4000000) : IntKind.i64.wrap ((IntKind.u64.wrap (IntKind.i64.wrap ((i : Int) + j))).fdiv 2) = (((i + j) / 2 : Nat) : Int) := by
  rw [IntKind.wrap_i64 ((i : Int) + j), IntKind.wrap_u64, Int.fdiv_eq_ediv_of_nonneg _ (by omega), IntKind.wrap_i64]; omega
/-- The value at a number. -/
def atF (l : List Run) (x : Int) : Option Int := match l[idxR l x]? with
  | some r => if r.f ≤ x then some r.v else none
  | none => none
/-- Runs that lie one behind the other, hold these values, and differ from neighbour to neighbour. -/
def FwdOK (val : Int → Int) (lo hi : Int) : List Run → Prop
  | [] => lo = hi
  | r :: R => r.f = lo ∧ r.f ≤ r.t ∧ (∀ x, r.f ≤ x → x ≤ r.t → val x = r.v) ∧ (∀ s, R.head? = some s → r.v ≠ s.v) ∧ FwdOK val (r.t + 1) hi R
theorem FwdOK.le {val : Int → Int} : ∀ {R : List Run} {lo hi : Int}, FwdOK val lo hi R → lo ≤ hi
  | [], lo, hi, h => by have : lo = hi := h; omega
  | r :: R, lo, hi, h => by
    obtain ⟨h1, h2, _, _, h5⟩ := h
    have := FwdOK.le h5
    omega
theorem putR_cons {r x : Run} {R : List Run} (h : R ≠ []) : putR (r :: R) x = r :: putR R x := by
  obtain ⟨q, hq⟩ : ∃ q, R.getLast? = some q := by
    cases hh : R.getLast? with
    | none => exact absurd (List.getLast?_eq_none_iff.1 hh) h
    | some q => exact ⟨q, rfl⟩
  have h2 : (r :: R).getLast? = some q := by
    rw [List.getLast?_cons, hq]; rfl
  unfold putR
  rw [hq, h2]
  simp -implicitDefEqProofs only []
  split
  · rw [List.dropLast_cons_of_ne_nil h]; rfl
  · rfl
theorem putR_head {x s : Run} {R : List Run} {q : Run} (h : (putR (s :: R) x).head? = some q) : q.v = s.v := by
  cases R with
  | nil =>
    unfold putR at h
    simp -implicitDefEqProofs only [List.getLast?_singleton] at h
    split at h
    · simp at h; subst h; rfl
    · simp at h; subst h; rfl
  | cons t R =>
    rw [putR_cons (by simp)] at h
    simp at h; subst h; rfl
theorem FwdOK.put {val : Int → Int} {hi : Int} : ∀ {R : List Run} {lo : Int}, FwdOK val lo hi R → FwdOK val lo (hi + 1) (putR R ⟨hi, hi, val hi⟩)
  | [], lo, h => by
    have : lo = hi := h
    subst this
    exact ⟨rfl, Int.le_refl _, fun x h1 h2 => by rw [show x = lo from Int.le_antisymm h2 h1], fun s h => (by cases h), rfl⟩
  | [r], lo, h => by
    obtain ⟨h1, h2, h3, h4, h5⟩ := h
    have h5 : r.t + 1 = hi := h5
    unfold putR
    simp -implicitDefEqProofs only [List.getLast?_singleton]
    split
    · next hv =>
      refine ⟨h1, by show r.f ≤ hi; omega, fun x x1 x2 => ?_, fun s h => (by cases h), rfl⟩
      by_cases hx : x = hi
      · subst hx; exact hv.symm
      · exact h3 x x1 (by have : x ≤ hi := x2; omega)
    · next hv =>
      refine ⟨h1, h2, h3, fun s h => ?_, ⟨h5.symm, Int.le_refl _, fun x x1 x2 => by rw [show x = hi from Int.le_antisymm x2 x1], fun s h => (by cases h), rfl⟩⟩
      cases h; exact hv
  | r :: s :: R, lo, h => by
    obtain ⟨h1, h2, h3, h4, h5⟩ := h
    rw [putR_cons (by simp)]
    refine ⟨h1, h2, h3, fun q hq => ?_, FwdOK.put h5⟩
    rw [putR_head hq]
    exact h4 s rfl
theorem runsN_ok (from' : Int) (l : List Int) : ∀ i : Nat, FwdOK (fun x => l.getD (x - from').toNat 0) from' (from' + i) (runsN from' l i)
  | 0 => by show from' = from' + ((0 : Nat) : Int); omega
  | i + 1 => by
    have h := (runsN_ok from' l i).put
    have e : l.getD (from' + (i : Int) - from').toNat 0 = l.getD i 0 := by rw [show (from' + (i : Int) - from').toNat = i by omega]
    try simp -implicitDefEqProofs only [] at h
    rw [e] at h
    rw [runsN, show from' + ((i + 1 : Nat) : Int) = from' + i + 1 by omega]
    exact h
theorem atF_cons {r : Run} {R : List Run} {x : Int} : atF (r :: R) x = if r.t < x then atF R x else if r.f ≤ x then some r.v else none := by
  unfold atF idxR
  by_cases h : r.t < x
  · rw [if_pos h, List.takeWhile_cons_of_pos (by simpa using h), List.length_cons, List.getElem?_cons_succ]
  · rw [if_neg h, List.takeWhile_cons_of_neg (by simpa using h)]
    rfl
theorem FwdOK.at' {val : Int → Int} {hi x : Int} : ∀ {R : List Run} {lo : Int}, FwdOK val lo hi R → lo ≤ x → x < hi → atF R x = some (val x)
  | [], lo, h, h1, h2 => by have : lo = hi := h; omega
  | r :: R, lo, h, h1, h2 => by
    obtain ⟨g1, g2, g3, g4, g5⟩ := h
    rw [atF_cons]
    by_cases ht : r.t < x
    · rw [if_pos ht]; exact FwdOK.at' g5 (by omega) h2
    · rw [if_neg ht, if_pos (by omega), g3 x (by omega) (by omega)]
/-- Neighbours differ. -/
def Adj2 : List Run → Prop
  | [] => True
  | r :: R => (∀ s, R.head? = some s → r.v ≠ s.v) ∧ Adj2 R
theorem Adj2.last {S R : List Run} {x q : Run} (h : Adj2 (S ++ x :: R)) (hq : S.getLast? = some q) : q.v ≠ x.v := by
  induction S with
  | nil => cases hq
  | cons s S ih =>
    cases S with
    | nil =>
      simp at hq; subst hq
      exact h.1 x rfl
    | cons t S =>
      rw [List.getLast?_cons_cons] at hq
      exact ih h.2 hq
structure Seg (β : Type) where
  f : Int
  t : Int
  v : β
section
variable {β : Type}
def FwdB (val : Int → β) (lo hi : Int) : List (Seg β) → Prop
  | [] => lo = hi
  | r :: R => r.f = lo ∧ r.f ≤ r.t ∧ (∀ x, r.f ≤ x → x ≤ r.t → val x = r.v) ∧ (∀ s, R.head? = some s → r.v ≠ s.v) ∧ FwdB val (r.t + 1) hi R
theorem FwdB.le {val : Int → β} : ∀ {R : List (Seg β)} {lo hi : Int}, FwdB val lo hi R → lo ≤ hi
  | [], lo, hi, h => by have : lo = hi := h; omega
  | r :: R, lo, hi, h => by
    obtain ⟨h1, h2, _, _, h5⟩ := h
    have := FwdB.le h5
    omega
theorem FwdB.len {val : Int → β} : ∀ {R : List (Seg β)} {lo hi : Int}, FwdB val lo hi R → (R.length : Int) ≤ hi - lo
  | [], lo, hi, h => by have : lo = hi := h; simp; omega
  | r :: R, lo, hi, h => by
    obtain ⟨h1, h2, _, _, h5⟩ := h
    have := FwdB.len h5
    simp -implicitDefEqProofs only [List.length_cons]
    omega
theorem FwdB.congr {val val' : Int → β} {hi : Int} : ∀ {R : List (Seg β)} {lo : Int}, (∀ x, lo ≤ x → x < hi → val x = val' x) → FwdB val lo hi R → FwdB val' lo hi R
  | [], lo, _, h => h
  | r :: R, lo, hv, h => by
    obtain ⟨h1, h2, h3, h4, h5⟩ := h
    have hl := h5.le
    exact ⟨h1, h2, fun x a b => by rw [← hv x (by omega) (by omega)]; exact h3 x a b, h4, FwdB.congr (fun x a b => hv x (by omega) b) h5⟩
theorem FwdB.nth {val : Int → β} {hi : Int} : ∀ {R : List (Seg β)} {lo : Int}, FwdB val lo hi R → ∀ (i : Nat) r, R[i]? = some r → lo + i ≤ r.f ∧ r.f ≤ r.t ∧ r.t < hi ∧ (∀ x, r.f ≤ x → x ≤ r.t → val x = r.v) ∧ (∀ s, R[i + 1]? = some s → s.f = r.t + 1 ∧ r.v ≠ s.v) ∧ (R[i + 1]? = none → r.t + 1 = hi) ∧ (i = 0 → r.f = lo)
  | [], lo, _, i, r, hr => by simp at hr
  | q :: R, lo, h, 0, r, hr => by
    obtain ⟨h1, h2, h3, h4, h5⟩ := h
    have hl := h5.le
    simp -implicitDefEqProofs only [List.getElem?_cons_zero, Option.some.injEq] at hr
    subst hr
    refine ⟨by omega, h2, by omega, h3, fun s hs => ?_, fun hs => ?_, fun _ => h1⟩
    · cases R with
      | nil => simp at hs
      | cons a R =>
        simp -implicitDefEqProofs only [List.getElem?_cons_succ, List.getElem?_cons_zero, Option.some.injEq] at hs
        subst hs
        exact ⟨h5.1, h4 a rfl⟩
    · cases R with
      | nil => exact h5
      | cons a R => simp at hs
  | q :: R, lo, h, i + 1, r, hr => by
    obtain ⟨h1, h2, h3, h4, h5⟩ := h
    have hl := h5.le
    obtain ⟨g1, g2, g3, g4, g5, g6, g7⟩ := FwdB.nth h5 i r (by simpa using hr)
    exact ⟨by omega, g2, g3, g4, by simpa using g5, by simpa using g6, fun h => by omega⟩
theorem FwdB.apart {val : Int → β} {hi : Int} : ∀ {R : List (Seg β)} {lo : Int}, FwdB val lo hi R → ∀ (i j : Nat) r s, i < j → R[i]? = some r → R[j]? = some s → r.t < s.f
  | [], lo, _, i, j, r, s, _, hr, _ => by simp at hr
  | q :: R, lo, h, 0, 0, r, s, hij, _, _ => by omega
  | q :: R, lo, h, 0, j + 1, r, s, _, hr, hs => by
    obtain ⟨h1, h2, h3, h4, h5⟩ := h
    simp -implicitDefEqProofs only [List.getElem?_cons_zero, Option.some.injEq] at hr
    subst hr
    have := (FwdB.nth h5 j s (by simpa using hs)).1
    omega
  | q :: R, lo, h, i + 1, 0, r, s, hij, _, _ => by omega
  | q :: R, lo, h, i + 1, j + 1, r, s, hij, hr, hs => FwdB.apart h.2.2.2.2 i j r s (by omega) (by simpa using hr) (by simpa using hs)
theorem FwdB.find {val : Int → β} {hi d : Int} : ∀ {R : List (Seg β)} {lo : Int}, FwdB val lo hi R → lo ≤ d → d < hi → ∃ (i : Nat) (r : Seg β), R[i]? = some r ∧ r.f ≤ d ∧ d ≤ r.t
  | [], lo, h, h1, h2 => by have : lo = hi := h; omega
  | q :: R, lo, h, h1, h2 => by
    obtain ⟨g1, g2, g3, g4, g5⟩ := h
    by_cases c : d ≤ q.t
    · exact ⟨0, q, rfl, by omega, c⟩
    · obtain ⟨i, r, k1, k2, k3⟩ := FwdB.find g5 (by omega) h2
      exact ⟨i + 1, r, by simpa using k1, k2, k3⟩
/-- Another end of the last one. -/
theorem FwdB.setLast {val : Int → β} {hi x : Int} {s : Seg β} : ∀ {A : List (Seg β)} {lo : Int}, FwdB val lo hi (A ++ [s]) → s.f ≤ x → (∀ y, s.f ≤ y → y ≤ x → val y = s.v) → FwdB val lo (x + 1) (A ++ [⟨s.f, x, s.v⟩])
  | [], lo, h, h1, h2 => by
    obtain ⟨g1, g2, g3, g4, g5⟩ := h
    exact ⟨g1, h1, h2, fun s hs => by simp at hs, rfl⟩
  | a :: A, lo, h, h1, h2 => by
    obtain ⟨g1, g2, g3, g4, g5⟩ := h
    refine ⟨g1, g2, g3, fun q hq => ?_, FwdB.setLast g5 h1 h2⟩
    cases A with
    | nil =>
      have hq' : (⟨s.f, x, s.v⟩ : Seg β) = q := by simpa using hq
      subst hq'
      exact g4 s rfl
    | cons b A => exact g4 q hq
theorem FwdB.push {val : Int → β} {hi : Int} {r : Seg β} : ∀ {A : List (Seg β)} {lo : Int}, FwdB val lo hi A → r.f = hi → r.f ≤ r.t → (∀ x, r.f ≤ x → x ≤ r.t → val x = r.v) → (∀ s, A.getLast? = some s → s.v ≠ r.v) → FwdB val lo (r.t + 1) (A ++ [r])
  | [], lo, h, h1, h2, h3, h4 => by
    have : lo = hi := h
    exact ⟨by omega, h2, h3, fun s hs => by simp at hs, rfl⟩
  | a :: A, lo, h, h1, h2, h3, h4 => by
    obtain ⟨g1, g2, g3, g4, g5⟩ := h
    refine ⟨g1, g2, g3, fun q hq => ?_, FwdB.push g5 h1 h2 h3 fun s hs => ?_⟩
    · cases A with
      | nil =>
        have hq' : r = q := by simpa using hq
        subst hq'
        exact h4 a rfl
      | cons b A => exact g4 q hq
    · cases A with
      | nil => simp at hs
      | cons b A => exact h4 s (by rw [List.getLast?_cons_cons]; exact hs)
open Classical in
noncomputable def addSg (acc : List (Seg β)) (d : Int) (v : β) : List (Seg β) := match acc.getLast? with
  | none => [⟨d, d, v⟩]
  | some s => if s.v = v then acc.dropLast ++ [⟨s.f, d - 1, s.v⟩] else acc.dropLast ++ [⟨s.f, d - 1, s.v⟩] ++ [⟨d, d, v⟩]
noncomputable def addNg (val : Int → β) (ds : List Int) : Nat → List (Seg β)
  | 0 => []
  | k + 1 => match ds[k]? with
    | some d => addSg (addNg val ds k) d (val d)
    | none => addNg val ds k
def endSg (acc : List (Seg β)) (x : Int) : List (Seg β) := match acc.getLast? with
  | none => []
  | some s => acc.dropLast ++ [⟨s.f, x, s.v⟩]
theorem FwdOK.nth2 {val : Int → Int} {hi : Int} : ∀ {R : List Run} {lo : Int}, FwdOK val lo hi R → ∀ (i : Nat) r, R[i]? = some r → lo ≤ r.f ∧ r.f ≤ r.t ∧ r.t < hi ∧ (∀ x, r.f ≤ x → x ≤ r.t → val x = r.v) ∧ (∀ s, R[i + 1]? = some s → s.f = r.t + 1) ∧ (R[i + 1]? = none → r.t + 1 = hi) ∧ (i = 0 → r.f = lo)
  | [], lo, _, i, r, hr => by simp at hr
  | q :: R, lo, h, 0, r, hr => by
    obtain ⟨h1, h2, h3, h4, h5⟩ := h
    have hl := h5.le
    simp -implicitDefEqProofs only [List.getElem?_cons_zero, Option.some.injEq] at hr
    subst hr
    refine ⟨by omega, h2, by omega, h3, fun s hs => ?_, fun hs => ?_, fun _ => h1⟩
    · cases R with
      | nil => simp at hs
      | cons a R =>
        simp -implicitDefEqProofs only [List.getElem?_cons_succ, List.getElem?_cons_zero, Option.some.injEq] at hs
        subst hs
        exact h5.1
    · cases R with
      | nil => exact h5
      | cons a R => simp at hs
  | q :: R, lo, h, i + 1, r, hr => by
    obtain ⟨h1, h2, h3, h4, h5⟩ := h
    have hl := h5.le
    obtain ⟨g1, g2, g3, g4, g5, g6, g7⟩ := FwdOK.nth2 h5 i r (by simpa using hr)
    exact ⟨by omega, g2, g3, g4, by simpa using g5, by simpa using g6, fun h => by omega⟩
/-- What the first days of runs give, where a run's days are all alike. -/
theorem addNg_fwd {val : Int → β} {sv : Int → Int} {lo hi : Int} {R : List Run} (h : FwdOK sv lo hi R) (hv : ∀ d e, lo ≤ d → d < hi → lo ≤ e → e < hi → sv d = sv e → val d = val e) : ∀ (k : Nat) r, R[k]? = some r → ∃ A s, addNg val (R.map (·.f)) (k + 1) = A ++ [s] ∧ s.v = val r.f ∧ s.f ≤ r.f ∧ ∀ x, r.f ≤ x → x ≤ r.t → FwdB val lo (x + 1) (A ++ [⟨s.f, x, s.v⟩])
  | 0, r, hr => by
    obtain ⟨h1, h2, h3, h4, h5, h6, h7⟩ := h.nth2 0 r hr
    refine ⟨[], ⟨r.f, r.f, val r.f⟩, ?_, rfl, Int.le_refl _, fun x hx hx2 => ⟨h7 rfl, hx, fun y a b => ?_, fun s hs => by simp at hs, rfl⟩⟩
    · simp [addNg, hr, addSg]
    · have a' : r.f ≤ y := a
      have b' : y ≤ x := b
      exact hv y r.f (by omega) (by omega) (by omega) (by omega) (by rw [h4 y a' (by omega), h4 r.f (by omega) h2])
  | k + 1, r, hr => by
    obtain ⟨h1, h2, h3, h4, h5, h6, h7⟩ := h.nth2 (k + 1) r hr
    have hk : k < R.length := by
      have := (List.getElem?_eq_some_iff.1 hr).1
      omega
    obtain ⟨g1, g2, g3, g4, g5, g6, g7⟩ := h.nth2 k R[k] (List.getElem?_eq_getElem hk)
    obtain ⟨A, s, e1, e2, e3, e4⟩ := addNg_fwd h hv k R[k] (List.getElem?_eq_getElem hk)
    have hf := g5 r hr
    have hall := e4 (r.f - 1) (by omega) (by omega)
    rw [show r.f - 1 + 1 = r.f by omega] at hall
    have hstep : addNg val (R.map (·.f)) (k + 1 + 1) = addSg (A ++ [s]) r.f (val r.f) := by
      rw [addNg, List.getElem?_map, hr, ← e1]; rfl
    have hconst : ∀ y, r.f ≤ y → y ≤ r.t → val y = val r.f := fun y a b => hv y r.f (by omega) (by omega) (by omega) (by omega) (by rw [h4 y a b, h4 r.f (by omega) h2])
    by_cases c : s.v = val r.f
    · refine ⟨A, ⟨s.f, r.f - 1, s.v⟩, ?_, c, by show s.f ≤ r.f; omega, fun x hx hx2 => ?_⟩
      · rw [hstep, addSg]
        simp -implicitDefEqProofs only [List.getLast?_append, List.getLast?_singleton, Option.some_or, List.dropLast_concat, if_pos c]
      · refine FwdB.setLast (s := ⟨s.f, r.f - 1, s.v⟩) hall (by show s.f ≤ x; omega) fun y a b => ?_
        simp -implicitDefEqProofs only at a
        by_cases hy : y < r.f
        · have hlast : (A ++ [(⟨s.f, r.f - 1, s.v⟩ : Seg β)])[A.length]? = some ⟨s.f, r.f - 1, s.v⟩ := by simp
          exact (hall.nth _ _ hlast).2.2.2.1 y a (by show y ≤ r.f - 1; omega)
        · rw [hconst y (by omega) (by omega)]; exact c.symm
    · refine ⟨A ++ [⟨s.f, r.f - 1, s.v⟩], ⟨r.f, r.f, val r.f⟩, ?_, rfl, Int.le_refl _, fun x hx hx2 => ?_⟩
      · rw [hstep, addSg]
        simp -implicitDefEqProofs only [List.getLast?_append, List.getLast?_singleton, Option.some_or, List.dropLast_concat, if_neg c]
      · refine FwdB.push (r := ⟨r.f, x, val r.f⟩) hall rfl hx (fun y a b => hconst y a (by simp -implicitDefEqProofs only at b; omega)) fun q hq => ?_
        simp -implicitDefEqProofs only [List.getLast?_append, List.getLast?_singleton, Option.some_or, Option.some.injEq] at hq
        subst hq
        exact c
theorem addNg_end {val : Int → β} {sv : Int → Int} {lo hi : Int} {R : List Run} (h : FwdOK sv lo hi R) (hlt : lo < hi) (hv : ∀ d e, lo ≤ d → d < hi → lo ≤ e → e < hi → sv d = sv e → val d = val e) : FwdB val lo hi (endSg (addNg val (R.map (·.f)) R.length) (hi - 1)) := by
  cases hR : R with
  | nil => rw [hR] at h; have : lo = hi := h; omega
  | cons a S =>
    rw [← hR]
    have hk : R.length - 1 < R.length := by rw [hR]; simp
    obtain ⟨A, s, e1, e2, e3, e4⟩ := addNg_fwd h hv (R.length - 1) _ (List.getElem?_eq_getElem hk)
    obtain ⟨h1, h2, h3, h4, h5, h6, h7⟩ := h.nth2 (R.length - 1) _ (List.getElem?_eq_getElem hk)
    rw [show R.length - 1 + 1 = R.length by omega] at e1 h6
    have h6 := h6 (List.getElem?_eq_none (Nat.le_refl _))
    rw [e1, endSg]
    simp -implicitDefEqProofs only [List.getLast?_append, List.getLast?_singleton, Option.some_or, List.dropLast_concat]
    have := e4 (hi - 1) (by omega) (by omega)
    rwa [show hi - 1 + 1 = hi by omega] at this
end
theorem putR_last {R : List Run} {r : Run} : ∃ q, (putR R r).getLast? = some q ∧ q.v = r.v ∧ q.t = r.t := by
  unfold putR
  split
  · next q hq =>
    split
    · next hv => exact ⟨{ q with t := r.t }, by rw [List.getLast?_append]; rfl, hv, rfl⟩
    · exact ⟨r, by rw [List.getLast?_append]; rfl, rfl, rfl⟩
  · exact ⟨r, rfl, rfl, rfl⟩
theorem runsN_last {f : Int} {l : List Int} {i : Nat} : ∃ q, (runsN f l (i + 1)).getLast? = some q ∧ q.v = l.getD i 0 ∧ q.t = f + i := putR_last
theorem FwdOK.out {val : Int → Int} {hi x : Int} : ∀ {R : List Run} {lo : Int}, FwdOK val lo hi R → (x < lo ∨ hi ≤ x) → atF R x = none
  | [], lo, h, _ => rfl
  | r :: R, lo, h, h1 => by
    obtain ⟨g1, g2, g3, g4, g5⟩ := h
    have := g5.le
    rw [atF_cons]
    by_cases ht : r.t < x
    · rw [if_pos ht]; exact FwdOK.out g5 (.inr (by omega))
    · rw [if_neg ht, if_neg (by omega)]
theorem FwdOK.ends {val : Int → Int} {hi : Int} : ∀ {R : List Run} {lo : Int} (hr : R ≠ []), FwdOK val lo hi R → (R.head hr).f = lo ∧ (R.getLast hr).t = hi - 1
  | [r], lo, _, h => ⟨h.1, by have : r.t + 1 = hi := h.2.2.2.2; show r.t = hi - 1; omega⟩
  | r :: s :: R, lo, _, h => ⟨h.1, (FwdOK.ends (R := s :: R) (by simp) h.2.2.2.2).2⟩
theorem FwdOK.congr {val val' : Int → Int} {hi : Int} : ∀ {R : List Run} {lo : Int}, (∀ x, lo ≤ x → x < hi → val x = val' x) → FwdOK val lo hi R → FwdOK val' lo hi R
  | [], _, _, h => h
  | r :: R, lo, he, h => by
    obtain ⟨g1, g2, g3, g4, g5⟩ := h
    have := g5.le
    exact ⟨g1, g2, fun x h1 h2 => by rw [← he x (by omega) (by omega)]; exact g3 x h1 h2, g4, FwdOK.congr (fun x h1 h2 => he x (by omega) h2) g5⟩
/-- A list's values, at numbers. -/
def valL (f : Int) (l : List Int) : Int → Int := fun x => l.getD (x - f).toNat 0
theorem runs_fwd (f : Int) (l : List Int) : FwdOK (valL f l) f (f + l.length) (runs f l) := runsN_ok f l l.length
/-- Where a line's run begins; behind the last one: where the line ends. -/
def startR (R : List Run) (hi : Int) (i : Nat) : Int := match R[i]? with
  | some r => r.f
  | none => hi
theorem FwdOK.nth {val : Int → Int} {hi : Int} : ∀ {R : List Run} {lo : Int}, FwdOK val lo hi R → ∀ (i : Nat) r, R[i]? = some r → r.f = startR R hi i ∧ r.f ≤ r.t ∧ startR R hi (i + 1) = r.t + 1 ∧ r.t + 1 ≤ hi ∧ lo ≤ r.f ∧ ∀ x, r.f ≤ x → x ≤ r.t → val x = r.v := by
  intro R
  induction R with
  | nil => intro lo _ i r h; simp at h
  | cons q R ih =>
    intro lo h i r hi'
    obtain ⟨g1, g2, g3, g4, g5⟩ := h
    have hle := g5.le
    cases i with
    | zero =>
      simp -implicitDefEqProofs only [List.getElem?_cons_zero, Option.some.injEq] at hi'
      subst hi'
      refine ⟨rfl, g2, ?_, hle, by omega, g3⟩
      unfold startR
      cases R with
      | nil => exact g5.symm
      | cons s R => exact g5.1
    | succ i =>
      obtain ⟨e1, e2, e3, e4, e5, e6⟩ := ih g5 i r (by simpa using hi')
      exact ⟨by rw [e1]; simp [startR], e2, by rw [← e3]; simp [startR], e4, by omega, e6⟩
theorem ofNat64 {a : Nat} (h : a < 18446744073709551616) : (BitVec.ofInt 64 (a : Int)).toNat = a := by
  rw [BitVec.toNat_ofInt]
  have : (a : Int) % ((2 ^ 64 : Nat) : Int) = a := Int.emod_eq_of_lt (by omega) (by simp; omega)
  rw [this, Int.toNat_natCast]
theorem bor_nat {a b : Nat} (ha : a < 18446744073709551616) (hb : b < 18446744073709551616) : borI .u64 (a : Int) (b : Int) = ((a ||| b : Nat) : Int) := by
  have h : a ||| b < 2 ^ 64 := Nat.or_lt_two_pow (by simpa using ha) (by simpa using hb)
  rw [borI, IntKind.wrap_u64, show IntKind.u64.bits = 64 from rfl, BitVec.toNat_or, ofNat64 ha, ofNat64 hb]
  have : a ||| b < 18446744073709551616 := by simpa using h
  omega
def sumN (i : Int) : Nat := if 0 ≤ i ∧ i < 8 then 2 ^ i.toNat else 0
def partN (i : Int) : Nat := if 0 ≤ i ∧ i < 8 then 256 * 2 ^ i.toNat else 0
theorem FwdOK.len {val : Int → Int} {hi : Int} : ∀ {R : List Run} {lo : Int}, FwdOK val lo hi R → (R.length : Int) ≤ hi - lo
  | [], lo, h => by have : lo = hi := h; simp; omega
  | r :: R, lo, ⟨g1, g2, g3, g4, g5⟩ => by
    have := g5.len
    simp -implicitDefEqProofs only [List.length_cons]
    omega
/-- What holds besides. -/
def orW (val : Int → Int) (a b more : Int) : Int → Int := fun x => borI .u64 (val x) (if a ≤ x ∧ x ≤ b then more else 0)
/-- What holds on a day. -/
def setS (ss : List SumX) (d : Int) : Nat → Nat
  | 0 => 0
  | i + 1 => setS ss d i ||| (match ss[i]? with | some s => if s.f ≤ d ∧ d ≤ s.t then 2 ^ i else 0 | none => 0)
def setP (ss : List SumX) (ps : List PartX) (d : Int) : Nat → Nat
  | 0 => setS ss d ss.length
  | i + 1 => setP ss ps d i ||| (match ps[i]? with | some s => if s.f ≤ d ∧ d ≤ s.t then 256 * 2 ^ i else 0 | none => 0)
def setC (c : CoreX) (d : Int) : Nat := setP c.ss c.ps d c.ps.length
theorem setS_lt {ss : List SumX} {d : Int} : ∀ i : Nat, setS ss d i < 2 ^ i
  | 0 => by simp [setS]
  | i + 1 => by
    have h := setS_lt (ss := ss) (d := d) i
    have hp : 2 ^ i < 2 ^ (i + 1) := Nat.pow_lt_pow_right (by omega) (by omega)
    rw [setS]
    refine Nat.or_lt_two_pow (by omega) ?_
    split
    · split <;> omega
    · omega
theorem setP_lt {ss : List SumX} {ps : List PartX} {d : Int} (h8 : ss.length ≤ 8) : ∀ i : Nat, setP ss ps d i < 2 ^ (8 + i)
  | 0 => by
    have h := setS_lt (ss := ss) (d := d) ss.length
    have : 2 ^ ss.length ≤ 2 ^ 8 := Nat.pow_le_pow_right (by omega) h8
    rw [setP]
    show _ < 2 ^ 8
    omega
  | i + 1 => by
    have h := setP_lt (ps := ps) (d := d) h8 i
    have hp : 2 ^ (8 + i) < 2 ^ (8 + i + 1) := Nat.pow_lt_pow_right (by omega) (by omega)
    have he : 256 * 2 ^ i = 2 ^ (8 + i) := by rw [Nat.pow_add]
    rw [setP]
    refine Nat.or_lt_two_pow (by show _ < 2 ^ (8 + i + 1); omega) ?_
    show _ < 2 ^ (8 + i + 1)
    split
    · split
      · rw [he]; exact hp
      · exact Nat.two_pow_pos _
    · exact Nat.two_pow_pos _
theorem pow_le8 {i : Nat} (h : i ≤ 8) : 2 ^ i ≤ 256 := Nat.pow_le_pow_right (n := 2) (by omega) h
theorem pow_le16 {i : Nat} (h : i ≤ 8) : 2 ^ (8 + i) ≤ 65536 := Nat.pow_le_pow_right (show 0 < 2 by omega) (show 8 + i ≤ 16 by omega)
theorem pow_u64 {i : Nat} (h : i < 8) : IntKind.u64.wrap (1 * 2 ^ (if i ≤ 64 then i else 64)) = ((2 ^ i : Nat) : Int) := by
  obtain h | h | h | h | h | h | h | h : i = 0 ∨ i = 1 ∨ i = 2 ∨ i = 3 ∨ i = 4 ∨ i = 5 ∨ i = 6 ∨ i = 7 := by omega
  all_goals subst h; rfl
theorem pow_u64p {i : Nat} (h : i < 8) : IntKind.u64.wrap (256 * 2 ^ (if i ≤ 64 then i else 64)) = ((256 * 2 ^ i : Nat) : Int) := by
  obtain h | h | h | h | h | h | h | h : i = 0 ∨ i = 1 ∨ i = 2 ∨ i = 3 ∨ i = 4 ∨ i = 5 ∨ i = 6 ∨ i = 7 := by omega
  all_goals subst h; rfl
theorem sumN_nat {i : Nat} (h : i < 8) : sumN (i : Int) = 2 ^ i := by unfold sumN; rw [if_pos (by omega), Int.toNat_natCast]
theorem partN_nat {i : Nat} (h : i < 8) : partN (i : Int) = 256 * 2 ^ i := by unfold partN; rw [if_pos (by omega), Int.toNat_natCast]
theorem setS_step {ss : List SumX} {i : Nat} (h : i < ss.length) (h8 : ss.length ≤ 8) : (fun d => ((setS ss d (i + 1) : Nat) : Int)) = orW (fun d => ((setS ss d i : Nat) : Int)) ss[i].f ss[i].t ((sumN (i : Int) : Nat) : Int) := by
  funext d
  have h1 := setS_lt (ss := ss) (d := d) i
  have h2 := pow_le8 (i := i) (by omega)
  rw [orW, setS, List.getElem?_eq_getElem h, sumN_nat (by omega)]
  simp -implicitDefEqProofs only []
  by_cases hd : ss[i].f ≤ d ∧ d ≤ ss[i].t
  · rw [if_pos hd, if_pos hd, bor_nat (by omega) (by omega)]
  · rw [if_neg hd, if_neg hd, show (0 : Int) = ((0 : Nat) : Int) from rfl, bor_nat (by omega) (by omega)]
theorem setP_step {ss : List SumX} {ps : List PartX} {i : Nat} (h : i < ps.length) (h8 : ss.length ≤ 8) (h9 : ps.length ≤ 8) : (fun d => ((setP ss ps d (i + 1) : Nat) : Int)) = orW (fun d => ((setP ss ps d i : Nat) : Int)) ps[i].f ps[i].t ((partN (i : Int) : Nat) : Int) := by
  funext d
  have h1 := setP_lt (ps := ps) (d := d) h8 i
  have h2 := pow_le16 (i := i) (by omega)
  have h3 := pow_le8 (i := i) (by omega)
  rw [orW, setP, List.getElem?_eq_getElem h, partN_nat (by omega)]
  simp -implicitDefEqProofs only []
  by_cases hd : ps[i].f ≤ d ∧ d ≤ ps[i].t
  · rw [if_pos hd, if_pos hd, bor_nat (by omega) (by omega)]
  · rw [if_neg hd, if_neg hd, show (0 : Int) = ((0 : Nat) : Int) from rfl, bor_nat (by omega) (by omega)]
/-- The line of all days. -/
def listC (c : CoreX) : List Int := (List.range (c.t + 1 - c.f).toNat).map fun (i : Nat) => ((setC c (c.f + i) : Nat) : Int)
def holdsR (c : CoreX) : List Run := runs c.f (listC c)
theorem listC_len {c : CoreX} : (listC c).length = (c.t + 1 - c.f).toNat := by simp [listC]
theorem RHolds_ok {c : CoreX} {day : Int} (h7 : c.ss.length ≤ 8) (h8 : c.ps.length ≤ 8) : DataW Try.prog f_poundageref17_Holds [coreX c, i64 day] (u64 ((setC c day : Nat) : Int)) := by
  obtain ⟨cur, f, t, ms, ss, ps⟩ := c
  simp -implicitDefEqProofs only [] at h7 h8
  unfold setC
  simp -implicitDefEqProofs only []
  refine CallW_intro comp_poundageref17_Holds (by simp) ?_
  simp -implicitDefEqProofs -proj only [go_sem, Nat.reduceBEq, Nat.reduceLT, Nat.reduceLeDiff, Nat.reduceAdd, Nat.reduceMul, ↓reduceIte, Int.reduceToNat, Int.reducePow, Int.reduceLT, Int.reduceLE, Int.reduceAdd, Int.reduceSub, Int.reduceMul, Int.reduceEq, Int.reduceNe]
  refine AllocA_intro (fun b2 hb2 => ?_)
  simp -implicitDefEqProofs -proj only [go_sem, Nat.reduceBEq, Nat.reduceLT, Nat.reduceLeDiff, Nat.reduceAdd, Nat.reduceMul, ↓reduceIte, Int.reduceToNat, Int.reducePow, Int.reduceLT, Int.reduceLE, Int.reduceAdd, Int.reduceSub, Int.reduceMul, Int.reduceEq, Int.reduceNe, rowS_len]
  refine LoopA_k (fun i : Nat => i ≤ ss.length) 59 (fun i => [(1, i64 day), (2, .ptr b2 0), (5, u64 ((setS ss day i : Nat) : Int)), (11, .d (.sl 3 (rowS ss))), (12, i64 ss.length), (13, i64 i)]) (fun _ => [(b2, coreB ⟨cur, f, t, ms, ss, ps⟩)]) (fun i => ss.length - i) 0 (Nat.zero_le _) rfl ?_ ?_ ?_
  · simp -implicitDefEqProofs -proj only [go_sem, Nat.reduceBEq, Nat.reduceLT, Nat.reduceLeDiff, Nat.reduceAdd, Nat.reduceMul, ↓reduceIte, Int.reduceToNat, Int.reducePow, Int.reduceLT, Int.reduceLE, Int.reduceAdd, Int.reduceSub, Int.reduceMul, Int.reduceEq, Int.reduceNe, AllAt, setS]
    try rfl
  · simp -implicitDefEqProofs -proj only [go_sem, Nat.reduceBEq, Nat.reduceLT, Nat.reduceLeDiff, Nat.reduceAdd, Nat.reduceMul, ↓reduceIte, Int.reduceToNat, Int.reducePow, Int.reduceLT, Int.reduceLE, Int.reduceAdd, Int.reduceSub, Int.reduceMul, Int.reduceEq, Int.reduceNe, AllH]
  · rintro i hi
    have hk : AllH (keepH [(b2, coreB ⟨cur, f, t, ms, ss, ps⟩)]) [(b2, coreB ⟨cur, f, t, ms, ss, ps⟩)] := keepH_all (by simp [keys])
    have k2 := hk.1
    by_cases h : i < ss.length
    · have hel := rowS_at h
      have h1 := setS_lt (ss := ss) (d := day) i
      have h2 := pow_le8 (i := i) (by omega)
      have hstep : setS ss day (i + 1) = setS ss day i ||| (if ss[i].f ≤ day ∧ day ≤ ss[i].t then 2 ^ i else 0) := by rw [setS, List.getElem?_eq_getElem h]
      have hw1 : IntKind.u64.wrap (i : Int) = i := by rw [IntKind.wrap_u64]; omega
      have hw2 := pow_u64 (i := i) (by omega)
      have hor : borI .u64 ((setS ss day i : Nat) : Int) ((2 ^ i : Nat) : Int) = ((setS ss day i ||| 2 ^ i : Nat) : Int) := bor_nat (by omega) (by omega)
      generalize ss[i] = s at *
      generalize setS ss day i = A at *
      generalize hpw : 2 ^ i = p at *
      simp -implicitDefEqProofs -proj only [go_sem, Nat.reduceBEq, Nat.reduceLT, Nat.reduceLeDiff, Nat.reduceAdd, Nat.reduceMul, ↓reduceIte, Int.reduceToNat, Int.reducePow, Int.reduceLT, Int.reduceLE, Int.reduceAdd, Int.reduceSub, Int.reduceMul, Int.reduceEq, Int.reduceNe, decide_eq_true (show (i : Int) < ss.length by omega)]
      refine ElemA_at _ (by omega) hel ?_
      simp -implicitDefEqProofs -proj only [go_sem, Nat.reduceBEq, Nat.reduceLT, Nat.reduceLeDiff, Nat.reduceAdd, Nat.reduceMul, ↓reduceIte, Int.reduceToNat, Int.reducePow, Int.reduceLT, Int.reduceLE, Int.reduceAdd, Int.reduceSub, Int.reduceMul, Int.reduceEq, Int.reduceNe]
      refine AllocA_intro (fun b5 hb5 => ?_)
      replace hb5 : keepH [(b2, coreB ⟨cur, f, t, ms, ss, ps⟩)] b5 = none := hb5
      obtain ⟨m1, m2⟩ := fresh_ne hb5 k2
      by_cases c1 : s.f ≤ day
      · by_cases c2 : day ≤ s.t
        · rw [if_pos ⟨c1, c2⟩] at hstep
          simp -implicitDefEqProofs -proj only [go_sem, Nat.reduceBEq, Nat.reduceLT, Nat.reduceLeDiff, Nat.reduceAdd, Nat.reduceMul, ↓reduceIte, Int.reduceToNat, Int.reducePow, Int.reduceLT, Int.reduceLE, Int.reduceAdd, Int.reduceSub, Int.reduceMul, Int.reduceEq, Int.reduceNe, m1, m2, decide_eq_true c1, decide_eq_true c2, hw1, Int.toNat_natCast, hw2, hor]
          (repeat' (with_reducible refine VC_intro ?_ (fun h => ?_); (focus first | decide | omega); clear h; try simp -implicitDefEqProofs -proj only [go_sem, Nat.reduceBEq, Nat.reduceLT, Nat.reduceLeDiff, Nat.reduceAdd, Nat.reduceMul, ↓reduceIte, Int.reduceToNat, Int.reducePow, Int.reduceLT, Int.reduceLE, Int.reduceAdd, Int.reduceSub, Int.reduceMul, Int.reduceEq, Int.reduceNe, Int.toNat_natCast, hw1, hw2, hor]))
          refine LoopQ_k (i + 1) (by omega) (by show ss.length - (i + 1) < ss.length - i; omega) rfl ?_ (AllH_upd hb5 hk)
          simp -implicitDefEqProofs -proj only [go_sem, Nat.reduceBEq, Nat.reduceLT, Nat.reduceLeDiff, Nat.reduceAdd, Nat.reduceMul, ↓reduceIte, Int.reduceToNat, Int.reducePow, Int.reduceLT, Int.reduceLE, Int.reduceAdd, Int.reduceSub, Int.reduceMul, Int.reduceEq, Int.reduceNe, AllAt, hstep, i64_succ (show i < 9223372036854775807 by omega)]
        · rw [if_neg (fun k => c2 k.2), Nat.or_zero] at hstep
          simp -implicitDefEqProofs -proj only [go_sem, Nat.reduceBEq, Nat.reduceLT, Nat.reduceLeDiff, Nat.reduceAdd, Nat.reduceMul, ↓reduceIte, Int.reduceToNat, Int.reducePow, Int.reduceLT, Int.reduceLE, Int.reduceAdd, Int.reduceSub, Int.reduceMul, Int.reduceEq, Int.reduceNe, m1, m2, decide_eq_true c1, decide_eq_false c2]
          refine LoopQ_k (i + 1) (by omega) (by show ss.length - (i + 1) < ss.length - i; omega) rfl ?_ (AllH_upd hb5 hk)
          simp -implicitDefEqProofs -proj only [go_sem, Nat.reduceBEq, Nat.reduceLT, Nat.reduceLeDiff, Nat.reduceAdd, Nat.reduceMul, ↓reduceIte, Int.reduceToNat, Int.reducePow, Int.reduceLT, Int.reduceLE, Int.reduceAdd, Int.reduceSub, Int.reduceMul, Int.reduceEq, Int.reduceNe, AllAt, hstep, i64_succ (show i < 9223372036854775807 by omega)]
      · rw [if_neg (fun k => c1 k.1), Nat.or_zero] at hstep
        simp -implicitDefEqProofs -proj only [go_sem, Nat.reduceBEq, Nat.reduceLT, Nat.reduceLeDiff, Nat.reduceAdd, Nat.reduceMul, ↓reduceIte, Int.reduceToNat, Int.reducePow, Int.reduceLT, Int.reduceLE, Int.reduceAdd, Int.reduceSub, Int.reduceMul, Int.reduceEq, Int.reduceNe, m1, m2, decide_eq_false c1]
        refine LoopQ_k (i + 1) (by omega) (by show ss.length - (i + 1) < ss.length - i; omega) rfl ?_ (AllH_upd hb5 hk)
        simp -implicitDefEqProofs -proj only [go_sem, Nat.reduceBEq, Nat.reduceLT, Nat.reduceLeDiff, Nat.reduceAdd, Nat.reduceMul, ↓reduceIte, Int.reduceToNat, Int.reducePow, Int.reduceLT, Int.reduceLE, Int.reduceAdd, Int.reduceSub, Int.reduceMul, Int.reduceEq, Int.reduceNe, AllAt, hstep, i64_succ (show i < 9223372036854775807 by omega)]
    · have hi' : i = ss.length := by omega
      subst hi'
      simp -implicitDefEqProofs -proj only [go_sem, Nat.reduceBEq, Nat.reduceLT, Nat.reduceLeDiff, Nat.reduceAdd, Nat.reduceMul, ↓reduceIte, Int.reduceToNat, Int.reducePow, Int.reduceLT, Int.reduceLE, Int.reduceAdd, Int.reduceSub, Int.reduceMul, Int.reduceEq, Int.reduceNe, k2, rowP_len, decide_eq_false (show ¬ (ss.length : Int) < ss.length by omega)]
      refine LoopA_k (fun i : Nat => i ≤ ps.length) 59 (fun i => [(1, i64 day), (5, u64 ((setP ss ps day i : Nat) : Int)), (35, .d (.sl 9 (rowP ps))), (36, i64 ps.length), (37, i64 i)]) (fun _ => [(b2, coreB ⟨cur, f, t, ms, ss, ps⟩)]) (fun i => ps.length - i) 0 (Nat.zero_le _) rfl ?_ ?_ ?_
      · simp -implicitDefEqProofs -proj only [go_sem, Nat.reduceBEq, Nat.reduceLT, Nat.reduceLeDiff, Nat.reduceAdd, Nat.reduceMul, ↓reduceIte, Int.reduceToNat, Int.reducePow, Int.reduceLT, Int.reduceLE, Int.reduceAdd, Int.reduceSub, Int.reduceMul, Int.reduceEq, Int.reduceNe, AllAt, setP]
        try rfl
      · exact hk
      · rintro i hi
        have k2 := hk.1
        by_cases h : i < ps.length
        · have hel := rowP_at h
          have h1 := setP_lt (ps := ps) (d := day) h7 i
          have h2 := pow_le16 (i := i) (by omega)
          have hstep : setP ss ps day (i + 1) = setP ss ps day i ||| (if ps[i].f ≤ day ∧ day ≤ ps[i].t then 256 * 2 ^ i else 0) := by rw [setP, List.getElem?_eq_getElem h]
          have hw1 : IntKind.u64.wrap (i : Int) = i := by rw [IntKind.wrap_u64]; omega
          have hw2 := pow_u64p (i := i) (by omega)
          have hp8 := pow_le8 (i := i) (by omega)
          have hor : borI .u64 ((setP ss ps day i : Nat) : Int) ((256 * 2 ^ i : Nat) : Int) = ((setP ss ps day i ||| 256 * 2 ^ i : Nat) : Int) := bor_nat (by omega) (by omega)
          generalize ps[i] = s at *
          generalize setP ss ps day i = A at *
          generalize hpw : 256 * 2 ^ i = p at *
          simp -implicitDefEqProofs -proj only [go_sem, Nat.reduceBEq, Nat.reduceLT, Nat.reduceLeDiff, Nat.reduceAdd, Nat.reduceMul, ↓reduceIte, Int.reduceToNat, Int.reducePow, Int.reduceLT, Int.reduceLE, Int.reduceAdd, Int.reduceSub, Int.reduceMul, Int.reduceEq, Int.reduceNe, decide_eq_true (show (i : Int) < ps.length by omega)]
          refine ElemA_at _ (by omega) hel ?_
          simp -implicitDefEqProofs -proj only [go_sem, Nat.reduceBEq, Nat.reduceLT, Nat.reduceLeDiff, Nat.reduceAdd, Nat.reduceMul, ↓reduceIte, Int.reduceToNat, Int.reducePow, Int.reduceLT, Int.reduceLE, Int.reduceAdd, Int.reduceSub, Int.reduceMul, Int.reduceEq, Int.reduceNe]
          refine AllocA_intro (fun b5 hb5 => ?_)
          replace hb5 : keepH [(b2, coreB ⟨cur, f, t, ms, ss, ps⟩)] b5 = none := hb5
          obtain ⟨m1, m2⟩ := fresh_ne hb5 k2
          by_cases c1 : s.f ≤ day
          · by_cases c2 : day ≤ s.t
            · rw [if_pos ⟨c1, c2⟩] at hstep
              simp -implicitDefEqProofs -proj only [go_sem, Nat.reduceBEq, Nat.reduceLT, Nat.reduceLeDiff, Nat.reduceAdd, Nat.reduceMul, ↓reduceIte, Int.reduceToNat, Int.reducePow, Int.reduceLT, Int.reduceLE, Int.reduceAdd, Int.reduceSub, Int.reduceMul, Int.reduceEq, Int.reduceNe, m1, m2, decide_eq_true c1, decide_eq_true c2, hw1, Int.toNat_natCast, hw2, hor]
              (repeat' (with_reducible refine VC_intro ?_ (fun h => ?_); (focus first | decide | omega); clear h; try simp -implicitDefEqProofs -proj only [go_sem, Nat.reduceBEq, Nat.reduceLT, Nat.reduceLeDiff, Nat.reduceAdd, Nat.reduceMul, ↓reduceIte, Int.reduceToNat, Int.reducePow, Int.reduceLT, Int.reduceLE, Int.reduceAdd, Int.reduceSub, Int.reduceMul, Int.reduceEq, Int.reduceNe, Int.toNat_natCast, hw1, hw2, hor]))
              refine LoopQ_k (i + 1) (by omega) (by show ps.length - (i + 1) < ps.length - i; omega) rfl ?_ (AllH_upd hb5 hk)
              simp -implicitDefEqProofs -proj only [go_sem, Nat.reduceBEq, Nat.reduceLT, Nat.reduceLeDiff, Nat.reduceAdd, Nat.reduceMul, ↓reduceIte, Int.reduceToNat, Int.reducePow, Int.reduceLT, Int.reduceLE, Int.reduceAdd, Int.reduceSub, Int.reduceMul, Int.reduceEq, Int.reduceNe, AllAt, hstep, i64_succ (show i < 9223372036854775807 by omega)]
            · rw [if_neg (fun k => c2 k.2), Nat.or_zero] at hstep
              simp -implicitDefEqProofs -proj only [go_sem, Nat.reduceBEq, Nat.reduceLT, Nat.reduceLeDiff, Nat.reduceAdd, Nat.reduceMul, ↓reduceIte, Int.reduceToNat, Int.reducePow, Int.reduceLT, Int.reduceLE, Int.reduceAdd, Int.reduceSub, Int.reduceMul, Int.reduceEq, Int.reduceNe, m1, m2, decide_eq_true c1, decide_eq_false c2]
              refine LoopQ_k (i + 1) (by omega) (by show ps.length - (i + 1) < ps.length - i; omega) rfl ?_ (AllH_upd hb5 hk)
              simp -implicitDefEqProofs -proj only [go_sem, Nat.reduceBEq, Nat.reduceLT, Nat.reduceLeDiff, Nat.reduceAdd, Nat.reduceMul, ↓reduceIte, Int.reduceToNat, Int.reducePow, Int.reduceLT, Int.reduceLE, Int.reduceAdd, Int.reduceSub, Int.reduceMul, Int.reduceEq, Int.reduceNe, AllAt, hstep, i64_succ (show i < 9223372036854775807 by omega)]
          · rw [if_neg (fun k => c1 k.1), Nat.or_zero] at hstep
            simp -implicitDefEqProofs -proj only [go_sem, Nat.reduceBEq, Nat.reduceLT, Nat.reduceLeDiff, Nat.reduceAdd, Nat.reduceMul, ↓reduceIte, Int.reduceToNat, Int.reducePow, Int.reduceLT, Int.reduceLE, Int.reduceAdd, Int.reduceSub, Int.reduceMul, Int.reduceEq, Int.reduceNe, m1, m2, decide_eq_false c1]
            refine LoopQ_k (i + 1) (by omega) (by show ps.length - (i + 1) < ps.length - i; omega) rfl ?_ (AllH_upd hb5 hk)
            simp -implicitDefEqProofs -proj only [go_sem, Nat.reduceBEq, Nat.reduceLT, Nat.reduceLeDiff, Nat.reduceAdd, Nat.reduceMul, ↓reduceIte, Int.reduceToNat, Int.reducePow, Int.reduceLT, Int.reduceLE, Int.reduceAdd, Int.reduceSub, Int.reduceMul, Int.reduceEq, Int.reduceNe, AllAt, hstep, i64_succ (show i < 9223372036854775807 by omega)]
        · have hi' : i = ps.length := by omega
          subst hi'
          simp -implicitDefEqProofs -proj only [go_sem, Nat.reduceBEq, Nat.reduceLT, Nat.reduceLeDiff, Nat.reduceAdd, Nat.reduceMul, ↓reduceIte, Int.reduceToNat, Int.reducePow, Int.reduceLT, Int.reduceLE, Int.reduceAdd, Int.reduceSub, Int.reduceMul, Int.reduceEq, Int.reduceNe, decide_eq_false (show ¬ (ps.length : Int) < ps.length by omega)]
          exact LendV_eq rfl
theorem holds_fwd {c : CoreX} (hft : c.f ≤ c.t) : FwdOK (fun d => ((setC c d : Nat) : Int)) c.f (c.t + 1) (holdsR c) := by
  have h := runs_fwd c.f (listC c)
  rw [listC_len, show c.f + (((c.t + 1 - c.f).toNat : Nat) : Int) = c.t + 1 by omega] at h
  refine h.congr fun x h1 h2 => ?_
  unfold valL
  rw [List.getD_eq_getElem?_getD, List.getElem?_eq_getElem (by rw [listC_len]; omega)]
  simp -implicitDefEqProofs only [listC, List.getElem_map, List.getElem_range, Option.getD_some]
  rw [show c.f + (((x - c.f).toNat : Nat) : Int) = x by omega]
/-- The days on which something else holds than on the day ahead. -/
def breaksN (val : Int → Int) (f : Int) : Nat → List Int
  | 0 => []
  | i + 1 => if val (f + 1 + i) = val (f + i) then breaksN val f i else breaksN val f i ++ [f + 1 + i]
theorem breaksN_congr {val val' : Int → Int} {f : Int} : ∀ {n : Nat}, (∀ i : Nat, i ≤ n → val (f + i) = val' (f + i)) → breaksN val f n = breaksN val' f n
  | 0, _ => rfl
  | n + 1, h => by
    rw [breaksN, breaksN, breaksN_congr (n := n) (fun i hi => h i (by omega))]
    have h1 := h n (by omega)
    have h2 := h (n + 1) (by omega)
    rw [show f + ((n + 1 : Nat) : Int) = f + 1 + n by omega] at h2
    rw [h1, h2]
theorem starts_runs {f : Int} {l : List Int} : ∀ {i : Nat}, i < l.length → (runsN f l (i + 1)).map (·.f) = f :: breaksN (valL f l) f i
  | 0, h => by simp [runsN, putR, breaksN]
  | i + 1, h => by
    have ih := starts_runs (i := i) (f := f) (l := l) (by omega)
    obtain ⟨q, h1, h2, h3⟩ := runsN_last (f := f) (l := l) (i := i)
    have hne : runsN f l (i + 1) ≠ [] := fun e => by rw [e] at h1; simp at h1
    have hv : valL f l (f + i) = q.v := by unfold valL; rw [h2, show (f + (i : Int) - f).toNat = i by omega]
    have hv2 : valL f l (f + 1 + i) = l.getD (i + 1) 0 := by unfold valL; rw [show (f + 1 + (i : Int) - f).toNat = i + 1 by omega]
    rw [runsN, breaksN, hv, hv2]
    generalize runsN f l (i + 1) = R at *
    rw [putR, h1]
    simp -implicitDefEqProofs only []
    by_cases he : q.v = l.getD (i + 1) 0
    · rw [if_pos he, if_pos he.symm, ← ih]
      obtain ⟨dl, hd⟩ := List.getLast?_eq_some_iff.1 h1
      subst hd
      simp
    · rw [if_neg he, if_neg (fun e => he e.symm), List.map_append, ih]
      simp -implicitDefEqProofs only [List.map_cons, List.map_nil, List.cons_append]
      rw [show f + ((i + 1 : Nat) : Int) = f + 1 + i by omega]
theorem holds_starts {c : CoreX} (hft : c.f ≤ c.t) : (holdsR c).map (·.f) = c.f :: breaksN (fun d => ((setC c d : Nat) : Int)) c.f (c.t - c.f).toNat := by
  have hl := @listC_len c
  have h := starts_runs (f := c.f) (l := listC c) (i := (c.t - c.f).toNat) (by omega)
  unfold holdsR runs
  rw [show (listC c).length = (c.t - c.f).toNat + 1 by omega, h]
  congr 1
  refine breaksN_congr fun i hi => ?_
  unfold valL
  rw [show (c.f + (i : Int) - c.f).toNat = i by omega, List.getD_eq_getElem?_getD, List.getElem?_eq_getElem (by omega)]
  simp [listC]
theorem breaks_or {val : Int → Int} {f a b m : Int} : ∀ n : Nat, (breaksN (orW val a b m) f n).length ≤ (breaksN val f n).length + (if a ≤ f + n then 1 else 0) + (if b < f + n then 1 else 0)
  | 0 => by simp [breaksN]
  | n + 1 => by
    have ih := breaks_or (val := val) (f := f) (a := a) (b := b) (m := m) n
    rw [breaksN, breaksN]
    have e : f + ((n + 1 : Nat) : Int) = f + 1 + n := by omega
    rw [e]
    by_cases h1 : orW val a b m (f + 1 + n) = orW val a b m (f + n)
    · rw [if_pos h1]
      split <;> (try rw [List.length_append, List.length_singleton]) <;> split <;> split <;> split at ih <;> split at ih <;> omega
    · rw [if_neg h1, List.length_append, List.length_singleton]
      by_cases h2 : val (f + 1 + n) = val (f + n)
      · rw [if_pos h2]
        have h3 : (if a ≤ f + 1 + n ∧ f + 1 + n ≤ b then m else 0) ≠ (if a ≤ f + n ∧ f + n ≤ b then m else 0) := fun k => h1 (by unfold orW; rw [h2, k])
        have h4 : ¬ (a ≤ f + 1 + n ∧ f + 1 + n ≤ b ∧ a ≤ f + n ∧ f + n ≤ b) := fun k => h3 (by rw [if_pos ⟨k.1, k.2.1⟩, if_pos ⟨k.2.2.1, k.2.2.2⟩])
        have h5 : ¬ (¬ (a ≤ f + 1 + n ∧ f + 1 + n ≤ b) ∧ ¬ (a ≤ f + n ∧ f + n ≤ b)) := fun k => h3 (by rw [if_neg k.1, if_neg k.2])
        split <;> split <;> split at ih <;> split at ih <;> omega
      · rw [if_neg h2, List.length_append, List.length_singleton]
        split <;> split <;> split at ih <;> split at ih <;> omega
theorem breaks_or2 {val : Int → Int} {f a b m : Int} (n : Nat) : (breaksN (orW val a b m) f n).length ≤ (breaksN val f n).length + 2 := by
  have := breaks_or (val := val) (f := f) (a := a) (b := b) (m := m) n
  split at this <;> split at this <;> omega
theorem breaks_const {v f : Int} : ∀ n : Nat, breaksN (fun _ => v) f n = []
  | 0 => rfl
  | n + 1 => by rw [breaksN, if_pos rfl, breaks_const]
theorem breaks_S {ss : List SumX} {f : Int} {n : Nat} (h8 : ss.length ≤ 8) : ∀ i : Nat, i ≤ ss.length → (breaksN (fun d => ((setS ss d i : Nat) : Int)) f n).length ≤ 2 * i
  | 0, _ => by
    show (breaksN (fun _ => ((0 : Nat) : Int)) f n).length ≤ 0
    rw [breaks_const]; simp
  | i + 1, h => by
    have ih := breaks_S (ss := ss) (f := f) (n := n) h8 i (by omega)
    rw [setS_step (by omega) h8]
    have := breaks_or2 (val := fun d => ((setS ss d i : Nat) : Int)) (f := f) (a := (ss[i]'(by omega)).f) (b := (ss[i]'(by omega)).t) (m := ((sumN (i : Int) : Nat) : Int)) n
    omega
theorem breaks_P {ss : List SumX} {ps : List PartX} {f : Int} {n : Nat} (h8 : ss.length ≤ 8) (h9 : ps.length ≤ 8) : ∀ i : Nat, i ≤ ps.length → (breaksN (fun d => ((setP ss ps d i : Nat) : Int)) f n).length ≤ 2 * (ss.length + i)
  | 0, _ => breaks_S h8 ss.length (Nat.le_refl _)
  | i + 1, h => by
    have ih := breaks_P (ss := ss) (ps := ps) (f := f) (n := n) h8 h9 i (by omega)
    rw [setP_step (by omega) h8 h9]
    have := breaks_or2 (val := fun d => ((setP ss ps d i : Nat) : Int)) (f := f) (a := (ps[i]'(by omega)).f) (b := (ps[i]'(by omega)).t) (m := ((partN (i : Int) : Nat) : Int)) n
    omega
theorem breaks_len {c : CoreX} (h8 : c.ss.length ≤ 8) (h9 : c.ps.length ≤ 8) (n : Nat) : (breaksN (fun d => ((setC c d : Nat) : Int)) c.f n).length ≤ 2 * (c.ss.length + c.ps.length) := breaks_P h8 h9 c.ps.length (Nat.le_refl _)
/-- A group: from a quantity on, its value, how wide its plateaus are, by how much they rise, how many there are. -/
structure Grp where
  f : Int
  v : Int
  w : Int
  r : Int
  c : Int
  deriving DecidableEq
/-- How many runs behind one lie as far off each other, and rise by as much. -/
def runLen (w r : Int) (a : Run) : List Run → Nat
  | [] => 0
  | b :: l => if b.f - a.f = w ∧ b.v - a.v = r then runLen w r b l + 1 else 0
theorem runLen_le {w r : Int} : ∀ {l : List Run} {a : Run}, runLen w r a l ≤ l.length
  | [], a => Nat.le_refl _
  | b :: l, a => by
    rw [runLen]
    split
    · have := @runLen_le w r l b
      simp -implicitDefEqProofs only [List.length_cons]; omega
    · omega
def grpOf (a : Run) : List Run → Grp × Nat
  | [] => (⟨a.f, a.v, 0, 0, 1⟩, 1)
  | b :: l => (⟨a.f, a.v, b.f - a.f, b.v - a.v, ((runLen (b.f - a.f) (b.v - a.v) a (b :: l) + 1 : Nat) : Int)⟩, runLen (b.f - a.f) (b.v - a.v) a (b :: l) + 1)
theorem grpOf_le {a : Run} {l : List Run} : 1 ≤ (grpOf a l).2 ∧ (grpOf a l).2 ≤ l.length + 1 ∧ (grpOf a l).1.c = (grpOf a l).2 := by
  cases l with
  | nil => exact ⟨Nat.le_refl _, Nat.le_refl _, rfl⟩
  | cons b l =>
    have := @runLen_le (b.f - a.f) (b.v - a.v) (b :: l) a
    exact ⟨by show 1 ≤ runLen _ _ _ _ + 1; omega, by show runLen _ _ _ _ + 1 ≤ _; omega, rfl⟩
def groupsF : Nat → List Run → List Grp
  | 0, _ => []
  | _ + 1, [] => []
  | n + 1, a :: l => (grpOf a l).1 :: groupsF n ((a :: l).drop (grpOf a l).2)
def groups (R : List Run) : List Grp := groupsF R.length R
theorem groupsF_fuel : ∀ {n : Nat} {R : List Run}, R.length ≤ n → groupsF n R = groupsF R.length R
  | 0, [], _ => rfl
  | n + 1, [], _ => rfl
  | n + 1, a :: l, h => by
    obtain ⟨h1, h2, _⟩ := @grpOf_le a l
    have hl : ((a :: l).drop (grpOf a l).2).length ≤ l.length := by rw [List.length_drop]; simp -implicitDefEqProofs only [List.length_cons]; omega
    simp -implicitDefEqProofs only [List.length_cons] at h
    rw [List.length_cons, groupsF, groupsF, groupsF_fuel (n := n) (by omega), groupsF_fuel (n := l.length) hl]
theorem groups_cons {a : Run} {l : List Run} : groups (a :: l) = (grpOf a l).1 :: groups ((a :: l).drop (grpOf a l).2) := by
  obtain ⟨h1, h2, _⟩ := @grpOf_le a l
  have hl : ((a :: l).drop (grpOf a l).2).length ≤ l.length := by rw [List.length_drop]; simp -implicitDefEqProofs only [List.length_cons]; omega
  unfold groups
  rw [List.length_cons, groupsF, groupsF_fuel (n := l.length) hl]
theorem groups_nil : groups [] = [] := rfl
theorem groups_len : ∀ {n : Nat} {R : List Run}, R.length ≤ n → (groups R).length ≤ R.length
  | _, [], _ => Nat.le_refl _
  | 0, a :: l, h => absurd h (by simp)
  | n + 1, a :: l, h => by
    obtain ⟨h1, h2, _⟩ := @grpOf_le a l
    simp -implicitDefEqProofs only [List.length_cons] at h
    have hl : ((a :: l).drop (grpOf a l).2).length ≤ l.length := by rw [List.length_drop]; simp -implicitDefEqProofs only [List.length_cons]; omega
    have := groups_len (n := n) (R := (a :: l).drop (grpOf a l).2) (by omega)
    rw [groups_cons]
    simp -implicitDefEqProofs only [List.length_cons]
    omega
/-- A group's number at a quantity. -/
def valG (g : Grp) (q : Int) : Int := if g.w < 1 then g.v else g.v + min ((q - g.f).tdiv g.w) (g.c - 1) * g.r
/-- The number at a quantity, by the last group that begins at it, or ahead. -/
def atG : List Grp → Int → Option Int
  | [], _ => none
  | g :: G, q => match atG G q with
    | some v => some v
    | none => if g.f ≤ q then some (valG g q) else none
/-- The first of a group's runs: where they lie. -/
theorem runLen_nth {w r : Int} : ∀ {l : List Run} {a : Run} (j : Nat), j < runLen w r a l → ∃ h : j < l.length, l[j].f = a.f + (j + 1) * w ∧ l[j].v = a.v + (j + 1) * r
  | [], a, j, h => absurd h (Nat.not_lt_zero _)
  | b :: l, a, j, h => by
    rw [runLen] at h
    split at h
    · next hc =>
      cases j with
      | zero => exact ⟨by simp, by simp -implicitDefEqProofs only [List.getElem_cons_zero]; omega, by simp -implicitDefEqProofs only [List.getElem_cons_zero]; omega⟩
      | succ j =>
        obtain ⟨g1, g2, g3⟩ := runLen_nth (w := w) (r := r) (l := l) (a := b) j (by omega)
        refine ⟨by simpa using g1, ?_, ?_⟩
        · simp -implicitDefEqProofs only [List.getElem_cons_succ]
          rw [g2, show (((j + 1 : Nat) : Int) + 1) * w = ((j : Int) + 1) * w + w by rw [Int.add_mul ((j + 1 : Nat) : Int), Int.one_mul]; rfl]
          omega
        · simp -implicitDefEqProofs only [List.getElem_cons_succ]
          rw [g3, show (((j + 1 : Nat) : Int) + 1) * r = ((j : Int) + 1) * r + r by rw [Int.add_mul ((j + 1 : Nat) : Int), Int.one_mul]; rfl]
          omega
    · omega
/-- All of a group's runs. -/
theorem grp_nth {a : Run} {l : List Run} (j : Nat) (hj : j < (grpOf a l).2) : ∃ h : j < (a :: l).length, (a :: l)[j].f = (grpOf a l).1.f + j * (grpOf a l).1.w ∧ (a :: l)[j].v = (grpOf a l).1.v + j * (grpOf a l).1.r := by
  cases l with
  | nil =>
    have : j = 0 := by simp -implicitDefEqProofs only [grpOf] at hj; omega
    subst this
    exact ⟨by simp, by simp [grpOf], by simp [grpOf]⟩
  | cons b l =>
    cases j with
    | zero => exact ⟨by simp, by simp [grpOf], by simp [grpOf]⟩
    | succ j =>
      simp -implicitDefEqProofs only [grpOf] at hj
      obtain ⟨g1, g2, g3⟩ := runLen_nth (w := b.f - a.f) (r := b.v - a.v) (l := b :: l) (a := a) j (by omega)
      exact ⟨by simpa using g1, by simpa [grpOf] using g2, by simpa [grpOf] using g3⟩
theorem grp_wide {val : Int → Int} {lo hi : Int} {a : Run} {l : List Run} (h : FwdOK val lo hi (a :: l)) : (l = [] ∧ (grpOf a l).1.w = 0 ∧ (grpOf a l).1.r = 0 ∧ (grpOf a l).2 = 1) ∨ (l ≠ [] ∧ 1 ≤ (grpOf a l).1.w ∧ (grpOf a l).1.r ≠ 0 ∧ 2 ≤ (grpOf a l).2) := by
  cases l with
  | nil => exact .inl ⟨rfl, rfl, rfl, rfl⟩
  | cons b l =>
    obtain ⟨g1, g2, g3, g4, g5⟩ := h
    refine .inr ⟨by simp, ?_, ?_, ?_⟩
    · show 1 ≤ b.f - a.f
      have := g5.1
      omega
    · show b.v - a.v ≠ 0
      have := g4 b (by simp)
      omega
    · show 2 ≤ runLen _ _ _ _ + 1
      rw [runLen, if_pos ⟨rfl, rfl⟩]
      omega
theorem FwdOK.drop {val : Int → Int} {hi : Int} : ∀ {R : List Run} {lo : Int} (k : Nat), FwdOK val lo hi R → k ≤ R.length → ∃ m, FwdOK val m hi (R.drop k) ∧ lo + k ≤ m ∧ (∀ q, lo ≤ q → q < m → ∃ (j : Nat) (h : j < R.length), j < k ∧ R[j].f ≤ q ∧ q ≤ R[j].t ∧ val q = R[j].v ∧ (∀ (h2 : j + 1 < R.length), q < R[j + 1].f))
  | R, lo, 0, h, _ => ⟨lo, h, by omega, fun q h1 h2 => by omega⟩
  | [], lo, k + 1, h, hk => absurd hk (by simp)
  | a :: R, lo, k + 1, ⟨g1, g2, g3, g4, g5⟩, hk => by
    obtain ⟨m, k1, k2, k3⟩ := FwdOK.drop k g5 (by simpa using hk)
    refine ⟨m, k1, by omega, fun q h1 h2 => ?_⟩
    by_cases hq : q ≤ a.t
    · refine ⟨0, by simp, by omega, by simpa using (by omega), by simpa using hq, by simpa using g3 q (by omega) hq, fun h3 => ?_⟩
      cases R with
      | nil => simp at h3
      | cons b R =>
        have := g5.1
        simp -implicitDefEqProofs only [List.getElem_cons_succ, List.getElem_cons_zero]
        omega
    · obtain ⟨j, j1, j2, j3, j4, j5, j6⟩ := k3 q (by omega) h2
      exact ⟨j + 1, by simpa using j1, by omega, by simpa using j3, by simpa using j4, by simpa using j5, fun h3 => by simpa using j6 (by simpa using h3)⟩
theorem div_at {x w : Int} {j : Nat} (hw : 1 ≤ w) (h0 : (j : Int) * w ≤ x) : (j : Int) ≤ x.tdiv w ∧ (x < (j + 1) * w → x.tdiv w = j) := by
  have hx : 0 ≤ x := Int.le_trans (Int.mul_nonneg (by omega) (by omega)) h0
  rw [Int.tdiv_eq_ediv_of_nonneg hx]
  refine ⟨Int.le_ediv_of_mul_le (by omega) h0, fun h1 => ?_⟩
  have h2 := Int.le_ediv_of_mul_le (show 0 < w by omega) h0
  have h3 := Int.ediv_lt_of_lt_mul (show 0 < w by omega) h1
  omega
theorem atG_groups {val : Int → Int} {hi : Int} : ∀ (n : Nat) {R : List Run} {lo : Int}, R.length ≤ n → FwdOK val lo hi R → ∀ q, (q < lo → atG (groups R) q = none) ∧ (lo ≤ q → q < hi → atG (groups R) q = some (val q))
  | _, [], lo, _, h, q => ⟨fun _ => rfl, fun h1 h2 => by have : lo = hi := h; omega⟩
  | 0, a :: l, lo, hn, h, q => absurd hn (by simp)
  | n + 1, a :: l, lo, hn, h, q => by
    obtain ⟨h1, h2, hc⟩ := @grpOf_le a l
    simp -implicitDefEqProofs only [List.length_cons] at hn
    obtain ⟨m, k1, k2, k3⟩ := FwdOK.drop (grpOf a l).2 h (by simp -implicitDefEqProofs only [List.length_cons]; omega)
    have hl : ((a :: l).drop (grpOf a l).2).length ≤ n := by rw [List.length_drop]; simp -implicitDefEqProofs only [List.length_cons]; omega
    obtain ⟨i1, i2⟩ := atG_groups n hl k1 q
    have hgf : (grpOf a l).1.f = lo := by
      have := h.1
      cases l <;> exact this
    have hgv : (grpOf a l).1.v = a.v := by cases l <;> rfl
    rw [groups_cons, atG, hgf]
    refine ⟨fun hq => ?_, fun hq hq2 => ?_⟩
    · rw [i1 (by omega)]
      simp -implicitDefEqProofs only []
      rw [if_neg (by omega)]
    · by_cases hm : m ≤ q
      · rw [i2 hm hq2]
      · rw [i1 (by omega)]
        simp -implicitDefEqProofs only []
        rw [if_pos hq]
        congr 1
        obtain ⟨j, j1, j2, j3, j4, j5, j6⟩ := k3 q hq (by omega)
        obtain ⟨e1, e2, e3⟩ := grp_nth (a := a) (l := l) j j2
        rw [j5, e3]
        unfold valG
        rcases grp_wide h with ⟨w0, w1, w2, w3⟩ | ⟨w0, w1, w2, w3⟩
        · rw [if_pos (by omega), w2, Int.mul_zero, Int.add_zero]
        · rw [if_neg (by omega), hc, hgf]
          rw [hgf] at e2
          congr 2
          obtain ⟨d1, d2⟩ := div_at (x := q - lo) (w := (grpOf a l).1.w) (j := j) w1 (by omega)
          by_cases hj : j + 1 < (grpOf a l).2
          · obtain ⟨f1, f2, f3⟩ := grp_nth (a := a) (l := l) (j + 1) hj
            have := j6 (by omega)
            rw [f2, hgf, show (((j + 1 : Nat) : Int)) = (j : Int) + 1 from rfl] at this
            rw [d2 (by omega)]
            omega
          · omega
def bigV (r : Run) : Prop := r.v < -2305843009213693952 ∨ 2305843009213693952 < r.v
instance (r : Run) : Decidable (bigV r) := by unfold bigV; exact inferInstance
def Grp.el (g : Grp) : List D := [.int .i64 g.f, .int .i64 g.v, .int .i64 g.w, .int .i64 g.r, .int .i64 g.c]
abbrev Grp.av (g : Grp) : AV := .agg [i64 g.f, i64 g.v, i64 g.w, i64 g.r, i64 g.c]
/-- Runs whose numbers are small. -/
def RunOK (r : Run) : Prop := (0 ≤ r.f ∧ r.f ≤ 3000) ∧ (-2305843009213693952 ≤ r.v ∧ r.v ≤ 2305843009213693952)
theorem runLen_at {w r : Int} {S : List Run} {c : Nat} (h0 : 0 < c) (h : c < S.length) : runLen w r (S[c - 1]'(by omega)) (S.drop c) = if S[c].f - (S[c - 1]'(by omega)).f = w ∧ S[c].v - (S[c - 1]'(by omega)).v = r then runLen w r S[c] (S.drop (c + 1)) + 1 else 0 := by
  rw [List.drop_eq_getElem_cons h, runLen]
theorem grpOf_eq {S : List Run} (h : 1 < S.length) : grpOf (S[0]'(by omega)) (S.drop 1) = (⟨(S[0]'(by omega)).f, (S[0]'(by omega)).v, S[1].f - (S[0]'(by omega)).f, S[1].v - (S[0]'(by omega)).v, ((runLen (S[1].f - (S[0]'(by omega)).f) (S[1].v - (S[0]'(by omega)).v) (S[0]'(by omega)) (S.drop 1) + 1 : Nat) : Int)⟩, runLen (S[1].f - (S[0]'(by omega)).f) (S[1].v - (S[0]'(by omega)).v) (S[0]'(by omega)) (S.drop 1) + 1) := by
  match S, h with
  | a :: b :: l, _ => rfl
def rowG (l : List Grp) : List (List D) := l.map Grp.el
theorem rowG_len {l : List Grp} : (rowG l).length = l.length := List.length_map ..
theorem rowG_at {l : List Grp} {i : Nat} (h : i < l.length) : (rowG l)[((i : Int)).toNat]? = some [.int .i64 l[i].f, .int .i64 l[i].v, .int .i64 l[i].w, .int .i64 l[i].r, .int .i64 l[i].c] := by
  rw [Int.toNat_natCast]; simp [rowG, h, Grp.el]
theorem rowG_scal {l : List Grp} : ∀ el ∈ rowG l, ∀ d ∈ el, scalD d = true := by
  intro el he d hd
  obtain ⟨r, _, rfl⟩ := List.mem_map.1 he
  simp -implicitDefEqProofs only [Grp.el, List.mem_cons, List.not_mem_nil, or_false] at hd
  rcases hd with rfl | rfl | rfl | rfl | rfl <;> rfl
theorem rowG_snoc {l : List Grp} {g : Grp} : rowG l ++ [g.el] = rowG (l ++ [g]) := by simp [rowG]
abbrev slG (l : List Grp) : AV := .d (.sl 5 (rowG l))
abbrev curveV (m : Int) (G : List Grp) : AV := .agg [i64 m, slG G]
def okOf (R : List Run) : Prop := ∃ h : R ≠ [], (R.head h).f = 0 ∧ (R.getLast h).t ≤ 2000 ∧ ∀ r ∈ R, ¬ bigV r
noncomputable instance (R : List Run) : Decidable (okOf R) := Classical.propDecidable _
theorem groups_step {S : List Run} (h : 0 < S.length) : groups S = (grpOf S[0] (S.drop 1)).1 :: groups (S.drop (grpOf S[0] (S.drop 1)).2) := by
  match S, h with
  | a :: l, _ => exact groups_cons
theorem new_curve {H : Heap} {m : Int} {G : List Grp} {v : AV} (h : NewV H v (slG G)) : NewV H (.agg [i64 m, v]) (curveV m G) := by
  refine .agg _ _ rfl fun j x y h1 h2 => ?_
  match j with
  | 0 => cases h1; cases h2; exact .scal _ rfl
  | 1 => cases h1; cases h2; exact h
  | j + 2 => cases h1
theorem new_tup2 {H : Heap} {x y : AV} {b : Bool} (h : NewV H x y) : NewV H (.tup [x, bv b]) (.tup [y, bv b]) := by
  refine .tup _ _ rfl fun j u v h1 h2 => ?_
  match j with
  | 0 => cases h1; cases h2; exact h
  | 1 => cases h1; cases h2; exact .scal _ rfl
  | j + 2 => cases h1
structure GrpOK (g : Grp) : Prop where
  f : 0 ≤ g.f ∧ g.f ≤ 3000
  w : 0 ≤ g.w ∧ g.w ≤ 3000
  c : 1 ≤ g.c ∧ g.c ≤ 3001
  v : -2305843009213693952 ≤ g.v ∧ g.v ≤ 2305843009213693952
  r : ∀ j : Int, 0 ≤ j → j ≤ g.c - 1 → -4611686018427387904 ≤ j * g.r ∧ j * g.r ≤ 4611686018427387904
theorem grp_ok {val : Int → Int} {lo hi : Int} {a : Run} {l : List Run} (h : FwdOK val lo hi (a :: l)) (hb : ∀ r ∈ a :: l, RunOK r) (hl : l.length ≤ 3000) : GrpOK (grpOf a l).1 := by
  obtain ⟨h1, h2, h3⟩ := @grpOf_le a l
  have ha := hb a (List.mem_cons_self ..)
  refine ⟨?_, ?_, by omega, ?_, ?_⟩
  · have : (grpOf a l).1.f = a.f := by cases l <;> rfl
    rw [this]; exact ha.1
  · rcases grp_wide h with ⟨w0, w1, w2, w3⟩ | ⟨w0, w1, w2, w3⟩
    · omega
    · refine ⟨by omega, ?_⟩
      cases l with
      | nil => exact absurd rfl w0
      | cons b l =>
        have hbb := (hb b (by simp)).1
        show b.f - a.f ≤ 3000
        have := ha.1
        omega
  · have : (grpOf a l).1.v = a.v := by cases l <;> rfl
    rw [this]; exact ha.2
  · intro j hj0 hj
    obtain ⟨n, rfl⟩ := Int.eq_ofNat_of_zero_le hj0
    obtain ⟨g1, g2, g3⟩ := grp_nth (a := a) (l := l) n (by omega)
    have hbn := (hb _ (List.getElem_mem g1)).2
    have : (grpOf a l).1.v = a.v := by cases l <;> rfl
    rw [g3, this] at hbn
    have := ha.2
    omega
theorem groups_ok {val : Int → Int} {hi : Int} : ∀ (n : Nat) {R : List Run} {lo : Int}, R.length ≤ n → FwdOK val lo hi R → (∀ r ∈ R, RunOK r) → R.length ≤ 3000 → ∀ g ∈ groups R, GrpOK g
  | _, [], lo, _, h, hb, hl, g, hg => by cases hg
  | 0, a :: l, lo, hn, h, hb, hl, g, hg => absurd hn (by simp)
  | n + 1, a :: l, lo, hn, h, hb, hl, g, hg => by
    obtain ⟨h1, h2, hc⟩ := @grpOf_le a l
    simp -implicitDefEqProofs only [List.length_cons] at hn hl
    obtain ⟨m, k1, k2, k3⟩ := FwdOK.drop (grpOf a l).2 h (by simp -implicitDefEqProofs only [List.length_cons]; omega)
    have hl' : ((a :: l).drop (grpOf a l).2).length ≤ l.length := by rw [List.length_drop]; simp -implicitDefEqProofs only [List.length_cons]; omega
    rw [groups_cons] at hg
    rcases List.mem_cons.1 hg with rfl | hg
    · exact grp_ok h hb (by omega)
    · exact groups_ok n (by omega) k1 (fun r hr => hb r (List.mem_of_mem_drop hr)) (by omega) g hg
theorem atG_app {q : Int} : ∀ {L M : List Grp}, atG (L ++ M) q = match atG M q with
    | some v => some v
    | none => atG L q
  | [], M => by simp -implicitDefEqProofs only [List.nil_append, atG]; cases atG M q <;> rfl
  | g :: L, M => by
    rw [List.cons_append, atG, atG_app]
    cases atG M q <;> rfl
theorem atG_snoc {q : Int} {L : List Grp} {g : Grp} : atG (L ++ [g]) q = if g.f ≤ q then some (valG g q) else atG L q := by
  rw [atG_app]
  simp -implicitDefEqProofs only [atG]
  by_cases h : g.f ≤ q
  · rw [if_pos h, if_pos h]
  · rw [if_neg h, if_neg h]
theorem quo_bound {g : Grp} {q : Int} (h : GrpOK g) (hw : ¬ g.w < 1) (hq : g.f ≤ q) : 0 ≤ (q - g.f).tdiv g.w ∧ (q - g.f).tdiv g.w ≤ q - g.f := by
  have := h.w
  rw [Int.tdiv_eq_ediv_of_nonneg (by omega)]
  exact ⟨Int.ediv_nonneg (by omega) (by omega), Int.ediv_le_self _ (by omega)⟩
set_option maxRecDepth 20000 in
theorem CAt_ok {m q : Int} {G : List Grp} (hG : ∀ g ∈ G, GrpOK g) (hl : G.length ≤ 3001) (hq : Fit q) (hm : m ≤ 3000) : DataW Try.prog f_curve_At [curveV m G, i64 q] (optR (if q < 0 ∨ m < q then none else atG G q)) := by
  refine CallW_intro comp_curve_At (by simp) ?_
  simp -implicitDefEqProofs -proj only [go_sem, Nat.reduceBEq, Nat.reduceLT, Nat.reduceLeDiff, Nat.reduceAdd, Nat.reduceMul, ↓reduceIte, Int.reduceToNat, Int.reducePow, Int.reduceLT, Int.reduceLE, Int.reduceAdd, Int.reduceSub, Int.reduceMul, Int.reduceEq, Int.reduceNe]
  refine AllocA_intro (fun b2 hb2 => ?_)
  by_cases h1 : q < 0
  · rw [if_pos (.inl h1)]
    simp -implicitDefEqProofs -proj only [go_sem, Nat.reduceBEq, Nat.reduceLT, Nat.reduceLeDiff, Nat.reduceAdd, Nat.reduceMul, ↓reduceIte, Int.reduceToNat, Int.reducePow, Int.reduceLT, Int.reduceLE, Int.reduceAdd, Int.reduceSub, Int.reduceMul, Int.reduceEq, Int.reduceNe, decide_eq_true h1]
    exact LendV_eq rfl
  by_cases h2 : m < q
  · rw [if_pos (.inr h2)]
    simp -implicitDefEqProofs -proj only [go_sem, Nat.reduceBEq, Nat.reduceLT, Nat.reduceLeDiff, Nat.reduceAdd, Nat.reduceMul, ↓reduceIte, Int.reduceToNat, Int.reducePow, Int.reduceLT, Int.reduceLE, Int.reduceAdd, Int.reduceSub, Int.reduceMul, Int.reduceEq, Int.reduceNe, decide_eq_false h1, decide_eq_true h2]
    exact LendV_eq rfl
  rw [if_neg (by omega)]
  have hwl : IntKind.i64.wrap ((G.length : Int) - 1) = (G.length : Int) - 1 := by rw [IntKind.wrap_i64]; omega
  simp -implicitDefEqProofs -proj only [go_sem, Nat.reduceBEq, Nat.reduceLT, Nat.reduceLeDiff, Nat.reduceAdd, Nat.reduceMul, ↓reduceIte, Int.reduceToNat, Int.reducePow, Int.reduceLT, Int.reduceLE, Int.reduceAdd, Int.reduceSub, Int.reduceMul, Int.reduceEq, Int.reduceNe, decide_eq_false h1, decide_eq_false h2, rowG_len, hwl]
  refine LoopA_k (fun n : Nat => n ≤ G.length ∧ atG G q = atG (G.take n) q) 63 (fun n => [(1, i64 q), (2, .ptr b2 0), (6, i64 ((n : Int) - 1))]) (fun _ => [(b2, .box 59 [i64 m, slG G])]) (fun n => n) G.length ⟨Nat.le_refl _, by rw [List.take_length]⟩ rfl ?_ ?_ ?_
  · simp -implicitDefEqProofs -proj only [go_sem, Nat.reduceBEq, Nat.reduceLT, Nat.reduceLeDiff, Nat.reduceAdd, Nat.reduceMul, ↓reduceIte, Int.reduceToNat, Int.reducePow, Int.reduceLT, Int.reduceLE, Int.reduceAdd, Int.reduceSub, Int.reduceMul, Int.reduceEq, Int.reduceNe, AllAt]
  · simp -implicitDefEqProofs -proj only [go_sem, Nat.reduceBEq, Nat.reduceLT, Nat.reduceLeDiff, Nat.reduceAdd, Nat.reduceMul, ↓reduceIte, Int.reduceToNat, Int.reducePow, Int.reduceLT, Int.reduceLE, Int.reduceAdd, Int.reduceSub, Int.reduceMul, Int.reduceEq, Int.reduceNe, AllH]
  · rintro n ⟨hn, hat⟩
    have hk : AllH (keepH [(b2, .box 59 [i64 m, slG G])]) [(b2, .box 59 [i64 m, slG G])] := keepH_all (by simp [keys])
    have k2 := hk.1
    by_cases h0 : n = 0
    · subst h0
      rw [List.take_zero] at hat
      rw [hat]
      simp -implicitDefEqProofs -proj only [go_sem, Nat.reduceBEq, Nat.reduceLT, Nat.reduceLeDiff, Nat.reduceAdd, Nat.reduceMul, ↓reduceIte, Int.reduceToNat, Int.reducePow, Int.reduceLT, Int.reduceLE, Int.reduceAdd, Int.reduceSub, Int.reduceMul, Int.reduceEq, Int.reduceNe, k2, decide_eq_false (show ¬ (0 : Int) ≤ 0 - 1 by omega), decide_eq_true (show (0 : Int) - 1 < 0 by omega)]
      exact LendV_eq rfl
    · obtain ⟨j, rfl⟩ : ∃ j, n = j + 1 := ⟨n - 1, by omega⟩
      have hj : j < G.length := by omega
      have hel := rowG_at hj
      have hgok := hG _ (List.getElem_mem hj)
      have hts : G.take (j + 1) = G.take j ++ [G[j]] := List.take_succ_eq_append_getElem hj
      rw [hts, atG_snoc] at hat
      generalize G[j] = g at *
      have e1 : (((j + 1 : Nat) : Int)) - 1 = j := by omega
      have w1 : IntKind.i64.wrap ((j : Int) - 1) = (j : Int) - 1 := by rw [IntKind.wrap_i64]; omega
      simp -implicitDefEqProofs -proj only [go_sem, Nat.reduceBEq, Nat.reduceLT, Nat.reduceLeDiff, Nat.reduceAdd, Nat.reduceMul, ↓reduceIte, Int.reduceToNat, Int.reducePow, Int.reduceLT, Int.reduceLE, Int.reduceAdd, Int.reduceSub, Int.reduceMul, Int.reduceEq, Int.reduceNe, k2, e1, decide_eq_true (show (0 : Int) ≤ j by omega)]
      refine ElemA_at _ (by omega) hel ?_
      by_cases hf : q < g.f
      · rw [if_neg (by omega)] at hat
        simp -implicitDefEqProofs -proj only [go_sem, Nat.reduceBEq, Nat.reduceLT, Nat.reduceLeDiff, Nat.reduceAdd, Nat.reduceMul, ↓reduceIte, Int.reduceToNat, Int.reducePow, Int.reduceLT, Int.reduceLE, Int.reduceAdd, Int.reduceSub, Int.reduceMul, Int.reduceEq, Int.reduceNe, decide_eq_true hf, w1]
        refine LoopQ_k j ⟨by omega, hat⟩ (by omega) rfl ?_ hk
        simp -implicitDefEqProofs -proj only [go_sem, Nat.reduceBEq, Nat.reduceLT, Nat.reduceLeDiff, Nat.reduceAdd, Nat.reduceMul, ↓reduceIte, Int.reduceToNat, Int.reducePow, Int.reduceLT, Int.reduceLE, Int.reduceAdd, Int.reduceSub, Int.reduceMul, Int.reduceEq, Int.reduceNe, AllAt]
      · rw [if_pos (by omega)] at hat
        rw [hat]
        simp -implicitDefEqProofs -proj only [go_sem, Nat.reduceBEq, Nat.reduceLT, Nat.reduceLeDiff, Nat.reduceAdd, Nat.reduceMul, ↓reduceIte, Int.reduceToNat, Int.reducePow, Int.reduceLT, Int.reduceLE, Int.reduceAdd, Int.reduceSub, Int.reduceMul, Int.reduceEq, Int.reduceNe, k2, decide_eq_false hf, decide_eq_false (show ¬ (j : Int) < 0 by omega)]
        refine ElemA_at _ (by omega) hel ?_
        simp -implicitDefEqProofs -proj only [go_sem, Nat.reduceBEq, Nat.reduceLT, Nat.reduceLeDiff, Nat.reduceAdd, Nat.reduceMul, ↓reduceIte, Int.reduceToNat, Int.reducePow, Int.reduceLT, Int.reduceLE, Int.reduceAdd, Int.reduceSub, Int.reduceMul, Int.reduceEq, Int.reduceNe]
        refine AllocA_intro (fun b7 hb7 => ?_)
        unfold valG
        by_cases hw : g.w < 1
        · rw [if_pos hw]
          simp -implicitDefEqProofs -proj only [go_sem, Nat.reduceBEq, Nat.reduceLT, Nat.reduceLeDiff, Nat.reduceAdd, Nat.reduceMul, ↓reduceIte, Int.reduceToNat, Int.reducePow, Int.reduceLT, Int.reduceLE, Int.reduceAdd, Int.reduceSub, Int.reduceMul, Int.reduceEq, Int.reduceNe, decide_eq_true hw]
          exact LendV_eq rfl
        · rw [if_neg hw]
          obtain ⟨q1, q2⟩ := quo_bound (q := q) hgok hw (by omega)
          have gf := hgok.f
          have gw := hgok.w
          have gc := hgok.c
          have gv := hgok.v
          have gr := hgok.r (min ((q - g.f).tdiv g.w) (g.c - 1)) (by omega) (by omega)
          unfold Fit at hq
          have w2 : IntKind.i64.wrap (q - g.f) = q - g.f := by rw [IntKind.wrap_i64]; omega
          have w3 : IntKind.i64.wrap (g.c - 1) = g.c - 1 := by rw [IntKind.wrap_i64]; omega
          have w4 : IntKind.i64.wrap ((q - g.f).tdiv g.w) = (q - g.f).tdiv g.w := by rw [IntKind.wrap_i64]; omega
          have w5 : IntKind.i64.wrap (min ((q - g.f).tdiv g.w) (g.c - 1) * g.r) = min ((q - g.f).tdiv g.w) (g.c - 1) * g.r := by rw [IntKind.wrap_i64]; omega
          have w6 : IntKind.i64.wrap (g.v + min ((q - g.f).tdiv g.w) (g.c - 1) * g.r) = g.v + min ((q - g.f).tdiv g.w) (g.c - 1) * g.r := by rw [IntKind.wrap_i64]; omega
          simp -implicitDefEqProofs -proj only [go_sem, Nat.reduceBEq, Nat.reduceLT, Nat.reduceLeDiff, Nat.reduceAdd, Nat.reduceMul, ↓reduceIte, Int.reduceToNat, Int.reducePow, Int.reduceLT, Int.reduceLE, Int.reduceAdd, Int.reduceSub, Int.reduceMul, Int.reduceEq, Int.reduceNe, decide_eq_false hw, w2, w3, w4, w5, w6]
          refine VC_intro (by omega) (fun _ => ?_)
          exact LendV_eq rfl
theorem grp_dec (p q : Grp) : (decide (p.f = q.f) && (decide (p.v = q.v) && (decide (p.w = q.w) && (decide (p.r = q.r) && decide (p.c = q.c))))) = decide (p = q) := by
  obtain ⟨a, b, c, d, e⟩ := p
  obtain ⟨a', b', c', d', e'⟩ := q
  simp -implicitDefEqProofs only [Grp.mk.injEq]
  rw [← Bool.decide_and, ← Bool.decide_and, ← Bool.decide_and, ← Bool.decide_and]
theorem RSame_ok {m n : Int} {a b : List Grp} (ha : a.length ≤ 1000000) (hb : b.length ≤ 1000000) : DataW Try.prog f_poundageref15_Same [curveV m a, curveV n b] (bv (decide (m = n ∧ a = b))) := by
  refine CallW_intro comp_poundageref15_Same (by simp) ?_
  simp -implicitDefEqProofs -proj only [go_sem, Nat.reduceBEq, Nat.reduceLT, Nat.reduceLeDiff, Nat.reduceAdd, Nat.reduceMul, ↓reduceIte, Int.reduceToNat, Int.reducePow, Int.reduceLT, Int.reduceLE, Int.reduceAdd, Int.reduceSub, Int.reduceMul, Int.reduceEq, Int.reduceNe]
  refine AllocA_intro (fun b2 hb2 => ?_)
  simp -implicitDefEqProofs -proj only [go_sem, Nat.reduceBEq, Nat.reduceLT, Nat.reduceLeDiff, Nat.reduceAdd, Nat.reduceMul, ↓reduceIte, Int.reduceToNat, Int.reducePow, Int.reduceLT, Int.reduceLE, Int.reduceAdd, Int.reduceSub, Int.reduceMul, Int.reduceEq, Int.reduceNe]
  refine AllocA_intro (fun b3 hb3 => ?_)
  replace hb3 : upd Heap.none b2 _ b3 = none := hb3
  obtain ⟨n1, n2⟩ := fresh_ne hb3 upd_eq
  by_cases hm : m = n
  rotate_left
  · simp -implicitDefEqProofs -proj only [go_sem, Nat.reduceBEq, Nat.reduceLT, Nat.reduceLeDiff, Nat.reduceAdd, Nat.reduceMul, ↓reduceIte, Int.reduceToNat, Int.reducePow, Int.reduceLT, Int.reduceLE, Int.reduceAdd, Int.reduceSub, Int.reduceMul, Int.reduceEq, Int.reduceNe, n1, n2, decide_eq_false hm]
    exact LendV_eq (by rw [decide_eq_false (fun e => hm e.1)])
  by_cases hl : a.length = b.length
  rotate_left
  · simp -implicitDefEqProofs -proj only [go_sem, Nat.reduceBEq, Nat.reduceLT, Nat.reduceLeDiff, Nat.reduceAdd, Nat.reduceMul, ↓reduceIte, Int.reduceToNat, Int.reducePow, Int.reduceLT, Int.reduceLE, Int.reduceAdd, Int.reduceSub, Int.reduceMul, Int.reduceEq, Int.reduceNe, n1, n2, decide_eq_true hm, rowG_len, decide_eq_false (show ¬ (a.length : Int) = b.length by omega)]
    exact LendV_eq (by rw [decide_eq_false (fun e => hl (by rw [e.2]))])
  simp -implicitDefEqProofs -proj only [go_sem, Nat.reduceBEq, Nat.reduceLT, Nat.reduceLeDiff, Nat.reduceAdd, Nat.reduceMul, ↓reduceIte, Int.reduceToNat, Int.reducePow, Int.reduceLT, Int.reduceLE, Int.reduceAdd, Int.reduceSub, Int.reduceMul, Int.reduceEq, Int.reduceNe, n1, n2, decide_eq_true hm, rowG_len, decide_eq_true (show (a.length : Int) = b.length by omega)]
  refine LoopA_k (fun i : Nat => i ≤ a.length ∧ ∀ (j : Nat) (h : j < a.length) (h' : j < b.length), j < i → a[j] = b[j]) 38 (fun i => [(2, .ptr b2 0), (3, .ptr b3 0), (22, i64 a.length), (23, i64 i)]) (fun _ => [(b3, .box 59 [i64 n, slG b]), (b2, .box 59 [i64 m, slG a])]) (fun i => a.length - i) 0 ⟨Nat.zero_le _, fun j _ _ h => absurd h (Nat.not_lt_zero _)⟩ rfl ?_ ?_ ?_
  · simp -implicitDefEqProofs -proj only [go_sem, Nat.reduceBEq, Nat.reduceLT, Nat.reduceLeDiff, Nat.reduceAdd, Nat.reduceMul, ↓reduceIte, Int.reduceToNat, Int.reducePow, Int.reduceLT, Int.reduceLE, Int.reduceAdd, Int.reduceSub, Int.reduceMul, Int.reduceEq, Int.reduceNe, AllAt, rowG_len]
  · simp -implicitDefEqProofs -proj only [go_sem, Nat.reduceBEq, Nat.reduceLT, Nat.reduceLeDiff, Nat.reduceAdd, Nat.reduceMul, ↓reduceIte, Int.reduceToNat, Int.reducePow, Int.reduceLT, Int.reduceLE, Int.reduceAdd, Int.reduceSub, Int.reduceMul, Int.reduceEq, Int.reduceNe, AllH, n1, n2]
  · rintro i ⟨hi, hs⟩
    have hk : AllH (keepH [(b3, .box 59 [i64 n, slG b]), (b2, .box 59 [i64 m, slG a])]) [(b3, .box 59 [i64 n, slG b]), (b2, .box 59 [i64 m, slG a])] := keepH_all (by simp [keys, n1])
    obtain ⟨k3, k2, _⟩ := id hk
    by_cases h : i < a.length
    · have h' : i < b.length := by omega
      have e1 := rowG_at h
      have e2 := rowG_at h'
      have hd := grp_dec a[i] b[i]
      have hgo : a[i] = b[i] → ∀ (j : Nat) (h : j < a.length) (h' : j < b.length), j < i + 1 → a[j] = b[j] := by
        intro e j h1 h2 h3
        by_cases hj : j = i
        · subst hj; exact e
        · exact hs j h1 h2 (by omega)
      have hno : a[i] ≠ b[i] → a ≠ b := fun hne e => hne (by subst e; rfl)
      generalize a[i] = p at *
      generalize b[i] = q at *
      simp -implicitDefEqProofs -proj only [go_sem, Nat.reduceBEq, Nat.reduceLT, Nat.reduceLeDiff, Nat.reduceAdd, Nat.reduceMul, ↓reduceIte, Int.reduceToNat, Int.reducePow, Int.reduceLT, Int.reduceLE, Int.reduceAdd, Int.reduceSub, Int.reduceMul, Int.reduceEq, Int.reduceNe, k3, k2, n2, decide_eq_true (show (i : Int) < a.length by omega)]
      refine ElemA_at _ (by omega) e1 ?_
      simp -implicitDefEqProofs -proj only [go_sem, Nat.reduceBEq, Nat.reduceLT, Nat.reduceLeDiff, Nat.reduceAdd, Nat.reduceMul, ↓reduceIte, Int.reduceToNat, Int.reducePow, Int.reduceLT, Int.reduceLE, Int.reduceAdd, Int.reduceSub, Int.reduceMul, Int.reduceEq, Int.reduceNe, k3, k2, n1, n2]
      refine ElemA_at _ (by omega) e2 ?_
      by_cases hpq : p = q
      · rw [decide_eq_true hpq] at hd
        simp -implicitDefEqProofs -proj only [go_sem, Nat.reduceBEq, Nat.reduceLT, Nat.reduceLeDiff, Nat.reduceAdd, Nat.reduceMul, ↓reduceIte, Int.reduceToNat, Int.reducePow, Int.reduceLT, Int.reduceLE, Int.reduceAdd, Int.reduceSub, Int.reduceMul, Int.reduceEq, Int.reduceNe, hd]
        (repeat' first
    | (with_reducible refine Guard_split (fun h => ?_) (fun h => ?_) <;> (simp -implicitDefEqProofs -proj only [go_sem, Nat.reduceBEq, Nat.reduceLT, Nat.reduceLeDiff, Nat.reduceAdd, Nat.reduceMul, ↓reduceIte, Int.reduceToNat, Int.reducePow, Int.reduceLT, Int.reduceLE, Int.reduceAdd, Int.reduceSub, Int.reduceMul, Int.reduceEq, Int.reduceNe, h, hd]; try (revert h; intro _)))
    | (with_reducible refine Cond_split (fun h => ?_) (fun h => ?_) <;> (simp -implicitDefEqProofs -proj only [go_sem, Nat.reduceBEq, Nat.reduceLT, Nat.reduceLeDiff, Nat.reduceAdd, Nat.reduceMul, ↓reduceIte, Int.reduceToNat, Int.reducePow, Int.reduceLT, Int.reduceLE, Int.reduceAdd, Int.reduceSub, Int.reduceMul, Int.reduceEq, Int.reduceNe, h, hd]; try (revert h; intro _)))
    | (with_reducible refine Pick_split (fun h => ?_) (fun h => ?_) <;> (simp -implicitDefEqProofs -proj only [go_sem, Nat.reduceBEq, Nat.reduceLT, Nat.reduceLeDiff, Nat.reduceAdd, Nat.reduceMul, ↓reduceIte, Int.reduceToNat, Int.reducePow, Int.reduceLT, Int.reduceLE, Int.reduceAdd, Int.reduceSub, Int.reduceMul, Int.reduceEq, Int.reduceNe, h, hd]; try (revert h; intro _)))
    | (with_reducible refine AllocA_intro (fun _ hb => ?_); simp -implicitDefEqProofs only [upd_none, keepH_none, keepH_nil, Heap.none_get, and_true, true_and] at hb; simp -implicitDefEqProofs -proj only [go_sem, Nat.reduceBEq, Nat.reduceLT, Nat.reduceLeDiff, Nat.reduceAdd, Nat.reduceMul, ↓reduceIte, Int.reduceToNat, Int.reducePow, Int.reduceLT, Int.reduceLE, Int.reduceAdd, Int.reduceSub, Int.reduceMul, Int.reduceEq, Int.reduceNe, hd]; try (revert hb; intro _))
    | (with_reducible refine AllocR_intro (fun _ hb => ?_); simp -implicitDefEqProofs only [upd_none, keepH_none, keepH_nil, Heap.none_get, and_true, true_and] at hb; simp -implicitDefEqProofs -proj only [go_sem, Nat.reduceBEq, Nat.reduceLT, Nat.reduceLeDiff, Nat.reduceAdd, Nat.reduceMul, ↓reduceIte, Int.reduceToNat, Int.reducePow, Int.reduceLT, Int.reduceLE, Int.reduceAdd, Int.reduceSub, Int.reduceMul, Int.reduceEq, Int.reduceNe, hd]; try (revert hb; intro _))
    | (with_reducible refine IdxE_1 _ rfl (by simp) ?_; simp -implicitDefEqProofs -proj only [go_sem, Nat.reduceBEq, Nat.reduceLT, Nat.reduceLeDiff, Nat.reduceAdd, Nat.reduceMul, ↓reduceIte, Int.reduceToNat, Int.reducePow, Int.reduceLT, Int.reduceLE, Int.reduceAdd, Int.reduceSub, Int.reduceMul, Int.reduceEq, Int.reduceNe, hd])
    | (with_reducible refine IdxE_n _ rfl (by simp) ?_; simp -implicitDefEqProofs -proj only [go_sem, Nat.reduceBEq, Nat.reduceLT, Nat.reduceLeDiff, Nat.reduceAdd, Nat.reduceMul, ↓reduceIte, Int.reduceToNat, Int.reducePow, Int.reduceLT, Int.reduceLE, Int.reduceAdd, Int.reduceSub, Int.reduceMul, Int.reduceEq, Int.reduceNe, hd])
    | (with_reducible refine VC_intro ?_ (fun h => ?_); (focus first | decide | omega); try clear h; try simp -implicitDefEqProofs -proj only [go_sem, Nat.reduceBEq, Nat.reduceLT, Nat.reduceLeDiff, Nat.reduceAdd, Nat.reduceMul, ↓reduceIte, Int.reduceToNat, Int.reducePow, Int.reduceLT, Int.reduceLE, Int.reduceAdd, Int.reduceSub, Int.reduceMul, Int.reduceEq, Int.reduceNe, hd])
    | (with_reducible refine VC_intro ?_ (fun h => ?_); rotate_left; try clear h; try simp -implicitDefEqProofs -proj only [go_sem, Nat.reduceBEq, Nat.reduceLT, Nat.reduceLeDiff, Nat.reduceAdd, Nat.reduceMul, ↓reduceIte, Int.reduceToNat, Int.reducePow, Int.reduceLT, Int.reduceLE, Int.reduceAdd, Int.reduceSub, Int.reduceMul, Int.reduceEq, Int.reduceNe, hd]; rotate_right))
        refine LoopQ_k (i + 1) ⟨by omega, hgo hpq⟩ (by omega) rfl ?_ hk
        simp -implicitDefEqProofs -proj only [go_sem, Nat.reduceBEq, Nat.reduceLT, Nat.reduceLeDiff, Nat.reduceAdd, Nat.reduceMul, ↓reduceIte, Int.reduceToNat, Int.reducePow, Int.reduceLT, Int.reduceLE, Int.reduceAdd, Int.reduceSub, Int.reduceMul, Int.reduceEq, Int.reduceNe, AllAt, i64_succ (show i < 9223372036854775807 by omega)]
      · rw [decide_eq_false hpq] at hd
        simp -implicitDefEqProofs -proj only [go_sem, Nat.reduceBEq, Nat.reduceLT, Nat.reduceLeDiff, Nat.reduceAdd, Nat.reduceMul, ↓reduceIte, Int.reduceToNat, Int.reducePow, Int.reduceLT, Int.reduceLE, Int.reduceAdd, Int.reduceSub, Int.reduceMul, Int.reduceEq, Int.reduceNe, hd]
        (repeat' first
    | (with_reducible refine Guard_split (fun h => ?_) (fun h => ?_) <;> (simp -implicitDefEqProofs -proj only [go_sem, Nat.reduceBEq, Nat.reduceLT, Nat.reduceLeDiff, Nat.reduceAdd, Nat.reduceMul, ↓reduceIte, Int.reduceToNat, Int.reducePow, Int.reduceLT, Int.reduceLE, Int.reduceAdd, Int.reduceSub, Int.reduceMul, Int.reduceEq, Int.reduceNe, h, hd]; try (revert h; intro _)))
    | (with_reducible refine Cond_split (fun h => ?_) (fun h => ?_) <;> (simp -implicitDefEqProofs -proj only [go_sem, Nat.reduceBEq, Nat.reduceLT, Nat.reduceLeDiff, Nat.reduceAdd, Nat.reduceMul, ↓reduceIte, Int.reduceToNat, Int.reducePow, Int.reduceLT, Int.reduceLE, Int.reduceAdd, Int.reduceSub, Int.reduceMul, Int.reduceEq, Int.reduceNe, h, hd]; try (revert h; intro _)))
    | (with_reducible refine Pick_split (fun h => ?_) (fun h => ?_) <;> (simp -implicitDefEqProofs -proj only [go_sem, Nat.reduceBEq, Nat.reduceLT, Nat.reduceLeDiff, Nat.reduceAdd, Nat.reduceMul, ↓reduceIte, Int.reduceToNat, Int.reducePow, Int.reduceLT, Int.reduceLE, Int.reduceAdd, Int.reduceSub, Int.reduceMul, Int.reduceEq, Int.reduceNe, h, hd]; try (revert h; intro _)))
    | (with_reducible refine AllocA_intro (fun _ hb => ?_); simp -implicitDefEqProofs only [upd_none, keepH_none, keepH_nil, Heap.none_get, and_true, true_and] at hb; simp -implicitDefEqProofs -proj only [go_sem, Nat.reduceBEq, Nat.reduceLT, Nat.reduceLeDiff, Nat.reduceAdd, Nat.reduceMul, ↓reduceIte, Int.reduceToNat, Int.reducePow, Int.reduceLT, Int.reduceLE, Int.reduceAdd, Int.reduceSub, Int.reduceMul, Int.reduceEq, Int.reduceNe, hd]; try (revert hb; intro _))
    | (with_reducible refine AllocR_intro (fun _ hb => ?_); simp -implicitDefEqProofs only [upd_none, keepH_none, keepH_nil, Heap.none_get, and_true, true_and] at hb; simp -implicitDefEqProofs -proj only [go_sem, Nat.reduceBEq, Nat.reduceLT, Nat.reduceLeDiff, Nat.reduceAdd, Nat.reduceMul, ↓reduceIte, Int.reduceToNat, Int.reducePow, Int.reduceLT, Int.reduceLE, Int.reduceAdd, Int.reduceSub, Int.reduceMul, Int.reduceEq, Int.reduceNe, hd]; try (revert hb; intro _))
    | (with_reducible refine IdxE_1 _ rfl (by simp) ?_; simp -implicitDefEqProofs -proj only [go_sem, Nat.reduceBEq, Nat.reduceLT, Nat.reduceLeDiff, Nat.reduceAdd, Nat.reduceMul, ↓reduceIte, Int.reduceToNat, Int.reducePow, Int.reduceLT, Int.reduceLE, Int.reduceAdd, Int.reduceSub, Int.reduceMul, Int.reduceEq, Int.reduceNe, hd])
    | (with_reducible refine IdxE_n _ rfl (by simp) ?_; simp -implicitDefEqProofs -proj only [go_sem, Nat.reduceBEq, Nat.reduceLT, Nat.reduceLeDiff, Nat.reduceAdd, Nat.reduceMul, ↓reduceIte, Int.reduceToNat, Int.reducePow, Int.reduceLT, Int.reduceLE, Int.reduceAdd, Int.reduceSub, Int.reduceMul, Int.reduceEq, Int.reduceNe, hd])
    | (with_reducible refine VC_intro ?_ (fun h => ?_); (focus first | decide | omega); try clear h; try simp -implicitDefEqProofs -proj only [go_sem, Nat.reduceBEq, Nat.reduceLT, Nat.reduceLeDiff, Nat.reduceAdd, Nat.reduceMul, ↓reduceIte, Int.reduceToNat, Int.reducePow, Int.reduceLT, Int.reduceLE, Int.reduceAdd, Int.reduceSub, Int.reduceMul, Int.reduceEq, Int.reduceNe, hd])
    | (with_reducible refine VC_intro ?_ (fun h => ?_); rotate_left; try clear h; try simp -implicitDefEqProofs -proj only [go_sem, Nat.reduceBEq, Nat.reduceLT, Nat.reduceLeDiff, Nat.reduceAdd, Nat.reduceMul, ↓reduceIte, Int.reduceToNat, Int.reducePow, Int.reduceLT, Int.reduceLE, Int.reduceAdd, Int.reduceSub, Int.reduceMul, Int.reduceEq, Int.reduceNe, hd]; rotate_right))
        exact LendV_eq (by rw [decide_eq_false (fun e => hno hpq e.2)])
    · have hi' : i = a.length := by omega
      subst hi'
      have heq : a = b := List.ext_getElem hl fun j h1 h2 => hs j h1 h2 h1
      simp -implicitDefEqProofs -proj only [go_sem, Nat.reduceBEq, Nat.reduceLT, Nat.reduceLeDiff, Nat.reduceAdd, Nat.reduceMul, ↓reduceIte, Int.reduceToNat, Int.reducePow, Int.reduceLT, Int.reduceLE, Int.reduceAdd, Int.reduceSub, Int.reduceMul, Int.reduceEq, Int.reduceNe, decide_eq_false (show ¬ (a.length : Int) < a.length by omega)]
      exact LendV_eq (by rw [decide_eq_true ⟨hm, heq⟩])
theorem FwdOK.mem_val {val : Int → Int} {hi : Int} : ∀ {R : List Run} {lo : Int}, FwdOK val lo hi R → ∀ r ∈ R, lo ≤ r.f ∧ r.f ≤ r.t ∧ r.t < hi ∧ val r.f = r.v
  | a :: R, lo, ⟨g1, g2, g3, g4, g5⟩, r, hr => by
    have hle := g5.le
    rcases List.mem_cons.1 hr with rfl | hr
    · exact ⟨by omega, g2, by omega, g3 _ (by omega) g2⟩
    · obtain ⟨h1, h2, h3, h4⟩ := FwdOK.mem_val g5 r hr
      exact ⟨by omega, h2, h3, h4⟩
theorem FwdOK.val_mem {val : Int → Int} {lo hi : Int} {R : List Run} (h : FwdOK val lo hi R) {x : Int} (h1 : lo ≤ x) (h2 : x < hi) : ∃ r ∈ R, r.v = val x := by
  obtain ⟨m, k1, k2, k3⟩ := FwdOK.drop R.length h (Nat.le_refl _)
  rw [List.drop_length] at k1
  have : m = hi := k1
  obtain ⟨j, j1, j2, j3, j4, j5, j6⟩ := k3 x h1 (by omega)
  exact ⟨_, List.getElem_mem j1, j5.symm⟩
def smallV (v : Int) : Prop := -2305843009213693952 ≤ v ∧ v ≤ 2305843009213693952
instance (v : Int) : Decidable (smallV v) := by unfold smallV; exact inferInstance
theorem valL_get {f : Int} {l : List Int} {i : Nat} (h : i < l.length) : valL f l (f + (i : Int)) = l[i] := by
  unfold valL
  rw [show (f + (i : Int) - f).toNat = i by omega]
  simp [h]
theorem runs_nil {f : Int} {l : List Int} : runs f l = [] ↔ l = [] := by
  constructor
  · intro h
    have := runs_fwd f l
    rw [h] at this
    have e : f = f + l.length := this
    exact List.length_eq_zero_iff.1 (by omega)
  · rintro rfl; rfl
theorem runs_ends {f : Int} {l : List Int} (h : runs f l ≠ []) : ((runs f l).head h).f = f ∧ ((runs f l).getLast h).t = f + l.length - 1 := (runs_fwd f l).ends h
theorem okOf_runs {f : Int} {l : List Int} : okOf (runs f l) ↔ l ≠ [] ∧ f = 0 ∧ f + l.length - 1 ≤ 2000 ∧ ∀ v ∈ l, smallV v := by
  have hF := runs_fwd f l
  constructor
  · rintro ⟨h, h1, h2, h3⟩
    obtain ⟨e1, e2⟩ := runs_ends h
    refine ⟨fun e => h (runs_nil.2 e), by omega, by omega, fun v hv => ?_⟩
    obtain ⟨i, hi, rfl⟩ := List.getElem_of_mem hv
    obtain ⟨r, hr, hrv⟩ := hF.val_mem (x := f + i) (by omega) (by omega)
    rw [valL_get hi] at hrv
    have := h3 r hr
    unfold bigV at this
    unfold smallV
    omega
  · rintro ⟨h, h1, h2, h3⟩
    have hne : runs f l ≠ [] := fun e => h (runs_nil.1 e)
    obtain ⟨e1, e2⟩ := runs_ends hne
    refine ⟨hne, by omega, by omega, fun r hr => ?_⟩
    obtain ⟨g1, g2, g3, g4⟩ := hF.mem_val r hr
    have : r.v ∈ l := by
      rw [← g4]
      have hi : (r.f - f).toNat < l.length := by omega
      have := valL_get (f := f) hi
      rw [show f + (((r.f - f).toNat : Nat) : Int) = r.f by omega] at this
      rw [this]
      exact List.getElem_mem hi
    have := h3 _ this
    unfold smallV at this
    unfold bigV
    omega
theorem runs_small {l : List Int} (h : okOf (runs 0 l)) : (∀ r ∈ runs 0 l, RunOK r) ∧ (runs 0 l).length ≤ 3000 := by
  obtain ⟨h1, h2, h3, h4⟩ := okOf_runs.1 h
  have hF := runs_fwd 0 l
  refine ⟨fun r hr => ?_, ?_⟩
  · obtain ⟨g1, g2, g3, g4⟩ := hF.mem_val r hr
    obtain ⟨_, _, _, hb⟩ := h
    have := hb r hr
    unfold bigV at this
    exact ⟨by omega, by omega⟩
  · have := runsN_len (from' := 0) (l := l) l.length
    show (runsN 0 l l.length).length ≤ 3000
    omega
/-- A list that has a curve. -/
def CurL (l : List Int) : Prop := l ≠ [] ∧ l.length ≤ 2001 ∧ ∀ v ∈ l, smallV v
noncomputable instance (l : List Int) : Decidable (CurL l) := Classical.propDecidable _
theorem curL_ok {l : List Int} : okOf (runs 0 l) ↔ CurL l := by
  rw [okOf_runs]
  constructor
  · rintro ⟨h1, h2, h3, h4⟩; exact ⟨h1, by omega, h4⟩
  · rintro ⟨h1, h2, h3⟩; exact ⟨h1, rfl, by omega, h3⟩
abbrev gps (l : List Int) : List Grp := groups (runs 0 l)
theorem gps_at {l : List Int} {i : Nat} (h : i < l.length) : atG (gps l) i = some l[i] := by
  have := (atG_groups _ (Nat.le_refl _) (runs_fwd 0 l) (i : Int)).2 (by omega) (by omega)
  rw [← valL_get (f := 0) h, Int.zero_add]
  exact this
theorem gps_ok {l : List Int} (h : CurL l) : ∀ g ∈ gps l, GrpOK g := by
  obtain ⟨h1, h2⟩ := runs_small (curL_ok.2 h)
  exact groups_ok _ (Nat.le_refl _) (runs_fwd 0 l) h1 h2
theorem gps_len {l : List Int} : (gps l).length ≤ l.length := Nat.le_trans (groups_len (Nat.le_refl _)) (runsN_len l.length)
/-- The curve of a list. -/
abbrev curL (l : List Int) : AV := curveV ((l.length : Int) - 1) (gps l)
theorem dayL_len {c : CoreX} {d : Int} {m : Nat} {mx : Int} : (dayL c d m mx).length = (mx + 1).toNat := by simp [dayL]
theorem dayL_at {c : CoreX} {d : Int} {m : Nat} {mx : Int} {q : Nat} (h : q < (mx + 1).toNat) : (dayL c d m mx)[q]'(by rw [dayL_len]; exact h) = dayQ c d m q := by simp [dayL]
theorem dayLs_len {c : CoreX} {d : Int} {k : Nat} : (dayLs c d k).length = k := by simp [dayLs]
theorem dayLs_at {c : CoreX} {d : Int} {k m : Nat} (h : m < k) (hm : m < c.ms.length) : (dayLs c d k)[m]'(by rw [dayLs_len]; exact h) = dayL c d m c.ms[m].mx := by
  simp [dayLs, hm]
theorem dayLs_snoc {c : CoreX} {d : Int} {k : Nat} (hm : k < c.ms.length) : dayLs c d (k + 1) = dayLs c d k ++ [dayL c d k c.ms[k].mx] := by
  simp [dayLs, List.range_succ, hm]
theorem dayL_cur {c : CoreX} (h : fitsC c) (d : Int) {m : Nat} (hm : m < c.ms.length) : CurL (dayL c d m c.ms[m].mx) := by
  have hb := (fitsC.bnd h.good).mx m hm
  refine ⟨fun e => ?_, by rw [dayL_len]; omega, fun v hv => ?_⟩
  · have := congrArg List.length e
    rw [dayL_len] at this
    simp at this
    omega
  · obtain ⟨q, hq, rfl⟩ := List.mem_map.1 hv
    have hq := List.mem_range.1 hq
    have := rise_bnd h d hm (q := q) (by omega) (by omega) (Nat.le_refl c.ps.length)
    unfold smallV dayQ
    omega
theorem dayLs_cur {c : CoreX} (h : fitsC c) (d : Int) : ∀ l ∈ dayLs c d c.ms.length, CurL l := by
  intro l hl
  obtain ⟨i, hi, rfl⟩ := List.getElem_of_mem hl
  rw [dayLs_len] at hi
  rw [dayLs_at hi hi]
  exact dayL_cur h d hi
theorem two_bit18 {i k : Nat} : (2 ^ i).testBit k = decide (k = i) := by
  rw [Nat.testBit_two_pow]
  exact decide_eq_decide.2 eq_comm
theorem two_bit8' {i k : Nat} : (256 * 2 ^ i).testBit k = decide (k = 8 + i) := by
  rw [show 256 * 2 ^ i = 2 ^ (8 + i) by rw [Nat.pow_add], two_bit18]
theorem setS_bit18 {ss : List SumX} {d : Int} {k : Nat} : ∀ {i : Nat}, i ≤ ss.length → ((setS ss d i).testBit k = true ↔ k < i ∧ ∃ s, ss[k]? = some s ∧ inW d s.f s.t)
  | 0, _ => by simp [setS]
  | i + 1, h => by
    have ih := setS_bit18 (ss := ss) (d := d) (k := k) (i := i) (by omega)
    rw [setS, Nat.testBit_or, Bool.or_eq_true, ih, List.getElem?_eq_getElem (show i < ss.length by omega)]
    simp -implicitDefEqProofs only []
    by_cases hd : ss[i].f ≤ d ∧ d ≤ ss[i].t
    · rw [if_pos hd, two_bit18, decide_eq_true_eq]
      constructor
      · rintro (⟨h1, h2⟩ | rfl)
        · exact ⟨by omega, h2⟩
        · exact ⟨by omega, _, List.getElem?_eq_getElem (by omega), hd⟩
      · rintro ⟨h1, h2⟩
        by_cases hk : k = i
        · exact .inr hk
        · exact .inl ⟨by omega, h2⟩
    · rw [if_neg hd]
      simp -implicitDefEqProofs only [Nat.zero_testBit, Bool.false_eq_true, or_false]
      constructor
      · rintro ⟨h1, h2⟩; exact ⟨by omega, h2⟩
      · rintro ⟨h1, s, h2, h3⟩
        refine ⟨?_, s, h2, h3⟩
        by_cases hk : k = i
        · subst hk
          rw [List.getElem?_eq_getElem (by omega)] at h2
          rw [← Option.some.inj h2] at h3
          exact absurd h3 hd
        · omega
theorem setP_bit18 {ss : List SumX} {ps : List PartX} {d : Int} {k : Nat} : ∀ {i : Nat}, i ≤ ps.length → ((setP ss ps d i).testBit k = true ↔ (setS ss d ss.length).testBit k = true ∨ 8 ≤ k ∧ k < 8 + i ∧ ∃ s, ps[k - 8]? = some s ∧ inW d s.f s.t)
  | 0, _ => by
    rw [setP]
    exact ⟨.inl, fun h => h.elim id (fun k => absurd k.2.1 (by omega))⟩
  | i + 1, h => by
    have ih := setP_bit18 (ss := ss) (ps := ps) (d := d) (k := k) (i := i) (by omega)
    rw [setP, Nat.testBit_or, Bool.or_eq_true, ih, List.getElem?_eq_getElem (show i < ps.length by omega)]
    simp -implicitDefEqProofs only []
    by_cases hd : ps[i].f ≤ d ∧ d ≤ ps[i].t
    · rw [if_pos hd, two_bit8', decide_eq_true_eq]
      constructor
      · rintro ((h1 | ⟨h1, h2, h3⟩) | rfl)
        · exact .inl h1
        · exact .inr ⟨h1, by omega, h3⟩
        · exact .inr ⟨by omega, by omega, _, by rw [show 8 + i - 8 = i by omega]; exact List.getElem?_eq_getElem (by omega), hd⟩
      · rintro (h1 | ⟨h1, h2, h3⟩)
        · exact .inl (.inl h1)
        · by_cases hk : k = 8 + i
          · exact .inr hk
          · exact .inl (.inr ⟨h1, by omega, h3⟩)
    · rw [if_neg hd]
      simp -implicitDefEqProofs only [Nat.zero_testBit, Bool.false_eq_true, or_false]
      constructor
      · rintro (h1 | ⟨h1, h2, h3⟩)
        · exact .inl h1
        · exact .inr ⟨h1, by omega, h3⟩
      · rintro (h1 | ⟨h1, h2, s, h3, h4⟩)
        · exact .inl h1
        · refine .inr ⟨h1, ?_, s, h3, h4⟩
          by_cases hk : k = 8 + i
          · subst hk
            rw [show 8 + i - 8 = i by omega, List.getElem?_eq_getElem (by omega)] at h3
            rw [← Option.some.inj h3] at h4
            exact absurd h4 hd
          · omega
theorem setC_sum {c : CoreX} {d : Int} {j : Nat} (h8 : c.ss.length ≤ 8) (hj : j < c.ss.length) : ((setC c d).testBit j = true ↔ inW d c.ss[j].f c.ss[j].t) := by
  unfold setC
  rw [setP_bit18 (Nat.le_refl _), setS_bit18 (Nat.le_refl _)]
  constructor
  · rintro (⟨_, s, h2, h3⟩ | ⟨h1, _⟩)
    · rw [List.getElem?_eq_getElem hj] at h2
      cases h2
      exact h3
    · omega
  · intro h
    exact .inl ⟨hj, _, List.getElem?_eq_getElem hj, h⟩
theorem setC_part {c : CoreX} {d : Int} {j : Nat} (h8 : c.ss.length ≤ 8) (hj : j < c.ps.length) : ((setC c d).testBit (8 + j) = true ↔ inW d c.ps[j].f c.ps[j].t) := by
  unfold setC
  rw [setP_bit18 (Nat.le_refl _), setS_bit18 (Nat.le_refl _), show 8 + j - 8 = j by omega, List.getElem?_eq_getElem hj]
  constructor
  · rintro (⟨h1, _⟩ | ⟨_, _, s, h2, h3⟩)
    · omega
    · cases h2; exact h3
  · intro h
    exact .inr ⟨by omega, by omega, _, rfl, h⟩
theorem dayV_same {c : CoreX} {d e : Int} (h8 : c.ss.length ≤ 8) (h : setC c d = setC c e) : dayV c d = dayV c e := by
  have h1 : ∀ (j : Nat) (hj : j < c.ss.length), inW d c.ss[j].f c.ss[j].t ↔ inW e c.ss[j].f c.ss[j].t := fun j hj => by rw [← setC_sum h8 hj, ← setC_sum h8 hj, h]
  have h2 : ∀ (j : Nat) (hj : j < c.ps.length), inW d c.ps[j].f c.ps[j].t ↔ inW e c.ps[j].f c.ps[j].t := fun j hj => by rw [← setC_part h8 hj, ← setC_part h8 hj, h]
  have e1 : fixS c d = fixS c e := sg_congr fun j hj => by
    unfold sumAt
    rw [List.getElem?_eq_getElem hj]
    simp -implicitDefEqProofs only [h1 j hj]
  have e2 : ∀ m, fixM c d m = fixM c e m := fun m => sg_congr fun j hj => by
    unfold baseAt
    rw [List.getElem?_eq_getElem hj]
    simp -implicitDefEqProofs only [h2 j hj]
  have e3 : ∀ m q, dayQ c d m q = dayQ c e m q := fun m q => sg_congr fun j hj => by
    unfold riseAt
    rw [List.getElem?_eq_getElem hj]
    simp -implicitDefEqProofs only [h2 j hj]
  unfold dayV dayF dayLs dayL
  simp -implicitDefEqProofs only [e1, e3, show fixM c d = fixM c e from funext e2]
theorem dayV_seg {c : CoreX} (h8 : c.ss.length ≤ 8) : ∀ d e, c.f ≤ d → d < c.t + 1 → c.f ≤ e → e < c.t + 1 → ((setC c d : Nat) : Int) = ((setC c e : Nat) : Int) → dayV c d = dayV c e :=
  fun d e _ _ _ _ h => dayV_same h8 (by omega)
def priceAt (ps : List PartX) (d : Int) (b : List Int) (j : Nat) : Int := match ps[j]? with
  | some x => if inW d x.f x.t then pv x (bq b x.me) else 0
  | none => 0
def costQ (c : CoreX) (d : Int) (b : List Int) : Int := fixS c d + sg (priceAt c.ps d b) c.ps.length
theorem dayQ_zero {c : CoreX} {d : Int} {m : Nat} : dayQ c d m 0 = 0 := by
  unfold dayQ
  have h : sg (riseAt c.ps d m 0) c.ps.length = sg (fun _ => 0) c.ps.length := sg_congr fun j _ => by
    unfold riseAt
    split
    · split
      · exact Int.sub_self _
      · rfl
    · rfl
  rw [h, sg_zero]
/-- What a basket costs is what the day's span says. -/
theorem cost_day {c : CoreX} (hme : ∀ x ∈ c.ps, 0 ≤ x.me ∧ x.me < (c.ms.length : Int)) (d : Int) (b : List Int) : costQ c d b = dayF c d + sg (fun m => dayQ c d m (bq b m)) c.ms.length := by
  unfold costQ dayF
  have h1 : sg (fun m => dayQ c d m (bq b m)) c.ms.length = sg (fun j => sg (fun m => riseAt c.ps d m (bq b m) j) c.ms.length) c.ps.length := by
    unfold dayQ
    exact sg_swap (g := fun m j => riseAt c.ps d m (bq b m) j) c.ps.length
  have h2 : sg (fixM c d) c.ms.length = sg (fun j => sg (fun m => baseAt c.ps d m j) c.ms.length) c.ps.length := by
    unfold fixM
    exact sg_swap (g := fun m j => baseAt c.ps d m j) c.ps.length
  have h3 : sg (priceAt c.ps d b) c.ps.length = sg (fun j => sg (fun m => baseAt c.ps d m j) c.ms.length + sg (fun m => riseAt c.ps d m (bq b m) j) c.ms.length) c.ps.length := by
    refine sg_congr fun j hj => ?_
    rw [← sg_add]
    unfold priceAt baseAt riseAt
    rw [List.getElem?_eq_getElem hj]
    simp -implicitDefEqProofs only []
    obtain ⟨k1, k2⟩ := hme _ (List.getElem_mem hj)
    generalize c.ps[j] = x at *
    by_cases hw : inW d x.f x.t
    · rw [if_pos hw]
      have : sg (fun m : Nat => (if x.me = (m : Int) ∧ inW d x.f x.t then pv x 0 else 0) + (if x.me = (m : Int) ∧ inW d x.f x.t then pv x (bq b m) - pv x 0 else 0)) c.ms.length = sg (fun m : Nat => if m = x.me.toNat then pv x (bq b x.me) else 0) c.ms.length := by
        refine sg_congr fun m hm => ?_
        by_cases e : x.me = (m : Int)
        · rw [if_pos ⟨e, hw⟩, if_pos ⟨e, hw⟩, if_pos (by omega), ← e]; omega
        · rw [if_neg (fun k => e k.1), if_neg (fun k => e k.1), if_neg (by omega)]; rfl
      rw [this, sg_one, if_pos (by omega)]
    · rw [if_neg hw]
      have h0 : sg (fun m : Nat => (if x.me = (m : Int) ∧ inW d x.f x.t then pv x 0 else 0) + (if x.me = (m : Int) ∧ inW d x.f x.t then pv x (bq b m) - pv x 0 else 0)) c.ms.length = sg (fun _ => 0) c.ms.length := sg_congr fun m hm => by
        rw [if_neg (fun k => hw k.2), if_neg (fun k => hw k.2)]; rfl
      rw [h0, sg_zero]
  rw [h3, sg_add, ← h1, ← h2]
  omega
theorem bq_rep {n : Nat} {m : Nat} : bq (List.replicate n 0) (m : Int) = 0 := by
  unfold bq
  rw [Int.toNat_natCast, List.getD_eq_getElem?_getD, List.getElem?_replicate]
  split <;> rfl
theorem cost_zero {c : CoreX} (hme : ∀ x ∈ c.ps, 0 ≤ x.me ∧ x.me < (c.ms.length : Int)) (d : Int) (n : Nat) : costQ c d (List.replicate n 0) = dayF c d := by
  rw [cost_day hme, show sg (fun m : Nat => dayQ c d m (bq (List.replicate n 0) m)) c.ms.length = sg (fun _ => 0) c.ms.length from sg_congr fun m _ => by rw [bq_rep, dayQ_zero], sg_zero]
  omega
theorem priceAt_bnd {c : CoreX} (hf : fitsC c) {d : Int} {b : List Int} (hb : basketOK c b) (j : Nat) : 0 ≤ priceAt c.ps d b j ∧ priceAt c.ps d b j ≤ bestAt c j := by
  have hp := bestAt_pos (c := c) j
  unfold bestAt at *
  unfold priceAt
  cases e : c.ps[j]? with
  | none => exact ⟨Int.le_refl _, Int.le_refl _⟩
  | some x =>
    have hx := List.mem_of_getElem? e
    rw [e] at hp
    simp -implicitDefEqProofs only [] at hp ⊢
    split
    · obtain ⟨m1, m2⟩ := (fitsC.bnd hf.good).me _ hx
      obtain ⟨hb1, hb2⟩ := hb
      have hm : x.me.toNat < c.ms.length := by omega
      have hq := hb2 x.me.toNat (by omega) hm
      have hbq : bq b x.me = b[x.me.toNat] := by unfold bq; rw [List.getD_eq_getElem?_getD, List.getElem?_eq_getElem (by omega), Option.getD_some]
      have hmx : mxAt c.ms x.me = c.ms[x.me.toNat].mx := by unfold mxAt; rw [List.getElem?_eq_getElem hm]
      obtain ⟨k1, k2, k3, k4⟩ := part_bnd hf hx (q := bq b x.me) (by omega) (by omega)
      omega
    · omega
theorem costQ_bnd {c : CoreX} (hf : fitsC c) {d : Int} {b : List Int} (hb : basketOK c b) : 0 ≤ costQ c d b ∧ costQ c d b ≤ 1152921504606846976 := by
  have h1 := hf.tot c.ps.length (Nat.le_refl _)
  have h2 := sg_nonneg (n := c.ps.length) fun j _ => (priceAt_bnd hf (d := d) hb j).1
  have h3 := sg_le (n := c.ps.length) fun j _ => (priceAt_bnd hf (d := d) hb j).2
  have h4 := sg_nonneg (n := c.ss.length) fun j _ => (sumAt_bnd hf.good d j).1
  have h5 := sg_le (n := c.ss.length) fun j _ => (sumAt_bnd hf.good d j).2
  unfold totN at h1
  unfold costQ fixS
  omega
def curEl (l : List Int) : List D := [.int .i64 ((l.length : Int) - 1), .sl 5 (rowG (gps l))]
def rowC (ls : List (List Int)) : List (List D) := ls.map curEl
abbrev slC (ls : List (List Int)) : AV := .d (.sl 2 (rowC ls))
theorem rowC_len {ls : List (List Int)} : (rowC ls).length = ls.length := List.length_map ..
theorem rowC_at {ls : List (List Int)} {i : Nat} (h : i < ls.length) : (rowC ls)[((i : Int)).toNat]? = some [.int .i64 ((ls[i].length : Int) - 1), .sl 5 (rowG (gps ls[i]))] := by
  rw [Int.toNat_natCast]; simp [rowC, h, curEl]
theorem rowC_snoc {ls : List (List Int)} {l : List Int} : rowC ls ++ [[.int .i64 ((l.length : Int) - 1), .sl 5 (rowG (gps l))]] = rowC (ls ++ [l]) := by simp [rowC, curEl]
def segEl (s : Seg DayV) : List D := [.int .i64 s.f, .int .i64 s.t, .int .i64 s.v.1, .sl 2 (rowC s.v.2)]
def rowX (S : List (Seg DayV)) : List (List D) := S.map segEl
abbrev segV (s : Seg DayV) : AV := .agg [i64 s.f, i64 s.t, i64 s.v.1, slC s.v.2]
abbrev slX (S : List (Seg DayV)) : AV := .d (.sl 4 (rowX S))
theorem rowX_len {S : List (Seg DayV)} : (rowX S).length = S.length := List.length_map ..
theorem rowX_at {S : List (Seg DayV)} {i : Nat} (h : i < S.length) : (rowX S)[((i : Int)).toNat]? = some [.int .i64 S[i].f, .int .i64 S[i].t, .int .i64 S[i].v.1, .sl 2 (rowC S[i].v.2)] := by
  rw [Int.toNat_natCast]; simp [rowX, h, segEl]
theorem rowX_nth {S : List (Seg DayV)} {i : Nat} {s : Seg DayV} (h : S[i]? = some s) : (rowX S)[i]? = some [.int .i64 s.f, .int .i64 s.t, .int .i64 s.v.1, .sl 2 (rowC s.v.2)] := by
  simp [rowX, h, segEl]
theorem rowX_last {A : List (Seg DayV)} {s : Seg DayV} {x : Int} : (rowX (A ++ [s])).set A.length [.int .i64 s.f, .int .i64 x, .int .i64 s.v.1, .sl 2 (rowC s.v.2)] = rowX (A ++ [⟨s.f, x, s.v⟩]) := by
  simp [rowX, segEl, List.set_append]
abbrev formV (cur : ByteArray) (f t : Int) (ms : List MeterX) (S : List (Seg DayV)) : AV := .agg [.d (.str cur), i64 f, i64 t, .d (.sl 5 (rowM ms)), slX S]
theorem lend_span {H : Heap} {f t x : Int} {v : AV} {ls : List (List Int)} (h : LendV H v (slC ls)) : LendV H (.agg [i64 f, i64 t, i64 x, v]) (.agg [i64 f, i64 t, i64 x, slC ls]) := by
  refine .agg _ _ rfl fun j u v e1 e2 => ?_
  match j with
  | 0 => cases e1; cases e2; exact .refl _
  | 1 => cases e1; cases e2; exact .refl _
  | 2 => cases e1; cases e2; exact .refl _
  | 3 => cases e1; cases e2; exact h
  | j + 4 => cases e1
theorem lend_form {H : Heap} {cur : ByteArray} {f t : Int} {v w : AV} {ms : List MeterX} {S : List (Seg DayV)} (h : LendV H v (.d (.sl 5 (rowM ms)))) (h2 : LendV H w (slX S)) : LendV H (.agg [.d (.str cur), i64 f, i64 t, v, w]) (formV cur f t ms S) := by
  refine .agg _ _ rfl fun j u v e1 e2 => ?_
  match j with
  | 0 => cases e1; cases e2; exact .refl _
  | 1 => cases e1; cases e2; exact .refl _
  | 2 => cases e1; cases e2; exact .refl _
  | 3 => cases e1; cases e2; exact h
  | 4 => cases e1; cases e2; exact h2
  | j + 5 => cases e1
/-- One list alone has these groups. -/
theorem gps_inj {a b : List Int} (hl : a.length = b.length) (h : gps a = gps b) : a = b := by
  refine List.ext_getElem hl fun i h1 h2 => ?_
  have e1 := gps_at h1
  have e2 := gps_at h2
  rw [h, e2] at e1
  exact (Option.some.inj e1).symm
theorem cur_eq {a b : List Int} : ((a.length : Int) - 1 = (b.length : Int) - 1 ∧ gps a = gps b) ↔ a = b :=
  ⟨fun h => gps_inj (by omega) h.2, fun h => by rw [h]; exact ⟨rfl, rfl⟩⟩
/-- A core's spans. -/
noncomputable def spansF (c : CoreX) : List (Seg DayV) := endSg (addNg (dayV c) ((holdsR c).map (·.f)) (holdsR c).length) c.t
theorem spans_fwd {c : CoreX} (hg : goodC c) : FwdB (dayV c) c.f (c.t + 1) (spansF c) := by
  obtain ⟨_, ⟨a3, _⟩, _, _, h8, _⟩ := hg.hd
  have := addNg_end (holds_fwd a3) (by omega) (dayV_seg h8)
  rwa [show c.t + 1 - 1 = c.t by omega] at this
/-- Where runs begin. -/
def startsN (l : List Int) (i : Nat) : List Int := (runsN 0 l i).map (·.f)
theorem starts_step {l : List Int} {i : Nat} (h : i < l.length) : startsN l (i + 1) = if i = 0 ∨ l.getD (i - 1) 0 ≠ l[i] then startsN l i ++ [(i : Int)] else startsN l i := by
  unfold startsN
  rw [runsN, putR]
  have hx : l.getD i 0 = l[i] := by simp [h]
  rw [hx]
  cases i with
  | zero =>
    rw [if_pos (.inl rfl)]
    simp [runsN]
  | succ i =>
    obtain ⟨q, h1, h2, h3⟩ := @runsN_last 0 l i
    rw [h1]
    simp -implicitDefEqProofs only [Nat.add_sub_cancel]
    rw [h2]
    by_cases hv : l.getD i 0 = l[i + 1]
    · rw [if_pos hv, if_neg (fun h => h.elim (by omega) (fun e => e hv))]
      have hne : runsN 0 l (i + 1) ≠ [] := putR_ne
      conv => rhs; rw [← List.dropLast_concat_getLast hne]
      rw [List.getLast?_eq_some_getLast hne] at h1
      cases h1
      simp
    · rw [if_neg hv, if_pos (.inr hv)]
      simp
structure RX where
  i : Nat
  c : Nat
  cap : Nat
theorem tx_i {i c cap : Nat} : (RX.mk i c cap).i = i := (rfl)
theorem tx_c {i c cap : Nat} : (RX.mk i c cap).c = c := (rfl)
theorem tx_cap {i c cap : Nat} : (RX.mk i c cap).cap = cap := (rfl)
structure RY where
  i : Nat
  d : Nat
  dap : Nat
  G : List Grp
theorem ty_i {i d dap : Nat} {G : List Grp} : (RY.mk i d dap G).i = i := (rfl)
theorem ty_d {i d dap : Nat} {G : List Grp} : (RY.mk i d dap G).d = d := (rfl)
theorem ty_dap {i d dap : Nat} {G : List Grp} : (RY.mk i d dap G).dap = dap := (rfl)
theorem ty_G {i d dap : Nat} {G : List Grp} : (RY.mk i d dap G).G = G := (rfl)
def rofA (b2 : Nat) (l : List Int) (y : RX) : List (Nat × Blk) := rowH 3 1 y.c y.cap (rowI (startsN l y.i)) ++ [(b2, .box 59 [i64 0, .nilsl 5])]
def rofB (b7 b2 c cap : Nat) (l ST : List Int) (y : RY) : List (Nat × Blk) := rowH 56 5 y.d y.dap (rowG y.G) ++ [(b7, .box 59 [i64 ((l.length : Int) - 1), rowV 5 5 y.d y.dap (rowG y.G)]), (b2, .box 59 [i64 0, .nilsl 5]), (c, .row 3 1 cap (rowI ST))]
theorem nodup_mid {a : Nat} {A B : List Nat} (h : (a :: (A ++ B)).Nodup) : (A ++ a :: B).Nodup := (List.perm_middle.nodup_iff).2 h
theorem nodup_cut {a : Nat} {A B : List Nat} (h : (A ++ a :: B).Nodup) : (A ++ B).Nodup := (List.nodup_cons.1 ((List.perm_middle.nodup_iff).1 h)).2
set_option maxRecDepth 20000 in
set_option maxHeartbeats 1000000 in
theorem ROf_new {l : List Int} (hfl : AllFit l) (hl : l.length ≤ 3000) : NewW Try.prog f_poundageref15_Of [slI l] (if CurL l then .tup [curL l, bv true] else .tup [curveV 0 [], bv false]) := by
  refine CallW_intro comp_poundageref15_Of (by simp) ?_
  simp -implicitDefEqProofs -proj only [go_sem, Nat.reduceBEq, Nat.reduceLT, Nat.reduceLeDiff, Nat.reduceAdd, Nat.reduceMul, ↓reduceIte, Int.reduceToNat, Int.reducePow, Int.reduceLT, Int.reduceLE, Int.reduceAdd, Int.reduceSub, Int.reduceMul, Int.reduceEq, Int.reduceNe]
  refine AllocA_intro (fun b2 hb2 => ?_)
  by_cases h0 : l.length = 0
  · have : ¬ CurL l := fun h => h.1 (List.length_eq_zero_iff.1 h0)
    rw [if_neg this]
    simp -implicitDefEqProofs -proj only [go_sem, Nat.reduceBEq, Nat.reduceLT, Nat.reduceLeDiff, Nat.reduceAdd, Nat.reduceMul, ↓reduceIte, Int.reduceToNat, Int.reducePow, Int.reduceLT, Int.reduceLE, Int.reduceAdd, Int.reduceSub, Int.reduceMul, Int.reduceEq, Int.reduceNe, rowI_len, decide_eq_true (show (l.length : Int) = 0 by omega)]
    exact new_tup2 (new_curve (.nilsl _ _))
  by_cases h1 : 2001 < (l.length : Int)
  · have : ¬ CurL l := fun h => by have := h.2.1; omega
    rw [if_neg this]
    simp -implicitDefEqProofs -proj only [go_sem, Nat.reduceBEq, Nat.reduceLT, Nat.reduceLeDiff, Nat.reduceAdd, Nat.reduceMul, ↓reduceIte, Int.reduceToNat, Int.reducePow, Int.reduceLT, Int.reduceLE, Int.reduceAdd, Int.reduceSub, Int.reduceMul, Int.reduceEq, Int.reduceNe, rowI_len, decide_eq_false (show ¬ (l.length : Int) = 0 by omega), decide_eq_true h1]
    exact new_tup2 (new_curve (.nilsl _ _))
  have a2 := alloc_all (x := .box 59 [i64 0, .nilsl 5]) hb2 (l := []) trivial
  have n2 := alloc_keys (x := .box 59 [i64 0, .nilsl 5]) hb2 (l := []) trivial List.nodup_nil
  simp -implicitDefEqProofs -proj only [go_sem, Nat.reduceBEq, Nat.reduceLT, Nat.reduceLeDiff, Nat.reduceAdd, Nat.reduceMul, ↓reduceIte, Int.reduceToNat, Int.reducePow, Int.reduceLT, Int.reduceLE, Int.reduceAdd, Int.reduceSub, Int.reduceMul, Int.reduceEq, Int.reduceNe, rowI_len, decide_eq_false (show ¬ (l.length : Int) = 0 by omega), decide_eq_false h1]
  refine LoopA_k (fun y : RX => y.i ≤ l.length ∧ (∀ (j : Nat) (h : j < l.length), j < y.i → smallV l[j]) ∧ (keys (rofA b2 l y)).Nodup) 165 (fun y => [(0, slI l), (2, .ptr b2 0), (4, rowV 0 1 y.c y.cap (rowI (startsN l y.i))), (19, slI l), (20, i64 l.length), (21, i64 y.i)]) (rofA b2 l) (fun y => l.length - y.i) ⟨0, 0, 0⟩ ⟨Nat.zero_le _, fun j _ h => absurd h (Nat.not_lt_zero _), n2⟩ rfl ?_ ?_ ?_
  · simp -implicitDefEqProofs -proj only [go_sem, Nat.reduceBEq, Nat.reduceLT, Nat.reduceLeDiff, Nat.reduceAdd, Nat.reduceMul, ↓reduceIte, Int.reduceToNat, Int.reducePow, Int.reduceLT, Int.reduceLE, Int.reduceAdd, Int.reduceSub, Int.reduceMul, Int.reduceEq, Int.reduceNe, AllAt, tx_i, tx_c, tx_cap]
    rfl
  · simp -implicitDefEqProofs -proj only [go_sem, Nat.reduceBEq, Nat.reduceLT, Nat.reduceLeDiff, Nat.reduceAdd, Nat.reduceMul, ↓reduceIte, Int.reduceToNat, Int.reducePow, Int.reduceLT, Int.reduceLE, Int.reduceAdd, Int.reduceSub, Int.reduceMul, Int.reduceEq, Int.reduceNe]
    exact a2
  · rintro ⟨i, c, cap⟩ ⟨hi, hsm, hn⟩
    simp -implicitDefEqProofs only [tx_i] at hi hsm
    have hall := keepH_all hn
    obtain ⟨H, hH⟩ : ∃ H, keepH (rofA b2 l ⟨i, c, cap⟩) = H := ⟨_, rfl⟩
    rw [hH] at hall
    simp -implicitDefEqProofs only [rofA, tx_i, tx_c, tx_cap] at hall hn
    obtain ⟨hrow, k2, _⟩ := AllH_app.1 hall
    by_cases h : i < l.length
    · have hel := rowI_nth h
      have hst := starts_step h
      have hsl : (startsN l i).length ≤ i := by unfold startsN; rw [List.length_map]; exact runsN_len i
      have hstep : smallV l[i] → ∀ (j : Nat) (h : j < l.length), j < i + 1 → smallV l[j] := by
        intro e j h1 h2
        by_cases hj : j = i
        · subst hj; exact e
        · exact hsm j h1 (by omega)
      have hno : ¬ smallV l[i] → ¬ CurL l := fun e k => e (k.2.2 _ (List.getElem_mem h))
      have hprev : 0 < i → (rowI l)[((i - 1 : Nat) : Int).toNat]? = some [.int .i64 (l.getD (i - 1) 0)] := fun hp => by
        rw [Int.toNat_natCast]
        exact rowI_at (by rw [List.getD_eq_getElem?_getD, List.getElem?_eq_getElem (by omega)]; rfl)
      have w1 : IntKind.i64.wrap ((i : Int) - 1) = (i : Int) - 1 := by rw [IntKind.wrap_i64]; omega
      generalize l[i] = x at *
      generalize l.getD (i - 1) 0 = p at *
      unfold smallV at hstep hno
      simp -implicitDefEqProofs -proj only [go_sem, Nat.reduceBEq, Nat.reduceLT, Nat.reduceLeDiff, Nat.reduceAdd, Nat.reduceMul, ↓reduceIte, Int.reduceToNat, Int.reducePow, Int.reduceLT, Int.reduceLE, Int.reduceAdd, Int.reduceSub, Int.reduceMul, Int.reduceEq, Int.reduceNe, tx_i, tx_c, tx_cap, hH, decide_eq_true (show (i : Int) < l.length by omega)]
      refine ElemA_at _ (by omega) hel ?_
      by_cases c1 : 2305843009213693952 < x
      · rw [if_neg (hno (by omega))]
        simp -implicitDefEqProofs -proj only [go_sem, Nat.reduceBEq, Nat.reduceLT, Nat.reduceLeDiff, Nat.reduceAdd, Nat.reduceMul, ↓reduceIte, Int.reduceToNat, Int.reducePow, Int.reduceLT, Int.reduceLE, Int.reduceAdd, Int.reduceSub, Int.reduceMul, Int.reduceEq, Int.reduceNe, k2, decide_eq_true c1]
        exact new_tup2 (new_curve (.nilsl _ _))
      by_cases c2 : x < -2305843009213693952
      · rw [if_neg (hno (by omega))]
        simp -implicitDefEqProofs -proj only [go_sem, Nat.reduceBEq, Nat.reduceLT, Nat.reduceLeDiff, Nat.reduceAdd, Nat.reduceMul, ↓reduceIte, Int.reduceToNat, Int.reducePow, Int.reduceLT, Int.reduceLE, Int.reduceAdd, Int.reduceSub, Int.reduceMul, Int.reduceEq, Int.reduceNe, k2, decide_eq_false c1, decide_eq_true c2]
        exact new_tup2 (new_curve (.nilsl _ _))
      by_cases hi0 : i = 0
      · rw [if_pos (.inl hi0)] at hst
        simp -implicitDefEqProofs -proj only [go_sem, Nat.reduceBEq, Nat.reduceLT, Nat.reduceLeDiff, Nat.reduceAdd, Nat.reduceMul, ↓reduceIte, Int.reduceToNat, Int.reducePow, Int.reduceLT, Int.reduceLE, Int.reduceAdd, Int.reduceSub, Int.reduceMul, Int.reduceEq, Int.reduceNe, k2, decide_eq_false c1, decide_eq_false c2, decide_eq_true (show (i : Int) = 0 by omega)]
        refine AllocR_intro (fun bs hs' => ?_)
        replace hs' : H bs = none := hs'
        simp -implicitDefEqProofs -proj only [go_sem, Nat.reduceBEq, Nat.reduceLT, Nat.reduceLeDiff, Nat.reduceAdd, Nat.reduceMul, ↓reduceIte, Int.reduceToNat, Int.reducePow, Int.reduceLT, Int.reduceLE, Int.reduceAdd, Int.reduceSub, Int.reduceMul, Int.reduceEq, Int.reduceNe]
        refine AppendA_grow (xs := rowI (startsN l i)) (y := [.int .i64 (i : Int)]) (t := 3) (capc := 1) [(b2, .box 59 [i64 0, .nilsl 5])] rfl (AllH_upd hs' hall) hn (by simp -implicitDefEqProofs -proj only [go_sem, Nat.reduceBEq, Nat.reduceLT, Nat.reduceLeDiff, Nat.reduceAdd, Nat.reduceMul, ↓reduceIte, Int.reduceToNat, Int.reducePow, Int.reduceLT, Int.reduceLE, Int.reduceAdd, Int.reduceSub, Int.reduceMul, Int.reduceEq, Int.reduceNe]) (by rw [rowI_len]; omega) (by rw [rowI_len]; omega) (fun H' c' cap' ha hk => ?_)
        rw [show rowI (startsN l i) ++ [[.int .i64 (i : Int)]] = rowI (startsN l (i + 1)) by rw [hst]; simp [rowI]] at ha hk
        have hne : rowI (startsN l (i + 1)) ≠ [] := by rw [hst]; simp [rowI]
        have hl2 : (rowI (startsN l (i + 1))).length = (rowI (startsN l i)).length + 1 := by rw [hst]; simp [rowI]
        simp -implicitDefEqProofs -proj only [go_sem, Nat.reduceBEq, Nat.reduceLT, Nat.reduceLeDiff, Nat.reduceAdd, Nat.reduceMul, ↓reduceIte, Int.reduceToNat, Int.reducePow, Int.reduceLT, Int.reduceLE, Int.reduceAdd, Int.reduceSub, Int.reduceMul, Int.reduceEq, Int.reduceNe]
        refine LoopQ_k ⟨i + 1, c', cap'⟩ ⟨by show i + 1 ≤ l.length; omega, hstep (by omega), hk⟩ (by show l.length - (i + 1) < l.length - i; omega) rfl ?_ ha
        simp -implicitDefEqProofs -proj only [go_sem, Nat.reduceBEq, Nat.reduceLT, Nat.reduceLeDiff, Nat.reduceAdd, Nat.reduceMul, ↓reduceIte, Int.reduceToNat, Int.reducePow, Int.reduceLT, Int.reduceLE, Int.reduceAdd, Int.reduceSub, Int.reduceMul, Int.reduceEq, Int.reduceNe, AllAt, tx_i, tx_c, tx_cap, i64_succ (show i < 9223372036854775807 by omega), rowV_ne hne, hl2]
      · have hp := hprev (by omega)
        simp -implicitDefEqProofs -proj only [go_sem, Nat.reduceBEq, Nat.reduceLT, Nat.reduceLeDiff, Nat.reduceAdd, Nat.reduceMul, ↓reduceIte, Int.reduceToNat, Int.reducePow, Int.reduceLT, Int.reduceLE, Int.reduceAdd, Int.reduceSub, Int.reduceMul, Int.reduceEq, Int.reduceNe, k2, decide_eq_false c1, decide_eq_false c2, decide_eq_false (show ¬ (i : Int) = 0 by omega), w1]
        refine ElemA_at _ (by omega) (i := (i : Int) - 1) (by rw [show (i : Int) - 1 = ((i - 1 : Nat) : Int) by omega]; exact hp) ?_
        by_cases hpx : p = x
        · rw [if_neg (fun h => h.elim hi0 (fun e => e hpx))] at hst
          simp -implicitDefEqProofs -proj only [go_sem, Nat.reduceBEq, Nat.reduceLT, Nat.reduceLeDiff, Nat.reduceAdd, Nat.reduceMul, ↓reduceIte, Int.reduceToNat, Int.reducePow, Int.reduceLT, Int.reduceLE, Int.reduceAdd, Int.reduceSub, Int.reduceMul, Int.reduceEq, Int.reduceNe, decide_eq_true hpx]
          refine LoopQ_k ⟨i + 1, c, cap⟩ ⟨by show i + 1 ≤ l.length; omega, hstep (by omega), by simp -implicitDefEqProofs only [rofA, tx_i, tx_c, tx_cap, hst]; exact hn⟩ (by show l.length - (i + 1) < l.length - i; omega) rfl ?_ (by simp -implicitDefEqProofs only [rofA, tx_i, tx_c, tx_cap, hst]; exact hall)
          simp -implicitDefEqProofs -proj only [go_sem, Nat.reduceBEq, Nat.reduceLT, Nat.reduceLeDiff, Nat.reduceAdd, Nat.reduceMul, ↓reduceIte, Int.reduceToNat, Int.reducePow, Int.reduceLT, Int.reduceLE, Int.reduceAdd, Int.reduceSub, Int.reduceMul, Int.reduceEq, Int.reduceNe, AllAt, tx_i, tx_c, tx_cap, hst, i64_succ (show i < 9223372036854775807 by omega)]
        · rw [if_pos (.inr hpx)] at hst
          simp -implicitDefEqProofs -proj only [go_sem, Nat.reduceBEq, Nat.reduceLT, Nat.reduceLeDiff, Nat.reduceAdd, Nat.reduceMul, ↓reduceIte, Int.reduceToNat, Int.reducePow, Int.reduceLT, Int.reduceLE, Int.reduceAdd, Int.reduceSub, Int.reduceMul, Int.reduceEq, Int.reduceNe, decide_eq_false hpx]
          refine AllocR_intro (fun bs hs' => ?_)
          replace hs' : H bs = none := hs'
          simp -implicitDefEqProofs -proj only [go_sem, Nat.reduceBEq, Nat.reduceLT, Nat.reduceLeDiff, Nat.reduceAdd, Nat.reduceMul, ↓reduceIte, Int.reduceToNat, Int.reducePow, Int.reduceLT, Int.reduceLE, Int.reduceAdd, Int.reduceSub, Int.reduceMul, Int.reduceEq, Int.reduceNe]
          refine AppendA_grow (xs := rowI (startsN l i)) (y := [.int .i64 (i : Int)]) (t := 3) (capc := 1) [(b2, .box 59 [i64 0, .nilsl 5])] rfl (AllH_upd hs' hall) hn (by simp -implicitDefEqProofs -proj only [go_sem, Nat.reduceBEq, Nat.reduceLT, Nat.reduceLeDiff, Nat.reduceAdd, Nat.reduceMul, ↓reduceIte, Int.reduceToNat, Int.reducePow, Int.reduceLT, Int.reduceLE, Int.reduceAdd, Int.reduceSub, Int.reduceMul, Int.reduceEq, Int.reduceNe]) (by rw [rowI_len]; omega) (by rw [rowI_len]; omega) (fun H' c' cap' ha hk => ?_)
          rw [show rowI (startsN l i) ++ [[.int .i64 (i : Int)]] = rowI (startsN l (i + 1)) by rw [hst]; simp [rowI]] at ha hk
          have hne : rowI (startsN l (i + 1)) ≠ [] := by rw [hst]; simp [rowI]
          have hl2 : (rowI (startsN l (i + 1))).length = (rowI (startsN l i)).length + 1 := by rw [hst]; simp [rowI]
          simp -implicitDefEqProofs -proj only [go_sem, Nat.reduceBEq, Nat.reduceLT, Nat.reduceLeDiff, Nat.reduceAdd, Nat.reduceMul, ↓reduceIte, Int.reduceToNat, Int.reducePow, Int.reduceLT, Int.reduceLE, Int.reduceAdd, Int.reduceSub, Int.reduceMul, Int.reduceEq, Int.reduceNe]
          refine LoopQ_k ⟨i + 1, c', cap'⟩ ⟨by show i + 1 ≤ l.length; omega, hstep (by omega), hk⟩ (by show l.length - (i + 1) < l.length - i; omega) rfl ?_ ha
          simp -implicitDefEqProofs -proj only [go_sem, Nat.reduceBEq, Nat.reduceLT, Nat.reduceLeDiff, Nat.reduceAdd, Nat.reduceMul, ↓reduceIte, Int.reduceToNat, Int.reducePow, Int.reduceLT, Int.reduceLE, Int.reduceAdd, Int.reduceSub, Int.reduceMul, Int.reduceEq, Int.reduceNe, AllAt, tx_i, tx_c, tx_cap, i64_succ (show i < 9223372036854775807 by omega), rowV_ne hne, hl2]
    · have hi' : i = l.length := by omega
      subst hi'
      have hcur : CurL l := ⟨fun e => h0 (by rw [e]; rfl), by omega, fun v hv => by obtain ⟨j, hj, rfl⟩ := List.getElem_of_mem hv; exact hsm j hj hj⟩
      rw [if_pos hcur]
      have hwl : IntKind.i64.wrap ((l.length : Int) - 1) = (l.length : Int) - 1 := by rw [IntKind.wrap_i64]; omega
      obtain ⟨hro, hRl⟩ := runs_small (curL_ok.2 hcur)
      have hmem := (runs_fwd 0 l).mem_val
      have hR0 : 0 < (runs 0 l).length := List.length_pos_iff.2 (fun e => hcur.1 (runs_nil.1 e))
      have hST : startsN l l.length = (runs 0 l).map (·.f) := rfl
      have hget : ∀ (j : Nat) (h : j < (runs 0 l).length), 0 ≤ (runs 0 l)[j].f ∧ (rowI l)[(runs 0 l)[j].f.toNat]? = some [.int .i64 (runs 0 l)[j].v] := fun j h => by
        obtain ⟨m1, m2, m3, m4⟩ := hmem _ (List.getElem_mem h)
        refine ⟨m1, rowI_at ?_⟩
        have hi : (runs 0 l)[j].f.toNat < l.length := by omega
        have := valL_get (f := 0) hi
        rw [Int.zero_add, show (((runs 0 l)[j].f.toNat : Nat) : Int) = (runs 0 l)[j].f by omega, m4] at this
        rw [List.getElem?_eq_getElem hi, this]
      obtain ⟨ST, hSTe⟩ : ∃ ST, startsN l l.length = ST := ⟨_, rfl⟩
      rw [hSTe] at hST hrow hn
      have hcv : curL l = curveV ((l.length : Int) - 1) (groups (runs 0 l)) := rfl
      rw [hcv]
      generalize runs 0 l = R at *
      have hSTl : ST.length = R.length := by rw [hST, List.length_map]
      have hSTn : ∀ (j : Nat) (h : j < R.length), (rowI ST)[j]? = some [.int .i64 R[j].f] := fun j h => rowI_at (by rw [hST]; simp [h])
      have hSTne : rowI ST ≠ [] := fun e => by have := congrArg List.length e; rw [rowI_len, hSTl, List.length_nil] at this; omega
      rw [rowH_ne hSTne] at hrow hn
      have kc := hrow.1
      have hcb : ¬ c = b2 := by
        simp -implicitDefEqProofs only [keys, List.map_append, List.map_cons, List.map_nil, List.nodup_append, List.mem_singleton] at hn
        exact hn.2.2 c rfl b2 rfl
      simp -implicitDefEqProofs -proj only [go_sem, Nat.reduceBEq, Nat.reduceLT, Nat.reduceLeDiff, Nat.reduceAdd, Nat.reduceMul, ↓reduceIte, Int.reduceToNat, Int.reducePow, Int.reduceLT, Int.reduceLE, Int.reduceAdd, Int.reduceSub, Int.reduceMul, Int.reduceEq, Int.reduceNe, tx_i, tx_c, tx_cap, hH, hSTe, k2, rowI_len, hwl, decide_eq_false (show ¬ (l.length : Int) < l.length by omega), rowV_ne hSTne]
      refine AllocA_intro (fun b7 hb7 => ?_)
      replace hb7 : H b7 = none := hb7
      obtain ⟨m1, m2⟩ := fresh_ne hb7 k2
      obtain ⟨m3, m4⟩ := fresh_ne hb7 kc
      simp -implicitDefEqProofs -proj only [go_sem, Nat.reduceBEq, Nat.reduceLT, Nat.reduceLeDiff, Nat.reduceAdd, Nat.reduceMul, ↓reduceIte, Int.reduceToNat, Int.reducePow, Int.reduceLT, Int.reduceLE, Int.reduceAdd, Int.reduceSub, Int.reduceMul, Int.reduceEq, Int.reduceNe, m1, m2, m3, m4, k2, kc]
      refine LoopA_k (fun y : RY => y.i ≤ R.length ∧ groups R = y.G ++ groups (R.drop y.i) ∧ y.G.length ≤ y.i ∧ (keys (rofB b7 b2 c cap l ST y)).Nodup) 165 (fun y => [(0, slI l), (2, .ptr b2 0), (4, .own c 1 0 ST.length cap), (7, .ptr b7 0), (8, i64 y.i)]) (rofB b7 b2 c cap l ST) (fun y => R.length - y.i) ⟨0, 0, 0, []⟩ ⟨Nat.zero_le _, rfl, Nat.le_refl _, by simp [keys, rofB, ty_G, rowG, rowH_nil, m1, m3, show ¬ b2 = c from fun e => hcb e.symm]⟩ rfl ?_ ?_ ?_
      · simp -implicitDefEqProofs -proj only [go_sem, Nat.reduceBEq, Nat.reduceLT, Nat.reduceLeDiff, Nat.reduceAdd, Nat.reduceMul, ↓reduceIte, Int.reduceToNat, Int.reducePow, Int.reduceLT, Int.reduceLE, Int.reduceAdd, Int.reduceSub, Int.reduceMul, Int.reduceEq, Int.reduceNe, AllAt, ty_i]
      · simp -implicitDefEqProofs -proj only [go_sem, Nat.reduceBEq, Nat.reduceLT, Nat.reduceLeDiff, Nat.reduceAdd, Nat.reduceMul, ↓reduceIte, Int.reduceToNat, Int.reducePow, Int.reduceLT, Int.reduceLE, Int.reduceAdd, Int.reduceSub, Int.reduceMul, Int.reduceEq, Int.reduceNe, AllH, rofB, ty_G, ty_d, ty_dap, rowG, List.map_nil, rowH_nil, rowV_nil, m1, m3, k2, kc]
      · rintro ⟨i, d, dap, G⟩ ⟨hi, hG, hGl, hn'⟩
        simp -implicitDefEqProofs only [ty_i, ty_G] at hi hG hGl
        have hall' := keepH_all hn'
        obtain ⟨H1, hH1⟩ : ∃ H1, keepH (rofB b7 b2 c cap l ST ⟨i, d, dap, G⟩) = H1 := ⟨_, rfl⟩
        rw [hH1] at hall'
        simp -implicitDefEqProofs only [rofB, ty_i, ty_d, ty_dap, ty_G] at hall' hn'
        obtain ⟨hrow1, j7, j2, jc, _⟩ := AllH_app.1 hall'
        by_cases hlt : i < R.length
        · obtain ⟨S, hSe⟩ : ∃ S, R.drop i = S := ⟨_, rfl⟩
          have hSl : S.length = R.length - i := by rw [← hSe, List.length_drop]
          have hSj : ∀ (j : Nat) (h : j < S.length), S[j] = R[i + j]'(by omega) := fun j h => by subst hSe; simp
          have hSs : ∀ (j : Nat) (h : j < S.length), (rowI ST)[i + j]? = some [.int .i64 S[j].f] := fun j h => by rw [hSj j h]; exact hSTn _ _
          have hSg : ∀ (j : Nat) (h : j < S.length), 0 ≤ S[j].f ∧ (rowI l)[S[j].f.toNat]? = some [.int .i64 S[j].v] := fun j h => by rw [hSj j h]; exact hget _ _
          have hSo : ∀ (j : Nat) (h : j < S.length), RunOK S[j] := fun j h => by rw [hSj j h]; exact hro _ (List.getElem_mem _)
          have hS0 : 0 < S.length := by omega
          have hstep := groups_step hS0
          rw [hSe] at hG
          have es := hSs 0 hS0
          rw [Nat.add_zero] at es
          obtain ⟨ef0, ev⟩ := hSg 0 hS0
          have ho0 := hSo 0 hS0
          have hdr : ∀ n, S.drop n = R.drop (i + n) := fun n => by rw [← hSe, List.drop_drop]
          have hw1 : IntKind.i64.wrap ((i : Int) + 1) = ((i + 1 : Nat) : Int) := by rw [IntKind.wrap_i64]; omega
          have hmid : ∀ (b9 : Nat) (x : Blk), H1 b9 = none → (keys (rowH 56 5 d dap (rowG G) ++ [(b9, x), (b7, .box 59 [i64 ((l.length : Int) - 1), rowV 5 5 d dap (rowG G)]), (b2, .box 59 [i64 0, .nilsl 5]), (c, .row 3 1 cap (rowI ST))])).Nodup := fun b9 x hb => by
            have := alloc_keys (x := x) hb hall' hn'
            simp -implicitDefEqProofs only [keys, List.map_append, List.map_cons] at this ⊢
            exact nodup_mid this
          simp -implicitDefEqProofs -proj only [go_sem, Nat.reduceBEq, Nat.reduceLT, Nat.reduceLeDiff, Nat.reduceAdd, Nat.reduceMul, ↓reduceIte, Int.reduceToNat, Int.reducePow, Int.reduceLT, Int.reduceLE, Int.reduceAdd, Int.reduceSub, Int.reduceMul, Int.reduceEq, Int.reduceNe, ty_i, ty_d, ty_dap, ty_G, hH1, rowI_len, hSTl, decide_eq_true (show (i : Int) < R.length by omega)]
          (repeat' (with_reducible refine VC_intro ?_ (fun h => ?_); (focus first | decide | omega); clear h; try simp -implicitDefEqProofs -proj only [go_sem, Nat.reduceBEq, Nat.reduceLT, Nat.reduceLeDiff, Nat.reduceAdd, Nat.reduceMul, ↓reduceIte, Int.reduceToNat, Int.reducePow, Int.reduceLT, Int.reduceLE, Int.reduceAdd, Int.reduceSub, Int.reduceMul, Int.reduceEq, Int.reduceNe, hSTl]))
          simp -implicitDefEqProofs -proj only [go_sem, Nat.reduceBEq, Nat.reduceLT, Nat.reduceLeDiff, Nat.reduceAdd, Nat.reduceMul, ↓reduceIte, Int.reduceToNat, Int.reducePow, Int.reduceLT, Int.reduceLE, Int.reduceAdd, Int.reduceSub, Int.reduceMul, Int.reduceEq, Int.reduceNe, jc]
          refine IdxE_1 _ (by rw [Int.toNat_natCast]; exact es) (by simp) ?_
          simp -implicitDefEqProofs -proj only [go_sem, Nat.reduceBEq, Nat.reduceLT, Nat.reduceLeDiff, Nat.reduceAdd, Nat.reduceMul, ↓reduceIte, Int.reduceToNat, Int.reducePow, Int.reduceLT, Int.reduceLE, Int.reduceAdd, Int.reduceSub, Int.reduceMul, Int.reduceEq, Int.reduceNe, jc]
          refine IdxE_1 _ (by rw [Int.toNat_natCast]; exact es) (by simp) ?_
          simp -implicitDefEqProofs -proj only [go_sem, Nat.reduceBEq, Nat.reduceLT, Nat.reduceLeDiff, Nat.reduceAdd, Nat.reduceMul, ↓reduceIte, Int.reduceToNat, Int.reducePow, Int.reduceLT, Int.reduceLE, Int.reduceAdd, Int.reduceSub, Int.reduceMul, Int.reduceEq, Int.reduceNe]
          refine ElemA_at _ ef0 ev ?_
          simp -implicitDefEqProofs -proj only [go_sem, Nat.reduceBEq, Nat.reduceLT, Nat.reduceLeDiff, Nat.reduceAdd, Nat.reduceMul, ↓reduceIte, Int.reduceToNat, Int.reducePow, Int.reduceLT, Int.reduceLE, Int.reduceAdd, Int.reduceSub, Int.reduceMul, Int.reduceEq, Int.reduceNe]
          refine AllocA_intro (fun b9 hb9 => ?_)
          replace hb9 : H1 b9 = none := hb9
          obtain ⟨p1, p2⟩ := fresh_ne hb9 j7
          obtain ⟨p3, p4⟩ := fresh_ne hb9 j2
          obtain ⟨p5, p6⟩ := fresh_ne hb9 jc
          by_cases hi1 : i + 1 < R.length
          · have hS1 : 1 < S.length := by omega
            have hgq := grpOf_eq hS1
            obtain ⟨w, hw⟩ : ∃ w, S[1].f - S[0].f = w := ⟨_, rfl⟩
            obtain ⟨r, hr⟩ : ∃ r, S[1].v - S[0].v = r := ⟨_, rfl⟩
            rw [hw, hr] at hgq
            obtain ⟨n, hn9⟩ : ∃ n, runLen w r S[0] (S.drop 1) + 1 = n := ⟨_, rfl⟩
            rw [hn9] at hgq
            have hgle := @grpOf_le S[0] (S.drop 1)
            rw [hgq] at hstep hgle
            simp -implicitDefEqProofs only [List.length_drop] at hgle
            have hc2 : 2 + runLen w r S[1] (S.drop 2) = n := by
              have this : runLen w r S[0] (S.drop 1) = if S[1].f - S[0].f = w ∧ S[1].v - S[0].v = r then runLen w r S[1] (S.drop 2) + 1 else 0 := runLen_at (w := w) (r := r) (S := S) (c := 1) (by omega) hS1
              rw [if_pos ⟨hw, hr⟩] at this
              omega
            have es1 := hSs 1 hS1
            obtain ⟨ef1, ev1⟩ := hSg 1 hS1
            have ho1 := hSo 1 hS1
            unfold RunOK at ho0 ho1
            have wW : IntKind.i64.wrap (S[1].f - S[0].f) = w := by rw [IntKind.wrap_i64]; omega
            have wR : IntKind.i64.wrap (S[1].v - S[0].v) = r := by rw [IntKind.wrap_i64]; omega
            simp -implicitDefEqProofs -proj only [go_sem, Nat.reduceBEq, Nat.reduceLT, Nat.reduceLeDiff, Nat.reduceAdd, Nat.reduceMul, ↓reduceIte, Int.reduceToNat, Int.reducePow, Int.reduceLT, Int.reduceLE, Int.reduceAdd, Int.reduceSub, Int.reduceMul, Int.reduceEq, Int.reduceNe, p1, p2, p3, p4, p5, p6, j7, j2, jc, rowI_len, hSTl, hw1, decide_eq_true (show ((i + 1 : Nat) : Int) < R.length by omega)]
            (repeat' (with_reducible refine VC_intro ?_ (fun h => ?_); (focus first | decide | omega); clear h; try simp -implicitDefEqProofs -proj only [go_sem, Nat.reduceBEq, Nat.reduceLT, Nat.reduceLeDiff, Nat.reduceAdd, Nat.reduceMul, ↓reduceIte, Int.reduceToNat, Int.reducePow, Int.reduceLT, Int.reduceLE, Int.reduceAdd, Int.reduceSub, Int.reduceMul, Int.reduceEq, Int.reduceNe, hSTl]))
            try simp -implicitDefEqProofs -proj only [go_sem, Nat.reduceBEq, Nat.reduceLT, Nat.reduceLeDiff, Nat.reduceAdd, Nat.reduceMul, ↓reduceIte, Int.reduceToNat, Int.reducePow, Int.reduceLT, Int.reduceLE, Int.reduceAdd, Int.reduceSub, Int.reduceMul, Int.reduceEq, Int.reduceNe, p1, p2, p3, p4, p5, p6, jc]
            refine IdxE_1 _ (by rw [Int.toNat_natCast]; exact es1) (by simp) ?_
            simp -implicitDefEqProofs -proj only [go_sem, Nat.reduceBEq, Nat.reduceLT, Nat.reduceLeDiff, Nat.reduceAdd, Nat.reduceMul, ↓reduceIte, Int.reduceToNat, Int.reducePow, Int.reduceLT, Int.reduceLE, Int.reduceAdd, Int.reduceSub, Int.reduceMul, Int.reduceEq, Int.reduceNe, p1, p2, p3, p4, p5, p6, jc]
            refine IdxE_1 _ (by rw [Int.toNat_natCast]; exact es) (by simp) ?_
            simp -implicitDefEqProofs -proj only [go_sem, Nat.reduceBEq, Nat.reduceLT, Nat.reduceLeDiff, Nat.reduceAdd, Nat.reduceMul, ↓reduceIte, Int.reduceToNat, Int.reducePow, Int.reduceLT, Int.reduceLE, Int.reduceAdd, Int.reduceSub, Int.reduceMul, Int.reduceEq, Int.reduceNe, p1, p2, p3, p4, p5, p6, jc, wW, hw1]
            (repeat' (with_reducible refine VC_intro ?_ (fun h => ?_); (focus first | decide | omega); clear h; try simp -implicitDefEqProofs -proj only [go_sem, Nat.reduceBEq, Nat.reduceLT, Nat.reduceLeDiff, Nat.reduceAdd, Nat.reduceMul, ↓reduceIte, Int.reduceToNat, Int.reducePow, Int.reduceLT, Int.reduceLE, Int.reduceAdd, Int.reduceSub, Int.reduceMul, Int.reduceEq, Int.reduceNe, hSTl]))
            try simp -implicitDefEqProofs -proj only [go_sem, Nat.reduceBEq, Nat.reduceLT, Nat.reduceLeDiff, Nat.reduceAdd, Nat.reduceMul, ↓reduceIte, Int.reduceToNat, Int.reducePow, Int.reduceLT, Int.reduceLE, Int.reduceAdd, Int.reduceSub, Int.reduceMul, Int.reduceEq, Int.reduceNe, p1, p2, p3, p4, p5, p6, jc]
            refine IdxE_1 _ (by rw [Int.toNat_natCast]; exact es1) (by simp) ?_
            simp -implicitDefEqProofs -proj only [go_sem, Nat.reduceBEq, Nat.reduceLT, Nat.reduceLeDiff, Nat.reduceAdd, Nat.reduceMul, ↓reduceIte, Int.reduceToNat, Int.reducePow, Int.reduceLT, Int.reduceLE, Int.reduceAdd, Int.reduceSub, Int.reduceMul, Int.reduceEq, Int.reduceNe]
            refine ElemA_at _ ef1 ev1 ?_
            simp -implicitDefEqProofs -proj only [go_sem, Nat.reduceBEq, Nat.reduceLT, Nat.reduceLeDiff, Nat.reduceAdd, Nat.reduceMul, ↓reduceIte, Int.reduceToNat, Int.reducePow, Int.reduceLT, Int.reduceLE, Int.reduceAdd, Int.reduceSub, Int.reduceMul, Int.reduceEq, Int.reduceNe, wR, p1, p2, p3, p4, p5, p6]
            have hin : AllH H1 (rowH 56 5 d dap (rowG G) ++ [(b7, .box 59 [i64 ((l.length : Int) - 1), rowV 5 5 d dap (rowG G)]), (b2, .box 59 [i64 0, .nilsl 5]), (c, .row 3 1 cap (rowI ST))]) := hall'
            refine LoopA_k (fun k : Nat => 2 ≤ k ∧ i + k ≤ R.length ∧ ∃ h : k ≤ S.length ∧ 1 ≤ k, k + runLen w r (S[k - 1]'(by omega)) (S.drop k) = n ∧ (S[k - 1]'(by omega)).f = S[0].f + ((k : Int) - 1) * w) 165 (fun _ => [(0, slI l), (2, .ptr b2 0), (4, .own c 1 0 R.length cap), (7, .ptr b7 0), (8, i64 i), (9, .ptr b9 0)]) (fun k => rowH 56 5 d dap (rowG G) ++ [(b9, .box 56 [i64 S[0].f, i64 S[0].v, i64 w, i64 r, i64 k]), (b7, .box 59 [i64 ((l.length : Int) - 1), rowV 5 5 d dap (rowG G)]), (b2, .box 59 [i64 0, .nilsl 5]), (c, .row 3 1 cap (rowI ST))]) (fun k => R.length - k) 2 ⟨Nat.le_refl _, by omega, ⟨by omega, by omega⟩, hc2, by show S[1].f = S[0].f + (((2 : Nat) : Int) - 1) * w; omega⟩ rfl ?_ ?_ ?_
            · simp -implicitDefEqProofs -proj only [go_sem, Nat.reduceBEq, Nat.reduceLT, Nat.reduceLeDiff, Nat.reduceAdd, Nat.reduceMul, ↓reduceIte, Int.reduceToNat, Int.reducePow, Int.reduceLT, Int.reduceLE, Int.reduceAdd, Int.reduceSub, Int.reduceMul, Int.reduceEq, Int.reduceNe, AllAt]
            · refine AllH_app.2 ⟨?_, ?_⟩
              · refine drop_all hrow1 ?_ <;> exact fresh_keys hb9 hrow1
              · simp -implicitDefEqProofs -proj only [go_sem, Nat.reduceBEq, Nat.reduceLT, Nat.reduceLeDiff, Nat.reduceAdd, Nat.reduceMul, ↓reduceIte, Int.reduceToNat, Int.reducePow, Int.reduceLT, Int.reduceLE, Int.reduceAdd, Int.reduceSub, Int.reduceMul, Int.reduceEq, Int.reduceNe, AllH, p1, p2, p3, p4, p5, p6, j7, j2, jc]
            · rintro k ⟨hk2, hik, ⟨hk3, hk1⟩, hkn, hkf⟩
              have hndk := hmid b9 (.box 56 [i64 S[0].f, i64 S[0].v, i64 w, i64 r, i64 k]) hb9
              have hallk := keepH_all hndk
              obtain ⟨H2, hH2⟩ : ∃ H2, keepH (rowH 56 5 d dap (rowG G) ++ [(b9, .box 56 [i64 S[0].f, i64 S[0].v, i64 w, i64 r, i64 k]), (b7, .box 59 [i64 ((l.length : Int) - 1), rowV 5 5 d dap (rowG G)]), (b2, .box 59 [i64 0, .nilsl 5]), (c, .row 3 1 cap (rowI ST))]) = H2 := ⟨_, rfl⟩
              rw [hH2] at hallk
              obtain ⟨hrow2, i9, i7, i2, ic, _⟩ := AllH_app.1 hallk
              have hwk : IntKind.i64.wrap ((i : Int) + k) = ((i + k : Nat) : Int) := by rw [IntKind.wrap_i64]; omega
              by_cases hlk : i + k < R.length
              · have hSk : k < S.length := by omega
                have esk := hSs k hSk
                have esp := hSs (k - 1) (by omega)
                rw [show i + (k - 1) = i + k - 1 by omega] at esp
                obtain ⟨efk, evk⟩ := hSg k hSk
                obtain ⟨efp, evp⟩ := hSg (k - 1) (by omega)
                have hok := hSo k hSk
                have hop := hSo (k - 1) (by omega)
                have hrl := runLen_at (w := w) (r := r) (S := S) (c := k) (by omega) hSk
                rw [hrl] at hkn
                unfold RunOK at hok hop
                have hkw : (k : Int) * w = ((k : Int) - 1) * w + w := by rw [Int.sub_mul]; omega
                have wk1 : IntKind.i64.wrap ((k : Int) * w) = (k : Int) * w := by rw [IntKind.wrap_i64]; omega
                have wk2 : IntKind.i64.wrap (S[0].f + (k : Int) * w) = S[0].f + (k : Int) * w := by rw [IntKind.wrap_i64]; omega
                have wk3 : IntKind.i64.wrap ((S[k - 1]'(by omega)).v + r) = (S[k - 1]'(by omega)).v + r := by rw [IntKind.wrap_i64]; omega
                have wk4 : IntKind.i64.wrap (((i + k : Nat) : Int) - 1) = ((i + k - 1 : Nat) : Int) := by rw [IntKind.wrap_i64]; omega
                have hnext : S[k].f - (S[k - 1]'(by omega)).f = w → k + (runLen w r S[k] (S.drop (k + 1)) + 1) = n → (2 ≤ k + 1 ∧ i + (k + 1) ≤ R.length ∧ ∃ h : k + 1 ≤ S.length ∧ 1 ≤ k + 1, k + 1 + runLen w r (S[k + 1 - 1]'(by omega)) (S.drop (k + 1)) = n ∧ (S[k + 1 - 1]'(by omega)).f = S[0].f + (((k + 1 : Nat) : Int) - 1) * w) := fun e1 e2 => ⟨by omega, by omega, ⟨by omega, by omega⟩, by show k + 1 + runLen w r S[k] (S.drop (k + 1)) = n; omega, by show S[k].f = S[0].f + (((k + 1 : Nat) : Int) - 1) * w; rw [show ((k + 1 : Nat) : Int) - 1 = (k : Int) by omega, hkw]; omega⟩
                simp -implicitDefEqProofs -proj only [go_sem, Nat.reduceBEq, Nat.reduceLT, Nat.reduceLeDiff, Nat.reduceAdd, Nat.reduceMul, ↓reduceIte, Int.reduceToNat, Int.reducePow, Int.reduceLT, Int.reduceLE, Int.reduceAdd, Int.reduceSub, Int.reduceMul, Int.reduceEq, Int.reduceNe, hH2, i9, i7, i2, ic, rowI_len, hSTl, hwk, decide_eq_true (show ((i + k : Nat) : Int) < R.length by omega)]
                (repeat' (with_reducible refine VC_intro ?_ (fun h => ?_); (focus first | decide | omega); clear h; try simp -implicitDefEqProofs -proj only [go_sem, Nat.reduceBEq, Nat.reduceLT, Nat.reduceLeDiff, Nat.reduceAdd, Nat.reduceMul, ↓reduceIte, Int.reduceToNat, Int.reducePow, Int.reduceLT, Int.reduceLE, Int.reduceAdd, Int.reduceSub, Int.reduceMul, Int.reduceEq, Int.reduceNe, hSTl]))
                try simp -implicitDefEqProofs -proj only [go_sem, Nat.reduceBEq, Nat.reduceLT, Nat.reduceLeDiff, Nat.reduceAdd, Nat.reduceMul, ↓reduceIte, Int.reduceToNat, Int.reducePow, Int.reduceLT, Int.reduceLE, Int.reduceAdd, Int.reduceSub, Int.reduceMul, Int.reduceEq, Int.reduceNe, ic, i9, hwk]
                refine IdxE_1 _ (by rw [Int.toNat_natCast]; exact esk) (by simp) ?_
                by_cases t1 : S[k].f = S[0].f + (k : Int) * w
                rotate_left
                · rw [if_neg (fun h => t1 (by omega))] at hkn
                  have hkn' : n = k := by omega
                  subst hkn'
                  simp -implicitDefEqProofs -proj only [go_sem, Nat.reduceBEq, Nat.reduceLT, Nat.reduceLeDiff, Nat.reduceAdd, Nat.reduceMul, ↓reduceIte, Int.reduceToNat, Int.reducePow, Int.reduceLT, Int.reduceLE, Int.reduceAdd, Int.reduceSub, Int.reduceMul, Int.reduceEq, Int.reduceNe, i9, i7, i2, ic, wk1, wk2, decide_eq_false t1, if_neg (show ¬ (4 : Nat) = 5 by decide)]
                  refine AllocR_intro (fun bs hs' => ?_)
                  replace hs' : H2 bs = none := hs'
                  simp -implicitDefEqProofs -proj only [go_sem, Nat.reduceBEq, Nat.reduceLT, Nat.reduceLeDiff, Nat.reduceAdd, Nat.reduceMul, ↓reduceIte, Int.reduceToNat, Int.reducePow, Int.reduceLT, Int.reduceLE, Int.reduceAdd, Int.reduceSub, Int.reduceMul, Int.reduceEq, Int.reduceNe]
                  refine AppendA_grow (xs := rowG G) (y := [.int .i64 S[0].f, .int .i64 S[0].v, .int .i64 w, .int .i64 r, .int .i64 n]) (t := 56) (capc := 1) [(b9, .box 56 [i64 S[0].f, i64 S[0].v, i64 w, i64 r, i64 n]), (b7, .box 59 [i64 ((l.length : Int) - 1), rowV 5 5 d dap (rowG G)]), (b2, .box 59 [i64 0, .nilsl 5]), (c, .row 3 1 cap (rowI ST))] rfl (AllH_upd hs' hallk) hndk (by simp -implicitDefEqProofs -proj only [go_sem, Nat.reduceBEq, Nat.reduceLT, Nat.reduceLeDiff, Nat.reduceAdd, Nat.reduceMul, ↓reduceIte, Int.reduceToNat, Int.reducePow, Int.reduceLT, Int.reduceLE, Int.reduceAdd, Int.reduceSub, Int.reduceMul, Int.reduceEq, Int.reduceNe]) (by rw [rowG_len]; omega) (by rw [rowG_len]; omega) (fun H' d' dap' ha hk => ?_)
                  rw [show rowG G ++ [[.int .i64 S[0].f, .int .i64 S[0].v, .int .i64 w, .int .i64 r, .int .i64 n]] = rowG (G ++ [(⟨S[0].f, S[0].v, w, r, (n : Int)⟩ : Grp)]) from rowG_snoc (g := (⟨S[0].f, S[0].v, w, r, (n : Int)⟩ : Grp))] at ha hk
                  have hne2 : rowG (G ++ [(⟨S[0].f, S[0].v, w, r, (n : Int)⟩ : Grp)]) ≠ [] := by simp [rowG]
                  obtain ⟨hrow', q9, q7, q2, qc, _⟩ := AllH_app.1 ha
                  have hwc : IntKind.i64.wrap ((i : Int) + (n : Int)) = ((i + n : Nat) : Int) := by rw [IntKind.wrap_i64]; omega
                  simp -implicitDefEqProofs -proj only [go_sem, Nat.reduceBEq, Nat.reduceLT, Nat.reduceLeDiff, Nat.reduceAdd, Nat.reduceMul, ↓reduceIte, Int.reduceToNat, Int.reducePow, Int.reduceLT, Int.reduceLE, Int.reduceAdd, Int.reduceSub, Int.reduceMul, Int.reduceEq, Int.reduceNe, q9, q7, p1, p2, hwc]
                  refine LoopQ_k ⟨i + n, d', dap', G ++ [(⟨S[0].f, S[0].v, w, r, (n : Int)⟩ : Grp)]⟩ ⟨by show i + n ≤ R.length; omega, by simp -implicitDefEqProofs only [ty_i, ty_G]; rw [hG, hstep, hdr]; simp, by simp -implicitDefEqProofs only [ty_i, ty_G, List.length_append, List.length_singleton]; omega, ?_⟩ (by show R.length - (i + n) < R.length - i; omega) rfl ?_ ?_
                  · simp -implicitDefEqProofs only [keys, rofB, ty_d, ty_dap, ty_G, List.map_append, List.map_cons, List.map_nil] at hk ⊢
                    exact nodup_cut hk
                  · simp -implicitDefEqProofs -proj only [go_sem, Nat.reduceBEq, Nat.reduceLT, Nat.reduceLeDiff, Nat.reduceAdd, Nat.reduceMul, ↓reduceIte, Int.reduceToNat, Int.reducePow, Int.reduceLT, Int.reduceLE, Int.reduceAdd, Int.reduceSub, Int.reduceMul, Int.reduceEq, Int.reduceNe, AllAt, ty_i, hSTl]
                  · refine AllH_app.2 ⟨drop_all hrow' ?_, ?_⟩
                    · simp -implicitDefEqProofs only [keys, List.map_append, List.nodup_append, List.map_cons, List.map_nil, List.mem_cons] at hk
                      exact fun hm => hk.2.2 _ hm _ (.inr (.inl rfl)) rfl
                    · have hnk : ¬ b7 = b2 ∧ ¬ b7 = c := ⟨m1, m3⟩
                      simp -implicitDefEqProofs -proj only [go_sem, Nat.reduceBEq, Nat.reduceLT, Nat.reduceLeDiff, Nat.reduceAdd, Nat.reduceMul, ↓reduceIte, Int.reduceToNat, Int.reducePow, Int.reduceLT, Int.reduceLE, Int.reduceAdd, Int.reduceSub, Int.reduceMul, Int.reduceEq, Int.reduceNe, AllH, ty_d, ty_dap, ty_G, q2, qc, m1, m3, rowV_ne hne2, show (rowG (G ++ [(⟨S[0].f, S[0].v, w, r, (n : Int)⟩ : Grp)])).length = (rowG G).length + 1 by simp [rowG]]
                simp -implicitDefEqProofs -proj only [go_sem, Nat.reduceBEq, Nat.reduceLT, Nat.reduceLeDiff, Nat.reduceAdd, Nat.reduceMul, ↓reduceIte, Int.reduceToNat, Int.reducePow, Int.reduceLT, Int.reduceLE, Int.reduceAdd, Int.reduceSub, Int.reduceMul, Int.reduceEq, Int.reduceNe, i9, i7, i2, ic, wk1, wk2, hwk, hSTl, rowI_len, decide_eq_true t1]
                (repeat' (with_reducible refine VC_intro ?_ (fun h => ?_); (focus first | decide | omega); clear h; try simp -implicitDefEqProofs -proj only [go_sem, Nat.reduceBEq, Nat.reduceLT, Nat.reduceLeDiff, Nat.reduceAdd, Nat.reduceMul, ↓reduceIte, Int.reduceToNat, Int.reducePow, Int.reduceLT, Int.reduceLE, Int.reduceAdd, Int.reduceSub, Int.reduceMul, Int.reduceEq, Int.reduceNe, hSTl]))
                try simp -implicitDefEqProofs -proj only [go_sem, Nat.reduceBEq, Nat.reduceLT, Nat.reduceLeDiff, Nat.reduceAdd, Nat.reduceMul, ↓reduceIte, Int.reduceToNat, Int.reducePow, Int.reduceLT, Int.reduceLE, Int.reduceAdd, Int.reduceSub, Int.reduceMul, Int.reduceEq, Int.reduceNe, ic, i9, hwk]
                refine IdxE_1 _ (by rw [Int.toNat_natCast]; exact esk) (by simp) ?_
                simp -implicitDefEqProofs -proj only [go_sem, Nat.reduceBEq, Nat.reduceLT, Nat.reduceLeDiff, Nat.reduceAdd, Nat.reduceMul, ↓reduceIte, Int.reduceToNat, Int.reducePow, Int.reduceLT, Int.reduceLE, Int.reduceAdd, Int.reduceSub, Int.reduceMul, Int.reduceEq, Int.reduceNe, i9, ic, hwk]
                refine ElemA_at _ efk evk ?_
                simp -implicitDefEqProofs -proj only [go_sem, Nat.reduceBEq, Nat.reduceLT, Nat.reduceLeDiff, Nat.reduceAdd, Nat.reduceMul, ↓reduceIte, Int.reduceToNat, Int.reducePow, Int.reduceLT, Int.reduceLE, Int.reduceAdd, Int.reduceSub, Int.reduceMul, Int.reduceEq, Int.reduceNe, i9, ic, hwk, wk4, hSTl]
                (repeat' (with_reducible refine VC_intro ?_ (fun h => ?_); (focus first | decide | omega); clear h; try simp -implicitDefEqProofs -proj only [go_sem, Nat.reduceBEq, Nat.reduceLT, Nat.reduceLeDiff, Nat.reduceAdd, Nat.reduceMul, ↓reduceIte, Int.reduceToNat, Int.reducePow, Int.reduceLT, Int.reduceLE, Int.reduceAdd, Int.reduceSub, Int.reduceMul, Int.reduceEq, Int.reduceNe, hSTl]))
                try simp -implicitDefEqProofs -proj only [go_sem, Nat.reduceBEq, Nat.reduceLT, Nat.reduceLeDiff, Nat.reduceAdd, Nat.reduceMul, ↓reduceIte, Int.reduceToNat, Int.reducePow, Int.reduceLT, Int.reduceLE, Int.reduceAdd, Int.reduceSub, Int.reduceMul, Int.reduceEq, Int.reduceNe, ic, i9, hwk, wk4]
                refine IdxE_1 _ (by rw [Int.toNat_natCast]; exact esp) (by simp) ?_
                simp -implicitDefEqProofs -proj only [go_sem, Nat.reduceBEq, Nat.reduceLT, Nat.reduceLeDiff, Nat.reduceAdd, Nat.reduceMul, ↓reduceIte, Int.reduceToNat, Int.reducePow, Int.reduceLT, Int.reduceLE, Int.reduceAdd, Int.reduceSub, Int.reduceMul, Int.reduceEq, Int.reduceNe, i9, ic]
                refine ElemA_at _ efp evp ?_
                by_cases t2 : S[k].v = (S[k - 1]'(by omega)).v + r
                rotate_left
                · rw [if_neg (fun h => t2 (by omega))] at hkn
                  have hkn' : n = k := by omega
                  subst hkn'
                  simp -implicitDefEqProofs -proj only [go_sem, Nat.reduceBEq, Nat.reduceLT, Nat.reduceLeDiff, Nat.reduceAdd, Nat.reduceMul, ↓reduceIte, Int.reduceToNat, Int.reducePow, Int.reduceLT, Int.reduceLE, Int.reduceAdd, Int.reduceSub, Int.reduceMul, Int.reduceEq, Int.reduceNe, i9, i7, i2, ic, wk3, decide_eq_false t2, if_neg (show ¬ (4 : Nat) = 5 by decide)]
                  refine AllocR_intro (fun bs hs' => ?_)
                  replace hs' : H2 bs = none := hs'
                  simp -implicitDefEqProofs -proj only [go_sem, Nat.reduceBEq, Nat.reduceLT, Nat.reduceLeDiff, Nat.reduceAdd, Nat.reduceMul, ↓reduceIte, Int.reduceToNat, Int.reducePow, Int.reduceLT, Int.reduceLE, Int.reduceAdd, Int.reduceSub, Int.reduceMul, Int.reduceEq, Int.reduceNe]
                  refine AppendA_grow (xs := rowG G) (y := [.int .i64 S[0].f, .int .i64 S[0].v, .int .i64 w, .int .i64 r, .int .i64 n]) (t := 56) (capc := 1) [(b9, .box 56 [i64 S[0].f, i64 S[0].v, i64 w, i64 r, i64 n]), (b7, .box 59 [i64 ((l.length : Int) - 1), rowV 5 5 d dap (rowG G)]), (b2, .box 59 [i64 0, .nilsl 5]), (c, .row 3 1 cap (rowI ST))] rfl (AllH_upd hs' hallk) hndk (by simp -implicitDefEqProofs -proj only [go_sem, Nat.reduceBEq, Nat.reduceLT, Nat.reduceLeDiff, Nat.reduceAdd, Nat.reduceMul, ↓reduceIte, Int.reduceToNat, Int.reducePow, Int.reduceLT, Int.reduceLE, Int.reduceAdd, Int.reduceSub, Int.reduceMul, Int.reduceEq, Int.reduceNe]) (by rw [rowG_len]; omega) (by rw [rowG_len]; omega) (fun H' d' dap' ha hk => ?_)
                  rw [show rowG G ++ [[.int .i64 S[0].f, .int .i64 S[0].v, .int .i64 w, .int .i64 r, .int .i64 n]] = rowG (G ++ [(⟨S[0].f, S[0].v, w, r, (n : Int)⟩ : Grp)]) from rowG_snoc (g := (⟨S[0].f, S[0].v, w, r, (n : Int)⟩ : Grp))] at ha hk
                  have hne2 : rowG (G ++ [(⟨S[0].f, S[0].v, w, r, (n : Int)⟩ : Grp)]) ≠ [] := by simp [rowG]
                  obtain ⟨hrow', q9, q7, q2, qc, _⟩ := AllH_app.1 ha
                  have hwc : IntKind.i64.wrap ((i : Int) + (n : Int)) = ((i + n : Nat) : Int) := by rw [IntKind.wrap_i64]; omega
                  simp -implicitDefEqProofs -proj only [go_sem, Nat.reduceBEq, Nat.reduceLT, Nat.reduceLeDiff, Nat.reduceAdd, Nat.reduceMul, ↓reduceIte, Int.reduceToNat, Int.reducePow, Int.reduceLT, Int.reduceLE, Int.reduceAdd, Int.reduceSub, Int.reduceMul, Int.reduceEq, Int.reduceNe, q9, q7, p1, p2, hwc]
                  refine LoopQ_k ⟨i + n, d', dap', G ++ [(⟨S[0].f, S[0].v, w, r, (n : Int)⟩ : Grp)]⟩ ⟨by show i + n ≤ R.length; omega, by simp -implicitDefEqProofs only [ty_i, ty_G]; rw [hG, hstep, hdr]; simp, by simp -implicitDefEqProofs only [ty_i, ty_G, List.length_append, List.length_singleton]; omega, ?_⟩ (by show R.length - (i + n) < R.length - i; omega) rfl ?_ ?_
                  · simp -implicitDefEqProofs only [keys, rofB, ty_d, ty_dap, ty_G, List.map_append, List.map_cons, List.map_nil] at hk ⊢
                    exact nodup_cut hk
                  · simp -implicitDefEqProofs -proj only [go_sem, Nat.reduceBEq, Nat.reduceLT, Nat.reduceLeDiff, Nat.reduceAdd, Nat.reduceMul, ↓reduceIte, Int.reduceToNat, Int.reducePow, Int.reduceLT, Int.reduceLE, Int.reduceAdd, Int.reduceSub, Int.reduceMul, Int.reduceEq, Int.reduceNe, AllAt, ty_i, hSTl]
                  · refine AllH_app.2 ⟨drop_all hrow' ?_, ?_⟩
                    · simp -implicitDefEqProofs only [keys, List.map_append, List.nodup_append, List.map_cons, List.map_nil, List.mem_cons] at hk
                      exact fun hm => hk.2.2 _ hm _ (.inr (.inl rfl)) rfl
                    · have hnk : ¬ b7 = b2 ∧ ¬ b7 = c := ⟨m1, m3⟩
                      simp -implicitDefEqProofs -proj only [go_sem, Nat.reduceBEq, Nat.reduceLT, Nat.reduceLeDiff, Nat.reduceAdd, Nat.reduceMul, ↓reduceIte, Int.reduceToNat, Int.reducePow, Int.reduceLT, Int.reduceLE, Int.reduceAdd, Int.reduceSub, Int.reduceMul, Int.reduceEq, Int.reduceNe, AllH, ty_d, ty_dap, ty_G, q2, qc, m1, m3, rowV_ne hne2, show (rowG (G ++ [(⟨S[0].f, S[0].v, w, r, (n : Int)⟩ : Grp)])).length = (rowG G).length + 1 by simp [rowG]]
                · rw [if_pos ⟨by omega, by omega⟩] at hkn
                  simp -implicitDefEqProofs -proj only [go_sem, Nat.reduceBEq, Nat.reduceLT, Nat.reduceLeDiff, Nat.reduceAdd, Nat.reduceMul, ↓reduceIte, Int.reduceToNat, Int.reducePow, Int.reduceLT, Int.reduceLE, Int.reduceAdd, Int.reduceSub, Int.reduceMul, Int.reduceEq, Int.reduceNe, i9, i7, i2, ic, wk3, decide_eq_true t2]
                  refine LoopQ_k (k + 1) (hnext (by omega) hkn) (by omega) rfl ?_ ?_
                  · simp -implicitDefEqProofs -proj only [go_sem, Nat.reduceBEq, Nat.reduceLT, Nat.reduceLeDiff, Nat.reduceAdd, Nat.reduceMul, ↓reduceIte, Int.reduceToNat, Int.reducePow, Int.reduceLT, Int.reduceLE, Int.reduceAdd, Int.reduceSub, Int.reduceMul, Int.reduceEq, Int.reduceNe, AllAt]
                  · refine AllH_app.2 ⟨drop_all hrow2 ?_, ?_⟩
                    · exact fresh_keys hb9 hrow1
                    · simp -implicitDefEqProofs -proj only [go_sem, Nat.reduceBEq, Nat.reduceLT, Nat.reduceLeDiff, Nat.reduceAdd, Nat.reduceMul, ↓reduceIte, Int.reduceToNat, Int.reducePow, Int.reduceLT, Int.reduceLE, Int.reduceAdd, Int.reduceSub, Int.reduceMul, Int.reduceEq, Int.reduceNe, AllH, i7, i2, ic, p1, p2, p3, p4, p5, p6, i64_succ (show k < 9223372036854775807 by omega)]
              · have : S.drop k = [] := List.drop_eq_nil_of_le (by omega)
                rw [this] at hkn
                have hkn' : n = k := by have : runLen w r (S[k - 1]'(by omega)) [] = 0 := rfl; omega
                subst hkn'
                simp -implicitDefEqProofs -proj only [go_sem, Nat.reduceBEq, Nat.reduceLT, Nat.reduceLeDiff, Nat.reduceAdd, Nat.reduceMul, ↓reduceIte, Int.reduceToNat, Int.reducePow, Int.reduceLT, Int.reduceLE, Int.reduceAdd, Int.reduceSub, Int.reduceMul, Int.reduceEq, Int.reduceNe, hH2, i9, i7, i2, ic, rowI_len, hSTl, hwk, decide_eq_false (show ¬ ((i + n : Nat) : Int) < R.length by omega)]
                refine AllocR_intro (fun bs hs' => ?_)
                replace hs' : H2 bs = none := hs'
                simp -implicitDefEqProofs -proj only [go_sem, Nat.reduceBEq, Nat.reduceLT, Nat.reduceLeDiff, Nat.reduceAdd, Nat.reduceMul, ↓reduceIte, Int.reduceToNat, Int.reducePow, Int.reduceLT, Int.reduceLE, Int.reduceAdd, Int.reduceSub, Int.reduceMul, Int.reduceEq, Int.reduceNe]
                refine AppendA_grow (xs := rowG G) (y := [.int .i64 S[0].f, .int .i64 S[0].v, .int .i64 w, .int .i64 r, .int .i64 n]) (t := 56) (capc := 1) [(b9, .box 56 [i64 S[0].f, i64 S[0].v, i64 w, i64 r, i64 n]), (b7, .box 59 [i64 ((l.length : Int) - 1), rowV 5 5 d dap (rowG G)]), (b2, .box 59 [i64 0, .nilsl 5]), (c, .row 3 1 cap (rowI ST))] rfl (AllH_upd hs' hallk) hndk (by simp -implicitDefEqProofs -proj only [go_sem, Nat.reduceBEq, Nat.reduceLT, Nat.reduceLeDiff, Nat.reduceAdd, Nat.reduceMul, ↓reduceIte, Int.reduceToNat, Int.reducePow, Int.reduceLT, Int.reduceLE, Int.reduceAdd, Int.reduceSub, Int.reduceMul, Int.reduceEq, Int.reduceNe]) (by rw [rowG_len]; omega) (by rw [rowG_len]; omega) (fun H' d' dap' ha hk => ?_)
                rw [show rowG G ++ [[.int .i64 S[0].f, .int .i64 S[0].v, .int .i64 w, .int .i64 r, .int .i64 n]] = rowG (G ++ [(⟨S[0].f, S[0].v, w, r, (n : Int)⟩ : Grp)]) from rowG_snoc (g := (⟨S[0].f, S[0].v, w, r, (n : Int)⟩ : Grp))] at ha hk
                have hne2 : rowG (G ++ [(⟨S[0].f, S[0].v, w, r, (n : Int)⟩ : Grp)]) ≠ [] := by simp [rowG]
                obtain ⟨hrow', q9, q7, q2, qc, _⟩ := AllH_app.1 ha
                have hwc : IntKind.i64.wrap ((i : Int) + (n : Int)) = ((i + n : Nat) : Int) := by rw [IntKind.wrap_i64]; omega
                simp -implicitDefEqProofs -proj only [go_sem, Nat.reduceBEq, Nat.reduceLT, Nat.reduceLeDiff, Nat.reduceAdd, Nat.reduceMul, ↓reduceIte, Int.reduceToNat, Int.reducePow, Int.reduceLT, Int.reduceLE, Int.reduceAdd, Int.reduceSub, Int.reduceMul, Int.reduceEq, Int.reduceNe, q9, q7, p1, p2, hwc]
                refine LoopQ_k ⟨i + n, d', dap', G ++ [(⟨S[0].f, S[0].v, w, r, (n : Int)⟩ : Grp)]⟩ ⟨by show i + n ≤ R.length; omega, by simp -implicitDefEqProofs only [ty_i, ty_G]; rw [hG, hstep, hdr]; simp, by simp -implicitDefEqProofs only [ty_i, ty_G, List.length_append, List.length_singleton]; omega, ?_⟩ (by show R.length - (i + n) < R.length - i; omega) rfl ?_ ?_
                · simp -implicitDefEqProofs only [keys, rofB, ty_d, ty_dap, ty_G, List.map_append, List.map_cons, List.map_nil] at hk ⊢
                  exact nodup_cut hk
                · simp -implicitDefEqProofs -proj only [go_sem, Nat.reduceBEq, Nat.reduceLT, Nat.reduceLeDiff, Nat.reduceAdd, Nat.reduceMul, ↓reduceIte, Int.reduceToNat, Int.reducePow, Int.reduceLT, Int.reduceLE, Int.reduceAdd, Int.reduceSub, Int.reduceMul, Int.reduceEq, Int.reduceNe, AllAt, ty_i, hSTl]
                · refine AllH_app.2 ⟨drop_all hrow' ?_, ?_⟩
                  · simp -implicitDefEqProofs only [keys, List.map_append, List.nodup_append, List.map_cons, List.map_nil, List.mem_cons] at hk
                    exact fun hm => hk.2.2 _ hm _ (.inr (.inl rfl)) rfl
                  · have hnk : ¬ b7 = b2 ∧ ¬ b7 = c := ⟨m1, m3⟩
                    simp -implicitDefEqProofs -proj only [go_sem, Nat.reduceBEq, Nat.reduceLT, Nat.reduceLeDiff, Nat.reduceAdd, Nat.reduceMul, ↓reduceIte, Int.reduceToNat, Int.reducePow, Int.reduceLT, Int.reduceLE, Int.reduceAdd, Int.reduceSub, Int.reduceMul, Int.reduceEq, Int.reduceNe, AllH, ty_d, ty_dap, ty_G, q2, qc, m1, m3, rowV_ne hne2, show (rowG (G ++ [(⟨S[0].f, S[0].v, w, r, (n : Int)⟩ : Grp)])).length = (rowG G).length + 1 by simp [rowG]]
          · have hgq : grpOf S[0] (S.drop 1) = (⟨S[0].f, S[0].v, 0, 0, 1⟩, 1) := by rw [List.drop_eq_nil_of_le (by omega)]; rfl
            rw [hgq] at hstep
            simp -implicitDefEqProofs -proj only [go_sem, Nat.reduceBEq, Nat.reduceLT, Nat.reduceLeDiff, Nat.reduceAdd, Nat.reduceMul, ↓reduceIte, Int.reduceToNat, Int.reducePow, Int.reduceLT, Int.reduceLE, Int.reduceAdd, Int.reduceSub, Int.reduceMul, Int.reduceEq, Int.reduceNe, p1, p2, p3, p4, p5, p6, j7, j2, jc, rowI_len, hSTl, hw1, decide_eq_false (show ¬ ((i + 1 : Nat) : Int) < R.length by omega)]
            refine AllocR_intro (fun bs hs' => ?_)
            replace hs' : upd H1 b9 _ bs = none := hs'
            simp -implicitDefEqProofs -proj only [go_sem, Nat.reduceBEq, Nat.reduceLT, Nat.reduceLeDiff, Nat.reduceAdd, Nat.reduceMul, ↓reduceIte, Int.reduceToNat, Int.reducePow, Int.reduceLT, Int.reduceLE, Int.reduceAdd, Int.reduceSub, Int.reduceMul, Int.reduceEq, Int.reduceNe]
            refine AppendA_grow (xs := rowG G) (y := [.int .i64 S[0].f, .int .i64 S[0].v, .int .i64 0, .int .i64 0, .int .i64 1]) (t := 56) (capc := 1) [(b9, .box 56 [i64 S[0].f, i64 S[0].v, i64 0, i64 0, i64 1]), (b7, .box 59 [i64 ((l.length : Int) - 1), rowV 5 5 d dap (rowG G)]), (b2, .box 59 [i64 0, .nilsl 5]), (c, .row 3 1 cap (rowI ST))] rfl (AllH_upd hs' (AllH_app.2 ⟨AllH_upd hb9 hrow1, upd_eq, AllH_upd hb9 (AllH_app.1 hall').2⟩)) (hmid b9 _ hb9) (by simp -implicitDefEqProofs -proj only [go_sem, Nat.reduceBEq, Nat.reduceLT, Nat.reduceLeDiff, Nat.reduceAdd, Nat.reduceMul, ↓reduceIte, Int.reduceToNat, Int.reducePow, Int.reduceLT, Int.reduceLE, Int.reduceAdd, Int.reduceSub, Int.reduceMul, Int.reduceEq, Int.reduceNe]) (by rw [rowG_len]; omega) (by rw [rowG_len]; omega) (fun H' d' dap' ha hk => ?_)
            rw [show rowG G ++ [[.int .i64 S[0].f, .int .i64 S[0].v, .int .i64 0, .int .i64 0, .int .i64 1]] = rowG (G ++ [(⟨S[0].f, S[0].v, 0, 0, 1⟩ : Grp)]) from rowG_snoc (g := (⟨S[0].f, S[0].v, 0, 0, 1⟩ : Grp))] at ha hk
            have hne2 : rowG (G ++ [(⟨S[0].f, S[0].v, 0, 0, 1⟩ : Grp)]) ≠ [] := by simp [rowG]
            obtain ⟨hrow', q9, q7, q2, qc, _⟩ := AllH_app.1 ha
            have hwc : IntKind.i64.wrap ((i : Int) + 1) = ((i + 1 : Nat) : Int) := by rw [IntKind.wrap_i64]; omega
            simp -implicitDefEqProofs -proj only [go_sem, Nat.reduceBEq, Nat.reduceLT, Nat.reduceLeDiff, Nat.reduceAdd, Nat.reduceMul, ↓reduceIte, Int.reduceToNat, Int.reducePow, Int.reduceLT, Int.reduceLE, Int.reduceAdd, Int.reduceSub, Int.reduceMul, Int.reduceEq, Int.reduceNe, q9, q7, p1, p2, hwc]
            refine LoopQ_k ⟨i + 1, d', dap', G ++ [(⟨S[0].f, S[0].v, 0, 0, 1⟩ : Grp)]⟩ ⟨by show i + 1 ≤ R.length; omega, by simp -implicitDefEqProofs only [ty_i, ty_G]; rw [hG, hstep, hdr]; simp, by simp -implicitDefEqProofs only [ty_i, ty_G, List.length_append, List.length_singleton]; omega, ?_⟩ (by show R.length - (i + 1) < R.length - i; omega) rfl ?_ ?_
            · simp -implicitDefEqProofs only [keys, rofB, ty_d, ty_dap, ty_G, List.map_append, List.map_cons, List.map_nil] at hk ⊢
              exact nodup_cut hk
            · simp -implicitDefEqProofs -proj only [go_sem, Nat.reduceBEq, Nat.reduceLT, Nat.reduceLeDiff, Nat.reduceAdd, Nat.reduceMul, ↓reduceIte, Int.reduceToNat, Int.reducePow, Int.reduceLT, Int.reduceLE, Int.reduceAdd, Int.reduceSub, Int.reduceMul, Int.reduceEq, Int.reduceNe, AllAt, ty_i, hSTl]
            · refine AllH_app.2 ⟨drop_all hrow' ?_, ?_⟩
              · simp -implicitDefEqProofs only [keys, List.map_append, List.nodup_append, List.map_cons, List.map_nil, List.mem_cons] at hk
                exact fun hm => hk.2.2 _ hm _ (.inr (.inl rfl)) rfl
              · have hnk : ¬ b7 = b2 ∧ ¬ b7 = c := ⟨m1, m3⟩
                simp -implicitDefEqProofs -proj only [go_sem, Nat.reduceBEq, Nat.reduceLT, Nat.reduceLeDiff, Nat.reduceAdd, Nat.reduceMul, ↓reduceIte, Int.reduceToNat, Int.reducePow, Int.reduceLT, Int.reduceLE, Int.reduceAdd, Int.reduceSub, Int.reduceMul, Int.reduceEq, Int.reduceNe, AllH, ty_d, ty_dap, ty_G, q2, qc, m1, m3, rowV_ne hne2, show (rowG (G ++ [(⟨S[0].f, S[0].v, 0, 0, 1⟩ : Grp)])).length = (rowG G).length + 1 by simp [rowG]]
        · have hi'' : i = R.length := by omega
          subst hi''
          rw [List.drop_length, groups_nil, List.append_nil] at hG
          simp -implicitDefEqProofs -proj only [go_sem, Nat.reduceBEq, Nat.reduceLT, Nat.reduceLeDiff, Nat.reduceAdd, Nat.reduceMul, ↓reduceIte, Int.reduceToNat, Int.reducePow, Int.reduceLT, Int.reduceLE, Int.reduceAdd, Int.reduceSub, Int.reduceMul, Int.reduceEq, Int.reduceNe, ty_i, ty_d, ty_dap, ty_G, hH1, rowI_len, hSTl, decide_eq_false (show ¬ (R.length : Int) < R.length by omega), j7, j2, m1, m2]
          rw [hG]
          refine new_tup2 (new_curve (rowV_new (drop_all hrow1 ?_) rowG_scal))
          simp -implicitDefEqProofs only [keys, List.map_append, List.nodup_append, List.map_cons, List.map_nil, List.mem_cons] at hn'
          exact fun hm => hn'.2.2 _ hm _ (.inr (.inl rfl)) rfl
theorem On1_ok (s : Seg DayV) (x : Int) : DataW Try.prog f_lookup_On_1 [segV s, i64 x] (i64 (cmpI s.t x)) := by
  refine CallW_intro comp_lookup_On_1 (by simp) ?_
  simp -implicitDefEqProofs -proj only [go_sem, Nat.reduceBEq, Nat.reduceLT, Nat.reduceLeDiff, Nat.reduceAdd, Nat.reduceMul, ↓reduceIte, Int.reduceToNat, Int.reducePow, Int.reduceLT, Int.reduceLE, Int.reduceAdd, Int.reduceSub, Int.reduceMul, Int.reduceEq, Int.reduceNe]
  refine AllocA_intro (fun b2 hb2 => ?_)
  simp -implicitDefEqProofs -proj only [go_sem, Nat.reduceBEq, Nat.reduceLT, Nat.reduceLeDiff, Nat.reduceAdd, Nat.reduceMul, ↓reduceIte, Int.reduceToNat, Int.reducePow, Int.reduceLT, Int.reduceLE, Int.reduceAdd, Int.reduceSub, Int.reduceMul, Int.reduceEq, Int.reduceNe]
  refine CallA_pure (Compare_ok _ _) ?_
  simp -implicitDefEqProofs -proj only [go_sem, Nat.reduceBEq, Nat.reduceLT, Nat.reduceLeDiff, Nat.reduceAdd, Nat.reduceMul, ↓reduceIte, Int.reduceToNat, Int.reducePow, Int.reduceLT, Int.reduceLE, Int.reduceAdd, Int.reduceSub, Int.reduceMul, Int.reduceEq, Int.reduceNe]
  exact LendV_eq rfl
def idxX (S : List (Seg DayV)) (x : Int) : Nat := (S.takeWhile fun r => decide (r.t < x)).length
theorem idxX_eq {l : List (Seg DayV)} {x : Int} {i : Nat} (hi : i ≤ l.length) (h1 : ∀ (j : Nat) (h : j < l.length), j < i → l[j].t < x) (h2 : ∀ (h : i < l.length), x ≤ l[i].t) : idxX l x = i := by
  unfold idxX
  induction l generalizing i with
  | nil => simp at hi; simp [hi]
  | cons r l ih =>
    cases i with
    | zero =>
      have := h2 (by simp)
      simp -implicitDefEqProofs only [List.getElem_cons_zero] at this
      rw [List.takeWhile_cons_of_neg (by simp; omega)]
      rfl
    | succ i =>
      have := h1 0 (by simp) (by omega)
      simp -implicitDefEqProofs only [List.getElem_cons_zero] at this
      rw [List.takeWhile_cons_of_pos (by simpa using this), List.length_cons]
      rw [ih (by simpa using hi) (fun j h hj => h1 (j + 1) (by simpa using h) (by omega)) (fun h => h2 (by simpa using h))]
def SortedX (l : List (Seg DayV)) : Prop := ∀ (j k : Nat) (h1 : j < l.length) (h2 : k < l.length), j ≤ k → l[j].t ≤ l[k].t
theorem FwdB.sortedX {val : Int → DayV} {lo hi : Int} {S : List (Seg DayV)} (h : FwdB val lo hi S) : SortedX S := by
  intro j k h1 h2 hjk
  by_cases e : j = k
  · subst e; exact Int.le_refl _
  · have a := h.apart j k _ _ (by omega) (List.getElem?_eq_getElem h1) (List.getElem?_eq_getElem h2)
    have b := (h.nth k _ (List.getElem?_eq_getElem h2)).2.1
    omega
theorem BinSearchX_ok {l : List (Seg DayV)} {x : Int} {f : FuncId} (hf : ∀ r : Seg DayV, DataW Try.prog f [segV r, i64 x] (i64 (cmpI r.t x))) (hl : l.length ≤ 1000000) (hs : SortedX l) : ∃ u, DataW Try.prog f_slices_BinarySearchFunc_api_Span_int [slX l, i64 x, .fn f []] (.tup [i64 (idxX l x), bv u]) := by
  refine ⟨decide (∃ h : idxX l x < l.length, l[idxX l x].t = x), ?_⟩
  refine CallW_intro comp_slices_BinarySearchFunc_api_Span_int (by simp) ?_
  simp -implicitDefEqProofs -proj only [go_sem, Nat.reduceBEq, Nat.reduceLT, Nat.reduceLeDiff, Nat.reduceAdd, Nat.reduceMul, ↓reduceIte, Int.reduceToNat, Int.reducePow, Int.reduceLT, Int.reduceLE, Int.reduceAdd, Int.reduceSub, Int.reduceMul, Int.reduceEq, Int.reduceNe, rowX_len]
  refine LoopA_k (fun p : BsX => p.i ≤ p.j ∧ p.j ≤ l.length ∧ (∀ (k : Nat) (h : k < l.length), k < p.i → l[k].t < x) ∧ (∀ (k : Nat) (h : k < l.length), p.j ≤ k → x ≤ l[k].t)) 49 (fun p => [(0, slX l), (1, i64 x), (2, .fn f []), (8, i64 l.length), (9, i64 p.i), (10, i64 p.j)]) (fun _ => []) (fun p => p.j - p.i) ⟨0, l.length⟩ ⟨Nat.zero_le _, Nat.le_refl _, fun k _ h => absurd h (Nat.not_lt_zero _), fun k h h' => absurd h (Nat.not_lt.2 h')⟩ rfl ?_ ?_ ?_
  · simp -implicitDefEqProofs -proj only [go_sem, Nat.reduceBEq, Nat.reduceLT, Nat.reduceLeDiff, Nat.reduceAdd, Nat.reduceMul, ↓reduceIte, Int.reduceToNat, Int.reducePow, Int.reduceLT, Int.reduceLE, Int.reduceAdd, Int.reduceSub, Int.reduceMul, Int.reduceEq, Int.reduceNe, AllAt, rowX_len]
  · trivial
  · rintro ⟨i, j⟩ ⟨h1, h2, h3, h4⟩
    simp -implicitDefEqProofs only [] at h1 h2 h3 h4
    by_cases h : i < j
    · have hh := half (i := i) (j := j) (by omega)
      have hm : (i + j) / 2 < l.length := by omega
      have hm1 : i ≤ (i + j) / 2 ∧ (i + j) / 2 < j := by omega
      obtain ⟨m, hme⟩ : ∃ m, (i + j) / 2 = m := ⟨_, rfl⟩
      rw [hme] at hh hm hm1
      have e1 := rowX_at hm
      have hlo : l[m].t < x → ∀ (k : Nat) (h : k < l.length), k < m + 1 → l[k].t < x := fun h0 k hk hkm => Int.lt_of_le_of_lt (hs k m hk hm (by omega)) h0
      have hhi : ¬ l[m].t < x → ∀ (k : Nat) (h : k < l.length), m ≤ k → x ≤ l[k].t := fun h0 k hk hkm => Int.le_trans (by omega) (hs m k hm hk hkm)
      have hcmp := hf l[m]
      generalize l[m] = r at *
      simp -implicitDefEqProofs -proj only [go_sem, Nat.reduceBEq, Nat.reduceLT, Nat.reduceLeDiff, Nat.reduceAdd, Nat.reduceMul, ↓reduceIte, Int.reduceToNat, Int.reducePow, Int.reduceLT, Int.reduceLE, Int.reduceAdd, Int.reduceSub, Int.reduceMul, Int.reduceEq, Int.reduceNe, bsx_i, bsx_j, decide_eq_true (show (i : Int) < j by omega), hh]
      (repeat' (with_reducible refine VC_intro ?_ (fun h => ?_); (focus first | decide | omega); clear h; try simp -implicitDefEqProofs -proj only [go_sem, Nat.reduceBEq, Nat.reduceLT, Nat.reduceLeDiff, Nat.reduceAdd, Nat.reduceMul, ↓reduceIte, Int.reduceToNat, Int.reducePow, Int.reduceLT, Int.reduceLE, Int.reduceAdd, Int.reduceSub, Int.reduceMul, Int.reduceEq, Int.reduceNe, hh]))
      refine ElemA_at _ (by omega) e1 ?_
      simp -implicitDefEqProofs -proj only [go_sem, Nat.reduceBEq, Nat.reduceLT, Nat.reduceLeDiff, Nat.reduceAdd, Nat.reduceMul, ↓reduceIte, Int.reduceToNat, Int.reducePow, Int.reduceLT, Int.reduceLE, Int.reduceAdd, Int.reduceSub, Int.reduceMul, Int.reduceEq, Int.reduceNe, hh]
      refine CallA_pure hcmp ?_
      by_cases hc : r.t < x
      · simp -implicitDefEqProofs -proj only [go_sem, Nat.reduceBEq, Nat.reduceLT, Nat.reduceLeDiff, Nat.reduceAdd, Nat.reduceMul, ↓reduceIte, Int.reduceToNat, Int.reducePow, Int.reduceLT, Int.reduceLE, Int.reduceAdd, Int.reduceSub, Int.reduceMul, Int.reduceEq, Int.reduceNe, decide_eq_true (cmpI_lt.2 hc)]
        refine LoopQ_k ⟨m + 1, j⟩ ⟨by show m + 1 ≤ j; omega, h2, hlo hc, h4⟩ (by show j - (m + 1) < j - i; omega) rfl ?_ trivial
        simp -implicitDefEqProofs -proj only [go_sem, Nat.reduceBEq, Nat.reduceLT, Nat.reduceLeDiff, Nat.reduceAdd, Nat.reduceMul, ↓reduceIte, Int.reduceToNat, Int.reducePow, Int.reduceLT, Int.reduceLE, Int.reduceAdd, Int.reduceSub, Int.reduceMul, Int.reduceEq, Int.reduceNe, AllAt, i64_succ (show m < 9223372036854775807 by omega)]
      · simp -implicitDefEqProofs -proj only [go_sem, Nat.reduceBEq, Nat.reduceLT, Nat.reduceLeDiff, Nat.reduceAdd, Nat.reduceMul, ↓reduceIte, Int.reduceToNat, Int.reducePow, Int.reduceLT, Int.reduceLE, Int.reduceAdd, Int.reduceSub, Int.reduceMul, Int.reduceEq, Int.reduceNe, decide_eq_false (fun h => hc (cmpI_lt.1 h))]
        refine LoopQ_k ⟨i, m⟩ ⟨hm1.1, by show m ≤ l.length; omega, h3, hhi hc⟩ (by show m - i < j - i; omega) rfl ?_ trivial
        simp -implicitDefEqProofs -proj only [go_sem, Nat.reduceBEq, Nat.reduceLT, Nat.reduceLeDiff, Nat.reduceAdd, Nat.reduceMul, ↓reduceIte, Int.reduceToNat, Int.reducePow, Int.reduceLT, Int.reduceLE, Int.reduceAdd, Int.reduceSub, Int.reduceMul, Int.reduceEq, Int.reduceNe, AllAt]
    · have hij : j = i := by omega
      subst hij
      have hix : idxX l x = j := idxX_eq h2 h3 (fun h => h4 j h (Nat.le_refl _))
      rw [hix]
      by_cases hin : j < l.length
      · have e1 := rowX_at hin
        have hcmp := hf l[j]
        have hd : decide (∃ h : j < l.length, l[j].t = x) = decide (cmpI l[j].t x = 0) := by
          rw [decide_eq_decide, cmpI_eq]
          exact ⟨fun ⟨_, h⟩ => h, fun h => ⟨hin, h⟩⟩
        rw [hd]
        generalize l[j] = r at *
        simp -implicitDefEqProofs -proj only [go_sem, Nat.reduceBEq, Nat.reduceLT, Nat.reduceLeDiff, Nat.reduceAdd, Nat.reduceMul, ↓reduceIte, Int.reduceToNat, Int.reducePow, Int.reduceLT, Int.reduceLE, Int.reduceAdd, Int.reduceSub, Int.reduceMul, Int.reduceEq, Int.reduceNe, bsx_i, bsx_j, decide_eq_false (show ¬ (j : Int) < j by omega), decide_eq_true (show (j : Int) < l.length by omega)]
        refine ElemA_at _ (by omega) e1 ?_
        simp -implicitDefEqProofs -proj only [go_sem, Nat.reduceBEq, Nat.reduceLT, Nat.reduceLeDiff, Nat.reduceAdd, Nat.reduceMul, ↓reduceIte, Int.reduceToNat, Int.reducePow, Int.reduceLT, Int.reduceLE, Int.reduceAdd, Int.reduceSub, Int.reduceMul, Int.reduceEq, Int.reduceNe]
        refine CallA_pure hcmp ?_
        simp -implicitDefEqProofs -proj only [go_sem, Nat.reduceBEq, Nat.reduceLT, Nat.reduceLeDiff, Nat.reduceAdd, Nat.reduceMul, ↓reduceIte, Int.reduceToNat, Int.reducePow, Int.reduceLT, Int.reduceLE, Int.reduceAdd, Int.reduceSub, Int.reduceMul, Int.reduceEq, Int.reduceNe]
        exact LendV_eq rfl
      · have hd : decide (∃ h : j < l.length, l[j].t = x) = false := decide_eq_false (fun ⟨h, _⟩ => hin h)
        rw [hd]
        simp -implicitDefEqProofs -proj only [go_sem, Nat.reduceBEq, Nat.reduceLT, Nat.reduceLeDiff, Nat.reduceAdd, Nat.reduceMul, ↓reduceIte, Int.reduceToNat, Int.reducePow, Int.reduceLT, Int.reduceLE, Int.reduceAdd, Int.reduceSub, Int.reduceMul, Int.reduceEq, Int.reduceNe, bsx_i, bsx_j, decide_eq_false (show ¬ (j : Int) < j by omega), decide_eq_false (show ¬ (j : Int) < l.length by omega)]
        exact LendV_eq rfl
section
variable {cur : ByteArray} {f t : Int} {ms : List MeterX} {S : List (Seg DayV)} {val : Int → DayV} {lo hi d : Int}
abbrev noSeg : AV := .agg [i64 0, i64 0, i64 0, .d (.sl 2 [])]
theorem On_at (hl : S.length ≤ 1000000) (hs : SortedX S) : DataW Try.prog f_lookup_On [formV cur f t ms S, i64 d] (match S[idxX S d]? with | some r => if r.f ≤ d then .tup [segV r, bv true] else .tup [noSeg, bv false] | none => .tup [noSeg, bv false]) := by
  obtain ⟨u, h1⟩ := BinSearchX_ok (f := f_lookup_On_1) (fun r => On1_ok r d) hl hs
  have hno : ∀ H, LendV H (.tup [.agg [.d (.int .i64 0), .d (.int .i64 0), .d (.int .i64 0), .nilsl 2], bv false]) (.tup [noSeg, bv false]) := fun H => .tup _ _ rfl fun j u v e1 e2 => by
    match j with
    | 0 => cases e1; cases e2; exact lend_span (ls := []) (.nilsl _ _)
    | 1 => cases e1; cases e2; exact .refl _
    | j + 2 => cases e1
  refine CallW_intro comp_lookup_On (by simp) ?_
  simp -implicitDefEqProofs -proj only [go_sem, Nat.reduceBEq, Nat.reduceLT, Nat.reduceLeDiff, Nat.reduceAdd, Nat.reduceMul, ↓reduceIte, Int.reduceToNat, Int.reducePow, Int.reduceLT, Int.reduceLE, Int.reduceAdd, Int.reduceSub, Int.reduceMul, Int.reduceEq, Int.reduceNe]
  refine AllocA_intro (fun b2 hb2 => ?_)
  simp -implicitDefEqProofs -proj only [go_sem, Nat.reduceBEq, Nat.reduceLT, Nat.reduceLeDiff, Nat.reduceAdd, Nat.reduceMul, ↓reduceIte, Int.reduceToNat, Int.reducePow, Int.reduceLT, Int.reduceLE, Int.reduceAdd, Int.reduceSub, Int.reduceMul, Int.reduceEq, Int.reduceNe]
  refine AllocA_intro (fun b4 hb4 => ?_)
  replace hb4 : upd Heap.none b2 _ b4 = none := hb4
  obtain ⟨n1, n2⟩ := fresh_ne hb4 upd_eq
  simp -implicitDefEqProofs -proj only [go_sem, Nat.reduceBEq, Nat.reduceLT, Nat.reduceLeDiff, Nat.reduceAdd, Nat.reduceMul, ↓reduceIte, Int.reduceToNat, Int.reducePow, Int.reduceLT, Int.reduceLE, Int.reduceAdd, Int.reduceSub, Int.reduceMul, Int.reduceEq, Int.reduceNe, n1, n2]
  refine CallA_pure h1 ?_
  by_cases hin : idxX S d < S.length
  · have e1 := rowX_at hin
    rw [List.getElem?_eq_getElem hin]
    generalize S[idxX S d] = r at *
    generalize idxX S d = i at *
    simp -implicitDefEqProofs only []
    simp -implicitDefEqProofs -proj only [go_sem, Nat.reduceBEq, Nat.reduceLT, Nat.reduceLeDiff, Nat.reduceAdd, Nat.reduceMul, ↓reduceIte, Int.reduceToNat, Int.reducePow, Int.reduceLT, Int.reduceLE, Int.reduceAdd, Int.reduceSub, Int.reduceMul, Int.reduceEq, Int.reduceNe, n1, n2, rowX_len, decide_eq_true (show (i : Int) < S.length by omega)]
    refine ElemA_at _ (by omega) e1 ?_
    by_cases hf : r.f ≤ d
    · rw [if_pos hf]
      simp -implicitDefEqProofs -proj only [go_sem, Nat.reduceBEq, Nat.reduceLT, Nat.reduceLeDiff, Nat.reduceAdd, Nat.reduceMul, ↓reduceIte, Int.reduceToNat, Int.reducePow, Int.reduceLT, Int.reduceLE, Int.reduceAdd, Int.reduceSub, Int.reduceMul, Int.reduceEq, Int.reduceNe, n1, n2, decide_eq_true hf]
      refine ElemA_at _ (by omega) e1 ?_
      simp -implicitDefEqProofs -proj only [go_sem, Nat.reduceBEq, Nat.reduceLT, Nat.reduceLeDiff, Nat.reduceAdd, Nat.reduceMul, ↓reduceIte, Int.reduceToNat, Int.reducePow, Int.reduceLT, Int.reduceLE, Int.reduceAdd, Int.reduceSub, Int.reduceMul, Int.reduceEq, Int.reduceNe]
      exact LendV_eq rfl
    · rw [if_neg hf]
      simp -implicitDefEqProofs -proj only [go_sem, Nat.reduceBEq, Nat.reduceLT, Nat.reduceLeDiff, Nat.reduceAdd, Nat.reduceMul, ↓reduceIte, Int.reduceToNat, Int.reducePow, Int.reduceLT, Int.reduceLE, Int.reduceAdd, Int.reduceSub, Int.reduceMul, Int.reduceEq, Int.reduceNe, n1, n2, decide_eq_false hf]
      exact hno _
  · rw [List.getElem?_eq_none (by omega)]
    generalize idxX S d = i at *
    simp -implicitDefEqProofs only []
    simp -implicitDefEqProofs -proj only [go_sem, Nat.reduceBEq, Nat.reduceLT, Nat.reduceLeDiff, Nat.reduceAdd, Nat.reduceMul, ↓reduceIte, Int.reduceToNat, Int.reducePow, Int.reduceLT, Int.reduceLE, Int.reduceAdd, Int.reduceSub, Int.reduceMul, Int.reduceEq, Int.reduceNe, n1, n2, rowX_len, decide_eq_false (show ¬ (i : Int) < S.length by omega)]
    exact hno _
theorem On_in (hl : S.length ≤ 1000000) (h : FwdB val lo hi S) {i : Nat} {r : Seg DayV} (hr : S[i]? = some r) (h1 : r.f ≤ d) (h2 : d ≤ r.t) : DataW Try.prog f_lookup_On [formV cur f t ms S, i64 d] (.tup [segV r, bv true]) := by
  have hi := (List.getElem?_eq_some_iff.1 hr).1
  have := On_at (cur := cur) (f := f) (t := t) (ms := ms) (d := d) hl h.sortedX
  have hx : idxX S d = i := idxX_eq (by omega) (fun j hj hji => by
    have := h.apart j i _ _ hji (List.getElem?_eq_getElem hj) hr
    omega) (fun hi => by
    rw [List.getElem?_eq_getElem hi] at hr
    rw [Option.some.inj hr]; exact h2)
  rw [hx, hr] at this
  simp -implicitDefEqProofs only [] at this
  rwa [if_pos h1] at this
theorem On_out (hl : S.length ≤ 1000000) (h : FwdB val lo hi S) (hd : d < lo ∨ hi ≤ d) : DataW Try.prog f_lookup_On [formV cur f t ms S, i64 d] (.tup [noSeg, bv false]) := by
  have := On_at (cur := cur) (f := f) (t := t) (ms := ms) (d := d) hl h.sortedX
  cases e : S[idxX S d]? with
  | none => rw [e] at this; exact this
  | some r =>
    rw [e] at this
    simp -implicitDefEqProofs only [] at this
    have hn := h.nth _ r e
    have hi := (List.getElem?_eq_some_iff.1 e).1
    rcases hd with hd | hd
    · rwa [if_neg (by omega)] at this
    · exfalso
      have hx : idxX S d = S.length := idxX_eq (Nat.le_refl _) (fun j hj _ => by
        have := (h.nth j _ (List.getElem?_eq_getElem hj)).2.2.1
        omega) (fun hi => absurd hi (Nat.lt_irrefl _))
      omega
end
/-- A curve's number at a quantity. -/
def valO (l : List Int) (q : Int) : Option Int := if 0 ≤ q ∧ q < l.length then some (l.getD q.toNat 0) else none
theorem valO_G {l : List Int} {q : Int} : (if q < 0 ∨ (l.length : Int) - 1 < q then none else atG (gps l) q) = valO l q := by
  unfold valO
  by_cases h : 0 ≤ q ∧ q < l.length
  · have hq : q.toNat < l.length := by omega
    rw [if_neg (by omega), if_pos h]
    have := gps_at hq
    rw [Int.toNat_of_nonneg h.1] at this
    rw [this, List.getD_eq_getElem?_getD, List.getElem?_eq_getElem hq, Option.getD_some]
  · rw [if_pos (by omega), if_neg h]
theorem AtV_ok {l : List Int} (h : CurL l) {q : Int} (hq : Fit q) : DataW Try.prog f_curve_At [curL l, i64 q] (optR (valO l q)) := by
  have := CAt_ok (m := (l.length : Int) - 1) (gps_ok h) (by have := @gps_len l; have := h.2.1; omega) hq (by have := h.2.1; omega)
  rwa [valO_G] at this
def lookN (n : Int) (ls : List (List Int)) (b : List Int) : Nat → Option Int
  | 0 => some n
  | i + 1 => match lookN n ls b i, ls[i]?, b[i]? with
    | some m, some l, some q => (match valO l q with
      | some v => some (m + v)
      | none => none)
    | _, _, _ => none
theorem lookN_none {n : Int} {ls : List (List Int)} {b : List Int} {i : Nat} (h : lookN n ls b i = none) : ∀ k, lookN n ls b (i + k) = none
  | 0 => h
  | k + 1 => by rw [← Nat.add_assoc, lookN, lookN_none h k]
theorem lookN_fail {n : Int} {ls : List (List Int)} {b : List Int} {i : Nat} (hi : i < b.length) (h : lookN n ls b (i + 1) = none) : lookN n ls b b.length = none := by
  have := lookN_none h (b.length - (i + 1))
  rwa [show i + 1 + (b.length - (i + 1)) = b.length by omega] at this
def lookF (v : DayV) (b : List Int) : Int × Int := if b.length = v.2.length then (match lookN v.1 v.2 b b.length with
  | some n => (n, 0)
  | none => (0, 8)) else (0, 8)
/-- In bounds. -/
structure okV (v : DayV) : Prop where
  f : 0 ≤ v.1 ∧ v.1 ≤ 1152921504606846976
  n : v.2.length ≤ 4
  c : ∀ l ∈ v.2, CurL l
  b : ∀ l ∈ v.2, ∀ x ∈ l, -1152921504606846976 ≤ x ∧ x ≤ 1152921504606846976
theorem valO_mem {l : List Int} {q n : Int} (h : valO l q = some n) : n ∈ l := by
  unfold valO at h
  split at h
  · next hq =>
    cases h
    have : q.toNat < l.length := by omega
    rw [List.getD_eq_getElem?_getD, List.getElem?_eq_getElem this, Option.getD_some]
    exact List.getElem_mem this
  · cases h
theorem lookN_bnd {v : DayV} (hv : okV v) {b : List Int} : ∀ (i : Nat) n, lookN v.1 v.2 b i = some n → -1152921504606846976 * i ≤ n ∧ n ≤ 1152921504606846976 + 1152921504606846976 * i
  | 0, n, h => by cases h; have := hv.f; omega
  | i + 1, n, h => by
    rw [lookN] at h
    split at h
    · next m l q e1 e2 e3 =>
      split at h
      · next x e4 =>
        cases h
        have := lookN_bnd hv i m e1
        have := hv.b l (List.mem_of_getElem? e2) x (valO_mem e4)
        omega
      · cases h
    · cases h
theorem dayV_ok {c : CoreX} (hf : fitsC c) (d : Int) : okV (dayV c d) := by
  have hme := (fitsC.bnd hf.good).me
  refine ⟨?_, ?_, dayLs_cur hf d, fun l hl x hx => ?_⟩
  · have h := cost_zero hme d c.ms.length
    have hb := costQ_bnd hf (d := d) (b := List.replicate c.ms.length 0) ⟨List.length_replicate .., fun i h1 h2 => by
      have := (fitsC.bnd hf.good).mx i h2
      rw [List.getElem_replicate]; omega⟩
    rw [h] at hb
    exact hb
  · show (dayLs c d _).length ≤ 4
    rw [dayLs_len]; exact hf.good.hd.2.2.2.1
  · obtain ⟨i, hi, rfl⟩ := List.getElem_of_mem hl
    have hi' : i < c.ms.length := by
      have : (dayLs c d c.ms.length).length = c.ms.length := dayLs_len
      exact this ▸ hi
    have e : (dayV c d).2[i] = dayL c d i c.ms[i].mx := dayLs_at hi' hi'
    rw [e] at hx
    obtain ⟨q, hq, rfl⟩ := List.mem_map.1 hx
    have hq := List.mem_range.1 hq
    have := (fitsC.bnd hf.good).mx i hi'
    exact rise_bnd hf d hi' (by omega) (by omega) (Nat.le_refl _)
section
variable {cur : ByteArray} {f t : Int} {ms : List MeterX} {S : List (Seg DayV)} {val : Int → DayV} {lo hi d : Int} {b : List Int}
theorem LPrice_out (hl : S.length ≤ 1000000) (h : FwdB val lo hi S) (hd : d < lo ∨ hi ≤ d) : DataW Try.prog f_lookup_Price [formV cur f t ms S, i64 d, slI b] (.tup [i64 0, i64 8]) := by
  have hon := On_out (cur := cur) (f := f) (t := t) (ms := ms) hl h hd
  refine CallW_intro comp_lookup_Price (by simp) ?_
  simp -implicitDefEqProofs -proj only [go_sem, Nat.reduceBEq, Nat.reduceLT, Nat.reduceLeDiff, Nat.reduceAdd, Nat.reduceMul, ↓reduceIte, Int.reduceToNat, Int.reducePow, Int.reduceLT, Int.reduceLE, Int.reduceAdd, Int.reduceSub, Int.reduceMul, Int.reduceEq, Int.reduceNe]
  refine AllocA_intro (fun b3 hb3 => ?_)
  simp -implicitDefEqProofs -proj only [go_sem, Nat.reduceBEq, Nat.reduceLT, Nat.reduceLeDiff, Nat.reduceAdd, Nat.reduceMul, ↓reduceIte, Int.reduceToNat, Int.reducePow, Int.reduceLT, Int.reduceLE, Int.reduceAdd, Int.reduceSub, Int.reduceMul, Int.reduceEq, Int.reduceNe]
  refine CallA_pure hon ?_
  simp -implicitDefEqProofs -proj only [go_sem, Nat.reduceBEq, Nat.reduceLT, Nat.reduceLeDiff, Nat.reduceAdd, Nat.reduceMul, ↓reduceIte, Int.reduceToNat, Int.reducePow, Int.reduceLT, Int.reduceLE, Int.reduceAdd, Int.reduceSub, Int.reduceMul, Int.reduceEq, Int.reduceNe]
  refine AllocA_intro (fun b8 hb8 => ?_)
  simp -implicitDefEqProofs -proj only [go_sem, Nat.reduceBEq, Nat.reduceLT, Nat.reduceLeDiff, Nat.reduceAdd, Nat.reduceMul, ↓reduceIte, Int.reduceToNat, Int.reducePow, Int.reduceLT, Int.reduceLE, Int.reduceAdd, Int.reduceSub, Int.reduceMul, Int.reduceEq, Int.reduceNe]
  exact LendV_eq rfl
theorem LPrice_in (hl : S.length ≤ 1000000) (h : FwdB val lo hi S) {i : Nat} {r : Seg DayV} (hr : S[i]? = some r) (h1 : r.f ≤ d) (h2 : d ≤ r.t) (hv : okV r.v) (hb : AllFit b) : DataW Try.prog f_lookup_Price [formV cur f t ms S, i64 d, slI b] (.tup [i64 (lookF r.v b).1, i64 (lookF r.v b).2]) := by
  have hon := On_in (cur := cur) (f := f) (t := t) (ms := ms) hl h hr h1 h2
  clear h hr
  obtain ⟨rf, rt, x, ls⟩ := r
  have hn4 := hv.n
  have hcc := hv.c
  have hbd := fun i n hh => lookN_bnd hv (b := b) i n hh
  unfold lookF
  simp -implicitDefEqProofs only [] at hon hn4 hcc hbd ⊢
  refine CallW_intro comp_lookup_Price (by simp) ?_
  simp -implicitDefEqProofs -proj only [go_sem, Nat.reduceBEq, Nat.reduceLT, Nat.reduceLeDiff, Nat.reduceAdd, Nat.reduceMul, ↓reduceIte, Int.reduceToNat, Int.reducePow, Int.reduceLT, Int.reduceLE, Int.reduceAdd, Int.reduceSub, Int.reduceMul, Int.reduceEq, Int.reduceNe]
  refine AllocA_intro (fun b3 hb3 => ?_)
  simp -implicitDefEqProofs -proj only [go_sem, Nat.reduceBEq, Nat.reduceLT, Nat.reduceLeDiff, Nat.reduceAdd, Nat.reduceMul, ↓reduceIte, Int.reduceToNat, Int.reducePow, Int.reduceLT, Int.reduceLE, Int.reduceAdd, Int.reduceSub, Int.reduceMul, Int.reduceEq, Int.reduceNe]
  refine CallA_pure hon ?_
  simp -implicitDefEqProofs -proj only [go_sem, Nat.reduceBEq, Nat.reduceLT, Nat.reduceLeDiff, Nat.reduceAdd, Nat.reduceMul, ↓reduceIte, Int.reduceToNat, Int.reducePow, Int.reduceLT, Int.reduceLE, Int.reduceAdd, Int.reduceSub, Int.reduceMul, Int.reduceEq, Int.reduceNe]
  refine AllocA_intro (fun b8 hb8 => ?_)
  by_cases g : b.length = ls.length
  rotate_left
  · rw [if_neg g]
    simp -implicitDefEqProofs -proj only [go_sem, Nat.reduceBEq, Nat.reduceLT, Nat.reduceLeDiff, Nat.reduceAdd, Nat.reduceMul, ↓reduceIte, Int.reduceToNat, Int.reducePow, Int.reduceLT, Int.reduceLE, Int.reduceAdd, Int.reduceSub, Int.reduceMul, Int.reduceEq, Int.reduceNe, rowI_len, rowC_len, decide_eq_false (show ¬ (b.length : Int) = ls.length by omega), Bool.not_true, Bool.not_false]
    exact LendV_eq rfl
  rw [if_pos g]
  simp -implicitDefEqProofs -proj only [go_sem, Nat.reduceBEq, Nat.reduceLT, Nat.reduceLeDiff, Nat.reduceAdd, Nat.reduceMul, ↓reduceIte, Int.reduceToNat, Int.reducePow, Int.reduceLT, Int.reduceLE, Int.reduceAdd, Int.reduceSub, Int.reduceMul, Int.reduceEq, Int.reduceNe, rowI_len, rowC_len, decide_eq_true (show (b.length : Int) = ls.length by omega), Bool.not_true]
  refine LoopA_k (fun p : Nat × Int => p.1 ≤ b.length ∧ lookN x ls b p.1 = some p.2) 57 (fun p => [(8, .ptr b8 0), (10, i64 p.2), (33, slI b), (34, i64 b.length), (35, i64 p.1)]) (fun _ => [(b8, .box 41 [i64 rf, i64 rt, i64 x, slC ls])]) (fun p => b.length - p.1) (0, x) ⟨Nat.zero_le _, rfl⟩ rfl ?_ ?_ ?_
  · simp -implicitDefEqProofs -proj only [go_sem, Nat.reduceBEq, Nat.reduceLT, Nat.reduceLeDiff, Nat.reduceAdd, Nat.reduceMul, ↓reduceIte, Int.reduceToNat, Int.reducePow, Int.reduceLT, Int.reduceLE, Int.reduceAdd, Int.reduceSub, Int.reduceMul, Int.reduceEq, Int.reduceNe, AllAt, rowI_len]
  · exact ⟨upd_eq, trivial⟩
  · rintro ⟨i, n⟩ ⟨hi, hn⟩
    simp -implicitDefEqProofs only [Fst_mk, Snd_mk] at hi hn
    have hk : AllH (keepH [(b8, .box 41 [i64 rf, i64 rt, i64 x, slC ls])]) [(b8, .box 41 [i64 rf, i64 rt, i64 x, slC ls])] := keepH_all (by simp [keys])
    have k8 := hk.1
    by_cases h : i < b.length
    · have h' : i < ls.length := by omega
      have e1 := rowI_nth h
      have e2 := rowC_at h'
      have hfq := hb i h
      have hcl := hcc _ (List.getElem_mem h')
      have hstep : lookN x ls b (i + 1) = match valO ls[i] b[i] with | some v => some (n + v) | none => none := by
        rw [lookN, hn, List.getElem?_eq_getElem h', List.getElem?_eq_getElem h]
      have hfail := fun e => lookN_fail (n := x) (ls := ls) h e
      have hbd1 := hbd (i + 1)
      have hcall := AtV_ok hcl hfq
      generalize b[i] = q at *
      generalize ls[i] = l at *
      simp -implicitDefEqProofs -proj only [go_sem, Nat.reduceBEq, Nat.reduceLT, Nat.reduceLeDiff, Nat.reduceAdd, Nat.reduceMul, ↓reduceIte, Int.reduceToNat, Int.reducePow, Int.reduceLT, Int.reduceLE, Int.reduceAdd, Int.reduceSub, Int.reduceMul, Int.reduceEq, Int.reduceNe, decide_eq_true (show (i : Int) < b.length by omega)]
      refine ElemA_at _ (by omega) e1 ?_
      simp -implicitDefEqProofs -proj only [go_sem, Nat.reduceBEq, Nat.reduceLT, Nat.reduceLeDiff, Nat.reduceAdd, Nat.reduceMul, ↓reduceIte, Int.reduceToNat, Int.reducePow, Int.reduceLT, Int.reduceLE, Int.reduceAdd, Int.reduceSub, Int.reduceMul, Int.reduceEq, Int.reduceNe, k8]
      refine ElemA_at _ (by omega) e2 ?_
      simp -implicitDefEqProofs -proj only [go_sem, Nat.reduceBEq, Nat.reduceLT, Nat.reduceLeDiff, Nat.reduceAdd, Nat.reduceMul, ↓reduceIte, Int.reduceToNat, Int.reducePow, Int.reduceLT, Int.reduceLE, Int.reduceAdd, Int.reduceSub, Int.reduceMul, Int.reduceEq, Int.reduceNe]
      refine CallA_pure hcall ?_
      cases e : valO l q with
      | none =>
        rw [e] at hstep
        rw [hfail hstep]
        simp -implicitDefEqProofs -proj only [go_sem, Nat.reduceBEq, Nat.reduceLT, Nat.reduceLeDiff, Nat.reduceAdd, Nat.reduceMul, ↓reduceIte, Int.reduceToNat, Int.reducePow, Int.reduceLT, Int.reduceLE, Int.reduceAdd, Int.reduceSub, Int.reduceMul, Int.reduceEq, Int.reduceNe, optR, Bool.not_false]
        exact LendV_eq rfl
      | some v =>
        rw [e] at hstep
        simp -implicitDefEqProofs only [] at hstep
        have hb2 := hbd1 _ hstep
        have w : IntKind.i64.wrap (n + v) = n + v := by rw [IntKind.wrap_i64]; omega
        simp -implicitDefEqProofs -proj only [go_sem, Nat.reduceBEq, Nat.reduceLT, Nat.reduceLeDiff, Nat.reduceAdd, Nat.reduceMul, ↓reduceIte, Int.reduceToNat, Int.reducePow, Int.reduceLT, Int.reduceLE, Int.reduceAdd, Int.reduceSub, Int.reduceMul, Int.reduceEq, Int.reduceNe, optR, Bool.not_true, w]
        refine LoopQ_k (i + 1, n + v) ⟨by rw [Fst_mk]; omega, hstep⟩ (by show b.length - (i + 1) < b.length - i; omega) rfl ?_ hk
        simp -implicitDefEqProofs -proj only [go_sem, Nat.reduceBEq, Nat.reduceLT, Nat.reduceLeDiff, Nat.reduceAdd, Nat.reduceMul, ↓reduceIte, Int.reduceToNat, Int.reducePow, Int.reduceLT, Int.reduceLE, Int.reduceAdd, Int.reduceSub, Int.reduceMul, Int.reduceEq, Int.reduceNe, AllAt, i64_succ (show i < 9223372036854775807 by omega)]
    · have hi' : i = b.length := by omega
      subst hi'
      rw [hn]
      simp -implicitDefEqProofs -proj only [go_sem, Nat.reduceBEq, Nat.reduceLT, Nat.reduceLeDiff, Nat.reduceAdd, Nat.reduceMul, ↓reduceIte, Int.reduceToNat, Int.reducePow, Int.reduceLT, Int.reduceLE, Int.reduceAdd, Int.reduceSub, Int.reduceMul, Int.reduceEq, Int.reduceNe, decide_eq_false (show ¬ (b.length : Int) < b.length by omega)]
      exact LendV_eq rfl
end
structure mostC (c : CoreX) : Prop where
  parts : ∀ (i : Nat) (h : i < c.ps.length), ∀ q : Nat, q < (mxAt c.ms c.ps[i].me + 1).toNat → okQ c.ps[i] q
  tot : ∀ i, i ≤ c.ps.length → totN c i ≤ 1152921504606846976
noncomputable instance (c : CoreX) : Decidable (mostC c) := Classical.propDecidable _
theorem fits_most {c : CoreX} : fitsC c ↔ ¬ greatC c ∧ goodC c ∧ mostC c :=
  ⟨fun h => ⟨h.great, h.good, fun i hi => h.parts _ (List.getElem_mem hi), h.tot⟩, fun ⟨h1, h2, h3⟩ => ⟨h1, h2, fun x hx => by
    obtain ⟨i, hi, rfl⟩ := List.getElem_of_mem hx
    exact h3.parts i hi, h3.tot⟩⟩
theorem best_step {c : CoreX} {j : Nat} (h : j < c.ps.length) : totN c (j + 1) = totN c j + bestN c.ps[j] (mxAt c.ms c.ps[j].me + 1).toNat := by
  unfold totN
  rw [sg]
  have : bestAt c j = bestN c.ps[j] (mxAt c.ms c.ps[j].me + 1).toNat := by unfold bestAt; rw [List.getElem?_eq_getElem h]
  omega
theorem RMost_ok {c : CoreX} (hc : c.Fit) (hg : goodC c) : ∃ n, DataW Try.prog f_poundageref18_Most [coreX c] (.tup [i64 n, bv (decide (mostC c))]) := by
  refine ⟨if mostC c then totN c c.ps.length else 0, ?_⟩
  obtain ⟨_, _, _, a6, a7, a8⟩ := hg.hd
  have hps := hg.ps
  have hfp := hc.ps
  have hme := (fitsC.bnd hg).me
  have hmxb := (fitsC.bnd hg).mx
  have hfin : ∀ H, ¬ mostC c → LendV H (.tup [i64 0, bv false]) (.tup [i64 (if mostC c then totN c c.ps.length else 0), bv (decide (mostC c))]) := fun H h => LendV_eq (by rw [if_neg h, decide_eq_false h])
  have hyes : ∀ H, mostC c → LendV H (.tup [i64 (totN c c.ps.length), bv true]) (.tup [i64 (if mostC c then totN c c.ps.length else 0), bv (decide (mostC c))]) := fun H h => LendV_eq (by rw [if_pos h, decide_eq_true h])
  generalize hR : AV.tup [i64 (if mostC c then totN c c.ps.length else 0), bv (decide (mostC c))] = R at *
  clear hR
  refine CallW_intro comp_poundageref18_Most (by simp) ?_
  simp -implicitDefEqProofs -proj only [go_sem, Nat.reduceBEq, Nat.reduceLT, Nat.reduceLeDiff, Nat.reduceAdd, Nat.reduceMul, ↓reduceIte, Int.reduceToNat, Int.reducePow, Int.reduceLT, Int.reduceLE, Int.reduceAdd, Int.reduceSub, Int.reduceMul, Int.reduceEq, Int.reduceNe]
  refine AllocA_intro (fun b1 hb1 => ?_)
  simp -implicitDefEqProofs -proj only [go_sem, Nat.reduceBEq, Nat.reduceLT, Nat.reduceLeDiff, Nat.reduceAdd, Nat.reduceMul, ↓reduceIte, Int.reduceToNat, Int.reducePow, Int.reduceLT, Int.reduceLE, Int.reduceAdd, Int.reduceSub, Int.reduceMul, Int.reduceEq, Int.reduceNe, rowS_len]
  have hamt : ∀ i : Nat, i ≤ c.ss.length → 0 ≤ sg (amtAt c.ss) i ∧ sg (amtAt c.ss) i ≤ 1000000000000 * i := by
    intro i
    induction i with
    | zero => intro _; exact ⟨Int.le_refl _, Int.le_refl _⟩
    | succ n ih =>
      intro hn
      have := ih (by omega)
      have h1 := (fitsC.bnd hg).amt _ (List.getElem_mem (show n < c.ss.length by omega))
      rw [sg]
      have : amtAt c.ss n = c.ss[n].a := by unfold amtAt; rw [List.getElem?_eq_getElem (by omega)]
      omega
  refine LoopA_k (fun i : Nat => i ≤ c.ss.length) 71 (fun i => [(1, .ptr b1 0), (4, i64 (sg (amtAt c.ss) i)), (14, .d (.sl 3 (rowS c.ss))), (15, i64 c.ss.length), (16, i64 i)]) (fun _ => [(b1, coreB c)]) (fun i => c.ss.length - i) 0 (Nat.zero_le _) rfl ?_ ?_ ?_
  · simp -implicitDefEqProofs -proj only [go_sem, Nat.reduceBEq, Nat.reduceLT, Nat.reduceLeDiff, Nat.reduceAdd, Nat.reduceMul, ↓reduceIte, Int.reduceToNat, Int.reducePow, Int.reduceLT, Int.reduceLE, Int.reduceAdd, Int.reduceSub, Int.reduceMul, Int.reduceEq, Int.reduceNe, AllAt, rowS_len, sg]
  · exact ⟨upd_eq, trivial⟩
  · intro i hi
    have hk : AllH (keepH [(b1, coreB c)]) [(b1, coreB c)] := keepH_all (by simp [keys])
    have k1 := hk.1
    by_cases h : i < c.ss.length
    · have hel := rowS_at h
      have hA := hamt i hi
      have hA2 := hamt (i + 1) (by omega)
      have hst : sg (amtAt c.ss) (i + 1) = sg (amtAt c.ss) i + c.ss[i].a := by rw [sg]; unfold amtAt; rw [List.getElem?_eq_getElem h]
      generalize c.ss[i] = s at *
      have w : IntKind.i64.wrap (sg (amtAt c.ss) i + s.a) = sg (amtAt c.ss) (i + 1) := by rw [IntKind.wrap_i64]; omega
      simp -implicitDefEqProofs -proj only [go_sem, Nat.reduceBEq, Nat.reduceLT, Nat.reduceLeDiff, Nat.reduceAdd, Nat.reduceMul, ↓reduceIte, Int.reduceToNat, Int.reducePow, Int.reduceLT, Int.reduceLE, Int.reduceAdd, Int.reduceSub, Int.reduceMul, Int.reduceEq, Int.reduceNe, decide_eq_true (show (i : Int) < c.ss.length by omega)]
      refine ElemA_at _ (by omega) hel ?_
      simp -implicitDefEqProofs -proj only [go_sem, Nat.reduceBEq, Nat.reduceLT, Nat.reduceLeDiff, Nat.reduceAdd, Nat.reduceMul, ↓reduceIte, Int.reduceToNat, Int.reducePow, Int.reduceLT, Int.reduceLE, Int.reduceAdd, Int.reduceSub, Int.reduceMul, Int.reduceEq, Int.reduceNe]
      refine AllocA_intro (fun b6 hb6 => ?_)
      simp -implicitDefEqProofs -proj only [go_sem, Nat.reduceBEq, Nat.reduceLT, Nat.reduceLeDiff, Nat.reduceAdd, Nat.reduceMul, ↓reduceIte, Int.reduceToNat, Int.reducePow, Int.reduceLT, Int.reduceLE, Int.reduceAdd, Int.reduceSub, Int.reduceMul, Int.reduceEq, Int.reduceNe, w]
      refine LoopQ_k (i + 1) (by omega) (by show c.ss.length - (i + 1) < c.ss.length - i; omega) rfl ?_ (AllH_upd hb6 hk)
      simp -implicitDefEqProofs -proj only [go_sem, Nat.reduceBEq, Nat.reduceLT, Nat.reduceLeDiff, Nat.reduceAdd, Nat.reduceMul, ↓reduceIte, Int.reduceToNat, Int.reducePow, Int.reduceLT, Int.reduceLE, Int.reduceAdd, Int.reduceSub, Int.reduceMul, Int.reduceEq, Int.reduceNe, AllAt, i64_succ (show i < 9223372036854775807 by omega)]
    · have hi' : i = c.ss.length := by omega
      subst hi'
      have hA := hamt c.ss.length (Nat.le_refl _)
      simp -implicitDefEqProofs -proj only [go_sem, Nat.reduceBEq, Nat.reduceLT, Nat.reduceLeDiff, Nat.reduceAdd, Nat.reduceMul, ↓reduceIte, Int.reduceToNat, Int.reducePow, Int.reduceLT, Int.reduceLE, Int.reduceAdd, Int.reduceSub, Int.reduceMul, Int.reduceEq, Int.reduceNe, k1, decide_eq_false (show ¬ (c.ss.length : Int) < c.ss.length by omega), rowP_len]
      refine LoopA_k (fun j : Nat => j ≤ c.ps.length ∧ (∀ (i : Nat) (h : i < c.ps.length), i < j → ∀ q : Nat, q < (mxAt c.ms c.ps[i].me + 1).toNat → okQ c.ps[i] q) ∧ ∀ i, i ≤ j → totN c i ≤ 1152921504606846976) 71 (fun j => [(1, .ptr b1 0), (4, i64 (totN c j)), (26, .d (.sl 9 (rowP c.ps))), (27, i64 c.ps.length), (28, i64 j)]) (fun _ => [(b1, coreB c)]) (fun j => c.ps.length - j) 0 ⟨Nat.zero_le _, fun i _ h => absurd h (Nat.not_lt_zero _), fun i hi => ?_⟩ rfl ?_ ?_ ?_
      · have : i = 0 := by omega
        subst this
        simp -implicitDefEqProofs only [totN, sg]; omega
      · simp -implicitDefEqProofs -proj only [go_sem, Nat.reduceBEq, Nat.reduceLT, Nat.reduceLeDiff, Nat.reduceAdd, Nat.reduceMul, ↓reduceIte, Int.reduceToNat, Int.reducePow, Int.reduceLT, Int.reduceLE, Int.reduceAdd, Int.reduceSub, Int.reduceMul, Int.reduceEq, Int.reduceNe, AllAt, totN, sg, Int.add_zero, rowP_len]
      · exact hk
      · rintro j ⟨hj, hs1, hs2⟩
        by_cases h : j < c.ps.length
        · have helj := rowP_at h
          have hx := List.getElem_mem h
          have hok := hps _ hx
          have hfx := hfp _ hx
          obtain ⟨m0, m1⟩ := hme _ hx
          have hno1 : ∀ q : Nat, q < (mxAt c.ms c.ps[j].me + 1).toNat → ¬ okQ c.ps[j] q → ¬ mostC c := fun q hq hn k => hn (k.parts j h q hq)
          have hno2 : ¬ totN c (j + 1) ≤ 1152921504606846976 → ¬ mostC c := fun hn k => hn (k.tot (j + 1) (by omega))
          have hgo1 : (∀ q : Nat, q < (mxAt c.ms c.ps[j].me + 1).toNat → okQ c.ps[j] q) → ∀ (i : Nat) (h : i < c.ps.length), i < j + 1 → ∀ q : Nat, q < (mxAt c.ms c.ps[i].me + 1).toNat → okQ c.ps[i] q := by
            intro e i hi hij
            by_cases hij2 : i = j
            · subst hij2; exact e
            · exact hs1 i hi (by omega)
          have hb := best_step (c := c) h
          have hT0 := hs2 j (Nat.le_refl _)
          have hT1 : 0 ≤ totN c j := by
            have := hamt c.ss.length (Nat.le_refl _)
            have := sg_nonneg (n := j) fun i _ => bestAt_pos (c := c) i
            unfold totN; omega
          have hmxn := hmxb c.ps[j].me.toNat (by omega)
          have hmx : mxAt c.ms c.ps[j].me = c.ms[c.ps[j].me.toNat].mx := by unfold mxAt; rw [List.getElem?_eq_getElem (by omega)]
          have helm := rowM_at (show c.ps[j].me.toNat < c.ms.length by omega)
          rw [Int.toNat_natCast] at helm
          rw [← hmx] at hmxn
          generalize c.ms[c.ps[j].me.toNat] = mm at *
          generalize c.ps[j] = x at *
          rw [hmx] at hno1 hgo1 hb hmxn
          have G := goodX_of hok
          have hcall := fun (q : Int) (hq : Fit q) => RPPart_ok (q := q) hfx hq G (srt_of G.ts)
          simp -implicitDefEqProofs -proj only [go_sem, Nat.reduceBEq, Nat.reduceLT, Nat.reduceLeDiff, Nat.reduceAdd, Nat.reduceMul, ↓reduceIte, Int.reduceToNat, Int.reducePow, Int.reduceLT, Int.reduceLE, Int.reduceAdd, Int.reduceSub, Int.reduceMul, Int.reduceEq, Int.reduceNe, decide_eq_true (show (j : Int) < c.ps.length by omega)]
          refine ElemA_at _ (by omega) helj ?_
          simp -implicitDefEqProofs -proj only [go_sem, Nat.reduceBEq, Nat.reduceLT, Nat.reduceLeDiff, Nat.reduceAdd, Nat.reduceMul, ↓reduceIte, Int.reduceToNat, Int.reducePow, Int.reduceLT, Int.reduceLE, Int.reduceAdd, Int.reduceSub, Int.reduceMul, Int.reduceEq, Int.reduceNe]
          refine AllocA_intro (fun b8 hb8 => ?_)
          replace hb8 : keepH [(b1, coreB c)] b8 = none := hb8
          obtain ⟨n1, n2⟩ := fresh_ne hb8 k1
          simp -implicitDefEqProofs -proj only [go_sem, Nat.reduceBEq, Nat.reduceLT, Nat.reduceLeDiff, Nat.reduceAdd, Nat.reduceMul, ↓reduceIte, Int.reduceToNat, Int.reducePow, Int.reduceLT, Int.reduceLE, Int.reduceAdd, Int.reduceSub, Int.reduceMul, Int.reduceEq, Int.reduceNe]
          refine LoopA_k (fun k : Nat => k ≤ (mm.mx + 1).toNat ∧ 0 ≤ bestN x k ∧ bestN x k ≤ 1152921504606846976 ∧ ∀ q : Nat, q < k → okQ x q) 71 (fun k => [(1, .ptr b1 0), (4, i64 (totN c j)), (26, .d (.sl 9 (rowP c.ps))), (27, i64 c.ps.length), (28, i64 j), (8, .ptr b8 0), (9, i64 (bestN x k)), (10, i64 k)]) (fun _ => [(b8, Blk.box 51 [i64 x.me, i64 x.f, i64 x.t, i64 x.al, i64 x.bl, i64 x.ki, slT x.ts, i64 x.mo, slA x.ad]), (b1, coreB c)]) (fun k => (mm.mx + 1).toNat - k) 0 ⟨Nat.zero_le _, Int.le_refl _, (by show (0 : Int) ≤ 1152921504606846976; decide), fun q h => absurd h (Nat.not_lt_zero _)⟩ rfl ?_ ?_ ?_
          · simp -implicitDefEqProofs -proj only [go_sem, Nat.reduceBEq, Nat.reduceLT, Nat.reduceLeDiff, Nat.reduceAdd, Nat.reduceMul, ↓reduceIte, Int.reduceToNat, Int.reducePow, Int.reduceLT, Int.reduceLE, Int.reduceAdd, Int.reduceSub, Int.reduceMul, Int.reduceEq, Int.reduceNe, AllAt, bestN]
          · exact ⟨upd_eq, (upd_ne n1).trans k1, trivial⟩
          · rintro k ⟨hk', hb0, hb1, hq⟩
            have hkk : AllH (keepH [(b8, Blk.box 51 [i64 x.me, i64 x.f, i64 x.t, i64 x.al, i64 x.bl, i64 x.ki, slT x.ts, i64 x.mo, slA x.ad]), (b1, coreB c)]) [(b8, Blk.box 51 [i64 x.me, i64 x.f, i64 x.t, i64 x.al, i64 x.bl, i64 x.ki, slT x.ts, i64 x.mo, slA x.ad]), (b1, coreB c)] := keepH_all (by simp [keys, n1])
            obtain ⟨k8, kb1, _⟩ := id hkk
            simp -implicitDefEqProofs -proj only [go_sem, Nat.reduceBEq, Nat.reduceLT, Nat.reduceLeDiff, Nat.reduceAdd, Nat.reduceMul, ↓reduceIte, Int.reduceToNat, Int.reducePow, Int.reduceLT, Int.reduceLE, Int.reduceAdd, Int.reduceSub, Int.reduceMul, Int.reduceEq, Int.reduceNe, k8, kb1, n1, n2]
            refine ElemA_at _ m0 helm ?_
            by_cases h2 : (k : Int) ≤ mm.mx
            · have hck := hcall k (by unfold Fit; omega)
              have hbs : bestN x (k + 1) = max (bestN x k) (pv x k) := rfl
              simp -implicitDefEqProofs -proj only [go_sem, Nat.reduceBEq, Nat.reduceLT, Nat.reduceLeDiff, Nat.reduceAdd, Nat.reduceMul, ↓reduceIte, Int.reduceToNat, Int.reducePow, Int.reduceLT, Int.reduceLE, Int.reduceAdd, Int.reduceSub, Int.reduceMul, Int.reduceEq, Int.reduceNe, k8, kb1, n1, n2, decide_eq_true h2]
              refine CallA_pure hck ?_
              cases e : partO x (k : Int) with
              | none =>
                have hn : ¬ mostC c := hno1 k (by omega) (fun ⟨n, h, _⟩ => by rw [e] at h; cases h)
                simp -implicitDefEqProofs -proj only [go_sem, Nat.reduceBEq, Nat.reduceLT, Nat.reduceLeDiff, Nat.reduceAdd, Nat.reduceMul, ↓reduceIte, Int.reduceToNat, Int.reducePow, Int.reduceLT, Int.reduceLE, Int.reduceAdd, Int.reduceSub, Int.reduceMul, Int.reduceEq, Int.reduceNe, optR, Bool.not_false]
                exact hfin _ hn
              | some n =>
                have hpv : pv x k = n := by unfold pv; rw [e]; rfl
                by_cases c1 : 1152921504606846976 < n
                · have hn : ¬ mostC c := hno1 k (by omega) (fun ⟨n', h, _, h3⟩ => by rw [e] at h; cases h; omega)
                  simp -implicitDefEqProofs -proj only [go_sem, Nat.reduceBEq, Nat.reduceLT, Nat.reduceLeDiff, Nat.reduceAdd, Nat.reduceMul, ↓reduceIte, Int.reduceToNat, Int.reducePow, Int.reduceLT, Int.reduceLE, Int.reduceAdd, Int.reduceSub, Int.reduceMul, Int.reduceEq, Int.reduceNe, optR, Bool.not_true, decide_eq_true c1]
                  exact hfin _ hn
                by_cases c2 : n < 0
                · have hn : ¬ mostC c := hno1 k (by omega) (fun ⟨n', h, h2, _⟩ => by rw [e] at h; cases h; omega)
                  simp -implicitDefEqProofs -proj only [go_sem, Nat.reduceBEq, Nat.reduceLT, Nat.reduceLeDiff, Nat.reduceAdd, Nat.reduceMul, ↓reduceIte, Int.reduceToNat, Int.reducePow, Int.reduceLT, Int.reduceLE, Int.reduceAdd, Int.reduceSub, Int.reduceMul, Int.reduceEq, Int.reduceNe, optR, Bool.not_true, decide_eq_false c1, decide_eq_true c2]
                  exact hfin _ hn
                rw [hpv] at hbs
                simp -implicitDefEqProofs -proj only [go_sem, Nat.reduceBEq, Nat.reduceLT, Nat.reduceLeDiff, Nat.reduceAdd, Nat.reduceMul, ↓reduceIte, Int.reduceToNat, Int.reducePow, Int.reduceLT, Int.reduceLE, Int.reduceAdd, Int.reduceSub, Int.reduceMul, Int.reduceEq, Int.reduceNe, optR, Bool.not_true, decide_eq_false c1, decide_eq_false c2]
                refine LoopQ_k (k + 1) ⟨by omega, by rw [hbs]; omega, by rw [hbs]; omega, fun q hq2 => ?_⟩ (by show (mm.mx + 1).toNat - (k + 1) < (mm.mx + 1).toNat - k; omega) rfl ?_ hkk
                · by_cases e2 : q = k
                  · subst e2; exact ⟨n, e, by omega, by omega⟩
                  · exact hq q (by omega)
                · simp -implicitDefEqProofs -proj only [go_sem, Nat.reduceBEq, Nat.reduceLT, Nat.reduceLeDiff, Nat.reduceAdd, Nat.reduceMul, ↓reduceIte, Int.reduceToNat, Int.reducePow, Int.reduceLT, Int.reduceLE, Int.reduceAdd, Int.reduceSub, Int.reduceMul, Int.reduceEq, Int.reduceNe, AllAt, hbs, i64_succ (show k < 9223372036854775807 by omega)]
            · have hk2 : k = (mm.mx + 1).toNat := by omega
              subst hk2
              have w : IntKind.i64.wrap (totN c j + bestN x (mm.mx + 1).toNat) = totN c (j + 1) := by rw [IntKind.wrap_i64]; omega
              simp -implicitDefEqProofs -proj only [go_sem, Nat.reduceBEq, Nat.reduceLT, Nat.reduceLeDiff, Nat.reduceAdd, Nat.reduceMul, ↓reduceIte, Int.reduceToNat, Int.reducePow, Int.reduceLT, Int.reduceLE, Int.reduceAdd, Int.reduceSub, Int.reduceMul, Int.reduceEq, Int.reduceNe, decide_eq_false h2, w]
              by_cases c1 : 1152921504606846976 < totN c (j + 1)
              · simp -implicitDefEqProofs -proj only [go_sem, Nat.reduceBEq, Nat.reduceLT, Nat.reduceLeDiff, Nat.reduceAdd, Nat.reduceMul, ↓reduceIte, Int.reduceToNat, Int.reducePow, Int.reduceLT, Int.reduceLE, Int.reduceAdd, Int.reduceSub, Int.reduceMul, Int.reduceEq, Int.reduceNe, decide_eq_true c1]
                exact hfin _ (hno2 (by omega))
              · simp -implicitDefEqProofs -proj only [go_sem, Nat.reduceBEq, Nat.reduceLT, Nat.reduceLeDiff, Nat.reduceAdd, Nat.reduceMul, ↓reduceIte, Int.reduceToNat, Int.reducePow, Int.reduceLT, Int.reduceLE, Int.reduceAdd, Int.reduceSub, Int.reduceMul, Int.reduceEq, Int.reduceNe, decide_eq_false c1]
                refine LoopQ_k (j + 1) ⟨by omega, hgo1 hq, fun i hi => ?_⟩ (by show c.ps.length - (j + 1) < c.ps.length - j; omega) rfl ?_ ⟨kb1, trivial⟩
                · by_cases e2 : i = j + 1
                  · subst e2; omega
                  · exact hs2 i (by omega)
                · simp -implicitDefEqProofs -proj only [go_sem, Nat.reduceBEq, Nat.reduceLT, Nat.reduceLeDiff, Nat.reduceAdd, Nat.reduceMul, ↓reduceIte, Int.reduceToNat, Int.reducePow, Int.reduceLT, Int.reduceLE, Int.reduceAdd, Int.reduceSub, Int.reduceMul, Int.reduceEq, Int.reduceNe, AllAt, i64_succ (show j < 9223372036854775807 by omega)]
        · have hj' : j = c.ps.length := by omega
          subst hj'
          have hm : mostC c := ⟨fun i hi => hs1 i hi hi, hs2⟩
          have := hs2 c.ps.length (Nat.le_refl _)
          simp -implicitDefEqProofs -proj only [go_sem, Nat.reduceBEq, Nat.reduceLT, Nat.reduceLeDiff, Nat.reduceAdd, Nat.reduceMul, ↓reduceIte, Int.reduceToNat, Int.reducePow, Int.reduceLT, Int.reduceLE, Int.reduceAdd, Int.reduceSub, Int.reduceMul, Int.reduceEq, Int.reduceNe, decide_eq_false (show ¬ (c.ps.length : Int) < c.ps.length by omega), decide_eq_true this]
          exact hyes _ hm
theorem RFits_ok {c : CoreX} (hc : c.Fit) : DataW Try.prog f_poundageref18_Fits [coreX c] (bv (decide (fitsC c))) := by
  have hgd := RGood_ok hc
  have hiff := fits_most (c := c)
  have hmo := fun h => RMost_ok hc (c := c) h
  refine CallW_intro comp_poundageref18_Fits (by simp) ?_
  simp -implicitDefEqProofs -proj only [go_sem, Nat.reduceBEq, Nat.reduceLT, Nat.reduceLeDiff, Nat.reduceAdd, Nat.reduceMul, ↓reduceIte, Int.reduceToNat, Int.reducePow, Int.reduceLT, Int.reduceLE, Int.reduceAdd, Int.reduceSub, Int.reduceMul, Int.reduceEq, Int.reduceNe]
  refine AllocA_intro (fun b1 hb1 => ?_)
  simp -implicitDefEqProofs -proj only [go_sem, Nat.reduceBEq, Nat.reduceLT, Nat.reduceLeDiff, Nat.reduceAdd, Nat.reduceMul, ↓reduceIte, Int.reduceToNat, Int.reducePow, Int.reduceLT, Int.reduceLE, Int.reduceAdd, Int.reduceSub, Int.reduceMul, Int.reduceEq, Int.reduceNe]
  refine CallA_pure Great_ok ?_
  by_cases g1 : greatC c
  · simp -implicitDefEqProofs -proj only [go_sem, Nat.reduceBEq, Nat.reduceLT, Nat.reduceLeDiff, Nat.reduceAdd, Nat.reduceMul, ↓reduceIte, Int.reduceToNat, Int.reducePow, Int.reduceLT, Int.reduceLE, Int.reduceAdd, Int.reduceSub, Int.reduceMul, Int.reduceEq, Int.reduceNe, decide_eq_true g1]
    exact LendV_eq (by rw [decide_eq_false (fun k => (hiff.1 k).1 g1)])
  simp -implicitDefEqProofs -proj only [go_sem, Nat.reduceBEq, Nat.reduceLT, Nat.reduceLeDiff, Nat.reduceAdd, Nat.reduceMul, ↓reduceIte, Int.reduceToNat, Int.reducePow, Int.reduceLT, Int.reduceLE, Int.reduceAdd, Int.reduceSub, Int.reduceMul, Int.reduceEq, Int.reduceNe, decide_eq_false g1]
  refine CallA_pure hgd ?_
  by_cases g2 : goodC c
  rotate_left
  · simp -implicitDefEqProofs -proj only [go_sem, Nat.reduceBEq, Nat.reduceLT, Nat.reduceLeDiff, Nat.reduceAdd, Nat.reduceMul, ↓reduceIte, Int.reduceToNat, Int.reducePow, Int.reduceLT, Int.reduceLE, Int.reduceAdd, Int.reduceSub, Int.reduceMul, Int.reduceEq, Int.reduceNe, decide_eq_false g2, Bool.not_false]
    exact LendV_eq (by rw [decide_eq_false (fun k => g2 (hiff.1 k).2.1)])
  obtain ⟨n, hmo⟩ := hmo g2
  simp -implicitDefEqProofs -proj only [go_sem, Nat.reduceBEq, Nat.reduceLT, Nat.reduceLeDiff, Nat.reduceAdd, Nat.reduceMul, ↓reduceIte, Int.reduceToNat, Int.reducePow, Int.reduceLT, Int.reduceLE, Int.reduceAdd, Int.reduceSub, Int.reduceMul, Int.reduceEq, Int.reduceNe, decide_eq_true g2, Bool.not_true]
  refine CallA_pure hmo ?_
  simp -implicitDefEqProofs -proj only [go_sem, Nat.reduceBEq, Nat.reduceLT, Nat.reduceLeDiff, Nat.reduceAdd, Nat.reduceMul, ↓reduceIte, Int.reduceToNat, Int.reducePow, Int.reduceLT, Int.reduceLE, Int.reduceAdd, Int.reduceSub, Int.reduceMul, Int.reduceEq, Int.reduceNe]
  exact LendV_eq (by rw [decide_eq_decide.2 (hiff.trans ⟨fun h => h.2.2, fun h => ⟨g1, g2, h⟩⟩)])
end Go.Proofs.Ytnldlmlnedamlaa.Abs
