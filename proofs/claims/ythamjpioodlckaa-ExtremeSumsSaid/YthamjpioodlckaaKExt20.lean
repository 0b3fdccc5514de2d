/- The package extreme: the best one of a curve. No claim stands here. -/
import Derived.Test.YthamjpioodlckaaKROf15
set_option linter.unusedSimpArgs false
set_option linter.unusedVariables false
namespace Go.Proofs.Ythamjpioodlckaa.Abs
open Go Go.RowKit Go.Proofs
attribute [local go_sem] RunC_seq AF_n AF_r AF_b St_n St_t St_H Fst_mk Snd_mk RunC_ops RunC_cond RunC_block RunC_loop RunC_exit RunC_ret RunC_skip RunO_nil RunO_code RunO_code_ret RunO_code_exit RunO_blk RunO_blk_ret RunO_blk_exit RunL_nil RunL_guard GuardA_tt GuardA_ff GuardA_tf GuardA_ft GuardA_void CondA_t CondA_f PickA_t PickA_f RunL_mov RunL_pick RunL_alloc RunL_box RunL_load LoadA_ptr LoadB_1 LoadB_n LoadA_dptr LoadA_dptr_n RunL_store StoreA_ptr StoreB_box RunL_bin Bin_add Bin_sub Bin_mul Bin_quo Bin_rem Bin_shl Bin_shr Bin_andI Bin_orI Bin_xorI Bin_eql Bin_neq Bin_lss Bin_leq Bin_gtr Bin_geq RunL_binb Bin_beql Bin_bneq RunL_un UnA_not UnA_neg RunL_conv convV MapA_some RunL_nilCheck nilV RunL_mkfn RunL_fieldAddr faV RunL_field FieldA_1 FieldA_n RunL_elemAddr EAddrA_sl EAddrA_own EptrA_eq RunL_build BuildA_some RunL_extract ExtA_eq RunL_len lenV_sl lenV_nilsl lenV_own RunL_slen RunL_idxStr IdxSA_eq slenV RunL_minmax mmV minmaxL RunL_call RunL_callv CallvA_fn putS ev evL evO evP eqK eqKs EqB_agg RunL_eqAgg EqA_t EqA_f evQ buildC fits_agg cellsAV_agg fits_d cellsAV_d fits_nilp cellsAV_nilp fits_nilsl cellsAV_nilsl fits_nilfn cellsAV_nilfn fits_ptr cellsAV_ptr fits_eptr cellsAV_eptr fits_dptr cellsAV_dptr fits_own cellsAV_own fits_fn cellsAV_fn rowV_fits rowV_cells rowV_len lenAV setSeg nth seg mapD repeatL putT_get upd_get argT keepT_cons keepT_nil keepH_cons keepH_nil cond_true cond_false VC_true finW resW resL resOne LoopQ_exit LoopQ_ret List.cons_append List.nil_append Bool.not_true Bool.not_false Bool.and_true Bool.and_self Nat.lt_add_left_iff_pos Nat.zero_add Nat.add_zero List.drop_succ_cons List.drop_zero List.take_succ_cons List.take_zero beq_self_eq_true Bool.false_eq_true RunC_dops RunL_loadS RunL_loadD LoadDA_dptr RunL_storeS StoreSA_ptr RunL_pcall RunL_pcallv PCallvA_fn newsOk and_self and_true true_and loadW_ptr LoadK_1 LoadK_n upd_upd RunL_buildSlice BSliceA_some RunL_buildSliceD frzL frz cutL LoadA_eptr LoadE_row RunL_append RunL_slice SliceA_sl StoreA_eptr List.length_cons List.length_nil Nat.min_def Int.cast_ofNat_Int Int.natCast_zero Int.natCast_one decide_true decide_false List.getElem?_cons_zero List.getElem?_cons_succ RunC_rangef CallvA_yld putL_nil putL_cons RangeQ_exit RangeQ_ret
def IdxAB (n sz kk : Nat) (x y : AV) (d : Option Nat) (l : List AO) (k : List Item) (s : St) (P : Program) (Q : Out → St → Prop) : Prop := match x, y with
  | .agg xs, .d (.int _ m) => VC (0 ≤ m ∧ m < n ∧ n * sz = lenAV xs) (VC (kk = sz) (RunL P Q l k (putS s d (.agg (seg xs (m.toNat * sz) sz)) s.H)))
  | _, _ => False
theorem RunL_idxArrS {P : Program} {Q : Out → St → Prop} {d : Option Nat} {l : List AO} {k : List Item} {s : St} {n sz kk : Nat} {x i : Opd} : RunL P Q (⟨d, none, .idxArr n sz (some kk) x i⟩ :: l) k s = IdxAB n sz kk (ev s.t x) (ev s.t i) d l k s P Q := by
  rw [RunL_op]
  simp -implicitDefEqProofs only [opW]
  generalize ev s.t x = a
  generalize ev s.t i = b
  unfold IdxAB
  cases a <;> cases b <;> try rfl
theorem IdxAB_eq {P : Program} {Q : Out → St → Prop} {d : Option Nat} {l : List AO} {k : List Item} {s : St} {n sz kk : Nat} {xs : List AV} {j : IntKind} {m : Int} : IdxAB n sz kk (.agg xs) (.d (.int j m)) d l k s P Q = VC (0 ≤ m ∧ m < n ∧ n * sz = lenAV xs) (VC (kk = sz) (RunL P Q l k (putS s d (.agg (seg xs (m.toNat * sz) sz)) s.H))) := rfl
def endA (g : Grp) : Int × Int := (g.v, g.f)
def endB (g : Grp) : Int × Int := (g.v + (g.c - 1) * g.r, g.f + (g.c - 1) * g.w)
theorem cw_bound {g : Grp} (h : GrpOK g) : 0 ≤ (g.c - 1) * g.w ∧ (g.c - 1) * g.w ≤ 9000000 := by
  have hw := h.w
  have hc := h.c
  refine ⟨Int.mul_nonneg (by omega) hw.1, ?_⟩
  calc (g.c - 1) * g.w ≤ 3000 * g.w := Int.mul_le_mul_of_nonneg_right (by omega) hw.1
    _ ≤ 9000000 := by omega
theorem ends_ok {g : Grp} (h : GrpOK g) : DataW Try.prog f_extreme_ends [g.av] (.agg [i64 (endA g).1, i64 (endA g).2, i64 (endB g).1, i64 (endB g).2]) := by
  have hb := cw_bound h
  have hr := h.r (g.c - 1) (by have := h.c; omega) (Int.le_refl _)
  have hf := h.f
  have hv := h.v
  have hc := h.c
  have w1 : IntKind.i64.wrap (g.c - 1) = g.c - 1 := by rw [IntKind.wrap_i64]; omega
  have w2 : IntKind.i64.wrap ((g.c - 1) * g.r) = (g.c - 1) * g.r := by rw [IntKind.wrap_i64]; omega
  have w3 : IntKind.i64.wrap ((g.c - 1) * g.w) = (g.c - 1) * g.w := by rw [IntKind.wrap_i64]; omega
  have w4 : IntKind.i64.wrap (g.v + (g.c - 1) * g.r) = g.v + (g.c - 1) * g.r := by rw [IntKind.wrap_i64]; omega
  have w5 : IntKind.i64.wrap (g.f + (g.c - 1) * g.w) = g.f + (g.c - 1) * g.w := by rw [IntKind.wrap_i64]; omega
  refine CallW_intro comp_extreme_ends (by simp) ?_
  simp -implicitDefEqProofs -proj only [go_sem, Nat.reduceBEq, Nat.reduceLT, Nat.reduceLeDiff, Nat.reduceAdd, Nat.reduceMul, ↓reduceIte, Int.reduceToNat, Int.reducePow, Int.reduceLT, Int.reduceLE, Int.reduceAdd, Int.reduceSub, Int.reduceMul, Int.reduceEq, Int.reduceNe]
  refine AllocA_intro (fun b1 hb1 => ?_)
  simp -implicitDefEqProofs -proj only [go_sem, Nat.reduceBEq, Nat.reduceLT, Nat.reduceLeDiff, Nat.reduceAdd, Nat.reduceMul, ↓reduceIte, Int.reduceToNat, Int.reducePow, Int.reduceLT, Int.reduceLE, Int.reduceAdd, Int.reduceSub, Int.reduceMul, Int.reduceEq, Int.reduceNe]
  refine AllocA_intro (fun b2 hb2 => ?_)
  replace hb2 : upd Heap.none b1 _ b2 = none := hb2
  obtain ⟨n1, n2⟩ := fresh_ne hb2 upd_eq
  simp -implicitDefEqProofs -proj only [go_sem, Nat.reduceBEq, Nat.reduceLT, Nat.reduceLeDiff, Nat.reduceAdd, Nat.reduceMul, ↓reduceIte, Int.reduceToNat, Int.reducePow, Int.reduceLT, Int.reduceLE, Int.reduceAdd, Int.reduceSub, Int.reduceMul, Int.reduceEq, Int.reduceNe, n1, n2, w1, w2, w3, w4, w5]
  exact LendV_eq rfl
/-- One more. -/
def pickB (bt : Int → Int → Bool) (b c : Int × Int) : Int × Int := if bt c.1 b.1 then c else b
def foldG (bt : Int → Int → Bool) : List Grp → Int × Int → Int × Int
  | [], b => b
  | g :: G, b => foldG bt G (pickB bt (pickB bt b (endA g)) (endB g))
def stepB (bt : Int → Int → Bool) (B : Int × Int) (g : Grp) : Nat → Int × Int
  | 0 => B
  | 1 => pickB bt B (endA g)
  | _ => pickB bt (pickB bt B (endA g)) (endB g)
theorem foldG_snoc {bt : Int → Int → Bool} {g : Grp} : ∀ {G : List Grp} {b : Int × Int}, foldG bt (G ++ [g]) b = pickB bt (pickB bt (foldG bt G b) (endA g)) (endB g)
  | [], b => rfl
  | h :: G, b => by rw [List.cons_append, foldG, foldG_snoc, foldG]
def bestG (bt : Int → Int → Bool) (G : List Grp) : Int × Int := match G with
  | [] => (0, 0)
  | g :: _ => foldG bt G (endA g)
set_option maxRecDepth 20000 in
theorem find_ok {l : List Int} {f : FuncId} {bt : Int → Int → Bool} (h : CurL l) (hf : ∀ a b : Int, DataW Try.prog f [i64 a, i64 b] (bv (bt a b))) : DataW Try.prog f_extreme_find [curL l, .fn f []] (.tup [.agg [i64 (bestG bt (gps l)).1, i64 (bestG bt (gps l)).2], bv true]) := by
  have hgood := GoodL_ok h
  have hok := gps_ok h
  obtain ⟨hg0, _⟩ := gps_first h.1
  have hgl := gps_len (l := l)
  have h21 := h.2.1
  unfold curL at hgood ⊢
  have hbest : bestG bt (gps l) = foldG bt (gps l) (endA (gps l)[0]) := by
    generalize gps l = G at *
    match G, hg0 with
    | g :: G, _ => rfl
  rw [hbest]
  generalize gps l = G at *
  have e0 := rowG_at hg0
  have hends0 := ends_ok (hok _ (List.getElem_mem hg0))
  clear hbest
  generalize endA G[0] = b0 at *
  generalize endB G[0] = b0' at *
  refine CallW_intro comp_extreme_find (by simp) ?_
  simp -implicitDefEqProofs -proj only [go_sem, Nat.reduceBEq, Nat.reduceLT, Nat.reduceLeDiff, Nat.reduceAdd, Nat.reduceMul, ↓reduceIte, Int.reduceToNat, Int.reducePow, Int.reduceLT, Int.reduceLE, Int.reduceAdd, Int.reduceSub, Int.reduceMul, Int.reduceEq, Int.reduceNe]
  refine AllocA_intro (fun b2 hb2 => ?_)
  simp -implicitDefEqProofs -proj only [go_sem, Nat.reduceBEq, Nat.reduceLT, Nat.reduceLeDiff, Nat.reduceAdd, Nat.reduceMul, ↓reduceIte, Int.reduceToNat, Int.reducePow, Int.reduceLT, Int.reduceLE, Int.reduceAdd, Int.reduceSub, Int.reduceMul, Int.reduceEq, Int.reduceNe]
  refine AllocA_intro (fun b4 hb4 => ?_)
  replace hb4 : upd Heap.none b2 _ b4 = none := hb4
  obtain ⟨n1, n2⟩ := fresh_ne hb4 upd_eq
  simp -implicitDefEqProofs -proj only [go_sem, Nat.reduceBEq, Nat.reduceLT, Nat.reduceLeDiff, Nat.reduceAdd, Nat.reduceMul, ↓reduceIte, Int.reduceToNat, Int.reducePow, Int.reduceLT, Int.reduceLE, Int.reduceAdd, Int.reduceSub, Int.reduceMul, Int.reduceEq, Int.reduceNe, n1, n2]
  refine CallA_pure hgood ?_
  simp -implicitDefEqProofs -proj only [go_sem, Nat.reduceBEq, Nat.reduceLT, Nat.reduceLeDiff, Nat.reduceAdd, Nat.reduceMul, ↓reduceIte, Int.reduceToNat, Int.reducePow, Int.reduceLT, Int.reduceLE, Int.reduceAdd, Int.reduceSub, Int.reduceMul, Int.reduceEq, Int.reduceNe, n1, n2]
  refine ElemA_at _ (by omega) (i := 0) e0 ?_
  simp -implicitDefEqProofs -proj only [go_sem, Nat.reduceBEq, Nat.reduceLT, Nat.reduceLeDiff, Nat.reduceAdd, Nat.reduceMul, ↓reduceIte, Int.reduceToNat, Int.reducePow, Int.reduceLT, Int.reduceLE, Int.reduceAdd, Int.reduceSub, Int.reduceMul, Int.reduceEq, Int.reduceNe]
  refine CallA_pure hends0 ?_
  simp -implicitDefEqProofs -proj only [go_sem, Nat.reduceBEq, Nat.reduceLT, Nat.reduceLeDiff, Nat.reduceAdd, Nat.reduceMul, ↓reduceIte, Int.reduceToNat, Int.reducePow, Int.reduceLT, Int.reduceLE, Int.reduceAdd, Int.reduceSub, Int.reduceMul, Int.reduceEq, Int.reduceNe, RunL_idxArrS, IdxAB_eq]
  (repeat' (with_reducible refine VC_intro ?_ (fun h => ?_); (focus first | decide | omega); clear h; try simp -implicitDefEqProofs -proj only [go_sem, Nat.reduceBEq, Nat.reduceLT, Nat.reduceLeDiff, Nat.reduceAdd, Nat.reduceMul, ↓reduceIte, Int.reduceToNat, Int.reducePow, Int.reduceLT, Int.reduceLE, Int.reduceAdd, Int.reduceSub, Int.reduceMul, Int.reduceEq, Int.reduceNe, eq_self]))
  refine AllocA_intro (fun b6 hb6 => ?_)
  replace hb6 : upd (upd Heap.none b2 _) b4 _ b6 = none := hb6
  obtain ⟨n3, n4⟩ := fresh_ne hb6 upd_eq
  obtain ⟨n5, n6⟩ := fresh_ne hb6 (by rw [upd_ne n1]; exact upd_eq)
  simp -implicitDefEqProofs -proj only [go_sem, Nat.reduceBEq, Nat.reduceLT, Nat.reduceLeDiff, Nat.reduceAdd, Nat.reduceMul, ↓reduceIte, Int.reduceToNat, Int.reducePow, Int.reduceLT, Int.reduceLE, Int.reduceAdd, Int.reduceSub, Int.reduceMul, Int.reduceEq, Int.reduceNe, n1, n2, n3, n4, n5, n6, rowG_len]
  refine LoopA_k (fun i : Nat => i ≤ G.length) 43 (fun i => [(1, .fn f []), (4, .ptr b4 0), (6, .ptr b6 0), (22, slG G), (23, i64 G.length), (24, i64 i)]) (fun i => [(b6, .box 30 [i64 (foldG bt (G.take i) b0).1, i64 (foldG bt (G.take i) b0).2]), (b4, .box 30 [i64 0, i64 0])]) (fun i => G.length - i) 0 (Nat.zero_le _) rfl ?_ ?_ ?_
  · simp -implicitDefEqProofs -proj only [go_sem, Nat.reduceBEq, Nat.reduceLT, Nat.reduceLeDiff, Nat.reduceAdd, Nat.reduceMul, ↓reduceIte, Int.reduceToNat, Int.reducePow, Int.reduceLT, Int.reduceLE, Int.reduceAdd, Int.reduceSub, Int.reduceMul, Int.reduceEq, Int.reduceNe, AllAt]
  · simp -implicitDefEqProofs -proj only [go_sem, Nat.reduceBEq, Nat.reduceLT, Nat.reduceLeDiff, Nat.reduceAdd, Nat.reduceMul, ↓reduceIte, Int.reduceToNat, Int.reducePow, Int.reduceLT, Int.reduceLE, Int.reduceAdd, Int.reduceSub, Int.reduceMul, Int.reduceEq, Int.reduceNe, AllH, n3, n4, List.take_zero, foldG, seg, Int.toNat_zero, Nat.zero_mul]
    try exact ⟨rfl, trivial⟩
  · intro i hi
    have hk : AllH (keepH [(b6, .box 30 [i64 (foldG bt (G.take i) b0).1, i64 (foldG bt (G.take i) b0).2]), (b4, .box 30 [i64 0, i64 0])]) [(b6, .box 30 [i64 (foldG bt (G.take i) b0).1, i64 (foldG bt (G.take i) b0).2]), (b4, .box 30 [i64 0, i64 0])] := keepH_all (by simp [keys, n3])
    obtain ⟨k6, k4, _⟩ := id hk
    by_cases hlt : i < G.length
    · have hel := rowG_at hlt
      have hgok := hok _ (List.getElem_mem hlt)
      have hends := ends_ok hgok
      have hts : foldG bt (G.take (i + 1)) b0 = pickB bt (pickB bt (foldG bt (G.take i) b0) (endA G[i])) (endB G[i]) := by rw [List.take_succ_eq_append_getElem hlt, foldG_snoc]
      generalize hBn : foldG bt (G.take (i + 1)) b0 = Bn at *
      generalize foldG bt (G.take i) b0 = B at *
      generalize G[i] = g at *
      simp -implicitDefEqProofs -proj only [go_sem, Nat.reduceBEq, Nat.reduceLT, Nat.reduceLeDiff, Nat.reduceAdd, Nat.reduceMul, ↓reduceIte, Int.reduceToNat, Int.reducePow, Int.reduceLT, Int.reduceLE, Int.reduceAdd, Int.reduceSub, Int.reduceMul, Int.reduceEq, Int.reduceNe, decide_eq_true (show (i : Int) < G.length by omega)]
      refine ElemA_at _ (by omega) hel ?_
      simp -implicitDefEqProofs -proj only [go_sem, Nat.reduceBEq, Nat.reduceLT, Nat.reduceLeDiff, Nat.reduceAdd, Nat.reduceMul, ↓reduceIte, Int.reduceToNat, Int.reducePow, Int.reduceLT, Int.reduceLE, Int.reduceAdd, Int.reduceSub, Int.reduceMul, Int.reduceEq, Int.reduceNe]
      refine AllocA_intro (fun b8 hb8 => ?_)
      replace hb8 : keepH [(b6, Blk.box 30 [i64 B.1, i64 B.2]), (b4, .box 30 [i64 0, i64 0])] b8 = none := hb8
      obtain ⟨m1, m2⟩ := fresh_ne hb8 k6
      obtain ⟨m3, m4⟩ := fresh_ne hb8 k4
      simp -implicitDefEqProofs -proj only [go_sem, Nat.reduceBEq, Nat.reduceLT, Nat.reduceLeDiff, Nat.reduceAdd, Nat.reduceMul, ↓reduceIte, Int.reduceToNat, Int.reducePow, Int.reduceLT, Int.reduceLE, Int.reduceAdd, Int.reduceSub, Int.reduceMul, Int.reduceEq, Int.reduceNe]
      refine CallA_pure hends ?_
      simp -implicitDefEqProofs -proj only [go_sem, Nat.reduceBEq, Nat.reduceLT, Nat.reduceLeDiff, Nat.reduceAdd, Nat.reduceMul, ↓reduceIte, Int.reduceToNat, Int.reducePow, Int.reduceLT, Int.reduceLE, Int.reduceAdd, Int.reduceSub, Int.reduceMul, Int.reduceEq, Int.reduceNe]
      refine LoopA_k (fun j : Nat => j ≤ 2) 43 (fun j => [(1, .fn f []), (4, .ptr b4 0), (6, .ptr b6 0), (22, slG G), (23, i64 G.length), (24, i64 i), (29, .agg [i64 (endA g).1, i64 (endA g).2, i64 (endB g).1, i64 (endB g).2]), (30, i64 j)]) (fun j => [(b6, .box 30 [i64 (stepB bt B g j).1, i64 (stepB bt B g j).2]), (b4, .box 30 [i64 0, i64 0])]) (fun j => 2 - j) 0 (by decide) rfl ?_ ?_ ?_
      · simp -implicitDefEqProofs -proj only [go_sem, Nat.reduceBEq, Nat.reduceLT, Nat.reduceLeDiff, Nat.reduceAdd, Nat.reduceMul, ↓reduceIte, Int.reduceToNat, Int.reducePow, Int.reduceLT, Int.reduceLE, Int.reduceAdd, Int.reduceSub, Int.reduceMul, Int.reduceEq, Int.reduceNe, AllAt]
      · simp -implicitDefEqProofs -proj only [go_sem, Nat.reduceBEq, Nat.reduceLT, Nat.reduceLeDiff, Nat.reduceAdd, Nat.reduceMul, ↓reduceIte, Int.reduceToNat, Int.reducePow, Int.reduceLT, Int.reduceLE, Int.reduceAdd, Int.reduceSub, Int.reduceMul, Int.reduceEq, Int.reduceNe, AllH, stepB, m1, m2, m3, m4, k6, k4]
      · intro j hj
        have hk2 : AllH (keepH [(b6, .box 30 [i64 (stepB bt B g j).1, i64 (stepB bt B g j).2]), (b4, .box 30 [i64 0, i64 0])]) [(b6, .box 30 [i64 (stepB bt B g j).1, i64 (stepB bt B g j).2]), (b4, .box 30 [i64 0, i64 0])] := keepH_all (by simp [keys, n3])
        obtain ⟨H2, hH2⟩ : ∃ H2, keepH [(b6, .box 30 [i64 (stepB bt B g j).1, i64 (stepB bt B g j).2]), (b4, .box 30 [i64 0, i64 0])] = H2 := ⟨_, rfl⟩
        rw [hH2] at hk2 ⊢
        obtain ⟨j6, j4, _⟩ := id hk2
        have hj3 : j = 0 ∨ j = 1 ∨ j = 2 := by omega
        rcases hj3 with rfl | rfl | rfl
        · simp -implicitDefEqProofs only [stepB] at j6
          by_cases hb : bt (endA g).1 (B).1 = true
          · have hp : pickB bt (B) (endA g) = endA g := if_pos hb
            have hcall := hf (endA g).1 (B).1
            rw [hb] at hcall
            simp -implicitDefEqProofs -proj only [go_sem, Nat.reduceBEq, Nat.reduceLT, Nat.reduceLeDiff, Nat.reduceAdd, Nat.reduceMul, ↓reduceIte, Int.reduceToNat, Int.reducePow, Int.reduceLT, Int.reduceLE, Int.reduceAdd, Int.reduceSub, Int.reduceMul, Int.reduceEq, Int.reduceNe, j6, j4, RunL_idxArrS, IdxAB_eq, decide_eq_true (show (0 : Int) < 2 by decide), if_true]
            (repeat' (with_reducible refine VC_intro ?_ (fun h => ?_); (focus first | decide | omega); clear h; try simp -implicitDefEqProofs -proj only [go_sem, Nat.reduceBEq, Nat.reduceLT, Nat.reduceLeDiff, Nat.reduceAdd, Nat.reduceMul, ↓reduceIte, Int.reduceToNat, Int.reducePow, Int.reduceLT, Int.reduceLE, Int.reduceAdd, Int.reduceSub, Int.reduceMul, Int.reduceEq, Int.reduceNe, eq_self]))
            refine AllocA_intro (fun b10 hb10 => ?_)
            replace hb10 : H2 b10 = none := hb10
            obtain ⟨p1, p2⟩ := fresh_ne hb10 j6
            obtain ⟨p3, p4⟩ := fresh_ne hb10 j4
            simp -implicitDefEqProofs -proj only [go_sem, Nat.reduceBEq, Nat.reduceLT, Nat.reduceLeDiff, Nat.reduceAdd, Nat.reduceMul, ↓reduceIte, Int.reduceToNat, Int.reducePow, Int.reduceLT, Int.reduceLE, Int.reduceAdd, Int.reduceSub, Int.reduceMul, Int.reduceEq, Int.reduceNe, j6, j4, p1, p2, p3, p4, seg, Int.toNat_zero, Nat.zero_mul, List.drop_zero, List.take_succ_cons, List.take_zero]
            refine CallA_pure hcall ?_
            simp -implicitDefEqProofs -proj only [go_sem, Nat.reduceBEq, Nat.reduceLT, Nat.reduceLeDiff, Nat.reduceAdd, Nat.reduceMul, ↓reduceIte, Int.reduceToNat, Int.reducePow, Int.reduceLT, Int.reduceLE, Int.reduceAdd, Int.reduceSub, Int.reduceMul, Int.reduceEq, Int.reduceNe, j6, j4, p1, p2, p3, p4]
            refine LoopQ_k 1 (by decide) (by decide) rfl ?_ ?_
            · simp -implicitDefEqProofs -proj only [go_sem, Nat.reduceBEq, Nat.reduceLT, Nat.reduceLeDiff, Nat.reduceAdd, Nat.reduceMul, ↓reduceIte, Int.reduceToNat, Int.reducePow, Int.reduceLT, Int.reduceLE, Int.reduceAdd, Int.reduceSub, Int.reduceMul, Int.reduceEq, Int.reduceNe, AllAt, show IntKind.i64.wrap 1 = 1 from by decide, show IntKind.i64.wrap 2 = 2 from by decide]
            · simp -implicitDefEqProofs -proj only [go_sem, Nat.reduceBEq, Nat.reduceLT, Nat.reduceLeDiff, Nat.reduceAdd, Nat.reduceMul, ↓reduceIte, Int.reduceToNat, Int.reducePow, Int.reduceLT, Int.reduceLE, Int.reduceAdd, Int.reduceSub, Int.reduceMul, Int.reduceEq, Int.reduceNe, AllH, stepB, hp, j4, p1, p2, p3, p4, n3, n4]
          · have hp : pickB bt (B) (endA g) = B := if_neg hb
            have hcall := hf (endA g).1 (B).1
            rw [show bt (endA g).1 (B).1 = false by simpa using hb] at hcall
            simp -implicitDefEqProofs -proj only [go_sem, Nat.reduceBEq, Nat.reduceLT, Nat.reduceLeDiff, Nat.reduceAdd, Nat.reduceMul, ↓reduceIte, Int.reduceToNat, Int.reducePow, Int.reduceLT, Int.reduceLE, Int.reduceAdd, Int.reduceSub, Int.reduceMul, Int.reduceEq, Int.reduceNe, j6, j4, RunL_idxArrS, IdxAB_eq, decide_eq_true (show (0 : Int) < 2 by decide), if_true]
            (repeat' (with_reducible refine VC_intro ?_ (fun h => ?_); (focus first | decide | omega); clear h; try simp -implicitDefEqProofs -proj only [go_sem, Nat.reduceBEq, Nat.reduceLT, Nat.reduceLeDiff, Nat.reduceAdd, Nat.reduceMul, ↓reduceIte, Int.reduceToNat, Int.reducePow, Int.reduceLT, Int.reduceLE, Int.reduceAdd, Int.reduceSub, Int.reduceMul, Int.reduceEq, Int.reduceNe, eq_self]))
            refine AllocA_intro (fun b10 hb10 => ?_)
            replace hb10 : H2 b10 = none := hb10
            obtain ⟨p1, p2⟩ := fresh_ne hb10 j6
            obtain ⟨p3, p4⟩ := fresh_ne hb10 j4
            simp -implicitDefEqProofs -proj only [go_sem, Nat.reduceBEq, Nat.reduceLT, Nat.reduceLeDiff, Nat.reduceAdd, Nat.reduceMul, ↓reduceIte, Int.reduceToNat, Int.reducePow, Int.reduceLT, Int.reduceLE, Int.reduceAdd, Int.reduceSub, Int.reduceMul, Int.reduceEq, Int.reduceNe, j6, j4, p1, p2, p3, p4, seg, Int.toNat_zero, Nat.zero_mul, List.drop_zero, List.take_succ_cons, List.take_zero]
            refine CallA_pure hcall ?_
            simp -implicitDefEqProofs -proj only [go_sem, Nat.reduceBEq, Nat.reduceLT, Nat.reduceLeDiff, Nat.reduceAdd, Nat.reduceMul, ↓reduceIte, Int.reduceToNat, Int.reducePow, Int.reduceLT, Int.reduceLE, Int.reduceAdd, Int.reduceSub, Int.reduceMul, Int.reduceEq, Int.reduceNe, j6, j4, p1, p2, p3, p4]
            refine LoopQ_k 1 (by decide) (by decide) rfl ?_ ?_
            · simp -implicitDefEqProofs -proj only [go_sem, Nat.reduceBEq, Nat.reduceLT, Nat.reduceLeDiff, Nat.reduceAdd, Nat.reduceMul, ↓reduceIte, Int.reduceToNat, Int.reducePow, Int.reduceLT, Int.reduceLE, Int.reduceAdd, Int.reduceSub, Int.reduceMul, Int.reduceEq, Int.reduceNe, AllAt, show IntKind.i64.wrap 1 = 1 from by decide, show IntKind.i64.wrap 2 = 2 from by decide]
            · simp -implicitDefEqProofs -proj only [go_sem, Nat.reduceBEq, Nat.reduceLT, Nat.reduceLeDiff, Nat.reduceAdd, Nat.reduceMul, ↓reduceIte, Int.reduceToNat, Int.reducePow, Int.reduceLT, Int.reduceLE, Int.reduceAdd, Int.reduceSub, Int.reduceMul, Int.reduceEq, Int.reduceNe, AllH, stepB, hp, j6, j4, p1, p2, p3, p4, n3, n4]
        · simp -implicitDefEqProofs only [stepB] at j6
          by_cases hb : bt (endB g).1 (pickB bt B (endA g)).1 = true
          · have hp : pickB bt (pickB bt B (endA g)) (endB g) = endB g := if_pos hb
            have hcall := hf (endB g).1 (pickB bt B (endA g)).1
            rw [hb] at hcall
            simp -implicitDefEqProofs -proj only [go_sem, Nat.reduceBEq, Nat.reduceLT, Nat.reduceLeDiff, Nat.reduceAdd, Nat.reduceMul, ↓reduceIte, Int.reduceToNat, Int.reducePow, Int.reduceLT, Int.reduceLE, Int.reduceAdd, Int.reduceSub, Int.reduceMul, Int.reduceEq, Int.reduceNe, j6, j4, RunL_idxArrS, IdxAB_eq, decide_eq_true (show (1 : Int) < 2 by decide), if_true]
            (repeat' (with_reducible refine VC_intro ?_ (fun h => ?_); (focus first | decide | omega); clear h; try simp -implicitDefEqProofs -proj only [go_sem, Nat.reduceBEq, Nat.reduceLT, Nat.reduceLeDiff, Nat.reduceAdd, Nat.reduceMul, ↓reduceIte, Int.reduceToNat, Int.reducePow, Int.reduceLT, Int.reduceLE, Int.reduceAdd, Int.reduceSub, Int.reduceMul, Int.reduceEq, Int.reduceNe, eq_self]))
            refine AllocA_intro (fun b10 hb10 => ?_)
            replace hb10 : H2 b10 = none := hb10
            obtain ⟨p1, p2⟩ := fresh_ne hb10 j6
            obtain ⟨p3, p4⟩ := fresh_ne hb10 j4
            simp -implicitDefEqProofs -proj only [go_sem, Nat.reduceBEq, Nat.reduceLT, Nat.reduceLeDiff, Nat.reduceAdd, Nat.reduceMul, ↓reduceIte, Int.reduceToNat, Int.reducePow, Int.reduceLT, Int.reduceLE, Int.reduceAdd, Int.reduceSub, Int.reduceMul, Int.reduceEq, Int.reduceNe, j6, j4, p1, p2, p3, p4, seg, Int.toNat_zero, Nat.zero_mul, List.drop_zero, List.take_succ_cons, List.take_zero]
            refine CallA_pure hcall ?_
            simp -implicitDefEqProofs -proj only [go_sem, Nat.reduceBEq, Nat.reduceLT, Nat.reduceLeDiff, Nat.reduceAdd, Nat.reduceMul, ↓reduceIte, Int.reduceToNat, Int.reducePow, Int.reduceLT, Int.reduceLE, Int.reduceAdd, Int.reduceSub, Int.reduceMul, Int.reduceEq, Int.reduceNe, j6, j4, p1, p2, p3, p4]
            refine LoopQ_k 2 (by decide) (by decide) rfl ?_ ?_
            · simp -implicitDefEqProofs -proj only [go_sem, Nat.reduceBEq, Nat.reduceLT, Nat.reduceLeDiff, Nat.reduceAdd, Nat.reduceMul, ↓reduceIte, Int.reduceToNat, Int.reducePow, Int.reduceLT, Int.reduceLE, Int.reduceAdd, Int.reduceSub, Int.reduceMul, Int.reduceEq, Int.reduceNe, AllAt, show IntKind.i64.wrap 1 = 1 from by decide, show IntKind.i64.wrap 2 = 2 from by decide]
            · simp -implicitDefEqProofs -proj only [go_sem, Nat.reduceBEq, Nat.reduceLT, Nat.reduceLeDiff, Nat.reduceAdd, Nat.reduceMul, ↓reduceIte, Int.reduceToNat, Int.reducePow, Int.reduceLT, Int.reduceLE, Int.reduceAdd, Int.reduceSub, Int.reduceMul, Int.reduceEq, Int.reduceNe, AllH, stepB, hp, j4, p1, p2, p3, p4, n3, n4]
          · have hp : pickB bt (pickB bt B (endA g)) (endB g) = pickB bt B (endA g) := if_neg hb
            have hcall := hf (endB g).1 (pickB bt B (endA g)).1
            rw [show bt (endB g).1 (pickB bt B (endA g)).1 = false by simpa using hb] at hcall
            simp -implicitDefEqProofs -proj only [go_sem, Nat.reduceBEq, Nat.reduceLT, Nat.reduceLeDiff, Nat.reduceAdd, Nat.reduceMul, ↓reduceIte, Int.reduceToNat, Int.reducePow, Int.reduceLT, Int.reduceLE, Int.reduceAdd, Int.reduceSub, Int.reduceMul, Int.reduceEq, Int.reduceNe, j6, j4, RunL_idxArrS, IdxAB_eq, decide_eq_true (show (1 : Int) < 2 by decide), if_true]
            (repeat' (with_reducible refine VC_intro ?_ (fun h => ?_); (focus first | decide | omega); clear h; try simp -implicitDefEqProofs -proj only [go_sem, Nat.reduceBEq, Nat.reduceLT, Nat.reduceLeDiff, Nat.reduceAdd, Nat.reduceMul, ↓reduceIte, Int.reduceToNat, Int.reducePow, Int.reduceLT, Int.reduceLE, Int.reduceAdd, Int.reduceSub, Int.reduceMul, Int.reduceEq, Int.reduceNe, eq_self]))
            refine AllocA_intro (fun b10 hb10 => ?_)
            replace hb10 : H2 b10 = none := hb10
            obtain ⟨p1, p2⟩ := fresh_ne hb10 j6
            obtain ⟨p3, p4⟩ := fresh_ne hb10 j4
            simp -implicitDefEqProofs -proj only [go_sem, Nat.reduceBEq, Nat.reduceLT, Nat.reduceLeDiff, Nat.reduceAdd, Nat.reduceMul, ↓reduceIte, Int.reduceToNat, Int.reducePow, Int.reduceLT, Int.reduceLE, Int.reduceAdd, Int.reduceSub, Int.reduceMul, Int.reduceEq, Int.reduceNe, j6, j4, p1, p2, p3, p4, seg, Int.toNat_zero, Nat.zero_mul, List.drop_zero, List.take_succ_cons, List.take_zero]
            refine CallA_pure hcall ?_
            simp -implicitDefEqProofs -proj only [go_sem, Nat.reduceBEq, Nat.reduceLT, Nat.reduceLeDiff, Nat.reduceAdd, Nat.reduceMul, ↓reduceIte, Int.reduceToNat, Int.reducePow, Int.reduceLT, Int.reduceLE, Int.reduceAdd, Int.reduceSub, Int.reduceMul, Int.reduceEq, Int.reduceNe, j6, j4, p1, p2, p3, p4]
            refine LoopQ_k 2 (by decide) (by decide) rfl ?_ ?_
            · simp -implicitDefEqProofs -proj only [go_sem, Nat.reduceBEq, Nat.reduceLT, Nat.reduceLeDiff, Nat.reduceAdd, Nat.reduceMul, ↓reduceIte, Int.reduceToNat, Int.reducePow, Int.reduceLT, Int.reduceLE, Int.reduceAdd, Int.reduceSub, Int.reduceMul, Int.reduceEq, Int.reduceNe, AllAt, show IntKind.i64.wrap 1 = 1 from by decide, show IntKind.i64.wrap 2 = 2 from by decide]
            · simp -implicitDefEqProofs -proj only [go_sem, Nat.reduceBEq, Nat.reduceLT, Nat.reduceLeDiff, Nat.reduceAdd, Nat.reduceMul, ↓reduceIte, Int.reduceToNat, Int.reducePow, Int.reduceLT, Int.reduceLE, Int.reduceAdd, Int.reduceSub, Int.reduceMul, Int.reduceEq, Int.reduceNe, AllH, stepB, hp, j6, j4, p1, p2, p3, p4, n3, n4]
        · simp -implicitDefEqProofs only [stepB] at j6
          simp -implicitDefEqProofs -proj only [go_sem, Nat.reduceBEq, Nat.reduceLT, Nat.reduceLeDiff, Nat.reduceAdd, Nat.reduceMul, ↓reduceIte, Int.reduceToNat, Int.reducePow, Int.reduceLT, Int.reduceLE, Int.reduceAdd, Int.reduceSub, Int.reduceMul, Int.reduceEq, Int.reduceNe, j6, j4, decide_eq_false (show ¬ (2 : Int) < 2 by decide)]
          refine LoopQ_k (i + 1) (by omega) (by omega) rfl ?_ ?_
          · simp -implicitDefEqProofs -proj only [go_sem, Nat.reduceBEq, Nat.reduceLT, Nat.reduceLeDiff, Nat.reduceAdd, Nat.reduceMul, ↓reduceIte, Int.reduceToNat, Int.reducePow, Int.reduceLT, Int.reduceLE, Int.reduceAdd, Int.reduceSub, Int.reduceMul, Int.reduceEq, Int.reduceNe, AllAt, i64_succ (show i < 9223372036854775807 by omega)]
          · simp -implicitDefEqProofs -proj only [go_sem, Nat.reduceBEq, Nat.reduceLT, Nat.reduceLeDiff, Nat.reduceAdd, Nat.reduceMul, ↓reduceIte, Int.reduceToNat, Int.reducePow, Int.reduceLT, Int.reduceLE, Int.reduceAdd, Int.reduceSub, Int.reduceMul, Int.reduceEq, Int.reduceNe, AllH, hts, hBn, j6, j4]
    · have hi' : i = G.length := by omega
      subst hi'
      rw [List.take_length] at k6
      simp -implicitDefEqProofs -proj only [go_sem, Nat.reduceBEq, Nat.reduceLT, Nat.reduceLeDiff, Nat.reduceAdd, Nat.reduceMul, ↓reduceIte, Int.reduceToNat, Int.reducePow, Int.reduceLT, Int.reduceLE, Int.reduceAdd, Int.reduceSub, Int.reduceMul, Int.reduceEq, Int.reduceNe, List.take_length, k6, k4, n3, n4, decide_eq_false (show ¬ (G.length : Int) < G.length by omega)]
      exact LendV_eq rfl
end Go.Proofs.Ythamjpioodlckaa.Abs
