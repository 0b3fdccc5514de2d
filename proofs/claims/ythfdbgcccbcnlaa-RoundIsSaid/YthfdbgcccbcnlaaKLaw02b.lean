/- The laws of chapter 2 that speak of wide numbers: what their functions answer. No claim stands here. -/
import Derived.Test.YthfdbgcccbcnlaaKLaw02
set_option linter.unusedSimpArgs false
set_option linter.unusedVariables false
namespace Go.Proofs.Ythfdbgcccbcnlaa.Abs
open Go Go.RowKit Go.Proofs
attribute [local go_sem] RunC_seq AF_n AF_r AF_b St_n St_t St_H Fst_mk Snd_mk RunC_ops RunC_cond RunC_block RunC_loop RunC_exit RunC_ret RunC_skip RunO_nil RunO_code RunO_code_ret RunO_code_exit RunO_blk RunO_blk_ret RunO_blk_exit RunL_nil RunL_guard GuardA_tt GuardA_ff GuardA_tf GuardA_ft GuardA_void CondA_t CondA_f PickA_t PickA_f RunL_mov RunL_pick RunL_alloc RunL_box RunL_load LoadA_ptr LoadB_1 LoadB_n LoadA_dptr LoadA_dptr_n RunL_store StoreA_ptr StoreB_box RunL_bin Bin_add Bin_sub Bin_mul Bin_quo Bin_rem Bin_shl Bin_shr Bin_andI Bin_orI Bin_xorI Bin_eql Bin_neq Bin_lss Bin_leq Bin_gtr Bin_geq RunL_binb Bin_beql Bin_bneq RunL_un UnA_not UnA_neg RunL_conv convV MapA_some RunL_nilCheck nilV RunL_mkfn RunL_fieldAddr faV RunL_field FieldA_1 FieldA_n RunL_elemAddr EAddrA_sl EAddrA_own EptrA_eq RunL_build BuildA_some RunL_extract ExtA_eq RunL_len lenV RunL_slen RunL_idxStr IdxSA_eq slenV RunL_minmax mmV minmaxL RunL_call RunL_callv CallvA_fn putS ev evL evO evP eqK eqKs EqB_agg RunL_eqAgg EqA_t EqA_f evQ buildC fits okCell cellsAV lenAV setSeg nth seg mapD repeatL putT_get upd_get argT keepT_cons keepT_nil keepH_cons keepH_nil cond_true cond_false VC_true finW resW resL resOne LoopQ_exit LoopQ_ret List.cons_append List.nil_append Bool.not_true Bool.not_false Bool.and_true Bool.and_self Nat.lt_add_left_iff_pos Nat.zero_add Nat.add_zero List.drop_succ_cons List.drop_zero List.take_succ_cons List.take_zero beq_self_eq_true RunC_dops RunL_loadS RunL_storeS StoreSA_ptr RunL_pcall RunL_pcallv PCallvA_fn newsOk and_self and_true true_and loadW_ptr LoadK_1 LoadK_n upd_upd RunL_buildSlice BSliceA_some RunL_buildSliceD frzL frz cutL LoadA_eptr LoadE_row RunL_append RunL_slice SliceA_sl StoreA_eptr List.length_cons List.length_nil Nat.min_def Int.cast_ofNat_Int Int.natCast_zero Int.natCast_one decide_true decide_false List.getElem?_cons_zero List.getElem?_cons_succ
theorem wide_small {d : Int} (h : -9223372036854775808 ≤ d ∧ d ≤ 9223372036854775807) : wide d = .agg [bv (decide (d < 0)), u64 0, u64 d.natAbs] := by
  unfold wide mag
  have h1 : (d.natAbs : Int) / 18446744073709551616 = 0 := by omega
  have h2 : (d.natAbs : Int) % 18446744073709551616 = d.natAbs := by omega
  rw [h1, h2]
theorem prod_small {x y : Int} (hx : Fit x) (hy : Fit y) : (x * y).natAbs ≤ 85070591730234615865843651857942052864 := by
  have h := prod_bound2 hx hy
  have : (x.natAbs : Int) * y.natAbs = (x * y).natAbs := by rw [Int.natAbs_mul]; rfl
  omega
set_option maxRecDepth 20000 in
set_option maxHeartbeats 4000000 in
theorem RoundNear_ok {a b c m : Int} (ha : Fit a) (hb : Fit b) (hc : Fit c) (_hm : Fit m) : DataW Try.prog f_poundagelaw02_RoundNear [i64 a, i64 b, i64 c, i64 m] (bv true) := by
  have h1 := MulDiv_ok (m := m) ha hb hc
  have h2 := RMul_ok ha hb
  have hp := prod_small ha hb
  refine CallW_intro comp_poundagelaw02_RoundNear (by simp) ?_
  simp -implicitDefEqProofs -proj only [go_sem, Nat.reduceBEq, Nat.reduceLT, Nat.reduceLeDiff, Nat.reduceAdd, Nat.reduceMul, ↓reduceIte, Int.reduceToNat, Int.reducePow, Int.reduceLT, Int.reduceLE, Int.reduceAdd, Int.reduceSub, Int.reduceMul, Int.reduceEq, Int.reduceNe]
  refine CallA_pure alive02_ok ?_
  simp -implicitDefEqProofs -proj only [go_sem, Nat.reduceBEq, Nat.reduceLT, Nat.reduceLeDiff, Nat.reduceAdd, Nat.reduceMul, ↓reduceIte, Int.reduceToNat, Int.reducePow, Int.reduceLT, Int.reduceLE, Int.reduceAdd, Int.reduceSub, Int.reduceMul, Int.reduceEq, Int.reduceNe]
  refine CallA_pure h1 ?_
  rcases mdR_ex (a * b) c m with ⟨n, e, hc0, hm, hn, hf⟩ | ⟨e, _⟩
  · rw [e]
    have h3 := RMul_ok hf hc
    have hq := prod_small hf hc
    have h4 := ROpp_ok (n := n * c) (by unfold Big; omega)
    have h5 := RAdd_ok (a := a * b) (b := -(n * c)) (by omega) (by omega)
    obtain ⟨q, r, k1, k2, k3, k4⟩ := rnd_near (p := a * b) (c := c) (m := m) hc0 hm
    rw [← hn] at k1 k4
    have hd : ∃ d, a * b + -(n * c) = d ∧ d = (if upP m q r c then r - c else r) := ⟨_, rfl, by omega⟩
    obtain ⟨d, hd1, hd2⟩ := hd
    rw [hd1] at h5
    have hds : -c < d ∧ d < c := by
      rw [hd2]; split
      · next hu => unfold upP at hu; omega
      · omega
    rw [wide_small (d := d) (by unfold Fit at hc; omega)] at h5
    generalize a * b = p at *
    generalize n * c = z at *
    have hcw : IntKind.u64.wrap c = c := wrapU_in (by unfold Fit at hc; omega)
    have hcd : IntKind.u64.wrap (c - (d.natAbs : Int)) = c - d.natAbs := wrapU_in (by unfold Fit at hc; omega)
    have hlt : decide (c ≤ (d.natAbs : Int)) = false := decide_eq_false (by omega)
    simp -implicitDefEqProofs -proj only [go_sem, Nat.reduceBEq, Nat.reduceLT, Nat.reduceLeDiff, Nat.reduceAdd, Nat.reduceMul, ↓reduceIte, Int.reduceToNat, Int.reducePow, Int.reduceLT, Int.reduceLE, Int.reduceAdd, Int.reduceSub, Int.reduceMul, Int.reduceEq, Int.reduceNe]
    (repeat' first
    | (refine CallA_pure (h2) ?_; try simp -implicitDefEqProofs -proj only [go_sem, Nat.reduceBEq, Nat.reduceLT, Nat.reduceLeDiff, Nat.reduceAdd, Nat.reduceMul, ↓reduceIte, Int.reduceToNat, Int.reducePow, Int.reduceLT, Int.reduceLE, Int.reduceAdd, Int.reduceSub, Int.reduceMul, Int.reduceEq, Int.reduceNe, hcw, hcd, hlt])
    | (refine CallA_pure (h3) ?_; try simp -implicitDefEqProofs -proj only [go_sem, Nat.reduceBEq, Nat.reduceLT, Nat.reduceLeDiff, Nat.reduceAdd, Nat.reduceMul, ↓reduceIte, Int.reduceToNat, Int.reducePow, Int.reduceLT, Int.reduceLE, Int.reduceAdd, Int.reduceSub, Int.reduceMul, Int.reduceEq, Int.reduceNe, hcw, hcd, hlt])
    | (refine CallA_pure (h4) ?_; try simp -implicitDefEqProofs -proj only [go_sem, Nat.reduceBEq, Nat.reduceLT, Nat.reduceLeDiff, Nat.reduceAdd, Nat.reduceMul, ↓reduceIte, Int.reduceToNat, Int.reducePow, Int.reduceLT, Int.reduceLE, Int.reduceAdd, Int.reduceSub, Int.reduceMul, Int.reduceEq, Int.reduceNe, hcw, hcd, hlt])
    | (refine CallA_pure (h5) ?_; try simp -implicitDefEqProofs -proj only [go_sem, Nat.reduceBEq, Nat.reduceLT, Nat.reduceLeDiff, Nat.reduceAdd, Nat.reduceMul, ↓reduceIte, Int.reduceToNat, Int.reducePow, Int.reduceLT, Int.reduceLE, Int.reduceAdd, Int.reduceSub, Int.reduceMul, Int.reduceEq, Int.reduceNe, hcw, hcd, hlt]))
    clear h1 h2 h3 h4 h5
    have hu : ∀ x : Int, d = (if upP x q r c then r - c else r) → upP x q r c ∧ d = r - c ∨ ¬ upP x q r c ∧ d = r := by
      intro x hx
      by_cases h : upP x q r c
      · exact .inl ⟨h, by rw [hx, if_pos h]⟩
      · exact .inr ⟨h, by rw [hx, if_neg h]⟩
    have hu := hu m hd2
    have ht : n.tmod 2 = 0 ↔ n % 2 = 0 := ⟨fun h => Int.emod_eq_zero_of_dvd (Int.dvd_of_tmod_eq_zero h), fun h => Int.tmod_eq_zero_of_dvd (Int.dvd_of_emod_eq_zero h)⟩
    have hn2 : upP m q r c ∧ n = q + 1 ∨ ¬ upP m q r c ∧ n = q := by
      by_cases h : upP m q r c
      · exact .inl ⟨h, by rw [k4, if_pos h]⟩
      · exact .inr ⟨h, by rw [k4, if_neg h]; omega⟩
    unfold upP at hu hn2
    clear hd2 k4 k1 hd1 hn hp hq e
    (repeat' first
    | (with_reducible refine Guard_split (fun h => ?_) (fun h => ?_) <;> (simp -implicitDefEqProofs -proj only [go_sem, Nat.reduceBEq, Nat.reduceLT, Nat.reduceLeDiff, Nat.reduceAdd, Nat.reduceMul, ↓reduceIte, Int.reduceToNat, Int.reducePow, Int.reduceLT, Int.reduceLE, Int.reduceAdd, Int.reduceSub, Int.reduceMul, Int.reduceEq, Int.reduceNe, h, hcw, hcd, hlt]; try (revert h; intro _)))
    | (with_reducible refine Cond_split (fun h => ?_) (fun h => ?_) <;> (simp -implicitDefEqProofs -proj only [go_sem, Nat.reduceBEq, Nat.reduceLT, Nat.reduceLeDiff, Nat.reduceAdd, Nat.reduceMul, ↓reduceIte, Int.reduceToNat, Int.reducePow, Int.reduceLT, Int.reduceLE, Int.reduceAdd, Int.reduceSub, Int.reduceMul, Int.reduceEq, Int.reduceNe, h, hcw, hcd, hlt]; try (revert h; intro _)))
    | (with_reducible refine Pick_split (fun h => ?_) (fun h => ?_) <;> (simp -implicitDefEqProofs -proj only [go_sem, Nat.reduceBEq, Nat.reduceLT, Nat.reduceLeDiff, Nat.reduceAdd, Nat.reduceMul, ↓reduceIte, Int.reduceToNat, Int.reducePow, Int.reduceLT, Int.reduceLE, Int.reduceAdd, Int.reduceSub, Int.reduceMul, Int.reduceEq, Int.reduceNe, h, hcw, hcd, hlt]; try (revert h; intro _)))
    | (with_reducible refine AllocA_intro (fun _ hb => ?_); simp -implicitDefEqProofs only [upd_none, keepH_none, keepH_nil, Heap.none_get, and_true, true_and] at hb; simp -implicitDefEqProofs -proj only [go_sem, Nat.reduceBEq, Nat.reduceLT, Nat.reduceLeDiff, Nat.reduceAdd, Nat.reduceMul, ↓reduceIte, Int.reduceToNat, Int.reducePow, Int.reduceLT, Int.reduceLE, Int.reduceAdd, Int.reduceSub, Int.reduceMul, Int.reduceEq, Int.reduceNe, hcw, hcd, hlt]; try (revert hb; intro _))
    | (with_reducible refine AllocR_intro (fun _ hb => ?_); simp -implicitDefEqProofs only [upd_none, keepH_none, keepH_nil, Heap.none_get, and_true, true_and] at hb; simp -implicitDefEqProofs -proj only [go_sem, Nat.reduceBEq, Nat.reduceLT, Nat.reduceLeDiff, Nat.reduceAdd, Nat.reduceMul, ↓reduceIte, Int.reduceToNat, Int.reducePow, Int.reduceLT, Int.reduceLE, Int.reduceAdd, Int.reduceSub, Int.reduceMul, Int.reduceEq, Int.reduceNe, hcw, hcd, hlt]; try (revert hb; intro _))
    | (with_reducible refine IdxE_1 _ rfl (by simp) ?_; simp -implicitDefEqProofs -proj only [go_sem, Nat.reduceBEq, Nat.reduceLT, Nat.reduceLeDiff, Nat.reduceAdd, Nat.reduceMul, ↓reduceIte, Int.reduceToNat, Int.reducePow, Int.reduceLT, Int.reduceLE, Int.reduceAdd, Int.reduceSub, Int.reduceMul, Int.reduceEq, Int.reduceNe, hcw, hcd, hlt])
    | (with_reducible refine IdxE_n _ rfl (by simp) ?_; simp -implicitDefEqProofs -proj only [go_sem, Nat.reduceBEq, Nat.reduceLT, Nat.reduceLeDiff, Nat.reduceAdd, Nat.reduceMul, ↓reduceIte, Int.reduceToNat, Int.reducePow, Int.reduceLT, Int.reduceLE, Int.reduceAdd, Int.reduceSub, Int.reduceMul, Int.reduceEq, Int.reduceNe, hcw, hcd, hlt])
    | (with_reducible refine VC_intro ?_ (fun h => ?_); (focus first | decide | omega); try clear h; try simp -implicitDefEqProofs -proj only [go_sem, Nat.reduceBEq, Nat.reduceLT, Nat.reduceLeDiff, Nat.reduceAdd, Nat.reduceMul, ↓reduceIte, Int.reduceToNat, Int.reducePow, Int.reduceLT, Int.reduceLE, Int.reduceAdd, Int.reduceSub, Int.reduceMul, Int.reduceEq, Int.reduceNe, hcw, hcd, hlt])
    | (with_reducible refine VC_intro ?_ (fun h => ?_); rotate_left; try clear h; try simp -implicitDefEqProofs -proj only [go_sem, Nat.reduceBEq, Nat.reduceLT, Nat.reduceLeDiff, Nat.reduceAdd, Nat.reduceMul, ↓reduceIte, Int.reduceToNat, Int.reducePow, Int.reduceLT, Int.reduceLE, Int.reduceAdd, Int.reduceSub, Int.reduceMul, Int.reduceEq, Int.reduceNe, hcw, hcd, hlt]; rotate_right))
    all_goals
      refine LendV_eq ?_
      clear hcw hcd hlt
      try simp -implicitDefEqProofs only [decide_eq_true_eq, decide_eq_false_iff_not, Bool.not_eq_true', Bool.not_eq_false', Bool.and_eq_true, Bool.and_eq_false_iff, Bool.or_eq_true, Bool.or_eq_false_iff, beq_iff_eq, beq_eq_false_iff_ne, ne_eq, decide_eq_decide, Bool.not_eq_true, Bool.not_eq_false] at *
      try simp -implicitDefEqProofs only [← decide_not, ← Bool.decide_and, ← Bool.decide_or, Bool.beq_eq_decide_eq, AV.d.injEq, D.bool.injEq, D.int.injEq, D.str.injEq, AV.tup.injEq, AV.agg.injEq, List.cons.injEq, true_and, and_true, decide_eq_decide, true_eq_decide_iff, false_eq_decide_iff, decide_eq_true_eq, decide_eq_false_iff_not, Bool.false_eq_true, Bool.true_eq_false]
      try omega
  · rw [e]
    simp -implicitDefEqProofs -proj only [go_sem, Nat.reduceBEq, Nat.reduceLT, Nat.reduceLeDiff, Nat.reduceAdd, Nat.reduceMul, ↓reduceIte, Int.reduceToNat, Int.reducePow, Int.reduceLT, Int.reduceLE, Int.reduceAdd, Int.reduceSub, Int.reduceMul, Int.reduceEq, Int.reduceNe, eq_self]
    exact LendV_eq rfl
theorem wide_inj {x y : Int} (hx : x.natAbs < 340282366920938463463374607431768211456) (hy : y.natAbs < 340282366920938463463374607431768211456) : (decide (x < 0) == decide (y < 0) && (decide ((x.natAbs : Int) / 18446744073709551616 = (y.natAbs : Int) / 18446744073709551616) && decide ((x.natAbs : Int) % 18446744073709551616 = (y.natAbs : Int) % 18446744073709551616))) = decide (x = y) := by
  by_cases h : x = y
  · subst h; simp
  · rw [decide_eq_false h]
    simp -implicitDefEqProofs only [Bool.and_eq_false_iff, beq_eq_false_iff_ne, ne_eq, decide_eq_decide, decide_eq_false_iff_not]
    omega
theorem rnd_0 {p c : Int} : rnd p c 0 = p / c := by unfold rnd upP; simp
theorem rnd_1 {p c : Int} : rnd p c 1 = p / c + if 0 < p % c then 1 else 0 := by unfold rnd upP; simp
theorem rnd_in {p c m : Int} (hc : 0 < c) (hm : 0 ≤ m ∧ m ≤ 3) : rnd p c m = p / c ∨ rnd p c m = p / c + 1 ∧ 0 < p % c := by
  unfold rnd
  split
  · next h => unfold upP at h; right; omega
  · left; omega
theorem rnd_four (p : Int) {c : Int} (hc : 0 < c) : rnd p c 0 ≤ rnd p c 2 ∧ rnd p c 2 ≤ rnd p c 1 ∧ rnd p c 0 ≤ rnd p c 3 ∧ rnd p c 3 ≤ rnd p c 1 ∧ (rnd p c 0 * c = p ∧ rnd p c 0 = rnd p c 1 ∨ rnd p c 0 * c ≠ p ∧ rnd p c 1 = rnd p c 0 + 1) := by
  obtain ⟨e, f, g⟩ := div_facts (p := p) hc
  have h2 := rnd_in (p := p) (m := 2) hc (by omega)
  have h3 := rnd_in (p := p) (m := 3) hc (by omega)
  rw [rnd_0, rnd_1]
  by_cases h : 0 < p % c
  · rw [if_pos h]; omega
  · rw [if_neg h]; omega
set_option maxRecDepth 20000 in
set_option maxHeartbeats 4000000 in
theorem RoundModes_ok {a b c : Int} (ha : Fit a) (hb : Fit b) (hc : Fit c) : DataW Try.prog f_poundagelaw02_RoundModes [i64 a, i64 b, i64 c] (bv true) := by
  have h1 := MulDiv_ok (m := 0) ha hb hc
  have h2 := MulDiv_ok (m := 1) ha hb hc
  have h3 := MulDiv_ok (m := 2) ha hb hc
  have h4 := MulDiv_ok (m := 3) ha hb hc
  have h5 := RMul_ok ha hb
  have hp := prod_small ha hb
  rcases mdR_ex (a * b) c 0 with ⟨n1, e1, hc0, _, r1, f1⟩ | ⟨e1, _⟩
  · rcases mdR_ex (a * b) c 1 with ⟨n2, e2, _, _, r2, f2⟩ | ⟨e2, _⟩
    · have b1 := rnd_four (a * b) hc0
      rw [← r1, ← r2] at b1
      obtain ⟨b1, b2, b3, b4, b5⟩ := b1
      have fh : Fit (rnd (a * b) c 2) := by unfold Fit at *; omega
      have fe : Fit (rnd (a * b) c 3) := by unfold Fit at *; omega
      rw [mdR_yes hc0 (by decide), fitR_yes fh] at h3
      rw [mdR_yes hc0 (by decide), fitR_yes fe] at h4
      have h6 := RMul_ok f1 hc
      have hq := prod_small f1 hc
      have hw := wide_inj (x := n1 * c) (y := a * b) (by omega) (by omega)
      rw [e1] at h1; rw [e2] at h2
      have hsub : IntKind.i64.wrap (n2 - n1) = n2 - n1 := wrapI_fit (by unfold Fit; omega)
      have hsub1 : IntKind.i64.wrap (rnd (a * b) c 2 - rnd (a * b) c 3) = rnd (a * b) c 2 - rnd (a * b) c 3 := wrapI_fit (by unfold Fit; omega)
      have hsub2 : IntKind.i64.wrap (rnd (a * b) c 3 - rnd (a * b) c 2) = rnd (a * b) c 3 - rnd (a * b) c 2 := wrapI_fit (by unfold Fit; omega)
      generalize rnd (a * b) c 2 = x at *
      generalize rnd (a * b) c 3 = y at *
      generalize hab : a * b = p at *
      generalize hnc : n1 * c = z at *
      clear e1 e2 r1 r2 f1 f2 hab hnc
      have c1 : decide (x < n1) = false := decide_eq_false (by omega)
      have c2 : decide (n2 < x) = false := decide_eq_false (by omega)
      have c3 : decide (y < n1) = false := decide_eq_false (by omega)
      have c4 : decide (n2 < y) = false := decide_eq_false (by omega)
      have key : ∀ (u v : Bool) (d1 d2 : Int), decide (x < y) = u → decide (y < x) = v → IntKind.i64.wrap (y - x) = d1 → IntKind.i64.wrap (x - y) = d2 → (u = true → d1 = 1) → (v = true → d2 = 1) → DataW Try.prog f_poundagelaw02_RoundModes [i64 a, i64 b, i64 c] (bv true) := by
        intro u v d1 d2 k1 k2 k3 k4 k5 k6
        have kk : ∀ (w t : Bool) (d3 : Int), decide (z = p) = w → decide (n1 = n2) = t → IntKind.i64.wrap (n2 - n1) = d3 → (w = true → t = true) → (w = false → d3 = 1) → DataW Try.prog f_poundagelaw02_RoundModes [i64 a, i64 b, i64 c] (bv true) := by
          intro w t d3 l1 l2 l3 l4 l5
          rw [l1] at hw
          refine CallW_intro comp_poundagelaw02_RoundModes (by simp) ?_
          simp -implicitDefEqProofs -proj only [go_sem, Nat.reduceBEq, Nat.reduceLT, Nat.reduceLeDiff, Nat.reduceAdd, Nat.reduceMul, ↓reduceIte, Int.reduceToNat, Int.reducePow, Int.reduceLT, Int.reduceLE, Int.reduceAdd, Int.reduceSub, Int.reduceMul, Int.reduceEq, Int.reduceNe]
          refine CallA_pure alive02_ok ?_
          simp -implicitDefEqProofs -proj only [go_sem, Nat.reduceBEq, Nat.reduceLT, Nat.reduceLeDiff, Nat.reduceAdd, Nat.reduceMul, ↓reduceIte, Int.reduceToNat, Int.reducePow, Int.reduceLT, Int.reduceLE, Int.reduceAdd, Int.reduceSub, Int.reduceMul, Int.reduceEq, Int.reduceNe]
          refine CallA_pure h1 ?_
          simp -implicitDefEqProofs -proj only [go_sem, Nat.reduceBEq, Nat.reduceLT, Nat.reduceLeDiff, Nat.reduceAdd, Nat.reduceMul, ↓reduceIte, Int.reduceToNat, Int.reducePow, Int.reduceLT, Int.reduceLE, Int.reduceAdd, Int.reduceSub, Int.reduceMul, Int.reduceEq, Int.reduceNe]
          refine CallA_pure h2 ?_
          simp -implicitDefEqProofs -proj only [go_sem, Nat.reduceBEq, Nat.reduceLT, Nat.reduceLeDiff, Nat.reduceAdd, Nat.reduceMul, ↓reduceIte, Int.reduceToNat, Int.reducePow, Int.reduceLT, Int.reduceLE, Int.reduceAdd, Int.reduceSub, Int.reduceMul, Int.reduceEq, Int.reduceNe]
          refine CallA_pure h3 ?_
          simp -implicitDefEqProofs -proj only [go_sem, Nat.reduceBEq, Nat.reduceLT, Nat.reduceLeDiff, Nat.reduceAdd, Nat.reduceMul, ↓reduceIte, Int.reduceToNat, Int.reducePow, Int.reduceLT, Int.reduceLE, Int.reduceAdd, Int.reduceSub, Int.reduceMul, Int.reduceEq, Int.reduceNe]
          refine CallA_pure h4 ?_
          simp -implicitDefEqProofs -proj only [go_sem, Nat.reduceBEq, Nat.reduceLT, Nat.reduceLeDiff, Nat.reduceAdd, Nat.reduceMul, ↓reduceIte, Int.reduceToNat, Int.reducePow, Int.reduceLT, Int.reduceLE, Int.reduceAdd, Int.reduceSub, Int.reduceMul, Int.reduceEq, Int.reduceNe]
          refine CallA_pure h6 ?_
          simp -implicitDefEqProofs -proj only [go_sem, Nat.reduceBEq, Nat.reduceLT, Nat.reduceLeDiff, Nat.reduceAdd, Nat.reduceMul, ↓reduceIte, Int.reduceToNat, Int.reducePow, Int.reduceLT, Int.reduceLE, Int.reduceAdd, Int.reduceSub, Int.reduceMul, Int.reduceEq, Int.reduceNe]
          refine CallA_pure h5 ?_
          cases w
          · have l5 := l5 rfl
            subst l5
            cases u
            · cases v
              · simp -implicitDefEqProofs -proj only [go_sem, Nat.reduceBEq, Nat.reduceLT, Nat.reduceLeDiff, Nat.reduceAdd, Nat.reduceMul, ↓reduceIte, Int.reduceToNat, Int.reducePow, Int.reduceLT, Int.reduceLE, Int.reduceAdd, Int.reduceSub, Int.reduceMul, Int.reduceEq, Int.reduceNe, wide, mag, hw, c1, c2, c3, c4, k1, k2, k3, k4, l2, l3]
                exact LendV_eq rfl
              · have k6 := k6 rfl
                subst k6
                simp -implicitDefEqProofs -proj only [go_sem, Nat.reduceBEq, Nat.reduceLT, Nat.reduceLeDiff, Nat.reduceAdd, Nat.reduceMul, ↓reduceIte, Int.reduceToNat, Int.reducePow, Int.reduceLT, Int.reduceLE, Int.reduceAdd, Int.reduceSub, Int.reduceMul, Int.reduceEq, Int.reduceNe, wide, mag, hw, c1, c2, c3, c4, k1, k2, k3, k4, l2, l3]
                exact LendV_eq rfl
            · have k5 := k5 rfl
              subst k5
              cases v
              · simp -implicitDefEqProofs -proj only [go_sem, Nat.reduceBEq, Nat.reduceLT, Nat.reduceLeDiff, Nat.reduceAdd, Nat.reduceMul, ↓reduceIte, Int.reduceToNat, Int.reducePow, Int.reduceLT, Int.reduceLE, Int.reduceAdd, Int.reduceSub, Int.reduceMul, Int.reduceEq, Int.reduceNe, wide, mag, hw, c1, c2, c3, c4, k1, k2, k3, k4, l2, l3]
                exact LendV_eq rfl
              · have k6 := k6 rfl
                subst k6
                simp -implicitDefEqProofs -proj only [go_sem, Nat.reduceBEq, Nat.reduceLT, Nat.reduceLeDiff, Nat.reduceAdd, Nat.reduceMul, ↓reduceIte, Int.reduceToNat, Int.reducePow, Int.reduceLT, Int.reduceLE, Int.reduceAdd, Int.reduceSub, Int.reduceMul, Int.reduceEq, Int.reduceNe, wide, mag, hw, c1, c2, c3, c4, k1, k2, k3, k4, l2, l3]
                exact LendV_eq rfl
          · have l4 := l4 rfl
            subst l4
            cases u
            · cases v
              · simp -implicitDefEqProofs -proj only [go_sem, Nat.reduceBEq, Nat.reduceLT, Nat.reduceLeDiff, Nat.reduceAdd, Nat.reduceMul, ↓reduceIte, Int.reduceToNat, Int.reducePow, Int.reduceLT, Int.reduceLE, Int.reduceAdd, Int.reduceSub, Int.reduceMul, Int.reduceEq, Int.reduceNe, wide, mag, hw, c1, c2, c3, c4, k1, k2, k3, k4, l2, l3]
                exact LendV_eq rfl
              · have k6 := k6 rfl
                subst k6
                simp -implicitDefEqProofs -proj only [go_sem, Nat.reduceBEq, Nat.reduceLT, Nat.reduceLeDiff, Nat.reduceAdd, Nat.reduceMul, ↓reduceIte, Int.reduceToNat, Int.reducePow, Int.reduceLT, Int.reduceLE, Int.reduceAdd, Int.reduceSub, Int.reduceMul, Int.reduceEq, Int.reduceNe, wide, mag, hw, c1, c2, c3, c4, k1, k2, k3, k4, l2, l3]
                exact LendV_eq rfl
            · have k5 := k5 rfl
              subst k5
              cases v
              · simp -implicitDefEqProofs -proj only [go_sem, Nat.reduceBEq, Nat.reduceLT, Nat.reduceLeDiff, Nat.reduceAdd, Nat.reduceMul, ↓reduceIte, Int.reduceToNat, Int.reducePow, Int.reduceLT, Int.reduceLE, Int.reduceAdd, Int.reduceSub, Int.reduceMul, Int.reduceEq, Int.reduceNe, wide, mag, hw, c1, c2, c3, c4, k1, k2, k3, k4, l2, l3]
                exact LendV_eq rfl
              · have k6 := k6 rfl
                subst k6
                simp -implicitDefEqProofs -proj only [go_sem, Nat.reduceBEq, Nat.reduceLT, Nat.reduceLeDiff, Nat.reduceAdd, Nat.reduceMul, ↓reduceIte, Int.reduceToNat, Int.reducePow, Int.reduceLT, Int.reduceLE, Int.reduceAdd, Int.reduceSub, Int.reduceMul, Int.reduceEq, Int.reduceNe, wide, mag, hw, c1, c2, c3, c4, k1, k2, k3, k4, l2, l3]
                exact LendV_eq rfl
        exact kk _ _ _ rfl rfl rfl (fun h => decide_eq_true (by simp -implicitDefEqProofs only [decide_eq_true_eq] at h; omega)) (fun h => by simp -implicitDefEqProofs only [decide_eq_false_iff_not] at h; rw [hsub]; omega)
      exact key _ _ _ _ rfl rfl rfl rfl (fun h => by simp -implicitDefEqProofs only [decide_eq_true_eq] at h; rw [hsub2]; omega) (fun h => by simp -implicitDefEqProofs only [decide_eq_true_eq] at h; rw [hsub1]; omega)
    · rw [e1] at h1; rw [e2] at h2
      refine CallW_intro comp_poundagelaw02_RoundModes (by simp) ?_
      simp -implicitDefEqProofs -proj only [go_sem, Nat.reduceBEq, Nat.reduceLT, Nat.reduceLeDiff, Nat.reduceAdd, Nat.reduceMul, ↓reduceIte, Int.reduceToNat, Int.reducePow, Int.reduceLT, Int.reduceLE, Int.reduceAdd, Int.reduceSub, Int.reduceMul, Int.reduceEq, Int.reduceNe]
      refine CallA_pure alive02_ok ?_
      simp -implicitDefEqProofs -proj only [go_sem, Nat.reduceBEq, Nat.reduceLT, Nat.reduceLeDiff, Nat.reduceAdd, Nat.reduceMul, ↓reduceIte, Int.reduceToNat, Int.reducePow, Int.reduceLT, Int.reduceLE, Int.reduceAdd, Int.reduceSub, Int.reduceMul, Int.reduceEq, Int.reduceNe]
      refine CallA_pure h1 ?_
      simp -implicitDefEqProofs -proj only [go_sem, Nat.reduceBEq, Nat.reduceLT, Nat.reduceLeDiff, Nat.reduceAdd, Nat.reduceMul, ↓reduceIte, Int.reduceToNat, Int.reducePow, Int.reduceLT, Int.reduceLE, Int.reduceAdd, Int.reduceSub, Int.reduceMul, Int.reduceEq, Int.reduceNe]
      refine CallA_pure h2 ?_
      simp -implicitDefEqProofs -proj only [go_sem, Nat.reduceBEq, Nat.reduceLT, Nat.reduceLeDiff, Nat.reduceAdd, Nat.reduceMul, ↓reduceIte, Int.reduceToNat, Int.reducePow, Int.reduceLT, Int.reduceLE, Int.reduceAdd, Int.reduceSub, Int.reduceMul, Int.reduceEq, Int.reduceNe]
      exact LendV_eq rfl
  · rw [e1] at h1
    refine CallW_intro comp_poundagelaw02_RoundModes (by simp) ?_
    simp -implicitDefEqProofs -proj only [go_sem, Nat.reduceBEq, Nat.reduceLT, Nat.reduceLeDiff, Nat.reduceAdd, Nat.reduceMul, ↓reduceIte, Int.reduceToNat, Int.reducePow, Int.reduceLT, Int.reduceLE, Int.reduceAdd, Int.reduceSub, Int.reduceMul, Int.reduceEq, Int.reduceNe]
    refine CallA_pure alive02_ok ?_
    simp -implicitDefEqProofs -proj only [go_sem, Nat.reduceBEq, Nat.reduceLT, Nat.reduceLeDiff, Nat.reduceAdd, Nat.reduceMul, ↓reduceIte, Int.reduceToNat, Int.reducePow, Int.reduceLT, Int.reduceLE, Int.reduceAdd, Int.reduceSub, Int.reduceMul, Int.reduceEq, Int.reduceNe]
    refine CallA_pure h1 ?_
    simp -implicitDefEqProofs -proj only [go_sem, Nat.reduceBEq, Nat.reduceLT, Nat.reduceLeDiff, Nat.reduceAdd, Nat.reduceMul, ↓reduceIte, Int.reduceToNat, Int.reducePow, Int.reduceLT, Int.reduceLE, Int.reduceAdd, Int.reduceSub, Int.reduceMul, Int.reduceEq, Int.reduceNe]
    refine CallA_pure h2 ?_
    rcases mdR_ex (a * b) c 1 with ⟨n2, e2, _, _, r2, f2⟩ | ⟨e2, _⟩
    all_goals
      rw [e2]
      simp -implicitDefEqProofs -proj only [go_sem, Nat.reduceBEq, Nat.reduceLT, Nat.reduceLeDiff, Nat.reduceAdd, Nat.reduceMul, ↓reduceIte, Int.reduceToNat, Int.reducePow, Int.reduceLT, Int.reduceLE, Int.reduceAdd, Int.reduceSub, Int.reduceMul, Int.reduceEq, Int.reduceNe]
      exact LendV_eq rfl
end Go.Proofs.Ythfdbgcccbcnlaa.Abs
