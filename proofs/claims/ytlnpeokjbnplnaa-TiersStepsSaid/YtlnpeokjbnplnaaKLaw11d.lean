/- The law TiersSteps. No claim stands here. -/
import Derived.Test.YtlnpeokjbnplnaaKSteps11b
set_option linter.unusedSimpArgs false
set_option linter.unusedVariables false
namespace Go.Proofs.Ytlnpeokjbnplnaa.Abs
open Go Go.RowKit Go.Proofs
attribute [local go_sem] RunC_seq AF_n AF_r AF_b St_n St_t St_H Fst_mk Snd_mk RunC_ops RunC_cond RunC_block RunC_loop RunC_exit RunC_ret RunC_skip RunO_nil RunO_code RunO_code_ret RunO_code_exit RunO_blk RunO_blk_ret RunO_blk_exit RunL_nil RunL_guard GuardA_tt GuardA_ff GuardA_tf GuardA_ft GuardA_void CondA_t CondA_f PickA_t PickA_f RunL_mov RunL_pick RunL_alloc RunL_box RunL_load LoadA_ptr LoadB_1 LoadB_n LoadA_dptr LoadA_dptr_n RunL_store StoreA_ptr StoreB_box RunL_bin Bin_add Bin_sub Bin_mul Bin_quo Bin_rem Bin_shl Bin_shr Bin_andI Bin_orI Bin_xorI Bin_eql Bin_neq Bin_lss Bin_leq Bin_gtr Bin_geq RunL_binb Bin_beql Bin_bneq RunL_un UnA_not UnA_neg RunL_conv convV MapA_some RunL_nilCheck nilV RunL_mkfn RunL_fieldAddr faV RunL_field FieldA_1 FieldA_n RunL_elemAddr EAddrA_sl EAddrA_own EptrA_eq RunL_build BuildA_some RunL_extract ExtA_eq RunL_len lenV_sl lenV_nilsl lenV_own RunL_slen RunL_idxStr IdxSA_eq slenV RunL_minmax mmV minmaxL RunL_call RunL_callv CallvA_fn putS ev evL evO evP eqK eqKs EqB_agg RunL_eqAgg EqA_t EqA_f evQ buildC fits_agg cellsAV_agg fits_d cellsAV_d fits_nilp cellsAV_nilp fits_nilsl cellsAV_nilsl fits_nilfn cellsAV_nilfn fits_ptr cellsAV_ptr fits_eptr cellsAV_eptr fits_dptr cellsAV_dptr fits_own cellsAV_own fits_fn cellsAV_fn rowV_fits rowV_cells rowV_len lenAV setSeg nth seg mapD repeatL putT_get upd_get argT keepT_cons keepT_nil keepH_cons keepH_nil cond_true cond_false VC_true finW resW resL resOne LoopQ_exit LoopQ_ret List.cons_append List.nil_append Bool.not_true Bool.not_false Bool.and_true Bool.and_self Nat.lt_add_left_iff_pos Nat.zero_add Nat.add_zero List.drop_succ_cons List.drop_zero List.take_succ_cons List.take_zero beq_self_eq_true Bool.false_eq_true RunC_dops RunL_loadS RunL_storeS StoreSA_ptr RunL_pcall RunL_pcallv PCallvA_fn newsOk and_self and_true true_and loadW_ptr LoadK_1 LoadK_n upd_upd RunL_buildSlice BSliceA_some RunL_buildSliceD frzL frz cutL LoadA_eptr LoadE_row RunL_append RunL_slice SliceA_sl StoreA_eptr List.length_cons List.length_nil Nat.min_def Int.cast_ofNat_Int Int.natCast_zero Int.natCast_one decide_true decide_false List.getElem?_cons_zero List.getElem?_cons_succ RunC_rangef CallvA_yld putL_nil putL_cons RangeQ_exit RangeQ_ret
def atL (L : List TStep) : Nat → Int
  | 0 => 0
  | i + 1 => match L[i]? with
    | some s => s.t
    | none => 0
/-- Steps one behind the other. -/
def Chain : List TStep → Int → Int → Prop
  | [], a, b => a = b
  | s :: l, a, b => s.f = a ∧ s.f < s.t ∧ Chain l s.t b
theorem chain_snoc {s : TStep} : ∀ {l : List TStep} {a b : Int}, Chain l a b → s.f = b → s.f < s.t → Chain (l ++ [s]) a s.t
  | [], a, b, h, h1, h2 => ⟨by rw [h1]; exact h.symm, h2, rfl⟩
  | p :: l, a, b, ⟨g1, g2, g3⟩, h1, h2 => ⟨g1, g2, chain_snoc g3 h1 h2⟩
theorem chain_at : ∀ {l : List TStep} {a b : Int}, Chain l a b → ∀ (i : Nat) (h : i < l.length), l[i].f < l[i].t ∧ (i = 0 → l[i].f = a) ∧ (∀ (h0 : 0 < i), l[i].f = (l[i - 1]'(by omega)).t)
  | p :: l, a, b, ⟨g1, g2, g3⟩, i, h => by
    cases i with
    | zero => exact ⟨g2, fun _ => g1, fun h0 => absurd h0 (Nat.lt_irrefl _)⟩
    | succ i =>
      obtain ⟨k1, k2, k3⟩ := chain_at g3 i (by simpa using h)
      refine ⟨k1, fun e => absurd e (by omega), fun _ => ?_⟩
      cases i with
      | zero => exact k2 rfl
      | succ i => exact k3 (by omega)
theorem chain_end : ∀ {l : List TStep} {a b : Int}, Chain l a b → (l = [] → a = b) ∧ (∀ (h : l ≠ []), (l.getLast h).t = b)
  | [], a, b, h => ⟨fun _ => h, fun h => absurd rfl h⟩
  | p :: l, a, b, ⟨g1, g2, g3⟩ => by
    refine ⟨fun h => (by cases h), fun h => ?_⟩
    obtain ⟨k1, k2⟩ := chain_end g3
    cases l with
    | nil => exact k1 rfl
    | cons q l => exact k2 (by simp)
theorem ref_chain {T : List Tier} {q : Int} (hS : Srt T) : ∀ i, i ≤ T.length → (i < T.length → Chain (refN T q i) 0 (max 0 (min q (lowR T i)))) ∧ (i = T.length → 0 < i → Chain (refN T q i) 0 (max 0 q))
  | 0, _ => ⟨fun _ => by show (0 : Int) = max 0 (min q (lowR T 0)); rw [show lowR T 0 = 0 from rfl]; omega, fun _ h => absurd h (Nat.lt_irrefl _)⟩
  | i + 1, hi => by
    have hlt : i < T.length := by omega
    have h := (ref_chain hS i (by omega) (q := q)).1 hlt
    have hl := hS.low i hlt
    have hlow : lowR T (i + 1) = uAt T i := by simp [lowR]
    have key : Chain (refN T q (i + 1)) 0 (if lowR T i < hiR T q i then hiR T q i else max 0 (min q (lowR T i))) := by
      rw [refN]
      split
      · next hc =>
        have hq : lowR T i < q := by unfold hiR at hc; split at hc <;> omega
        rw [show max 0 (min q (lowR T i)) = lowR T i by omega] at h
        exact chain_snoc h rfl hc
      · exact h
    rw [hlow]
    refine ⟨fun h2 => ?_, fun h2 _ => ?_⟩
    · have hu := hS.up i h2
      rwa [show (if lowR T i < hiR T q i then hiR T q i else max 0 (min q (lowR T i))) = max 0 (min q (uAt T i)) from by unfold hiR; split <;> split at * <;> omega] at key
    · rwa [show (if lowR T i < hiR T q i then hiR T q i else max 0 (min q (lowR T i))) = max 0 q from by
        unfold hiR
        rw [if_neg (show ¬ (i + 1 < T.length ∧ uAt T i < q) by omega)]
        split <;> omega] at key
theorem vol_form {T : List Tier} {q : Int} : ∀ n, 1 ≤ n → n ≤ T.length → ∃ r, volI T q n = if 0 < q then [⟨0, q, r⟩] else []
  | 0, h, _ => absurd h (by decide)
  | n + 1, _, hn => by
    have hlt : T.length - (n + 1) < T.length := by omega
    rw [volI, List.getElem?_eq_getElem hlt]
    simp -implicitDefEqProofs only []
    split
    · exact ⟨_, rfl⟩
    · next hc => exact vol_form n (by omega) (by omega)
theorem steps_chain {x : PartX} {q : Int} (S : Srt x.ts) (h1 : 1 ≤ x.ts.length) : Chain (stepsL x q) 0 (max 0 q) ∧ (x.ki = 2 → (stepsL x q).length ≤ 1) ∧ (stepsL x q).length ≤ x.ts.length := by
  unfold stepsL
  by_cases hk : x.ki = 2
  · rw [if_pos hk]
    obtain ⟨r, hr⟩ := vol_form (T := x.ts) (q := q) x.ts.length h1 (Nat.le_refl _)
    rw [volL, hr]
    by_cases hq : 0 < q
    · rw [if_pos hq]
      refine ⟨⟨rfl, hq, ?_⟩, fun _ => by simp, by simpa using h1⟩
      show q = max 0 q
      omega
    · rw [if_neg hq]
      refine ⟨?_, fun _ => by simp, by simp⟩
      show 0 = max 0 q
      omega
  · rw [if_neg hk, gradL_ref S]
    exact ⟨(ref_chain S _ (Nat.le_refl _)).2 rfl (by omega), fun h => absurd h hk, refN_len _⟩
set_option maxRecDepth 20000 in
theorem TiersSteps_ok {x : PartX} {q m : Int} (hx : x.Fit) (hq : Fit q) (hm : Fit m) : DataW Try.prog f_poundagelaw11_TiersSteps [partV x, i64 q, i64 m] (bv true) := by
  refine CallW_intro comp_poundagelaw11_TiersSteps (by simp) ?_
  simp -implicitDefEqProofs -proj only [go_sem, Nat.reduceBEq, Nat.reduceLT, Nat.reduceLeDiff, Nat.reduceAdd, Nat.reduceMul, ↓reduceIte, Int.reduceToNat, Int.reducePow, Int.reduceLT, Int.reduceLE, Int.reduceAdd, Int.reduceSub, Int.reduceMul, Int.reduceEq, Int.reduceNe]
  refine AllocA_intro (fun b3 hb3 => ?_)
  simp -implicitDefEqProofs -proj only [go_sem, Nat.reduceBEq, Nat.reduceLT, Nat.reduceLeDiff, Nat.reduceAdd, Nat.reduceMul, ↓reduceIte, Int.reduceToNat, Int.reducePow, Int.reduceLT, Int.reduceLE, Int.reduceAdd, Int.reduceSub, Int.reduceMul, Int.reduceEq, Int.reduceNe]
  refine CallA_pure alive11_ok ?_
  simp -implicitDefEqProofs -proj only [go_sem, Nat.reduceBEq, Nat.reduceLT, Nat.reduceLeDiff, Nat.reduceAdd, Nat.reduceMul, ↓reduceIte, Int.reduceToNat, Int.reducePow, Int.reduceLT, Int.reduceLE, Int.reduceAdd, Int.reduceSub, Int.reduceMul, Int.reduceEq, Int.reduceNe]
  refine CallA_pure good_ok ?_
  by_cases hg : partOK 0 0 1 (zeroP x)
  rotate_left
  · simp -implicitDefEqProofs -proj only [go_sem, Nat.reduceBEq, Nat.reduceLT, Nat.reduceLeDiff, Nat.reduceAdd, Nat.reduceMul, ↓reduceIte, Int.reduceToNat, Int.reducePow, Int.reduceLT, Int.reduceLE, Int.reduceAdd, Int.reduceSub, Int.reduceMul, Int.reduceEq, Int.reduceNe, decide_eq_false hg]
    exact LendV_eq rfl
  have G := good_of hg
  have S := srt_of G.ts
  have hn := G.tn
  rw [decide_eq_true hg]
  obtain ⟨hch, hvol, hlen⟩ := steps_chain (x := x) (q := q) S hn.1
  have h1 := gone11_ok (x := x) (q := q) (m := 20) (by omega) (by omega)
  have h2 := gone11_ok (x := x) (q := q) (m := m) (by omega) (by omega)
  have h3 := RefSteps_new (x := x) (q := q) (by omega) hn.1
  rw [show (if x.ki = 2 then volL x.ts q else refL x.ts q) = stepsL x q by unfold stepsL; rw [gradL_ref S]] at h3
  rw [List.take_of_length_le (show (stepsL x q).length ≤ (20 : Int).toNat by show _ ≤ 20; omega)] at h1
  generalize stepsL x q = L at *
  have hnil : L.length = 0 ↔ q < 1 := by
    obtain ⟨k1, k2⟩ := chain_end hch
    constructor
    · intro h
      have := k1 (List.length_eq_zero_iff.1 h)
      omega
    · intro h
      by_cases hL : L = []
      · rw [hL]; rfl
      · have h0 := chain_at hch 0 (List.length_pos_iff.2 hL)
        have e := k2 hL
        exfalso
        cases L with
        | nil => exact hL rfl
        | cons s r =>
          obtain ⟨g1, g2, g3⟩ := hch
          have hmono : ∀ {l : List TStep} {a b : Int}, Chain l a b → a ≤ b := by
            intro l
            induction l with
            | nil => intro a b h; exact Int.le_of_eq h
            | cons p l ih => intro a b ⟨h1, h2, h3⟩; have := ih h3; omega
          have := hmono g3
          omega
  simp -implicitDefEqProofs -proj only [go_sem, Nat.reduceBEq, Nat.reduceLT, Nat.reduceLeDiff, Nat.reduceAdd, Nat.reduceMul, ↓reduceIte, Int.reduceToNat, Int.reducePow, Int.reduceLT, Int.reduceLE, Int.reduceAdd, Int.reduceSub, Int.reduceMul, Int.reduceEq, Int.reduceNe]
  refine PCallA_pure h1.data ?_
  simp -implicitDefEqProofs -proj only [go_sem, Nat.reduceBEq, Nat.reduceLT, Nat.reduceLeDiff, Nat.reduceAdd, Nat.reduceMul, ↓reduceIte, Int.reduceToNat, Int.reducePow, Int.reduceLT, Int.reduceLE, Int.reduceAdd, Int.reduceSub, Int.reduceMul, Int.reduceEq, Int.reduceNe]
  refine CallA_pure h3.data ?_
  simp -implicitDefEqProofs -proj only [go_sem, Nat.reduceBEq, Nat.reduceLT, Nat.reduceLeDiff, Nat.reduceAdd, Nat.reduceMul, ↓reduceIte, Int.reduceToNat, Int.reducePow, Int.reduceLT, Int.reduceLE, Int.reduceAdd, Int.reduceSub, Int.reduceMul, Int.reduceEq, Int.reduceNe, rowS3_len, decide_eq_true (rfl : (L.length : Int) = L.length)]
  refine CallA_pure h2.data ?_
  have hmin : ((L.take m.toNat).length : Int) = min (max m 0) L.length := by rw [List.length_take]; omega
  have hend : atL L L.length = max q 0 := by
    obtain ⟨k1, k2⟩ := chain_end hch
    by_cases hL : L = []
    · have := k1 hL
      rw [hL]
      show (0 : Int) = max q 0
      omega
    · have h0 := List.length_pos_iff.2 hL
      obtain ⟨n, hn'⟩ : ∃ n, L.length = n + 1 := ⟨L.length - 1, by omega⟩
      have e := k2 hL
      rw [hn']
      show (match L[n]? with | some s => s.t | none => 0) = max q 0
      rw [List.getLast_eq_getElem] at e
      have hn2 : L.length - 1 = n := by omega
      simp -implicitDefEqProofs only [hn2] at e
      rw [List.getElem?_eq_getElem (by omega)]
      show L[n].t = max q 0
      omega
  have hat : ∀ (i : Nat) (h : i < L.length), L[i].f = atL L i ∧ L[i].f < L[i].t ∧ atL L (i + 1) = L[i].t := by
    intro i h
    obtain ⟨k1, k2, k3⟩ := chain_at hch i h
    refine ⟨?_, k1, ?_⟩
    · cases i with
      | zero => exact k2 rfl
      | succ i =>
        have := k3 (by omega)
        show _ = (match L[i]? with | some s => s.t | none => 0)
        rw [List.getElem?_eq_getElem (by omega)]
        exact this
    · show (match L[i]? with | some s => s.t | none => 0) = _
      rw [List.getElem?_eq_getElem h]
  clear hch
  by_cases hk : x.ki = 2
  · have hv := hvol hk
    by_cases hq1 : q < 1
    · simp -implicitDefEqProofs -proj only [go_sem, Nat.reduceBEq, Nat.reduceLT, Nat.reduceLeDiff, Nat.reduceAdd, Nat.reduceMul, ↓reduceIte, Int.reduceToNat, Int.reducePow, Int.reduceLT, Int.reduceLE, Int.reduceAdd, Int.reduceSub, Int.reduceMul, Int.reduceEq, Int.reduceNe, rowS3_len, decide_eq_true hmin, decide_eq_true hk, decide_eq_false (show ¬ 1 < (L.length : Int) by omega), decide_eq_true hq1, decide_eq_true (show (L.length : Int) = 0 by omega)]
      refine LoopA_k (fun i : Nat => i ≤ L.length) 114 (fun i => [(59, slS3 L), (60, i64 L.length), (61, i64 i), (8, slS3 L), (9, i64 (atL L i)), (1, i64 q)]) (fun _ => []) (fun i => L.length - i) 0 (Nat.zero_le _) rfl ?_ ?_ ?_
      · simp -implicitDefEqProofs -proj only [go_sem, Nat.reduceBEq, Nat.reduceLT, Nat.reduceLeDiff, Nat.reduceAdd, Nat.reduceMul, ↓reduceIte, Int.reduceToNat, Int.reducePow, Int.reduceLT, Int.reduceLE, Int.reduceAdd, Int.reduceSub, Int.reduceMul, Int.reduceEq, Int.reduceNe, AllAt, atL, rowS3_len]
      · trivial
      · intro i hi
        by_cases h : i < L.length
        · have hel := rowS3_at h
          obtain ⟨k1, k2, k3⟩ := hat i h
          generalize L[i] = s at *
          simp -implicitDefEqProofs -proj only [go_sem, Nat.reduceBEq, Nat.reduceLT, Nat.reduceLeDiff, Nat.reduceAdd, Nat.reduceMul, ↓reduceIte, Int.reduceToNat, Int.reducePow, Int.reduceLT, Int.reduceLE, Int.reduceAdd, Int.reduceSub, Int.reduceMul, Int.reduceEq, Int.reduceNe, decide_eq_true (show (i : Int) < L.length by omega)]
          refine ElemA_at _ (by omega) hel ?_
          simp -implicitDefEqProofs -proj only [go_sem, Nat.reduceBEq, Nat.reduceLT, Nat.reduceLeDiff, Nat.reduceAdd, Nat.reduceMul, ↓reduceIte, Int.reduceToNat, Int.reducePow, Int.reduceLT, Int.reduceLE, Int.reduceAdd, Int.reduceSub, Int.reduceMul, Int.reduceEq, Int.reduceNe]
          refine AllocA_intro (fun b11 hb11 => ?_)
          simp -implicitDefEqProofs -proj only [go_sem, Nat.reduceBEq, Nat.reduceLT, Nat.reduceLeDiff, Nat.reduceAdd, Nat.reduceMul, ↓reduceIte, Int.reduceToNat, Int.reducePow, Int.reduceLT, Int.reduceLE, Int.reduceAdd, Int.reduceSub, Int.reduceMul, Int.reduceEq, Int.reduceNe]
          refine ElemA_at _ (by omega) hel ?_
          simp -implicitDefEqProofs -proj only [go_sem, Nat.reduceBEq, Nat.reduceLT, Nat.reduceLeDiff, Nat.reduceAdd, Nat.reduceMul, ↓reduceIte, Int.reduceToNat, Int.reducePow, Int.reduceLT, Int.reduceLE, Int.reduceAdd, Int.reduceSub, Int.reduceMul, Int.reduceEq, Int.reduceNe, decide_eq_true (rfl : s.f = s.f)]
          refine ElemA_at _ (by omega) hel ?_
          simp -implicitDefEqProofs -proj only [go_sem, Nat.reduceBEq, Nat.reduceLT, Nat.reduceLeDiff, Nat.reduceAdd, Nat.reduceMul, ↓reduceIte, Int.reduceToNat, Int.reducePow, Int.reduceLT, Int.reduceLE, Int.reduceAdd, Int.reduceSub, Int.reduceMul, Int.reduceEq, Int.reduceNe, decide_eq_true (rfl : s.t = s.t)]
          refine ElemA_at _ (by omega) hel ?_
          simp -implicitDefEqProofs -proj only [go_sem, Nat.reduceBEq, Nat.reduceLT, Nat.reduceLeDiff, Nat.reduceAdd, Nat.reduceMul, ↓reduceIte, Int.reduceToNat, Int.reducePow, Int.reduceLT, Int.reduceLE, Int.reduceAdd, Int.reduceSub, Int.reduceMul, Int.reduceEq, Int.reduceNe, decide_eq_true (rfl : s.r = s.r), decide_eq_true k1, decide_eq_false (show ¬ s.t ≤ s.f by omega)]
          refine LoopQ_k (i + 1) (by show i + 1 ≤ L.length; omega) (by show L.length - (i + 1) < L.length - i; omega) rfl ?_ trivial
          simp -implicitDefEqProofs -proj only [go_sem, Nat.reduceBEq, Nat.reduceLT, Nat.reduceLeDiff, Nat.reduceAdd, Nat.reduceMul, ↓reduceIte, Int.reduceToNat, Int.reducePow, Int.reduceLT, Int.reduceLE, Int.reduceAdd, Int.reduceSub, Int.reduceMul, Int.reduceEq, Int.reduceNe, AllAt, k3, i64_succ (show i < 9223372036854775807 by omega)]
        · have hi' : i = L.length := by omega
          subst hi'
          simp -implicitDefEqProofs -proj only [go_sem, Nat.reduceBEq, Nat.reduceLT, Nat.reduceLeDiff, Nat.reduceAdd, Nat.reduceMul, ↓reduceIte, Int.reduceToNat, Int.reducePow, Int.reduceLT, Int.reduceLE, Int.reduceAdd, Int.reduceSub, Int.reduceMul, Int.reduceEq, Int.reduceNe, decide_eq_false (show ¬ (L.length : Int) < L.length by omega), decide_eq_true hend]
          exact LendV_eq rfl
    · simp -implicitDefEqProofs -proj only [go_sem, Nat.reduceBEq, Nat.reduceLT, Nat.reduceLeDiff, Nat.reduceAdd, Nat.reduceMul, ↓reduceIte, Int.reduceToNat, Int.reducePow, Int.reduceLT, Int.reduceLE, Int.reduceAdd, Int.reduceSub, Int.reduceMul, Int.reduceEq, Int.reduceNe, rowS3_len, decide_eq_true hmin, decide_eq_true hk, decide_eq_false (show ¬ 1 < (L.length : Int) by omega), decide_eq_false hq1, decide_eq_false (show ¬ (L.length : Int) = 0 by omega)]
      refine LoopA_k (fun i : Nat => i ≤ L.length) 114 (fun i => [(59, slS3 L), (60, i64 L.length), (61, i64 i), (8, slS3 L), (9, i64 (atL L i)), (1, i64 q)]) (fun _ => []) (fun i => L.length - i) 0 (Nat.zero_le _) rfl ?_ ?_ ?_
      · simp -implicitDefEqProofs -proj only [go_sem, Nat.reduceBEq, Nat.reduceLT, Nat.reduceLeDiff, Nat.reduceAdd, Nat.reduceMul, ↓reduceIte, Int.reduceToNat, Int.reducePow, Int.reduceLT, Int.reduceLE, Int.reduceAdd, Int.reduceSub, Int.reduceMul, Int.reduceEq, Int.reduceNe, AllAt, atL, rowS3_len]
      · trivial
      · intro i hi
        by_cases h : i < L.length
        · have hel := rowS3_at h
          obtain ⟨k1, k2, k3⟩ := hat i h
          generalize L[i] = s at *
          simp -implicitDefEqProofs -proj only [go_sem, Nat.reduceBEq, Nat.reduceLT, Nat.reduceLeDiff, Nat.reduceAdd, Nat.reduceMul, ↓reduceIte, Int.reduceToNat, Int.reducePow, Int.reduceLT, Int.reduceLE, Int.reduceAdd, Int.reduceSub, Int.reduceMul, Int.reduceEq, Int.reduceNe, decide_eq_true (show (i : Int) < L.length by omega)]
          refine ElemA_at _ (by omega) hel ?_
          simp -implicitDefEqProofs -proj only [go_sem, Nat.reduceBEq, Nat.reduceLT, Nat.reduceLeDiff, Nat.reduceAdd, Nat.reduceMul, ↓reduceIte, Int.reduceToNat, Int.reducePow, Int.reduceLT, Int.reduceLE, Int.reduceAdd, Int.reduceSub, Int.reduceMul, Int.reduceEq, Int.reduceNe]
          refine AllocA_intro (fun b11 hb11 => ?_)
          simp -implicitDefEqProofs -proj only [go_sem, Nat.reduceBEq, Nat.reduceLT, Nat.reduceLeDiff, Nat.reduceAdd, Nat.reduceMul, ↓reduceIte, Int.reduceToNat, Int.reducePow, Int.reduceLT, Int.reduceLE, Int.reduceAdd, Int.reduceSub, Int.reduceMul, Int.reduceEq, Int.reduceNe]
          refine ElemA_at _ (by omega) hel ?_
          simp -implicitDefEqProofs -proj only [go_sem, Nat.reduceBEq, Nat.reduceLT, Nat.reduceLeDiff, Nat.reduceAdd, Nat.reduceMul, ↓reduceIte, Int.reduceToNat, Int.reducePow, Int.reduceLT, Int.reduceLE, Int.reduceAdd, Int.reduceSub, Int.reduceMul, Int.reduceEq, Int.reduceNe, decide_eq_true (rfl : s.f = s.f)]
          refine ElemA_at _ (by omega) hel ?_
          simp -implicitDefEqProofs -proj only [go_sem, Nat.reduceBEq, Nat.reduceLT, Nat.reduceLeDiff, Nat.reduceAdd, Nat.reduceMul, ↓reduceIte, Int.reduceToNat, Int.reducePow, Int.reduceLT, Int.reduceLE, Int.reduceAdd, Int.reduceSub, Int.reduceMul, Int.reduceEq, Int.reduceNe, decide_eq_true (rfl : s.t = s.t)]
          refine ElemA_at _ (by omega) hel ?_
          simp -implicitDefEqProofs -proj only [go_sem, Nat.reduceBEq, Nat.reduceLT, Nat.reduceLeDiff, Nat.reduceAdd, Nat.reduceMul, ↓reduceIte, Int.reduceToNat, Int.reducePow, Int.reduceLT, Int.reduceLE, Int.reduceAdd, Int.reduceSub, Int.reduceMul, Int.reduceEq, Int.reduceNe, decide_eq_true (rfl : s.r = s.r), decide_eq_true k1, decide_eq_false (show ¬ s.t ≤ s.f by omega)]
          refine LoopQ_k (i + 1) (by show i + 1 ≤ L.length; omega) (by show L.length - (i + 1) < L.length - i; omega) rfl ?_ trivial
          simp -implicitDefEqProofs -proj only [go_sem, Nat.reduceBEq, Nat.reduceLT, Nat.reduceLeDiff, Nat.reduceAdd, Nat.reduceMul, ↓reduceIte, Int.reduceToNat, Int.reducePow, Int.reduceLT, Int.reduceLE, Int.reduceAdd, Int.reduceSub, Int.reduceMul, Int.reduceEq, Int.reduceNe, AllAt, k3, i64_succ (show i < 9223372036854775807 by omega)]
        · have hi' : i = L.length := by omega
          subst hi'
          simp -implicitDefEqProofs -proj only [go_sem, Nat.reduceBEq, Nat.reduceLT, Nat.reduceLeDiff, Nat.reduceAdd, Nat.reduceMul, ↓reduceIte, Int.reduceToNat, Int.reducePow, Int.reduceLT, Int.reduceLE, Int.reduceAdd, Int.reduceSub, Int.reduceMul, Int.reduceEq, Int.reduceNe, decide_eq_false (show ¬ (L.length : Int) < L.length by omega), decide_eq_true hend]
          exact LendV_eq rfl
  · by_cases hq1 : q < 1
    · simp -implicitDefEqProofs -proj only [go_sem, Nat.reduceBEq, Nat.reduceLT, Nat.reduceLeDiff, Nat.reduceAdd, Nat.reduceMul, ↓reduceIte, Int.reduceToNat, Int.reducePow, Int.reduceLT, Int.reduceLE, Int.reduceAdd, Int.reduceSub, Int.reduceMul, Int.reduceEq, Int.reduceNe, rowS3_len, decide_eq_true hmin, decide_eq_false hk, decide_eq_true hq1, decide_eq_true (show (L.length : Int) = 0 by omega)]
      refine LoopA_k (fun i : Nat => i ≤ L.length) 114 (fun i => [(59, slS3 L), (60, i64 L.length), (61, i64 i), (8, slS3 L), (9, i64 (atL L i)), (1, i64 q)]) (fun _ => []) (fun i => L.length - i) 0 (Nat.zero_le _) rfl ?_ ?_ ?_
      · simp -implicitDefEqProofs -proj only [go_sem, Nat.reduceBEq, Nat.reduceLT, Nat.reduceLeDiff, Nat.reduceAdd, Nat.reduceMul, ↓reduceIte, Int.reduceToNat, Int.reducePow, Int.reduceLT, Int.reduceLE, Int.reduceAdd, Int.reduceSub, Int.reduceMul, Int.reduceEq, Int.reduceNe, AllAt, atL, rowS3_len]
      · trivial
      · intro i hi
        by_cases h : i < L.length
        · have hel := rowS3_at h
          obtain ⟨k1, k2, k3⟩ := hat i h
          generalize L[i] = s at *
          simp -implicitDefEqProofs -proj only [go_sem, Nat.reduceBEq, Nat.reduceLT, Nat.reduceLeDiff, Nat.reduceAdd, Nat.reduceMul, ↓reduceIte, Int.reduceToNat, Int.reducePow, Int.reduceLT, Int.reduceLE, Int.reduceAdd, Int.reduceSub, Int.reduceMul, Int.reduceEq, Int.reduceNe, decide_eq_true (show (i : Int) < L.length by omega)]
          refine ElemA_at _ (by omega) hel ?_
          simp -implicitDefEqProofs -proj only [go_sem, Nat.reduceBEq, Nat.reduceLT, Nat.reduceLeDiff, Nat.reduceAdd, Nat.reduceMul, ↓reduceIte, Int.reduceToNat, Int.reducePow, Int.reduceLT, Int.reduceLE, Int.reduceAdd, Int.reduceSub, Int.reduceMul, Int.reduceEq, Int.reduceNe]
          refine AllocA_intro (fun b11 hb11 => ?_)
          simp -implicitDefEqProofs -proj only [go_sem, Nat.reduceBEq, Nat.reduceLT, Nat.reduceLeDiff, Nat.reduceAdd, Nat.reduceMul, ↓reduceIte, Int.reduceToNat, Int.reducePow, Int.reduceLT, Int.reduceLE, Int.reduceAdd, Int.reduceSub, Int.reduceMul, Int.reduceEq, Int.reduceNe]
          refine ElemA_at _ (by omega) hel ?_
          simp -implicitDefEqProofs -proj only [go_sem, Nat.reduceBEq, Nat.reduceLT, Nat.reduceLeDiff, Nat.reduceAdd, Nat.reduceMul, ↓reduceIte, Int.reduceToNat, Int.reducePow, Int.reduceLT, Int.reduceLE, Int.reduceAdd, Int.reduceSub, Int.reduceMul, Int.reduceEq, Int.reduceNe, decide_eq_true (rfl : s.f = s.f)]
          refine ElemA_at _ (by omega) hel ?_
          simp -implicitDefEqProofs -proj only [go_sem, Nat.reduceBEq, Nat.reduceLT, Nat.reduceLeDiff, Nat.reduceAdd, Nat.reduceMul, ↓reduceIte, Int.reduceToNat, Int.reducePow, Int.reduceLT, Int.reduceLE, Int.reduceAdd, Int.reduceSub, Int.reduceMul, Int.reduceEq, Int.reduceNe, decide_eq_true (rfl : s.t = s.t)]
          refine ElemA_at _ (by omega) hel ?_
          simp -implicitDefEqProofs -proj only [go_sem, Nat.reduceBEq, Nat.reduceLT, Nat.reduceLeDiff, Nat.reduceAdd, Nat.reduceMul, ↓reduceIte, Int.reduceToNat, Int.reducePow, Int.reduceLT, Int.reduceLE, Int.reduceAdd, Int.reduceSub, Int.reduceMul, Int.reduceEq, Int.reduceNe, decide_eq_true (rfl : s.r = s.r), decide_eq_true k1, decide_eq_false (show ¬ s.t ≤ s.f by omega)]
          refine LoopQ_k (i + 1) (by show i + 1 ≤ L.length; omega) (by show L.length - (i + 1) < L.length - i; omega) rfl ?_ trivial
          simp -implicitDefEqProofs -proj only [go_sem, Nat.reduceBEq, Nat.reduceLT, Nat.reduceLeDiff, Nat.reduceAdd, Nat.reduceMul, ↓reduceIte, Int.reduceToNat, Int.reducePow, Int.reduceLT, Int.reduceLE, Int.reduceAdd, Int.reduceSub, Int.reduceMul, Int.reduceEq, Int.reduceNe, AllAt, k3, i64_succ (show i < 9223372036854775807 by omega)]
        · have hi' : i = L.length := by omega
          subst hi'
          simp -implicitDefEqProofs -proj only [go_sem, Nat.reduceBEq, Nat.reduceLT, Nat.reduceLeDiff, Nat.reduceAdd, Nat.reduceMul, ↓reduceIte, Int.reduceToNat, Int.reducePow, Int.reduceLT, Int.reduceLE, Int.reduceAdd, Int.reduceSub, Int.reduceMul, Int.reduceEq, Int.reduceNe, decide_eq_false (show ¬ (L.length : Int) < L.length by omega), decide_eq_true hend]
          exact LendV_eq rfl
    · simp -implicitDefEqProofs -proj only [go_sem, Nat.reduceBEq, Nat.reduceLT, Nat.reduceLeDiff, Nat.reduceAdd, Nat.reduceMul, ↓reduceIte, Int.reduceToNat, Int.reducePow, Int.reduceLT, Int.reduceLE, Int.reduceAdd, Int.reduceSub, Int.reduceMul, Int.reduceEq, Int.reduceNe, rowS3_len, decide_eq_true hmin, decide_eq_false hk, decide_eq_false hq1, decide_eq_false (show ¬ (L.length : Int) = 0 by omega)]
      refine LoopA_k (fun i : Nat => i ≤ L.length) 114 (fun i => [(59, slS3 L), (60, i64 L.length), (61, i64 i), (8, slS3 L), (9, i64 (atL L i)), (1, i64 q)]) (fun _ => []) (fun i => L.length - i) 0 (Nat.zero_le _) rfl ?_ ?_ ?_
      · simp -implicitDefEqProofs -proj only [go_sem, Nat.reduceBEq, Nat.reduceLT, Nat.reduceLeDiff, Nat.reduceAdd, Nat.reduceMul, ↓reduceIte, Int.reduceToNat, Int.reducePow, Int.reduceLT, Int.reduceLE, Int.reduceAdd, Int.reduceSub, Int.reduceMul, Int.reduceEq, Int.reduceNe, AllAt, atL, rowS3_len]
      · trivial
      · intro i hi
        by_cases h : i < L.length
        · have hel := rowS3_at h
          obtain ⟨k1, k2, k3⟩ := hat i h
          generalize L[i] = s at *
          simp -implicitDefEqProofs -proj only [go_sem, Nat.reduceBEq, Nat.reduceLT, Nat.reduceLeDiff, Nat.reduceAdd, Nat.reduceMul, ↓reduceIte, Int.reduceToNat, Int.reducePow, Int.reduceLT, Int.reduceLE, Int.reduceAdd, Int.reduceSub, Int.reduceMul, Int.reduceEq, Int.reduceNe, decide_eq_true (show (i : Int) < L.length by omega)]
          refine ElemA_at _ (by omega) hel ?_
          simp -implicitDefEqProofs -proj only [go_sem, Nat.reduceBEq, Nat.reduceLT, Nat.reduceLeDiff, Nat.reduceAdd, Nat.reduceMul, ↓reduceIte, Int.reduceToNat, Int.reducePow, Int.reduceLT, Int.reduceLE, Int.reduceAdd, Int.reduceSub, Int.reduceMul, Int.reduceEq, Int.reduceNe]
          refine AllocA_intro (fun b11 hb11 => ?_)
          simp -implicitDefEqProofs -proj only [go_sem, Nat.reduceBEq, Nat.reduceLT, Nat.reduceLeDiff, Nat.reduceAdd, Nat.reduceMul, ↓reduceIte, Int.reduceToNat, Int.reducePow, Int.reduceLT, Int.reduceLE, Int.reduceAdd, Int.reduceSub, Int.reduceMul, Int.reduceEq, Int.reduceNe]
          refine ElemA_at _ (by omega) hel ?_
          simp -implicitDefEqProofs -proj only [go_sem, Nat.reduceBEq, Nat.reduceLT, Nat.reduceLeDiff, Nat.reduceAdd, Nat.reduceMul, ↓reduceIte, Int.reduceToNat, Int.reducePow, Int.reduceLT, Int.reduceLE, Int.reduceAdd, Int.reduceSub, Int.reduceMul, Int.reduceEq, Int.reduceNe, decide_eq_true (rfl : s.f = s.f)]
          refine ElemA_at _ (by omega) hel ?_
          simp -implicitDefEqProofs -proj only [go_sem, Nat.reduceBEq, Nat.reduceLT, Nat.reduceLeDiff, Nat.reduceAdd, Nat.reduceMul, ↓reduceIte, Int.reduceToNat, Int.reducePow, Int.reduceLT, Int.reduceLE, Int.reduceAdd, Int.reduceSub, Int.reduceMul, Int.reduceEq, Int.reduceNe, decide_eq_true (rfl : s.t = s.t)]
          refine ElemA_at _ (by omega) hel ?_
          simp -implicitDefEqProofs -proj only [go_sem, Nat.reduceBEq, Nat.reduceLT, Nat.reduceLeDiff, Nat.reduceAdd, Nat.reduceMul, ↓reduceIte, Int.reduceToNat, Int.reducePow, Int.reduceLT, Int.reduceLE, Int.reduceAdd, Int.reduceSub, Int.reduceMul, Int.reduceEq, Int.reduceNe, decide_eq_true (rfl : s.r = s.r), decide_eq_true k1, decide_eq_false (show ¬ s.t ≤ s.f by omega)]
          refine LoopQ_k (i + 1) (by show i + 1 ≤ L.length; omega) (by show L.length - (i + 1) < L.length - i; omega) rfl ?_ trivial
          simp -implicitDefEqProofs -proj only [go_sem, Nat.reduceBEq, Nat.reduceLT, Nat.reduceLeDiff, Nat.reduceAdd, Nat.reduceMul, ↓reduceIte, Int.reduceToNat, Int.reducePow, Int.reduceLT, Int.reduceLE, Int.reduceAdd, Int.reduceSub, Int.reduceMul, Int.reduceEq, Int.reduceNe, AllAt, k3, i64_succ (show i < 9223372036854775807 by omega)]
        · have hi' : i = L.length := by omega
          subst hi'
          simp -implicitDefEqProofs -proj only [go_sem, Nat.reduceBEq, Nat.reduceLT, Nat.reduceLeDiff, Nat.reduceAdd, Nat.reduceMul, ↓reduceIte, Int.reduceToNat, Int.reducePow, Int.reduceLT, Int.reduceLE, Int.reduceAdd, Int.reduceSub, Int.reduceMul, Int.reduceEq, Int.reduceNe, decide_eq_false (show ¬ (L.length : Int) < L.length by omega), decide_eq_true hend]
          exact LendV_eq rfl
end Go.Proofs.Ytlnpeokjbnplnaa.Abs
