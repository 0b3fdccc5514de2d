/- Contracts of the package line: what comes of a line's values, of two lines'. No claim stands here. -/
import Derived.Test.YtgfimmaligcgjaaKLine14b
set_option linter.unusedSimpArgs false
set_option linter.unusedVariables false
namespace Go.Proofs.Ytgfimmaligcgjaa.Abs
open Go Go.RowKit Go.Proofs
attribute [local go_sem] RunC_seq AF_n AF_r AF_b St_n St_t St_H Fst_mk Snd_mk RunC_ops RunC_cond RunC_block RunC_loop RunC_exit RunC_ret RunC_skip RunO_nil RunO_code RunO_code_ret RunO_code_exit RunO_blk RunO_blk_ret RunO_blk_exit RunL_nil RunL_guard GuardA_tt GuardA_ff GuardA_tf GuardA_ft GuardA_void CondA_t CondA_f PickA_t PickA_f RunL_mov RunL_pick RunL_alloc RunL_box RunL_load LoadA_ptr LoadB_1 LoadB_n LoadA_dptr LoadA_dptr_n RunL_store StoreA_ptr StoreB_box RunL_bin Bin_add Bin_sub Bin_mul Bin_quo Bin_rem Bin_shl Bin_shr Bin_andI Bin_orI Bin_xorI Bin_eql Bin_neq Bin_lss Bin_leq Bin_gtr Bin_geq RunL_binb Bin_beql Bin_bneq RunL_un UnA_not UnA_neg RunL_conv convV MapA_some RunL_nilCheck nilV RunL_mkfn RunL_fieldAddr faV RunL_field FieldA_1 FieldA_n RunL_elemAddr EAddrA_sl EAddrA_own EptrA_eq RunL_build BuildA_some RunL_extract ExtA_eq RunL_len lenV_sl lenV_nilsl lenV_own RunL_slen RunL_idxStr IdxSA_eq slenV RunL_minmax mmV minmaxL RunL_call RunL_callv CallvA_fn putS ev evL evO evP eqK eqKs EqB_agg RunL_eqAgg EqA_t EqA_f evQ buildC fits_agg cellsAV_agg fits_d cellsAV_d fits_nilp cellsAV_nilp fits_nilsl cellsAV_nilsl fits_nilfn cellsAV_nilfn fits_ptr cellsAV_ptr fits_eptr cellsAV_eptr fits_dptr cellsAV_dptr fits_own cellsAV_own fits_fn cellsAV_fn rowV_fits rowV_cells rowV_len lenAV setSeg nth seg mapD repeatL putT_get upd_get argT keepT_cons keepT_nil keepH_cons keepH_nil cond_true cond_false VC_true finW resW resL resOne LoopQ_exit LoopQ_ret List.cons_append List.nil_append Bool.not_true Bool.not_false Bool.and_true Bool.and_self Nat.lt_add_left_iff_pos Nat.zero_add Nat.add_zero List.drop_succ_cons List.drop_zero List.take_succ_cons List.take_zero beq_self_eq_true Bool.false_eq_true RunC_dops RunL_loadS RunL_storeS StoreSA_ptr RunL_pcall RunL_pcallv PCallvA_fn newsOk and_self and_true true_and loadW_ptr LoadK_1 LoadK_n upd_upd RunL_buildSlice BSliceA_some RunL_buildSliceD frzL frz cutL LoadA_eptr LoadE_row RunL_append RunL_slice SliceA_sl StoreA_eptr List.length_cons List.length_nil Nat.min_def Int.cast_ofNat_Int Int.natCast_zero Int.natCast_one decide_true decide_false List.getElem?_cons_zero List.getElem?_cons_succ RunC_rangef CallvA_yld putL_nil putL_cons RangeQ_exit RangeQ_ret
/-- What comes of the first so many runs. -/
def mapN (g : Int → Int) (l : List Run) : Nat → List Run
  | 0 => []
  | i + 1 => match l[i]? with
    | some r => putR (mapN g l i) ⟨r.f, r.t, g r.v⟩
    | none => mapN g l i
theorem mapN_len {g : Int → Int} {l : List Run} : ∀ i : Nat, (mapN g l i).length ≤ i
  | 0 => Nat.le_refl _
  | i + 1 => by
    have ih := mapN_len (g := g) (l := l) i
    rw [mapN]
    split
    · next r _ =>
      have := @putR_len (mapN g l i) ⟨r.f, r.t, g r.v⟩
      omega
    · omega
theorem LineAt.fresh {H : Heap} {b c k : Nat} {l : List Run} (h : LineAt H b c l) (hk : H k = none) : ¬ k = b ∧ (l ≠ [] → ¬ k = c) := by
  rcases h with ⟨h0, h1⟩ | ⟨h0, h3, cap, h1, h2⟩
  · exact ⟨(fresh_ne hk h1).1, fun h => absurd h0 h⟩
  · exact ⟨(fresh_ne hk h1).1, fun _ => (fresh_ne hk h2).1⟩
theorem Map_new {l : List Run} {f : FuncId} {g : Int → Int} (hg : ∀ v : Int, DataW Try.prog f [i64 v] (i64 (g v))) (hn : l.length ≤ 999999) : NewW Try.prog f_line_Map_int_int [lineV l, .fn f []] (lineV (mapN g l l.length)) := by
  refine CallW_intro comp_line_Map_int_int (by simp) ?_
  simp -implicitDefEqProofs -proj only [go_sem, Nat.reduceBEq, Nat.reduceLT, Nat.reduceLeDiff, Nat.reduceAdd, Nat.reduceMul, ↓reduceIte, Int.reduceToNat, Int.reducePow, Int.reduceLT, Int.reduceLE, Int.reduceAdd, Int.reduceSub, Int.reduceMul, Int.reduceEq, Int.reduceNe]
  refine AllocA_intro (fun b2 hb2 => ?_)
  simp -implicitDefEqProofs -proj only [go_sem, Nat.reduceBEq, Nat.reduceLT, Nat.reduceLeDiff, Nat.reduceAdd, Nat.reduceMul, ↓reduceIte, Int.reduceToNat, Int.reducePow, Int.reduceLT, Int.reduceLE, Int.reduceAdd, Int.reduceSub, Int.reduceMul, Int.reduceEq, Int.reduceNe]
  refine AllocA_intro (fun b4 hb4 => ?_)
  replace hb4 : upd Heap.none b2 _ b4 = none := hb4
  obtain ⟨n1, n2⟩ := fresh_ne hb4 upd_eq
  simp -implicitDefEqProofs -proj only [go_sem, Nat.reduceBEq, Nat.reduceLT, Nat.reduceLeDiff, Nat.reduceAdd, Nat.reduceMul, ↓reduceIte, Int.reduceToNat, Int.reducePow, Int.reduceLT, Int.reduceLE, Int.reduceAdd, Int.reduceSub, Int.reduceMul, Int.reduceEq, Int.reduceNe, n1, n2]
  refine AllocA_intro (fun b5 hb5 => ?_)
  replace hb5 : upd (upd Heap.none b2 _) b4 _ b5 = none := hb5
  obtain ⟨n3, n4⟩ := fresh_ne hb5 upd_eq
  obtain ⟨n5, n6⟩ := fresh_ne hb5 (by rw [upd_ne n1]; exact upd_eq)
  simp -implicitDefEqProofs -proj only [go_sem, Nat.reduceBEq, Nat.reduceLT, Nat.reduceLeDiff, Nat.reduceAdd, Nat.reduceMul, ↓reduceIte, Int.reduceToNat, Int.reducePow, Int.reduceLT, Int.reduceLE, Int.reduceAdd, Int.reduceSub, Int.reduceMul, Int.reduceEq, Int.reduceNe, n1, n2, n3, n4, n5, n6, rowR_len]
  (repeat' (with_reducible refine VC_intro ?_ (fun h => ?_); (focus first | decide | omega); clear h; try simp -implicitDefEqProofs -proj only [go_sem, Nat.reduceBEq, Nat.reduceLT, Nat.reduceLeDiff, Nat.reduceAdd, Nat.reduceMul, ↓reduceIte, Int.reduceToNat, Int.reducePow, Int.reduceLT, Int.reduceLE, Int.reduceAdd, Int.reduceSub, Int.reduceMul, Int.reduceEq, Int.reduceNe, n1, n2, n3, n4, n5, n6, rowR_len]))
  refine LoopA_k (fun x : LoopX => x.i ≤ l.length ∧ x.l = mapN g l x.i ∧ (x.l ≠ [] → x.c ≠ b5 ∧ x.c ≠ b4)) 27 (fun x => [(9, slR l), (10, i64 l.length), (11, i64 x.i), (5, .ptr b5 0), (4, .ptr b4 0), (1, .fn f [])]) (fun x => LH b5 x.c x.cap x.l ++ [(b4, .box 35 [.nilsl 3])]) (fun x => l.length - x.i) ⟨0, 0, 0, []⟩ ⟨Nat.zero_le _, rfl, fun h => absurd rfl h⟩ rfl ?_ ?_ ?_
  · simp -implicitDefEqProofs -proj only [go_sem, Nat.reduceBEq, Nat.reduceLT, Nat.reduceLeDiff, Nat.reduceAdd, Nat.reduceMul, ↓reduceIte, Int.reduceToNat, Int.reducePow, Int.reduceLT, Int.reduceLE, Int.reduceAdd, Int.reduceSub, Int.reduceMul, Int.reduceEq, Int.reduceNe, AllAt, rowR_len]
  · simp -implicitDefEqProofs -proj only [go_sem, Nat.reduceBEq, Nat.reduceLT, Nat.reduceLeDiff, Nat.reduceAdd, Nat.reduceMul, ↓reduceIte, Int.reduceToNat, Int.reducePow, Int.reduceLT, Int.reduceLE, Int.reduceAdd, Int.reduceSub, Int.reduceMul, Int.reduceEq, Int.reduceNe, AllH, AllH_append, LH, n1, n2, n3, n4, n5, n6]
  · rintro ⟨i, c, cap, R⟩ ⟨hi, hR, hc⟩
    simp -implicitDefEqProofs only [] at hi hR hc
    have hat := lineAt_LH (b := b5) (c := c) (cap := cap) (l := R) (rest := [(b4, .box 35 [.nilsl 3])]) (fun h => (hc h).1)
    have h4 : keepH (LH b5 c cap R ++ [(b4, .box 35 [.nilsl 3])]) b4 = some (.box 35 [.nilsl 3]) := by
      rw [rest_LH n4 (fun h e => (hc h).2 e.symm), keepH_cons, if_pos rfl]
    generalize hH : keepH (LH b5 c cap R ++ [(b4, .box 35 [.nilsl 3])]) = H at *
    by_cases h : i < l.length
    · have hel := rowR_at h
      have hx : l[i]? = some l[i] := List.getElem?_eq_getElem h
      generalize l[i] = x at *
      have hR' : putR R ⟨x.f, x.t, g x.v⟩ = mapN g l (i + 1) := by rw [mapN, hx, hR]
      simp -implicitDefEqProofs -proj only [go_sem, Nat.reduceBEq, Nat.reduceLT, Nat.reduceLeDiff, Nat.reduceAdd, Nat.reduceMul, ↓reduceIte, Int.reduceToNat, Int.reducePow, Int.reduceLT, Int.reduceLE, Int.reduceAdd, Int.reduceSub, Int.reduceMul, Int.reduceEq, Int.reduceNe, decide_eq_true (show (i : Int) < l.length by omega)]
      refine ElemA_at _ (by omega) hel ?_
      simp -implicitDefEqProofs -proj only [go_sem, Nat.reduceBEq, Nat.reduceLT, Nat.reduceLeDiff, Nat.reduceAdd, Nat.reduceMul, ↓reduceIte, Int.reduceToNat, Int.reducePow, Int.reduceLT, Int.reduceLE, Int.reduceAdd, Int.reduceSub, Int.reduceMul, Int.reduceEq, Int.reduceNe]
      (repeat' (with_reducible refine VC_intro ?_ (fun h => ?_); (focus first | decide | omega); clear h; try simp -implicitDefEqProofs -proj only [go_sem, Nat.reduceBEq, Nat.reduceLT, Nat.reduceLeDiff, Nat.reduceAdd, Nat.reduceMul, ↓reduceIte, Int.reduceToNat, Int.reducePow, Int.reduceLT, Int.reduceLE, Int.reduceAdd, Int.reduceSub, Int.reduceMul, Int.reduceEq, Int.reduceNe, eq_self]))
      refine AllocA_intro (fun b7 hb7 => ?_)
      replace hb7 : H b7 = none := hb7
      obtain ⟨m1, m2⟩ := hat.fresh hb7
      simp -implicitDefEqProofs -proj only [go_sem, Nat.reduceBEq, Nat.reduceLT, Nat.reduceLeDiff, Nat.reduceAdd, Nat.reduceMul, ↓reduceIte, Int.reduceToNat, Int.reducePow, Int.reduceLT, Int.reduceLE, Int.reduceAdd, Int.reduceSub, Int.reduceMul, Int.reduceEq, Int.reduceNe]
      (repeat' (with_reducible refine VC_intro ?_ (fun h => ?_); (focus first | decide | omega); clear h; try simp -implicitDefEqProofs -proj only [go_sem, Nat.reduceBEq, Nat.reduceLT, Nat.reduceLeDiff, Nat.reduceAdd, Nat.reduceMul, ↓reduceIte, Int.reduceToNat, Int.reducePow, Int.reduceLT, Int.reduceLE, Int.reduceAdd, Int.reduceSub, Int.reduceMul, Int.reduceEq, Int.reduceNe, eq_self]))
      refine PCallA_pure (hg x.v) ?_
      simp -implicitDefEqProofs -proj only [go_sem, Nat.reduceBEq, Nat.reduceLT, Nat.reduceLeDiff, Nat.reduceAdd, Nat.reduceMul, ↓reduceIte, Int.reduceToNat, Int.reducePow, Int.reduceLT, Int.reduceLE, Int.reduceAdd, Int.reduceSub, Int.reduceMul, Int.reduceEq, Int.reduceNe]
      have hput := fun y => put_ok (r := ⟨x.f, x.t, g x.v⟩) (hat.upd (k := b7) (x := y) m1 m2) (by have := mapN_len (g := g) (l := l) i; rw [← hR] at this; omega)
      refine CallA_w (hput _) (fun r H' hk => ?_)
      obtain ⟨c', hat', hfr⟩ := hk
      obtain ⟨g1, g2⟩ := hfr b4 _ n4 (fun h e => (hc h).2 e.symm) (by rw [upd_ne (fresh_ne hb7 h4).1]; exact h4)
      obtain ⟨cap', ha, hc'⟩ := allH_LH hat'
      simp -implicitDefEqProofs -proj only [go_sem, Nat.reduceBEq, Nat.reduceLT, Nat.reduceLeDiff, Nat.reduceAdd, Nat.reduceMul, ↓reduceIte, Int.reduceToNat, Int.reducePow, Int.reduceLT, Int.reduceLE, Int.reduceAdd, Int.reduceSub, Int.reduceMul, Int.reduceEq, Int.reduceNe]
      refine LoopQ_k ⟨i + 1, c', cap', putR R ⟨x.f, x.t, g x.v⟩⟩ ⟨by show i + 1 ≤ l.length; omega, hR', fun h => ⟨hc' h, fun e => g2 e.symm⟩⟩ (by show l.length - (i + 1) < l.length - i; omega) rfl ?_ ?_
      · simp -implicitDefEqProofs -proj only [go_sem, Nat.reduceBEq, Nat.reduceLT, Nat.reduceLeDiff, Nat.reduceAdd, Nat.reduceMul, ↓reduceIte, Int.reduceToNat, Int.reducePow, Int.reduceLT, Int.reduceLE, Int.reduceAdd, Int.reduceSub, Int.reduceMul, Int.reduceEq, Int.reduceNe, AllAt, i64_succ (show i < 9223372036854775807 by omega)]
      · rw [AllH_append]
        exact ⟨ha, g1, trivial⟩
    · have hi' : i = l.length := by omega
      subst hi'
      obtain ⟨v, hv, hl, _⟩ := hat.read
      simp -implicitDefEqProofs -proj only [go_sem, Nat.reduceBEq, Nat.reduceLT, Nat.reduceLeDiff, Nat.reduceAdd, Nat.reduceMul, ↓reduceIte, Int.reduceToNat, Int.reducePow, Int.reduceLT, Int.reduceLE, Int.reduceAdd, Int.reduceSub, Int.reduceMul, Int.reduceEq, Int.reduceNe, decide_eq_false (show ¬ (l.length : Int) < l.length by omega), hv, h4]
      obtain ⟨v2, hv2, hl2, _⟩ := (hat.upd (k := b4) (x := some (.box 35 [v])) n4 (fun h e => (hc h).2 e.symm)).read
      rw [upd_ne n4, hv] at hv2
      cases hv2
      rw [show mapN g l l.length = R from hR.symm]
      exact lend_agg1 hl2
/-- What comes of two lines, where they stand at two runs. -/
def zipG (g : Int → Int → Int) (a b : List Run) : Nat → Nat → Nat → List Run → List Run
  | 0, _, _, R => R
  | n + 1, i, k, R => match a[i]?, b[k]? with
    | some x, some y =>
      zipG g a b n (if x.t ≤ y.t then i + 1 else i) (if y.t ≤ x.t then k + 1 else k) (if max x.f y.f ≤ min x.t y.t then putR R ⟨max x.f y.f, min x.t y.t, g x.v y.v⟩ else R)
    | _, _ => R
theorem zipG_stable {g : Int → Int → Int} {a b : List Run} : ∀ (n i k : Nat) (R : List Run), a.length + b.length ≤ n + i + k → zipG g a b (n + 1) i k R = zipG g a b n i k R
  | 0, i, k, R, h => by
    rw [zipG, zipG]
    by_cases h1 : i < a.length
    · have h2 : ¬ k < b.length := by omega
      rw [List.getElem?_eq_none (l := b) (by omega)]
      split <;> first | rfl | simp_all
    · rw [List.getElem?_eq_none (l := a) (by omega)]
  | n + 1, i, k, R, h => by
    rw [zipG, zipG]
    split
    · next x y _ _ =>
      refine zipG_stable n _ _ _ ?_
      split <;> split <;> omega
    · rfl
structure ZipX where
  i : Nat
  k : Nat
  c : Nat
  cap : Nat
  l : List Run
theorem zx_i {i k c cap : Nat} {l : List Run} : (ZipX.mk i k c cap l).i = i := (rfl)
theorem zx_k {i k c cap : Nat} {l : List Run} : (ZipX.mk i k c cap l).k = k := (rfl)
theorem Zip_new {a b : List Run} {f : FuncId} {g : Int → Int → Int} (hg : ∀ u v : Int, DataW Try.prog f [i64 u, i64 v] (i64 (g u v))) (ha : a.length ≤ 400000) (hb : b.length ≤ 400000) : NewW Try.prog f_line_Zip_int_int_int [lineV a, lineV b, .fn f []] (lineV (zipG g a b (a.length + b.length) 0 0 [])) := by
  refine CallW_intro comp_line_Zip_int_int_int (by simp) ?_
  simp -implicitDefEqProofs -proj only [go_sem, Nat.reduceBEq, Nat.reduceLT, Nat.reduceLeDiff, Nat.reduceAdd, Nat.reduceMul, ↓reduceIte, Int.reduceToNat, Int.reducePow, Int.reduceLT, Int.reduceLE, Int.reduceAdd, Int.reduceSub, Int.reduceMul, Int.reduceEq, Int.reduceNe]
  refine AllocA_intro (fun b3 hb3 => ?_)
  simp -implicitDefEqProofs -proj only [go_sem, Nat.reduceBEq, Nat.reduceLT, Nat.reduceLeDiff, Nat.reduceAdd, Nat.reduceMul, ↓reduceIte, Int.reduceToNat, Int.reducePow, Int.reduceLT, Int.reduceLE, Int.reduceAdd, Int.reduceSub, Int.reduceMul, Int.reduceEq, Int.reduceNe]
  refine AllocA_intro (fun b4 hb4 => ?_)
  replace hb4 : upd Heap.none b3 _ b4 = none := hb4
  obtain ⟨n1, n2⟩ := fresh_ne hb4 upd_eq
  simp -implicitDefEqProofs -proj only [go_sem, Nat.reduceBEq, Nat.reduceLT, Nat.reduceLeDiff, Nat.reduceAdd, Nat.reduceMul, ↓reduceIte, Int.reduceToNat, Int.reducePow, Int.reduceLT, Int.reduceLE, Int.reduceAdd, Int.reduceSub, Int.reduceMul, Int.reduceEq, Int.reduceNe, n1, n2]
  refine AllocA_intro (fun b6 hb6 => ?_)
  replace hb6 : upd (upd Heap.none b3 _) b4 _ b6 = none := hb6
  obtain ⟨n3, n4⟩ := fresh_ne hb6 upd_eq
  obtain ⟨n5, n6⟩ := fresh_ne hb6 (by rw [upd_ne n1]; exact upd_eq)
  simp -implicitDefEqProofs -proj only [go_sem, Nat.reduceBEq, Nat.reduceLT, Nat.reduceLeDiff, Nat.reduceAdd, Nat.reduceMul, ↓reduceIte, Int.reduceToNat, Int.reducePow, Int.reduceLT, Int.reduceLE, Int.reduceAdd, Int.reduceSub, Int.reduceMul, Int.reduceEq, Int.reduceNe, n1, n2, n3, n4, n5, n6, rowR_len]
  refine AllocA_intro (fun b7 hb7 => ?_)
  replace hb7 : upd (upd (upd Heap.none b3 _) b4 _) b6 _ b7 = none := hb7
  obtain ⟨n7, n8⟩ := fresh_ne hb7 upd_eq
  obtain ⟨p1, p2⟩ := fresh_ne hb7 (by rw [upd_ne n3]; exact upd_eq)
  obtain ⟨p3, p4⟩ := fresh_ne hb7 (by rw [upd_ne n5, upd_ne n1]; exact upd_eq)
  simp -implicitDefEqProofs -proj only [go_sem, Nat.reduceBEq, Nat.reduceLT, Nat.reduceLeDiff, Nat.reduceAdd, Nat.reduceMul, ↓reduceIte, Int.reduceToNat, Int.reducePow, Int.reduceLT, Int.reduceLE, Int.reduceAdd, Int.reduceSub, Int.reduceMul, Int.reduceEq, Int.reduceNe, n1, n2, n3, n4, n5, n6, n7, n8, p1, p2, p3, p4, rowR_len]
  obtain ⟨rest, hrest⟩ : ∃ rest : List (Nat × Blk), rest = [(b6, .box 35 [.nilsl 3]), (b3, .box 35 [slR a]), (b4, .box 35 [slR b])] := ⟨_, rfl⟩
  refine LoopA_k (fun x : ZipX => x.i ≤ a.length ∧ x.k ≤ b.length ∧ x.l.length ≤ x.i + x.k ∧ zipG g a b (a.length + b.length - x.i - x.k) x.i x.k x.l = zipG g a b (a.length + b.length) 0 0 [] ∧ (x.l ≠ [] → x.c ≠ b7 ∧ x.c ≠ b6 ∧ x.c ≠ b3 ∧ x.c ≠ b4)) 74 (fun x => [(8, i64 x.i), (9, i64 x.k), (3, .ptr b3 0), (4, .ptr b4 0), (6, .ptr b6 0), (7, .ptr b7 0), (2, .fn f [])]) (fun x => LH b7 x.c x.cap x.l ++ rest) (fun x => a.length + b.length - x.i - x.k) ⟨0, 0, 0, 0, []⟩ ⟨Nat.zero_le _, Nat.zero_le _, Nat.zero_le _, rfl, fun h => absurd rfl h⟩ rfl ?_ ?_ ?_
  · simp -implicitDefEqProofs -proj only [go_sem, Nat.reduceBEq, Nat.reduceLT, Nat.reduceLeDiff, Nat.reduceAdd, Nat.reduceMul, ↓reduceIte, Int.reduceToNat, Int.reducePow, Int.reduceLT, Int.reduceLE, Int.reduceAdd, Int.reduceSub, Int.reduceMul, Int.reduceEq, Int.reduceNe, AllAt]
  · rw [AllH_append, hrest]
    simp -implicitDefEqProofs -proj only [go_sem, Nat.reduceBEq, Nat.reduceLT, Nat.reduceLeDiff, Nat.reduceAdd, Nat.reduceMul, ↓reduceIte, Int.reduceToNat, Int.reducePow, Int.reduceLT, Int.reduceLE, Int.reduceAdd, Int.reduceSub, Int.reduceMul, Int.reduceEq, Int.reduceNe, AllH, LH, n1, n2, n3, n4, n5, n6, n7, n8, p1, p2, p3, p4]
  · rintro ⟨i, k, c, cap, R⟩ ⟨hi, hk, hlen, hR, hc⟩
    simp -implicitDefEqProofs only [] at hi hk hlen hR hc
    have hat := lineAt_LH (b := b7) (c := c) (cap := cap) (l := R) (rest := rest) (fun h => (hc h).1)
    have h6 : keepH (LH b7 c cap R ++ rest) b6 = some (.box 35 [.nilsl 3]) := by
      rw [rest_LH n8 (fun h e => (hc h).2.1 e.symm), hrest]; simp -implicitDefEqProofs -proj only [go_sem, Nat.reduceBEq, Nat.reduceLT, Nat.reduceLeDiff, Nat.reduceAdd, Nat.reduceMul, ↓reduceIte, Int.reduceToNat, Int.reducePow, Int.reduceLT, Int.reduceLE, Int.reduceAdd, Int.reduceSub, Int.reduceMul, Int.reduceEq, Int.reduceNe]
    have h3 : keepH (LH b7 c cap R ++ rest) b3 = some (.box 35 [slR a]) := by
      rw [rest_LH p4 (fun h e => (hc h).2.2.1 e.symm), hrest]; simp -implicitDefEqProofs -proj only [go_sem, Nat.reduceBEq, Nat.reduceLT, Nat.reduceLeDiff, Nat.reduceAdd, Nat.reduceMul, ↓reduceIte, Int.reduceToNat, Int.reducePow, Int.reduceLT, Int.reduceLE, Int.reduceAdd, Int.reduceSub, Int.reduceMul, Int.reduceEq, Int.reduceNe, n6]
    have h4 : keepH (LH b7 c cap R ++ rest) b4 = some (.box 35 [slR b]) := by
      rw [rest_LH p2 (fun h e => (hc h).2.2.2 e.symm), hrest]; simp -implicitDefEqProofs -proj only [go_sem, Nat.reduceBEq, Nat.reduceLT, Nat.reduceLeDiff, Nat.reduceAdd, Nat.reduceMul, ↓reduceIte, Int.reduceToNat, Int.reducePow, Int.reduceLT, Int.reduceLE, Int.reduceAdd, Int.reduceSub, Int.reduceMul, Int.reduceEq, Int.reduceNe, n4, n1]
    generalize hH : keepH (LH b7 c cap R ++ rest) = H at *
    by_cases hin : i < a.length ∧ k < b.length
    · obtain ⟨h, h'⟩ := hin
      have e1 := rowR_at h
      have e2 := rowR_at h'
      have hx : a[i]? = some a[i] := List.getElem?_eq_getElem h
      have hy : b[k]? = some b[k] := List.getElem?_eq_getElem h'
      generalize a[i] = x at *
      generalize b[k] = y at *
      rw [show a.length + b.length - i - k = (a.length + b.length - i - k - 1) + 1 by omega, zipG, hx, hy] at hR
      simp -implicitDefEqProofs only [] at hR
      simp -implicitDefEqProofs -proj only [go_sem, Nat.reduceBEq, Nat.reduceLT, Nat.reduceLeDiff, Nat.reduceAdd, Nat.reduceMul, ↓reduceIte, Int.reduceToNat, Int.reducePow, Int.reduceLT, Int.reduceLE, Int.reduceAdd, Int.reduceSub, Int.reduceMul, Int.reduceEq, Int.reduceNe, zx_i, zx_k, h3, h4, rowR_len, decide_eq_true (show (i : Int) < a.length by omega), decide_eq_true (show (k : Int) < b.length by omega)]
      (repeat' (with_reducible refine VC_intro ?_ (fun h => ?_); (focus first | decide | omega); clear h; try simp -implicitDefEqProofs -proj only [go_sem, Nat.reduceBEq, Nat.reduceLT, Nat.reduceLeDiff, Nat.reduceAdd, Nat.reduceMul, ↓reduceIte, Int.reduceToNat, Int.reducePow, Int.reduceLT, Int.reduceLE, Int.reduceAdd, Int.reduceSub, Int.reduceMul, Int.reduceEq, Int.reduceNe, eq_self, zx_i, zx_k, h3, h4, rowR_len, decide_eq_true (show (i : Int) < a.length by omega), decide_eq_true (show (k : Int) < b.length by omega)]))
      refine ElemA_at _ (by omega) e1 ?_
      simp -implicitDefEqProofs -proj only [go_sem, Nat.reduceBEq, Nat.reduceLT, Nat.reduceLeDiff, Nat.reduceAdd, Nat.reduceMul, ↓reduceIte, Int.reduceToNat, Int.reducePow, Int.reduceLT, Int.reduceLE, Int.reduceAdd, Int.reduceSub, Int.reduceMul, Int.reduceEq, Int.reduceNe, zx_i, zx_k, h3, h4, rowR_len, decide_eq_true (show (i : Int) < a.length by omega), decide_eq_true (show (k : Int) < b.length by omega)]
      (repeat' (with_reducible refine VC_intro ?_ (fun h => ?_); (focus first | decide | omega); clear h; try simp -implicitDefEqProofs -proj only [go_sem, Nat.reduceBEq, Nat.reduceLT, Nat.reduceLeDiff, Nat.reduceAdd, Nat.reduceMul, ↓reduceIte, Int.reduceToNat, Int.reducePow, Int.reduceLT, Int.reduceLE, Int.reduceAdd, Int.reduceSub, Int.reduceMul, Int.reduceEq, Int.reduceNe, eq_self, zx_i, zx_k, h3, h4, rowR_len, decide_eq_true (show (i : Int) < a.length by omega), decide_eq_true (show (k : Int) < b.length by omega)]))
      refine ElemA_at _ (by omega) e2 ?_
      simp -implicitDefEqProofs -proj only [go_sem, Nat.reduceBEq, Nat.reduceLT, Nat.reduceLeDiff, Nat.reduceAdd, Nat.reduceMul, ↓reduceIte, Int.reduceToNat, Int.reducePow, Int.reduceLT, Int.reduceLE, Int.reduceAdd, Int.reduceSub, Int.reduceMul, Int.reduceEq, Int.reduceNe, zx_i, zx_k, h3, h4, rowR_len, decide_eq_true (show (i : Int) < a.length by omega), decide_eq_true (show (k : Int) < b.length by omega)]
      (repeat' (with_reducible refine VC_intro ?_ (fun h => ?_); (focus first | decide | omega); clear h; try simp -implicitDefEqProofs -proj only [go_sem, Nat.reduceBEq, Nat.reduceLT, Nat.reduceLeDiff, Nat.reduceAdd, Nat.reduceMul, ↓reduceIte, Int.reduceToNat, Int.reducePow, Int.reduceLT, Int.reduceLE, Int.reduceAdd, Int.reduceSub, Int.reduceMul, Int.reduceEq, Int.reduceNe, eq_self, zx_i, zx_k, h3, h4, rowR_len, decide_eq_true (show (i : Int) < a.length by omega), decide_eq_true (show (k : Int) < b.length by omega)]))
      refine AllocA_intro (fun b10 hb10 => ?_)
      replace hb10 : H b10 = none := hb10
      obtain ⟨q1, q3⟩ := hat.fresh hb10
      have t6 := (fresh_ne hb10 h6).1
      have t3 := (fresh_ne hb10 h3).1
      have t4 := (fresh_ne hb10 h4).1
      simp -implicitDefEqProofs -proj only [go_sem, Nat.reduceBEq, Nat.reduceLT, Nat.reduceLeDiff, Nat.reduceAdd, Nat.reduceMul, ↓reduceIte, Int.reduceToNat, Int.reducePow, Int.reduceLT, Int.reduceLE, Int.reduceAdd, Int.reduceSub, Int.reduceMul, Int.reduceEq, Int.reduceNe]
      refine AllocA_intro (fun b11 hb11 => ?_)
      replace hb11 : upd H b10 _ b11 = none := hb11
      obtain ⟨r3, r4⟩ := fresh_ne hb11 upd_eq
      have hb11' : H b11 = none := by rw [upd_ne r4] at hb11; exact hb11
      obtain ⟨r1, r3'⟩ := hat.fresh hb11'
      have u6 := (fresh_ne hb11' h6).1
      have u3 := (fresh_ne hb11' h3).1
      have u4 := (fresh_ne hb11' h4).1
      have q2 : ¬ b7 = b10 := fun e => q1 e.symm
      have r2 : ¬ b7 = b11 := fun e => r1 e.symm
      by_cases hA : x.t ≤ y.t
      · by_cases hB : y.t ≤ x.t
        · by_cases hM : max x.f y.f ≤ min x.t y.t
          · rw [if_pos hA, if_pos hB, if_pos hM] at hR
            have dM := decide_eq_true hM
            have dA := decide_eq_true hA
            have dB := decide_eq_true hB
            simp -implicitDefEqProofs -proj only [go_sem, Nat.reduceBEq, Nat.reduceLT, Nat.reduceLeDiff, Nat.reduceAdd, Nat.reduceMul, ↓reduceIte, Int.reduceToNat, Int.reducePow, Int.reduceLT, Int.reduceLE, Int.reduceAdd, Int.reduceSub, Int.reduceMul, Int.reduceEq, Int.reduceNe, h3, h4, rowR_len, q1, q2, r1, r2, r3, r4, dM, dA, dB, i64_succ (show i < 9223372036854775807 by omega), i64_succ (show k < 9223372036854775807 by omega)]
            (repeat' (with_reducible refine VC_intro ?_ (fun h => ?_); (focus first | decide | omega); clear h; try simp -implicitDefEqProofs -proj only [go_sem, Nat.reduceBEq, Nat.reduceLT, Nat.reduceLeDiff, Nat.reduceAdd, Nat.reduceMul, ↓reduceIte, Int.reduceToNat, Int.reducePow, Int.reduceLT, Int.reduceLE, Int.reduceAdd, Int.reduceSub, Int.reduceMul, Int.reduceEq, Int.reduceNe, eq_self, h3, h4, rowR_len, q1, q2, r1, r2, r3, r4, dM, dA, dB, i64_succ (show i < 9223372036854775807 by omega), i64_succ (show k < 9223372036854775807 by omega)]))
            refine CallA_pure (hg x.v y.v) ?_
            simp -implicitDefEqProofs -proj only [go_sem, Nat.reduceBEq, Nat.reduceLT, Nat.reduceLeDiff, Nat.reduceAdd, Nat.reduceMul, ↓reduceIte, Int.reduceToNat, Int.reducePow, Int.reduceLT, Int.reduceLE, Int.reduceAdd, Int.reduceSub, Int.reduceMul, Int.reduceEq, Int.reduceNe, h3, h4, rowR_len, q1, q2, r1, r2, r3, r4, dM, dA, dB, i64_succ (show i < 9223372036854775807 by omega), i64_succ (show k < 9223372036854775807 by omega)]
            have hput := fun z1 z2 z w => put_ok (r := ⟨max x.f y.f, min x.t y.t, g x.v y.v⟩) ((((hat.upd (k := b10) (x := z1) q1 q3).upd (k := b11) (x := z2) r1 r3').upd (k := b10) (x := z) q1 q3).upd (k := b11) (x := w) r1 r3') (by omega)
            refine CallA_w (hput _ _ _ _) (fun rr H' hk => ?_)
            obtain ⟨c', hat', hfr⟩ := hk
            have g6 := hfr b6 _ n8 (fun h e => (hc h).2.1 e.symm) (by rw [upd_ne u6, upd_ne t6, upd_ne u6, upd_ne t6]; exact h6)
            have g3 := hfr b3 _ p4 (fun h e => (hc h).2.2.1 e.symm) (by rw [upd_ne u3, upd_ne t3, upd_ne u3, upd_ne t3]; exact h3)
            have g4 := hfr b4 _ p2 (fun h e => (hc h).2.2.2 e.symm) (by rw [upd_ne u4, upd_ne t4, upd_ne u4, upd_ne t4]; exact h4)
            have g10 := hfr b10 _ q1 q3 (by rw [upd_ne r3, upd_eq])
            have g11 := hfr b11 _ r1 r3' (by rw [upd_eq])
            obtain ⟨cap', hah, hc'⟩ := allH_LH hat'
            simp -implicitDefEqProofs -proj only [go_sem, Nat.reduceBEq, Nat.reduceLT, Nat.reduceLeDiff, Nat.reduceAdd, Nat.reduceMul, ↓reduceIte, Int.reduceToNat, Int.reducePow, Int.reduceLT, Int.reduceLE, Int.reduceAdd, Int.reduceSub, Int.reduceMul, Int.reduceEq, Int.reduceNe, h3, h4, rowR_len, q1, q2, r1, r2, r3, r4, dM, dA, dB, i64_succ (show i < 9223372036854775807 by omega), i64_succ (show k < 9223372036854775807 by omega), g10.1, g11.1, eq_self]
            have hRR : putR R ⟨max x.f y.f, min x.t y.t, g x.v y.v⟩ ≠ [] := putR_ne
            have hll := @putR_len R ⟨max x.f y.f, min x.t y.t, g x.v y.v⟩
            refine LoopQ_k ⟨i + 1, k + 1, c', cap', putR R ⟨max x.f y.f, min x.t y.t, g x.v y.v⟩⟩ ⟨by show i + 1 ≤ a.length; omega, by show k + 1 ≤ b.length; omega, by show (putR R _).length ≤ i + 1 + (k + 1); omega, ?_, fun h => ⟨hc' h, fun e => g6.2 e.symm, fun e => g3.2 e.symm, fun e => g4.2 e.symm⟩⟩ (by show a.length + b.length - (i + 1) - (k + 1) < a.length + b.length - i - k; omega) rfl ?_ ?_
            · show zipG g a b (a.length + b.length - (i + 1) - (k + 1)) (i + 1) (k + 1) _ = _
              rw [← hR]
              try rw [show a.length + b.length - i - k - 1 = a.length + b.length - (i + 1) - (k + 1) by omega]
              try (rw [show a.length + b.length - i - k - 1 = (a.length + b.length - (i + 1) - (k + 1)) + 1 by omega, zipG_stable _ _ _ _ (by omega)])
            · simp -implicitDefEqProofs -proj only [go_sem, Nat.reduceBEq, Nat.reduceLT, Nat.reduceLeDiff, Nat.reduceAdd, Nat.reduceMul, ↓reduceIte, Int.reduceToNat, Int.reducePow, Int.reduceLT, Int.reduceLE, Int.reduceAdd, Int.reduceSub, Int.reduceMul, Int.reduceEq, Int.reduceNe, AllAt, zx_i, zx_k]
            · rw [AllH_append, hrest]
              exact ⟨hah, g6.1, g3.1, g4.1, trivial⟩
          · rw [if_pos hA, if_pos hB, if_neg hM] at hR
            have dM := decide_eq_false hM
            have dA := decide_eq_true hA
            have dB := decide_eq_true hB
            simp -implicitDefEqProofs -proj only [go_sem, Nat.reduceBEq, Nat.reduceLT, Nat.reduceLeDiff, Nat.reduceAdd, Nat.reduceMul, ↓reduceIte, Int.reduceToNat, Int.reducePow, Int.reduceLT, Int.reduceLE, Int.reduceAdd, Int.reduceSub, Int.reduceMul, Int.reduceEq, Int.reduceNe, h3, h4, rowR_len, q1, q2, r1, r2, r3, r4, dM, dA, dB, i64_succ (show i < 9223372036854775807 by omega), i64_succ (show k < 9223372036854775807 by omega)]
            (repeat' (with_reducible refine VC_intro ?_ (fun h => ?_); (focus first | decide | omega); clear h; try simp -implicitDefEqProofs -proj only [go_sem, Nat.reduceBEq, Nat.reduceLT, Nat.reduceLeDiff, Nat.reduceAdd, Nat.reduceMul, ↓reduceIte, Int.reduceToNat, Int.reducePow, Int.reduceLT, Int.reduceLE, Int.reduceAdd, Int.reduceSub, Int.reduceMul, Int.reduceEq, Int.reduceNe, eq_self, h3, h4, rowR_len, q1, q2, r1, r2, r3, r4, dM, dA, dB, i64_succ (show i < 9223372036854775807 by omega), i64_succ (show k < 9223372036854775807 by omega)]))
            obtain ⟨cap', hah, hc'⟩ := allH_LH ((((hat.upd (k := b10) (x := some (.box 69 [.d (.int .i64 0), .d (.int .i64 0), .d (.int .i64 0)])) q1 q3).upd (k := b11) (x := some (.box 69 [.d (.int .i64 0), .d (.int .i64 0), .d (.int .i64 0)])) r1 r3').upd (k := b10) (x := some (.box 69 [.d (.int .i64 x.f), .d (.int .i64 x.t), .d (.int .i64 x.v)])) q1 q3).upd (k := b11) (x := some (.box 69 [.d (.int .i64 y.f), .d (.int .i64 y.t), .d (.int .i64 y.v)])) r1 r3')
            refine LoopQ_k ⟨i + 1, k + 1, c, cap', R⟩ ⟨by show i + 1 ≤ a.length; omega, by show k + 1 ≤ b.length; omega, by show R.length ≤ i + 1 + (k + 1); omega, ?_, hc⟩ (by show a.length + b.length - (i + 1) - (k + 1) < a.length + b.length - i - k; omega) rfl ?_ ?_
            · show zipG g a b (a.length + b.length - (i + 1) - (k + 1)) (i + 1) (k + 1) _ = _
              rw [← hR]
              try rw [show a.length + b.length - i - k - 1 = a.length + b.length - (i + 1) - (k + 1) by omega]
              try (rw [show a.length + b.length - i - k - 1 = (a.length + b.length - (i + 1) - (k + 1)) + 1 by omega, zipG_stable _ _ _ _ (by omega)])
            · simp -implicitDefEqProofs -proj only [go_sem, Nat.reduceBEq, Nat.reduceLT, Nat.reduceLeDiff, Nat.reduceAdd, Nat.reduceMul, ↓reduceIte, Int.reduceToNat, Int.reducePow, Int.reduceLT, Int.reduceLE, Int.reduceAdd, Int.reduceSub, Int.reduceMul, Int.reduceEq, Int.reduceNe, AllAt, zx_i, zx_k]
            · rw [AllH_append, hrest]
              exact ⟨hah, ((upd_ne u6).trans ((upd_ne t6).trans ((upd_ne u6).trans ((upd_ne t6).trans h6)))), ((upd_ne u3).trans ((upd_ne t3).trans ((upd_ne u3).trans ((upd_ne t3).trans h3)))), ((upd_ne u4).trans ((upd_ne t4).trans ((upd_ne u4).trans ((upd_ne t4).trans h4)))), trivial⟩
        · by_cases hM : max x.f y.f ≤ min x.t y.t
          · rw [if_pos hA, if_neg hB, if_pos hM] at hR
            have dM := decide_eq_true hM
            have dA := decide_eq_true hA
            have dB := decide_eq_false hB
            simp -implicitDefEqProofs -proj only [go_sem, Nat.reduceBEq, Nat.reduceLT, Nat.reduceLeDiff, Nat.reduceAdd, Nat.reduceMul, ↓reduceIte, Int.reduceToNat, Int.reducePow, Int.reduceLT, Int.reduceLE, Int.reduceAdd, Int.reduceSub, Int.reduceMul, Int.reduceEq, Int.reduceNe, h3, h4, rowR_len, q1, q2, r1, r2, r3, r4, dM, dA, dB, i64_succ (show i < 9223372036854775807 by omega), i64_succ (show k < 9223372036854775807 by omega)]
            (repeat' (with_reducible refine VC_intro ?_ (fun h => ?_); (focus first | decide | omega); clear h; try simp -implicitDefEqProofs -proj only [go_sem, Nat.reduceBEq, Nat.reduceLT, Nat.reduceLeDiff, Nat.reduceAdd, Nat.reduceMul, ↓reduceIte, Int.reduceToNat, Int.reducePow, Int.reduceLT, Int.reduceLE, Int.reduceAdd, Int.reduceSub, Int.reduceMul, Int.reduceEq, Int.reduceNe, eq_self, h3, h4, rowR_len, q1, q2, r1, r2, r3, r4, dM, dA, dB, i64_succ (show i < 9223372036854775807 by omega), i64_succ (show k < 9223372036854775807 by omega)]))
            refine CallA_pure (hg x.v y.v) ?_
            simp -implicitDefEqProofs -proj only [go_sem, Nat.reduceBEq, Nat.reduceLT, Nat.reduceLeDiff, Nat.reduceAdd, Nat.reduceMul, ↓reduceIte, Int.reduceToNat, Int.reducePow, Int.reduceLT, Int.reduceLE, Int.reduceAdd, Int.reduceSub, Int.reduceMul, Int.reduceEq, Int.reduceNe, h3, h4, rowR_len, q1, q2, r1, r2, r3, r4, dM, dA, dB, i64_succ (show i < 9223372036854775807 by omega), i64_succ (show k < 9223372036854775807 by omega)]
            have hput := fun z1 z2 z w => put_ok (r := ⟨max x.f y.f, min x.t y.t, g x.v y.v⟩) ((((hat.upd (k := b10) (x := z1) q1 q3).upd (k := b11) (x := z2) r1 r3').upd (k := b10) (x := z) q1 q3).upd (k := b11) (x := w) r1 r3') (by omega)
            refine CallA_w (hput _ _ _ _) (fun rr H' hk => ?_)
            obtain ⟨c', hat', hfr⟩ := hk
            have g6 := hfr b6 _ n8 (fun h e => (hc h).2.1 e.symm) (by rw [upd_ne u6, upd_ne t6, upd_ne u6, upd_ne t6]; exact h6)
            have g3 := hfr b3 _ p4 (fun h e => (hc h).2.2.1 e.symm) (by rw [upd_ne u3, upd_ne t3, upd_ne u3, upd_ne t3]; exact h3)
            have g4 := hfr b4 _ p2 (fun h e => (hc h).2.2.2 e.symm) (by rw [upd_ne u4, upd_ne t4, upd_ne u4, upd_ne t4]; exact h4)
            have g10 := hfr b10 _ q1 q3 (by rw [upd_ne r3, upd_eq])
            have g11 := hfr b11 _ r1 r3' (by rw [upd_eq])
            obtain ⟨cap', hah, hc'⟩ := allH_LH hat'
            simp -implicitDefEqProofs -proj only [go_sem, Nat.reduceBEq, Nat.reduceLT, Nat.reduceLeDiff, Nat.reduceAdd, Nat.reduceMul, ↓reduceIte, Int.reduceToNat, Int.reducePow, Int.reduceLT, Int.reduceLE, Int.reduceAdd, Int.reduceSub, Int.reduceMul, Int.reduceEq, Int.reduceNe, h3, h4, rowR_len, q1, q2, r1, r2, r3, r4, dM, dA, dB, i64_succ (show i < 9223372036854775807 by omega), i64_succ (show k < 9223372036854775807 by omega), g10.1, g11.1, eq_self]
            have hRR : putR R ⟨max x.f y.f, min x.t y.t, g x.v y.v⟩ ≠ [] := putR_ne
            have hll := @putR_len R ⟨max x.f y.f, min x.t y.t, g x.v y.v⟩
            refine LoopQ_k ⟨i + 1, k, c', cap', putR R ⟨max x.f y.f, min x.t y.t, g x.v y.v⟩⟩ ⟨by show i + 1 ≤ a.length; omega, by show k ≤ b.length; omega, by show (putR R _).length ≤ i + 1 + (k); omega, ?_, fun h => ⟨hc' h, fun e => g6.2 e.symm, fun e => g3.2 e.symm, fun e => g4.2 e.symm⟩⟩ (by show a.length + b.length - (i + 1) - (k) < a.length + b.length - i - k; omega) rfl ?_ ?_
            · show zipG g a b (a.length + b.length - (i + 1) - (k)) (i + 1) (k) _ = _
              rw [← hR]
              try rw [show a.length + b.length - i - k - 1 = a.length + b.length - (i + 1) - (k) by omega]
              try (rw [show a.length + b.length - i - k - 1 = (a.length + b.length - (i + 1) - (k + 1)) + 1 by omega, zipG_stable _ _ _ _ (by omega)])
            · simp -implicitDefEqProofs -proj only [go_sem, Nat.reduceBEq, Nat.reduceLT, Nat.reduceLeDiff, Nat.reduceAdd, Nat.reduceMul, ↓reduceIte, Int.reduceToNat, Int.reducePow, Int.reduceLT, Int.reduceLE, Int.reduceAdd, Int.reduceSub, Int.reduceMul, Int.reduceEq, Int.reduceNe, AllAt, zx_i, zx_k]
            · rw [AllH_append, hrest]
              exact ⟨hah, g6.1, g3.1, g4.1, trivial⟩
          · rw [if_pos hA, if_neg hB, if_neg hM] at hR
            have dM := decide_eq_false hM
            have dA := decide_eq_true hA
            have dB := decide_eq_false hB
            simp -implicitDefEqProofs -proj only [go_sem, Nat.reduceBEq, Nat.reduceLT, Nat.reduceLeDiff, Nat.reduceAdd, Nat.reduceMul, ↓reduceIte, Int.reduceToNat, Int.reducePow, Int.reduceLT, Int.reduceLE, Int.reduceAdd, Int.reduceSub, Int.reduceMul, Int.reduceEq, Int.reduceNe, h3, h4, rowR_len, q1, q2, r1, r2, r3, r4, dM, dA, dB, i64_succ (show i < 9223372036854775807 by omega), i64_succ (show k < 9223372036854775807 by omega)]
            (repeat' (with_reducible refine VC_intro ?_ (fun h => ?_); (focus first | decide | omega); clear h; try simp -implicitDefEqProofs -proj only [go_sem, Nat.reduceBEq, Nat.reduceLT, Nat.reduceLeDiff, Nat.reduceAdd, Nat.reduceMul, ↓reduceIte, Int.reduceToNat, Int.reducePow, Int.reduceLT, Int.reduceLE, Int.reduceAdd, Int.reduceSub, Int.reduceMul, Int.reduceEq, Int.reduceNe, eq_self, h3, h4, rowR_len, q1, q2, r1, r2, r3, r4, dM, dA, dB, i64_succ (show i < 9223372036854775807 by omega), i64_succ (show k < 9223372036854775807 by omega)]))
            obtain ⟨cap', hah, hc'⟩ := allH_LH ((((hat.upd (k := b10) (x := some (.box 69 [.d (.int .i64 0), .d (.int .i64 0), .d (.int .i64 0)])) q1 q3).upd (k := b11) (x := some (.box 69 [.d (.int .i64 0), .d (.int .i64 0), .d (.int .i64 0)])) r1 r3').upd (k := b10) (x := some (.box 69 [.d (.int .i64 x.f), .d (.int .i64 x.t), .d (.int .i64 x.v)])) q1 q3).upd (k := b11) (x := some (.box 69 [.d (.int .i64 y.f), .d (.int .i64 y.t), .d (.int .i64 y.v)])) r1 r3')
            refine LoopQ_k ⟨i + 1, k, c, cap', R⟩ ⟨by show i + 1 ≤ a.length; omega, by show k ≤ b.length; omega, by show R.length ≤ i + 1 + (k); omega, ?_, hc⟩ (by show a.length + b.length - (i + 1) - (k) < a.length + b.length - i - k; omega) rfl ?_ ?_
            · show zipG g a b (a.length + b.length - (i + 1) - (k)) (i + 1) (k) _ = _
              rw [← hR]
              try rw [show a.length + b.length - i - k - 1 = a.length + b.length - (i + 1) - (k) by omega]
              try (rw [show a.length + b.length - i - k - 1 = (a.length + b.length - (i + 1) - (k + 1)) + 1 by omega, zipG_stable _ _ _ _ (by omega)])
            · simp -implicitDefEqProofs -proj only [go_sem, Nat.reduceBEq, Nat.reduceLT, Nat.reduceLeDiff, Nat.reduceAdd, Nat.reduceMul, ↓reduceIte, Int.reduceToNat, Int.reducePow, Int.reduceLT, Int.reduceLE, Int.reduceAdd, Int.reduceSub, Int.reduceMul, Int.reduceEq, Int.reduceNe, AllAt, zx_i, zx_k]
            · rw [AllH_append, hrest]
              exact ⟨hah, ((upd_ne u6).trans ((upd_ne t6).trans ((upd_ne u6).trans ((upd_ne t6).trans h6)))), ((upd_ne u3).trans ((upd_ne t3).trans ((upd_ne u3).trans ((upd_ne t3).trans h3)))), ((upd_ne u4).trans ((upd_ne t4).trans ((upd_ne u4).trans ((upd_ne t4).trans h4)))), trivial⟩
      · have hB : y.t ≤ x.t := by omega
        by_cases hM : max x.f y.f ≤ min x.t y.t
        · rw [if_neg hA, if_pos hB, if_pos hM] at hR
          have dM := decide_eq_true hM
          have dA := decide_eq_false hA
          have dB := decide_eq_true hB
          simp -implicitDefEqProofs -proj only [go_sem, Nat.reduceBEq, Nat.reduceLT, Nat.reduceLeDiff, Nat.reduceAdd, Nat.reduceMul, ↓reduceIte, Int.reduceToNat, Int.reducePow, Int.reduceLT, Int.reduceLE, Int.reduceAdd, Int.reduceSub, Int.reduceMul, Int.reduceEq, Int.reduceNe, h3, h4, rowR_len, q1, q2, r1, r2, r3, r4, dM, dA, dB, i64_succ (show i < 9223372036854775807 by omega), i64_succ (show k < 9223372036854775807 by omega)]
          (repeat' (with_reducible refine VC_intro ?_ (fun h => ?_); (focus first | decide | omega); clear h; try simp -implicitDefEqProofs -proj only [go_sem, Nat.reduceBEq, Nat.reduceLT, Nat.reduceLeDiff, Nat.reduceAdd, Nat.reduceMul, ↓reduceIte, Int.reduceToNat, Int.reducePow, Int.reduceLT, Int.reduceLE, Int.reduceAdd, Int.reduceSub, Int.reduceMul, Int.reduceEq, Int.reduceNe, eq_self, h3, h4, rowR_len, q1, q2, r1, r2, r3, r4, dM, dA, dB, i64_succ (show i < 9223372036854775807 by omega), i64_succ (show k < 9223372036854775807 by omega)]))
          refine CallA_pure (hg x.v y.v) ?_
          simp -implicitDefEqProofs -proj only [go_sem, Nat.reduceBEq, Nat.reduceLT, Nat.reduceLeDiff, Nat.reduceAdd, Nat.reduceMul, ↓reduceIte, Int.reduceToNat, Int.reducePow, Int.reduceLT, Int.reduceLE, Int.reduceAdd, Int.reduceSub, Int.reduceMul, Int.reduceEq, Int.reduceNe, h3, h4, rowR_len, q1, q2, r1, r2, r3, r4, dM, dA, dB, i64_succ (show i < 9223372036854775807 by omega), i64_succ (show k < 9223372036854775807 by omega)]
          have hput := fun z1 z2 z w => put_ok (r := ⟨max x.f y.f, min x.t y.t, g x.v y.v⟩) ((((hat.upd (k := b10) (x := z1) q1 q3).upd (k := b11) (x := z2) r1 r3').upd (k := b10) (x := z) q1 q3).upd (k := b11) (x := w) r1 r3') (by omega)
          refine CallA_w (hput _ _ _ _) (fun rr H' hk => ?_)
          obtain ⟨c', hat', hfr⟩ := hk
          have g6 := hfr b6 _ n8 (fun h e => (hc h).2.1 e.symm) (by rw [upd_ne u6, upd_ne t6, upd_ne u6, upd_ne t6]; exact h6)
          have g3 := hfr b3 _ p4 (fun h e => (hc h).2.2.1 e.symm) (by rw [upd_ne u3, upd_ne t3, upd_ne u3, upd_ne t3]; exact h3)
          have g4 := hfr b4 _ p2 (fun h e => (hc h).2.2.2 e.symm) (by rw [upd_ne u4, upd_ne t4, upd_ne u4, upd_ne t4]; exact h4)
          have g10 := hfr b10 _ q1 q3 (by rw [upd_ne r3, upd_eq])
          have g11 := hfr b11 _ r1 r3' (by rw [upd_eq])
          obtain ⟨cap', hah, hc'⟩ := allH_LH hat'
          simp -implicitDefEqProofs -proj only [go_sem, Nat.reduceBEq, Nat.reduceLT, Nat.reduceLeDiff, Nat.reduceAdd, Nat.reduceMul, ↓reduceIte, Int.reduceToNat, Int.reducePow, Int.reduceLT, Int.reduceLE, Int.reduceAdd, Int.reduceSub, Int.reduceMul, Int.reduceEq, Int.reduceNe, h3, h4, rowR_len, q1, q2, r1, r2, r3, r4, dM, dA, dB, i64_succ (show i < 9223372036854775807 by omega), i64_succ (show k < 9223372036854775807 by omega), g10.1, g11.1, eq_self]
          have hRR : putR R ⟨max x.f y.f, min x.t y.t, g x.v y.v⟩ ≠ [] := putR_ne
          have hll := @putR_len R ⟨max x.f y.f, min x.t y.t, g x.v y.v⟩
          refine LoopQ_k ⟨i, k + 1, c', cap', putR R ⟨max x.f y.f, min x.t y.t, g x.v y.v⟩⟩ ⟨by show i ≤ a.length; omega, by show k + 1 ≤ b.length; omega, by show (putR R _).length ≤ i + (k + 1); omega, ?_, fun h => ⟨hc' h, fun e => g6.2 e.symm, fun e => g3.2 e.symm, fun e => g4.2 e.symm⟩⟩ (by show a.length + b.length - (i) - (k + 1) < a.length + b.length - i - k; omega) rfl ?_ ?_
          · show zipG g a b (a.length + b.length - (i) - (k + 1)) (i) (k + 1) _ = _
            rw [← hR]
            try rw [show a.length + b.length - i - k - 1 = a.length + b.length - (i) - (k + 1) by omega]
            try (rw [show a.length + b.length - i - k - 1 = (a.length + b.length - (i + 1) - (k + 1)) + 1 by omega, zipG_stable _ _ _ _ (by omega)])
          · simp -implicitDefEqProofs -proj only [go_sem, Nat.reduceBEq, Nat.reduceLT, Nat.reduceLeDiff, Nat.reduceAdd, Nat.reduceMul, ↓reduceIte, Int.reduceToNat, Int.reducePow, Int.reduceLT, Int.reduceLE, Int.reduceAdd, Int.reduceSub, Int.reduceMul, Int.reduceEq, Int.reduceNe, AllAt, zx_i, zx_k]
          · rw [AllH_append, hrest]
            exact ⟨hah, g6.1, g3.1, g4.1, trivial⟩
        · rw [if_neg hA, if_pos hB, if_neg hM] at hR
          have dM := decide_eq_false hM
          have dA := decide_eq_false hA
          have dB := decide_eq_true hB
          simp -implicitDefEqProofs -proj only [go_sem, Nat.reduceBEq, Nat.reduceLT, Nat.reduceLeDiff, Nat.reduceAdd, Nat.reduceMul, ↓reduceIte, Int.reduceToNat, Int.reducePow, Int.reduceLT, Int.reduceLE, Int.reduceAdd, Int.reduceSub, Int.reduceMul, Int.reduceEq, Int.reduceNe, h3, h4, rowR_len, q1, q2, r1, r2, r3, r4, dM, dA, dB, i64_succ (show i < 9223372036854775807 by omega), i64_succ (show k < 9223372036854775807 by omega)]
          (repeat' (with_reducible refine VC_intro ?_ (fun h => ?_); (focus first | decide | omega); clear h; try simp -implicitDefEqProofs -proj only [go_sem, Nat.reduceBEq, Nat.reduceLT, Nat.reduceLeDiff, Nat.reduceAdd, Nat.reduceMul, ↓reduceIte, Int.reduceToNat, Int.reducePow, Int.reduceLT, Int.reduceLE, Int.reduceAdd, Int.reduceSub, Int.reduceMul, Int.reduceEq, Int.reduceNe, eq_self, h3, h4, rowR_len, q1, q2, r1, r2, r3, r4, dM, dA, dB, i64_succ (show i < 9223372036854775807 by omega), i64_succ (show k < 9223372036854775807 by omega)]))
          obtain ⟨cap', hah, hc'⟩ := allH_LH ((((hat.upd (k := b10) (x := some (.box 69 [.d (.int .i64 0), .d (.int .i64 0), .d (.int .i64 0)])) q1 q3).upd (k := b11) (x := some (.box 69 [.d (.int .i64 0), .d (.int .i64 0), .d (.int .i64 0)])) r1 r3').upd (k := b10) (x := some (.box 69 [.d (.int .i64 x.f), .d (.int .i64 x.t), .d (.int .i64 x.v)])) q1 q3).upd (k := b11) (x := some (.box 69 [.d (.int .i64 y.f), .d (.int .i64 y.t), .d (.int .i64 y.v)])) r1 r3')
          refine LoopQ_k ⟨i, k + 1, c, cap', R⟩ ⟨by show i ≤ a.length; omega, by show k + 1 ≤ b.length; omega, by show R.length ≤ i + (k + 1); omega, ?_, hc⟩ (by show a.length + b.length - (i) - (k + 1) < a.length + b.length - i - k; omega) rfl ?_ ?_
          · show zipG g a b (a.length + b.length - (i) - (k + 1)) (i) (k + 1) _ = _
            rw [← hR]
            try rw [show a.length + b.length - i - k - 1 = a.length + b.length - (i) - (k + 1) by omega]
            try (rw [show a.length + b.length - i - k - 1 = (a.length + b.length - (i + 1) - (k + 1)) + 1 by omega, zipG_stable _ _ _ _ (by omega)])
          · simp -implicitDefEqProofs -proj only [go_sem, Nat.reduceBEq, Nat.reduceLT, Nat.reduceLeDiff, Nat.reduceAdd, Nat.reduceMul, ↓reduceIte, Int.reduceToNat, Int.reducePow, Int.reduceLT, Int.reduceLE, Int.reduceAdd, Int.reduceSub, Int.reduceMul, Int.reduceEq, Int.reduceNe, AllAt, zx_i, zx_k]
          · rw [AllH_append, hrest]
            exact ⟨hah, ((upd_ne u6).trans ((upd_ne t6).trans ((upd_ne u6).trans ((upd_ne t6).trans h6)))), ((upd_ne u3).trans ((upd_ne t3).trans ((upd_ne u3).trans ((upd_ne t3).trans h3)))), ((upd_ne u4).trans ((upd_ne t4).trans ((upd_ne u4).trans ((upd_ne t4).trans h4)))), trivial⟩
    · have hz : zipG g a b (a.length + b.length - i - k) i k R = R := by
        generalize a.length + b.length - i - k = n
        cases n with
        | zero => rfl
        | succ n =>
          rw [zipG]
          by_cases h1 : i < a.length
          · rw [List.getElem?_eq_none (l := b) (by omega)]
            split <;> first | rfl | simp_all
          · rw [List.getElem?_eq_none (l := a) (by omega)]
      obtain ⟨v, hv, hl, _⟩ := hat.read
      obtain ⟨v2, hv2, hl2, _⟩ := (hat.upd (k := b6) (x := some (.box 35 [v])) n8 (fun h e => (hc h).2.1 e.symm)).read
      rw [upd_ne n8, hv] at hv2
      cases hv2
      rw [← hR, hz]
      by_cases h1 : i < a.length
      · have h2 : ¬ (k : Int) < b.length := by omega
        simp -implicitDefEqProofs -proj only [go_sem, Nat.reduceBEq, Nat.reduceLT, Nat.reduceLeDiff, Nat.reduceAdd, Nat.reduceMul, ↓reduceIte, Int.reduceToNat, Int.reducePow, Int.reduceLT, Int.reduceLE, Int.reduceAdd, Int.reduceSub, Int.reduceMul, Int.reduceEq, Int.reduceNe, zx_i, zx_k, h3, h4, h6, hv, rowR_len, decide_eq_true (show (i : Int) < a.length by omega), decide_eq_false h2]
        (repeat' (with_reducible refine VC_intro ?_ (fun h => ?_); (focus first | decide | omega); clear h; try simp -implicitDefEqProofs -proj only [go_sem, Nat.reduceBEq, Nat.reduceLT, Nat.reduceLeDiff, Nat.reduceAdd, Nat.reduceMul, ↓reduceIte, Int.reduceToNat, Int.reducePow, Int.reduceLT, Int.reduceLE, Int.reduceAdd, Int.reduceSub, Int.reduceMul, Int.reduceEq, Int.reduceNe, eq_self, zx_i, zx_k, h3, h4, h6, hv, rowR_len, decide_eq_true (show (i : Int) < a.length by omega), decide_eq_false h2]))
        exact lend_agg1 hl2
      · simp -implicitDefEqProofs -proj only [go_sem, Nat.reduceBEq, Nat.reduceLT, Nat.reduceLeDiff, Nat.reduceAdd, Nat.reduceMul, ↓reduceIte, Int.reduceToNat, Int.reducePow, Int.reduceLT, Int.reduceLE, Int.reduceAdd, Int.reduceSub, Int.reduceMul, Int.reduceEq, Int.reduceNe, zx_i, zx_k, h3, h4, h6, hv, rowR_len, decide_eq_false (show ¬ (i : Int) < a.length by omega)]
        (repeat' (with_reducible refine VC_intro ?_ (fun h => ?_); (focus first | decide | omega); clear h; try simp -implicitDefEqProofs -proj only [go_sem, Nat.reduceBEq, Nat.reduceLT, Nat.reduceLeDiff, Nat.reduceAdd, Nat.reduceMul, ↓reduceIte, Int.reduceToNat, Int.reducePow, Int.reduceLT, Int.reduceLE, Int.reduceAdd, Int.reduceSub, Int.reduceMul, Int.reduceEq, Int.reduceNe, eq_self, zx_i, zx_k, h3, h4, h6, hv, rowR_len, decide_eq_false (show ¬ (i : Int) < a.length by omega)]))
        exact lend_agg1 hl2
end Go.Proofs.Ytgfimmaligcgjaa.Abs
