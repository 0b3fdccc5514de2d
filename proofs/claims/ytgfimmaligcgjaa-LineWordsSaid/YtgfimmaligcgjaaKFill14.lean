/- A line that has one value in a span, and the document's. No claim stands here. -/
import Derived.Test.YtgfimmaligcgjaaKZip14
set_option linter.unusedSimpArgs false
set_option linter.unusedVariables false
namespace Go.Proofs.Ytgfimmaligcgjaa.Abs
open Go Go.RowKit Go.Proofs
attribute [local go_sem] RunC_seq AF_n AF_r AF_b St_n St_t St_H Fst_mk Snd_mk RunC_ops RunC_cond RunC_block RunC_loop RunC_exit RunC_ret RunC_skip RunO_nil RunO_code RunO_code_ret RunO_code_exit RunO_blk RunO_blk_ret RunO_blk_exit RunL_nil RunL_guard GuardA_tt GuardA_ff GuardA_tf GuardA_ft GuardA_void CondA_t CondA_f PickA_t PickA_f RunL_mov RunL_pick RunL_alloc RunL_box RunL_load LoadA_ptr LoadB_1 LoadB_n LoadA_dptr LoadA_dptr_n RunL_store StoreA_ptr StoreB_box RunL_bin Bin_add Bin_sub Bin_mul Bin_quo Bin_rem Bin_shl Bin_shr Bin_andI Bin_orI Bin_xorI Bin_eql Bin_neq Bin_lss Bin_leq Bin_gtr Bin_geq RunL_binb Bin_beql Bin_bneq RunL_un UnA_not UnA_neg RunL_conv convV MapA_some RunL_nilCheck nilV RunL_mkfn RunL_fieldAddr faV RunL_field FieldA_1 FieldA_n RunL_elemAddr EAddrA_sl EAddrA_own EptrA_eq RunL_build BuildA_some RunL_extract ExtA_eq RunL_len lenV_sl lenV_nilsl lenV_own RunL_slen RunL_idxStr IdxSA_eq slenV RunL_minmax mmV minmaxL RunL_call RunL_callv CallvA_fn putS ev evL evO evP eqK eqKs EqB_agg RunL_eqAgg EqA_t EqA_f evQ buildC fits_agg cellsAV_agg fits_d cellsAV_d fits_nilp cellsAV_nilp fits_nilsl cellsAV_nilsl fits_nilfn cellsAV_nilfn fits_ptr cellsAV_ptr fits_eptr cellsAV_eptr fits_dptr cellsAV_dptr fits_own cellsAV_own fits_fn cellsAV_fn rowV_fits rowV_cells rowV_len lenAV setSeg nth seg mapD repeatL putT_get upd_get argT keepT_cons keepT_nil keepH_cons keepH_nil cond_true cond_false VC_true finW resW resL resOne LoopQ_exit LoopQ_ret List.cons_append List.nil_append Bool.not_true Bool.not_false Bool.and_true Bool.and_self Nat.lt_add_left_iff_pos Nat.zero_add Nat.add_zero List.drop_succ_cons List.drop_zero List.take_succ_cons List.take_zero beq_self_eq_true Bool.false_eq_true RunC_dops RunL_loadS RunL_storeS StoreSA_ptr RunL_pcall RunL_pcallv PCallvA_fn newsOk and_self and_true true_and loadW_ptr LoadK_1 LoadK_n upd_upd RunL_buildSlice BSliceA_some RunL_buildSliceD frzL frz cutL LoadA_eptr LoadE_row RunL_append RunL_slice SliceA_sl StoreA_eptr List.length_cons List.length_nil Nat.min_def Int.cast_ofNat_Int Int.natCast_zero Int.natCast_one decide_true decide_false List.getElem?_cons_zero List.getElem?_cons_succ RunC_rangef CallvA_yld putL_nil putL_cons RangeQ_exit RangeQ_ret
/-- A run, with the value in the span. -/
def fillR (lo hi v : Int) (R : List Run) (r : Run) : List Run :=
  let low := max r.f lo
  let high := min r.t hi
  if low > high then putR R r else
    let R1 := if r.f < low then putR R ⟨r.f, low - 1, r.v⟩ else R
    let R2 := putR R1 ⟨low, high, v⟩
    if high < r.t then putR R2 ⟨high + 1, r.t, r.v⟩ else R2
def fillN (lo hi v : Int) (l : List Run) : Nat → List Run
  | 0 => []
  | i + 1 => match l[i]? with
    | some r => fillR lo hi v (fillN lo hi v l i) r
    | none => fillN lo hi v l i
theorem fillR_len {lo hi v : Int} {R : List Run} {r : Run} : (fillR lo hi v R r).length ≤ R.length + 3 := by
  unfold fillR
  simp -implicitDefEqProofs only []
  have k1 := @putR_len R r
  have k2 := @putR_len R ⟨r.f, max r.f lo - 1, r.v⟩
  have k3 := @putR_len (putR R ⟨r.f, max r.f lo - 1, r.v⟩) ⟨max r.f lo, min r.t hi, v⟩
  have k4 := @putR_len R ⟨max r.f lo, min r.t hi, v⟩
  have k5 := @putR_len (putR (putR R ⟨r.f, max r.f lo - 1, r.v⟩) ⟨max r.f lo, min r.t hi, v⟩) ⟨min r.t hi + 1, r.t, r.v⟩
  have k6 := @putR_len (putR R ⟨max r.f lo, min r.t hi, v⟩) ⟨min r.t hi + 1, r.t, r.v⟩
  split
  · omega
  · split <;> split <;> omega
theorem fillN_len {lo hi v : Int} {l : List Run} : ∀ i : Nat, (fillN lo hi v l i).length ≤ 3 * i
  | 0 => Nat.le_refl _
  | i + 1 => by
    have h := fillN_len (lo := lo) (hi := hi) (v := v) (l := l) i
    rw [fillN]
    split
    · next r hr =>
      have := @fillR_len lo hi v (fillN lo hi v l i) r
      omega
    · omega
def inS (lo hi x : Int) : Bool := decide (lo ≤ x) && decide (x ≤ hi)
theorem fillN_fwd {val : Int → Int} {lo hi v f e : Int} {L : List Run} (hL : FwdOK val f e L) : ∀ i : Nat, i ≤ L.length → FwdOK (fun x => if lo ≤ x ∧ x ≤ hi then v else val x) f (startR L e i) (fillN lo hi v L i)
  | 0, _ => by rw [startR_zero hL]; rfl
  | i + 1, hi' => by
    have h := fillN_fwd hL i (by omega) (lo := lo) (hi := hi) (v := v)
    obtain ⟨r, hr⟩ : ∃ r, L[i]? = some r := ⟨_, List.getElem?_eq_getElem (by omega)⟩
    obtain ⟨a1, a2, a3, a4, a5, a6⟩ := hL.nth i r hr
    rw [fillN, hr, a3]
    simp -implicitDefEqProofs only []
    rw [← a1] at h
    generalize fillN lo hi v L i = R at *
    unfold fillR
    simp -implicitDefEqProofs only []
    split
    · next hc =>
      exact FwdOK.putRun (v := r.v) a2 (fun x h1 h2 => by rw [if_neg (by omega)]; exact a6 x h1 h2) h
    · next hc =>
      have h1 : FwdOK (fun x => if lo ≤ x ∧ x ≤ hi then v else val x) f (max r.f lo) (if r.f < max r.f lo then putR R ⟨r.f, max r.f lo - 1, r.v⟩ else R) := by
        split
        · next hc2 =>
          have := FwdOK.putRun (t := max r.f lo - 1) (v := r.v) (by omega) (fun x h1 h2 => by show (if lo ≤ x ∧ x ≤ hi then v else val x) = _; rw [if_neg (by omega)]; exact a6 x h1 (by omega)) h
          rwa [show max r.f lo - 1 + 1 = max r.f lo by omega] at this
        · next hc2 => rwa [show max r.f lo = r.f by omega]
      have h2 := FwdOK.putRun (t := min r.t hi) (v := v) (by omega) (fun x h1 h2 => by show (if lo ≤ x ∧ x ≤ hi then v else val x) = _; rw [if_pos (by omega)]) h1
      split
      · next hc3 => exact FwdOK.putRun (t := r.t) (v := r.v) (by omega) (fun x h1 h2 => by show (if lo ≤ x ∧ x ≤ hi then v else val x) = _; rw [if_neg (by omega)]; exact a6 x (by omega) h2) h2
      · next hc3 =>
        have e : min r.t hi = r.t := by omega
        rw [e] at h2 ⊢
        exact h2
def fillL (f lo hi v : Int) (l : List Int) : List Int := (List.range l.length).map fun (i : Nat) => if lo ≤ f + (i : Int) ∧ f + (i : Int) ≤ hi then v else l.getD i 0
theorem fillL_len {f lo hi v : Int} {l : List Int} : (fillL f lo hi v l).length = l.length := by simp [fillL]
theorem fill_runs {f lo hi v : Int} {l : List Int} : fillN lo hi v (runs f l) (runs f l).length = runs f (fillL f lo hi v l) := by
  have hL := runs_fwd f l
  have h := fillN_fwd hL (runs f l).length (Nat.le_refl _) (lo := lo) (hi := hi) (v := v)
  rw [startR_end (List.getElem?_eq_none (Nat.le_refl _))] at h
  refine runs_eq (by rw [fillL_len]; exact h) fun i hi' => ?_
  simp -implicitDefEqProofs only [fillL, List.getElem_map, List.getElem_range, valL, show (f + (i : Int) - f).toNat = i by omega]
/-- A line's cell, and what else there is. -/
structure LineS (H : Heap) (b c : Nat) (R : List Run) (rest : List (Nat × Blk)) : Prop where
  at_ : LineAt H b c R
  all : AllH H rest
  ne : ∀ p ∈ rest, p.1 ≠ b ∧ (R ≠ [] → p.1 ≠ c)
theorem put_s {H : Heap} {b c : Nat} {R : List Run} {rest : List (Nat × Blk)} {r : Run} (h : LineS H b c R rest) (hl : R.length ≤ 1000000) : CallW Try.prog f_line_Line_int_put [.ptr b 0, r.av] H fun _ H' => ∃ c', LineS H' b c' (putR R r) rest :=
  (put_ok (r := r) h.at_ hl).mono fun _ H' ⟨c', h1, h2⟩ =>
    ⟨c', h1, AllH_iff.2 fun p hp => (h2 p.1 p.2 (h.ne p hp).1 (h.ne p hp).2 (AllH_iff.1 h.all p hp)).1, fun p hp => ⟨(h.ne p hp).1, fun _ => (h2 p.1 p.2 (h.ne p hp).1 (h.ne p hp).2 (AllH_iff.1 h.all p hp)).2⟩⟩
theorem LineS.alloc {H : Heap} {b c k : Nat} {R : List Run} {rest : List (Nat × Blk)} {x : Blk} (h : LineS H b c R rest) (hk : H k = none) : LineS (upd H k (some x)) b c R ((k, x) :: rest) := by
  have hf := h.at_.fresh hk
  refine ⟨h.at_.upd hf.1 hf.2, alloc_all hk h.all, fun p hp => ?_⟩
  rcases List.mem_cons.1 hp with rfl | hp
  · exact hf
  · exact h.ne p hp
theorem LineS.keep {b c cap : Nat} {R : List Run} {rest : List (Nat × Blk)} (hc : R ≠ [] → c ≠ b) (hn : ∀ p ∈ rest, p.1 ≠ b ∧ (R ≠ [] → p.1 ≠ c)) (hk : (keys rest).Nodup) : LineS (keepH (LH b c cap R ++ rest)) b c R rest :=
  ⟨lineAt_LH hc, AllH_iff.2 fun p hp => by rw [rest_LH (hn p hp).1 (hn p hp).2]; exact AllH_iff.1 (keepH_all hk) p hp, hn⟩
theorem LineS.sub {H : Heap} {b c : Nat} {R : List Run} {rest rest' : List (Nat × Blk)} (h : LineS H b c R rest) (hs : ∀ p ∈ rest', p ∈ rest) : LineS H b c R rest' :=
  ⟨h.at_, AllH_sub h.all hs, fun p hp => h.ne p (hs p hp)⟩
set_option maxRecDepth 20000 in
theorem Fill_new {l : List Run} {lo hi v : Int} (hn : l.length ≤ 300000) (hlo : -1099511627776 ≤ lo ∧ lo ≤ 1099511627776) (hhi : -1099511627776 ≤ hi ∧ hi ≤ 1099511627776) (hb : ∀ r ∈ l, -1099511627776 ≤ r.f ∧ r.t ≤ 1099511627776 ∧ r.f ≤ r.t) :
    NewW Try.prog f_line_Fill_int [lineV l, i64 lo, i64 hi, i64 v] (lineV (fillN lo hi v l l.length)) := by
  refine CallW_intro comp_line_Fill_int (by simp) ?_
  simp -implicitDefEqProofs -proj only [go_sem, Nat.reduceBEq, Nat.reduceLT, Nat.reduceLeDiff, Nat.reduceAdd, Nat.reduceMul, ↓reduceIte, Int.reduceToNat, Int.reducePow, Int.reduceLT, Int.reduceLE, Int.reduceAdd, Int.reduceSub, Int.reduceMul, Int.reduceEq, Int.reduceNe]
  refine AllocA_intro (fun b4 hb4 => ?_)
  simp -implicitDefEqProofs -proj only [go_sem, Nat.reduceBEq, Nat.reduceLT, Nat.reduceLeDiff, Nat.reduceAdd, Nat.reduceMul, ↓reduceIte, Int.reduceToNat, Int.reducePow, Int.reduceLT, Int.reduceLE, Int.reduceAdd, Int.reduceSub, Int.reduceMul, Int.reduceEq, Int.reduceNe]
  refine AllocA_intro (fun b8 hb8 => ?_)
  replace hb8 : upd Heap.none b4 _ b8 = none := hb8
  obtain ⟨n1, n2⟩ := fresh_ne hb8 upd_eq
  simp -implicitDefEqProofs -proj only [go_sem, Nat.reduceBEq, Nat.reduceLT, Nat.reduceLeDiff, Nat.reduceAdd, Nat.reduceMul, ↓reduceIte, Int.reduceToNat, Int.reducePow, Int.reduceLT, Int.reduceLE, Int.reduceAdd, Int.reduceSub, Int.reduceMul, Int.reduceEq, Int.reduceNe]
  refine AllocA_intro (fun b9 hb9 => ?_)
  replace hb9 : upd (upd Heap.none b4 _) b8 _ b9 = none := hb9
  obtain ⟨n3, n4⟩ := fresh_ne hb9 upd_eq
  obtain ⟨n5, n6⟩ := fresh_ne hb9 (by rw [upd_ne n1]; exact upd_eq)
  simp -implicitDefEqProofs -proj only [go_sem, Nat.reduceBEq, Nat.reduceLT, Nat.reduceLeDiff, Nat.reduceAdd, Nat.reduceMul, ↓reduceIte, Int.reduceToNat, Int.reducePow, Int.reduceLT, Int.reduceLE, Int.reduceAdd, Int.reduceSub, Int.reduceMul, Int.reduceEq, Int.reduceNe, n1, n2, n3, n4, n5, n6, rowR_len]
  (repeat' (with_reducible refine VC_intro ?_ (fun h => ?_); (focus first | decide | omega); clear h; try simp -implicitDefEqProofs -proj only [go_sem, Nat.reduceBEq, Nat.reduceLT, Nat.reduceLeDiff, Nat.reduceAdd, Nat.reduceMul, ↓reduceIte, Int.reduceToNat, Int.reducePow, Int.reduceLT, Int.reduceLE, Int.reduceAdd, Int.reduceSub, Int.reduceMul, Int.reduceEq, Int.reduceNe, n1, n2, n3, n4, n5, n6, rowR_len]))
  refine LoopA_k (fun x : LoopX => x.i ≤ l.length ∧ x.l = fillN lo hi v l x.i ∧ (x.l ≠ [] → x.c ≠ b9 ∧ x.c ≠ b8)) 65 (fun x => [(15, slR l), (16, i64 l.length), (17, i64 x.i), (1, i64 lo), (2, i64 hi), (3, i64 v), (9, .ptr b9 0), (8, .ptr b8 0)]) (fun x => LH b9 x.c x.cap x.l ++ [(b8, .box 35 [.nilsl 3])]) (fun x => l.length - x.i) ⟨0, 0, 0, []⟩ ⟨Nat.zero_le _, rfl, fun h => absurd rfl h⟩ rfl ?_ ?_ ?_
  · simp -implicitDefEqProofs -proj only [go_sem, Nat.reduceBEq, Nat.reduceLT, Nat.reduceLeDiff, Nat.reduceAdd, Nat.reduceMul, ↓reduceIte, Int.reduceToNat, Int.reducePow, Int.reduceLT, Int.reduceLE, Int.reduceAdd, Int.reduceSub, Int.reduceMul, Int.reduceEq, Int.reduceNe, AllAt, rowR_len]
  · simp -implicitDefEqProofs -proj only [go_sem, Nat.reduceBEq, Nat.reduceLT, Nat.reduceLeDiff, Nat.reduceAdd, Nat.reduceMul, ↓reduceIte, Int.reduceToNat, Int.reducePow, Int.reduceLT, Int.reduceLE, Int.reduceAdd, Int.reduceSub, Int.reduceMul, Int.reduceEq, Int.reduceNe, AllH, AllH_append, LH, n1, n2, n3, n4, n5, n6]
  · rintro ⟨i, c, cap, R⟩ ⟨hi', hR, hc⟩
    simp -implicitDefEqProofs only [] at hi' hR hc
    have hS : LineS (keepH (LH b9 c cap R ++ [(b8, .box 35 [.nilsl 3])])) b9 c R [(b8, .box 35 [.nilsl 3])] :=
      LineS.keep (fun h => (hc h).1) (fun p hp => by simp -implicitDefEqProofs only [List.mem_singleton] at hp; subst hp; exact ⟨n4, fun h e => (hc h).2 e.symm⟩) (by simp [keys])
    generalize hH : keepH (LH b9 c cap R ++ [(b8, .box 35 [.nilsl 3])]) = H at *
    have hlen := fillN_len (lo := lo) (hi := hi) (v := v) (l := l) i
    rw [← hR] at hlen
    by_cases h : i < l.length
    · have hel := rowR_at h
      have hx : l[i]? = some l[i] := List.getElem?_eq_getElem h
      obtain ⟨q1, q2, q3⟩ := hb l[i] (List.getElem_mem h)
      generalize l[i] = x at *
      have hR' : fillR lo hi v R x = fillN lo hi v l (i + 1) := by rw [fillN, hx, hR]
      have fin : ∀ (H' : Heap) (c' : Nat) (t : TM), LineS H' b9 c' (fillR lo hi v R x) [(b8, .box 35 [.nilsl 3])] → AllAt t [(15, slR l), (16, i64 l.length), (17, i64 ((i + 1 : Nat) : Int)), (1, i64 lo), (2, i64 hi), (3, i64 v), (9, .ptr b9 0), (8, .ptr b8 0)] →
          LoopQ (fun x : LoopX => x.i ≤ l.length ∧ x.l = fillN lo hi v l x.i ∧ (x.l ≠ [] → x.c ≠ b9 ∧ x.c ≠ b8)) (fun x => (⟨65, keepT [(15, slR l), (16, i64 l.length), (17, i64 x.i), (1, i64 lo), (2, i64 hi), (3, i64 v), (9, .ptr b9 0), (8, .ptr b8 0)], keepH (LH b9 x.c x.cap x.l ++ [(b8, .box 35 [.nilsl 3])])⟩ : St)) (fun x => l.length - x.i) ⟨i, c, cap, R⟩
            (RunO Try.prog (finW [.cell 8 (some 1)] fun r' H' => NewV H' r' (lineV (fillN lo hi v l l.length))) [.blk 0, .code ((ACode.ops c_line_Fill_int_r14).seq .ret)]) .normal ⟨65, t, H'⟩ := by
        intro H' c' t hS' hat
        obtain ⟨cap', ha, hc'⟩ := allH_LH hS'.at_
        refine LoopQ_k ⟨i + 1, c', cap', fillR lo hi v R x⟩ ⟨by show i + 1 ≤ l.length; omega, hR', fun h => ⟨hc' h, fun e => (hS'.ne _ (List.mem_singleton.2 rfl)).2 h e.symm⟩⟩ (by show l.length - (i + 1) < l.length - i; omega) rfl hat ?_
        rw [AllH_append]
        exact ⟨ha, hS'.all⟩
      have hsucc := i64_succ (show i < 9223372036854775807 by omega)
      simp -implicitDefEqProofs -proj only [go_sem, Nat.reduceBEq, Nat.reduceLT, Nat.reduceLeDiff, Nat.reduceAdd, Nat.reduceMul, ↓reduceIte, Int.reduceToNat, Int.reducePow, Int.reduceLT, Int.reduceLE, Int.reduceAdd, Int.reduceSub, Int.reduceMul, Int.reduceEq, Int.reduceNe, decide_eq_true (show (i : Int) < l.length by omega)]
      refine ElemA_at _ (by omega) hel ?_
      simp -implicitDefEqProofs -proj only [go_sem, Nat.reduceBEq, Nat.reduceLT, Nat.reduceLeDiff, Nat.reduceAdd, Nat.reduceMul, ↓reduceIte, Int.reduceToNat, Int.reducePow, Int.reduceLT, Int.reduceLE, Int.reduceAdd, Int.reduceSub, Int.reduceMul, Int.reduceEq, Int.reduceNe]
      refine AllocA_intro (fun b11 hb11 => ?_)
      replace hb11 : H b11 = none := hb11
      have hS1 := hS.alloc (x := .box 69 [i64 x.f, i64 x.t, i64 x.v]) hb11
      obtain ⟨H1, hH1⟩ : ∃ H1, upd H b11 (some (.box 69 [i64 x.f, i64 x.t, i64 x.v])) = H1 := ⟨_, rfl⟩
      have e11 : H1 b11 = some (.box 69 [i64 x.f, i64 x.t, i64 x.v]) := by rw [← hH1]; exact upd_eq
      rw [hH1] at hS1
      simp -implicitDefEqProofs -proj only [go_sem, Nat.reduceBEq, Nat.reduceLT, Nat.reduceLeDiff, Nat.reduceAdd, Nat.reduceMul, ↓reduceIte, Int.reduceToNat, Int.reducePow, Int.reduceLT, Int.reduceLE, Int.reduceAdd, Int.reduceSub, Int.reduceMul, Int.reduceEq, Int.reduceNe, hH1, e11]
      have w1 : IntKind.i64.wrap (max x.f lo - 1) = max x.f lo - 1 := by rw [IntKind.wrap_i64]; omega
      have w2 : IntKind.i64.wrap (min x.t hi + 1) = min x.t hi + 1 := by rw [IntKind.wrap_i64]; omega
      by_cases hc1 : min x.t hi < max x.f lo
      · have ef : fillR lo hi v R x = putR R x := by unfold fillR; exact if_pos hc1
        simp -implicitDefEqProofs -proj only [go_sem, Nat.reduceBEq, Nat.reduceLT, Nat.reduceLeDiff, Nat.reduceAdd, Nat.reduceMul, ↓reduceIte, Int.reduceToNat, Int.reducePow, Int.reduceLT, Int.reduceLE, Int.reduceAdd, Int.reduceSub, Int.reduceMul, Int.reduceEq, Int.reduceNe, decide_eq_true hc1, e11]
        refine CallA_w (put_s (r := x) hS1 (by omega)) ?_
        rintro r2 H2 ⟨c2, hS2⟩
        have e2 : H2 b11 = some (.box 69 [i64 x.f, i64 x.t, i64 x.v]) := hS2.all.1
        simp -implicitDefEqProofs -proj only [go_sem, Nat.reduceBEq, Nat.reduceLT, Nat.reduceLeDiff, Nat.reduceAdd, Nat.reduceMul, ↓reduceIte, Int.reduceToNat, Int.reducePow, Int.reduceLT, Int.reduceLE, Int.reduceAdd, Int.reduceSub, Int.reduceMul, Int.reduceEq, Int.reduceNe, hsucc]
        refine fin _ c2 _ ?_ ?_
        · rw [ef]; exact hS2.sub (fun p hp => List.mem_cons_of_mem _ hp)
        · simp -implicitDefEqProofs -proj only [go_sem, Nat.reduceBEq, Nat.reduceLT, Nat.reduceLeDiff, Nat.reduceAdd, Nat.reduceMul, ↓reduceIte, Int.reduceToNat, Int.reducePow, Int.reduceLT, Int.reduceLE, Int.reduceAdd, Int.reduceSub, Int.reduceMul, Int.reduceEq, Int.reduceNe, AllAt]
      · by_cases hc2 : x.f < max x.f lo
        · simp -implicitDefEqProofs -proj only [go_sem, Nat.reduceBEq, Nat.reduceLT, Nat.reduceLeDiff, Nat.reduceAdd, Nat.reduceMul, ↓reduceIte, Int.reduceToNat, Int.reducePow, Int.reduceLT, Int.reduceLE, Int.reduceAdd, Int.reduceSub, Int.reduceMul, Int.reduceEq, Int.reduceNe, decide_eq_false hc1, decide_eq_true hc2, e11, w1, w2]
          refine CallA_w (put_s (r := ⟨x.f, max x.f lo - 1, x.v⟩) hS1 (by omega)) ?_
          rintro r2 H2 ⟨c2, hS2⟩
          have e2 : H2 b11 = some (.box 69 [i64 x.f, i64 x.t, i64 x.v]) := hS2.all.1
          have k2 := @putR_len R ⟨x.f, max x.f lo - 1, x.v⟩
          simp -implicitDefEqProofs -proj only [go_sem, Nat.reduceBEq, Nat.reduceLT, Nat.reduceLeDiff, Nat.reduceAdd, Nat.reduceMul, ↓reduceIte, Int.reduceToNat, Int.reducePow, Int.reduceLT, Int.reduceLE, Int.reduceAdd, Int.reduceSub, Int.reduceMul, Int.reduceEq, Int.reduceNe, e2, w1, w2]
          refine CallA_w (put_s (r := ⟨max x.f lo, min x.t hi, v⟩) hS2 (by omega)) ?_
          rintro r3 H3 ⟨c3, hS3⟩
          have e3 : H3 b11 = some (.box 69 [i64 x.f, i64 x.t, i64 x.v]) := hS3.all.1
          have k3 := @putR_len (putR R ⟨x.f, max x.f lo - 1, x.v⟩) ⟨max x.f lo, min x.t hi, v⟩
          by_cases hc3 : min x.t hi < x.t
          · simp -implicitDefEqProofs -proj only [go_sem, Nat.reduceBEq, Nat.reduceLT, Nat.reduceLeDiff, Nat.reduceAdd, Nat.reduceMul, ↓reduceIte, Int.reduceToNat, Int.reducePow, Int.reduceLT, Int.reduceLE, Int.reduceAdd, Int.reduceSub, Int.reduceMul, Int.reduceEq, Int.reduceNe, e3, w1, w2, decide_eq_true hc3]
            refine CallA_w (put_s (r := ⟨min x.t hi + 1, x.t, x.v⟩) hS3 (by omega)) ?_
            rintro r4 H4 ⟨c4, hS4⟩
            have e4 : H4 b11 = some (.box 69 [i64 x.f, i64 x.t, i64 x.v]) := hS4.all.1
            simp -implicitDefEqProofs -proj only [go_sem, Nat.reduceBEq, Nat.reduceLT, Nat.reduceLeDiff, Nat.reduceAdd, Nat.reduceMul, ↓reduceIte, Int.reduceToNat, Int.reducePow, Int.reduceLT, Int.reduceLE, Int.reduceAdd, Int.reduceSub, Int.reduceMul, Int.reduceEq, Int.reduceNe, hsucc]
            refine fin _ c4 _ ?_ ?_
            · have ef : fillR lo hi v R x = putR (putR (putR R ⟨x.f, max x.f lo - 1, x.v⟩) ⟨max x.f lo, min x.t hi, v⟩) ⟨min x.t hi + 1, x.t, x.v⟩ := by unfold fillR; simp -implicitDefEqProofs only []; rw [if_neg (by omega), if_pos hc2, if_pos hc3]
              rw [ef]; exact hS4.sub (fun p hp => List.mem_cons_of_mem _ hp)
            · simp -implicitDefEqProofs -proj only [go_sem, Nat.reduceBEq, Nat.reduceLT, Nat.reduceLeDiff, Nat.reduceAdd, Nat.reduceMul, ↓reduceIte, Int.reduceToNat, Int.reducePow, Int.reduceLT, Int.reduceLE, Int.reduceAdd, Int.reduceSub, Int.reduceMul, Int.reduceEq, Int.reduceNe, AllAt]
          · simp -implicitDefEqProofs -proj only [go_sem, Nat.reduceBEq, Nat.reduceLT, Nat.reduceLeDiff, Nat.reduceAdd, Nat.reduceMul, ↓reduceIte, Int.reduceToNat, Int.reducePow, Int.reduceLT, Int.reduceLE, Int.reduceAdd, Int.reduceSub, Int.reduceMul, Int.reduceEq, Int.reduceNe, e3, w1, w2, decide_eq_false hc3, hsucc]
            refine fin _ c3 _ ?_ ?_
            · have ef : fillR lo hi v R x = (putR (putR R ⟨x.f, max x.f lo - 1, x.v⟩) ⟨max x.f lo, min x.t hi, v⟩) := by unfold fillR; simp -implicitDefEqProofs only []; rw [if_neg (by omega), if_pos hc2, if_neg hc3]
              rw [ef]; exact hS3.sub (fun p hp => List.mem_cons_of_mem _ hp)
            · simp -implicitDefEqProofs -proj only [go_sem, Nat.reduceBEq, Nat.reduceLT, Nat.reduceLeDiff, Nat.reduceAdd, Nat.reduceMul, ↓reduceIte, Int.reduceToNat, Int.reducePow, Int.reduceLT, Int.reduceLE, Int.reduceAdd, Int.reduceSub, Int.reduceMul, Int.reduceEq, Int.reduceNe, AllAt]
        · simp -implicitDefEqProofs -proj only [go_sem, Nat.reduceBEq, Nat.reduceLT, Nat.reduceLeDiff, Nat.reduceAdd, Nat.reduceMul, ↓reduceIte, Int.reduceToNat, Int.reducePow, Int.reduceLT, Int.reduceLE, Int.reduceAdd, Int.reduceSub, Int.reduceMul, Int.reduceEq, Int.reduceNe, decide_eq_false hc1, decide_eq_false hc2, e11, w1, w2]
          refine CallA_w (put_s (r := ⟨max x.f lo, min x.t hi, v⟩) hS1 (by omega)) ?_
          rintro r3 H3 ⟨c3, hS3⟩
          have e3 : H3 b11 = some (.box 69 [i64 x.f, i64 x.t, i64 x.v]) := hS3.all.1
          have k3 := @putR_len R ⟨max x.f lo, min x.t hi, v⟩
          by_cases hc3 : min x.t hi < x.t
          · simp -implicitDefEqProofs -proj only [go_sem, Nat.reduceBEq, Nat.reduceLT, Nat.reduceLeDiff, Nat.reduceAdd, Nat.reduceMul, ↓reduceIte, Int.reduceToNat, Int.reducePow, Int.reduceLT, Int.reduceLE, Int.reduceAdd, Int.reduceSub, Int.reduceMul, Int.reduceEq, Int.reduceNe, e3, w1, w2, decide_eq_true hc3]
            refine CallA_w (put_s (r := ⟨min x.t hi + 1, x.t, x.v⟩) hS3 (by omega)) ?_
            rintro r4 H4 ⟨c4, hS4⟩
            have e4 : H4 b11 = some (.box 69 [i64 x.f, i64 x.t, i64 x.v]) := hS4.all.1
            simp -implicitDefEqProofs -proj only [go_sem, Nat.reduceBEq, Nat.reduceLT, Nat.reduceLeDiff, Nat.reduceAdd, Nat.reduceMul, ↓reduceIte, Int.reduceToNat, Int.reducePow, Int.reduceLT, Int.reduceLE, Int.reduceAdd, Int.reduceSub, Int.reduceMul, Int.reduceEq, Int.reduceNe, hsucc]
            refine fin _ c4 _ ?_ ?_
            · have ef : fillR lo hi v R x = putR (putR R ⟨max x.f lo, min x.t hi, v⟩) ⟨min x.t hi + 1, x.t, x.v⟩ := by unfold fillR; simp -implicitDefEqProofs only []; rw [if_neg (by omega), if_neg hc2, if_pos hc3]
              rw [ef]; exact hS4.sub (fun p hp => List.mem_cons_of_mem _ hp)
            · simp -implicitDefEqProofs -proj only [go_sem, Nat.reduceBEq, Nat.reduceLT, Nat.reduceLeDiff, Nat.reduceAdd, Nat.reduceMul, ↓reduceIte, Int.reduceToNat, Int.reducePow, Int.reduceLT, Int.reduceLE, Int.reduceAdd, Int.reduceSub, Int.reduceMul, Int.reduceEq, Int.reduceNe, AllAt]
          · simp -implicitDefEqProofs -proj only [go_sem, Nat.reduceBEq, Nat.reduceLT, Nat.reduceLeDiff, Nat.reduceAdd, Nat.reduceMul, ↓reduceIte, Int.reduceToNat, Int.reducePow, Int.reduceLT, Int.reduceLE, Int.reduceAdd, Int.reduceSub, Int.reduceMul, Int.reduceEq, Int.reduceNe, e3, w1, w2, decide_eq_false hc3, hsucc]
            refine fin _ c3 _ ?_ ?_
            · have ef : fillR lo hi v R x = (putR R ⟨max x.f lo, min x.t hi, v⟩) := by unfold fillR; simp -implicitDefEqProofs only []; rw [if_neg (by omega), if_neg hc2, if_neg hc3]
              rw [ef]; exact hS3.sub (fun p hp => List.mem_cons_of_mem _ hp)
            · simp -implicitDefEqProofs -proj only [go_sem, Nat.reduceBEq, Nat.reduceLT, Nat.reduceLeDiff, Nat.reduceAdd, Nat.reduceMul, ↓reduceIte, Int.reduceToNat, Int.reducePow, Int.reduceLT, Int.reduceLE, Int.reduceAdd, Int.reduceSub, Int.reduceMul, Int.reduceEq, Int.reduceNe, AllAt]
    · have hi'' : i = l.length := by omega
      subst hi''
      obtain ⟨v', hv, hl, _⟩ := hS.at_.read
      have h8 := hS.all.1
      simp -implicitDefEqProofs -proj only [go_sem, Nat.reduceBEq, Nat.reduceLT, Nat.reduceLeDiff, Nat.reduceAdd, Nat.reduceMul, ↓reduceIte, Int.reduceToNat, Int.reducePow, Int.reduceLT, Int.reduceLE, Int.reduceAdd, Int.reduceSub, Int.reduceMul, Int.reduceEq, Int.reduceNe, decide_eq_false (show ¬ (l.length : Int) < l.length by omega), hv, h8]
      obtain ⟨v2, hv2, hl2, _⟩ := (hS.at_.upd (k := b8) (x := some (.box 35 [v'])) n4 (fun h e => (hc h).2 e.symm)).read
      rw [upd_ne n4, hv] at hv2
      cases hv2
      rw [show fillN lo hi v l l.length = R from hR.symm]
      exact lend_agg1 hl2
end Go.Proofs.Ytgfimmaligcgjaa.Abs
