/- The package days: Holds answers in new memory. No claim stands here. -/
import Derived.Test.YtmkennmppdmnhaaKLaw17d
set_option linter.unusedSimpArgs false
set_option linter.unusedVariables false
namespace Go.Proofs.Ytmkennmppdmnhaa.Abs
open Go Go.RowKit Go.Proofs
attribute [local go_sem] RunC_seq AF_n AF_r AF_b St_n St_t St_H Fst_mk Snd_mk RunC_ops RunC_cond RunC_block RunC_loop RunC_exit RunC_ret RunC_skip RunO_nil RunO_code RunO_code_ret RunO_code_exit RunO_blk RunO_blk_ret RunO_blk_exit RunL_nil RunL_guard GuardA_tt GuardA_ff GuardA_tf GuardA_ft GuardA_void CondA_t CondA_f PickA_t PickA_f RunL_mov RunL_pick RunL_alloc RunL_box RunL_load LoadA_ptr LoadB_1 LoadB_n LoadA_dptr LoadA_dptr_n RunL_store StoreA_ptr StoreB_box RunL_bin Bin_add Bin_sub Bin_mul Bin_quo Bin_rem Bin_shl Bin_shr Bin_andI Bin_orI Bin_xorI Bin_eql Bin_neq Bin_lss Bin_leq Bin_gtr Bin_geq RunL_binb Bin_beql Bin_bneq RunL_un UnA_not UnA_neg RunL_conv convV MapA_some RunL_nilCheck nilV RunL_mkfn RunL_fieldAddr faV RunL_field FieldA_1 FieldA_n RunL_elemAddr EAddrA_sl EAddrA_own EptrA_eq RunL_build BuildA_some RunL_extract ExtA_eq RunL_len lenV_sl lenV_nilsl lenV_own RunL_slen RunL_idxStr IdxSA_eq slenV RunL_minmax mmV minmaxL RunL_call RunL_callv CallvA_fn putS ev evL evO evP eqK eqKs EqB_agg RunL_eqAgg EqA_t EqA_f evQ buildC fits_agg cellsAV_agg fits_d cellsAV_d fits_nilp cellsAV_nilp fits_nilsl cellsAV_nilsl fits_nilfn cellsAV_nilfn fits_ptr cellsAV_ptr fits_eptr cellsAV_eptr fits_dptr cellsAV_dptr fits_own cellsAV_own fits_fn cellsAV_fn rowV_fits rowV_cells rowV_len lenAV setSeg nth seg mapD repeatL putT_get upd_get argT keepT_cons keepT_nil keepH_cons keepH_nil cond_true cond_false VC_true finW resW resL resOne LoopQ_exit LoopQ_ret List.cons_append List.nil_append Bool.not_true Bool.not_false Bool.and_true Bool.and_self Nat.lt_add_left_iff_pos Nat.zero_add Nat.add_zero List.drop_succ_cons List.drop_zero List.take_succ_cons List.take_zero beq_self_eq_true Bool.false_eq_true RunC_dops RunL_loadS RunL_loadD LoadDA_dptr RunL_storeS StoreSA_ptr RunL_pcall RunL_pcallv PCallvA_fn newsOk and_self and_true true_and loadW_ptr LoadK_1 LoadK_n upd_upd RunL_buildSlice BSliceA_some RunL_buildSliceD frzL frz cutL LoadA_eptr LoadE_row RunL_append RunL_slice SliceA_sl StoreA_eptr List.length_cons List.length_nil Nat.min_def Int.cast_ofNat_Int Int.natCast_zero Int.natCast_one decide_true decide_false List.getElem?_cons_zero List.getElem?_cons_succ RunC_rangef CallvA_yld putL_nil putL_cons RangeQ_exit RangeQ_ret
/-- A line in memory of one's own. -/
def OwnU (v : AV) (R : List Run) : List (Nat × Blk) → Prop
  | [] => (∃ sz, v = .nilsl sz) ∧ R = []
  | [(c, x)] => ∃ t cap cap', x = .row t 3 cap' (rowU R) ∧ v = .own c 3 0 (rowU R).length cap
  | _ => False
theorem ownU_of {H : Heap} {v y : AV} (h : NewV H v y) : ∀ {R : List Run}, y = slU R → ∃ rb, OwnU v R rb ∧ AllH H rb := by
  cases h with
  | scal _ hs => intro R e; subst e; cases hs
  | nilsl sz sz' =>
    intro R e
    cases R with
    | nil => exact ⟨[], ⟨⟨_, rfl⟩, rfl⟩, trivial⟩
    | cons r R => cases e
  | own b sz cap t cap' xs hb hs =>
    intro R e
    obtain ⟨rfl, rfl⟩ : sz = 3 ∧ xs = rowU R := by injection e with e; injection e with e1 e2; exact ⟨e1, e2⟩
    exact ⟨[(b, .row t 3 cap' (rowU R))], ⟨t, cap, cap', rfl, rfl⟩, hb, trivial⟩
  | agg xs ys hl h => intro R e; cases e
  | tup xs ys hl h => intro R e; cases e
theorem newU_of {H : Heap} {r y : AV} (h : NewV H r y) : ∀ {R : List Run}, y = lineU R → ∃ v, r = .agg [v] ∧ NewV H v (slU R) := by
  cases h with
  | scal _ hs => intro R e; subst e; cases hs
  | nilsl sz sz' => intro R e; cases e
  | own b sz cap t cap' xs hb hs => intro R e; cases e
  | agg xs ys hl h =>
    intro R e
    injection e with e
    subst e
    match xs, hl, h with
    | [x], _, h => exact ⟨x, rfl, h 0 x _ rfl rfl⟩
  | tup xs ys hl h => intro R e; cases e
theorem OwnU.lend {H : Heap} {v : AV} {R : List Run} : ∀ {rb : List (Nat × Blk)}, OwnU v R rb → AllH H rb → LendV H v (slU R)
  | [], ⟨⟨sz, e⟩, e2⟩, _ => by subst e; subst e2; exact .nilsl _ _
  | [(c, x)], ⟨t, cap, cap', e1, e2⟩, ha => by subst e1; subst e2; exact .own c 3 cap t cap' (rowU R) ha.1
theorem OwnU.new {H : Heap} {v : AV} {R : List Run} : ∀ {rb : List (Nat × Blk)}, OwnU v R rb → AllH H rb → NewV H v (slU R)
  | [], ⟨⟨sz, e⟩, e2⟩, _ => by subst e; subst e2; exact .nilsl _ _
  | [(c, x)], ⟨t, cap, cap', e1, e2⟩, ha => by subst e1; subst e2; exact .own c 3 cap t cap' (rowU R) ha.1 rowU_scal
theorem OwnU.ne {H : Heap} {v : AV} {R : List Run} {b : Nat} {t : TypeId} {cells : List AV} (hb : H b = some (.box t cells)) : ∀ {rb : List (Nat × Blk)}, OwnU v R rb → AllH H rb → b ∉ keys rb
  | [], _, _ => by simp [keys]
  | [(c, x)], ⟨t, cap, cap', e1, e2⟩, ha => by
    subst e1
    simp -implicitDefEqProofs only [keys, List.map_cons, List.map_nil, List.mem_singleton]
    rintro rfl
    rw [ha.1] at hb
    cases hb
theorem OwnU.nodup {v : AV} {R : List Run} : ∀ {rb : List (Nat × Blk)}, OwnU v R rb → (keys rb).Nodup
  | [], _ => by simp [keys]
  | [(c, x)], _ => by simp [keys]
theorem AllH_upd_ne {H : Heap} {b : Nat} {y : Option Blk} : ∀ {bl : List (Nat × Blk)}, b ∉ keys bl → AllH H bl → AllH (upd H b y) bl
  | [], _, _ => trivial
  | (c, x) :: bl, hn, h => by
    simp -implicitDefEqProofs only [keys, List.map_cons, List.mem_cons, not_or] at hn
    exact ⟨by rw [upd_ne hn.1]; exact h.1, AllH_upd_ne hn.2 h.2⟩
theorem With_new {val : Int → Int} {f h a b more : Int} {R : List Run} (hR : FwdOK val f (h + 1) R) (hfh : f ≤ h) (hf : -1099511627776 ≤ f) (hh : h ≤ 1099511627776) (hn : h - f ≤ 100000) (ha : -1099511627776 ≤ a ∧ a ≤ 1099511627776) (hb : -1099511627776 ≤ b ∧ b ≤ 1099511627776) :
    ∃ R', NewW Try.prog f_days_with [lineU R, i64 a, i64 b, u64 more] (lineU R') ∧ FwdOK (orW val a b more) f (h + 1) R' := by
  have hl := hR.len
  have hfl := flat_fwd (v := 0) hfh
  have hfill := fillN_fwd hfl (lo := a) (hi := b) (v := more) 1 (by simp)
  rw [startR_end (by simp)] at hfill
  have hz := zipG_fwd hR hfill (borI .u64) (R.length + (fillN a b more [⟨f, h, 0⟩] 1).length) 0 0 [] (by omega) (by rw [startR_zero hR, startR_zero hfill]; rfl) (by rw [startR_zero hR, startR_zero hfill]; exact .inl rfl)
  rw [show max f f = f by omega, show max f (min (h + 1) (h + 1)) = h + 1 by omega] at hz
  have hsp := SpanU_ok (R := R) (by omega)
  rw [span_fwd hR hfh] at hsp
  have hflat := (FlatU_new (lo := f) (hi := h) (v := 0)).data
  rw [if_neg (by omega)] at hflat
  have hfi := (FillU_new (l := [⟨f, h, 0⟩]) (lo := a) (hi := b) (v := more) (by simp) ha hb (fun r hr => by rw [List.mem_singleton] at hr; subst hr; exact ⟨hf, hh, hfh⟩)).data
  have hfln := fillN_len (lo := a) (hi := b) (v := more) (l := [⟨f, h, 0⟩]) 1
  have hzip := ZipU_new (a := R) (b := fillN a b more [⟨f, h, 0⟩] 1) (g := borI .u64) With1_ok (by omega) (by omega)
  refine ⟨_, ?_, hz⟩
  generalize zipG (borI .u64) R (fillN a b more [⟨f, h, 0⟩] 1) (R.length + (fillN a b more [⟨f, h, 0⟩] 1).length) 0 0 [] = Z at *
  rw [show ([⟨f, h, 0⟩] : List Run).length = 1 from rfl] at hfi
  generalize fillN a b more [⟨f, h, 0⟩] 1 = F at *
  refine CallW_intro comp_days_with (by simp) ?_
  simp -implicitDefEqProofs -proj only [go_sem, Nat.reduceBEq, Nat.reduceLT, Nat.reduceLeDiff, Nat.reduceAdd, Nat.reduceMul, ↓reduceIte, Int.reduceToNat, Int.reducePow, Int.reduceLT, Int.reduceLE, Int.reduceAdd, Int.reduceSub, Int.reduceMul, Int.reduceEq, Int.reduceNe]
  refine AllocA_intro (fun b4 hb4 => ?_)
  simp -implicitDefEqProofs -proj only [go_sem, Nat.reduceBEq, Nat.reduceLT, Nat.reduceLeDiff, Nat.reduceAdd, Nat.reduceMul, ↓reduceIte, Int.reduceToNat, Int.reducePow, Int.reduceLT, Int.reduceLE, Int.reduceAdd, Int.reduceSub, Int.reduceMul, Int.reduceEq, Int.reduceNe]
  refine AllocA_intro (fun b8 hb8 => ?_)
  replace hb8 : upd Heap.none b4 _ b8 = none := hb8
  obtain ⟨n1, n2⟩ := fresh_ne hb8 upd_eq
  simp -implicitDefEqProofs -proj only [go_sem, Nat.reduceBEq, Nat.reduceLT, Nat.reduceLeDiff, Nat.reduceAdd, Nat.reduceMul, ↓reduceIte, Int.reduceToNat, Int.reducePow, Int.reduceLT, Int.reduceLE, Int.reduceAdd, Int.reduceSub, Int.reduceMul, Int.reduceEq, Int.reduceNe, n1, n2]
  refine CallA_pure hsp ?_
  simp -implicitDefEqProofs -proj only [go_sem, Nat.reduceBEq, Nat.reduceLT, Nat.reduceLeDiff, Nat.reduceAdd, Nat.reduceMul, ↓reduceIte, Int.reduceToNat, Int.reducePow, Int.reduceLT, Int.reduceLE, Int.reduceAdd, Int.reduceSub, Int.reduceMul, Int.reduceEq, Int.reduceNe]
  refine CallA_pure hflat ?_
  simp -implicitDefEqProofs -proj only [go_sem, Nat.reduceBEq, Nat.reduceLT, Nat.reduceLeDiff, Nat.reduceAdd, Nat.reduceMul, ↓reduceIte, Int.reduceToNat, Int.reducePow, Int.reduceLT, Int.reduceLE, Int.reduceAdd, Int.reduceSub, Int.reduceMul, Int.reduceEq, Int.reduceNe]
  refine CallA_pure hfi ?_
  simp -implicitDefEqProofs -proj only [go_sem, Nat.reduceBEq, Nat.reduceLT, Nat.reduceLeDiff, Nat.reduceAdd, Nat.reduceMul, ↓reduceIte, Int.reduceToNat, Int.reducePow, Int.reduceLT, Int.reduceLE, Int.reduceAdd, Int.reduceSub, Int.reduceMul, Int.reduceEq, Int.reduceNe]
  refine AllocA_intro (fun b12 hb12 => ?_)
  replace hb12 : upd (upd Heap.none b4 _) b8 _ b12 = none := hb12
  obtain ⟨n3, n4⟩ := fresh_ne hb12 upd_eq
  obtain ⟨n5, n6⟩ := fresh_ne hb12 (by rw [upd_ne n1]; exact upd_eq)
  simp -implicitDefEqProofs -proj only [go_sem, Nat.reduceBEq, Nat.reduceLT, Nat.reduceLeDiff, Nat.reduceAdd, Nat.reduceMul, ↓reduceIte, Int.reduceToNat, Int.reducePow, Int.reduceLT, Int.reduceLE, Int.reduceAdd, Int.reduceSub, Int.reduceMul, Int.reduceEq, Int.reduceNe, n1, n2, n3, n4, n5, n6]
  refine CallA_w (CallW_own hzip (LendL.refl _)) (fun r H' hr => ?_)
  obtain ⟨hr, hkeep⟩ := hr
  obtain ⟨v, rfl, hv⟩ := newU_of hr rfl
  obtain ⟨rb, ho, hal⟩ := ownU_of hv rfl
  have e8 := hkeep b8 (.box 31 [.nilsl 3]) ((upd_ne n3).trans upd_eq)
  have hne := ho.ne e8 hal
  simp -implicitDefEqProofs -proj only [go_sem, Nat.reduceBEq, Nat.reduceLT, Nat.reduceLeDiff, Nat.reduceAdd, Nat.reduceMul, ↓reduceIte, Int.reduceToNat, Int.reducePow, Int.reduceLT, Int.reduceLE, Int.reduceAdd, Int.reduceSub, Int.reduceMul, Int.reduceEq, Int.reduceNe, e8]
  exact lend_agg1U (ho.new (AllH_upd_ne hne hal))
structure HO where
  i : Nat
  R : List Run
  v : AV
  rb : List (Nat × Blk)
theorem ho_i {i : Nat} {R : List Run} {v : AV} {rb : List (Nat × Blk)} : (HO.mk i R v rb).i = i := (rfl)
theorem ho_R {i : Nat} {R : List Run} {v : AV} {rb : List (Nat × Blk)} : (HO.mk i R v rb).R = R := (rfl)
theorem ho_v {i : Nat} {R : List Run} {v : AV} {rb : List (Nat × Blk)} : (HO.mk i R v rb).v = v := (rfl)
theorem ho_rb {i : Nat} {R : List Run} {v : AV} {rb : List (Nat × Blk)} : (HO.mk i R v rb).rb = rb := (rfl)
def holdO (b1 b2 b3 : Nat) (c : CoreX) (y : HO) : List (Nat × Blk) := y.rb ++ [(b3, .box 31 [y.v]), (b2, .box 31 [.nilsl 3]), (b1, coreB c)]
theorem holdO_nd {H : Heap} {b1 b2 b3 : Nat} {c : CoreX} {y : HO} (ho : OwnU y.v y.R y.rb) (ha : AllH H (holdO b1 b2 b3 c y)) (n1 : ¬ b2 = b1) (n3 : ¬ b3 = b2) (n5 : ¬ b3 = b1) : (keys (holdO b1 b2 b3 c y)).Nodup := by
  obtain ⟨h1, h3, h2, hb1, _⟩ := AllH_app.1 ha
  have e3 := ho.ne h3 h1
  have e2 := ho.ne h2 h1
  have e1 := ho.ne hb1 h1
  have hn := ho.nodup
  unfold keys holdO at *
  rw [List.map_append, List.nodup_append]
  refine ⟨hn, by simp [n1, n3, n5], fun a h1 c h2 e => ?_⟩
  subst e
  simp -implicitDefEqProofs only [List.map_cons, List.map_nil, List.mem_cons, List.not_mem_nil, or_false] at h2
  rcases h2 with rfl | rfl | rfl
  · exact e3 h1
  · exact e2 h1
  · exact e1 h1
set_option maxRecDepth 20000 in
theorem Holds_new {c : CoreX} (hc : c.Fit) (hg : goodC c) : NewW Try.prog f_days_Holds [coreX c] (lineU (holdsR c)) := by
  have hgood := CGood_ok hc
  rw [decide_eq_true hg] at hgood
  obtain ⟨⟨a1, a2⟩, ⟨a3, a4⟩, a5, a6, a7, a8⟩ := hg.hd
  have hss := hg.ss
  have hps := hg.ps
  have heq := @holds_eq c
  generalize holdsR c = Z at *
  obtain ⟨cur, f, t, ms, ss, ps⟩ := c
  simp -implicitDefEqProofs only [] at a1 a2 a3 a4 a5 a6 a7 a8 hss hps heq
  unfold setC at heq
  simp -implicitDefEqProofs only [] at heq
  have hflat := FlatU_new (lo := f) (hi := t) (v := 0)
  rw [if_neg (by omega)] at hflat
  have hfl : FwdOK (fun d => ((setS ss d 0 : Nat) : Int)) f (t + 1) [⟨f, t, 0⟩] := flat_fwd a3
  refine CallW_intro comp_days_Holds (by simp) ?_
  simp -implicitDefEqProofs -proj only [go_sem, Nat.reduceBEq, Nat.reduceLT, Nat.reduceLeDiff, Nat.reduceAdd, Nat.reduceMul, ↓reduceIte, Int.reduceToNat, Int.reducePow, Int.reduceLT, Int.reduceLE, Int.reduceAdd, Int.reduceSub, Int.reduceMul, Int.reduceEq, Int.reduceNe]
  refine AllocA_intro (fun b1 hb1 => ?_)
  simp -implicitDefEqProofs -proj only [go_sem, Nat.reduceBEq, Nat.reduceLT, Nat.reduceLeDiff, Nat.reduceAdd, Nat.reduceMul, ↓reduceIte, Int.reduceToNat, Int.reducePow, Int.reduceLT, Int.reduceLE, Int.reduceAdd, Int.reduceSub, Int.reduceMul, Int.reduceEq, Int.reduceNe]
  refine AllocA_intro (fun b2 hb2 => ?_)
  replace hb2 : upd Heap.none b1 (some (coreB ⟨cur, f, t, ms, ss, ps⟩)) b2 = none := hb2
  obtain ⟨n1, n2⟩ := fresh_ne hb2 upd_eq
  simp -implicitDefEqProofs -proj only [go_sem, Nat.reduceBEq, Nat.reduceLT, Nat.reduceLeDiff, Nat.reduceAdd, Nat.reduceMul, ↓reduceIte, Int.reduceToNat, Int.reducePow, Int.reduceLT, Int.reduceLE, Int.reduceAdd, Int.reduceSub, Int.reduceMul, Int.reduceEq, Int.reduceNe, n1, n2]
  refine CallA_pure hgood ?_
  simp -implicitDefEqProofs -proj only [go_sem, Nat.reduceBEq, Nat.reduceLT, Nat.reduceLeDiff, Nat.reduceAdd, Nat.reduceMul, ↓reduceIte, Int.reduceToNat, Int.reducePow, Int.reduceLT, Int.reduceLE, Int.reduceAdd, Int.reduceSub, Int.reduceMul, Int.reduceEq, Int.reduceNe, n1, n2]
  refine CallA_w (CallW_own hflat (LendL.refl _)) (fun r H0 hr => ?_)
  obtain ⟨hr, hkeep⟩ := hr
  obtain ⟨v0, rfl, hv0⟩ := newU_of hr rfl
  obtain ⟨rb0, ho0, hal0⟩ := ownU_of hv0 rfl
  have e2 := hkeep b2 (.box 31 [.nilsl 3]) upd_eq
  have e1 := hkeep b1 (coreB ⟨cur, f, t, ms, ss, ps⟩) ((upd_ne n1).trans upd_eq)
  simp -implicitDefEqProofs -proj only [go_sem, Nat.reduceBEq, Nat.reduceLT, Nat.reduceLeDiff, Nat.reduceAdd, Nat.reduceMul, ↓reduceIte, Int.reduceToNat, Int.reducePow, Int.reduceLT, Int.reduceLE, Int.reduceAdd, Int.reduceSub, Int.reduceMul, Int.reduceEq, Int.reduceNe]
  refine AllocA_intro (fun b3 hb3 => ?_)
  replace hb3 : H0 b3 = none := hb3
  obtain ⟨n3, n4⟩ := fresh_ne hb3 e2
  obtain ⟨n5, n6⟩ := fresh_ne hb3 e1
  have ha0 : AllH (upd H0 b3 (some (.box 31 [v0]))) (holdO b1 b2 b3 ⟨cur, f, t, ms, ss, ps⟩ ⟨0, [⟨f, t, 0⟩], v0, rb0⟩) :=
    AllH_app.2 ⟨AllH_upd hb3 hal0, upd_eq, by rw [upd_ne n3]; exact e2, by rw [upd_ne n5]; exact e1, trivial⟩
  simp -implicitDefEqProofs -proj only [go_sem, Nat.reduceBEq, Nat.reduceLT, Nat.reduceLeDiff, Nat.reduceAdd, Nat.reduceMul, ↓reduceIte, Int.reduceToNat, Int.reducePow, Int.reduceLT, Int.reduceLE, Int.reduceAdd, Int.reduceSub, Int.reduceMul, Int.reduceEq, Int.reduceNe, n1, n2, n3, n4, n5, n6, e1, e2, rowS_len]
  refine LoopA_k (fun y : HO => y.i ≤ ss.length ∧ FwdOK (fun d => ((setS ss d y.i : Nat) : Int)) f (t + 1) y.R ∧ OwnU y.v y.R y.rb ∧ (keys (holdO b1 b2 b3 ⟨cur, f, t, ms, ss, ps⟩ y)).Nodup) 52 (fun y => [(1, .ptr b1 0), (2, .ptr b2 0), (3, .ptr b3 0), (18, .d (.sl 3 (rowS ss))), (19, i64 ss.length), (20, i64 y.i)]) (holdO b1 b2 b3 ⟨cur, f, t, ms, ss, ps⟩) (fun y => ss.length - y.i) ⟨0, [⟨f, t, 0⟩], v0, rb0⟩ ⟨Nat.zero_le _, hfl, ho0, holdO_nd ho0 ha0 n1 n3 n5⟩ rfl ?_ ?_ ?_
  · simp -implicitDefEqProofs -proj only [go_sem, Nat.reduceBEq, Nat.reduceLT, Nat.reduceLeDiff, Nat.reduceAdd, Nat.reduceMul, ↓reduceIte, Int.reduceToNat, Int.reducePow, Int.reduceLT, Int.reduceLE, Int.reduceAdd, Int.reduceSub, Int.reduceMul, Int.reduceEq, Int.reduceNe, AllAt, ho_i]
  · exact ha0
  · rintro ⟨i, R, v, rb⟩ ⟨hi, hR, ho, hnd⟩
    simp -implicitDefEqProofs only [ho_i, ho_R, ho_v, ho_rb] at hi hR ho
    have hall := keepH_all hnd
    obtain ⟨H, hH⟩ : ∃ H, keepH (holdO b1 b2 b3 ⟨cur, f, t, ms, ss, ps⟩ ⟨i, R, v, rb⟩) = H := ⟨_, rfl⟩
    rw [hH] at hall
    obtain ⟨hrb, k3, k2, k1, _⟩ := AllH_app.1 hall
    simp -implicitDefEqProofs only [ho_v, ho_rb] at hrb k3
    by_cases h : i < ss.length
    · have hel := rowS_at h
      have hso := hss _ (List.getElem_mem h)
      obtain ⟨R', hw, hR'⟩ := With_new (a := ss[i].f) (b := ss[i].t) (more := ((sumN (i : Int) : Nat) : Int)) hR a3 (by omega) (by omega) (by omega) (by obtain ⟨_, q1, q2, q3⟩ := hso; omega) (by obtain ⟨_, q1, q2, q3⟩ := hso; omega)
      rw [← setS_step h a7] at hR'
      generalize ss[i] = s at *
      simp -implicitDefEqProofs -proj only [go_sem, Nat.reduceBEq, Nat.reduceLT, Nat.reduceLeDiff, Nat.reduceAdd, Nat.reduceMul, ↓reduceIte, Int.reduceToNat, Int.reducePow, Int.reduceLT, Int.reduceLE, Int.reduceAdd, Int.reduceSub, Int.reduceMul, Int.reduceEq, Int.reduceNe, ho_i, ho_R, ho_v, ho_rb, hH, decide_eq_true (show (i : Int) < ss.length by omega)]
      refine ElemA_at _ (by omega) hel ?_
      simp -implicitDefEqProofs -proj only [go_sem, Nat.reduceBEq, Nat.reduceLT, Nat.reduceLeDiff, Nat.reduceAdd, Nat.reduceMul, ↓reduceIte, Int.reduceToNat, Int.reducePow, Int.reduceLT, Int.reduceLE, Int.reduceAdd, Int.reduceSub, Int.reduceMul, Int.reduceEq, Int.reduceNe]
      refine AllocA_intro (fun b5 hb5 => ?_)
      replace hb5 : H b5 = none := hb5
      obtain ⟨m1, m2⟩ := fresh_ne hb5 k3
      simp -implicitDefEqProofs -proj only [go_sem, Nat.reduceBEq, Nat.reduceLT, Nat.reduceLeDiff, Nat.reduceAdd, Nat.reduceMul, ↓reduceIte, Int.reduceToNat, Int.reducePow, Int.reduceLT, Int.reduceLE, Int.reduceAdd, Int.reduceSub, Int.reduceMul, Int.reduceEq, Int.reduceNe, m1, m2, k3]
      refine PCallA_pure Sum_ok17 ?_
      simp -implicitDefEqProofs -proj only [go_sem, Nat.reduceBEq, Nat.reduceLT, Nat.reduceLeDiff, Nat.reduceAdd, Nat.reduceMul, ↓reduceIte, Int.reduceToNat, Int.reducePow, Int.reduceLT, Int.reduceLE, Int.reduceAdd, Int.reduceSub, Int.reduceMul, Int.reduceEq, Int.reduceNe, m1, m2, k3]
      refine CallA_w (CallW_own hw (lend_cons (LendV.aggL (lend_cons (ho.lend (AllH_upd hb5 hrb)) lend_nil)) (LendL.refl _))) (fun r H' hr => ?_)
      obtain ⟨hr, hkeep⟩ := hr
      obtain ⟨v', rfl, hv'⟩ := newU_of hr rfl
      obtain ⟨rb', ho', hal⟩ := ownU_of hv' rfl
      have e3 := hkeep b3 _ ((upd_ne m1).trans k3)
      have e2 := hkeep b2 _ ((upd_ne (fresh_ne hb5 k2).1).trans k2)
      have e1 := hkeep b1 _ ((upd_ne (fresh_ne hb5 k1).1).trans k1)
      have hne := ho'.ne e3 hal
      have hnew : AllH (upd H' b3 (some (.box 31 [v']))) (holdO b1 b2 b3 ⟨cur, f, t, ms, ss, ps⟩ ⟨i + 1, R', v', rb'⟩) :=
        AllH_app.2 ⟨AllH_upd_ne hne hal, upd_eq, by rw [upd_ne n3]; exact e2, by rw [upd_ne n5]; exact e1, trivial⟩
      simp -implicitDefEqProofs -proj only [go_sem, Nat.reduceBEq, Nat.reduceLT, Nat.reduceLeDiff, Nat.reduceAdd, Nat.reduceMul, ↓reduceIte, Int.reduceToNat, Int.reducePow, Int.reduceLT, Int.reduceLE, Int.reduceAdd, Int.reduceSub, Int.reduceMul, Int.reduceEq, Int.reduceNe, e3]
      refine LoopQ_k ⟨i + 1, R', v', rb'⟩ ⟨by rw [ho_i]; omega, hR', ho', holdO_nd ho' hnew n1 n3 n5⟩ (by show ss.length - (i + 1) < ss.length - i; omega) rfl ?_ hnew
      simp -implicitDefEqProofs -proj only [go_sem, Nat.reduceBEq, Nat.reduceLT, Nat.reduceLeDiff, Nat.reduceAdd, Nat.reduceMul, ↓reduceIte, Int.reduceToNat, Int.reducePow, Int.reduceLT, Int.reduceLE, Int.reduceAdd, Int.reduceSub, Int.reduceMul, Int.reduceEq, Int.reduceNe, AllAt, ho_i, i64_succ (show i < 9223372036854775807 by omega)]
    · have hi' : i = ss.length := by omega
      subst hi'
      simp -implicitDefEqProofs -proj only [go_sem, Nat.reduceBEq, Nat.reduceLT, Nat.reduceLeDiff, Nat.reduceAdd, Nat.reduceMul, ↓reduceIte, Int.reduceToNat, Int.reducePow, Int.reduceLT, Int.reduceLE, Int.reduceAdd, Int.reduceSub, Int.reduceMul, Int.reduceEq, Int.reduceNe, ho_i, ho_R, ho_v, ho_rb, hH, k1, rowP_len, decide_eq_false (show ¬ (ss.length : Int) < ss.length by omega)]
      refine LoopA_k (fun y : HO => y.i ≤ ps.length ∧ FwdOK (fun d => ((setP ss ps d y.i : Nat) : Int)) f (t + 1) y.R ∧ OwnU y.v y.R y.rb ∧ (keys (holdO b1 b2 b3 ⟨cur, f, t, ms, ss, ps⟩ y)).Nodup) 52 (fun y => [(1, .ptr b1 0), (2, .ptr b2 0), (3, .ptr b3 0), (35, .d (.sl 9 (rowP ps))), (36, i64 ps.length), (37, i64 y.i)]) (holdO b1 b2 b3 ⟨cur, f, t, ms, ss, ps⟩) (fun y => ps.length - y.i) ⟨0, R, v, rb⟩ ⟨Nat.zero_le _, hR, ho, hnd⟩ rfl ?_ ?_ ?_
      · simp -implicitDefEqProofs -proj only [go_sem, Nat.reduceBEq, Nat.reduceLT, Nat.reduceLeDiff, Nat.reduceAdd, Nat.reduceMul, ↓reduceIte, Int.reduceToNat, Int.reducePow, Int.reduceLT, Int.reduceLE, Int.reduceAdd, Int.reduceSub, Int.reduceMul, Int.reduceEq, Int.reduceNe, AllAt, ho_i]
      · exact hall
      · rintro ⟨i, R, v, rb⟩ ⟨hi, hR, ho, hnd⟩
        simp -implicitDefEqProofs only [ho_i, ho_R, ho_v, ho_rb] at hi hR ho
        have hall := keepH_all hnd
        obtain ⟨H, hH⟩ : ∃ H, keepH (holdO b1 b2 b3 ⟨cur, f, t, ms, ss, ps⟩ ⟨i, R, v, rb⟩) = H := ⟨_, rfl⟩
        rw [hH] at hall
        obtain ⟨hrb, k3, k2, k1, _⟩ := AllH_app.1 hall
        simp -implicitDefEqProofs only [ho_v, ho_rb] at hrb k3
        by_cases h : i < ps.length
        · have hel := rowP_at h
          have hso := (hps _ (List.getElem_mem h)).1.2.2.1
          obtain ⟨R', hw, hR'⟩ := With_new (a := ps[i].f) (b := ps[i].t) (more := ((partN (i : Int) : Nat) : Int)) hR a3 (by omega) (by omega) (by omega) (by omega) (by omega)
          rw [← setP_step h a7 a8] at hR'
          generalize ps[i] = s at *
          simp -implicitDefEqProofs -proj only [go_sem, Nat.reduceBEq, Nat.reduceLT, Nat.reduceLeDiff, Nat.reduceAdd, Nat.reduceMul, ↓reduceIte, Int.reduceToNat, Int.reducePow, Int.reduceLT, Int.reduceLE, Int.reduceAdd, Int.reduceSub, Int.reduceMul, Int.reduceEq, Int.reduceNe, ho_i, ho_R, ho_v, ho_rb, hH, decide_eq_true (show (i : Int) < ps.length by omega)]
          refine ElemA_at _ (by omega) hel ?_
          simp -implicitDefEqProofs -proj only [go_sem, Nat.reduceBEq, Nat.reduceLT, Nat.reduceLeDiff, Nat.reduceAdd, Nat.reduceMul, ↓reduceIte, Int.reduceToNat, Int.reducePow, Int.reduceLT, Int.reduceLE, Int.reduceAdd, Int.reduceSub, Int.reduceMul, Int.reduceEq, Int.reduceNe]
          refine AllocA_intro (fun b5 hb5 => ?_)
          replace hb5 : H b5 = none := hb5
          obtain ⟨m1, m2⟩ := fresh_ne hb5 k3
          simp -implicitDefEqProofs -proj only [go_sem, Nat.reduceBEq, Nat.reduceLT, Nat.reduceLeDiff, Nat.reduceAdd, Nat.reduceMul, ↓reduceIte, Int.reduceToNat, Int.reducePow, Int.reduceLT, Int.reduceLE, Int.reduceAdd, Int.reduceSub, Int.reduceMul, Int.reduceEq, Int.reduceNe, m1, m2, k3]
          refine PCallA_pure Part_ok17 ?_
          simp -implicitDefEqProofs -proj only [go_sem, Nat.reduceBEq, Nat.reduceLT, Nat.reduceLeDiff, Nat.reduceAdd, Nat.reduceMul, ↓reduceIte, Int.reduceToNat, Int.reducePow, Int.reduceLT, Int.reduceLE, Int.reduceAdd, Int.reduceSub, Int.reduceMul, Int.reduceEq, Int.reduceNe, m1, m2, k3]
          refine CallA_w (CallW_own hw (lend_cons (LendV.aggL (lend_cons (ho.lend (AllH_upd hb5 hrb)) lend_nil)) (LendL.refl _))) (fun r H' hr => ?_)
          obtain ⟨hr, hkeep⟩ := hr
          obtain ⟨v', rfl, hv'⟩ := newU_of hr rfl
          obtain ⟨rb', ho', hal⟩ := ownU_of hv' rfl
          have e3 := hkeep b3 _ ((upd_ne m1).trans k3)
          have e2 := hkeep b2 _ ((upd_ne (fresh_ne hb5 k2).1).trans k2)
          have e1 := hkeep b1 _ ((upd_ne (fresh_ne hb5 k1).1).trans k1)
          have hne := ho'.ne e3 hal
          have hnew : AllH (upd H' b3 (some (.box 31 [v']))) (holdO b1 b2 b3 ⟨cur, f, t, ms, ss, ps⟩ ⟨i + 1, R', v', rb'⟩) :=
            AllH_app.2 ⟨AllH_upd_ne hne hal, upd_eq, by rw [upd_ne n3]; exact e2, by rw [upd_ne n5]; exact e1, trivial⟩
          simp -implicitDefEqProofs -proj only [go_sem, Nat.reduceBEq, Nat.reduceLT, Nat.reduceLeDiff, Nat.reduceAdd, Nat.reduceMul, ↓reduceIte, Int.reduceToNat, Int.reducePow, Int.reduceLT, Int.reduceLE, Int.reduceAdd, Int.reduceSub, Int.reduceMul, Int.reduceEq, Int.reduceNe, e3]
          refine LoopQ_k ⟨i + 1, R', v', rb'⟩ ⟨by rw [ho_i]; omega, hR', ho', holdO_nd ho' hnew n1 n3 n5⟩ (by show ps.length - (i + 1) < ps.length - i; omega) rfl ?_ hnew
          simp -implicitDefEqProofs -proj only [go_sem, Nat.reduceBEq, Nat.reduceLT, Nat.reduceLeDiff, Nat.reduceAdd, Nat.reduceMul, ↓reduceIte, Int.reduceToNat, Int.reducePow, Int.reduceLT, Int.reduceLE, Int.reduceAdd, Int.reduceSub, Int.reduceMul, Int.reduceEq, Int.reduceNe, AllAt, ho_i, i64_succ (show i < 9223372036854775807 by omega)]
        · have hi' : i = ps.length := by omega
          subst hi'
          have hz := heq hR a3
          subst hz
          have hne := ho.ne k2 hrb
          simp -implicitDefEqProofs -proj only [go_sem, Nat.reduceBEq, Nat.reduceLT, Nat.reduceLeDiff, Nat.reduceAdd, Nat.reduceMul, ↓reduceIte, Int.reduceToNat, Int.reducePow, Int.reduceLT, Int.reduceLE, Int.reduceAdd, Int.reduceSub, Int.reduceMul, Int.reduceEq, Int.reduceNe, ho_i, ho_R, ho_v, ho_rb, hH, k1, k2, k3, n1, n2, n3, n4, n5, n6, decide_eq_false (show ¬ (ps.length : Int) < ps.length by omega)]
          exact lend_agg1U (ho.new (AllH_upd_ne hne hrb))
end Go.Proofs.Ytmkennmppdmnhaa.Abs
