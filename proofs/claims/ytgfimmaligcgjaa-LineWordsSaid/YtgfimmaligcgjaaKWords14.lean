/- The law LineWords. No claim stands here. -/
import Derived.Test.YtgfimmaligcgjaaKLineS14
set_option linter.unusedSimpArgs false
set_option linter.unusedVariables false
namespace Go.Proofs.Ytgfimmaligcgjaa.Abs
open Go Go.RowKit Go.Proofs
attribute [local go_sem] RunC_seq AF_n AF_r AF_b St_n St_t St_H Fst_mk Snd_mk RunC_ops RunC_cond RunC_block RunC_loop RunC_exit RunC_ret RunC_skip RunO_nil RunO_code RunO_code_ret RunO_code_exit RunO_blk RunO_blk_ret RunO_blk_exit RunL_nil RunL_guard GuardA_tt GuardA_ff GuardA_tf GuardA_ft GuardA_void CondA_t CondA_f PickA_t PickA_f RunL_mov RunL_pick RunL_alloc RunL_box RunL_load LoadA_ptr LoadB_1 LoadB_n LoadA_dptr LoadA_dptr_n RunL_store StoreA_ptr StoreB_box RunL_bin Bin_add Bin_sub Bin_mul Bin_quo Bin_rem Bin_shl Bin_shr Bin_andI Bin_orI Bin_xorI Bin_eql Bin_neq Bin_lss Bin_leq Bin_gtr Bin_geq RunL_binb Bin_beql Bin_bneq RunL_un UnA_not UnA_neg RunL_conv convV MapA_some RunL_nilCheck nilV RunL_mkfn RunL_fieldAddr faV RunL_field FieldA_1 FieldA_n RunL_elemAddr EAddrA_sl EAddrA_own EptrA_eq RunL_build BuildA_some RunL_extract ExtA_eq RunL_len lenV_sl lenV_nilsl lenV_own RunL_slen RunL_idxStr IdxSA_eq slenV RunL_minmax mmV minmaxL RunL_call RunL_callv CallvA_fn putS ev evL evO evP eqK eqKs EqB_agg RunL_eqAgg EqA_t EqA_f evQ buildC fits_agg cellsAV_agg fits_d cellsAV_d fits_nilp cellsAV_nilp fits_nilsl cellsAV_nilsl fits_nilfn cellsAV_nilfn fits_ptr cellsAV_ptr fits_eptr cellsAV_eptr fits_dptr cellsAV_dptr fits_own cellsAV_own fits_fn cellsAV_fn rowV_fits rowV_cells rowV_len lenAV setSeg nth seg mapD repeatL putT_get upd_get argT keepT_cons keepT_nil keepH_cons keepH_nil cond_true cond_false VC_true finW resW resL resOne LoopQ_exit LoopQ_ret List.cons_append List.nil_append Bool.not_true Bool.not_false Bool.and_true Bool.and_self Nat.lt_add_left_iff_pos Nat.zero_add Nat.add_zero List.drop_succ_cons List.drop_zero List.take_succ_cons List.take_zero beq_self_eq_true Bool.false_eq_true RunC_dops RunL_loadS RunL_storeS StoreSA_ptr RunL_pcall RunL_pcallv PCallvA_fn newsOk and_self and_true true_and loadW_ptr LoadK_1 LoadK_n upd_upd RunL_buildSlice BSliceA_some RunL_buildSliceD frzL frz cutL LoadA_eptr LoadE_row RunL_append RunL_slice SliceA_sl StoreA_eptr List.length_cons List.length_nil Nat.min_def Int.cast_ofNat_Int Int.natCast_zero Int.natCast_one decide_true decide_false List.getElem?_cons_zero List.getElem?_cons_succ RunC_rangef CallvA_yld putL_nil putL_cons RangeQ_exit RangeQ_ret
def IdxAA (n sz : Nat) (x y : AV) (d : Option Nat) (l : List AO) (k : List Item) (s : St) (P : Program) (Q : Out → St → Prop) : Prop := match x, y with
  | .agg xs, .d (.int _ m) => VC (0 ≤ m ∧ m < n ∧ n * sz = lenAV xs) (VC (sz = 1) (RunL P Q l k (putS s d (nth xs m.toNat) s.H)))
  | _, _ => False
theorem RunL_idxArr {P : Program} {Q : Out → St → Prop} {d : Option Nat} {l : List AO} {k : List Item} {s : St} {n sz : Nat} {x i : Opd} : RunL P Q (⟨d, none, .idxArr n sz none x i⟩ :: l) k s = IdxAA n sz (ev s.t x) (ev s.t i) d l k s P Q := by
  rw [RunL_op]
  simp -implicitDefEqProofs only [opW]
  generalize ev s.t x = a
  generalize ev s.t i = b
  unfold IdxAA
  cases a <;> cases b <;> try rfl
theorem IdxAA_eq {P : Program} {Q : Out → St → Prop} {d : Option Nat} {l : List AO} {k : List Item} {s : St} {n sz : Nat} {xs : List AV} {j : IntKind} {m : Int} : IdxAA n sz (.agg xs) (.d (.int j m)) d l k s P Q = VC (0 ≤ m ∧ m < n ∧ n * sz = lenAV xs) (VC (sz = 1) (RunL P Q l k (putS s d (nth xs m.toNat) s.H))) := rfl
def wordI (v : Int) : Int := IntKind.i64.wrap ((IntKind.u64.wrap v).tmod 3)
theorem wordI_in (v : Int) : wordI v = 0 ∨ wordI v = 1 ∨ wordI v = 2 := by
  unfold wordI
  rw [IntKind.wrap_u64, Int.tmod_eq_emod_of_nonneg (by omega), IntKind.wrap_i64]
  omega
theorem wordI_small {v : Int} (h : v = 0 ∨ v = 1 ∨ v = 2) : wordI v = v := by
  rcases h with rfl | rfl | rfl <;> decide
theorem word_ok (v : Int) : DataW Try.prog f_poundagelaw14_word [i64 v] (.d (.str (wd (wordI v)))) := by
  refine CallW_intro comp_poundagelaw14_word (by simp) ?_
  have h := wordI_in v
  have e : wordI v = IntKind.i64.wrap ((IntKind.u64.wrap v).tmod 3) := rfl
  generalize wordI v = w at *
  simp -implicitDefEqProofs -proj only [go_sem, Nat.reduceBEq, Nat.reduceLT, Nat.reduceLeDiff, Nat.reduceAdd, Nat.reduceMul, ↓reduceIte, Int.reduceToNat, Int.reducePow, Int.reduceLT, Int.reduceLE, Int.reduceAdd, Int.reduceSub, Int.reduceMul, Int.reduceEq, Int.reduceNe, RunL_idxArr, IdxAA_eq]
  (repeat' (with_reducible refine VC_intro ?_ (fun h => ?_); (focus first | decide | omega); clear h; try simp -implicitDefEqProofs -proj only [go_sem, Nat.reduceBEq, Nat.reduceLT, Nat.reduceLeDiff, Nat.reduceAdd, Nat.reduceMul, ↓reduceIte, Int.reduceToNat, Int.reducePow, Int.reduceLT, Int.reduceLE, Int.reduceAdd, Int.reduceSub, Int.reduceMul, Int.reduceEq, Int.reduceNe, eq_self]))
  rw [← e]
  rcases h with rfl | rfl | rfl <;> exact LendV_eq rfl
structure WordX where
  i : Nat
  c : Nat
  cap : Nat
  d : Nat
  dap : Nat
theorem wx_i {i c cap d dap : Nat} : (WordX.mk i c cap d dap).i = i := (rfl)
theorem wx_c {i c cap d dap : Nat} : (WordX.mk i c cap d dap).c = c := (rfl)
theorem wx_cap {i c cap d dap : Nat} : (WordX.mk i c cap d dap).cap = cap := (rfl)
theorem wx_d {i c cap d dap : Nat} : (WordX.mk i c cap d dap).d = d := (rfl)
theorem wx_dap {i c cap d dap : Nat} : (WordX.mk i c cap d dap).dap = dap := (rfl)
theorem rowW_scal {l : List Int} : ∀ el ∈ rowW l, ∀ d ∈ el, scalD d = true := by
  intro el he d hd
  obtain ⟨r, _, rfl⟩ := List.mem_map.1 he
  simp -implicitDefEqProofs only [List.mem_singleton] at hd
  subst hd; rfl
theorem rowW_snoc {l : List Int} {x : Int} : rowW l ++ [[.str (wd x)]] = rowW (l ++ [x]) := by simp [rowW]
theorem all_swap {H : Heap} {xs ys : List (Nat × Blk)} (h : AllH H (xs ++ ys)) : AllH H (ys ++ xs) := AllH_app.2 ((AllH_app.1 h).symm)
theorem keys_swap {xs ys : List (Nat × Blk)} (h : (keys (xs ++ ys)).Nodup) : (keys (ys ++ xs)).Nodup := by
  simp -implicitDefEqProofs only [keys, List.map_append, List.nodup_append] at h ⊢
  exact ⟨h.2.1, h.1, fun a ha b hb e => h.2.2 b hb a ha e.symm⟩
def wordsL (ws : List Int) (y : WordX) : List (Nat × Blk) := rowH 9 1 y.c y.cap (rowW (ws.take y.i)) ++ rowH 3 1 y.d y.dap (rowI (ws.take y.i))
set_option maxRecDepth 20000 in
theorem LineWords_ok {a : Int} {l : List Int} (hfa : Fit a) (hfl : AllFit l) (hlen : l.length ≤ 9223372036854775807) : DataW Try.prog f_poundagelaw14_LineWords [i64 a, slI l] (bv true) := by
  refine CallW_intro comp_poundagelaw14_LineWords (by simp) ?_
  simp -implicitDefEqProofs -proj only [go_sem, Nat.reduceBEq, Nat.reduceLT, Nat.reduceLeDiff, Nat.reduceAdd, Nat.reduceMul, ↓reduceIte, Int.reduceToNat, Int.reducePow, Int.reduceLT, Int.reduceLE, Int.reduceAdd, Int.reduceSub, Int.reduceMul, Int.reduceEq, Int.reduceNe]
  refine CallA_pure alive14_ok ?_
  simp -implicitDefEqProofs -proj only [go_sem, Nat.reduceBEq, Nat.reduceLT, Nat.reduceLeDiff, Nat.reduceAdd, Nat.reduceMul, ↓reduceIte, Int.reduceToNat, Int.reducePow, Int.reduceLT, Int.reduceLE, Int.reduceAdd, Int.reduceSub, Int.reduceMul, Int.reduceEq, Int.reduceNe]
  refine CallA_pure (great_ok hlen) ?_
  by_cases hg : 1048576 < a ∨ a < -1048576 ∨ 300 < (l.length : Int)
  · rw [decide_eq_true hg]
    simp -implicitDefEqProofs -proj only [go_sem, Nat.reduceBEq, Nat.reduceLT, Nat.reduceLeDiff, Nat.reduceAdd, Nat.reduceMul, ↓reduceIte, Int.reduceToNat, Int.reducePow, Int.reduceLT, Int.reduceLE, Int.reduceAdd, Int.reduceSub, Int.reduceMul, Int.reduceEq, Int.reduceNe]
    exact LendV_eq rfl
  rw [decide_eq_false hg]
  obtain ⟨ws, hws⟩ : ∃ ws, l.map wordI = ws := ⟨_, rfl⟩
  have hwl : ws.length = l.length := by rw [← hws, List.length_map]
  have hw3 : ws.length < 301 := by omega
  have hof := OfS_new (from' := a) (l := ws) (by omega) (by omega)
  have hofn := Of_new (from' := a) (l := ws) (by omega) (by omega)
  have hRl := runsN_len (from' := a) (l := ws) ws.length
  have hmap := (MapS_new (l := runs a ws) (g := wordI) (fun v => word_ok v) (by show (runsN a ws ws.length).length ≤ _; omega)).data
  have hid : ws.map wordI = ws := by
    rw [← hws, List.map_map]
    refine List.map_congr_left fun v _ => wordI_small (wordI_in v)
  rw [map_runs, hid] at hmap
  have hsort := (runsN_ok a ws ws.length).sorted
  have hat := fun k (h : k < ws.length) => runs_at (from' := a) (l := ws) (k := k) h
  have heq := EqualS_ok (a := runs a ws) (b := runs a ws) (by show (runsN a ws ws.length).length ≤ _; omega) (by show (runsN a ws ws.length).length ≤ _; omega)
  rw [decide_eq_true rfl] at heq
  obtain ⟨R, hRR⟩ : ∃ R, runs a ws = R := ⟨_, rfl⟩
  rw [hRR] at hof hofn hmap heq
  rw [show runsN a ws ws.length = R from hRR] at hsort hRl
  simp -implicitDefEqProofs -proj only [go_sem, Nat.reduceBEq, Nat.reduceLT, Nat.reduceLeDiff, Nat.reduceAdd, Nat.reduceMul, ↓reduceIte, Int.reduceToNat, Int.reducePow, Int.reduceLT, Int.reduceLE, Int.reduceAdd, Int.reduceSub, Int.reduceMul, Int.reduceEq, Int.reduceNe, rowI_len]
  refine LoopA_k (fun y : WordX => y.i ≤ l.length ∧ (keys (wordsL ws y)).Nodup) 82 (fun y => [(19, slI l), (20, i64 l.length), (21, i64 y.i), (0, i64 a), (5, rowV 0 1 y.c y.cap (rowW (ws.take y.i))), (6, rowV 0 1 y.d y.dap (rowI (ws.take y.i)))]) (wordsL ws) (fun y => l.length - y.i) ⟨0, 0, 0, 0, 0⟩ ⟨Nat.zero_le _, by simp [keys, wordsL, wx_i, rowI, rowW, rowH]⟩ rfl ?_ ?_ ?_
  · simp -implicitDefEqProofs -proj only [go_sem, Nat.reduceBEq, Nat.reduceLT, Nat.reduceLeDiff, Nat.reduceAdd, Nat.reduceMul, ↓reduceIte, Int.reduceToNat, Int.reducePow, Int.reduceLT, Int.reduceLE, Int.reduceAdd, Int.reduceSub, Int.reduceMul, Int.reduceEq, Int.reduceNe, AllAt, wx_i, wx_c, wx_cap, rowI_len]
    exact ⟨rfl, rfl⟩
  · simp -implicitDefEqProofs -proj only [go_sem, Nat.reduceBEq, Nat.reduceLT, Nat.reduceLeDiff, Nat.reduceAdd, Nat.reduceMul, ↓reduceIte, Int.reduceToNat, Int.reducePow, Int.reduceLT, Int.reduceLE, Int.reduceAdd, Int.reduceSub, Int.reduceMul, Int.reduceEq, Int.reduceNe, AllH, wordsL, wx_i, wx_c, wx_cap, rowI, rowW, List.map_nil, rowH_nil]
  · rintro ⟨i, c, cap, d, dap⟩ ⟨hi, hn⟩
    simp -implicitDefEqProofs only [wx_i] at hi
    have hall := keepH_all hn
    obtain ⟨H, hH⟩ : ∃ H, keepH (wordsL ws ⟨i, c, cap, d, dap⟩) = H := ⟨_, rfl⟩
    rw [hH] at hall
    simp -implicitDefEqProofs only [wordsL, wx_i, wx_c, wx_cap, wx_d, wx_dap] at hall hn
    simp -implicitDefEqProofs -proj only [go_sem, Nat.reduceBEq, Nat.reduceLT, Nat.reduceLeDiff, Nat.reduceAdd, Nat.reduceMul, ↓reduceIte, Int.reduceToNat, Int.reducePow, Int.reduceLT, Int.reduceLE, Int.reduceAdd, Int.reduceSub, Int.reduceMul, Int.reduceEq, Int.reduceNe, wx_i, wx_c, wx_cap, wx_d, wx_dap, hH]
    by_cases h : i < l.length
    · have hel := rowI_nth h
      have htk : ws.take (i + 1) = ws.take i ++ [wordI l[i]] := by
        rw [List.take_succ_eq_append_getElem (by omega)]; simp [← hws]
      have hl1 : (rowI (ws.take i)).length = i := by rw [rowI_len, List.length_take]; omega
      have hl2 : (rowW (ws.take i)).length = i := by rw [rowW_len, List.length_take]; omega
      have hl3 : (rowI (ws.take (i + 1))).length = i + 1 := by rw [rowI_len, List.length_take]; omega
      have hl4 : (rowW (ws.take (i + 1))).length = i + 1 := by rw [rowW_len, List.length_take]; omega
      have hne1 : rowI (ws.take (i + 1)) ≠ [] := by intro e; rw [e] at hl3; simp at hl3
      have hne2 : rowW (ws.take (i + 1)) ≠ [] := by intro e; rw [e] at hl4; simp at hl4
      generalize l[i] = x at *
      simp -implicitDefEqProofs -proj only [go_sem, Nat.reduceBEq, Nat.reduceLT, Nat.reduceLeDiff, Nat.reduceAdd, Nat.reduceMul, ↓reduceIte, Int.reduceToNat, Int.reducePow, Int.reduceLT, Int.reduceLE, Int.reduceAdd, Int.reduceSub, Int.reduceMul, Int.reduceEq, Int.reduceNe, decide_eq_true (show (i : Int) < l.length by omega)]
      refine ElemA_at _ (by omega) hel ?_
      simp -implicitDefEqProofs -proj only [go_sem, Nat.reduceBEq, Nat.reduceLT, Nat.reduceLeDiff, Nat.reduceAdd, Nat.reduceMul, ↓reduceIte, Int.reduceToNat, Int.reducePow, Int.reduceLT, Int.reduceLE, Int.reduceAdd, Int.reduceSub, Int.reduceMul, Int.reduceEq, Int.reduceNe]
      refine CallA_pure (word_ok x) ?_
      simp -implicitDefEqProofs -proj only [go_sem, Nat.reduceBEq, Nat.reduceLT, Nat.reduceLeDiff, Nat.reduceAdd, Nat.reduceMul, ↓reduceIte, Int.reduceToNat, Int.reducePow, Int.reduceLT, Int.reduceLE, Int.reduceAdd, Int.reduceSub, Int.reduceMul, Int.reduceEq, Int.reduceNe]
      refine AllocR_intro (fun bs hs => ?_)
      replace hs : H bs = none := hs
      simp -implicitDefEqProofs -proj only [go_sem, Nat.reduceBEq, Nat.reduceLT, Nat.reduceLeDiff, Nat.reduceAdd, Nat.reduceMul, ↓reduceIte, Int.reduceToNat, Int.reducePow, Int.reduceLT, Int.reduceLE, Int.reduceAdd, Int.reduceSub, Int.reduceMul, Int.reduceEq, Int.reduceNe]
      refine AppendA_grow (xs := rowW (ws.take i)) (y := [.str (wd (wordI x))]) (t := 9) (capc := 1) (rowH 3 1 d dap (rowI (ws.take i))) rfl (AllH_upd hs hall) hn (by simp -implicitDefEqProofs -proj only [go_sem, Nat.reduceBEq, Nat.reduceLT, Nat.reduceLeDiff, Nat.reduceAdd, Nat.reduceMul, ↓reduceIte, Int.reduceToNat, Int.reducePow, Int.reduceLT, Int.reduceLE, Int.reduceAdd, Int.reduceSub, Int.reduceMul, Int.reduceEq, Int.reduceNe]) (by rw [hl2]; omega) (by rw [hl2]; omega) (fun H' c' cap' ha hk => ?_)
      rw [rowW_snoc, ← htk] at ha hk
      simp -implicitDefEqProofs -proj only [go_sem, Nat.reduceBEq, Nat.reduceLT, Nat.reduceLeDiff, Nat.reduceAdd, Nat.reduceMul, ↓reduceIte, Int.reduceToNat, Int.reducePow, Int.reduceLT, Int.reduceLE, Int.reduceAdd, Int.reduceSub, Int.reduceMul, Int.reduceEq, Int.reduceNe]
      (repeat' (with_reducible refine VC_intro ?_ (fun h => ?_); (focus first | decide | omega); clear h; try simp -implicitDefEqProofs -proj only [go_sem, Nat.reduceBEq, Nat.reduceLT, Nat.reduceLeDiff, Nat.reduceAdd, Nat.reduceMul, ↓reduceIte, Int.reduceToNat, Int.reducePow, Int.reduceLT, Int.reduceLE, Int.reduceAdd, Int.reduceSub, Int.reduceMul, Int.reduceEq, Int.reduceNe, eq_self]))
      rw [show IntKind.i64.wrap ((IntKind.u64.wrap x).tmod 3) = wordI x from rfl]
      refine AllocR_intro (fun bs2 hs2 => ?_)
      replace hs2 : H' bs2 = none := hs2
      simp -implicitDefEqProofs -proj only [go_sem, Nat.reduceBEq, Nat.reduceLT, Nat.reduceLeDiff, Nat.reduceAdd, Nat.reduceMul, ↓reduceIte, Int.reduceToNat, Int.reducePow, Int.reduceLT, Int.reduceLE, Int.reduceAdd, Int.reduceSub, Int.reduceMul, Int.reduceEq, Int.reduceNe]
      refine AppendA_grow (xs := rowI (ws.take i)) (y := [.int .i64 (wordI x)]) (t := 3) (capc := 1) (rowH 9 1 c' cap' (rowW (ws.take (i + 1)))) rfl (AllH_upd hs2 (all_swap ha)) (keys_swap hk) (by simp -implicitDefEqProofs -proj only [go_sem, Nat.reduceBEq, Nat.reduceLT, Nat.reduceLeDiff, Nat.reduceAdd, Nat.reduceMul, ↓reduceIte, Int.reduceToNat, Int.reducePow, Int.reduceLT, Int.reduceLE, Int.reduceAdd, Int.reduceSub, Int.reduceMul, Int.reduceEq, Int.reduceNe]) (by rw [hl1]; omega) (by rw [hl1]; omega) (fun H2 d' dap' ha2 hk2 => ?_)
      rw [rowI_snoc, ← htk] at ha2 hk2
      simp -implicitDefEqProofs -proj only [go_sem, Nat.reduceBEq, Nat.reduceLT, Nat.reduceLeDiff, Nat.reduceAdd, Nat.reduceMul, ↓reduceIte, Int.reduceToNat, Int.reducePow, Int.reduceLT, Int.reduceLE, Int.reduceAdd, Int.reduceSub, Int.reduceMul, Int.reduceEq, Int.reduceNe]
      refine LoopQ_k ⟨i + 1, c', cap', d', dap'⟩ ⟨by show i + 1 ≤ l.length; omega, keys_swap hk2⟩ (by show l.length - (i + 1) < l.length - i; omega) rfl ?_ (all_swap ha2)
      simp -implicitDefEqProofs -proj only [go_sem, Nat.reduceBEq, Nat.reduceLT, Nat.reduceLeDiff, Nat.reduceAdd, Nat.reduceMul, ↓reduceIte, Int.reduceToNat, Int.reducePow, Int.reduceLT, Int.reduceLE, Int.reduceAdd, Int.reduceSub, Int.reduceMul, Int.reduceEq, Int.reduceNe, AllAt, wx_i, wx_c, wx_cap, wx_d, wx_dap, i64_succ (show i < 9223372036854775807 by omega), rowV_ne hne1, rowV_ne hne2, hl1, hl2, hl3, hl4]
    · have hi' : i = l.length := by omega
      subst hi'
      rw [← hwl, List.take_length] at *
      obtain ⟨hr1, hr2⟩ := AllH_app.1 hall
      simp -implicitDefEqProofs -proj only [go_sem, Nat.reduceBEq, Nat.reduceLT, Nat.reduceLeDiff, Nat.reduceAdd, Nat.reduceMul, ↓reduceIte, Int.reduceToNat, Int.reducePow, Int.reduceLT, Int.reduceLE, Int.reduceAdd, Int.reduceSub, Int.reduceMul, Int.reduceEq, Int.reduceNe, decide_eq_false (show ¬ (ws.length : Int) < ws.length by omega)]
      refine CallA_new hof (lend_cons (.refl _) (lend_cons (rowV_lend hr1) lend_nil)) ?_
      simp -implicitDefEqProofs -proj only [go_sem, Nat.reduceBEq, Nat.reduceLT, Nat.reduceLeDiff, Nat.reduceAdd, Nat.reduceMul, ↓reduceIte, Int.reduceToNat, Int.reducePow, Int.reduceLT, Int.reduceLE, Int.reduceAdd, Int.reduceSub, Int.reduceMul, Int.reduceEq, Int.reduceNe]
      refine CallA_new hofn (lend_cons (.refl _) (lend_cons (rowV_lend hr2) lend_nil)) ?_
      simp -implicitDefEqProofs -proj only [go_sem, Nat.reduceBEq, Nat.reduceLT, Nat.reduceLeDiff, Nat.reduceAdd, Nat.reduceMul, ↓reduceIte, Int.reduceToNat, Int.reducePow, Int.reduceLT, Int.reduceLE, Int.reduceAdd, Int.reduceSub, Int.reduceMul, Int.reduceEq, Int.reduceNe]
      refine CallA_pure hmap ?_
      simp -implicitDefEqProofs -proj only [go_sem, Nat.reduceBEq, Nat.reduceLT, Nat.reduceLeDiff, Nat.reduceAdd, Nat.reduceMul, ↓reduceIte, Int.reduceToNat, Int.reducePow, Int.reduceLT, Int.reduceLE, Int.reduceAdd, Int.reduceSub, Int.reduceMul, Int.reduceEq, Int.reduceNe]
      refine AllocA_intro (fun b9 hb9 => ?_)
      replace hb9 : H b9 = none := hb9
      simp -implicitDefEqProofs -proj only [go_sem, Nat.reduceBEq, Nat.reduceLT, Nat.reduceLeDiff, Nat.reduceAdd, Nat.reduceMul, ↓reduceIte, Int.reduceToNat, Int.reducePow, Int.reduceLT, Int.reduceLE, Int.reduceAdd, Int.reduceSub, Int.reduceMul, Int.reduceEq, Int.reduceNe]
      refine AllocA_intro (fun b10 hb10 => ?_)
      replace hb10 : upd H b9 _ b10 = none := hb10
      obtain ⟨n1, n2⟩ := fresh_ne hb10 upd_eq
      simp -implicitDefEqProofs -proj only [go_sem, Nat.reduceBEq, Nat.reduceLT, Nat.reduceLeDiff, Nat.reduceAdd, Nat.reduceMul, ↓reduceIte, Int.reduceToNat, Int.reducePow, Int.reduceLT, Int.reduceLE, Int.reduceAdd, Int.reduceSub, Int.reduceMul, Int.reduceEq, Int.reduceNe, n1, n2]
      refine CallA_pure heq ?_
      simp -implicitDefEqProofs -proj only [go_sem, Nat.reduceBEq, Nat.reduceLT, Nat.reduceLeDiff, Nat.reduceAdd, Nat.reduceMul, ↓reduceIte, Int.reduceToNat, Int.reducePow, Int.reduceLT, Int.reduceLE, Int.reduceAdd, Int.reduceSub, Int.reduceMul, Int.reduceEq, Int.reduceNe, n1, n2]
      refine CallA_pure (CountS_ok (a := R)) ?_
      simp -implicitDefEqProofs -proj only [go_sem, Nat.reduceBEq, Nat.reduceLT, Nat.reduceLeDiff, Nat.reduceAdd, Nat.reduceMul, ↓reduceIte, Int.reduceToNat, Int.reducePow, Int.reduceLT, Int.reduceLE, Int.reduceAdd, Int.reduceSub, Int.reduceMul, Int.reduceEq, Int.reduceNe, n1, n2]
      have hb10' : H b10 = none := by rw [upd_ne n2] at hb10; exact hb10
      have hrest : ∀ (x y z w : Option Blk), AllH (upd (upd (upd (upd H b9 x) b10 y) b9 z) b10 w) (rowH 3 1 d dap (rowI ws)) := fun x y z w => drop_all (drop_all (drop_all (drop_all hr2 (fresh_keys hb9 hr2)) (fresh_keys hb10' hr2)) (fresh_keys hb9 hr2)) (fresh_keys hb10' hr2)
      have hrest2 : ∀ (x y z w : Option Blk), AllH (upd (upd (upd (upd H b9 x) b10 y) b9 z) b10 w) (rowH 9 1 c cap (rowW ws)) := fun x y z w => drop_all (drop_all (drop_all (drop_all hr1 (fresh_keys hb9 hr1)) (fresh_keys hb10' hr1)) (fresh_keys hb9 hr1)) (fresh_keys hb10' hr1)
      have hk9 : (keys (rowH 9 1 c cap (rowW ws) ++ [(b9, .box 30 [slS R])])).Nodup := by
        exact keys_swap (xs := [(b9, .box 30 [slS R])]) (ys := rowH 9 1 c cap (rowW ws)) (alloc_keys (x := .box 30 [slS R]) hb9 hr1 (by
          simp -implicitDefEqProofs only [keys, List.map_append, List.nodup_append] at hn; exact hn.1))
      refine CallA_new hofn (lend_cons (.refl _) (lend_cons (rowV_lend (hrest _ _ _ _)) lend_nil)) ?_
      simp -implicitDefEqProofs -proj only [go_sem, Nat.reduceBEq, Nat.reduceLT, Nat.reduceLeDiff, Nat.reduceAdd, Nat.reduceMul, ↓reduceIte, Int.reduceToNat, Int.reducePow, Int.reduceLT, Int.reduceLE, Int.reduceAdd, Int.reduceSub, Int.reduceMul, Int.reduceEq, Int.reduceNe, n1, n2]
      refine CallA_pure (Count_ok (a := R)) ?_
      simp -implicitDefEqProofs -proj only [go_sem, Nat.reduceBEq, Nat.reduceLT, Nat.reduceLeDiff, Nat.reduceAdd, Nat.reduceMul, ↓reduceIte, Int.reduceToNat, Int.reducePow, Int.reduceLT, Int.reduceLE, Int.reduceAdd, Int.reduceSub, Int.reduceMul, Int.reduceEq, Int.reduceNe, n1, n2, decide_eq_true (rfl : (R.length : Int) = R.length), rowV_len, rowW_len]
      refine LoopA_k (fun i : Nat => i ≤ ws.length) 82 (fun i => [(58, rowV 0 1 c cap (rowW ws)), (59, i64 ws.length), (60, i64 i), (5, rowV 0 1 c cap (rowW ws)), (9, .ptr b9 0), (0, i64 a)]) (fun _ => rowH 9 1 c cap (rowW ws) ++ [(b9, .box 30 [slS R])]) (fun i => ws.length - i) 0 (Nat.zero_le _) rfl ?_ ?_ ?_
      · simp -implicitDefEqProofs -proj only [go_sem, Nat.reduceBEq, Nat.reduceLT, Nat.reduceLeDiff, Nat.reduceAdd, Nat.reduceMul, ↓reduceIte, Int.reduceToNat, Int.reducePow, Int.reduceLT, Int.reduceLE, Int.reduceAdd, Int.reduceSub, Int.reduceMul, Int.reduceEq, Int.reduceNe, AllAt, rowW_len]
      · refine AllH_app.2 ⟨?_, ?_⟩
        · simp -implicitDefEqProofs -proj only [go_sem, Nat.reduceBEq, Nat.reduceLT, Nat.reduceLeDiff, Nat.reduceAdd, Nat.reduceMul, ↓reduceIte, Int.reduceToNat, Int.reducePow, Int.reduceLT, Int.reduceLE, Int.reduceAdd, Int.reduceSub, Int.reduceMul, Int.reduceEq, Int.reduceNe]
          exact hrest2 _ _ _ _
        · simp -implicitDefEqProofs -proj only [go_sem, Nat.reduceBEq, Nat.reduceLT, Nat.reduceLeDiff, Nat.reduceAdd, Nat.reduceMul, ↓reduceIte, Int.reduceToNat, Int.reducePow, Int.reduceLT, Int.reduceLE, Int.reduceAdd, Int.reduceSub, Int.reduceMul, Int.reduceEq, Int.reduceNe, AllH, n1, n2]
      · intro i hi
        have hall2 := keepH_all hk9
        obtain ⟨hr3, h9, _⟩ := AllH_app.1 hall2
        by_cases h : i < ws.length
        · have hel := rowW_nth h
          have hat1 := AtS_ok (l := R) (x := a + i) (by omega) hsort
          rw [← hRR, hat i h, hRR] at hat1
          have hw : IntKind.i64.wrap (a + i) = a + i := by rw [IntKind.wrap_i64]; omega
          have hne : rowW ws ≠ [] := fun e => by have := congrArg List.length e; rw [rowW_len] at this; simp at this; subst this; simp at h
          have hc := (show ∀ G, AllH G (rowH 9 1 c cap (rowW ws)) → G c = some (.row 9 1 cap (rowW ws)) from fun G h => by rw [rowH_ne hne] at h; exact h.1) _ hr3
          generalize ws[i] = x at *
          simp -implicitDefEqProofs -proj only [go_sem, Nat.reduceBEq, Nat.reduceLT, Nat.reduceLeDiff, Nat.reduceAdd, Nat.reduceMul, ↓reduceIte, Int.reduceToNat, Int.reducePow, Int.reduceLT, Int.reduceLE, Int.reduceAdd, Int.reduceSub, Int.reduceMul, Int.reduceEq, Int.reduceNe, h9, hw, decide_eq_true (show (i : Int) < ws.length by omega)]
          refine CallA_pure hat1 ?_
          simp -implicitDefEqProofs -proj only [go_sem, Nat.reduceBEq, Nat.reduceLT, Nat.reduceLeDiff, Nat.reduceAdd, Nat.reduceMul, ↓reduceIte, Int.reduceToNat, Int.reducePow, Int.reduceLT, Int.reduceLE, Int.reduceAdd, Int.reduceSub, Int.reduceMul, Int.reduceEq, Int.reduceNe, optW, rowV_ne hne, rowW_len]
          (repeat' (with_reducible refine VC_intro ?_ (fun h => ?_); (focus first | decide | omega); clear h; try simp -implicitDefEqProofs -proj only [go_sem, Nat.reduceBEq, Nat.reduceLT, Nat.reduceLeDiff, Nat.reduceAdd, Nat.reduceMul, ↓reduceIte, Int.reduceToNat, Int.reducePow, Int.reduceLT, Int.reduceLE, Int.reduceAdd, Int.reduceSub, Int.reduceMul, Int.reduceEq, Int.reduceNe, eq_self]))
          simp -implicitDefEqProofs -proj only [go_sem, Nat.reduceBEq, Nat.reduceLT, Nat.reduceLeDiff, Nat.reduceAdd, Nat.reduceMul, ↓reduceIte, Int.reduceToNat, Int.reducePow, Int.reduceLT, Int.reduceLE, Int.reduceAdd, Int.reduceSub, Int.reduceMul, Int.reduceEq, Int.reduceNe, hc]
          refine IdxE_1 _ hel (by simp) ?_
          simp -implicitDefEqProofs -proj only [go_sem, Nat.reduceBEq, Nat.reduceLT, Nat.reduceLeDiff, Nat.reduceAdd, Nat.reduceMul, ↓reduceIte, Int.reduceToNat, Int.reducePow, Int.reduceLT, Int.reduceLE, Int.reduceAdd, Int.reduceSub, Int.reduceMul, Int.reduceEq, Int.reduceNe, Bin_sneq, wd_eq, decide_eq_true (rfl : x = x)]
          refine LoopQ_k (i + 1) (by omega) (by omega) rfl ?_ hall2
          simp -implicitDefEqProofs -proj only [go_sem, Nat.reduceBEq, Nat.reduceLT, Nat.reduceLeDiff, Nat.reduceAdd, Nat.reduceMul, ↓reduceIte, Int.reduceToNat, Int.reducePow, Int.reduceLT, Int.reduceLE, Int.reduceAdd, Int.reduceSub, Int.reduceMul, Int.reduceEq, Int.reduceNe, AllAt, i64_succ (show i < 9223372036854775807 by omega), rowV_ne hne, rowW_len]
        · have hi' : i = ws.length := by omega
          subst hi'
          simp -implicitDefEqProofs -proj only [go_sem, Nat.reduceBEq, Nat.reduceLT, Nat.reduceLeDiff, Nat.reduceAdd, Nat.reduceMul, ↓reduceIte, Int.reduceToNat, Int.reducePow, Int.reduceLT, Int.reduceLE, Int.reduceAdd, Int.reduceSub, Int.reduceMul, Int.reduceEq, Int.reduceNe, decide_eq_false (show ¬ (ws.length : Int) < ws.length by omega)]
          exact LendV_eq rfl
end Go.Proofs.Ytgfimmaligcgjaa.Abs
