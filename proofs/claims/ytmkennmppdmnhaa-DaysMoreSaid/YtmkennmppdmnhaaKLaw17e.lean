/- The law DaysMore (printed by mkmore.py). No claim stands here. -/
import Derived.Test.YtmkennmppdmnhaaKMore17
set_option linter.unusedSimpArgs false
set_option linter.unusedVariables false
namespace Go.Proofs.Ytmkennmppdmnhaa.Abs
open Go Go.RowKit Go.Proofs
attribute [local go_sem] RunC_seq AF_n AF_r AF_b St_n St_t St_H Fst_mk Snd_mk RunC_ops RunC_cond RunC_block RunC_loop RunC_exit RunC_ret RunC_skip RunO_nil RunO_code RunO_code_ret RunO_code_exit RunO_blk RunO_blk_ret RunO_blk_exit RunL_nil RunL_guard GuardA_tt GuardA_ff GuardA_tf GuardA_ft GuardA_void CondA_t CondA_f PickA_t PickA_f RunL_mov RunL_pick RunL_alloc RunL_box RunL_load LoadA_ptr LoadB_1 LoadB_n LoadA_dptr LoadA_dptr_n RunL_store StoreA_ptr StoreB_box RunL_bin Bin_add Bin_sub Bin_mul Bin_quo Bin_rem Bin_shl Bin_shr Bin_andI Bin_orI Bin_xorI Bin_eql Bin_neq Bin_lss Bin_leq Bin_gtr Bin_geq RunL_binb Bin_beql Bin_bneq RunL_un UnA_not UnA_neg RunL_conv convV MapA_some RunL_nilCheck nilV RunL_mkfn RunL_fieldAddr faV RunL_field FieldA_1 FieldA_n RunL_elemAddr EAddrA_sl EAddrA_own EptrA_eq RunL_build BuildA_some RunL_extract ExtA_eq RunL_len lenV_sl lenV_nilsl lenV_own RunL_slen RunL_idxStr IdxSA_eq slenV RunL_minmax mmV minmaxL RunL_call RunL_callv CallvA_fn putS ev evL evO evP eqK eqKs EqB_agg RunL_eqAgg EqA_t EqA_f evQ buildC fits_agg cellsAV_agg fits_d cellsAV_d fits_nilp cellsAV_nilp fits_nilsl cellsAV_nilsl fits_nilfn cellsAV_nilfn fits_ptr cellsAV_ptr fits_eptr cellsAV_eptr fits_dptr cellsAV_dptr fits_own cellsAV_own fits_fn cellsAV_fn rowV_fits rowV_cells rowV_len lenAV setSeg nth seg mapD repeatL putT_get upd_get argT keepT_cons keepT_nil keepH_cons keepH_nil cond_true cond_false VC_true finW resW resL resOne LoopQ_exit LoopQ_ret List.cons_append List.nil_append Bool.not_true Bool.not_false Bool.and_true Bool.and_self Nat.lt_add_left_iff_pos Nat.zero_add Nat.add_zero List.drop_succ_cons List.drop_zero List.take_succ_cons List.take_zero beq_self_eq_true Bool.false_eq_true RunC_dops RunL_loadS RunL_loadD LoadDA_dptr RunL_storeS StoreSA_ptr RunL_pcall RunL_pcallv PCallvA_fn newsOk and_self and_true true_and loadW_ptr LoadK_1 LoadK_n upd_upd RunL_buildSlice BSliceA_some RunL_buildSliceD frzL frz cutL LoadA_eptr LoadE_row RunL_append RunL_slice SliceA_sl StoreA_eptr List.length_cons List.length_nil Nat.min_def Int.cast_ofNat_Int Int.natCast_zero Int.natCast_one decide_true decide_false List.getElem?_cons_zero List.getElem?_cons_succ RunC_rangef CallvA_yld putL_nil putL_cons RangeQ_exit RangeQ_ret
theorem setS_app {ss : List SumX} {s : SumX} {d : Int} : ∀ {i : Nat}, i ≤ ss.length → setS (ss ++ [s]) d i = setS ss d i
  | 0, _ => rfl
  | i + 1, h => by
    rw [setS, setS, setS_app (i := i) (by omega), List.getElem?_append_left (by omega)]
theorem setS_more {ss : List SumX} {s : SumX} {d : Int} : setS (ss ++ [s]) d (ss.length + 1) = setS ss d ss.length ||| (if s.f ≤ d ∧ d ≤ s.t then 2 ^ ss.length else 0) := by
  rw [setS, setS_app (Nat.le_refl _), List.getElem?_append_right (Nat.le_refl _)]
  simp
theorem setP_more {ss : List SumX} {s : SumX} {ps : List PartX} {d : Int} : ∀ {i : Nat}, setP (ss ++ [s]) ps d i = setP ss ps d i ||| (if s.f ≤ d ∧ d ≤ s.t then 2 ^ ss.length else 0)
  | 0 => by
    rw [setP, setP, List.length_append, List.length_singleton, setS_more]
  | i + 1 => by
    rw [setP, setP, setP_more, Nat.or_assoc, Nat.or_assoc]
    congr 1
    exact Nat.or_comm _ _
/-- A core with a sum more. -/
def moreC (c : CoreX) (f t : Int) : CoreX := { c with ss := c.ss ++ [⟨1, f, t⟩] }
theorem setC_more {c : CoreX} {f t d : Int} : setC (moreC c f t) d = setC c d ||| (if f ≤ d ∧ d ≤ t then 2 ^ c.ss.length else 0) := setP_more
theorem moreC_good {c : CoreX} {f t : Int} (hg : goodC c) (h7 : c.ss.length ≤ 7) (h1 : c.f ≤ f) (h2 : f ≤ t) (h3 : t ≤ c.t) : goodC (moreC c f t) := by
  obtain ⟨⟨a1, a2, a3, a4, a5, a6⟩, hms, hss, hps⟩ := hg
  refine ⟨⟨a1, a2, a3, a4, ?_, a6⟩, hms, fun s hs => ?_, hps⟩
  · show (c.ss ++ [_]).length ≤ 8
    simp; omega
  · rcases List.mem_append.1 hs with hs | hs
    · exact hss s hs
    · rw [List.mem_singleton] at hs
      subst hs
      exact ⟨by show (0 : Int) ≤ 1 ∧ (1 : Int) ≤ 1000000000000; omega, h1, h2, h3⟩
theorem moreC_fit {c : CoreX} {f t : Int} (hc : c.Fit) (h7 : c.ss.length ≤ 7) (hf : Fit f) (ht : Fit t) : (moreC c f t).Fit := by
  obtain ⟨q1, q2, q3, q4, q5, q6, q7, q8⟩ := hc
  refine ⟨q1, q2, q3, q4, fun s hs => ?_, ?_, q7, q8⟩
  · rcases List.mem_append.1 hs with hs | hs
    · exact q5 s hs
    · rw [List.mem_singleton] at hs
      subst hs
      exact ⟨by show Fit 1; decide, hf, ht⟩
  · show (c.ss ++ [_]).length ≤ _
    simp; omega
theorem orW_more {c : CoreX} {f t : Int} (h7 : c.ss.length ≤ 7) (h8 : c.ps.length ≤ 8) : (fun d => ((setC (moreC c f t) d : Nat) : Int)) = orW (fun d => ((setC c d : Nat) : Int)) f t ((sumN (c.ss.length : Int) : Nat) : Int) := by
  funext d
  have h1 : setC c d < 65536 := Nat.lt_of_lt_of_le (setP_lt (by omega) c.ps.length) (pow_le16 h8)
  have h2 := pow_le8 (i := c.ss.length) (by omega)
  rw [setC_more, orW, sumN_nat (by omega)]
  by_cases hd : f ≤ d ∧ d ≤ t
  · rw [if_pos hd, if_pos hd, bor_nat (by omega) (by omega)]
  · rw [if_neg hd, if_neg hd, show (0 : Int) = ((0 : Nat) : Int) from rfl, bor_nat (by omega) (by omega)]
theorem holds_len {c : CoreX} (hft : c.f ≤ c.t) : (holdsR c).length = (breaksN (fun d => ((setC c d : Nat) : Int)) c.f (c.t - c.f).toNat).length + 1 := by
  have := congrArg List.length (holds_starts hft)
  rw [List.length_map] at this
  rw [this]
  rfl
theorem more_len {c : CoreX} {f t : Int} (hft : c.f ≤ c.t) (h7 : c.ss.length ≤ 7) (h8 : c.ps.length ≤ 8) : (holdsR (moreC c f t)).length ≤ (holdsR c).length + 2 := by
  rw [holds_len hft, holds_len (c := moreC c f t) hft, orW_more h7 h8]
  have := breaks_or2 (val := fun d => ((setC c d : Nat) : Int)) (f := c.f) (a := f) (b := t) (m := ((sumN (c.ss.length : Int) : Nat) : Int)) (c.t - c.f).toNat
  show (breaksN _ c.f (c.t - c.f).toNat).length + 1 ≤ _
  omega
theorem peel17 {H : Heap} {j k : Nat} {v : Blk} (h : upd H j (some v) k = none) : (¬ k = j ∧ ¬ j = k) ∧ H k = none := by
  rw [upd_get] at h
  split at h
  · cases h
  · next e => exact ⟨⟨fun h => e h.symm, e⟩, h⟩
theorem AppendA_noneE {P : Program} {Q : Out → St → Prop} {d : Option Nat} {l : List AO} {k : List Item} {s : St} {e : TypeId} {sz sz' bytes b n off len cap : Nat} {z : List AV} {ys : List (List D)} (h : ys = []) (hz : z.length = sz) (hk : RunL P Q l k (putS s d (.own b n off len cap) s.H)) : AppendA e sz bytes z (.own b n off len cap) (.d (.sl sz' ys)) d l k s P Q := by
  subst h
  exact AppendA_none hz hk
theorem AppendA_growR {P : Program} {Q : Out → St → Prop} {d : Option Nat} {l : List AO} {k : List Item} {s : St} {e t : TypeId} {sz bytes c cap bs capc capx len : Nat} {z : List AV} {xs : List (List D)} {y : List D} (rest : List (Nat × Blk)) (hz : z.length = sz) (hall : AllH s.H ((c, .row e sz cap xs) :: rest)) (hnd : (keys ((c, Blk.row e sz cap xs) :: rest)).Nodup)
    (hbs : s.H bs = some (.row t sz capc [y])) (hlen : len = xs.length) (hb : (xs.length + 1) * bytes ≤ 140737488355328) (hb2 : xs.length + 1 ≤ 9223372036854775807)
    (hk : ∀ H' c' cap', AllH H' ((c', .row e sz cap' (xs ++ [y])) :: rest) → (keys ((c', Blk.row e sz cap' (xs ++ [y])) :: rest)).Nodup → RunL P Q l k (putS s d (.own c' sz 0 (len + 1) cap') H')) :
    AppendA e sz bytes z (.own c sz 0 len cap) (.own bs sz 0 1 capx) d l k s P Q := by
  refine AppendA_own1 (xs := xs) (ys := [y]) (t := t) (capc := capc) hall.1 hbs hlen rfl (by simp) hz ⟨hb, hb2⟩ (fun b' cap' hb' => ?_)
  simp -implicitDefEqProofs only [keys, List.map_cons, List.nodup_cons] at hnd
  have hr : AllH (upd s.H c none) rest := AllH_upd_ne hnd.1 hall.2
  exact hk _ b' cap' (alloc_all hb' hr) (alloc_keys hb' hr hnd.2)
theorem AppendA_dataR {P : Program} {Q : Out → St → Prop} {d : Option Nat} {l : List AO} {k : List Item} {s : St} {e : TypeId} {sz bytes c cap len : Nat} {z : List AV} {xs ys : List (List D)} (rest : List (Nat × Blk)) (hz : z.length = sz) (hall : AllH s.H ((c, .row e sz cap xs) :: rest)) (hnd : (keys ((c, Blk.row e sz cap xs) :: rest)).Nodup)
    (hlen : len = xs.length) (hne : ys ≠ []) (hb : (xs.length + ys.length) * bytes ≤ 140737488355328) (hb2 : xs.length + ys.length ≤ 9223372036854775807)
    (hk : ∀ H' c' cap', AllH H' ((c', .row e sz cap' (xs ++ ys)) :: rest) → (keys ((c', Blk.row e sz cap' (xs ++ ys)) :: rest)).Nodup → RunL P Q l k (putS s d (.own c' sz 0 (len + ys.length) cap') H')) :
    AppendA e sz bytes z (.own c sz 0 len cap) (.d (.sl sz ys)) d l k s P Q := by
  refine AppendA_data (len := 0) (xs := xs) (ys := ys) hall.1 hlen hne hz ⟨hb, hb2⟩ (fun b' cap' hb' => ?_)
  simp -implicitDefEqProofs only [keys, List.map_cons, List.nodup_cons] at hnd
  have hr : AllH (upd s.H c none) rest := AllH_upd_ne hnd.1 hall.2
  exact hk _ b' cap' (alloc_all hb' hr) (alloc_keys hb' hr hnd.2)
theorem rowS_sn {ss : List SumX} {a f t : Int} : rowS ss ++ [[.int .i64 a, .int .i64 f, .int .i64 t]] = rowS (ss ++ [⟨a, f, t⟩]) := by simp [rowS, SumX.el]
set_option maxRecDepth 20000 in
set_option maxHeartbeats 1000000 in
theorem DaysMore_ok {c : CoreX} {f t day : Int} (hc : c.Fit) (hff : Fit f) (hft : Fit t) (hfd : Fit day) : DataW Try.prog f_poundagelaw17_DaysMore [coreX c, i64 f, i64 t, i64 day] (bv true) := by
  have hrg := RGood_ok hc
  refine CallW_intro comp_poundagelaw17_DaysMore (by simp) ?_
  simp -implicitDefEqProofs -proj only [go_sem, Nat.reduceBEq, Nat.reduceLT, Nat.reduceLeDiff, Nat.reduceAdd, Nat.reduceMul, ↓reduceIte, Int.reduceToNat, Int.reducePow, Int.reduceLT, Int.reduceLE, Int.reduceAdd, Int.reduceSub, Int.reduceMul, Int.reduceEq, Int.reduceNe]
  refine AllocA_intro (fun b4 hb4 => ?_)
  simp -implicitDefEqProofs -proj only [go_sem, Nat.reduceBEq, Nat.reduceLT, Nat.reduceLeDiff, Nat.reduceAdd, Nat.reduceMul, ↓reduceIte, Int.reduceToNat, Int.reducePow, Int.reduceLT, Int.reduceLE, Int.reduceAdd, Int.reduceSub, Int.reduceMul, Int.reduceEq, Int.reduceNe]
  refine CallA_pure alive17_ok ?_
  simp -implicitDefEqProofs -proj only [go_sem, Nat.reduceBEq, Nat.reduceLT, Nat.reduceLeDiff, Nat.reduceAdd, Nat.reduceMul, ↓reduceIte, Int.reduceToNat, Int.reducePow, Int.reduceLT, Int.reduceLE, Int.reduceAdd, Int.reduceSub, Int.reduceMul, Int.reduceEq, Int.reduceNe]
  refine CallA_pure Great_ok ?_
  by_cases g1 : greatC c
  · simp -implicitDefEqProofs -proj only [go_sem, Nat.reduceBEq, Nat.reduceLT, Nat.reduceLeDiff, Nat.reduceAdd, Nat.reduceMul, ↓reduceIte, Int.reduceToNat, Int.reducePow, Int.reduceLT, Int.reduceLE, Int.reduceAdd, Int.reduceSub, Int.reduceMul, Int.reduceEq, Int.reduceNe, decide_eq_true g1]
    exact LendV_eq rfl
  simp -implicitDefEqProofs -proj only [go_sem, Nat.reduceBEq, Nat.reduceLT, Nat.reduceLeDiff, Nat.reduceAdd, Nat.reduceMul, ↓reduceIte, Int.reduceToNat, Int.reducePow, Int.reduceLT, Int.reduceLE, Int.reduceAdd, Int.reduceSub, Int.reduceMul, Int.reduceEq, Int.reduceNe, decide_eq_false g1]
  refine CallA_pure hrg ?_
  by_cases hg : goodC c
  rotate_left
  · simp -implicitDefEqProofs -proj only [go_sem, Nat.reduceBEq, Nat.reduceLT, Nat.reduceLeDiff, Nat.reduceAdd, Nat.reduceMul, ↓reduceIte, Int.reduceToNat, Int.reducePow, Int.reduceLT, Int.reduceLE, Int.reduceAdd, Int.reduceSub, Int.reduceMul, Int.reduceEq, Int.reduceNe, decide_eq_false hg]
    exact LendV_eq rfl
  by_cases g3 : 7 < (c.ss.length : Int)
  · simp -implicitDefEqProofs -proj only [go_sem, Nat.reduceBEq, Nat.reduceLT, Nat.reduceLeDiff, Nat.reduceAdd, Nat.reduceMul, ↓reduceIte, Int.reduceToNat, Int.reducePow, Int.reduceLT, Int.reduceLE, Int.reduceAdd, Int.reduceSub, Int.reduceMul, Int.reduceEq, Int.reduceNe, rowS_len, decide_eq_true hg, decide_eq_true g3]
    exact LendV_eq rfl
  by_cases g4 : f < c.f
  · simp -implicitDefEqProofs -proj only [go_sem, Nat.reduceBEq, Nat.reduceLT, Nat.reduceLeDiff, Nat.reduceAdd, Nat.reduceMul, ↓reduceIte, Int.reduceToNat, Int.reducePow, Int.reduceLT, Int.reduceLE, Int.reduceAdd, Int.reduceSub, Int.reduceMul, Int.reduceEq, Int.reduceNe, rowS_len, decide_eq_true hg, decide_eq_false g3, decide_eq_true g4]
    exact LendV_eq rfl
  by_cases g5 : t < f
  · simp -implicitDefEqProofs -proj only [go_sem, Nat.reduceBEq, Nat.reduceLT, Nat.reduceLeDiff, Nat.reduceAdd, Nat.reduceMul, ↓reduceIte, Int.reduceToNat, Int.reducePow, Int.reduceLT, Int.reduceLE, Int.reduceAdd, Int.reduceSub, Int.reduceMul, Int.reduceEq, Int.reduceNe, rowS_len, decide_eq_true hg, decide_eq_false g3, decide_eq_false g4, decide_eq_true g5]
    exact LendV_eq rfl
  by_cases g6 : c.t < t
  · simp -implicitDefEqProofs -proj only [go_sem, Nat.reduceBEq, Nat.reduceLT, Nat.reduceLeDiff, Nat.reduceAdd, Nat.reduceMul, ↓reduceIte, Int.reduceToNat, Int.reducePow, Int.reduceLT, Int.reduceLE, Int.reduceAdd, Int.reduceSub, Int.reduceMul, Int.reduceEq, Int.reduceNe, rowS_len, decide_eq_true hg, decide_eq_false g3, decide_eq_false g4, decide_eq_false g5, decide_eq_true g6]
    exact LendV_eq rfl
  have hgm := moreC_good (f := f) (t := t) hg (by omega) (by omega) (by omega) (by omega)
  have hcm := moreC_fit (f := f) (t := t) hc (by omega) hff hft
  have hx := Holds_yes hc hg
  have hy := Holds_new hcm hgm
  obtain ⟨⟨a1, a2⟩, ⟨a3, a4⟩, a5, a6, a7, a8⟩ := hg.hd
  have hR := holds_fwd a3
  have hS := holds_fwd (c := moreC c f t) a3
  have hl1 := hR.len
  have hl2 := hS.len
  have hml := more_len (f := f) (t := t) a3 (by omega) a8
  have hcl1 : c.t + 1 - c.f ≤ 4000 := by omega
  replace hl2 : ((holdsR (moreC c f t)).length : Int) ≤ c.t + 1 - c.f := hl2
  have hat1 := AtU_ok (l := holdsR c) (x := day) (by omega) hR.sorted
  have hat2 := AtU_ok (l := holdsR (moreC c f t)) (x := day) (by omega) hS.sorted
  have hc1 := CountU_ok (a := holdsR c)
  have hc2 := CountU_ok (a := holdsR (moreC c f t))
  have hsum := Sum_ok17 (i := (c.ss.length : Int))
  have hor : (f ≤ day ∧ day ≤ t) → borI .u64 ((setC c day : Nat) : Int) ((sumN (c.ss.length : Int) : Nat) : Int) = ((setC (moreC c f t) day : Nat) : Int) := fun h => by
    have := congrFun (orW_more (f := f) (t := t) (c := c) (by omega) a8) day
    rw [orW, if_pos h] at this
    exact this.symm
  have hno : ¬ (f ≤ day ∧ day ≤ t) → setC (moreC c f t) day = setC c day := fun h => by rw [setC_more, if_neg h, Nat.or_zero]
  have hv1 : day < c.f ∨ c.t < day → atF (holdsR c) day = none ∧ atF (holdsR (moreC c f t)) day = none := fun h => ⟨hR.out (by omega), hS.out (by rcases h with h | h; exact .inl h; exact .inr (by show c.t + 1 ≤ day; omega))⟩
  have hv2 : c.f ≤ day → day ≤ c.t → atF (holdsR c) day = some ((setC c day : Nat) : Int) ∧ atF (holdsR (moreC c f t)) day = some ((setC (moreC c f t) day : Nat) : Int) := fun h1 h2 => ⟨hR.at' h1 (by omega), hS.at' h1 (by show day < c.t + 1; omega)⟩
  clear hR hS
  have hssm : (moreC c f t).ss = c.ss ++ [⟨1, f, t⟩] := rfl
  have hdm : coreX (moreC c f t) = coreV c.cur c.f c.t (rowM c.ms) (rowS (c.ss ++ [⟨1, f, t⟩])) (rowP c.ps) := rfl
  rw [hdm] at hy
  generalize holdsR (moreC c f t) = Y at *
  generalize holdsR c = X at *
  generalize setC (moreC c f t) day = vy at *
  generalize setC c day = vx at *
  simp -implicitDefEqProofs -proj only [go_sem, Nat.reduceBEq, Nat.reduceLT, Nat.reduceLeDiff, Nat.reduceAdd, Nat.reduceMul, ↓reduceIte, Int.reduceToNat, Int.reducePow, Int.reduceLT, Int.reduceLE, Int.reduceAdd, Int.reduceSub, Int.reduceMul, Int.reduceEq, Int.reduceNe, rowS_len, decide_eq_true hg, decide_eq_false g3, decide_eq_false g4, decide_eq_false g5, decide_eq_false g6]
  refine AllocA_intro (fun b9 hb9 => ?_)
  replace hb9 : upd Heap.none b4 (some (coreB c)) b9 = none := hb9
  obtain ⟨n1, n2⟩ := fresh_ne hb9 upd_eq
  simp -implicitDefEqProofs -proj only [go_sem, Nat.reduceBEq, Nat.reduceLT, Nat.reduceLeDiff, Nat.reduceAdd, Nat.reduceMul, ↓reduceIte, Int.reduceToNat, Int.reducePow, Int.reduceLT, Int.reduceLE, Int.reduceAdd, Int.reduceSub, Int.reduceMul, Int.reduceEq, Int.reduceNe, n1, n2]
  refine AllocR_intro (fun bs0 hbs0 => ?_)
  replace hbs0 : upd (upd Heap.none b4 (some (coreB c))) b9 (some (coreB c)) bs0 = none := hbs0
  have hb94 : AllH (upd (upd Heap.none b4 (some (coreB c))) b9 (some (coreB c))) [(b9, coreB c), (b4, coreB c)] := ⟨upd_eq, by rw [upd_ne n1]; exact upd_eq, trivial⟩
  have hbn : (keys [(b9, coreB c), (b4, coreB c)]).Nodup := by simp [keys, n1]
  have e4 : upd (upd (upd Heap.none b4 (some (coreB c))) b9 (some (coreB c))) bs0 (some (.row 43 3 0 [])) b4 = some (coreB c) := by rw [upd_ne (fresh_ne hbs0 hb94.2.1).1]; exact hb94.2.1
  simp -implicitDefEqProofs -proj only [go_sem, Nat.reduceBEq, Nat.reduceLT, Nat.reduceLeDiff, Nat.reduceAdd, Nat.reduceMul, ↓reduceIte, Int.reduceToNat, Int.reducePow, Int.reduceLT, Int.reduceLE, Int.reduceAdd, Int.reduceSub, Int.reduceMul, Int.reduceEq, Int.reduceNe, n1, n2, e4]
  by_cases hss0 : c.ss = []
  · have hrs : rowS c.ss = [] := by rw [hss0]; rfl
    refine AppendA_noneE hrs rfl ?_
    have ha0 : AllH (upd (upd (upd Heap.none b4 (some (coreB c))) b9 (some (coreB c))) bs0 (some (.row 43 3 0 []))) [(bs0, .row 43 3 0 (rowS c.ss)), (b9, coreB c), (b4, coreB c)] := by rw [hrs]; exact alloc_all hbs0 hb94
    have hn0 : (keys [(bs0, Blk.row 43 3 0 (rowS c.ss)), (b9, coreB c), (b4, coreB c)]).Nodup := by rw [hrs]; exact alloc_keys hbs0 hb94 hbn
    simp -implicitDefEqProofs -proj only [go_sem, Nat.reduceBEq, Nat.reduceLT, Nat.reduceLeDiff, Nat.reduceAdd, Nat.reduceMul, ↓reduceIte, Int.reduceToNat, Int.reducePow, Int.reduceLT, Int.reduceLE, Int.reduceAdd, Int.reduceSub, Int.reduceMul, Int.reduceEq, Int.reduceNe, ha0.2.2.1]
    obtain ⟨kr0, k9, k4, _⟩ := id ha0
    try simp -implicitDefEqProofs -proj only [go_sem, Nat.reduceBEq, Nat.reduceLT, Nat.reduceLeDiff, Nat.reduceAdd, Nat.reduceMul, ↓reduceIte, Int.reduceToNat, Int.reducePow, Int.reduceLT, Int.reduceLE, Int.reduceAdd, Int.reduceSub, Int.reduceMul, Int.reduceEq, Int.reduceNe]
    refine AllocR_intro (fun bs1 hbs1 => ?_)
    replace hbs1 : upd (upd (upd Heap.none b4 (some (coreB c))) b9 (some (coreB c))) bs0 (some (.row 43 3 0 [])) bs1 = none := hbs1
    simp -implicitDefEqProofs -proj only [go_sem, Nat.reduceBEq, Nat.reduceLT, Nat.reduceLeDiff, Nat.reduceAdd, Nat.reduceMul, ↓reduceIte, Int.reduceToNat, Int.reducePow, Int.reduceLT, Int.reduceLE, Int.reduceAdd, Int.reduceSub, Int.reduceMul, Int.reduceEq, Int.reduceNe]
    refine AppendA_growR (xs := rowS c.ss) (y := [.int .i64 1, .int .i64 f, .int .i64 t]) (t := 43) (capc := 1) [(b9, coreB c), (b4, coreB c)] rfl (AllH_upd hbs1 ha0) hn0 upd_eq (by first | exact rowS_len.symm | (rw [rowS_len]; omega) | (simp -implicitDefEqProofs only [rowS_len]; done) | (simp [rowS_len, hss0]; done)) (by rw [rowS_len]; omega) (by rw [rowS_len]; omega) (fun H1 c1 cap1 ha1 hn1 => ?_)
    rw [rowS_sn] at ha1 hn1
    obtain ⟨kr1, k9', k4', _⟩ := id ha1
    have hd : ¬ b9 = c1 ∧ ¬ c1 = b9 ∧ ¬ b4 = c1 ∧ ¬ c1 = b4 ∧ ¬ b4 = b9 ∧ ¬ b9 = b4 := by
      simp -implicitDefEqProofs only [keys, List.map_cons, List.map_nil, List.nodup_cons, List.mem_cons, List.not_mem_nil, or_false, not_or, not_false_eq_true, List.nodup_nil, and_true] at hn1
      exact ⟨fun e => hn1.1.1 e.symm, hn1.1.1, fun e => hn1.1.2 e.symm, hn1.1.2, fun e => hn1.2 e.symm, hn1.2⟩
    obtain ⟨d1, d2, d3, d4, d5, d6⟩ := hd
    simp -implicitDefEqProofs -proj only [go_sem, Nat.reduceBEq, Nat.reduceLT, Nat.reduceLeDiff, Nat.reduceAdd, Nat.reduceMul, ↓reduceIte, Int.reduceToNat, Int.reducePow, Int.reduceLT, Int.reduceLE, Int.reduceAdd, Int.reduceSub, Int.reduceMul, Int.reduceEq, Int.reduceNe, k4', k9', d1, d2, d3, d4, d5, d6]
    refine PCallA_pure hx ?_
    simp -implicitDefEqProofs -proj only [go_sem, Nat.reduceBEq, Nat.reduceLT, Nat.reduceLeDiff, Nat.reduceAdd, Nat.reduceMul, ↓reduceIte, Int.reduceToNat, Int.reducePow, Int.reduceLT, Int.reduceLE, Int.reduceAdd, Int.reduceSub, Int.reduceMul, Int.reduceEq, Int.reduceNe, k4', k9', kr1, d1, d2, d3, d4, d5, d6]
    refine PCallA_new hy (lend_cons (lend_core3 (.refl _) (lend_own ((upd_ne d1).trans kr1) (by simp [rowS, hss0])) (.refl _)) lend_nil) ?_
    simp -implicitDefEqProofs -proj only [go_sem, Nat.reduceBEq, Nat.reduceLT, Nat.reduceLeDiff, Nat.reduceAdd, Nat.reduceMul, ↓reduceIte, Int.reduceToNat, Int.reducePow, Int.reduceLT, Int.reduceLE, Int.reduceAdd, Int.reduceSub, Int.reduceMul, Int.reduceEq, Int.reduceNe, k4', k9', d1, d2, d3, d4, d5, d6]
    refine AllocA_intro (fun b10 hb10 => ?_)
    replace hb10 : upd H1 b9 (some _) b10 = none := hb10
    obtain ⟨⟨s1, s2⟩, hb10'⟩ := peel17 hb10
    obtain ⟨s3, s4⟩ := fresh_ne hb10' k4'
    simp -implicitDefEqProofs -proj only [go_sem, Nat.reduceBEq, Nat.reduceLT, Nat.reduceLeDiff, Nat.reduceAdd, Nat.reduceMul, ↓reduceIte, Int.reduceToNat, Int.reducePow, Int.reduceLT, Int.reduceLE, Int.reduceAdd, Int.reduceSub, Int.reduceMul, Int.reduceEq, Int.reduceNe, k4', k9', d1, d2, d3, d4, d5, d6, s1, s2, s3, s4]
    refine AllocA_intro (fun b11 hb11 => ?_)
    replace hb11 : upd (upd H1 b9 (some _)) b10 (some _) b11 = none := hb11
    obtain ⟨⟨u1, u2⟩, hb11'⟩ := peel17 hb11
    obtain ⟨⟨u3, u4⟩, hb11''⟩ := peel17 hb11'
    obtain ⟨u5, u6⟩ := fresh_ne hb11'' k4'
    have w2 : IntKind.i64.wrap ((X.length : Int) + 2) = (X.length : Int) + 2 := by rw [IntKind.wrap_i64]; omega
    by_cases e1 : c.f ≤ day ∧ day ≤ c.t
    · obtain ⟨x1, x2⟩ := hv2 e1.1 e1.2
      rw [x1] at hat1
      rw [x2] at hat2
      simp -implicitDefEqProofs -proj only [go_sem, Nat.reduceBEq, Nat.reduceLT, Nat.reduceLeDiff, Nat.reduceAdd, Nat.reduceMul, ↓reduceIte, Int.reduceToNat, Int.reducePow, Int.reduceLT, Int.reduceLE, Int.reduceAdd, Int.reduceSub, Int.reduceMul, Int.reduceEq, Int.reduceNe, k4', k9', d1, d2, d3, d4, d5, d6, s1, s2, s3, s4, u1, u2, u3, u4, u5, u6]
      refine CallA_pure hat1 ?_
      simp -implicitDefEqProofs -proj only [go_sem, Nat.reduceBEq, Nat.reduceLT, Nat.reduceLeDiff, Nat.reduceAdd, Nat.reduceMul, ↓reduceIte, Int.reduceToNat, Int.reducePow, Int.reduceLT, Int.reduceLE, Int.reduceAdd, Int.reduceSub, Int.reduceMul, Int.reduceEq, Int.reduceNe, optU, k4', k9', d1, d2, d3, d4, d5, d6, s1, s2, s3, s4, u1, u2, u3, u4, u5, u6]
      refine CallA_pure hat2 ?_
      by_cases e2 : f ≤ day
      · by_cases e3 : day ≤ t
        · have x3 := hor ⟨e2, e3⟩
          simp -implicitDefEqProofs -proj only [go_sem, Nat.reduceBEq, Nat.reduceLT, Nat.reduceLeDiff, Nat.reduceAdd, Nat.reduceMul, ↓reduceIte, Int.reduceToNat, Int.reducePow, Int.reduceLT, Int.reduceLE, Int.reduceAdd, Int.reduceSub, Int.reduceMul, Int.reduceEq, Int.reduceNe, optU, k4', k9', d1, d2, d3, d4, d5, d6, s1, s2, s3, s4, u1, u2, u3, u4, u5, u6, decide_eq_true e2, decide_eq_true e3, rowS_len]
          refine CallA_pure hsum ?_
          simp -implicitDefEqProofs -proj only [go_sem, Nat.reduceBEq, Nat.reduceLT, Nat.reduceLeDiff, Nat.reduceAdd, Nat.reduceMul, ↓reduceIte, Int.reduceToNat, Int.reducePow, Int.reduceLT, Int.reduceLE, Int.reduceAdd, Int.reduceSub, Int.reduceMul, Int.reduceEq, Int.reduceNe, optU, k4', k9', d1, d2, d3, d4, d5, d6, s1, s2, s3, s4, u1, u2, u3, u4, u5, u6, x3, decide_true]
          refine PCallA_pure hc2 ?_
          simp -implicitDefEqProofs -proj only [go_sem, Nat.reduceBEq, Nat.reduceLT, Nat.reduceLeDiff, Nat.reduceAdd, Nat.reduceMul, ↓reduceIte, Int.reduceToNat, Int.reducePow, Int.reduceLT, Int.reduceLE, Int.reduceAdd, Int.reduceSub, Int.reduceMul, Int.reduceEq, Int.reduceNe, k4', k9', d1, d2, d3, d4, d5, d6, s1, s2, s3, s4, u1, u2, u3, u4, u5, u6]
          refine CallA_pure hc1 ?_
          simp -implicitDefEqProofs -proj only [go_sem, Nat.reduceBEq, Nat.reduceLT, Nat.reduceLeDiff, Nat.reduceAdd, Nat.reduceMul, ↓reduceIte, Int.reduceToNat, Int.reducePow, Int.reduceLT, Int.reduceLE, Int.reduceAdd, Int.reduceSub, Int.reduceMul, Int.reduceEq, Int.reduceNe, k4', k9', d1, d2, d3, d4, d5, d6, s1, s2, s3, s4, u1, u2, u3, u4, u5, u6, w2, decide_eq_true (show (Y.length : Int) ≤ (X.length : Int) + 2 by omega)]
          exact LendV_eq rfl
        · have x3 := hno (fun h => e3 h.2)
          subst x3
          simp -implicitDefEqProofs -proj only [go_sem, Nat.reduceBEq, Nat.reduceLT, Nat.reduceLeDiff, Nat.reduceAdd, Nat.reduceMul, ↓reduceIte, Int.reduceToNat, Int.reducePow, Int.reduceLT, Int.reduceLE, Int.reduceAdd, Int.reduceSub, Int.reduceMul, Int.reduceEq, Int.reduceNe, optU, k4', k9', d1, d2, d3, d4, d5, d6, s1, s2, s3, s4, u1, u2, u3, u4, u5, u6, decide_eq_true e2, decide_eq_false e3, decide_true]
          refine PCallA_pure hc2 ?_
          simp -implicitDefEqProofs -proj only [go_sem, Nat.reduceBEq, Nat.reduceLT, Nat.reduceLeDiff, Nat.reduceAdd, Nat.reduceMul, ↓reduceIte, Int.reduceToNat, Int.reducePow, Int.reduceLT, Int.reduceLE, Int.reduceAdd, Int.reduceSub, Int.reduceMul, Int.reduceEq, Int.reduceNe, k4', k9', d1, d2, d3, d4, d5, d6, s1, s2, s3, s4, u1, u2, u3, u4, u5, u6]
          refine CallA_pure hc1 ?_
          simp -implicitDefEqProofs -proj only [go_sem, Nat.reduceBEq, Nat.reduceLT, Nat.reduceLeDiff, Nat.reduceAdd, Nat.reduceMul, ↓reduceIte, Int.reduceToNat, Int.reducePow, Int.reduceLT, Int.reduceLE, Int.reduceAdd, Int.reduceSub, Int.reduceMul, Int.reduceEq, Int.reduceNe, k4', k9', d1, d2, d3, d4, d5, d6, s1, s2, s3, s4, u1, u2, u3, u4, u5, u6, w2, decide_eq_true (show (Y.length : Int) ≤ (X.length : Int) + 2 by omega)]
          exact LendV_eq rfl
      · have x3 := hno (fun h => e2 h.1)
        subst x3
        simp -implicitDefEqProofs -proj only [go_sem, Nat.reduceBEq, Nat.reduceLT, Nat.reduceLeDiff, Nat.reduceAdd, Nat.reduceMul, ↓reduceIte, Int.reduceToNat, Int.reducePow, Int.reduceLT, Int.reduceLE, Int.reduceAdd, Int.reduceSub, Int.reduceMul, Int.reduceEq, Int.reduceNe, optU, k4', k9', d1, d2, d3, d4, d5, d6, s1, s2, s3, s4, u1, u2, u3, u4, u5, u6, decide_eq_false e2, decide_true]
        refine PCallA_pure hc2 ?_
        simp -implicitDefEqProofs -proj only [go_sem, Nat.reduceBEq, Nat.reduceLT, Nat.reduceLeDiff, Nat.reduceAdd, Nat.reduceMul, ↓reduceIte, Int.reduceToNat, Int.reducePow, Int.reduceLT, Int.reduceLE, Int.reduceAdd, Int.reduceSub, Int.reduceMul, Int.reduceEq, Int.reduceNe, k4', k9', d1, d2, d3, d4, d5, d6, s1, s2, s3, s4, u1, u2, u3, u4, u5, u6]
        refine CallA_pure hc1 ?_
        simp -implicitDefEqProofs -proj only [go_sem, Nat.reduceBEq, Nat.reduceLT, Nat.reduceLeDiff, Nat.reduceAdd, Nat.reduceMul, ↓reduceIte, Int.reduceToNat, Int.reducePow, Int.reduceLT, Int.reduceLE, Int.reduceAdd, Int.reduceSub, Int.reduceMul, Int.reduceEq, Int.reduceNe, k4', k9', d1, d2, d3, d4, d5, d6, s1, s2, s3, s4, u1, u2, u3, u4, u5, u6, w2, decide_eq_true (show (Y.length : Int) ≤ (X.length : Int) + 2 by omega)]
        exact LendV_eq rfl
    · obtain ⟨x1, x2⟩ := hv1 (by omega)
      rw [x1] at hat1
      rw [x2] at hat2
      simp -implicitDefEqProofs -proj only [go_sem, Nat.reduceBEq, Nat.reduceLT, Nat.reduceLeDiff, Nat.reduceAdd, Nat.reduceMul, ↓reduceIte, Int.reduceToNat, Int.reducePow, Int.reduceLT, Int.reduceLE, Int.reduceAdd, Int.reduceSub, Int.reduceMul, Int.reduceEq, Int.reduceNe, k4', k9', d1, d2, d3, d4, d5, d6, s1, s2, s3, s4, u1, u2, u3, u4, u5, u6]
      refine CallA_pure hat1 ?_
      simp -implicitDefEqProofs -proj only [go_sem, Nat.reduceBEq, Nat.reduceLT, Nat.reduceLeDiff, Nat.reduceAdd, Nat.reduceMul, ↓reduceIte, Int.reduceToNat, Int.reducePow, Int.reduceLT, Int.reduceLE, Int.reduceAdd, Int.reduceSub, Int.reduceMul, Int.reduceEq, Int.reduceNe, optU, k4', k9', d1, d2, d3, d4, d5, d6, s1, s2, s3, s4, u1, u2, u3, u4, u5, u6]
      refine CallA_pure hat2 ?_
      simp -implicitDefEqProofs -proj only [go_sem, Nat.reduceBEq, Nat.reduceLT, Nat.reduceLeDiff, Nat.reduceAdd, Nat.reduceMul, ↓reduceIte, Int.reduceToNat, Int.reducePow, Int.reduceLT, Int.reduceLE, Int.reduceAdd, Int.reduceSub, Int.reduceMul, Int.reduceEq, Int.reduceNe, optU, k4', k9', d1, d2, d3, d4, d5, d6, s1, s2, s3, s4, u1, u2, u3, u4, u5, u6, decide_true]
      refine PCallA_pure hc2 ?_
      simp -implicitDefEqProofs -proj only [go_sem, Nat.reduceBEq, Nat.reduceLT, Nat.reduceLeDiff, Nat.reduceAdd, Nat.reduceMul, ↓reduceIte, Int.reduceToNat, Int.reducePow, Int.reduceLT, Int.reduceLE, Int.reduceAdd, Int.reduceSub, Int.reduceMul, Int.reduceEq, Int.reduceNe, k4', k9', d1, d2, d3, d4, d5, d6, s1, s2, s3, s4, u1, u2, u3, u4, u5, u6]
      refine CallA_pure hc1 ?_
      simp -implicitDefEqProofs -proj only [go_sem, Nat.reduceBEq, Nat.reduceLT, Nat.reduceLeDiff, Nat.reduceAdd, Nat.reduceMul, ↓reduceIte, Int.reduceToNat, Int.reducePow, Int.reduceLT, Int.reduceLE, Int.reduceAdd, Int.reduceSub, Int.reduceMul, Int.reduceEq, Int.reduceNe, k4', k9', d1, d2, d3, d4, d5, d6, s1, s2, s3, s4, u1, u2, u3, u4, u5, u6, w2, decide_eq_true (show (Y.length : Int) ≤ (X.length : Int) + 2 by omega)]
      exact LendV_eq rfl

  · refine AppendA_dataR (xs := []) [(b9, coreB c), (b4, coreB c)] rfl (alloc_all (x := .row 43 3 0 []) hbs0 hb94) (alloc_keys (x := .row 43 3 0 []) hbs0 hb94 hbn) rfl (fun e => hss0 (List.map_eq_nil_iff.1 e)) (by simp [rowS_len]; omega) (by simp [rowS_len]; omega) (fun H0 b0 cap0 ha0 hn0 => ?_)
    rw [List.nil_append] at ha0 hn0
    obtain ⟨kr0, k9, k4, _⟩ := id ha0
    try simp -implicitDefEqProofs -proj only [go_sem, Nat.reduceBEq, Nat.reduceLT, Nat.reduceLeDiff, Nat.reduceAdd, Nat.reduceMul, ↓reduceIte, Int.reduceToNat, Int.reducePow, Int.reduceLT, Int.reduceLE, Int.reduceAdd, Int.reduceSub, Int.reduceMul, Int.reduceEq, Int.reduceNe]
    refine AllocR_intro (fun bs1 hbs1 => ?_)
    replace hbs1 : H0 bs1 = none := hbs1
    simp -implicitDefEqProofs -proj only [go_sem, Nat.reduceBEq, Nat.reduceLT, Nat.reduceLeDiff, Nat.reduceAdd, Nat.reduceMul, ↓reduceIte, Int.reduceToNat, Int.reducePow, Int.reduceLT, Int.reduceLE, Int.reduceAdd, Int.reduceSub, Int.reduceMul, Int.reduceEq, Int.reduceNe]
    refine AppendA_growR (xs := rowS c.ss) (y := [.int .i64 1, .int .i64 f, .int .i64 t]) (t := 43) (capc := 1) [(b9, coreB c), (b4, coreB c)] rfl (AllH_upd hbs1 ha0) hn0 upd_eq (by first | exact rowS_len.symm | (rw [rowS_len]; omega) | (simp -implicitDefEqProofs only [rowS_len]; done) | (simp [rowS_len, hss0]; done)) (by rw [rowS_len]; omega) (by rw [rowS_len]; omega) (fun H1 c1 cap1 ha1 hn1 => ?_)
    rw [rowS_sn] at ha1 hn1
    obtain ⟨kr1, k9', k4', _⟩ := id ha1
    have hd : ¬ b9 = c1 ∧ ¬ c1 = b9 ∧ ¬ b4 = c1 ∧ ¬ c1 = b4 ∧ ¬ b4 = b9 ∧ ¬ b9 = b4 := by
      simp -implicitDefEqProofs only [keys, List.map_cons, List.map_nil, List.nodup_cons, List.mem_cons, List.not_mem_nil, or_false, not_or, not_false_eq_true, List.nodup_nil, and_true] at hn1
      exact ⟨fun e => hn1.1.1 e.symm, hn1.1.1, fun e => hn1.1.2 e.symm, hn1.1.2, fun e => hn1.2 e.symm, hn1.2⟩
    obtain ⟨d1, d2, d3, d4, d5, d6⟩ := hd
    simp -implicitDefEqProofs -proj only [go_sem, Nat.reduceBEq, Nat.reduceLT, Nat.reduceLeDiff, Nat.reduceAdd, Nat.reduceMul, ↓reduceIte, Int.reduceToNat, Int.reducePow, Int.reduceLT, Int.reduceLE, Int.reduceAdd, Int.reduceSub, Int.reduceMul, Int.reduceEq, Int.reduceNe, k4', k9', d1, d2, d3, d4, d5, d6]
    refine PCallA_pure hx ?_
    simp -implicitDefEqProofs -proj only [go_sem, Nat.reduceBEq, Nat.reduceLT, Nat.reduceLeDiff, Nat.reduceAdd, Nat.reduceMul, ↓reduceIte, Int.reduceToNat, Int.reducePow, Int.reduceLT, Int.reduceLE, Int.reduceAdd, Int.reduceSub, Int.reduceMul, Int.reduceEq, Int.reduceNe, k4', k9', kr1, d1, d2, d3, d4, d5, d6]
    refine PCallA_new hy (lend_cons (lend_core3 (.refl _) (lend_own ((upd_ne d1).trans kr1) (by simp [rowS, hss0])) (.refl _)) lend_nil) ?_
    simp -implicitDefEqProofs -proj only [go_sem, Nat.reduceBEq, Nat.reduceLT, Nat.reduceLeDiff, Nat.reduceAdd, Nat.reduceMul, ↓reduceIte, Int.reduceToNat, Int.reducePow, Int.reduceLT, Int.reduceLE, Int.reduceAdd, Int.reduceSub, Int.reduceMul, Int.reduceEq, Int.reduceNe, k4', k9', d1, d2, d3, d4, d5, d6]
    refine AllocA_intro (fun b10 hb10 => ?_)
    replace hb10 : upd H1 b9 (some _) b10 = none := hb10
    obtain ⟨⟨s1, s2⟩, hb10'⟩ := peel17 hb10
    obtain ⟨s3, s4⟩ := fresh_ne hb10' k4'
    simp -implicitDefEqProofs -proj only [go_sem, Nat.reduceBEq, Nat.reduceLT, Nat.reduceLeDiff, Nat.reduceAdd, Nat.reduceMul, ↓reduceIte, Int.reduceToNat, Int.reducePow, Int.reduceLT, Int.reduceLE, Int.reduceAdd, Int.reduceSub, Int.reduceMul, Int.reduceEq, Int.reduceNe, k4', k9', d1, d2, d3, d4, d5, d6, s1, s2, s3, s4]
    refine AllocA_intro (fun b11 hb11 => ?_)
    replace hb11 : upd (upd H1 b9 (some _)) b10 (some _) b11 = none := hb11
    obtain ⟨⟨u1, u2⟩, hb11'⟩ := peel17 hb11
    obtain ⟨⟨u3, u4⟩, hb11''⟩ := peel17 hb11'
    obtain ⟨u5, u6⟩ := fresh_ne hb11'' k4'
    have w2 : IntKind.i64.wrap ((X.length : Int) + 2) = (X.length : Int) + 2 := by rw [IntKind.wrap_i64]; omega
    by_cases e1 : c.f ≤ day ∧ day ≤ c.t
    · obtain ⟨x1, x2⟩ := hv2 e1.1 e1.2
      rw [x1] at hat1
      rw [x2] at hat2
      simp -implicitDefEqProofs -proj only [go_sem, Nat.reduceBEq, Nat.reduceLT, Nat.reduceLeDiff, Nat.reduceAdd, Nat.reduceMul, ↓reduceIte, Int.reduceToNat, Int.reducePow, Int.reduceLT, Int.reduceLE, Int.reduceAdd, Int.reduceSub, Int.reduceMul, Int.reduceEq, Int.reduceNe, k4', k9', d1, d2, d3, d4, d5, d6, s1, s2, s3, s4, u1, u2, u3, u4, u5, u6]
      refine CallA_pure hat1 ?_
      simp -implicitDefEqProofs -proj only [go_sem, Nat.reduceBEq, Nat.reduceLT, Nat.reduceLeDiff, Nat.reduceAdd, Nat.reduceMul, ↓reduceIte, Int.reduceToNat, Int.reducePow, Int.reduceLT, Int.reduceLE, Int.reduceAdd, Int.reduceSub, Int.reduceMul, Int.reduceEq, Int.reduceNe, optU, k4', k9', d1, d2, d3, d4, d5, d6, s1, s2, s3, s4, u1, u2, u3, u4, u5, u6]
      refine CallA_pure hat2 ?_
      by_cases e2 : f ≤ day
      · by_cases e3 : day ≤ t
        · have x3 := hor ⟨e2, e3⟩
          simp -implicitDefEqProofs -proj only [go_sem, Nat.reduceBEq, Nat.reduceLT, Nat.reduceLeDiff, Nat.reduceAdd, Nat.reduceMul, ↓reduceIte, Int.reduceToNat, Int.reducePow, Int.reduceLT, Int.reduceLE, Int.reduceAdd, Int.reduceSub, Int.reduceMul, Int.reduceEq, Int.reduceNe, optU, k4', k9', d1, d2, d3, d4, d5, d6, s1, s2, s3, s4, u1, u2, u3, u4, u5, u6, decide_eq_true e2, decide_eq_true e3, rowS_len]
          refine CallA_pure hsum ?_
          simp -implicitDefEqProofs -proj only [go_sem, Nat.reduceBEq, Nat.reduceLT, Nat.reduceLeDiff, Nat.reduceAdd, Nat.reduceMul, ↓reduceIte, Int.reduceToNat, Int.reducePow, Int.reduceLT, Int.reduceLE, Int.reduceAdd, Int.reduceSub, Int.reduceMul, Int.reduceEq, Int.reduceNe, optU, k4', k9', d1, d2, d3, d4, d5, d6, s1, s2, s3, s4, u1, u2, u3, u4, u5, u6, x3, decide_true]
          refine PCallA_pure hc2 ?_
          simp -implicitDefEqProofs -proj only [go_sem, Nat.reduceBEq, Nat.reduceLT, Nat.reduceLeDiff, Nat.reduceAdd, Nat.reduceMul, ↓reduceIte, Int.reduceToNat, Int.reducePow, Int.reduceLT, Int.reduceLE, Int.reduceAdd, Int.reduceSub, Int.reduceMul, Int.reduceEq, Int.reduceNe, k4', k9', d1, d2, d3, d4, d5, d6, s1, s2, s3, s4, u1, u2, u3, u4, u5, u6]
          refine CallA_pure hc1 ?_
          simp -implicitDefEqProofs -proj only [go_sem, Nat.reduceBEq, Nat.reduceLT, Nat.reduceLeDiff, Nat.reduceAdd, Nat.reduceMul, ↓reduceIte, Int.reduceToNat, Int.reducePow, Int.reduceLT, Int.reduceLE, Int.reduceAdd, Int.reduceSub, Int.reduceMul, Int.reduceEq, Int.reduceNe, k4', k9', d1, d2, d3, d4, d5, d6, s1, s2, s3, s4, u1, u2, u3, u4, u5, u6, w2, decide_eq_true (show (Y.length : Int) ≤ (X.length : Int) + 2 by omega)]
          exact LendV_eq rfl
        · have x3 := hno (fun h => e3 h.2)
          subst x3
          simp -implicitDefEqProofs -proj only [go_sem, Nat.reduceBEq, Nat.reduceLT, Nat.reduceLeDiff, Nat.reduceAdd, Nat.reduceMul, ↓reduceIte, Int.reduceToNat, Int.reducePow, Int.reduceLT, Int.reduceLE, Int.reduceAdd, Int.reduceSub, Int.reduceMul, Int.reduceEq, Int.reduceNe, optU, k4', k9', d1, d2, d3, d4, d5, d6, s1, s2, s3, s4, u1, u2, u3, u4, u5, u6, decide_eq_true e2, decide_eq_false e3, decide_true]
          refine PCallA_pure hc2 ?_
          simp -implicitDefEqProofs -proj only [go_sem, Nat.reduceBEq, Nat.reduceLT, Nat.reduceLeDiff, Nat.reduceAdd, Nat.reduceMul, ↓reduceIte, Int.reduceToNat, Int.reducePow, Int.reduceLT, Int.reduceLE, Int.reduceAdd, Int.reduceSub, Int.reduceMul, Int.reduceEq, Int.reduceNe, k4', k9', d1, d2, d3, d4, d5, d6, s1, s2, s3, s4, u1, u2, u3, u4, u5, u6]
          refine CallA_pure hc1 ?_
          simp -implicitDefEqProofs -proj only [go_sem, Nat.reduceBEq, Nat.reduceLT, Nat.reduceLeDiff, Nat.reduceAdd, Nat.reduceMul, ↓reduceIte, Int.reduceToNat, Int.reducePow, Int.reduceLT, Int.reduceLE, Int.reduceAdd, Int.reduceSub, Int.reduceMul, Int.reduceEq, Int.reduceNe, k4', k9', d1, d2, d3, d4, d5, d6, s1, s2, s3, s4, u1, u2, u3, u4, u5, u6, w2, decide_eq_true (show (Y.length : Int) ≤ (X.length : Int) + 2 by omega)]
          exact LendV_eq rfl
      · have x3 := hno (fun h => e2 h.1)
        subst x3
        simp -implicitDefEqProofs -proj only [go_sem, Nat.reduceBEq, Nat.reduceLT, Nat.reduceLeDiff, Nat.reduceAdd, Nat.reduceMul, ↓reduceIte, Int.reduceToNat, Int.reducePow, Int.reduceLT, Int.reduceLE, Int.reduceAdd, Int.reduceSub, Int.reduceMul, Int.reduceEq, Int.reduceNe, optU, k4', k9', d1, d2, d3, d4, d5, d6, s1, s2, s3, s4, u1, u2, u3, u4, u5, u6, decide_eq_false e2, decide_true]
        refine PCallA_pure hc2 ?_
        simp -implicitDefEqProofs -proj only [go_sem, Nat.reduceBEq, Nat.reduceLT, Nat.reduceLeDiff, Nat.reduceAdd, Nat.reduceMul, ↓reduceIte, Int.reduceToNat, Int.reducePow, Int.reduceLT, Int.reduceLE, Int.reduceAdd, Int.reduceSub, Int.reduceMul, Int.reduceEq, Int.reduceNe, k4', k9', d1, d2, d3, d4, d5, d6, s1, s2, s3, s4, u1, u2, u3, u4, u5, u6]
        refine CallA_pure hc1 ?_
        simp -implicitDefEqProofs -proj only [go_sem, Nat.reduceBEq, Nat.reduceLT, Nat.reduceLeDiff, Nat.reduceAdd, Nat.reduceMul, ↓reduceIte, Int.reduceToNat, Int.reducePow, Int.reduceLT, Int.reduceLE, Int.reduceAdd, Int.reduceSub, Int.reduceMul, Int.reduceEq, Int.reduceNe, k4', k9', d1, d2, d3, d4, d5, d6, s1, s2, s3, s4, u1, u2, u3, u4, u5, u6, w2, decide_eq_true (show (Y.length : Int) ≤ (X.length : Int) + 2 by omega)]
        exact LendV_eq rfl
    · obtain ⟨x1, x2⟩ := hv1 (by omega)
      rw [x1] at hat1
      rw [x2] at hat2
      simp -implicitDefEqProofs -proj only [go_sem, Nat.reduceBEq, Nat.reduceLT, Nat.reduceLeDiff, Nat.reduceAdd, Nat.reduceMul, ↓reduceIte, Int.reduceToNat, Int.reducePow, Int.reduceLT, Int.reduceLE, Int.reduceAdd, Int.reduceSub, Int.reduceMul, Int.reduceEq, Int.reduceNe, k4', k9', d1, d2, d3, d4, d5, d6, s1, s2, s3, s4, u1, u2, u3, u4, u5, u6]
      refine CallA_pure hat1 ?_
      simp -implicitDefEqProofs -proj only [go_sem, Nat.reduceBEq, Nat.reduceLT, Nat.reduceLeDiff, Nat.reduceAdd, Nat.reduceMul, ↓reduceIte, Int.reduceToNat, Int.reducePow, Int.reduceLT, Int.reduceLE, Int.reduceAdd, Int.reduceSub, Int.reduceMul, Int.reduceEq, Int.reduceNe, optU, k4', k9', d1, d2, d3, d4, d5, d6, s1, s2, s3, s4, u1, u2, u3, u4, u5, u6]
      refine CallA_pure hat2 ?_
      simp -implicitDefEqProofs -proj only [go_sem, Nat.reduceBEq, Nat.reduceLT, Nat.reduceLeDiff, Nat.reduceAdd, Nat.reduceMul, ↓reduceIte, Int.reduceToNat, Int.reducePow, Int.reduceLT, Int.reduceLE, Int.reduceAdd, Int.reduceSub, Int.reduceMul, Int.reduceEq, Int.reduceNe, optU, k4', k9', d1, d2, d3, d4, d5, d6, s1, s2, s3, s4, u1, u2, u3, u4, u5, u6, decide_true]
      refine PCallA_pure hc2 ?_
      simp -implicitDefEqProofs -proj only [go_sem, Nat.reduceBEq, Nat.reduceLT, Nat.reduceLeDiff, Nat.reduceAdd, Nat.reduceMul, ↓reduceIte, Int.reduceToNat, Int.reducePow, Int.reduceLT, Int.reduceLE, Int.reduceAdd, Int.reduceSub, Int.reduceMul, Int.reduceEq, Int.reduceNe, k4', k9', d1, d2, d3, d4, d5, d6, s1, s2, s3, s4, u1, u2, u3, u4, u5, u6]
      refine CallA_pure hc1 ?_
      simp -implicitDefEqProofs -proj only [go_sem, Nat.reduceBEq, Nat.reduceLT, Nat.reduceLeDiff, Nat.reduceAdd, Nat.reduceMul, ↓reduceIte, Int.reduceToNat, Int.reducePow, Int.reduceLT, Int.reduceLE, Int.reduceAdd, Int.reduceSub, Int.reduceMul, Int.reduceEq, Int.reduceNe, k4', k9', d1, d2, d3, d4, d5, d6, s1, s2, s3, s4, u1, u2, u3, u4, u5, u6, w2, decide_eq_true (show (Y.length : Int) ≤ (X.length : Int) + 2 by omega)]
      exact LendV_eq rfl

end Go.Proofs.Ytmkennmppdmnhaa.Abs
