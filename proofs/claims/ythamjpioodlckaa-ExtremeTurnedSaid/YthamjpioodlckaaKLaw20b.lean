/- The law ExtremeTurned. No claim stands here. -/
import Derived.Test.YthamjpioodlckaaKLaw20
set_option linter.unusedSimpArgs false
set_option linter.unusedVariables false
namespace Go.Proofs.Ythamjpioodlckaa.Abs
open Go Go.RowKit Go.Proofs
attribute [local go_sem] RunC_seq AF_n AF_r AF_b St_n St_t St_H Fst_mk Snd_mk RunC_ops RunC_cond RunC_block RunC_loop RunC_exit RunC_ret RunC_skip RunO_nil RunO_code RunO_code_ret RunO_code_exit RunO_blk RunO_blk_ret RunO_blk_exit RunL_nil RunL_guard GuardA_tt GuardA_ff GuardA_tf GuardA_ft GuardA_void CondA_t CondA_f PickA_t PickA_f RunL_mov RunL_pick RunL_alloc RunL_box RunL_load LoadA_ptr LoadB_1 LoadB_n LoadA_dptr LoadA_dptr_n RunL_store StoreA_ptr StoreB_box RunL_bin Bin_add Bin_sub Bin_mul Bin_quo Bin_rem Bin_shl Bin_shr Bin_andI Bin_orI Bin_xorI Bin_eql Bin_neq Bin_lss Bin_leq Bin_gtr Bin_geq RunL_binb Bin_beql Bin_bneq RunL_un UnA_not UnA_neg RunL_conv convV MapA_some RunL_nilCheck nilV RunL_mkfn RunL_fieldAddr faV RunL_field FieldA_1 FieldA_n RunL_elemAddr EAddrA_sl EAddrA_own EptrA_eq RunL_build BuildA_some RunL_extract ExtA_eq RunL_len lenV_sl lenV_nilsl lenV_own RunL_slen RunL_idxStr IdxSA_eq slenV RunL_minmax mmV minmaxL RunL_call RunL_callv CallvA_fn putS ev evL evO evP eqK eqKs EqB_agg RunL_eqAgg EqA_t EqA_f evQ buildC fits_agg cellsAV_agg fits_d cellsAV_d fits_nilp cellsAV_nilp fits_nilsl cellsAV_nilsl fits_nilfn cellsAV_nilfn fits_ptr cellsAV_ptr fits_eptr cellsAV_eptr fits_dptr cellsAV_dptr fits_own cellsAV_own fits_fn cellsAV_fn rowV_fits rowV_cells rowV_len lenAV setSeg nth seg mapD repeatL putT_get upd_get argT keepT_cons keepT_nil keepH_cons keepH_nil cond_true cond_false VC_true finW resW resL resOne LoopQ_exit LoopQ_ret List.cons_append List.nil_append Bool.not_true Bool.not_false Bool.and_true Bool.and_self Nat.lt_add_left_iff_pos Nat.zero_add Nat.add_zero List.drop_succ_cons List.drop_zero List.take_succ_cons List.take_zero beq_self_eq_true Bool.false_eq_true RunC_dops RunL_loadS RunL_loadD LoadDA_dptr RunL_storeS StoreSA_ptr RunL_pcall RunL_pcallv PCallvA_fn newsOk and_self and_true true_and loadW_ptr LoadK_1 LoadK_n upd_upd RunL_buildSlice BSliceA_some RunL_buildSliceD frzL frz cutL LoadA_eptr LoadE_row RunL_append RunL_slice SliceA_sl StoreA_eptr List.length_cons List.length_nil Nat.min_def Int.cast_ofNat_Int Int.natCast_zero Int.natCast_one decide_true decide_false List.getElem?_cons_zero List.getElem?_cons_succ RunC_rangef CallvA_yld putL_nil putL_cons RangeQ_exit RangeQ_ret
/-- A row turned, and raised. -/
def linV (s t v : Int) : Int := s * v + t
def mapR (s t : Int) (R : List Run) : List Run := R.map fun r => ⟨r.f, r.t, linV s t r.v⟩
def mapG (s t : Int) (g : Grp) : Grp := ⟨g.f, linV s t g.v, g.w, s * g.r, g.c⟩
theorem linV_inj {s t a b : Int} (hs : s = 1 ∨ s = -1) : linV s t a = linV s t b ↔ a = b := by
  unfold linV; rcases hs with rfl | rfl <;> omega
theorem linV_sub {s t a b : Int} : linV s t a - linV s t b = s * (a - b) := by unfold linV; rw [Int.mul_sub]; omega
theorem mapR_fwd {s t : Int} (hs : s = 1 ∨ s = -1) {val : Int → Int} {hi : Int} : ∀ {R : List Run} {lo : Int}, FwdOK val lo hi R → FwdOK (fun x => linV s t (val x)) lo hi (mapR s t R)
  | [], lo, h => h
  | a :: R, lo, ⟨g1, g2, g3, g4, g5⟩ => by
    refine ⟨g1, g2, fun x h1 h2 => by show linV s t (val x) = _; rw [g3 x h1 h2], fun q hq => ?_, mapR_fwd hs g5⟩
    cases R with
    | nil => cases hq
    | cons b R =>
      cases hq
      exact fun e => g4 b rfl ((linV_inj hs).1 e)
theorem mapR_runs {s t : Int} (hs : s = 1 ∨ s = -1) {l : List Int} : runs 0 (l.map (linV s t)) = mapR s t (runs 0 l) := by
  refine (runs_eq (val := fun x => linV s t (valL 0 l x)) ?_ fun i hi => ?_).symm
  · rw [List.length_map]; exact mapR_fwd hs (runs_fwd 0 l)
  · rw [List.length_map] at hi
    rw [valL_get hi, List.getElem_map]
theorem mapR_len {s t w r : Int} (hs : s = 1 ∨ s = -1) : ∀ {l : List Run} {a : Run}, runLen w (s * r) ⟨a.f, a.t, linV s t a.v⟩ (mapR s t l) = runLen w r a l
  | [], a => rfl
  | b :: l, a => by
    show runLen w (s * r) _ (⟨b.f, b.t, linV s t b.v⟩ :: mapR s t l) = _
    rw [runLen, runLen]
    simp -implicitDefEqProofs only [linV_sub]
    have e : (b.f - a.f = w ∧ s * (b.v - a.v) = s * r) ↔ (b.f - a.f = w ∧ b.v - a.v = r) := by
      rcases hs with rfl | rfl <;> omega
    by_cases h : b.f - a.f = w ∧ b.v - a.v = r
    · rw [if_pos h, if_pos (e.2 h), mapR_len hs]
    · rw [if_neg h, if_neg (fun k => h (e.1 k))]
theorem mapR_grp {s t : Int} (hs : s = 1 ∨ s = -1) {l : List Run} {a : Run} : grpOf ⟨a.f, a.t, linV s t a.v⟩ (mapR s t l) = (mapG s t (grpOf a l).1, (grpOf a l).2) := by
  cases l with
  | nil =>
    show ((⟨a.f, linV s t a.v, 0, 0, 1⟩ : Grp), 1) = _
    simp [mapG, grpOf]
  | cons b l =>
    have h := mapR_len (t := t) (w := b.f - a.f) (r := b.v - a.v) hs (l := b :: l) (a := a)
    show ((⟨a.f, linV s t a.v, b.f - a.f, linV s t b.v - linV s t a.v, ((runLen (b.f - a.f) (linV s t b.v - linV s t a.v) ⟨a.f, a.t, linV s t a.v⟩ (mapR s t (b :: l)) + 1 : Nat) : Int)⟩ : Grp), runLen (b.f - a.f) (linV s t b.v - linV s t a.v) ⟨a.f, a.t, linV s t a.v⟩ (mapR s t (b :: l)) + 1) = _
    rw [linV_sub, h]
    rfl
theorem mapR_groups {s t : Int} (hs : s = 1 ∨ s = -1) : ∀ (n : Nat) {R : List Run}, R.length ≤ n → groups (mapR s t R) = (groups R).map (mapG s t)
  | _, [], _ => rfl
  | 0, a :: l, h => absurd h (by simp)
  | n + 1, a :: l, h => by
    obtain ⟨h1, h2, _⟩ := @grpOf_le a l
    simp -implicitDefEqProofs only [List.length_cons] at h
    have hd : (mapR s t (a :: l)).drop (grpOf a l).2 = mapR s t ((a :: l).drop (grpOf a l).2) := List.map_drop.symm
    show groups (⟨a.f, a.t, linV s t a.v⟩ :: mapR s t l) = _
    rw [groups_cons, groups_cons, mapR_grp hs]
    show mapG s t (grpOf a l).1 :: groups ((mapR s t (a :: l)).drop (grpOf a l).2) = _
    rw [hd, mapR_groups hs n (by rw [List.length_drop]; simp -implicitDefEqProofs only [List.length_cons]; omega)]
    rfl
theorem gps_map {s t : Int} (hs : s = 1 ∨ s = -1) {l : List Int} : gps (l.map (linV s t)) = (gps l).map (mapG s t) := by
  unfold gps
  rw [mapR_runs hs, mapR_groups hs _ (Nat.le_refl _)]
def mapE (s t : Int) (p : Int × Int) : Int × Int := (linV s t p.1, p.2)
theorem endA_map {s t : Int} {g : Grp} : endA (mapG s t g) = mapE s t (endA g) := rfl
theorem endB_map {s t : Int} {g : Grp} : endB (mapG s t g) = mapE s t (endB g) := by
  unfold endB mapG mapE linV
  simp -implicitDefEqProofs only [Prod.mk.injEq, and_true]
  rw [Int.mul_add, show (g.c - 1) * (s * g.r) = s * ((g.c - 1) * g.r) by rw [Int.mul_left_comm]]
  omega
theorem pick_map {s t : Int} {bt bt' : Int → Int → Bool} (hb : ∀ a b, bt' (linV s t a) (linV s t b) = bt a b) {b c : Int × Int} : pickB bt' (mapE s t b) (mapE s t c) = mapE s t (pickB bt b c) := by
  unfold pickB
  show (if bt' (linV s t c.1) (linV s t b.1) then mapE s t c else mapE s t b) = _
  rw [hb]
  split <;> rfl
theorem fold_map {s t : Int} {bt bt' : Int → Int → Bool} (hb : ∀ a b, bt' (linV s t a) (linV s t b) = bt a b) : ∀ {G : List Grp} {b : Int × Int}, foldG bt' (G.map (mapG s t)) (mapE s t b) = mapE s t (foldG bt G b)
  | [], b => rfl
  | g :: G, b => by
    show foldG bt' (G.map (mapG s t)) (pickB bt' (pickB bt' (mapE s t b) (endA (mapG s t g))) (endB (mapG s t g))) = _
    rw [endA_map, endB_map, pick_map hb, pick_map hb, fold_map hb]
    rfl
theorem best_map {s t : Int} (hs : s = 1 ∨ s = -1) {bt bt' : Int → Int → Bool} (hb : ∀ a b, bt' (linV s t a) (linV s t b) = bt a b) {l : List Int} (hl : l ≠ []) : bestG bt' (gps (l.map (linV s t))) = mapE s t (bestG bt (gps l)) := by
  rw [gps_map hs]
  obtain ⟨h0, _⟩ := gps_first hl
  generalize gps l = G at *
  match G, h0 with
  | g :: G, _ => exact fold_map hb (G := g :: G) (b := endA g)
theorem fold_bound {bt : Int → Int → Bool} {P : Int → Prop} : ∀ {G : List Grp} {b : Int × Int}, P b.1 → (∀ g ∈ G, P (endA g).1 ∧ P (endB g).1) → P (foldG bt G b).1
  | [], b, h, _ => h
  | g :: G, b, h, hG => by
    obtain ⟨h1, h2⟩ := hG g (List.mem_cons_self ..)
    have hp : ∀ {b c : Int × Int}, P b.1 → P c.1 → P (pickB bt b c).1 := fun hb hc => by
      unfold pickB
      split <;> assumption
    exact fold_bound (G := G) (b := pickB bt (pickB bt b (endA g)) (endB g)) (hp (hp h h1) h2) (fun g' hg => hG g' (List.mem_cons_of_mem _ hg))
theorem best_bound {bt : Int → Int → Bool} {l : List Int} (h : CurL l) : -6917529027641081856 ≤ (bestG bt (gps l)).1 ∧ (bestG bt (gps l)).1 ≤ 6917529027641081856 := by
  have hok := gps_ok h
  obtain ⟨h0, _⟩ := gps_first h.1
  have key : ∀ g : Grp, GrpOK g → (-6917529027641081856 ≤ (endA g).1 ∧ (endA g).1 ≤ 6917529027641081856) ∧ (-6917529027641081856 ≤ (endB g).1 ∧ (endB g).1 ≤ 6917529027641081856) := fun g hg => by
    have hr := hg.r (g.c - 1) (by have := hg.c; omega) (Int.le_refl _)
    have hv := hg.v
    unfold endA endB
    simp -implicitDefEqProofs only []
    omega
  generalize gps l = G at *
  match G, h0 with
  | g :: G, _ => exact fold_bound (P := fun n => -6917529027641081856 ≤ n ∧ n ≤ 6917529027641081856) (key g (hok g (List.mem_cons_self ..))).1 (fun g' hg => key g' (hok g' hg))
theorem peel2 {H : Heap} {j k : Nat} {v : Blk} (h : upd H j (some v) k = none) : (¬ k = j ∧ ¬ j = k) ∧ H k = none := by
  rw [upd_get] at h
  split at h
  · cases h
  · next e => exact ⟨⟨fun h => e h.symm, e⟩, h⟩
structure TX where
  i : Nat
  c : Nat
  cap : Nat
  d : Nat
  dap : Nat
theorem ux_i {i c cap d dap : Nat} : (TX.mk i c cap d dap).i = i := (rfl)
theorem ux_c {i c cap d dap : Nat} : (TX.mk i c cap d dap).c = c := (rfl)
theorem ux_cap {i c cap d dap : Nat} : (TX.mk i c cap d dap).cap = cap := (rfl)
theorem ux_d {i c cap d dap : Nat} : (TX.mk i c cap d dap).d = d := (rfl)
theorem ux_dap {i c cap d dap : Nat} : (TX.mk i c cap d dap).dap = dap := (rfl)
theorem all_swap {H : Heap} {xs ys : List (Nat × Blk)} (h : AllH H (xs ++ ys)) : AllH H (ys ++ xs) := AllH_app.2 ((AllH_app.1 h).symm)
theorem keys_swap {xs ys : List (Nat × Blk)} (h : (keys (xs ++ ys)).Nodup) : (keys (ys ++ xs)).Nodup := by
  simp -implicitDefEqProofs only [keys, List.map_append, List.nodup_append] at h ⊢
  exact ⟨h.2.1, h.1, fun a ha b hb e => h.2.2 b hb a ha e.symm⟩
def turnL (tu mo : List Int) (y : TX) : List (Nat × Blk) := rowH 3 1 y.c y.cap (rowI (tu.take y.i)) ++ rowH 3 1 y.d y.dap (rowI (mo.take y.i))
theorem rowI_sn {l : List Int} {x : Int} : rowI l ++ [[.int .i64 x]] = rowI (l ++ [x]) := by simp [rowI]
set_option maxRecDepth 20000 in
theorem ExtremeTurned_ok {l : List Int} {by' : Int} (hfl : AllFit l) (hln : l.length ≤ 9223372036854775807) (hfb : Fit by') : DataW Try.prog f_poundagelaw20_ExtremeTurned [slI l, i64 by'] (bv true) := by
  refine CallW_intro comp_poundagelaw20_ExtremeTurned (by simp) ?_
  simp -implicitDefEqProofs -proj only [go_sem, Nat.reduceBEq, Nat.reduceLT, Nat.reduceLeDiff, Nat.reduceAdd, Nat.reduceMul, ↓reduceIte, Int.reduceToNat, Int.reducePow, Int.reduceLT, Int.reduceLE, Int.reduceAdd, Int.reduceSub, Int.reduceMul, Int.reduceEq, Int.reduceNe]
  refine CallA_pure alive20_ok ?_
  by_cases g1 : l.length = 0
  · simp -implicitDefEqProofs -proj only [go_sem, Nat.reduceBEq, Nat.reduceLT, Nat.reduceLeDiff, Nat.reduceAdd, Nat.reduceMul, ↓reduceIte, Int.reduceToNat, Int.reducePow, Int.reduceLT, Int.reduceLE, Int.reduceAdd, Int.reduceSub, Int.reduceMul, Int.reduceEq, Int.reduceNe, rowI_len, decide_eq_true (show (l.length : Int) = 0 by omega)]
    exact LendV_eq rfl
  by_cases g2 : 400 < (l.length : Int)
  · simp -implicitDefEqProofs -proj only [go_sem, Nat.reduceBEq, Nat.reduceLT, Nat.reduceLeDiff, Nat.reduceAdd, Nat.reduceMul, ↓reduceIte, Int.reduceToNat, Int.reducePow, Int.reduceLT, Int.reduceLE, Int.reduceAdd, Int.reduceSub, Int.reduceMul, Int.reduceEq, Int.reduceNe, rowI_len, decide_eq_false (show ¬ (l.length : Int) = 0 by omega), decide_eq_true g2]
    exact LendV_eq rfl
  by_cases g3 : 288230376151711744 < by'
  · simp -implicitDefEqProofs -proj only [go_sem, Nat.reduceBEq, Nat.reduceLT, Nat.reduceLeDiff, Nat.reduceAdd, Nat.reduceMul, ↓reduceIte, Int.reduceToNat, Int.reducePow, Int.reduceLT, Int.reduceLE, Int.reduceAdd, Int.reduceSub, Int.reduceMul, Int.reduceEq, Int.reduceNe, rowI_len, decide_eq_false (show ¬ (l.length : Int) = 0 by omega), decide_eq_false g2, decide_eq_true g3]
    exact LendV_eq rfl
  by_cases g4 : by' < -288230376151711744
  · simp -implicitDefEqProofs -proj only [go_sem, Nat.reduceBEq, Nat.reduceLT, Nat.reduceLeDiff, Nat.reduceAdd, Nat.reduceMul, ↓reduceIte, Int.reduceToNat, Int.reducePow, Int.reduceLT, Int.reduceLE, Int.reduceAdd, Int.reduceSub, Int.reduceMul, Int.reduceEq, Int.reduceNe, rowI_len, decide_eq_false (show ¬ (l.length : Int) = 0 by omega), decide_eq_false g2, decide_eq_false g3, decide_eq_true g4]
    exact LendV_eq rfl
  obtain ⟨tu, htu⟩ : ∃ tu, l.map (linV (-1) 0) = tu := ⟨_, rfl⟩
  obtain ⟨mo, hmo⟩ : ∃ mo, l.map (linV 1 by') = mo := ⟨_, rfl⟩
  have hlt : tu.length = l.length := by rw [← htu, List.length_map]
  have hlm : mo.length = l.length := by rw [← hmo, List.length_map]
  simp -implicitDefEqProofs -proj only [go_sem, Nat.reduceBEq, Nat.reduceLT, Nat.reduceLeDiff, Nat.reduceAdd, Nat.reduceMul, ↓reduceIte, Int.reduceToNat, Int.reducePow, Int.reduceLT, Int.reduceLE, Int.reduceAdd, Int.reduceSub, Int.reduceMul, Int.reduceEq, Int.reduceNe, rowI_len, decide_eq_false (show ¬ (l.length : Int) = 0 by omega), decide_eq_false g2, decide_eq_false g3, decide_eq_false g4]
  refine LoopA_k (fun y : TX => y.i ≤ l.length ∧ (∀ (j : Nat) (h : j < l.length), j < y.i → -288230376151711744 ≤ l[j] ∧ l[j] ≤ 288230376151711744) ∧ (keys (turnL tu mo y)).Nodup) 131 (fun y => [(0, slI l), (1, i64 by'), (39, slI l), (40, i64 l.length), (41, i64 y.i), (5, rowV 0 1 y.c y.cap (rowI (tu.take y.i))), (6, rowV 0 1 y.d y.dap (rowI (mo.take y.i)))]) (turnL tu mo) (fun y => l.length - y.i) ⟨0, 0, 0, 0, 0⟩ ⟨Nat.zero_le _, fun j _ h => absurd h (Nat.not_lt_zero _), by simp [keys, turnL, ux_i, rowI, rowH]⟩ rfl ?_ ?_ ?_
  · simp -implicitDefEqProofs -proj only [go_sem, Nat.reduceBEq, Nat.reduceLT, Nat.reduceLeDiff, Nat.reduceAdd, Nat.reduceMul, ↓reduceIte, Int.reduceToNat, Int.reducePow, Int.reduceLT, Int.reduceLE, Int.reduceAdd, Int.reduceSub, Int.reduceMul, Int.reduceEq, Int.reduceNe, AllAt, ux_i]
    rfl
  · simp -implicitDefEqProofs -proj only [go_sem, Nat.reduceBEq, Nat.reduceLT, Nat.reduceLeDiff, Nat.reduceAdd, Nat.reduceMul, ↓reduceIte, Int.reduceToNat, Int.reducePow, Int.reduceLT, Int.reduceLE, Int.reduceAdd, Int.reduceSub, Int.reduceMul, Int.reduceEq, Int.reduceNe, AllH, turnL, ux_i, rowI, List.take_zero, List.map_nil, rowH_nil]
  · rintro ⟨i, c, cap, d, dap⟩ ⟨hi, hsm, hn⟩
    simp -implicitDefEqProofs only [ux_i] at hi hsm
    have hall := keepH_all hn
    obtain ⟨H, hH⟩ : ∃ H, keepH (turnL tu mo ⟨i, c, cap, d, dap⟩) = H := ⟨_, rfl⟩
    rw [hH] at hall
    simp -implicitDefEqProofs only [turnL, ux_i, ux_c, ux_cap, ux_d, ux_dap] at hall hn
    by_cases h : i < l.length
    · have hel := rowI_nth h
      have hstep : (-288230376151711744 ≤ l[i] ∧ l[i] ≤ 288230376151711744) → ∀ (j : Nat) (h : j < l.length), j < i + 1 → -288230376151711744 ≤ l[j] ∧ l[j] ≤ 288230376151711744 := by
        intro e j h1 h2
        by_cases hj : j = i
        · subst hj; exact e
        · exact hsm j h1 (by omega)
      have t1 : tu.take (i + 1) = tu.take i ++ [linV (-1) 0 l[i]] := by rw [List.take_succ_eq_append_getElem (by omega)]; simp [← htu]
      have t2 : mo.take (i + 1) = mo.take i ++ [linV 1 by' l[i]] := by rw [List.take_succ_eq_append_getElem (by omega)]; simp [← hmo]
      have hl1 : (rowI (tu.take i)).length = i := by rw [rowI_len, List.length_take]; omega
      have hl2 : (rowI (mo.take i)).length = i := by rw [rowI_len, List.length_take]; omega
      have hl3 : (rowI (tu.take (i + 1))).length = i + 1 := by rw [rowI_len, List.length_take]; omega
      have hl4 : (rowI (mo.take (i + 1))).length = i + 1 := by rw [rowI_len, List.length_take]; omega
      have hne1 : rowI (tu.take (i + 1)) ≠ [] := by intro e; rw [e] at hl3; simp at hl3
      have hne2 : rowI (mo.take (i + 1)) ≠ [] := by intro e; rw [e] at hl4; simp at hl4
      generalize l[i] = x at *
      simp -implicitDefEqProofs -proj only [go_sem, Nat.reduceBEq, Nat.reduceLT, Nat.reduceLeDiff, Nat.reduceAdd, Nat.reduceMul, ↓reduceIte, Int.reduceToNat, Int.reducePow, Int.reduceLT, Int.reduceLE, Int.reduceAdd, Int.reduceSub, Int.reduceMul, Int.reduceEq, Int.reduceNe, ux_i, ux_c, ux_cap, ux_d, ux_dap, hH, decide_eq_true (show (i : Int) < l.length by omega)]
      refine ElemA_at _ (by omega) hel ?_
      by_cases c1 : 288230376151711744 < x
      · simp -implicitDefEqProofs -proj only [go_sem, Nat.reduceBEq, Nat.reduceLT, Nat.reduceLeDiff, Nat.reduceAdd, Nat.reduceMul, ↓reduceIte, Int.reduceToNat, Int.reducePow, Int.reduceLT, Int.reduceLE, Int.reduceAdd, Int.reduceSub, Int.reduceMul, Int.reduceEq, Int.reduceNe, decide_eq_true c1]
        exact LendV_eq rfl
      by_cases c2 : x < -288230376151711744
      · simp -implicitDefEqProofs -proj only [go_sem, Nat.reduceBEq, Nat.reduceLT, Nat.reduceLeDiff, Nat.reduceAdd, Nat.reduceMul, ↓reduceIte, Int.reduceToNat, Int.reducePow, Int.reduceLT, Int.reduceLE, Int.reduceAdd, Int.reduceSub, Int.reduceMul, Int.reduceEq, Int.reduceNe, decide_eq_false c1, decide_eq_true c2]
        exact LendV_eq rfl
      have w1 : IntKind.i64.wrap (0 - x) = linV (-1) 0 x := by unfold linV; rw [IntKind.wrap_i64]; omega
      have w2 : IntKind.i64.wrap (x + by') = linV 1 by' x := by unfold linV; rw [IntKind.wrap_i64]; omega
      simp -implicitDefEqProofs -proj only [go_sem, Nat.reduceBEq, Nat.reduceLT, Nat.reduceLeDiff, Nat.reduceAdd, Nat.reduceMul, ↓reduceIte, Int.reduceToNat, Int.reducePow, Int.reduceLT, Int.reduceLE, Int.reduceAdd, Int.reduceSub, Int.reduceMul, Int.reduceEq, Int.reduceNe, decide_eq_false c1, decide_eq_false c2, w1]
      refine AllocR_intro (fun bs hs => ?_)
      replace hs : H bs = none := hs
      simp -implicitDefEqProofs -proj only [go_sem, Nat.reduceBEq, Nat.reduceLT, Nat.reduceLeDiff, Nat.reduceAdd, Nat.reduceMul, ↓reduceIte, Int.reduceToNat, Int.reducePow, Int.reduceLT, Int.reduceLE, Int.reduceAdd, Int.reduceSub, Int.reduceMul, Int.reduceEq, Int.reduceNe]
      refine AppendA_grow (xs := rowI (tu.take i)) (y := [.int .i64 (linV (-1) 0 x)]) (t := 3) (capc := 1) (rowH 3 1 d dap (rowI (mo.take i))) rfl (AllH_upd hs hall) hn (by simp -implicitDefEqProofs -proj only [go_sem, Nat.reduceBEq, Nat.reduceLT, Nat.reduceLeDiff, Nat.reduceAdd, Nat.reduceMul, ↓reduceIte, Int.reduceToNat, Int.reducePow, Int.reduceLT, Int.reduceLE, Int.reduceAdd, Int.reduceSub, Int.reduceMul, Int.reduceEq, Int.reduceNe]) (by rw [hl1]; omega) (by rw [hl1]; omega) (fun H' c' cap' ha hk => ?_)
      rw [rowI_sn, ← t1] at ha hk
      simp -implicitDefEqProofs -proj only [go_sem, Nat.reduceBEq, Nat.reduceLT, Nat.reduceLeDiff, Nat.reduceAdd, Nat.reduceMul, ↓reduceIte, Int.reduceToNat, Int.reducePow, Int.reduceLT, Int.reduceLE, Int.reduceAdd, Int.reduceSub, Int.reduceMul, Int.reduceEq, Int.reduceNe, w2]
      refine AllocR_intro (fun bs2 hs2 => ?_)
      replace hs2 : H' bs2 = none := hs2
      simp -implicitDefEqProofs -proj only [go_sem, Nat.reduceBEq, Nat.reduceLT, Nat.reduceLeDiff, Nat.reduceAdd, Nat.reduceMul, ↓reduceIte, Int.reduceToNat, Int.reducePow, Int.reduceLT, Int.reduceLE, Int.reduceAdd, Int.reduceSub, Int.reduceMul, Int.reduceEq, Int.reduceNe]
      refine AppendA_grow (xs := rowI (mo.take i)) (y := [.int .i64 (linV 1 by' x)]) (t := 3) (capc := 1) (rowH 3 1 c' cap' (rowI (tu.take (i + 1)))) rfl (AllH_upd hs2 (all_swap ha)) (keys_swap hk) (by simp -implicitDefEqProofs -proj only [go_sem, Nat.reduceBEq, Nat.reduceLT, Nat.reduceLeDiff, Nat.reduceAdd, Nat.reduceMul, ↓reduceIte, Int.reduceToNat, Int.reducePow, Int.reduceLT, Int.reduceLE, Int.reduceAdd, Int.reduceSub, Int.reduceMul, Int.reduceEq, Int.reduceNe]) (by rw [hl2]; omega) (by rw [hl2]; omega) (fun H2 d' dap' ha2 hk2 => ?_)
      rw [rowI_sn, ← t2] at ha2 hk2
      simp -implicitDefEqProofs -proj only [go_sem, Nat.reduceBEq, Nat.reduceLT, Nat.reduceLeDiff, Nat.reduceAdd, Nat.reduceMul, ↓reduceIte, Int.reduceToNat, Int.reducePow, Int.reduceLT, Int.reduceLE, Int.reduceAdd, Int.reduceSub, Int.reduceMul, Int.reduceEq, Int.reduceNe]
      refine LoopQ_k ⟨i + 1, c', cap', d', dap'⟩ ⟨by show i + 1 ≤ l.length; omega, hstep (by omega), keys_swap hk2⟩ (by show l.length - (i + 1) < l.length - i; omega) rfl ?_ (all_swap ha2)
      simp -implicitDefEqProofs -proj only [go_sem, Nat.reduceBEq, Nat.reduceLT, Nat.reduceLeDiff, Nat.reduceAdd, Nat.reduceMul, ↓reduceIte, Int.reduceToNat, Int.reducePow, Int.reduceLT, Int.reduceLE, Int.reduceAdd, Int.reduceSub, Int.reduceMul, Int.reduceEq, Int.reduceNe, AllAt, ux_i, ux_c, ux_cap, ux_d, ux_dap, i64_succ (show i < 9223372036854775807 by omega), rowV_ne hne1, rowV_ne hne2, hl1, hl2, hl3, hl4]
    · have hi' : i = l.length := by omega
      subst hi'
      have hne : l ≠ [] := fun e => g1 (by rw [e]; rfl)
      have hcl : CurL l := ⟨hne, by omega, fun v hv => by obtain ⟨j, hj, rfl⟩ := List.getElem_of_mem hv; have := hsm j hj hj; unfold smallV; omega⟩
      have hct : CurL tu := ⟨fun e => by rw [e] at hlt; simp at hlt; omega, by omega, fun v hv => by
        rw [← htu] at hv
        obtain ⟨u, hu, rfl⟩ := List.mem_map.1 hv
        obtain ⟨j, hj, rfl⟩ := List.getElem_of_mem hu
        have := hsm j hj hj
        unfold smallV linV; omega⟩
      have hcm : CurL mo := ⟨fun e => by rw [e] at hlm; simp at hlm; omega, by omega, fun v hv => by
        rw [← hmo] at hv
        obtain ⟨u, hu, rfl⟩ := List.mem_map.1 hv
        obtain ⟨j, hj, rfl⟩ := List.getElem_of_mem hu
        have := hsm j hj hj
        unfold smallV linV; omega⟩
      have fitS : ∀ {v : Int}, smallV v → Fit v := fun h => by unfold smallV at h; unfold Fit; omega
      have o1 := ROf_data hfl (show l.length ≤ 3000 by omega)
      have o2 := ROf_new (l := tu) (allFit_of fun v hv => fitS (hct.2.2 v hv)) (by omega)
      have o3 := ROf_new (l := mo) (allFit_of fun v hv => fitS (hcm.2.2 v hv)) (by omega)
      rw [if_pos hcl] at o1
      rw [if_pos hct] at o2
      rw [if_pos hcm] at o3
      have m1 := Most_ok hcl
      have m2 := Least_ok hct
      have m3 := Most_ok hcm
      have b1 := best_map (s := -1) (t := 0) (.inr rfl) (bt := gtB) (bt' := ltB) (fun a b => by unfold ltB gtB linV; exact decide_eq_decide.2 (by omega)) hne
      have b2 := best_map (s := 1) (t := by') (.inl rfl) (bt := gtB) (bt' := gtB) (fun a b => by unfold gtB linV; exact decide_eq_decide.2 (by omega)) hne
      have hbd := best_bound (bt := gtB) hcl
      rw [htu] at b1
      rw [hmo] at b2
      rw [b1] at m2
      rw [b2] at m3
      unfold mapE linV at m2 m3
      simp -implicitDefEqProofs only [] at m2 m3
      unfold curL at o1 o2 o3 m1 m2 m3
      obtain ⟨hr1, hr2⟩ := AllH_app.1 hall
      rw [List.take_of_length_le (show tu.length ≤ l.length by omega)] at hr1
      rw [List.take_of_length_le (show mo.length ≤ l.length by omega)] at hr2
      generalize bestG gtB (gps l) = B at *
      generalize gps l = Gl at *
      generalize gps tu = Gt at *
      generalize gps mo = Gm at *
      have w1 : IntKind.i64.wrap (0 - (-1 * B.1 + 0)) = B.1 := by rw [IntKind.wrap_i64]; omega
      have w2 : IntKind.i64.wrap (B.1 + by') = B.1 + by' := by rw [IntKind.wrap_i64]; omega
      have w3 : (1 * B.1 + by') = B.1 + by' := by omega
      rw [w3] at m3
      simp -implicitDefEqProofs -proj only [go_sem, Nat.reduceBEq, Nat.reduceLT, Nat.reduceLeDiff, Nat.reduceAdd, Nat.reduceMul, ↓reduceIte, Int.reduceToNat, Int.reducePow, Int.reduceLT, Int.reduceLE, Int.reduceAdd, Int.reduceSub, Int.reduceMul, Int.reduceEq, Int.reduceNe, ux_i, ux_c, ux_cap, ux_d, ux_dap, hH, decide_eq_false (show ¬ (l.length : Int) < l.length by omega)]
      refine CallA_pure o1 ?_
      simp -implicitDefEqProofs -proj only [go_sem, Nat.reduceBEq, Nat.reduceLT, Nat.reduceLeDiff, Nat.reduceAdd, Nat.reduceMul, ↓reduceIte, Int.reduceToNat, Int.reducePow, Int.reduceLT, Int.reduceLE, Int.reduceAdd, Int.reduceSub, Int.reduceMul, Int.reduceEq, Int.reduceNe]
      rw [List.take_of_length_le (show tu.length ≤ l.length by omega), List.take_of_length_le (show mo.length ≤ l.length by omega)]
      refine AllocA_intro (fun b9 hb9 => ?_)
      replace hb9 : H b9 = none := hb9
      simp -implicitDefEqProofs -proj only [go_sem, Nat.reduceBEq, Nat.reduceLT, Nat.reduceLeDiff, Nat.reduceAdd, Nat.reduceMul, ↓reduceIte, Int.reduceToNat, Int.reducePow, Int.reduceLT, Int.reduceLE, Int.reduceAdd, Int.reduceSub, Int.reduceMul, Int.reduceEq, Int.reduceNe]
      refine CallA_new o2 (lend_cons (rowV_lend (AllH_upd hb9 hr1)) lend_nil) ?_
      simp -implicitDefEqProofs -proj only [go_sem, Nat.reduceBEq, Nat.reduceLT, Nat.reduceLeDiff, Nat.reduceAdd, Nat.reduceMul, ↓reduceIte, Int.reduceToNat, Int.reducePow, Int.reduceLT, Int.reduceLE, Int.reduceAdd, Int.reduceSub, Int.reduceMul, Int.reduceEq, Int.reduceNe]
      refine AllocA_intro (fun b11 hb11 => ?_)
      replace hb11 : upd H b9 _ b11 = none := hb11
      have n11 := peel' hb11
      simp -implicitDefEqProofs -proj only [go_sem, Nat.reduceBEq, Nat.reduceLT, Nat.reduceLeDiff, Nat.reduceAdd, Nat.reduceMul, ↓reduceIte, Int.reduceToNat, Int.reducePow, Int.reduceLT, Int.reduceLE, Int.reduceAdd, Int.reduceSub, Int.reduceMul, Int.reduceEq, Int.reduceNe, n11.1, n11.2]
      refine CallA_new o3 (lend_cons (rowV_lend (AllH_upd hb11 (AllH_upd hb9 hr2))) lend_nil) ?_
      simp -implicitDefEqProofs -proj only [go_sem, Nat.reduceBEq, Nat.reduceLT, Nat.reduceLeDiff, Nat.reduceAdd, Nat.reduceMul, ↓reduceIte, Int.reduceToNat, Int.reducePow, Int.reduceLT, Int.reduceLE, Int.reduceAdd, Int.reduceSub, Int.reduceMul, Int.reduceEq, Int.reduceNe]
      refine AllocA_intro (fun b13 hb13 => ?_)
      replace hb13 : (upd (upd (H) b9 (some _)) b11 (some _)) b13 = none := hb13
      obtain ⟨⟨m13_11, m11_13⟩, k13_11⟩ := peel2 hb13
      obtain ⟨⟨m13_9, m9_13⟩, k13_9⟩ := peel2 k13_11
      simp -implicitDefEqProofs -proj only [go_sem, Nat.reduceBEq, Nat.reduceLT, Nat.reduceLeDiff, Nat.reduceAdd, Nat.reduceMul, ↓reduceIte, Int.reduceToNat, Int.reducePow, Int.reduceLT, Int.reduceLE, Int.reduceAdd, Int.reduceSub, Int.reduceMul, Int.reduceEq, Int.reduceNe, n11.1, n11.2, m13_11, m11_13, m13_9, m9_13]
      refine CallA_pure m1 ?_
      simp -implicitDefEqProofs -proj only [go_sem, Nat.reduceBEq, Nat.reduceLT, Nat.reduceLeDiff, Nat.reduceAdd, Nat.reduceMul, ↓reduceIte, Int.reduceToNat, Int.reducePow, Int.reduceLT, Int.reduceLE, Int.reduceAdd, Int.reduceSub, Int.reduceMul, Int.reduceEq, Int.reduceNe, n11.1, n11.2, m13_11, m11_13, m13_9, m9_13]
      refine AllocA_intro (fun b15 hb15 => ?_)
      replace hb15 : (upd (upd (upd (H) b9 (some _)) b11 (some _)) b13 (some _)) b15 = none := hb15
      obtain ⟨⟨m15_13, m13_15⟩, k15_13⟩ := peel2 hb15
      obtain ⟨⟨m15_11, m11_15⟩, k15_11⟩ := peel2 k15_13
      obtain ⟨⟨m15_9, m9_15⟩, k15_9⟩ := peel2 k15_11
      simp -implicitDefEqProofs -proj only [go_sem, Nat.reduceBEq, Nat.reduceLT, Nat.reduceLeDiff, Nat.reduceAdd, Nat.reduceMul, ↓reduceIte, Int.reduceToNat, Int.reducePow, Int.reduceLT, Int.reduceLE, Int.reduceAdd, Int.reduceSub, Int.reduceMul, Int.reduceEq, Int.reduceNe, n11.1, n11.2, m13_11, m11_13, m13_9, m9_13, m15_13, m13_15, m15_11, m11_15, m15_9, m9_15]
      refine CallA_pure m2 ?_
      simp -implicitDefEqProofs -proj only [go_sem, Nat.reduceBEq, Nat.reduceLT, Nat.reduceLeDiff, Nat.reduceAdd, Nat.reduceMul, ↓reduceIte, Int.reduceToNat, Int.reducePow, Int.reduceLT, Int.reduceLE, Int.reduceAdd, Int.reduceSub, Int.reduceMul, Int.reduceEq, Int.reduceNe, n11.1, n11.2, m13_11, m11_13, m13_9, m9_13, m15_13, m13_15, m15_11, m11_15, m15_9, m9_15]
      refine AllocA_intro (fun b17 hb17 => ?_)
      replace hb17 : (upd (upd (upd (upd (H) b9 (some _)) b11 (some _)) b13 (some _)) b15 (some _)) b17 = none := hb17
      obtain ⟨⟨m17_15, m15_17⟩, k17_15⟩ := peel2 hb17
      obtain ⟨⟨m17_13, m13_17⟩, k17_13⟩ := peel2 k17_15
      obtain ⟨⟨m17_11, m11_17⟩, k17_11⟩ := peel2 k17_13
      obtain ⟨⟨m17_9, m9_17⟩, k17_9⟩ := peel2 k17_11
      simp -implicitDefEqProofs -proj only [go_sem, Nat.reduceBEq, Nat.reduceLT, Nat.reduceLeDiff, Nat.reduceAdd, Nat.reduceMul, ↓reduceIte, Int.reduceToNat, Int.reducePow, Int.reduceLT, Int.reduceLE, Int.reduceAdd, Int.reduceSub, Int.reduceMul, Int.reduceEq, Int.reduceNe, n11.1, n11.2, m13_11, m11_13, m13_9, m9_13, m15_13, m13_15, m15_11, m11_15, m15_9, m9_15, m17_15, m15_17, m17_13, m13_17, m17_11, m11_17, m17_9, m9_17]
      refine CallA_pure m3 ?_
      simp -implicitDefEqProofs -proj only [go_sem, Nat.reduceBEq, Nat.reduceLT, Nat.reduceLeDiff, Nat.reduceAdd, Nat.reduceMul, ↓reduceIte, Int.reduceToNat, Int.reducePow, Int.reduceLT, Int.reduceLE, Int.reduceAdd, Int.reduceSub, Int.reduceMul, Int.reduceEq, Int.reduceNe, n11.1, n11.2, m13_11, m11_13, m13_9, m9_13, m15_13, m13_15, m15_11, m11_15, m15_9, m9_15, m17_15, m15_17, m17_13, m13_17, m17_11, m11_17, m17_9, m9_17]
      refine AllocA_intro (fun b19 hb19 => ?_)
      replace hb19 : (upd (upd (upd (upd (upd (H) b9 (some _)) b11 (some _)) b13 (some _)) b15 (some _)) b17 (some _)) b19 = none := hb19
      obtain ⟨⟨m19_17, m17_19⟩, k19_17⟩ := peel2 hb19
      obtain ⟨⟨m19_15, m15_19⟩, k19_15⟩ := peel2 k19_17
      obtain ⟨⟨m19_13, m13_19⟩, k19_13⟩ := peel2 k19_15
      obtain ⟨⟨m19_11, m11_19⟩, k19_11⟩ := peel2 k19_13
      obtain ⟨⟨m19_9, m9_19⟩, k19_9⟩ := peel2 k19_11
      simp -implicitDefEqProofs -proj only [go_sem, Nat.reduceBEq, Nat.reduceLT, Nat.reduceLeDiff, Nat.reduceAdd, Nat.reduceMul, ↓reduceIte, Int.reduceToNat, Int.reducePow, Int.reduceLT, Int.reduceLE, Int.reduceAdd, Int.reduceSub, Int.reduceMul, Int.reduceEq, Int.reduceNe, w1, w2, decide_true, n11.1, n11.2, m13_11, m11_13, m13_9, m9_13, m15_13, m13_15, m15_11, m11_15, m15_9, m9_15, m17_15, m15_17, m17_13, m13_17, m17_11, m11_17, m17_9, m9_17, m19_17, m17_19, m19_15, m15_19, m19_13, m13_19, m19_11, m11_19, m19_9, m9_19]
      exact LendV_eq rfl
end Go.Proofs.Ythamjpioodlckaa.Abs
