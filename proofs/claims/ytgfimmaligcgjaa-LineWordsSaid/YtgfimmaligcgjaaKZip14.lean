/- Two lines put together, and the document's. No claim stands here. -/
import Derived.Test.YtgfimmaligcgjaaKCanon14
import Derived.Test.YtgfimmaligcgjaaKLaw14
set_option linter.unusedSimpArgs false
set_option linter.unusedVariables false
namespace Go.Proofs.Ytgfimmaligcgjaa.Abs
open Go Go.RowKit Go.Proofs
attribute [local go_sem] RunC_seq AF_n AF_r AF_b St_n St_t St_H Fst_mk Snd_mk RunC_ops RunC_cond RunC_block RunC_loop RunC_exit RunC_ret RunC_skip RunO_nil RunO_code RunO_code_ret RunO_code_exit RunO_blk RunO_blk_ret RunO_blk_exit RunL_nil RunL_guard GuardA_tt GuardA_ff GuardA_tf GuardA_ft GuardA_void CondA_t CondA_f PickA_t PickA_f RunL_mov RunL_pick RunL_alloc RunL_box RunL_load LoadA_ptr LoadB_1 LoadB_n LoadA_dptr LoadA_dptr_n RunL_store StoreA_ptr StoreB_box RunL_bin Bin_add Bin_sub Bin_mul Bin_quo Bin_rem Bin_shl Bin_shr Bin_andI Bin_orI Bin_xorI Bin_eql Bin_neq Bin_lss Bin_leq Bin_gtr Bin_geq RunL_binb Bin_beql Bin_bneq RunL_un UnA_not UnA_neg RunL_conv convV MapA_some RunL_nilCheck nilV RunL_mkfn RunL_fieldAddr faV RunL_field FieldA_1 FieldA_n RunL_elemAddr EAddrA_sl EAddrA_own EptrA_eq RunL_build BuildA_some RunL_extract ExtA_eq RunL_len lenV_sl lenV_nilsl lenV_own RunL_slen RunL_idxStr IdxSA_eq slenV RunL_minmax mmV minmaxL RunL_call RunL_callv CallvA_fn putS ev evL evO evP eqK eqKs EqB_agg RunL_eqAgg EqA_t EqA_f evQ buildC fits_agg cellsAV_agg fits_d cellsAV_d fits_nilp cellsAV_nilp fits_nilsl cellsAV_nilsl fits_nilfn cellsAV_nilfn fits_ptr cellsAV_ptr fits_eptr cellsAV_eptr fits_dptr cellsAV_dptr fits_own cellsAV_own fits_fn cellsAV_fn rowV_fits rowV_cells rowV_len lenAV setSeg nth seg mapD repeatL putT_get upd_get argT keepT_cons keepT_nil keepH_cons keepH_nil cond_true cond_false VC_true finW resW resL resOne LoopQ_exit LoopQ_ret List.cons_append List.nil_append Bool.not_true Bool.not_false Bool.and_true Bool.and_self Nat.lt_add_left_iff_pos Nat.zero_add Nat.add_zero List.drop_succ_cons List.drop_zero List.take_succ_cons List.take_zero beq_self_eq_true Bool.false_eq_true RunC_dops RunL_loadS RunL_storeS StoreSA_ptr RunL_pcall RunL_pcallv PCallvA_fn newsOk and_self and_true true_and loadW_ptr LoadK_1 LoadK_n upd_upd RunL_buildSlice BSliceA_some RunL_buildSliceD frzL frz cutL LoadA_eptr LoadE_row RunL_append RunL_slice SliceA_sl StoreA_eptr List.length_cons List.length_nil Nat.min_def Int.cast_ofNat_Int Int.natCast_zero Int.natCast_one decide_true decide_false List.getElem?_cons_zero List.getElem?_cons_succ RunC_rangef CallvA_yld putL_nil putL_cons RangeQ_exit RangeQ_ret
/-- Where a line's run begins; behind the last one: where the line ends. -/
def startR (R : List Run) (hi : Int) (i : Nat) : Int := match R[i]? with
  | some r => r.f
  | none => hi
theorem FwdOK.nth {val : Int → Int} {hi : Int} : ∀ {R : List Run} {lo : Int}, FwdOK val lo hi R → ∀ (i : Nat) r, R[i]? = some r → r.f = startR R hi i ∧ r.f ≤ r.t ∧ startR R hi (i + 1) = r.t + 1 ∧ r.t + 1 ≤ hi ∧ lo ≤ r.f ∧ ∀ x, r.f ≤ x → x ≤ r.t → val x = r.v := by
  intro R
  induction R with
  | nil => intro lo _ i r h; simp at h
  | cons q R ih =>
    intro lo h i r hi'
    obtain ⟨g1, g2, g3, g4, g5⟩ := h
    have hle := g5.le
    cases i with
    | zero =>
      simp -implicitDefEqProofs only [List.getElem?_cons_zero, Option.some.injEq] at hi'
      subst hi'
      refine ⟨rfl, g2, ?_, hle, by omega, g3⟩
      unfold startR
      cases R with
      | nil => exact g5.symm
      | cons s R => exact g5.1
    | succ i =>
      obtain ⟨e1, e2, e3, e4, e5, e6⟩ := ih g5 i r (by simpa using hi')
      exact ⟨by rw [e1]; simp [startR], e2, by rw [← e3]; simp [startR], e4, by omega, e6⟩
theorem startR_zero {val : Int → Int} {hi : Int} {R : List Run} {lo : Int} (h : FwdOK val lo hi R) : startR R hi 0 = lo := by
  cases R with
  | nil => exact h.symm
  | cons r R => exact h.1
theorem startR_end {R : List Run} {hi : Int} {i : Nat} (h : R[i]? = none) : startR R hi i = hi := by unfold startR; rw [h]
theorem zipG_fwd {va vb : Int → Int} {fa ha fb hb : Int} {A B : List Run} (hA : FwdOK va fa ha A) (hB : FwdOK vb fb hb B) (g : Int → Int → Int) : ∀ (n i k : Nat) (R : List Run), A.length + B.length ≤ n + i + k →
    FwdOK (fun x => g (va x) (vb x)) (max fa fb) (max (startR A ha i) (startR B hb k)) R → (max (startR A ha i) (startR B hb k) = max fa fb ∨ (max (startR A ha i) (startR B hb k) ≤ ha ∧ max (startR A ha i) (startR B hb k) ≤ hb)) →
    FwdOK (fun x => g (va x) (vb x)) (max fa fb) (max (max fa fb) (min ha hb)) (zipG g A B n i k R) := by
  have fin : ∀ (i k : Nat) (R : List Run), (A[i]? = none ∨ B[k]? = none) → FwdOK (fun x => g (va x) (vb x)) (max fa fb) (max (startR A ha i) (startR B hb k)) R →
      (max (startR A ha i) (startR B hb k) = max fa fb ∨ (max (startR A ha i) (startR B hb k) ≤ ha ∧ max (startR A ha i) (startR B hb k) ≤ hb)) → FwdOK (fun x => g (va x) (vb x)) (max fa fb) (max (max fa fb) (min ha hb)) R := by
    intro i k R h hR hm
    have hle := hR.le
    have : max (max fa fb) (min ha hb) = max (startR A ha i) (startR B hb k) := by
      rcases h with h | h
      · have := startR_end (hi := ha) h; omega
      · have := startR_end (hi := hb) h; omega
    rw [this]
    exact hR
  intro n
  induction n with
  | zero =>
    intro i k R hn hR hm
    rw [zipG]
    refine fin i k R ?_ hR hm
    by_cases h : A.length ≤ i
    · exact .inl (List.getElem?_eq_none h)
    · exact .inr (List.getElem?_eq_none (by omega))
  | succ n ih =>
    intro i k R hn hR hm
    rw [zipG]
    split
    · next x y hx hy =>
      obtain ⟨a1, a2, a3, a4, a5, a6⟩ := hA.nth i x hx
      obtain ⟨b1, b2, b3, b4, b5, b6⟩ := hB.nth k y hy
      have hf : max x.f y.f = max (startR A ha i) (startR B hb k) := by rw [a1, b1]
      have ei : startR A ha (if x.t ≤ y.t then i + 1 else i) = if x.t ≤ y.t then x.t + 1 else x.f := by split <;> simp [a3, a1]
      have ek : startR B hb (if y.t ≤ x.t then k + 1 else k) = if y.t ≤ x.t then y.t + 1 else y.f := by split <;> simp [b3, b1]
      refine ih _ _ _ (by split <;> split <;> omega) ?_ ?_
      · rw [ei, ek]
        by_cases hft : max x.f y.f ≤ min x.t y.t
        · rw [if_pos hft]
          have e : max (if x.t ≤ y.t then x.t + 1 else x.f) (if y.t ≤ x.t then y.t + 1 else y.f) = min x.t y.t + 1 := by split <;> split <;> omega
          rw [e]
          rw [← hf] at hR
          exact FwdOK.putRun (val := fun x => g (va x) (vb x)) (v := g x.v y.v) hft (fun z h1 h2 => by show g (va z) (vb z) = _; rw [a6 z (by omega) (by omega), b6 z (by omega) (by omega)]) hR
        · rw [if_neg hft]
          have e : max (if x.t ≤ y.t then x.t + 1 else x.f) (if y.t ≤ x.t then y.t + 1 else y.f) = max x.f y.f := by split <;> split <;> omega
          rw [e, hf]
          exact hR
      · rw [ei, ek]
        by_cases hft : max x.f y.f ≤ min x.t y.t
        · right
          constructor <;> split <;> split <;> omega
        · have e : max (if x.t ≤ y.t then x.t + 1 else x.f) (if y.t ≤ x.t then y.t + 1 else y.f) = max x.f y.f := by split <;> split <;> omega
          rw [e, hf]
          exact hm
    · next h =>
      refine fin i k R ?_ hR hm
      cases hx : A[i]? with
      | none => exact .inl rfl
      | some x =>
        cases hy : B[k]? with
        | none => exact .inr rfl
        | some y => exact absurd hy (h x y hx)
/-- The document's. -/
def zipN (f t : Int) (a b : List Int) : Nat := (min (f + a.length) (t + b.length) - max f t).toNat
def zipL (g : Int → Int → Int) (f t : Int) (a b : List Int) : List Int := (List.range (zipN f t a b)).map fun (i : Nat) => g (valL f a (max f t + (i : Int))) (valL t b (max f t + (i : Int)))
theorem zipL_len {g : Int → Int → Int} {f t : Int} {a b : List Int} : (zipL g f t a b).length = zipN f t a b := by simp [zipL]
theorem zip_runs {g : Int → Int → Int} {f t : Int} {a b : List Int} : zipG g (runs f a) (runs t b) ((runs f a).length + (runs t b).length) 0 0 [] = runs (max f t) (zipL g f t a b) := by
  have hA := runs_fwd f a
  have hB := runs_fwd t b
  have h := zipG_fwd hA hB g ((runs f a).length + (runs t b).length) 0 0 [] (by omega) (by rw [startR_zero hA, startR_zero hB]; rfl) (by rw [startR_zero hA, startR_zero hB]; exact .inl rfl)
  refine runs_eq (val := fun x => g (valL f a x) (valL t b x)) ?_ fun i hi => ?_
  · rw [zipL_len, show max f t + (zipN f t a b : Int) = max (max f t) (min (f + a.length) (t + b.length)) by unfold zipN; omega]
    exact h
  · simp [zipL]
def mixI (u v : Int) : Int := (IntKind.i64.wrap (IntKind.i64.wrap (2 * u.tmod 1000) + IntKind.i64.wrap (3 * v.tmod 1000))).tmod 5
theorem Mix_ok (u v : Int) : DataW Try.prog f_poundageref14_Mix [i64 u, i64 v] (i64 (mixI u v)) := by
  refine CallW_intro comp_poundageref14_Mix (by simp) ?_
  simp -implicitDefEqProofs -proj only [go_sem, Nat.reduceBEq, Nat.reduceLT, Nat.reduceLeDiff, Nat.reduceAdd, Nat.reduceMul, ↓reduceIte, Int.reduceToNat, Int.reducePow, Int.reduceLT, Int.reduceLE, Int.reduceAdd, Int.reduceSub, Int.reduceMul, Int.reduceEq, Int.reduceNe]
  (repeat' (with_reducible refine VC_intro ?_ (fun h => ?_); (focus first | decide | omega); clear h; try simp -implicitDefEqProofs -proj only [go_sem, Nat.reduceBEq, Nat.reduceLT, Nat.reduceLeDiff, Nat.reduceAdd, Nat.reduceMul, ↓reduceIte, Int.reduceToNat, Int.reducePow, Int.reduceLT, Int.reduceLE, Int.reduceAdd, Int.reduceSub, Int.reduceMul, Int.reduceEq, Int.reduceNe, eq_self]))
  exact LendV_eq rfl
def zipB (b2 b3 b4 b5 : Nat) (f t : Int) (a b : List Int) (y : BackX) : List (Nat × Blk) := rowH 3 1 y.c y.cap (rowI ((zipL mixI f t a b).take y.i)) ++ [(b5, .box 42 [i64 (max f t), rowV 1 1 y.c y.cap (rowI ((zipL mixI f t a b).take y.i))]), (b4, .box 42 [i64 0, .nilsl 1]), (b3, .box 42 [i64 t, slI b]), (b2, .box 42 [i64 f, slI a])]
theorem rowI_scal {l : List Int} : ∀ el ∈ rowI l, ∀ d ∈ el, scalD d = true := by
  intro el he d hd
  obtain ⟨r, _, rfl⟩ := List.mem_map.1 he
  simp -implicitDefEqProofs only [List.mem_singleton] at hd
  subst hd; rfl
theorem rowI_snoc {l : List Int} {x : Int} : rowI l ++ [[.int .i64 x]] = rowI (l ++ [x]) := by simp [rowI]
theorem new_ref {H : Heap} {f : Int} {l : List Int} {v : AV} (h : NewV H v (slI l)) : NewV H (.agg [i64 f, v]) (refV f l) := by
  refine .agg _ _ rfl fun j x y h1 h2 => ?_
  match j with
  | 0 => cases h1; cases h2; exact .scal _ rfl
  | 1 => cases h1; cases h2; exact h
  | j + 2 => cases h1
theorem RefZip_new {f t : Int} {a b : List Int} (hf : -1048576 ≤ f ∧ f ≤ 1048576) (ht : -1048576 ≤ t ∧ t ≤ 1048576) (ha : a.length ≤ 300) (hb : b.length ≤ 300) :
    NewW Try.prog f_poundageref14_Zip [refV f a, refV t b] (refV (max f t) (zipL mixI f t a b)) := by
  have hzl := zipL_len (g := mixI) (f := f) (t := t) (a := a) (b := b)
  have hn : zipN f t a b ≤ 300 := by unfold zipN; omega
  refine CallW_intro comp_poundageref14_Zip (by simp) ?_
  simp -implicitDefEqProofs -proj only [go_sem, Nat.reduceBEq, Nat.reduceLT, Nat.reduceLeDiff, Nat.reduceAdd, Nat.reduceMul, ↓reduceIte, Int.reduceToNat, Int.reducePow, Int.reduceLT, Int.reduceLE, Int.reduceAdd, Int.reduceSub, Int.reduceMul, Int.reduceEq, Int.reduceNe]
  refine AllocA_intro (fun b2 hb2 => ?_)
  simp -implicitDefEqProofs -proj only [go_sem, Nat.reduceBEq, Nat.reduceLT, Nat.reduceLeDiff, Nat.reduceAdd, Nat.reduceMul, ↓reduceIte, Int.reduceToNat, Int.reducePow, Int.reduceLT, Int.reduceLE, Int.reduceAdd, Int.reduceSub, Int.reduceMul, Int.reduceEq, Int.reduceNe]
  refine AllocA_intro (fun b3 hb3 => ?_)
  simp -implicitDefEqProofs -proj only [go_sem, Nat.reduceBEq, Nat.reduceLT, Nat.reduceLeDiff, Nat.reduceAdd, Nat.reduceMul, ↓reduceIte, Int.reduceToNat, Int.reducePow, Int.reduceLT, Int.reduceLE, Int.reduceAdd, Int.reduceSub, Int.reduceMul, Int.reduceEq, Int.reduceNe]
  refine AllocA_intro (fun b4 hb4 => ?_)
  have c2 := alloc_all (x := .box 42 [i64 f, slI a]) hb2 (l := []) trivial
  have n2 := alloc_keys (x := .box 42 [i64 f, slI a]) hb2 (l := []) trivial List.nodup_nil
  have c3 := alloc_all (x := .box 42 [i64 t, slI b]) hb3 c2
  have n3 := alloc_keys (x := .box 42 [i64 t, slI b]) hb3 c2 n2
  have c4 := alloc_all (x := .box 42 [i64 0, .nilsl 1]) hb4 c3
  have n4 := alloc_keys (x := .box 42 [i64 0, .nilsl 1]) hb4 c3 n3
  obtain ⟨H, hH⟩ : ∃ H, upd (upd (upd Heap.none b2 (some (.box 42 [i64 f, slI a]))) b3 (some (.box 42 [i64 t, slI b]))) b4 (some (.box 42 [i64 0, .nilsl 1])) = H := ⟨_, rfl⟩
  simp -implicitDefEqProofs only [St_H, hH] at c4
  obtain ⟨e4, e3, e2, _⟩ := id c4
  simp -implicitDefEqProofs -proj only [go_sem, Nat.reduceBEq, Nat.reduceLT, Nat.reduceLeDiff, Nat.reduceAdd, Nat.reduceMul, ↓reduceIte, Int.reduceToNat, Int.reducePow, Int.reduceLT, Int.reduceLE, Int.reduceAdd, Int.reduceSub, Int.reduceMul, Int.reduceEq, Int.reduceNe, hH, e2, e3, Int.max_def]
  rw [show (if f ≤ t then t else f) = max f t by omega]
  refine AllocA_intro (fun b5 hb5 => ?_)
  have c5 := alloc_all (x := .box 42 [i64 (max f t), .nilsl 1]) hb5 c4
  have n5 := alloc_keys (x := .box 42 [i64 (max f t), .nilsl 1]) hb5 c4 n4
  simp -implicitDefEqProofs -proj only [go_sem, Nat.reduceBEq, Nat.reduceLT, Nat.reduceLeDiff, Nat.reduceAdd, Nat.reduceMul, ↓reduceIte, Int.reduceToNat, Int.reducePow, Int.reduceLT, Int.reduceLE, Int.reduceAdd, Int.reduceSub, Int.reduceMul, Int.reduceEq, Int.reduceNe]
  have hmk : (IntKind.i64.wrap (max f t)) = max f t := by rw [IntKind.wrap_i64]; omega
  refine LoopA_k (fun y : BackX => y.i ≤ zipN f t a b ∧ (keys (zipB b2 b3 b4 b5 f t a b y)).Nodup) 48 (fun y => [(2, .ptr b2 0), (3, .ptr b3 0), (4, .ptr b4 0), (5, .ptr b5 0), (6, i64 (max f t + y.i))]) (zipB b2 b3 b4 b5 f t a b) (fun y => zipN f t a b + 1 - y.i) ⟨0, 0, 0⟩ ⟨Nat.zero_le _, n5⟩ rfl ?_ ?_ ?_
  · simp -implicitDefEqProofs -proj only [go_sem, Nat.reduceBEq, Nat.reduceLT, Nat.reduceLeDiff, Nat.reduceAdd, Nat.reduceMul, ↓reduceIte, Int.reduceToNat, Int.reducePow, Int.reduceLT, Int.reduceLE, Int.reduceAdd, Int.reduceSub, Int.reduceMul, Int.reduceEq, Int.reduceNe, AllAt, bx_i, Int.add_zero]
  · simp -implicitDefEqProofs -proj only [go_sem, Nat.reduceBEq, Nat.reduceLT, Nat.reduceLeDiff, Nat.reduceAdd, Nat.reduceMul, ↓reduceIte, Int.reduceToNat, Int.reducePow, Int.reduceLT, Int.reduceLE, Int.reduceAdd, Int.reduceSub, Int.reduceMul, Int.reduceEq, Int.reduceNe]
    exact c5
  · rintro ⟨i, c, cap⟩ ⟨hi, hn'⟩
    simp -implicitDefEqProofs only [bx_i] at hi
    have hall := keepH_all hn'
    obtain ⟨H1, hH1⟩ : ∃ H1, keepH (zipB b2 b3 b4 b5 f t a b ⟨i, c, cap⟩) = H1 := ⟨_, rfl⟩
    rw [hH1] at hall
    simp -implicitDefEqProofs only [zipB, bx_i, bx_c, bx_cap] at hall hn'
    obtain ⟨hrow, h5, h4, h3, h2, _⟩ := AllH_app.1 hall
    have hu := RefAt_ok (f := f) (x := max f t + i) (l := a) (by omega) (by omega)
    have hv := RefAt_ok (f := t) (x := max f t + i) (l := b) (by omega) (by omega)
    simp -implicitDefEqProofs -proj only [go_sem, Nat.reduceBEq, Nat.reduceLT, Nat.reduceLeDiff, Nat.reduceAdd, Nat.reduceMul, ↓reduceIte, Int.reduceToNat, Int.reducePow, Int.reduceLT, Int.reduceLE, Int.reduceAdd, Int.reduceSub, Int.reduceMul, Int.reduceEq, Int.reduceNe, bx_i, bx_c, bx_cap, hH1, h2, h3, h4, h5]
    refine CallA_pure hu ?_
    by_cases h : i < zipN f t a b
    · have hra : refAt f a (max f t + i) = some (valL f a (max f t + i)) := by
        unfold refAt zipN at *
        rw [if_neg (by omega)]; rfl
      have hrb : refAt t b (max f t + i) = some (valL t b (max f t + i)) := by
        unfold refAt zipN at *
        rw [if_neg (by omega)]; rfl
      have hz : (zipL mixI f t a b).take (i + 1) = (zipL mixI f t a b).take i ++ [mixI (valL f a (max f t + i)) (valL t b (max f t + i))] := by
        rw [List.take_succ_eq_append_getElem (by omega)]
        simp [zipL]
      have hzi : (rowI ((zipL mixI f t a b).take i)).length = i := by rw [rowI_len, List.length_take]; omega
      have hw : IntKind.i64.wrap (max f t + i + 1) = max f t + ((i + 1 : Nat) : Int) := by rw [IntKind.wrap_i64]; omega
      rw [hra]
      rw [hrb] at hv
      generalize valL f a (max f t + i) = u at *
      generalize valL t b (max f t + i) = v at *
      simp -implicitDefEqProofs -proj only [go_sem, Nat.reduceBEq, Nat.reduceLT, Nat.reduceLeDiff, Nat.reduceAdd, Nat.reduceMul, ↓reduceIte, Int.reduceToNat, Int.reducePow, Int.reduceLT, Int.reduceLE, Int.reduceAdd, Int.reduceSub, Int.reduceMul, Int.reduceEq, Int.reduceNe, optR, h2, h3, h4, h5]
      refine CallA_pure hv ?_
      simp -implicitDefEqProofs -proj only [go_sem, Nat.reduceBEq, Nat.reduceLT, Nat.reduceLeDiff, Nat.reduceAdd, Nat.reduceMul, ↓reduceIte, Int.reduceToNat, Int.reducePow, Int.reduceLT, Int.reduceLE, Int.reduceAdd, Int.reduceSub, Int.reduceMul, Int.reduceEq, Int.reduceNe, optR, h2, h3, h4, h5]
      refine PCallA_pure (Mix_ok u v) ?_
      simp -implicitDefEqProofs -proj only [go_sem, Nat.reduceBEq, Nat.reduceLT, Nat.reduceLeDiff, Nat.reduceAdd, Nat.reduceMul, ↓reduceIte, Int.reduceToNat, Int.reducePow, Int.reduceLT, Int.reduceLE, Int.reduceAdd, Int.reduceSub, Int.reduceMul, Int.reduceEq, Int.reduceNe, h2, h3, h4, h5]
      refine BSliceD_intro (ds := [.int .i64 (mixI u v)]) rfl (fun bs hs => ?_)
      replace hs : H1 bs = none := hs
      simp -implicitDefEqProofs -proj only [go_sem, Nat.reduceBEq, Nat.reduceLT, Nat.reduceLeDiff, Nat.reduceAdd, Nat.reduceMul, ↓reduceIte, Int.reduceToNat, Int.reducePow, Int.reduceLT, Int.reduceLE, Int.reduceAdd, Int.reduceSub, Int.reduceMul, Int.reduceEq, Int.reduceNe]
      refine AppendA_grow (xs := rowI ((zipL mixI f t a b).take i)) (y := [.int .i64 (mixI u v)]) (t := 3) (capc := 1) [(b5, .box 42 [i64 (max f t), rowV 1 1 c cap (rowI ((zipL mixI f t a b).take i))]), (b4, .box 42 [i64 0, .nilsl 1]), (b3, .box 42 [i64 t, slI b]), (b2, .box 42 [i64 f, slI a])] rfl (AllH_upd hs hall) hn' (by simp -implicitDefEqProofs -proj only [go_sem, Nat.reduceBEq, Nat.reduceLT, Nat.reduceLeDiff, Nat.reduceAdd, Nat.reduceMul, ↓reduceIte, Int.reduceToNat, Int.reducePow, Int.reduceLT, Int.reduceLE, Int.reduceAdd, Int.reduceSub, Int.reduceMul, Int.reduceEq, Int.reduceNe]) (by rw [hzi]; omega) (by rw [hzi]; omega) (fun H' c' cap' ha' hk => ?_)
      rw [rowI_snoc, ← hz] at ha' hk
      have hne : rowI ((zipL mixI f t a b).take (i + 1)) ≠ [] := by rw [hz]; simp [rowI]
      have hzi2 : (rowI ((zipL mixI f t a b).take (i + 1))).length = i + 1 := by rw [rowI_len, List.length_take]; omega
      obtain ⟨hrow', hbox⟩ := AllH_app.1 ha'
      simp -implicitDefEqProofs -proj only [go_sem, Nat.reduceBEq, Nat.reduceLT, Nat.reduceLeDiff, Nat.reduceAdd, Nat.reduceMul, ↓reduceIte, Int.reduceToNat, Int.reducePow, Int.reduceLT, Int.reduceLE, Int.reduceAdd, Int.reduceSub, Int.reduceMul, Int.reduceEq, Int.reduceNe, hbox.1, hw]
      refine LoopQ_k ⟨i + 1, c', cap'⟩ ⟨by show i + 1 ≤ zipN f t a b; omega, by simpa only [keys, zipB, bx_i, bx_c, bx_cap, List.map_append, List.map_cons, List.map_nil] using hk⟩ (by show zipN f t a b + 1 - (i + 1) < zipN f t a b + 1 - i; omega) rfl ?_ ?_
      · simp -implicitDefEqProofs -proj only [go_sem, Nat.reduceBEq, Nat.reduceLT, Nat.reduceLeDiff, Nat.reduceAdd, Nat.reduceMul, ↓reduceIte, Int.reduceToNat, Int.reducePow, Int.reduceLT, Int.reduceLE, Int.reduceAdd, Int.reduceSub, Int.reduceMul, Int.reduceEq, Int.reduceNe, AllAt, bx_i]
      · refine AllH_app.2 ⟨?_, ?_⟩
        · refine drop_all hrow' ?_
          simp -implicitDefEqProofs only [keys, List.map_append, List.nodup_append, List.map_cons, List.map_nil, List.mem_cons] at hk
          exact fun hm => hk.2.2 _ hm _ (.inl rfl) rfl
        · have := upd_all (x' := .box 42 [i64 (max f t), .own c' 1 0 (i + 1) cap']) hbox (by simp -implicitDefEqProofs only [keys, List.map_append, List.nodup_append] at hk ⊢; exact hk.2.1)
          simp -implicitDefEqProofs only [bx_i, bx_c, bx_cap, rowV_ne hne, hzi2]
          rw [hzi]
          exact this
    · have hi' : i = zipN f t a b := by omega
      have fin : (refAt f a (max f t + i) = none ∨ refAt t b (max f t + i) = none) := by
        rw [hi']
        unfold refAt zipN
        by_cases hc : (f + a.length) ≤ max f t + ((min (f + a.length) (t + b.length) - max f t).toNat : Int)
        · exact .inl (if_pos (by omega))
        · exact .inr (if_pos (by omega))
      have htk : (zipL mixI f t a b).take i = zipL mixI f t a b := List.take_of_length_le (by omega)
      rw [htk] at hrow h5
      obtain ⟨m1, m2⟩ := (show ¬ b4 = b5 ∧ ¬ b5 = b4 by
        simp -implicitDefEqProofs only [keys, List.map_append, List.nodup_append, List.map_cons, List.map_nil, List.nodup_cons, List.mem_cons, not_or] at hn'
        exact ⟨fun e => hn'.2.1.1.1 e.symm, hn'.2.1.1.1⟩)
      have hb4 : b4 ∉ keys (rowH 3 1 c cap (rowI (zipL mixI f t a b))) := by
        rw [htk] at hn'
        simp -implicitDefEqProofs only [keys, List.map_append, List.nodup_append, List.map_cons, List.map_nil, List.mem_cons] at hn' ⊢
        exact fun hm => hn'.2.2 _ hm _ (.inr (.inl rfl)) rfl
      have hnew := new_ref (f := max f t) (rowV_new (z := 1) (drop_all (y := some (.box 42 [i64 (max f t), rowV 1 1 c cap (rowI (zipL mixI f t a b))])) hrow hb4) rowI_scal)
      rcases fin with hr | hr
      · rw [hr]
        cases hq : refAt t b (max f t + i) with
        | none =>
          rw [hq] at hv
          simp -implicitDefEqProofs -proj only [go_sem, Nat.reduceBEq, Nat.reduceLT, Nat.reduceLeDiff, Nat.reduceAdd, Nat.reduceMul, ↓reduceIte, Int.reduceToNat, Int.reducePow, Int.reduceLT, Int.reduceLE, Int.reduceAdd, Int.reduceSub, Int.reduceMul, Int.reduceEq, Int.reduceNe, optR, h2, h3, h4, h5]
          refine CallA_pure hv ?_
          simp -implicitDefEqProofs -proj only [go_sem, Nat.reduceBEq, Nat.reduceLT, Nat.reduceLeDiff, Nat.reduceAdd, Nat.reduceMul, ↓reduceIte, Int.reduceToNat, Int.reducePow, Int.reduceLT, Int.reduceLE, Int.reduceAdd, Int.reduceSub, Int.reduceMul, Int.reduceEq, Int.reduceNe, optR, h2, h3, h4, h5, m1, m2]
          exact hnew
        | some v =>
          rw [hq] at hv
          simp -implicitDefEqProofs -proj only [go_sem, Nat.reduceBEq, Nat.reduceLT, Nat.reduceLeDiff, Nat.reduceAdd, Nat.reduceMul, ↓reduceIte, Int.reduceToNat, Int.reducePow, Int.reduceLT, Int.reduceLE, Int.reduceAdd, Int.reduceSub, Int.reduceMul, Int.reduceEq, Int.reduceNe, optR, h2, h3, h4, h5]
          refine CallA_pure hv ?_
          simp -implicitDefEqProofs -proj only [go_sem, Nat.reduceBEq, Nat.reduceLT, Nat.reduceLeDiff, Nat.reduceAdd, Nat.reduceMul, ↓reduceIte, Int.reduceToNat, Int.reducePow, Int.reduceLT, Int.reduceLE, Int.reduceAdd, Int.reduceSub, Int.reduceMul, Int.reduceEq, Int.reduceNe, optR, h2, h3, h4, h5, m1, m2]
          exact hnew
      · rw [hr] at hv
        cases hq : refAt f a (max f t + i) with
        | none =>
          simp -implicitDefEqProofs -proj only [go_sem, Nat.reduceBEq, Nat.reduceLT, Nat.reduceLeDiff, Nat.reduceAdd, Nat.reduceMul, ↓reduceIte, Int.reduceToNat, Int.reducePow, Int.reduceLT, Int.reduceLE, Int.reduceAdd, Int.reduceSub, Int.reduceMul, Int.reduceEq, Int.reduceNe, optR, h2, h3, h4, h5]
          refine CallA_pure hv ?_
          simp -implicitDefEqProofs -proj only [go_sem, Nat.reduceBEq, Nat.reduceLT, Nat.reduceLeDiff, Nat.reduceAdd, Nat.reduceMul, ↓reduceIte, Int.reduceToNat, Int.reducePow, Int.reduceLT, Int.reduceLE, Int.reduceAdd, Int.reduceSub, Int.reduceMul, Int.reduceEq, Int.reduceNe, optR, h2, h3, h4, h5, m1, m2]
          exact hnew
        | some v =>
          simp -implicitDefEqProofs -proj only [go_sem, Nat.reduceBEq, Nat.reduceLT, Nat.reduceLeDiff, Nat.reduceAdd, Nat.reduceMul, ↓reduceIte, Int.reduceToNat, Int.reducePow, Int.reduceLT, Int.reduceLE, Int.reduceAdd, Int.reduceSub, Int.reduceMul, Int.reduceEq, Int.reduceNe, optR, h2, h3, h4, h5]
          refine CallA_pure hv ?_
          simp -implicitDefEqProofs -proj only [go_sem, Nat.reduceBEq, Nat.reduceLT, Nat.reduceLeDiff, Nat.reduceAdd, Nat.reduceMul, ↓reduceIte, Int.reduceToNat, Int.reducePow, Int.reduceLT, Int.reduceLE, Int.reduceAdd, Int.reduceSub, Int.reduceMul, Int.reduceEq, Int.reduceNe, optR, h2, h3, h4, h5, m1, m2]
          exact hnew
set_option maxRecDepth 20000 in
theorem LineZips_ok {a b : Int} {l k : List Int} (hfa : Fit a) (hfl : AllFit l) (hlen : l.length ≤ 9223372036854775807) (hfb : Fit b) (hfk : AllFit k) (hlenk : k.length ≤ 9223372036854775807) : DataW Try.prog f_poundagelaw14_LineZips [i64 a, slI l, i64 b, slI k] (bv true) := by
  refine CallW_intro comp_poundagelaw14_LineZips (by simp) ?_
  simp -implicitDefEqProofs -proj only [go_sem, Nat.reduceBEq, Nat.reduceLT, Nat.reduceLeDiff, Nat.reduceAdd, Nat.reduceMul, ↓reduceIte, Int.reduceToNat, Int.reducePow, Int.reduceLT, Int.reduceLE, Int.reduceAdd, Int.reduceSub, Int.reduceMul, Int.reduceEq, Int.reduceNe]
  refine CallA_pure alive14_ok ?_
  simp -implicitDefEqProofs -proj only [go_sem, Nat.reduceBEq, Nat.reduceLT, Nat.reduceLeDiff, Nat.reduceAdd, Nat.reduceMul, ↓reduceIte, Int.reduceToNat, Int.reducePow, Int.reduceLT, Int.reduceLE, Int.reduceAdd, Int.reduceSub, Int.reduceMul, Int.reduceEq, Int.reduceNe]
  refine CallA_pure (great_ok hlen) ?_
  by_cases hg : 1048576 < a ∨ a < -1048576 ∨ 300 < (l.length : Int)
  · rw [decide_eq_true hg]
    simp -implicitDefEqProofs -proj only [go_sem, Nat.reduceBEq, Nat.reduceLT, Nat.reduceLeDiff, Nat.reduceAdd, Nat.reduceMul, ↓reduceIte, Int.reduceToNat, Int.reducePow, Int.reduceLT, Int.reduceLE, Int.reduceAdd, Int.reduceSub, Int.reduceMul, Int.reduceEq, Int.reduceNe]
    exact LendV_eq rfl
  rw [decide_eq_false hg]
  simp -implicitDefEqProofs -proj only [go_sem, Nat.reduceBEq, Nat.reduceLT, Nat.reduceLeDiff, Nat.reduceAdd, Nat.reduceMul, ↓reduceIte, Int.reduceToNat, Int.reducePow, Int.reduceLT, Int.reduceLE, Int.reduceAdd, Int.reduceSub, Int.reduceMul, Int.reduceEq, Int.reduceNe]
  refine CallA_pure (great_ok hlenk) ?_
  by_cases hg2 : 1048576 < b ∨ b < -1048576 ∨ 300 < (k.length : Int)
  · rw [decide_eq_true hg2]
    simp -implicitDefEqProofs -proj only [go_sem, Nat.reduceBEq, Nat.reduceLT, Nat.reduceLeDiff, Nat.reduceAdd, Nat.reduceMul, ↓reduceIte, Int.reduceToNat, Int.reducePow, Int.reduceLT, Int.reduceLE, Int.reduceAdd, Int.reduceSub, Int.reduceMul, Int.reduceEq, Int.reduceNe]
    exact LendV_eq rfl
  rw [decide_eq_false hg2]
  have hof := Of_ok (from' := a) (l := l) (by omega) (by omega)
  have hofk := Of_ok (from' := b) (l := k) (by omega) (by omega)
  have hRl := runsN_len (from' := a) (l := l) l.length
  have hSl := runsN_len (from' := b) (l := k) k.length
  have hzip := (Zip_new (a := runs a l) (b := runs b k) (g := mixI) (fun u v => Mix_ok u v) (by show (runsN a l l.length).length ≤ _; omega) (by show (runsN b k k.length).length ≤ _; omega)).data
  rw [zip_runs] at hzip
  have href := (RefZip_new (f := a) (t := b) (a := l) (b := k) (by omega) (by omega) (by omega) (by omega)).data
  have hsame := same_ok (f := max a b) (l := zipL mixI a b l k) (by omega) (by rw [zipL_len]; unfold zipN; omega)
  simp -implicitDefEqProofs -proj only [go_sem, Nat.reduceBEq, Nat.reduceLT, Nat.reduceLeDiff, Nat.reduceAdd, Nat.reduceMul, ↓reduceIte, Int.reduceToNat, Int.reducePow, Int.reduceLT, Int.reduceLE, Int.reduceAdd, Int.reduceSub, Int.reduceMul, Int.reduceEq, Int.reduceNe]
  refine CallA_pure hof ?_
  simp -implicitDefEqProofs -proj only [go_sem, Nat.reduceBEq, Nat.reduceLT, Nat.reduceLeDiff, Nat.reduceAdd, Nat.reduceMul, ↓reduceIte, Int.reduceToNat, Int.reducePow, Int.reduceLT, Int.reduceLE, Int.reduceAdd, Int.reduceSub, Int.reduceMul, Int.reduceEq, Int.reduceNe]
  refine CallA_pure hofk ?_
  simp -implicitDefEqProofs -proj only [go_sem, Nat.reduceBEq, Nat.reduceLT, Nat.reduceLeDiff, Nat.reduceAdd, Nat.reduceMul, ↓reduceIte, Int.reduceToNat, Int.reducePow, Int.reduceLT, Int.reduceLE, Int.reduceAdd, Int.reduceSub, Int.reduceMul, Int.reduceEq, Int.reduceNe]
  refine CallA_pure hzip ?_
  simp -implicitDefEqProofs -proj only [go_sem, Nat.reduceBEq, Nat.reduceLT, Nat.reduceLeDiff, Nat.reduceAdd, Nat.reduceMul, ↓reduceIte, Int.reduceToNat, Int.reducePow, Int.reduceLT, Int.reduceLE, Int.reduceAdd, Int.reduceSub, Int.reduceMul, Int.reduceEq, Int.reduceNe]
  refine AllocA_intro (fun b9 hb9 => ?_)
  simp -implicitDefEqProofs -proj only [go_sem, Nat.reduceBEq, Nat.reduceLT, Nat.reduceLeDiff, Nat.reduceAdd, Nat.reduceMul, ↓reduceIte, Int.reduceToNat, Int.reducePow, Int.reduceLT, Int.reduceLE, Int.reduceAdd, Int.reduceSub, Int.reduceMul, Int.reduceEq, Int.reduceNe]
  (repeat' (with_reducible refine VC_intro ?_ (fun h => ?_); (focus first | decide | omega); clear h; try simp -implicitDefEqProofs -proj only [go_sem, Nat.reduceBEq, Nat.reduceLT, Nat.reduceLeDiff, Nat.reduceAdd, Nat.reduceMul, ↓reduceIte, Int.reduceToNat, Int.reducePow, Int.reduceLT, Int.reduceLE, Int.reduceAdd, Int.reduceSub, Int.reduceMul, Int.reduceEq, Int.reduceNe, eq_self]))
  refine PCallA_pure href ?_
  simp -implicitDefEqProofs -proj only [go_sem, Nat.reduceBEq, Nat.reduceLT, Nat.reduceLeDiff, Nat.reduceAdd, Nat.reduceMul, ↓reduceIte, Int.reduceToNat, Int.reducePow, Int.reduceLT, Int.reduceLE, Int.reduceAdd, Int.reduceSub, Int.reduceMul, Int.reduceEq, Int.reduceNe]
  refine CallA_pure hsame ?_
  simp -implicitDefEqProofs -proj only [go_sem, Nat.reduceBEq, Nat.reduceLT, Nat.reduceLeDiff, Nat.reduceAdd, Nat.reduceMul, ↓reduceIte, Int.reduceToNat, Int.reducePow, Int.reduceLT, Int.reduceLE, Int.reduceAdd, Int.reduceSub, Int.reduceMul, Int.reduceEq, Int.reduceNe]
  exact LendV_eq rfl
end Go.Proofs.Ytgfimmaligcgjaa.Abs
