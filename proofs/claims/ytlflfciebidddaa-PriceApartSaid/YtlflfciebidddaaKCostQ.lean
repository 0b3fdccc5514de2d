/- What a basket costs, as sums of numbers: what a day's span comes to. No claim stands here. -/
import Derived.Test.YtlflfciebidddaaKDayA
set_option linter.unusedSimpArgs false
set_option linter.unusedVariables false
namespace Go.Proofs.Ytlflfciebidddaa.Abs
open Go Go.RowKit Go.Proofs
def priceAt (ps : List PartX) (d : Int) (b : List Int) (j : Nat) : Int := match ps[j]? with
  | some x => if inW d x.f x.t then pv x (bq b x.me) else 0
  | none => 0
def costQ (c : CoreX) (d : Int) (b : List Int) : Int := fixS c d + sg (priceAt c.ps d b) c.ps.length
theorem sum_snoc {l : List Int} {x : Int} : (l ++ [x]).sum = l.sum + x := by simp
theorem sumsN_sum {ss : List SumX} {d : Int} : ∀ i : Nat, (sumsN ss d i).sum = sg (sumAt ss d) i
  | 0 => rfl
  | i + 1 => by
    have ih := sumsN_sum (ss := ss) (d := d) i
    rw [sumsN, sg, sumAt]
    cases e : ss[i]? with
    | none => simp -implicitDefEqProofs only []; omega
    | some s =>
      simp -implicitDefEqProofs only []
      split
      · rw [sum_snoc]; omega
      · omega
theorem partsN_sum {ss : List SumX} {ps : List PartX} {d : Int} {b : List Int} : ∀ (i : Nat) (l : List Int), partsN ss ps d b i = some l → l.sum = sg (sumAt ss d) ss.length + sg (priceAt ps d b) i
  | 0, l, h => by
    rw [partsN] at h
    cases h
    rw [sumsN_sum]; simp [sg]
  | i + 1, l, h => by
    rw [partsN] at h
    rw [sg, priceAt]
    cases e : partsN ss ps d b i with
    | none => rw [e] at h; cases h
    | some m =>
      have ih := partsN_sum i m e
      rw [e] at h
      cases e2 : ps[i]? with
      | none => rw [e2] at h; cases h; simp -implicitDefEqProofs only []; omega
      | some x =>
        rw [e2] at h
        simp -implicitDefEqProofs only [] at h ⊢
        by_cases hw : inW d x.f x.t
        · rw [if_pos hw] at h ⊢
          cases e3 : partO x (bq b x.me) with
          | none => rw [e3] at h; cases h
          | some n =>
            rw [e3] at h
            cases h
            have : pv x (bq b x.me) = n := by unfold pv; rw [e3]; rfl
            rw [sum_snoc, this]; omega
        · rw [if_neg hw] at h ⊢
          cases h
          omega
theorem sumF_eq : ∀ {l : List Int} {a n : Int}, sumF a l = some n → n = a + l.sum
  | [], a, n, h => by cases h; simp
  | x :: l, a, n, h => by
    rw [sumF] at h
    split at h
    · have := sumF_eq h
      simp -implicitDefEqProofs only [List.sum_cons]; omega
    · cases h
theorem cost_of {c : CoreX} {d n : Int} {b l : List Int} (h1 : itemsO c d b = some l) (h2 : sumF 0 l = some n) : n = costQ c d b := by
  have := partsN_sum _ _ h1
  have := sumF_eq h2
  unfold costQ fixS
  omega
theorem price_of {c : CoreX} {d : Int} {b : List Int} (h : (priceF c d b).2 = 0) : goodC c ∧ inW d c.f c.t ∧ basketOK c b ∧ (priceF c d b).1 = costQ c d b := by
  unfold priceF at h ⊢
  by_cases g : goodC c
  rotate_left
  · rw [if_pos g] at h; exact absurd h (by decide)
  rw [if_neg (fun k => k g)] at h ⊢
  by_cases g2 : ¬ inW d c.f c.t ∨ ¬ basketOK c b
  · rw [if_pos g2] at h; exact absurd h (by decide)
  rw [if_neg g2] at h ⊢
  have g3 : inW d c.f c.t := Classical.byContradiction fun k => g2 (.inl k)
  have g4 : basketOK c b := Classical.byContradiction fun k => g2 (.inr k)
  cases e : itemsO c d b with
  | none => rw [e] at h; exact absurd h (by decide)
  | some l =>
    rw [e] at h
    simp -implicitDefEqProofs only [] at h ⊢
    cases e2 : sumF 0 l with
    | none => rw [e2] at h; exact absurd h (by decide)
    | some n =>
      simp -implicitDefEqProofs only []
      exact ⟨g, g3, g4, cost_of e e2⟩
theorem sumF_fit : ∀ {l : List Int} {a n : Int}, Fit a → sumF a l = some n → Fit n
  | [], a, n, ha, h => by cases h; exact ha
  | x :: l, a, n, ha, h => by
    rw [sumF] at h
    split at h
    · next hf => exact sumF_fit hf h
    · cases h
theorem price_fit {c : CoreX} {d : Int} {b : List Int} : Fit (priceF c d b).1 := by
  have h0 : Fit 0 := by decide
  unfold priceF
  split
  · exact h0
  · split
    · exact h0
    · split
      · exact h0
      · split
        · exact h0
        · next e => exact sumF_fit h0 e
theorem dayQ_zero {c : CoreX} {d : Int} {m : Nat} : dayQ c d m 0 = 0 := by
  unfold dayQ
  have h : sg (riseAt c.ps d m 0) c.ps.length = sg (fun _ => 0) c.ps.length := sg_congr fun j _ => by
    unfold riseAt
    split
    · split
      · exact Int.sub_self _
      · rfl
    · rfl
  rw [h, sg_zero]
/-- What a basket costs is what the day's span says. -/
theorem cost_day {c : CoreX} (hme : ∀ x ∈ c.ps, 0 ≤ x.me ∧ x.me < (c.ms.length : Int)) (d : Int) (b : List Int) : costQ c d b = dayF c d + sg (fun m => dayQ c d m (bq b m)) c.ms.length := by
  unfold costQ dayF
  have h1 : sg (fun m => dayQ c d m (bq b m)) c.ms.length = sg (fun j => sg (fun m => riseAt c.ps d m (bq b m) j) c.ms.length) c.ps.length := by
    unfold dayQ
    exact sg_swap (g := fun m j => riseAt c.ps d m (bq b m) j) c.ps.length
  have h2 : sg (fixM c d) c.ms.length = sg (fun j => sg (fun m => baseAt c.ps d m j) c.ms.length) c.ps.length := by
    unfold fixM
    exact sg_swap (g := fun m j => baseAt c.ps d m j) c.ps.length
  have h3 : sg (priceAt c.ps d b) c.ps.length = sg (fun j => sg (fun m => baseAt c.ps d m j) c.ms.length + sg (fun m => riseAt c.ps d m (bq b m) j) c.ms.length) c.ps.length := by
    refine sg_congr fun j hj => ?_
    rw [← sg_add]
    unfold priceAt baseAt riseAt
    rw [List.getElem?_eq_getElem hj]
    simp -implicitDefEqProofs only []
    obtain ⟨k1, k2⟩ := hme _ (List.getElem_mem hj)
    generalize c.ps[j] = x at *
    by_cases hw : inW d x.f x.t
    · rw [if_pos hw]
      have : sg (fun m : Nat => (if x.me = (m : Int) ∧ inW d x.f x.t then pv x 0 else 0) + (if x.me = (m : Int) ∧ inW d x.f x.t then pv x (bq b m) - pv x 0 else 0)) c.ms.length = sg (fun m : Nat => if m = x.me.toNat then pv x (bq b x.me) else 0) c.ms.length := by
        refine sg_congr fun m hm => ?_
        by_cases e : x.me = (m : Int)
        · rw [if_pos ⟨e, hw⟩, if_pos ⟨e, hw⟩, if_pos (by omega), ← e]; omega
        · rw [if_neg (fun k => e k.1), if_neg (fun k => e k.1), if_neg (by omega)]; rfl
      rw [this, sg_one, if_pos (by omega)]
    · rw [if_neg hw]
      have h0 : sg (fun m : Nat => (if x.me = (m : Int) ∧ inW d x.f x.t then pv x 0 else 0) + (if x.me = (m : Int) ∧ inW d x.f x.t then pv x (bq b m) - pv x 0 else 0)) c.ms.length = sg (fun _ => 0) c.ms.length := sg_congr fun m hm => by
        rw [if_neg (fun k => hw k.2), if_neg (fun k => hw k.2)]; rfl
      rw [h0, sg_zero]
  rw [h3, sg_add, ← h1, ← h2]
  omega
/-! baskets of one quantity -/
theorem bq_rep {n : Nat} {m : Nat} : bq (List.replicate n 0) (m : Int) = 0 := by
  unfold bq
  rw [Int.toNat_natCast, List.getD_eq_getElem?_getD, List.getElem?_replicate]
  split <;> rfl
theorem bq_set {n i m : Nat} {q : Int} (hi : i < n) : bq ((List.replicate n 0).set i q) (m : Int) = if m = i then q else 0 := by
  unfold bq
  rw [Int.toNat_natCast, List.getD_eq_getElem?_getD, List.getElem?_set]
  by_cases h : i = m
  · rw [if_pos h, if_pos h.symm, List.length_replicate, if_pos (by omega)]; rfl
  · rw [if_neg h, if_neg (fun k => h k.symm), List.getElem?_replicate]
    split <;> rfl
theorem cost_zero {c : CoreX} (hme : ∀ x ∈ c.ps, 0 ≤ x.me ∧ x.me < (c.ms.length : Int)) (d : Int) (n : Nat) : costQ c d (List.replicate n 0) = dayF c d := by
  rw [cost_day hme, show sg (fun m : Nat => dayQ c d m (bq (List.replicate n 0) m)) c.ms.length = sg (fun _ => 0) c.ms.length from sg_congr fun m _ => by rw [bq_rep, dayQ_zero], sg_zero]
  omega
theorem cost_one {c : CoreX} (hme : ∀ x ∈ c.ps, 0 ≤ x.me ∧ x.me < (c.ms.length : Int)) (d : Int) {n i : Nat} {q : Int} (hi : i < n) (hn : n = c.ms.length) : costQ c d ((List.replicate n 0).set i q) = dayF c d + dayQ c d i q := by
  rw [cost_day hme, show sg (fun m : Nat => dayQ c d m (bq ((List.replicate n 0).set i q) m)) c.ms.length = sg (fun m => if m = i then dayQ c d i q else 0) c.ms.length from sg_congr fun m _ => by
    rw [bq_set hi]
    by_cases e : m = i
    · rw [if_pos e, if_pos e, e]
    · rw [if_neg e, if_neg e, dayQ_zero], sg_one, if_pos (by omega)]
/-! what fits costs what it costs -/
theorem sumF_some : ∀ {l : List Int} {a : Int}, (∀ v ∈ l, 0 ≤ v) → 0 ≤ a → a + l.sum ≤ 9223372036854775807 → sumF a l = some (a + l.sum)
  | [], a, _, _, _ => by simp [sumF]
  | x :: l, a, h, h1, h2 => by
    have hx := h x (List.mem_cons_self ..)
    have hs : 0 ≤ l.sum := by
      have : ∀ l : List Int, (∀ v ∈ l, 0 ≤ v) → 0 ≤ l.sum := by
        intro l
        induction l with
        | nil => intro _; simp
        | cons y l ih =>
          intro hl
          have := ih fun v hv => hl v (List.mem_cons_of_mem _ hv)
          have := hl y (List.mem_cons_self ..)
          simp -implicitDefEqProofs only [List.sum_cons]; omega
      exact this l fun v hv => h v (List.mem_cons_of_mem _ hv)
    simp -implicitDefEqProofs only [List.sum_cons] at h2 ⊢
    rw [sumF, if_pos (by unfold Fit; omega), sumF_some (fun v hv => h v (List.mem_cons_of_mem _ hv)) (by omega) (by omega)]
    congr 1
    omega
theorem sumsN_pos {ss : List SumX} {d : Int} (hs : ∀ s ∈ ss, 0 ≤ s.a) : ∀ i, ∀ v ∈ sumsN ss d i, 0 ≤ v
  | 0, v, h => by cases h
  | i + 1, v, h => by
    rw [sumsN] at h
    cases e : ss[i]? with
    | none => rw [e] at h; exact sumsN_pos hs i v h
    | some s =>
      rw [e] at h
      simp -implicitDefEqProofs only [] at h
      split at h
      · rcases List.mem_append.1 h with h | h
        · exact sumsN_pos hs i v h
        · rw [List.mem_singleton] at h
          subst h
          exact hs _ (List.mem_of_getElem? e)
      · exact sumsN_pos hs i v h
theorem partsN_yes {c : CoreX} {d : Int} {b : List Int} (hf : fitsC c) (hb : basketOK c b) : ∀ i : Nat, i ≤ c.ps.length → ∃ l, partsN c.ss c.ps d b i = some l ∧ ∀ v ∈ l, 0 ≤ v
  | 0, _ => ⟨_, rfl, sumsN_pos (fun s hs => ((fitsC.bnd hf.good).amt s hs).1) _⟩
  | i + 1, hi => by
    obtain ⟨l, h1, h2⟩ := partsN_yes hf hb (d := d) i (by omega)
    rw [partsN, h1, List.getElem?_eq_getElem (show i < c.ps.length by omega)]
    simp -implicitDefEqProofs only []
    have hx := List.getElem_mem (show i < c.ps.length by omega)
    obtain ⟨m1, m2⟩ := (fitsC.bnd hf.good).me _ hx
    generalize c.ps[i]'(by omega) = x at *
    split
    · obtain ⟨hb1, hb2⟩ := hb
      have hm : x.me.toNat < c.ms.length := by omega
      have hq := hb2 x.me.toNat (by omega) hm
      have hbq : bq b x.me = b[x.me.toNat] := by unfold bq; rw [List.getD_eq_getElem?_getD, List.getElem?_eq_getElem (by omega), Option.getD_some]
      have hmx : mxAt c.ms x.me = c.ms[x.me.toNat].mx := by unfold mxAt; rw [List.getElem?_eq_getElem hm]
      obtain ⟨k1, k2, k3, k4⟩ := part_bnd hf hx (q := bq b x.me) (by omega) (by omega)
      rw [k1]
      simp -implicitDefEqProofs only []
      refine ⟨_, rfl, fun v hv => ?_⟩
      rcases List.mem_append.1 hv with hv | hv
      · exact h2 v hv
      · rw [List.mem_singleton] at hv
        omega
    · exact ⟨l, rfl, h2⟩
theorem priceAt_bnd {c : CoreX} (hf : fitsC c) {d : Int} {b : List Int} (hb : basketOK c b) (j : Nat) : 0 ≤ priceAt c.ps d b j ∧ priceAt c.ps d b j ≤ bestAt c j := by
  have hp := bestAt_pos (c := c) j
  unfold bestAt at *
  unfold priceAt
  cases e : c.ps[j]? with
  | none => exact ⟨Int.le_refl _, Int.le_refl _⟩
  | some x =>
    have hx := List.mem_of_getElem? e
    rw [e] at hp
    simp -implicitDefEqProofs only [] at hp ⊢
    split
    · obtain ⟨m1, m2⟩ := (fitsC.bnd hf.good).me _ hx
      obtain ⟨hb1, hb2⟩ := hb
      have hm : x.me.toNat < c.ms.length := by omega
      have hq := hb2 x.me.toNat (by omega) hm
      have hbq : bq b x.me = b[x.me.toNat] := by unfold bq; rw [List.getD_eq_getElem?_getD, List.getElem?_eq_getElem (by omega), Option.getD_some]
      have hmx : mxAt c.ms x.me = c.ms[x.me.toNat].mx := by unfold mxAt; rw [List.getElem?_eq_getElem hm]
      obtain ⟨k1, k2, k3, k4⟩ := part_bnd hf hx (q := bq b x.me) (by omega) (by omega)
      omega
    · omega
theorem costQ_bnd {c : CoreX} (hf : fitsC c) {d : Int} {b : List Int} (hb : basketOK c b) : 0 ≤ costQ c d b ∧ costQ c d b ≤ 1152921504606846976 := by
  have h1 := hf.tot c.ps.length (Nat.le_refl _)
  have h2 := sg_nonneg (n := c.ps.length) fun j _ => (priceAt_bnd hf (d := d) hb j).1
  have h3 := sg_le (n := c.ps.length) fun j _ => (priceAt_bnd hf (d := d) hb j).2
  have h4 := sg_nonneg (n := c.ss.length) fun j _ => (sumAt_bnd hf.good d j).1
  have h5 := sg_le (n := c.ss.length) fun j _ => (sumAt_bnd hf.good d j).2
  unfold totN at h1
  unfold costQ fixS
  omega
theorem cost_fits {c : CoreX} (hf : fitsC c) {d : Int} {b : List Int} (hb : basketOK c b) : ∃ l, itemsO c d b = some l ∧ sumF 0 l = some (costQ c d b) := by
  obtain ⟨l, h1, h2⟩ := partsN_yes hf hb (d := d) c.ps.length (Nat.le_refl _)
  have hs := partsN_sum _ _ h1
  have hc := costQ_bnd hf (d := d) hb
  have he : l.sum = costQ c d b := hs
  refine ⟨l, h1, ?_⟩
  rw [sumF_some h2 (Int.le_refl 0) (by omega), he]
  congr 1
  omega
theorem price_fits {c : CoreX} (hf : fitsC c) {d : Int} {b : List Int} : priceF c d b = if inW d c.f c.t ∧ basketOK c b then (costQ c d b, 0) else (0, 8) := by
  unfold priceF
  rw [if_neg (fun k => k hf.good)]
  by_cases h : inW d c.f c.t ∧ basketOK c b
  · obtain ⟨l, h1, h2⟩ := cost_fits hf (d := d) h.2
    rw [if_neg (fun k => k.elim (fun e => e h.1) (fun e => e h.2)), if_pos h, h1]
    simp -implicitDefEqProofs only []
    rw [h2]
  · rw [if_neg h, if_pos (Classical.byContradiction fun k => h ⟨Classical.byContradiction fun e => k (.inl e), Classical.byContradiction fun e => k (.inr e)⟩)]
end Go.Proofs.Ytlflfciebidddaa.Abs
