/- Steps of sorted tiers, and what they come to: plain numbers. No claim stands here. -/
import Derived.Test.YtlflfciebidddaaKTiers
set_option linter.unusedSimpArgs false
set_option linter.unusedVariables false
namespace Go.Proofs.Ytlflfciebidddaa.Abs
open Go Go.RowKit Go.Proofs
def uAt (T : List Tier) (i : Nat) : Int := match T[i]? with
  | some t => t.u
  | none => 0
def rAt (T : List Tier) (i : Nat) : Int := match T[i]? with
  | some t => t.r
  | none => 0
theorem uAt_eq {T : List Tier} {i : Nat} (h : i < T.length) : uAt T i = T[i].u := by simp [uAt, h]
theorem rAt_eq {T : List Tier} {i : Nat} (h : i < T.length) : rAt T i = T[i].r := by simp [rAt, h]
def lowR (T : List Tier) (i : Nat) : Int := if i = 0 then 0 else uAt T (i - 1)
def hiR (T : List Tier) (q : Int) (i : Nat) : Int := if i + 1 < T.length ∧ uAt T i < q then uAt T i else q
def refN (T : List Tier) (q : Int) : Nat → List TStep
  | 0 => []
  | i + 1 => if lowR T i < hiR T q i then refN T q i ++ [⟨lowR T i, hiR T q i, rAt T i⟩] else refN T q i
def refL (T : List Tier) (q : Int) : List TStep := refN T q T.length
/-- Tiers in order. -/
structure Srt (T : List Tier) : Prop where
  up : ∀ i, i + 1 < T.length → lowR T i < uAt T i ∧ uAt T i ≤ 1000000
  low : ∀ i, i < T.length → 0 ≤ lowR T i ∧ lowR T i ≤ 1000000
  rate : ∀ i, i < T.length → 0 ≤ rAt T i ∧ rAt T i ≤ 1000000000000
theorem srt_of {T : List Tier} (h : tiersOK T) : Srt T := by
  have h1 : ∀ i, i + 1 < T.length → 1 ≤ uAt T i ∧ uAt T i ≤ 1000000 := by
    intro i hi
    have hh := (h i (by omega)).2
    have hne : ¬ i + 1 = T.length := by omega
    rw [uAt_eq (by omega)]
    have h2 : highT T i = 1000000 := if_neg hne
    have h3 : 1 ≤ lowT T i := by
      unfold lowT
      rw [if_neg hne]
      split
      · split <;> omega
      · omega
    omega
  have h2 : ∀ i, i < T.length → 0 ≤ lowR T i ∧ lowR T i ≤ 1000000 := by
    intro i hi
    unfold lowR
    split
    · omega
    · have := h1 (i - 1) (by omega)
      omega
  refine ⟨fun i hi => ⟨?_, (h1 i hi).2⟩, h2, fun i hi => ?_⟩
  · unfold lowR
    split
    · have := h1 i hi; omega
    · next h0 =>
      have g1 := h1 (i - 1) (by omega)
      have hh := (h i (by omega)).2.1
      rw [uAt_eq (by omega)] at g1
      obtain ⟨e1, e2⟩ := tlow_mid (T := T) (i := i) (by omega) (by omega) (by omega) g1.1
      rw [e1] at hh
      rw [uAt_eq (by omega), uAt_eq (by omega)]
      omega
  · have := (h i hi).1
    rw [rAt_eq hi]
    exact this
theorem gradN_ref {T : List Tier} {q : Int} (hS : Srt T) : ∀ i, i ≤ T.length → (gradN T q i).2 = refN T q i ∧ (i < T.length → (gradN T q i).1 = max 0 (min q (lowR T i))) ∧ (i = T.length → 0 < i → (gradN T q i).1 = max 0 q)
  | 0, _ => ⟨rfl, fun _ => by simp [gradN, lowR]; omega, fun _ h => absurd h (Nat.lt_irrefl _)⟩
  | i + 1, hi => by
    obtain ⟨g1, g2, _⟩ := gradN_ref hS i (by omega) (q := q)
    have hlt : i < T.length := by omega
    have hf := g2 hlt
    have hl := hS.low i hlt
    have ht : toG T q i T[i] = if i + 1 < T.length then min q (uAt T i) else q := by rw [uAt_eq hlt]; rfl
    have hlow : lowR T (i + 1) = uAt T i := by simp [lowR]
    rw [gradN, List.getElem?_eq_getElem hlt, refN, rAt_eq hlt]
    simp -implicitDefEqProofs only []
    rw [hf, ht, g1, hlow]
    unfold hiR
    by_cases h : i + 1 < T.length
    · obtain ⟨u1, u2⟩ := hS.up i h
      rw [if_pos h]
      refine ⟨?_, fun _ => by omega, fun e => by omega⟩
      by_cases hq : lowR T i < q
      · rw [if_pos (by omega), if_pos (by split <;> omega)]
        congr 3
        · omega
        · split <;> omega
      · rw [if_neg (by omega), if_neg (by split <;> omega)]
    · rw [if_neg h]
      refine ⟨?_, fun e => absurd e h, fun _ _ => by omega⟩
      by_cases hq : lowR T i < q
      · rw [if_pos (by omega), if_pos (by split <;> omega)]
        congr 3
        · omega
        · split <;> omega
      · rw [if_neg (by omega), if_neg (by split <;> omega)]
theorem gradL_ref {T : List Tier} {q : Int} (hS : Srt T) : gradL T q = refL T q := (gradN_ref hS T.length (Nat.le_refl _)).1
/-- What steps come to. -/
def tot : List TStep → Int
  | [] => 0
  | s :: l => s.r * (s.t - s.f) + tot l
theorem tot_app {l m : List TStep} : tot (l ++ m) = tot l + tot m := by
  induction l with
  | nil => simp [tot]
  | cons s l ih => simp -implicitDefEqProofs only [List.cons_append, tot, ih]; omega
def StepNN (s : TStep) : Prop := 0 ≤ s.r ∧ s.f ≤ s.t
theorem tot_nn {l : List TStep} (h : ∀ s ∈ l, StepNN s) : 0 ≤ tot l := by
  induction l with
  | nil => exact Int.le_refl _
  | cons s l ih =>
    obtain ⟨h1, h2⟩ := h s (List.mem_cons_self ..)
    have := Int.mul_nonneg h1 (show 0 ≤ s.t - s.f by omega)
    have := ih fun s' h' => h s' (List.mem_cons_of_mem _ h')
    simp -implicitDefEqProofs only [tot]
    omega
theorem sumS_tot {l : List TStep} : ∀ {a : Int}, (∀ s ∈ l, StepNN s) → 0 ≤ a → a ≤ 9223372036854775807 → sumS l a = if a + tot l ≤ 9223372036854775807 then some (a + tot l) else none := by
  induction l with
  | nil => intro a _ h0 h1; simp -implicitDefEqProofs only [sumS, tot, Int.add_zero]; rw [if_pos h1]
  | cons s l ih =>
    intro a h h0 h1
    obtain ⟨g1, g2⟩ := h s (List.mem_cons_self ..)
    have hp := Int.mul_nonneg g1 (show 0 ≤ s.t - s.f by omega)
    have hl := fun s' h' => h s' (List.mem_cons_of_mem s h')
    have ht := tot_nn hl
    simp -implicitDefEqProofs only [sumS, addS]
    rw [show a + tot (s :: l) = a + s.r * (s.t - s.f) + tot l by simp -implicitDefEqProofs only [tot]; omega]
    by_cases hc : a + s.r * (s.t - s.f) ≤ 9223372036854775807
    · rw [if_pos (by unfold Fit; omega)]
      exact ih hl (by omega) hc
    · rw [if_neg (by unfold Fit; omega), if_neg (by omega)]
def gsum (T : List Tier) (q : Int) : Nat → Int
  | 0 => 0
  | i + 1 => gsum T q i + rAt T i * max 0 (hiR T q i - lowR T i)
theorem tot_ref {T : List Tier} {q : Int} : ∀ i, tot (refN T q i) = gsum T q i
  | 0 => rfl
  | i + 1 => by
    rw [refN, gsum, ← tot_ref i]
    split
    · rw [tot_app]
      simp -implicitDefEqProofs only [tot]
      rw [show max 0 (hiR T q i - lowR T i) = hiR T q i - lowR T i by omega]
      omega
    · rw [show max 0 (hiR T q i - lowR T i) = 0 by omega, Int.mul_zero, Int.add_zero]
theorem gsum_mono {T : List Tier} {q q' : Int} (hS : Srt T) (h : q ≤ q') : ∀ i, i ≤ T.length → gsum T q i ≤ gsum T q' i
  | 0, _ => Int.le_refl _
  | i + 1, hi => by
    have ih := gsum_mono hS h i (by omega)
    have hr := hS.rate i (by omega)
    have : rAt T i * max 0 (hiR T q i - lowR T i) ≤ rAt T i * max 0 (hiR T q' i - lowR T i) := by
      refine Int.mul_le_mul_of_nonneg_left ?_ hr.1
      have : hiR T q i ≤ hiR T q' i := by unfold hiR; split <;> split <;> omega
      omega
    rw [gsum, gsum]
    omega
theorem ref_nn {T : List Tier} {q : Int} (hS : Srt T) : ∀ i, i ≤ T.length → ∀ s ∈ refN T q i, 0 ≤ s.r ∧ s.r ≤ 1000000000000 ∧ 0 ≤ s.f ∧ s.f < s.t ∧ s.t ≤ q
  | 0, _, s, h => by cases h
  | i + 1, hi, s, h => by
    rw [refN] at h
    split at h
    · next hc =>
      rcases List.mem_append.1 h with h | h
      · exact ref_nn hS i (by omega) s h
      · simp -implicitDefEqProofs only [List.mem_singleton] at h
        subst h
        have h1 := hS.rate i (by omega)
        have h2 := hS.low i (by omega)
        refine ⟨h1.1, h1.2, h2.1, hc, ?_⟩
        show hiR T q i ≤ q
        unfold hiR
        split <;> omega
    · exact ref_nn hS i (by omega) s h
theorem volI_mem {T : List Tier} {q : Int} (hr : ∀ i, i < T.length → 0 ≤ rAt T i ∧ rAt T i ≤ 1000000000000) : ∀ n, n ≤ T.length → ∀ s ∈ volI T q n, 0 ≤ s.r ∧ s.r ≤ 1000000000000 ∧ s.f = 0 ∧ 0 < s.t ∧ s.t = q
  | 0, _, s, h => by cases h
  | n + 1, hn, s, h => by
    have hlt : T.length - (n + 1) < T.length := by omega
    rw [volI, List.getElem?_eq_getElem hlt] at h
    simp -implicitDefEqProofs only [] at h
    split at h
    · split at h
      · next hq =>
        simp -implicitDefEqProofs only [List.mem_singleton] at h
        subst h
        have := hr _ hlt
        rw [rAt_eq hlt] at this
        exact ⟨this.1, this.2, rfl, hq, rfl⟩
      · cases h
    · exact volI_mem hr n (by omega) s h
/-- A part that can be. -/
structure GoodX (x : PartX) : Prop where
  al : 0 ≤ x.al ∧ x.al ≤ 1000000
  bl : 1 ≤ x.bl ∧ x.bl ≤ 1000000
  ki : x.ki = 1 ∨ x.ki = 2
  mo : 0 ≤ x.mo ∧ x.mo ≤ 3
  tn : 1 ≤ x.ts.length ∧ x.ts.length ≤ 8
  an : x.ad.length ≤ 6
  ts : tiersOK x.ts
  ad : adjsOK x.ad
theorem steps_mem {x : PartX} {q : Int} (h : Srt x.ts) : ∀ s ∈ stepsL x q, 0 ≤ s.r ∧ s.r ≤ 1000000000000 ∧ 0 ≤ s.f ∧ s.f < s.t ∧ s.t ≤ q := by
  intro s hs
  unfold stepsL at hs
  split at hs
  · obtain ⟨h1, h2, h3, h4, h5⟩ := volI_mem (h.rate) _ (Nat.le_refl _) s hs
    exact ⟨h1, h2, by omega, by omega, by omega⟩
  · rw [gradL_ref h] at hs
    exact ref_nn h _ (Nat.le_refl _) s hs
theorem steps_fit {x : PartX} {n : Int} (h : Srt x.ts) (hn : Fit n) : ∀ s ∈ stepsL x n, StepFit s := by
  intro s hs
  have := steps_mem h s hs
  unfold Fit at hn
  unfold StepFit Fit
  omega
theorem steps_nn {x : PartX} {n : Int} (h : Srt x.ts) : ∀ s ∈ stepsL x n, StepNN s := by
  intro s hs
  have := steps_mem h s hs
  unfold StepNN
  omega
/-- What is left of a quantity. -/
def leftI (x : PartX) (q : Int) : Int := rnd (max (q - x.al) 0) x.bl 1 * x.bl
theorem micro_eq {x : PartX} {q : Int} (h : Srt x.ts) : microO x q = if q < 0 then none else if Fit (leftI x q) then (if tot (stepsL x (leftI x q)) ≤ 9223372036854775807 then some (tot (stepsL x (leftI x q))) else none) else none := by
  unfold microO leftI
  split
  · rfl
  · split
    · rw [sumS_tot (steps_nn h) (by decide) (by decide), Int.zero_add]
    · rfl
end Go.Proofs.Ytlflfciebidddaa.Abs
