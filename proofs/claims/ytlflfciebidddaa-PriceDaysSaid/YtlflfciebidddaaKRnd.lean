/- Rounding, in plain numbers. No claim stands here. -/
import Derived.Test.YtlflfciebidddaaAbsW
set_option linter.unusedSimpArgs false
set_option linter.unusedVariables false
namespace Go.Proofs.Ytlflfciebidddaa.Abs
open Go Go.RowKit Go.Proofs
def upP (m q r c : Int) : Prop := m = 1 ∧ 0 < r ∨ m = 2 ∧ c ≤ 2 * r ∨ m = 3 ∧ (c < 2 * r ∨ c = 2 * r ∧ q % 2 = 1)
instance (m q r c : Int) : Decidable (upP m q r c) := by unfold upP; exact inferInstance
/-- A number, divided and rounded by a mode. -/
def rnd (p c m : Int) : Int := p / c + if upP m (p / c) (p % c) c then 1 else 0
def awayP (m : Int) (neg : Bool) (q r c : Int) : Prop := r ≠ 0 ∧ (m = 0 ∧ neg = true ∨ m = 1 ∧ neg = false ∨ m = 2 ∧ (r > c - r ∨ r = c - r ∧ neg = false) ∨ m = 3 ∧ (r > c - r ∨ r = c - r ∧ q % 2 = 1))
instance (m : Int) (neg : Bool) (q r c : Int) : Decidable (awayP m neg q r c) := by unfold awayP; exact inferInstance
theorem div_facts {p c : Int} (hc : 0 < c) : p / c * c + p % c = p ∧ 0 ≤ p % c ∧ p % c < c := by
  have e := Int.emod_add_mul_ediv p c
  rw [Int.mul_comm] at e
  exact ⟨by omega, Int.emod_nonneg _ (by omega), Int.emod_lt_of_pos _ hc⟩
theorem div_unique {p c q r : Int} (hc : 0 < c) (h : q * c + r = p) (h1 : 0 ≤ r) (h2 : r < c) : p / c = q ∧ p % c = r :=
  (Int.ediv_emod_unique hc).2 ⟨by rw [Int.mul_comm] at h; omega, h1, h2⟩
theorem rnd_abs {p c m : Int} {neg : Bool} (hc : 0 < c) (hm : 0 ≤ m ∧ m ≤ 3) (h1 : neg = true → p ≤ 0) (h2 : neg = false → 0 ≤ p) :
    rnd p c m = (if neg = true then -1 else 1) * ((p.natAbs : Int) / c + if awayP m neg ((p.natAbs : Int) / c) ((p.natAbs : Int) % c) c then 1 else 0) := by
  obtain ⟨e, f, g⟩ := div_facts (p := (p.natAbs : Int)) hc
  have fp := div_facts (p := p) hc
  generalize (p.natAbs : Int) / c = q at *
  generalize (p.natAbs : Int) % c = r at *
  unfold rnd
  cases neg with
  | false =>
    have := h2 rfl
    obtain ⟨d1, d2⟩ := div_unique (p := p) hc (q := q) (r := r) (by omega) f g
    rw [d1, d2]
    have : upP m q r c ↔ awayP m false q r c := by
      unfold upP awayP
      simp -implicitDefEqProofs only [Bool.false_eq_true, and_false, and_true, false_or]
      omega
    simp -implicitDefEqProofs only [this, Bool.false_eq_true, if_false]
    omega
  | true =>
    have := h1 rfl
    by_cases hr : r = 0
    · subst hr
      obtain ⟨d1, d2⟩ := div_unique (p := p) hc (q := -q) (r := 0) (by rw [Int.neg_mul]; omega) (by omega) hc
      rw [d1, d2]
      have a1 : ¬ upP m (-q) 0 c := by unfold upP; omega
      have a2 : ¬ awayP m true q 0 c := by unfold awayP; omega
      simp -implicitDefEqProofs only [if_neg a1, if_neg a2, if_true]
      omega
    · obtain ⟨d1, d2⟩ := div_unique (p := p) hc (q := -q - 1) (r := c - r) (by rw [Int.sub_mul, Int.neg_mul]; omega) (by omega) (by omega)
      rw [d1, d2]
      by_cases a2 : awayP m true q r c
      · have a1 : ¬ upP m (-q - 1) (c - r) c := by
          unfold awayP at a2; unfold upP
          simp -implicitDefEqProofs only [reduceCtorEq, and_false, and_true, false_or, or_false] at a2
          omega
        simp -implicitDefEqProofs only [if_neg a1, if_pos a2, if_true]
        omega
      · have a1 : upP m (-q - 1) (c - r) c := by
          unfold awayP at a2; unfold upP
          simp -implicitDefEqProofs only [reduceCtorEq, and_false, and_true, false_or, or_false] at a2
          omega
        simp -implicitDefEqProofs only [if_pos a1, if_neg a2, if_true]
        omega
theorem rnd_cases {p c m : Int} (hc : 0 < c) (hm : 0 ≤ m ∧ m ≤ 3) : ∃ q r, q * c + r = p ∧ 0 ≤ r ∧ r < c ∧ p / c = q ∧ p % c = r ∧ (¬ upP m q r c ∧ rnd p c m = q ∨ upP m q r c ∧ rnd p c m = q + 1) := by
  obtain ⟨e, f, g⟩ := div_facts (p := p) hc
  refine ⟨_, _, e, f, g, rfl, rfl, ?_⟩
  unfold rnd
  by_cases h : upP m (p / c) (p % c) c
  · exact .inr ⟨h, by rw [if_pos h]⟩
  · exact .inl ⟨h, by rw [if_neg h, Int.add_zero]⟩
theorem rnd_mono {p p' c m : Int} (hc : 0 < c) (hm : 0 ≤ m ∧ m ≤ 3) (h : p ≤ p') : rnd p c m ≤ rnd p' c m := by
  obtain ⟨q, r, e, f, g, d1, d2, hh⟩ := rnd_cases (p := p) hc hm
  obtain ⟨q', r', e', f', g', d1', d2', hh'⟩ := rnd_cases (p := p') hc hm
  have hq : q ≤ q' := by rw [← d1, ← d1']; exact Int.ediv_le_ediv hc h
  rcases Int.lt_or_eq_of_le hq with h1 | h1
  · omega
  · subst h1
    have hr : r ≤ r' := by omega
    unfold upP at hh hh'
    omega
theorem rnd_near {p c m : Int} (hc : 0 < c) (hm : 0 ≤ m ∧ m ≤ 3) : ∃ q r, rnd p c m * c + (if upP m q r c then r - c else r) = p ∧ 0 ≤ r ∧ r < c ∧ rnd p c m = q + (if upP m q r c then 1 else 0) := by
  obtain ⟨q, r, e, f, g, d1, d2, hh⟩ := rnd_cases (p := p) hc hm
  refine ⟨q, r, ?_, f, g, ?_⟩
  · rcases hh with ⟨h1, h2⟩ | ⟨h1, h2⟩
    · rw [h2, if_neg h1]; exact e
    · rw [h2, if_pos h1, Int.add_mul]; omega
  · rcases hh with ⟨h1, h2⟩ | ⟨h1, h2⟩
    · rw [h2, if_neg h1]; omega
    · rw [h2, if_pos h1]
theorem rnd_fit {a c m : Int} (hc : 0 < c) (hm : 0 ≤ m ∧ m ≤ 3) (ha : -9223372036854775808 ≤ a ∧ a ≤ 9223372036854775807) : -9223372036854775808 ≤ rnd a c m ∧ rnd a c m ≤ 9223372036854775807 := by
  have h1 : rnd (-9223372036854775808) c m ≤ rnd a c m := rnd_mono hc hm ha.1
  have h2 : rnd a c m ≤ rnd 9223372036854775807 c m := rnd_mono hc hm ha.2
  have h3 : -9223372036854775808 ≤ rnd (-9223372036854775808) c m := by
    obtain ⟨q, r, e, f, g, d1, d2, hh⟩ := rnd_cases (p := -9223372036854775808) hc hm
    have : -9223372036854775808 ≤ q := by
      rw [← d1, Int.le_ediv_iff_mul_le hc]; omega
    omega
  have h4 : rnd 9223372036854775807 c m ≤ 9223372036854775807 := by
    obtain ⟨q, r, e, f, g, d1, d2, hh⟩ := rnd_cases (p := 9223372036854775807) hc hm
    by_cases h0 : c = 1
    · subst h0
      unfold upP at hh
      omega
    · have : q < 4611686018427387904 := by
        rw [← d1, Int.ediv_lt_iff_lt_mul hc]; omega
      omega
  omega
theorem rnd_turn {p c : Int} (hc : 0 < c) : rnd (-p) c 1 = - rnd p c 0 := by
  obtain ⟨q, r, e, f, g, d1, d2, hh⟩ := rnd_cases (p := p) (m := 0) hc (by omega)
  obtain ⟨q', r', e', f', g', d1', d2', hh'⟩ := rnd_cases (p := -p) (m := 1) hc (by omega)
  by_cases hr : r = 0
  · obtain ⟨k1, k2⟩ := div_unique (p := -p) hc (q := -q) (r := 0) (by rw [Int.neg_mul]; omega) (by omega) hc
    unfold upP at hh hh'
    omega
  · obtain ⟨k1, k2⟩ := div_unique (p := -p) hc (q := -q - 1) (r := c - r) (by rw [Int.sub_mul, Int.neg_mul]; omega) (by omega) (by omega)
    unfold upP at hh hh'
    omega
theorem rnd_even {p c : Int} (hc : 0 < c) : rnd (-p) c 3 = - rnd p c 3 := by
  obtain ⟨q, r, e, f, g, d1, d2, hh⟩ := rnd_cases (p := p) (m := 3) hc (by omega)
  obtain ⟨q', r', e', f', g', d1', d2', hh'⟩ := rnd_cases (p := -p) (m := 3) hc (by omega)
  by_cases hr : r = 0
  · obtain ⟨k1, k2⟩ := div_unique (p := -p) hc (q := -q) (r := 0) (by rw [Int.neg_mul]; omega) (by omega) hc
    unfold upP at hh hh'
    omega
  · obtain ⟨k1, k2⟩ := div_unique (p := -p) hc (q := -q - 1) (r := c - r) (by rw [Int.sub_mul, Int.neg_mul]; omega) (by omega) (by omega)
    unfold upP at hh hh'
    omega
/-- The greatest number of 64 bits that, times c, isn't above p. -/
def capQ (p c : Int) : Int := if p / c ≤ 9223372036854775807 then p / c else 9223372036854775807
theorem cap_le {p c n : Int} (hc : 0 < c) (hn : n ≤ 9223372036854775807) : n ≤ capQ p c ↔ n * c ≤ p := by
  unfold capQ
  rw [← Int.le_ediv_iff_mul_le hc]
  split <;> omega
end Go.Proofs.Ytlflfciebidddaa.Abs
