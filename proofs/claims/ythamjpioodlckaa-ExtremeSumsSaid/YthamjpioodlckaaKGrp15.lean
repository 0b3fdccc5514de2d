/- Runs in groups of plateaus: plain lists. No claim stands here. -/
import Derived.Test.YthamjpioodlckaaKCanon14
set_option linter.unusedSimpArgs false
set_option linter.unusedVariables false
namespace Go.Proofs.Ythamjpioodlckaa.Abs
open Go Go.RowKit Go.Proofs
/-- A group: from a quantity on, its value, how wide its plateaus are, by how much they rise, how many there are. -/
structure Grp where
  f : Int
  v : Int
  w : Int
  r : Int
  c : Int
  deriving DecidableEq
/-- How many runs behind one lie as far off each other, and rise by as much. -/
def runLen (w r : Int) (a : Run) : List Run → Nat
  | [] => 0
  | b :: l => if b.f - a.f = w ∧ b.v - a.v = r then runLen w r b l + 1 else 0
theorem runLen_le {w r : Int} : ∀ {l : List Run} {a : Run}, runLen w r a l ≤ l.length
  | [], a => Nat.le_refl _
  | b :: l, a => by
    rw [runLen]
    split
    · have := @runLen_le w r l b
      simp -implicitDefEqProofs only [List.length_cons]; omega
    · omega
def grpOf (a : Run) : List Run → Grp × Nat
  | [] => (⟨a.f, a.v, 0, 0, 1⟩, 1)
  | b :: l => (⟨a.f, a.v, b.f - a.f, b.v - a.v, ((runLen (b.f - a.f) (b.v - a.v) a (b :: l) + 1 : Nat) : Int)⟩, runLen (b.f - a.f) (b.v - a.v) a (b :: l) + 1)
theorem grpOf_le {a : Run} {l : List Run} : 1 ≤ (grpOf a l).2 ∧ (grpOf a l).2 ≤ l.length + 1 ∧ (grpOf a l).1.c = (grpOf a l).2 := by
  cases l with
  | nil => exact ⟨Nat.le_refl _, Nat.le_refl _, rfl⟩
  | cons b l =>
    have := @runLen_le (b.f - a.f) (b.v - a.v) (b :: l) a
    exact ⟨by show 1 ≤ runLen _ _ _ _ + 1; omega, by show runLen _ _ _ _ + 1 ≤ _; omega, rfl⟩
def groupsF : Nat → List Run → List Grp
  | 0, _ => []
  | _ + 1, [] => []
  | n + 1, a :: l => (grpOf a l).1 :: groupsF n ((a :: l).drop (grpOf a l).2)
def groups (R : List Run) : List Grp := groupsF R.length R
theorem groupsF_fuel : ∀ {n : Nat} {R : List Run}, R.length ≤ n → groupsF n R = groupsF R.length R
  | 0, [], _ => rfl
  | n + 1, [], _ => rfl
  | n + 1, a :: l, h => by
    obtain ⟨h1, h2, _⟩ := @grpOf_le a l
    have hl : ((a :: l).drop (grpOf a l).2).length ≤ l.length := by rw [List.length_drop]; simp -implicitDefEqProofs only [List.length_cons]; omega
    simp -implicitDefEqProofs only [List.length_cons] at h
    rw [List.length_cons, groupsF, groupsF, groupsF_fuel (n := n) (by omega), groupsF_fuel (n := l.length) hl]
theorem groups_cons {a : Run} {l : List Run} : groups (a :: l) = (grpOf a l).1 :: groups ((a :: l).drop (grpOf a l).2) := by
  obtain ⟨h1, h2, _⟩ := @grpOf_le a l
  have hl : ((a :: l).drop (grpOf a l).2).length ≤ l.length := by rw [List.length_drop]; simp -implicitDefEqProofs only [List.length_cons]; omega
  unfold groups
  rw [List.length_cons, groupsF, groupsF_fuel (n := l.length) hl]
theorem groups_nil : groups [] = [] := rfl
theorem groups_len : ∀ {n : Nat} {R : List Run}, R.length ≤ n → (groups R).length ≤ R.length
  | _, [], _ => Nat.le_refl _
  | 0, a :: l, h => absurd h (by simp)
  | n + 1, a :: l, h => by
    obtain ⟨h1, h2, _⟩ := @grpOf_le a l
    simp -implicitDefEqProofs only [List.length_cons] at h
    have hl : ((a :: l).drop (grpOf a l).2).length ≤ l.length := by rw [List.length_drop]; simp -implicitDefEqProofs only [List.length_cons]; omega
    have := groups_len (n := n) (R := (a :: l).drop (grpOf a l).2) (by omega)
    rw [groups_cons]
    simp -implicitDefEqProofs only [List.length_cons]
    omega
/-- A group's number at a quantity. -/
def valG (g : Grp) (q : Int) : Int := if g.w < 1 then g.v else g.v + min ((q - g.f).tdiv g.w) (g.c - 1) * g.r
/-- The number at a quantity, by the last group that begins at it, or ahead. -/
def atG : List Grp → Int → Option Int
  | [], _ => none
  | g :: G, q => match atG G q with
    | some v => some v
    | none => if g.f ≤ q then some (valG g q) else none
/-- The first of a group's runs: where they lie. -/
theorem runLen_nth {w r : Int} : ∀ {l : List Run} {a : Run} (j : Nat), j < runLen w r a l → ∃ h : j < l.length, l[j].f = a.f + (j + 1) * w ∧ l[j].v = a.v + (j + 1) * r
  | [], a, j, h => absurd h (Nat.not_lt_zero _)
  | b :: l, a, j, h => by
    rw [runLen] at h
    split at h
    · next hc =>
      cases j with
      | zero => exact ⟨by simp, by simp -implicitDefEqProofs only [List.getElem_cons_zero]; omega, by simp -implicitDefEqProofs only [List.getElem_cons_zero]; omega⟩
      | succ j =>
        obtain ⟨g1, g2, g3⟩ := runLen_nth (w := w) (r := r) (l := l) (a := b) j (by omega)
        refine ⟨by simpa using g1, ?_, ?_⟩
        · simp -implicitDefEqProofs only [List.getElem_cons_succ]
          rw [g2, show (((j + 1 : Nat) : Int) + 1) * w = ((j : Int) + 1) * w + w by rw [Int.add_mul ((j + 1 : Nat) : Int), Int.one_mul]; rfl]
          omega
        · simp -implicitDefEqProofs only [List.getElem_cons_succ]
          rw [g3, show (((j + 1 : Nat) : Int) + 1) * r = ((j : Int) + 1) * r + r by rw [Int.add_mul ((j + 1 : Nat) : Int), Int.one_mul]; rfl]
          omega
    · omega
/-- All of a group's runs. -/
theorem grp_nth {a : Run} {l : List Run} (j : Nat) (hj : j < (grpOf a l).2) : ∃ h : j < (a :: l).length, (a :: l)[j].f = (grpOf a l).1.f + j * (grpOf a l).1.w ∧ (a :: l)[j].v = (grpOf a l).1.v + j * (grpOf a l).1.r := by
  cases l with
  | nil =>
    have : j = 0 := by simp -implicitDefEqProofs only [grpOf] at hj; omega
    subst this
    exact ⟨by simp, by simp [grpOf], by simp [grpOf]⟩
  | cons b l =>
    cases j with
    | zero => exact ⟨by simp, by simp [grpOf], by simp [grpOf]⟩
    | succ j =>
      simp -implicitDefEqProofs only [grpOf] at hj
      obtain ⟨g1, g2, g3⟩ := runLen_nth (w := b.f - a.f) (r := b.v - a.v) (l := b :: l) (a := a) j (by omega)
      exact ⟨by simpa using g1, by simpa [grpOf] using g2, by simpa [grpOf] using g3⟩
theorem grp_wide {val : Int → Int} {lo hi : Int} {a : Run} {l : List Run} (h : FwdOK val lo hi (a :: l)) : (l = [] ∧ (grpOf a l).1.w = 0 ∧ (grpOf a l).1.r = 0 ∧ (grpOf a l).2 = 1) ∨ (l ≠ [] ∧ 1 ≤ (grpOf a l).1.w ∧ (grpOf a l).1.r ≠ 0 ∧ 2 ≤ (grpOf a l).2) := by
  cases l with
  | nil => exact .inl ⟨rfl, rfl, rfl, rfl⟩
  | cons b l =>
    obtain ⟨g1, g2, g3, g4, g5⟩ := h
    refine .inr ⟨by simp, ?_, ?_, ?_⟩
    · show 1 ≤ b.f - a.f
      have := g5.1
      omega
    · show b.v - a.v ≠ 0
      have := g4 b (by simp)
      omega
    · show 2 ≤ runLen _ _ _ _ + 1
      rw [runLen, if_pos ⟨rfl, rfl⟩]
      omega
theorem FwdOK.drop {val : Int → Int} {hi : Int} : ∀ {R : List Run} {lo : Int} (k : Nat), FwdOK val lo hi R → k ≤ R.length → ∃ m, FwdOK val m hi (R.drop k) ∧ lo + k ≤ m ∧ (∀ q, lo ≤ q → q < m → ∃ (j : Nat) (h : j < R.length), j < k ∧ R[j].f ≤ q ∧ q ≤ R[j].t ∧ val q = R[j].v ∧ (∀ (h2 : j + 1 < R.length), q < R[j + 1].f))
  | R, lo, 0, h, _ => ⟨lo, h, by omega, fun q h1 h2 => by omega⟩
  | [], lo, k + 1, h, hk => absurd hk (by simp)
  | a :: R, lo, k + 1, ⟨g1, g2, g3, g4, g5⟩, hk => by
    obtain ⟨m, k1, k2, k3⟩ := FwdOK.drop k g5 (by simpa using hk)
    refine ⟨m, k1, by omega, fun q h1 h2 => ?_⟩
    by_cases hq : q ≤ a.t
    · refine ⟨0, by simp, by omega, by simpa using (by omega), by simpa using hq, by simpa using g3 q (by omega) hq, fun h3 => ?_⟩
      cases R with
      | nil => simp at h3
      | cons b R =>
        have := g5.1
        simp -implicitDefEqProofs only [List.getElem_cons_succ, List.getElem_cons_zero]
        omega
    · obtain ⟨j, j1, j2, j3, j4, j5, j6⟩ := k3 q (by omega) h2
      exact ⟨j + 1, by simpa using j1, by omega, by simpa using j3, by simpa using j4, by simpa using j5, fun h3 => by simpa using j6 (by simpa using h3)⟩
theorem div_at {x w : Int} {j : Nat} (hw : 1 ≤ w) (h0 : (j : Int) * w ≤ x) : (j : Int) ≤ x.tdiv w ∧ (x < (j + 1) * w → x.tdiv w = j) := by
  have hx : 0 ≤ x := Int.le_trans (Int.mul_nonneg (by omega) (by omega)) h0
  rw [Int.tdiv_eq_ediv_of_nonneg hx]
  refine ⟨Int.le_ediv_of_mul_le (by omega) h0, fun h1 => ?_⟩
  have h2 := Int.le_ediv_of_mul_le (show 0 < w by omega) h0
  have h3 := Int.ediv_lt_of_lt_mul (show 0 < w by omega) h1
  omega
theorem atG_groups {val : Int → Int} {hi : Int} : ∀ (n : Nat) {R : List Run} {lo : Int}, R.length ≤ n → FwdOK val lo hi R → ∀ q, (q < lo → atG (groups R) q = none) ∧ (lo ≤ q → q < hi → atG (groups R) q = some (val q))
  | _, [], lo, _, h, q => ⟨fun _ => rfl, fun h1 h2 => by have : lo = hi := h; omega⟩
  | 0, a :: l, lo, hn, h, q => absurd hn (by simp)
  | n + 1, a :: l, lo, hn, h, q => by
    obtain ⟨h1, h2, hc⟩ := @grpOf_le a l
    simp -implicitDefEqProofs only [List.length_cons] at hn
    obtain ⟨m, k1, k2, k3⟩ := FwdOK.drop (grpOf a l).2 h (by simp -implicitDefEqProofs only [List.length_cons]; omega)
    have hl : ((a :: l).drop (grpOf a l).2).length ≤ n := by rw [List.length_drop]; simp -implicitDefEqProofs only [List.length_cons]; omega
    obtain ⟨i1, i2⟩ := atG_groups n hl k1 q
    have hgf : (grpOf a l).1.f = lo := by
      have := h.1
      cases l <;> exact this
    have hgv : (grpOf a l).1.v = a.v := by cases l <;> rfl
    rw [groups_cons, atG, hgf]
    refine ⟨fun hq => ?_, fun hq hq2 => ?_⟩
    · rw [i1 (by omega)]
      simp -implicitDefEqProofs only []
      rw [if_neg (by omega)]
    · by_cases hm : m ≤ q
      · rw [i2 hm hq2]
      · rw [i1 (by omega)]
        simp -implicitDefEqProofs only []
        rw [if_pos hq]
        congr 1
        obtain ⟨j, j1, j2, j3, j4, j5, j6⟩ := k3 q hq (by omega)
        obtain ⟨e1, e2, e3⟩ := grp_nth (a := a) (l := l) j j2
        rw [j5, e3]
        unfold valG
        rcases grp_wide h with ⟨w0, w1, w2, w3⟩ | ⟨w0, w1, w2, w3⟩
        · rw [if_pos (by omega), w2, Int.mul_zero, Int.add_zero]
        · rw [if_neg (by omega), hc, hgf]
          rw [hgf] at e2
          congr 2
          obtain ⟨d1, d2⟩ := div_at (x := q - lo) (w := (grpOf a l).1.w) (j := j) w1 (by omega)
          by_cases hj : j + 1 < (grpOf a l).2
          · obtain ⟨f1, f2, f3⟩ := grp_nth (a := a) (l := l) (j + 1) hj
            have := j6 (by omega)
            rw [f2, hgf, show (((j + 1 : Nat) : Int)) = (j : Int) + 1 from rfl] at this
            rw [d2 (by omega)]
            omega
          · omega
end Go.Proofs.Ythamjpioodlckaa.Abs
