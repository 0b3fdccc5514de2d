/- Plain theory of lines: what comes of two, and what is filled. No claim stands here. -/
import Derived.Test.YtmkennmppdmnhaaKCanon14
set_option linter.unusedSimpArgs false
set_option linter.unusedVariables false
namespace Go.Proofs.Ytmkennmppdmnhaa.Abs
open Go Go.RowKit Go.Proofs
/-- Where a line's run begins; behind the last one: where the line ends. -/
def startR (R : List Run) (hi : Int) (i : Nat) : Int := match R[i]? with
  | some r => r.f
  | none => hi
theorem FwdOK.nth {val : Int → Int} {hi : Int} : ∀ {R : List Run} {lo : Int}, FwdOK val lo hi R → ∀ (i : Nat) r, R[i]? = some r → r.f = startR R hi i ∧ r.f ≤ r.t ∧ startR R hi (i + 1) = r.t + 1 ∧ r.t + 1 ≤ hi ∧ lo ≤ r.f ∧ ∀ x, r.f ≤ x → x ≤ r.t → val x = r.v := by
  intro R
  induction R with
  | nil => intro lo _ i r h; simp at h
  | cons q R ih =>
    intro lo h i r hi'
    obtain ⟨g1, g2, g3, g4, g5⟩ := h
    have hle := g5.le
    cases i with
    | zero =>
      simp -implicitDefEqProofs only [List.getElem?_cons_zero, Option.some.injEq] at hi'
      subst hi'
      refine ⟨rfl, g2, ?_, hle, by omega, g3⟩
      unfold startR
      cases R with
      | nil => exact g5.symm
      | cons s R => exact g5.1
    | succ i =>
      obtain ⟨e1, e2, e3, e4, e5, e6⟩ := ih g5 i r (by simpa using hi')
      exact ⟨by rw [e1]; simp [startR], e2, by rw [← e3]; simp [startR], e4, by omega, e6⟩
theorem startR_zero {val : Int → Int} {hi : Int} {R : List Run} {lo : Int} (h : FwdOK val lo hi R) : startR R hi 0 = lo := by
  cases R with
  | nil => exact h.symm
  | cons r R => exact h.1
theorem startR_end {R : List Run} {hi : Int} {i : Nat} (h : R[i]? = none) : startR R hi i = hi := by unfold startR; rw [h]
theorem zipG_fwd {va vb : Int → Int} {fa ha fb hb : Int} {A B : List Run} (hA : FwdOK va fa ha A) (hB : FwdOK vb fb hb B) (g : Int → Int → Int) : ∀ (n i k : Nat) (R : List Run), A.length + B.length ≤ n + i + k →
    FwdOK (fun x => g (va x) (vb x)) (max fa fb) (max (startR A ha i) (startR B hb k)) R → (max (startR A ha i) (startR B hb k) = max fa fb ∨ (max (startR A ha i) (startR B hb k) ≤ ha ∧ max (startR A ha i) (startR B hb k) ≤ hb)) →
    FwdOK (fun x => g (va x) (vb x)) (max fa fb) (max (max fa fb) (min ha hb)) (zipG g A B n i k R) := by
  have fin : ∀ (i k : Nat) (R : List Run), (A[i]? = none ∨ B[k]? = none) → FwdOK (fun x => g (va x) (vb x)) (max fa fb) (max (startR A ha i) (startR B hb k)) R →
      (max (startR A ha i) (startR B hb k) = max fa fb ∨ (max (startR A ha i) (startR B hb k) ≤ ha ∧ max (startR A ha i) (startR B hb k) ≤ hb)) → FwdOK (fun x => g (va x) (vb x)) (max fa fb) (max (max fa fb) (min ha hb)) R := by
    intro i k R h hR hm
    have hle := hR.le
    have : max (max fa fb) (min ha hb) = max (startR A ha i) (startR B hb k) := by
      rcases h with h | h
      · have := startR_end (hi := ha) h; omega
      · have := startR_end (hi := hb) h; omega
    rw [this]
    exact hR
  intro n
  induction n with
  | zero =>
    intro i k R hn hR hm
    rw [zipG]
    refine fin i k R ?_ hR hm
    by_cases h : A.length ≤ i
    · exact .inl (List.getElem?_eq_none h)
    · exact .inr (List.getElem?_eq_none (by omega))
  | succ n ih =>
    intro i k R hn hR hm
    rw [zipG]
    split
    · next x y hx hy =>
      obtain ⟨a1, a2, a3, a4, a5, a6⟩ := hA.nth i x hx
      obtain ⟨b1, b2, b3, b4, b5, b6⟩ := hB.nth k y hy
      have hf : max x.f y.f = max (startR A ha i) (startR B hb k) := by rw [a1, b1]
      have ei : startR A ha (if x.t ≤ y.t then i + 1 else i) = if x.t ≤ y.t then x.t + 1 else x.f := by split <;> simp [a3, a1]
      have ek : startR B hb (if y.t ≤ x.t then k + 1 else k) = if y.t ≤ x.t then y.t + 1 else y.f := by split <;> simp [b3, b1]
      refine ih _ _ _ (by split <;> split <;> omega) ?_ ?_
      · rw [ei, ek]
        by_cases hft : max x.f y.f ≤ min x.t y.t
        · rw [if_pos hft]
          have e : max (if x.t ≤ y.t then x.t + 1 else x.f) (if y.t ≤ x.t then y.t + 1 else y.f) = min x.t y.t + 1 := by split <;> split <;> omega
          rw [e]
          rw [← hf] at hR
          exact FwdOK.putRun (val := fun x => g (va x) (vb x)) (v := g x.v y.v) hft (fun z h1 h2 => by show g (va z) (vb z) = _; rw [a6 z (by omega) (by omega), b6 z (by omega) (by omega)]) hR
        · rw [if_neg hft]
          have e : max (if x.t ≤ y.t then x.t + 1 else x.f) (if y.t ≤ x.t then y.t + 1 else y.f) = max x.f y.f := by split <;> split <;> omega
          rw [e, hf]
          exact hR
      · rw [ei, ek]
        by_cases hft : max x.f y.f ≤ min x.t y.t
        · right
          constructor <;> split <;> split <;> omega
        · have e : max (if x.t ≤ y.t then x.t + 1 else x.f) (if y.t ≤ x.t then y.t + 1 else y.f) = max x.f y.f := by split <;> split <;> omega
          rw [e, hf]
          exact hm
    · next h =>
      refine fin i k R ?_ hR hm
      cases hx : A[i]? with
      | none => exact .inl rfl
      | some x =>
        cases hy : B[k]? with
        | none => exact .inr rfl
        | some y => exact absurd hy (h x y hx)
/-- A run, with the value in the span. -/
def fillR (lo hi v : Int) (R : List Run) (r : Run) : List Run :=
  let low := max r.f lo
  let high := min r.t hi
  if low > high then putR R r else
    let R1 := if r.f < low then putR R ⟨r.f, low - 1, r.v⟩ else R
    let R2 := putR R1 ⟨low, high, v⟩
    if high < r.t then putR R2 ⟨high + 1, r.t, r.v⟩ else R2
def fillN (lo hi v : Int) (l : List Run) : Nat → List Run
  | 0 => []
  | i + 1 => match l[i]? with
    | some r => fillR lo hi v (fillN lo hi v l i) r
    | none => fillN lo hi v l i
theorem fillR_len {lo hi v : Int} {R : List Run} {r : Run} : (fillR lo hi v R r).length ≤ R.length + 3 := by
  unfold fillR
  simp -implicitDefEqProofs only []
  have k1 := @putR_len R r
  have k2 := @putR_len R ⟨r.f, max r.f lo - 1, r.v⟩
  have k3 := @putR_len (putR R ⟨r.f, max r.f lo - 1, r.v⟩) ⟨max r.f lo, min r.t hi, v⟩
  have k4 := @putR_len R ⟨max r.f lo, min r.t hi, v⟩
  have k5 := @putR_len (putR (putR R ⟨r.f, max r.f lo - 1, r.v⟩) ⟨max r.f lo, min r.t hi, v⟩) ⟨min r.t hi + 1, r.t, r.v⟩
  have k6 := @putR_len (putR R ⟨max r.f lo, min r.t hi, v⟩) ⟨min r.t hi + 1, r.t, r.v⟩
  split
  · omega
  · split <;> split <;> omega
theorem fillN_len {lo hi v : Int} {l : List Run} : ∀ i : Nat, (fillN lo hi v l i).length ≤ 3 * i
  | 0 => Nat.le_refl _
  | i + 1 => by
    have h := fillN_len (lo := lo) (hi := hi) (v := v) (l := l) i
    rw [fillN]
    split
    · next r hr =>
      have := @fillR_len lo hi v (fillN lo hi v l i) r
      omega
    · omega
def inS (lo hi x : Int) : Bool := decide (lo ≤ x) && decide (x ≤ hi)
theorem fillN_fwd {val : Int → Int} {lo hi v f e : Int} {L : List Run} (hL : FwdOK val f e L) : ∀ i : Nat, i ≤ L.length → FwdOK (fun x => if lo ≤ x ∧ x ≤ hi then v else val x) f (startR L e i) (fillN lo hi v L i)
  | 0, _ => by rw [startR_zero hL]; rfl
  | i + 1, hi' => by
    have h := fillN_fwd hL i (by omega) (lo := lo) (hi := hi) (v := v)
    obtain ⟨r, hr⟩ : ∃ r, L[i]? = some r := ⟨_, List.getElem?_eq_getElem (by omega)⟩
    obtain ⟨a1, a2, a3, a4, a5, a6⟩ := hL.nth i r hr
    rw [fillN, hr, a3]
    simp -implicitDefEqProofs only []
    rw [← a1] at h
    generalize fillN lo hi v L i = R at *
    unfold fillR
    simp -implicitDefEqProofs only []
    split
    · next hc =>
      exact FwdOK.putRun (v := r.v) a2 (fun x h1 h2 => by rw [if_neg (by omega)]; exact a6 x h1 h2) h
    · next hc =>
      have h1 : FwdOK (fun x => if lo ≤ x ∧ x ≤ hi then v else val x) f (max r.f lo) (if r.f < max r.f lo then putR R ⟨r.f, max r.f lo - 1, r.v⟩ else R) := by
        split
        · next hc2 =>
          have := FwdOK.putRun (t := max r.f lo - 1) (v := r.v) (by omega) (fun x h1 h2 => by show (if lo ≤ x ∧ x ≤ hi then v else val x) = _; rw [if_neg (by omega)]; exact a6 x h1 (by omega)) h
          rwa [show max r.f lo - 1 + 1 = max r.f lo by omega] at this
        · next hc2 => rwa [show max r.f lo = r.f by omega]
      have h2 := FwdOK.putRun (t := min r.t hi) (v := v) (by omega) (fun x h1 h2 => by show (if lo ≤ x ∧ x ≤ hi then v else val x) = _; rw [if_pos (by omega)]) h1
      split
      · next hc3 => exact FwdOK.putRun (t := r.t) (v := r.v) (by omega) (fun x h1 h2 => by show (if lo ≤ x ∧ x ≤ hi then v else val x) = _; rw [if_neg (by omega)]; exact a6 x (by omega) h2) h2
      · next hc3 =>
        have e : min r.t hi = r.t := by omega
        rw [e] at h2 ⊢
        exact h2
end Go.Proofs.Ytmkennmppdmnhaa.Abs
