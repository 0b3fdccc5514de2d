/- Runs are told by their values: put together in whatever way. No claim stands here. -/
import Derived.Test.YtmkennmppdmnhaaKSame14
set_option linter.unusedSimpArgs false
set_option linter.unusedVariables false
namespace Go.Proofs.Ytmkennmppdmnhaa.Abs
open Go Go.RowKit Go.Proofs
theorem FwdOK.congr {val val' : Int → Int} {hi : Int} : ∀ {R : List Run} {lo : Int}, (∀ x, lo ≤ x → x < hi → val x = val' x) → FwdOK val lo hi R → FwdOK val' lo hi R
  | [], _, _, h => h
  | r :: R, lo, he, h => by
    obtain ⟨g1, g2, g3, g4, g5⟩ := h
    have := g5.le
    exact ⟨g1, g2, fun x h1 h2 => by rw [← he x (by omega) (by omega)]; exact g3 x h1 h2, g4, FwdOK.congr (fun x h1 h2 => he x (by omega) h2) g5⟩
theorem FwdOK.putRun {val : Int → Int} {hi t v : Int} (ht : hi ≤ t) (hv : ∀ x, hi ≤ x → x ≤ t → val x = v) : ∀ {R : List Run} {lo : Int}, FwdOK val lo hi R → FwdOK val lo (t + 1) (putR R ⟨hi, t, v⟩)
  | [], lo, h => by
    have : lo = hi := h
    subst this
    exact ⟨rfl, ht, hv, fun s h => (by cases h), rfl⟩
  | [r], lo, h => by
    obtain ⟨h1, h2, h3, h4, h5⟩ := h
    have h5 : r.t + 1 = hi := h5
    unfold putR
    simp -implicitDefEqProofs only [List.getLast?_singleton]
    split
    · next he =>
      refine ⟨h1, by show r.f ≤ t; omega, fun x x1 x2 => ?_, fun s h => (by cases h), rfl⟩
      by_cases hx : hi ≤ x
      · rw [hv x hx x2]; exact he.symm
      · exact h3 x x1 (by omega)
    · next he =>
      refine ⟨h1, h2, h3, fun s h => ?_, ⟨h5.symm, ht, hv, fun s h => (by cases h), rfl⟩⟩
      cases h; exact he
  | r :: s :: R, lo, h => by
    obtain ⟨h1, h2, h3, h4, h5⟩ := h
    rw [putR_cons (by simp)]
    refine ⟨h1, h2, h3, fun q hq => ?_, FwdOK.putRun ht hv h5⟩
    rw [putR_head hq]
    exact h4 s rfl
theorem FwdOK.canon {val : Int → Int} {hi : Int} : ∀ {R S : List Run} {lo : Int}, FwdOK val lo hi R → FwdOK val lo hi S → R = S
  | [], [], _, _, _ => rfl
  | [], s :: S, lo, h, k => by
    have : lo = hi := h
    obtain ⟨k1, k2, _, _, k5⟩ := k
    have := k5.le
    omega
  | r :: R, [], lo, h, k => by
    have : lo = hi := k
    obtain ⟨k1, k2, _, _, k5⟩ := h
    have := k5.le
    omega
  | r :: R, s :: S, lo, h, k => by
    obtain ⟨h1, h2, h3, h4, h5⟩ := h
    obtain ⟨k1, k2, k3, k4, k5⟩ := k
    have hh := h5.le
    have kk := k5.le
    have ev : r.v = s.v := by rw [← h3 lo (by omega) (by omega), ← k3 lo (by omega) (by omega)]
    have key : ∀ {A : List Run} {a b : Run}, FwdOK val (a.t + 1) hi A → b.t + 1 ≤ hi → a.f = lo → b.f = lo → a.f ≤ a.t → (∀ x, b.f ≤ x → x ≤ b.t → val x = b.v) → (∀ q, A.head? = some q → a.v ≠ q.v) → a.v = b.v → ¬ a.t < b.t := by
      intro A a b hA hb ha hb2 haa hbv hne hab hlt
      cases A with
      | nil => have : a.t + 1 = hi := hA; omega
      | cons q A =>
        obtain ⟨q1, q2, q3, _, _⟩ := hA
        have e1 := q3 q.f (Int.le_refl _) q2
        have e2 := hbv q.f (by omega) (by omega)
        exact hne q rfl (by rw [hab, ← e2, e1])
    have et : r.t = s.t := by
      have n1 := key h5 kk h1 k1 h2 k3 h4 ev
      have n2 := key k5 hh k1 h1 k2 h3 k4 ev.symm
      omega
    have ers : r = s := by
      obtain ⟨rf, rt, rv⟩ := r
      obtain ⟨sf, st, sv⟩ := s
      simp -implicitDefEqProofs only at h1 k1 et ev
      subst h1; subst et; subst ev; rw [k1]
    rw [ers]
    rw [et] at h5
    exact congrArg _ (FwdOK.canon h5 k5)
/-- A list's values, at numbers. -/
def valL (f : Int) (l : List Int) : Int → Int := fun x => l.getD (x - f).toNat 0
theorem runs_fwd (f : Int) (l : List Int) : FwdOK (valL f l) f (f + l.length) (runs f l) := runsN_ok f l l.length
theorem runs_eq {val : Int → Int} {f : Int} {l : List Int} {R : List Run} (h : FwdOK val f (f + l.length) R) (hv : ∀ (i : Nat) (hi : i < l.length), val (f + i) = l[i]) : R = runs f l := by
  refine FwdOK.canon (h.congr fun x h1 h2 => ?_) (runs_fwd f l)
  obtain ⟨i, rfl⟩ : ∃ i : Nat, x = f + i := ⟨(x - f).toNat, by omega⟩
  have hi : i < l.length := by omega
  rw [hv i hi, valL, show (f + (i : Int) - f).toNat = i by omega]
  simp [hi]
theorem runs_inj {f : Int} {a b : List Int} : runs f a = runs f b ↔ a = b := by
  refine ⟨fun h => ?_, fun h => by rw [h]⟩
  have hk : ∀ x, refAt f a x = refAt f b x := fun x => by rw [← at_ref, ← at_ref, h]
  have hl : a.length = b.length := by
    have key : ∀ {a b : List Int}, (∀ x, refAt f a x = refAt f b x) → a.length ≤ b.length := by
      intro a b hk
      rcases Nat.lt_or_ge b.length a.length with h | h
      · have := hk (f + b.length)
        unfold refAt at this
        rw [if_neg (by omega), if_pos (by omega)] at this
        cases this
      · exact h
    have h1 := key hk
    have h2 := key fun x => (hk x).symm
    omega
  refine List.ext_getElem hl fun i h1 h2 => ?_
  have := hk (f + i)
  unfold refAt at this
  rw [if_neg (by omega), if_neg (by omega), Option.some.injEq, show (f + (i : Int) - f).toNat = i by omega] at this
  simpa [h1, h2] using this
theorem mapN_fwd {val : Int → Int} {g : Int → Int} {lo : Int} : ∀ {R : List Run} {hi : Int}, FwdOK val lo hi R → ∀ i : Nat, i ≤ R.length → ∃ m, FwdOK (fun x => g (val x)) lo m (mapN g R i) ∧ (∀ (h : i < R.length), R[i].f = m) ∧ (i = R.length → m = hi) := by
  intro R hi h i
  have hf : ∀ {R : List Run} {lo : Int}, FwdOK val lo hi R → ∀ (i : Nat) (h : i < R.length), (∀ x, R[i].f ≤ x → x ≤ R[i].t → val x = R[i].v) ∧ R[i].f ≤ R[i].t ∧ (i = 0 → R[i].f = lo) ∧ (∀ (h2 : i + 1 < R.length), R[i + 1].f = R[i].t + 1) ∧ (i + 1 = R.length → R[i].t + 1 = hi) := by
    intro R
    induction R with
    | nil => intro lo _ i h; exact absurd h (Nat.not_lt_zero _)
    | cons r R ih =>
      intro lo h i hi'
      obtain ⟨g1, g2, g3, g4, g5⟩ := h
      cases i with
      | zero =>
        refine ⟨g3, g2, fun _ => g1, fun h2 => ?_, fun h2 => ?_⟩
        · have h2' : 0 < R.length := by simpa using h2
          exact ((ih g5) 0 h2').2.2.1 rfl
        · have : R = [] := List.length_eq_zero_iff.1 (by simpa using h2.symm)
          subst this; exact g5
      | succ i =>
        obtain ⟨e1, e2, e3, e4, e5⟩ := ih g5 i (by simpa using hi')
        exact ⟨e1, e2, fun h => absurd h (Nat.succ_ne_zero _), fun h2 => e4 (by simpa using h2), fun h2 => e5 (by simpa using h2)⟩
  induction i with
  | zero =>
    intro _
    refine ⟨lo, rfl, fun h0 => ((hf h) 0 h0).2.2.1 rfl, fun h0 => ?_⟩
    have : R = [] := List.length_eq_zero_iff.1 h0.symm
    subst this; exact h
  | succ i ih =>
    intro hi'
    obtain ⟨m, m1, m2, m3⟩ := ih (by omega)
    have hlt : i < R.length := by omega
    obtain ⟨e1, e2, e3, e4, e5⟩ := (hf h) i hlt
    have em := m2 hlt
    refine ⟨R[i].t + 1, ?_, fun h2 => e4 h2, fun h2 => e5 h2⟩
    rw [mapN, List.getElem?_eq_getElem hlt]
    simp -implicitDefEqProofs only []
    have := FwdOK.putRun (val := fun x => g (val x)) (hi := m) (t := R[i].t) (v := g R[i].v) (by omega) (fun x h1 h2 => by show g (val x) = _; rw [e1 x (by omega) h2]) m1
    rw [← em] at this
    exact this
theorem map_runs {g : Int → Int} {f : Int} {l : List Int} : mapN g (runs f l) (runs f l).length = runs f (l.map g) := by
  obtain ⟨m, m1, _, m3⟩ := mapN_fwd (g := g) (runs_fwd f l) (runs f l).length (Nat.le_refl _)
  rw [m3 rfl] at m1
  refine runs_eq (by rw [List.length_map]; exact m1) fun i hi => ?_
  have hi' : i < l.length := by simpa using hi
  simp -implicitDefEqProofs only [valL, show (f + (i : Int) - f).toNat = i by omega, List.getElem_map]
  simp [hi']
end Go.Proofs.Ytmkennmppdmnhaa.Abs
