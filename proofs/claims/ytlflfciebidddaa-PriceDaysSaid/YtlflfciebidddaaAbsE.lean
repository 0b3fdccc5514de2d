/- Regions whose order is open: what can change places. No claim stands here. -/
import Derived.Test.YtlflfciebidddaaAbsD
namespace Go.Proofs.Ytlflfciebidddaa.Abs
open Go Go.RowKit

section
variable {P : Program}
/-- It hangs on temporaries alone: it gives one value, at whatever heap. -/
theorem pt0 {t : TM} {H : Heap} {K : AV → Heap → Prop} {op : AOp} (hc : clsOf op = 0) (h : opW P t H K op) : ∃ v, K v H ∧ ∀ H2 K2, K2 v H2 → opW P t H2 K2 op := by
  cases op <;> simp only [clsOf] at hc <;> (try omega) <;> simp only [opW] at h ⊢
  case mov => exact ⟨_, h, fun H2 K2 h2 => h2⟩
  case pick =>
    split at h
    · next c e =>
      cases c
      · exact ⟨_, h.2 rfl, fun H2 K2 h2 => ⟨fun e => (by cases e), fun _ => h2⟩⟩
      · exact ⟨_, h.1 rfl, fun H2 K2 h2 => ⟨fun _ => h2, fun e => (by cases e)⟩⟩
    · exact h.elim
  case bin op x y =>
    unfold binW at h ⊢
    split at h
    · cases op <;> exact ⟨_, h.2, fun H2 K2 h2 => ⟨h.1, h2⟩⟩
    · cases op <;> first | exact ⟨_, h, fun H2 K2 h2 => h2⟩ | exact h.elim
    · exact h.elim
  case binb => split at h <;> first | exact ⟨_, h, fun H2 K2 h2 => h2⟩ | exact h.elim
  case eqAgg =>
    split at h
    · split at h <;> first | exact ⟨_, h, fun H2 K2 h2 => h2⟩ | exact h.elim
    · exact h.elim
  case un => split at h <;> first | exact ⟨_, h, fun H2 K2 h2 => h2⟩ | exact h.elim
  case conv => split at h <;> first | exact ⟨_, h, fun H2 K2 h2 => h2⟩ | exact h.elim
  case nilCheck => split at h <;> first | exact ⟨_, h, fun H2 K2 h2 => h2⟩ | exact h.elim
  case loadD g p =>
    split at h
    · unfold loadW at *
      cases g <;> exact ⟨_, h.2, fun H2 K2 h2 => ⟨h.1, h2⟩⟩
    · exact h.elim
  case mkfn => exact ⟨_, h, fun H2 K2 h2 => h2⟩
  case fieldAddr => split at h <;> first | exact ⟨_, h, fun H2 K2 h2 => h2⟩ | exact h.elim
  case field off g x =>
    split at h
    · cases g <;> exact ⟨_, h.2, fun H2 K2 h2 => ⟨h.1, h2⟩⟩
    · exact h.elim
  case elemAddr =>
    split at h
    · obtain ⟨h1, h2, el, h3, h4⟩ := h
      exact ⟨_, h4, fun H2 K2 h5 => ⟨h1, h2, el, h3, h5⟩⟩
    · exact ⟨_, h.2, fun H2 K2 h2 => ⟨h.1, h2⟩⟩
    · exact h.elim
  case arrAddr => split at h <;> first | exact ⟨_, h.2, fun H2 K2 h2 => ⟨h.1, h2⟩⟩ | exact h.elim
  case idxArr n sz g x i =>
    split at h
    · obtain ⟨h0, h⟩ := h
      cases g <;> exact ⟨_, h.2, fun H2 K2 h2 => ⟨h0, h.1, h2⟩⟩
    · exact h.elim
  case build => split at h <;> first | exact ⟨_, h, fun H2 K2 h2 => h2⟩ | exact h.elim
  case extract => split at h <;> first | exact ⟨_, h.2, fun H2 K2 h2 => ⟨h.1, h2⟩⟩ | exact h.elim
  case slice =>
    unfold sliceW at *
    split at h
    · split at h <;> first | exact ⟨_, h.2, fun H2 K2 h2 => ⟨h.1, h2⟩⟩ | exact h.elim
    · exact h.elim
  case len => split at h <;> first | exact ⟨_, h, fun H2 K2 h2 => h2⟩ | exact h.elim
  case idxStr => split at h <;> first | exact ⟨_, h.2, fun H2 K2 h2 => ⟨h.1, h2⟩⟩ | exact h.elim
  case slen => split at h <;> first | exact ⟨_, h, fun H2 K2 h2 => h2⟩ | exact h.elim
  case minmax =>
    split at h
    · split at h <;> first | exact ⟨_, h, fun H2 K2 h2 => h2⟩ | exact h.elim
    · exact h.elim

/-- Which block a load reads, if it is one's own. -/
def reads (p : AV) : Option Nat := match p with | .ptr b _ => some b | .eptr b _ _ _ => some b | _ => none
theorem ptLoad {g : Option Nat} {p : AV} {H : Heap} {K : AV → Prop} (h : loadW g p H K) : ∃ v, K v ∧ (∀ k, reads p = some k → H k ≠ none) ∧ ∀ (H2 : Heap) (K2 : AV → Prop), (∀ k, reads p = some k → H2 k = H k) → K2 v → loadW g p H2 K2 := by
  unfold loadW at h
  split at h
  · next b off =>
    split at h
    · next t cells e =>
      cases g with
      | none => exact ⟨_, h.2, fun k hk => (by cases hk; rw [e]; simp), fun H2 K2 hk h2 => by unfold loadW; dsimp only; rw [hk b rfl, e]; exact ⟨h.1, h2⟩⟩
      | some n => exact ⟨_, h.2, fun k hk => (by cases hk; rw [e]; simp), fun H2 K2 hk h2 => by unfold loadW; dsimp only; rw [hk b rfl, e]; exact ⟨h.1, h2⟩⟩
    · exact h.elim
  · next b sz i j =>
    split at h
    · next t sz' cap xs e =>
      obtain ⟨h1, h2, el, h3, h4⟩ := h
      cases g with
      | none => exact ⟨_, h4.2, fun k hk => (by cases hk; rw [e]; simp), fun H2 K2 hk h5 => by unfold loadW; dsimp only; rw [hk b rfl, e]; exact ⟨h1, h2, el, h3, h4.1, h5⟩⟩
      | some n => exact ⟨_, h4.2, fun k hk => (by cases hk; rw [e]; simp), fun H2 K2 hk h5 => by unfold loadW; dsimp only; rw [hk b rfl, e]; exact ⟨h1, h2, el, h3, h4.1, h5⟩⟩
    · exact h.elim
  · cases g with
    | none => exact ⟨_, h.2, fun k hk => (by cases hk), fun H2 K2 _ h2 => ⟨h.1, h2⟩⟩
    | some n => exact ⟨_, h.2, fun k hk => (by cases hk), fun H2 K2 _ h2 => ⟨h.1, h2⟩⟩
  · exact h.elim
theorem newsOk_iff {t : TM} {p : AV} {l : List Nat} : newsOk t p l ↔ ∀ d ∈ l, ∀ b off k, t d = .ptr b off → reads p = some k → ¬ b = k := by
  induction l with
  | nil => simp [newsOk]
  | cons d l ih =>
    simp only [newsOk, ih, List.mem_cons, forall_eq_or_imp]
    refine and_congr ⟨fun h b off k e1 e2 => ?_, fun h => ?_⟩ Iff.rfl
    · rw [e1] at h
      cases p <;> simp only [reads, reduceCtorEq, Option.some.injEq] at e2
      · subst e2; exact h
      · subst e2; exact h
    · split
      · next e1 => exact h _ _ _ e1 rfl
      · next e1 => exact h _ _ _ e1 rfl
      · trivial
theorem LendV.rows {H H2 : Heap} (hr : ∀ k t sz cap xs, H k = some (.row t sz cap xs) → H2 k = some (.row t sz cap xs)) {x y : AV} (h : LendV H x y) : LendV H2 x y := by
  induction h with
  | refl v => exact .refl v
  | nilsl a b => exact .nilsl a b
  | own b sz cap t cap' xs h => exact .own b sz cap t cap' xs (hr _ _ _ _ _ h)
  | agg xs ys hl _ ih => exact .agg xs ys hl ih
  | tup xs ys hl _ ih => exact .tup xs ys hl ih
theorem PCallK.rows {f : FuncId} {args : List AV} {H : Heap} {K : AV → Prop} (h : PCallK P f args H K) : ∃ v, K v ∧ ∀ (H2 : Heap) (K2 : AV → Prop), (∀ k t sz cap xs, H k = some (.row t sz cap xs) → H2 k = some (.row t sz cap xs)) → K2 v → PCallK P f args H2 K2 := by
  obtain ⟨a, r, h1, h2, h3, h4⟩ := h
  exact ⟨r, h4, fun H2 K2 hr hk => ⟨a, r, ⟨h1.1, fun j x y e1 e2 => (h1.2 j x y e1 e2).rows hr⟩, h2, h3, hk⟩⟩

/-- When an operation that only reads gives the same again. -/
def Re (op : AOp) (t : TM) (H : Heap) (t2 : TM) (H2 : Heap) : Prop :=
  (∀ i ∈ (opdsOf op).flatMap opdT, t2 i = t i) ∧
  match op with
  | .load .. => ∀ k x, H k = some x → H2 k = some x
  | .loadS _ _ l => (∀ d ∈ l, t2 d = t d ∨ (∃ b off, t2 d = .ptr b off ∧ H b = none) ∨ t2 d = .void) ∧ ∀ k x, H k = some x → H2 k = some x ∨ ∃ d ∈ l, ∃ off, t d = .ptr k off
  | .loadP _ d => ∀ k off, t d = .ptr k off → ∀ e cells, H k = some (.box e cells) → H2 k = some (.box e cells)
  | .pcall .. | .pcallv .. => ∀ k t sz cap xs, H k = some (.row t sz cap xs) → H2 k = some (.row t sz cap xs)
  | _ => True

theorem pt1 {t : TM} {H : Heap} {K : AV → Heap → Prop} {op : AOp} (hc : clsOf op ≤ 1) (h : opW P t H K op) : ∃ v, K v H ∧ ∀ t2 H2 K2, Re op t H t2 H2 → K2 v H2 → opW P t2 H2 K2 op := by
  by_cases h0 : clsOf op = 0
  · obtain ⟨v, h1, h2⟩ := pt0 h0 h
    refine ⟨v, h1, fun t2 H2 K2 hr hk => ?_⟩
    rw [opW_congr (u := t) (fun i hi => hr.1 i hi) (fun d hd => by cases op <;> simp_all [newsOf, clsOf])]
    exact h2 H2 K2 hk
  · cases op <;> (try exact absurd rfl h0) <;> (try (simp only [clsOf] at hc; omega))
    case load g p =>
      obtain ⟨v, h1, h2, h3⟩ := ptLoad (K := fun v => K v H) h
      refine ⟨v, h1, fun t2 H2 K2 hr hk => ?_⟩
      have e : ev t2 p = ev t p := opd_congr fun i hi => hr.1 i (by simpa [opdsOf] using hi)
      simp only [opW, e]
      refine h3 H2 _ (fun k hk => ?_) hk
      cases hx : H k with
      | none => exact absurd hx (h2 k hk)
      | some x => rw [hr.2 k x hx]
    case loadS g p l =>
      obtain ⟨hn, h⟩ := h
      obtain ⟨v, h1, h2, h3⟩ := ptLoad (K := fun v => K v H) h
      refine ⟨v, h1, fun t2 H2 K2 hr hk => ?_⟩
      have e : ev t2 p = ev t p := opd_congr fun i hi => hr.1 i (by simpa [opdsOf] using hi)
      rw [newsOk_iff] at hn
      simp only [opW, e]
      refine ⟨newsOk_iff.2 fun d hd b off k e1 e2 => ?_, h3 H2 _ (fun k hk => ?_) hk⟩
      · rcases hr.2.1 d hd with e3 | ⟨b', off', e3, e4⟩ | e3
        · exact hn d hd b off k (e3 ▸ e1) e2
        · rw [e1] at e3; cases e3
          rintro rfl
          exact h2 _ e2 e4
        · rw [e1] at e3; cases e3
      · cases hx : H k with
        | none => exact absurd hx (h2 k hk)
        | some x =>
          rcases hr.2.2 k x hx with e3 | ⟨d, hd, off, e3⟩
          · rw [e3]
          · exact absurd rfl (hn d hd k off k e3 hk)
    case loadP g d =>
      simp only [opW] at h
      split at h
      · next b off e0 =>
        have hb : ∃ e cells, H b = some (.box e cells) := by
          cases hH : H b with
          | none => simp [loadW, hH] at h
          | some x =>
            cases x with
            | box e cells => exact ⟨e, cells, rfl⟩
            | row => simp [loadW, hH] at h
            | obj => simp [loadW, hH] at h
        obtain ⟨e, cells, hb⟩ := hb
        obtain ⟨v, h1, h2, h3⟩ := ptLoad (K := fun v => K v H) h
        refine ⟨v, h1, fun t2 H2 K2 hr hk => ?_⟩
        have e2 : t2 d = .ptr b off := by rw [hr.1 d (by simp [opdsOf, opdT])]; exact e0
        simp only [opW, e2]
        refine h3 H2 _ (fun k hk => ?_) hk
        simp only [reads, Option.some.injEq] at hk
        subst hk
        rw [hb, hr.2 b off e0 e cells hb]
      · exact h.elim
    case pcall f xs =>
      obtain ⟨v, h1, h2⟩ := PCallK.rows (K := fun v => K v H) h
      refine ⟨v, h1, fun t2 H2 K2 hr hk => ?_⟩
      have e : evL t2 xs = evL t xs := evL_congr fun x hx => opd_congr fun i hi => hr.1 i (List.mem_flatMap.2 ⟨x, by simpa [opdsOf] using hx, hi⟩)
      simp only [opW, e]
      exact h2 H2 _ hr.2 hk
    case pcallv g xs =>
      simp only [opW] at h
      split at h
      · next f caps e0 =>
        obtain ⟨v, h1, h2⟩ := PCallK.rows (K := fun v => K v H) h
        refine ⟨v, h1, fun t2 H2 K2 hr hk => ?_⟩
        have e : evL t2 xs = evL t xs := evL_congr fun x hx => opd_congr fun i hi => hr.1 i (List.mem_flatMap.2 ⟨x, by simp [opdsOf, hx], hi⟩)
        have e' : ev t2 g = ev t g := opd_congr fun i hi => hr.1 i (List.mem_flatMap.2 ⟨g, by simp [opdsOf], hi⟩)
        simp only [opW, e, e', e0]
        exact h2 H2 _ hr.2 hk
      · exact h.elim

/-- What an operation that lays something new does. -/
theorem new2 {t : TM} {H : Heap} {K : AV → Heap → Prop} {op : AOp} (hc : clsOf op = 2) (h : opW P t H K op) :
    ∃ (x : Blk) (mk : Nat → AV), (∀ b, H b = none → K (mk b) (upd H b (some x))) ∧ (∀ H2 K2, (∀ b, H2 b = none → K2 (mk b) (upd H2 b (some x))) → opW P t H2 K2 op) ∧ ((∃ e z, op = .alloc e z) → ∀ b, mk b = .ptr b 0) := by
  cases op <;> simp only [clsOf] at hc <;> (try omega) <;> simp only [opW] at h ⊢
  case alloc e z => exact ⟨_, fun b => .ptr b 0, h, fun H2 K2 h2 => h2, fun _ b => rfl⟩
  case box e x => exact ⟨_, fun b => .ptr b 0, h.2, fun H2 K2 h2 => ⟨h.1, h2⟩, fun _ b => rfl⟩
  case buildSliceD e sz len z ps =>
    split at h
    · split at h
      · exact ⟨_, fun b => .own b sz 0 len len, h, fun H2 K2 h2 => h2, fun ⟨_, _, e⟩ => by cases e⟩
      · exact h.elim
    · exact h.elim
end
end Go.Proofs.Ytlflfciebidddaa.Abs
