/- Regions whose order is open: neighbours change places; any order comes to what one order says. No claim stands here. -/
import Derived.Test.YtlflfciebidddaaAbsE
namespace Go.Proofs.Ytlflfciebidddaa.Abs
open Go Go.RowKit

def goes (t : TM) (o : AO) : Option Bool :=
  match o.guard with
  | none => some true
  | some (g, want) => match t g with
    | .d (.bool c) => some (c == want)
    | .void => some false
    | _ => none
def stepW (P : Program) (o : AO) (s : St) (K : St → Prop) : Prop :=
  match goes s.t o with
  | some true => opW P s.t s.H (fun v H' => K (putS s o.dst v H')) o.op
  | some false => K (putS s o.dst .void s.H)
  | none => False

section
variable {P : Program}
theorem opsW_cons {o : AO} {l : List AO} {s : St} {K : St → Prop} : opsW P (o :: l) s K ↔ stepW P o s fun s' => opsW P l s' K := by
  simp only [opsW, stepW, goes]
  cases o.guard with
  | none => exact Iff.rfl
  | some gw =>
    obtain ⟨g, want⟩ := gw
    dsimp only
    cases hg : s.t g <;> try exact Iff.rfl
    next x =>
    cases x <;> try exact Iff.rfl
    next c =>
    dsimp only
    cases hc : (c == want) with
    | true => simp [Fork]
    | false => simp [Fork]
theorem stepW_mono {o : AO} {s : St} {K K' : St → Prop} (hk : ∀ s', K s' → K' s') (h : stepW P o s K) : stepW P o s K' := by
  unfold stepW at *
  split at h
  · exact opW_mono (fun v H' h => hk _ h) h
  · exact hk _ h
  · exact h

theorem putS_H {s : St} {d : Option Nat} {v : AV} {H : Heap} : (putS s d v H).H = H := by unfold putS; split <;> (try split) <;> rfl
theorem putS_n {s : St} {d : Option Nat} {v : AV} {H : Heap} : (putS s d v H).n = s.n := by unfold putS; split <;> (try split) <;> rfl
theorem putS_ne {s : St} {d : Option Nat} {v : AV} {H : Heap} {i : Nat} (h : d ≠ some i) : (putS s d v H).t i = s.t i := by
  unfold putS
  split
  · next e =>
    split
    · show putT s.t e v i = s.t i
      rw [putT_get, show (e == i) = false by simp; rintro rfl; exact h rfl]
      rfl
    · rfl
  · rfl
theorem putS_eq {s : St} {i : Nat} {v : AV} {H : Heap} : (putS s (some i) v H).t i = v ∨ (putS s (some i) v H).t i = s.t i := by
  unfold putS
  dsimp only
  split
  · left; simp [putT_get]
  · exact .inr rfl
theorem putS_comm {s : St} {d e : Option Nat} {u v : AV} {H1 H2 H3 : Heap} (h : ∀ i, d = some i → e ≠ some i) : putS (putS s d v H1) e u H2 = putS (putS s e u H3) d v H2 := by
  cases d with
  | none =>
    cases e with
    | none => rfl
    | some j => by_cases hj : j < s.n <;> simp only [putS, hj, if_true, if_false]
  | some i =>
    cases e with
    | none => by_cases hi : i < s.n <;> simp only [putS, hi, if_true, if_false]
    | some j =>
      have hij : i ≠ j := fun e => h i rfl (by rw [e])
      simp only [putS]
      by_cases hi : i < s.n <;> by_cases hj : j < s.n <;> simp only [hi, hj, if_true, if_false]
      congr 1
      funext k
      simp only [putT_get]
      by_cases h1 : i = k
      · subst h1
        rw [show (j == i) = false by simpa using fun e => hij e.symm]
        simp
      · rw [show (i == k) = false by simpa using h1]
        simp
theorem goes_congr {t u : TM} {o : AO} (h : ∀ i ∈ readsOf o, t i = u i) : goes t o = goes u o := by
  unfold goes
  split
  · rfl
  · next g want e =>
    rw [h g (by simp [readsOf, e])]
theorem reads_opds {o : AO} {i : Nat} (h : i ∈ (opdsOf o.op).flatMap opdT) : i ∈ readsOf o := by
  simp only [readsOf, List.mem_append]; exact .inl h

structure SwapOk (a b : AO) : Prop where
  ab : ∀ d, a.dst = some d → d ∉ readsOf b ∧ d ∉ newsOf b.op ∧ b.dst ≠ some d
  ba : ∀ d, b.dst = some d → d ∉ readsOf a ∧ (d ∉ newsOf a.op ∨ ∃ e z, b.op = .alloc e z)
  cls : clsOf a.op = 0 ∨ (clsOf a.op = 1 ∧ clsOf b.op ≤ 2) ∨ (clsOf a.op = 2 ∧ (b.guard = none ∨ b.guard = a.guard) ∧ ∃ e z, b.op = .alloc e z) ∨
    (∃ g p l n d v, a.op = .loadS g p l ∧ b.op = .storeS n d v ∧ d ∈ l) ∨ (((∃ f xs, a.op = .pcall f xs) ∨ ∃ f xs, a.op = .pcallv f xs) ∧ ∃ n d v, b.op = .storeS n d v) ∨
    (∃ g d f xs l, a.op = .loadP g d ∧ b.op = .callS f xs l ∧ d ∈ l) ∨ (∃ g d e sz bytes z s x, a.op = .loadP g d ∧ b.op = .append e sz bytes z s x) ∨
    (∃ e sz bytes z s x e' z', a.op = .append e sz bytes z s x ∧ b.op = .alloc e' z' ∧ b.guard = none)
theorem swapOk_spec {a b : AO} (h : swapOk a b = true) : SwapOk a b := by
  unfold swapOk at h
  simp only [Bool.and_eq_true] at h
  obtain ⟨⟨h1, h2⟩, h3⟩ := h
  refine ⟨fun d hd => ?_, fun d hd => ?_, ?_⟩
  · rw [hd] at h1
    simp only [Bool.and_eq_true, Bool.not_eq_true', List.contains_eq_mem, decide_eq_false_iff_not, bne_iff_ne, ne_eq] at h1
    exact ⟨h1.1.1, h1.1.2, h1.2⟩
  · rw [hd] at h2
    simp only [Bool.and_eq_true, Bool.not_eq_true', List.contains_eq_mem, decide_eq_false_iff_not, Bool.or_eq_true] at h2
    refine ⟨h2.1, h2.2.imp id fun h => ?_⟩
    split at h
    · next e => exact ⟨_, _, e⟩
    · cases h
  · simp only [Bool.or_eq_true, beq_iff_eq, Bool.and_eq_true, decide_eq_true_eq] at h3
    rcases h3 with ((h | h) | h) | h
    · exact .inl h
    · exact .inr (.inl h)
    · refine .inr (.inr (.inl ⟨h.1.1, h.1.2, ?_⟩))
      have h := h.2
      split at h
      · next e => exact ⟨_, _, e⟩
      · cases h
    · split at h
      · next g p l n d v e1 e2 => exact .inr (.inr (.inr (.inl ⟨g, p, l, n, d, v, e1, e2, by simpa using h⟩)))
      · next g d f xs l e1 e2 => exact .inr (.inr (.inr (.inr (.inr (.inl ⟨g, d, f, xs, l, e1, e2, by simpa using h⟩)))))
      · next e1 e2 => exact .inr (.inr (.inr (.inr (.inr (.inr (.inl ⟨_, _, _, _, _, _, _, _, e1, e2⟩))))))
      · next e1 e2 => exact .inr (.inr (.inr (.inr (.inr (.inr (.inr ⟨_, _, _, _, _, _, _, _, e1, e2, by simpa using h⟩))))))
      · next e1 e2 => exact .inr (.inr (.inr (.inr (.inl ⟨.inl ⟨_, _, e1⟩, _, _, _, e2⟩))))
      · next e1 e2 => exact .inr (.inr (.inr (.inr (.inl ⟨.inr ⟨_, _, e1⟩, _, _, _, e2⟩))))
      · cases h

/-- The one's value laid in ahead of the other: as if behind it. -/
theorem step_over {b : AO} {s : St} {da : Option Nat} {v : AV} {K : St → Prop} (h1 : ∀ d, da = some d → d ∉ readsOf b ∧ d ∉ newsOf b.op ∧ b.dst ≠ some d) (h : stepW P b (putS s da v s.H) K) :
    stepW P b s fun s2 => K (putS s2 da v s2.H) := by
  have hne : ∀ i, i ∈ readsOf b ∨ i ∈ newsOf b.op → (putS s da v s.H).t i = s.t i := fun i hi => putS_ne (fun e => by
    have := h1 i e
    rcases hi with hi | hi
    · exact this.1 hi
    · exact this.2.1 hi)
  unfold stepW at *
  rw [goes_congr (u := s.t) (fun i hi => hne i (.inl hi))] at h
  split
  · next e =>
    rw [e] at h
    dsimp only at h
    rw [opW_congr (u := s.t) (fun i hi => hne i (.inl (reads_opds hi))) (fun d hd => hne d (.inr hd)), putS_H] at h
    refine opW_mono (fun u H' h => ?_) h
    rw [putS_comm (H3 := H') (fun i e => (h1 i e).2.2)] at h
    show K (putS (putS s b.dst u H') da v (putS s b.dst u H').H)
    rw [putS_H]
    exact h
  · next e =>
    rw [e] at h
    dsimp only at h
    rw [putS_H, putS_comm (H3 := s.H) (fun i e => (h1 i e).2.2)] at h
    show K (putS (putS s b.dst .void s.H) da v (putS s b.dst .void s.H).H)
    rw [putS_H]
    exact h
  · next e => rw [e] at h; exact h

/-- What the first one reads is there as it was, behind the other. -/
theorem step_keeps {a b : AO} (hs : SwapOk a b) (ha : clsOf a.op ≤ 1) {s : St} {K : St → Prop} (h : stepW P b s K) :
    stepW P b s fun s2 => (goes s2.t a = goes s.t a ∧ Re a.op s.t s.H s2.t s2.H) ∧ K s2 := by
  have hne : ∀ v H', ∀ i ∈ readsOf a, (putS s b.dst v H').t i = s.t i := fun v H' i hi => putS_ne (fun e => (hs.ba i e).1 hi)
  have hg : ∀ v H', goes (putS s b.dst v H').t a = goes s.t a := fun v H' => goes_congr (hne v H')
  have ho : ∀ v H', ∀ i ∈ (opdsOf a.op).flatMap opdT, (putS s b.dst v H').t i = s.t i := fun v H' i hi => hne v H' i (reads_opds hi)
  have hnw : ∀ v H', (∀ e z, b.op = .alloc e z → ∃ nb, v = .ptr nb 0 ∧ s.H nb = none) → ∀ d ∈ newsOf a.op, (putS s b.dst v H').t d = s.t d ∨ (∃ bb off, (putS s b.dst v H').t d = .ptr bb off ∧ s.H bb = none) ∨ (putS s b.dst v H').t d = .void := fun v H' hv d hd => by
    by_cases e : b.dst = some d
    · rcases (hs.ba d e).2 with h | ⟨e1, z, h⟩
      · exact absurd hd h
      · obtain ⟨nb, rfl, hn⟩ := hv e1 z h
        rw [e]
        rcases putS_eq (s := s) (i := d) (v := .ptr nb 0) (H := H') with h | h
        · exact .inr (.inl ⟨nb, 0, h, hn⟩)
        · exact .inl h
    · exact .inl (putS_ne e)
  -- the heap's part, for a heap that has grown
  have grown : ∀ v H', (∀ e z, b.op = .alloc e z → ∃ nb, v = .ptr nb 0 ∧ s.H nb = none) → (∀ k x, s.H k = some x → H' k = some x) → Re a.op s.t s.H (putS s b.dst v H').t H' := fun v H' hv hH => by
    refine ⟨ho v H', ?_⟩
    cases hop : a.op <;> simp only [] <;> rw [hop] at hnw
    · exact hH
    · exact ⟨fun d hd => hnw v H' hv d hd, fun k x e => .inl (hH k x e)⟩
    · exact fun k off _ e cells h => hH _ _ h
    · exact fun k t sz cap xs e => hH _ _ e
    · exact fun k t sz cap xs e => hH _ _ e
  have zero : ∀ v H', clsOf a.op = 0 → Re a.op s.t s.H (putS s b.dst v H').t H' := fun v H' h0 => by
    refine ⟨ho v H', ?_⟩
    cases hop : a.op <;> rw [hop] at h0 <;> simp only [] <;> simp [clsOf] at h0
  unfold stepW at *
  split at h
  · next e =>
    by_cases h0 : clsOf a.op = 0
    · exact opW_mono (fun v H' h => ⟨⟨hg v H', by rw [putS_H]; exact zero v H' h0⟩, h⟩) h
    · by_cases hb : clsOf b.op ≤ 1
      · obtain ⟨v, h1, h2⟩ := pt1 hb h
        refine h2 s.t s.H _ ⟨fun _ _ => rfl, ?_⟩ ⟨⟨hg v s.H, by rw [putS_H]; exact grown v s.H (fun e z hbe => by rw [hbe] at hb; simp [clsOf] at hb) (fun _ _ h => h)⟩, h1⟩
        cases b.op <;> simp only [] <;> first | trivial | exact fun _ _ h => h | exact fun _ _ _ _ _ h => h | exact ⟨fun _ _ => .inl trivial, fun _ _ h => .inl h⟩ | exact fun _ _ _ _ _ h => h
      · by_cases hb2 : clsOf b.op = 2
        · obtain ⟨x, mk, h1, h2, h3⟩ := new2 hb2 h
          refine h2 s.H _ fun nb hn => ⟨⟨hg _ _, ?_⟩, h1 nb hn⟩
          rw [putS_H]
          refine grown _ _ (fun e z hbe => ⟨nb, h3 ⟨e, z, hbe⟩ nb, hn⟩) (fun k y hk => ?_)
          rw [upd_get, if_neg (by rintro rfl; rw [hn] at hk; cases hk)]
          exact hk
        · rcases hs.cls with h4 | h4 | h4 | h4 | h4 | h4 | h4 | h4
          · exact absurd h4 h0
          · omega
          · omega
          · obtain ⟨g, p, l, n, d, v, e1, e2, hd⟩ := h4
            rw [e2] at h ⊢
            simp only [opW] at h ⊢
            split at h
            · next bb off et =>
              refine ⟨h.1, ?_⟩
              have h := h.2
              split at h
              · next et' cells eH =>
                refine ⟨h.1, ⟨hg _ _, ?_⟩, h.2⟩
                rw [putS_H]
                refine ⟨ho _ _, ?_⟩
                rw [e1]
                refine ⟨fun d' hd' => hnw _ _ (fun e z hbe => by rw [e2] at hbe; cases hbe) d' (by rw [e1]; exact hd'), fun k x hk => ?_⟩
                rw [upd_get]
                by_cases hkb : bb = k
                · subst hkb; exact .inr ⟨d, hd, off, et⟩
                · rw [if_neg hkb]; exact .inl hk
              · exact h.elim
            · exact h.elim
          · obtain ⟨hp, n, d, v, e2⟩ := h4
            rw [e2] at h ⊢
            simp only [opW] at h ⊢
            split at h
            · next bb off et =>
              refine ⟨h.1, ?_⟩
              have h := h.2
              split at h
              · next et' cells eH =>
                refine ⟨h.1, ⟨hg _ _, ?_⟩, h.2⟩
                rw [putS_H]
                refine ⟨ho _ _, ?_⟩
                have key : ∀ k t sz cap xs, s.H k = some (.row t sz cap xs) → upd s.H bb (some (.box et' (setSeg cells off (cellsAV (ev s.t v))))) k = some (.row t sz cap xs) := fun k t sz cap xs hk => by
                  rw [upd_get, if_neg (by rintro rfl; rw [hk] at eH; cases eH)]; exact hk
                rcases hp with ⟨f, xs, e1⟩ | ⟨f, xs, e1⟩ <;> rw [e1] <;> exact key
              · exact h.elim
            · exact h.elim
          · obtain ⟨g, d, f, xs, l, e1, e2, hd⟩ := h4
            rw [e2] at h ⊢
            simp only [opW] at h ⊢
            refine CallW.mono' h fun r H' h => ⟨h.1, ⟨hg _ _, ?_⟩, h.2⟩
            rw [putS_H]
            refine ⟨ho _ _, ?_⟩
            rw [e1]
            exact h.1 d hd
          · obtain ⟨g, d, e, sz, bytes, z, sx, x, e1, e2⟩ := h4
            rw [e2] at h ⊢
            simp only [opW] at h ⊢
            have key : ∀ (v : AV) (H' : Heap), (∀ k e cells, s.H k = some (.box e cells) → H' k = some (.box e cells)) → Re a.op s.t s.H (putS s b.dst v H').t H' := fun v H' hk => by
              refine ⟨ho _ _, ?_⟩
              rw [e1]
              exact fun k off _ e cells => hk k e cells
            refine elemsW_mono (fun n ys h => ?_) h
            rcases h with ⟨g0, g1, h⟩ | h
            · refine .inl ⟨g0, g1, ?_⟩
              split at h
              · exact ⟨⟨hg _ _, by rw [putS_H]; exact key _ _ fun _ _ _ h => h⟩, h⟩
              · exact ⟨⟨hg _ _, by rw [putS_H]; exact key _ _ fun _ _ _ h => h⟩, h⟩
              · exact h
            · refine .inr ⟨h.1, ?_⟩
              have h := h.2
              split at h
              · refine ⟨h.1, fun b' hb cap => ⟨⟨hg _ _, ?_⟩, h.2 b' hb cap⟩⟩
                rw [putS_H]
                refine key _ _ fun k e' cells hk => ?_
                rw [upd_get, if_neg (by rintro rfl; rw [hb] at hk; cases hk)]
                exact hk
              · next bb n' off len cap es =>
                split at h
                · next eH =>
                  refine ⟨h.1, fun b' cap' hb => ⟨⟨hg _ _, ?_⟩, h.2 b' cap' hb⟩⟩
                  rw [putS_H]
                  refine key _ _ fun k e' cells hk => ?_
                  have hkb : ¬ bb = k := by rintro rfl; rw [hk] at eH; cases eH
                  have hkb' : ¬ b' = k := by
                    rintro rfl
                    rw [upd_get, if_neg hkb, hk] at hb
                    cases hb
                  rw [upd_get, if_neg hkb', upd_get, if_neg hkb]
                  exact hk
                · exact h.elim
              · exact h.elim
          · obtain ⟨e, sz, bytes, z, sx, x, e', z', e1, e2, _⟩ := h4
            rw [e1] at ha; simp [clsOf] at ha
  · next e =>
    refine ⟨⟨hg _ _, ?_⟩, h⟩
    rw [putS_H]
    refine ⟨ho _ _, ?_⟩
    have hv : ∀ d ∈ newsOf a.op, (putS s b.dst .void s.H).t d = s.t d ∨ (∃ bb off, (putS s b.dst .void s.H).t d = .ptr bb off ∧ s.H bb = none) ∨ (putS s b.dst .void s.H).t d = .void := fun d hd => by
      by_cases e : b.dst = some d
      · rw [e]
        rcases putS_eq (s := s) (i := d) (v := .void) (H := s.H) with h | h
        · exact .inr (.inr h)
        · exact .inl h
      · exact .inl (putS_ne e)
    cases hop : a.op <;> simp only [] <;> rw [hop] at hv
    · exact fun _ _ h => h
    · exact ⟨fun d hd => hv d hd, fun _ _ h => .inl h⟩
    · exact fun _ _ _ _ _ h => h
    · exact fun _ _ _ _ _ h => h
    · exact fun _ _ _ _ _ h => h
  · exact h

theorem step_reads {b : AO} {s : St} {K : St → Prop} (h : stepW P b s K) : stepW P b s fun s2 => (∀ i, b.dst ≠ some i → s2.t i = s.t i) ∧ K s2 := by
  unfold stepW at *
  split
  · next e => rw [e] at h; exact opW_mono (fun v H' h => ⟨fun i hi => putS_ne hi, h⟩) h
  · next e => rw [e] at h; exact ⟨fun i hi => putS_ne hi, h⟩
  · next e => rw [e] at h; exact h
theorem step_goes {a b : AO} (hs : SwapOk a b) {s : St} {K : St → Prop} (h : stepW P b s K) : stepW P b s fun s2 => goes s2.t a = goes s.t a ∧ K s2 :=
  stepW_mono (fun s2 h => ⟨goes_congr fun i hi => h.1 i fun e => (hs.ba i e).1 hi, h.2⟩) (step_reads h)
theorem opW_alloc {t : TM} {H : Heap} {K : AV → Heap → Prop} {e : TypeId} {z : List AV} : opW P t H K (.alloc e z) = ∀ b, H b = none → K (.ptr b 0) (upd H b (some (.box e z))) := rfl
theorem upd_comm {H : Heap} {i j : Nat} {x y : Option Blk} (h : i ≠ j) : upd (upd H i x) j y = upd (upd H j y) i x := by
  funext k
  simp only [upd_get]
  by_cases h1 : i = k
  · subst h1; rw [if_neg (fun e => h e.symm), if_pos rfl]; simp
  · by_cases h2 : j = k
    · subst h2; rw [if_pos rfl, if_neg h1]; simp
    · simp [h1, h2]

/-- A row grows beside a new box as without it. -/
theorem append_frame {t : TM} {H : Heap} {K K2 : AV → Heap → Prop} {e tb : TypeId} {sz bytes nb : Nat} {z zb : List AV} {sx x : Opd} (hn : H nb = none) (hk : ∀ v H', K v H' → H' nb = none → K2 v (upd H' nb (some (.box tb zb)))) (h : opW P t H K (.append e sz bytes z sx x)) : opW P t (upd H nb (some (.box tb zb))) K2 (.append e sz bytes z sx x) := by
  simp only [opW] at h ⊢
  have main : ∀ n ys, ((ys = [] ∧ z.length = sz ∧ match ev t sx with
      | .nilsl n => K (.nilsl n) H
      | .own b n off len cap => K (.own b n off len cap) H
      | _ => False) ∨ VC (n = sz ∧ ys ≠ [] ∧ z.length = sz) (
      match ev t sx with
      | .nilsl _ => VC (ys.length * bytes ≤ 140737488355328 ∧ ys.length ≤ maxLen) (Alloc H (.row e sz 0 []) fun b _ => ∀ cap, K (.own b sz 0 ys.length cap) (upd H b (some (.row e sz cap ys))))
      | .own b sz'' off len cap => match H b with
        | some (.row e' sz''' cap'' xs) => VC (e' = e ∧ sz'' = sz ∧ sz''' = sz ∧ off = 0 ∧ cap = cap'' ∧ len = xs.length ∧ (xs.length + ys.length) * bytes ≤ 140737488355328 ∧ xs.length + ys.length ≤ maxLen)
            (Grow H b fun b' cap' => K (.own b' sz 0 (len + ys.length) cap') (upd (upd H b none) b' (some (.row e sz cap' (xs ++ ys)))))
        | _ => False
      | _ => False)) → ((ys = [] ∧ z.length = sz ∧ match ev t sx with
      | .nilsl n => K2 (.nilsl n) (upd H nb (some (.box tb zb)))
      | .own b n off len cap => K2 (.own b n off len cap) (upd H nb (some (.box tb zb)))
      | _ => False) ∨ VC (n = sz ∧ ys ≠ [] ∧ z.length = sz) (
      match ev t sx with
      | .nilsl _ => VC (ys.length * bytes ≤ 140737488355328 ∧ ys.length ≤ maxLen) (Alloc (upd H nb (some (.box tb zb))) (.row e sz 0 []) fun b _ => ∀ cap, K2 (.own b sz 0 ys.length cap) (upd (upd H nb (some (.box tb zb))) b (some (.row e sz cap ys))))
      | .own b sz'' off len cap => match (upd H nb (some (.box tb zb))) b with
        | some (.row e' sz''' cap'' xs) => VC (e' = e ∧ sz'' = sz ∧ sz''' = sz ∧ off = 0 ∧ cap = cap'' ∧ len = xs.length ∧ (xs.length + ys.length) * bytes ≤ 140737488355328 ∧ xs.length + ys.length ≤ maxLen)
            (Grow (upd H nb (some (.box tb zb))) b fun b' cap' => K2 (.own b' sz 0 (len + ys.length) cap') (upd (upd (upd H nb (some (.box tb zb))) b none) b' (some (.row e sz cap' (xs ++ ys)))))
        | _ => False
      | _ => False)) := by
    intro n ys h
    rcases h with ⟨g0, g1, h⟩ | h
    · refine .inl ⟨g0, g1, ?_⟩
      split at h
      · exact hk _ _ h hn
      · exact hk _ _ h hn
      · exact h
    · refine .inr ⟨h.1, ?_⟩
      have h := h.2
      split at h
      · refine ⟨h.1, fun b hb cap => ?_⟩
        have hne : ¬ nb = b := by
          rintro rfl
          rw [upd_get, if_pos rfl] at hb; cases hb
        rw [upd_get, if_neg hne] at hb
        have := hk _ _ (h.2 b hb cap) (by rw [upd_get, if_neg (fun k => hne k.symm)]; exact hn)
        rwa [upd_comm (fun k => hne k.symm)] at this
      · next b n' off len cap es =>
        have hne : ¬ nb = b := by
          rintro rfl
          rw [hn] at h; exact h
        have hu : upd H nb (some (.box tb zb)) b = H b := by rw [upd_get, if_neg hne]
        rw [hu]
        split at h
        · refine ⟨h.1, fun b' cap' hb => ?_⟩
          have hne' : ¬ nb = b' := by
            rintro rfl
            rw [upd_get, if_neg (fun k => hne k.symm), upd_get, if_pos rfl] at hb
            cases hb
          have hb2 : upd H b none b' = none := by
            rw [upd_get] at hb ⊢
            split at hb
            · next k => rw [if_pos k]
            · next k => rw [if_neg k]; rw [upd_get, if_neg hne'] at hb; exact hb
          have := hk _ _ (h.2 b' cap' hb2) (by rw [upd_get, if_neg (fun k => hne' k.symm), upd_get, if_neg (fun k => hne k.symm)]; exact hn)
          rw [upd_comm (fun k => hne' k.symm)] at this
          have e2 : upd (upd H b none) nb (some (.box tb zb)) = upd (upd H nb (some (.box tb zb))) b none := by
            funext k
            simp only [upd_get]
            by_cases k1 : nb = k
            · subst k1; rw [if_pos rfl, if_neg (fun k => hne k.symm), if_pos rfl]
            · rw [if_neg k1, if_neg k1]
          rwa [e2] at this
        · exact h.elim
      · exact h.elim
  unfold elemsW at h ⊢
  split at h
  · exact main _ _ h
  · exact main _ _ h
  · next b n' off len cap es =>
    have hne : ¬ nb = b := by
      rintro rfl
      rw [hn] at h; exact h
    rw [show upd H nb (some (.box tb zb)) b = H b by rw [upd_get, if_neg hne]]
    split at h
    · exact ⟨h.1, main _ _ h.2⟩
    · exact h.elim
  · exact h.elim
/-- Neighbours change places. -/
theorem step_swap {a b : AO} (hs : SwapOk a b) {s : St} {K : St → Prop} (h : stepW P a s fun s1 => stepW P b s1 K) : stepW P b s fun s2 => stepW P a s2 K := by
  cases hg : goes s.t a with
  | none => simp only [stepW, hg] at h
  | some g =>
    cases g with
    | false =>
      have h' : stepW P b (putS s a.dst .void s.H) K := by simpa only [stepW, hg] using h
      refine stepW_mono (fun s2 h2 => ?_) (step_goes hs (step_over hs.ab h'))
      simp only [stepW, h2.1, hg]
      exact h2.2
    | true =>
      have h' : opW P s.t s.H (fun v H' => stepW P b (putS s a.dst v H') K) a.op := by simpa only [stepW, hg] using h
      by_cases ha : clsOf a.op ≤ 1
      · obtain ⟨v, h1, h2⟩ := pt1 ha h'
        refine stepW_mono (fun s2 h3 => ?_) (step_keeps hs ha (step_over hs.ab h1))
        obtain ⟨⟨h4, h5⟩, h6⟩ := h3
        simp only [stepW, h4, hg]
        exact h2 s2.t s2.H _ h5 h6
      · by_cases hap : ∃ e sz bytes z sx x e' z', a.op = .append e sz bytes z sx x ∧ b.op = .alloc e' z' ∧ b.guard = none
        · obtain ⟨e, sz, bytes, z, sx, x, e', z', e1, e2, e3⟩ := hap
          have hgb : ∀ u, goes u b = some true := fun u => by simp [goes, e3]
          have hga : ∀ v H', goes (putS s b.dst v H').t a = some true := fun v H' => by rw [← hg]; exact goes_congr fun i hi => putS_ne fun e => (hs.ba i e).1 hi
          have hoa : ∀ v H' H2 K2, opW P (putS s b.dst v H').t H2 K2 a.op = opW P s.t H2 K2 a.op := fun v H' H2 K2 => opW_congr (fun i hi => putS_ne fun e => (hs.ba i e).1 (reads_opds hi)) (fun d hd => by
            rw [e1] at hd; simp [newsOf] at hd)
          simp only [stepW, hgb, hga, e2, opW_alloc, putS_H, hoa] at h' ⊢
          rw [e1] at h' ⊢
          refine fun nb hn => append_frame hn (fun v H' h1 h2 => ?_) h'
          have := h1 nb h2
          rw [putS_comm (H3 := upd s.H nb (some (.box e' z'))) (fun i e => (hs.ab i e).2.2)] at this
          exact this
        have h2 : clsOf a.op = 2 ∧ (b.guard = none ∨ b.guard = a.guard) ∧ ∃ e z, b.op = .alloc e z := by
          rcases hs.cls with h4 | h4 | h4 | h4 | h4 | h4 | h4 | h4
          · omega
          · omega
          · exact h4
          · obtain ⟨g, p, l, n, d, v, e1, e2, hd⟩ := h4; rw [e1] at ha; simp [clsOf] at ha
          · obtain ⟨⟨f, xs, e1⟩ | ⟨f, xs, e1⟩, _⟩ := h4 <;> rw [e1] at ha <;> simp [clsOf] at ha
          · obtain ⟨g, d, f, xs, l, e1, e2, hd⟩ := h4; rw [e1] at ha; simp [clsOf] at ha
          · obtain ⟨g, d, e, sz, bytes, z, sx, x, e1, e2⟩ := h4; rw [e1] at ha; simp [clsOf] at ha
          · exact absurd h4 hap
        obtain ⟨h2, hgd, e, z, hb⟩ := h2
        obtain ⟨x, mk, g1, g2, g3⟩ := new2 h2 h'
        have hgb : ∀ v H', goes (putS s a.dst v H').t b = goes s.t b := fun v H' => goes_congr fun i hi => putS_ne fun e => (hs.ab i e).1 hi
        have hga : ∀ v H', goes (putS s b.dst v H').t a = goes s.t a := fun v H' => goes_congr fun i hi => putS_ne fun e => (hs.ba i e).1 hi
        have hoa : ∀ v H' H2 K2, opW P (putS s b.dst v H').t H2 K2 a.op = opW P s.t H2 K2 a.op := fun v H' H2 K2 => opW_congr (fun i hi => putS_ne fun e => (hs.ba i e).1 (reads_opds hi)) (fun d hd => by
          cases hop : a.op <;> rw [hop] at h2 hd <;> simp [clsOf, newsOf] at h2 hd)
        unfold stepW at g1 ⊢
        simp only [hgb, hga, hg, hoa] at g1 ⊢
        cases hgo : goes s.t b with
        | none =>
          exfalso
          rcases hgd with e | e
          · simp [goes, e] at hgo
          · rw [show goes s.t b = goes s.t a by simp only [goes, e], hg] at hgo
            cases hgo
        | some g =>
          rw [hgo] at g1
          cases g with
          | false =>
            simp only [putS_H] at g1 ⊢
            refine g2 s.H _ fun nb hn => ?_
            have := g1 nb hn
            rw [putS_comm (H3 := s.H) (fun i e => (hs.ab i e).2.2)] at this
            exact this
          | true =>
            rw [hb] at g1 ⊢
            simp only [opW_alloc, putS_H] at g1 ⊢
            refine fun nb hn => g2 _ _ fun na hna => ?_
            rw [upd_get] at hna
            split at hna
            · cases hna
            · next hne =>
              have := g1 na hna nb (by rw [upd_get, if_neg (fun e => hne e.symm)]; exact hn)
              rw [upd_comm (fun e => hne e.symm), putS_comm (H3 := upd s.H nb (some (.box e z))) (fun i e => (hs.ab i e).2.2)] at this
              exact this

/-! ### whichever is taken next -/
def seqW (P : Program) (aos : List AO) : List Nat → St → (St → Prop) → Prop
  | [], s, K => K s
  | i :: r, s, K => match aos[i]? with
    | some o => stepW P o s fun s' => seqW P aos r s' K
    | none => False
theorem seqW_opsW {aos : List AO} : ∀ {l : List Nat} {os : List AO} {s : St} {K : St → Prop}, listAt aos l = some os → opsW P os s K → seqW P aos l s K
  | [], os, s, K, hl, h => by simp only [listAt, Option.some.injEq] at hl; subst hl; exact h
  | i :: r, os, s, K, hl, h => by
    simp only [listAt] at hl
    split at hl
    · next a l h1 h2 =>
      cases hl
      rw [opsW_cons] at h
      simp only [seqW, h1]
      exact stepW_mono (fun s' h => seqW_opsW h2 h) h
    · cases hl
theorem pairs_pw {after clo : List (List Nat)} {aos : List AO} : ∀ {l : List Nat}, pairsOk after clo aos l = true → l.Pairwise fun i j => pairOk after clo aos i j = true
  | [], _ => .nil
  | i :: r, h => by
    simp only [pairsOk, Bool.and_eq_true, List.all_eq_true] at h
    exact .cons h.1 (pairs_pw h.2)
theorem seq_first {after clo : List (List Nat)} {aos : List AO} {i : Nat} {K : St → Prop} : ∀ {l : List Nat} {s : St}, l.Pairwise (fun i j => pairOk after clo aos i j = true) → (∀ x ∈ l, x ∉ clo.getD i []) → i ∈ l → seqW P aos l s K →
    ∃ o, aos[i]? = some o ∧ stepW P o s fun s' => seqW P aos (l.erase i) s' K
  | [], s, _, _, hi, _ => by cases hi
  | a :: r, s, hp, hc, hi, h => by
    simp only [seqW] at h
    cases ha : aos[a]? with
    | none => rw [ha] at h; exact h.elim
    | some oa =>
      rw [ha] at h
      dsimp only at h
      by_cases e : a = i
      · subst e
        refine ⟨oa, ha, ?_⟩
        rw [List.erase_cons_head]
        exact h
      · have hir : i ∈ r := by
          rcases List.mem_cons.1 hi with h | h
          · exact absurd h.symm e
          · exact h
        have hpa := List.pairwise_cons.1 hp
        have hpi := hpa.1 i hir
        simp only [pairOk, Bool.and_eq_true, Bool.or_eq_true] at hpi
        have hsw := hpi.2
        have hsw : (match aos[a]?, aos[i]? with | some a, some b => swapOk a b | _, _ => false) = true := by
          rcases hsw with h | h
          · exact absurd (by simpa using h) (hc a (by simp))
          · exact h
        rw [ha] at hsw
        cases hio : aos[i]? with
        | none => rw [hio] at hsw; cases hsw
        | some oi =>
          rw [hio] at hsw
          refine ⟨oi, rfl, ?_⟩
          have key : stepW P oa s fun s1 => stepW P oi s1 fun s' => seqW P aos (r.erase i) s' K := stepW_mono (fun s1 h1 => by
            obtain ⟨o, h2, h3⟩ := seq_first hpa.2 (fun x hx => hc x (by simp [hx])) hir h1
            rw [hio] at h2; cases h2
            exact h3) h
          refine stepW_mono (fun s' h' => ?_) (step_swap (swapOk_spec hsw) key)
          rw [List.erase_cons_tail (by simpa using e)]
          simp only [seqW, ha]
          exact h'
end
end Go.Proofs.Ytlflfciebidddaa.Abs
