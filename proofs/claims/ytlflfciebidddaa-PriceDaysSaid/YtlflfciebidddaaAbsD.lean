/- Regions whose order is open: one order serves all, where what is unordered can change places. No claim stands here. -/
import Derived.Test.YtlflfciebidddaaAbs11
import Derived.Test.YtlflfciebidddaaAbsL
import Derived.Orders
namespace Go.Proofs.Ytlflfciebidddaa.Abs
open Go Go.RowKit

/-! ### what an operation hangs on -/
theorem opd_congr {t u : TM} {x : Opd} (h : ∀ i ∈ opdT x, t i = u i) : ev t x = ev u x := by
  cases x with
  | t n => exact h n (by simp [opdT])
  | c v => rfl
theorem evL_congr {t u : TM} {xs : List Opd} (h : ∀ x ∈ xs, ev t x = ev u x) : evL t xs = evL u xs := by
  induction xs with
  | nil => rfl
  | cons x xs ih => simp only [evL]; rw [h x (by simp), ih (fun y hy => h y (by simp [hy]))]
theorem evP_congr {t u : TM} {ps : List (Nat × Nat × Opd)} (h : ∀ x ∈ ps.map (·.2.2), ev t x = ev u x) : evP t ps = evP u ps := by
  induction ps with
  | nil => rfl
  | cons p ps ih =>
    obtain ⟨a, b, x⟩ := p
    simp only [evP]; rw [h x (by simp), ih (fun y hy => h y (by simp only [List.map_cons, List.mem_cons]; exact .inr hy))]
theorem evQ_congr {t u : TM} {sz : Nat} {ps : List (Nat × Opd)} (h : ∀ x ∈ ps.map (·.2), ev t x = ev u x) : evQ t sz ps = evQ u sz ps := by
  induction ps with
  | nil => rfl
  | cons p ps ih =>
    obtain ⟨a, x⟩ := p
    simp only [evQ]; rw [h x (by simp), ih (fun y hy => h y (by simp only [List.map_cons, List.mem_cons]; exact .inr hy))]
theorem newsOk_congr {t u : TM} {p : AV} {l : List Nat} (h : ∀ d ∈ l, t d = u d) : newsOk t p l = newsOk u p l := by
  induction l with
  | nil => rfl
  | cons d l ih => simp only [newsOk]; rw [h d (by simp), ih (fun y hy => h y (by simp [hy]))]

section
variable {P : Program}
theorem opW_congr {t u : TM} {H : Heap} {K : AV → Heap → Prop} {op : AOp} (h : ∀ i ∈ (opdsOf op).flatMap opdT, t i = u i) (hn : ∀ d ∈ newsOf op, t d = u d) : opW P t H K op = opW P u H K op := by
  have hx : ∀ x ∈ opdsOf op, ev t x = ev u x := fun x hx => opd_congr fun i hi => h i (List.mem_flatMap.2 ⟨x, hx, hi⟩)
  cases op <;> simp only [opdsOf, List.mem_cons, List.not_mem_nil, or_false, forall_eq_or_imp, forall_eq, List.mem_append, Option.mem_toList, List.mem_map] at hx
  case mov x => simp only [opW, hx]
  case pick a b c => simp only [opW, hx]
  case alloc => rfl
  case box => simp only [opW, hx]
  case load => simp only [opW, hx]
  case loadD => simp only [opW, hx]
  case loadP g d =>
    have h1 : t d = u d := hx
    simp only [opW, h1]
  case callS f xs l =>
    have h1 : evL t xs = evL u xs := evL_congr fun x hx' => hx x (.inl hx')
    have h2 : ∀ d ∈ l, t d = u d := fun d hd => hx (.t d) (.inr ⟨d, hd, rfl⟩)
    have h3 : ∀ H', keepsL t H H' l = keepsL u H H' l := fun H' => by
      unfold keepsL
      exact propext ⟨fun k d hd => by rw [← h2 d hd]; exact k d hd, fun k d hd => by rw [h2 d hd]; exact k d hd⟩
    simp only [opW, h1, h3]
  case loadS g x l => simp only [opW, hx]; rw [newsOk_congr (l := l) hn]
  case store => simp only [opW, hx]
  case storeS n d v =>
    have h1 : t d = u d := hx.1
    simp only [opW, h1, hx.2]
  case bad => rfl
  case bin => simp only [opW, hx]
  case binb => simp only [opW, hx]
  case eqAgg => simp only [opW, hx]
  case un => simp only [opW, hx]
  case conv => simp only [opW, hx]
  case nilCheck => simp only [opW, hx]
  case mkfn f xs => simp only [opW]; rw [evL_congr hx]
  case fieldAddr => simp only [opW, hx]
  case field => simp only [opW, hx]
  case elemAddr => simp only [opW, hx]
  case arrAddr => simp only [opW, hx]
  case idxArr => simp only [opW, hx]
  case build z ps => simp only [opW]; rw [evP_congr (fun x hx' => hx x (by simpa using hx'))]
  case buildSlice a b c z ps => simp only [opW]; rw [evQ_congr (fun x hx' => hx x (by simpa using hx'))]
  case buildSliceD a b c z ps => simp only [opW]; rw [evQ_congr (fun x hx' => hx x (by simpa using hx'))]
  case make => simp only [opW, hx]
  case extract => simp only [opW, hx]
  case slice sz x lo hi =>
    have e1 : evO t lo = evO u lo := by cases lo with
      | none => rfl
      | some y => simp only [evO]; rw [hx.2 y (.inl rfl)]
    have e2 : evO t hi = evO u hi := by cases hi with
      | none => rfl
      | some y => simp only [evO]; rw [hx.2 y (.inr rfl)]
    simp only [opW, hx.1, e1, e2]
  case len => simp only [opW, hx]
  case idxStr => simp only [opW, hx]
  case slen => simp only [opW, hx]
  case append => simp only [opW, hx]
  case minmax m x xs => simp only [opW, hx.1]; rw [evL_congr hx.2]
  case call f xs => simp only [opW]; rw [evL_congr hx]
  case callv g xs => simp only [opW, hx.1]; rw [evL_congr hx.2]
  case pcall f xs => simp only [opW]; rw [evL_congr hx]
  case pcallv g xs => simp only [opW, hx.1]; rw [evL_congr hx.2]

/-! ### continuations -/
theorem binW_mono {op : BinOp} {x y : AV} {K K' : AV → Prop} (hk : ∀ v, K v → K' v) (h : binW op x y K) : binW op x y K' := by
  unfold binW at *
  split at h
  · cases op <;> exact ⟨h.1, hk _ h.2⟩
  · cases op <;> first | exact hk _ h | exact h
  · exact h
theorem loadW_mono {g : Option Nat} {p : AV} {H : Heap} {K K' : AV → Prop} (hk : ∀ v, K v → K' v) (h : loadW g p H K) : loadW g p H K' := by
  unfold loadW at *
  split at h
  · split at h
    · cases g <;> exact ⟨h.1, hk _ h.2⟩
    · exact h
  · split at h
    · obtain ⟨h1, h2, el, h3, h4⟩ := h
      refine ⟨h1, h2, el, h3, ?_⟩
      cases g <;> exact ⟨h4.1, hk _ h4.2⟩
    · exact h
  · cases g <;> exact ⟨h.1, hk _ h.2⟩
  · exact h
theorem frz_mono {H : Heap} {v : AV} {K K' : D → Heap → Prop} (hk : ∀ x H', K x H' → K' x H') (h : frz H v K) : frz H v K' := by
  unfold frz at *
  split at h
  · exact hk _ _ h
  · exact hk _ _ h
  · split at h
    · exact ⟨h.1, hk _ _ h.2⟩
    · exact h
  · exact h
theorem frzL_mono : ∀ {l : List AV} {H : Heap} {K K' : List D → Heap → Prop}, (∀ x H', K x H' → K' x H') → frzL H l K → frzL H l K'
  | [], _, _, _, hk, h => hk _ _ h
  | _ :: _, _, _, _, hk, h => frz_mono (fun _ _ h => frzL_mono (fun _ _ h => hk _ _ h) h) h
theorem storeW_mono {n : Nat} {p v : AV} {H : Heap} {K K' : Heap → Prop} (hk : ∀ H', K H' → K' H') (h : storeW n p v H K) : storeW n p v H K' := by
  unfold storeW at *
  refine ⟨h.1, ?_⟩
  have h := h.2
  split at h
  · split at h
    · exact ⟨h.1, hk _ h.2⟩
    · exact h
  · refine frzL_mono (fun ds H' h => ?_) h
    split at h
    · obtain ⟨h1, h2, el, h3, h4, h5⟩ := h
      exact ⟨h1, h2, el, h3, h4, hk _ h5⟩
    · exact h
  · exact h
theorem elemsW_mono {H : Heap} {v : AV} {K K' : Nat → List (List D) → Prop} (hk : ∀ n x, K n x → K' n x) (h : elemsW H v K) : elemsW H v K' := by
  unfold elemsW at *
  split at h
  · exact hk _ _ h
  · exact hk _ _ h
  · split at h
    · exact ⟨h.1, hk _ _ h.2⟩
    · exact h
  · exact h
theorem CallW.mono' {f : FuncId} {args : List AV} {H : Heap} {K K' : AV → Heap → Prop} (h : CallW P f args H K) (hk : ∀ r H', K r H' → K' r H') : CallW P f args H K' :=
  fun F w vs hh hv => (h F w vs hh hv).mono fun _ _ ⟨r, H', F', v, h1, h2, h3, h4, h5⟩ => ⟨r, H', F', v, h1, h2, h3, h4, hk r H' h5⟩
theorem PCallK.mono {f : FuncId} {args : List AV} {H : Heap} {K K' : AV → Prop} (hk : ∀ r, K r → K' r) (h : PCallK P f args H K) : PCallK P f args H K' := by
  obtain ⟨a, r, h1, h2, h3, h4⟩ := h
  exact ⟨a, r, h1, h2, h3, hk _ h4⟩
theorem opW_mono {t : TM} {H : Heap} {K K' : AV → Heap → Prop} {op : AOp} (hk : ∀ v H', K v H' → K' v H') (h : opW P t H K op) : opW P t H K' op := by
  cases op <;> simp only [opW] at h ⊢
  case mov => exact hk _ _ h
  case pick => split at h <;> first | exact ⟨fun e => hk _ _ (h.1 e), fun e => hk _ _ (h.2 e)⟩ | exact h
  case alloc => exact fun b hb => hk _ _ (h b hb)
  case box => exact ⟨h.1, fun b hb => hk _ _ (h.2 b hb)⟩
  case load => exact loadW_mono (fun v h => hk _ _ h) h
  case loadD =>
    split at h
    · exact loadW_mono (fun v h => hk _ _ h) h
    · exact h
  case loadS => exact ⟨h.1, loadW_mono (fun v h => hk _ _ h) h.2⟩
  case store => exact storeW_mono (fun v h => hk _ _ h) h
  case storeS =>
    split at h
    · refine ⟨h.1, ?_⟩
      have h := h.2
      split at h
      · exact ⟨h.1, hk _ _ h.2⟩
      · exact h
    · exact h
  case bin => exact binW_mono (fun v h => hk _ _ h) h
  case binb => split at h <;> first | exact hk _ _ h | exact h
  case eqAgg =>
    split at h
    · split at h <;> first | exact hk _ _ h | exact h
    · exact h
  case un => split at h <;> first | exact hk _ _ h | exact h
  case conv => split at h <;> first | exact hk _ _ h | exact h
  case nilCheck => split at h <;> first | exact hk _ _ h | exact h
  case mkfn => exact hk _ _ h
  case fieldAddr => split at h <;> first | exact hk _ _ h | exact h
  case field g x =>
    split at h
    · cases g <;> exact ⟨h.1, hk _ _ h.2⟩
    · exact h
  case elemAddr =>
    split at h
    · obtain ⟨h1, h2, el, h3, h4⟩ := h
      exact ⟨h1, h2, el, h3, hk _ _ h4⟩
    · exact ⟨h.1, hk _ _ h.2⟩
    · exact h
  case arrAddr => split at h <;> first | exact ⟨h.1, hk _ _ h.2⟩ | exact h
  case idxArr n sz g x i =>
    split at h
    · refine ⟨h.1, ?_⟩
      have h := h.2
      cases g <;> exact ⟨h.1, hk _ _ h.2⟩
    · exact h
  case build => split at h <;> first | exact hk _ _ h | exact h
  case make =>
    split at h
    · split at h
      · exact ⟨h.1, fun b hb => hk _ _ (h.2 b hb)⟩
      · exact h
    · exact h
  case buildSlice =>
    split at h
    · exact frzL_mono (fun ds H' h b hb => hk _ _ (h b hb)) h
    · exact h
  case buildSliceD =>
    split at h
    · split at h
      · exact fun b hb => hk _ _ (h b hb)
      · exact h
    · exact h
  case extract => split at h <;> first | exact ⟨h.1, hk _ _ h.2⟩ | exact h
  case slice =>
    unfold sliceW at *
    split at h
    · split at h <;> first | exact ⟨h.1, hk _ _ h.2⟩ | exact h
    · exact h
  case len => split at h <;> first | exact hk _ _ h | exact h
  case idxStr => split at h <;> first | exact ⟨h.1, hk _ _ h.2⟩ | exact h
  case slen => split at h <;> first | exact hk _ _ h | exact h
  case append =>
    refine elemsW_mono (fun n ys h => ?_) h
    rcases h with ⟨h0, h1, h⟩ | h
    · refine .inl ⟨h0, h1, ?_⟩
      split at h
      · exact hk _ _ h
      · exact hk _ _ h
      · exact h
    refine .inr ⟨h.1, ?_⟩
    have h := h.2
    split at h
    · exact ⟨h.1, fun b hb cap => hk _ _ (h.2 b hb cap)⟩
    · split at h
      · exact ⟨h.1, fun b' cap' hb => hk _ _ (h.2 b' cap' hb)⟩
      · exact h
    · exact h
  case minmax =>
    split at h
    · split at h <;> first | exact hk _ _ h | exact h
    · exact h
  case loadP => split at h <;> first | exact loadW_mono (fun v h => hk _ _ h) h | exact h
  case callS => exact CallW.mono' h (fun r H' h => ⟨h.1, hk _ _ h.2⟩)
  case call => exact CallW.mono' h hk
  case callv =>
    split at h
    · exact CallW.mono' h hk
    · intro F w vs hh hv
      obtain ⟨fn, tmps, asg, body, h1, h2⟩ := h F w vs hh hv
      exact ⟨fn, tmps, asg, body, h1, h2.mono fun e w' ⟨r, H', F', v, g1, g2, g3, g4, g5⟩ => ⟨r, H', F', v, g1, g2, g3, g4, hk _ _ g5⟩⟩
    · exact h
  case pcall => exact PCallK.mono (fun r h => hk _ _ h) h
  case pcallv => split at h <;> first | exact PCallK.mono (fun r h => hk _ _ h) h | exact h
end
end Go.Proofs.Ytlflfciebidddaa.Abs
