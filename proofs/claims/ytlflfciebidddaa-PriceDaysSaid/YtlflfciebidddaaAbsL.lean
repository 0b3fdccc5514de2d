/- Functions that leave alone what there is: their contracts, used at any heap; rows of one's own lent to them. No claim stands here. -/
import Derived.Test.YtlflfciebidddaaAbs4
namespace Go.Proofs.Ytlflfciebidddaa.Abs
open Go Go.RowKit

section
variable {P : Program}

theorem LendL.nil {H : Heap} : LendL H [] [] := ⟨rfl, fun j x y h _ => by simp at h⟩
theorem LendL.cons {H : Heap} {x y : AV} {xs ys : List AV} (h : LendV H x y) (t : LendL H xs ys) : LendL H (x :: xs) (y :: ys) :=
  ⟨by simp [t.1], fun j a b h1 h2 => by
    cases j with
    | zero => simp at h1 h2; subst h1; subst h2; exact h
    | succ j => exact t.2 j a b (by simpa using h1) (by simpa using h2)⟩
theorem LendL.refl {H : Heap} (xs : List AV) : LendL H xs xs := ⟨rfl, fun j x y h1 h2 => by rw [h1] at h2; cases h2; exact .refl _⟩
theorem LendV.aggL {H : Heap} {xs ys : List AV} (h : LendL H xs ys) : LendV H (.agg xs) (.agg ys) := .agg xs ys h.1 h.2
theorem LendV.tupL {H : Heap} {xs ys : List AV} (h : LendL H xs ys) : LendV H (.tup xs) (.tup ys) := .tup xs ys h.1 h.2

def isRow (H : Heap) (k : Nat) : Prop := ∃ t sz cap xs, H k = some (.row t sz cap xs)
theorem LendV.sound {F : Nat → Prop} {H : Heap} {w : World} (hh : HRel P F H w) {x y : AV} (h : LendV H x y) : ∀ {v : Value}, VR P F w x v → VR P (fun k => F k ∨ isRow H k) w y v := by
  induction h with
  | refl x => exact fun hv => hv.mono (fun _ h => .inl h) (fun _ _ => rfl)
  | nilsl sz sz' => intro v hv; cases hv; exact .d _ _ (.nil _ _ _)
  | own b sz cap t cap' xs h =>
    intro v hv
    cases hv
    next hl =>
    refine .d _ _ ?_
    rw [Nat.zero_mul]
    exact (hh.at_ _ _ h).read (fun _ h => .inl h) (.inr ⟨t, sz, cap', xs, h⟩) cap hl
  | agg xs ys hl _ ih =>
    intro v hv
    cases hv
    next cs h3 h1 h2 =>
    exact .agg _ _ (by omega) (fun j y v g1 g2 => by
      have hj : j < xs.length := by rw [hl]; exact (List.getElem?_eq_some_iff.1 g1).1
      exact ih j _ y (List.getElem?_eq_getElem hj) g1 (h2 j _ v (List.getElem?_eq_getElem hj) g2)) (by assumption)
  | tup xs ys hl _ ih =>
    intro v hv
    cases hv
    next cs h1 h2 =>
    exact .tup _ _ (by omega) (fun j y v g1 g2 => by
      have hj : j < xs.length := by rw [hl]; exact (List.getElem?_eq_some_iff.1 g1).1
      exact ih j _ y (List.getElem?_eq_getElem hj) g1 (h2 j _ v (List.getElem?_eq_getElem hj) g2))
theorem LendL.sound {F : Nat → Prop} {H : Heap} {w : World} (hh : HRel P F H w) {xs ys : List AV} (h : LendL H xs ys) {vs : List Value} (hv : VRL P F w xs vs) : VRL P (fun k => F k ∨ isRow H k) w ys vs :=
  ⟨by rw [← h.1]; exact hv.1, fun j y v g1 g2 => by
    have hj : j < xs.length := by rw [h.1]; exact (List.getElem?_eq_some_iff.1 g1).1
    exact (h.2 j _ y (List.getElem?_eq_getElem hj) g1).sound hh (hv.2 j _ v (List.getElem?_eq_getElem hj) g2)⟩

theorem DataW.run {f : FuncId} {args : List AV} {r : AV} (h : DataW P f args r) {F : Nat → Prop} {w : World} {vs : List Value} (hF : ∀ k, F k → k < w.heap.size) (hv : VRL P F w args vs) :
    Calls P f vs.toArray w fun e w' => ∃ F' v, e = .returned v ∧ VR P F' w' r v ∧ (∀ k, F' k → k < w'.heap.size) ∧ Step F Heap.none w F' Heap.none w' := by
  refine (h F w vs ⟨fun b x hb => (by cases hb), fun b x hb => (by cases hb), hF⟩ hv).mono fun e w' hh => ?_
  obtain ⟨r', H', F', v, rfl, h1, h2, h3, h4⟩ := hh
  refine ⟨_, v, rfl, h4.sound h2 h1, fun k hk => ?_, ⟨h3.os, h3.tape, h3.output, h3.size, h3.keep, fun k hk => absurd rfl hk, fun k hk => .inl (h3.mono k hk), fun k hk => ?_⟩⟩
  · rcases hk with hk | ⟨t, sz, cap, xs, hk⟩
    · exact h2.old k hk
    · exact (h2.at_ k _ hk).lt
  · rcases hk with hk | ⟨t, sz, cap, xs, hk⟩
    · exact h3.new k hk
    · rcases h3.dom k (by rw [hk]; simp) with e | e
      · exact absurd rfl e
      · exact .inr (.inr e)

theorem CallW_data {f : FuncId} {args args' : List AV} {r : AV} {H : Heap} {K : AV → Heap → Prop} (h : DataW P f args' r) (hl : LendL Heap.none args args') (hk : K r H) : CallW P f args H K := by
  intro F w vs hh hv
  have hv' : VRL P F w args' vs := (hl.sound (H := Heap.none) (F := F) ⟨fun b x hb => (by cases hb), fun b x hb => (by cases hb), hh.old⟩ hv).mono (fun k hk => hk.resolve_right (fun ⟨_, _, _, _, e⟩ => by cases e)) (fun _ _ => rfl)
  refine (h.run hh.old hv').mono fun e w' hr => ?_
  obtain ⟨F', v, rfl, h1, h2, h3⟩ := hr
  have hkeep : ∀ k, k < w.heap.size → w'.heap[k]? = w.heap[k]? := fun k hk => h3.keep k hk rfl
  refine ⟨r, H, F', v, rfl, h1, ⟨fun b x hb => ?_, fun b x hb hf => ?_, h2⟩, ⟨h3.os, h3.tape, h3.output, h3.size, fun k hk _ => hkeep k hk, fun k hk => .inl hk, h3.mono, fun k hk => ?_⟩, hk⟩
  · exact (hh.at_ b x hb).mono (hkeep b (hh.at_ b x hb).lt) h3.mono (fun k hk => hkeep k (hh.old k hk))
  · rcases h3.new b hf with e | e | e
    · exact hh.apart b x hb e
    · exact e rfl
    · have := (hh.at_ b x hb).lt; omega
  · rcases h3.new k hk with e | e | e
    · exact .inl e
    · exact absurd rfl e
    · exact .inr (.inr e)

theorem scal_sound {F F' : Nat → Prop} {w : World} {x : AV} {v : Value} (h : VR P F w x v) (hs : scal x = true) : VR P F' w x v := by
  cases x <;> simp only [scal, reduceCtorEq, Bool.false_eq_true] at hs
  cases h; next h =>
  cases h <;> simp only [scalD, reduceCtorEq, Bool.false_eq_true] at hs
  · exact .d _ _ (.int _ _)
  · exact .d _ _ (.bool _)
  · exact .d _ _ (.str _)
theorem scalL_sound {F F' : Nat → Prop} {w : World} {x : AV} {v : Value} (h : VR P F w x v) (hs : scalL x = true) : VR P F' w x v := by
  cases x <;> simp only [scalL] at hs
  case tup xs =>
    cases h
    next cs h1 h2 => exact .tup _ _ h1 (fun j x v g1 g2 => scal_sound (h2 j x v g1 g2) (List.all_eq_true.1 hs x (List.mem_of_getElem? g1)))
  case agg xs =>
    cases h
    next cs h3 h1 h2 => exact .agg _ _ h1 (fun j x v g1 g2 => scal_sound (h2 j x v g1 g2) (List.all_eq_true.1 hs x (List.mem_of_getElem? g1))) h3
  all_goals exact scal_sound h hs

theorem CallW_lend {f : FuncId} {args args' : List AV} {r : AV} {H : Heap} {K : AV → Heap → Prop} (h : DataW P f args' r) (hl : LendL H args args') (hs : scalL r = true) (hk : K r H) : CallW P f args H K := by
  intro F w vs hh hv
  refine (h.run (F := fun k => F k ∨ isRow H k) (fun k hk => ?_) (hl.sound hh hv)).mono fun e w' hr => ?_
  · rcases hk with hk | ⟨t, sz, cap, xs, hk⟩
    · exact hh.old k hk
    · exact (hh.at_ k _ hk).lt
  obtain ⟨F', v, rfl, h1, h2, h3⟩ := hr
  have hkeep : ∀ k, k < w.heap.size → w'.heap[k]? = w.heap[k]? := fun k hk => h3.keep k hk rfl
  refine ⟨r, H, fun k => F' k ∧ H k = none, v, rfl, scalL_sound h1 hs, ⟨fun b x hb => ?_, fun b x hb hf => ?_, fun k hk => h2 k hk.1⟩, ⟨h3.os, h3.tape, h3.output, h3.size, fun k hk _ => hkeep k hk, fun k hk => .inl hk, fun k hk => ⟨h3.mono k (.inl hk), hh.out hk⟩, fun k hk => ?_⟩, hk⟩
  · exact (hh.at_ b x hb).mono (hkeep b (hh.at_ b x hb).lt) (fun k hk => ⟨h3.mono k (.inl hk), hh.out hk⟩) (fun k hk => hkeep k (hh.old k hk))
  · rw [hf.2] at hb; cases hb
  · rcases h3.new k hk.1 with (e | ⟨t, sz, cap, xs, e⟩) | e | e
    · exact .inl e
    · rw [hk.2] at e; cases e
    · exact absurd rfl e
    · exact .inr (.inr e)


theorem RD_rows {F F' : Nat → Prop} {w : World} {sz : Nat} {xs : List (List D)} {v : Value} (h : RD F w (.sl sz xs) v) (hs : ∀ el ∈ xs, ∀ d ∈ el, scalD d = true) (hF : ∀ b off len cap, v = .slice (some ⟨b, off, none⟩) len cap → F' b) : RD F' w (.sl sz xs) v := by
  cases h
  case nil => exact .nil _ _ _
  case sl b off cap u h1 hcap hsz hc hr =>
    refine .sl _ _ b off cap u (hF _ _ _ _ rfl) hcap hsz hc fun i j el c g1 g2 => ?_
    have h2 := hr i j el c g1 g2
    have h3 := hs el (List.mem_of_getElem? g1) c (List.mem_of_getElem? g2)
    generalize u (i * sz + j) = uv at h2 ⊢
    cases h2 <;> simp only [scalD, reduceCtorEq, Bool.false_eq_true] at h3
    · exact .int _ _
    · exact .bool _
    · exact .str _
theorem NewV.sound {F : Nat → Prop} {H : Heap} {w : World} (hh : HRel P F H w) {x y : AV} (h : NewV H x y) : ∀ {v : Value}, VR P F w x v → VR P (isRow H) w y v := by
  induction h with
  | scal x hs => exact fun hv => scalL_sound hv hs
  | nilsl sz sz' => intro v hv; cases hv; exact .d _ _ (.nil _ _ _)
  | own b sz cap t cap' xs h hs =>
    intro v hv
    cases hv
    next hl =>
    refine .d _ _ ?_
    rw [Nat.zero_mul]
    refine RD_rows ((hh.at_ _ _ h).read (F' := fun k => F k ∨ isRow H k) (fun _ h => .inl h) (.inr ⟨t, sz, cap', xs, h⟩) cap hl) hs ?_
    intro b' off len cap e
    cases e
    exact ⟨t, sz, cap', xs, h⟩
  | agg xs ys hl _ ih =>
    intro v hv
    cases hv
    next cs h3 h1 h2 =>
    exact .agg _ _ (by omega) (fun j y v g1 g2 => by
      have hj : j < xs.length := by rw [hl]; exact (List.getElem?_eq_some_iff.1 g1).1
      exact ih j _ y (List.getElem?_eq_getElem hj) g1 (h2 j _ v (List.getElem?_eq_getElem hj) g2)) (by assumption)
  | tup xs ys hl _ ih =>
    intro v hv
    cases hv
    next cs h1 h2 =>
    exact .tup _ _ (by omega) (fun j y v g1 g2 => by
      have hj : j < xs.length := by rw [hl]; exact (List.getElem?_eq_some_iff.1 g1).1
      exact ih j _ y (List.getElem?_eq_getElem hj) g1 (h2 j _ v (List.getElem?_eq_getElem hj) g2))
theorem NewV.lend {H : Heap} {x y : AV} (h : NewV H x y) : LendV H x y := by
  induction h with
  | scal x _ => exact .refl x
  | nilsl sz sz' => exact .nilsl sz sz'
  | own b sz cap t cap' xs h _ => exact .own b sz cap t cap' xs h
  | agg xs ys hl _ ih => exact .agg xs ys hl ih
  | tup xs ys hl _ ih => exact .tup xs ys hl ih
theorem NewW.data {f : FuncId} {args : List AV} {r : AV} (h : NewW P f args r) : DataW P f args r :=
  fun F w vs hh hv => (h F w vs hh hv).mono fun _ _ ⟨r, H', F', v, h1, h2, h3, h4, h5⟩ => ⟨r, H', F', v, h1, h2, h3, h4, h5.lend⟩
theorem CallW_new {f : FuncId} {args args' : List AV} {r : AV} {H : Heap} {K : AV → Heap → Prop} (h : NewW P f args' r) (hl : LendL H args args') (hk : K r H) : CallW P f args H K := by
  intro F w vs hh hv
  have hold : ∀ k, F k ∨ isRow H k → k < w.heap.size := by
    rintro k (hk | ⟨t, sz, cap, xs, hk⟩)
    · exact hh.old k hk
    · exact (hh.at_ k _ hk).lt
  refine (h (fun k => F k ∨ isRow H k) w vs ⟨fun b x hb => (by cases hb), fun b x hb => (by cases hb), hold⟩ (hl.sound hh hv)).mono fun e w' hr => ?_
  obtain ⟨r', H', F', v, rfl, h1, h2, h3, h4⟩ := hr
  have hkeep : ∀ k, k < w.heap.size → w'.heap[k]? = w.heap[k]? := fun k hk => h3.keep k hk rfl
  have hnew : ∀ k, isRow H' k → w.heap.size ≤ k := by
    rintro k ⟨t, sz, cap, xs, e⟩
    rcases h3.dom k (by rw [e]; simp) with e | e
    · exact absurd rfl e
    · exact e
  refine ⟨r, H, fun k => F k ∨ isRow H' k, v, rfl, (h4.sound h2 h1).mono (fun _ h => .inr h) (fun _ _ => rfl), ⟨fun b x hb => ?_, fun b x hb hf => ?_, fun k hk => ?_⟩, ⟨h3.os, h3.tape, h3.output, h3.size, fun k hk _ => hkeep k hk, fun k hk => .inl hk, fun k hk => .inl hk, fun k hk => ?_⟩, hk⟩
  · exact (hh.at_ b x hb).mono (hkeep b (hh.at_ b x hb).lt) (fun k hk => .inl hk) (fun k hk => hkeep k (hh.old k hk))
  · rcases hf with hf | hf
    · exact hh.apart b x hb hf
    · have := hnew b hf
      have := (hh.at_ b x hb).lt
      omega
  · rcases hk with hk | ⟨t, sz, cap, xs, e⟩
    · exact Nat.lt_of_lt_of_le (hh.old k hk) h3.size
    · exact (h2.at_ k _ e).lt
  · rcases hk with hk | hk
    · exact .inl hk
    · exact .inr (.inr (hnew k hk))

/-- A call's result in rows of its own, from here on data. -/
theorem CallW.froze {f : FuncId} {args : List AV} {v : AV} {H : Heap} {K : Heap → Prop} (h : CallW P f args H fun r H' => ∃ Hr Hk, (∀ k, Hr k = none ∨ Hr k = H' k) ∧ (∀ k, Hk k = none ∨ Hk k = H' k ∧ Hr k = none) ∧ NewV Hr r v ∧ K Hk) : CallW P f args H fun r H' => r = v ∧ K H' := by
  intro F w vs hh hv
  refine (h F w vs hh hv).mono fun e w' hr => ?_
  obtain ⟨r, H', F', u, rfl, h1, h2, h3, Hr, Hk, g1, g2, g3, g4⟩ := hr
  have g1k : ∀ b x, Hr b = some x → H' b = some x := fun b x hb => by
    rcases g1 b with e | e
    · rw [e] at hb; cases hb
    · rw [← e]; exact hb
  have hrel : HRel P F' Hr w' := ⟨fun b x hb => h2.at_ b x (g1k b x hb), fun b x hb => h2.apart b x (g1k b x hb), h2.old⟩
  have hrow : ∀ k, isRow Hr k → ∃ x, H' k = some x := fun k ⟨t, sz, cap, xs, e⟩ => by
    rcases g1 k with e1 | e1
    · rw [e1] at e; cases e
    · exact ⟨_, by rw [← e1]; exact e⟩
  have hkk : ∀ k x, Hk k = some x → H' k = some x ∧ Hr k = none := fun k x hx => by
    rcases g2 k with e | ⟨e, e'⟩
    · rw [e] at hx; cases hx
    · exact ⟨by rw [← e]; exact hx, e'⟩
  refine ⟨v, Hk, fun k => F' k ∨ isRow Hr k, u, rfl, (g3.sound hrel h1).mono (fun _ h => .inr h) (fun _ _ => rfl), ⟨fun b x hb => ?_, fun b x hb hf => ?_, fun k hk => ?_⟩, ⟨h3.os, h3.tape, h3.output, h3.size, h3.keep, fun k hk => ?_, fun k hk => .inl (h3.mono k hk), fun k hk => ?_⟩, rfl, g4⟩
  · exact (h2.at_ b x (hkk b x hb).1).mono rfl (fun k hk => .inl hk) (fun k hk => rfl)
  · rcases hf with hf | ⟨t, sz, cap, xs, e⟩
    · exact h2.apart b x (hkk b x hb).1 hf
    · rw [(hkk b x hb).2] at e; cases e
  · rcases hk with hk | hk
    · exact h2.old k hk
    · obtain ⟨x, hx⟩ := hrow k hk
      exact (h2.at_ k x hx).lt
  · refine h3.dom k fun e => ?_
    cases hx : Hk k with
    | none => exact hk hx
    | some x => rw [(hkk k x hx).1] at e; cases e
  · rcases hk with hk | hk
    · exact h3.new k hk
    · obtain ⟨x, hx⟩ := hrow k hk
      rcases h3.dom k (by rw [hx]; simp) with e | e
      · exact .inr (.inl e)
      · exact .inr (.inr e)
theorem PCallK.call {f : FuncId} {args : List AV} {H : Heap} {K : AV → Heap → Prop} (h : PCallK P f args H fun r => K r H) : CallW P f args H K := by
  obtain ⟨args', r, h1, h2 | h2 | h2, h3, h4⟩ := h
  · exact CallW_lend h3 h1 h2 h4
  · exact CallW_data h3 h2 h4
  · exact CallW_new h2 h1 h4
end
end Go.Proofs.Ytlflfciebidddaa.Abs
