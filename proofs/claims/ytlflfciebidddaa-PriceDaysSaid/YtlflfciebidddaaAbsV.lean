/- Rows of one's own given away at a call: from then on they are data. No claim stands here. -/
import Derived.Test.YtlflfciebidddaaAbsU
namespace Go.Proofs.Ytlflfciebidddaa.Abs
open Go Go.RowKit
section
variable {P : Program}
theorem CallW_gift {f : FuncId} {args args' : List AV} {r : AV} {H Hr Hk : Heap} {K : AV → Heap → Prop} (h : DataW P f args' r) (g1 : ∀ k, Hr k = none ∨ Hr k = H k) (g2 : ∀ k, Hk k = none ∨ Hk k = H k ∧ Hr k = none) (hl : LendL Hr args args') (hk : K r Hk) : CallW P f args H K := by
  intro F w vs hh hv
  have g1k : ∀ b x, Hr b = some x → H b = some x := fun b x hb => by
    rcases g1 b with e | e
    · rw [e] at hb; cases hb
    · rw [← e]; exact hb
  have g2k : ∀ k x, Hk k = some x → H k = some x ∧ Hr k = none := fun k x hx => by
    rcases g2 k with e | ⟨e, e'⟩
    · rw [e] at hx; cases hx
    · exact ⟨by rw [← e]; exact hx, e'⟩
  have hrel : HRel P F Hr w := ⟨fun b x hb => hh.at_ b x (g1k b x hb), fun b x hb => hh.apart b x (g1k b x hb), hh.old⟩
  have hrow : ∀ k, isRow Hr k → ∃ x, H k = some x := fun k ⟨t, sz, cap, xs, e⟩ => ⟨_, g1k k _ e⟩
  have hold : ∀ k, F k ∨ isRow Hr k → k < w.heap.size := by
    rintro k (hk | hk)
    · exact hh.old k hk
    · obtain ⟨x, hx⟩ := hrow k hk
      exact (hh.at_ k x hx).lt
  refine (h.run (F := fun k => F k ∨ isRow Hr k) hold (hl.sound hrel hv)).mono fun e w' hr => ?_
  obtain ⟨F', v, rfl, h1, h2, h3⟩ := hr
  have hkeep : ∀ k, k < w.heap.size → w'.heap[k]? = w.heap[k]? := fun k hk => h3.keep k hk rfl
  refine ⟨r, Hk, F', v, rfl, h1, ⟨fun b x hb => ?_, fun b x hb hf => ?_, h2⟩, ⟨h3.os, h3.tape, h3.output, h3.size, fun k hk _ => hkeep k hk, fun k hk => ?_, fun k hk => h3.mono k (.inl hk), fun k hk => ?_⟩, hk⟩
  · have hb' := (g2k b x hb).1
    exact (hh.at_ b x hb').mono (hkeep b (hh.at_ b x hb').lt) (fun k hk => h3.mono k (.inl hk)) (fun k hk => hkeep k (hh.old k hk))
  · obtain ⟨hb1, hb2⟩ := g2k b x hb
    rcases h3.new b hf with (e | ⟨t, sz, cap, xs, e⟩) | e | e
    · exact hh.apart b x hb1 e
    · rw [hb2] at e; cases e
    · exact e rfl
    · have := (hh.at_ b x hb1).lt
      omega
  · refine .inl fun e => ?_
    cases hx : Hk k with
    | none => exact hk hx
    | some x => rw [(g2k k x hx).1] at e; cases e
  · rcases h3.new k hk with (e | e) | e | e
    · exact .inl e
    · obtain ⟨x, hx⟩ := hrow k e
      exact .inr (.inl (by rw [hx]; simp))
    · exact absurd rfl e
    · exact .inr (.inr e)
theorem NewV.free {F G : Nat → Prop} {w : World} {H : Heap} {x y : AV} (h : NewV H x y) : ∀ {v : Value}, VR P F w x v → VR P G w x v := by
  induction h with
  | scal x hs => exact fun hv => scalL_sound hv hs
  | nilsl sz sz' => intro v hv; cases hv; (first | exact .nilsl _)
  | own b sz cap t cap' xs h hs => intro v hv; cases hv; exact .own _ _ _ _ _ (by assumption)
  | agg xs ys hl _ ih =>
    intro v hv
    cases hv
    next cs h3 h1 h2 =>
    exact .agg _ _ h1 (fun j x v g1 g2 => by
      have hj : j < ys.length := by rw [← hl]; exact (List.getElem?_eq_some_iff.1 g1).1
      exact ih j x _ g1 (List.getElem?_eq_getElem hj) (h2 j x v g1 g2)) (by assumption)
  | tup xs ys hl _ ih =>
    intro v hv
    cases hv
    next cs h1 h2 =>
    exact .tup _ _ h1 (fun j x v g1 g2 => by
      have hj : j < ys.length := by rw [← hl]; exact (List.getElem?_eq_some_iff.1 g1).1
      exact ih j x _ g1 (List.getElem?_eq_getElem hj) (h2 j x v g1 g2))
def scalR (x : Option Blk) : Prop := ∃ t sz cap xs, x = some (.row t sz cap xs) ∧ ∀ el ∈ xs, ∀ d ∈ el, scalD d = true
theorem NewV.into {H H' : Heap} (hH : ∀ b, scalR (H b) → H' b = H b) {x y : AV} (h : NewV H x y) : NewV H' x y := by
  induction h with
  | scal x hs => exact .scal x hs
  | nilsl sz sz' => exact .nilsl sz sz'
  | own b sz cap t cap' xs h hs => exact .own b sz cap t cap' xs (by rw [hH b ⟨t, sz, cap', xs, h, hs⟩]; exact h) hs
  | agg xs ys hl _ ih => exact .agg xs ys hl ih
  | tup xs ys hl _ ih => exact .tup xs ys hl ih
/-- What a call makes anew stays one's own. -/
theorem CallW_own {f : FuncId} {args args' : List AV} {r : AV} {H : Heap} (h : NewW P f args' r) (hl : LendL H args args') : CallW P f args H fun r' H' => NewV H' r' r ∧ ∀ k x, H k = some x → H' k = some x := by
  classical
  intro F w vs hh hv
  have hold : ∀ k, F k ∨ isRow H k → k < w.heap.size := by
    rintro k (hk | ⟨t, sz, cap, xs, hk⟩)
    · exact hh.old k hk
    · exact (hh.at_ k _ hk).lt
  refine (h (fun k => F k ∨ isRow H k) w vs ⟨fun b x hb => (by cases hb), fun b x hb => (by cases hb), hold⟩ (hl.sound hh hv)).mono fun e w' hr => ?_
  obtain ⟨r', H', F', v, rfl, h1, h2, h3, h4⟩ := hr
  have hkeep : ∀ k, k < w.heap.size → w'.heap[k]? = w.heap[k]? := fun k hk => h3.keep k hk rfl
  have hnew : ∀ k, H' k ≠ none → w.heap.size ≤ k := fun k hk => (h3.dom k hk).elim (fun e => absurd rfl e) id
  have hap : ∀ k, H' k ≠ none → H k = none := fun k hk => by
    cases e : H k with
    | none => rfl
    | some x =>
      have := (hh.at_ k x e).lt
      have := hnew k hk
      omega
  refine ⟨r', fun k => if H k ≠ none then H k else if scalR (H' k) then H' k else none, F, v, rfl, h4.free h1, ⟨fun b x hb => ?_, fun b x hb hf => ?_, fun k hk => Nat.lt_of_lt_of_le (hh.old k hk) h3.size⟩, ⟨h3.os, h3.tape, h3.output, h3.size, fun k hk _ => hkeep k hk, fun k hk => ?_, fun k hk => hk, fun k hk => .inl hk⟩, h4.into fun b hb => ?_, fun k x hx => ?_⟩
  · by_cases e : H b ≠ none
    · rw [if_pos e] at hb
      exact (hh.at_ b x hb).mono (hkeep b (hh.at_ b x hb).lt) (fun k hk => hk) (fun k hk => hkeep k (hh.old k hk))
    · rw [if_neg e] at hb
      by_cases e2 : scalR (H' b)
      · rw [if_pos e2] at hb
        obtain ⟨t, sz, cap, xs, e3, e4⟩ := e2
        rw [e3] at hb
        cases hb
        obtain ⟨cur, q1, q2, q3, q4, q5, q6, q7, q8⟩ := h2.at_ b _ e3
        refine ⟨cur, q1, q2, q3, q4, q5, q6, fun i j el c u g1 g2 g3 => ?_, q8⟩
        have a1 := q7 i j el c u g1 g2 g3
        have a2 := e4 el (List.mem_of_getElem? g1) c (List.mem_of_getElem? g2)
        cases a1 <;> simp only [scalD, Bool.false_eq_true] at a2
        · exact .int _ _
        · exact .bool _
        · exact .str _
      · rw [if_neg e2] at hb; cases hb
  · by_cases e : H b ≠ none
    · rw [if_pos e] at hb
      exact hh.apart b x hb hf
    · rw [if_neg e] at hb
      by_cases e2 : scalR (H' b)
      · rw [if_pos e2] at hb
        have := hnew b (by rw [hb]; simp)
        have := hh.old b hf
        omega
      · rw [if_neg e2] at hb; cases hb
  · by_cases e : H k ≠ none
    · exact .inl e
    · rw [if_neg e] at hk
      by_cases e2 : scalR (H' k)
      · rw [if_pos e2] at hk
        exact .inr (hnew k hk)
      · rw [if_neg e2] at hk; exact absurd rfl hk
  · obtain ⟨t, sz, cap, xs, e3, e4⟩ := hb
    have hne : H' b ≠ none := by rw [e3]; simp
    rw [if_neg (by rw [hap b hne]; simp), if_pos ⟨t, sz, cap, xs, e3, e4⟩]
  · show (if H k ≠ none then H k else _) = some x
    rw [if_pos (by rw [hx]; simp)]
    exact hx
variable {Q : Out → St → Prop} {k : List Item} {s : St} {d : Option Nat} {l : List AO}
theorem CallA_gift {f : FuncId} {args args' : List AV} {r : AV} {Hr Hk : Heap} (h : DataW P f args' r) (hl : LendL Hr args args') (g1 : ∀ k, Hr k = none ∨ Hr k = s.H k) (g2 : ∀ k, Hk k = none ∨ Hk k = s.H k ∧ Hr k = none) (hk : RunL P Q l k (putS s d r Hk)) : CallA P Q f args d l k s :=
  CallW_gift h g1 g2 hl hk
/-- One row alone is given away. -/
theorem CallA_gift1 {f : FuncId} {args args' : List AV} {r : AV} {b : Nat} {x : Blk} (hb : s.H b = some x) (h : DataW P f args' r) (hl : LendL (upd Heap.none b (some x)) args args') (hk : RunL P Q l k (putS s d r (upd s.H b none))) : CallA P Q f args d l k s := by
  refine CallA_gift h hl (fun k => ?_) (fun k => ?_) hk
  · rw [upd_get]
    split
    · next e => exact .inr (by rw [← e]; exact hb.symm)
    · exact .inl rfl
  · rw [upd_get, upd_get]
    split
    · exact .inl rfl
    · exact .inr ⟨rfl, rfl⟩
end
end Go.Proofs.Ytlflfciebidddaa.Abs
