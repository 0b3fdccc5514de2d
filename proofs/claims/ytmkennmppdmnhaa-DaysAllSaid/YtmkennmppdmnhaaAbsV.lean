/- Rows of one's own given away at a call: from then on they are data. No claim stands here. -/
import Derived.Test.YtmkennmppdmnhaaAbsU
namespace Go.Proofs.Ytmkennmppdmnhaa.Abs
open Go Go.RowKit
section
variable {P : Program}
theorem CallW_gift {f : FuncId} {args args' : List AV} {r : AV} {H Hr Hk : Heap} {K : AV → Heap → Prop} (h : DataW P f args' r) (g1 : ∀ k, Hr k = none ∨ Hr k = H k) (g2 : ∀ k, Hk k = none ∨ Hk k = H k ∧ Hr k = none) (hl : LendL Hr args args') (hk : K r Hk) : CallW P f args H K := by
  intro F w vs hh hv
  have g1k : ∀ b x, Hr b = some x → H b = some x := fun b x hb => by
    rcases g1 b with e | e
    · rw [e] at hb; cases hb
    · rw [← e]; exact hb
  have g2k : ∀ k x, Hk k = some x → H k = some x ∧ Hr k = none := fun k x hx => by
    rcases g2 k with e | ⟨e, e'⟩
    · rw [e] at hx; cases hx
    · exact ⟨by rw [← e]; exact hx, e'⟩
  have hrel : HRel P F Hr w := ⟨fun b x hb => hh.at_ b x (g1k b x hb), fun b x hb => hh.apart b x (g1k b x hb), hh.old⟩
  have hrow : ∀ k, isRow Hr k → ∃ x, H k = some x := fun k ⟨t, sz, cap, xs, e⟩ => ⟨_, g1k k _ e⟩
  have hold : ∀ k, F k ∨ isRow Hr k → k < w.heap.size := by
    rintro k (hk | hk)
    · exact hh.old k hk
    · obtain ⟨x, hx⟩ := hrow k hk
      exact (hh.at_ k x hx).lt
  refine (h.run (F := fun k => F k ∨ isRow Hr k) hold (hl.sound hrel hv)).mono fun e w' hr => ?_
  obtain ⟨F', v, rfl, h1, h2, h3⟩ := hr
  have hkeep : ∀ k, k < w.heap.size → w'.heap[k]? = w.heap[k]? := fun k hk => h3.keep k hk rfl
  refine ⟨r, Hk, F', v, rfl, h1, ⟨fun b x hb => ?_, fun b x hb hf => ?_, h2⟩, ⟨h3.os, h3.tape, h3.output, h3.size, fun k hk _ => hkeep k hk, fun k hk => ?_, fun k hk => h3.mono k (.inl hk), fun k hk => ?_⟩, hk⟩
  · have hb' := (g2k b x hb).1
    exact (hh.at_ b x hb').mono (hkeep b (hh.at_ b x hb').lt) (fun k hk => h3.mono k (.inl hk)) (fun k hk => hkeep k (hh.old k hk))
  · obtain ⟨hb1, hb2⟩ := g2k b x hb
    rcases h3.new b hf with (e | ⟨t, sz, cap, xs, e⟩) | e | e
    · exact hh.apart b x hb1 e
    · rw [hb2] at e; cases e
    · exact e rfl
    · have := (hh.at_ b x hb1).lt
      omega
  · refine .inl fun e => ?_
    cases hx : Hk k with
    | none => exact hk hx
    | some x => rw [(g2k k x hx).1] at e; cases e
  · rcases h3.new k hk with (e | e) | e | e
    · exact .inl e
    · obtain ⟨x, hx⟩ := hrow k e
      exact .inr (.inl (by rw [hx]; simp))
    · exact absurd rfl e
    · exact .inr (.inr e)
variable {Q : Out → St → Prop} {k : List Item} {s : St} {d : Option Nat} {l : List AO}
theorem CallA_gift {f : FuncId} {args args' : List AV} {r : AV} {Hr Hk : Heap} (h : DataW P f args' r) (hl : LendL Hr args args') (g1 : ∀ k, Hr k = none ∨ Hr k = s.H k) (g2 : ∀ k, Hk k = none ∨ Hk k = s.H k ∧ Hr k = none) (hk : RunL P Q l k (putS s d r Hk)) : CallA P Q f args d l k s :=
  CallW_gift h g1 g2 hl hk
/-- One row alone is given away. -/
theorem CallA_gift1 {f : FuncId} {args args' : List AV} {r : AV} {b : Nat} {x : Blk} (hb : s.H b = some x) (h : DataW P f args' r) (hl : LendL (upd Heap.none b (some x)) args args') (hk : RunL P Q l k (putS s d r (upd s.H b none))) : CallA P Q f args d l k s := by
  refine CallA_gift h hl (fun k => ?_) (fun k => ?_) hk
  · rw [upd_get]
    split
    · next e => exact .inr (by rw [← e]; exact hb.symm)
    · exact .inl rfl
  · rw [upd_get, upd_get]
    split
    · exact .inl rfl
    · exact .inr ⟨rfl, rfl⟩
end
end Go.Proofs.Ytmkennmppdmnhaa.Abs
