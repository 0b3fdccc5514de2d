/- The abstract machine's words hold of the model: what tells of a world goes on telling of it. No claim stands here. -/
import Derived.Test.YtlflfciebidddaaAbs3
import Derived.Laws.Append
import Derived.Laws.CopyRow
import Derived.Laws.Rows
import Derived.Laws.Cells
import Derived.Laws.Entries
namespace Go.Proofs.Ytlflfciebidddaa.Abs
open Go Go.RowKit

theorem cell_of_heap {w w' : World} {b : Nat} (h : w'.heap[b]? = w.heap[b]?) (o : Nat) : w'.cell? ⟨b, o, none⟩ = w.cell? ⟨b, o, none⟩ := by
  simp only [World.cell?, h]

theorem RD.mono {F F' : Nat → Prop} {w w' : World} {x : D} {v : Value} (h : RD F w x v) (hF : ∀ k, F k → F' k) (hw : ∀ k, F k → w'.heap[k]? = w.heap[k]?) : RD F' w' x v := by
  induction h with
  | int k n => exact .int k n
  | bool b => exact .bool b
  | str s => exact .str s
  | nil sz a cap => exact .nil sz a cap
  | sl sz xs b off cap u hb hcap hsz hc _ ih =>
    exact .sl sz xs b off cap u (hF _ hb) hcap hsz (fun i j el c h1 h2 => by rw [cell_of_heap (hw b hb)]; exact hc i j el c h1 h2) ih

theorem VR.mono {P : Program} {F F' : Nat → Prop} {w w' : World} {x : AV} {v : Value} (h : VR P F w x v) (hF : ∀ k, F k → F' k) (hw : ∀ k, F k → w'.heap[k]? = w.heap[k]?) : VR P F' w' x v := by
  induction h with
  | d x v h => exact .d x v (h.mono hF hw)
  | agg xs cs hl _ h1 ih => exact .agg xs cs hl ih h1
  | tup xs cs hl _ ih => exact .tup xs cs hl ih
  | nilp => exact .nilp
  | nilsl sz => exact .nilsl sz
  | nilfn => exact .nilfn
  | ptr b off => exact .ptr b off
  | eptr b sz i j => exact .eptr b sz i j
  | dptr el off b o us hb hl hc hr =>
    exact .dptr el off b o us (hF _ hb) hl (fun j u h => by rw [cell_of_heap (hw b hb)]; exact hc j u h) (fun j c u h1 h2 => (hr j c u h1 h2).mono hF hw)
  | own b sz off len cap h => exact .own b sz off len cap h
  | fn f xs cs hf hl _ ih => exact .fn f xs cs hf hl ih
  | yld l => exact .yld l
  | void => exact .void
  | undef v => exact .undef v

theorem VRL.mono {P : Program} {F F' : Nat → Prop} {w w' : World} {xs : List AV} {vs : List Value} (h : VRL P F w xs vs) (hF : ∀ k, F k → F' k) (hw : ∀ k, F k → w'.heap[k]? = w.heap[k]?) : VRL P F' w' xs vs :=
  ⟨h.1, fun j x v h1 h2 => (h.2 j x v h1 h2).mono hF hw⟩

theorem BR.mono {P : Program} {F F' : Nat → Prop} {w w' : World} {b : Nat} {x : Blk} (h : BR P F w b x) (hb : w'.heap[b]? = w.heap[b]?) (hF : ∀ k, F k → F' k) (hw : ∀ k, F k → w'.heap[k]? = w.heap[k]?) : BR P F' w' b x := by
  cases x with
  | box t cells =>
    obtain ⟨cur, h1, h2, h3⟩ := h
    exact ⟨cur, hb.trans h1, h2.mono hF hw, h3⟩
  | row t sz cap xs =>
    obtain ⟨cur, h1, h2, h3, h4, h5, h6, h7, h8⟩ := h
    exact ⟨cur, hb.trans h1, h2, h3, h4, h5, h6, fun i j el c u e1 e2 e3 => (h7 i j el c u e1 e2 e3).mono hF hw, h8⟩
  | obj o ts us => exact ⟨hb.trans h.1, h.2.mono hF hw⟩

theorem BR.lt {P : Program} {F : Nat → Prop} {w : World} {b : Nat} {x : Blk} (h : BR P F w b x) : b < w.heap.size := by
  cases x with
  | box t cells => obtain ⟨cur, h1, _⟩ := h; exact (Array.getElem?_eq_some_iff.1 h1).1
  | row t sz cap xs => obtain ⟨cur, h1, _⟩ := h; exact (Array.getElem?_eq_some_iff.1 h1).1
  | obj o ts us => exact (Array.getElem?_eq_some_iff.1 h.1).1

section
variable {P : Program} {F : Nat → Prop} {H : Heap} {w : World}
theorem HRel.fresh (h : HRel P F H w) {b : Nat} (hb : w.heap.size ≤ b) : H b = none := by
  cases e : H b with
  | none => rfl
  | some x => have := (h.at_ b x e).lt; omega
theorem HRel.out (h : HRel P F H w) {k : Nat} (hk : F k) : H k = none := by
  cases e : H k with
  | none => rfl
  | some x => exact absurd hk (h.apart k x e)

theorem Step.refl (F : Nat → Prop) (H : Heap) (w : World) : Step F H w F H w :=
  ⟨rfl, rfl, rfl, Nat.le_refl _, fun _ _ _ => rfl, fun _ h => .inl h, fun _ h => h, fun _ h => .inl h⟩

theorem Step.keepF {F' : Nat → Prop} {H' : Heap} {w' : World} (h : HRel P F H w) (st : Step F H w F' H' w') : ∀ k, F k → w'.heap[k]? = w.heap[k]? :=
  fun k hk => st.keep k (h.old k hk) (h.out hk)

theorem Step.VR {F' : Nat → Prop} {H' : Heap} {w' : World} (st : Step F H w F' H' w') (h : HRel P F H w) {x : AV} {v : Value} (hv : VR P F w x v) : VR P F' w' x v :=
  hv.mono st.mono (Step.keepF h st)

theorem Step.trans {F1 F2 : Nat → Prop} {H1 H2 : Heap} {w1 w2 : World} (a : Step F H w F1 H1 w1) (b : Step F1 H1 w1 F2 H2 w2) : Step F H w F2 H2 w2 where
  os := b.os.trans a.os
  tape := b.tape.trans a.tape
  output := b.output.trans a.output
  size := Nat.le_trans a.size b.size
  keep := fun k hk hn => by
    have h1 : H1 k = none := by
      cases e : H1 k with
      | none => rfl
      | some x => rcases a.dom k (by simp [e]) with h | h
                  · exact absurd hn h
                  · omega
    rw [b.keep k (Nat.lt_of_lt_of_le hk a.size) h1, a.keep k hk hn]
  dom := fun k hk => by
    rcases b.dom k hk with h | h
    · exact a.dom k h
    · exact .inr (Nat.le_trans a.size h)
  mono := fun k hk => b.mono k (a.mono k hk)
  new := fun k hk => by
    rcases b.new k hk with h | h | h
    · exact a.new k h
    · rcases a.dom k h with h | h
      · exact .inr (.inl h)
      · exact .inr (.inr h)
    · exact .inr (.inr (Nat.le_trans a.size h))

/-- A new block. -/
theorem HRel.alloc (h : HRel P F H w) (o : Obj) (x : Blk) (hx : BR P F (w.alloc o) w.heap.size x) : HRel P F (upd H w.heap.size (some x)) (w.alloc o) where
  at_ := fun b y hb => by
    rw [upd_get] at hb
    split at hb
    · next e => cases hb; subst e; exact hx
    · exact (h.at_ b y hb).mono (Below.heap_alloc w o b (h.at_ b y hb).lt) (fun _ hk => hk) (fun k hk => Below.heap_alloc w o k (h.old k hk))
  apart := fun b y hb => by
    rw [upd_get] at hb
    split at hb
    · next e => subst e; exact fun hf => by have := h.old _ hf; omega
    · exact h.apart b y hb
  old := fun b hb => by have := h.old b hb; simp; omega
theorem Step.alloc (o : Obj) (x : Blk) : Step F H w F (upd H w.heap.size (some x)) (w.alloc o) where
  os := rfl
  tape := rfl
  output := rfl
  size := by simp
  keep := fun k hk _ => Below.heap_alloc w o k hk
  dom := fun k hk => by
    rw [upd_get] at hk
    split at hk
    · next e => exact .inr (by omega)
    · exact .inl hk
  mono := fun _ h => h
  new := fun _ h => .inl h

/-- A block of one's own, turned. -/
theorem HRel.turn (h : HRel P F H w) {w' : World} {b : Nat} {x0 x : Blk} (h0 : H b = some x0) (hk : ∀ k, k ≠ b → w'.heap[k]? = w.heap[k]?) (hs : w'.heap.size = w.heap.size) (hx : BR P F w' b x) : HRel P F (upd H b (some x)) w' where
  at_ := fun k y hy => by
    rw [upd_get] at hy
    split at hy
    · next e => cases hy; subst e; exact hx
    · next e => exact (h.at_ k y hy).mono (hk k (fun e2 => e e2.symm)) (fun _ hk => hk) (fun j hj => hk j (fun e2 => by subst e2; exact h.apart _ _ h0 hj))
  apart := fun k y hy => by
    rw [upd_get] at hy
    split at hy
    · next e => subst e; exact h.apart _ _ h0
    · exact h.apart k y hy
  old := fun k hk => by rw [hs]; exact h.old k hk
theorem Step.turn {w' : World} {b : Nat} {x0 x : Blk} (h0 : H b = some x0) (hk : ∀ k, k ≠ b → w'.heap[k]? = w.heap[k]?) (hs : w'.heap.size = w.heap.size) (h1 : w'.os = w.os) (h2 : w'.tape = w.tape) (h3 : w'.output = w.output) : Step F H w F (upd H b (some x)) w' where
  os := h1
  tape := h2
  output := h3
  size := by omega
  keep := fun k _ hn => hk k (fun e => by subst e; simp [h0] at hn)
  dom := fun k hk => by
    rw [upd_get] at hk
    split at hk
    · next e => subst e; exact .inl (by simp [h0])
    · exact .inl hk
  mono := fun _ h => h
  new := fun _ h => .inl h

/-- A row that is read-only from here on. -/
theorem HRel.freeze (h : HRel P F H w) {b : Nat} {x : Blk} (h0 : H b = some x) : HRel P (fun k => F k ∨ k = b) (upd H b none) w where
  at_ := fun k y hy => by
    rw [upd_get] at hy
    split at hy
    · cases hy
    · exact (h.at_ k y hy).mono rfl (fun _ h => .inl h) (fun _ _ => rfl)
  apart := fun k y hy => by
    rw [upd_get] at hy
    split at hy
    · cases hy
    · next e => rintro (hf | rfl)
                · exact h.apart k y hy hf
                · exact e rfl
  old := fun k hk => by
    rcases hk with hk | rfl
    · exact h.old k hk
    · exact (h.at_ _ _ h0).lt
theorem Step.freeze {b : Nat} {x : Blk} (h0 : H b = some x) : Step F H w (fun k => F k ∨ k = b) (upd H b none) w where
  os := rfl
  tape := rfl
  output := rfl
  size := Nat.le_refl _
  keep := fun _ _ _ => rfl
  dom := fun k hk => by
    rw [upd_get] at hk
    split at hk
    · exact absurd rfl hk
    · exact .inl hk
  mono := fun _ h => .inl h
  new := fun k hk => by
    rcases hk with hk | rfl
    · exact .inl hk
    · exact .inr (.inl (by simp [h0]))
/-- A row's contents, read where it is read-only. -/
theorem BR.read {b sz cap : Nat} {t : TypeId} {xs : List (List D)} (h : BR P F w b (.row t sz cap xs)) {F' : Nat → Prop} (hF : ∀ k, F k → F' k) (hb : F' b) (c : Nat) (hcl : xs.length ≤ c) : RD F' w (.sl sz xs) (.slice (some ⟨b, 0, none⟩) xs.length c) := by
  obtain ⟨cur, h1, h2, h3, h4, h5, h6, h7, h8⟩ := h
  have hlt : ∀ (i j : Nat) el c, xs[i]? = some el → el[j]? = some c → i * sz + j < cur.length := fun i j el c e1 e2 => by
    have hi : i < xs.length := (List.getElem?_eq_some_iff.1 e1).1
    have hj : j < el.length := (List.getElem?_eq_some_iff.1 e2).1
    rw [h6 el (List.mem_of_getElem? e1)] at hj
    have : (i + 1) * sz ≤ cap * sz := Nat.mul_le_mul_right _ (by omega)
    rw [Nat.add_mul, Nat.one_mul] at this
    omega
  refine .sl sz xs b 0 c (fun k => cur.getD k default) hb hcl h6 (fun i j el c e1 e2 => ?_) (fun i j el c e1 e2 => ?_)
  · have := hlt i j el c e1 e2
    simp [World.cell?, h1, List.getElem?_eq_getElem this, List.getD]
  · have := hlt i j el c e1 e2
    refine (h7 i j el c _ e1 e2 ?_).mono hF (fun _ _ => rfl)
    simp [List.getElem?_eq_getElem this, List.getD]
end
end Go.Proofs.Ytlflfciebidddaa.Abs
