/- Rows that grow, whatever they hold; blocks told of in a list. No claim stands here. -/
import Derived.Test.YtlflfciebidddaaAbsT
set_option linter.unusedVariables false
set_option linter.unusedSimpArgs false
namespace Go.Proofs.Ytlflfciebidddaa.Abs
open Go Go.RowKit
/-- A slice of one's own that has grown from nil. -/
def rowV (z sz c cap : Nat) : List (List D) → AV
  | [] => .nilsl z
  | x :: xs => .own c sz 0 (x :: xs).length cap
def rowH (t : TypeId) (sz c cap : Nat) : List (List D) → List (Nat × Blk)
  | [] => []
  | x :: xs => [(c, .row t sz cap (x :: xs))]
def keys (l : List (Nat × Blk)) : List Nat := l.map (·.1)
theorem rowV_ne {z sz c cap : Nat} {xs : List (List D)} (h : xs ≠ []) : rowV z sz c cap xs = .own c sz 0 xs.length cap := by
  cases xs with
  | nil => exact absurd rfl h
  | cons x xs => rfl
theorem rowH_ne {t : TypeId} {sz c cap : Nat} {xs : List (List D)} (h : xs ≠ []) : rowH t sz c cap xs = [(c, .row t sz cap xs)] := by
  cases xs with
  | nil => exact absurd rfl h
  | cons x xs => rfl
theorem rowV_nil {z sz c cap : Nat} : rowV z sz c cap [] = .nilsl z := rfl
theorem rowH_nil {t : TypeId} {sz c cap : Nat} : rowH t sz c cap [] = [] := rfl
theorem rowV_len {z sz c cap : Nat} {xs : List (List D)} : lenV (rowV z sz c cap xs) = some (.d (.int .i64 xs.length)) := by cases xs <;> rfl
theorem lenV_sl {sz : Nat} {xs : List (List D)} : lenV (.d (.sl sz xs)) = some (.d (.int .i64 xs.length)) := rfl
theorem lenV_nilsl {sz : Nat} : lenV (.nilsl sz) = some (.d (.int .i64 0)) := rfl
theorem lenV_own {b sz off len cap : Nat} : lenV (.own b sz off len cap) = some (.d (.int .i64 len)) := rfl
theorem rowV_nilCell {z sz c cap : Nat} {xs : List (List D)} : okCell (rowV z sz c cap xs) = true := by cases xs <;> rfl
theorem rowV_fits {z sz c cap : Nat} {xs : List (List D)} : fits 1 (rowV z sz c cap xs) = true := by cases xs <;> rfl
theorem rowV_cells {z sz c cap : Nat} {xs : List (List D)} : cellsAV (rowV z sz c cap xs) = [rowV z sz c cap xs] := by cases xs <;> rfl
theorem fits_agg (n : Nat) (xs : List AV) : fits n (.agg xs) = (lenAV xs == n) := rfl
theorem cellsAV_agg (xs : List AV) : cellsAV (.agg xs) = xs := rfl
theorem fits_d (n : Nat) (x : D) : fits n (.d x) = (n == 1) := by simp [fits, okCell]
theorem cellsAV_d (x : D) : cellsAV (.d x) = [.d x] := rfl
theorem fits_nilp (n : Nat)  : fits n .nilp = (n == 1) := by simp [fits, okCell]
theorem cellsAV_nilp  : cellsAV .nilp = [.nilp] := rfl
theorem fits_nilsl (n : Nat) (sz : Nat) : fits n (.nilsl sz) = (n == 1) := by simp [fits, okCell]
theorem cellsAV_nilsl (sz : Nat) : cellsAV (.nilsl sz) = [.nilsl sz] := rfl
theorem fits_nilfn (n : Nat)  : fits n .nilfn = (n == 1) := by simp [fits, okCell]
theorem cellsAV_nilfn  : cellsAV .nilfn = [.nilfn] := rfl
theorem fits_ptr (n : Nat) (b o : Nat) : fits n (.ptr b o) = (n == 1) := by simp [fits, okCell]
theorem cellsAV_ptr (b o : Nat) : cellsAV (.ptr b o) = [.ptr b o] := rfl
theorem fits_eptr (n : Nat) (b sz i j : Nat) : fits n (.eptr b sz i j) = (n == 1) := by simp [fits, okCell]
theorem cellsAV_eptr (b sz i j : Nat) : cellsAV (.eptr b sz i j) = [.eptr b sz i j] := rfl
theorem fits_dptr (n : Nat) (el : List D) (o : Nat) : fits n (.dptr el o) = (n == 1) := by simp [fits, okCell]
theorem cellsAV_dptr (el : List D) (o : Nat) : cellsAV (.dptr el o) = [.dptr el o] := rfl
theorem fits_own (n : Nat) (b sz off len cap : Nat) : fits n (.own b sz off len cap) = (n == 1) := by simp [fits, okCell]
theorem cellsAV_own (b sz off len cap : Nat) : cellsAV (.own b sz off len cap) = [.own b sz off len cap] := rfl
theorem fits_fn (n : Nat) (f : FuncId) (caps : List AV) : fits n (.fn f caps) = (n == 1) := by simp [fits, okCell]
theorem cellsAV_fn (f : FuncId) (caps : List AV) : cellsAV (.fn f caps) = [.fn f caps] := rfl
theorem rowV_lend {H : Heap} {t : TypeId} {z sz c cap : Nat} {xs : List (List D)} (h : AllH H (rowH t sz c cap xs)) : LendV H (rowV z sz c cap xs) (.d (.sl sz xs)) := by
  cases xs with
  | nil => exact .nilsl _ _
  | cons x xs => exact .own c sz cap t cap (x :: xs) h.1
theorem rowV_new {H : Heap} {t : TypeId} {z sz c cap : Nat} {xs : List (List D)} (h : AllH H (rowH t sz c cap xs)) (hs : ∀ el ∈ xs, ∀ d ∈ el, scalD d = true) : NewV H (rowV z sz c cap xs) (.d (.sl sz xs)) := by
  cases xs with
  | nil => exact .nilsl _ _
  | cons x xs => exact .own c sz cap t cap (x :: xs) h.1 hs
theorem AllH_app {H : Heap} {xs ys : List (Nat × Blk)} : AllH H (xs ++ ys) ↔ AllH H xs ∧ AllH H ys := by
  induction xs with
  | nil => simp [AllH]
  | cons p xs ih => obtain ⟨b, x⟩ := p; simp only [List.cons_append, AllH, ih, and_assoc]
theorem AllH_sub {H : Heap} {xs ys : List (Nat × Blk)} (h : AllH H xs) (hs : ∀ p ∈ ys, p ∈ xs) : AllH H ys := AllH_iff.2 fun p hp => AllH_iff.1 h p (hs p hp)
theorem keepH_all : ∀ {l : List (Nat × Blk)}, (keys l).Nodup → AllH (keepH l) l
  | [], _ => trivial
  | (b, x) :: l, h => by
    simp only [keys, List.map_cons, List.nodup_cons] at h
    refine ⟨by rw [keepH_cons, if_pos rfl], ?_⟩
    refine AllH_iff.2 fun p hp => ?_
    rw [keepH_cons, if_neg (fun e => h.1 (by rw [← e]; exact List.mem_map_of_mem hp))]
    exact AllH_iff.1 (keepH_all (l := l) h.2) p hp
/-- A block that is new. -/
theorem alloc_all {H : Heap} {b : Nat} {x : Blk} {l : List (Nat × Blk)} (hb : H b = none) (h : AllH H l) : AllH (upd H b (some x)) ((b, x) :: l) := ⟨upd_eq, AllH_upd hb h⟩
theorem abst_upd {H : Heap} {b : Nat} {x : Option Blk} (hb : H b = none) (k : Nat) : H k = none ∨ H k = upd H b x k := by
  rw [upd_get]
  split
  · next e => subst e; exact .inl hb
  · exact .inr rfl
theorem fresh_keys {H : Heap} {b : Nat} {l : List (Nat × Blk)} (hb : H b = none) (h : AllH H l) : b ∉ keys l := fun hm => by
  obtain ⟨p, hp, e⟩ := List.mem_map.1 hm
  have := AllH_iff.1 h p hp
  rw [e, hb] at this; cases this
theorem alloc_keys {H : Heap} {b : Nat} {x : Blk} {l : List (Nat × Blk)} (hb : H b = none) (h : AllH H l) (hn : (keys l).Nodup) : (keys ((b, x) :: l)).Nodup := by
  simp only [keys, List.map_cons, List.nodup_cons]
  exact ⟨fresh_keys hb h, hn⟩
theorem upd_all {H : Heap} {b : Nat} {x x' : Blk} {l : List (Nat × Blk)} (h : AllH H ((b, x) :: l)) (hn : (keys ((b, x) :: l)).Nodup) : AllH (upd H b (some x')) ((b, x') :: l) := by
  simp only [keys, List.map_cons, List.nodup_cons] at hn
  refine ⟨upd_eq, AllH_iff.2 fun p hp => ?_⟩
  rw [upd_ne (fun e => hn.1 (by rw [e]; exact List.mem_map_of_mem hp))]
  exact AllH_iff.1 h.2 p hp
theorem drop_all {H : Heap} {b : Nat} {y : Option Blk} {l : List (Nat × Blk)} (h : AllH H l) (hn : b ∉ keys l) : AllH (upd H b y) l :=
  AllH_iff.2 fun p hp => by
    rw [upd_ne (fun e => hn (by rw [e]; exact List.mem_map_of_mem hp))]
    exact AllH_iff.1 h p hp
section
variable {P : Program} {Q : Out → St → Prop} {k : List Item} {s : St} {d : Option Nat} {l : List AO}
/-- One element more. -/
theorem AppendA_grow {e t : TypeId} {sz bytes z0 c cap bs capc capx : Nat} {z : List AV} {xs : List (List D)} {y : List D} (rest : List (Nat × Blk)) (hz : z.length = sz) (hall : AllH s.H (rowH e sz c cap xs ++ rest)) (hnd : (keys (rowH e sz c cap xs ++ rest)).Nodup)
    (hbs : s.H bs = some (.row t sz capc [y])) (hb : (xs.length + 1) * bytes ≤ 140737488355328) (hb2 : xs.length + 1 ≤ 9223372036854775807)
    (hk : ∀ H' c' cap', AllH H' (rowH e sz c' cap' (xs ++ [y]) ++ rest) → (keys (rowH e sz c' cap' (xs ++ [y]) ++ rest)).Nodup → RunL P Q l k (putS s d (.own c' sz 0 (xs.length + 1) cap') H')) :
    AppendA e sz bytes z (rowV z0 sz c cap xs) (.own bs sz 0 1 capx) d l k s P Q := by
  by_cases h0 : xs = []
  · subst h0
    refine AppendA_nil1 (ys := [y]) (t := t) (capc := capc) hbs rfl (by simp) hz ⟨by simpa using hb, by simp [maxLen]⟩ (fun b hb' cap' => ?_)
    have hr : AllH s.H rest := hall
    exact hk (upd s.H b (some (.row e sz cap' [y]))) b cap' (alloc_all hb' hr) (alloc_keys hb' hr hnd)
  · rw [rowV_ne h0]
    rw [rowH_ne h0] at hall hnd
    refine AppendA_own1 (xs := xs) (ys := [y]) (t := t) (capc := capc) hall.1 hbs rfl rfl (by simp) hz ⟨hb, hb2⟩ (fun b' cap' hb' => ?_)
    simp only [List.cons_append, List.nil_append, keys, List.map_cons, List.nodup_cons] at hnd
    have hr : AllH (upd s.H c none) rest := drop_all hall.2 hnd.1
    have hne : xs ++ [y] ≠ [] := by simp
    exact hk (upd (upd s.H c none) b' (some (.row e sz cap' (xs ++ [y])))) b' cap' (by rw [rowH_ne hne]; exact alloc_all hb' hr) (by rw [rowH_ne hne]; exact alloc_keys hb' hr hnd.2)
theorem map_split {α β : Type} {f : α → β} {l : List α} {pre post : List β} {x : β} (h : l.map f = pre ++ x :: post) : ∃ hl : pre.length < l.length, x = f l[pre.length] ∧ pre = (l.take pre.length).map f := by
  have hlen := congrArg List.length h
  simp only [List.length_map, List.length_append, List.length_cons] at hlen
  have hl : pre.length < l.length := by omega
  refine ⟨hl, ?_, ?_⟩
  · have := congrArg (fun m => m[pre.length]?) h
    simp only [List.getElem?_map, List.getElem?_eq_getElem hl, Option.map_some, List.getElem?_append_right (Nat.le_refl _), Nat.sub_self, List.getElem?_cons_zero, Option.some.injEq] at this
    exact this.symm
  · have := congrArg (List.take pre.length) h
    rw [← List.map_take, List.take_left' rfl] at this
    exact this.symm
end
end Go.Proofs.Ytlflfciebidddaa.Abs
