/- Words for contracts: numbers and truths as abstract values, how a test splits, how a contract is used at a call, how a path ends. No claim stands here. -/
import Derived.Test.YtlflfciebidddaaAbsG
import Derived.IntWalk
set_option linter.unusedVariables false
set_option linter.unusedSimpArgs false
namespace Go.Proofs.Ytlflfciebidddaa.Abs
open Go Go.RowKit

abbrev i64 (n : Int) : AV := .d (.int .i64 n)
abbrev u64 (n : Int) : AV := .d (.int .u64 n)
abbrev bv (b : Bool) : AV := .d (.bool b)
def Fit (n : Int) : Prop := -9223372036854775808 ≤ n ∧ n ≤ 9223372036854775807
instance (n : Int) : Decidable (Fit n) := by unfold Fit; exact inferInstance
theorem fit_wf {n : Int} (h : (Lit.int .i64 n).wf = true) : Fit n := by
  simp only [Lit.wf, Bool.and_eq_true, decide_eq_true_eq, IntKind.min, IntKind.max, IntKind.signed, IntKind.bits] at h
  unfold Fit
  constructor
  · have := h.1; simp at this; omega
  · have := h.2; simp at this; omega
theorem wrapI_fit {n : Int} (h : Fit n) : IntKind.i64.wrap n = n := by rw [IntKind.wrap_i64]; unfold Fit at h; omega
theorem wrapU_in {n : Int} (h : 0 ≤ n ∧ n ≤ 18446744073709551615) : IntKind.u64.wrap n = n := by rw [IntKind.wrap_u64]; omega

theorem St_n {n : Nat} {t : TM} {H : Heap} : (St.mk n t H).n = n := (rfl)
theorem St_t {n : Nat} {t : TM} {H : Heap} : (St.mk n t H).t = t := (rfl)
theorem St_H {n : Nat} {t : TM} {H : Heap} : (St.mk n t H).H = H := (rfl)
theorem AF_n {n : Nat} {r : List ARes} {b : ACode} : (AFunc.mk n r b).n = n := (rfl)
theorem AF_r {n : Nat} {r : List ARes} {b : ACode} : (AFunc.mk n r b).results = r := (rfl)
theorem AF_b {n : Nat} {r : List ARes} {b : ACode} : (AFunc.mk n r b).body = b := (rfl)
theorem Fst_mk {α β : Type} {a : α} {b : β} : (Prod.mk a b).fst = a := (rfl)
theorem Snd_mk {α β : Type} {a : α} {b : β} : (Prod.mk a b).snd = b := (rfl)
theorem keepT_cons {i : Nat} {v : AV} {l : List (Nat × AV)} {n : Nat} : keepT ((i, v) :: l) n = bif i == n then v else keepT l n := rfl
theorem keepT_nil {n : Nat} : keepT [] n = .undef := rfl
def LoadK (g : Option Nat) (x : Option Blk) (off : Nat) (K : AV → Prop) : Prop := match x with
  | some (.box _ cells) => match g with
    | none => VC (off < lenAV cells) (K (nth cells off))
    | some n => VC (off + n ≤ lenAV cells) (K (.agg (seg cells off n)))
  | _ => False
theorem loadW_ptr {g : Option Nat} {b off : Nat} {H : Heap} {K : AV → Prop} : loadW g (.ptr b off) H K = LoadK g (H b) off K := rfl
theorem LoadK_1 {t : TypeId} {cells : List AV} {off : Nat} {K : AV → Prop} : LoadK none (some (.box t cells)) off K = VC (off < lenAV cells) (K (nth cells off)) := rfl
theorem LoadK_n {n : Nat} {t : TypeId} {cells : List AV} {off : Nat} {K : AV → Prop} : LoadK (some n) (some (.box t cells)) off K = VC (off + n ≤ lenAV cells) (K (.agg (seg cells off n))) := rfl

def bandI (j : IntKind) (a b : Int) : Int := j.wrap (BitVec.ofInt j.bits a &&& BitVec.ofInt j.bits b).toNat
def borI (j : IntKind) (a b : Int) : Int := j.wrap (BitVec.ofInt j.bits a ||| BitVec.ofInt j.bits b).toNat
def bxorI (j : IntKind) (a b : Int) : Int := j.wrap (BitVec.ofInt j.bits a ^^^ BitVec.ofInt j.bits b).toNat
def LoadPA (P : Program) (Q : Out → St → Prop) (g : Option Nat) (p : AV) (d : Option Nat) (l : List AO) (k : List Item) (s : St) : Prop := match p with
  | .ptr b off => LoadA P Q g (.ptr b off) d l k s
  | _ => False
section
variable {P : Program} {Q : Out → St → Prop} {k : List Item} {s : St} {d : Option Nat} {l : List AO}
theorem Bin_andI {j : IntKind} {a b : Int} : BinA P Q .and (.d (.int j a)) (.d (.int j b)) d l k s = RunL P Q l k (putS s d (.d (.int j (bandI j a b))) s.H) := Bin_and
theorem Bin_orI {j : IntKind} {a b : Int} : BinA P Q .or (.d (.int j a)) (.d (.int j b)) d l k s = RunL P Q l k (putS s d (.d (.int j (borI j a b))) s.H) := Bin_or
theorem Bin_xorI {j : IntKind} {a b : Int} : BinA P Q .xor (.d (.int j a)) (.d (.int j b)) d l k s = RunL P Q l k (putS s d (.d (.int j (bxorI j a b))) s.H) := Bin_xor
theorem Guard_split {c w : Bool} {op : AOp} (h1 : c = true → GuardA P Q (.d (.bool c)) w d op l k s) (h2 : c = false → GuardA P Q (.d (.bool c)) w d op l k s) : GuardA P Q (.d (.bool c)) w d op l k s := by
  cases hc : c
  · exact hc ▸ h2 hc
  · exact hc ▸ h1 hc
theorem Cond_split {c : Bool} {a b : ACode} (h1 : c = true → CondA P Q (.d (.bool c)) a b k s) (h2 : c = false → CondA P Q (.d (.bool c)) a b k s) : CondA P Q (.d (.bool c)) a b k s := by
  cases hc : c
  · exact hc ▸ h2 hc
  · exact hc ▸ h1 hc
theorem Pick_split {c : Bool} {x y : AV} (h1 : c = true → PickA P Q (.d (.bool c)) x y d l k s) (h2 : c = false → PickA P Q (.d (.bool c)) x y d l k s) : PickA P Q (.d (.bool c)) x y d l k s := by
  cases hc : c
  · exact hc ▸ h2 hc
  · exact hc ▸ h1 hc
theorem VC_intro {p X : Prop} (h1 : p) (h2 : p → X) : VC p X := ⟨h1, h2 h1⟩
theorem CallA_data {f : FuncId} {args args' : List AV} {r : AV} (h : DataW P f args' r) (hl : LendL Heap.none args args') (hk : RunL P Q l k (putS s d r s.H)) : CallA P Q f args d l k s :=
  CallW_data h hl hk
theorem CallA_pure {f : FuncId} {args : List AV} {r : AV} (h : DataW P f args r) (hk : RunL P Q l k (putS s d r s.H)) : CallA P Q f args d l k s :=
  CallW_data h (LendL.refl _) hk
theorem CallA_eq {f : FuncId} {args args' : List AV} {r : AV} (h : DataW P f args' r) (e : args = args') (hk : RunL P Q l k (putS s d r s.H)) : CallA P Q f args d l k s := by
  subst e; exact CallA_pure h hk
theorem CallA_lend {f : FuncId} {args args' : List AV} {r : AV} (h : DataW P f args' r) (hl : LendL s.H args args') (hs : scalL r = true) (hk : RunL P Q l k (putS s d r s.H)) : CallA P Q f args d l k s :=
  CallW_lend h hl hs hk
theorem PCallA_pure {f : FuncId} {args : List AV} {r : AV} (h : DataW P f args r) (hk : RunL P Q l k (putS s d r s.H)) : PCallA P Q f args d l k s :=
  ⟨args, r, LendL.refl _, .inr (.inl (LendL.refl _)), h, hk⟩
theorem PCallA_new {f : FuncId} {args args' : List AV} {r : AV} (h : NewW P f args' r) (hl : LendL s.H args args') (hk : RunL P Q l k (putS s d r s.H)) : PCallA P Q f args d l k s :=
  ⟨args', r, hl, .inr (.inr h), h.data, hk⟩
theorem PCallA_lend {f : FuncId} {args args' : List AV} {r : AV} (h : DataW P f args' r) (hl : LendL s.H args args') (hs : scalL r = true) (hk : RunL P Q l k (putS s d r s.H)) : PCallA P Q f args d l k s :=
  ⟨args', r, hl, .inl hs, h, hk⟩
theorem CallA_new {f : FuncId} {args args' : List AV} {r : AV} (h : NewW P f args' r) (hl : LendL s.H args args') (hk : RunL P Q l k (putS s d r s.H)) : CallA P Q f args d l k s :=
  CallW_new h hl hk
theorem CallA_w {f : FuncId} {args : List AV} {K : AV → Heap → Prop} (h : CallW P f args s.H K) (hk : ∀ r H', K r H' → RunL P Q l k (putS s d r H')) : CallA P Q f args d l k s :=
  CallW.mono h hk
theorem upd_upd {H : Heap} {b : Nat} {x y : Option Blk} : upd (upd H b x) b y = upd H b y := by
  funext k; simp only [upd_get]; split <;> rfl
/-! rows of one's own -/
def AllocR (x : Blk) (sz len : Nat) (d : Option Nat) (l : List AO) (k : List Item) (s : St) (P : Program) (Q : Out → St → Prop) : Prop := ∀ b, s.H b = none → RunL P Q l k (putS s d (.own b sz 0 len len) (upd s.H b (some x)))
def BSliceA (c : Option (List AV)) (e : TypeId) (sz len : Nat) (d : Option Nat) (l : List AO) (k : List Item) (s : St) (P : Program) (Q : Out → St → Prop) : Prop := match c with
  | some cs => frzL s.H cs fun ds H' => AllocR (.row e sz len (cutL sz len ds)) sz len d l k ⟨s.n, s.t, H'⟩ P Q
  | none => False
theorem putS_at {s : St} {H' : Heap} {d : Option Nat} {v : AV} {H : Heap} : putS ⟨s.n, s.t, H'⟩ d v H = putS s d v H := by cases d <;> rfl
theorem RunL_buildSlice {e : TypeId} {sz len : Nat} {z : List AV} {ps : List (Nat × Opd)} : RunL P Q (⟨d, none, .buildSlice e sz len z ps⟩ :: l) k s = BSliceA (buildC (repeatL z len) (evQ s.t sz ps)) e sz len d l k s P Q := by
  rw [RunL_op]
  simp only [opW, BSliceA, AllocR, putS_at]
  cases buildC (repeatL z len) (evQ s.t sz ps) <;> rfl
theorem BSliceA_some {cs : List AV} {e : TypeId} {sz len : Nat} : BSliceA (some cs) e sz len d l k s P Q = frzL s.H cs fun ds H' => AllocR (.row e sz len (cutL sz len ds)) sz len d l k ⟨s.n, s.t, H'⟩ P Q := rfl
def BSliceD (c : Option (List AV)) (e : TypeId) (sz len : Nat) (d : Option Nat) (l : List AO) (k : List Item) (s : St) (P : Program) (Q : Out → St → Prop) : Prop := match c with
  | some cs => match toDL cs with
    | some ds => AllocR (.row e sz len (cutL sz len ds)) sz len d l k s P Q
    | none => False
  | none => False
theorem RunL_buildSliceD {e : TypeId} {sz len : Nat} {z : List AV} {ps : List (Nat × Opd)} : RunL P Q (⟨d, none, .buildSliceD e sz len z ps⟩ :: l) k s = BSliceD (buildC (repeatL z len) (evQ s.t sz ps)) e sz len d l k s P Q := by
  rw [RunL_op]
  simp only [opW, BSliceD, AllocR]
  cases buildC (repeatL z len) (evQ s.t sz ps) with
  | none => rfl
  | some cs => dsimp only; cases toDL cs <;> rfl
theorem BSliceD_some {cs : List AV} {e : TypeId} {sz len : Nat} {ds : List D} (h : toDL cs = some ds) : BSliceD (some cs) e sz len d l k s P Q = AllocR (.row e sz len (cutL sz len ds)) sz len d l k s P Q := by
  simp only [BSliceD, h]
theorem AllocR_intro {x : Blk} {sz len : Nat} (h : ∀ b, s.H b = none → RunL P Q l k (putS s d (.own b sz 0 len len) (upd s.H b (some x)))) : AllocR x sz len d l k s P Q := h
def IdxE (xs : List (List D)) (i : Nat) (g : Option Nat) (j : Nat) (d : Option Nat) (l : List AO) (k : List Item) (s : St) (P : Program) (Q : Out → St → Prop) : Prop := ∃ el, xs[i]? = some el ∧ (match g with
  | none => VC (j < el.length) (RunL P Q l k (putS s d (nth (mapD el) j) s.H))
  | some n => VC (j + n ≤ el.length) (RunL P Q l k (putS s d (.agg (seg (mapD el) j n)) s.H)))
def LoadE (g : Option Nat) (x : Option Blk) (sz i j : Nat) (d : Option Nat) (l : List AO) (k : List Item) (s : St) (P : Program) (Q : Out → St → Prop) : Prop := match x with
  | some (.row _ sz' _ xs) => VC (sz = sz') (IdxE xs i g j d l k s P Q)
  | _ => False
theorem LoadA_eptr {g : Option Nat} {b sz i j : Nat} : LoadA P Q g (.eptr b sz i j) d l k s = LoadE g (s.H b) sz i j d l k s P Q := by
  simp only [LoadA, loadW, LoadE, IdxE, Idx, VC]
  cases s.H b with
  | none => rfl
  | some x =>
    cases x with
    | box t cells => rfl
    | obj o ts us => rfl
    | row t sz' cap xs =>
      dsimp only
      refine propext (and_congr_right fun _ => ⟨fun ⟨_, el, h1, h2⟩ => ⟨el, by simpa using h1, by cases g <;> exact h2⟩, fun ⟨el, h1, h2⟩ => ⟨by omega, el, by simpa using h1, by cases g <;> exact h2⟩⟩)
theorem LoadE_row {g : Option Nat} {t : TypeId} {sz cap i j : Nat} {xs : List (List D)} : LoadE g (some (.row t sz cap xs)) sz i j d l k s P Q = IdxE xs i g j d l k s P Q := by simp [LoadE, VC]
theorem IdxE_1 {xs : List (List D)} {i j : Nat} (el : List D) (h : xs[i]? = some el) (hj : j < el.length) (hk : RunL P Q l k (putS s d (nth (mapD el) j) s.H)) : IdxE xs i none j d l k s P Q := ⟨el, h, hj, hk⟩
theorem IdxE_n {xs : List (List D)} {i j n : Nat} (el : List D) (h : xs[i]? = some el) (hj : j + n ≤ el.length) (hk : RunL P Q l k (putS s d (.agg (seg (mapD el) j n)) s.H)) : IdxE xs i (some n) j d l k s P Q := ⟨el, h, hj, hk⟩
theorem ElemA_at {xs : List (List D)} {i : Int} (el : List D) (h0 : 0 ≤ i) (h : xs[i.toNat]? = some el) (hk : RunL P Q l k (putS s d (.dptr el 0) s.H)) : ElemA P Q xs i d l k s := ⟨h0, el, h, hk⟩
def AppendA (e : TypeId) (sz bytes : Nat) (z : List AV) (v x : AV) (d : Option Nat) (l : List AO) (k : List Item) (s : St) (P : Program) (Q : Out → St → Prop) : Prop := elemsW s.H x fun sz' ys => (ys = [] ∧ z.length = sz ∧ match v with
  | .nilsl n => RunL P Q l k (putS s d (.nilsl n) s.H)
  | .own b n off len cap => RunL P Q l k (putS s d (.own b n off len cap) s.H)
  | _ => False) ∨ VC (sz' = sz ∧ ys ≠ [] ∧ z.length = sz) (
  match v with
  | .nilsl _ => VC (ys.length * bytes ≤ 140737488355328 ∧ ys.length ≤ maxLen) (∀ b, s.H b = none → ∀ cap, RunL P Q l k (putS s d (.own b sz 0 ys.length cap) (upd s.H b (some (.row e sz cap ys)))))
  | .own b sz'' off len cap => match s.H b with
    | some (.row e' sz''' cap'' xs) => VC (e' = e ∧ sz'' = sz ∧ sz''' = sz ∧ off = 0 ∧ cap = cap'' ∧ len = xs.length ∧ (xs.length + ys.length) * bytes ≤ 140737488355328 ∧ xs.length + ys.length ≤ maxLen)
        (∀ b' cap', upd s.H b none b' = none → RunL P Q l k (putS s d (.own b' sz 0 (len + ys.length) cap') (upd (upd s.H b none) b' (some (.row e sz cap' (xs ++ ys))))))
    | _ => False
  | _ => False)
theorem RunL_append {e : TypeId} {sz bytes : Nat} {z : List AV} {v x : Opd} : RunL P Q (⟨d, none, .append e sz bytes z v x⟩ :: l) k s = AppendA e sz bytes z (ev s.t v) (ev s.t x) d l k s P Q := rfl
theorem AppendA_nil1 {e t : TypeId} {sz bytes n c len capc capx : Nat} {z : List AV} {ys : List (List D)} (hx : s.H c = some (.row t sz capc ys)) (hlen : len = ys.length) (hne : ys ≠ []) (hz : z.length = sz) (hb : ys.length * bytes ≤ 140737488355328 ∧ ys.length ≤ maxLen)
    (hk : ∀ b, s.H b = none → ∀ cap, RunL P Q l k (putS s d (.own b sz 0 ys.length cap) (upd s.H b (some (.row e sz cap ys))))) : AppendA e sz bytes z (.nilsl n) (.own c sz 0 len capx) d l k s P Q := by
  simp only [AppendA, elemsW, hx]
  exact ⟨⟨trivial, trivial, hlen⟩, .inr ⟨⟨trivial, hne, hz⟩, hb, hk⟩⟩
theorem AppendA_own1 {e t : TypeId} {sz bytes b c len cap lenb capc capx : Nat} {z : List AV} {xs ys : List (List D)} (hb : s.H b = some (.row e sz cap xs)) (hx : s.H c = some (.row t sz capc ys)) (hlb : lenb = xs.length) (hlen : len = ys.length) (hne : ys ≠ []) (hz : z.length = sz) (hbd : (xs.length + ys.length) * bytes ≤ 140737488355328 ∧ xs.length + ys.length ≤ maxLen)
    (hk : ∀ b' cap', upd s.H b none b' = none → RunL P Q l k (putS s d (.own b' sz 0 (lenb + ys.length) cap') (upd (upd s.H b none) b' (some (.row e sz cap' (xs ++ ys)))))) : AppendA e sz bytes z (.own b sz 0 lenb cap) (.own c sz 0 len capx) d l k s P Q := by
  simp only [AppendA, elemsW, hx, hb]
  exact ⟨⟨trivial, trivial, hlen⟩, .inr ⟨⟨trivial, hne, hz⟩, ⟨trivial, trivial, trivial, trivial, trivial, hlb, hbd⟩, hk⟩⟩
theorem AppendA_none {e : TypeId} {sz sz' bytes b n off len cap : Nat} {z : List AV} (hz : z.length = sz) (hk : RunL P Q l k (putS s d (.own b n off len cap) s.H)) : AppendA e sz bytes z (.own b n off len cap) (.d (.sl sz' [])) d l k s P Q := by
  simp only [AppendA, elemsW]
  exact .inl ⟨trivial, hz, hk⟩
theorem AppendA_data {e : TypeId} {sz bytes b len cap lenb : Nat} {z : List AV} {xs ys : List (List D)} (hb : s.H b = some (.row e sz cap xs)) (hlb : lenb = xs.length) (hne : ys ≠ []) (hz : z.length = sz) (hbd : (xs.length + ys.length) * bytes ≤ 140737488355328 ∧ xs.length + ys.length ≤ maxLen)
    (hk : ∀ b' cap', upd s.H b none b' = none → RunL P Q l k (putS s d (.own b' sz 0 (lenb + ys.length) cap') (upd (upd s.H b none) b' (some (.row e sz cap' (xs ++ ys)))))) : AppendA e sz bytes z (.own b sz 0 lenb cap) (.d (.sl sz ys)) d l k s P Q := by
  simp only [AppendA, elemsW, hb]
  exact .inr ⟨⟨trivial, hne, hz⟩, ⟨trivial, trivial, trivial, trivial, trivial, hlb, hbd⟩, hk⟩
theorem upd_ne {H : Heap} {j b : Nat} {x : Option Blk} (h : ¬ j = b) : upd H j x b = H b := by rw [upd_get, if_neg h]
theorem upd_eq {H : Heap} {b : Nat} {x : Option Blk} : upd H b x b = x := by rw [upd_get, if_pos rfl]
theorem fresh_ne {H : Heap} {b k : Nat} {x : Blk} (hb : H k = none) (h : H b = some x) : ¬ k = b ∧ ¬ b = k := by
  refine ⟨fun e => ?_, fun e => ?_⟩
  · subst e; rw [hb] at h; cases h
  · subst e; rw [hb] at h; cases h
theorem BSliceD_intro {cs : List AV} {e : TypeId} {sz len : Nat} {ds : List D} (h : toDL cs = some ds) (hk : ∀ b, s.H b = none → RunL P Q l k (putS s d (.own b sz 0 len len) (upd s.H b (some (.row e sz len (cutL sz len ds)))))) : BSliceD (some cs) e sz len d l k s P Q := by
  rw [BSliceD_some h]; exact hk
def SliceA (sz : Nat) (x : AV) (lo hi : Option (Option Int)) (d : Option Nat) (l : List AO) (k : List Item) (s : St) (P : Program) (Q : Out → St → Prop) : Prop := sliceW sz x lo hi fun v => RunL P Q l k (putS s d v s.H)
theorem RunL_slice {sz : Nat} {x : Opd} {lo hi : Option Opd} : RunL P Q (⟨d, none, .slice sz x lo hi⟩ :: l) k s = SliceA sz (ev s.t x) (intOpd (evO s.t lo)) (intOpd (evO s.t hi)) d l k s P Q := rfl
theorem SliceA_sl {sz : Nat} {xs : List (List D)} {lo hi : Option Int} : SliceA sz (.d (.sl sz xs)) (some lo) (some hi) d l k s P Q = VC (0 ≤ lo.getD 0 ∧ lo.getD 0 ≤ hi.getD xs.length ∧ hi.getD xs.length ≤ xs.length) (RunL P Q l k (putS s d (.d (.sl sz ((xs.take (hi.getD xs.length).toNat).drop (lo.getD 0).toNat))) s.H)) := by
  simp [SliceA, sliceW, VC]
def StoreE (n : Nat) (v : AV) (b sz i j : Nat) (d : Option Nat) (l : List AO) (k : List Item) (s : St) (P : Program) (Q : Out → St → Prop) : Prop := frzL s.H (cellsAV v) fun ds H' => match H' b with
  | some (.row t sz' cap xs) => VC (sz = sz') (∃ el, xs[i]? = some el ∧ VC (j + n ≤ el.length) (RunL P Q l k (putS s d .void (upd H' b (some (.row t sz cap (xs.set i (setSegD el j ds))))))))
  | _ => False
theorem StoreA_eptr {n b sz i j : Nat} {v : AV} : StoreA P Q n (.eptr b sz i j) v d l k s = VC (fits n v = true) (StoreE n v b sz i j d l k s P Q) := by
  simp only [StoreA, storeW, StoreE, Idx, VC]
  refine propext (and_congr_right fun _ => ?_)
  refine iff_of_eq (congrArg _ ?_)
  funext ds H'
  cases H' b with
  | none => rfl
  | some x =>
    cases x with
    | box t cells => rfl
    | obj o ts us => rfl
    | row t sz' cap xs =>
      dsimp only
      refine propext (and_congr_right fun _ => ⟨fun ⟨_, el, h1, h2⟩ => ⟨el, by simpa using h1, h2⟩, fun ⟨el, h1, h2⟩ => ⟨by omega, el, by simpa using h1, h2⟩⟩)
theorem StoreE_1 {x : D} {b sz i j cap : Nat} {t : TypeId} {xs : List (List D)} {el : List D} (hb : s.H b = some (.row t sz cap xs)) (h : xs[i]? = some el) (hj : j < el.length) (hk : RunL P Q l k (putS s d .void (upd s.H b (some (.row t sz cap (xs.set i (setSegD el j [x]))))))) : StoreE 1 (.d x) b sz i j d l k s P Q := by
  simp only [StoreE, cellsAV, frzL, frz, hb]
  exact ⟨trivial, el, h, hj, hk⟩
/-- A load from a box that lies apart. -/
theorem RunL_loadP {g : Option Nat} {i : Nat} : RunL P Q (⟨d, none, .loadP g i⟩ :: l) k s = LoadPA P Q g (s.t i) d l k s := by
  rw [RunL_op]
  simp only [opW, LoadPA]
  cases s.t i <;> rfl
theorem LoadPA_ptr {g : Option Nat} {b off : Nat} : LoadPA P Q g (.ptr b off) d l k s = LoadA P Q g (.ptr b off) d l k s := rfl
/-- A call that leaves some boxes as they are. -/
def CallSA (f : FuncId) (args : List AV) (keep : List Nat) (d : Option Nat) (l : List AO) (k : List Item) (s : St) (P : Program) (Q : Out → St → Prop) : Prop := CallW P f args s.H fun v H' => keepsL s.t s.H H' keep ∧ RunL P Q l k (putS s d v H')
theorem RunL_callS {f : FuncId} {args : List Opd} {keep : List Nat} : RunL P Q (⟨d, none, .callS f args keep⟩ :: l) k s = CallSA f (evL s.t args) keep d l k s P Q := rfl
theorem CallSA_w {f : FuncId} {args : List AV} {keep : List Nat} {K : AV → Heap → Prop} (h : CallW P f args s.H K) (hk : ∀ r H', K r H' → keepsL s.t s.H H' keep ∧ RunL P Q l k (putS s d r H')) : CallSA f args keep d l k s P Q :=
  CallW.mono h hk
theorem CallSA_pure {f : FuncId} {args : List AV} {keep : List Nat} {r : AV} (h : DataW P f args r) (hk : RunL P Q l k (putS s d r s.H)) : CallSA f args keep d l k s P Q :=
  CallW_data h (LendL.refl _) ⟨fun _ _ _ _ _ _ _ h => h, hk⟩
theorem CallSA_lend {f : FuncId} {args args' : List AV} {keep : List Nat} {r : AV} (h : DataW P f args' r) (hl : LendL s.H args args') (hs : scalL r = true) (hk : RunL P Q l k (putS s d r s.H)) : CallSA f args keep d l k s P Q :=
  CallW_lend h hl hs ⟨fun _ _ _ _ _ _ _ h => h, hk⟩
theorem CallSA_new {f : FuncId} {args args' : List AV} {keep : List Nat} {r : AV} (h : NewW P f args' r) (hl : LendL s.H args args') (hk : RunL P Q l k (putS s d r s.H)) : CallSA f args keep d l k s P Q :=
  CallW_new h hl ⟨fun _ _ _ _ _ _ _ h => h, hk⟩
/-- Zeros in a row. -/
def MakeA (e : TypeId) (sz bytes : Nat) (z : List AV) (x : AV) (d : Option Nat) (l : List AO) (k : List Item) (s : St) (P : Program) (Q : Out → St → Prop) : Prop := match x with
  | .d (.int _ n) => match toDL z with
    | some ds => VC (0 ≤ n ∧ n * bytes ≤ 281474976710656 ∧ n ≤ 9223372036854775807) (AllocR (.row e sz n.toNat (List.replicate n.toNat ds)) sz n.toNat d l k s P Q)
    | none => False
  | _ => False
theorem RunL_make {e : TypeId} {sz bytes : Nat} {z : List AV} {x : Opd} : RunL P Q (⟨d, none, .make e sz bytes z x⟩ :: l) k s = MakeA e sz bytes z (ev s.t x) d l k s P Q := rfl
theorem MakeA_1 {e : TypeId} {sz bytes : Nat} {x : D} {j : IntKind} {n : Nat} (hb : (n : Int) * bytes ≤ 281474976710656) (hn : (n : Int) ≤ 9223372036854775807) (hk : ∀ b, s.H b = none → RunL P Q l k (putS s d (.own b sz 0 n n) (upd s.H b (some (.row e sz n (List.replicate n [x])))))) : MakeA e sz bytes [.d x] (.d (.int j n)) d l k s P Q := by
  simp only [MakeA, toDL, Int.toNat_natCast]
  exact ⟨⟨by omega, hb, hn⟩, hk⟩
theorem AllocA_intro {x : Blk} (h : ∀ b, s.H b = none → RunL P Q l k (putS s d (.ptr b 0) (upd s.H b (some x)))) : AllocA P Q x d l k s := h
theorem upd_none {H : Heap} {b k : Nat} {x : Blk} : upd H b (some x) k = none ↔ ¬ b = k ∧ ¬ k = b ∧ H k = none := by
  rw [upd_get]
  by_cases h : b = k
  · simp [h]
  · exact ⟨fun e => ⟨h, fun e' => h e'.symm, by simpa [h] using e⟩, fun e => by simpa [h] using e.2.2⟩
theorem Heap.none_get (k : Nat) : Heap.none k = .none := rfl
/-- A loop that writes no block: what is told of the temporaries alone changes. -/
theorem LoopA_keep {α : Type} (I : α → Prop) (tl : α → List (Nat × AV)) (μ : α → Nat) {b : ACode} (x0 : α) (h0 : I x0) (ha : AllAt s.t (tl x0))
    (round : ∀ x, I x → RunC P (LoopQ I (fun x => ⟨s.n, keepT (tl x), s.H⟩) μ x (RunO P Q k)) b [] ⟨s.n, keepT (tl x), s.H⟩) : LoopA P Q b k s :=
  LoopA_rule I (fun x => ⟨s.n, keepT (tl x), s.H⟩) μ x0 h0 (Abst_keep rfl ha fun _ => .inr rfl) round
theorem upd_same {H : Heap} {b : Nat} {x : Option Blk} (h : H b = x) : upd H b x = H := by
  funext k; simp only [upd_get]; split
  · next e => subst e; exact h.symm
  · rfl
/-- A loop that writes one block. -/
theorem LoopA_box {α : Type} (I : α → Prop) (tl : α → List (Nat × AV)) (b0 : Nat) (val : α → Blk) (μ : α → Nat) {b : ACode} (x0 : α) (h0 : I x0) (ha : AllAt s.t (tl x0)) (hb : s.H b0 = some (val x0))
    (round : ∀ x, I x → RunC P (LoopQ I (fun x => ⟨s.n, keepT (tl x), upd s.H b0 (some (val x))⟩) μ x (RunO P Q k)) b [] ⟨s.n, keepT (tl x), upd s.H b0 (some (val x))⟩) : LoopA P Q b k s :=
  LoopA_rule I (fun x => ⟨s.n, keepT (tl x), upd s.H b0 (some (val x))⟩) μ x0 h0 (Abst_keep rfl ha fun k => .inr (by rw [upd_same hb])) round
theorem LoopQ_next {α : Type} {I : α → Prop} {mk : α → St} {μ : α → Nat} {x : α} {R : Out → St → Prop} {s' : St} (y : α) (h1 : I y) (h2 : μ y < μ x) (h3 : Abst s' (mk y)) : LoopQ I mk μ x R .normal s' := ⟨y, h1, h2, h3⟩
/-- Only these blocks are told of. -/
def keepH : List (Nat × Blk) → Heap
  | [] => Heap.none
  | (b, x) :: l => upd (keepH l) b (some x)
theorem keepH_nil {k : Nat} : keepH [] k = .none := rfl
theorem keepH_cons {b k : Nat} {x : Blk} {l : List (Nat × Blk)} : keepH ((b, x) :: l) k = if k = b then some x else keepH l k := by
  simp only [keepH, upd_get]
  by_cases h : b = k
  · subst h; simp
  · have h' : ¬ k = b := fun e => h e.symm
    simp [h, h']
theorem keepH_none {b k : Nat} {x : Blk} {l : List (Nat × Blk)} : keepH ((b, x) :: l) k = none ↔ ¬ b = k ∧ ¬ k = b ∧ keepH l k = none := upd_none
theorem AllH_keep {H : Heap} {l : List (Nat × Blk)} (h : AllH H l) (k : Nat) : keepH l k = none ∨ keepH l k = H k := by
  induction l with
  | nil => exact .inl rfl
  | cons p l ih =>
    obtain ⟨b, x⟩ := p
    rw [keepH_cons]
    by_cases e : k = b
    · subst e; rw [if_pos rfl]; exact .inr h.1.symm
    · rw [if_neg e]; exact ih h.2
/-- A loop: what is told of the temporaries and of the blocks at each round's beginning. -/
theorem LoopA_k {α : Type} (I : α → Prop) (n : Nat) (tl : α → List (Nat × AV)) (hl : α → List (Nat × Blk)) (μ : α → Nat) {b : ACode} (x0 : α) (h0 : I x0) (hn : n = s.n) (ha : AllAt s.t (tl x0)) (hb : AllH s.H (hl x0))
    (round : ∀ x, I x → RunC P (LoopQ I (fun x => ⟨n, keepT (tl x), keepH (hl x)⟩) μ x (RunO P Q k)) b [] ⟨n, keepT (tl x), keepH (hl x)⟩) : LoopA P Q b k s :=
  LoopA_rule I (fun x => ⟨n, keepT (tl x), keepH (hl x)⟩) μ x0 h0 (Abst_keep hn ha (AllH_keep hb)) round
theorem LoopQ_k {α : Type} {I : α → Prop} {n : Nat} {tl : α → List (Nat × AV)} {hl : α → List (Nat × Blk)} {μ : α → Nat} {x : α} {R : Out → St → Prop} {s' : St} (y : α) (h1 : I y) (h2 : μ y < μ x) (hn : n = s'.n) (ha : AllAt s'.t (tl y)) (hb : AllH s'.H (hl y)) : LoopQ I (fun x => ⟨n, keepT (tl x), keepH (hl x)⟩) μ x R .normal s' :=
  ⟨y, h1, h2, Abst_keep hn ha (AllH_keep hb)⟩
theorem putL_nil {n : Nat} {t : TM} {x : List AV} : putL n t [] x = t := by cases x <;> rfl
theorem putL_cons {n p : Nat} {t : TM} {ps : List Nat} {v : AV} {x : List AV} : putL n t (p :: ps) (v :: x) = putL n (if p < n then putT t p v else t) ps x := rfl
/-- A range over a function: what it gives; what is told of the temporaries in a round, and of the blocks between two rounds. -/
theorem RangeA_k {α : Type} {g : Opd} {ps : List Nat} {asg body : ACode} {f : FuncId} {caps : List AV} {bl : List (Nat × Blk)} {xs : List (List AV)} (tl : List (Nat × AV)) (I : List (List AV) → α → Prop) (hl : α → List (Nat × Blk)) (y0 : α)
    (hit : IterW P f caps bl xs) (hg : ev s.t g = .fn f caps) (hs : straightA asg = true) (hx : ∀ x ∈ xs, x.length = ps.length) (ht : AllAt s.t tl) (hA : ∀ pre y, I pre y → ∀ p ∈ bl, p ∈ hl y) (h0 : I [] y0) (h1 : AllH s.H (hl y0))
    (round : ∀ pre x post y, xs = pre ++ x :: post → I pre y → RunC P (RangeQ I hl (pre ++ [x]) s.n s.t (RunO P Q k)) (.seq asg body) [] ⟨s.n, putL s.n (keepT tl) ps x, keepH (hl y)⟩)
    (done : ∀ y, I xs y → RunO P Q k .normal ⟨s.n, s.t, keepH (hl y)⟩) : RangeA P Q g ps asg body k s :=
  RangeA_rule tl I (fun y => keepH (hl y)) hl hit hg hs hx ht hA (fun _ _ h => AllH_keep h) y0 h0 h1 round done
theorem LendV_eq {H : Heap} {x y : AV} (h : x = y) : LendV H x y := h ▸ .refl x
end
end Go.Proofs.Ytlflfciebidddaa.Abs
