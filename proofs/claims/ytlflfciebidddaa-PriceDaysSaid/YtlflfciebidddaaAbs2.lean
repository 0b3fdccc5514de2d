/- What it is for abstract values to tell of the model's values, for a heap to tell of a world; calls under a contract; one operation, a row of them, a code, carried out abstractly. No claim stands here. -/
import Derived.Test.YtlflfciebidddaaAbs1
import Derived.RangeFuncSeq
namespace Go.Proofs.Ytlflfciebidddaa.Abs
open Go Go.RowKit

/-! ### what tells of what -/
inductive RD (F : Nat → Prop) (w : World) : D → Value → Prop
  | int (k : IntKind) (n : Int) : RD F w (.int k n) (.int k n)
  | bool (b : Bool) : RD F w (.bool b) (.bool b)
  | str (s : ByteArray) : RD F w (.str s) (.string s)
  | nil (sz : Nat) (a : Option Addr) (cap : Nat) : RD F w (.sl sz []) (.slice a 0 cap)
  | sl (sz : Nat) (xs : List (List D)) (b off cap : Nat) (u : Nat → Value) (hF : F b) (hcap : xs.length ≤ cap) (hsz : ∀ el ∈ xs, el.length = sz)
      (hc : ∀ (i j : Nat) el c, xs[i]? = some el → el[j]? = some c → w.cell? ⟨b, off + (i * sz + j), none⟩ = some (u (i * sz + j)))
      (hr : ∀ (i j : Nat) el c, xs[i]? = some el → el[j]? = some c → RD F w c (u (i * sz + j))) : RD F w (.sl sz xs) (.slice (some ⟨b, off, none⟩) xs.length cap)

inductive VR (P : Program) (F : Nat → Prop) (w : World) : AV → Value → Prop
  | d (x : D) (v : Value) (h : RD F w x v) : VR P F w (.d x) v
  | agg (xs : List AV) (cs : List Value) (hl : xs.length = cs.length) (h : ∀ (j : Nat) x v, xs[j]? = some x → cs[j]? = some v → VR P F w x v)
      (h1 : ∀ v ∈ cs, v.oneCell' = true) : VR P F w (.agg xs) (.agg cs.toArray)
  | tup (xs : List AV) (cs : List Value) (hl : xs.length = cs.length) (h : ∀ (j : Nat) x v, xs[j]? = some x → cs[j]? = some v → VR P F w x v) : VR P F w (.tup xs) (.tuple cs.toArray)
  | nilp : VR P F w .nilp (.pointer none)
  | nilsl (sz : Nat) : VR P F w (.nilsl sz) (.slice none 0 0)
  | nilfn : VR P F w .nilfn .nilFunc
  | ptr (b off : Nat) : VR P F w (.ptr b off) (.pointer (some ⟨b, off, none⟩))
  | eptr (b sz i j : Nat) : VR P F w (.eptr b sz i j) (.pointer (some ⟨b, i * sz + j, none⟩))
  | dptr (el : List D) (off b o : Nat) (us : List Value) (hF : F b) (hl : el.length = us.length) (hc : ∀ (j : Nat) u, us[j]? = some u → w.cell? ⟨b, o + j, none⟩ = some u)
      (hr : ∀ (j : Nat) c u, el[j]? = some c → us[j]? = some u → RD F w c u) : VR P F w (.dptr el off) (.pointer (some ⟨b, o + off, none⟩))
  | own (b sz off len cap : Nat) (h : len ≤ cap) : VR P F w (.own b sz off len cap) (.slice (some ⟨b, off * sz, none⟩) len cap)
  | fn (f : FuncId) (xs : List AV) (cs : List Value) (hf : enters P f = true) (hl : xs.length = cs.length)
      (h : ∀ (j : Nat) x v, xs[j]? = some x → cs[j]? = some v → VR P F w x v) : VR P F w (.fn f xs) (.func (.func f) #[] cs.toArray)
  | yld (l : Nat) : VR P F w (.yld l) (.func (.yield l) #[] #[])
  | void : VR P F w .void Go.undef
  | undef (v : Value) : VR P F w .undef v

/-- Row by row. -/
def VRL (P : Program) (F : Nat → Prop) (w : World) (xs : List AV) (cs : List Value) : Prop :=
  xs.length = cs.length ∧ ∀ (j : Nat) x v, xs[j]? = some x → cs[j]? = some v → VR P F w x v

def BR (P : Program) (F : Nat → Prop) (w : World) (b : Nat) : Blk → Prop
  | .box t cells => ∃ cur : List Value, w.heap[b]? = some (.cells cur.toArray t (0, 0)) ∧ VRL P F w cells cur ∧ ∀ v ∈ cur, v.oneCell' = true
  | .row t sz cap xs => ∃ cur : List Value, w.heap[b]? = some (.cells cur.toArray t (0, 0)) ∧ cur.length = cap * sz ∧ xs.length ≤ cap ∧ cap ≤ maxLen ∧ 0 < sz ∧
      (∀ el ∈ xs, el.length = sz) ∧ (∀ (i j : Nat) el c u, xs[i]? = some el → el[j]? = some c → cur[i * sz + j]? = some u → RD F w c u) ∧ ∀ v ∈ cur, v.oneCell' = true
  | .obj o ts us => w.heap[b]? = some o ∧ VRL P F w ts us

structure HRel (P : Program) (F : Nat → Prop) (H : Heap) (w : World) : Prop where
  at_ : ∀ b x, H b = some x → BR P F w b x
  apart : ∀ b x, H b = some x → ¬ F b
  old : ∀ b, F b → b < w.heap.size

structure Step (F : Nat → Prop) (H : Heap) (w : World) (F' : Nat → Prop) (H' : Heap) (w' : World) : Prop where
  os : w'.os = w.os
  tape : w'.tape = w.tape
  output : w'.output = w.output
  size : w.heap.size ≤ w'.heap.size
  keep : ∀ k, k < w.heap.size → H k = none → w'.heap[k]? = w.heap[k]?
  dom : ∀ k, H' k ≠ none → H k ≠ none ∨ w.heap.size ≤ k
  mono : ∀ k, F k → F' k
  new : ∀ k, F' k → F k ∨ H k ≠ none ∨ w.heap.size ≤ k

/-- A call, of whatever function, comes back with a result and a heap of which K holds. -/
def CallW (P : Program) (f : FuncId) (args : List AV) (H : Heap) (K : AV → Heap → Prop) : Prop :=
  ∀ (F : Nat → Prop) (w : World) (vs : List Value), HRel P F H w → VRL P F w args vs →
    Calls P f vs.toArray w fun e w' => ∃ r H' F' v, e = .returned v ∧ VR P F' w' r v ∧ HRel P F' H' w' ∧ Step F H w F' H' w' ∧ K r H'

/-- A call of yield, of the loop whose record is block l. -/
def YldK (P : Program) (l : Nat) (args : List AV) (H : Heap) (K : AV → Heap → Prop) : Prop :=
  ∀ (F : Nat → Prop) (w : World) (vs : List Value), HRel P F H w → VRL P F w args vs →
    YieldAt Fence.wide 0 P l vs.toArray w fun e w' => ∃ r H' F' v, e = .returned v ∧ VR P F' w' r v ∧ HRel P F' H' w' ∧ Step F H w F' H' w' ∧ K r H'

/-- A row of one's own, and a nil slice, as data. -/
inductive LendV (H : Heap) : AV → AV → Prop
  | refl (v : AV) : LendV H v v
  | nilsl (sz sz' : Nat) : LendV H (.nilsl sz) (.d (.sl sz' []))
  | own (b sz cap : Nat) (t : TypeId) (cap' : Nat) (xs : List (List D)) (h : H b = some (.row t sz cap' xs)) : LendV H (.own b sz 0 xs.length cap) (.d (.sl sz xs))
  | agg (xs ys : List AV) (hl : xs.length = ys.length) (h : ∀ (j : Nat) x y, xs[j]? = some x → ys[j]? = some y → LendV H x y) : LendV H (.agg xs) (.agg ys)
  | tup (xs ys : List AV) (hl : xs.length = ys.length) (h : ∀ (j : Nat) x y, xs[j]? = some x → ys[j]? = some y → LendV H x y) : LendV H (.tup xs) (.tup ys)
def LendL (H : Heap) (xs ys : List AV) : Prop := xs.length = ys.length ∧ ∀ (j : Nat) x y, xs[j]? = some x → ys[j]? = some y → LendV H x y
/-- A function that leaves alone what there is: its result, as data. -/
def DataW (P : Program) (f : FuncId) (args : List AV) (r : AV) : Prop := CallW P f args Heap.none fun r' H' => LendV H' r' r

/-- Values that reach no memory. -/
def scalD : D → Bool
  | .sl _ _ => false
  | _ => true
def scal : AV → Bool
  | .d x => scalD x
  | _ => false
def scalL : AV → Bool
  | .tup xs => xs.all scal
  | .agg xs => xs.all scal
  | v => scal v
/-- A result that lies in new memory alone: rows of one's own, of what reaches no memory. -/
inductive NewV (H : Heap) : AV → AV → Prop
  | scal (v : AV) (h : scalL v = true) : NewV H v v
  | nilsl (sz sz' : Nat) : NewV H (.nilsl sz) (.d (.sl sz' []))
  | own (b sz cap : Nat) (t : TypeId) (cap' : Nat) (xs : List (List D)) (h : H b = some (.row t sz cap' xs)) (hs : ∀ el ∈ xs, ∀ d ∈ el, scalD d = true) : NewV H (.own b sz 0 xs.length cap) (.d (.sl sz xs))
  | agg (xs ys : List AV) (hl : xs.length = ys.length) (h : ∀ (j : Nat) x y, xs[j]? = some x → ys[j]? = some y → NewV H x y) : NewV H (.agg xs) (.agg ys)
  | tup (xs ys : List AV) (hl : xs.length = ys.length) (h : ∀ (j : Nat) x y, xs[j]? = some x → ys[j]? = some y → NewV H x y) : NewV H (.tup xs) (.tup ys)
/-- A function of data whose result lies in new memory alone. -/
def NewW (P : Program) (f : FuncId) (args : List AV) (r : AV) : Prop := CallW P f args Heap.none fun r' H' => NewV H' r' r

/-- A call that touches nothing that there is: rows of one's own are lent to it, where its result reaches no memory. -/
def PCallK (P : Program) (f : FuncId) (args : List AV) (H : Heap) (K : AV → Prop) : Prop :=
  ∃ args' r, LendL H args args' ∧ (scalL r = true ∨ LendL Heap.none args args' ∨ NewW P f args' r) ∧ DataW P f args' r ∧ K r

/-! ### one operation -/
def nth : List AV → Nat → AV
  | [], _ => .undef
  | a :: _, 0 => a
  | _ :: l, n + 1 => nth l n
def seg (l : List AV) (off n : Nat) : List AV := (l.drop off).take n
/-- Cells, with these in their place from an offset on. -/
def setSeg : List AV → Nat → List AV → List AV
  | [], _, _ => []
  | cs, 0, [] => cs
  | _ :: cs, 0, n :: ns => n :: setSeg cs 0 ns
  | c :: cs, k + 1, ns => c :: setSeg cs k ns
def setSegD : List D → Nat → List D → List D
  | [], _, _ => []
  | cs, 0, [] => cs
  | _ :: cs, 0, n :: ns => n :: setSegD cs 0 ns
  | c :: cs, k + 1, ns => c :: setSegD cs k ns
def cellsAV : AV → List AV
  | .agg xs => xs
  | v => [v]
/-- May this be laid in a cell? -/
def okCell : AV → Bool
  | .agg _ | .tup _ | .void | .undef => false
  | _ => true
def lenAV : List AV → Nat
  | [] => 0
  | _ :: l => lenAV l + 1
/-- Does a value fill so many cells? -/
def fits (size : Nat) : AV → Bool
  | .agg xs => lenAV xs == size
  | v => size == 1 && okCell v
def mapD : List D → List AV
  | [] => []
  | x :: l => .d x :: mapD l

/-! atoms: what simp doesn't look into -/
def Fork (b : Bool) (X Y : Prop) : Prop := (b = true → X) ∧ (b = false → Y)
theorem Fork_true (X Y : Prop) : Fork true X Y = X := by simp [Fork]
theorem Fork_false (X Y : Prop) : Fork false X Y = Y := by simp [Fork]
def Alloc (H : Heap) (x : Blk) (K : Nat → Heap → Prop) : Prop := ∀ b, H b = none → K b (upd H b (some x))
def Idx (xs : List (List D)) (i : Int) (K : List D → Prop) : Prop := 0 ≤ i ∧ ∃ el, xs[i.toNat]? = some el ∧ K el
def VC (p : Prop) (X : Prop) : Prop := p ∧ X
theorem VC_true (X : Prop) : VC True X = X := by simp [VC]
def CallK (P : Program) (f : FuncId) (args : List AV) (H : Heap) (K : AV → Heap → Prop) : Prop := CallW P f args H K
/-- A row that has grown lies wherever nothing else lies that is told of. -/
def Grow (H : Heap) (b : Nat) (K : Nat → Nat → Prop) : Prop := ∀ b' cap', upd H b none b' = none → K b' cap'

def binW (op : BinOp) (x y : AV) (K : AV → Prop) : Prop :=
  match x, y with
  | .d (.int k a), .d (.int k' b) =>
    match op with
    | .add => VC (k = k') (K (.d (.int k (k.wrap (a + b)))))
    | .sub => VC (k = k') (K (.d (.int k (k.wrap (a - b)))))
    | .mul => VC (k = k') (K (.d (.int k (k.wrap (a * b)))))
    | .quo => VC (k = k' ∧ b ≠ 0) (K (.d (.int k (k.wrap (a.tdiv b)))))
    | .rem => VC (k = k' ∧ b ≠ 0) (K (.d (.int k (a.tmod b))))
    | .shl => VC (0 ≤ b) (K (.d (.int k (k.wrap (a * 2 ^ (min b.toNat k.bits))))))
    | .shr => VC (0 ≤ b) (K (.d (.int k (a.fdiv (2 ^ (min b.toNat k.bits))))))
    | .and => VC (k = k') (K (.d (.int k (k.wrap (BitVec.ofInt k.bits a &&& BitVec.ofInt k.bits b).toNat))))
    | .or => VC (k = k') (K (.d (.int k (k.wrap (BitVec.ofInt k.bits a ||| BitVec.ofInt k.bits b).toNat))))
    | .xor => VC (k = k') (K (.d (.int k (k.wrap (BitVec.ofInt k.bits a ^^^ BitVec.ofInt k.bits b).toNat))))
    | .andNot => VC (k = k') (K (.d (.int k (k.wrap (BitVec.ofInt k.bits a &&& ~~~ BitVec.ofInt k.bits b).toNat))))
    | .eql => VC (k = k') (K (.d (.bool (decide (a = b)))))
    | .neq => VC (k = k') (K (.d (.bool (!decide (a = b)))))
    | .lss => VC (k = k') (K (.d (.bool (decide (a < b)))))
    | .leq => VC (k = k') (K (.d (.bool (decide (a ≤ b)))))
    | .gtr => VC (k = k') (K (.d (.bool (decide (b < a)))))
    | .geq => VC (k = k') (K (.d (.bool (decide (b ≤ a)))))
  | .d (.str a), .d (.str b) =>
    match op with
    | .eql => K (.d (.bool (a.toList == b.toList)))
    | .neq => K (.d (.bool (!(a.toList == b.toList))))
    | .lss => K (.d (.bool (Op.bytesLess a.toList b.toList)))
    | .leq => K (.d (.bool (Op.bytesLess a.toList b.toList || a.toList == b.toList)))
    | .gtr => K (.d (.bool (!(Op.bytesLess a.toList b.toList || a.toList == b.toList))))
    | .geq => K (.d (.bool (!Op.bytesLess a.toList b.toList)))
    | _ => False
  | _, _ => False

/-- A text's byte. -/
def strAt (s : ByteArray) (i : Nat) : Int := ((s.data[i]?).getD 0).toNat
/-- Whether cells are equal, one by one. -/
def eqK : Nat → AV → AV → Option Bool
  | 0, .d (.int k a), .d (.int k' b) => if k = k' then some (decide (a = b)) else none
  | 1, .d (.bool a), .d (.bool b) => some (a == b)
  | 2, .d (.str a), .d (.str b) => some (a.toList == b.toList)
  | _, _, _ => none
def eqKs : List Nat → List AV → List AV → Option Bool
  | [], [], [] => some true
  | k :: ks, a :: as, b :: bs => match eqK k a b, eqKs ks as bs with
    | some x, some y => some (x && y)
    | _, _ => none
  | _, _, _ => none

def loadW (g : Option Nat) (p : AV) (H : Heap) (K : AV → Prop) : Prop :=
  match p with
  | .ptr b off => match H b with
    | some (.box _ cells) => match g with
      | none => VC (off < lenAV cells) (K (nth cells off))
      | some n => VC (off + n ≤ lenAV cells) (K (.agg (seg cells off n)))
    | _ => False
  | .eptr b sz i j => match H b with
    | some (.row _ sz' _ xs) => VC (sz = sz') (Idx xs i fun el => match g with
      | none => VC (j < el.length) (K (nth (mapD el) j))
      | some n => VC (j + n ≤ el.length) (K (.agg (seg (mapD el) j n))))
    | _ => False
  | .dptr el off => match g with
    | none => VC (off < el.length) (K (nth (mapD el) off))
    | some n => VC (off + n ≤ el.length) (K (.agg (seg (mapD el) off n)))
  | _ => False

/-- A cell as data: a row of one's own is read-only from here on. -/
def frz (H : Heap) (v : AV) (K : D → Heap → Prop) : Prop :=
  match v with
  | .d x => K x H
  | .nilsl sz => K (.sl sz []) H
  | .own b sz off len _ => match H b with
    | some (.row _ sz' _ xs) => VC (sz = sz' ∧ off = 0 ∧ len = xs.length) (K (.sl sz xs) (upd H b none))
    | _ => False
  | _ => False
def frzL (H : Heap) : List AV → (List D → Heap → Prop) → Prop
  | [], K => K [] H
  | v :: l, K => frz H v fun x H' => frzL H' l fun xs H'' => K (x :: xs) H''

/-- Cells as data, without a row of one's own among them. -/
def toDL : List AV → Option (List D)
  | [] => some []
  | .d x :: l => match toDL l with | some ds => some (x :: ds) | none => none
  | .nilsl sz :: l => match toDL l with | some ds => some (.sl sz [] :: ds) | none => none
  | _ => none

def storeW (size : Nat) (p v : AV) (H : Heap) (K : Heap → Prop) : Prop :=
  VC (fits size v = true) <|
  match p with
  | .ptr b off => match H b with
    | some (.box t cells) => VC (off + size ≤ lenAV cells) (K (upd H b (some (.box t (setSeg cells off (cellsAV v))))))
    | _ => False
  | .eptr b sz i j => frzL H (cellsAV v) fun ds H' => match H' b with
    | some (.row t sz' cap xs) => VC (sz = sz') (Idx xs i fun el => VC (j + size ≤ el.length) (K (upd H' b (some (.row t sz cap (xs.set i (setSegD el j ds)))))))
    | _ => False
  | _ => False

/-- The boxes that these point to are as they were. -/
def keepsL (t : TM) (H H' : Heap) (l : List Nat) : Prop := ∀ d ∈ l, ∀ k off, t d = .ptr k off → ∀ e cells, H k = some (.box e cells) → H' k = some (.box e cells)
/-- None of these points into the block that is read. -/
def newsOk (t : TM) (p : AV) : List Nat → Prop
  | [] => True
  | d :: l => (match t d, p with
    | .ptr b _, .ptr k _ => ¬ b = k
    | .ptr b _, .eptr k _ _ _ => ¬ b = k
    | _, _ => True) ∧ newsOk t p l

def buildC (cells : List AV) : List (Nat × Nat × AV) → Option (List AV)
  | [] => some cells
  | (off, size, v) :: r => if fits size v = true ∧ off + size ≤ lenAV cells then buildC (setSeg cells off (cellsAV v)) r else none

def evP (t : TM) : List (Nat × Nat × Opd) → List (Nat × Nat × AV)
  | [] => []
  | (o, n, x) :: r => (o, n, ev t x) :: evP t r
def evQ (t : TM) (sz : Nat) : List (Nat × Opd) → List (Nat × Nat × AV)
  | [] => []
  | (i, x) :: r => (i * sz, sz, ev t x) :: evQ t sz r
def repeatL (z : List AV) : Nat → List AV
  | 0 => []
  | n + 1 => z ++ repeatL z n
/-- Cells cut into elements. -/
def cutL (sz : Nat) : Nat → List D → List (List D)
  | 0, _ => []
  | n + 1, l => l.take sz :: cutL sz n (l.drop sz)

/-- The elements of a slice that is read. -/
def elemsW (H : Heap) (v : AV) (K : Nat → List (List D) → Prop) : Prop :=
  match v with
  | .d (.sl sz xs) => K sz xs
  | .nilsl sz => K sz []
  | .own b sz off len _ => match H b with
    | some (.row _ sz' _ xs) => VC (sz = sz' ∧ off = 0 ∧ len = xs.length) (K sz xs)
    | _ => False
  | _ => False

def minmaxL (isMax : Bool) (k : IntKind) (n : Int) : List AV → Option Int
  | [] => some n
  | .d (.int k' m) :: r => if k = k' then minmaxL isMax k (if isMax then max n m else min n m) r else none
  | _ => none

def intOpd : Option AV → Option (Option Int)
  | none => some none
  | some (.d (.int _ n)) => some (some n)
  | _ => none

def sliceW (sz : Nat) (x : AV) (lo hi : Option (Option Int)) (K : AV → Prop) : Prop :=
  match lo, hi with
  | some lo, some hi =>
    match x with
    | .d (.sl sz' xs) => VC (sz = sz' ∧ 0 ≤ lo.getD 0 ∧ lo.getD 0 ≤ hi.getD xs.length ∧ hi.getD xs.length ≤ xs.length) (K (.d (.sl sz ((xs.take (hi.getD xs.length).toNat).drop (lo.getD 0).toNat))))
    | _ => False
  | _, _ => False

def opW (P : Program) (t : TM) (H : Heap) (K : AV → Heap → Prop) : AOp → Prop
  | .mov x => K (ev t x) H
  | .pick c a b => match ev t c with
    | .d (.bool c) => Fork c (K (ev t a) H) (K (ev t b) H)
    | _ => False
  | .alloc e z => Alloc H (.box e z) fun b H' => K (.ptr b 0) H'
  | .box e x => VC (fits (lenAV (cellsAV (ev t x))) (ev t x) = true) (Alloc H (.box e (cellsAV (ev t x))) fun b H' => K (.ptr b 0) H')
  | .load g p => loadW g (ev t p) H fun v => K v H
  | .loadD g p => match ev t p with
    | .dptr el off => loadW g (.dptr el off) H fun v => K v H
    | _ => False
  | .loadS g p news => VC (newsOk t (ev t p) news) (loadW g (ev t p) H fun v => K v H)
  | .loadP g d => match t d with
    | .ptr b off => loadW g (.ptr b off) H fun v => K v H
    | _ => False
  | .storeS n d v => match t d with
    | .ptr b off => VC (fits n (ev t v) = true) (match H b with
      | some (.box e cells) => VC (off + n ≤ lenAV cells) (K .void (upd H b (some (.box e (setSeg cells off (cellsAV (ev t v)))))))
      | _ => False)
    | _ => False
  | .bad => False
  | .store n p v => storeW n (ev t p) (ev t v) H fun H' => K .void H'
  | .bin op x y => binW op (ev t x) (ev t y) fun v => K v H
  | .binb neg x y => match ev t x, ev t y with
    | .d (.bool a), .d (.bool b) => K (.d (.bool (if neg then !(a == b) else a == b))) H
    | _, _ => False
  | .eqAgg neg ks x y => match ev t x, ev t y with
    | .agg xs, .agg ys => match eqKs ks xs ys with
      | some b => K (.d (.bool (if neg then !b else b))) H
      | none => False
    | _, _ => False
  | .un op x => match op, ev t x with
    | .not, .d (.bool b) => K (.d (.bool (!b))) H
    | .neg, .d (.int k n) => K (.d (.int k (k.wrap (0 - n)))) H
    | _, _ => False
  | .conv k x => match ev t x with
    | .d (.int _ n) => K (.d (.int k (k.wrap n))) H
    | _ => False
  | .nilCheck x => match ev t x with
    | .ptr b o => K (.ptr b o) H
    | .eptr b s i j => K (.eptr b s i j) H
    | .dptr el o => K (.dptr el o) H
    | .fn f c => K (.fn f c) H
    | _ => False
  | .mkfn f caps => K (.fn f (evL t caps)) H
  | .fieldAddr off x => match ev t x with
    | .ptr b o => K (.ptr b (o + off)) H
    | .eptr b s i j => K (.eptr b s i (j + off)) H
    | .dptr el o => K (.dptr el (o + off)) H
    | _ => False
  | .field off g x => match ev t x with
    | .agg xs => match g with
      | none => VC (off < lenAV xs) (K (nth xs off) H)
      | some n => VC (off + n ≤ lenAV xs) (K (.agg (seg xs off n)) H)
    | _ => False
  | .elemAddr sz x i => match ev t x, ev t i with
    | .d (.sl sz' xs), .d (.int _ n) => VC (sz = sz') (Idx xs n fun el => K (.dptr el 0) H)
    | .own b sz' off len _, .d (.int _ n) => VC (sz = sz' ∧ 0 ≤ n ∧ n < len) (K (.eptr b sz (off + n.toNat) 0) H)
    | _, _ => False
  | .arrAddr n sz x i => match ev t x, ev t i with
    | .ptr b o, .d (.int _ m) => VC (0 ≤ m ∧ m < n) (K (.ptr b (o + m.toNat * sz)) H)
    | _, _ => False
  | .idxArr n sz g x i => match ev t x, ev t i with
    | .agg xs, .d (.int _ m) => VC (0 ≤ m ∧ m < n ∧ n * sz = lenAV xs) (match g with
      | none => VC (sz = 1) (K (nth xs m.toNat) H)
      | some k => VC (k = sz) (K (.agg (seg xs (m.toNat * sz) sz)) H))
    | _, _ => False
  | .build z parts => match buildC z (evP t parts) with
    | some cs => K (.agg cs) H
    | none => False
  | .buildSlice e sz len z parts => match buildC (repeatL z len) (evQ t sz parts) with
    | some cs => frzL H cs fun ds H' => Alloc H' (.row e sz len (cutL sz len ds)) fun b H'' => K (.own b sz 0 len len) H''
    | none => False
  | .buildSliceD e sz len z parts => match buildC (repeatL z len) (evQ t sz parts) with
    | some cs => match toDL cs with
      | some ds => Alloc H (.row e sz len (cutL sz len ds)) fun b H'' => K (.own b sz 0 len len) H''
      | none => False
    | none => False
  | .make e sz bytes z l => match ev t l with
    | .d (.int _ n) => match toDL z with
      | some ds => VC (0 ≤ n ∧ n * bytes ≤ 281474976710656 ∧ n ≤ 9223372036854775807) (Alloc H (.row e sz n.toNat (List.replicate n.toNat ds)) fun b H' => K (.own b sz 0 n.toNat n.toNat) H')
      | none => False
    | _ => False
  | .extract x i => match ev t x with
    | .tup xs => VC (i < lenAV xs) (K (nth xs i) H)
    | _ => False
  | .slice sz x lo hi => sliceW sz (ev t x) (intOpd (evO t lo)) (intOpd (evO t hi)) fun v => K v H
  | .len x => match ev t x with
    | .d (.sl _ xs) => K (.d (.int .i64 xs.length)) H
    | .nilsl _ => K (.d (.int .i64 0)) H
    | .own _ _ _ len _ => K (.d (.int .i64 len)) H
    | _ => False
  | .idxStr x i => match ev t x, ev t i with
    | .d (.str s), .d (.int _ m) => VC (0 ≤ m ∧ m < s.size) (K (.d (.int .u8 (strAt s m.toNat))) H)
    | _, _ => False
  | .slen x => match ev t x with
    | .d (.str s) => K (.d (.int .i64 s.size)) H
    | _ => False
  | .append e sz bytes z s x => elemsW H (ev t x) fun sz' ys => (ys = [] ∧ z.length = sz ∧ match ev t s with
    | .nilsl n => K (.nilsl n) H
    | .own b n off len cap => K (.own b n off len cap) H
    | _ => False) ∨ VC (sz' = sz ∧ ys ≠ [] ∧ z.length = sz) (
    match ev t s with
    | .nilsl _ => VC (ys.length * bytes ≤ 140737488355328 ∧ ys.length ≤ maxLen) (Alloc H (.row e sz 0 []) fun b _ => ∀ cap, K (.own b sz 0 ys.length cap) (upd H b (some (.row e sz cap ys))))
    | .own b sz'' off len cap => match H b with
      | some (.row e' sz''' cap'' xs) => VC (e' = e ∧ sz'' = sz ∧ sz''' = sz ∧ off = 0 ∧ cap = cap'' ∧ len = xs.length ∧ (xs.length + ys.length) * bytes ≤ 140737488355328 ∧ xs.length + ys.length ≤ maxLen)
          (Grow H b fun b' cap' => K (.own b' sz 0 (len + ys.length) cap') (upd (upd H b none) b' (some (.row e sz cap' (xs ++ ys)))))
      | _ => False
    | _ => False)
  | .minmax isMax x xs => match ev t x with
    | .d (.int k n) => match minmaxL isMax k n (evL t xs) with
      | some m => K (.d (.int k m)) H
      | none => False
    | _ => False
  | .pcall f args => PCallK P f (evL t args) H fun r => K r H
  | .pcallv g args => match ev t g with
    | .fn f caps => PCallK P f (evL t args ++ caps) H fun r => K r H
    | _ => False
  | .call f args => CallK P f (evL t args) H K
  | .callS f args l => CallK P f (evL t args) H fun v H' => keepsL t H H' l ∧ K v H'
  | .callv g args => match ev t g with
    | .fn f caps => CallK P f (evL t args ++ caps) H K
    | .yld l => YldK P l (evL t args) H K
    | _ => False

/-! ### rows of operations, and codes -/
def putS (s : St) (dst : Option Nat) (v : AV) (H : Heap) : St :=
  match dst with
  | some d => if d < s.n then ⟨s.n, putT s.t d v, H⟩ else ⟨s.n, s.t, H⟩
  | none => ⟨s.n, s.t, H⟩

def opsW (P : Program) : List AO → St → (St → Prop) → Prop
  | [], s, K => K s
  | o :: r, s, K => match o.guard with
    | none => opW P s.t s.H (fun v H' => opsW P r (putS s o.dst v H') K) o.op
    | some (g, want) => match s.t g with
      | .d (.bool c) => Fork (c == want) (opW P s.t s.H (fun v H' => opsW P r (putS s o.dst v H') K) o.op) (opsW P r (putS s o.dst .void s.H) K)
      | .void => opsW P r (putS s o.dst .void s.H) K
      | _ => False

inductive Out where
  | normal
  | exit (id : Nat)
  | ret

/-- The marks of loops over functions that are over: blocks laid since B, without a deferred call. -/
def coll (D : Nat) : Deferred := { target := .collected D, args := #[] }
def DefOK (B : Nat) (F : Nat → Prop) (H : Heap) (ds : List Deferred) (w : World) : Prop :=
  B ≤ w.heap.size ∧ ∃ ms : List Nat, ds = ms.map coll ∧ ms.Nodup ∧ ∀ D ∈ ms, B ≤ D ∧ H D = none ∧ ¬ F D ∧ w.heap[D]? = some (.deferred (some []))
/-- The wide fence, and a round's frame within it. -/
def wideR (r : Option Nat) : Fence := { fn := fun _ => True, depth := none, alive := false, round := r }

/-- The given code does what the abstract one would: see Abs3. -/
def Rel (P : Program) (B : Nat) (F : Nat → Prop) (s : St) (a : Act) (w : World) : Prop :=
  HRel P F s.H w ∧ DefOK B F s.H a.defers w ∧ a.tmps.size = s.n ∧ ∀ t, VR P F w (s.t t) (a.tmps.getD t undef)

def OutR : Out → Exit → Prop
  | .normal, .normal => True
  | .exit i, .exit j => i = j
  | .ret, .ret => True
  | _, _ => False

def AW (P : Program) (r : Option Nat) (c : Code) (s : St) (Q : Out → St → Prop) : Prop :=
  ∀ (B : Nat) (F : Nat → Prop) (a : Act) (w : World), Rel P B F s a w →
    c.wpIn (wideR r) 0 P (fun e a' w' => ∃ o s' F', OutR o e ∧ Rel P B F' s' a' w' ∧ Step F s.H w F' s'.H w' ∧ Q o s') a w

def LoopW (P : Program) (b : ACode) (s : St) (Q : Out → St → Prop) : Prop := ∀ r c, codeC P c = some b → (r = none ∨ flatA b = true) → AW P r (.loop c) s Q
def RangeW (P : Program) (g : Opd) (ps : List Nat) (asg body : ACode) (s : St) (Q : Out → St → Prop) : Prop :=
  ∀ g' ps' a b, opdC P g' = g → ps'.toList = ps → codeC P a = some asg → codeC P b = some body → flatA asg = true → flatA body = true → AW P none (.rangeFunc g' ps' a b) s Q

def acW (P : Program) : ACode → St → (Out → St → Prop) → Prop
  | .skip, s, Q => Q .normal s
  | .ops l, s, Q => opsW P l s fun s' => Q .normal s'
  | .dops l, s, Q => opsW P l s fun s' => Q .normal s'
  | .seq a b, s, Q => acW P a s fun o s' => match o with
    | .normal => acW P b s' Q
    | o => Q o s'
  | .cond c a b, s, Q => match ev s.t c with
    | .d (.bool c) => Fork c (acW P a s Q) (acW P b s Q)
    | _ => False
  | .block id a, s, Q => acW P a s fun o s' => match o with
    | .exit i => if i = id then Q .normal s' else Q (.exit i) s'
    | o => Q o s'
  | .loop a, s, Q => LoopW P a s Q
  | .rangef g ps a b, s, Q => RangeW P g ps a b s Q
  | .exit id, s, Q => Q (.exit id) s
  | .ret, s, Q => Q .ret s

def resOne (s : St) : ARes → (AV → Prop) → Prop
  | .tmp t, K => K (s.t t)
  | .cell t g, K => loadW g (s.t t) s.H K
def resL (s : St) : List ARes → (List AV → Prop) → Prop
  | [], K => K []
  | r :: l, K => resOne s r fun v => resL s l fun vs => K (v :: vs)
def resW (s : St) (rs : List ARes) (K : AV → Prop) : Prop :=
  resL s rs fun vs => match vs with
    | [v] => K v
    | vs => K (.tup vs)
def finW (rs : List ARes) (K : AV → Heap → Prop) (o : Out) (s : St) : Prop :=
  match o with
  | .normal | .ret => resW s rs fun r => K r s.H
  | .exit _ => False

def argT : List AV → Nat → TM
  | [], _ => fun _ => .void
  | v :: l, i => putT (argT l (i + 1)) i v
end Go.Proofs.Ytlflfciebidddaa.Abs
