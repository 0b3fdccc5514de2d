/- Words of an abstract machine over the given model: data, abstract values, a small code, its translation out of the model's code, and what it is to carry that code out. No claim stands here. -/
import Derived.Below
import Derived.WalkKit
import Derived.KernelRfl
namespace Go.Proofs.Ytlflfciebidddaa.Abs
open Go Go.RowKit

/-- Data that is only read: a slice is its elements, each the list of its cells. -/
inductive D where
  | int (k : IntKind) (n : Int)
  | bool (b : Bool)
  | str (s : ByteArray)
  | sl (sz : Nat) (xs : List (List D))
  deriving Inhabited

/-- What a temporary, or a cell, holds. -/
inductive AV where
  | d (x : D)
  | agg (xs : List AV)
  | tup (xs : List AV)
  | nilp
  | nilsl (sz : Nat)
  | nilfn
  | ptr (b off : Nat)
  | eptr (b sz i j : Nat)
  | dptr (el : List D) (off : Nat)
  | own (b sz off len cap : Nat)
  | fn (f : FuncId) (caps : List AV)
  | yld (l : Nat)
  | void
  | undef
  deriving Inhabited

inductive Blk where
  | box (t : TypeId) (cells : List AV)
  | row (t : TypeId) (sz cap : Nat) (xs : List (List D))
  | obj (o : Obj) (ts : List AV) (us : List Value)

abbrev Heap := Nat → Option Blk
def upd (H : Heap) (b : Nat) (x : Option Blk) : Heap := fun k => if b = k then x else H k
theorem upd_get (H : Heap) (b : Nat) (x : Option Blk) (k : Nat) : upd H b x k = if b = k then x else H k := rfl
def Heap.none : Heap := fun _ => .none

abbrev TM := Nat → AV
def putT (t : TM) (m : Nat) (v : AV) : TM := fun n => bif m == n then v else t n
theorem putT_get (t : TM) (m : Nat) (v : AV) (n : Nat) : putT t m v n = bif m == n then v else t n := rfl

structure St where
  n : Nat
  t : TM
  H : Heap

inductive Opd where
  | t (n : Nat)
  | c (v : AV)

def ev (t : TM) : Opd → AV
  | .t n => t n
  | .c v => v
def evL (t : TM) : List Opd → List AV
  | [] => []
  | x :: xs => ev t x :: evL t xs
def evO (t : TM) : Option Opd → Option AV
  | none => none
  | some x => some (ev t x)

inductive AOp where
  | mov (x : Opd)
  | pick (c a b : Opd)
  | alloc (t : TypeId) (zero : List AV)
  | box (t : TypeId) (x : Opd)
  | load (agg : Option Nat) (p : Opd)
  | loadS (agg : Option Nat) (p : Opd) (news : List Nat)
  | loadD (g : Option Nat) (p : Opd)
  | loadP (g : Option Nat) (d : Nat)
  | store (size : Nat) (p v : Opd)
  | storeS (size : Nat) (d : Nat) (v : Opd)
  | bad
  | bin (op : BinOp) (x y : Opd)
  | binb (neg : Bool) (x y : Opd)
  | eqAgg (neg : Bool) (ks : List Nat) (x y : Opd)
  | un (op : UnOp) (x : Opd)
  | conv (k : IntKind) (x : Opd)
  | nilCheck (x : Opd)
  | mkfn (f : FuncId) (caps : List Opd)
  | fieldAddr (off : Nat) (x : Opd)
  | field (off : Nat) (agg : Option Nat) (x : Opd)
  | elemAddr (sz : Nat) (x i : Opd)
  | arrAddr (n sz : Nat) (x i : Opd)
  | idxArr (n sz : Nat) (agg : Option Nat) (x i : Opd)
  | build (zero : List AV) (parts : List (Nat × Nat × Opd))
  | buildSlice (t : TypeId) (sz len : Nat) (zero : List AV) (parts : List (Nat × Opd))
  | buildSliceD (t : TypeId) (sz len : Nat) (zero : List AV) (parts : List (Nat × Opd))
  | make (t : TypeId) (sz bytes : Nat) (zero : List AV) (l : Opd)
  | extract (x : Opd) (i : Nat)
  | slice (sz : Nat) (x : Opd) (lo hi : Option Opd)
  | len (x : Opd)
  | slen (x : Opd)
  | idxStr (x i : Opd)
  | append (t : TypeId) (sz bytes : Nat) (zero : List AV) (s x : Opd)
  | minmax (isMax : Bool) (x : Opd) (xs : List Opd)
  | call (f : FuncId) (args : List Opd)
  | callv (g : Opd) (args : List Opd)
  | callS (f : FuncId) (args : List Opd) (keep : List Nat)
  | pcall (f : FuncId) (args : List Opd)
  | pcallv (g : Opd) (args : List Opd)

structure AO where
  dst : Option Nat
  guard : Option (Nat × Bool)
  op : AOp

inductive ACode where
  | skip
  | ops (l : List AO)
  | dops (l : List AO)
  | seq (a b : ACode)
  | cond (c : Opd) (a b : ACode)
  | block (id : Nat) (a : ACode)
  | loop (a : ACode)
  | rangef (g : Opd) (ps : List Nat) (asg body : ACode)
  | exit (id : Nat)
  | ret

/-- No range over a function stands in it. -/
def flatA : ACode → Bool
  | .seq a b | .cond _ a b => flatA a && flatA b
  | .block _ a | .loop a => flatA a
  | .rangef .. => false
  | _ => true

inductive ARes where
  | tmp (t : Nat)
  | cell (t : Nat) (agg : Option Nat)

structure AFunc where
  n : Nat
  results : List ARes
  body : ACode

/-! ### the translation -/

def ofCell : Value → AV
  | .int k n => .d (.int k n)
  | .bool b => .d (.bool b)
  | .string s => .d (.str s)
  | .pointer none => .nilp
  | .nilFunc => .nilfn
  | _ => .undef

/-- Zero cells of a type: a nil slice bears the size of its elements. -/
def zeroOf (P : Program) : Nat → TypeId → Option (List AV)
  | 0, _ => none
  | d + 1, t =>
    match P.underlying t with
    | some (.int k) => some [.d (.int k 0)]
    | some .bool => some [.d (.bool false)]
    | some .string => some [.d (.str ByteArray.empty)]
    | some (.pointer _) => some [.nilp]
    | some (.slice e) => some [.nilsl (P.cellsOf e)]
    | some (.func ..) => some [.nilfn]
    | some (.struct fs) => fs.toList.foldr (fun f acc => match zeroOf P d f.type, acc with | some a, some b => some (a ++ b) | _, _ => none) (some [])
    | some (.array n e) => match zeroOf P d e with | some a => some (List.flatten (List.replicate n a)) | none => none
    | _ => none

/-- Does this value read as these zero cells? -/
def cellIs : AV → Value → Bool
  | .d (.int k n), .int k' n' => k == k' && n == n'
  | .d (.bool b), .bool b' => b == b'
  | .d (.str s), .string s' => decide (s = s')
  | .nilp, .pointer none => true
  | .nilsl _, .slice none 0 0 => true
  | .nilfn, .nilFunc => true
  | _, _ => false
def cellsAre : List AV → List Value → Bool
  | [], [] => true
  | a :: as, v :: vs => cellIs a v && cellsAre as vs
  | _, _ => false

/-- The zero cells of a type, held against the program's own. -/
def zeroC (P : Program) (t : TypeId) : Option (List AV) :=
  match P.info? t, zeroOf P 12 t with
  | some i, some z => match i.zero with
    | some v => if cellsAre z v.cells.toList && z.length == i.size then some z else none
    | none => none
  | _, _ => none

def aggOf (P : Program) (t : TypeId) : Option (Option Nat) :=
  match P.underlying t, P.info? t with
  | some (.struct _), some i | some (.array ..), some i => some (some i.size)
  | some _, some _ => some none
  | _, _ => none

def enters (P : Program) (f : FuncId) : Bool :=
  match P.funcs[f]? with
  | some fn => fn.body.isSome && fn.name != "runtime.NumGoroutine"
  | none => false

def constC : Value → AV
  | .slice none 0 0 => .nilsl 0
  | .agg cs => if cs.toList.all (·.oneCell') then .agg (cs.toList.map ofCell) else .undef
  | v => ofCell v

def opdC (P : Program) : Operand → Opd
  | .tmp t => .t t
  | .const v => .c (constC v)
  | .global _ => .c .undef
  | .func f => .c (if enters P f then .fn f [] else .undef)

/-- Is this a type whose values are held against each other cell by cell? -/
def eqCells (P : Program) : Nat → TypeId → Bool
  | 0, _ => false
  | d + 1, t =>
    match P.underlying t with
    | some (.int _) | some .bool | some .string => true
    | some (.struct fs) => !P.stoodInHeld t && fs.all fun f => f.name != "_" && eqCells P d f.type
    | _ => false

def partsC (P : Program) (fs : Array Field) : List (Nat × Operand) → Option (List (Nat × Nat × Opd))
  | [] => some []
  | (i, a) :: r => match fs[i]?, partsC P fs r with
    | some f, some l => some ((f.offset, P.cellsOf f.type, opdC P a) :: l)
    | _, _ => none

def mkfnC (P : Program) (fn : Fn) (first caps : List Operand) : Option AOp :=
  match fn, first with
  | .func f, [] => if enters P f then some (.mkfn f (caps.map (opdC P))) else none
  | _, _ => none

def builtinC (P : Program) (b : Builtin) (args : List Operand) (ts : List TypeId) : Option AOp :=
  match b with
  | .len => match args, ts with
    | [a], [t] => match P.underlying t with
      | some (.slice _) => some (.len (opdC P a))
      | some .string => some (.slen (opdC P a))
      | _ => none
    | _, _ => none
  | .append => match args, ts with
    | [a, b], [t, u] => match P.underlying t with
      | some (.slice e) => match P.info? e, zeroC P e with
        | some j, some z => if j.size ≠ 0 ∧ j.bytes ≠ 0 ∧ t = u then some (.append e j.size j.bytes z (opdC P a) (opdC P b)) else none
        | _, _ => none
      | _ => none
    | _, _ => none
  | .min => match args with
    | a :: r => some (.minmax false (opdC P a) (r.map (opdC P)))
    | [] => none
  | .max => match args with
    | a :: r => some (.minmax true (opdC P a) (r.map (opdC P)))
    | [] => none
  | _ => none

def callC (P : Program) (c : Callee) (args : List Operand) (ts : List TypeId) : Option AOp :=
  match c with
  | .builtin b => builtinC P b args ts
  | .value (.func f) => if enters P f then some (.call f (args.map (opdC P))) else none
  | .value (.tmp t) => some (.callv (.t t) (args.map (opdC P)))
  | _ => none

/-- The kinds of a struct's fields, each of one cell: 0 a number, 1 a truth, 2 a text. -/
def kindsC (P : Program) : Nat → List Field → Option (List Nat)
  | _, [] => some []
  | o, f :: r => if f.offset = o ∧ f.name ≠ "_" then
      match P.underlying f.type, kindsC P (o + 1) r with
      | some (.int _), some ks => some (0 :: ks)
      | some .bool, some ks => some (1 :: ks)
      | some .string, some ks => some (2 :: ks)
      | _, _ => none
    else none
def opC (P : Program) (o : Op) : Option AOp :=
  let x := opdC P
  match o with
  | .move a | .assign a => some (.mov (x a))
  | .pick c a b => some (.pick (x c) (x a) (x b))
  | .alloc e => (zeroC P e).map (.alloc e)
  | .box e a => some (.box e (x a))
  | .load t p => (aggOf P t).map fun g => .load g (x p)
  | .store t p v => (P.info? t).map fun i => .store i.size (x p) (x v)
  | .binOp op t a b _ =>
    match P.underlying t with
    | some (.struct fs) => match kindsC P 0 fs.toList with
      | some ks => if !P.stoodInHeld t && !P.eqGuardType P.depth t then (match op with | .eql => some (.eqAgg false ks (x a) (x b)) | .neq => some (.eqAgg true ks (x a) (x b)) | _ => none) else none
      | none => none
    | some (.int _) | some .string => some (.bin op (x a) (x b))
    | some .bool => match op with | .eql => some (.binb false (x a) (x b)) | .neq => some (.binb true (x a) (x b)) | _ => none
    | _ => none
  | .unOp op _ a => some (.un op (x a))
  | .convert src dst a => match P.underlying src, P.underlying dst with
    | some (.int _), some (.int k) => some (.conv k (x a))
    | _, _ => none
  | .nilCheck a => some (.nilCheck (x a))
  | .makeFunc fn first caps => mkfnC P fn first.toList caps.toList
  | .fieldAddr s a i => match P.underlying s with
    | some (.struct fs) => match fs[i]? with
      | some f => if (P.info? f.type).any (·.size ≠ 0) then some (.fieldAddr f.offset (x a)) else none
      | none => none
    | _ => none
  | .field s a i => match P.underlying s with
    | some (.struct fs) => match fs[i]? with
      | some f => (aggOf P f.type).map fun g => .field f.offset g (x a)
      | none => none
    | _ => none
  | .indexAddr t a i => match P.underlying t with
    | some (.slice e) => match P.info? e with
      | some j => if j.size ≠ 0 then some (.elemAddr j.size (x a) (x i)) else none
      | none => none
    | some (.array n e) => match P.info? e with
      | some j => if j.size ≠ 0 ∧ 2 ≤ n then some (.arrAddr n j.size (x a) (x i)) else none
      | none => none
    | _ => none
  | .index t a i => match P.underlying t with
    | some (.array n e) => match P.info? e, aggOf P e with
      | some j, some g => if j.size ≠ 0 then some (.idxArr n j.size g (x a) (x i)) else none
      | _, _ => none
    | some .string => some (.idxStr (x a) (x i))
    | _ => none
  | .build t parts => match P.underlying t, zeroC P t with
    | some (.struct fs), some z => if fs.toList.all (fun f => (P.info? f.type).isSome) then (partsC P fs parts.toList).map (.build z) else none
    | some (.array _ e), some z => match P.info? e with
      | some j => some (.build z (parts.toList.map fun (i, a) => (i * j.size, j.size, x a)))
      | none => none
    | _, _ => none
  | .buildSlice t len parts => match P.underlying t with
    | some (.slice e) => match P.info? e, zeroC P e with
      | some j, some z => if j.size ≠ 0 ∧ len * j.size ≤ 1000 then some (.buildSlice e j.size len z (parts.toList.map fun (i, a) => (i, x a))) else none
      | _, _ => none
    | _ => none
  | .makeSlice t (.tmp l) (.tmp c) => match P.underlying t with
    | some (.slice e) => match P.info? e, zeroC P e with
      | some j, some z => if j.size ≠ 0 ∧ l = c then some (.make e j.size j.bytes z (.t l)) else none
      | _, _ => none
    | _ => none
  | .extract a i => some (.extract (x a) i)
  | .slice t a lo hi mx => match P.underlying t, mx with
    | some (.slice e), none => match P.info? e with
      | some j => some (.slice j.size (x a) (lo.map x) (hi.map x))
      | none => none
    | _, _ => none
  | .call c => callC P c.callee c.args.toList c.argTypes.toList
  | .panic _ => some .bad
  | _ => none

def guardC (all : Array Oper) : Option (Nat × Bool) → Option (Option (Nat × Bool))
  | none => some none
  | some (j, want) => match (all[j]?).bind (·.dst) with
    | some d => some (some (d, want))
    | none => none

def aoC (P : Program) (all : Array Oper) (o : Oper) : Option AO :=
  match guardC all o.guard, opC P o.op with
  | some g, some op => some ⟨o.dst, g, op⟩
  | _, _ => none

def aosC (P : Program) (all : Array Oper) : List Oper → Option (List AO)
  | [] => some []
  | o :: r => match aoC P all o, aosC P all r with
    | some a, some l => some (a :: l)
    | _, _ => none

/-! regions whose order is open -/
def opdT : Opd → List Nat
  | .t n => [n]
  | .c _ => []
def opdsOf : AOp → List Opd
  | .mov x | .box _ x | .load _ x | .loadD _ x | .un _ x | .conv _ x | .nilCheck x | .fieldAddr _ x | .field _ _ x | .extract x _ | .make _ _ _ _ x | .len x | .slen x => [x]
  | .pick a b c => [a, b, c]
  | .alloc .. | .bad => []
  | .loadS _ x _ => [x]
  | .loadP _ d => [.t d]
  | .callS _ xs l => xs ++ l.map .t
  | .storeS _ d v => [.t d, v]
  | .store _ a b | .bin _ a b | .binb _ a b | .eqAgg _ _ a b | .idxStr a b | .elemAddr _ a b | .arrAddr _ _ a b | .idxArr _ _ _ a b | .append _ _ _ _ a b => [a, b]
  | .mkfn _ xs => xs
  | .build _ ps => ps.map (·.2.2)
  | .buildSlice _ _ _ _ ps | .buildSliceD _ _ _ _ ps => ps.map (·.2)
  | .slice _ x lo hi => x :: (lo.toList ++ hi.toList)
  | .minmax _ x xs => x :: xs
  | .call _ xs | .pcall _ xs => xs
  | .callv g xs | .pcallv g xs => g :: xs
def readsOf (o : AO) : List Nat := (opdsOf o.op).flatMap opdT ++ (match o.guard with | some (g, _) => [g] | none => [])
def newsOf : AOp → List Nat
  | .loadS _ _ l => l
  | _ => []
/-- 0: it hangs on temporaries alone; 1: it reads; 2: it lays something new; 3: all else. -/
def clsOf : AOp → Nat
  | .load .. | .loadS .. | .loadP .. | .pcall .. | .pcallv .. => 1
  | .alloc .. | .box .. | .buildSliceD .. => 2
  | .store .. | .storeS .. | .append .. | .call .. | .callv .. | .callS .. | .buildSlice .. | .make .. => 3
  | _ => 0
def dafter (o : Oper) : List Nat := (o.after.toList.filter (Region.binds .any)).map (·.on)
def cloOf (ops : List Oper) : List (List Nat) :=
  ops.foldl (fun acc o => acc ++ [((dafter o).flatMap fun k => k :: acc.getD k []).eraseDups]) []
/-- In which order they are taken, where they may. -/
def prioOf : AOp → Nat
  | .alloc .. => 3
  | op => if clsOf op = 3 then 4 else clsOf op
def drawOp (ordered ld : Bool) (news : List Nat) (lp : Bool) (keep : Option (List Nat)) : AOp → AOp
  | .buildSlice a b c d e => .buildSliceD a b c d e
  | .call f xs => if ordered then .call f xs else (match keep with | some l => .callS f xs l | none => .pcall f xs)
  | .callv g xs => if ordered then .callv g xs else .pcallv g xs
  | .load g x => if ld then .loadD g x else if lp then (match x with | .t d => .loadP g d | _ => .load g x) else if news.isEmpty then .load g x else .loadS g x news
  | .store n (.t d) v => if news.contains d then .storeS n d v else .store n (.t d) v
  | op => op
def orderGo (after : List (List Nat)) (cls : List Nat) : Nat → List Nat → List Nat → List Nat
  | 0, _, acc => acc.reverse
  | n + 1, left, acc =>
    let ready := left.filter fun i => (after.getD i []).all acc.contains
    let best := [0, 1, 2, 3, 4, 5].findSome? fun c => ready.find? fun i => cls.getD i 0 == c
    match best with
    | some i => orderGo after cls n (left.filter (· != i)) (i :: acc)
    | none => acc.reverse
def swapOk (a b : AO) : Bool :=
  (match a.dst with | some d => !(readsOf b).contains d && !(newsOf b.op).contains d && b.dst != some d | none => true) &&
  (match b.dst with | some d => !(readsOf a).contains d && (!(newsOf a.op).contains d || (match b.op with | .alloc .. => true | _ => false)) | none => true) &&
  (clsOf a.op == 0 || (clsOf a.op == 1 && decide (clsOf b.op ≤ 2)) || (clsOf a.op == 2 && (b.guard == none || b.guard == a.guard) && (match b.op with | .alloc .. => true | _ => false)) ||
   (match a.op, b.op with
    | .loadS _ _ l, .storeS _ d _ => l.contains d
    | .loadP _ d, .callS _ _ l => l.contains d
    | .loadP .., .append .. => true
    | .append .., .alloc .. => b.guard == none
    | .pcall .., .storeS .. | .pcallv .., .storeS .. => true
    | _, _ => false))
def pairOk (after clo : List (List Nat)) (aos : List AO) (i j : Nat) : Bool :=
  !(after.getD i []).contains j && i != j && ((clo.getD j []).contains i || (match aos[i]?, aos[j]? with | some a, some b => swapOk a b | _, _ => false))
def pairsOk (after clo : List (List Nat)) (aos : List AO) : List Nat → Bool
  | [] => true
  | i :: r => r.all (pairOk after clo aos i) && pairsOk after clo aos r
def cloOk (after clo : List (List Nat)) : Bool :=
  (List.range clo.length).all fun j => (clo.getD j []).all fun i => (after.getD j []).any fun k => k == i || (clo.getD k []).contains i
def listAt (aos : List AO) : List Nat → Option (List AO)
  | [] => some []
  | i :: r => match aos[i]?, listAt aos r with | some a, some l => some (a :: l) | _, _ => none
/-- By mode 2 a load that may come ahead of a store, or behind it, is one of data; by mode 1 it is of another cell than the one that is stored to. -/
def drawC1 (P : Program) (md : Nat) (ops : Array Oper) : Option ACode :=
  match aosC P ops ops.toList with
  | none => none
  | some aos0 =>
    let after := ops.toList.map dafter
    let clo := cloOf ops.toList
    let heavy := (List.range aos0.length).filter fun i => match aos0[i]? with | some a => clsOf a.op != 0 | none => true
    let stores := (List.range aos0.length).filter fun i => match aos0[i]? with | some a => clsOf a.op == 3 | none => true
    let lds := fun i => md == 2 && stores.any fun j => i != j && !(clo.getD i []).contains j && !(clo.getD j []).contains i
    let ordered := fun i => heavy.all fun j => i == j || (clo.getD i []).contains j || (clo.getD j []).contains i
    let apart := fun i j => i != j && !(clo.getD i []).contains j && !(clo.getD j []).contains i
    let open1 := fun i => heavy.filter fun j => apart i j
    let adrOf := fun j => match aos0[j]? with | some a => (match a.op with | .load _ (.t d) => some d | _ => none) | none => none
    let keeps := fun i => if md == 3 && (open1 i).all (fun j => (adrOf j).isSome) then some ((open1 i).filterMap adrOf) else none
    let lps := fun i => md == 3 && stores.any fun j => apart i j
    let news0 := aos0.filterMap fun a => match a.op with | .alloc .. => a.dst | _ => none
    let dsts := aos0.filterMap fun a => a.dst
    let outs := if md == 1 then aos0.filterMap fun a => match a.op with | .store _ (.t d) _ => if dsts.contains d then none else some d | _ => none else []
    let news := outs ++ (if aos0.any (fun a => match a.op with | .store _ (.t d) _ => news0.contains d | _ => false) then news0 else [])
    let aos := aos0.zipIdx.map fun (a, i) => ({ a with op := drawOp (ordered i) (lds i) news (lps i) (keeps i) a.op } : AO)
    let ord := orderGo after (aos.map fun a => match a.op with | .alloc .. => if md == 3 then 5 else 3 | op => prioOf op) aos.length (List.range aos.length) []
    if P.follows .mixedOrders && ord.length == aos.length && cloOk after clo && pairsOk after clo aos ord && ord.all (fun i => decide (i < aos.length) && !(after.getD i []).contains i) &&
      (List.range aos.length).all ord.contains && after.all (·.all (decide <| · < aos.length)) && clo.length == aos.length then (listAt aos ord).map .dops else none

/-- A function with what it has caught is handed to a call: what it writes counts. -/
def hasFn (ops : Array Oper) : Bool := ops.any fun o => match o.op with | .makeFunc _ _ caps => caps.size != 0 | _ => false
def drawC (P : Program) (ops : Array Oper) : Option ACode := if hasFn ops && (drawC1 P 3 ops).isSome then drawC1 P 3 ops else match drawC1 P 0 ops with
  | some c => some c
  | none => match drawC1 P 1 ops with
    | some c => some c
    | none => match drawC1 P 2 ops with
      | some c => some c
      | none => drawC1 P 3 ops
def codeC (P : Program) : Code → Option ACode
  | .skip => some .skip
  | .region _ ops draw => if draw then drawC P ops else (aosC P ops ops.toList).map .ops
  | .seq a b => match codeC P a, codeC P b with | some x, some y => some (.seq x y) | _, _ => none
  | .cond c a b => match codeC P a, codeC P b with | some x, some y => some (.cond (opdC P c) x y) | _, _ => none
  | .block id a => (codeC P a).map (.block id)
  | .loop a => (codeC P a).map .loop
  | .rangeFunc g ps a b => match codeC P a, codeC P b with | some x, some y => if flatA x && flatA y then some (.rangef (opdC P g) ps.toList x y) else none | _, _ => none
  | .exit id => some (.exit id)
  | .ret => some .ret
  | _ => none

def resC (P : Program) : List ResultVar → Option (List ARes)
  | [] => some []
  | .tmp t :: r => (resC P r).map (.tmp t :: ·)
  | .cell a t :: r => match aggOf P t, resC P r with | some g, some l => some (.cell a g :: l) | _, _ => none

def funcC (P : Program) (f : FuncId) : Option AFunc :=
  match P.funcs[f]? with
  | some fn => match fn.body with
    | some c => match codeC P c, resC P fn.results.toList with
      | some b, some r => some ⟨fn.ntmps, r, b⟩
      | _, _ => none
    | none => none
  | none => none
end Go.Proofs.Ytlflfciebidddaa.Abs
