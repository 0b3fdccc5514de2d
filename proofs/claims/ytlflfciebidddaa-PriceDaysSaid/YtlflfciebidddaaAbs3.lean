/- The abstract machine with its continuation as data, so that simp carries a code out step by step and stops at a call, a loop, a test that isn't decided, an element of unknown data. No claim stands here. -/
import Derived.Test.YtlflfciebidddaaAbs2
namespace Go.Proofs.Ytlflfciebidddaa.Abs
open Go Go.RowKit

inductive Item where
  | code (c : ACode)
  | blk (id : Nat)

section
variable (P : Program) (Q : Out → St → Prop)
def RunO : List Item → Out → St → Prop
  | [], o, s => Q o s
  | .code c :: k, o, s => match o with
    | .normal => acW P c s fun o s' => RunO k o s'
    | o => RunO k o s
  | .blk id :: k, o, s => match o with
    | .exit i => if i = id then RunO k .normal s else RunO k (.exit i) s
    | o => RunO k o s
def RunC (c : ACode) (k : List Item) (s : St) : Prop := acW P c s fun o s' => RunO P Q k o s'
def RunL (l : List AO) (k : List Item) (s : St) : Prop := opsW P l s fun s' => RunO P Q k .normal s'

/-! atoms -/
def CallA (f : FuncId) (args : List AV) (d : Option Nat) (l : List AO) (k : List Item) (s : St) : Prop := CallW P f args s.H fun v H' => RunL P Q l k (putS s d v H')
def LoopA (b : ACode) (k : List Item) (s : St) : Prop := LoopW P b s fun o s' => RunO P Q k o s'
def RangeA (g : Opd) (ps : List Nat) (a b : ACode) (k : List Item) (s : St) : Prop := RangeW P g ps a b s fun o s' => RunO P Q k o s'
def YldA (y : Nat) (args : List AV) (d : Option Nat) (l : List AO) (k : List Item) (s : St) : Prop := YldK P y args s.H fun v H' => RunL P Q l k (putS s d v H')
def CondA (v : AV) (a b : ACode) (k : List Item) (s : St) : Prop := match v with
  | .d (.bool c) => Fork c (RunC P Q a k s) (RunC P Q b k s)
  | _ => False
def GuardA (v : AV) (want : Bool) (d : Option Nat) (op : AOp) (l : List AO) (k : List Item) (s : St) : Prop := match v with
  | .d (.bool c) => Fork (c == want) (opW P s.t s.H (fun v H' => RunL P Q l k (putS s d v H')) op) (RunL P Q l k (putS s d .void s.H))
  | .void => RunL P Q l k (putS s d .void s.H)
  | _ => False
def AllocA (x : Blk) (d : Option Nat) (l : List AO) (k : List Item) (s : St) : Prop := ∀ b, s.H b = none → RunL P Q l k (putS s d (.ptr b 0) (upd s.H b (some x)))
def BinA (op : BinOp) (x y : AV) (d : Option Nat) (l : List AO) (k : List Item) (s : St) : Prop := binW op x y fun v => RunL P Q l k (putS s d v s.H)
def PickA (c x y : AV) (d : Option Nat) (l : List AO) (k : List Item) (s : St) : Prop := match c with
  | .d (.bool c) => Fork c (RunL P Q l k (putS s d x s.H)) (RunL P Q l k (putS s d y s.H))
  | _ => False
def LoadA (g : Option Nat) (p : AV) (d : Option Nat) (l : List AO) (k : List Item) (s : St) : Prop := loadW g p s.H fun v => RunL P Q l k (putS s d v s.H)
def LoadB (g : Option Nat) (x : Option Blk) (off : Nat) (d : Option Nat) (l : List AO) (k : List Item) (s : St) : Prop := match x with
  | some (.box _ cells) => match g with
    | none => VC (off < lenAV cells) (RunL P Q l k (putS s d (nth cells off) s.H))
    | some n => VC (off + n ≤ lenAV cells) (RunL P Q l k (putS s d (.agg (seg cells off n)) s.H))
  | _ => False
def ElemA (xs : List (List D)) (i : Int) (d : Option Nat) (l : List AO) (k : List Item) (s : St) : Prop := Idx xs i fun el => RunL P Q l k (putS s d (.dptr el 0) s.H)
def EptrA (b sz off : Nat) (i : Int) (d : Option Nat) (l : List AO) (k : List Item) (s : St) : Prop := RunL P Q l k (putS s d (.eptr b sz (off + i.toNat) 0) s.H)
def StoreA (n : Nat) (p v : AV) (d : Option Nat) (l : List AO) (k : List Item) (s : St) : Prop := storeW n p v s.H fun H' => RunL P Q l k (putS s d .void H')
def StoreB (n off b : Nat) (x : Option Blk) (v : AV) (d : Option Nat) (l : List AO) (k : List Item) (s : St) : Prop := match x with
  | some (.box t cells) => VC (off + n ≤ lenAV cells) (RunL P Q l k (putS s d .void (upd s.H b (some (.box t (setSeg cells off (cellsAV v)))))))
  | _ => False
def BuildA (c : Option (List AV)) (d : Option Nat) (l : List AO) (k : List Item) (s : St) : Prop := match c with
  | some cs => RunL P Q l k (putS s d (.agg cs) s.H)
  | none => False
def EqA (c : Option Bool) (neg : Bool) (d : Option Nat) (l : List AO) (k : List Item) (s : St) : Prop := match c with
  | some b => RunL P Q l k (putS s d (.d (.bool (if neg then !b else b))) s.H)
  | none => False
def EqB (ks : List Nat) (x y : AV) (neg : Bool) (d : Option Nat) (l : List AO) (k : List Item) (s : St) : Prop := match x, y with
  | .agg xs, .agg ys => EqA P Q (eqKs ks xs ys) neg d l k s
  | _, _ => False
def OtherA (op : AOp) (d : Option Nat) (l : List AO) (k : List Item) (s : St) : Prop := opW P s.t s.H (fun v H' => RunL P Q l k (putS s d v H')) op
end

section
variable {P : Program} {Q : Out → St → Prop} {k : List Item} {s : St} {d : Option Nat} {l : List AO}
theorem RunC_skip : RunC P Q .skip k s = RunO P Q k .normal s := rfl
theorem RunC_ops {r : List AO} : RunC P Q (.ops r) k s = RunL P Q r k s := rfl
theorem RunC_dops {r : List AO} : RunC P Q (.dops r) k s = RunL P Q r k s := rfl
theorem RunC_seq {a b : ACode} : RunC P Q (.seq a b) k s = RunC P Q a (.code b :: k) s := by
  unfold RunC; rw [acW]; congr 1
theorem RunC_cond {c : Opd} {a b : ACode} : RunC P Q (.cond c a b) k s = CondA P Q (ev s.t c) a b k s := rfl
theorem RunC_block {id : Nat} {a : ACode} : RunC P Q (.block id a) k s = RunC P Q a (.blk id :: k) s := by
  unfold RunC; rw [acW]; congr 1
theorem RunC_rangef {g : Opd} {ps : List Nat} {a b : ACode} : RunC P Q (.rangef g ps a b) k s = RangeA P Q g ps a b k s := rfl
theorem RunC_loop {a : ACode} : RunC P Q (.loop a) k s = LoopA P Q a k s := rfl
theorem RunC_exit {id : Nat} : RunC P Q (.exit id) k s = RunO P Q k (.exit id) s := rfl
theorem RunC_ret : RunC P Q .ret k s = RunO P Q k .ret s := rfl
theorem RunO_nil {o : Out} : RunO P Q [] o s = Q o s := by cases o <;> rfl
theorem RunO_code {c : ACode} : RunO P Q (.code c :: k) .normal s = RunC P Q c k s := rfl
theorem RunO_code_ret {c : ACode} : RunO P Q (.code c :: k) .ret s = RunO P Q k .ret s := rfl
theorem RunO_code_exit {c : ACode} {i : Nat} : RunO P Q (.code c :: k) (.exit i) s = RunO P Q k (.exit i) s := rfl
theorem RunO_blk {id : Nat} : RunO P Q (.blk id :: k) .normal s = RunO P Q k .normal s := rfl
theorem RunO_blk_ret {id : Nat} : RunO P Q (.blk id :: k) .ret s = RunO P Q k .ret s := rfl
theorem RunO_blk_exit {id i : Nat} : RunO P Q (.blk id :: k) (.exit i) s = if i = id then RunO P Q k .normal s else RunO P Q k (.exit i) s := rfl
theorem RunL_nil : RunL P Q [] k s = RunO P Q k .normal s := rfl
theorem RunL_op {op : AOp} : RunL P Q (⟨d, none, op⟩ :: l) k s = opW P s.t s.H (fun v H' => RunL P Q l k (putS s d v H')) op := rfl
theorem RunL_guard {g : Nat} {want : Bool} {op : AOp} : RunL P Q (⟨d, some (g, want), op⟩ :: l) k s = GuardA P Q (s.t g) want d op l k s := rfl
theorem GuardA_tt {op : AOp} : GuardA P Q (.d (.bool true)) true d op l k s = RunL P Q (⟨d, none, op⟩ :: l) k s := by simp [GuardA, Fork, RunL_op]
theorem GuardA_ff {op : AOp} : GuardA P Q (.d (.bool false)) false d op l k s = RunL P Q (⟨d, none, op⟩ :: l) k s := by simp [GuardA, Fork, RunL_op]
theorem GuardA_tf {op : AOp} : GuardA P Q (.d (.bool true)) false d op l k s = RunL P Q l k (putS s d .void s.H) := by simp [GuardA, Fork]
theorem GuardA_ft {op : AOp} : GuardA P Q (.d (.bool false)) true d op l k s = RunL P Q l k (putS s d .void s.H) := by simp [GuardA, Fork]
theorem GuardA_void {want : Bool} {op : AOp} : GuardA P Q .void want d op l k s = RunL P Q l k (putS s d .void s.H) := rfl
theorem CondA_t {a b : ACode} : CondA P Q (.d (.bool true)) a b k s = RunC P Q a k s := by simp [CondA, Fork]
theorem CondA_f {a b : ACode} : CondA P Q (.d (.bool false)) a b k s = RunC P Q b k s := by simp [CondA, Fork]
theorem PickA_t {x y : AV} : PickA P Q (.d (.bool true)) x y d l k s = RunL P Q l k (putS s d x s.H) := by simp [PickA, Fork]
theorem PickA_f {x y : AV} : PickA P Q (.d (.bool false)) x y d l k s = RunL P Q l k (putS s d y s.H) := by simp [PickA, Fork]
theorem PickA_b {c x y : Bool} : PickA P Q (.d (.bool c)) (.d (.bool x)) (.d (.bool y)) d l k s = RunL P Q l k (putS s d (.d (.bool (bif c then x else y))) s.H) := by cases c <;> simp [PickA, Fork]
theorem RunL_mov {x : Opd} : RunL P Q (⟨d, none, .mov x⟩ :: l) k s = RunL P Q l k (putS s d (ev s.t x) s.H) := rfl
theorem RunL_pick {c x y : Opd} : RunL P Q (⟨d, none, .pick c x y⟩ :: l) k s = PickA P Q (ev s.t c) (ev s.t x) (ev s.t y) d l k s := rfl
theorem RunL_alloc {t : TypeId} {z : List AV} : RunL P Q (⟨d, none, .alloc t z⟩ :: l) k s = AllocA P Q (.box t z) d l k s := rfl
theorem RunL_box {t : TypeId} {x : Opd} : RunL P Q (⟨d, none, .box t x⟩ :: l) k s = VC (fits (lenAV (cellsAV (ev s.t x))) (ev s.t x) = true) (AllocA P Q (.box t (cellsAV (ev s.t x))) d l k s) := rfl
theorem RunL_load {g : Option Nat} {x : Opd} : RunL P Q (⟨d, none, .load g x⟩ :: l) k s = LoadA P Q g (ev s.t x) d l k s := rfl
theorem LoadA_ptr {g : Option Nat} {b off : Nat} : LoadA P Q g (.ptr b off) d l k s = LoadB P Q g (s.H b) off d l k s := by
  unfold LoadA loadW LoadB; rfl
theorem LoadB_1 {t : TypeId} {cells : List AV} {off : Nat} : LoadB P Q none (some (.box t cells)) off d l k s = VC (off < lenAV cells) (RunL P Q l k (putS s d (nth cells off) s.H)) := rfl
theorem LoadB_n {n : Nat} {t : TypeId} {cells : List AV} {off : Nat} : LoadB P Q (some n) (some (.box t cells)) off d l k s = VC (off + n ≤ lenAV cells) (RunL P Q l k (putS s d (.agg (seg cells off n)) s.H)) := rfl
theorem LoadA_dptr {el : List D} {off : Nat} : LoadA P Q none (.dptr el off) d l k s = VC (off < el.length) (RunL P Q l k (putS s d (nth (mapD el) off) s.H)) := rfl
theorem LoadA_dptr_n {n : Nat} {el : List D} {off : Nat} : LoadA P Q (some n) (.dptr el off) d l k s = VC (off + n ≤ el.length) (RunL P Q l k (putS s d (.agg (seg (mapD el) off n)) s.H)) := rfl
def LoadDA (P : Program) (Q : Out → St → Prop) (g : Option Nat) (p : AV) (d : Option Nat) (l : List AO) (k : List Item) (s : St) : Prop := match p with
  | .dptr el off => LoadA P Q g (.dptr el off) d l k s
  | _ => False
theorem RunL_loadD {g : Option Nat} {x : Opd} : RunL P Q (⟨d, none, .loadD g x⟩ :: l) k s = LoadDA P Q g (ev s.t x) d l k s := by
  rw [RunL_op]
  simp only [opW, LoadDA]
  cases ev s.t x <;> rfl
theorem LoadDA_dptr {g : Option Nat} {el : List D} {off : Nat} : LoadDA P Q g (.dptr el off) d l k s = LoadA P Q g (.dptr el off) d l k s := rfl
theorem RunL_loadS {g : Option Nat} {x : Opd} {news : List Nat} : RunL P Q (⟨d, none, .loadS g x news⟩ :: l) k s = VC (newsOk s.t (ev s.t x) news) (LoadA P Q g (ev s.t x) d l k s) := rfl
def StoreSA (P : Program) (Q : Out → St → Prop) (n : Nat) (p v : AV) (d : Option Nat) (l : List AO) (k : List Item) (s : St) : Prop := match p with
  | .ptr b off => VC (fits n v = true) (StoreB P Q n off b (s.H b) v d l k s)
  | _ => False
theorem RunL_storeS {n q : Nat} {v : Opd} : RunL P Q (⟨d, none, .storeS n q v⟩ :: l) k s = StoreSA P Q n (s.t q) (ev s.t v) d l k s := rfl
theorem StoreSA_ptr {n b off : Nat} {v : AV} : StoreSA P Q n (.ptr b off) v d l k s = VC (fits n v = true) (StoreB P Q n off b (s.H b) v d l k s) := rfl
theorem RunL_store {n : Nat} {p v : Opd} : RunL P Q (⟨d, none, .store n p v⟩ :: l) k s = StoreA P Q n (ev s.t p) (ev s.t v) d l k s := rfl
theorem StoreA_ptr {n b off : Nat} {v : AV} : StoreA P Q n (.ptr b off) v d l k s = VC (fits n v = true) (StoreB P Q n off b (s.H b) v d l k s) := rfl
theorem StoreB_box {n b off : Nat} {v : AV} {t : TypeId} {cells : List AV} : StoreB P Q n off b (some (.box t cells)) v d l k s = VC (off + n ≤ lenAV cells) (RunL P Q l k (putS s d .void (upd s.H b (some (.box t (setSeg cells off (cellsAV v))))))) := rfl
theorem RunL_bin {op : BinOp} {x y : Opd} : RunL P Q (⟨d, none, .bin op x y⟩ :: l) k s = BinA P Q op (ev s.t x) (ev s.t y) d l k s := rfl
theorem Bin_add {j : IntKind} {a b : Int} : BinA P Q .add (.d (.int j a)) (.d (.int j b)) d l k s = RunL P Q l k (putS s d (.d (.int j (j.wrap (a + b)))) s.H) := by simp [BinA, binW, VC]
theorem Bin_sub {j : IntKind} {a b : Int} : BinA P Q .sub (.d (.int j a)) (.d (.int j b)) d l k s = RunL P Q l k (putS s d (.d (.int j (j.wrap (a - b)))) s.H) := by simp [BinA, binW, VC]
theorem Bin_mul {j : IntKind} {a b : Int} : BinA P Q .mul (.d (.int j a)) (.d (.int j b)) d l k s = RunL P Q l k (putS s d (.d (.int j (j.wrap (a * b)))) s.H) := by simp [BinA, binW, VC]
theorem Bin_quo {j : IntKind} {a b : Int} : BinA P Q .quo (.d (.int j a)) (.d (.int j b)) d l k s = VC (b ≠ 0) (RunL P Q l k (putS s d (.d (.int j (j.wrap (a.tdiv b)))) s.H)) := by simp [BinA, binW, VC]
theorem Bin_rem {j : IntKind} {a b : Int} : BinA P Q .rem (.d (.int j a)) (.d (.int j b)) d l k s = VC (b ≠ 0) (RunL P Q l k (putS s d (.d (.int j (a.tmod b))) s.H)) := by simp [BinA, binW, VC]
theorem Bin_shl {j j2 : IntKind} {a b : Int} : BinA P Q .shl (.d (.int j a)) (.d (.int j2 b)) d l k s = VC (0 ≤ b) (RunL P Q l k (putS s d (.d (.int j (j.wrap (a * 2 ^ (min b.toNat j.bits))))) s.H)) := rfl
theorem Bin_shr {j j2 : IntKind} {a b : Int} : BinA P Q .shr (.d (.int j a)) (.d (.int j2 b)) d l k s = VC (0 ≤ b) (RunL P Q l k (putS s d (.d (.int j (a.fdiv (2 ^ (min b.toNat j.bits))))) s.H)) := rfl
theorem Bin_and {j : IntKind} {a b : Int} : BinA P Q .and (.d (.int j a)) (.d (.int j b)) d l k s = RunL P Q l k (putS s d (.d (.int j (j.wrap (BitVec.ofInt j.bits a &&& BitVec.ofInt j.bits b).toNat))) s.H) := by simp [BinA, binW, VC]
theorem Bin_or {j : IntKind} {a b : Int} : BinA P Q .or (.d (.int j a)) (.d (.int j b)) d l k s = RunL P Q l k (putS s d (.d (.int j (j.wrap (BitVec.ofInt j.bits a ||| BitVec.ofInt j.bits b).toNat))) s.H) := by simp [BinA, binW, VC]
theorem Bin_xor {j : IntKind} {a b : Int} : BinA P Q .xor (.d (.int j a)) (.d (.int j b)) d l k s = RunL P Q l k (putS s d (.d (.int j (j.wrap (BitVec.ofInt j.bits a ^^^ BitVec.ofInt j.bits b).toNat))) s.H) := by simp [BinA, binW, VC]
theorem Bin_eql {j : IntKind} {a b : Int} : BinA P Q .eql (.d (.int j a)) (.d (.int j b)) d l k s = RunL P Q l k (putS s d (.d (.bool (decide (a = b)))) s.H) := by simp [BinA, binW, VC]
theorem Bin_neq {j : IntKind} {a b : Int} : BinA P Q .neq (.d (.int j a)) (.d (.int j b)) d l k s = RunL P Q l k (putS s d (.d (.bool (!decide (a = b)))) s.H) := by simp [BinA, binW, VC]
theorem Bin_lss {j : IntKind} {a b : Int} : BinA P Q .lss (.d (.int j a)) (.d (.int j b)) d l k s = RunL P Q l k (putS s d (.d (.bool (decide (a < b)))) s.H) := by simp [BinA, binW, VC]
theorem Bin_leq {j : IntKind} {a b : Int} : BinA P Q .leq (.d (.int j a)) (.d (.int j b)) d l k s = RunL P Q l k (putS s d (.d (.bool (decide (a ≤ b)))) s.H) := by simp [BinA, binW, VC]
theorem Bin_gtr {j : IntKind} {a b : Int} : BinA P Q .gtr (.d (.int j a)) (.d (.int j b)) d l k s = RunL P Q l k (putS s d (.d (.bool (decide (b < a)))) s.H) := by simp [BinA, binW, VC]
theorem Bin_geq {j : IntKind} {a b : Int} : BinA P Q .geq (.d (.int j a)) (.d (.int j b)) d l k s = RunL P Q l k (putS s d (.d (.bool (decide (b ≤ a)))) s.H) := by simp [BinA, binW, VC]
def BinB (P : Program) (Q : Out → St → Prop) (neg : Bool) (x y : AV) (d : Option Nat) (l : List AO) (k : List Item) (s : St) : Prop := match x, y with
  | .d (.bool a), .d (.bool b) => RunL P Q l k (putS s d (.d (.bool (if neg then !(a == b) else a == b))) s.H)
  | _, _ => False
theorem RunL_binb {neg : Bool} {x y : Opd} : RunL P Q (⟨d, none, .binb neg x y⟩ :: l) k s = BinB P Q neg (ev s.t x) (ev s.t y) d l k s := rfl
theorem Bin_beql {a b : Bool} : BinB P Q false (.d (.bool a)) (.d (.bool b)) d l k s = RunL P Q l k (putS s d (.d (.bool (a == b))) s.H) := rfl
theorem Bin_bneq {a b : Bool} : BinB P Q true (.d (.bool a)) (.d (.bool b)) d l k s = RunL P Q l k (putS s d (.d (.bool (!(a == b)))) s.H) := rfl
theorem Bin_seql {a b : ByteArray} : BinA P Q .eql (.d (.str a)) (.d (.str b)) d l k s = RunL P Q l k (putS s d (.d (.bool (a.toList == b.toList))) s.H) := rfl
theorem Bin_sneq {a b : ByteArray} : BinA P Q .neq (.d (.str a)) (.d (.str b)) d l k s = RunL P Q l k (putS s d (.d (.bool (!(a.toList == b.toList)))) s.H) := rfl
theorem Bin_slss {a b : ByteArray} : BinA P Q .lss (.d (.str a)) (.d (.str b)) d l k s = RunL P Q l k (putS s d (.d (.bool (Op.bytesLess a.toList b.toList))) s.H) := rfl
theorem RunL_other {op : AOp} : OtherA P Q op d l k s = RunL P Q (⟨d, none, op⟩ :: l) k s := rfl
theorem RunL_eqAgg {neg : Bool} {ks : List Nat} {x y : Opd} : RunL P Q (⟨d, none, .eqAgg neg ks x y⟩ :: l) k s = EqB P Q ks (ev s.t x) (ev s.t y) neg d l k s := by
  rw [RunL_op]
  simp only [opW]
  generalize ev s.t x = a
  generalize ev s.t y = b
  cases a <;> cases b <;> rfl
theorem EqB_agg {ks : List Nat} {xs ys : List AV} {neg : Bool} : EqB P Q ks (.agg xs) (.agg ys) neg d l k s = EqA P Q (eqKs ks xs ys) neg d l k s := rfl
theorem EqA_t {b : Bool} : EqA P Q (some b) true d l k s = RunL P Q l k (putS s d (.d (.bool (!b))) s.H) := rfl
theorem EqA_f {b : Bool} : EqA P Q (some b) false d l k s = RunL P Q l k (putS s d (.d (.bool b)) s.H) := rfl
def UnA (P : Program) (Q : Out → St → Prop) (op : UnOp) (x : AV) (d : Option Nat) (l : List AO) (k : List Item) (s : St) : Prop := match op, x with
  | .not, .d (.bool b) => RunL P Q l k (putS s d (.d (.bool (!b))) s.H)
  | .neg, .d (.int j n) => RunL P Q l k (putS s d (.d (.int j (j.wrap (0 - n)))) s.H)
  | _, _ => False
theorem RunL_un {op : UnOp} {x : Opd} : RunL P Q (⟨d, none, .un op x⟩ :: l) k s = UnA P Q op (ev s.t x) d l k s := rfl
theorem UnA_not {b : Bool} : UnA P Q .not (.d (.bool b)) d l k s = RunL P Q l k (putS s d (.d (.bool (!b))) s.H) := rfl
theorem UnA_neg {j : IntKind} {n : Int} : UnA P Q .neg (.d (.int j n)) d l k s = RunL P Q l k (putS s d (.d (.int j (j.wrap (0 - n)))) s.H) := rfl
def MapA (P : Program) (Q : Out → St → Prop) (v : Option AV) (d : Option Nat) (l : List AO) (k : List Item) (s : St) : Prop := match v with
  | some v => RunL P Q l k (putS s d v s.H)
  | none => False
theorem MapA_some {v : AV} : MapA P Q (some v) d l k s = RunL P Q l k (putS s d v s.H) := rfl
def convV (j : IntKind) : AV → Option AV
  | .d (.int _ n) => some (.d (.int j (j.wrap n)))
  | _ => none
theorem RunL_conv {j : IntKind} {x : Opd} : RunL P Q (⟨d, none, .conv j x⟩ :: l) k s = MapA P Q (convV j (ev s.t x)) d l k s := by
  rw [RunL_op]
  simp only [opW, MapA, convV]
  cases ev s.t x with
  | d x => cases x <;> rfl
  | _ => rfl
def nilV : AV → Option AV
  | .ptr b o => some (.ptr b o)
  | .eptr b s i j => some (.eptr b s i j)
  | .dptr el o => some (.dptr el o)
  | .fn f c => some (.fn f c)
  | _ => none
theorem RunL_nilCheck {x : Opd} : RunL P Q (⟨d, none, .nilCheck x⟩ :: l) k s = MapA P Q (nilV (ev s.t x)) d l k s := by
  rw [RunL_op]
  simp only [opW, MapA, nilV]
  cases ev s.t x <;> rfl
theorem RunL_mkfn {f : FuncId} {caps : List Opd} : RunL P Q (⟨d, none, .mkfn f caps⟩ :: l) k s = RunL P Q l k (putS s d (.fn f (evL s.t caps)) s.H) := rfl
def faV (off : Nat) : AV → Option AV
  | .ptr b o => some (.ptr b (o + off))
  | .eptr b s i j => some (.eptr b s i (j + off))
  | .dptr el o => some (.dptr el (o + off))
  | _ => none
theorem RunL_fieldAddr {off : Nat} {x : Opd} : RunL P Q (⟨d, none, .fieldAddr off x⟩ :: l) k s = MapA P Q (faV off (ev s.t x)) d l k s := by
  rw [RunL_op]
  simp only [opW, MapA, faV]
  cases ev s.t x <;> rfl
def FieldA (P : Program) (Q : Out → St → Prop) (off : Nat) (g : Option Nat) (x : AV) (d : Option Nat) (l : List AO) (k : List Item) (s : St) : Prop := match x with
  | .agg xs => match g with
    | none => VC (off < lenAV xs) (RunL P Q l k (putS s d (nth xs off) s.H))
    | some n => VC (off + n ≤ lenAV xs) (RunL P Q l k (putS s d (.agg (seg xs off n)) s.H))
  | _ => False
theorem RunL_field {off : Nat} {g : Option Nat} {x : Opd} : RunL P Q (⟨d, none, .field off g x⟩ :: l) k s = FieldA P Q off g (ev s.t x) d l k s := rfl
theorem FieldA_1 {off : Nat} {xs : List AV} : FieldA P Q off none (.agg xs) d l k s = VC (off < lenAV xs) (RunL P Q l k (putS s d (nth xs off) s.H)) := rfl
theorem FieldA_n {off n : Nat} {xs : List AV} : FieldA P Q off (some n) (.agg xs) d l k s = VC (off + n ≤ lenAV xs) (RunL P Q l k (putS s d (.agg (seg xs off n)) s.H)) := rfl
def EAddrA (P : Program) (Q : Out → St → Prop) (sz : Nat) (x i : AV) (d : Option Nat) (l : List AO) (k : List Item) (s : St) : Prop := match x, i with
  | .d (.sl sz' xs), .d (.int _ n) => VC (sz = sz') (ElemA P Q xs n d l k s)
  | .own b sz' off len _, .d (.int _ n) => VC (sz = sz' ∧ 0 ≤ n ∧ n < len) (EptrA P Q b sz off n d l k s)
  | _, _ => False
theorem RunL_elemAddr {sz : Nat} {x i : Opd} : RunL P Q (⟨d, none, .elemAddr sz x i⟩ :: l) k s = EAddrA P Q sz (ev s.t x) (ev s.t i) d l k s := rfl
theorem EAddrA_sl {sz : Nat} {xs : List (List D)} {j : IntKind} {n : Int} : EAddrA P Q sz (.d (.sl sz xs)) (.d (.int j n)) d l k s = ElemA P Q xs n d l k s := by simp [EAddrA, VC]
theorem EAddrA_own {sz b off len cap : Nat} {j : IntKind} {n : Int} : EAddrA P Q sz (.own b sz off len cap) (.d (.int j n)) d l k s = VC (0 ≤ n ∧ n < len) (EptrA P Q b sz off n d l k s) := by simp [EAddrA, VC]
theorem EptrA_eq {b sz off : Nat} {i : Int} : EptrA P Q b sz off i d l k s = RunL P Q l k (putS s d (.eptr b sz (off + i.toNat) 0) s.H) := rfl
theorem RunL_build {z : List AV} {parts : List (Nat × Nat × Opd)} : RunL P Q (⟨d, none, .build z parts⟩ :: l) k s = BuildA P Q (buildC z (evP s.t parts)) d l k s := rfl
theorem BuildA_some {cs : List AV} : BuildA P Q (some cs) d l k s = RunL P Q l k (putS s d (.agg cs) s.H) := rfl
def ExtA (P : Program) (Q : Out → St → Prop) (x : AV) (i : Nat) (d : Option Nat) (l : List AO) (k : List Item) (s : St) : Prop := match x with
  | .tup xs => VC (i < lenAV xs) (RunL P Q l k (putS s d (nth xs i) s.H))
  | _ => False
theorem RunL_extract {x : Opd} {i : Nat} : RunL P Q (⟨d, none, .extract x i⟩ :: l) k s = ExtA P Q (ev s.t x) i d l k s := rfl
theorem ExtA_eq {xs : List AV} {i : Nat} : ExtA P Q (.tup xs) i d l k s = VC (i < lenAV xs) (RunL P Q l k (putS s d (nth xs i) s.H)) := rfl
def lenV : AV → Option AV
  | .d (.sl _ xs) => some (.d (.int .i64 xs.length))
  | .nilsl _ => some (.d (.int .i64 0))
  | .own _ _ _ len _ => some (.d (.int .i64 len))
  | _ => none
theorem RunL_len {x : Opd} : RunL P Q (⟨d, none, .len x⟩ :: l) k s = MapA P Q (lenV (ev s.t x)) d l k s := by
  rw [RunL_op]
  simp only [opW, MapA, lenV]
  cases ev s.t x with
  | d x => cases x <;> rfl
  | _ => rfl
def IdxSA (x y : AV) (d : Option Nat) (l : List AO) (k : List Item) (s : St) (P : Program) (Q : Out → St → Prop) : Prop := match x, y with
  | .d (.str b), .d (.int _ m) => VC (0 ≤ m ∧ m < b.size) (RunL P Q l k (putS s d (.d (.int .u8 (strAt b m.toNat))) s.H))
  | _, _ => False
theorem RunL_idxStr {x i : Opd} : RunL P Q (⟨d, none, .idxStr x i⟩ :: l) k s = IdxSA (ev s.t x) (ev s.t i) d l k s P Q := by
  rw [RunL_op]
  simp only [opW]
  generalize ev s.t x = a
  generalize ev s.t i = b
  unfold IdxSA
  cases a <;> cases b <;> try rfl

theorem IdxSA_eq {b : ByteArray} {j : IntKind} {m : Int} : IdxSA (.d (.str b)) (.d (.int j m)) d l k s P Q = VC (0 ≤ m ∧ m < b.size) (RunL P Q l k (putS s d (.d (.int .u8 (strAt b m.toNat))) s.H)) := rfl
def slenV : AV → Option AV
  | .d (.str s) => some (.d (.int .i64 s.size))
  | _ => none
theorem RunL_slen {x : Opd} : RunL P Q (⟨d, none, .slen x⟩ :: l) k s = MapA P Q (slenV (ev s.t x)) d l k s := by
  rw [RunL_op]
  simp only [opW, MapA, slenV]
  cases ev s.t x with
  | d x => cases x <;> rfl
  | _ => rfl
def mmV (isMax : Bool) (x : AV) (xs : List AV) : Option AV := match x with
  | .d (.int k n) => match minmaxL isMax k n xs with
    | some m => some (.d (.int k m))
    | none => none
  | _ => none
theorem RunL_minmax {isMax : Bool} {x : Opd} {xs : List Opd} : RunL P Q (⟨d, none, .minmax isMax x xs⟩ :: l) k s = MapA P Q (mmV isMax (ev s.t x) (evL s.t xs)) d l k s := by
  rw [RunL_op]
  simp only [opW, MapA, mmV]
  cases ev s.t x with
  | d x =>
    cases x with
    | int k n => dsimp only; cases minmaxL isMax k n (evL s.t xs) <;> rfl
    | _ => rfl
  | _ => rfl
theorem RunL_call {f : FuncId} {args : List Opd} : RunL P Q (⟨d, none, .call f args⟩ :: l) k s = CallA P Q f (evL s.t args) d l k s := rfl
def CallvA (P : Program) (Q : Out → St → Prop) (g : AV) (args : List AV) (d : Option Nat) (l : List AO) (k : List Item) (s : St) : Prop := match g with
  | .fn f caps => CallA P Q f (args ++ caps) d l k s
  | .yld y => YldA P Q y args d l k s
  | _ => False
theorem RunL_callv {g : Opd} {args : List Opd} : RunL P Q (⟨d, none, .callv g args⟩ :: l) k s = CallvA P Q (ev s.t g) (evL s.t args) d l k s := rfl
theorem CallvA_yld {y : Nat} {args : List AV} : CallvA P Q (.yld y) args d l k s = YldA P Q y args d l k s := rfl
theorem CallvA_fn {f : FuncId} {caps args : List AV} : CallvA P Q (.fn f caps) args d l k s = CallA P Q f (args ++ caps) d l k s := rfl
def PCallA (P : Program) (Q : Out → St → Prop) (f : FuncId) (args : List AV) (d : Option Nat) (l : List AO) (k : List Item) (s : St) : Prop := PCallK P f args s.H fun r => RunL P Q l k (putS s d r s.H)
theorem RunL_pcall {f : FuncId} {args : List Opd} : RunL P Q (⟨d, none, .pcall f args⟩ :: l) k s = PCallA P Q f (evL s.t args) d l k s := rfl
def PCallvA (P : Program) (Q : Out → St → Prop) (g : AV) (args : List AV) (d : Option Nat) (l : List AO) (k : List Item) (s : St) : Prop := match g with
  | .fn f caps => PCallA P Q f (args ++ caps) d l k s
  | _ => False
theorem RunL_pcallv {g : Opd} {args : List Opd} : RunL P Q (⟨d, none, .pcallv g args⟩ :: l) k s = PCallvA P Q (ev s.t g) (evL s.t args) d l k s := rfl
theorem PCallvA_fn {f : FuncId} {caps args : List AV} : PCallvA P Q (.fn f caps) args d l k s = PCallA P Q f (args ++ caps) d l k s := rfl
end
end Go.Proofs.Ytlflfciebidddaa.Abs
