/- Part of the machine and the contracts of one law (joined by kmerge.py). No claim stands here. -/
import Derived.Below
import Derived.Carry
import Derived.ChangeCalls
import Derived.ChangeOld
import Derived.IntWalk
import Derived.KernelRfl
import Derived.Laws.Append
import Derived.Laws.AppendOwn
import Derived.Laws.BytesArg
import Derived.Laws.Cells
import Derived.Laws.CopyRow
import Derived.Laws.Entries
import Derived.Laws.MakeOwn
import Derived.Laws.NewFold
import Derived.Laws.Rows
import Derived.Laws.StructEq
import Derived.OpenShut
import Derived.Orders
import Derived.OrdersIn
import Derived.ProofKit
import Derived.RangeFuncLeaves
import Derived.RangeFuncSeq
import Derived.SizedLaws
import Derived.TacticsIn
import Derived.WalkKit
set_option maxRecDepth 100000
set_option linter.unusedSimpArgs false
set_option linter.unusedVariables false
namespace Go.Proofs.Ytlflfciebidddaa.Abs
open Go Go.RowKit Go.ChangeShapes
inductive D where
 | int (k:IntKind) (n:Int)
 | bool (b:Bool)
 | str (s:ByteArray)
 | sl (sz:Nat) (xs:List (List D))
 deriving Inhabited
inductive AV where
 | d (x:D)
 | agg (xs:List AV)
 | tup (xs:List AV)
 | nilp
 | nilsl (sz:Nat)
 | nilfn
 | ptr (b off:Nat)
 | eptr (b sz i j:Nat)
 | dptr (el:List D) (off:Nat)
 | own (b sz off len cap:Nat)
 | part (b sz off len cap:Nat)
 | fn (f:FuncId) (caps:List AV)
 | yld (l:Nat)
 | void
 | undef
 deriving Inhabited
inductive Blk where
 | box (t:TypeId) (cells:List AV)
 | row (t:TypeId) (sz cap:Nat) (xs:List (List D))
 | obj (o:Obj) (ts:List AV) (us:List Value)
abbrev Heap:=Nat→Option Blk
def AI (H:Heap) (b:Nat) (x:Option Blk):Heap:=fun k=>if b=k then x else H k
theorem AL (H:Heap) (b:Nat) (x:Option Blk) (k:Nat):AI H b x k=if b=k then x else H k:=rfl
def Heap.none:Heap:=fun _=>.none
abbrev TM:=Nat→AV
def Jm (t:TM) (m:Nat) (v:AV):TM:=fun n=>bif m == n then v else t n
theorem Au (t:TM) (m:Nat) (v:AV) (n:Nat):Jm t m v n=bif m == n then v else t n:=rfl
structure St where
 n:Nat
 t:TM
 H:Heap
inductive Opd where
 | t (n:Nat)
 | c (v:AV)
def ev (t:TM):Opd→AV
 | .t n=>t n
 | .c v=>v
def Ab (t:TM):List Opd→List AV
 | []=>[]
 | x::xs=>ev t x::Ab t xs
def AS (t:TM):Option Opd→Option AV
 | none=>none
 | some x=>some (ev t x)
inductive AOp where
 | mov (x:Opd)
 | pick (c a b:Opd)
 | alloc (t:TypeId) (zero:List AV)
 | box (t:TypeId) (x:Opd)
 | load (agg:Option Nat) (p:Opd)
 | loadS (agg:Option Nat) (p:Opd) (news:List Nat)
 | loadD (g:Option Nat) (p:Opd)
 | loadP (g:Option Nat) (d c:Nat)
 | store (size:Nat) (p v:Opd)
 | storeS (size:Nat) (d:Nat) (v:Opd)
 | storeK (size:Nat) (p v:Opd) (keep:List Nat)
 | isNil (neg:Bool) (x:Opd)
 | bad
 | bin (op:BinOp) (x y:Opd)
 | binb (neg:Bool) (x y:Opd)
 | eqAgg (neg:Bool) (ks:List Nat) (x y:Opd)
 | un (op:UnOp) (x:Opd)
 | conv (k:IntKind) (x:Opd)
 | nilCheck (x:Opd)
 | mkfn (f:FuncId) (caps:List Opd)
 | fieldAddr (off:Nat) (x:Opd)
 | field (off:Nat) (agg:Option Nat) (x:Opd)
 | elemAddr (sz:Nat) (x i:Opd)
 | arrAddr (n sz:Nat) (x i:Opd)
 | idxArr (n sz:Nat) (agg:Option Nat) (x i:Opd)
 | build (zero:List AV) (parts:List (Nat×Nat×Opd))
 | buildSlice (t:TypeId) (sz len:Nat) (zero:List AV) (parts:List (Nat×Opd))
 | buildSliceD (t:TypeId) (sz len:Nat) (zero:List AV) (parts:List (Nat×Opd))
 | make (t:TypeId) (sz bytes:Nat) (zero:List AV) (l:Opd)
 | extract (x:Opd) (i:Nat)
 | slice (sz:Nat) (x:Opd) (lo hi:Option Opd)
 | slice3 (sz:Nat) (x:Opd) (lo hi mx:Option Opd)
 | cap (x:Opd)
 | clear (sz:Nat) (z:List AV) (x:Opd)
 | appendN (t:TypeId) (sz bytes:Nat) (z:List AV) (s n:Opd)
 | len (x:Opd)
 | slen (x:Opd)
 | idxStr (x i:Opd)
 | strOf (x:Opd)
 | strSlice (x:Opd) (lo hi:Option Opd)
 | append (t:TypeId) (sz bytes:Nat) (zero:List AV) (s x:Opd)
 | minmax (isMax:Bool) (x:Opd) (xs:List Opd)
 | call (f:FuncId) (args:List Opd)
 | callv (g:Opd) (args:List Opd)
 | ncall (f:FuncId) (args:List Opd)
 | storeR (n:Nat) (p v:Opd)
 | callS (f:FuncId) (args:List Opd) (keep:List Nat)
 | callvS (g:Opd) (args:List Opd) (keep:List Nat)
 | pcall (f:FuncId) (args:List Opd)
 | pcallv (g:Opd) (args:List Opd)
structure AO where
 dst:Option Nat
 guard:Option (Nat×Bool)
 op:AOp
abbrev oo (d:Nat) (x:AOp):AO:=⟨some d,none,x⟩
abbrev om (d s:Nat):AO:=⟨some d,none,.mov (.t s)⟩
abbrev on (x:AOp):AO:=⟨none,none,x⟩
abbrev og (d g:Nat) (b:Bool) (x:AOp):AO:=⟨some d,some (g,b),x⟩
abbrev cI (n:Int):Opd:=.c (.d (.int .i64 n))
abbrev cB (b:Bool):Opd:=.c (.d (.bool b))
abbrev zI:AV:=.d (.int .i64 0)
inductive ACode where
 | skip
 | ops (l:List AO)
 | dops (l:List AO)
 | seq (a b:ACode)
 | cond (c:Opd) (a b:ACode)
 | block (id:Nat) (a:ACode)
 | loop (a:ACode)
 | rangef (g:Opd) (ps:List Nat) (asg body:ACode)
 | exit (id:Nat)
 | ret
def GS:ACode→Bool
 | .seq a b | .cond _ a b=>GS a&&GS b
 | .block _ a | .loop a=>GS a
 | .rangef ..=>false
 | _=>true
inductive ARes where
 | tmp (t:Nat)
 | cell (t:Nat) (agg:Option Nat)
structure AFunc where
 n:Nat
 results:List ARes
 body:ACode
def Np:Value→AV
 | .int k n=>.d (.int k n)
 | .bool b=>.d (.bool b)
 | .string s=>.d (.str s)
 | .pointer none=>.nilp
 | .nilFunc=>.nilfn
 | _=>.undef
def OW (P:Program):Nat→TypeId→Option (List AV)
 | 0,_=>none
 | d+1,t =>
  match P.underlying t with
  | some (.int k)=>some [.d (.int k 0)]
  | some .bool=>some [.d (.bool false)]
  | some .string=>some [.d (.str ByteArray.empty)]
  | some (.pointer _)=>some [.nilp]
  | some (.slice e)=>some [.nilsl (P.cellsOf e)]
  | some (.func ..)=>some [.nilfn]
  | some (.struct fs)=>fs.toList.foldr (fun f acc=>match OW P d f.type,acc with | some a,some b=>some (a++b) | _,_=>none) (some [])
  | some (.array n e)=>match OW P d e with | some a=>some (List.flatten (List.replicate n a)) | none=>none
  | _=>none
def Oy:AV→Value→Bool
 | .d (.int k n),.int k' n'=>k == k'&&n == n'
 | .d (.bool b),.bool b'=>b == b'
 | .d (.str s),.string s'=>decide (s=s')
 | .nilp,.pointer none=>true
 | .nilsl _,.slice none 0 0=>true
 | .nilfn,.nilFunc=>true
 | _,_=>false
def K5:List AV→List Value→Bool
 | [],[]=>true
 | a::as,v::vs=>Oy a v&&K5 as vs
 | _,_=>false
def Gu (P:Program) (t:TypeId):Option (List AV) :=
 match P.info? t,OW P 12 t with
 | some i,some z=>match i.zero with
  | some v=>if K5 z v.cells.toList&&z.length == i.size then some z else none
  | none=>none
 | _,_=>none
def GV (P:Program) (t:TypeId):Option (Option Nat) :=
 match P.underlying t,P.info? t with
 | some (.struct _),some i | some (.array ..),some i=>some (some i.size)
 | some _,some _=>some none
 | _,_=>none
def J4 (P:Program) (f:FuncId):Bool :=
 match P.funcs[f]? with
 | some fn=>fn.body.isSome&&fn.name != "runtime.NumGoroutine"
 | none=>false
def Pg:Value→AV
 | .slice none 0 0=>.nilsl 0
 | .agg cs=>if cs.toList.all (·.oneCell') then .agg (cs.toList.map Np) else .undef
 | v=>Np v
def Eo (P:Program):Operand→Opd
 | .tmp t=>.t t
 | .const v=>.c (Pg v)
 | .global _=>.c .undef
 | .func f=>.c (if J4 P f then .fn f [] else .undef)
def KC (P:Program) (fs:Array Field):List (Nat×Operand)→Option (List (Nat×Nat×Opd))
 | []=>some []
 | (i,a)::r=>match fs[i]?,KC P fs r with
  | some f,some l=>some ((f.offset,P.cellsOf f.type,Eo P a)::l)
  | _,_=>none
def QK (P:Program) (fn:Fn) (first caps:List Operand):Option AOp :=
 match fn,first with
 | .func f,[]=>if J4 P f then some (.mkfn f (caps.map (Eo P))) else none
 | _,_=>none
def TO (P:Program) (b:Builtin) (args:List Operand) (ts:List TypeId):Option AOp :=
 match b with
 | .len=>match args,ts with
  | [a],[t]=>match P.underlying t with
   | some (.slice _)=>some (.len (Eo P a))
   | some .string=>some (.slen (Eo P a))
   | _=>none
  | _,_=>none
 | .append=>match args,ts with
  | [a,b],[t,u]=>match P.underlying t with
   | some (.slice e)=>match P.info? e,Gu P e with
    | some j,some z=>if j.size≠0∧j.bytes≠0∧t=u then some (.append e j.size j.bytes z (Eo P a) (Eo P b)) else
     (match P.underlying u with
     | some (.int _)=>if j.size≠0∧j.bytes≠0 then some (.appendN e j.size j.bytes z (Eo P a) (Eo P b)) else none
     | _=>none)
    | _,_=>none
   | _=>none
  | _,_=>none
 | .cap=>match args,ts with
  | [a],[t]=>match P.underlying t with
   | some (.slice _)=>some (.cap (Eo P a))
   | _=>none
  | _,_=>none
 | .clear=>match args,ts with
  | [a],[t]=>match P.underlying t with
   | some (.slice e)=>match P.info? e,Gu P e with
    | some j,some z=>if j.size≠0 then some (.clear j.size z (Eo P a)) else none
    | _,_=>none
   | _=>none
  | _,_=>none
 | .min=>match args with
  | a::r=>some (.minmax false (Eo P a) (r.map (Eo P)))
  | []=>none
 | .max=>match args with
  | a::r=>some (.minmax true (Eo P a) (r.map (Eo P)))
  | []=>none
 | _=>none
def TQ (P:Program) (c:Callee) (args:List Operand) (ts:List TypeId):Option AOp :=
 match c with
 | .builtin b=>TO P b args ts
 | .value (.func f)=>if J4 P f then some (.call f (args.map (Eo P))) else none
 | .value (.tmp t)=>some (.callv (.t t) (args.map (Eo P)))
 | _=>none
def MO (P:Program):Nat→List Field→Option (List Nat)
 | _,[]=>some []
 | o,f::r=>if f.offset=o∧f.name≠"_" then
   match P.underlying f.type,MO P (o+1) r with
   | some (.int _),some ks=>some (0::ks)
   | some .bool,some ks=>some (1::ks)
   | some .string,some ks=>some (2::ks)
   | _,_=>none
  else none
def I5 (P:Program):Nat→List Field→Option (List Nat)
 | _,[]=>some []
 | o,f::r=>if f.offset=o∧f.name≠"_" then
   match P.underlying f.type with
   | some (.int _)=>(I5 P (o+1) r).map (0::·)
   | some .bool=>(I5 P (o+1) r).map (1::·)
   | some .string=>(I5 P (o+1) r).map (2::·)
   | some (.struct fs)=>match MO P 0 fs.toList with
    | some ks=>if P.stoodInHeld f.type=false∧GV P f.type=some (some ks.length) then (I5 P (o+ks.length) r).map (ks++·) else none
    | none=>none
   | _=>none
  else none
def Mt (P:Program) (o:Op):Option AOp :=
 let x:=Eo P
 match o with
 | .move a | .assign a=>some (.mov (x a))
 | .pick c a b=>some (.pick (x c) (x a) (x b))
 | .alloc e=>(Gu P e).map (.alloc e)
 | .box e a=>some (.box e (x a))
 | .load t p=>(GV P t).map fun g=>.load g (x p)
 | .store t p v=>(P.info? t).map fun i=>.store i.size (x p) (x v)
 | .binOp op t a b _ =>
  match P.underlying t with
  | some (.struct fs)=>match I5 P 0 fs.toList with
   | some ks=>if !P.stoodInHeld t&&!P.eqGuardType P.depth t then (match op with | .eql=>some (.eqAgg false ks (x a) (x b)) | .neq=>some (.eqAgg true ks (x a) (x b)) | _=>none) else none
   | none=>none
  | some (.int _) | some .string=>some (.bin op (x a) (x b))
  | some .bool=>match op with | .eql=>some (.binb false (x a) (x b)) | .neq=>some (.binb true (x a) (x b)) | _=>none
  | some (.slice _)=>match b with
   | .const (.slice none 0 0)=>(match op with | .eql=>some (.isNil false (x a)) | .neq=>some (.isNil true (x a)) | _=>none)
   | _=>none
  | _=>none
 | .unOp op _ a=>some (.un op (x a))
 | .convert src dst a=>match P.underlying src,P.underlying dst with
  | some (.int _),some (.int k)=>some (.conv k (x a))
  | some (.slice e),some .string=>match P.underlying e with
   | some (.int .u8)=>some (.strOf (x a))
   | _=>none
  | _,_=>none
 | .nilCheck a=>some (.nilCheck (x a))
 | .makeFunc fn first caps=>QK P fn first.toList caps.toList
 | .fieldAddr s a i=>match P.underlying s with
  | some (.struct fs)=>match fs[i]? with
   | some f=>if (P.info? f.type).any (·.size≠0) then some (.fieldAddr f.offset (x a)) else none
   | none=>none
  | _=>none
 | .field s a i=>match P.underlying s with
  | some (.struct fs)=>match fs[i]? with
   | some f=>(GV P f.type).map fun g=>.field f.offset g (x a)
   | none=>none
  | _=>none
 | .indexAddr t a i=>match P.underlying t with
  | some (.slice e)=>match P.info? e with
   | some j=>if j.size≠0 then some (.elemAddr j.size (x a) (x i)) else none
   | none=>none
  | some (.array n e)=>match P.info? e with
   | some j=>if j.size≠0∧2≤n then some (.arrAddr n j.size (x a) (x i)) else none
   | none=>none
  | _=>none
 | .index t a i=>match P.underlying t with
  | some (.array n e)=>match P.info? e,GV P e with
   | some j,some g=>if j.size≠0 then some (.idxArr n j.size g (x a) (x i)) else none
   | _,_=>none
  | some .string=>some (.idxStr (x a) (x i))
  | _=>none
 | .build t parts=>match P.underlying t,Gu P t with
  | some (.struct fs),some z=>if fs.toList.all (fun f=>(P.info? f.type).isSome) then (KC P fs parts.toList).map (.build z) else none
  | some (.array _ e),some z=>match P.info? e with
   | some j=>some (.build z (parts.toList.map fun (i,a)=>(i*j.size,j.size,x a)))
   | none=>none
  | _,_=>none
 | .buildSlice t len parts=>match P.underlying t with
  | some (.slice e)=>match P.info? e,Gu P e with
   | some j,some z=>if j.size≠0∧len*j.size≤1000 then some (.buildSlice e j.size len z (parts.toList.map fun (i,a)=>(i,x a))) else none
   | _,_=>none
  | _=>none
 | .makeSlice t (.tmp l) (.tmp c)=>match P.underlying t with
  | some (.slice e)=>match P.info? e,Gu P e with
   | some j,some z=>if j.size≠0∧l=c then some (.make e j.size j.bytes z (.t l)) else none
   | _,_=>none
  | _=>none
 | .extract a i=>some (.extract (x a) i)
 | .slice t a lo hi mx=>match P.underlying t,mx with
  | some (.slice e),none=>match P.info? e with
   | some j=>some (.slice j.size (x a) (lo.map x) (hi.map x))
   | none=>none
  | some (.slice e),some m=>match P.info? e with
   | some j=>some (.slice3 j.size (x a) (lo.map x) (hi.map x) (some (x m)))
   | none=>none
  | some .string,none=>some (.strSlice (x a) (lo.map x) (hi.map x))
  | _,_=>none
 | .call c=>TQ P c.callee c.args.toList c.argTypes.toList
 | .panic _ | .makeInterface ..=>some .bad
 | _=>none
def Ot (all:Array Oper):Option (Nat×Bool)→Option (Option (Nat×Bool))
 | none=>some none
 | some (j,want)=>match (all[j]?).bind (·.dst) with
  | some d=>some (some (d,want))
  | none=>none
def MW (P:Program) (all:Array Oper) (o:Oper):Option AO :=
 match Ot all o.guard,Mt P o.op with
 | some g,some op=>some ⟨o.dst,g,op⟩
 | _,_=>none
def IT (P:Program) (all:Array Oper):List Oper→Option (List AO)
 | []=>some []
 | o::r=>match MW P all o,IT P all r with
  | some a,some l=>some (a::l)
  | _,_=>none
def Ig:Opd→List Nat
 | .t n=>[n]
 | .c _=>[]
def Gb:AOp→List Opd
 | .mov x | .strOf x | .isNil _ x | .box _ x | .load _ x | .loadD _ x | .un _ x | .conv _ x | .nilCheck x | .fieldAddr _ x | .field _ _ x | .extract x _ | .make _ _ _ _ x | .len x | .slen x | .cap x | .clear _ _ x=>[x]
 | .pick a b c=>[a,b,c]
 | .alloc .. | .bad=>[]
 | .loadS _ x _=>[x]
 | .loadP _ d c=>[.t d,.t c]
 | .callS _ xs l=>xs++l.map .t
 | .callvS g xs l=>g::(xs++l.map .t)
 | .storeS _ d v=>[.t d,v]
 | .storeK _ p v l=>p::v::l.map .t
 | .store _ a b | .storeR _ a b | .bin _ a b | .binb _ a b | .eqAgg _ _ a b | .idxStr a b | .elemAddr _ a b | .arrAddr _ _ a b | .idxArr _ _ _ a b | .append _ _ _ _ a b | .appendN _ _ _ _ a b=>[a,b]
 | .mkfn _ xs=>xs
 | .build _ ps=>ps.map (·.2.2)
 | .buildSlice _ _ _ _ ps | .buildSliceD _ _ _ _ ps=>ps.map (·.2)
 | .slice _ x lo hi=>x::(lo.toList++hi.toList)
 | .strSlice x lo hi=>x::(lo.toList++hi.toList)
 | .slice3 _ x lo hi mx=>x::(lo.toList++hi.toList++mx.toList)
 | .minmax _ x xs=>x::xs
 | .call _ xs | .pcall _ xs | .ncall _ xs=>xs
 | .callv g xs | .pcallv g xs=>g::xs
def IW (o:AO):List Nat:=(Gb o.op).flatMap Ig++(match o.guard with | some (g,_)=>[g] | none=>[])
def Hf:AOp→List Nat
 | .loadS _ _ l=>l
 | _=>[]
def Ei:AOp→Nat
 | .load .. | .loadS .. | .loadP .. | .pcall .. | .pcallv ..=>1
 | .alloc .. | .box .. | .buildSliceD ..=>2
 | .store .. | .storeS .. | .storeK .. | .isNil .. | .append .. | .call .. | .callv .. | .callvS .. | .callS .. | .buildSlice .. | .make .. | .clear .. | .appendN .. | .strOf .. | .ncall .. | .storeR ..=>3
 | _=>0
def MQ (o:Oper):List Nat:=(o.after.toList.filter (Region.binds .any)).map (·.on)
def ST (ops:List Oper):List (List Nat) :=
 ops.foldl (fun acc o=>acc++[((MQ o).flatMap fun k=>k::acc.getD k []).eraseDups]) []
def XV:AOp→Nat
 | .alloc ..=>3
 | op=>if Ei op=3 then 4 else Ei op
def KF (ordered ld:Bool) (news:List Nat) (lp:Option Nat) (keep:Option (List Nat)) (sk:Option (List Nat)):AOp→AOp
 | .buildSlice a b c d e=>(match sk with | some _=>.buildSlice a b c d e | none=>.buildSliceD a b c d e)
 | .call f xs=>if ordered then .call f xs else (match keep with | some l=>.callS f xs l | none=>.pcall f xs)
 | .callv g xs=>if ordered then .callv g xs else (match keep with | some l=>.callvS g xs l | none=>.pcallv g xs)
 | .load g x=>if ld then .loadD g x else if lp.isSome then (match x with | .t d=>.loadP g d (lp.getD 0) | _=>.load g x) else if news.isEmpty then .load g x else .loadS g x news
 | .store n (.t d) v=>(match sk with | some l=>.storeK n (.t d) v l | none=>if news.contains d then .storeS n d v else .store n (.t d) v)
 | op=>op
def LO (nc ordered ld:Bool) (news:List Nat) (lp:Option Nat) (keep:Option (List Nat)) (sk:Option (List Nat)) (op:AOp):AOp :=
 if nc then (match op with | .call f xs=>.ncall f xs | .store n p v=>.storeR n p v | op=>op) else KF ordered ld news lp keep sk op
def TD (after:List (List Nat)) (cls:List Nat):Nat→List Nat→List Nat→List Nat
 | 0,_,acc=>acc.reverse
 | n+1,left,acc =>
  let ready:=left.filter fun i=>(after.getD i []).all acc.contains
  let best:=[0,1,2,3,4,5,6].findSome? fun c=>ready.find? fun i=>cls.getD i 0 == c
  match best with
  | some i=>TD after cls n (left.filter (· != i)) (i::acc)
  | none=>acc.reverse
def Nm (a b:AO):Bool :=
 (match a.dst with | some d=>!(IW b).contains d&&!(Hf b.op).contains d&&b.dst != some d | none=>true) &&
 (match b.dst with | some d=>!(IW a).contains d&&(!(Hf a.op).contains d||(match b.op with | .alloc ..=>true | _=>false)) | none=>true) &&
 (Ei a.op == 0||(Ei a.op == 1&&decide (Ei b.op≤2))||(Ei a.op == 2&&(b.guard == none||b.guard == a.guard)&&(match a.op,b.op with | _,.alloc .. | .alloc ..,.buildSliceD .. | .buildSliceD ..,.buildSliceD ..=>true | _,_=>false)) ||
  (match a.op,b.op with
   | .loadS _ _ l,.storeS _ d _=>l.contains d
   | .loadP _ _ c,.callS _ _ l=>l.contains c
   | .loadP _ _ c,.callvS _ _ l=>l.contains c
   | .loadP ..,.append ..=>true
   | .loadP ..,.buildSlice ..=>true
   | .load ..,.make ..=>true
   | .load ..,.ncall ..=>true
   | .loadP ..,.storeR ..=>true
   | .loadP _ _ c,.storeK _ _ _ l=>l.contains c
   | .append ..,.alloc .. | .append ..,.buildSliceD ..=>b.guard == none
   | .callS ..,.alloc ..=>b.guard == none
   | .pcall ..,.storeS .. | .pcallv ..,.storeS ..=>true
   | _,_=>false))
def KQ (after clo:List (List Nat)) (aos:List AO) (i j:Nat):Bool :=
 !(after.getD i []).contains j&&i != j&&((clo.getD j []).contains i||(match aos[i]?,aos[j]? with | some a,some b=>Nm a b | _,_=>false))
def NG (after clo:List (List Nat)) (aos:List AO):List Nat→Bool
 | []=>true
 | i::r=>r.all (KQ after clo aos i)&&NG after clo aos r
def TU (after clo:List (List Nat)):Bool :=
 (List.range clo.length).all fun j=>(clo.getD j []).all fun i=>(after.getD j []).any fun k=>k == i||(clo.getD k []).contains i
def Lh (aos:List AO):List Nat→Option (List AO)
 | []=>some []
 | i::r=>match aos[i]?,Lh aos r with | some a,some l=>some (a::l) | _,_=>none
def S7 (P:Program) (f:FuncId):Bool:=match P.funcs[f]? with
 | some fn=>(match fn.params.toList,fn.resultTypes.toList with
  | [t],[u]=>t == u&&(match P.underlying t with | some (.slice _)=>true | _=>false)
  | _,_=>false)
 | none=>false
def F7 (P:Program) (md:Nat) (ops:Array Oper):Option ACode :=
 match IT P ops ops.toList with
 | none=>none
 | some aos0 =>
  let after:=ops.toList.map MQ
  let clo:=ST ops.toList
  let heavy:=(List.range aos0.length).filter fun i=>match aos0[i]? with | some a=>Ei a.op != 0 | none=>true
  let stores:=(List.range aos0.length).filter fun i=>match aos0[i]? with | some a=>Ei a.op == 3 | none=>true
  let lds:=fun i=>md == 2&&stores.any fun j=>i != j&&!(clo.getD i []).contains j&&!(clo.getD j []).contains i
  let ordered:=fun i=>heavy.all fun j=>i == j||(clo.getD i []).contains j||(clo.getD j []).contains i
  let apart:=fun i j=>i != j&&!(clo.getD i []).contains j&&!(clo.getD j []).contains i
  let open1:=fun i=>heavy.filter fun j=>apart i j
  let baseOf:=fun d=>if md == 7 then (match aos0.find? (fun a=>a.dst == some d) with | some a=>(match a.op with | .fieldAddr _ (.t e)=>if aos0.any (fun a=>a.dst == some e) then d else e | _=>d) | none=>d) else d
  let adrOf:=fun j=>match aos0[j]? with | some a=>(match a.op with | .load _ (.t d)=>some (baseOf d) | _=>none) | none=>none
  let isAl:=fun j=>match aos0[j]? with | some a=>(match a.op with | .alloc ..=>true | _=>false) | none=>false
  let keeps:=fun i=>if md == 7 then (let o:=(open1 i).filter fun j=>!(isAl j); if o.all (fun j=>(adrOf j).isSome) then some (o.filterMap adrOf) else none) else if (md == 3||md == 4)&&(open1 i).all (fun j=>(adrOf j).isSome) then some ((open1 i).filterMap adrOf) else none
  let isSt:=fun j=>match aos0[j]? with | some a=>(match a.op with | .store ..=>true | _=>false) | none=>false
  let lps:=fun i=>if (md == 3||md == 4||md == 5||md == 6||md == 7||md == 8)&&stores.any (fun j=>apart i j&&(md != 6||isSt j)) then adrOf i else none
  let ncs:=fun i=>md == 6&&(match aos0[i]? with
   | some a=>(match a.op with
    | .call f _=>!(ordered i)&&S7 P f
    | .store ..=>!(open1 i).isEmpty&&(open1 i).all (fun j=>(adrOf j).isSome)
    | _=>false)
   | none=>false)
  let isBS:=fun j=>match aos0[j]? with | some a=>(match a.op with | .buildSlice ..=>true | _=>false) | none=>false
  let sks:=fun i=>if md == 8 then (if isBS i&&(open1 i).all (fun j=>(adrOf j).isSome) then some [] else none) else if md == 4&&!(ordered i)&&!(isBS i) then keeps i else none
  let news0:=aos0.filterMap fun a=>match a.op with | .alloc ..=>a.dst | _=>none
  let dsts:=aos0.filterMap fun a=>a.dst
  let outs:=if md == 1 then aos0.filterMap fun a=>match a.op with | .store _ (.t d) _=>if dsts.contains d then none else some d | _=>none else []
  let news:=outs++(if aos0.any (fun a=>match a.op with | .store _ (.t d) _=>news0.contains d | _=>false) then news0 else [])
  let aos:=aos0.zipIdx.map fun (a,i)=>({ a with op:=LO (ncs i) (ordered i) (lds i) news (lps i) (keeps i) (sks i) a.op }:AO)
  let ord:=TD after (aos.map fun a=>match a.op with | .alloc ..=>if md == 4||md == 8 then 6 else if md == 3||md == 7 then 5 else 3 | .buildSliceD ..=>if md == 4||md == 8 then 5 else 2 | op=>XV op) aos.length (List.range aos.length) []
  if P.follows .mixedOrders&&ord.length == aos.length&&TU after clo&&NG after clo aos ord&&ord.all (fun i=>decide (i<aos.length)&&!(after.getD i []).contains i) &&
   (List.range aos.length).all ord.contains&&after.all (·.all (decide <| · < aos.length))&&clo.length == aos.length then (Lh aos ord).map .dops else none
def ARE (ops:Array Oper):Bool:=ops.any fun o=>match o.op with | .makeFunc _ _ caps=>caps.size != 0 | .call c=>(match c.callee with | .value (.tmp _)=>true | _=>false) | _=>false
def Qc (l:List AO):Nat→Nat→Bool
 | 0,_=>true
 | n+1,d=>match l.find? (fun o=>o.dst == some d) with
  | some o=>(match o.op with
   | .fieldAddr _ (.t e)=>(l.any fun q=>q.dst == some e)&&Qc l n e
   | _=>true)
  | none=>true
def Pt:ACode→Bool
 | .dops l=>l.any fun o=>match o.op with | .loadD _ (.t d)=>!(Qc l 8 d) | _=>false
 | _=>false
def APw (P:Program) (ops:Array Oper):Bool:=match IT P ops ops.toList with
 | some aos=>decide (2≤(aos.filter fun a=>match a.op with | .call f _=>S7 P f | _=>false).length)
 | none=>false
def O6 (P:Program) (ops:Array Oper):Option ACode:=if APw P ops&&(F7 P 6 ops).isSome then F7 P 6 ops else if ARE ops&&(F7 P 3 ops).isSome then F7 P 3 ops else match F7 P 0 ops with
 | some c=>some c
 | none=>match F7 P 1 ops with
  | some c=>some c
  | none=>match F7 P 2 ops with
   | some c=>if Pt c&&(F7 P 3 ops).isSome then F7 P 3 ops else if Pt c&&(F7 P 5 ops).isSome then F7 P 5 ops else if Pt c&&(F7 P 6 ops).isSome then F7 P 6 ops else some c
   | none=>match F7 P 3 ops with
    | some c=>some c
    | none=>F7 P 4 ops
def ARK (P:Program) (f:FuncId):Bool:=match P.funcs[f]? with
 | some fn=>fn.params.toList.any fun t=>match P.underlying t with | some (.pointer _)=>true | _=>false
 | none=>false
def ALv (P:Program):ACode→Bool
 | .dops l=>l.any fun o=>match o.op with | .pcall f _=>ARK P f | _=>false
 | _=>false
def ABc (P:Program) (ops:Array Oper):Bool:=match IT P ops ops.toList with
 | some aos =>
  let clo:=ST ops.toList
  (List.range aos.length).any fun i=>(match aos[i]? with | some a=>(match a.op with | .buildSlice ..=>true | _=>false) | none=>false) &&
   (clo.getD i []).any fun j=>match aos[j]? with | some a=>(match a.op with | .append ..=>true | _=>false) | none=>false
 | none=>false
def O3 (P:Program) (ops:Array Oper):Option ACode:=if ABc P ops&&(F7 P 8 ops).isSome then F7 P 8 ops else match O6 P ops with
 | some c=>if ALv P c&&(F7 P 7 ops).isSome then F7 P 7 ops else some c
 | none=>none
def Fi (P:Program):Code→Option ACode
 | .skip=>some .skip
 | .region _ ops draw=>if draw then O3 P ops else (IT P ops ops.toList).map .ops
 | .seq a b=>match Fi P a,Fi P b with | some x,some y=>some (.seq x y) | _,_=>none
 | .cond c a b=>match Fi P a,Fi P b with | some x,some y=>some (.cond (Eo P c) x y) | _,_=>none
 | .block id a=>(Fi P a).map (.block id)
 | .loop a=>(Fi P a).map .loop
 | .rangeFunc g ps a b=>match Fi P a,Fi P b with | some x,some y=>if GS x&&GS y then some (.rangef (Eo P g) ps.toList x y) else none | _,_=>none
 | .exit id=>some (.exit id)
 | .ret=>some .ret
 | _=>none
def KB (P:Program):List ResultVar→Option (List ARes)
 | []=>some []
 | .tmp t::r=>(KB P r).map (.tmp t::·)
 | .cell a t::r=>match GV P t,KB P r with | some g,some l=>some (.cell a g::l) | _,_=>none
def A0 (P:Program) (f:FuncId):Option AFunc :=
 match P.funcs[f]? with
 | some fn=>match fn.body with
  | some c=>match Fi P c,KB P fn.results.toList with
   | some b,some r=>some ⟨fn.ntmps,r,b⟩
   | _,_=>none
  | none=>none
 | none=>none
inductive RD (F:Nat→Prop) (w:World):D→Value→Prop
 | int (k:IntKind) (n:Int):RD F w (.int k n) (.int k n)
 | bool (b:Bool):RD F w (.bool b) (.bool b)
 | str (s:ByteArray):RD F w (.str s) (.string s)
 | nil (sz:Nat) (a:Option Addr) (cap:Nat):RD F w (.sl sz []) (.slice a 0 cap)
 | sl (sz:Nat) (xs:List (List D)) (b off cap:Nat) (u:Nat→Value) (hF:F b) (hcap:xs.length≤cap) (hsz:∀el∈xs,el.length=sz)
   (hc:∀(i j:Nat) el c,xs[i]? = some el→el[j]? = some c→w.cell? ⟨b,off+(i*sz+j),none⟩=some (u (i*sz+j)))
   (hr:∀(i j:Nat) el c,xs[i]? = some el→el[j]? = some c→RD F w c (u (i*sz+j))):RD F w (.sl sz xs) (.slice (some ⟨b,off,none⟩) xs.length cap)
inductive VR (P:Program) (F:Nat→Prop) (w:World):AV→Value→Prop
 | d (x:D) (v:Value) (h:RD F w x v):VR P F w (.d x) v
 | agg (xs:List AV) (cs:List Value) (hl:xs.length=cs.length) (h:∀(j:Nat) x v,xs[j]? = some x→cs[j]? = some v→VR P F w x v)
   (h1:∀v∈cs,v.oneCell'=true):VR P F w (.agg xs) (.agg cs.toArray)
 | tup (xs:List AV) (cs:List Value) (hl:xs.length=cs.length) (h:∀(j:Nat) x v,xs[j]? = some x→cs[j]? = some v→VR P F w x v):VR P F w (.tup xs) (.tuple cs.toArray)
 | nilp:VR P F w .nilp (.pointer none)
 | nilsl (sz:Nat):VR P F w (.nilsl sz) (.slice none 0 0)
 | nilfn:VR P F w .nilfn .nilFunc
 | ptr (b off:Nat):VR P F w (.ptr b off) (.pointer (some ⟨b,off,none⟩))
 | eptr (b sz i j:Nat):VR P F w (.eptr b sz i j) (.pointer (some ⟨b,i*sz+j,none⟩))
 | dptr (el:List D) (off b o:Nat) (us:List Value) (hF:F b) (hl:el.length=us.length) (hc:∀(j:Nat) u,us[j]? = some u→w.cell? ⟨b,o+j,none⟩=some u)
   (hr:∀(j:Nat) c u,el[j]? = some c→us[j]? = some u→RD F w c u):VR P F w (.dptr el off) (.pointer (some ⟨b,o+off,none⟩))
 | own (b sz off len cap:Nat) (h:len≤cap):VR P F w (.own b sz off len cap) (.slice (some ⟨b,off*sz,none⟩) len cap)
 | part (b sz off len cap o:Nat) (h:len≤cap) (ho:cap=0∨o=off*sz):VR P F w (.part b sz off len cap) (.slice (some ⟨b,o,none⟩) len cap)
 | fn (f:FuncId) (xs:List AV) (cs:List Value) (hf:J4 P f=true) (hl:xs.length=cs.length)
   (h:∀(j:Nat) x v,xs[j]? = some x→cs[j]? = some v→VR P F w x v):VR P F w (.fn f xs) (.func (.func f) #[] cs.toArray)
 | yld (l:Nat):VR P F w (.yld l) (.func (.yield l) #[] #[])
 | void:VR P F w .void Go.undef
 | undef (v:Value):VR P F w .undef v
def VRL (P:Program) (F:Nat→Prop) (w:World) (xs:List AV) (cs:List Value):Prop :=
 xs.length=cs.length∧∀(j:Nat) x v,xs[j]? = some x→cs[j]? = some v→VR P F w x v
def BR (P:Program) (F:Nat→Prop) (w:World) (b:Nat):Blk→Prop
 | .box t cells=>∃cur:List Value,w.heap[b]? = some (.cells cur.toArray t (0,0))∧VRL P F w cells cur∧∀v∈cur,v.oneCell'=true
 | .row t sz cap xs=>∃cur:List Value,w.heap[b]? = some (.cells cur.toArray t (0,0))∧cur.length=cap*sz∧xs.length≤cap∧cap≤maxLen∧0<sz ∧
   (∀el∈xs,el.length=sz)∧(∀(i j:Nat) el c u,xs[i]? = some el→el[j]? = some c→cur[i*sz+j]? = some u→RD F w c u)∧∀v∈cur,v.oneCell'=true
 | .obj o ts us=>w.heap[b]? = some o∧VRL P F w ts us
structure HRel (P:Program) (F:Nat→Prop) (H:Heap) (w:World):Prop where
 at_:∀b x,H b=some x→BR P F w b x
 apart:∀b x,H b=some x→¬F b
 old:∀b,F b→b<w.heap.size
structure Step (F:Nat→Prop) (H:Heap) (w:World) (F':Nat→Prop) (H':Heap) (w':World):Prop where
 os:w'.os=w.os
 tape:w'.tape=w.tape
 output:w'.output=w.output
 size:w.heap.size≤w'.heap.size
 keep:∀k,k<w.heap.size→H k=none→w'.heap[k]? = w.heap[k]?
 dom:∀k,H' k≠none→H k≠none∨w.heap.size≤k
 mono:∀k,F k→F' k
 new:∀k,F' k→F k∨H k≠none∨w.heap.size≤k
def CallW (P:Program) (f:FuncId) (args:List AV) (H:Heap) (K:AV→Heap→Prop):Prop :=
 ∀(F:Nat→Prop) (w:World) (vs:List Value),HRel P F H w→VRL P F w args vs →
  Calls P f vs.toArray w fun e w'=>∃r H' F' v,e = .returned v∧VR P F' w' r v∧HRel P F' H' w'∧Step F H w F' H' w'∧K r H'
def Kr (P:Program) (l:Nat) (args:List AV) (H:Heap) (K:AV→Heap→Prop):Prop :=
 ∀(F:Nat→Prop) (w:World) (vs:List Value),HRel P F H w→VRL P F w args vs →
  YieldAt Fence.wide 0 P l vs.toArray w fun e w'=>∃r H' F' v,e = .returned v∧VR P F' w' r v∧HRel P F' H' w'∧Step F H w F' H' w'∧K r H'
inductive LendV (H:Heap):AV→AV→Prop
 | refl (v:AV):LendV H v v
 | nilsl (sz sz':Nat):LendV H (.nilsl sz) (.d (.sl sz' []))
 | own (b sz cap:Nat) (t:TypeId) (cap':Nat) (xs:List (List D)) (h:H b=some (.row t sz cap' xs)):LendV H (.own b sz 0 xs.length cap) (.d (.sl sz xs))
 | agg (xs ys:List AV) (hl:xs.length=ys.length) (h:∀(j:Nat) x y,xs[j]? = some x→ys[j]? = some y→LendV H x y):LendV H (.agg xs) (.agg ys)
 | tup (xs ys:List AV) (hl:xs.length=ys.length) (h:∀(j:Nat) x y,xs[j]? = some x→ys[j]? = some y→LendV H x y):LendV H (.tup xs) (.tup ys)
def LendL (H:Heap) (xs ys:List AV):Prop:=xs.length=ys.length∧∀(j:Nat) x y,xs[j]? = some x→ys[j]? = some y→LendV H x y
def DataW (P:Program) (f:FuncId) (args:List AV) (r:AV):Prop:=CallW P f args Heap.none fun r' H'=>LendV H' r' r
def Iv:D→Bool
 | .sl _ _=>false
 | _=>true
def scal:AV→Bool
 | .d x=>Iv x
 | _=>false
def K8:AV→Bool
 | .tup xs=>xs.all scal
 | .agg xs=>xs.all scal
 | v=>scal v
inductive NewV (H:Heap):AV→AV→Prop
 | scal (v:AV) (h:K8 v=true):NewV H v v
 | nilsl (sz sz':Nat):NewV H (.nilsl sz) (.d (.sl sz' []))
 | own (b sz cap:Nat) (t:TypeId) (cap':Nat) (xs:List (List D)) (h:H b=some (.row t sz cap' xs)) (hs:∀el∈xs,∀d∈el,Iv d=true):NewV H (.own b sz 0 xs.length cap) (.d (.sl sz xs))
 | agg (xs ys:List AV) (hl:xs.length=ys.length) (h:∀(j:Nat) x y,xs[j]? = some x→ys[j]? = some y→NewV H x y):NewV H (.agg xs) (.agg ys)
 | tup (xs ys:List AV) (hl:xs.length=ys.length) (h:∀(j:Nat) x y,xs[j]? = some x→ys[j]? = some y→NewV H x y):NewV H (.tup xs) (.tup ys)
def NewW (P:Program) (f:FuncId) (args:List AV) (r:AV):Prop:=CallW P f args Heap.none fun r' H'=>NewV H' r' r
def PCallK (P:Program) (f:FuncId) (args:List AV) (H:Heap) (K:AV→Prop):Prop :=
 ∃args' r,LendL H args args'∧(K8 r=true∨LendL Heap.none args args'∨NewW P f args' r)∧DataW P f args' r∧K r
def AEZ (P:Program) (f:FuncId) (args:List AV) (e:TypeId) (sz:Nat) (xs:List (List D)):Prop :=
 CallW P f args Heap.none fun r H'=>(xs=[]∧∃n,r = .nilsl n)∨∃b cap,r = .own b sz 0 xs.length cap∧H' b=some (.row e sz cap xs)
def NCallK (P:Program) (f:FuncId) (args:List AV) (H:Heap) (K:AV→Heap→Prop):Prop :=
 ∃args' e sz xs,LendL Heap.none args args'∧AEZ P f args' e sz xs∧(xs=[]→∀n,K (.nilsl n) H)∧∀b cap,H b=none→K (.own b sz 0 xs.length cap) (AI H b (some (.row e sz cap xs)))
def nth:List AV→Nat→AV
 | [],_=>.undef
 | a::_,0=>a
 | _::l,n+1=>nth l n
def seg (l:List AV) (off n:Nat):List AV:=(l.drop off).take n
def setSeg:List AV→Nat→List AV→List AV
 | [],_,_=>[]
 | cs,0,[]=>cs
 | _::cs,0,n::ns=>n::setSeg cs 0 ns
 | c::cs,k+1,ns=>c::setSeg cs k ns
def HE:List D→Nat→List D→List D
 | [],_,_=>[]
 | cs,0,[]=>cs
 | _::cs,0,n::ns=>n::HE cs 0 ns
 | c::cs,k+1,ns=>c::HE cs k ns
def E4:AV→List AV
 | .agg xs=>xs
 | v=>[v]
def He:AV→Bool
 | .agg _ | .tup _ | .void | .undef=>false
 | _=>true
def AU:List AV→Nat
 | []=>0
 | _::l=>AU l+1
def fits (size:Nat):AV→Bool
 | .agg xs=>AU xs == size
 | v=>size == 1&&He v
def mapD:List D→List AV
 | []=>[]
 | x::l=>.d x::mapD l
def Gy (b:Bool) (X Y:Prop):Prop:=(b=true→X)∧(b=false→Y)
def HQ (H:Heap) (x:Blk) (K:Nat→Heap→Prop):Prop:=∀b,H b=none→K b (AI H b (some x))
def Io (xs:List (List D)) (i:Int) (K:List D→Prop):Prop:=0≤i∧∃el,xs[i.toNat]? = some el∧K el
def VC (p:Prop) (X:Prop):Prop:=p∧X
theorem A1 (X:Prop):VC True X=X:=by simp [VC]
def Ns (P:Program) (f:FuncId) (args:List AV) (H:Heap) (K:AV→Heap→Prop):Prop:=CallW P f args H K
def IR (H:Heap) (b:Nat) (K:Nat→Nat→Prop):Prop:=∀b' cap',AI H b none b'=none→K b' cap'
def Fs (op:BinOp) (x y:AV) (K:AV→Prop):Prop :=
 match x,y with
 | .d (.int k a),.d (.int k' b) =>
  match op with
  | .add=>VC (k=k') (K (.d (.int k (k.wrap (a+b)))))
  | .sub=>VC (k=k') (K (.d (.int k (k.wrap (a-b)))))
  | .mul=>VC (k=k') (K (.d (.int k (k.wrap (a*b)))))
  | .quo=>VC (k=k'∧b≠0) (K (.d (.int k (k.wrap (a.tdiv b)))))
  | .rem=>VC (k=k'∧b≠0) (K (.d (.int k (a.tmod b))))
  | .shl=>VC (0≤b) (K (.d (.int k (k.wrap (a*2 ^ (min b.toNat k.bits))))))
  | .shr=>VC (0≤b) (K (.d (.int k (a.fdiv (2 ^ (min b.toNat k.bits))))))
  | .and=>VC (k=k') (K (.d (.int k (k.wrap (BitVec.ofInt k.bits a &&& BitVec.ofInt k.bits b).toNat))))
  | .or=>VC (k=k') (K (.d (.int k (k.wrap (BitVec.ofInt k.bits a ||| BitVec.ofInt k.bits b).toNat))))
  | .xor=>VC (k=k') (K (.d (.int k (k.wrap (BitVec.ofInt k.bits a ^^^ BitVec.ofInt k.bits b).toNat))))
  | .andNot=>VC (k=k') (K (.d (.int k (k.wrap (BitVec.ofInt k.bits a &&& ~~~ BitVec.ofInt k.bits b).toNat))))
  | .eql=>VC (k=k') (K (.d (.bool (decide (a=b)))))
  | .neq=>VC (k=k') (K (.d (.bool (!decide (a=b)))))
  | .lss=>VC (k=k') (K (.d (.bool (decide (a<b)))))
  | .leq=>VC (k=k') (K (.d (.bool (decide (a≤b)))))
  | .gtr=>VC (k=k') (K (.d (.bool (decide (b<a)))))
  | .geq=>VC (k=k') (K (.d (.bool (decide (b≤a)))))
 | .d (.str a),.d (.str b) =>
  match op with
  | .eql=>K (.d (.bool (a.toList == b.toList)))
  | .neq=>K (.d (.bool (!(a.toList == b.toList))))
  | .lss=>K (.d (.bool (Op.bytesLess a.toList b.toList)))
  | .leq=>K (.d (.bool (Op.bytesLess a.toList b.toList||a.toList == b.toList)))
  | .gtr=>K (.d (.bool (!(Op.bytesLess a.toList b.toList||a.toList == b.toList))))
  | .geq=>K (.d (.bool (!Op.bytesLess a.toList b.toList)))
  | .add=>VC (a.size+b.size≤9223372036854775807) (K (.d (.str (a++b))))
  | _=>False
 | _,_=>False
def EE (s:ByteArray) (i:Nat):Int:=((s.data[i]?).getD 0).toNat
def Az:Nat→AV→AV→Option Bool
 | 0,.d (.int k a),.d (.int k' b)=>if k=k' then some (decide (a=b)) else none
 | 1,.d (.bool a),.d (.bool b)=>some (a == b)
 | 2,.d (.str a),.d (.str b)=>some (a.toList == b.toList)
 | _,_,_=>none
def Af:List Nat→List AV→List AV→Option Bool
 | [],[],[]=>some true
 | k::ks,a::as,b::bs=>match Az k a b,Af ks as bs with
  | some x,some y=>some (x&&y)
  | _,_=>none
 | _,_,_=>none
def Hw:List (List D)→Option (List UInt8)
 | []=>some []
 | [.int .u8 n]::l=>match Hw l with | some r=>some (UInt8.ofNat n.toNat::r) | none=>none
 | _=>none
def FS (g:Option Nat) (p:AV) (H:Heap) (K:AV→Prop):Prop :=
 match p with
 | .ptr b off=>match H b with
  | some (.box _ cells)=>match g with
   | none=>VC (off<AU cells) (K (nth cells off))
   | some n=>VC (off+n≤AU cells) (K (.agg (seg cells off n)))
  | _=>False
 | .eptr b sz i j=>match H b with
  | some (.row _ sz' _ xs)=>VC (sz=sz') (Io xs i fun el=>match g with
   | none=>VC (j<el.length) (K (nth (mapD el) j))
   | some n=>VC (j+n≤el.length) (K (.agg (seg (mapD el) j n))))
  | some (.box _ cells)=>match g with
   | none=>VC (i*sz+j<AU cells) (K (nth cells (i*sz+j)))
   | some n=>VC (i*sz+j+n≤AU cells) (K (.agg (seg cells (i*sz+j) n)))
  | _=>False
 | .dptr el off=>match g with
  | none=>VC (off<el.length) (K (nth (mapD el) off))
  | some n=>VC (off+n≤el.length) (K (.agg (seg (mapD el) off n)))
 | _=>False
def Ap (H0 H:Heap) (v:AV) (K:D→Heap→Prop):Prop :=
 match v with
 | .d x=>K x H
 | .nilsl sz=>K (.sl sz []) H
 | .own b sz off len _=>match H0 b with
  | some (.row _ sz' _ xs)=>VC (sz=sz'∧off=0∧len=xs.length) (K (.sl sz xs) (AI H b none))
  | _=>False
 | _=>False
def Aq (H0:Heap):Heap→List AV→(List D→Heap→Prop)→Prop
 | H,[],K=>K [] H
 | H,v::l,K=>Ap H0 H v fun x H'=>Aq H0 H' l fun xs H''=>K (x::xs) H''
def Aj (H:Heap) (l:List AV) (K:List D→Heap→Prop):Prop:=Aq H H l K
def FG:List AV→Option (List D)
 | []=>some []
 | .d x::l=>match FG l with | some ds=>some (x::ds) | none=>none
 | .nilsl sz::l=>match FG l with | some ds=>some (.sl sz []::ds) | none=>none
 | _=>none
def JW (size:Nat) (p v:AV) (H:Heap) (K:Heap→Prop):Prop :=
 VC (fits size v=true) <|
 match p with
 | .ptr b off=>match H b with
  | some (.box t cells)=>VC (off+size≤AU cells) (K (AI H b (some (.box t (setSeg cells off (E4 v))))))
  | _=>False
 | .eptr b sz i j=>match H b with
  | some (.box t cells)=>VC (i*sz+j+size≤AU cells) (K (AI H b (some (.box t (setSeg cells (i*sz+j) (E4 v))))))
  | _=>Aj H (E4 v) fun ds H'=>match H' b with
   | some (.row t sz' cap xs)=>VC (sz=sz') (Io xs i fun el=>VC (j+size≤el.length) (K (AI H' b (some (.row t sz cap (xs.set i (HE el j ds)))))))
   | _=>False
 | _=>False
def Hy (t:TM) (H H':Heap) (l:List Nat):Prop:=∀d∈l,∀k off,t d = .ptr k off→∀e cells,H k=some (.box e cells)→H' k=some (.box e cells)
def Ao (t:TM) (p:AV):List Nat→Prop
 | []=>True
 | d::l=>(match t d,p with
  | .ptr b _,.ptr k _=>¬b=k
  | .ptr b _,.eptr k _ _ _=>¬b=k
  | _,_=>True)∧Ao t p l
def Ah (cells:List AV):List (Nat×Nat×AV)→Option (List AV)
 | []=>some cells
 | (off,size,v)::r=>if fits size v=true∧off+size≤AU cells then Ah (setSeg cells off (E4 v)) r else none
def Ak (t:TM):List (Nat×Nat×Opd)→List (Nat×Nat×AV)
 | []=>[]
 | (o,n,x)::r=>(o,n,ev t x)::Ak t r
def Ae (t:TM) (sz:Nat):List (Nat×Opd)→List (Nat×Nat×AV)
 | []=>[]
 | (i,x)::r=>(i*sz,sz,ev t x)::Ae t sz r
def Ai (z:List AV):Nat→List AV
 | 0=>[]
 | n+1=>z++Ai z n
def Ad (sz:Nat):Nat→List D→List (List D)
 | 0,_=>[]
 | n+1,l=>l.take sz::Ad sz n (l.drop sz)
def IN (sz len:Nat) (c:Option (List AV)):Option (List (List D)):=match c with
 | some cs=>match FG cs with
  | some ds=>some (Ad sz len ds)
  | none=>none
 | none=>none
def H9 (H:Heap):Prop:=∀n,∃b,n≤b∧H b=none
def Fl (H:Heap) (v:AV) (K:Nat→List (List D)→Prop):Prop :=
 match v with
 | .d (.sl sz xs)=>K sz xs
 | .nilsl sz=>K sz []
 | .own b sz off len _=>match H b with
  | some (.row _ sz' _ xs)=>VC (sz=sz'∧off=0∧len=xs.length) (K sz xs)
  | _=>False
 | .part b sz off len _=>match H b with
  | some (.row _ sz' _ xs)=>VC (sz=sz'∧off+len≤xs.length) (K sz ((xs.drop off).take len))
  | _=>False
 | _=>False
def Av (isMax:Bool) (k:IntKind) (n:Int):List AV→Option Int
 | []=>some n
 | .d (.int k' m)::r=>if k=k' then Av isMax k (if isMax then max n m else min n m) r else none
 | _=>none
def EV:Option AV→Option (Option Int)
 | none=>some none
 | some (.d (.int _ n))=>some (some n)
 | _=>none
def JD (sz:Nat) (x:AV) (lo hi:Option (Option Int)) (K:AV→Prop):Prop :=
 match lo,hi with
 | some lo,some hi =>
  match x with
  | .d (.sl sz' xs)=>VC (sz=sz'∧0≤lo.getD 0∧lo.getD 0≤hi.getD xs.length∧hi.getD xs.length≤xs.length) (K (.d (.sl sz ((xs.take (hi.getD xs.length).toNat).drop (lo.getD 0).toNat))))
  | .nilsl n=>VC (lo.getD 0=0∧hi.getD 0=0) (K (.nilsl n))
  | .own b sz' off len cap=>VC (sz=sz'∧0≤lo.getD 0∧lo.getD 0≤hi.getD len∧hi.getD len≤cap) (K (.part b sz (off+(lo.getD 0).toNat) ((hi.getD len).toNat-(lo.getD 0).toNat) (cap-(lo.getD 0).toNat)))
  | .part b sz' off len cap=>VC (sz=sz'∧0≤lo.getD 0∧lo.getD 0≤hi.getD len∧hi.getD len≤cap) (K (.part b sz (off+(lo.getD 0).toNat) ((hi.getD len).toNat-(lo.getD 0).toNat) (cap-(lo.getD 0).toNat)))
  | _=>False
 | _,_=>False
def KG (sz:Nat) (x:AV) (lo hi mx:Option (Option Int)) (K:AV→Prop):Prop :=
 match lo,hi,mx with
 | some lo,some (some hi),some (some mx) =>
  match x with
  | .nilsl n=>VC (lo.getD 0=0∧hi=0∧mx=0) (K (.nilsl n))
  | .own b sz' off len cap=>VC (sz=sz'∧0≤lo.getD 0∧lo.getD 0≤hi∧hi≤mx∧mx≤cap) (K (.part b sz (off+(lo.getD 0).toNat) (hi.toNat-(lo.getD 0).toNat) (mx.toNat-(lo.getD 0).toNat)))
  | _=>False
 | _,_,_=>False
def L8 (sz:Nat) (z:List AV) (x:AV) (H:Heap) (K:Heap→Prop):Prop :=
 match x,FG z with
 | .part b sz' off len cap,some ds=>match H b with
  | some (.row e sz'' c xs)=>VC (sz=sz'∧sz=sz''∧0<len∧off+len≤xs.length∧cap≠0) (K (AI H b (some (.row e sz c (xs.take off++List.replicate len ds++xs.drop (off+len))))))
  | _=>False
 | _,_=>False
def MH (e:TypeId) (sz bytes:Nat) (z:List AV) (s n:AV) (H:Heap) (K:AV→Heap→Prop):Prop :=
 match s,n,FG z with
 | .nilsl _,.d (.int _ m),some ds=>VC (0<m∧m*bytes≤140737488355328∧m≤maxLen) (HQ H (.row e sz 0 []) fun b _=>∀cap,m.toNat≤cap→K (.own b sz 0 m.toNat cap) (AI H b (some (.row e sz cap (List.replicate m.toNat ds)))))
 | _,_,_=>False
def AR (P:Program) (t:TM) (H:Heap) (K:AV→Heap→Prop):AOp→Prop
 | .mov x=>K (ev t x) H
 | .pick c a b=>match ev t c with
  | .d (.bool c)=>Gy c (K (ev t a) H) (K (ev t b) H)
  | _=>False
 | .alloc e z=>HQ H (.box e z) fun b H'=>K (.ptr b 0) H'
 | .box e x=>VC (fits (AU (E4 (ev t x))) (ev t x)=true) (HQ H (.box e (E4 (ev t x))) fun b H'=>K (.ptr b 0) H')
 | .load g p=>FS g (ev t p) H fun v=>K v H
 | .loadD g p=>match ev t p with
  | .dptr el off=>FS g (.dptr el off) H fun v=>K v H
  | _=>False
 | .loadS g p news=>VC (Ao t (ev t p) news) (FS g (ev t p) H fun v=>K v H)
 | .loadP g d c=>match t d,t c with
  | .ptr b off,.ptr b' _=>VC (b=b') (FS g (.ptr b off) H fun v=>K v H)
  | _,_=>False
 | .storeS n d v=>match t d with
  | .ptr b off=>VC (fits n (ev t v)=true) (match H b with
   | some (.box e cells)=>VC (off+n≤AU cells) (K .void (AI H b (some (.box e (setSeg cells off (E4 (ev t v)))))))
   | _=>False)
  | _=>False
 | .storeK n p v l=>match ev t p with
  | .ptr b off=>VC (Ao t (.ptr b off) l) (VC (fits n (ev t v)=true) (match H b with
   | some (.box e cells)=>VC (off+n≤AU cells) (K .void (AI H b (some (.box e (setSeg cells off (E4 (ev t v)))))))
   | _=>False))
  | _=>False
 | .isNil neg x=>match ev t x with
  | .nilsl _=>K (.d (.bool (!neg))) H
  | .own _ _ _ _ _=>K (.d (.bool neg)) H
  | .part _ _ _ _ _=>K (.d (.bool neg)) H
  | .d (.sl _ xs)=>K (.d (.bool neg)) H∧(xs=[]→K (.d (.bool (!neg))) H)
  | _=>False
 | .bad=>False
 | .store n p v=>JW n (ev t p) (ev t v) H fun H'=>K .void H'
 | .bin op x y=>Fs op (ev t x) (ev t y) fun v=>K v H
 | .binb neg x y=>match ev t x,ev t y with
  | .d (.bool a),.d (.bool b)=>K (.d (.bool (if neg then !(a == b) else a == b))) H
  | _,_=>False
 | .eqAgg neg ks x y=>match ev t x,ev t y with
  | .agg xs,.agg ys=>match Af ks xs ys with
   | some b=>K (.d (.bool (if neg then !b else b))) H
   | none=>False
  | _,_=>False
 | .un op x=>match op,ev t x with
  | .not,.d (.bool b)=>K (.d (.bool (!b))) H
  | .neg,.d (.int k n)=>K (.d (.int k (k.wrap (0-n)))) H
  | _,_=>False
 | .conv k x=>match ev t x with
  | .d (.int _ n)=>K (.d (.int k (k.wrap n))) H
  | _=>False
 | .nilCheck x=>match ev t x with
  | .ptr b o=>K (.ptr b o) H
  | .eptr b s i j=>K (.eptr b s i j) H
  | .dptr el o=>K (.dptr el o) H
  | .fn f c=>K (.fn f c) H
  | _=>False
 | .mkfn f caps=>K (.fn f (Ab t caps)) H
 | .fieldAddr off x=>match ev t x with
  | .ptr b o=>K (.ptr b (o+off)) H
  | .eptr b s i j=>K (.eptr b s i (j+off)) H
  | .dptr el o=>K (.dptr el (o+off)) H
  | _=>False
 | .field off g x=>match ev t x with
  | .agg xs=>match g with
   | none=>VC (off<AU xs) (K (nth xs off) H)
   | some n=>VC (off+n≤AU xs) (K (.agg (seg xs off n)) H)
  | _=>False
 | .elemAddr sz x i=>match ev t x,ev t i with
  | .d (.sl sz' xs),.d (.int _ n)=>VC (sz=sz') (Io xs n fun el=>K (.dptr el 0) H)
  | .own b sz' off len _,.d (.int _ n)=>VC (sz=sz'∧0≤n∧n<len) (K (.eptr b sz (off+n.toNat) 0) H)
  | .part b sz' off len _,.d (.int _ n)=>VC (sz=sz'∧0≤n∧n<len) (K (.eptr b sz (off+n.toNat) 0) H)
  | _,_=>False
 | .arrAddr n sz x i=>match ev t x,ev t i with
  | .ptr b o,.d (.int _ m)=>VC (0≤m∧m<n) (K (.ptr b (o+m.toNat*sz)) H)
  | _,_=>False
 | .idxArr n sz g x i=>match ev t x,ev t i with
  | .agg xs,.d (.int _ m)=>VC (0≤m∧m<n∧n*sz=AU xs) (match g with
   | none=>VC (sz=1) (K (nth xs m.toNat) H)
   | some k=>VC (k=sz) (K (.agg (seg xs (m.toNat*sz) sz)) H))
  | _,_=>False
 | .build z parts=>match Ah z (Ak t parts) with
  | some cs=>K (.agg cs) H
  | none=>False
 | .buildSlice e sz len z parts=>match Ah (Ai z len) (Ae t sz parts) with
  | some cs=>Aj H cs fun ds H'=>HQ H' (.row e sz len (Ad sz len ds)) fun b H''=>K (.own b sz 0 len len) H''
  | none=>False
 | .buildSliceD e sz len z parts=>(H9 H→(IN sz len (Ah (Ai z len) (Ae t sz parts))).isSome=true) ∧
  ∀b,H b=none→∀xs,IN sz len (Ah (Ai z len) (Ae t sz parts))=some xs→K (.own b sz 0 len len) (AI H b (some (.row e sz len xs)))
 | .make e sz bytes z l=>match ev t l with
  | .d (.int _ n)=>match FG z with
   | some ds=>VC (0≤n∧n*bytes≤281474976710656∧n≤9223372036854775807) (HQ H (.row e sz n.toNat (List.replicate n.toNat ds)) fun b H'=>K (.own b sz 0 n.toNat n.toNat) H')
   | none=>False
  | _=>False
 | .extract x i=>match ev t x with
  | .tup xs=>VC (i<AU xs) (K (nth xs i) H)
  | _=>False
 | .slice sz x lo hi=>JD sz (ev t x) (EV (AS t lo)) (EV (AS t hi)) fun v=>K v H
 | .slice3 sz x lo hi mx=>KG sz (ev t x) (EV (AS t lo)) (EV (AS t hi)) (EV (AS t mx)) fun v=>K v H
 | .cap x=>match ev t x with
  | .nilsl _=>K (.d (.int .i64 0)) H
  | .own _ _ _ _ cap=>K (.d (.int .i64 cap)) H
  | .part _ _ _ _ cap=>K (.d (.int .i64 cap)) H
  | _=>False
 | .clear sz z x=>L8 sz z (ev t x) H fun H'=>K (.tup []) H'
 | .appendN e sz bytes z s n=>MH e sz bytes z (ev t s) (ev t n) H K
 | .len x=>match ev t x with
  | .d (.sl _ xs)=>K (.d (.int .i64 xs.length)) H
  | .nilsl _=>K (.d (.int .i64 0)) H
  | .own _ _ _ len _=>K (.d (.int .i64 len)) H
  | .part _ _ _ len _=>K (.d (.int .i64 len)) H
  | _=>False
 | .idxStr x i=>match ev t x,ev t i with
  | .d (.str s),.d (.int _ m)=>VC (0≤m∧m<s.size) (K (.d (.int .u8 (EE s m.toNat))) H)
  | _,_=>False
 | .slen x=>match ev t x with
  | .d (.str s)=>K (.d (.int .i64 s.size)) H
  | _=>False
 | .strOf x=>Fl H (ev t x) fun _ ys=>match Hw ys with
  | some bs=>K (.d (.str ⟨bs.toArray⟩)) H
  | none=>False
 | .strSlice x lo hi=>match ev t x,EV (AS t lo),EV (AS t hi) with
  | .d (.str s),some lo,some hi=>VC (0≤lo.getD 0∧lo.getD 0≤hi.getD s.size∧hi.getD s.size≤s.size) (K (.d (.str (s.extract (lo.getD 0).toNat (hi.getD s.size).toNat))) H)
  | _,_,_=>False
 | .append e sz bytes z s x=>Fl H (ev t x) fun sz' ys=>(ys=[]∧z.length=sz∧match ev t s with
  | .nilsl n=>K (.nilsl n) H
  | .own b n off len cap=>K (.own b n off len cap) H
  | _=>False)∨VC (sz'=sz∧ys≠[]∧z.length=sz) (
  match ev t s with
  | .nilsl _=>VC (ys.length*bytes≤140737488355328∧ys.length≤maxLen) (HQ H (.row e sz 0 []) fun b _=>∀cap,K (.own b sz 0 ys.length cap) (AI H b (some (.row e sz cap ys))))
  | .own b sz'' off len cap=>match H b with
   | some (.row e' sz''' cap'' xs)=>VC (e'=e∧sz''=sz∧sz'''=sz∧off=0∧cap=cap''∧len=xs.length∧(xs.length+ys.length)*bytes≤140737488355328∧xs.length+ys.length≤maxLen)
     (IR H b fun b' cap'=>K (.own b' sz 0 (len+ys.length) cap') (AI (AI H b none) b' (some (.row e sz cap' (xs++ys)))))
   | _=>False
  | .part b sz'' off len cap=>match H b with
   | some (.row e' sz''' cap'' xs)=>VC (e'=e∧sz''=sz∧sz'''=sz∧off=0∧(cap=0→len=0)∧cap<len+ys.length∧len≤xs.length∧(len+ys.length)*bytes≤140737488355328∧len+ys.length≤maxLen)
     (IR H b fun b' cap'=>K (.own b' sz 0 (len+ys.length) cap') (AI (AI H b none) b' (some (.row e sz cap' (xs.take len++ys)))))
   | _=>False
  | _=>False)
 | .minmax isMax x xs=>match ev t x with
  | .d (.int k n)=>match Av isMax k n (Ab t xs) with
   | some m=>K (.d (.int k m)) H
   | none=>False
  | _=>False
 | .ncall f args=>NCallK P f (Ab t args) H K
 | .storeR n p v=>match ev t p,ev t v with
  | .eptr b sz i j,.d x=>match H b with
   | some (.row e sz' cap xs)=>VC (n=1∧sz=sz') (Io xs i fun el=>VC (j<el.length) (K .void (AI H b (some (.row e sz cap (xs.set i (HE el j [x])))))))
   | _=>False
  | _,_=>False
 | .pcall f args=>PCallK P f (Ab t args) H fun r=>K r H
 | .pcallv g args=>match ev t g with
  | .fn f caps=>PCallK P f (Ab t args++caps) H fun r=>K r H
  | _=>False
 | .call f args=>Ns P f (Ab t args) H K
 | .callS f args l=>Ns P f (Ab t args) H fun v H'=>Hy t H H' l∧K v H'
 | .callvS g args l=>match ev t g with
  | .fn f caps=>Ns P f (Ab t args++caps) H fun v H'=>Hy t H H' l∧K v H'
  | _=>False
 | .callv g args=>match ev t g with
  | .fn f caps=>Ns P f (Ab t args++caps) H K
  | .yld l=>Kr P l (Ab t args) H K
  | _=>False
def AF (s:St) (dst:Option Nat) (v:AV) (H:Heap):St :=
 match dst with
 | some d=>if d<s.n then ⟨s.n,Jm s.t d v,H⟩ else ⟨s.n,s.t,H⟩
 | none=>⟨s.n,s.t,H⟩
def HB (P:Program):List AO→St→(St→Prop)→Prop
 | [],s,K=>K s
 | o::r,s,K=>match o.guard with
  | none=>AR P s.t s.H (fun v H'=>HB P r (AF s o.dst v H') K) o.op
  | some (g,want)=>match s.t g with
   | .d (.bool c)=>Gy (c == want) (AR P s.t s.H (fun v H'=>HB P r (AF s o.dst v H') K) o.op) (HB P r (AF s o.dst .void s.H) K)
   | .void=>HB P r (AF s o.dst .void s.H) K
   | _=>False
inductive Out where
 | normal
 | exit (id:Nat)
 | ret
def LL (D:Nat):Deferred:={ target:=.collected D,args:=#[] }
def PA (B:Nat) (F:Nat→Prop) (H:Heap) (ds:List Deferred) (w:World):Prop :=
 B≤w.heap.size∧∃ms:List Nat,ds=ms.map LL∧ms.Nodup∧∀D∈ms,B≤D∧H D=none∧¬F D∧w.heap[D]? = some (.deferred (some []))
def F8 (r:Option Nat):Fence:={ fn:=fun _=>True,depth:=none,alive:=false,round:=r }
def Rel (P:Program) (B:Nat) (F:Nat→Prop) (s:St) (a:Act) (w:World):Prop :=
 HRel P F s.H w∧PA B F s.H a.defers w∧a.tmps.size=s.n∧∀t,VR P F w (s.t t) (a.tmps.getD t undef)
def Ka:Out→Exit→Prop
 | .normal,.normal=>True
 | .exit i,.exit j=>i=j
 | .ret,.ret=>True
 | _,_=>False
def AW (P:Program) (r:Option Nat) (c:Code) (s:St) (Q:Out→St→Prop):Prop :=
 ∀(B:Nat) (F:Nat→Prop) (a:Act) (w:World),Rel P B F s a w →
  c.wpIn (F8 r) 0 P (fun e a' w'=>∃o s' F',Ka o e∧Rel P B F' s' a' w'∧Step F s.H w F' s'.H w'∧Q o s') a w
def PQ (P:Program) (b:ACode) (s:St) (Q:Out→St→Prop):Prop:=∀r c,Fi P c=some b→(r=none∨GS b=true)→AW P r (.loop c) s Q
def Od (P:Program) (g:Opd) (ps:List Nat) (asg body:ACode) (s:St) (Q:Out→St→Prop):Prop :=
 ∀g' ps' a b,Eo P g'=g→ps'.toList=ps→Fi P a=some asg→Fi P b=some body→GS asg=true→GS body=true→AW P none (.rangeFunc g' ps' a b) s Q
def Fj (P:Program):ACode→St→(Out→St→Prop)→Prop
 | .skip,s,Q=>Q .normal s
 | .ops l,s,Q=>HB P l s fun s'=>Q .normal s'
 | .dops l,s,Q=>HB P l s fun s'=>Q .normal s'
 | .seq a b,s,Q=>Fj P a s fun o s'=>match o with
  | .normal=>Fj P b s' Q
  | o=>Q o s'
 | .cond c a b,s,Q=>match ev s.t c with
  | .d (.bool c)=>Gy c (Fj P a s Q) (Fj P b s Q)
  | _=>False
 | .block id a,s,Q=>Fj P a s fun o s'=>match o with
  | .exit i=>if i=id then Q .normal s' else Q (.exit i) s'
  | o=>Q o s'
 | .loop a,s,Q=>PQ P a s Q
 | .rangef g ps a b,s,Q=>Od P g ps a b s Q
 | .exit id,s,Q=>Q (.exit id) s
 | .ret,s,Q=>Q .ret s
def BA (s:St):ARes→(AV→Prop)→Prop
 | .tmp t,K=>K (s.t t)
 | .cell t g,K=>FS g (s.t t) s.H K
def Ay (s:St):List ARes→(List AV→Prop)→Prop
 | [],K=>K []
 | r::l,K=>BA s r fun v=>Ay s l fun vs=>K (v::vs)
def A4 (s:St) (rs:List ARes) (K:AV→Prop):Prop :=
 Ay s rs fun vs=>match vs with
  | [v]=>K v
  | vs=>K (.tup vs)
def A8 (rs:List ARes) (K:AV→Heap→Prop) (o:Out) (s:St):Prop :=
 match o with
 | .normal | .ret=>A4 s rs fun r=>K r s.H
 | .exit _=>False
def Aw:List AV→Nat→TM
 | [],_=>fun _=>.void
 | v::l,i=>Jm (Aw l (i+1)) i v
inductive Item where
 | code (c:ACode)
 | blk (id:Nat)
section
variable (P:Program) (Q:Out→St→Prop)
def E5:List Item→Out→St→Prop
 | [],o,s=>Q o s
 | .code c::k,o,s=>match o with
  | .normal=>Fj P c s fun o s'=>E5 k o s'
  | o=>E5 k o s
 | .blk id::k,o,s=>match o with
  | .exit i=>if i=id then E5 k .normal s else E5 k (.exit i) s
  | o=>E5 k o s
def FX (c:ACode) (k:List Item) (s:St):Prop:=Fj P c s fun o s'=>E5 P Q k o s'
def AN (l:List AO) (k:List Item) (s:St):Prop:=HB P l s fun s'=>E5 P Q k .normal s'
def KA (f:FuncId) (args:List AV) (d:Option Nat) (l:List AO) (k:List Item) (s:St):Prop:=CallW P f args s.H fun v H'=>AN P Q l k (AF s d v H')
def KN (b:ACode) (k:List Item) (s:St):Prop:=PQ P b s fun o s'=>E5 P Q k o s'
def O1 (g:Opd) (ps:List Nat) (a b:ACode) (k:List Item) (s:St):Prop:=Od P g ps a b s fun o s'=>E5 P Q k o s'
def O4 (y:Nat) (args:List AV) (d:Option Nat) (l:List AO) (k:List Item) (s:St):Prop:=Kr P y args s.H fun v H'=>AN P Q l k (AF s d v H')
def Jp (v:AV) (a b:ACode) (k:List Item) (s:St):Prop:=match v with
 | .d (.bool c)=>Gy c (FX P Q a k s) (FX P Q b k s)
 | _=>False
def Hg (v:AV) (want:Bool) (d:Option Nat) (op:AOp) (l:List AO) (k:List Item) (s:St):Prop:=match v with
 | .d (.bool c)=>Gy (c == want) (AR P s.t s.H (fun v H'=>AN P Q l k (AF s d v H')) op) (AN P Q l k (AF s d .void s.H))
 | .void=>AN P Q l k (AF s d .void s.H)
 | _=>False
def PN (x:Blk) (d:Option Nat) (l:List AO) (k:List Item) (s:St):Prop:=∀b,s.H b=none→AN P Q l k (AF s d (.ptr b 0) (AI s.H b (some x)))
def Ew (op:BinOp) (x y:AV) (d:Option Nat) (l:List AO) (k:List Item) (s:St):Prop:=Fs op x y fun v=>AN P Q l k (AF s d v s.H)
def JU (c x y:AV) (d:Option Nat) (l:List AO) (k:List Item) (s:St):Prop:=match c with
 | .d (.bool c)=>Gy c (AN P Q l k (AF s d x s.H)) (AN P Q l k (AF s d y s.H))
 | _=>False
def Hx (g:Option Nat) (p:AV) (d:Option Nat) (l:List AO) (k:List Item) (s:St):Prop:=FS g p s.H fun v=>AN P Q l k (AF s d v s.H)
def M0 (g:Option Nat) (x:Option Blk) (off:Nat) (d:Option Nat) (l:List AO) (k:List Item) (s:St):Prop:=match x with
 | some (.box _ cells)=>match g with
  | none=>VC (off<AU cells) (AN P Q l k (AF s d (nth cells off) s.H))
  | some n=>VC (off+n≤AU cells) (AN P Q l k (AF s d (.agg (seg cells off n)) s.H))
 | _=>False
def Ol (xs:List (List D)) (i:Int) (d:Option Nat) (l:List AO) (k:List Item) (s:St):Prop:=Io xs i fun el=>AN P Q l k (AF s d (.dptr el 0) s.H)
def Lq (b sz off:Nat) (i:Int) (d:Option Nat) (l:List AO) (k:List Item) (s:St):Prop:=AN P Q l k (AF s d (.eptr b sz (off+i.toNat) 0) s.H)
def Ni (n:Nat) (p v:AV) (d:Option Nat) (l:List AO) (k:List Item) (s:St):Prop:=JW n p v s.H fun H'=>AN P Q l k (AF s d .void H')
def NH (n off b:Nat) (x:Option Blk) (v:AV) (d:Option Nat) (l:List AO) (k:List Item) (s:St):Prop:=match x with
 | some (.box t cells)=>VC (off+n≤AU cells) (AN P Q l k (AF s d .void (AI s.H b (some (.box t (setSeg cells off (E4 v)))))))
 | _=>False
def Rk (c:Option (List AV)) (d:Option Nat) (l:List AO) (k:List Item) (s:St):Prop:=match c with
 | some cs=>AN P Q l k (AF s d (.agg cs) s.H)
 | none=>False
def M2 (c:Option Bool) (neg:Bool) (d:Option Nat) (l:List AO) (k:List Item) (s:St):Prop:=match c with
 | some b=>AN P Q l k (AF s d (.d (.bool (if neg then !b else b))) s.H)
 | none=>False
def Sg (ks:List Nat) (x y:AV) (neg:Bool) (d:Option Nat) (l:List AO) (k:List Item) (s:St):Prop:=match x,y with
 | .agg xs,.agg ys=>M2 P Q (Af ks xs ys) neg d l k s
 | _,_=>False
end
section
variable {P:Program} {Q:Out→St→Prop} {k:List Item} {s:St} {d:Option Nat} {l:List AO}
theorem De:FX P Q .skip k s=E5 P Q k .normal s:=rfl
theorem BF {r:List AO}:FX P Q (.ops r) k s=AN P Q r k s:=rfl
theorem Ce {r:List AO}:FX P Q (.dops r) k s=AN P Q r k s:=rfl
theorem Dg {a b:ACode}:FX P Q (.seq a b) k s=FX P Q a (.code b::k) s:=by
 unfold FX; rw [Fj]; congr 1
theorem B1 {c:Opd} {a b:ACode}:FX P Q (.cond c a b) k s=Jp P Q (ev s.t c) a b k s:=rfl
theorem D1 {id:Nat} {a:ACode}:FX P Q (.block id a) k s=FX P Q a (.blk id::k) s:=by
 unfold FX; rw [Fj]; congr 1
theorem BP {g:Opd} {ps:List Nat} {a b:ACode}:FX P Q (.rangef g ps a b) k s=O1 P Q g ps a b k s:=rfl
theorem DI {a:ACode}:FX P Q (.loop a) k s=KN P Q a k s:=rfl
theorem DP {id:Nat}:FX P Q (.exit id) k s=E5 P Q k (.exit id) s:=rfl
theorem Bh:FX P Q .ret k s=E5 P Q k .ret s:=rfl
theorem BD {o:Out}:E5 P Q [] o s=Q o s:=by cases o <;> rfl
theorem By {c:ACode}:E5 P Q (.code c::k) .normal s=FX P Q c k s:=rfl
theorem Be {c:ACode}:E5 P Q (.code c::k) .ret s=E5 P Q k .ret s:=rfl
theorem Df {c:ACode} {i:Nat}:E5 P Q (.code c::k) (.exit i) s=E5 P Q k (.exit i) s:=rfl
theorem C7 {id:Nat}:E5 P Q (.blk id::k) .normal s=E5 P Q k .normal s:=rfl
theorem ED {id:Nat}:E5 P Q (.blk id::k) .ret s=E5 P Q k .ret s:=rfl
theorem B7 {id i:Nat}:E5 P Q (.blk id::k) (.exit i) s=if i=id then E5 P Q k .normal s else E5 P Q k (.exit i) s:=rfl
theorem Cp:AN P Q [] k s=E5 P Q k .normal s:=rfl
theorem GE {op:AOp}:AN P Q (⟨d,none,op⟩::l) k s=AR P s.t s.H (fun v H'=>AN P Q l k (AF s d v H')) op:=rfl
theorem CH {g:Nat} {want:Bool} {op:AOp}:AN P Q (⟨d,some (g,want),op⟩::l) k s=Hg P Q (s.t g) want d op l k s:=rfl
theorem Cg {op:AOp}:Hg P Q (.d (.bool true)) true d op l k s=AN P Q (⟨d,none,op⟩::l) k s:=by simp [Hg,Gy,GE]
theorem BK {op:AOp}:Hg P Q (.d (.bool false)) false d op l k s=AN P Q (⟨d,none,op⟩::l) k s:=by simp [Hg,Gy,GE]
theorem D7 {op:AOp}:Hg P Q (.d (.bool true)) false d op l k s=AN P Q l k (AF s d .void s.H):=by simp [Hg,Gy]
theorem C5 {op:AOp}:Hg P Q (.d (.bool false)) true d op l k s=AN P Q l k (AF s d .void s.H):=by simp [Hg,Gy]
theorem CN {want:Bool} {op:AOp}:Hg P Q .void want d op l k s=AN P Q l k (AF s d .void s.H):=rfl
theorem C9 {a b:ACode}:Jp P Q (.d (.bool true)) a b k s=FX P Q a k s:=by simp [Jp,Gy]
theorem D4 {a b:ACode}:Jp P Q (.d (.bool false)) a b k s=FX P Q b k s:=by simp [Jp,Gy]
theorem BO {x y:AV}:JU P Q (.d (.bool true)) x y d l k s=AN P Q l k (AF s d x s.H):=by simp [JU,Gy]
theorem Cu {x y:AV}:JU P Q (.d (.bool false)) x y d l k s=AN P Q l k (AF s d y s.H):=by simp [JU,Gy]
theorem Cm {x:Opd}:AN P Q (⟨d,none,.mov x⟩::l) k s=AN P Q l k (AF s d (ev s.t x) s.H):=rfl
theorem Cc {c x y:Opd}:AN P Q (⟨d,none,.pick c x y⟩::l) k s=JU P Q (ev s.t c) (ev s.t x) (ev s.t y) d l k s:=rfl
theorem Bj {t:TypeId} {z:List AV}:AN P Q (⟨d,none,.alloc t z⟩::l) k s=PN P Q (.box t z) d l k s:=rfl
theorem Ds {t:TypeId} {x:Opd}:AN P Q (⟨d,none,.box t x⟩::l) k s=VC (fits (AU (E4 (ev s.t x))) (ev s.t x)=true) (PN P Q (.box t (E4 (ev s.t x))) d l k s):=rfl
theorem Bv {g:Option Nat} {x:Opd}:AN P Q (⟨d,none,.load g x⟩::l) k s=Hx P Q g (ev s.t x) d l k s:=rfl
theorem Cz {g:Option Nat} {b off:Nat}:Hx P Q g (.ptr b off) d l k s=M0 P Q g (s.H b) off d l k s:=by
 unfold Hx FS M0; rfl
theorem CV {t:TypeId} {cells:List AV} {off:Nat}:M0 P Q none (some (.box t cells)) off d l k s=VC (off<AU cells) (AN P Q l k (AF s d (nth cells off) s.H)):=rfl
theorem Dd {n:Nat} {t:TypeId} {cells:List AV} {off:Nat}:M0 P Q (some n) (some (.box t cells)) off d l k s=VC (off+n≤AU cells) (AN P Q l k (AF s d (.agg (seg cells off n)) s.H)):=rfl
theorem C4 {el:List D} {off:Nat}:Hx P Q none (.dptr el off) d l k s=VC (off<el.length) (AN P Q l k (AF s d (nth (mapD el) off) s.H)):=rfl
theorem C2 {n:Nat} {el:List D} {off:Nat}:Hx P Q (some n) (.dptr el off) d l k s=VC (off+n≤el.length) (AN P Q l k (AF s d (.agg (seg (mapD el) off n)) s.H)):=rfl
def Pf (P:Program) (Q:Out→St→Prop) (g:Option Nat) (p:AV) (d:Option Nat) (l:List AO) (k:List Item) (s:St):Prop:=match p with
 | .dptr el off=>Hx P Q g (.dptr el off) d l k s
 | _=>False
theorem DA {g:Option Nat} {x:Opd}:AN P Q (⟨d,none,.loadD g x⟩::l) k s=Pf P Q g (ev s.t x) d l k s:=by
 rw [GE]
 simp only [AR,Pf]
 cases ev s.t x <;> rfl
theorem BM {g:Option Nat} {el:List D} {off:Nat}:Pf P Q g (.dptr el off) d l k s=Hx P Q g (.dptr el off) d l k s:=rfl
theorem Cr {g:Option Nat} {x:Opd} {news:List Nat}:AN P Q (⟨d,none,.loadS g x news⟩::l) k s=VC (Ao s.t (ev s.t x) news) (Hx P Q g (ev s.t x) d l k s):=rfl
def Tz (P:Program) (Q:Out→St→Prop) (n:Nat) (p v:AV) (d:Option Nat) (l:List AO) (k:List Item) (s:St):Prop:=match p with
 | .ptr b off=>VC (fits n v=true) (NH P Q n off b (s.H b) v d l k s)
 | _=>False
theorem Cv {n q:Nat} {v:Opd}:AN P Q (⟨d,none,.storeS n q v⟩::l) k s=Tz P Q n (s.t q) (ev s.t v) d l k s:=rfl
theorem D2 {n b off:Nat} {v:AV}:Tz P Q n (.ptr b off) v d l k s=VC (fits n v=true) (NH P Q n off b (s.H b) v d l k s):=rfl
theorem Dj {n:Nat} {p v:Opd}:AN P Q (⟨d,none,.store n p v⟩::l) k s=Ni P Q n (ev s.t p) (ev s.t v) d l k s:=rfl
theorem BX {n b off:Nat} {v:AV}:Ni P Q n (.ptr b off) v d l k s=VC (fits n v=true) (NH P Q n off b (s.H b) v d l k s):=rfl
theorem Bb {n b off:Nat} {v:AV} {t:TypeId} {cells:List AV}:NH P Q n off b (some (.box t cells)) v d l k s=VC (off+n≤AU cells) (AN P Q l k (AF s d .void (AI s.H b (some (.box t (setSeg cells off (E4 v))))))):=rfl
theorem Bw {op:BinOp} {x y:Opd}:AN P Q (⟨d,none,.bin op x y⟩::l) k s=Ew P Q op (ev s.t x) (ev s.t y) d l k s:=rfl
theorem CT {j:IntKind} {a b:Int}:Ew P Q .add (.d (.int j a)) (.d (.int j b)) d l k s=AN P Q l k (AF s d (.d (.int j (j.wrap (a+b)))) s.H):=by simp [Ew,Fs,VC]
theorem C0 {j:IntKind} {a b:Int}:Ew P Q .sub (.d (.int j a)) (.d (.int j b)) d l k s=AN P Q l k (AF s d (.d (.int j (j.wrap (a-b)))) s.H):=by simp [Ew,Fs,VC]
theorem Dn {j:IntKind} {a b:Int}:Ew P Q .mul (.d (.int j a)) (.d (.int j b)) d l k s=AN P Q l k (AF s d (.d (.int j (j.wrap (a*b)))) s.H):=by simp [Ew,Fs,VC]
theorem Cy {j:IntKind} {a b:Int}:Ew P Q .quo (.d (.int j a)) (.d (.int j b)) d l k s=VC (b≠0) (AN P Q l k (AF s d (.d (.int j (j.wrap (a.tdiv b)))) s.H)):=by simp [Ew,Fs,VC]
theorem Dl {j:IntKind} {a b:Int}:Ew P Q .rem (.d (.int j a)) (.d (.int j b)) d l k s=VC (b≠0) (AN P Q l k (AF s d (.d (.int j (a.tmod b))) s.H)):=by simp [Ew,Fs,VC]
theorem DE {j j2:IntKind} {a b:Int}:Ew P Q .shl (.d (.int j a)) (.d (.int j2 b)) d l k s=VC (0≤b) (AN P Q l k (AF s d (.d (.int j (j.wrap (a*2 ^ (min b.toNat j.bits))))) s.H)):=rfl
theorem Co {j j2:IntKind} {a b:Int}:Ew P Q .shr (.d (.int j a)) (.d (.int j2 b)) d l k s=VC (0≤b) (AN P Q l k (AF s d (.d (.int j (a.fdiv (2 ^ (min b.toNat j.bits))))) s.H)):=rfl
theorem AJk {j:IntKind} {a b:Int}:Ew P Q .and (.d (.int j a)) (.d (.int j b)) d l k s=AN P Q l k (AF s d (.d (.int j (j.wrap (BitVec.ofInt j.bits a &&& BitVec.ofInt j.bits b).toNat))) s.H):=by simp [Ew,Fs,VC]
theorem ALE {j:IntKind} {a b:Int}:Ew P Q .or (.d (.int j a)) (.d (.int j b)) d l k s=AN P Q l k (AF s d (.d (.int j (j.wrap (BitVec.ofInt j.bits a ||| BitVec.ofInt j.bits b).toNat))) s.H):=by simp [Ew,Fs,VC]
theorem AIN {j:IntKind} {a b:Int}:Ew P Q .xor (.d (.int j a)) (.d (.int j b)) d l k s=AN P Q l k (AF s d (.d (.int j (j.wrap (BitVec.ofInt j.bits a ^^^ BitVec.ofInt j.bits b).toNat))) s.H):=by simp [Ew,Fs,VC]
theorem Di {j:IntKind} {a b:Int}:Ew P Q .eql (.d (.int j a)) (.d (.int j b)) d l k s=AN P Q l k (AF s d (.d (.bool (decide (a=b)))) s.H):=by simp [Ew,Fs,VC]
theorem D6 {j:IntKind} {a b:Int}:Ew P Q .neq (.d (.int j a)) (.d (.int j b)) d l k s=AN P Q l k (AF s d (.d (.bool (!decide (a=b)))) s.H):=by simp [Ew,Fs,VC]
theorem Du {j:IntKind} {a b:Int}:Ew P Q .lss (.d (.int j a)) (.d (.int j b)) d l k s=AN P Q l k (AF s d (.d (.bool (decide (a<b)))) s.H):=by simp [Ew,Fs,VC]
theorem DB {j:IntKind} {a b:Int}:Ew P Q .leq (.d (.int j a)) (.d (.int j b)) d l k s=AN P Q l k (AF s d (.d (.bool (decide (a≤b)))) s.H):=by simp [Ew,Fs,VC]
theorem Dm {j:IntKind} {a b:Int}:Ew P Q .gtr (.d (.int j a)) (.d (.int j b)) d l k s=AN P Q l k (AF s d (.d (.bool (decide (b<a)))) s.H):=by simp [Ew,Fs,VC]
theorem Bt {j:IntKind} {a b:Int}:Ew P Q .geq (.d (.int j a)) (.d (.int j b)) d l k s=AN P Q l k (AF s d (.d (.bool (decide (b≤a)))) s.H):=by simp [Ew,Fs,VC]
def Oj (P:Program) (Q:Out→St→Prop) (neg:Bool) (x y:AV) (d:Option Nat) (l:List AO) (k:List Item) (s:St):Prop:=match x,y with
 | .d (.bool a),.d (.bool b)=>AN P Q l k (AF s d (.d (.bool (if neg then !(a == b) else a == b))) s.H)
 | _,_=>False
theorem D0 {neg:Bool} {x y:Opd}:AN P Q (⟨d,none,.binb neg x y⟩::l) k s=Oj P Q neg (ev s.t x) (ev s.t y) d l k s:=rfl
theorem BS {a b:Bool}:Oj P Q false (.d (.bool a)) (.d (.bool b)) d l k s=AN P Q l k (AF s d (.d (.bool (a == b))) s.H):=rfl
theorem Ch {a b:Bool}:Oj P Q true (.d (.bool a)) (.d (.bool b)) d l k s=AN P Q l k (AF s d (.d (.bool (!(a == b)))) s.H):=rfl
theorem HU {a b:ByteArray}:Ew P Q .eql (.d (.str a)) (.d (.str b)) d l k s=AN P Q l k (AF s d (.d (.bool (a.toList == b.toList))) s.H):=rfl
theorem Rn {a b:ByteArray}:Ew P Q .neq (.d (.str a)) (.d (.str b)) d l k s=AN P Q l k (AF s d (.d (.bool (!(a.toList == b.toList)))) s.H):=rfl
theorem Qq {a b:ByteArray}:Ew P Q .lss (.d (.str a)) (.d (.str b)) d l k s=AN P Q l k (AF s d (.d (.bool (Op.bytesLess a.toList b.toList))) s.H):=rfl
theorem CG {neg:Bool} {ks:List Nat} {x y:Opd}:AN P Q (⟨d,none,.eqAgg neg ks x y⟩::l) k s=Sg P Q ks (ev s.t x) (ev s.t y) neg d l k s:=by
 rw [GE]
 simp only [AR]
 generalize ev s.t x=a
 generalize ev s.t y=b
 cases a <;> cases b <;> rfl
theorem DR {ks:List Nat} {xs ys:List AV} {neg:Bool}:Sg P Q ks (.agg xs) (.agg ys) neg d l k s=M2 P Q (Af ks xs ys) neg d l k s:=rfl
theorem Do {b:Bool}:M2 P Q (some b) true d l k s=AN P Q l k (AF s d (.d (.bool (!b))) s.H):=rfl
theorem Dp {b:Bool}:M2 P Q (some b) false d l k s=AN P Q l k (AF s d (.d (.bool b)) s.H):=rfl
def PY (P:Program) (Q:Out→St→Prop) (op:UnOp) (x:AV) (d:Option Nat) (l:List AO) (k:List Item) (s:St):Prop:=match op,x with
 | .not,.d (.bool b)=>AN P Q l k (AF s d (.d (.bool (!b))) s.H)
 | .neg,.d (.int j n)=>AN P Q l k (AF s d (.d (.int j (j.wrap (0-n)))) s.H)
 | _,_=>False
theorem Dq {op:UnOp} {x:Opd}:AN P Q (⟨d,none,.un op x⟩::l) k s=PY P Q op (ev s.t x) d l k s:=rfl
theorem BV {b:Bool}:PY P Q .not (.d (.bool b)) d l k s=AN P Q l k (AF s d (.d (.bool (!b))) s.H):=rfl
theorem CO {j:IntKind} {n:Int}:PY P Q .neg (.d (.int j n)) d l k s=AN P Q l k (AF s d (.d (.int j (j.wrap (0-n)))) s.H):=rfl
def G2 (P:Program) (Q:Out→St→Prop) (v:Option AV) (d:Option Nat) (l:List AO) (k:List Item) (s:St):Prop:=match v with
 | some v=>AN P Q l k (AF s d v s.H)
 | none=>False
theorem Da {v:AV}:G2 P Q (some v) d l k s=AN P Q l k (AF s d v s.H):=rfl
def A9 (j:IntKind):AV→Option AV
 | .d (.int _ n)=>some (.d (.int j (j.wrap n)))
 | _=>none
theorem DW {j:IntKind} {x:Opd}:AN P Q (⟨d,none,.conv j x⟩::l) k s=G2 P Q (A9 j (ev s.t x)) d l k s:=by
 rw [GE]
 simp only [AR,G2,A9]
 cases ev s.t x with
 | d x=>cases x <;> rfl
 | _=>rfl
def A2:AV→Option AV
 | .ptr b o=>some (.ptr b o)
 | .eptr b s i j=>some (.eptr b s i j)
 | .dptr el o=>some (.dptr el o)
 | .fn f c=>some (.fn f c)
 | _=>none
theorem B3 {x:Opd}:AN P Q (⟨d,none,.nilCheck x⟩::l) k s=G2 P Q (A2 (ev s.t x)) d l k s:=by
 rw [GE]
 simp only [AR,G2,A2]
 cases ev s.t x <;> rfl
theorem CA {f:FuncId} {caps:List Opd}:AN P Q (⟨d,none,.mkfn f caps⟩::l) k s=AN P Q l k (AF s d (.fn f (Ab s.t caps)) s.H):=rfl
def Ax (off:Nat):AV→Option AV
 | .ptr b o=>some (.ptr b (o+off))
 | .eptr b s i j=>some (.eptr b s i (j+off))
 | .dptr el o=>some (.dptr el (o+off))
 | _=>none
theorem CJ {off:Nat} {x:Opd}:AN P Q (⟨d,none,.fieldAddr off x⟩::l) k s=G2 P Q (Ax off (ev s.t x)) d l k s:=by
 rw [GE]
 simp only [AR,G2,Ax]
 cases ev s.t x <;> rfl
def OU (P:Program) (Q:Out→St→Prop) (off:Nat) (g:Option Nat) (x:AV) (d:Option Nat) (l:List AO) (k:List Item) (s:St):Prop:=match x with
 | .agg xs=>match g with
  | none=>VC (off<AU xs) (AN P Q l k (AF s d (nth xs off) s.H))
  | some n=>VC (off+n≤AU xs) (AN P Q l k (AF s d (.agg (seg xs off n)) s.H))
 | _=>False
theorem Bn {off:Nat} {g:Option Nat} {x:Opd}:AN P Q (⟨d,none,.field off g x⟩::l) k s=OU P Q off g (ev s.t x) d l k s:=rfl
theorem Bi {off:Nat} {xs:List AV}:OU P Q off none (.agg xs) d l k s=VC (off<AU xs) (AN P Q l k (AF s d (nth xs off) s.H)):=rfl
theorem Bc {off n:Nat} {xs:List AV}:OU P Q off (some n) (.agg xs) d l k s=VC (off+n≤AU xs) (AN P Q l k (AF s d (.agg (seg xs off n)) s.H)):=rfl
def KD (P:Program) (Q:Out→St→Prop) (sz:Nat) (x i:AV) (d:Option Nat) (l:List AO) (k:List Item) (s:St):Prop:=match x,i with
 | .d (.sl sz' xs),.d (.int _ n)=>VC (sz=sz') (Ol P Q xs n d l k s)
 | .own b sz' off len _,.d (.int _ n)=>VC (sz=sz'∧0≤n∧n<len) (Lq P Q b sz off n d l k s)
 | .part b sz' off len _,.d (.int _ n)=>VC (sz=sz'∧0≤n∧n<len) (Lq P Q b sz off n d l k s)
 | _,_=>False
theorem CP {sz:Nat} {x i:Opd}:AN P Q (⟨d,none,.elemAddr sz x i⟩::l) k s=KD P Q sz (ev s.t x) (ev s.t i) d l k s:=rfl
theorem C3 {sz:Nat} {xs:List (List D)} {j:IntKind} {n:Int}:KD P Q sz (.d (.sl sz xs)) (.d (.int j n)) d l k s=Ol P Q xs n d l k s:=by simp [KD,VC]
theorem Cs {sz b off len cap:Nat} {j:IntKind} {n:Int}:KD P Q sz (.own b sz off len cap) (.d (.int j n)) d l k s=VC (0≤n∧n<len) (Lq P Q b sz off n d l k s):=by simp [KD,VC]
theorem C6 {sz b off len cap:Nat} {j:IntKind} {n:Int}:KD P Q sz (.part b sz off len cap) (.d (.int j n)) d l k s=VC (0≤n∧n<len) (Lq P Q b sz off n d l k s):=by simp [KD,VC]
theorem Dz {b sz off:Nat} {i:Int}:Lq P Q b sz off i d l k s=AN P Q l k (AF s d (.eptr b sz (off+i.toNat) 0) s.H):=rfl
theorem DO {z:List AV} {parts:List (Nat×Nat×Opd)}:AN P Q (⟨d,none,.build z parts⟩::l) k s=Rk P Q (Ah z (Ak s.t parts)) d l k s:=rfl
theorem Dv {cs:List AV}:Rk P Q (some cs) d l k s=AN P Q l k (AF s d (.agg cs) s.H):=rfl
def QH (P:Program) (Q:Out→St→Prop) (x:AV) (i:Nat) (d:Option Nat) (l:List AO) (k:List Item) (s:St):Prop:=match x with
 | .tup xs=>VC (i<AU xs) (AN P Q l k (AF s d (nth xs i) s.H))
 | _=>False
theorem BQ {x:Opd} {i:Nat}:AN P Q (⟨d,none,.extract x i⟩::l) k s=QH P Q (ev s.t x) i d l k s:=rfl
theorem EB {xs:List AV} {i:Nat}:QH P Q (.tup xs) i d l k s=VC (i<AU xs) (AN P Q l k (AF s d (nth xs i) s.H)):=rfl
def KT:AV→Option AV
 | .d (.sl _ xs)=>some (.d (.int .i64 xs.length))
 | .nilsl _=>some (.d (.int .i64 0))
 | .own _ _ _ len _=>some (.d (.int .i64 len))
 | .part _ _ _ len _=>some (.d (.int .i64 len))
 | _=>none
theorem C1 {x:Opd}:AN P Q (⟨d,none,.len x⟩::l) k s=G2 P Q (KT (ev s.t x)) d l k s:=by
 rw [GE]
 simp only [AR,G2,KT]
 cases ev s.t x with
 | d x=>cases x <;> rfl
 | _=>rfl
def PX (x y:AV) (d:Option Nat) (l:List AO) (k:List Item) (s:St) (P:Program) (Q:Out→St→Prop):Prop:=match x,y with
 | .d (.str b),.d (.int _ m)=>VC (0≤m∧m<b.size) (AN P Q l k (AF s d (.d (.int .u8 (EE b m.toNat))) s.H))
 | _,_=>False
theorem D5 {x i:Opd}:AN P Q (⟨d,none,.idxStr x i⟩::l) k s=PX (ev s.t x) (ev s.t i) d l k s P Q:=by
 rw [GE]
 simp only [AR]
 generalize ev s.t x=a
 generalize ev s.t i=b
 unfold PX
 cases a <;> cases b <;> try rfl
theorem Bo {b:ByteArray} {j:IntKind} {m:Int}:PX (.d (.str b)) (.d (.int j m)) d l k s P Q=VC (0≤m∧m<b.size) (AN P Q l k (AF s d (.d (.int .u8 (EE b m.toNat))) s.H)):=rfl
def A5:AV→Option AV
 | .d (.str s)=>some (.d (.int .i64 s.size))
 | _=>none
theorem DG {x:Opd}:AN P Q (⟨d,none,.slen x⟩::l) k s=G2 P Q (A5 (ev s.t x)) d l k s:=by
 rw [GE]
 simp only [AR,G2,A5]
 cases ev s.t x with
 | d x=>cases x <;> rfl
 | _=>rfl
def A6 (isMax:Bool) (x:AV) (xs:List AV):Option AV:=match x with
 | .d (.int k n)=>match Av isMax k n xs with
  | some m=>some (.d (.int k m))
  | none=>none
 | _=>none
theorem Bk {isMax:Bool} {x:Opd} {xs:List Opd}:AN P Q (⟨d,none,.minmax isMax x xs⟩::l) k s=G2 P Q (A6 isMax (ev s.t x) (Ab s.t xs)) d l k s:=by
 rw [GE]
 simp only [AR,G2,A6]
 cases ev s.t x with
 | d x =>
  cases x with
  | int k n=>dsimp only; cases Av isMax k n (Ab s.t xs) <;> rfl
  | _=>rfl
 | _=>rfl
theorem Dx {f:FuncId} {args:List Opd}:AN P Q (⟨d,none,.call f args⟩::l) k s=KA P Q f (Ab s.t args) d l k s:=rfl
def OR (P:Program) (Q:Out→St→Prop) (g:AV) (args:List AV) (d:Option Nat) (l:List AO) (k:List Item) (s:St):Prop:=match g with
 | .fn f caps=>KA P Q f (args++caps) d l k s
 | .yld y=>O4 P Q y args d l k s
 | _=>False
theorem Cl {g:Opd} {args:List Opd}:AN P Q (⟨d,none,.callv g args⟩::l) k s=OR P Q (ev s.t g) (Ab s.t args) d l k s:=rfl
theorem Cq {y:Nat} {args:List AV}:OR P Q (.yld y) args d l k s=O4 P Q y args d l k s:=rfl
theorem CZ {f:FuncId} {caps args:List AV}:OR P Q (.fn f caps) args d l k s=KA P Q f (args++caps) d l k s:=rfl
def NB (P:Program) (Q:Out→St→Prop) (f:FuncId) (args:List AV) (d:Option Nat) (l:List AO) (k:List Item) (s:St):Prop:=PCallK P f args s.H fun r=>AN P Q l k (AF s d r s.H)
theorem Ca {f:FuncId} {args:List Opd}:AN P Q (⟨d,none,.pcall f args⟩::l) k s=NB P Q f (Ab s.t args) d l k s:=rfl
def Rf (P:Program) (Q:Out→St→Prop) (g:AV) (args:List AV) (d:Option Nat) (l:List AO) (k:List Item) (s:St):Prop:=match g with
 | .fn f caps=>NB P Q f (args++caps) d l k s
 | _=>False
theorem CE {g:Opd} {args:List Opd}:AN P Q (⟨d,none,.pcallv g args⟩::l) k s=Rf P Q (ev s.t g) (Ab s.t args) d l k s:=rfl
theorem DK {f:FuncId} {caps args:List AV}:Rf P Q (.fn f caps) args d l k s=NB P Q f (args++caps) d l k s:=rfl
end
theorem R6 {w w':World} {b:Nat} (h:w'.heap[b]? = w.heap[b]?) (o:Nat):w'.cell? ⟨b,o,none⟩=w.cell? ⟨b,o,none⟩:=by
 simp only [World.cell?,h]
theorem RD.mono {F F':Nat→Prop} {w w':World} {x:D} {v:Value} (h:RD F w x v) (hF:∀k,F k→F' k) (hw:∀k,F k→w'.heap[k]? = w.heap[k]?):RD F' w' x v:=by
 induction h with
 | int k n=>exact .int k n
 | bool b=>exact .bool b
 | str s=>exact .str s
 | nil sz a cap=>exact .nil sz a cap
 | sl sz xs b off cap u hb hcap hsz hc _ ih =>
  exact .sl sz xs b off cap u (hF _ hb) hcap hsz (fun i j el c h1 h2=>by rw [R6 (hw b hb)]; exact hc i j el c h1 h2) ih
theorem VR.mono {P:Program} {F F':Nat→Prop} {w w':World} {x:AV} {v:Value} (h:VR P F w x v) (hF:∀k,F k→F' k) (hw:∀k,F k→w'.heap[k]? = w.heap[k]?):VR P F' w' x v:=by
 induction h with
 | d x v h=>exact .d x v (h.mono hF hw)
 | agg xs cs hl _ h1 ih=>exact .agg xs cs hl ih h1
 | tup xs cs hl _ ih=>exact .tup xs cs hl ih
 | nilp=>exact .nilp
 | nilsl sz=>exact .nilsl sz
 | nilfn=>exact .nilfn
 | ptr b off=>exact .ptr b off
 | eptr b sz i j=>exact .eptr b sz i j
 | dptr el off b o us hb hl hc hr =>
  exact .dptr el off b o us (hF _ hb) hl (fun j u h=>by rw [R6 (hw b hb)]; exact hc j u h) (fun j c u h1 h2=>(hr j c u h1 h2).mono hF hw)
 | own b sz off len cap h=>exact .own b sz off len cap h
 | part b sz off len cap o h ho=>exact .part b sz off len cap o h ho
 | fn f xs cs hf hl _ ih=>exact .fn f xs cs hf hl ih
 | yld l=>exact .yld l
 | void=>exact .void
 | undef v=>exact .undef v
theorem VRL.mono {P:Program} {F F':Nat→Prop} {w w':World} {xs:List AV} {vs:List Value} (h:VRL P F w xs vs) (hF:∀k,F k→F' k) (hw:∀k,F k→w'.heap[k]? = w.heap[k]?):VRL P F' w' xs vs :=
 ⟨h.1,fun j x v h1 h2=>(h.2 j x v h1 h2).mono hF hw⟩
theorem BR.mono {P:Program} {F F':Nat→Prop} {w w':World} {b:Nat} {x:Blk} (h:BR P F w b x) (hb:w'.heap[b]? = w.heap[b]?) (hF:∀k,F k→F' k) (hw:∀k,F k→w'.heap[k]? = w.heap[k]?):BR P F' w' b x:=by
 cases x with
 | box t cells =>
  obtain ⟨cur,h1,h2,h3⟩:=h
  exact ⟨cur,hb.trans h1,h2.mono hF hw,h3⟩
 | row t sz cap xs =>
  obtain ⟨cur,h1,h2,h3,h4,h5,h6,h7,h8⟩:=h
  exact ⟨cur,hb.trans h1,h2,h3,h4,h5,h6,fun i j el c u e1 e2 e3=>(h7 i j el c u e1 e2 e3).mono hF hw,h8⟩
 | obj o ts us=>exact ⟨hb.trans h.1,h.2.mono hF hw⟩
theorem BR.lt {P:Program} {F:Nat→Prop} {w:World} {b:Nat} {x:Blk} (h:BR P F w b x):b<w.heap.size:=by
 cases x with
 | box t cells=>obtain ⟨cur,h1,_⟩:=h; exact (Array.getElem?_eq_some_iff.1 h1).1
 | row t sz cap xs=>obtain ⟨cur,h1,_⟩:=h; exact (Array.getElem?_eq_some_iff.1 h1).1
 | obj o ts us=>exact (Array.getElem?_eq_some_iff.1 h.1).1
section
variable {P:Program} {F:Nat→Prop} {H:Heap} {w:World}
theorem HRel.fresh (h:HRel P F H w) {b:Nat} (hb:w.heap.size≤b):H b=none:=by
 cases e:H b with
 | none=>rfl
 | some x=>have:=(h.at_ b x e).lt; omega
theorem HRel.out (h:HRel P F H w) {k:Nat} (hk:F k):H k=none:=by
 cases e:H k with
 | none=>rfl
 | some x=>exact absurd hk (h.apart k x e)
theorem Step.refl (F:Nat→Prop) (H:Heap) (w:World):Step F H w F H w :=
 ⟨rfl,rfl,rfl,Nat.le_refl _,fun _ _ _=>rfl,fun _ h=>.inl h,fun _ h=>h,fun _ h=>.inl h⟩
theorem Step.keepF {F':Nat→Prop} {H':Heap} {w':World} (h:HRel P F H w) (st:Step F H w F' H' w'):∀k,F k→w'.heap[k]? = w.heap[k]? :=
 fun k hk=>st.keep k (h.old k hk) (h.out hk)
theorem Step.VR {F':Nat→Prop} {H':Heap} {w':World} (st:Step F H w F' H' w') (h:HRel P F H w) {x:AV} {v:Value} (hv:VR P F w x v):VR P F' w' x v :=
 hv.mono st.mono (Step.keepF h st)
theorem Step.trans {F1 F2:Nat→Prop} {H1 H2:Heap} {w1 w2:World} (a:Step F H w F1 H1 w1) (b:Step F1 H1 w1 F2 H2 w2):Step F H w F2 H2 w2 where
 os:=b.os.trans a.os
 tape:=b.tape.trans a.tape
 output:=b.output.trans a.output
 size:=Nat.le_trans a.size b.size
 keep:=fun k hk hn=>by
  have h1:H1 k=none:=by
   cases e:H1 k with
   | none=>rfl
   | some x=>rcases a.dom k (by simp [e]) with h | h
             ·exact absurd hn h
             ·omega
  rw [b.keep k (Nat.lt_of_lt_of_le hk a.size) h1,a.keep k hk hn]
 dom:=fun k hk=>by
  rcases b.dom k hk with h | h
  ·exact a.dom k h
  ·exact .inr (Nat.le_trans a.size h)
 mono:=fun k hk=>b.mono k (a.mono k hk)
 new:=fun k hk=>by
  rcases b.new k hk with h | h | h
  ·exact a.new k h
  ·rcases a.dom k h with h | h
   ·exact .inr (.inl h)
   ·exact .inr (.inr h)
  ·exact .inr (.inr (Nat.le_trans a.size h))
theorem HRel.alloc (h:HRel P F H w) (o:Obj) (x:Blk) (hx:BR P F (w.alloc o) w.heap.size x):HRel P F (AI H w.heap.size (some x)) (w.alloc o) where
 at_:=fun b y hb=>by
  rw [AL] at hb
  split at hb
  ·next e=>cases hb; subst e; exact hx
  ·exact (h.at_ b y hb).mono (Below.heap_alloc w o b (h.at_ b y hb).lt) (fun _ hk=>hk) (fun k hk=>Below.heap_alloc w o k (h.old k hk))
 apart:=fun b y hb=>by
  rw [AL] at hb
  split at hb
  ·next e=>subst e; exact fun hf=>by have:=h.old _ hf; omega
  ·exact h.apart b y hb
 old:=fun b hb=>by have:=h.old b hb; simp; omega
theorem Step.alloc (o:Obj) (x:Blk):Step F H w F (AI H w.heap.size (some x)) (w.alloc o) where
 os:=rfl
 tape:=rfl
 output:=rfl
 size:=by simp
 keep:=fun k hk _=>Below.heap_alloc w o k hk
 dom:=fun k hk=>by
  rw [AL] at hk
  split at hk
  ·next e=>exact .inr (by omega)
  ·exact .inl hk
 mono:=fun _ h=>h
 new:=fun _ h=>.inl h
theorem HRel.turn (h:HRel P F H w) {w':World} {b:Nat} {x0 x:Blk} (h0:H b=some x0) (hk:∀k,k≠b→w'.heap[k]? = w.heap[k]?) (hs:w'.heap.size=w.heap.size) (hx:BR P F w' b x):HRel P F (AI H b (some x)) w' where
 at_:=fun k y hy=>by
  rw [AL] at hy
  split at hy
  ·next e=>cases hy; subst e; exact hx
  ·next e=>exact (h.at_ k y hy).mono (hk k (fun e2=>e e2.symm)) (fun _ hk=>hk) (fun j hj=>hk j (fun e2=>by subst e2; exact h.apart _ _ h0 hj))
 apart:=fun k y hy=>by
  rw [AL] at hy
  split at hy
  ·next e=>subst e; exact h.apart _ _ h0
  ·exact h.apart k y hy
 old:=fun k hk=>by rw [hs]; exact h.old k hk
theorem Step.turn {w':World} {b:Nat} {x0 x:Blk} (h0:H b=some x0) (hk:∀k,k≠b→w'.heap[k]? = w.heap[k]?) (hs:w'.heap.size=w.heap.size) (h1:w'.os=w.os) (h2:w'.tape=w.tape) (h3:w'.output=w.output):Step F H w F (AI H b (some x)) w' where
 os:=h1
 tape:=h2
 output:=h3
 size:=by omega
 keep:=fun k _ hn=>hk k (fun e=>by subst e; simp [h0] at hn)
 dom:=fun k hk=>by
  rw [AL] at hk
  split at hk
  ·next e=>subst e; exact .inl (by simp [h0])
  ·exact .inl hk
 mono:=fun _ h=>h
 new:=fun _ h=>.inl h
theorem HRel.freeze (h:HRel P F H w) {b:Nat} {x:Blk} (h0:H b=some x):HRel P (fun k=>F k∨k=b) (AI H b none) w where
 at_:=fun k y hy=>by
  rw [AL] at hy
  split at hy
  ·cases hy
  ·exact (h.at_ k y hy).mono rfl (fun _ h=>.inl h) (fun _ _=>rfl)
 apart:=fun k y hy=>by
  rw [AL] at hy
  split at hy
  ·cases hy
  ·next e=>rintro (hf | rfl)
           ·exact h.apart k y hy hf
           ·exact e rfl
 old:=fun k hk=>by
  rcases hk with hk | rfl
  ·exact h.old k hk
  ·exact (h.at_ _ _ h0).lt
theorem Step.freeze {b:Nat} {x:Blk} (h0:H b=some x):Step F H w (fun k=>F k∨k=b) (AI H b none) w where
 os:=rfl
 tape:=rfl
 output:=rfl
 size:=Nat.le_refl _
 keep:=fun _ _ _=>rfl
 dom:=fun k hk=>by
  rw [AL] at hk
  split at hk
  ·exact absurd rfl hk
  ·exact .inl hk
 mono:=fun _ h=>.inl h
 new:=fun k hk=>by
  rcases hk with hk | rfl
  ·exact .inl hk
  ·exact .inr (.inl (by simp [h0]))
theorem BR.read {b sz cap:Nat} {t:TypeId} {xs:List (List D)} (h:BR P F w b (.row t sz cap xs)) {F':Nat→Prop} (hF:∀k,F k→F' k) (hb:F' b) (c:Nat) (hcl:xs.length≤c):RD F' w (.sl sz xs) (.slice (some ⟨b,0,none⟩) xs.length c):=by
 obtain ⟨cur,h1,h2,h3,h4,h5,h6,h7,h8⟩:=h
 have hlt:∀(i j:Nat) el c,xs[i]? = some el→el[j]? = some c→i*sz+j<cur.length:=fun i j el c e1 e2=>by
  have hi:i<xs.length:=(List.getElem?_eq_some_iff.1 e1).1
  have hj:j<el.length:=(List.getElem?_eq_some_iff.1 e2).1
  rw [h6 el (List.mem_of_getElem? e1)] at hj
  have:(i+1)*sz≤cap*sz:=Nat.mul_le_mul_right _ (by omega)
  rw [Nat.add_mul,Nat.one_mul] at this
  omega
 refine .sl sz xs b 0 c (fun k=>cur.getD k default) hb hcl h6 (fun i j el c e1 e2=>?_) (fun i j el c e1 e2=>?_)
 ·have:=hlt i j el c e1 e2
  simp [World.cell?,h1,List.getElem?_eq_getElem this,List.getD]
 ·have:=hlt i j el c e1 e2
  refine (h7 i j el c _ e1 e2 ?_).mono hF (fun _ _=>rfl)
  simp [List.getElem?_eq_getElem this,List.getD]
end
section
variable {P:Program}
theorem LendL.nil {H:Heap}:LendL H [] []:=⟨rfl,fun j x y h _=>by simp at h⟩
theorem LendL.cons {H:Heap} {x y:AV} {xs ys:List AV} (h:LendV H x y) (t:LendL H xs ys):LendL H (x::xs) (y::ys) :=
 ⟨by simp [t.1],fun j a b h1 h2=>by
  cases j with
  | zero=>simp at h1 h2; subst h1; subst h2; exact h
  | succ j=>exact t.2 j a b (by simpa using h1) (by simpa using h2)⟩
theorem LendL.refl {H:Heap} (xs:List AV):LendL H xs xs:=⟨rfl,fun j x y h1 h2=>by rw [h1] at h2; cases h2; exact .refl _⟩
theorem LendV.aggL {H:Heap} {xs ys:List AV} (h:LendL H xs ys):LendV H (.agg xs) (.agg ys):=.agg xs ys h.1 h.2
theorem LendV.tupL {H:Heap} {xs ys:List AV} (h:LendL H xs ys):LendV H (.tup xs) (.tup ys):=.tup xs ys h.1 h.2
def IH (H:Heap) (k:Nat):Prop:=∃t sz cap xs,H k=some (.row t sz cap xs)
theorem LendV.sound {F:Nat→Prop} {H:Heap} {w:World} (hh:HRel P F H w) {x y:AV} (h:LendV H x y):∀{v:Value},VR P F w x v→VR P (fun k=>F k∨IH H k) w y v:=by
 induction h with
 | refl x=>exact fun hv=>hv.mono (fun _ h=>.inl h) (fun _ _=>rfl)
 | nilsl sz sz'=>intro v hv; cases hv; exact .d _ _ (.nil _ _ _)
 | own b sz cap t cap' xs h =>
  intro v hv
  cases hv
  next hl =>
  refine .d _ _ ?_
  rw [Nat.zero_mul]
  exact (hh.at_ _ _ h).read (fun _ h=>.inl h) (.inr ⟨t,sz,cap',xs,h⟩) cap hl
 | agg xs ys hl _ ih =>
  intro v hv
  cases hv
  next cs h3 h1 h2 =>
  exact .agg _ _ (by omega) (fun j y v g1 g2=>by
   have hj:j<xs.length:=by rw [hl]; exact (List.getElem?_eq_some_iff.1 g1).1
   exact ih j _ y (List.getElem?_eq_getElem hj) g1 (h2 j _ v (List.getElem?_eq_getElem hj) g2)) (by assumption)
 | tup xs ys hl _ ih =>
  intro v hv
  cases hv
  next cs h1 h2 =>
  exact .tup _ _ (by omega) (fun j y v g1 g2=>by
   have hj:j<xs.length:=by rw [hl]; exact (List.getElem?_eq_some_iff.1 g1).1
   exact ih j _ y (List.getElem?_eq_getElem hj) g1 (h2 j _ v (List.getElem?_eq_getElem hj) g2))
theorem LendL.sound {F:Nat→Prop} {H:Heap} {w:World} (hh:HRel P F H w) {xs ys:List AV} (h:LendL H xs ys) {vs:List Value} (hv:VRL P F w xs vs):VRL P (fun k=>F k∨IH H k) w ys vs :=
 ⟨by rw [←h.1]; exact hv.1,fun j y v g1 g2=>by
  have hj:j<xs.length:=by rw [h.1]; exact (List.getElem?_eq_some_iff.1 g1).1
  exact (h.2 j _ y (List.getElem?_eq_getElem hj) g1).sound hh (hv.2 j _ v (List.getElem?_eq_getElem hj) g2)⟩
theorem DataW.run {f:FuncId} {args:List AV} {r:AV} (h:DataW P f args r) {F:Nat→Prop} {w:World} {vs:List Value} (hF:∀k,F k→k<w.heap.size) (hv:VRL P F w args vs) :
  Calls P f vs.toArray w fun e w'=>∃F' v,e = .returned v∧VR P F' w' r v∧(∀k,F' k→k<w'.heap.size)∧Step F Heap.none w F' Heap.none w':=by
 refine (h F w vs ⟨fun b x hb=>(by cases hb),fun b x hb=>(by cases hb),hF⟩ hv).mono fun e w' hh=>?_
 obtain ⟨r',H',F',v,rfl,h1,h2,h3,h4⟩:=hh
 refine ⟨_,v,rfl,h4.sound h2 h1,fun k hk=>?_,⟨h3.os,h3.tape,h3.output,h3.size,h3.keep,fun k hk=>absurd rfl hk,fun k hk=>.inl (h3.mono k hk),fun k hk=>?_⟩⟩
 ·rcases hk with hk | ⟨t,sz,cap,xs,hk⟩
  ·exact h2.old k hk
  ·exact (h2.at_ k _ hk).lt
 ·rcases hk with hk | ⟨t,sz,cap,xs,hk⟩
  ·exact h3.new k hk
  ·rcases h3.dom k (by rw [hk]; simp) with e | e
   ·exact absurd rfl e
   ·exact .inr (.inr e)
theorem Ta {f:FuncId} {args args':List AV} {r:AV} {H:Heap} {K:AV→Heap→Prop} (h:DataW P f args' r) (hl:LendL Heap.none args args') (hk:K r H):CallW P f args H K:=by
 intro F w vs hh hv
 have hv':VRL P F w args' vs:=(hl.sound (H:=Heap.none) (F:=F) ⟨fun b x hb=>(by cases hb),fun b x hb=>(by cases hb),hh.old⟩ hv).mono (fun k hk=>hk.resolve_right (fun ⟨_,_,_,_,e⟩=>by cases e)) (fun _ _=>rfl)
 refine (h.run hh.old hv').mono fun e w' hr=>?_
 obtain ⟨F',v,rfl,h1,h2,h3⟩:=hr
 have hkeep:∀k,k<w.heap.size→w'.heap[k]? = w.heap[k]?:=fun k hk=>h3.keep k hk rfl
 refine ⟨r,H,F',v,rfl,h1,⟨fun b x hb=>?_,fun b x hb hf=>?_,h2⟩,⟨h3.os,h3.tape,h3.output,h3.size,fun k hk _=>hkeep k hk,fun k hk=>.inl hk,h3.mono,fun k hk=>?_⟩,hk⟩
 ·exact (hh.at_ b x hb).mono (hkeep b (hh.at_ b x hb).lt) h3.mono (fun k hk=>hkeep k (hh.old k hk))
 ·rcases h3.new b hf with e | e | e
  ·exact hh.apart b x hb e
  ·exact e rfl
  ·have:=(hh.at_ b x hb).lt; omega
 ·rcases h3.new k hk with e | e | e
  ·exact .inl e
  ·exact absurd rfl e
  ·exact .inr (.inr e)
theorem PZ {F F':Nat→Prop} {w:World} {x:AV} {v:Value} (h:VR P F w x v) (hs:scal x=true):VR P F' w x v:=by
 cases x <;> simp only [scal,reduceCtorEq,Bool.false_eq_true] at hs
 cases h; next h =>
 cases h <;> simp only [Iv,reduceCtorEq,Bool.false_eq_true] at hs
 ·exact .d _ _ (.int _ _)
 ·exact .d _ _ (.bool _)
 ·exact .d _ _ (.str _)
theorem OO {F F':Nat→Prop} {w:World} {x:AV} {v:Value} (h:VR P F w x v) (hs:K8 x=true):VR P F' w x v:=by
 cases x <;> simp only [K8] at hs
 case tup xs =>
  cases h
  next cs h1 h2=>exact .tup _ _ h1 (fun j x v g1 g2=>PZ (h2 j x v g1 g2) (List.all_eq_true.1 hs x (List.mem_of_getElem? g1)))
 case agg xs =>
  cases h
  next cs h3 h1 h2=>exact .agg _ _ h1 (fun j x v g1 g2=>PZ (h2 j x v g1 g2) (List.all_eq_true.1 hs x (List.mem_of_getElem? g1))) h3
 all_goals exact PZ h hs
theorem Tc {f:FuncId} {args args':List AV} {r:AV} {H:Heap} {K:AV→Heap→Prop} (h:DataW P f args' r) (hl:LendL H args args') (hs:K8 r=true) (hk:K r H):CallW P f args H K:=by
 intro F w vs hh hv
 refine (h.run (F:=fun k=>F k∨IH H k) (fun k hk=>?_) (hl.sound hh hv)).mono fun e w' hr=>?_
 ·rcases hk with hk | ⟨t,sz,cap,xs,hk⟩
  ·exact hh.old k hk
  ·exact (hh.at_ k _ hk).lt
 obtain ⟨F',v,rfl,h1,h2,h3⟩:=hr
 have hkeep:∀k,k<w.heap.size→w'.heap[k]? = w.heap[k]?:=fun k hk=>h3.keep k hk rfl
 refine ⟨r,H,fun k=>F' k∧H k=none,v,rfl,OO h1 hs,⟨fun b x hb=>?_,fun b x hb hf=>?_,fun k hk=>h2 k hk.1⟩,⟨h3.os,h3.tape,h3.output,h3.size,fun k hk _=>hkeep k hk,fun k hk=>.inl hk,fun k hk=>⟨h3.mono k (.inl hk),hh.out hk⟩,fun k hk=>?_⟩,hk⟩
 ·exact (hh.at_ b x hb).mono (hkeep b (hh.at_ b x hb).lt) (fun k hk=>⟨h3.mono k (.inl hk),hh.out hk⟩) (fun k hk=>hkeep k (hh.old k hk))
 ·rw [hf.2] at hb; cases hb
 ·rcases h3.new k hk.1 with (e | ⟨t,sz,cap,xs,e⟩) | e | e
  ·exact .inl e
  ·rw [hk.2] at e; cases e
  ·exact absurd rfl e
  ·exact .inr (.inr e)
theorem AHz {F F':Nat→Prop} {w:World} {sz:Nat} {xs:List (List D)} {v:Value} (h:RD F w (.sl sz xs) v) (hs:∀el∈xs,∀d∈el,Iv d=true) (hF:∀b off len cap,v = .slice (some ⟨b,off,none⟩) len cap→F' b):RD F' w (.sl sz xs) v:=by
 cases h
 case nil=>exact .nil _ _ _
 case sl b off cap u h1 hcap hsz hc hr =>
  refine .sl _ _ b off cap u (hF _ _ _ _ rfl) hcap hsz hc fun i j el c g1 g2=>?_
  have h2:=hr i j el c g1 g2
  have h3:=hs el (List.mem_of_getElem? g1) c (List.mem_of_getElem? g2)
  generalize u (i*sz+j)=uv at h2 ⊢
  cases h2 <;> simp only [Iv,reduceCtorEq,Bool.false_eq_true] at h3
  ·exact .int _ _
  ·exact .bool _
  ·exact .str _
theorem NewV.sound {F:Nat→Prop} {H:Heap} {w:World} (hh:HRel P F H w) {x y:AV} (h:NewV H x y):∀{v:Value},VR P F w x v→VR P (IH H) w y v:=by
 induction h with
 | scal x hs=>exact fun hv=>OO hv hs
 | nilsl sz sz'=>intro v hv; cases hv; exact .d _ _ (.nil _ _ _)
 | own b sz cap t cap' xs h hs =>
  intro v hv
  cases hv
  next hl =>
  refine .d _ _ ?_
  rw [Nat.zero_mul]
  refine AHz ((hh.at_ _ _ h).read (F':=fun k=>F k∨IH H k) (fun _ h=>.inl h) (.inr ⟨t,sz,cap',xs,h⟩) cap hl) hs ?_
  intro b' off len cap e
  cases e
  exact ⟨t,sz,cap',xs,h⟩
 | agg xs ys hl _ ih =>
  intro v hv
  cases hv
  next cs h3 h1 h2 =>
  exact .agg _ _ (by omega) (fun j y v g1 g2=>by
   have hj:j<xs.length:=by rw [hl]; exact (List.getElem?_eq_some_iff.1 g1).1
   exact ih j _ y (List.getElem?_eq_getElem hj) g1 (h2 j _ v (List.getElem?_eq_getElem hj) g2)) (by assumption)
 | tup xs ys hl _ ih =>
  intro v hv
  cases hv
  next cs h1 h2 =>
  exact .tup _ _ (by omega) (fun j y v g1 g2=>by
   have hj:j<xs.length:=by rw [hl]; exact (List.getElem?_eq_some_iff.1 g1).1
   exact ih j _ y (List.getElem?_eq_getElem hj) g1 (h2 j _ v (List.getElem?_eq_getElem hj) g2))
theorem NewV.lend {H:Heap} {x y:AV} (h:NewV H x y):LendV H x y:=by
 induction h with
 | scal x _=>exact .refl x
 | nilsl sz sz'=>exact .nilsl sz sz'
 | own b sz cap t cap' xs h _=>exact .own b sz cap t cap' xs h
 | agg xs ys hl _ ih=>exact .agg xs ys hl ih
 | tup xs ys hl _ ih=>exact .tup xs ys hl ih
theorem NewW.data {f:FuncId} {args:List AV} {r:AV} (h:NewW P f args r):DataW P f args r :=
 fun F w vs hh hv=>(h F w vs hh hv).mono fun _ _ ⟨r,H',F',v,h1,h2,h3,h4,h5⟩=>⟨r,H',F',v,h1,h2,h3,h4,h5.lend⟩
theorem AKp {f:FuncId} {args args':List AV} {r:AV} {H:Heap} {K:AV→Heap→Prop} (h:NewW P f args' r) (hl:LendL H args args') (hk:K r H):CallW P f args H K:=by
 intro F w vs hh hv
 have hold:∀k,F k∨IH H k→k<w.heap.size:=by
  rintro k (hk | ⟨t,sz,cap,xs,hk⟩)
  ·exact hh.old k hk
  ·exact (hh.at_ k _ hk).lt
 refine (h (fun k=>F k∨IH H k) w vs ⟨fun b x hb=>(by cases hb),fun b x hb=>(by cases hb),hold⟩ (hl.sound hh hv)).mono fun e w' hr=>?_
 obtain ⟨r',H',F',v,rfl,h1,h2,h3,h4⟩:=hr
 have hkeep:∀k,k<w.heap.size→w'.heap[k]? = w.heap[k]?:=fun k hk=>h3.keep k hk rfl
 have hnew:∀k,IH H' k→w.heap.size≤k:=by
  rintro k ⟨t,sz,cap,xs,e⟩
  rcases h3.dom k (by rw [e]; simp) with e | e
  ·exact absurd rfl e
  ·exact e
 refine ⟨r,H,fun k=>F k∨IH H' k,v,rfl,(h4.sound h2 h1).mono (fun _ h=>.inr h) (fun _ _=>rfl),⟨fun b x hb=>?_,fun b x hb hf=>?_,fun k hk=>?_⟩,⟨h3.os,h3.tape,h3.output,h3.size,fun k hk _=>hkeep k hk,fun k hk=>.inl hk,fun k hk=>.inl hk,fun k hk=>?_⟩,hk⟩
 ·exact (hh.at_ b x hb).mono (hkeep b (hh.at_ b x hb).lt) (fun k hk=>.inl hk) (fun k hk=>hkeep k (hh.old k hk))
 ·rcases hf with hf | hf
  ·exact hh.apart b x hb hf
  ·have:=hnew b hf
   have:=(hh.at_ b x hb).lt
   omega
 ·rcases hk with hk | ⟨t,sz,cap,xs,e⟩
  ·exact Nat.lt_of_lt_of_le (hh.old k hk) h3.size
  ·exact (h2.at_ k _ e).lt
 ·rcases hk with hk | hk
  ·exact .inl hk
  ·exact .inr (.inr (hnew k hk))
theorem CallW.froze {f:FuncId} {args:List AV} {v:AV} {H:Heap} {K:Heap→Prop} (h:CallW P f args H fun r H'=>∃Hr Hk,(∀k,Hr k=none∨Hr k=H' k)∧(∀k,Hk k=none∨Hk k=H' k∧Hr k=none)∧NewV Hr r v∧K Hk):CallW P f args H fun r H'=>r=v∧K H':=by
 intro F w vs hh hv
 refine (h F w vs hh hv).mono fun e w' hr=>?_
 obtain ⟨r,H',F',u,rfl,h1,h2,h3,Hr,Hk,g1,g2,g3,g4⟩:=hr
 have g1k:∀b x,Hr b=some x→H' b=some x:=fun b x hb=>by
  rcases g1 b with e | e
  ·rw [e] at hb; cases hb
  ·rw [←e]; exact hb
 have hrel:HRel P F' Hr w':=⟨fun b x hb=>h2.at_ b x (g1k b x hb),fun b x hb=>h2.apart b x (g1k b x hb),h2.old⟩
 have hrow:∀k,IH Hr k→∃x,H' k=some x:=fun k ⟨t,sz,cap,xs,e⟩=>by
  rcases g1 k with e1 | e1
  ·rw [e1] at e; cases e
  ·exact ⟨_,by rw [←e1]; exact e⟩
 have hkk:∀k x,Hk k=some x→H' k=some x∧Hr k=none:=fun k x hx=>by
  rcases g2 k with e | ⟨e,e'⟩
  ·rw [e] at hx; cases hx
  ·exact ⟨by rw [←e]; exact hx,e'⟩
 refine ⟨v,Hk,fun k=>F' k∨IH Hr k,u,rfl,(g3.sound hrel h1).mono (fun _ h=>.inr h) (fun _ _=>rfl),⟨fun b x hb=>?_,fun b x hb hf=>?_,fun k hk=>?_⟩,⟨h3.os,h3.tape,h3.output,h3.size,h3.keep,fun k hk=>?_,fun k hk=>.inl (h3.mono k hk),fun k hk=>?_⟩,rfl,g4⟩
 ·exact (h2.at_ b x (hkk b x hb).1).mono rfl (fun k hk=>.inl hk) (fun k hk=>rfl)
 ·rcases hf with hf | ⟨t,sz,cap,xs,e⟩
  ·exact h2.apart b x (hkk b x hb).1 hf
  ·rw [(hkk b x hb).2] at e; cases e
 ·rcases hk with hk | hk
  ·exact h2.old k hk
  ·obtain ⟨x,hx⟩:=hrow k hk
   exact (h2.at_ k x hx).lt
 ·refine h3.dom k fun e=>?_
  cases hx:Hk k with
  | none=>exact hk hx
  | some x=>rw [(hkk k x hx).1] at e; cases e
 ·rcases hk with hk | hk
  ·exact h3.new k hk
  ·obtain ⟨x,hx⟩:=hrow k hk
   rcases h3.dom k (by rw [hx]; simp) with e | e
   ·exact .inr (.inl e)
   ·exact .inr (.inr e)
theorem NCallK.call {f:FuncId} {args:List AV} {H:Heap} {K:AV→Heap→Prop} (h:NCallK P f args H K):CallW P f args H K:=by
 obtain ⟨args',e,sz,xs,hl,hc,hn,ho⟩:=h
 intro F w vs hh hv
 have hz:HRel P F Heap.none w:=⟨fun b x hb=>(by cases hb),fun b x hb=>(by cases hb),hh.old⟩
 have hv':VRL P F w args' vs:=(hl.sound hz hv).mono (fun k hk=>hk.resolve_right (fun ⟨_,_,_,_,e⟩=>by cases e)) (fun _ _=>rfl)
 refine (hc F w vs hz hv').mono fun ex w' hr=>?_
 obtain ⟨r,H1,F',v,rfl,h1,h2,h3,h4⟩:=hr
 have hkeep:∀k,k<w.heap.size→w'.heap[k]? = w.heap[k]?:=fun k hk=>h3.keep k hk rfl
 have hat:∀b x,H b=some x→BR P F' w' b x:=fun b x hb=>(hh.at_ b x hb).mono (hkeep b (hh.at_ b x hb).lt) h3.mono (fun k hk=>hkeep k (hh.old k hk))
 have hap:∀b x,H b=some x→¬F' b:=fun b x hb hf=>by
  rcases h3.new b hf with e | e | e
  ·exact hh.apart b x hb e
  ·exact e rfl
  ·have:=(hh.at_ b x hb).lt; omega
 have hnew:∀k,F' k→F k∨H k≠none∨w.heap.size≤k:=fun k hk=>by
  rcases h3.new k hk with e | e | e
  ·exact .inl e
  ·exact absurd rfl e
  ·exact .inr (.inr e)
 rcases h4 with ⟨rfl,n,rfl⟩ | ⟨b,cap,rfl,hb⟩
 ·exact ⟨_,H,F',v,rfl,h1,⟨hat,hap,h2.old⟩,⟨h3.os,h3.tape,h3.output,h3.size,fun k hk _=>hkeep k hk,fun k hk=>.inl hk,h3.mono,hnew⟩,hn rfl n⟩
 ·have hbw:w.heap.size≤b:=by
   rcases h3.dom b (by rw [hb]; simp) with e | e
   ·exact absurd rfl e
   ·exact e
  have hbn:H b=none:=hh.fresh hbw
  refine ⟨_,AI H b (some (.row e sz cap xs)),F',v,rfl,h1,⟨fun k x hk=>?_,fun k x hk=>?_,h2.old⟩,⟨h3.os,h3.tape,h3.output,h3.size,fun k hk _=>hkeep k hk,fun k hk=>?_,h3.mono,hnew⟩,ho b cap hbn⟩
  ·rw [AL] at hk
   split at hk
   ·next e=>cases hk; subst e; exact h2.at_ _ _ hb
   ·exact hat k x hk
  ·rw [AL] at hk
   split at hk
   ·next e=>cases hk; subst e; exact h2.apart _ _ hb
   ·exact hap k x hk
  ·rw [AL] at hk
   split at hk
   ·next e=>subst e; exact .inr hbw
   ·exact .inl hk
theorem PCallK.call {f:FuncId} {args:List AV} {H:Heap} {K:AV→Heap→Prop} (h:PCallK P f args H fun r=>K r H):CallW P f args H K:=by
 obtain ⟨args',r,h1,h2 | h2 | h2,h3,h4⟩:=h
 ·exact Tc h3 h1 h2 h4
 ·exact Ta h3 h2 h4
 ·exact AKp h2 h1 h4
end
theorem IS (l:List AV):AU l=l.length:=by induction l <;> simp [AU, *]
theorem AFn (l:List AV) (i:Nat) (h:i<l.length):l[i]? = some (nth l i):=by
 induction l generalizing i with
 | nil=>simp at h
 | cons a l ih=>cases i with
  | zero=>rfl
  | succ i=>simpa [nth] using ih i (by simpa using h)
theorem VRL.nth {P:Program} {F:Nat→Prop} {w:World} {xs:List AV} {cs:List Value} (h:VRL P F w xs cs) {i:Nat} (hi:i<AU xs):∃u,cs[i]? = some u∧VR P F w (nth xs i) u:=by
 rw [IS] at hi
 have hc:i<cs.length:=by rw [←h.1]; exact hi
 exact ⟨cs[i],List.getElem?_eq_getElem hc,h.2 i _ _ (AFn xs i hi) (List.getElem?_eq_getElem hc)⟩
theorem VRL.seg {P:Program} {F:Nat→Prop} {w:World} {xs:List AV} {cs:List Value} (h:VRL P F w xs cs) (off n:Nat):VRL P F w (seg xs off n) ((cs.drop off).take n):=by
 refine ⟨by simp [Abs.seg,h.1],fun j x v h1 h2=>?_⟩
 simp only [Abs.seg,List.getElem?_take,List.getElem?_drop] at h1 h2
 split at h1
 ·next hj=>rw [if_pos hj] at h2; exact h.2 _ _ _ h1 h2
 ·cases h1
theorem VRL.nil {P:Program} {F:Nat→Prop} {w:World}:VRL P F w [] []:=⟨rfl,fun j x v h _=>by simp at h⟩
theorem VRL.cons {P:Program} {F:Nat→Prop} {w:World} {x:AV} {v:Value} {xs:List AV} {vs:List Value} (h:VR P F w x v) (t:VRL P F w xs vs):VRL P F w (x::xs) (v::vs) :=
 ⟨by simp [t.1],fun j y u h1 h2=>by
  cases j with
  | zero=>simp at h1 h2; subst h1; subst h2; exact h
  | succ j=>exact t.2 j y u (by simpa using h1) (by simpa using h2)⟩
theorem VRL.append {P:Program} {F:Nat→Prop} {w:World} {xs ys:List AV} {vs us:List Value} (h:VRL P F w xs vs) (t:VRL P F w ys us):VRL P F w (xs++ys) (vs++us):=by
 refine ⟨by simp [h.1,t.1],fun j y u h1 h2=>?_⟩
 by_cases hj:j<xs.length
 ·rw [List.getElem?_append_left hj] at h1
  rw [List.getElem?_append_left (by rw [←h.1]; exact hj)] at h2
  exact h.2 j y u h1 h2
 ·rw [List.getElem?_append_right (by omega)] at h1
  rw [List.getElem?_append_right (by rw [←h.1]; omega),←h.1] at h2
  exact t.2 _ y u h1 h2
theorem VRL.uncons {P:Program} {F:Nat→Prop} {w:World} {x:AV} {xs:List AV} {vs:List Value} (h:VRL P F w (x::xs) vs):∃v us,vs=v::us∧VR P F w x v∧VRL P F w xs us:=by
 cases vs with
 | nil=>have:=h.1; simp at this
 | cons v us=>exact ⟨v,us,rfl,h.2 0 x v rfl rfl,by have:=h.1; simpa using this,fun j y u h1 h2=>h.2 (j+1) y u (by simpa using h1) (by simpa using h2)⟩
theorem VRL.unnil {P:Program} {F:Nat→Prop} {w:World} {vs:List Value} (h:VRL P F w [] vs):vs=[]:=by
 have:=h.1; simpa using this.symm
theorem Pn (l:List D):mapD l=l.map .d:=by induction l <;> simp [mapD, *]
theorem VRL.mapD {P:Program} {F:Nat→Prop} {w:World} {el:List D} {us:List Value} (hl:el.length=us.length) (h:∀(j:Nat) c u,el[j]? = some c→us[j]? = some u→RD F w c u):VRL P F w (mapD el) us:=by
 rw [Pn]
 refine ⟨by simp [hl],fun j x v h1 h2=>?_⟩
 simp only [List.getElem?_map,Option.map_eq_some_iff] at h1
 obtain ⟨c,h3,rfl⟩:=h1
 exact .d _ _ (h j c v h3 h2)
theorem RD.one {F:Nat→Prop} {w:World} {x:D} {v:Value} (h:RD F w x v):v.oneCell'=true:=by cases h <;> rfl
section
variable {P:Program} {F:Nat→Prop} {w:World} {s:St} {a:Act}
theorem SU (v:Value):VR P F w (Np v) v:=by
 cases v with
 | bool b=>exact .d _ _ (.bool b)
 | int k n=>exact .d _ _ (.int k n)
 | string s=>exact .d _ _ (.str s)
 | pointer q=>cases q with
  | none=>exact .nilp
  | some q=>exact .undef _
 | nilFunc=>exact .nilfn
 | _=>exact .undef _
theorem ALf (v:Value):VR P F w (Pg v) v:=by
 unfold Pg
 split
 ·exact .nilsl 0
 ·next cs =>
  split
  ·next h =>
   have:=VR.agg (P:=P) (F:=F) (w:=w) (cs.toList.map Np) cs.toList (by simp) (fun j x v h1 h2=>by
    simp only [List.getElem?_map,Option.map_eq_some_iff] at h1
    obtain ⟨c,h3,rfl⟩:=h1
    rw [h2] at h3; cases h3; exact SU _) (fun v hv=>by simp only [List.all_eq_true] at h; exact h v hv)
   simpa using this
  ·exact .undef _
 ·exact SU _
theorem Ea (hr:∀t,VR P F w (s.t t) (a.tmps.getD t undef)) (x:Operand):VR P F w (ev s.t (Eo P x)) (a.eval x):=by
 cases x with
 | tmp t=>exact hr t
 | const v=>exact ALf v
 | global g=>exact .undef _
 | func f =>
  simp only [Eo,Act.eval]
  by_cases h:J4 P f=true
  ·rw [if_pos h]; exact .fn f [] [] h rfl (fun j x v h1 _=>by simp at h1)
  ·rw [if_neg h]; exact .undef _
theorem M5 (hr:∀t,VR P F w (s.t t) (a.tmps.getD t undef)) (l:List Operand):VRL P F w (Ab s.t (l.map (Eo P))) (l.map a.eval):=by
 induction l with
 | nil=>exact VRL.nil
 | cons x l ih=>exact VRL.cons (Ea hr x) ih
end
def OpOK (P:Program) (s:St) (F:Nat→Prop) (a:Act) (w:World) (o:Oper) (K:AV→Heap→Prop):Prop :=
 ∀(r:Option Nat) (next:Act→World→Prop) (Q:Exit→Act→World→Prop),
  (∀v av H' F' w',VR P F' w' av v→HRel P F' H' w'→Step F s.H w F' H' w'→K av H'→next (a.put o.dst v) w')→o.wpIn (F8 r) 0 P a w next Q
section
variable {P:Program} {F:Nat→Prop} {w:World} {s:St} {a:Act} {o:Oper} {K:AV→Heap→Prop}
theorem Ww {ρ:Operand→Value} {w':World} {x:Next} (h:(execOp ρ o).run P w = .ok x w') (hx:∀d,x≠.defer d):∀c,o.op≠.defer c:=by
 intro c hc
 simp only [execOp,hc,Sem.run_bind,Sem.run_pure] at h
 cases hr:(resolve ρ c o.type).run P w with
 | ok d w1=>rw [hr] at h; simp only [Result.andThen_ok,Result.ok.injEq] at h; exact hx _ h.1.symm
 | halt e w1=>rw [hr] at h; simp [Result.andThen] at h
theorem Nl {r:Option Nat} {next:Act→World→Prop} {Q:Exit→Act→World→Prop} {w':World} {x:Next} (h:(execOp a.eval o).run P w = .ok x w') (hx:∀d,x≠.defer d)
  (hu:o.uponIn (F8 r) 0 P a next Q (.ok x w')):o.wpIn (F8 r) 0 P a w next Q:=by
 refine ⟨fun _ _=>trivial,?_⟩
 rw [Oper.semAt_eq _ _ _ (Ww h hx),h]
 exact hu
theorem OpOK.value {v:Value} {av:AV} {H':Heap} {F':Nat→Prop} {w':World} (h:(execOp a.eval o).run P w = .ok (.value v) w') (hv:VR P F' w' av v) (hh:HRel P F' H' w') (st:Step F s.H w F' H' w') (hk:K av H'):OpOK P s F a w o K:=by
 intro r next Q hn
 refine Nl h (by simp) ?_
 exact hn v av H' F' w' hv hh st hk
theorem OpOK.skip {H':Heap} {F':Nat→Prop} {w':World} (h:(execOp a.eval o).run P w = .ok .skip w') (hh:HRel P F' H' w') (st:Step F s.H w F' H' w') (hk:K .void H'):OpOK P s F a w o K:=by
 intro r next Q hn
 refine Nl h (by simp) ?_
 exact hn undef .void H' F' w' .void hh st hk
theorem OpOK.same (hh:HRel P F s.H w) {v:Value} {av:AV} (h:(execOp a.eval o).run P w = .ok (.value v) w) (hv:VR P F w av v) (hk:K av s.H):OpOK P s F a w o K :=
 OpOK.value h hv hh (Step.refl _ _ _) hk
end
section
variable {P:Program} {F:Nat→Prop} {w:World}
theorem AGA {t:TypeId} (h:GV P t=some none):∃d,P.underlying t=some d∧(∀fs,d≠.struct fs)∧(∀n e,d≠.array n e)∧∃i,P.info? t=some i:=by
 unfold GV at h
 split at h <;> simp at h
 next d i h1 h2 h3 h4=>exact ⟨d,h3,fun fs e=>h1 fs e,fun n e e2=>h2 n e e2,i,h4⟩
theorem Nz {t:TypeId} {n:Nat} (h:GV P t=some (some n)):∃d,P.underlying t=some d∧((∃fs,d = .struct fs)∨∃m e,d = .array m e)∧∃i,P.info? t=some i∧i.size=n:=by
 unfold GV at h
 split at h <;> simp at h
 ·next fs i h3 h4=>exact ⟨_,h3,.inl ⟨_,rfl⟩,i,h4,h⟩
 ·next m e i h3 h4=>exact ⟨_,h3,.inr ⟨_,_,rfl⟩,i,h4,h⟩
theorem Rz {t:TypeId} (h:GV P t=some none):(isAgg t).run P w = .ok false w:=by
 obtain ⟨d,h1,h2,h3,i,h4⟩:=AGA h
 simp only [isAgg,Sem.run_bind,run_underlying h1,Result.andThen_ok]
 cases d <;> simp_all
theorem OG {t:TypeId} {n:Nat} (h:GV P t=some (some n)):(isAgg t).run P w = .ok true w:=by
 obtain ⟨d,h1,h2,i,h4⟩:=Nz h
 simp only [isAgg,Sem.run_bind,run_underlying h1,Result.andThen_ok]
 rcases h2 with ⟨fs,rfl⟩ | ⟨m,e,rfl⟩ <;> rfl
theorem GQ {t:TypeId} {i:TypeInfo} (h:P.info? t=some i):(sizeOf t).run P w = .ok i.size w:=by
 simp [sizeOf,typeInfo,h]
theorem Gs (b off j:Nat):(⟨b,off,none⟩:Addr).add j=⟨b,off+j,none⟩:=by
 unfold Addr.add; split <;> simp_all
theorem ACE {t:TypeId} (h:GV P t=some none) {p:Addr} {v:Value} (hc:w.cell? p=some v):(loadVar t p).run P w = .ok v w:=by
 simp only [loadVar,Sem.run_bind,Rz h,Result.andThen_ok,Bool.false_eq_true,if_false]
 simp [load,Sem.run,hc]
theorem ADm {t:TypeId} {n:Nat} (h:GV P t=some (some n)) {b off:Nat} {us:List Value} (hl:us.length=n)
  (hc:∀(j:Nat) u,us[j]? = some u→w.cell? ⟨b,off+j,none⟩=some u):(loadVar t ⟨b,off,none⟩).run P w = .ok (.agg us.toArray) w:=by
 obtain ⟨d,h1,h2,i,h4,h5⟩:=Nz h
 simp only [loadVar,Sem.run_bind,OG h,Result.andThen_ok,if_true,GQ h4,h5]
 rw [←hl,run_loadCells_list (P:=P) w ⟨b,off,none⟩ us (fun j v hv=>by rw [Gs]; exact hc j v hv)]
 simp [Sem.run]
theorem Mz {t:TypeId} {g:Option Nat} (h:GV P t=some g) {b off o:Nat} {us:List Value} {xs:List AV} (hx:VRL P F w xs us) (h1:∀v∈us,v.oneCell'=true)
  (hc:∀(j:Nat) u,us[j]? = some u→w.cell? ⟨b,o+j,none⟩=some u) {K:AV→Prop}
  (hk:match (generalizing:=false) g with | none=>VC (off<AU xs) (K (nth xs off)) | some n=>VC (off+n≤AU xs) (K (.agg (seg xs off n)))) :
  ∃v av,(loadVar t ⟨b,o+off,none⟩).run P w = .ok v w∧VR P F w av v∧K av:=by
 cases g with
 | none =>
  obtain ⟨u,hu,hv⟩:=hx.nth hk.1
  exact ⟨u,_,ACE h (hc _ _ hu),hv,hk.2⟩
 | some n =>
  have hs:=hx.seg off n
  have hn:((us.drop off).take n).length=n:=by
   have:=hk.1; rw [IS,hx.1] at this; simp; omega
  refine ⟨_,_,ADm h hn (fun j u hu=>?_),.agg _ _ hs.1 hs.2 (fun v hv=>h1 v (List.mem_of_mem_drop (List.mem_of_mem_take hv))),hk.2⟩
  simp only [List.getElem?_take,List.getElem?_drop] at hu
  split at hu
  ·rw [Nat.add_assoc]; exact hc _ _ hu
  ·cases hu
theorem SI {H:Heap} (hh:HRel P F H w) {t:TypeId} {g:Option Nat} (h:GV P t=some g) {p:AV} {pv:Value} (hp:VR P F w p pv) {K:AV→Prop} (hk:FS g p H K) :
  ∃v av,(Instr.loadAt t pv).run P w = .ok v w∧VR P F w av v∧K av:=by
 cases hp <;> try exact hk.elim
 case ptr b off =>
  simp only [FS] at hk
  split at hk
  ·next t' cells e =>
   obtain ⟨cur,h1,h2,h3⟩:=hh.at_ _ _ e
   have hc:∀(j:Nat) u,cur[j]? = some u→w.cell? ⟨b,0+j,none⟩=some u:=fun j u hu=>by simp [World.cell?,h1,hu]
   obtain ⟨v,av,r,hv,hk2⟩:=Mz (b:=b) (o:=0) (off:=off) h h2 h3 hc (K:=K) (by cases g <;> exact hk)
   rw [Nat.zero_add] at r
   exact ⟨v,av,by simpa [Instr.loadAt,Instr.sureAddr] using r,hv,hk2⟩
  ·exact hk.elim
 case eptr b sz i j =>
  simp only [FS] at hk
  split at hk
  ·next t' sz' cap xs e =>
   obtain ⟨rfl,_,el,he,hk⟩:=hk
   obtain ⟨cur,h1,h2,h3,h4,h5,h6,h7,h8⟩:=hh.at_ _ _ e
   simp only [Int.toNat_natCast] at he
   have hi:i<xs.length:=(List.getElem?_eq_some_iff.1 he).1
   have hel:=h6 el (List.mem_of_getElem? he)
   have hb:(i+1)*sz≤cap*sz:=Nat.mul_le_mul_right _ (by omega)
   rw [Nat.add_mul,Nat.one_mul] at hb
   have hus:VRL P F w (mapD el) ((cur.drop (i*sz)).take sz):=VRL.mapD (by simp; omega) (fun j c u e1 e2=>by
    simp only [List.getElem?_take,List.getElem?_drop] at e2
    split at e2
    ·exact h7 i j el c u he e1 e2
    ·cases e2)
   have hc:∀(j:Nat) u,((cur.drop (i*sz)).take sz)[j]? = some u→w.cell? ⟨b,i*sz+j,none⟩=some u:=fun j u hu=>by
    simp only [List.getElem?_take,List.getElem?_drop] at hu
    split at hu
    ·simp [World.cell?,h1,hu]
    ·cases hu
   obtain ⟨v,av,r,hv,hk2⟩:=Mz (b:=b) (o:=i*sz) (off:=j) h hus (fun v hv=>h8 v (List.mem_of_mem_drop (List.mem_of_mem_take hv))) hc (K:=K)
    (by cases g <;> simpa [Pn,IS] using hk)
   exact ⟨v,av,by simpa [Instr.loadAt,Instr.sureAddr] using r,hv,hk2⟩
  ·next t' cells e =>
   obtain ⟨cur,h1,h2,h3⟩:=hh.at_ _ _ e
   have hc:∀(j:Nat) u,cur[j]? = some u→w.cell? ⟨b,0+j,none⟩=some u:=fun j u hu=>by simp [World.cell?,h1,hu]
   obtain ⟨v,av,r,hv,hk2⟩:=Mz (b:=b) (o:=0) (off:=i*sz+j) h h2 h3 hc (K:=K) (by cases g <;> exact hk)
   rw [Nat.zero_add] at r
   exact ⟨v,av,by simpa [Instr.loadAt,Instr.sureAddr] using r,hv,hk2⟩
  ·exact hk.elim
 case dptr el off b o us hF hl hc hr =>
  have hus:VRL P F w (mapD el) us:=VRL.mapD hl hr
  have h1:∀v∈us,v.oneCell'=true:=fun v hv=>by
   obtain ⟨j,hj,e⟩:=List.getElem_of_mem hv
   exact (hr j (el[j]'(by omega)) v (List.getElem?_eq_getElem _) (by rw [List.getElem?_eq_getElem hj,e])).one
  obtain ⟨v,av,r,hv,hk2⟩:=Mz (b:=b) (o:=o) (off:=off) h hus h1 hc (K:=K) (by unfold FS at hk; cases g <;> simpa [Pn,IS] using hk)
  exact ⟨v,av,by simpa [Instr.loadAt,Instr.sureAddr] using r,hv,hk2⟩
end
theorem ABh {v:Value} (h:v.oneCell'=true):v.cells = #[v]:=by cases v <;> first | rfl | cases h
theorem Ob {P:Program} {F:Nat→Prop} {w:World} {x:AV} {v:Value} {n:Nat} (hv:VR P F w x v) (h:fits n x=true) :
  ∃us:List Value,v.cells=us.toArray∧us.length=n∧VRL P F w (E4 x) us∧∀u∈us,u.oneCell'=true:=by
 cases hv
 case agg xs cs hl h1 h2 =>
  simp only [fits,IS,beq_iff_eq] at h
  exact ⟨cs,rfl,by omega,⟨hl,h1⟩,h2⟩
 case tup=>simp [fits,He] at h
 case void=>simp [fits,He] at h
 case undef=>simp [fits,He] at h
 case d y hy =>
  simp only [fits,Bool.and_eq_true,beq_iff_eq] at h
  exact ⟨[v],ABh hy.one,by simp [h.1],VRL.cons (.d _ _ hy) VRL.nil,by simpa using hy.one⟩
 all_goals
  simp only [fits,Bool.and_eq_true,beq_iff_eq] at h
  refine ⟨[_],rfl,by simp [h.1],VRL.cons ?_ VRL.nil,by simp [Value.oneCell']⟩
  first | exact .nilp | exact .nilsl _ | exact .nilfn | exact .ptr _ _ | exact .eptr _ _ _ _ | exact .own _ _ _ _ _ (by assumption) | (constructor <;> assumption)
theorem OD:∀(cs:List AV) (off:Nat) (ns:List AV),off+ns.length≤cs.length→setSeg cs off ns=cs.take off++ns++cs.drop (off+ns.length)
 | [],off,ns,h=>by
  simp at h
  obtain ⟨rfl,rfl⟩:=h
  simp [setSeg]
 | c::cs,0,[],_=>by simp [setSeg]
 | c::cs,0,n::ns,h=>by
  have:=OD cs 0 ns (by simpa using h)
  simp only [setSeg,this]
  simp
 | c::cs,k+1,ns,h=>by
  have:=OD cs k ns (by simp at h; omega)
  simp only [setSeg,this]
  simp [Nat.add_right_comm]
theorem Lc:∀(cs:List D) (off:Nat) (ns:List D),off+ns.length≤cs.length→HE cs off ns=cs.take off++ns++cs.drop (off+ns.length)
 | [],off,ns,h=>by
  simp at h
  obtain ⟨rfl,rfl⟩:=h
  simp [HE]
 | c::cs,0,[],_=>by simp [HE]
 | c::cs,0,n::ns,h=>by
  have:=Lc cs 0 ns (by simpa using h)
  simp only [HE,this]
  simp
 | c::cs,k+1,ns,h=>by
  have:=Lc cs k ns (by simp at h; omega)
  simp only [HE,this]
  simp [Nat.add_right_comm]
section
variable {P:Program} {F:Nat→Prop} {H:Heap} {w:World}
theorem VRL.take {xs:List AV} {cs:List Value} (h:VRL P F w xs cs) (n:Nat):VRL P F w (xs.take n) (cs.take n) :=
 ⟨by simp [h.1],fun j x v h1 h2=>by
  simp only [List.getElem?_take] at h1 h2
  split at h1
  ·next hj=>rw [if_pos hj] at h2; exact h.2 j x v h1 h2
  ·cases h1⟩
theorem VRL.drop {xs:List AV} {cs:List Value} (h:VRL P F w xs cs) (n:Nat):VRL P F w (xs.drop n) (cs.drop n) :=
 ⟨by simp [h.1],fun j x v h1 h2=>by simp only [List.getElem?_drop] at h1 h2; exact h.2 _ x v h1 h2⟩
theorem VRL.setSeg {xs ns:List AV} {cs us:List Value} (h:VRL P F w xs cs) (hn:VRL P F w ns us) {off:Nat} (hl:off+ns.length≤xs.length) :
  VRL P F w (setSeg xs off ns) (cs.take off++us++cs.drop (off+us.length)):=by
 rw [OD _ _ _ hl,hn.1]
 exact ((h.take off).append hn).append (h.drop _)
theorem ML (w:World) (b:Nat) (cur new:Array Value) (t:TypeId) (hb:w.heap[b]? = some (.cells cur t (0,0))) :
  (w.setRow b new).heap[b]? = some (.cells new t (0,0))∧(∀k,k≠b→(w.setRow b new).heap[k]? = w.heap[k]?)∧(w.setRow b new).heap.size=w.heap.size :=
 ⟨setRow_heap w b cur new t (0,0) hb,fun k hk=>setRow_other w b k new hk,by simp [World.setRow]⟩
theorem ACq {F0:Nat→Prop} {H0:Heap} (hh0:HRel P F0 H0 w) (hm:∀k,F0 k→F k) (h0:∀b x,H0 b=some x→H b=some x∨H b=none∧F b) (hh:HRel P F H w) {v:AV} {u:Value} (hv:VR P F w v u) {K:D→Heap→Prop} (hk:Ap H0 H v K) :
  ∃x F' H',RD F' w x u∧HRel P F' H' w∧Step F H w F' H' w∧(∀b x,H0 b=some x→H' b=some x∨H' b=none∧F' b)∧K x H':=by
 cases hv <;> try exact hk.elim
 case d x hx=>exact ⟨x,F,H,hx,hh,Step.refl _ _ _,h0,hk⟩
 case nilsl sz=>exact ⟨_,F,H,.nil sz none 0,hh,Step.refl _ _ _,h0,hk⟩
 case own b sz off len cap hlc =>
  simp only [Ap] at hk
  split at hk
  ·next t sz' cap' xs e =>
   obtain ⟨⟨rfl,rfl,rfl⟩,hk⟩:=hk
   rcases h0 b _ e with e1 | ⟨e1,e2⟩
   ·refine ⟨_,_,_,?_,hh.freeze e1,Step.freeze e1,fun k x hx=>?_,hk⟩
    ·rw [Nat.zero_mul]
     exact (hh.at_ _ _ e1).read (fun _ h=>.inl h) (.inr rfl) cap hlc
    ·rw [AL]
     split
     ·next e3=>exact .inr ⟨rfl,.inr e3.symm⟩
     ·rcases h0 k x hx with e4 | ⟨e4,e5⟩
      ·exact .inl e4
      ·exact .inr ⟨e4,.inl e5⟩
   ·have e3:AI H b none=H:=by
     funext k
     rw [AL]
     split
     ·next e4=>subst e4; exact e1.symm
     ·rfl
    rw [e3] at hk
    refine ⟨_,F,H,?_,hh,Step.refl _ _ _,h0,hk⟩
    rw [Nat.zero_mul]
    exact (hh0.at_ _ _ e).read hm e2 cap hlc
  ·exact hk.elim
theorem T8 {F0:Nat→Prop} {H0:Heap} (hh0:HRel P F0 H0 w):∀(l:List AV) {F:Nat→Prop} {H:Heap} {us:List Value} {K:List D→Heap→Prop},(∀k,F0 k→F k)→(∀b x,H0 b=some x→H b=some x∨H b=none∧F b)→HRel P F H w→VRL P F w l us→Aq H0 H l K →
  ∃ds F' H',ds.length=us.length∧(∀(j:Nat) c u,ds[j]? = some c→us[j]? = some u→RD F' w c u)∧HRel P F' H' w∧Step F H w F' H' w∧K ds H'
 | [],F,H,us,K,hm,h0,hh,hv,hk=>by
  obtain rfl:=hv.unnil
  exact ⟨[],F,H,rfl,fun j c u h _=>by simp at h,hh,Step.refl _ _ _,hk⟩
 | x::l,F,H,us,K,hm,h0,hh,hv,hk=>by
  obtain ⟨u,us,rfl,hx,hl⟩:=hv.uncons
  obtain ⟨d,F1,H1,r1,h1,s1,h01,hk1⟩:=ACq hh0 hm h0 hh hx hk
  obtain ⟨ds,F2,H2,e2,r2,h2,s2,hk2⟩:=T8 hh0 l (fun k hk=>s1.mono k (hm k hk)) h01 h1 (hl.mono s1.mono (fun _ _=>rfl)) hk1
  refine ⟨d::ds,F2,H2,by simp [e2],fun j c v e3 e4=>?_,h2,s1.trans s2,hk2⟩
  cases j with
  | zero=>simp at e3 e4; subst e3; subst e4; exact r1.mono s2.mono (fun _ _=>rfl)
  | succ j=>exact r2 j c v (by simpa using e3) (by simpa using e4)
theorem Nb (l:List AV) {F:Nat→Prop} {H:Heap} {us:List Value} {K:List D→Heap→Prop} (hh:HRel P F H w) (hv:VRL P F w l us) (hk:Aj H l K) :
  ∃ds F' H',ds.length=us.length∧(∀(j:Nat) c u,ds[j]? = some c→us[j]? = some u→RD F' w c u)∧HRel P F' H' w∧Step F H w F' H' w∧K ds H' :=
 T8 hh l (fun _ h=>h) (fun _ _ h=>.inl h) hh hv hk
theorem PF {t:TypeId} {i:TypeInfo} (hi:P.info? t=some i) {v:Value} {us:List Value} (hv:v.cells=us.toArray) (hl:us.length=i.size) (h1:∀u∈us,u.oneCell'=true)
  {b off:Nat} {cur:Array Value} {t':TypeId} (hb:w.heap[b]? = some (.cells cur t' (0,0))) (hr:off+us.length≤cur.size) :
  (Instr.storeAt t (.pointer (some ⟨b,off,none⟩)) v).run P w = .ok () (w.setRow b (cur.toList.take off++us++cur.toList.drop (off+us.length)).toArray):=by
 have hst:=run_storeCells_at P b off t' us 0 cur w hb (by simpa using hr) h1
 simp only [Nat.add_zero] at hst
 simp [Instr.storeAt,Instr.sureAddr,storeVar,hv,GQ hi,hl,hst]
theorem AM5 (hh:HRel P F H w) {t:TypeId} {i:TypeInfo} (hi:P.info? t=some i) {p v:AV} {pv vv:Value} (hp:VR P F w p pv) (hv:VR P F w v vv) {K:Heap→Prop} (hk:JW i.size p v H K) :
  ∃F' H' w',(Instr.storeAt t pv vv).run P w = .ok () w'∧HRel P F' H' w'∧Step F H w F' H' w'∧K H':=by
 obtain ⟨hf,hk⟩:=hk
 obtain ⟨us,hc,hl,hus,h1⟩:=Ob hv hf
 have hlen:(E4 v).length=i.size:=by rw [hus.1,hl]
 cases hp <;> try exact hk.elim
 case ptr b off =>
  dsimp only at hk
  split at hk
  ·next t' cells e =>
   obtain ⟨hb,hk⟩:=hk
   rw [IS] at hb
   obtain ⟨cur,c1,c2,c3⟩:=hh.at_ _ _ e
   have hr:=PF hi hc hl h1 (b:=b) (off:=off) c1 (by have:=c2.1; simp; omega)
   obtain ⟨f1,f2,f3⟩:=ML w b cur.toArray (cur.toArray.toList.take off++us++cur.toArray.toList.drop (off+us.length)).toArray t' c1
   refine ⟨F,_,_,hr,hh.turn (x:=.box t' (setSeg cells off (E4 v))) e f2 f3 ⟨_,f1,?_,?_⟩,Step.turn e f2 f3 rfl rfl rfl,hk⟩
   ·exact (c2.setSeg hus (by omega)).mono (fun _ h=>h) (fun k hfk=>f2 k (fun e2=>by subst e2; exact hh.apart _ _ e hfk))
   ·intro u hu
    simp only [List.mem_append] at hu
    rcases hu with (hu | hu) | hu
    ·exact c3 u (List.mem_of_mem_take hu)
    ·exact h1 u hu
    ·exact c3 u (List.mem_of_mem_drop hu)
  ·exact hk.elim
 case eptr b sz ix j =>
  dsimp only at hk
  split at hk
  ·next t' cells e =>
   obtain ⟨hb,hk⟩:=hk
   rw [IS] at hb
   obtain ⟨cur,c1,c2,c3⟩:=hh.at_ _ _ e
   have hr:=PF hi hc hl h1 (b:=b) (off:=ix*sz+j) c1 (by have:=c2.1; simp; omega)
   obtain ⟨f1,f2,f3⟩:=ML w b cur.toArray (cur.toArray.toList.take (ix*sz+j)++us++cur.toArray.toList.drop (ix*sz+j+us.length)).toArray t' c1
   refine ⟨F,_,_,hr,hh.turn (x:=.box t' (setSeg cells (ix*sz+j) (E4 v))) e f2 f3 ⟨_,f1,?_,?_⟩,Step.turn e f2 f3 rfl rfl rfl,hk⟩
   ·exact (c2.setSeg hus (by omega)).mono (fun _ h=>h) (fun k hfk=>f2 k (fun e2=>by subst e2; exact hh.apart _ _ e hfk))
   ·intro u hu
    simp only [List.mem_append] at hu
    rcases hu with (hu | hu) | hu
    ·exact c3 u (List.mem_of_mem_take hu)
    ·exact h1 u hu
    ·exact c3 u (List.mem_of_mem_drop hu)
  ·obtain ⟨ds,F1,H1,e1,r1,h1',s1,hk⟩:=Nb _ hh hus hk
   split at hk
   ·next t' sz' cap xs e =>
    obtain ⟨rfl,_,el,he,hb,hk⟩:=hk
    obtain ⟨cur,c1,c2,c3,c4,c5,c6,c7,c8⟩:=h1'.at_ _ _ e
    simp only [Int.toNat_natCast] at he hk
    have hx:ix<xs.length:=(List.getElem?_eq_some_iff.1 he).1
    have hel:=c6 el (List.mem_of_getElem? he)
    have hm:(ix+1)*sz≤cap*sz:=Nat.mul_le_mul_right _ (by omega)
    rw [Nat.add_mul,Nat.one_mul] at hm
    have hr:=PF hi hc hl h1 (b:=b) (off:=ix*sz+j) c1 (by simp; omega)
    obtain ⟨f1,f2,f3⟩:=ML w b cur.toArray (cur.toArray.toList.take (ix*sz+j)++us++cur.toArray.toList.drop (ix*sz+j+us.length)).toArray t' c1
    refine ⟨F1,_,_,hr,h1'.turn (x:=.row t' sz cap (xs.set ix (HE el j ds))) e f2 f3 ⟨_,f1,?_,?_,c4,c5,?_,?_,?_⟩,s1.trans (Step.turn e f2 f3 rfl rfl rfl),hk⟩
    ·simp; omega
    ·simpa using c3
    ·intro el' hel'
     rcases List.mem_or_eq_of_mem_set hel' with h | rfl
     ·exact c6 _ h
     ·rw [Lc _ _ _ (by omega)]; simp; omega
    ·intro i' j' el' c u g1 g2 g3
     have hj':j'<sz:=by
      have:=(List.getElem?_eq_some_iff.1 g2).1
      rcases List.mem_or_eq_of_mem_set (List.mem_of_getElem? g1) with h | rfl
      ·rw [c6 _ h] at this; exact this
      ·rw [Lc _ _ _ (by omega)] at this; simp at this; omega
     have hi':i'<xs.length:=by have:=(List.getElem?_eq_some_iff.1 g1).1; simpa using this
     have hkeep:∀k,F1 k→(w.setRow b (cur.toArray.toList.take (ix*sz+j)++us++cur.toArray.toList.drop (ix*sz+j+us.length)).toArray).heap[k]? = w.heap[k]? :=
      fun k hfk=>f2 k (fun e2=>by subst e2; exact h1'.apart _ _ e hfk)
     by_cases hii:i'=ix
     ·subst hii
      rw [List.getElem?_set_self hi',Option.some.injEq] at g1
      subst g1
      rw [Lc _ _ _ (by omega)] at g2
      by_cases ha:j'<j
      ·rw [List.append_assoc,List.getElem?_append_left (by simp; omega),List.getElem?_take_of_lt ha] at g2
       rw [List.toList_toArray,List.append_assoc,List.getElem?_append_left (by simp; omega),List.getElem?_take_of_lt (by omega)] at g3
       exact (c7 _ _ _ _ _ he g2 g3).mono (fun _ h=>h) hkeep
      ·by_cases hb2:j'<j+us.length
       ·rw [List.getElem?_append_left (by simp; omega),List.getElem?_append_right (by simp; omega)] at g2
        rw [List.toList_toArray,List.getElem?_append_left (by simp; omega),List.getElem?_append_right (by simp; omega)] at g3
        refine (r1 (j'-j) c u ?_ ?_).mono (fun _ h=>h) hkeep
        ·rw [←g2]; congr 1; simp; omega
        ·rw [←g3]; congr 1; simp; omega
       ·rw [List.getElem?_append_right (by simp; omega),List.getElem?_drop] at g2
        rw [List.toList_toArray,List.getElem?_append_right (by simp; omega),List.getElem?_drop] at g3
        refine (c7 i' j' el c u he ?_ ?_).mono (fun _ h=>h) hkeep
        ·rw [←g2]; congr 1; simp; omega
        ·rw [←g3]; congr 1; simp; omega
     ·rw [List.getElem?_set_ne (fun e=>hii e.symm)] at g1
      have hout:i'*sz+j'<ix*sz+j∨ix*sz+j+us.length≤i'*sz+j':=by
       rcases Nat.lt_or_gt_of_ne hii with h | h
       ·left
        have:(i'+1)*sz≤ix*sz:=Nat.mul_le_mul_right _ (by omega)
        rw [Nat.add_mul,Nat.one_mul] at this; omega
       ·right
        have:(ix+1)*sz≤i'*sz:=Nat.mul_le_mul_right _ (by omega)
        rw [Nat.add_mul,Nat.one_mul] at this; omega
      refine (c7 i' j' el' c u g1 g2 ?_).mono (fun _ h=>h) hkeep
      rw [←g3,List.toList_toArray]
      rcases hout with ho | ho
      ·rw [List.append_assoc,List.getElem?_append_left (by simp; omega),List.getElem?_take_of_lt ho]
      ·rw [List.getElem?_append_right (by simp; omega),List.getElem?_drop]; congr 1; simp; omega
    ·intro u hu
     simp only [List.toList_toArray,List.mem_append] at hu
     rcases hu with (hu | hu) | hu
     ·exact c8 u (List.mem_of_mem_take hu)
     ·exact h1 u hu
     ·exact c8 u (List.mem_of_mem_drop hu)
   ·exact hk.elim
end
theorem APc {P:Program} {F:Nat→Prop} {w:World} {x:AV} {v:Value} (h:Oy x v=true):VR P F w x v∧v.oneCell'=true:=by
 unfold Oy at h
 split at h
 ·simp only [Bool.and_eq_true,beq_iff_eq] at h; obtain ⟨rfl,rfl⟩:=h; exact ⟨.d _ _ (.int _ _),rfl⟩
 ·simp only [beq_iff_eq] at h; subst h; exact ⟨.d _ _ (.bool _),rfl⟩
 ·simp only [decide_eq_true_eq] at h; subst h; exact ⟨.d _ _ (.str _),rfl⟩
 ·exact ⟨.nilp,rfl⟩
 ·exact ⟨.nilsl _,rfl⟩
 ·exact ⟨.nilfn,rfl⟩
 ·cases h
theorem Tg {P:Program} {F:Nat→Prop} {w:World}:∀{z:List AV} {vs:List Value},K5 z vs=true→VRL P F w z vs∧∀v∈vs,v.oneCell'=true
 | [],[],_=>⟨VRL.nil,fun v h=>by simp at h⟩
 | x::z,v::vs,h=>by
  simp only [K5,Bool.and_eq_true] at h
  have h1:=APc (P:=P) (F:=F) (w:=w) h.1
  have h2:=Tg (P:=P) (F:=F) (w:=w) h.2
  exact ⟨VRL.cons h1.1 h2.1,fun u hu=>by
   rcases List.mem_cons.1 hu with rfl | hu
   ·exact h1.2
   ·exact h2.2 u hu⟩
 | [],_::_,h=>by simp [K5] at h
 | _::_,[],h=>by simp [K5] at h
theorem JV {P:Program} {t:TypeId} {z:List AV} (h:Gu P t=some z) :
  ∃i v,P.info? t=some i∧i.zero=some v∧z.length=i.size∧v.cells.size=i.size∧∀F w,VRL P F w z v.cells.toList∧∀u∈v.cells.toList,u.oneCell'=true:=by
 unfold Gu at h
 split at h
 ·next i z' h1 h2 =>
  split at h
  ·next v h3 =>
   split at h
   ·next h4 =>
    simp only [Bool.and_eq_true,beq_iff_eq] at h4
    cases h
    have h5:=fun F w=>Tg (P:=P) (F:=F) (w:=w) h4.1
    have:=(h5 (fun _=>True) default).1.1
    exact ⟨i,v,h1,h3,h4.2,by simp at this; omega,h5⟩
   ·cases h
  ·cases h
 ·cases h
theorem MC {P:Program} {t:TypeId} {i:TypeInfo} {v:Value} (h:P.info? t=some i) (hz:i.zero=some v) (w:World):(zeroValue t).run P w = .ok v w:=by
 simp [zeroValue,typeInfo,h,hz]
section
variable {P:Program} {F:Nat→Prop} {H:Heap} {w:World}
theorem QQ (hh:HRel P F H w) (e:TypeId) {cells:List AV} {us:List Value} (hu:VRL P F w cells us) (h1:∀u∈us,u.oneCell'=true) {K:Nat→Heap→Prop} (hk:HQ H (.box e cells) K) :
  ∃F' H' w',(newRow e us.toArray).run P w = .ok ⟨w.heap.size,0,none⟩ w'∧HRel P F' H' w'∧Step F H w F' H' w'∧K w.heap.size H':=by
 refine ⟨F,_,w.alloc (.cells us.toArray e),by simp [newRow],hh.alloc _ (.box e cells) ⟨us,?_,?_,h1⟩,Step.alloc _ _,hk _ (hh.fresh (Nat.le_refl _))⟩
 ·exact heap_alloc_new w _
 ·exact hu.mono (fun _ h=>h) (fun k hk=>Below.heap_alloc w _ k (hh.old k hk))
theorem W5 (new:List Value):∀(k off:Nat) (cs:Array Value),off+k+new.length≤cs.size →
  ((new.zipIdx k).foldl (fun cs (p:Value×Nat)=>cs.setIfInBounds (off+p.2) p.1) cs).toList=cs.toList.take (off+k)++new++cs.toList.drop (off+k+new.length):=by
 induction new with
 | nil=>intro k off cs h; simp
 | cons v new ih =>
  intro k off cs h
  simp only [List.zipIdx_cons,List.foldl_cons]
  rw [ih (k+1) off _ (by simp at h ⊢; omega)]
  simp only [Array.toList_setIfInBounds,List.length_cons] at h ⊢
  rw [show off+(k+1)=off+k+1 by omega,List.take_set,List.drop_set_of_lt (by omega)]
  rw [show off+k+1+new.length=off+k+(new.length+1) by omega]
  simp only [List.append_assoc,List.cons_append]
  rw [List.take_succ_eq_append_getElem (by simpa using (by omega:off+k<cs.size))]
  rw [List.set_append_right _ _ (by simp; omega)]
  simp [Nat.min_eq_left (show off+k≤cs.size by omega)]
theorem Nx {place:Nat→Option (Nat×Nat)}:∀(parts:List (Nat×Value)) (ap:List (Nat×Nat×AV)) {cells cs:List AV} {cur:List Value},
  VRL P F w cells cur→(∀u∈cur,u.oneCell'=true)→ap.length=parts.length →
  (∀(j:Nat) q r,ap[j]? = some q→parts[j]? = some r→place r.1=some (q.1,q.2.1)∧VR P F w q.2.2 r.2)→Ah cells ap=some cs →
  ∃us:List Value,Instr.fill place cur.toArray parts=some us.toArray∧VRL P F w cs us∧(∀u∈us,u.oneCell'=true)
 | [],ap,cells,cs,cur,hc,h1,hl,_,hb=>by
  have:ap=[]:=by simpa using hl
  subst this
  simp only [Ah,Option.some.injEq] at hb
  subst hb
  exact ⟨cur,rfl,hc,h1⟩
 | (i,v)::parts,ap,cells,cs,cur,hc,h1,hl,hp,hb=>by
  cases ap with
  | nil=>simp at hl
  | cons q ap =>
   obtain ⟨off,size,x⟩:=q
   obtain ⟨hpl,hx⟩:=hp 0 _ _ rfl rfl
   simp only [Ah] at hb
   split at hb
   ·next hf =>
    obtain ⟨us,e1,e2,e3,e4⟩:=Ob hx hf.1
    have hlen:off+us.length≤cur.length:=by have:=hf.2; rw [IS,hc.1] at this; omega
    have hcl:(E4 x).length=us.length:=e3.1
    have hfold:=W5 us 0 off cur.toArray (by simpa using hlen)
    simp only [Nat.add_zero,List.toList_toArray] at hfold
    have ih:=Nx parts ap (cur:=cur.take off++us++cur.drop (off+us.length)) (hc.setSeg e3 (by rw [hcl,hc.1]; exact hlen))
     (fun u hu=>by
      simp only [List.mem_append] at hu
      rcases hu with (hu | hu) | hu
      ·exact h1 u (List.mem_of_mem_take hu)
      ·exact e4 u hu
      ·exact h1 u (List.mem_of_mem_drop hu)) (by simpa using hl) (fun j q r g1 g2=>hp (j+1) q r (by simpa using g1) (by simpa using g2)) hb
    obtain ⟨us',f1,f2,f3⟩:=ih
    refine ⟨us',?_,f2,f3⟩
    rw [←f1]
    simp only [Instr.fill,hpl,e1]
    rw [if_neg (by simp; omega)]
    congr 1
    apply Array.ext'
    rw [←hfold]
    simp
   ·cases hb
end
section
variable {P:Program} {F:Nat→Prop} {H:Heap} {w:World}
theorem SP (z:List AV):∀(n k:Nat),(Ai z n)[k]? = if k<n*z.length then z[k % z.length]? else none
 | 0,k=>by simp [Ai]
 | n+1,k=>by
  rw [Ai,List.getElem?_append]
  split
  ·next h=>rw [if_pos (by rw [Nat.add_mul]; omega),Nat.mod_eq_of_lt h]
  ·next h =>
   have ih:=SP z n (k-z.length)
   rw [ih]
   have e:(k-z.length) % z.length=k % z.length:=(Nat.mod_eq_sub_mod (by omega)).symm
   rw [e]
   have:(k-z.length<n*z.length)↔(k<(n+1)*z.length):=by rw [Nat.add_mul]; omega
   simp only [this]
theorem PP {z:List AV} {zv:Array Value} (hz:VRL P F w z zv.toList) (n:Nat) :
  VRL P F w (Ai z n) ((Array.range (n*z.length)).map fun i=>zv[i % zv.size]!).toList:=by
 have hl:z.length=zv.size:=by simpa using hz.1
 refine ⟨?_,fun j x v h1 h2=>?_⟩
 ·have h0:(Ai z n).length=n*z.length:=by
   induction n with
   | zero=>simp [Ai]
   | succ n ih=>rw [Ai,List.length_append,ih,Nat.add_mul]; omega
  simp [h0]
 ·rw [SP] at h1
  split at h1
  ·next hj =>
   simp only [Array.toList_map,List.getElem?_map,Array.toList_range,List.getElem?_range hj,Option.map_some,Option.some.injEq] at h2
   refine hz.2 (j % z.length) x v h1 ?_
   have hm:j % z.length<zv.size:=by rw [←hl]; exact Nat.mod_lt _ (by rcases Nat.eq_zero_or_pos z.length with h | h; · rw [h] at hj; omega
                                                                     ·exact h)
   rw [←hl] at h2
   rw [←h2]
   simp [Array.getElem!_eq_getD,Array.getD,hm,hl▸hm]
  ·cases h1
theorem RB (sz:Nat):∀(n:Nat) (l:List D),(Ad sz n l).length=n
 | 0,_=>rfl
 | n+1,l=>by simp [Ad,RB sz n]
theorem QP (sz:Nat):∀(n:Nat) (l:List D),l.length=n*sz→∀el∈Ad sz n l,el.length=sz
 | 0,_,_,el,h=>by simp [Ad] at h
 | n+1,l,hl,el,h=>by
  rw [Nat.add_mul,Nat.one_mul] at hl
  rcases List.mem_cons.1 h with rfl | h
  ·simp; omega
  ·exact QP sz n _ (by simp; omega) el h
theorem M1 (sz:Nat):∀(n:Nat) (l:List D) (i j:Nat) (el:List D) (c:D),(Ad sz n l)[i]? = some el→el[j]? = some c→l[i*sz+j]? = some c
 | 0,_,i,j,el,c,h,_=>by simp [Ad] at h
 | n+1,l,0,j,el,c,h,h2=>by
  simp only [Ad,List.getElem?_cons_zero,Option.some.injEq] at h
  subst h
  rw [List.getElem?_take] at h2
  split at h2
  ·simpa using h2
  ·cases h2
 | n+1,l,i+1,j,el,c,h,h2=>by
  simp only [Ad,List.getElem?_cons_succ] at h
  have:=M1 sz n _ i j el c h h2
  rw [List.getElem?_drop] at this
  rw [←this,Nat.add_mul]
  congr 1
  omega
structure Elems (P:Program) (F:Nat→Prop) (w:World) (u:Value) (sz:Nat) (xs:List (List D)):Prop where
 nil:xs=[]→∃a c,u = .slice a 0 c
 len:∀el∈xs,el.length=sz
 mem:xs=[]∨∃b off c,∃news:List Value,u = .slice (some ⟨b,off,none⟩) xs.length c∧news.length=xs.length*sz∧(∀(j:Nat) v,news[j]? = some v→w.cell? ⟨b,off+j,none⟩=some v) ∧
  (∀(i j:Nat) el c v,xs[i]? = some el→el[j]? = some c→news[i*sz+j]? = some v→RD F w c v)∧∀v∈news,v.oneCell'=true
theorem Ip {sz cap n i j:Nat} (hi:i<n) (hn:n≤cap) (hj:j<sz):i*sz+j<cap*sz:=by
 have:(i+1)*sz≤cap*sz:=Nat.mul_le_mul_right _ (by omega)
 rw [Nat.add_mul,Nat.one_mul] at this
 omega
theorem Tl (hh:HRel P F H w) {v:AV} {u:Value} (hv:VR P F w v u) {K:Nat→List (List D)→Prop} (hk:Fl H v K):∃sz xs,Elems P F w u sz xs∧K sz xs:=by
 cases hv <;> try exact hk.elim
 case d x hx =>
  cases hx <;> try exact hk.elim
  case nil sz a cap=>exact ⟨sz,[],⟨fun _=>⟨a,cap,rfl⟩,fun _ h=>by simp at h,.inl rfl⟩,hk⟩
  case sl sz xs b off cap f hF hcap hsz hc hr =>
   refine ⟨sz,xs,⟨fun e=>by subst e; exact ⟨_,_,rfl⟩,hsz,?_⟩,hk⟩
   rcases Nat.eq_zero_or_pos sz with h0 | h0
   ·by_cases hx:xs=[]
    ·exact .inl hx
    ·refine .inr ⟨b,off,cap,[],rfl,by simp [h0],fun j v h=>by simp at h,fun i j el c v h1 h2 h3=>by simp at h3,fun v h=>by simp at h⟩
   ·have hget:∀k,k<xs.length*sz→∃el c,xs[k / sz]? = some el∧el[k % sz]? = some c:=fun k hk=>by
     have hi:k / sz<xs.length:=(Nat.div_lt_iff_lt_mul h0).2 hk
     have hj:k % sz<(xs[k / sz]).length:=by rw [hsz _ (List.getElem_mem hi)]; exact Nat.mod_lt _ h0
     exact ⟨_,_,List.getElem?_eq_getElem hi,List.getElem?_eq_getElem hj⟩
    have hdm:∀k,k / sz*sz+k % sz=k:=fun k=>by rw [Nat.mul_comm]; exact Nat.div_add_mod k sz
    refine .inr ⟨b,off,cap,(List.range (xs.length*sz)).map f,rfl,by simp,fun j v h=>?_,fun i j el c v h1 h2 h3=>?_,fun v h=>?_⟩
    ·obtain ⟨hk1,rfl⟩:=List.getElem?_eq_some_iff.1 h
     simp only [List.length_map,List.length_range] at hk1
     simp only [List.getElem_map,List.getElem_range]
     obtain ⟨el,c,e1,e2⟩:=hget _ hk1
     have:=hc _ _ el c e1 e2
     rw [hdm] at this
     exact this
    ·obtain ⟨hk1,rfl⟩:=List.getElem?_eq_some_iff.1 h3
     simp only [List.getElem_map,List.getElem_range]
     exact hr i j el c h1 h2
    ·simp only [List.mem_map,List.mem_range] at h
     obtain ⟨k,hk1,rfl⟩:=h
     obtain ⟨el,c,e1,e2⟩:=hget _ hk1
     have:=(hr _ _ el c e1 e2).one
     rw [hdm] at this
     exact this
 case nilsl sz=>exact ⟨sz,[],⟨fun _=>⟨none,0,rfl⟩,fun _ h=>by simp at h,.inl rfl⟩,hk⟩
 case own b sz off len cap hlc =>
  simp only [Fl] at hk
  split at hk
  ·next t sz' cap' xs e =>
   obtain ⟨⟨rfl,rfl,rfl⟩,hk⟩:=hk
   obtain ⟨cur,c1,c2,c3,c4,c5,c6,c7,c8⟩:=hh.at_ _ _ e
   refine ⟨sz,xs,⟨fun e=>by subst e; exact ⟨_,_,rfl⟩,c6,.inr ⟨b,0,cap,cur.take (xs.length*sz),by rw [Nat.zero_mul],?_,fun j v h=>?_,fun i j el c v h1 h2 h3=>?_,fun v h=>c8 v (List.mem_of_mem_take h)⟩⟩,hk⟩
   ·have:xs.length*sz≤cap'*sz:=Nat.mul_le_mul_right _ c3
    simp; omega
   ·rw [List.getElem?_take] at h
    split at h
    ·simp [World.cell?,c1,h]
    ·cases h
   ·rw [List.getElem?_take] at h3
    split at h3
    ·exact c7 i j el c v h1 h2 h3
    ·cases h3
  ·exact hk.elim
 case part b sz off len cap o hlc ho =>
  simp only [Fl] at hk
  split at hk
  ·next t sz' cap' xs e =>
   obtain ⟨⟨rfl,hin⟩,hk⟩:=hk
   obtain ⟨cur,c1,c2,c3,c4,c5,c6,c7,c8⟩:=hh.at_ _ _ e
   have hyl:((xs.drop off).take len).length=len:=by simp; omega
   have hye:∀el∈(xs.drop off).take len,el.length=sz:=fun el hel=>c6 el (List.mem_of_mem_drop (List.mem_of_mem_take hel))
   refine ⟨sz,(xs.drop off).take len,⟨fun e=>⟨_,_,by rw [e] at hyl; rw [←hyl]; rfl⟩,hye,?_⟩,hk⟩
   rcases Nat.eq_zero_or_pos len with h0 | h0
   ·exact .inl (List.eq_nil_of_length_eq_zero (by rw [hyl,h0]))
   have ho':o=off*sz:=ho.resolve_left (by omega)
   have hb:(off+len)*sz≤cap'*sz:=Nat.mul_le_mul_right _ (by omega)
   rw [Nat.add_mul] at hb
   refine .inr ⟨b,o,cap,(cur.drop (off*sz)).take (len*sz),by rw [hyl],?_,fun j v h=>?_,fun i j el c v h1 h2 h3=>?_,fun v h=>c8 v (List.mem_of_mem_drop (List.mem_of_mem_take h))⟩
   ·rw [hyl]; simp; omega
   ·rw [List.getElem?_take] at h
    split at h
    ·rw [List.getElem?_drop] at h
     simp [World.cell?,c1,ho',h]
    ·cases h
   ·rw [List.getElem?_take] at h3 h1
    split at h3
    ·split at h1
     ·rw [List.getElem?_drop] at h3 h1
      refine c7 (off+i) j el c v h1 h2 ?_
      rw [←h3,Nat.add_mul]; congr 1; omega
     ·cases h1
    ·cases h3
  ·exact hk.elim
theorem HRel.drop (hh:HRel P F H w) (b:Nat):HRel P F (AI H b none) w where
 at_:=fun k y hy=>by
  rw [AL] at hy
  split at hy
  ·cases hy
  ·exact hh.at_ k y hy
 apart:=fun k y hy=>by
  rw [AL] at hy
  split at hy
  ·cases hy
  ·exact hh.apart k y hy
 old:=hh.old
theorem Step.drop (b:Nat):Step F H w F (AI H b none) w where
 os:=rfl
 tape:=rfl
 output:=rfl
 size:=Nat.le_refl _
 keep:=fun _ _ _=>rfl
 dom:=fun k hk=>by
  rw [AL] at hk
  split at hk
  ·exact absurd rfl hk
  ·exact .inl hk
 mono:=fun _ h=>h
 new:=fun _ h=>.inl h
theorem HRel.drew (hh:HRel P F H w):HRel P F H w.drew where
 at_:=fun k y hy=>(hh.at_ k y hy).mono rfl (fun _ h=>h) (fun _ _=>rfl)
 apart:=hh.apart
 old:=hh.old
theorem Step.drew:Step F H w F H w.drew:=⟨rfl,rfl,rfl,Nat.le_refl _,fun _ _ _=>rfl,fun _ h=>.inl h,fun _ h=>h,fun _ h=>.inl h⟩
theorem Mm (hh:HRel P F H w) {e:TypeId} {sz cap:Nat} {xs:List (List D)} {cur:List Value} (h1:cur.length=cap*sz) (h2:xs.length≤cap) (h3:cap≤maxLen) (h4:0<sz) (h5:∀el∈xs,el.length=sz)
  (h6:∀(i j:Nat) el c u,xs[i]? = some el→el[j]? = some c→cur[i*sz+j]? = some u→RD F w c u) (h7:∀v∈cur,v.oneCell'=true) :
  HRel P F (AI H w.heap.size (some (.row e sz cap xs))) (w.drew.alloc (.cells cur.toArray e))∧Step F H w F (AI H w.heap.size (some (.row e sz cap xs))) (w.drew.alloc (.cells cur.toArray e)):=by
 refine ⟨hh.drew.alloc (w:=w.drew) _ _ ⟨cur,heap_alloc_new w.drew _,h1,h2,h3,h4,h5,fun i j el c u g1 g2 g3=>?_,h7⟩,Step.drew.trans (Step.alloc (w:=w.drew) _ _)⟩
 exact (h6 i j el c u g1 g2 g3).mono (fun _ h=>h) (fun k hk=>Below.heap_alloc w.drew _ k (hh.old k hk))
theorem LH {z:Value} (hz:∀u∈z.cells.toList,u.oneCell'=true) (hs:0<z.cells.size) (n:Nat):∀u∈(Builtin.zeroCells z.cells n).toList,u.oneCell'=true:=by
 intro u hu
 simp only [Builtin.zeroCells,Array.toList_map,List.mem_map] at hu
 obtain ⟨i,_,rfl⟩:=hu
 have hm:i % z.cells.size<z.cells.size:=Nat.mod_lt _ hs
 refine hz _ ?_
 simp [Array.getElem!_eq_getD,Array.getD,hm]
theorem Sa (w:World) (t ty e:TypeId) (i:TypeInfo) (ht:P.underlying t=some (.slice e)) (hi:P.info? e=some i) (base:Option Addr) (n cap:Nat) (a:Option Addr) (c:Nat) (h:n≤cap) :
  (Builtin.append_ #[t,t] ty #[.slice base n cap,.slice a 0 c]).run P w = .ok (.slice base n cap) w:=by
 cases a <;> cases base <;> simp [Builtin.append_,run_underlying ht,sizeOf,typeInfo,hi,Builtin.lenOf,h,Builtin.firstCells,loadCells,loadCellsFrom,storeCells]
theorem YO (hh:HRel P F H w) {t ty e:TypeId} {i:TypeInfo} {z:List AV} (ht:P.underlying t=some (.slice e)) (hi:P.info? e=some i) (hz:Gu P e=some z) (hsz:i.size≠0) (hby:i.bytes≠0)
  {sv xv:AV} {su xu:Value} (hs:VR P F w sv su) (hx:VR P F w xv xu) {K:AV→Heap→Prop}
  (hk0:Fl H xv fun sz' ys=>(ys=[]∧z.length=i.size∧match (generalizing:=false) sv with
   | .nilsl n=>K (.nilsl n) H
   | .own b n off len cap=>K (.own b n off len cap) H
   | _=>False)∨VC (sz'=i.size∧ys≠[]∧z.length=i.size) (
   match (generalizing:=false) sv with
   | .nilsl _=>VC (ys.length*i.bytes≤140737488355328∧ys.length≤maxLen) (HQ H (.row e i.size 0 []) fun b _=>∀cap,K (.own b i.size 0 ys.length cap) (AI H b (some (.row e i.size cap ys))))
   | .own b sz'' off len cap=>match (generalizing:=false) H b with
    | some (.row e' sz''' cap'' xs)=>VC (e'=e∧sz''=i.size∧sz'''=i.size∧off=0∧cap=cap''∧len=xs.length∧(xs.length+ys.length)*i.bytes≤140737488355328∧xs.length+ys.length≤maxLen)
      (IR H b fun b' cap'=>K (.own b' i.size 0 (len+ys.length) cap') (AI (AI H b none) b' (some (.row e i.size cap' (xs++ys)))))
    | _=>False
   | .part b sz'' off len cap=>match (generalizing:=false) H b with
    | some (.row e' sz''' cap'' xs)=>VC (e'=e∧sz''=i.size∧sz'''=i.size∧off=0∧(cap=0→len=0)∧cap<len+ys.length∧len≤xs.length∧(len+ys.length)*i.bytes≤140737488355328∧len+ys.length≤maxLen)
      (IR H b fun b' cap'=>K (.own b' i.size 0 (len+ys.length) cap') (AI (AI H b none) b' (some (.row e i.size cap' (xs.take len++ys)))))
    | _=>False
   | _=>False)) :
  ∃v av F' H' w',(Builtin.append_ #[t,t] ty #[su,xu]).run P w = .ok v w'∧VR P F' w' av v∧HRel P F' H' w'∧Step F H w F' H' w'∧K av H':=by
 obtain ⟨sz',ys,he,hk⟩:=Tl hh hx hk0
 clear hk0
 rcases hk with ⟨h0,_,hk⟩ | hk
 ·obtain ⟨a,c,rfl⟩:=he.nil h0
  cases hs <;> try exact hk.elim
  case nilsl n=>exact ⟨_,_,F,H,w,Sa w t ty e i ht hi none 0 0 a c (Nat.le_refl _),.nilsl n,hh,Step.refl F H w,hk⟩
  case own b n off len cap hlc=>exact ⟨_,_,F,H,w,Sa w t ty e i ht hi _ len cap a c hlc,.own b n off len cap hlc,hh,Step.refl F H w,hk⟩
 obtain ⟨⟨rfl,hy,hzl⟩,hk⟩:=hk
 obtain ⟨i',zv,hi',hzv,_,hzs,hzz⟩:=JV hz
 rw [hi] at hi'; cases hi'
 obtain ⟨b0,off0,c0,news,rfl,hl,hc,hr,h1⟩:=he.mem.resolve_left hy
 have hc':∀(j:Nat) v,news[j]? = some v→w.cell? ((⟨b0,off0,none⟩:Addr).add j)=some v:=fun j v h=>by rw [Gs]; exact hc j v h
 have hpos:0<ys.length:=List.length_pos_iff.2 hy
 cases hs <;> try exact hk.elim
 case nilsl sz0 =>
  obtain ⟨⟨hb1,hb2⟩,hk⟩:=hk
  have hr0:=run_append_nil (P:=P) w t ty e i zv ht hi hzv ⟨b0,off0,none⟩ ys.length c0 news hl hc' hpos (by simp only [maxLen] at hb2; omega) (by omega)
  have hge:=grownCap_ge w ys.length 0 e
  have hcm:=grownCap_le_maxLen w ys.length 0 e hb2
  generalize grownCap w ys.length 0 e=cap at *
  have hcur:(news.toArray++Builtin.zeroCells zv.cells (cap-ys.length))=(news++(Builtin.zeroCells zv.cells (cap-ys.length)).toList).toArray:=by simp
  rw [hcur] at hr0
  obtain ⟨g1,g2⟩:=Mm (e:=e) hh (sz:=i.size) (cap:=cap) (xs:=ys) (cur:=news++(Builtin.zeroCells zv.cells (cap-ys.length)).toList)
   (by rw [List.length_append,hl]; simp only [Array.length_toList,size_zeroCells,hzs]; rw [←Nat.add_mul]; congr 1; omega) hge hcm (by omega) he.len
   (fun a j el c u e1 e2 e3=>by
    have hlt:=Ip (sz:=i.size) (List.getElem?_eq_some_iff.1 e1).1 (Nat.le_refl _) (by have:=(List.getElem?_eq_some_iff.1 e2).1; rw [he.len el (List.mem_of_getElem? e1)] at this; exact this)
    rw [List.getElem?_append_left (by rw [hl]; exact hlt)] at e3
    exact hr a j el c u e1 e2 e3)
   (fun v hv=>by
    rcases List.mem_append.1 hv with hv | hv
    ·exact h1 v hv
    ·exact LH (hzz (fun _=>True) w).2 (by omega) _ v hv)
  refine ⟨_,_,F,_,_,hr0,?_,g1,g2,hk _ (hh.fresh (Nat.le_refl _)) cap⟩
  have:=VR.own (P:=P) (F:=F) (w:=w.drew.alloc (.cells (news++(Builtin.zeroCells zv.cells (cap-ys.length)).toList).toArray e)) w.heap.size i.size 0 ys.length cap hge
  rw [Nat.zero_mul] at this
  exact this
 case own b sz0 off len cap hlc =>
  dsimp only at hk
  split at hk
  ·next e' sz1 cap1 xs eH =>
   obtain ⟨⟨rfl,rfl,rfl,rfl,rfl,rfl,hb1,hb2⟩,hk⟩:=hk
   obtain ⟨cur,c1,c2,c3,c4,c5,c6,c7,c8⟩:=hh.at_ _ _ eH
   rw [Nat.zero_mul]
   have hxs:xs.length*i.size≤cap*i.size:=Nat.mul_le_mul_right _ c3
   by_cases hroom:xs.length+ys.length≤cap
   ·have hfit:xs.length*i.size+news.length≤cur.toArray.size:=by
     have:(xs.length+ys.length)*i.size≤cap*i.size:=Nat.mul_le_mul_right _ hroom
     rw [Nat.add_mul] at this
     simp; omega
    have hr0:=run_append_room (P:=P) w t ty e' i ht hi b xs.length cap cur.toArray c1 ⟨b0,off0,none⟩ ys.length c0 news hl hc' h1 hroom hfit
    obtain ⟨f1,f2,f3⟩:=ML w b cur.toArray (cur.toArray.toList.take (xs.length*i.size)++news++cur.toArray.toList.drop (xs.length*i.size+news.length)).toArray e' c1
    have hupd:AI (AI H b none) b (some (.row e' i.size cap (xs++ys)))=AI H b (some (.row e' i.size cap (xs++ys))):=by
     funext k; simp only [AL]; split <;> rfl
    have hkeep:∀k,F k→(w.setRow b (cur.toArray.toList.take (xs.length*i.size)++news++cur.toArray.toList.drop (xs.length*i.size+news.length)).toArray).heap[k]? = w.heap[k]? :=
     fun k hfk=>f2 k (fun e2=>by subst e2; exact hh.apart _ _ eH hfk)
    refine ⟨_,_,F,_,_,hr0,?_,?_,?_,hk b cap (by simp [AL])⟩
    ·have:=VR.own (P:=P) (F:=F) (w:=w.setRow b (cur.toArray.toList.take (xs.length*i.size)++news++cur.toArray.toList.drop (xs.length*i.size+news.length)).toArray) b i.size 0 (xs.length+ys.length) cap hroom
     rw [Nat.zero_mul] at this
     exact this
    ·rw [hupd]
     refine hh.turn eH f2 f3 ⟨_,f1,?_,?_,c4,c5,?_,?_,?_⟩
     ·simp at hfit ⊢; omega
     ·simpa using hroom
     ·intro el hel
      rcases List.mem_append.1 hel with h | h
      ·exact c6 el h
      ·exact he.len el h
     ·intro a j el c u e1 e2 e3
      have hj:j<i.size:=by
       have:=(List.getElem?_eq_some_iff.1 e2).1
       rcases List.mem_append.1 (List.mem_of_getElem? e1) with h | h
       ·rw [c6 el h] at this; exact this
       ·rw [he.len el h] at this; exact this
      by_cases ha:a<xs.length
      ·rw [List.getElem?_append_left ha] at e1
       have hlt:=Ip (sz:=i.size) ha (Nat.le_refl _) hj
       rw [List.toList_toArray,List.append_assoc,List.getElem?_append_left (by simp; omega),List.getElem?_take_of_lt hlt] at e3
       exact (c7 a j el c u e1 e2 e3).mono (fun _ h=>h) hkeep
      ·rw [List.getElem?_append_right (by omega)] at e1
       have hlt:=Ip (sz:=i.size) (List.getElem?_eq_some_iff.1 e1).1 (Nat.le_refl _) hj
       have hsub:a*i.size=xs.length*i.size+(a-xs.length)*i.size:=by rw [←Nat.add_mul]; congr 1; omega
       rw [List.toList_toArray,List.getElem?_append_left (by simp; omega),List.getElem?_append_right (by simp; omega)] at e3
       refine (hr (a-xs.length) j el c u e1 e2 ?_).mono (fun _ h=>h) hkeep
       rw [←e3]; congr 1; simp; omega
     ·intro u hu
      simp only [List.toList_toArray,List.mem_append] at hu
      rcases hu with (hu | hu) | hu
      ·exact c8 u (List.mem_of_mem_take hu)
      ·exact h1 u hu
      ·exact c8 u (List.mem_of_mem_drop hu)
    ·rw [hupd]
     exact Step.turn eH f2 f3 rfl rfl rfl
   ·have hold:∀(j:Nat) v,(cur.take (xs.length*i.size))[j]? = some v→w.cell? ((⟨b,0,none⟩:Addr).add j)=some v:=fun j v h=>by
     rw [Gs,Nat.zero_add]
     rw [List.getElem?_take] at h
     split at h
     ·simp [World.cell?,c1,h]
     ·cases h
    have hr0:=run_append_grow (P:=P) w t ty e' i zv ht hi hzv ⟨b,0,none⟩ xs.length cap (cur.take (xs.length*i.size)) (by simp; omega) hold ⟨b0,off0,none⟩ ys.length c0 news hl hc' (by omega)
     (by simp only [maxLen] at hb2; omega) (growslice_fits (by omega) hb1)
    have hge:=grownCap_ge w (xs.length+ys.length) cap e'
    have hcm:=grownCap_le_maxLen w (xs.length+ys.length) cap e' hb2
    generalize grownCap w (xs.length+ys.length) cap e'=cap' at *
    have hcur:((cur.take (xs.length*i.size)).toArray++news.toArray++Builtin.zeroCells zv.cells (cap'-(xs.length+ys.length)))=(cur.take (xs.length*i.size)++news++(Builtin.zeroCells zv.cells (cap'-(xs.length+ys.length))).toList).toArray:=by simp
    rw [hcur] at hr0
    have hh':=hh.drop b
    have hfr:AI H b none w.heap.size=none:=by
     rw [AL]; split
     ·rfl
     ·exact hh.fresh (Nat.le_refl _)
    obtain ⟨g1,g2⟩:=Mm (e:=e') hh' (sz:=i.size) (cap:=cap') (xs:=xs++ys) (cur:=cur.take (xs.length*i.size)++news++(Builtin.zeroCells zv.cells (cap'-(xs.length+ys.length))).toList)
     (by
      simp only [List.length_append,List.length_take,hl,Array.length_toList,size_zeroCells,hzs]
      rw [Nat.min_eq_left (by omega),←Nat.add_mul,←Nat.add_mul]; congr 1; omega)
     (by simpa using hge) hcm (by omega)
     (fun el hel=>by
      rcases List.mem_append.1 hel with h | h
      ·exact c6 el h
      ·exact he.len el h)
     (fun a j el c u e1 e2 e3=>by
      have hj:j<i.size:=by
       have:=(List.getElem?_eq_some_iff.1 e2).1
       rcases List.mem_append.1 (List.mem_of_getElem? e1) with h | h
       ·rw [c6 el h] at this; exact this
       ·rw [he.len el h] at this; exact this
      by_cases ha:a<xs.length
      ·rw [List.getElem?_append_left ha] at e1
       have hlt:=Ip (sz:=i.size) ha (Nat.le_refl _) hj
       rw [List.append_assoc,List.getElem?_append_left (by simp; omega),List.getElem?_take_of_lt hlt] at e3
       exact c7 a j el c u e1 e2 e3
      ·rw [List.getElem?_append_right (by omega)] at e1
       have hlt:=Ip (sz:=i.size) (List.getElem?_eq_some_iff.1 e1).1 (Nat.le_refl _) hj
       have hsub:a*i.size=xs.length*i.size+(a-xs.length)*i.size:=by rw [←Nat.add_mul]; congr 1; omega
       rw [List.getElem?_append_left (by simp; omega),List.getElem?_append_right (by simp; omega)] at e3
       refine hr (a-xs.length) j el c u e1 e2 ?_
       rw [←e3]; congr 1; simp; omega)
     (fun v hv=>by
      simp only [List.mem_append] at hv
      rcases hv with (hv | hv) | hv
      ·exact c8 v (List.mem_of_mem_take hv)
      ·exact h1 v hv
      ·exact LH (hzz (fun _=>True) w).2 (by omega) _ v hv)
    refine ⟨_,_,F,_,_,hr0,?_,g1,(Step.drop b).trans g2,hk _ cap' hfr⟩
    have:=VR.own (P:=P) (F:=F) (w:=w.drew.alloc (.cells (cur.take (xs.length*i.size)++news++(Builtin.zeroCells zv.cells (cap'-(xs.length+ys.length))).toList).toArray e')) w.heap.size i.size 0 (xs.length+ys.length) cap' hge
    rw [Nat.zero_mul] at this
    exact this
  ·exact hk.elim
 case part b sz0 off len cap o hlc ho =>
  dsimp only at hk
  split at hk
  ·next e' sz1 cap1 xs eH =>
   obtain ⟨⟨rfl,rfl,rfl,rfl,hc0,hgr,hle,hb1,hb2⟩,hk⟩:=hk
   obtain ⟨cur,c1,c2,c3,c4,c5,c6,c7,c8⟩:=hh.at_ _ _ eH
   have hxs:len*i.size≤cap1*i.size:=Nat.mul_le_mul_right _ (by omega)
   have hold:∀(j:Nat) v,(cur.take (len*i.size))[j]? = some v→w.cell? ((⟨b,o,none⟩:Addr).add j)=some v:=fun j v h=>by
    rw [List.getElem?_take] at h
    split at h
    ·next hj =>
     obtain rfl:o=0:=by
      rcases ho with hz | ho
      ·rw [hc0 hz,Nat.zero_mul] at hj; exact absurd hj (Nat.not_lt_zero _)
      ·simpa using ho
     rw [Gs,Nat.zero_add]
     simp [World.cell?,c1,h]
    ·cases h
   have hr0:=run_append_grow (P:=P) w t ty e' i zv ht hi hzv ⟨b,o,none⟩ len cap (cur.take (len*i.size)) (by simp; omega) hold ⟨b0,off0,none⟩ ys.length c0 news hl hc' (by omega)
    (by simp only [maxLen] at hb2; omega) (growslice_fits (by omega) hb1)
   have hge:=grownCap_ge w (len+ys.length) cap e'
   have hcm:=grownCap_le_maxLen w (len+ys.length) cap e' hb2
   generalize grownCap w (len+ys.length) cap e'=cap' at *
   have hcur:((cur.take (len*i.size)).toArray++news.toArray++Builtin.zeroCells zv.cells (cap'-(len+ys.length)))=(cur.take (len*i.size)++news++(Builtin.zeroCells zv.cells (cap'-(len+ys.length))).toList).toArray:=by simp
   rw [hcur] at hr0
   have hh':=hh.drop b
   have hfr:AI H b none w.heap.size=none:=by
    rw [AL]; split
    ·rfl
    ·exact hh.fresh (Nat.le_refl _)
   have htl:(xs.take len).length=len:=by simp; omega
   obtain ⟨g1,g2⟩:=Mm (e:=e') hh' (sz:=i.size) (cap:=cap') (xs:=xs.take len++ys) (cur:=cur.take (len*i.size)++news++(Builtin.zeroCells zv.cells (cap'-(len+ys.length))).toList)
    (by
     simp only [List.length_append,List.length_take,hl,Array.length_toList,size_zeroCells,hzs]
     rw [Nat.min_eq_left (by omega),←Nat.add_mul,←Nat.add_mul]; congr 1; omega)
    (by rw [List.length_append,htl]; exact hge) hcm (by omega)
    (fun el hel=>by
     rcases List.mem_append.1 hel with h | h
     ·exact c6 el (List.mem_of_mem_take h)
     ·exact he.len el h)
    (fun a j el c u e1 e2 e3=>by
     have hj:j<i.size:=by
      have:=(List.getElem?_eq_some_iff.1 e2).1
      rcases List.mem_append.1 (List.mem_of_getElem? e1) with h | h
      ·rw [c6 el (List.mem_of_mem_take h)] at this; exact this
      ·rw [he.len el h] at this; exact this
     by_cases ha:a<len
     ·rw [List.getElem?_append_left (by rw [htl]; exact ha),List.getElem?_take_of_lt ha] at e1
      have hlt:=Ip (sz:=i.size) ha (Nat.le_refl _) hj
      rw [List.append_assoc,List.getElem?_append_left (by simp; omega),List.getElem?_take_of_lt hlt] at e3
      exact c7 a j el c u e1 e2 e3
     ·rw [List.getElem?_append_right (by rw [htl]; omega),htl] at e1
      have hlt:=Ip (sz:=i.size) (List.getElem?_eq_some_iff.1 e1).1 (Nat.le_refl _) hj
      have hsub:a*i.size=len*i.size+(a-len)*i.size:=by rw [←Nat.add_mul]; congr 1; omega
      rw [List.getElem?_append_left (by simp; omega),List.getElem?_append_right (by simp; omega)] at e3
      refine hr (a-len) j el c u e1 e2 ?_
      rw [←e3]; congr 1; simp; omega)
    (fun v hv=>by
     simp only [List.mem_append] at hv
     rcases hv with (hv | hv) | hv
     ·exact c8 v (List.mem_of_mem_take hv)
     ·exact h1 v hv
     ·exact LH (hzz (fun _=>True) w).2 (by omega) _ v hv)
   refine ⟨_,_,F,_,_,hr0,?_,g1,(Step.drop b).trans g2,hk _ cap' hfr⟩
   have:=VR.own (P:=P) (F:=F) (w:=w.drew.alloc (.cells (cur.take (len*i.size)++news++(Builtin.zeroCells zv.cells (cap'-(len+ys.length))).toList).toArray e')) w.heap.size i.size 0 (len+ys.length) cap' hge
   rw [Nat.zero_mul] at this
   exact this
  ·exact hk.elim
end
section
variable {P:Program} {F:Nat→Prop} {H:Heap} {w:World}
theorem Qe {op:BinOp} {t:TypeId} (xo yo:Operand) {x y:AV} {u v:Value} (hx:VR P F w x u) (hy:VR P F w y v) {K:AV→Prop} (hk:Fs op x y K) :
  ∃r av,(do eqGuard op t xo yo u v; binOp op t u v:Sem Value).run P w = .ok r w∧VR P F w av r∧K av:=by
 cases hx <;> try exact hk.elim
 next x hx =>
 cases hy <;> try (cases hx <;> exact hk.elim)
 next y hy =>
 cases hx <;> cases hy <;> try exact hk.elim
 case int.int k a k' b =>
  cases op <;> dsimp only [Fs] at hk
  case add | sub | mul =>
   obtain ⟨rfl,hk⟩:=hk
   exact ⟨_,_,by simp [eqGuard,binOp,Op.intArith],.d _ _ (.int _ _),hk⟩
  case quo | rem =>
   obtain ⟨⟨rfl,h0⟩,hk⟩:=hk
   exact ⟨_,_,by simp [eqGuard,binOp,Op.intDiv,h0],.d _ _ (.int _ _),hk⟩
  case and | or | xor | andNot =>
   obtain ⟨rfl,hk⟩:=hk
   exact ⟨_,_,by simp [eqGuard,binOp,Op.intBits],.d _ _ (.int _ _),hk⟩
  case shl | shr =>
   obtain ⟨h0,hk⟩:=hk
   have h1:¬b<0:=by omega
   exact ⟨_,_,by simp [eqGuard,binOp,Op.shift,h1],.d _ _ (.int _ _),hk⟩
  all_goals
   obtain ⟨rfl,hk⟩:=hk
   refine ⟨_,_,by simp [eqGuard,binOp,Op.intCmp]; rfl,.d _ _ (.bool _),?_⟩
   exact hk
 case str.str a b =>
  cases op <;> dsimp only [Fs] at hk <;> try exact hk.elim
  case add =>
   obtain ⟨h0,hk⟩:=hk
   have h1:¬((a.size+b.size:Nat):Int) > IntKind.i64.max:=by simp only [IntKind.max,IntKind.signed,IntKind.bits]; simp; omega
   exact ⟨_,_,by simp only [eqGuard,binOp,Op.stringOp]; rw [if_neg h1]; rfl,.d _ _ (.str _),hk⟩
  all_goals exact ⟨_,_,by simp [eqGuard,binOp,Op.stringOp],.d _ _ (.bool _),hk⟩
theorem ACB {neg:Bool} {t:TypeId} (ht:P.underlying t=some .bool) (xo yo:Operand) (a b:Bool) :
  (do eqGuard (if neg then .neq else .eql) t xo yo (.bool a) (.bool b); binOp (if neg then .neq else .eql) t (.bool a) (.bool b):Sem Value).run P w = .ok (.bool (if neg then !(a == b) else a == b)) w:=by
 have hq:(Op.equal t (.bool a) (.bool b)).run P w = .ok (a == b) w:=run_equalIn_bool' (P:=P) w 9999 t a b ht
 cases neg <;> simp [eqGuard,binOp,hq]
theorem Um {t e:TypeId} (ht:P.underlying t=some (.slice e)) (b:Option Addr) (l c:Nat):(Op.equal t (.slice b l c) (.slice none 0 0)).run P w = .ok b.isNone w:=by
 unfold Op.equal Op.maxDepth
 rw [show 10000=9999+1 from rfl,Op.equalIn]
 rw [Sem.run_bind,run_underlying ht]
 cases b with
 | none=>rfl
 | some a=>rfl
theorem WP {neg:Bool} {t e:TypeId} (ht:P.underlying t=some (.slice e)) (xo yo:Operand) (b:Option Addr) (l c:Nat) :
  (do eqGuard (if neg then .neq else .eql) t xo yo (.slice b l c) (.slice none 0 0); binOp (if neg then .neq else .eql) t (.slice b l c) (.slice none 0 0):Sem Value).run P w = .ok (.bool (if neg then !b.isNone else b.isNone)) w:=by
 have hq:=Um (P:=P) (w:=w) ht b l c
 cases neg <;> simp [eqGuard,binOp,hq]
theorem M3 {t:TypeId} (h:P.underlying t=some .bool∨P.underlying t=some .string∨∃k,P.underlying t=some (.int k)):(isAgg t).run P w = .ok false w:=by
 rcases h with h | h | ⟨k,h⟩ <;> simp [isAgg,run_underlying h]
theorem R4 {d:Nat} {cs ds:List Value}:∀(fs:List Field) (o:Nat) (ks:List Nat) (xs ys:List AV) (b:Bool),MO P o fs=some ks→VRL P F w xs (cs.drop o)→VRL P F w ys (ds.drop o)→Af ks xs ys=some b →
  (Op.eqFields (d+1) cs.toArray ds.toArray fs).run P w = .ok b w
 | [],o,ks,xs,ys,b,hk,hx,hy,he=>by
  cases hk
  cases xs <;> cases ys <;> simp [Af] at he
  subst he
  simp [Op.eqFields]
 | f::fs,o,ks,xs,ys,b,hk,hx,hy,he=>by
  unfold MO at hk
  split at hk
  ·next ho =>
   obtain ⟨ho,hn⟩:=ho
   have key:∀(n:Nat) (ks':List Nat),ks=n::ks'→MO P (o+1) fs=some ks'→(n=0∧(∃k,P.underlying f.type=some (.int k))∨n=1∧P.underlying f.type=some .bool∨n=2∧P.underlying f.type=some .string) →
     (Op.eqFields (d+1) cs.toArray ds.toArray (f::fs)).run P w = .ok b w:=by
    rintro n ks' rfl hks hty
    cases xs with
    | nil=>simp [Af] at he
    | cons x xs =>
     cases ys with
     | nil=>simp [Af] at he
     | cons y ys =>
      obtain ⟨v,vs,ev,hv,hvs⟩:=hx.uncons
      obtain ⟨u,us,eu,hu,hus⟩:=hy.uncons
      have ec:cs[o]? = some v:=by rw [←List.head?_drop,ev]; rfl
      have ed:ds[o]? = some u:=by rw [←List.head?_drop,eu]; rfl
      have ec2:cs.drop (o+1)=vs:=by rw [←List.drop_drop,ev]; rfl
      have ed2:ds.drop (o+1)=us:=by rw [←List.drop_drop,eu]; rfl
      rw [←ec2] at hvs
      rw [←ed2] at hus
      simp only [Af] at he
      split at he
      ·next p q e1 e2 =>
       cases he
       have ih:=R4 (d:=d) fs (o+1) ks' xs ys q hks hvs hus e2
       have hp1:(part f.type cs.toArray f.offset).run P w = .ok v w:=by
        rw [ho]; simp [part,M3 (w:=w) (t:=f.type) (by rcases hty with h | h | h; exact .inr (.inr h.2); exact .inl h.2; exact .inr (.inl h.2)),ec]
       have hp2:(part f.type ds.toArray f.offset).run P w = .ok u w:=by
        rw [ho]; simp [part,M3 (w:=w) (t:=f.type) (by rcases hty with h | h | h; exact .inr (.inr h.2); exact .inl h.2; exact .inr (.inl h.2)),ed]
       have hq:(Op.equalIn (d+1) f.type v u).run P w = .ok p w:=by
        unfold Az at e1
        split at e1
        ·next k a k' b' =>
         split at e1
         ·next hkk =>
          subst hkk
          cases e1
          cases hv; rename_i hv; cases hv
          cases hu; rename_i hu; cases hu
          rcases hty with ⟨_,k2,h⟩ | h | h
          ·rw [run_equalIn_int w d f.type k k2 a b' h]; rfl
          ·exact absurd h.1 (by decide)
          ·exact absurd h.1 (by decide)
         ·cases e1
        ·cases e1
         cases hv; rename_i hv; cases hv
         cases hu; rename_i hu; cases hu
         rcases hty with h | h | h
         ·exact absurd h.1 (by decide)
         ·exact run_equalIn_bool' w d f.type _ _ h.2
         ·exact absurd h.1 (by decide)
        ·cases e1
         cases hv; rename_i hv; cases hv
         cases hu; rename_i hu; cases hu
         rcases hty with h | h | h
         ·exact absurd h.1 (by decide)
         ·exact absurd h.1 (by decide)
         ·exact run_equalIn_string w d f.type _ _ h.2
        ·cases e1
       simp only [Op.eqFields]
       rw [if_pos hn]
       simp only [Sem.run_bind,hp1,hp2,hq,Result.andThen_ok,Sem.run_ite]
       cases p
       ·simp
       ·simpa using ih
      ·cases he
   split at hk <;> first | (cases hk; next ks' h1 h2=>exact key _ _ rfl h2 (by first | exact .inl ⟨rfl,_,h1⟩ | exact .inr (.inl ⟨rfl,h1⟩) | exact .inr (.inr ⟨rfl,h1⟩))) | (cases hk)
  ·cases hk
theorem VRL.split {xs:List AV} {cs:List Value} (h:VRL P F w xs cs) (n:Nat):VRL P F w (xs.take n) (cs.take n)∧VRL P F w (xs.drop n) (cs.drop n):=by
 refine ⟨⟨by simp [h.1],fun j x v h1 h2=>?_⟩,⟨by simp [h.1],fun j x v h1 h2=>?_⟩⟩
 ·rw [List.getElem?_take] at h1 h2
  split at h1
  ·next hj=>rw [if_pos hj] at h2; exact h.2 j x v h1 h2
  ·cases h1
 ·rw [List.getElem?_drop] at h1 h2
  exact h.2 _ x v h1 h2
theorem RF:∀{ks l:List Nat} {xs ys:List AV} {b:Bool},Af (ks++l) xs ys=some b→ks.length≤xs.length∧ks.length≤ys.length∧∃p q,Af ks (xs.take ks.length) (ys.take ks.length)=some p∧Af l (xs.drop ks.length) (ys.drop ks.length)=some q∧b=(p&&q)
 | [],l,xs,ys,b,h=>⟨Nat.zero_le _,Nat.zero_le _,true,b,rfl,h,(Bool.true_and b).symm⟩
 | k::ks,l,[],ys,b,h=>by simp [Af] at h
 | k::ks,l,x::xs,[],b,h=>by simp [Af] at h
 | k::ks,l,x::xs,y::ys,b,h=>by
  simp only [List.cons_append,Af] at h
  split at h
  ·next p q e1 e2 =>
   cases h
   obtain ⟨h1,h2,p',q',e3,e4,rfl⟩:=RF e2
   refine ⟨by simp only [List.length_cons]; omega,by simp only [List.length_cons]; omega,(p&&p'),q',?_,e4,by rw [Bool.and_assoc]⟩
   simp only [List.length_cons,List.take_succ_cons,Af,e1,e3]
  ·cases h
theorem AJU {d n:Nat} {t:TypeId} {x y:AV} {v u:Value} {p:Bool} (hty:n=0∧(∃k,P.underlying t=some (.int k))∨n=1∧P.underlying t=some .bool∨n=2∧P.underlying t=some .string) (hv:VR P F w x v) (hu:VR P F w y u) (e1:Az n x y=some p):(Op.equalIn (d+1) t v u).run P w = .ok p w:=by
 unfold Az at e1
 split at e1
 ·next k a k' b' =>
  split at e1
  ·next hkk =>
   subst hkk
   cases e1
   cases hv; rename_i hv; cases hv
   cases hu; rename_i hu; cases hu
   rcases hty with ⟨_,k2,h⟩ | h | h
   ·rw [run_equalIn_int w d t k k2 a b' h]; rfl
   ·exact absurd h.1 (by decide)
   ·exact absurd h.1 (by decide)
  ·cases e1
 ·cases e1
  cases hv; rename_i hv; cases hv
  cases hu; rename_i hu; cases hu
  rcases hty with h | h | h
  ·exact absurd h.1 (by decide)
  ·exact run_equalIn_bool' w d t _ _ h.2
  ·exact absurd h.1 (by decide)
 ·cases e1
  cases hv; rename_i hv; cases hv
  cases hu; rename_i hu; cases hu
  rcases hty with h | h | h
  ·exact absurd h.1 (by decide)
  ·exact absurd h.1 (by decide)
  ·exact run_equalIn_string w d t _ _ h.2
 ·cases e1
theorem PH {d:Nat} {cs ds:List Value}:∀(fs:List Field) (o:Nat) (ks:List Nat) (xs ys:List AV) (b:Bool),I5 P o fs=some ks→VRL P F w xs (cs.drop o)→VRL P F w ys (ds.drop o)→Af ks xs ys=some b →
  (Op.eqFields (d+3) cs.toArray ds.toArray fs).run P w = .ok b w
 | [],o,ks,xs,ys,b,hk,hx,hy,he=>by
  cases hk
  cases xs <;> cases ys <;> simp [Af] at he
  subst he
  simp [Op.eqFields]
 | f::fs,o,ks,xs,ys,b,hk,hx,hy,he=>by
  unfold I5 at hk
  split at hk
  ·next ho =>
   obtain ⟨ho,hn⟩:=ho
   have step:∀(p q:Bool) (v u:Value),(part f.type cs.toArray f.offset).run P w = .ok v w→(part f.type ds.toArray f.offset).run P w = .ok u w→(Op.equalIn (d+3) f.type v u).run P w = .ok p w→(Op.eqFields (d+3) cs.toArray ds.toArray fs).run P w = .ok q w→(Op.eqFields (d+3) cs.toArray ds.toArray (f::fs)).run P w = .ok (p&&q) w:=fun p q v u hp1 hp2 hq ih=>by
    simp only [Op.eqFields]
    rw [if_pos hn]
    simp only [Sem.run_bind,hp1,hp2,hq,Result.andThen_ok,Sem.run_ite]
    cases p
    ·simp
    ·simpa using ih
   have key:∀(n:Nat) (ks':List Nat),ks=n::ks'→I5 P (o+1) fs=some ks'→(n=0∧(∃k,P.underlying f.type=some (.int k))∨n=1∧P.underlying f.type=some .bool∨n=2∧P.underlying f.type=some .string) →
     (Op.eqFields (d+3) cs.toArray ds.toArray (f::fs)).run P w = .ok b w:=by
    rintro n ks' rfl hks hty
    cases xs with
    | nil=>simp [Af] at he
    | cons x xs =>
     cases ys with
     | nil=>simp [Af] at he
     | cons y ys =>
      obtain ⟨v,vs,ev,hv,hvs⟩:=hx.uncons
      obtain ⟨u,us,eu,hu,hus⟩:=hy.uncons
      have ec:cs[o]? = some v:=by rw [←List.head?_drop,ev]; rfl
      have ed:ds[o]? = some u:=by rw [←List.head?_drop,eu]; rfl
      have ec2:cs.drop (o+1)=vs:=by rw [←List.drop_drop,ev]; rfl
      have ed2:ds.drop (o+1)=us:=by rw [←List.drop_drop,eu]; rfl
      rw [←ec2] at hvs
      rw [←ed2] at hus
      simp only [Af] at he
      split at he
      ·next p q e1 e2 =>
       cases he
       have ih:=PH (d:=d) fs (o+1) ks' xs ys q hks hvs hus e2
       have hp1:(part f.type cs.toArray f.offset).run P w = .ok v w:=by
        rw [ho]; simp [part,M3 (w:=w) (t:=f.type) (by rcases hty with h | h | h; exact .inr (.inr h.2); exact .inl h.2; exact .inr (.inl h.2)),ec]
       have hp2:(part f.type ds.toArray f.offset).run P w = .ok u w:=by
        rw [ho]; simp [part,M3 (w:=w) (t:=f.type) (by rcases hty with h | h | h; exact .inr (.inr h.2); exact .inl h.2; exact .inr (.inl h.2)),ed]
       exact step p q v u hp1 hp2 (AJU (d:=d+2) hty hv hu e1) ih
      ·cases he
   split at hk
   ·next k1 h1 =>
    obtain ⟨ks',h2,rfl⟩:=Option.map_eq_some_iff.1 hk
    exact key _ _ rfl h2 (.inl ⟨rfl,_,h1⟩)
   ·next h1 =>
    obtain ⟨ks',h2,rfl⟩:=Option.map_eq_some_iff.1 hk
    exact key _ _ rfl h2 (.inr (.inl ⟨rfl,h1⟩))
   ·next h1 =>
    obtain ⟨ks',h2,rfl⟩:=Option.map_eq_some_iff.1 hk
    exact key _ _ rfl h2 (.inr (.inr ⟨rfl,h1⟩))
   ·next gs h1 =>
    split at hk
    ·next ks1 h3 =>
     split at hk
     ·next h4 =>
      obtain ⟨hst,hag⟩:=h4
      obtain ⟨ks',h2,rfl⟩:=Option.map_eq_some_iff.1 hk
      obtain ⟨l1,l2,p,q,e1,e2,rfl⟩:=RF he
      obtain ⟨hx1,hx2⟩:=hx.split ks1.length
      obtain ⟨hy1,hy2⟩:=hy.split ks1.length
      rw [List.drop_drop] at hx2 hy2
      have ih:=PH (d:=d) fs (o+ks1.length) ks' _ _ q h2 hx2 hy2 e2
      obtain ⟨dd,g1,g2,i,g3,g4⟩:=Nz hag
      have hpart:∀l:List Value,(part f.type l.toArray f.offset).run P w = .ok (.agg ((l.drop o).take ks1.length).toArray) w:=fun l=>by
       rw [ho]
       simp only [part,Sem.run_bind,OG hag,Result.andThen_ok,if_true,GQ g3,g4]
       have e:l.toArray.extract o (o+ks1.length)=((l.drop o).take ks1.length).toArray:=by
        apply Array.ext'
        simp [List.extract_eq_take_drop]
       rw [e]; rfl
      have hf:P.fieldsOf f.type=gs:=by simp [Program.fieldsOf,h1]
      have hq:(Op.equalIn (d+3) f.type (.agg ((cs.drop o).take ks1.length).toArray) (.agg ((ds.drop o).take ks1.length).toArray)).run P w = .ok p w:=by
       rw [run_equalIn_agg w (d+2) f.type _ _ (by rw [hf]; exact h1) hst,hf]
       exact R4 (d:=d+1) gs.toList 0 ks1 _ _ p h3 hx1 hy1 e1
      exact step p q _ _ (hpart cs) (hpart ds) hq ih
     ·cases hk
    ·cases hk
   ·cases hk
  ·cases hk
theorem ALA {neg:Bool} {t:TypeId} {fs:Array Field} {ks:List Nat} (ht:P.underlying t=some (.struct fs)) (hk:I5 P 0 fs.toList=some ks) (h1:P.stoodInHeld t=false) (h2:P.eqGuardType P.depth t=false) (xo yo:Operand) {xs ys:List AV} {cs ds:List Value} (hx:VRL P F w xs cs) (hy:VRL P F w ys ds) {b:Bool} (he:Af ks xs ys=some b) :
  (do eqGuard (if neg then .neq else .eql) t xo yo (.agg cs.toArray) (.agg ds.toArray); binOp (if neg then .neq else .eql) t (.agg cs.toArray) (.agg ds.toArray):Sem Value).run P w = .ok (.bool (if neg then !b else b)) w:=by
 have hf:P.fieldsOf t=fs:=by simp [Program.fieldsOf,ht]
 have hq:(Op.equalIn 10000 t (.agg cs.toArray) (.agg ds.toArray)).run P w = .ok b w:=by
  rw [run_equalIn_agg w 9999 t _ _ (by rw [hf]; exact ht) h1,hf]
  exact PH (d:=9996) fs.toList 0 ks xs ys b hk hx hy he
 cases neg
 ·simp only [Bool.false_eq_true,if_false,Sem.run_bind,run_eqGuard_agg w _ t xo yo _ _ h2,Result.andThen_ok,run_eql_struct,hq]
 ·simp only [if_true,Sem.run_bind,run_eqGuard_agg w _ t xo yo _ _ h2,Result.andThen_ok,run_neq_struct,hq]
theorem WY {i:Nat} {t:TypeId} {fs:Array Field} {f:Field} (ht:P.underlying t=some (.struct fs)) (hf:fs[i]? = some f) {j:TypeInfo} (hj:P.info? f.type=some j) (h0:j.size≠0) {x y:AV} {u:Value} (hx:VR P F w x u) (h:Ax f.offset x=some y) :
  ∃v,(Instr.fieldAt t u i).run P w = .ok v w∧VR P F w y v:=by
 cases hx <;> simp only [Ax,reduceCtorEq,Option.some.injEq] at h <;> subst h
 case ptr b off =>
  exact ⟨_,by simp [Instr.fieldAt,run_underlying ht,hf,Instr.sureAddr,fieldPlace,GQ hj,h0,Gs],.ptr _ _⟩
 case eptr b sz a c =>
  refine ⟨_,by simp [Instr.fieldAt,run_underlying ht,hf,Instr.sureAddr,fieldPlace,GQ hj,h0,Gs]; rfl,?_⟩
  rw [Nat.add_assoc]
  exact .eptr _ _ _ _
 case dptr el off b o us hF hl hc hr =>
  refine ⟨_,by simp [Instr.fieldAt,run_underlying ht,hf,Instr.sureAddr,fieldPlace,GQ hj,h0,Gs]; rfl,?_⟩
  rw [Nat.add_assoc]
  exact .dptr _ _ _ _ us hF hl hc hr
theorem SL {t:TypeId} {g:Option Nat} (hg:GV P t=some g) {xs:List AV} {cs:List Value} (hx:VRL P F w xs cs) (h1:∀v∈cs,v.oneCell'=true) {off:Nat} {K:AV→Prop}
  (hk:match (generalizing:=false) g with | none=>VC (off<AU xs) (K (nth xs off)) | some n=>VC (off+n≤AU xs) (K (.agg (seg xs off n)))) :
  ∃v av,(part t cs.toArray off).run P w = .ok v w∧VR P F w av v∧K av:=by
 cases g with
 | none =>
  obtain ⟨u,hu,hv⟩:=hx.nth hk.1
  exact ⟨u,_,by simp [part,Rz hg,hu],hv,hk.2⟩
 | some n =>
  obtain ⟨d,e1,e2,i,e3,e4⟩:=Nz hg
  have hs:=hx.seg off n
  refine ⟨_,_,by simp only [part,Sem.run_bind,OG hg,Result.andThen_ok,if_true,GQ e3,e4]; rfl,?_,hk.2⟩
  have e:cs.toArray.extract off (off+n)=((cs.drop off).take n).toArray:=by
   apply Array.ext'
   simp [List.extract_eq_take_drop]
  rw [e]
  exact .agg _ _ hs.1 hs.2 (fun v hv=>h1 v (List.mem_of_mem_drop (List.mem_of_mem_take hv)))
theorem AHp {t e:TypeId} {j:TypeInfo} (ht:P.underlying t=some (.slice e)) (hj:P.info? e=some j) {x i:AV} {u v:Value} (hx:VR P F w x u) (hi:VR P F w i v) {K:AV→Prop}
  (hk:match (generalizing:=false) x,i with
   | .d (.sl sz' xs),.d (.int _ n)=>VC (j.size=sz') (Io xs n fun el=>K (.dptr el 0))
   | .own b sz' off len _,.d (.int _ n)=>VC (j.size=sz'∧0≤n∧n<len) (K (.eptr b j.size (off+n.toNat) 0))
   | .part b sz' off len _,.d (.int _ n)=>VC (j.size=sz'∧0≤n∧n<len) (K (.eptr b j.size (off+n.toNat) 0))
   | _,_=>False) :
  ∃r av,(Instr.indexAt t u v).run P w = .ok r w∧VR P F w av r∧K av:=by
 cases hx <;> try exact hk.elim
 case d y hy =>
  cases hi <;> (try (cases hy <;> exact hk.elim))
  next z hz =>
  cases hy <;> try exact hk.elim
  case nil sz a cap =>
   cases hz <;> try exact hk.elim
   obtain ⟨_,_,el,he,_⟩:=hk
   simp at he
  case sl sz xs b off cap f hF hcap hsz hc hr =>
   cases hz <;> try exact hk.elim
   next k n =>
   obtain ⟨rfl,h0,el,he,hk⟩:=hk
   have hlt:=(List.getElem?_eq_some_iff.1 he).1
   have hin:0≤n∧n<(xs.length:Int):=⟨h0,by omega⟩
   have hel:=hsz el (List.mem_of_getElem? he)
   refine ⟨.pointer (some ⟨b,off+n.toNat*j.size,none⟩),_,?_,?_,hk⟩
   ·simp [Instr.indexAt,run_underlying ht,asIntOf,hin,GQ hj,Gs]
   ·refine .dptr el 0 b (off+n.toNat*j.size) ((List.range j.size).map fun c=>f (n.toNat*j.size+c)) hF (by simp [hel]) (fun c v hv=>?_) (fun c d v hd hv=>?_)
    ·obtain ⟨hl2,rfl⟩:=List.getElem?_eq_some_iff.1 hv
     simp only [List.length_map,List.length_range] at hl2
     simp only [List.getElem_map,List.getElem_range]
     rw [Nat.add_assoc]
     exact hc _ _ el _ he (List.getElem?_eq_getElem (by omega))
    ·obtain ⟨hl2,rfl⟩:=List.getElem?_eq_some_iff.1 hv
     simp only [List.getElem_map,List.getElem_range]
     exact hr _ _ el d he hd
 case own b sz off len cap hlc =>
  cases hi <;> try exact hk.elim
  next z hz =>
  cases hz <;> try exact hk.elim
  next k n =>
  obtain ⟨⟨rfl,hin⟩,hk⟩:=hk
  refine ⟨.pointer (some ⟨b,(off+n.toNat)*j.size+0,none⟩),_,?_,.eptr _ _ _ _,hk⟩
  simp [Instr.indexAt,run_underlying ht,asIntOf,hin,GQ hj,Gs,Nat.add_mul]
 case part b sz off len cap o hlc ho =>
  cases hi <;> try exact hk.elim
  next z hz =>
  cases hz <;> try exact hk.elim
  next k n =>
  obtain ⟨⟨rfl,hin⟩,hk⟩:=hk
  obtain rfl:o=off*j.size:=ho.resolve_left (by omega)
  refine ⟨.pointer (some ⟨b,(off+n.toNat)*j.size+0,none⟩),_,?_,.eptr _ _ _ _,hk⟩
  simp [Instr.indexAt,run_underlying ht,asIntOf,hin,GQ hj,Gs,Nat.add_mul]
theorem AC9 {t e:TypeId} {n:Nat} {j:TypeInfo} (ht:P.underlying t=some (.array n e)) (hj:P.info? e=some j) {b o:Nat} {k:IntKind} {m:Int} (hm:0≤m∧m<n) :
  (Instr.indexAt t (.pointer (some ⟨b,o,none⟩)) (.int k m)).run P w = .ok (.pointer (some ⟨b,o+m.toNat*j.size,none⟩)) w:=by
 simp [Instr.indexAt,run_underlying ht,asIntOf,hm,GQ hj,Gs,Instr.sureAddr]
def Lo (v:Option Value) (c:Nat):Sem Nat:=match v with | some v=>Instr.sliceBound v c .sliceB | none=>pure 0
def LY (v:Option Value) (len cap:Nat):Sem Nat:=match v with | some v=>Instr.sliceBound v cap .sliceAcap | none=>pure len
theorem NQ {t e:TypeId} {j:TypeInfo} (ht:P.underlying t=some (.slice e)) (hj:P.info? e=some j) (a:Option Addr) (len cap:Nat) (lov hiv:Option Value) :
  (Instr.sliceAt t (.slice a len cap) lov hiv none).run P w=((LY hiv len cap).run P w).andThen fun h w=>((Lo lov h).run P w).andThen fun l w=>.ok (.slice (if cap=l then a else a.map (·.add (l*j.size))) (h-l) (cap-l)) w:=by
 have hs:=fun w=>GQ (P:=P) (w:=w) hj
 cases lov <;> cases hiv <;> simp only [Instr.sliceAt,Instr.slice,Instr.sliceBounds,Sem.run_bind,run_underlying ht,Result.andThen_ok,Sem.run_pure,if_true,Lo,LY,Option.isSome_none,Bool.false_eq_true,if_false,hs]
 ·generalize (Instr.sliceBound _ cap _).run P w=r
  cases r <;> simp [Result.andThen,hs]
 ·generalize (Instr.sliceBound _ len _).run P w=r
  cases r <;> simp [Result.andThen,hs]
 ·generalize (Instr.sliceBound _ cap _).run P w=r
  cases r with
  | halt x w2=>simp [Result.andThen]
  | ok h w2 =>
   simp only [Result.andThen_ok]
   generalize (Instr.sliceBound _ h _).run P w2=r2
   cases r2 <;> simp [Result.andThen,hs]
theorem N6 {lo:Option AV} {lov:Option Value} {lo':Option Int} (hlo:(lo=none∧lov=none)∨∃a b,lo=some a∧lov=some b∧VR P F w a b) (el:EV lo=some lo') (c:Nat) (h1:0≤lo'.getD 0) (h2:lo'.getD 0≤c) :
  (Lo lov c).run P w = .ok (lo'.getD 0).toNat w:=by
 rcases hlo with ⟨rfl,rfl⟩ | ⟨a,b,rfl,rfl,hv⟩
 ·simp only [EV,Option.some.injEq] at el; subst el
  simp [Lo]
 ·cases hv <;> simp only [EV,reduceCtorEq] at el
  next z hz =>
  cases hz <;> simp only [EV,reduceCtorEq,Option.some.injEq] at el
  next k n =>
  subst el
  simp only [Option.getD_some] at h1 h2 ⊢
  simp [Lo,Instr.sliceBound,asIntOf,h1,h2]
theorem Na {hi:Option AV} {hiv:Option Value} {hi':Option Int} (hhi:(hi=none∧hiv=none)∨∃a b,hi=some a∧hiv=some b∧VR P F w a b) (el:EV hi=some hi') (len cap:Nat) (h1:0≤hi'.getD len) (h2:hi'.getD len≤cap) :
  (LY hiv len cap).run P w = .ok (hi'.getD len).toNat w:=by
 rcases hhi with ⟨rfl,rfl⟩ | ⟨a,b,rfl,rfl,hv⟩
 ·simp only [EV,Option.some.injEq] at el; subst el
  simp [LY]
 ·cases hv <;> simp only [EV,reduceCtorEq] at el
  next z hz =>
  cases hz <;> simp only [EV,reduceCtorEq,Option.some.injEq] at el
  next k n =>
  subst el
  simp only [Option.getD_some] at h1 h2 ⊢
  simp [LY,Instr.sliceBound,asIntOf,h1,h2]
theorem AQI {t e:TypeId} {j:TypeInfo} (ht:P.underlying t=some (.slice e)) (hj:P.info? e=some j) {x:AV} {u:Value} (hx:VR P F w x u) {lo hi:Option AV} {lov hiv:Option Value}
  (hlo:(lo=none∧lov=none)∨∃a b,lo=some a∧lov=some b∧VR P F w a b) (hhi:(hi=none∧hiv=none)∨∃a b,hi=some a∧hiv=some b∧VR P F w a b) {K:AV→Prop}
  (hk:JD j.size x (EV lo) (EV hi) K) :
  ∃r av,(Instr.sliceAt t u lov hiv none).run P w = .ok r w∧VR P F w av r∧K av:=by
 unfold JD at hk
 split at hk
 ·next lo' hi' el eh =>
  have fin:∀(b sz off len cap o:Nat),len≤cap→(cap=0∨o=off*sz)→VC (j.size=sz∧0≤lo'.getD 0∧lo'.getD 0≤hi'.getD len∧hi'.getD len≤cap) (K (.part b j.size (off+(lo'.getD 0).toNat) ((hi'.getD len).toNat-(lo'.getD 0).toNat) (cap-(lo'.getD 0).toNat))) →
    ∃r av,(Instr.sliceAt t (.slice (some ⟨b,o,none⟩) len cap) lov hiv none).run P w = .ok r w∧VR P F w av r∧K av:=by
   intro b sz off len cap o hlc ho hk
   obtain ⟨⟨rfl,h0,h1,h2⟩,hk⟩:=hk
   have e1:=Na (P:=P) (w:=w) hhi eh len cap (by omega) (by omega)
   rw [NQ ht hj,e1]
   simp only [Result.andThen_ok]
   have e2:=N6 (P:=P) (w:=w) hlo el (hi'.getD len).toNat h0 (by omega)
   rw [e2]
   simp only [Result.andThen_ok]
   generalize hH:(hi'.getD ↑len).toNat=hn at *
   generalize hL:(lo'.getD 0).toNat=ln at *
   have b2:ln≤hn∧hn≤cap:=by omega
   by_cases hc:cap=ln
   ·rw [if_pos hc]
    exact ⟨_,_,rfl,.part b j.size (off+ln) (hn-ln) (cap-ln) o (by omega) (.inl (by omega)),hk⟩
   ·rw [if_neg hc]
    simp only [Option.map_some,Gs]
    refine ⟨_,_,rfl,.part b j.size (off+ln) (hn-ln) (cap-ln) _ (by omega) (.inr ?_),hk⟩
    rw [ho.resolve_left (by omega),Nat.add_mul]
  cases hx <;> try exact hk.elim
  case nilsl sz =>
   obtain ⟨⟨h0,h1⟩,hk⟩:=hk
   have e1:=Na (P:=P) (w:=w) hhi eh 0 0 (by simp only [Int.natCast_zero]; omega) (by simp only [Int.natCast_zero]; omega)
   simp only [Int.natCast_zero] at e1
   have e0:(hi'.getD 0).toNat=0:=by omega
   have e2:=N6 (P:=P) (w:=w) hlo el 0 (by omega) (by omega)
   have e3:(lo'.getD 0).toNat=0:=by omega
   rw [e0] at e1; rw [e3] at e2
   rw [NQ ht hj,e1]
   simp only [Result.andThen_ok,e2,Nat.sub_self]
   exact ⟨_,_,rfl,.nilsl _,hk⟩
  case own b sz off len cap hlc=>exact fin b sz off len cap _ hlc (.inr rfl) hk
  case part b sz off len cap o hlc ho=>exact fin b sz off len cap o hlc ho hk
  next y hy =>
  cases hy <;> try exact hk.elim
  case nil sz a cap =>
   obtain ⟨⟨rfl,h0,h1,h2⟩,hk⟩:=hk
   simp only [List.length_nil,Int.natCast_zero] at h0 h1 h2 hk
   have e1:=Na hhi eh 0 cap (by simp only [Int.natCast_zero]; omega) (by simp only [Int.natCast_zero]; omega)
   simp only [Int.natCast_zero] at e1
   have e0:(hi'.getD 0).toNat=0:=by omega
   have e2:=N6 hlo el 0 h0 (by omega)
   have e3:(lo'.getD 0).toNat=0:=by omega
   rw [e0] at e1; rw [e3] at e2
   rw [NQ ht hj,e1]
   simp only [Result.andThen_ok,e2,Nat.sub_self]
   refine ⟨_,_,rfl,.d _ _ (.nil j.size _ _),?_⟩
   rw [e0,e3] at hk
   simpa using hk
  case sl sz xs b off cap f hF hcap hsz hc hr =>
   obtain ⟨⟨rfl,h0,h1,h2⟩,hk⟩:=hk
   have e1:=Na (P:=P) (w:=w) hhi eh xs.length cap (by omega) (by omega)
   rw [NQ ht hj,e1]
   simp only [Result.andThen_ok]
   have e2:=N6 (P:=P) (w:=w) hlo el (hi'.getD xs.length).toNat h0 (by omega)
   rw [e2]
   simp only [Result.andThen_ok]
   generalize hH:(hi'.getD ↑xs.length).toNat=hn at *
   generalize hL:(lo'.getD 0).toNat=ln at *
   have b1:ln≤hn:=by omega
   have b2:hn≤xs.length:=by omega
   refine ⟨_,_,rfl,.d _ _ ?_,hk⟩
   have hlen:((xs.take hn).drop ln).length=hn-ln:=by simp; omega
   rcases Nat.eq_zero_or_pos (hn-ln) with hz | hz
   ·rw [hz] at hlen ⊢
    rw [List.eq_nil_of_length_eq_zero hlen]
    exact .nil _ _ _
   ·have hne:¬cap=ln:=by omega
    rw [if_neg hne,←hlen]
    have hget:∀(i:Nat) el,((xs.take hn).drop ln)[i]? = some el→xs[ln+i]? = some el:=fun i el h=>by
     rw [List.getElem?_drop,List.getElem?_take] at h
     split at h
     ·exact h
     ·cases h
    have hmul:∀i c:Nat,(ln+i)*j.size+c=ln*j.size+(i*j.size+c):=fun i c=>by rw [Nat.add_mul]; omega
    simp only [Option.map_some,Gs]
    refine .sl j.size _ b (off+ln*j.size) (cap-ln) (fun k=>f (ln*j.size+k)) hF (by rw [hlen]; omega) (fun el hel=>hsz el (List.mem_of_mem_take (List.mem_of_mem_drop hel))) (fun i c el d g1 g2=>?_) (fun i c el d g1 g2=>?_)
    ·have:=hc _ _ el d (hget i el g1) g2
     rw [hmul] at this
     rw [←this]; congr 2; omega
    ·have:=hr _ _ el d (hget i el g1) g2
     rw [hmul] at this
     exact this
 ·exact hk.elim
def LI (v:Option Value) (c:Nat):Sem Nat:=match v with | some v=>Instr.sliceBound v c .slice3C | none=>pure 0
theorem SD {t e:TypeId} {j:TypeInfo} (ht:P.underlying t=some (.slice e)) (hj:P.info? e=some j) (a:Option Addr) (len cap:Nat) (lov:Option Value) {k k2:IntKind} {h m:Int} (hm:0≤m∧m≤cap) (hh:0≤h∧h≤m) {l:Nat} (hl:(LI lov h.toNat).run P w = .ok l w) :
  (Instr.sliceAt t (.slice a len cap) lov (some (.int k h)) (some (.int k2 m))).run P w = .ok (.slice (if m.toNat=l then a else a.map (·.add (l*j.size))) (h.toNat-l) (m.toNat-l)) w:=by
 have hs:=fun w=>GQ (P:=P) (w:=w) hj
 have q1:∀w:World,(Instr.sliceBound (.int k2 m) cap .slice3Acap).run P w = .ok m.toNat w:=fun w=>by simp [Instr.sliceBound,asIntOf,hm.1,hm.2]
 have q2:∀w:World,(Instr.sliceBound (.int k h) m.toNat .slice3B).run P w = .ok h.toNat w:=fun w=>by
  have:0≤h∧h≤(m.toNat:Int):=by omega
  simp [Instr.sliceBound,asIntOf,this.1]
  intro hlt
  exfalso
  omega
 cases lov with
 | none =>
  simp only [LI,Sem.run_pure,Result.ok.injEq,and_true] at hl
  subst hl
  simp [Instr.sliceAt,Instr.slice,Instr.sliceBounds,run_underlying ht,q1,q2,hs]
 | some v =>
  simp only [LI] at hl
  simp [Instr.sliceAt,Instr.slice,Instr.sliceBounds,run_underlying ht,q1,q2,hs,hl]
theorem TE {lo:Option AV} {lov:Option Value} {lo':Option Int} (hlo:(lo=none∧lov=none)∨∃a b,lo=some a∧lov=some b∧VR P F w a b) (el:EV lo=some lo') (c:Nat) (h1:0≤lo'.getD 0) (h2:lo'.getD 0≤c) :
  (LI lov c).run P w = .ok (lo'.getD 0).toNat w:=by
 rcases hlo with ⟨rfl,rfl⟩ | ⟨a,b,rfl,rfl,hv⟩
 ·simp only [EV,Option.some.injEq] at el; subst el
  simp [LI]
 ·cases hv <;> simp only [EV,reduceCtorEq] at el
  next z hz =>
  cases hz <;> simp only [EV,reduceCtorEq,Option.some.injEq] at el
  next k n =>
  subst el
  simp only [Option.getD_some] at h1 h2 ⊢
  simp [LI,Instr.sliceBound,asIntOf,h1,h2]
theorem RZ {x:AV} {u:Value} {n:Int} (hx:VR P F w x u) (h:EV (some x)=some (some n)):∃k,u = .int k n:=by
 cases hx <;> simp only [EV,reduceCtorEq] at h
 next z hz =>
 cases hz <;> simp only [EV,reduceCtorEq,Option.some.injEq] at h
 next k m =>
 subst h
 exact ⟨k,rfl⟩
theorem ALd {t e:TypeId} {j:TypeInfo} (ht:P.underlying t=some (.slice e)) (hj:P.info? e=some j) {x:AV} {u:Value} (hx:VR P F w x u) {lo hi mx:Option AV} {lov hiv mxv:Option Value}
  (hlo:(lo=none∧lov=none)∨∃a b,lo=some a∧lov=some b∧VR P F w a b) (hhi:(hi=none∧hiv=none)∨∃a b,hi=some a∧hiv=some b∧VR P F w a b) (hmx:(mx=none∧mxv=none)∨∃a b,mx=some a∧mxv=some b∧VR P F w a b) {K:AV→Prop}
  (hk:KG j.size x (EV lo) (EV hi) (EV mx) K) :
  ∃r av,(Instr.sliceAt t u lov hiv mxv).run P w = .ok r w∧VR P F w av r∧K av:=by
 unfold KG at hk
 split at hk
 ·next lo' h m el eh em =>
  rcases hhi with ⟨rfl,rfl⟩ | ⟨hx1,hu1,rfl,rfl,hv1⟩
  ·simp [EV] at eh
  rcases hmx with ⟨rfl,rfl⟩ | ⟨hx2,hu2,rfl,rfl,hv2⟩
  ·simp [EV] at em
  obtain ⟨k,rfl⟩:=RZ hv1 eh
  obtain ⟨k2,rfl⟩:=RZ hv2 em
  cases hx <;> try exact hk.elim
  case nilsl sz =>
   obtain ⟨⟨h0,rfl,rfl⟩,hk⟩:=hk
   have e2:=TE (P:=P) (w:=w) hlo el 0 (by omega) (by omega)
   refine ⟨_,_,SD ht hj none 0 0 lov (by omega) (by omega) e2,?_,hk⟩
   have e3:(lo'.getD 0).toNat=0:=by omega
   rw [e3]
   exact .nilsl _
  case own b sz off len cap hlc =>
   obtain ⟨⟨rfl,h0,h1,h2,h3⟩,hk⟩:=hk
   have e2:=TE (P:=P) (w:=w) hlo el h.toNat h0 (by omega)
   refine ⟨_,_,SD ht hj _ len cap lov (by omega) (by omega) e2,?_,hk⟩
   by_cases hc:m.toNat=(lo'.getD 0).toNat
   ·rw [if_pos hc]
    exact .part b j.size _ _ _ _ (by omega) (.inl (by omega))
   ·rw [if_neg hc]
    simp only [Option.map_some,Gs]
    exact .part b j.size _ _ _ _ (by omega) (.inr (by rw [Nat.add_mul]))
 ·exact hk.elim
end
section
variable {P:Program} {F:Nat→Prop} {H:Heap} {w:World}
theorem AJ1 (fs:List Field) (h:fs.all (fun f=>(P.info? f.type).isSome)=true) (w:World) :
  (fs.mapM fun f=>do pure (f.offset,←sizeOf f.type):Sem (List (Nat×Nat))).run P w = .ok (fs.map fun f=>(f.offset,P.cellsOf f.type)) w:=by
 induction fs with
 | nil=>simp
 | cons f fs ih =>
  simp only [List.all_cons,Bool.and_eq_true] at h
  obtain ⟨i,hi⟩:=Option.isSome_iff_exists.1 h.1
  simp only [List.mapM_cons,Sem.run_bind,GQ hi,Result.andThen_ok,Sem.run_pure,ih h.2,List.map_cons,Program.cellsOf,hi,Option.map_some,Option.getD_some]
theorem AGo (fs:Array Field) (h:fs.toList.all (fun f=>(P.info? f.type).isSome)=true) (w:World) :
  (fs.mapM fun f=>do pure (f.offset,←sizeOf f.type):Sem (Array (Nat×Nat))).run P w = .ok (fs.map fun f=>(f.offset,P.cellsOf f.type)) w:=by
 have e:=Array.toList_mapM (m:=Sem) (xs:=fs) (f:=fun f=>do pure (f.offset,←sizeOf f.type))
 have h2:=AJ1 (P:=P) fs.toList h w
 rw [←e] at h2
 simp only [Sem.run_map] at h2
 cases hx:(fs.mapM fun f=>do pure (f.offset,←sizeOf f.type):Sem (Array (Nat×Nat))).run P w with
 | halt x w2=>rw [hx] at h2; simp [Result.andThen] at h2
 | ok arr w2 =>
  rw [hx] at h2
  simp only [Result.andThen_ok,Result.ok.injEq] at h2
  obtain ⟨h3,rfl⟩:=h2
  congr 1
  apply Array.ext'
  simpa using h3
theorem Sc {s:St} {a:Act} (ht:∀t,VR P F w (s.t t) (a.tmps.getD t undef)) {fs:Array Field}:∀{parts:List (Nat×Operand)} {l:List (Nat×Nat×Opd)},KC P fs parts=some l →
  (Ak s.t l).length=parts.length∧∀(j:Nat) q r,(Ak s.t l)[j]? = some q→(parts.map fun p=>(p.1,a.eval p.2))[j]? = some r →
   (fs.map fun f=>(f.offset,P.cellsOf f.type))[r.1]? = some (q.1,q.2.1)∧VR P F w q.2.2 r.2
 | [],l,h=>by
  simp only [KC,Option.some.injEq] at h
  subst h
  exact ⟨rfl,fun j q r h=>by simp [Ak] at h⟩
 | (i,x)::parts,l,h=>by
  simp only [KC] at h
  split at h
  ·next f l' hf hl' =>
   cases h
   obtain ⟨e1,e2⟩:=Sc ht hl'
   refine ⟨by simp [Ak,e1],fun j q r g1 g2=>?_⟩
   cases j with
   | zero =>
    simp only [Ak,List.getElem?_cons_zero,Option.some.injEq,List.map_cons] at g1 g2
    subst g1; subst g2
    exact ⟨by simp [hf],Ea ht x⟩
   | succ j=>exact e2 j q r (by simpa [Ak] using g1) (by simpa using g2)
  ·cases h
theorem SX {t:TM} (sz:Nat):∀(parts:List (Nat×Opd)),Ak t (parts.map fun p=>(p.1*sz,sz,p.2))=Ae t sz parts
 | []=>rfl
 | (i,x)::r=>by simp [Ak,Ae,SX sz r]
theorem PC {s:St} {a:Act} (ht:∀t,VR P F w (s.t t) (a.tmps.getD t undef)) (sz:Nat):∀(parts:List (Nat×Operand)),
  (Ae s.t sz (parts.map fun p=>(p.1,Eo P p.2))).length=parts.length ∧
  ∀(j:Nat) q r,(Ae s.t sz (parts.map fun p=>(p.1,Eo P p.2)))[j]? = some q→(parts.map fun p=>(p.1,a.eval p.2))[j]? = some r →
   some (r.1*sz,sz)=some (q.1,q.2.1)∧VR P F w q.2.2 r.2
 | []=>⟨rfl,fun j q r h=>by simp [Ae] at h⟩
 | (i,x)::parts=>by
  obtain ⟨e1,e2⟩:=PC ht sz parts
  refine ⟨by simp [Ae,e1],fun j q r g1 g2=>?_⟩
  cases j with
  | zero =>
   simp only [Ae,List.map_cons,List.getElem?_cons_zero,Option.some.injEq] at g1 g2
   subst g1; subst g2
   exact ⟨rfl,Ea ht x⟩
  | succ j=>exact e2 j q r (by simpa [Ae] using g1) (by simpa using g2)
theorem X0 {s:St} {a:Act} (ht:∀t,VR P F w (s.t t) (a.tmps.getD t undef)) {t:TypeId} {fs:Array Field} {z:List AV} {parts:Array (Nat×Operand)} {l:List (Nat×Nat×Opd)}
  (hu:P.underlying t=some (.struct fs)) (hz:Gu P t=some z) (ha:fs.toList.all (fun f=>(P.info? f.type).isSome)=true) (hl:KC P fs parts.toList=some l) {cs:List AV} (hb:Ah z (Ak s.t l)=some cs) :
  ∃us:List Value,(Instr.build t (parts.map fun (i,x)=>(i,a.eval x))).run P w = .ok (.agg us.toArray) w∧VR P F w (.agg cs) (.agg us.toArray):=by
 obtain ⟨i,zv,hi,hzv,h3,h4,h5⟩:=JV hz
 obtain ⟨e1,e2⟩:=Sc (F:=F) (w:=w) ht hl
 obtain ⟨us,f1,f2,f3⟩:=Nx (P:=P) (F:=F) (w:=w) (place:=((fs.map fun f=>(f.offset,P.cellsOf f.type))[·]?)) (parts.toList.map fun p=>(p.1,a.eval p.2)) (Ak s.t l) (h5 F w).1 (h5 F w).2 (by simpa using e1) e2 hb
 refine ⟨us,?_,.agg _ _ f2.1 f2.2 f3⟩
 have hp:=AGo (P:=P) fs ha w
 simp only [Instr.build,Sem.run_bind,MC hi hzv,Result.andThen_ok,run_underlying hu,Sem.run_pure,hp]
 have f1':Instr.fill ((fs.map fun f=>(f.offset,P.cellsOf f.type))[·]?) zv.cells (parts.map fun (i,x)=>(i,a.eval x)).toList=some us.toArray:=by
  rw [←f1]; congr 1; simp
 rw [f1']
 rfl
theorem Xt {s:St} {a:Act} (ht:∀t,VR P F w (s.t t) (a.tmps.getD t undef)) {t e:TypeId} {n:Nat} {j:TypeInfo} {z:List AV} {parts:Array (Nat×Operand)}
  (hu:P.underlying t=some (.array n e)) (hz:Gu P t=some z) (hj:P.info? e=some j) {cs:List AV} (hb:Ah z (Ae s.t j.size (parts.toList.map fun p=>(p.1,Eo P p.2)))=some cs) :
  ∃us:List Value,(Instr.build t (parts.map fun (i,x)=>(i,a.eval x))).run P w = .ok (.agg us.toArray) w∧VR P F w (.agg cs) (.agg us.toArray):=by
 obtain ⟨i,zv,hi,hzv,h3,h4,h5⟩:=JV hz
 obtain ⟨e1,e2⟩:=PC (P:=P) (F:=F) (w:=w) ht j.size parts.toList
 obtain ⟨us,f1,f2,f3⟩:=Nx (P:=P) (F:=F) (w:=w) (place:=fun i=>some (i*j.size,j.size)) (parts.toList.map fun p=>(p.1,a.eval p.2)) _ (h5 F w).1 (h5 F w).2 (by simpa using e1) e2 hb
 refine ⟨us,?_,.agg _ _ f2.1 f2.2 f3⟩
 simp only [Instr.build,Sem.run_bind,MC hi hzv,Result.andThen_ok,run_underlying hu,Sem.run_pure,GQ hj]
 have f1':Instr.fill (fun i=>some (i*j.size,j.size)) zv.cells (parts.map fun (i,x)=>(i,a.eval x)).toList=some us.toArray:=by
  rw [←f1]; congr 1; simp
 rw [f1']
 rfl
theorem ABl {s:St} {a:Act} (hh:HRel P F H w) (ht:∀t,VR P F w (s.t t) (a.tmps.getD t undef)) {t e:TypeId} {len:Nat} {j:TypeInfo} {z:List AV} {parts:Array (Nat×Operand)}
  (hu:P.underlying t=some (.slice e)) (hz:Gu P e=some z) (hj:P.info? e=some j) (h0:j.size≠0) (hlen:len*j.size≤1000) {K:AV→Heap→Prop}
  (hk:match (generalizing:=false) Ah (Ai z len) (Ae s.t j.size (parts.toList.map fun p=>(p.1,Eo P p.2))) with
   | some cs=>Aj H cs fun ds H'=>HQ H' (.row e j.size len (Ad j.size len ds)) fun b H''=>K (.own b j.size 0 len len) H''
   | none=>False) :
  ∃v av F' H' w',(Instr.buildSlice t len (parts.map fun (i,x)=>(i,a.eval x))).run P w = .ok v w'∧VR P F' w' av v∧HRel P F' H' w'∧Step F H w F' H' w'∧K av H':=by
 obtain ⟨i,zv,hi,hzv,h3,h4,h5⟩:=JV hz
 rw [hj] at hi; cases hi
 split at hk
 ·next cs hb =>
  obtain ⟨e1,e2⟩:=PC (P:=P) (F:=F) (w:=w) ht j.size parts.toList
  have hrep:=PP (P:=P) (F:=F) (w:=w) (h5 F w).1 len
  have hone:∀u∈((Array.range (len*z.length)).map fun i=>zv.cells[i % zv.cells.size]!).toList,u.oneCell'=true:=by
   intro u hu
   simp only [Array.toList_map,List.mem_map] at hu
   obtain ⟨k,_,rfl⟩:=hu
   have hm:k % zv.cells.size<zv.cells.size:=Nat.mod_lt _ (by omega)
   refine (h5 F w).2 _ ?_
   simp [hm]
  obtain ⟨us,f1,f2,f3⟩:=Nx (P:=P) (F:=F) (w:=w) (place:=fun i=>some (i*j.size,j.size)) (parts.toList.map fun p=>(p.1,a.eval p.2)) _ hrep hone (by simpa using e1) e2 hb
  obtain ⟨ds,F1,H1,g1,g2,g3,g4,hk⟩:=Nb cs hh f2 hk
  have hbl:∀(cells cs:List AV) (ap:List (Nat×Nat×AV)),Ah cells ap=some cs→cs.length=cells.length:=by
   intro cells cs ap
   induction ap generalizing cells with
   | nil=>intro h; simp only [Ah,Option.some.injEq] at h; rw [h]
   | cons q ap ih =>
    obtain ⟨off,size,x⟩:=q
    intro h
    simp only [Ah] at h
    split at h
    ·next hf =>
     rw [ih _ h]
     have hc:(E4 x).length=size:=by
      have:=hf.1
      cases x <;> simp_all [fits,IS,E4]
     rw [OD _ _ _ (by rw [hc]; have:=hf.2; rw [IS] at this; exact this)]
     have:=hf.2; rw [IS] at this
     simp; omega
    ·cases h
  have hul:us.length=len*j.size:=by
   rw [←f2.1,hbl _ _ _ hb,hrep.1]; simp [h3]
  have hds:ds.length=len*j.size:=by rw [g1,hul]
  have hrun:(Instr.buildSlice t len (parts.map fun (i,x)=>(i,a.eval x))).run P w = .ok (.slice (some ⟨w.heap.size,0,none⟩) len len) (w.alloc (.cells us.toArray e)):=by
   have hbig:¬(16777216<len*j.size):=by omega
   by_cases hz0:len*j.size=0
   ·have hlen0:len=0:=by rcases Nat.mul_eq_zero.1 hz0 with h | h; · exact h
                         ·exact absurd h h0
    subst hlen0
    have f1':Instr.fill (fun i=>some (i*j.size,j.size)) #[] (parts.map fun (i,x)=>(i,a.eval x)).toList=some us.toArray:=by
     rw [←f1]; congr 1 <;> simp
    have hr:∀g:Nat→Value,(Array.range 0).map g = #[]:=fun g=>by simp
    simp only [Instr.buildSlice,Sem.run_bind,run_underlying hu,Result.andThen_ok,GQ hj]
    rw [if_neg (by omega)]
    simp only [Sem.run_bind,Result.andThen_ok,hz0,if_true,Sem.run_pure,hr]
    have f1'':Instr.fill (fun i=>some (i*j.size,j.size)) #[] (parts.map fun x=>(x.fst,a.eval x.snd)).toList=some us.toArray:=f1'
    rw [f1'']
    simp [newRow]
   ·have f1':Instr.fill (fun i=>some (i*j.size,j.size)) ((Array.range (len*j.size)).map fun i=>zv.cells[i % zv.cells.size]!) (parts.map fun (i,x)=>(i,a.eval x)).toList=some us.toArray:=by
     rw [Array.toArray_toList,h3] at f1
     rw [←f1]; congr 1; simp
    simp only [Instr.buildSlice,Sem.run_bind,run_underlying hu,Result.andThen_ok,GQ hj]
    rw [if_neg (by omega)]
    simp only [Sem.run_bind,Result.andThen_ok,hz0,if_false,MC hj hzv,Sem.run_pure]
    rw [f1']
    simp [newRow]
  have hnew:=g3.alloc (.cells us.toArray e) (.row e j.size len (Ad j.size len ds)) ⟨us,heap_alloc_new w _,hul,by rw [RB]; exact Nat.le_refl _,by simp only [maxLen]; have:len≤len*j.size:=Nat.le_mul_of_pos_right _ (by omega); omega,by omega,
   QP _ _ _ hds,fun i' j' el c u q1 q2 q3=>(g2 _ _ _ (M1 _ _ _ _ _ _ _ q1 q2) q3).mono (fun _ h=>h) (fun k hk=>Below.heap_alloc w _ k (g3.old k hk)),f3⟩
  refine ⟨_,_,F1,_,_,hrun,?_,hnew,g4.trans (Step.alloc _ _),hk _ (g3.fresh (Nat.le_refl _))⟩
  have:=VR.own (P:=P) (F:=F1) (w:=w.alloc (.cells us.toArray e)) w.heap.size j.size 0 len len (Nat.le_refl _)
  rw [Nat.zero_mul] at this
  exact this
 ·exact hk.elim
theorem P9 {H0 H:Heap} {K:List D→Heap→Prop}:∀{l:List AV} {ds:List D},FG l=some ds→K ds H→Aq H0 H l K
 | [],ds,h,hk=>by
  simp only [FG,Option.some.injEq] at h
  subst h
  exact hk
 | v::l,ds,h,hk=>by
  cases v <;> simp only [FG,reduceCtorEq] at h
  case d x =>
   split at h
   ·next ds' e =>
    cases h
    exact P9 (K:=fun xs H''=>K (_::xs) H'') e hk
   ·cases h
  case nilsl sz =>
   split at h
   ·next ds' e =>
    cases h
    exact P9 (K:=fun xs H''=>K (_::xs) H'') e hk
   ·cases h
theorem Rc {H:Heap} {K:List D→Heap→Prop} {l:List AV} {ds:List D} (h:FG l=some ds) (hk:K ds H):Aj H l K:=P9 h hk
theorem PD:∀{a b:List AV} {x y:List D},FG a=some x→FG b=some y→FG (a++b)=some (x++y)
 | [],b,x,y,h,k=>by
  simp only [FG,Option.some.injEq] at h
  subst h
  exact k
 | v::a,b,x,y,h,k=>by
  cases v <;> simp only [FG,reduceCtorEq] at h
  case d q =>
   split at h
   ·next ds e =>
    cases h
    simp only [List.cons_append,FG,PD e k]
   ·cases h
  case nilsl sz =>
   split at h
   ·next ds e =>
    cases h
    simp only [List.cons_append,FG,PD e k]
   ·cases h
theorem M7:∀{a:List AV} {x:List D},FG a=some x→x.length=a.length
 | [],x,h=>by
  simp only [FG,Option.some.injEq] at h
  subst h; rfl
 | v::a,x,h=>by
  cases v <;> simp only [FG,reduceCtorEq] at h
  case d q =>
   split at h
   ·next ds e=>cases h; simp [M7 e]
   ·cases h
  case nilsl sz =>
   split at h
   ·next ds e=>cases h; simp [M7 e]
   ·cases h
theorem P0 {z:List AV} {ds:List D} (h:FG z=some ds):∀n:Nat,FG (Ai z n)=some (List.replicate n ds).flatten
 | 0=>rfl
 | n+1=>by
  rw [Ai,List.replicate_succ,List.flatten_cons]
  exact PD h (P0 h n)
theorem Pv {ds:List D} {sz:Nat} (h:ds.length=sz):∀n:Nat,Ad sz n (List.replicate n ds).flatten=List.replicate n ds
 | 0=>rfl
 | n+1=>by
  rw [List.replicate_succ,List.flatten_cons,Ad,List.take_left' h,List.drop_left' h,Pv h n]
theorem AKz (hh:HRel P F H w) {t e:TypeId} {j:TypeInfo} {z:List AV} {ds:List D} {k:IntKind} {n:Int} (hu:P.underlying t=some (.slice e)) (hz:Gu P e=some z) (hj:P.info? e=some j) (h0:j.size≠0) (hd:FG z=some ds) (hn:0≤n∧n*j.bytes≤281474976710656∧n≤9223372036854775807) {K:AV→Heap→Prop}
  (hk:HQ H (.row e j.size n.toNat (List.replicate n.toNat ds)) fun b H'=>K (.own b j.size 0 n.toNat n.toNat) H') :
  ∃v av F' H' w',(Instr.makeSlice t (.int k n) (.int k n)).run P w = .ok v w'∧VR P F' w' av v∧HRel P F' H' w'∧Step F H w F' H' w'∧K av H':=by
 obtain ⟨i,zv,hi,hzv,h3,h4,h5⟩:=JV hz
 rw [hj] at hi; cases hi
 have hrep:=PP (P:=P) (F:=F) (w:=w) (h5 F w).1 n.toNat
 have hone:∀u∈((Array.range (n.toNat*z.length)).map fun i=>zv.cells[i % zv.cells.size]!).toList,u.oneCell'=true:=by
  intro u hu
  simp only [Array.toList_map,List.mem_map] at hu
  obtain ⟨k,_,rfl⟩:=hu
  have hm:k % zv.cells.size<zv.cells.size:=Nat.mod_lt _ (by omega)
  refine (h5 F w).2 _ ?_
  simp [hm]
 have hdl:=P0 hd n.toNat
 obtain ⟨ds',F1,H1,g1,g2,g3,g4,hk'⟩:=Nb (K:=fun ds' H'=>ds'=(List.replicate n.toNat ds).flatten∧H'=H) _ hh hrep (Rc hdl ⟨rfl,rfl⟩)
 obtain ⟨rfl,rfl⟩:=hk'
 have hdsl:ds.length=j.size:=by rw [M7 hd]; omega
 have hcut:=Pv hdsl n.toNat
 have hul:((Array.range (n.toNat*z.length)).map fun i=>zv.cells[i % zv.cells.size]!).toList.length=n.toNat*j.size:=by simp [h3]
 have hdl2:(List.replicate n.toNat ds).flatten.length=n.toNat*j.size:=by rw [g1,hul]
 have hrun:=run_make (P:=P) w t e j zv hu hj hzv k k n n hn.1 (Int.le_refl _) (by rw [Int.mul_comm]; exact hn.2.1) hn.2.2
 have hnew:=g3.alloc (.cells (madeCells zv.cells (n.toNat*j.size)) e) (.row e j.size n.toNat (List.replicate n.toNat ds)) ⟨((Array.range (n.toNat*z.length)).map fun i=>zv.cells[i % zv.cells.size]!).toList,by rw [Array.toArray_toList,h3]; exact heap_alloc_new w _,hul,by rw [List.length_replicate]; exact Nat.le_refl _,by simp only [maxLen]; omega,by omega,
  fun el hel=>by rw [(List.mem_replicate.1 hel).2]; exact hdsl,fun i' j' el c u q1 q2 q3=>(g2 _ _ _ (M1 _ _ _ _ _ _ _ (by rw [hcut]; exact q1) q2) q3).mono (fun _ h=>h) (fun k hk=>Below.heap_alloc w _ k (g3.old k hk)),hone⟩
 refine ⟨_,_,F1,_,_,hrun,?_,hnew,g4.trans (Step.alloc _ _),hk _ (g3.fresh (Nat.le_refl _))⟩
 have:=VR.own (P:=P) (F:=F1) (w:=w.alloc (.cells (madeCells zv.cells (n.toNat*j.size)) e)) w.heap.size j.size 0 n.toNat n.toNat (Nat.le_refl _)
 rw [Nat.zero_mul] at this
 exact this
theorem RY (hh:HRel P F H w) {j:TypeInfo} {z:List AV} {zv:Value} {ds:List D} (h3:z.length=j.size) (h4:zv.cells.size=j.size) (h5:VRL P F w z zv.cells.toList) (hsz:j.size≠0) (hd:FG z=some ds) (n:Nat) :
  ∃F1,ds.length=j.size∧(Builtin.zeroCells zv.cells n).toList.length=n*j.size∧HRel P F1 H w∧Step F H w F1 H w ∧
   ∀(i a:Nat) el c u,(List.replicate n ds)[i]? = some el→el[a]? = some c→(Builtin.zeroCells zv.cells n).toList[i*j.size+a]? = some u→RD F1 w c u:=by
 have hrep:=PP (P:=P) (F:=F) (w:=w) h5 n
 have hdl:=P0 hd n
 obtain ⟨ds',F1,H1,g1,g2,g3,g4,hk'⟩:=Nb (K:=fun ds' H'=>ds'=(List.replicate n ds).flatten∧H'=H) _ hh hrep (Rc hdl ⟨rfl,rfl⟩)
 obtain ⟨rfl,rfl⟩:=hk'
 have hdsl:ds.length=j.size:=by rw [M7 hd]; omega
 have hcut:=Pv hdsl n
 have hz:(Builtin.zeroCells zv.cells n)=(Array.range (n*z.length)).map fun i=>zv.cells[i % zv.cells.size]!:=by simp only [Builtin.zeroCells,h3,h4]
 rw [←hz] at g1 g2
 refine ⟨F1,hdsl,by simp [size_zeroCells,h4],g3,g4,fun i a el c u e1 e2 e3=>?_⟩
 exact g2 _ _ _ (M1 _ _ _ _ _ _ _ (by rw [hcut]; exact e1) e2) e3
theorem AMi (hh:HRel P F H w) {t ty e:TypeId} {j:TypeInfo} {z:List AV} (ht:P.underlying t=some (.slice e)) (hj:P.info? e=some j) (hz:Gu P e=some z) (hsz:j.size≠0) {x:AV} {u:Value} (hx:VR P F w x u) {K:Heap→Prop}
  (hk:L8 j.size z x H K):∃F' H' w',(Builtin.clear_ #[t] ty #[u]).run P w = .ok (.tuple #[]) w'∧HRel P F' H' w'∧Step F H w F' H' w'∧K H':=by
 obtain ⟨i,zv,hi,hzv,h3,h4,h5⟩:=JV hz
 rw [hj] at hi; cases hi
 unfold L8 at hk
 split at hk
 ·next b sz' off len cap ds hds =>
  split at hk
  ·next e' sz'' c xs eH =>
   obtain ⟨⟨rfl,rfl,hlen,hin,hc0⟩,hk⟩:=hk
   cases hx with | part _ _ _ _ _ o hlc ho =>
   obtain rfl:o=off*j.size:=ho.resolve_left hc0
   obtain ⟨F1,hdsl,hcs,hh1,hst1,hrd⟩:=RY (P:=P) hh (j:=j) h3 h4 (h5 F w).1 hsz hds len
   obtain ⟨cur,c1,c2,c3,c4,c5,c6,c7,c8⟩:=hh1.at_ _ _ eH
   have hb:(off+len)*j.size≤c*j.size:=Nat.mul_le_mul_right _ (by omega)
   rw [Nat.add_mul] at hb
   have h1:∀v∈(Builtin.zeroCells zv.cells len).toList,v.oneCell'=true:=LH (h5 F w).2 (by omega) _
   have hst:=run_storeCells_at P b (off*j.size) e' (Builtin.zeroCells zv.cells len).toList 0 cur.toArray w c1 (by simp only [List.size_toArray]; rw [hcs]; omega) h1
   simp only [Nat.add_zero] at hst
   have hl0:len≠0:=by omega
   have hrun:(Builtin.clear_ #[t] ty #[.slice (some ⟨b,off*j.size,none⟩) len cap]).run P w = .ok (.tuple #[]) (w.setRow b (cur.take (off*j.size)++(Builtin.zeroCells zv.cells len).toList++cur.drop (off*j.size+(Builtin.zeroCells zv.cells len).toList.length)).toArray):=by
    simp [Builtin.clear_,run_underlying ht,MC hj hzv,hl0,hst]
   obtain ⟨f1,f2,f3⟩:=ML w b cur.toArray (cur.take (off*j.size)++(Builtin.zeroCells zv.cells len).toList++cur.drop (off*j.size+(Builtin.zeroCells zv.cells len).toList.length)).toArray e' c1
   have hkeep:∀k,F1 k→(w.setRow b (cur.take (off*j.size)++(Builtin.zeroCells zv.cells len).toList++cur.drop (off*j.size+(Builtin.zeroCells zv.cells len).toList.length)).toArray).heap[k]? = w.heap[k]? :=
    fun k hfk=>f2 k (fun e2=>by subst e2; exact hh1.apart _ _ eH hfk)
   have htl:(cur.take (off*j.size)).length=off*j.size:=by simp; omega
   have hxt:(xs.take off).length=off:=by simp; omega
   refine ⟨F1,_,_,hrun,hh1.turn (x:=.row e' j.size c (xs.take off++List.replicate len ds++xs.drop (off+len))) eH f2 f3 ⟨_,f1,?_,?_,c4,c5,?_,?_,?_⟩,hst1.trans (Step.turn eH f2 f3 rfl rfl rfl),hk⟩
   ·simp only [List.length_append,htl,hcs,List.length_drop]; omega
   ·simp only [List.length_append,hxt,List.length_replicate,List.length_drop]; omega
   ·intro el hel
    rcases List.mem_append.1 hel with hel | hel
    ·rcases List.mem_append.1 hel with hel | hel
     ·exact c6 el (List.mem_of_mem_take hel)
     ·rw [(List.mem_replicate.1 hel).2]; exact hdsl
    ·exact c6 el (List.mem_of_mem_drop hel)
   ·intro a q el d u e1 e2 e3
    refine RD.mono (F:=F1) (w:=w) ?_ (fun _ h=>h) hkeep
    have hq:el.length=j.size→q<j.size:=fun h=>by have:=(List.getElem?_eq_some_iff.1 e2).1; omega
    by_cases ha:a<off
    ·rw [List.append_assoc,List.getElem?_append_left (by rw [hxt]; exact ha),List.getElem?_take_of_lt ha] at e1
     have hlt:=Ip (sz:=j.size) ha (Nat.le_refl _) (hq (c6 el (List.mem_of_getElem? e1)))
     rw [List.append_assoc,List.getElem?_append_left (by rw [htl]; exact hlt),List.getElem?_take_of_lt hlt] at e3
     exact c7 a q el d u e1 e2 e3
    ·by_cases ha2:a<off+len
     ·rw [List.getElem?_append_left (by simp only [List.length_append,hxt,List.length_replicate]; exact ha2),List.getElem?_append_right (by rw [hxt]; omega),hxt] at e1
      have hel:el.length=j.size:=by rw [(List.mem_replicate.1 (List.mem_of_getElem? e1)).2]; exact hdsl
      have hlt:=Ip (sz:=j.size) (i:=a-off) (n:=len) (by omega) (Nat.le_refl _) (hq hel)
      have hsub:a*j.size=off*j.size+(a-off)*j.size:=by rw [←Nat.add_mul]; congr 1; omega
      rw [List.getElem?_append_left (by simp only [List.length_append,htl,hcs]; omega),List.getElem?_append_right (by rw [htl]; omega),htl] at e3
      refine hrd (a-off) q el d u e1 e2 ?_
      rw [←e3]; congr 1; omega
     ·rw [List.getElem?_append_right (by simp only [List.length_append,hxt,List.length_replicate]; omega)] at e1
      simp only [List.length_append,hxt,List.length_replicate,List.getElem?_drop] at e1
      have e4:off+len+(a-(off+len))=a:=by omega
      rw [e4] at e1
      have hq2:=hq (c6 el (List.mem_of_getElem? e1))
      have hsub:a*j.size=off*j.size+len*j.size+(a-(off+len))*j.size:=by rw [←Nat.add_mul,←Nat.add_mul]; congr 1; omega
      rw [List.getElem?_append_right (by simp only [List.length_append,htl,hcs]; omega)] at e3
      simp only [List.length_append,htl,hcs,List.getElem?_drop] at e3
      refine c7 a q el d u e1 e2 ?_
      rw [←e3]; congr 1; omega
   ·intro u hu
    rcases List.mem_append.1 hu with hu | hu
    ·rcases List.mem_append.1 hu with hu | hu
     ·exact c8 u (List.mem_of_mem_take hu)
     ·exact h1 u hu
    ·exact c8 u (List.mem_of_mem_drop hu)
  ·exact hk.elim
 ·exact hk.elim
theorem AD0 (w:World) (t ui ty e:TypeId) (i:TypeInfo) (z:Value) (k2 k:IntKind) (m:Int) (ht:P.underlying t=some (.slice e)) (hu:P.underlying ui=some (.int k2)) (hi:P.info? e=some i) (hz:i.zero=some z) (hs:i.size≠0)
  (h0:0<m) (h63:m≤9223372036854775807) (h48:m.toNat*i.bytes≤281474976710656) :
  (Builtin.append_ #[t,ui] ty #[.slice none 0 0,.int k m]).run P w =
   .ok (.slice (some ⟨w.heap.size,0,none⟩) m.toNat (grownCap w m.toNat 0 e)) (w.drew.alloc (.cells (Builtin.zeroCells z.cells m.toNat++Builtin.zeroCells z.cells (grownCap w m.toNat 0 e-m.toNat)) e)):=by
 have hw:IntKind.i64.wrap m=m:=by rw [IntKind.wrap_i64]; omega
 have hn:m.toNat≠0:=by omega
 have h63':¬(9223372036854775807<(m.toNat:Int)):=by omega
 have h48':¬(281474976710656<Builtin.nextslicecap m.toNat 0*i.bytes):=by rw [nextslicecap_zero (by omega)]; omega
 have h48'':¬(281474976710656<m*i.bytes):=by
  have:((m.toNat*i.bytes:Nat):Int)=m*i.bytes:=by rw [Int.natCast_mul,Int.toNat_of_nonneg (by omega)]
  omega
 have hneg:¬m<0:=by omega
 have hle:¬m≤0:=by omega
 have hns:¬(m.toNat*i.size=0):=Nat.mul_ne_zero hn hs
 have hmx:max m 0=m:=by omega
 have h63b:¬(9223372036854775807<m):=by omega
 simp [Builtin.append_,run_underlying ht,run_underlying hu,asInt,asIntOf,hw,hneg,hle,hmx,h63b,h48'',sizeOf,typeInfo,zeroValue,hi,hz,hns,h63',h48',Question.forced,run_firstCells_none,newRow,grownCap]
theorem AJ8 (hh:HRel P F H w) {t ui ty e:TypeId} {i:TypeInfo} {z:List AV} {k2:IntKind} (ht:P.underlying t=some (.slice e)) (hu:P.underlying ui=some (.int k2)) (hi:P.info? e=some i) (hz:Gu P e=some z) (hsz:i.size≠0) (hby:i.bytes≠0)
  {sv xv:AV} {su xu:Value} (hs:VR P F w sv su) (hx:VR P F w xv xu) {K:AV→Heap→Prop} (hk:MH e i.size i.bytes z sv xv H K) :
  ∃v av F' H' w',(Builtin.append_ #[t,ui] ty #[su,xu]).run P w = .ok v w'∧VR P F' w' av v∧HRel P F' H' w'∧Step F H w F' H' w'∧K av H':=by
 obtain ⟨i',zv,hi',hzv,h3,h4,h5⟩:=JV hz
 rw [hi] at hi'; cases hi'
 unfold MH at hk
 split at hk
 ·next n0 k m ds hds =>
  obtain ⟨⟨h0,hb1,hb2⟩,hk⟩:=hk
  cases hs
  cases hx; next hx =>
  cases hx
  have hmt:((m.toNat*i.bytes:Nat):Int)=m*i.bytes:=by rw [Int.natCast_mul,Int.toNat_of_nonneg (by omega)]
  have hr0:=AD0 (P:=P) w t ui ty e i zv k2 k m ht hu hi hzv hsz h0 (by simp only [maxLen] at hb2; omega) (by omega)
  obtain ⟨F1,hdsl,hcs,hh1,hst1,hrd⟩:=RY (P:=P) hh (j:=i) h3 h4 (h5 F w).1 hsz hds m.toNat
  have hge:=grownCap_ge w m.toNat 0 e
  have hcm:=grownCap_le_maxLen w m.toNat 0 e (by omega)
  generalize grownCap w m.toNat 0 e=cap at *
  have hcur:(Builtin.zeroCells zv.cells m.toNat++Builtin.zeroCells zv.cells (cap-m.toNat))=((Builtin.zeroCells zv.cells m.toNat).toList++(Builtin.zeroCells zv.cells (cap-m.toNat)).toList).toArray:=by simp
  rw [hcur] at hr0
  obtain ⟨g1,g2⟩:=Mm (e:=e) hh1 (sz:=i.size) (cap:=cap) (xs:=List.replicate m.toNat ds) (cur:=(Builtin.zeroCells zv.cells m.toNat).toList++(Builtin.zeroCells zv.cells (cap-m.toNat)).toList)
   (by rw [List.length_append,hcs]; simp only [Array.length_toList,size_zeroCells,h4]; rw [←Nat.add_mul]; congr 1; omega) (by simpa using hge) hcm (by omega)
   (fun el hel=>by rw [(List.mem_replicate.1 hel).2]; exact hdsl)
   (fun a j el c u e1 e2 e3=>by
    have hlt:=Ip (sz:=i.size) (List.getElem?_eq_some_iff.1 e1).1 (Nat.le_refl _) (by have:=(List.getElem?_eq_some_iff.1 e2).1; rw [(List.mem_replicate.1 (List.mem_of_getElem? e1)).2,hdsl] at this; exact this)
    rw [List.length_replicate] at hlt
    rw [List.getElem?_append_left (by rw [hcs]; exact hlt)] at e3
    exact hrd a j el c u e1 e2 e3)
   (fun v hv=>by
    rcases List.mem_append.1 hv with hv | hv
    ·exact LH (h5 F w).2 (by omega) _ v hv
    ·exact LH (h5 F w).2 (by omega) _ v hv)
  refine ⟨_,_,F1,_,_,hr0,?_,g1,hst1.trans g2,hk _ (hh1.fresh (Nat.le_refl _)) cap hge⟩
  have:=VR.own (P:=P) (F:=F1) (w:=w.drew.alloc (.cells ((Builtin.zeroCells zv.cells m.toNat).toList++(Builtin.zeroCells zv.cells (cap-m.toNat)).toList).toArray e)) w.heap.size i.size 0 m.toNat cap hge
  rw [Nat.zero_mul] at this
  exact this
 ·exact hk.elim
theorem Pa (isMax:Bool) (k:IntKind):∀(xs:List AV) (us:List Value) (n m:Int),VRL P F w xs us→Av isMax k n xs=some m →
  (us.foldlM (if isMax then Builtin.max2 else Builtin.min2) (Value.int k n)).run P w = .ok (.int k m) w
 | [],us,n,m,hv,h=>by
  obtain rfl:=hv.unnil
  simp only [Av,Option.some.injEq] at h
  subst h
  simp
 | x::xs,us,n,m,hv,h=>by
  obtain ⟨u,us,rfl,hx,hl⟩:=hv.uncons
  cases hx <;> try (simp only [Av,reduceCtorEq] at h)
  next y hy =>
  cases hy <;> try (simp only [Av,reduceCtorEq] at h)
  next k' n' =>
  split at h
  ·next e =>
   subst e
   have ih:=Pa isMax k xs us _ m hl h
   rw [List.foldlM_cons]
   cases isMax
   ·have e:(Builtin.min2 (.int k n) (.int k n')).run P w = .ok (.int k (min n n')) w:=by
     show Sem.run P (pure (Value.int k (if n'<n then n' else n))) w=_
     rw [Sem.run_pure]; congr 2; split <;> omega
    simp only [Bool.false_eq_true,if_false] at ih ⊢
    simp only [Sem.run_bind,e,Result.andThen_ok]
    exact ih
   ·have e:(Builtin.max2 (.int k n) (.int k n')).run P w = .ok (.int k (max n n')) w:=by
     show Sem.run P (pure (Value.int k (if n' > n then n' else n))) w=_
     rw [Sem.run_pure]; congr 2; split <;> omega
    simp only [if_true] at ih ⊢
    simp only [Sem.run_bind,e,Result.andThen_ok]
    exact ih
  ·cases h
theorem QE:∀{ys:List (List D)} {bs:List UInt8},Hw ys=some bs→∃ns:List Int,ys=ns.map (fun n=>[D.int .u8 n])∧bs=ns.map fun n=>UInt8.ofNat n.toNat
 | [],bs,h=>by cases h; exact ⟨[],rfl,rfl⟩
 | []::l,bs,h=>by simp [Hw] at h
 | (x::y::z)::l,bs,h=>by simp [Hw] at h
 | [.int k n]::l,bs,h=>by
  cases k <;> simp only [Hw,reduceCtorEq] at h
  split at h
  ·next r e =>
   cases h
   obtain ⟨ns,rfl,rfl⟩:=QE e
   exact ⟨n::ns,rfl,rfl⟩
  ·cases h
 | [.bool _]::l,bs,h=>by simp [Hw] at h
 | [.str _]::l,bs,h=>by simp [Hw] at h
 | [.sl _ _]::l,bs,h=>by simp [Hw] at h
theorem AIl (hh:HRel P F H w) {src dst e:TypeId} (hs:P.underlying src=some (.slice e)) (he:P.underlying e=some (.int .u8)) (hd:P.underlying dst=some .string) {x:AV} {u:Value} (hx:VR P F w x u) {K:AV→Prop}
  (hk:Fl H x fun _ ys=>match Hw ys with | some bs=>K (.d (.str ⟨bs.toArray⟩)) | none=>False):∃r av,(convert src dst u).run P w = .ok r w∧VR P F w av r∧K av:=by
 obtain ⟨sz,ys,hel,hk⟩:=Tl hh hx hk
 split at hk
 ·next bs hb =>
  obtain ⟨ns,rfl,rfl⟩:=QE hb
  by_cases hn:ns=[]
  ·subst hn
   obtain ⟨a,c,rfl⟩:=hel.nil rfl
   refine ⟨_,_,?_,.d _ _ (.str _),hk⟩
   rw [run_convert_bytes_string w src dst e _ 0 c hs he hd]
   cases a <;> simp [Conv.bytesToString,loadCells,loadCellsFrom] <;> rfl
  ·have hne:ns.map (fun n=>[D.int .u8 n])≠[]:=fun h=>hn (by simpa using h)
   obtain ⟨b,off,c,news,rfl,h1,h2,h3,h4⟩:=hel.mem.resolve_left hne
   have hsz:sz=1:=by
    obtain ⟨n,hn2⟩:=List.exists_mem_of_ne_nil _ hn
    have:=hel.len [D.int .u8 n] (List.mem_map.2 ⟨n,hn2,rfl⟩)
    simpa using this.symm
   subst hsz
   rw [Nat.mul_one] at h1
   have hcell:∀i,i<(ns.map (fun n=>[D.int .u8 n])).length→w.cell? ⟨b,off+i,none⟩=some (.int .u8 (ns.getD i 0)):=fun i hi=>by
    have hi':i<ns.length:=by simpa using hi
    have hin:i<news.length:=by omega
    have e1:=h2 i _ (List.getElem?_eq_getElem hin)
    have e2:=h3 i 0 [D.int .u8 ns[i]] (.int .u8 ns[i]) news[i] (by simp [hi']) rfl (by rw [Nat.mul_one,Nat.add_zero]; exact List.getElem?_eq_getElem hin)
    rw [e1]
    generalize news[i]=q at e2
    cases e2
    simp [hi']
   have:=run_convert_bytes_arg (P:=P) w src e hs he b off _ c ns (by simp) hcell dst hd
   exact ⟨_,_,this,.d _ _ (.str _),hk⟩
 ·exact hk.elim
theorem AFp {t:TypeId} (ht:P.underlying t=some .string) {s:ByteArray} {lov hiv:Option Value} {h l:Nat} (e1:∀c,((match hiv with | some v=>Instr.sliceBound v s.size c | none=>pure s.size:Sem Nat)).run P w = .ok h w) (e2:∀c,((match lov with | some v=>Instr.sliceBound v h c | none=>pure 0:Sem Nat)).run P w = .ok l w) :
  (Instr.sliceAt t (.string s) lov hiv none).run P w = .ok (.string (s.extract l h)) w:=by
 cases lov <;> cases hiv <;> simp_all [Instr.sliceAt,Instr.slice,Instr.sliceBounds,run_underlying ht]
theorem ANF {t:TypeId} (ht:P.underlying t=some .string) {s:ByteArray} {lo hi:Option AV} {lov hiv:Option Value} {lo' hi':Option Int}
  (hlo:(lo=none∧lov=none)∨∃a b,lo=some a∧lov=some b∧VR P F w a b) (hhi:(hi=none∧hiv=none)∨∃a b,hi=some a∧hiv=some b∧VR P F w a b) (el:EV lo=some lo') (eh:EV hi=some hi') (h0:0≤lo'.getD 0∧lo'.getD 0≤hi'.getD s.size∧hi'.getD s.size≤s.size) :
  (Instr.sliceAt t (.string s) lov hiv none).run P w = .ok (.string (s.extract (lo'.getD 0).toNat (hi'.getD s.size).toNat)) w:=by
 refine AFp ht (fun c=>?_) (fun c=>?_)
 ·rcases hhi with ⟨rfl,rfl⟩ | ⟨a,b,rfl,rfl,hv⟩
  ·simp only [EV,Option.some.injEq] at eh; subst eh
   simp
  ·cases hv <;> simp only [EV,reduceCtorEq] at eh
   next z hz =>
   cases hz <;> simp only [EV,reduceCtorEq,Option.some.injEq] at eh
   next k n =>
   subst eh
   simp only [Option.getD_some] at h0 ⊢
   have h1:0≤n:=by omega
   simp [Instr.sliceBound,asIntOf,h1,h0.2.2]
 ·rcases hlo with ⟨rfl,rfl⟩ | ⟨a,b,rfl,rfl,hv⟩
  ·simp only [EV,Option.some.injEq] at el; subst el
   simp
  ·cases hv <;> simp only [EV,reduceCtorEq] at el
   next z hz =>
   cases hz <;> simp only [EV,reduceCtorEq,Option.some.injEq] at el
   next k n =>
   subst el
   simp only [Option.getD_some] at h0 ⊢
   have h1:n≤((hi'.getD ↑s.size).toNat:Int):=by omega
   simp [Instr.sliceBound,asIntOf,h0.1]
   omega
end
theorem O0 {P:Program} {f:FuncId} (h:J4 P f=true) (args:Array Value) (w:World):(callFunc f args).run P w = .ok (.enter f args) w:=by
 unfold J4 at h
 split at h
 ·next fn hf =>
  simp only [Bool.and_eq_true,bne_iff_ne,ne_eq,Option.isSome_iff_ne_none] at h
  have h1:fn.body.isNone=false:=by cases hb:fn.body <;> simp_all
  simp only [callFunc,Sem.run_bind,run_program,Result.andThen_ok,hf,beq_iff_eq,h.2,if_false,h1,Bool.false_eq_true,Sem.run_pure]
 ·cases h
section
variable {P:Program} {F:Nat→Prop} {w:World} {s:St} {a:Act} {o:Oper} {K:AV→Heap→Prop}
theorem OpOK.call {f:FuncId} {args:List AV} {vs:List Value} (hr:(execOp a.eval o).run P w = .ok (.enter f vs.toArray) w) (hh:HRel P F s.H w) (hv:VRL P F w args vs) (hk:CallW P f args s.H K):OpOK P s F a w o K:=by
 intro r next Q hn
 refine Nl hr (by simp) ⟨fun h=>by simp [F8] at h,?_⟩
 refine (callsIn_wide (n:=0-1)).2 ?_
 refine (hk F w vs hh hv).mono fun e w' h=>?_
 obtain ⟨r,H',F',v,rfl,h1,h2,h3,h4⟩:=h
 exact hn v r H' F' w' h1 h2 h3 h4
theorem OpOK.yld {l:Nat} {args:List AV} {vs:List Value} (hr:(execOp a.eval o).run P w=(Instr.yield l vs.toArray).run P w) (hh:HRel P F s.H w) (hv:VRL P F w args vs) (hk:Kr P l args s.H K):OpOK P s F a w o K:=by
 intro r next Q hn
 obtain ⟨fn,tmps,assign,body,h1,h2⟩:=hk F w vs hh hv
 rw [h1] at hr
 refine Nl hr (by simp) ⟨fun h=>by simp [F8] at h,?_⟩
 refine RoundIn.mono (F:=F8 r) (n:=0-1) (show RoundIn (F8 r) (0-1) P l fn tmps assign body w _ from h2) fun e w' h=>?_
 obtain ⟨r,H',F',v,rfl,h1,h2,h3,h4⟩:=h
 exact hn v r H' F' w' h1 h2 h3 h4
theorem AN8 {B:Nat} {op:AOp} (hc:Mt P o.op=some op) (hr:Rel P B F s a w) (hk:AR P s.t s.H K op):OpOK P s F a w o K:=by
 obtain ⟨hh,hd,hsz,ht⟩:=hr
 cases ho:o.op <;> rw [ho] at hc <;> simp only [Mt,reduceCtorEq] at hc
 case move x=>cases hc; exact OpOK.same hh (by simp [execOp,ho]) (Ea ht x) hk
 case assign x=>cases hc; exact OpOK.same hh (by simp [execOp,ho]) (Ea ht x) hk
 case pick c x y =>
  cases hc
  simp only [AR] at hk
  split at hk
  ·next b e =>
   have hb:=Ea (P:=P) (F:=F) (w:=w) ht c
   rw [e] at hb
   cases hb
   next hb =>
   generalize hv:a.eval c=v at hb
   cases hb
   cases b
   ·exact OpOK.same hh (by simp [execOp,ho,hv,asBool]) (Ea ht y) (hk.2 rfl)
   ·exact OpOK.same hh (by simp [execOp,ho,hv,asBool]) (Ea ht x) (hk.1 rfl)
  ·exact hk.elim
 case alloc e =>
  cases hz:Gu P e with
  | none=>rw [hz] at hc; cases hc
  | some z =>
   rw [hz] at hc
   cases hc
   obtain ⟨i,v,h1,h2,h3,h4,h5⟩:=JV hz
   obtain ⟨F',H',w',g1,g2,g3,g4⟩:=QQ (P:=P) hh e (h5 F w).1 (h5 F w).2 hk
   refine OpOK.value (v:=.pointer (some ⟨w.heap.size,0,none⟩)) ?_ (.ptr _ 0) g2 g3 g4
   simp only [execOp,ho,Sem.run_bind,Instr.alloc,MC h1 h2,Result.andThen_ok,newVar]
   have:newRow e v.cells=newRow e v.cells.toList.toArray:=by simp
   rw [this,g1]
   simp
 case box e x =>
  cases hc
  obtain ⟨hf,hk⟩:=hk
  have hx:=Ea (P:=P) (F:=F) (w:=w) ht x
  obtain ⟨us,h1,h2,h3,h4⟩:=Ob hx hf
  obtain ⟨F',H',w',g1,g2,g3,g4⟩:=QQ (P:=P) hh e h3 h4 hk
  refine OpOK.value (v:=.pointer (some ⟨w.heap.size,0,none⟩)) ?_ (.ptr _ 0) g2 g3 g4
  simp only [execOp,ho,Sem.run_bind,Instr.box,newVar,h1,g1,Result.andThen_ok,Sem.run_pure]
 case load t p =>
  cases hg:GV P t with
  | none=>rw [hg] at hc; cases hc
  | some g =>
   rw [hg] at hc
   cases hc
   obtain ⟨v,av,h1,h2,h3⟩:=SI (P:=P) hh hg (Ea ht p) (K:=fun v=>K v s.H) hk
   exact OpOK.same hh (by simp [execOp,ho,h1]) h2 h3
 case store t p v =>
  cases hi:P.info? t with
  | none=>rw [hi] at hc; cases hc
  | some i =>
   rw [hi] at hc
   cases hc
   obtain ⟨F',H',w',h1,h2,h3,h4⟩:=AM5 (P:=P) hh hi (Ea ht p) (Ea ht v) hk
   exact OpOK.skip (by simp [execOp,ho,h1]) h2 h3 h4
 case panic x=>cases hc; exact hk.elim
 case makeInterface x y=>cases hc; exact hk.elim
 case nilCheck x =>
  cases hc
  have hx:=Ea (P:=P) (F:=F) (w:=w) ht x
  simp only [AR] at hk
  generalize hv:a.eval x=v at hx
  generalize ev s.t (Eo P x)=xv at hx hk
  cases hx <;> try exact hk.elim
  case ptr b off=>exact OpOK.same hh (by simp [execOp,ho,hv]) (.ptr b off) hk
  case eptr b sz i j=>exact OpOK.same hh (by simp [execOp,ho,hv]) (.eptr b sz i j) hk
  case dptr el off b o us hF hl hc hr=>exact OpOK.same hh (by simp [execOp,ho,hv]) (.dptr el off b o us hF hl hc hr) hk
  case fn f xs cs hf hl h=>exact OpOK.same hh (by simp [execOp,ho,hv]) (.fn f xs cs hf hl h) hk
 case binOp bop t x y yt =>
  split at hc
  ·next fs hfs =>
   split at hc
   ·next ks hks =>
    split at hc
    ·next hg =>
     simp only [Bool.and_eq_true,Bool.not_eq_true'] at hg
     have key:∀neg:Bool,bop=(if neg then .neq else .eql)→AR P s.t s.H K (.eqAgg neg ks (Eo P x) (Eo P y))→OpOK P s F a w o K:=by
      intro neg hop hk
      simp only [AR] at hk
      have hx:=Ea (P:=P) (F:=F) (w:=w) ht x
      have hy:=Ea (P:=P) (F:=F) (w:=w) ht y
      split at hk
      ·next xs ys e1 e2 =>
       rw [e1] at hx
       rw [e2] at hy
       generalize hu:a.eval x=u at hx
       generalize hv:a.eval y=v at hy
       split at hk
       ·next b he =>
        cases hx with | agg _ cs hl1 hh1 _ =>
        cases hy with | agg _ ds hl2 hh2 _ =>
        have h1:=ALA (P:=P) (F:=F) (w:=w) (neg:=neg) hfs hks hg.1 hg.2 x y ⟨hl1,hh1⟩ ⟨hl2,hh2⟩ he
        rw [←hop] at h1
        refine OpOK.same hh ?_ (.d _ _ (.bool _)) hk
        simp only [execOp,ho,hu,hv]
        rw [Sem.run_bind,h1]
        rfl
       ·exact hk.elim
      ·exact hk.elim
     split at hc
     ·cases hc; exact key false rfl hk
     ·cases hc; exact key true rfl hk
     ·cases hc
    ·cases hc
   ·cases hc
  ·cases hc
   obtain ⟨r,av,h1,h2,h3⟩:=Qe (P:=P) (op:=bop) (t:=t) x y (Ea ht x) (Ea ht y) (K:=fun v=>K v s.H) hk
   refine OpOK.same hh ?_ h2 h3
   simp only [execOp,ho]
   rw [Sem.run_bind,h1]
   rfl
  ·cases hc
   obtain ⟨r,av,h1,h2,h3⟩:=Qe (P:=P) (op:=bop) (t:=t) x y (Ea ht x) (Ea ht y) (K:=fun v=>K v s.H) hk
   refine OpOK.same hh ?_ h2 h3
   simp only [execOp,ho]
   rw [Sem.run_bind,h1]
   rfl
  ·next hb =>
   have key:∀neg:Bool,bop=(if neg then .neq else .eql)→AR P s.t s.H K (.binb neg (Eo P x) (Eo P y))→OpOK P s F a w o K:=by
    intro neg hop hk
    simp only [AR] at hk
    have hx:=Ea (P:=P) (F:=F) (w:=w) ht x
    have hy:=Ea (P:=P) (F:=F) (w:=w) ht y
    split at hk
    ·next p q e1 e2 =>
     rw [e1] at hx
     rw [e2] at hy
     generalize hu:a.eval x=u at hx
     generalize hv:a.eval y=v at hy
     cases hx; next hx =>
     cases hx
     cases hy; next hy =>
     cases hy
     have h1:=ACB (P:=P) (w:=w) (neg:=neg) hb x y p q
     rw [←hop] at h1
     refine OpOK.same hh ?_ (.d _ _ (.bool _)) hk
     simp only [execOp,ho,hu,hv]
     rw [Sem.run_bind,h1]
     rfl
    ·exact hk.elim
   split at hc
   ·cases hc; exact key false rfl hk
   ·cases hc; exact key true rfl hk
   ·cases hc
  ·next e he =>
   split at hc
   ·have key:∀neg:Bool,bop=(if neg then .neq else .eql)→AR P s.t s.H K (.isNil neg (Eo P x))→OpOK P s F a w o K:=by
     intro neg hop hk
     simp only [AR] at hk
     have hx:=Ea (P:=P) (F:=F) (w:=w) ht x
     have fin:∀b l c,a.eval x = .slice b l c→K (.d (.bool (if neg then !b.isNone else b.isNone))) s.H→OpOK P s F a w o K:=fun b l c hu hk=>by
      have h1:=WP (P:=P) (w:=w) (neg:=neg) he x (.const (.slice none 0 0)) b l c
      rw [←hop] at h1
      refine OpOK.same hh ?_ (.d _ _ (.bool _)) hk
      have he2:a.eval (.const (.slice none 0 0)) = .slice none 0 0:=rfl
      simp only [execOp,ho,hu,he2]
      rw [Sem.run_bind,h1]
      rfl
     split at hk
     ·next e1 =>
      rw [e1] at hx
      generalize hu:a.eval x=u at hx
      cases hx
      exact fin _ _ _ hu (by cases neg <;> exact hk)
     ·next e1 =>
      rw [e1] at hx
      generalize hu:a.eval x=u at hx
      cases hx
      exact fin _ _ _ hu (by cases neg <;> exact hk)
     ·next e1 =>
      rw [e1] at hx
      generalize hu:a.eval x=u at hx
      cases hx
      exact fin _ _ _ hu (by cases neg <;> exact hk)
     ·next xs e1 =>
      rw [e1] at hx
      generalize hu:a.eval x=u at hx
      cases hx; next hx =>
      cases hx with
      | nil sz ad cap =>
       refine fin _ _ _ hu ?_
       cases ad with
       | none=>have:=hk.2 rfl; cases neg <;> exact this
       | some ad=>have:=hk.1; cases neg <;> exact this
      | sl sz xs b off cap u hF hcap hsz hc hr =>
       refine fin _ _ _ hu ?_
       have:=hk.1
       cases neg <;> exact this
     ·exact hk.elim
    split at hc
    ·cases hc; exact key false rfl hk
    ·cases hc; exact key true rfl hk
    ·cases hc
   ·cases hc
  ·cases hc
 case unOp uop t x =>
  cases hc
  have hx:=Ea (P:=P) (F:=F) (w:=w) ht x
  simp only [AR] at hk
  split at hk
  ·next b e =>
   rw [e] at hx
   generalize hv:a.eval x=v at hx
   cases hx; next hx=>cases hx; exact OpOK.same hh (by simp [execOp,ho,hv,Op.unary]) (.d _ _ (.bool _)) hk
  ·next k n e =>
   rw [e] at hx
   generalize hv:a.eval x=v at hx
   cases hx; next hx=>cases hx; exact OpOK.same hh (by simp [execOp,ho,hv,Op.unary,Op.intArith]) (.d _ _ (.int _ _)) hk
  ·exact hk.elim
 case convert src dst x =>
  split at hc
  ·next k1 k e1 e2 =>
   cases hc
   have hx:=Ea (P:=P) (F:=F) (w:=w) ht x
   simp only [AR] at hk
   split at hk
   ·next k' n e =>
    rw [e] at hx
    generalize hv:a.eval x=v at hx
    cases hx; next hx=>cases hx; exact OpOK.same hh (by simp [execOp,ho,hv,convert,run_underlying e1,run_underlying e2,Conv.intToInt]) (.d _ _ (.int _ _)) hk
   ·exact hk.elim
  ·next e1 e2 e3 =>
   split at hc
   ·next e4 =>
    cases hc
    obtain ⟨r,av,h1,h2,h3⟩:=AIl (P:=P) hh e2 e4 e3 (Ea ht x) (K:=fun v=>K v s.H) hk
    exact OpOK.same hh (by simp only [execOp,ho]; rw [Sem.run_bind,h1]; rfl) h2 h3
   ·cases hc
  ·cases hc
 case makeFunc fn first caps =>
  unfold QK at hc
  split at hc
  ·next f hfi =>
   split at hc
   ·next hf =>
    cases hc
    have hl:=M5 (P:=P) (F:=F) (w:=w) ht caps.toList
    have:=VR.fn (P:=P) (F:=F) (w:=w) f _ _ hf hl.1 hl.2
    obtain rfl:first = #[]:=by simpa using hfi
    refine OpOK.same hh ?_ this hk
    simp [execOp,ho,Instr.makeFunc]
    apply Array.ext'; simp
   ·cases hc
  ·cases hc
 case fieldAddr t x i =>
  split at hc
  ·next fs hu =>
   split at hc
   ·next f hf =>
    split at hc
    ·next hs =>
     cases hc
     obtain ⟨j,hj⟩:∃j,P.info? f.type=some j:=by cases e:P.info? f.type <;> simp [e] at hs ⊢
     have hjs:j.size≠0:=by simpa [hj] using hs
     have hx:=Ea (P:=P) (F:=F) (w:=w) ht x
     have key:∀y,Ax f.offset (ev s.t (Eo P x))=some y→K y s.H→OpOK P s F a w o K:=fun y hy hk=>by
      obtain ⟨v,h1,h2⟩:=WY hu hf hj hjs hx hy
      exact OpOK.same hh (by simp [execOp,ho,h1]) h2 hk
     simp only [AR] at hk
     split at hk
     ·next e=>exact key _ (by rw [e]; rfl) hk
     ·next e=>exact key _ (by rw [e]; rfl) hk
     ·next e=>exact key _ (by rw [e]; rfl) hk
     ·exact hk.elim
    ·cases hc
   ·cases hc
  ·cases hc
 case field t x i =>
  split at hc
  ·next fs hu =>
   split at hc
   ·next f hf =>
    cases hg:GV P f.type with
    | none=>rw [hg] at hc; cases hc
    | some g =>
     rw [hg] at hc
     cases hc
     have hx:=Ea (P:=P) (F:=F) (w:=w) ht x
     simp only [AR] at hk
     split at hk
     ·next xs e =>
      rw [e] at hx
      generalize hv:a.eval x=v at hx
      cases hx
      next cs h2 hl h1 =>
      obtain ⟨v,av,g1,g2,g3⟩:=SL (P:=P) (F:=F) (w:=w) hg ⟨hl,h1⟩ h2 (off:=f.offset) (K:=fun v=>K v s.H) (by cases g <;> exact hk)
      exact OpOK.same hh (by simp [execOp,ho,hv,Instr.field,run_underlying hu,hf,asAgg,g1]) g2 g3
     ·exact hk.elim
   ·cases hc
  ·cases hc
 case indexAddr t x i =>
  have hx:=Ea (P:=P) (F:=F) (w:=w) ht x
  have hi:=Ea (P:=P) (F:=F) (w:=w) ht i
  split at hc
  ·next e hu =>
   split at hc
   ·next j hj =>
    split at hc
    ·next hs =>
     cases hc
     obtain ⟨r,av,h1,h2,h3⟩:=AHp (P:=P) (F:=F) (w:=w) hu hj hx hi (K:=fun v=>K v s.H) hk
     exact OpOK.same hh (by simp [execOp,ho,h1]) h2 h3
    ·cases hc
   ·cases hc
  ·next n e hu =>
   split at hc
   ·next j hj =>
    split at hc
    ·next hs =>
     cases hc
     simp only [AR] at hk
     split at hk
     ·next b off k m e1 e2 =>
      rw [e1] at hx
      rw [e2] at hi
      generalize hv:a.eval x=v at hx
      generalize hv2:a.eval i=v2 at hi
      cases hx
      cases hi; next hi =>
      cases hi
      have h1:=AC9 (P:=P) (w:=w) (b:=b) (o:=off) (k:=k) hu hj hk.1
      exact OpOK.same hh (by simp [execOp,ho,hv,hv2,h1]) (.ptr _ _) hk.2
     ·exact hk.elim
    ·cases hc
   ·cases hc
  ·cases hc
 case index t x i =>
  split at hc
  ·next n e hu =>
   split at hc
   ·next j g hj hg =>
    split at hc
    ·next hs =>
     cases hc
     have hx:=Ea (P:=P) (F:=F) (w:=w) ht x
     have hi:=Ea (P:=P) (F:=F) (w:=w) ht i
     simp only [AR] at hk
     split at hk
     ·next xs k m e1 e2 =>
      rw [e1] at hx
      rw [e2] at hi
      generalize hv:a.eval x=v at hx
      generalize hv2:a.eval i=v2 at hi
      cases hi; next hi =>
      cases hi
      cases hx
      next cs h2 hl h1 =>
      obtain ⟨⟨hm1,hm2,hm3⟩,hk⟩:=hk
      have hb:m.toNat*j.size+j.size≤AU xs:=by
       rw [←hm3]
       have:(m.toNat+1)*j.size≤n*j.size:=Nat.mul_le_mul_right _ (by omega)
       rw [Nat.add_mul,Nat.one_mul] at this
       exact this
      obtain ⟨v,av,g1,g2,g3⟩:=SL (P:=P) (F:=F) (w:=w) hg ⟨hl,h1⟩ h2 (off:=m.toNat*j.size) (K:=fun v=>K v s.H) (by
       cases g with
       | none =>
        obtain ⟨h3,hk⟩:=hk
        have e3:m.toNat*j.size=m.toNat:=by rw [h3,Nat.mul_one]
        rw [e3,h3] at hb
        simp only [e3]
        exact ⟨by omega,hk⟩
       | some c=>obtain ⟨rfl,hk⟩:=hk; exact ⟨hb,hk⟩)
      exact OpOK.same hh (by simp [execOp,ho,hv,hv2,Instr.index,run_underlying hu,asIntOf,hm1,hm2,GQ hj,g1]) g2 g3
     ·exact hk.elim
    ·cases hc
   ·cases hc
  ·next hu =>
   cases hc
   have hx:=Ea (P:=P) (F:=F) (w:=w) ht x
   have hi:=Ea (P:=P) (F:=F) (w:=w) ht i
   simp only [AR] at hk
   split at hk
   ·next b k m e1 e2 =>
    rw [e1] at hx
    rw [e2] at hi
    generalize hv:a.eval x=v at hx
    generalize hv2:a.eval i=v2 at hi
    cases hi; rename_i hi; cases hi
    cases hx; rename_i hx; cases hx
    obtain ⟨hm,hk⟩:=hk
    have h1:=run_index_string (P:=P) w t b k m hu
    rw [dif_pos hm] at h1
    have e3:(((b[m.toNat]'(by omega)).toNat:Nat):Int)=EE b m.toNat:=by
     have h2:m.toNat<b.data.size:=by have:=hm.2; show m.toNat<b.size; omega
     simp only [EE,Array.getElem?_eq_getElem h2,Option.getD_some]
     rfl
    rw [e3] at h1
    exact OpOK.same hh (by simp only [execOp,ho,hv,hv2]; rw [Sem.run_bind,h1]; rfl) (.d _ _ (.int _ _)) hk
   ·exact hk.elim
  ·cases hc
 case build t parts =>
  split at hc
  ·next fs z hu hz =>
   split at hc
   ·next ha =>
    cases hl:KC P fs parts.toList with
    | none=>rw [hl] at hc; cases hc
    | some l =>
     rw [hl] at hc
     cases hc
     simp only [AR] at hk
     split at hk
     ·next cs hb =>
      obtain ⟨us,h1,h2⟩:=X0 (P:=P) (F:=F) (w:=w) ht hu hz ha hl hb
      exact OpOK.same hh (by simp only [execOp,ho]; rw [Sem.run_bind,h1]; rfl) h2 hk
     ·exact hk.elim
   ·cases hc
  ·next n e z hu hz =>
   split at hc
   ·next j hj =>
    cases hc
    simp only [AR] at hk
    split at hk
    ·next cs hb =>
     have e1:(parts.toList.map fun x=>(x.1*j.size,j.size,Eo P x.2))=(parts.toList.map fun p=>(p.1,Eo P p.2)).map fun p=>(p.1*j.size,j.size,p.2):=by simp
     rw [e1,SX] at hb
     obtain ⟨us,h1,h2⟩:=Xt (P:=P) (F:=F) (w:=w) ht hu hz hj hb
     exact OpOK.same hh (by simp only [execOp,ho]; rw [Sem.run_bind,h1]; rfl) h2 hk
    ·exact hk.elim
   ·cases hc
  ·cases hc
 case buildSlice t len parts =>
  split at hc
  ·next e hu =>
   split at hc
   ·next j z hj hz =>
    split at hc
    ·next hs =>
     cases hc
     obtain ⟨v,av,F',H',w',h1,h2,h3,h4,h5⟩:=ABl (P:=P) hh ht (len:=len) (parts:=parts) hu hz hj hs.1 hs.2 hk
     exact OpOK.value (by simp only [execOp,ho]; rw [Sem.run_bind,h1]; rfl) h2 h3 h4 h5
    ·cases hc
   ·cases hc
  ·cases hc
 case makeSlice t l c =>
  cases l <;> (try cases hc)
  next l =>
  cases c <;> (try cases hc)
  next c =>
  simp only [Mt] at hc
  split at hc
  ·next e hu =>
   split at hc
   ·next j z hj hz =>
    split at hc
    ·next hs =>
     cases hc
     obtain ⟨h0,rfl⟩:=hs
     have hx:=ht l
     simp only [AR,ev] at hk
     split at hk
     ·next k n e1 =>
      rw [e1] at hx
      generalize hv:a.tmps.getD l undef=v at hx
      cases hx
      next hy =>
      cases hy
      split at hk
      ·next ds hd =>
       obtain ⟨v,av,F',H',w',h1,h2,h3,h4,h5⟩:=AKz (P:=P) (k:=k) hh hu hz hj h0 hd hk.1 hk.2
       exact OpOK.value (by simp only [execOp,ho,Act.eval,hv]; rw [Sem.run_bind,h1]; rfl) h2 h3 h4 h5
      ·exact hk.elim
     ·exact hk.elim
    ·cases hc
   ·cases hc
  ·cases hc
 case extract x i =>
  cases hc
  have hx:=Ea (P:=P) (F:=F) (w:=w) ht x
  simp only [AR] at hk
  split at hk
  ·next xs e =>
   rw [e] at hx
   generalize hv:a.eval x=v at hx
   cases hx
   next cs hl h1 =>
   obtain ⟨u,hu,h2⟩:=VRL.nth (P:=P) (F:=F) (w:=w) ⟨hl,h1⟩ hk.1
   exact OpOK.same hh (by simp [execOp,ho,hv,Instr.extract,hu]) h2 hk.2
  ·exact hk.elim
 case slice t x lo hi mx =>
  split at hc
  ·next e hu =>
   split at hc
   ·next j hj =>
    cases hc
    have hx:=Ea (P:=P) (F:=F) (w:=w) ht x
    have hopt:∀q:Option Operand,(AS s.t (q.map (Eo P))=none∧q.map a.eval=none)∨∃p b,AS s.t (q.map (Eo P))=some p∧q.map a.eval=some b∧VR P F w p b:=fun q=>by
     cases q with
     | none=>exact .inl ⟨rfl,rfl⟩
     | some q=>exact .inr ⟨_,_,rfl,rfl,Ea ht q⟩
    obtain ⟨r,av,h1,h2,h3⟩:=AQI (P:=P) (F:=F) (w:=w) hu hj hx (hopt lo) (hopt hi) (K:=fun v=>K v s.H) hk
    exact OpOK.same hh (by simp only [execOp,ho,Option.map_none]; rw [Sem.run_bind,h1]; rfl) h2 h3
   ·cases hc
  ·next e m hu =>
   split at hc
   ·next j hj =>
    cases hc
    have hx:=Ea (P:=P) (F:=F) (w:=w) ht x
    have hopt:∀q:Option Operand,(AS s.t (q.map (Eo P))=none∧q.map a.eval=none)∨∃p b,AS s.t (q.map (Eo P))=some p∧q.map a.eval=some b∧VR P F w p b:=fun q=>by
     cases q with
     | none=>exact .inl ⟨rfl,rfl⟩
     | some q=>exact .inr ⟨_,_,rfl,rfl,Ea ht q⟩
    obtain ⟨r,av,h1,h2,h3⟩:=ALd (P:=P) (F:=F) (w:=w) hu hj hx (hopt lo) (hopt hi) (hopt (some m)) (K:=fun v=>K v s.H) hk
    exact OpOK.same hh (by simp only [execOp,ho]; rw [Sem.run_bind,h1]; rfl) h2 h3
   ·cases hc
  ·next hu =>
   cases hc
   have hx:=Ea (P:=P) (F:=F) (w:=w) ht x
   have hopt:∀q:Option Operand,(AS s.t (q.map (Eo P))=none∧q.map a.eval=none)∨∃p b,AS s.t (q.map (Eo P))=some p∧q.map a.eval=some b∧VR P F w p b:=fun q=>by
    cases q with
    | none=>exact .inl ⟨rfl,rfl⟩
    | some q=>exact .inr ⟨_,_,rfl,rfl,Ea ht q⟩
   simp only [AR] at hk
   split at hk
   ·next sx lo' hi' ex el eh =>
    rw [ex] at hx
    generalize hv:a.eval x=v at hx
    cases hx; next hx =>
    cases hx
    have h1:=ANF (P:=P) (F:=F) (w:=w) hu (hopt lo) (hopt hi) el eh hk.1
    exact OpOK.same hh (by simp only [execOp,ho,hv,Option.map_none]; rw [Sem.run_bind,h1]; rfl) (.d _ _ (.str _)) hk.2
   ·exact hk.elim
  ·cases hc
 case call c =>
  obtain ⟨callee,args,argTypes⟩:=c
  simp only [TQ] at hc
  have hargs:=M5 (P:=P) (F:=F) (w:=w) ht args.toList
  split at hc
  ·next b =>
   cases b <;> simp only [TO,reduceCtorEq] at hc
   case len =>
    split at hc
    ·next x t ha hts =>
     obtain rfl:args = #[x]:=by apply Array.ext'; simpa using ha
     obtain rfl:argTypes = #[t]:=by apply Array.ext'; simpa using hts
     have hx:=Ea (P:=P) (F:=F) (w:=w) ht x
     split at hc
     ·next e hu =>
      cases hc
      simp only [AR] at hk
      generalize hv:a.eval x=v at hx
      generalize ev s.t (Eo P x)=xv at hx hk
      have run:∀q n c,v = .slice q n c→(execOp a.eval o).run P w = .ok (.value (.int .i64 n)) w:=by
       rintro q n c rfl
       simp [execOp,ho,resolve,invoke,builtin,Builtin.len_,hv,run_underlying hu,goInt]
      cases hx <;> try exact hk.elim
      case d y hy =>
       cases hy <;> try exact hk.elim
       case nil sz q cap=>exact OpOK.same hh (run _ _ _ rfl) (.d _ _ (.int _ _)) hk
       case sl=>exact OpOK.same hh (run _ _ _ rfl) (.d _ _ (.int _ _)) hk
      case nilsl=>exact OpOK.same hh (run _ _ _ rfl) (.d _ _ (.int _ _)) hk
      case own=>exact OpOK.same hh (run _ _ _ rfl) (.d _ _ (.int _ _)) hk
      case part=>exact OpOK.same hh (run _ _ _ rfl) (.d _ _ (.int _ _)) hk
     ·next hu =>
      cases hc
      simp only [AR] at hk
      split at hk
      ·next st e =>
       rw [e] at hx
       generalize hv:a.eval x=v at hx
       cases hx; next hx =>
       cases hx
       exact OpOK.same hh (by simp [execOp,ho,resolve,invoke,builtin,Builtin.len_,hv,run_underlying hu,goInt]) (.d _ _ (.int _ _)) hk
      ·exact hk.elim
     ·cases hc
    ·cases hc
   case append =>
    split at hc
    ·next x y t u ha hts =>
     obtain rfl:args = #[x,y]:=by apply Array.ext'; simpa using ha
     obtain rfl:argTypes = #[t,u]:=by apply Array.ext'; simpa using hts
     split at hc
     ·next e hu =>
      split at hc
      ·next j z hj hz =>
       split at hc
       ·next hs =>
        cases hc
        obtain ⟨hs1,hs2,rfl⟩:=hs
        obtain ⟨v,av,F',H',w',h1,h2,h3,h4,h5⟩:=YO (P:=P) (ty:=o.type) hh hu hj hz hs1 hs2 (Ea ht x) (Ea ht y) hk
        exact OpOK.value (by simp [execOp,ho,resolve,invoke,builtin,h1]) h2 h3 h4 h5
       ·split at hc
        ·next k2 hui =>
         split at hc
         ·next hs =>
          cases hc
          obtain ⟨v,av,F',H',w',h1,h2,h3,h4,h5⟩:=AJ8 (P:=P) (ty:=o.type) hh hu hui hj hz hs.1 hs.2 (Ea ht x) (Ea ht y) hk
          exact OpOK.value (by simp [execOp,ho,resolve,invoke,builtin,h1]) h2 h3 h4 h5
         ·cases hc
        ·cases hc
      ·cases hc
     ·cases hc
    ·cases hc
   case cap =>
    split at hc
    ·next x t ha hts =>
     obtain rfl:args = #[x]:=by apply Array.ext'; simpa using ha
     obtain rfl:argTypes = #[t]:=by apply Array.ext'; simpa using hts
     have hx:=Ea (P:=P) (F:=F) (w:=w) ht x
     split at hc
     ·next e hu =>
      cases hc
      simp only [AR] at hk
      generalize hv:a.eval x=v at hx
      generalize ev s.t (Eo P x)=xv at hx hk
      have run:∀q n c,v = .slice q n c→(execOp a.eval o).run P w = .ok (.value (.int .i64 c)) w:=by
       rintro q n c rfl
       simp [execOp,ho,resolve,invoke,builtin,Builtin.cap_,hv,run_underlying hu,goInt]
      cases hx <;> try exact hk.elim
      case nilsl=>exact OpOK.same hh (run _ _ _ rfl) (.d _ _ (.int _ _)) hk
      case own=>exact OpOK.same hh (run _ _ _ rfl) (.d _ _ (.int _ _)) hk
      case part=>exact OpOK.same hh (run _ _ _ rfl) (.d _ _ (.int _ _)) hk
     ·cases hc
    ·cases hc
   case clear =>
    split at hc
    ·next x t ha hts =>
     obtain rfl:args = #[x]:=by apply Array.ext'; simpa using ha
     obtain rfl:argTypes = #[t]:=by apply Array.ext'; simpa using hts
     split at hc
     ·next e hu =>
      split at hc
      ·next j z hj hz =>
       split at hc
       ·next hs =>
        cases hc
        obtain ⟨F',H',w',h1,h3,h4,h5⟩:=AMi (P:=P) (ty:=o.type) hh hu hj hz hs (Ea ht x) hk
        exact OpOK.value (by simp [execOp,ho,resolve,invoke,builtin,h1]) (.tup [] [] rfl (fun j x v h=>by simp at h)) h3 h4 h5
       ·cases hc
      ·cases hc
     ·cases hc
    ·cases hc
   case min =>
    split at hc
    ·next x r ha =>
     cases hc
     simp only [AR] at hk
     split at hk
     ·next k n e =>
      split at hk
      ·next m hm =>
       have hx:=Ea (P:=P) (F:=F) (w:=w) ht x
       rw [e] at hx
       generalize hv:a.eval x=v at hx
       cases hx; next hx =>
       cases hx
       have hl:=M5 (P:=P) (F:=F) (w:=w) ht r
       have h1:=Pa (P:=P) (F:=F) (w:=w) false k _ _ n m hl hm
       refine OpOK.same hh ?_ (.d _ _ (.int _ _)) hk
       simp only [Bool.false_eq_true,if_false] at h1
       simp [execOp,ho,resolve,invoke,builtin,Builtin.min_,ha,hv,h1]
      ·exact hk.elim
     ·exact hk.elim
    ·cases hc
   case max =>
    split at hc
    ·next x r ha =>
     cases hc
     simp only [AR] at hk
     split at hk
     ·next k n e =>
      split at hk
      ·next m hm =>
       have hx:=Ea (P:=P) (F:=F) (w:=w) ht x
       rw [e] at hx
       generalize hv:a.eval x=v at hx
       cases hx; next hx =>
       cases hx
       have hl:=M5 (P:=P) (F:=F) (w:=w) ht r
       have h1:=Pa (P:=P) (F:=F) (w:=w) true k _ _ n m hl hm
       refine OpOK.same hh ?_ (.d _ _ (.int _ _)) hk
       simp only [if_true] at h1
       simp [execOp,ho,resolve,invoke,builtin,Builtin.max_,ha,hv,h1]
      ·exact hk.elim
     ·exact hk.elim
    ·cases hc
  ·next f =>
   split at hc
   ·next hf =>
    cases hc
    refine OpOK.call (f:=f) ?_ hh hargs hk
    have:(args.toList.map a.eval).toArray=args.map a.eval:=by apply Array.ext'; simp
    rw [this]
    simp [execOp,ho,resolve,Act.eval,Deferred.ofValue,invoke,O0 hf]
   ·cases hc
  ·next t =>
   cases hc
   simp only [AR,ev] at hk
   split at hk
   ·next f caps e =>
    have hx:=ht t
    rw [e] at hx
    generalize hv:a.tmps.getD t undef=v at hx
    cases hx
    next cs hf hl h1 =>
    refine OpOK.call (f:=f) ?_ hh (hargs.append ⟨hl,h1⟩) hk
    have:(args.toList.map a.eval++cs).toArray=args.map a.eval++cs.toArray:=by apply Array.ext'; simp
    rw [this]
    simp [execOp,ho,resolve,Act.eval,hv,Deferred.ofValue,invoke,O0 hf]
   ·next l e =>
    have hx:=ht t
    rw [e] at hx
    generalize hv:a.tmps.getD t undef=v at hx
    cases hx
    refine OpOK.yld (l:=l) ?_ hh hargs hk
    have:(args.toList.map a.eval).toArray=args.map a.eval:=by apply Array.ext'; simp
    rw [this]
    simp [execOp,ho,resolve,Act.eval,hv,Deferred.ofValue,invoke]
   ·exact hk.elim
  ·cases hc
end
theorem KI {t u:TM} {x:Opd} (h:∀i∈Ig x,t i=u i):ev t x=ev u x:=by
 cases x with
 | t n=>exact h n (by simp [Ig])
 | c v=>rfl
theorem IV {t u:TM} {xs:List Opd} (h:∀x∈xs,ev t x=ev u x):Ab t xs=Ab u xs:=by
 induction xs with
 | nil=>rfl
 | cons x xs ih=>simp only [Ab]; rw [h x (by simp),ih (fun y hy=>h y (by simp [hy]))]
theorem AGi {t u:TM} {ps:List (Nat×Nat×Opd)} (h:∀x∈ps.map (·.2.2),ev t x=ev u x):Ak t ps=Ak u ps:=by
 induction ps with
 | nil=>rfl
 | cons p ps ih =>
  obtain ⟨a,b,x⟩:=p
  simp only [Ak]; rw [h x (by simp),ih (fun y hy=>h y (by simp only [List.map_cons,List.mem_cons]; exact .inr hy))]
theorem PB {t u:TM} {sz:Nat} {ps:List (Nat×Opd)} (h:∀x∈ps.map (·.2),ev t x=ev u x):Ae t sz ps=Ae u sz ps:=by
 induction ps with
 | nil=>rfl
 | cons p ps ih =>
  obtain ⟨a,x⟩:=p
  simp only [Ae]; rw [h x (by simp),ih (fun y hy=>h y (by simp only [List.map_cons,List.mem_cons]; exact .inr hy))]
theorem Qw {t u:TM} {p:AV} {l:List Nat} (h:∀d∈l,t d=u d):Ao t p l=Ao u p l:=by
 induction l with
 | nil=>rfl
 | cons d l ih=>simp only [Ao]; rw [h d (by simp),ih (fun y hy=>h y (by simp [hy]))]
section
variable {P:Program}
theorem MS {t u:TM} {H:Heap} {K:AV→Heap→Prop} {op:AOp} (h:∀i∈(Gb op).flatMap Ig,t i=u i) (hn:∀d∈Hf op,t d=u d):AR P t H K op=AR P u H K op:=by
 have hx:∀x∈Gb op,ev t x=ev u x:=fun x hx=>KI fun i hi=>h i (List.mem_flatMap.2 ⟨x,hx,hi⟩)
 cases op <;> simp only [Gb,List.mem_cons,List.not_mem_nil,or_false,forall_eq_or_imp,forall_eq,List.mem_append,Option.mem_toList,List.mem_map] at hx
 case mov x=>simp only [AR,hx]
 case pick a b c=>simp only [AR,hx]
 case alloc=>rfl
 case box=>simp only [AR,hx]
 case load=>simp only [AR,hx]
 case loadD=>simp only [AR,hx]
 case loadP g d c =>
  have h1:t d=u d:=hx.1
  have h2:t c=u c:=hx.2
  simp only [AR,h1,h2]
 case callS f xs l =>
  have h1:Ab t xs=Ab u xs:=IV fun x hx'=>hx x (.inl hx')
  have h2:∀d∈l,t d=u d:=fun d hd=>hx (.t d) (.inr ⟨d,hd,rfl⟩)
  have h3:∀H',Hy t H H' l=Hy u H H' l:=fun H'=>by
   unfold Hy
   exact propext ⟨fun k d hd=>by rw [←h2 d hd]; exact k d hd,fun k d hd=>by rw [h2 d hd]; exact k d hd⟩
  simp only [AR,h1,h3]
 case callvS g xs l =>
  have h1:Ab t xs=Ab u xs:=IV fun x hx'=>hx.2 x (.inl hx')
  have h2:∀d∈l,t d=u d:=fun d hd=>hx.2 (.t d) (.inr ⟨d,hd,rfl⟩)
  have h3:∀H',Hy t H H' l=Hy u H H' l:=fun H'=>by
   unfold Hy
   exact propext ⟨fun k d hd=>by rw [←h2 d hd]; exact k d hd,fun k d hd=>by rw [h2 d hd]; exact k d hd⟩
  simp only [AR,hx.1,h1,h3]
 case loadS g x l=>simp only [AR,hx]; rw [Qw (l:=l) hn]
 case store=>simp only [AR,hx]
 case storeS n d v =>
  have h1:t d=u d:=hx.1
  simp only [AR,h1,hx.2]
 case isNil=>simp only [AR,hx]
 case storeK n p v l =>
  have h2:∀d∈l,t d=u d:=fun d hd=>hx.2.2 (.t d) ⟨d,hd,rfl⟩
  simp only [AR,hx.1,hx.2.1]
  simp only [Qw (l:=l) h2]
 case bad=>rfl
 case bin=>simp only [AR,hx]
 case binb=>simp only [AR,hx]
 case eqAgg=>simp only [AR,hx]
 case un=>simp only [AR,hx]
 case conv=>simp only [AR,hx]
 case nilCheck=>simp only [AR,hx]
 case mkfn f xs=>simp only [AR]; rw [IV hx]
 case fieldAddr=>simp only [AR,hx]
 case field=>simp only [AR,hx]
 case elemAddr=>simp only [AR,hx]
 case arrAddr=>simp only [AR,hx]
 case idxArr=>simp only [AR,hx]
 case build z ps=>simp only [AR]; rw [AGi (fun x hx'=>hx x (by simpa using hx'))]
 case buildSlice a b c z ps=>simp only [AR]; rw [PB (fun x hx'=>hx x (by simpa using hx'))]
 case buildSliceD a b c z ps=>simp only [AR]; rw [PB (fun x hx'=>hx x (by simpa using hx'))]
 case make=>simp only [AR,hx]
 case extract=>simp only [AR,hx]
 case slice sz x lo hi =>
  have e1:AS t lo=AS u lo:=by cases lo with
   | none=>rfl
   | some y=>simp only [AS]; rw [hx.2 y (.inl rfl)]
  have e2:AS t hi=AS u hi:=by cases hi with
   | none=>rfl
   | some y=>simp only [AS]; rw [hx.2 y (.inr rfl)]
  simp only [AR,hx.1,e1,e2]
 case slice3 sz x lo hi mx =>
  have e1:AS t lo=AS u lo:=by cases lo with
   | none=>rfl
   | some y=>simp only [AS]; rw [hx.2 y (.inl (.inl rfl))]
  have e2:AS t hi=AS u hi:=by cases hi with
   | none=>rfl
   | some y=>simp only [AS]; rw [hx.2 y (.inl (.inr rfl))]
  have e3:AS t mx=AS u mx:=by cases mx with
   | none=>rfl
   | some y=>simp only [AS]; rw [hx.2 y (.inr rfl)]
  simp only [AR,hx.1,e1,e2,e3]
 case cap=>simp only [AR,hx]
 case clear=>simp only [AR,hx]
 case appendN=>simp only [AR,hx]
 case len=>simp only [AR,hx]
 case idxStr=>simp only [AR,hx]
 case strOf=>simp only [AR,hx]
 case strSlice x lo hi =>
  have e1:AS t lo=AS u lo:=by cases lo with
   | none=>rfl
   | some y=>simp only [AS]; rw [hx.2 y (.inl rfl)]
  have e2:AS t hi=AS u hi:=by cases hi with
   | none=>rfl
   | some y=>simp only [AS]; rw [hx.2 y (.inr rfl)]
  simp only [AR,hx.1,e1,e2]
 case slen=>simp only [AR,hx]
 case append=>simp only [AR,hx]
 case minmax m x xs=>simp only [AR,hx.1]; rw [IV hx.2]
 case call f xs=>simp only [AR]; rw [IV hx]
 case callv g xs=>simp only [AR,hx.1]; rw [IV hx.2]
 case pcall f xs=>simp only [AR]; rw [IV hx]
 case ncall f xs=>simp only [AR]; rw [IV hx]
 case storeR=>simp only [AR,hx]
 case pcallv g xs=>simp only [AR,hx.1]; rw [IV hx.2]
theorem AAS {op:BinOp} {x y:AV} {K K':AV→Prop} (hk:∀v,K v→K' v) (h:Fs op x y K):Fs op x y K':=by
 unfold Fs at *
 split at h
 ·cases op <;> exact ⟨h.1,hk _ h.2⟩
 ·cases op <;> first | exact ⟨h.1,hk _ h.2⟩ | exact hk _ h | exact h
 ·exact h
theorem N9 {g:Option Nat} {p:AV} {H:Heap} {K K':AV→Prop} (hk:∀v,K v→K' v) (h:FS g p H K):FS g p H K':=by
 unfold FS at *
 split at h
 ·split at h
  ·cases g <;> exact ⟨h.1,hk _ h.2⟩
  ·exact h
 ·split at h
  ·obtain ⟨h1,h2,el,h3,h4⟩:=h
   refine ⟨h1,h2,el,h3,?_⟩
   cases g <;> exact ⟨h4.1,hk _ h4.2⟩
  ·cases g <;> exact ⟨h.1,hk _ h.2⟩
  ·exact h
 ·cases g <;> exact ⟨h.1,hk _ h.2⟩
 ·exact h
theorem TR {H0 H:Heap} {v:AV} {K K':D→Heap→Prop} (hk:∀x H',K x H'→K' x H') (h:Ap H0 H v K):Ap H0 H v K':=by
 unfold Ap at *
 split at h
 ·exact hk _ _ h
 ·exact hk _ _ h
 ·split at h
  ·exact ⟨h.1,hk _ _ h.2⟩
  ·exact h
 ·exact h
theorem Oe {H0:Heap}:∀{l:List AV} {H:Heap} {K K':List D→Heap→Prop},(∀x H',K x H'→K' x H')→Aq H0 H l K→Aq H0 H l K'
 | [],_,_,_,hk,h=>hk _ _ h
 | _::_,_,_,_,hk,h=>TR (fun _ _ h=>Oe (fun _ _ h=>hk _ _ h) h) h
theorem Nq {l:List AV} {H:Heap} {K K':List D→Heap→Prop} (hk:∀x H',K x H'→K' x H') (h:Aj H l K):Aj H l K':=Oe hk h
theorem ZV {n:Nat} {p v:AV} {H:Heap} {K K':Heap→Prop} (hk:∀H',K H'→K' H') (h:JW n p v H K):JW n p v H K':=by
 unfold JW at *
 refine ⟨h.1,?_⟩
 have h:=h.2
 split at h
 ·split at h
  ·exact ⟨h.1,hk _ h.2⟩
  ·exact h
 ·split at h
  ·exact ⟨h.1,hk _ h.2⟩
  ·refine Nq (fun ds H' h=>?_) h
   split at h
   ·obtain ⟨h1,h2,el,h3,h4,h5⟩:=h
    exact ⟨h1,h2,el,h3,h4,hk _ h5⟩
   ·exact h
 ·exact h
theorem QB {H:Heap} {v:AV} {K K':Nat→List (List D)→Prop} (hk:∀n x,K n x→K' n x) (h:Fl H v K):Fl H v K':=by
 unfold Fl at *
 split at h
 ·exact hk _ _ h
 ·exact hk _ _ h
 ·split at h
  ·exact ⟨h.1,hk _ _ h.2⟩
  ·exact h
 ·split at h
  ·exact ⟨h.1,hk _ _ h.2⟩
  ·exact h
 ·exact h
theorem CallW.mono' {f:FuncId} {args:List AV} {H:Heap} {K K':AV→Heap→Prop} (h:CallW P f args H K) (hk:∀r H',K r H'→K' r H'):CallW P f args H K' :=
 fun F w vs hh hv=>(h F w vs hh hv).mono fun _ _ ⟨r,H',F',v,h1,h2,h3,h4,h5⟩=>⟨r,H',F',v,h1,h2,h3,h4,hk r H' h5⟩
theorem PCallK.mono {f:FuncId} {args:List AV} {H:Heap} {K K':AV→Prop} (hk:∀r,K r→K' r) (h:PCallK P f args H K):PCallK P f args H K':=by
 obtain ⟨a,r,h1,h2,h3,h4⟩:=h
 exact ⟨a,r,h1,h2,h3,hk _ h4⟩
theorem MN {t:TM} {H:Heap} {K K':AV→Heap→Prop} {op:AOp} (hk:∀v H',K v H'→K' v H') (h:AR P t H K op):AR P t H K' op:=by
 cases op <;> simp only [AR] at h ⊢
 case mov=>exact hk _ _ h
 case pick=>split at h <;> first | exact ⟨fun e=>hk _ _ (h.1 e),fun e=>hk _ _ (h.2 e)⟩ | exact h
 case alloc=>exact fun b hb=>hk _ _ (h b hb)
 case box=>exact ⟨h.1,fun b hb=>hk _ _ (h.2 b hb)⟩
 case load=>exact N9 (fun v h=>hk _ _ h) h
 case loadD =>
  split at h
  ·exact N9 (fun v h=>hk _ _ h) h
  ·exact h
 case loadS=>exact ⟨h.1,N9 (fun v h=>hk _ _ h) h.2⟩
 case store=>exact ZV (fun v h=>hk _ _ h) h
 case storeS =>
  split at h
  ·refine ⟨h.1,?_⟩
   have h:=h.2
   split at h
   ·exact ⟨h.1,hk _ _ h.2⟩
   ·exact h
  ·exact h
 case storeK =>
  split at h
  ·refine ⟨h.1,h.2.1,?_⟩
   have h:=h.2.2
   split at h
   ·exact ⟨h.1,hk _ _ h.2⟩
   ·exact h
  ·exact h
 case isNil =>
  split at h
  ·exact hk _ _ h
  ·exact hk _ _ h
  ·exact hk _ _ h
  ·exact ⟨hk _ _ h.1,fun e=>hk _ _ (h.2 e)⟩
  ·exact h
 case bin=>exact AAS (fun v h=>hk _ _ h) h
 case binb=>split at h <;> first | exact hk _ _ h | exact h
 case eqAgg =>
  split at h
  ·split at h <;> first | exact hk _ _ h | exact h
  ·exact h
 case un=>split at h <;> first | exact hk _ _ h | exact h
 case conv=>split at h <;> first | exact hk _ _ h | exact h
 case nilCheck=>split at h <;> first | exact hk _ _ h | exact h
 case mkfn=>exact hk _ _ h
 case fieldAddr=>split at h <;> first | exact hk _ _ h | exact h
 case field g x =>
  split at h
  ·cases g <;> exact ⟨h.1,hk _ _ h.2⟩
  ·exact h
 case elemAddr =>
  split at h
  ·obtain ⟨h1,h2,el,h3,h4⟩:=h
   exact ⟨h1,h2,el,h3,hk _ _ h4⟩
  ·exact ⟨h.1,hk _ _ h.2⟩
  ·exact ⟨h.1,hk _ _ h.2⟩
  ·exact h
 case arrAddr=>split at h <;> first | exact ⟨h.1,hk _ _ h.2⟩ | exact h
 case idxArr n sz g x i =>
  split at h
  ·refine ⟨h.1,?_⟩
   have h:=h.2
   cases g <;> exact ⟨h.1,hk _ _ h.2⟩
  ·exact h
 case build=>split at h <;> first | exact hk _ _ h | exact h
 case make =>
  split at h
  ·split at h
   ·exact ⟨h.1,fun b hb=>hk _ _ (h.2 b hb)⟩
   ·exact h
  ·exact h
 case buildSlice =>
  split at h
  ·exact Nq (fun ds H' h b hb=>hk _ _ (h b hb)) h
  ·exact h
 case buildSliceD=>exact ⟨h.1,fun b hb xs hx=>hk _ _ (h.2 b hb xs hx)⟩
 case extract=>split at h <;> first | exact ⟨h.1,hk _ _ h.2⟩ | exact h
 case slice =>
  unfold JD at *
  split at h
  ·split at h <;> first | exact ⟨h.1,hk _ _ h.2⟩ | exact h
  ·exact h
 case slice3 =>
  unfold KG at *
  split at h
  ·split at h <;> first | exact ⟨h.1,hk _ _ h.2⟩ | exact h
  ·exact h
 case cap=>split at h <;> first | exact hk _ _ h | exact h
 case clear =>
  unfold L8 at *
  split at h
  ·split at h
   ·exact ⟨h.1,hk _ _ h.2⟩
   ·exact h
  ·exact h
 case appendN =>
  unfold MH at *
  split at h
  ·exact ⟨h.1,fun b hb cap hc=>hk _ _ (h.2 b hb cap hc)⟩
  ·exact h
 case len=>split at h <;> first | exact hk _ _ h | exact h
 case idxStr=>split at h <;> first | exact ⟨h.1,hk _ _ h.2⟩ | exact h
 case slen=>split at h <;> first | exact hk _ _ h | exact h
 case strOf =>
  refine QB (fun n ys h=>?_) h
  split at h
  ·exact hk _ _ h
  ·exact h
 case strSlice =>
  split at h
  ·exact ⟨h.1,hk _ _ h.2⟩
  ·exact h
 case append =>
  refine QB (fun n ys h=>?_) h
  rcases h with ⟨h0,h1,h⟩ | h
  ·refine .inl ⟨h0,h1,?_⟩
   split at h
   ·exact hk _ _ h
   ·exact hk _ _ h
   ·exact h
  refine .inr ⟨h.1,?_⟩
  have h:=h.2
  split at h
  ·exact ⟨h.1,fun b hb cap=>hk _ _ (h.2 b hb cap)⟩
  ·split at h
   ·exact ⟨h.1,fun b' cap' hb=>hk _ _ (h.2 b' cap' hb)⟩
   ·exact h
  ·split at h
   ·exact ⟨h.1,fun b' cap' hb=>hk _ _ (h.2 b' cap' hb)⟩
   ·exact h
  ·exact h
 case minmax =>
  split at h
  ·split at h <;> first | exact hk _ _ h | exact h
  ·exact h
 case loadP=>split at h <;> first | exact ⟨h.1,N9 (fun v h=>hk _ _ h) h.2⟩ | exact h
 case callS=>exact CallW.mono' h (fun r H' h=>⟨h.1,hk _ _ h.2⟩)
 case callvS =>
  split at h
  ·exact CallW.mono' h (fun r H' h=>⟨h.1,hk _ _ h.2⟩)
  ·exact h
 case call=>exact CallW.mono' h hk
 case callv =>
  split at h
  ·exact CallW.mono' h hk
  ·intro F w vs hh hv
   obtain ⟨fn,tmps,asg,body,h1,h2⟩:=h F w vs hh hv
   exact ⟨fn,tmps,asg,body,h1,h2.mono fun e w' ⟨r,H',F',v,g1,g2,g3,g4,g5⟩=>⟨r,H',F',v,g1,g2,g3,g4,hk _ _ g5⟩⟩
  ·exact h
 case ncall =>
  obtain ⟨args',e,sz,xs,h1,h2,h3,h4⟩:=h
  exact ⟨args',e,sz,xs,h1,h2,fun e n=>hk _ _ (h3 e n),fun b cap hb=>hk _ _ (h4 b cap hb)⟩
 case storeR =>
  split at h
  ·split at h
   ·obtain ⟨h1,h2,el,h3,h4,h5⟩:=h
    exact ⟨h1,h2,el,h3,h4,hk _ _ h5⟩
   ·exact h
  ·exact h
 case pcall=>exact PCallK.mono (fun r h=>hk _ _ h) h
 case pcallv=>split at h <;> first | exact PCallK.mono (fun r h=>hk _ _ h) h | exact h
end
section
variable {P:Program}
theorem VU {t:TM} {H:Heap} {K:AV→Heap→Prop} {op:AOp} (hc:Ei op=0) (h:AR P t H K op):∃v,K v H∧∀H2 K2,K2 v H2→AR P t H2 K2 op:=by
 cases op <;> simp only [Ei] at hc <;> (try omega) <;> simp only [AR] at h ⊢
 case mov=>exact ⟨_,h,fun H2 K2 h2=>h2⟩
 case pick =>
  split at h
  ·next c e =>
   cases c
   ·exact ⟨_,h.2 rfl,fun H2 K2 h2=>⟨fun e=>(by cases e),fun _=>h2⟩⟩
   ·exact ⟨_,h.1 rfl,fun H2 K2 h2=>⟨fun _=>h2,fun e=>(by cases e)⟩⟩
  ·exact h.elim
 case bin op x y =>
  unfold Fs at h ⊢
  split at h
  ·cases op <;> exact ⟨_,h.2,fun H2 K2 h2=>⟨h.1,h2⟩⟩
  ·cases op <;> first | exact ⟨_,h.2,fun H2 K2 h2=>⟨h.1,h2⟩⟩ | exact ⟨_,h,fun H2 K2 h2=>h2⟩ | exact h.elim
  ·exact h.elim
 case binb=>split at h <;> first | exact ⟨_,h,fun H2 K2 h2=>h2⟩ | exact h.elim
 case eqAgg =>
  split at h
  ·split at h <;> first | exact ⟨_,h,fun H2 K2 h2=>h2⟩ | exact h.elim
  ·exact h.elim
 case un=>split at h <;> first | exact ⟨_,h,fun H2 K2 h2=>h2⟩ | exact h.elim
 case conv=>split at h <;> first | exact ⟨_,h,fun H2 K2 h2=>h2⟩ | exact h.elim
 case nilCheck=>split at h <;> first | exact ⟨_,h,fun H2 K2 h2=>h2⟩ | exact h.elim
 case loadD g p =>
  split at h
  ·unfold FS at *
   cases g <;> exact ⟨_,h.2,fun H2 K2 h2=>⟨h.1,h2⟩⟩
  ·exact h.elim
 case mkfn=>exact ⟨_,h,fun H2 K2 h2=>h2⟩
 case fieldAddr=>split at h <;> first | exact ⟨_,h,fun H2 K2 h2=>h2⟩ | exact h.elim
 case field off g x =>
  split at h
  ·cases g <;> exact ⟨_,h.2,fun H2 K2 h2=>⟨h.1,h2⟩⟩
  ·exact h.elim
 case elemAddr =>
  split at h
  ·obtain ⟨h1,h2,el,h3,h4⟩:=h
   exact ⟨_,h4,fun H2 K2 h5=>⟨h1,h2,el,h3,h5⟩⟩
  ·exact ⟨_,h.2,fun H2 K2 h2=>⟨h.1,h2⟩⟩
  ·exact ⟨_,h.2,fun H2 K2 h2=>⟨h.1,h2⟩⟩
  ·exact h.elim
 case arrAddr=>split at h <;> first | exact ⟨_,h.2,fun H2 K2 h2=>⟨h.1,h2⟩⟩ | exact h.elim
 case idxArr n sz g x i =>
  split at h
  ·obtain ⟨h0,h⟩:=h
   cases g <;> exact ⟨_,h.2,fun H2 K2 h2=>⟨h0,h.1,h2⟩⟩
  ·exact h.elim
 case build=>split at h <;> first | exact ⟨_,h,fun H2 K2 h2=>h2⟩ | exact h.elim
 case extract=>split at h <;> first | exact ⟨_,h.2,fun H2 K2 h2=>⟨h.1,h2⟩⟩ | exact h.elim
 case slice =>
  unfold JD at *
  split at h
  ·split at h <;> first | exact ⟨_,h.2,fun H2 K2 h2=>⟨h.1,h2⟩⟩ | exact h.elim
  ·exact h.elim
 case slice3 =>
  unfold KG at *
  split at h
  ·split at h <;> first | exact ⟨_,h.2,fun H2 K2 h2=>⟨h.1,h2⟩⟩ | exact h.elim
  ·exact h.elim
 case cap=>split at h <;> first | exact ⟨_,h,fun H2 K2 h2=>h2⟩ | exact h.elim
 case len=>split at h <;> first | exact ⟨_,h,fun H2 K2 h2=>h2⟩ | exact h.elim
 case idxStr=>split at h <;> first | exact ⟨_,h.2,fun H2 K2 h2=>⟨h.1,h2⟩⟩ | exact h.elim
 case strSlice=>split at h <;> first | exact ⟨_,h.2,fun H2 K2 h2=>⟨h.1,h2⟩⟩ | exact h.elim
 case slen=>split at h <;> first | exact ⟨_,h,fun H2 K2 h2=>h2⟩ | exact h.elim
 case minmax =>
  split at h
  ·split at h <;> first | exact ⟨_,h,fun H2 K2 h2=>h2⟩ | exact h.elim
  ·exact h.elim
def reads (p:AV):Option Nat:=match p with | .ptr b _=>some b | .eptr b _ _ _=>some b | _=>none
theorem P8 {g:Option Nat} {p:AV} {H:Heap} {K:AV→Prop} (h:FS g p H K):∃v,K v∧(∀k,reads p=some k→H k≠none)∧∀(H2:Heap) (K2:AV→Prop),(∀k,reads p=some k→H2 k=H k)→K2 v→FS g p H2 K2:=by
 unfold FS at h
 split at h
 ·next b off =>
  split at h
  ·next t cells e =>
   cases g with
   | none=>exact ⟨_,h.2,fun k hk=>(by cases hk; rw [e]; simp),fun H2 K2 hk h2=>by unfold FS; dsimp only; rw [hk b rfl,e]; exact ⟨h.1,h2⟩⟩
   | some n=>exact ⟨_,h.2,fun k hk=>(by cases hk; rw [e]; simp),fun H2 K2 hk h2=>by unfold FS; dsimp only; rw [hk b rfl,e]; exact ⟨h.1,h2⟩⟩
  ·exact h.elim
 ·next b sz i j =>
  split at h
  ·next t sz' cap xs e =>
   obtain ⟨h1,h2,el,h3,h4⟩:=h
   cases g with
   | none=>exact ⟨_,h4.2,fun k hk=>(by cases hk; rw [e]; simp),fun H2 K2 hk h5=>by unfold FS; dsimp only; rw [hk b rfl,e]; exact ⟨h1,h2,el,h3,h4.1,h5⟩⟩
   | some n=>exact ⟨_,h4.2,fun k hk=>(by cases hk; rw [e]; simp),fun H2 K2 hk h5=>by unfold FS; dsimp only; rw [hk b rfl,e]; exact ⟨h1,h2,el,h3,h4.1,h5⟩⟩
  ·next t cells e =>
   cases g with
   | none=>exact ⟨_,h.2,fun k hk=>(by cases hk; rw [e]; simp),fun H2 K2 hk h2=>by unfold FS; dsimp only; rw [hk b rfl,e]; exact ⟨h.1,h2⟩⟩
   | some n=>exact ⟨_,h.2,fun k hk=>(by cases hk; rw [e]; simp),fun H2 K2 hk h2=>by unfold FS; dsimp only; rw [hk b rfl,e]; exact ⟨h.1,h2⟩⟩
  ·exact h.elim
 ·cases g with
  | none=>exact ⟨_,h.2,fun k hk=>(by cases hk),fun H2 K2 _ h2=>⟨h.1,h2⟩⟩
  | some n=>exact ⟨_,h.2,fun k hk=>(by cases hk),fun H2 K2 _ h2=>⟨h.1,h2⟩⟩
 ·exact h.elim
theorem Pe {t:TM} {p:AV} {l:List Nat}:Ao t p l↔∀d∈l,∀b off k,t d = .ptr b off→reads p=some k→¬b=k:=by
 induction l with
 | nil=>simp [Ao]
 | cons d l ih =>
  simp only [Ao,ih,List.mem_cons,forall_eq_or_imp]
  refine and_congr ⟨fun h b off k e1 e2=>?_,fun h=>?_⟩ Iff.rfl
  ·rw [e1] at h
   cases p <;> simp only [reads,reduceCtorEq,Option.some.injEq] at e2
   ·subst e2; exact h
   ·subst e2; exact h
  ·split
   ·next e1=>exact h _ _ _ e1 rfl
   ·next e1=>exact h _ _ _ e1 rfl
   ·trivial
theorem LendV.rows {H H2:Heap} (hr:∀k t sz cap xs,H k=some (.row t sz cap xs)→H2 k=some (.row t sz cap xs)) {x y:AV} (h:LendV H x y):LendV H2 x y:=by
 induction h with
 | refl v=>exact .refl v
 | nilsl a b=>exact .nilsl a b
 | own b sz cap t cap' xs h=>exact .own b sz cap t cap' xs (hr _ _ _ _ _ h)
 | agg xs ys hl _ ih=>exact .agg xs ys hl ih
 | tup xs ys hl _ ih=>exact .tup xs ys hl ih
theorem PCallK.rows {f:FuncId} {args:List AV} {H:Heap} {K:AV→Prop} (h:PCallK P f args H K):∃v,K v∧∀(H2:Heap) (K2:AV→Prop),(∀k t sz cap xs,H k=some (.row t sz cap xs)→H2 k=some (.row t sz cap xs))→K2 v→PCallK P f args H2 K2:=by
 obtain ⟨a,r,h1,h2,h3,h4⟩:=h
 exact ⟨r,h4,fun H2 K2 hr hk=>⟨a,r,⟨h1.1,fun j x y e1 e2=>(h1.2 j x y e1 e2).rows hr⟩,h2,h3,hk⟩⟩
def Re (op:AOp) (t:TM) (H:Heap) (t2:TM) (H2:Heap):Prop :=
 (∀i∈(Gb op).flatMap Ig,t2 i=t i) ∧
 match op with
 | .load ..=>∀k x,H k=some x→H2 k=some x
 | .loadS _ _ l=>(∀d∈l,t2 d=t d∨(∃b off,t2 d = .ptr b off∧H b=none)∨t2 d = .void)∧∀k x,H k=some x→H2 k=some x∨∃d∈l,∃off,t d = .ptr k off
 | .loadP _ _ c=>∀k off,t c = .ptr k off→∀e cells,H k=some (.box e cells)→H2 k=some (.box e cells)
 | .pcall .. | .pcallv ..=>∀k t sz cap xs,H k=some (.row t sz cap xs)→H2 k=some (.row t sz cap xs)
 | _=>True
theorem S3 {t:TM} {H:Heap} {K:AV→Heap→Prop} {op:AOp} (hc:Ei op≤1) (h:AR P t H K op):∃v,K v H∧∀t2 H2 K2,Re op t H t2 H2→K2 v H2→AR P t2 H2 K2 op:=by
 by_cases h0:Ei op=0
 ·obtain ⟨v,h1,h2⟩:=VU h0 h
  refine ⟨v,h1,fun t2 H2 K2 hr hk=>?_⟩
  rw [MS (u:=t) (fun i hi=>hr.1 i hi) (fun d hd=>by cases op <;> simp_all [Hf,Ei])]
  exact h2 H2 K2 hk
 ·cases op <;> (try exact absurd rfl h0) <;> (try (simp only [Ei] at hc; omega))
  case load g p =>
   obtain ⟨v,h1,h2,h3⟩:=P8 (K:=fun v=>K v H) h
   refine ⟨v,h1,fun t2 H2 K2 hr hk=>?_⟩
   have e:ev t2 p=ev t p:=KI fun i hi=>hr.1 i (by simpa [Gb] using hi)
   simp only [AR,e]
   refine h3 H2 _ (fun k hk=>?_) hk
   cases hx:H k with
   | none=>exact absurd hx (h2 k hk)
   | some x=>rw [hr.2 k x hx]
  case loadS g p l =>
   obtain ⟨hn,h⟩:=h
   obtain ⟨v,h1,h2,h3⟩:=P8 (K:=fun v=>K v H) h
   refine ⟨v,h1,fun t2 H2 K2 hr hk=>?_⟩
   have e:ev t2 p=ev t p:=KI fun i hi=>hr.1 i (by simpa [Gb] using hi)
   rw [Pe] at hn
   simp only [AR,e]
   refine ⟨Pe.2 fun d hd b off k e1 e2=>?_,h3 H2 _ (fun k hk=>?_) hk⟩
   ·rcases hr.2.1 d hd with e3 | ⟨b',off',e3,e4⟩ | e3
    ·exact hn d hd b off k (e3▸e1) e2
    ·rw [e1] at e3; cases e3
     rintro rfl
     exact h2 _ e2 e4
    ·rw [e1] at e3; cases e3
   ·cases hx:H k with
    | none=>exact absurd hx (h2 k hk)
    | some x =>
     rcases hr.2.2 k x hx with e3 | ⟨d,hd,off,e3⟩
     ·rw [e3]
     ·exact absurd rfl (hn d hd k off k e3 hk)
  case loadP g d c =>
   simp only [AR] at h
   split at h
   ·next b off b' off' e0 e0' =>
    obtain ⟨rfl,h⟩:=h
    have hb:∃e cells,H b=some (.box e cells):=by
     cases hH:H b with
     | none=>simp [FS,hH] at h
     | some x =>
      cases x with
      | box e cells=>exact ⟨e,cells,rfl⟩
      | row=>simp [FS,hH] at h
      | obj=>simp [FS,hH] at h
    obtain ⟨e,cells,hb⟩:=hb
    obtain ⟨v,h1,h2,h3⟩:=P8 (K:=fun v=>K v H) h
    refine ⟨v,h1,fun t2 H2 K2 hr hk=>?_⟩
    have e2:t2 d = .ptr b off:=by rw [hr.1 d (by simp [Gb,Ig])]; exact e0
    have e3:t2 c = .ptr b off':=by rw [hr.1 c (by simp [Gb,Ig])]; exact e0'
    simp only [AR,e2,e3]
    refine ⟨by trivial,h3 H2 _ (fun k hk=>?_) hk⟩
    simp only [reads,Option.some.injEq] at hk
    subst hk
    rw [hb,hr.2 b off' e0' e cells hb]
   ·exact h.elim
  case pcall f xs =>
   obtain ⟨v,h1,h2⟩:=PCallK.rows (K:=fun v=>K v H) h
   refine ⟨v,h1,fun t2 H2 K2 hr hk=>?_⟩
   have e:Ab t2 xs=Ab t xs:=IV fun x hx=>KI fun i hi=>hr.1 i (List.mem_flatMap.2 ⟨x,by simpa [Gb] using hx,hi⟩)
   simp only [AR,e]
   exact h2 H2 _ hr.2 hk
  case pcallv g xs =>
   simp only [AR] at h
   split at h
   ·next f caps e0 =>
    obtain ⟨v,h1,h2⟩:=PCallK.rows (K:=fun v=>K v H) h
    refine ⟨v,h1,fun t2 H2 K2 hr hk=>?_⟩
    have e:Ab t2 xs=Ab t xs:=IV fun x hx=>KI fun i hi=>hr.1 i (List.mem_flatMap.2 ⟨x,by simp [Gb,hx],hi⟩)
    have e':ev t2 g=ev t g:=KI fun i hi=>hr.1 i (List.mem_flatMap.2 ⟨g,by simp [Gb],hi⟩)
    simp only [AR,e,e',e0]
    exact h2 H2 _ hr.2 hk
   ·exact h.elim
theorem APV {t:TM} {H:Heap} {K:AV→Heap→Prop} {op:AOp} (hc:Ei op=2) (hn:∀e sz len z ps,op≠.buildSliceD e sz len z ps) (h:AR P t H K op) :
  ∃(x:Blk) (mk:Nat→AV),(∀b,H b=none→K (mk b) (AI H b (some x)))∧(∀H2 K2,(∀b,H2 b=none→K2 (mk b) (AI H2 b (some x)))→AR P t H2 K2 op)∧((∃e z,op = .alloc e z)→∀b,mk b = .ptr b 0):=by
 cases op <;> simp only [Ei] at hc <;> (try omega)
 case alloc e z=>exact ⟨_,fun b=>.ptr b 0,h,fun H2 K2 h2=>h2,fun _ b=>rfl⟩
 case box e x=>exact ⟨_,fun b=>.ptr b 0,h.2,fun H2 K2 h2=>⟨h.1,h2⟩,fun _ b=>rfl⟩
 case buildSliceD e sz len z ps=>exact absurd rfl (hn _ _ _ _ _)
theorem AMO {t:TM} {H:Heap} {K:AV→Heap→Prop} {op:AOp} (hc:Ei op=2) (h:AR P t H K op) :
  AR P t H (fun v H'=>(∃nb x,H nb=none∧H'=AI H nb (some x)∧((∃e z,op = .alloc e z)→v = .ptr nb 0))∧K v H') op:=by
 cases op <;> simp only [Ei] at hc <;> (try omega)
 case alloc e z=>exact fun b hb=>⟨⟨b,_,hb,rfl,fun _=>rfl⟩,h b hb⟩
 case box e x=>exact ⟨h.1,fun b hb=>⟨⟨b,_,hb,rfl,fun _=>rfl⟩,h.2 b hb⟩⟩
 case buildSliceD e sz len z ps=>exact ⟨h.1,fun b hb xs hx=>⟨⟨b,_,hb,rfl,fun ⟨_,_,e⟩=>by cases e⟩,h.2 b hb xs hx⟩⟩
def KK (op:AOp):Prop:=(∃e z,op = .alloc e z)∨∃e sz len z ps,op = .buildSliceD e sz len z ps
def Hv (t:TM):AOp→Option (Nat→AV×Blk)
 | .alloc e z=>some fun b=>(.ptr b 0,.box e z)
 | .buildSliceD e sz len z ps=>match IN sz len (Ah (Ai z len) (Ae t sz ps)) with
  | some xs=>some fun b=>(.own b sz 0 len len,.row e sz len xs)
  | none=>none
 | _=>none
theorem P5 {t:TM} {H:Heap} {K:AV→Heap→Prop} {op:AOp} (hb:KK op):AR P t H K op↔(H9 H→(Hv t op).isSome=true)∧∀b,H b=none→∀f,Hv t op=some f→K (f b).1 (AI H b (some (f b).2)):=by
 rcases hb with ⟨e,z,rfl⟩ | ⟨e,sz,len,z,ps,rfl⟩
 ·exact ⟨fun h=>⟨fun _=>rfl,fun b hb f hf=>by cases hf; exact h b hb⟩,fun h b hb=>h.2 b hb _ rfl⟩
 ·simp only [AR,Hv]
  cases IN sz len (Ah (Ai z len) (Ae t sz ps)) with
  | none=>exact ⟨fun h=>⟨h.1,fun b hb f hf=>by cases hf⟩,fun h=>⟨h.1,fun b hb f hf=>by cases hf⟩⟩
  | some xs=>exact ⟨fun h=>⟨fun _=>rfl,fun b hb f hf=>by cases hf; exact h.2 b hb _ rfl⟩,fun h=>⟨fun _=>rfl,fun b hb f hf=>by cases hf; exact h.2 b hb _ rfl⟩⟩
theorem Oc {t u:TM} {op:AOp} (h:∀i∈(Gb op).flatMap Ig,t i=u i):Hv t op=Hv u op:=by
 cases op <;> try rfl
 case buildSliceD a b c z ps =>
  have hx:∀x∈Gb (.buildSliceD a b c z ps),ev t x=ev u x:=fun x hx=>KI fun i hi=>h i (List.mem_flatMap.2 ⟨x,hx,hi⟩)
  simp only [Hv]
  rw [PB (fun x hx'=>hx x (by simpa [Gb] using hx'))]
theorem KP {H:Heap} {b:Nat} {x:Option Blk}:H9 (AI H b x)↔H9 H:=by
 constructor
 ·intro h n
  obtain ⟨k,hk,hn⟩:=h (max n (b+1))
  rw [AL,if_neg (by omega)] at hn
  exact ⟨k,by omega,hn⟩
 ·intro h n
  obtain ⟨k,hk,hn⟩:=h (max n (b+1))
  exact ⟨k,by omega,by rw [AL,if_neg (by omega)]; exact hn⟩
theorem AHX {t:TM} {H:Heap} {K:AV→Heap→Prop} {e:TypeId} {sz bytes:Nat} {z:List AV} {sx x:Opd} (hf:H9 H) (h:AR P t H K (.append e sz bytes z sx x)):∃v H',K v H'∧H9 H':=by
 simp only [AR] at h
 have main:∀n ys,((ys=[]∧z.length=sz∧match ev t sx with
   | .nilsl n=>K (.nilsl n) H
   | .own b n off len cap=>K (.own b n off len cap) H
   | _=>False)∨VC (n=sz∧ys≠[]∧z.length=sz) (
   match ev t sx with
   | .nilsl _=>VC (ys.length*bytes≤140737488355328∧ys.length≤maxLen) (HQ H (.row e sz 0 []) fun b _=>∀cap,K (.own b sz 0 ys.length cap) (AI H b (some (.row e sz cap ys))))
   | .own b sz'' off len cap=>match H b with
    | some (.row e' sz''' cap'' xs)=>VC (e'=e∧sz''=sz∧sz'''=sz∧off=0∧cap=cap''∧len=xs.length∧(xs.length+ys.length)*bytes≤140737488355328∧xs.length+ys.length≤maxLen)
      (IR H b fun b' cap'=>K (.own b' sz 0 (len+ys.length) cap') (AI (AI H b none) b' (some (.row e sz cap' (xs++ys)))))
    | _=>False
   | .part b sz'' off len cap=>match H b with
    | some (.row e' sz''' cap'' xs)=>VC (e'=e∧sz''=sz∧sz'''=sz∧off=0∧(cap=0→len=0)∧cap<len+ys.length∧len≤xs.length∧(len+ys.length)*bytes≤140737488355328∧len+ys.length≤maxLen)
      (IR H b fun b' cap'=>K (.own b' sz 0 (len+ys.length) cap') (AI (AI H b none) b' (some (.row e sz cap' (xs.take len++ys)))))
    | _=>False
   | _=>False))→∃v H',K v H'∧H9 H':=by
  intro n ys h
  rcases h with ⟨g0,g1,h⟩ | h
  ·split at h
   ·exact ⟨_,_,h,hf⟩
   ·exact ⟨_,_,h,hf⟩
   ·exact h.elim
  ·have h:=h.2
   split at h
   ·obtain ⟨b,_,hb⟩:=hf 0
    exact ⟨_,_,h.2 b hb 0,KP.2 hf⟩
   ·next b n' off len cap es =>
    split at h
    ·exact ⟨_,_,h.2 b 0 (by rw [AL,if_pos rfl]),KP.2 (KP.2 hf)⟩
    ·exact h.elim
   ·next b n' off len cap es =>
    split at h
    ·exact ⟨_,_,h.2 b 0 (by rw [AL,if_pos rfl]),KP.2 (KP.2 hf)⟩
    ·exact h.elim
   ·exact h.elim
 unfold Fl at h
 split at h
 ·exact main _ _ h
 ·exact main _ _ h
 ·split at h
  ·exact main _ _ h.2
  ·exact h.elim
 ·split at h
  ·exact main _ _ h.2
  ·exact h.elim
 ·exact h.elim
end
end Go.Proofs.Ytlflfciebidddaa.Abs
