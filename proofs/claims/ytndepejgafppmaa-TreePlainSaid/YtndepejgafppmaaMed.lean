/- Contracts of the machine and the contracts of one law (joined by kmerge.py). No claim stands here. -/
import Derived.Below
import Derived.Carry
import Derived.ChangeCalls
import Derived.ChangeOld
import Derived.IntWalk
import Derived.KernelRfl
import Derived.Laws.Append
import Derived.Laws.AppendOwn
import Derived.Laws.BytesArg
import Derived.Laws.Cells
import Derived.Laws.CopyRow
import Derived.Laws.Entries
import Derived.Laws.MakeOwn
import Derived.Laws.NewFold
import Derived.Laws.Rows
import Derived.Laws.StructEq
import Derived.OpenShut
import Derived.Orders
import Derived.OrdersIn
import Derived.ProofKit
import Derived.RangeFuncLeaves
import Derived.RangeFuncSeq
import Derived.SizedLaws
import Derived.TacticsIn
import Derived.WalkKit
import Derived.Test.YtndepejgafppmaaMec
set_option maxRecDepth 100000
set_option linter.unusedSimpArgs false
set_option linter.unusedVariables false
namespace Go.Proofs.Ytndepejgafppmaa.Abs
open Go Go.RowKit Go.Proofs
attribute [local go_sem] CN A5 Bq B1 Bh A1 DG Cq Bi BU BG Ci CS A8 Dg Dp Ax A0 C5 Cd Ck Cb BC BP Bv Bo Bk Cn Ds CX Di BE Cu Dz CY Cy Bn D0 Cs A4 CA DN CG CE DA Dk Dh Bp DM CQ CZ Ch Ca DT Dd Ct BZ Bx C9 Dy B3 D1 Cz DU CT CL BM Bw Dc C3 Br As Ba BV Au A9 Be Ak C6 Bj CB BH A7 By CW B2 BB Da C4 C2 BQ Cp BI A6 CC Az DH C0 BK BF Cx B6 Dx BA Dv Ar A3 Aq Ag BD BY Bz AD ev AR AP Ab An AU Cr Do C8 DL AX AZ DC CV DE BO Bu DJ DR Dl Bm BL CD Du BS DY Cw B5 DX DZ DK DB Bf DO Dq AM setSeg nth seg mapD Aa Ai AK Aj Dw B7 Am DI cond_true cond_false C7 Aw Av Ap Ay Bs Bc List.cons_append List.nil_append Bool.not_true Bool.not_false Bool.and_true Bool.and_self Nat.lt_add_left_iff_pos Nat.zero_add Nat.add_zero List.drop_succ_cons List.drop_zero List.take_succ_cons List.take_zero beq_self_eq_true Bool.false_eq_true DV CM Bd CF Dt BJ C1 BT Cm Ad and_self and_true true_and A2 B0 DD Bt Bl B9 CK CH CP B8 De CJ Df D2 BN Cg Co CO Ac Af Ah AY CR DF Cc Cv Db Dr Cj DS Dm B4 BW List.length_cons List.length_nil Nat.min_def Int.cast_ofNat_Int Int.natCast_zero Int.natCast_one decide_true decide_false List.getElem?_cons_zero List.getElem?_cons_succ CI Dj Ce Cl BX DP DW DQ Cf CU Bb Bg
theorem RR {a b:Int} (h:a=b):i64 a=i64 b:=by rw [h]
def LenP (x:Int) (n:Nat):Prop:=0≤x∧x<2 ^ n∧(x=0∧n=0∨0<n∧2 ^ (n-1)≤x)
theorem TV (n:Nat):(0:Int)<2 ^ n:=Int.pow_pos (by omega)
theorem LenP.shift {x:Int} {k n:Nat} (h0:0≤x) (h1:2 ^ k≤x) (h:LenP (x / 2 ^ k) n):LenP x (k+n):=by
 obtain ⟨a0,a1,a2⟩:=h
 have hk:=TV k
 have e1:x<2 ^ (k+n):=by
  rw [Int.ediv_lt_iff_lt_mul hk] at a1
  rw [Int.pow_add,Int.mul_comm]; exact a1
 have h2:1≤x / 2 ^ k:=by rw [Int.le_ediv_iff_mul_le hk]; omega
 refine ⟨h0,e1,.inr ?_⟩
 rcases a2 with ⟨a2,_⟩ | ⟨a2,a3⟩
 ·omega
 ·refine ⟨by omega,?_⟩
  rw [Int.le_ediv_iff_mul_le hk] at a3
  have:k+n-1=k+(n-1):=by omega
  rw [this,Int.pow_add,Int.mul_comm]; exact a3
def JV (m q r c:Int):Prop:=m=1∧0<r∨m=2∧c≤2*r∨m=3∧(c<2*r∨c=2*r∧q % 2=1)
instance (m q r c:Int):Decidable (JV m q r c):=by unfold JV; exact inferInstance
def Jl (p c m:Int):Int:=p / c+if JV m (p / c) (p % c) c then 1 else 0
def MV (m:Int) (neg:Bool) (q r c:Int):Prop:=r≠0∧(m=0∧neg=true∨m=1∧neg=false∨m=2∧(r > c-r∨r=c-r∧neg=false)∨m=3∧(r > c-r∨r=c-r∧q % 2=1))
instance (m:Int) (neg:Bool) (q r c:Int):Decidable (MV m neg q r c):=by unfold MV; exact inferInstance
structure Adj where
 k:Int
 n:Int
 m:Int
def Adj.el (a:Adj):List D:=[.int .i64 a.k,.int .i64 a.n,.int .i64 a.m]
def E1 (l:List Adj):List (List D):=l.map Adj.el
theorem GL {l:List Adj}:(E1 l).length=l.length:=List.length_map ..
theorem SI {l:List Adj} {i:Nat} (h:i<l.length):(E1 l)[((i:Int)).toNat]? = some (Adj.el l[i]):=by
 rw [Int.toNat_natCast]; simp [E1,h]
def Adj.Fit (a:Adj):Prop:=Abs.Fit a.k∧Abs.Fit a.n∧Abs.Fit a.m
def Mo (n:Int):Option Int:=if Fit n then some n else none
def K0 (p c m:Int):Option Int:=if 0<c∧0≤m∧m≤3 then Mo (Jl p c m) else none
theorem Pa {n:Nat} {l:List D} (h:EL Try.prog (n+2) 60 l):∃a:Adj,a.Fit∧l=a.el:=by
 obtain ⟨ls,rfl,h1,_⟩:=Gd (fs:=#[⟨"Kind",3,0,false,"","",0⟩,⟨"N",3,1,false,"","",8⟩,⟨"Mode",3,2,false,"","",16⟩]) h (by kernel_rfl)
 obtain ⟨l0,r0,rfl,t0,h1⟩:=typedL_cons h1
 obtain ⟨l1,r1,rfl,t1,h1⟩:=typedL_cons h1
 obtain ⟨l2,r2,rfl,t2,h1⟩:=typedL_cons h1
 obtain rfl:=typedL_nil h1
 obtain ⟨z0,rfl,f0,_⟩:=typed_int t0 (by kernel_rfl)
 obtain ⟨z1,rfl,f1,_⟩:=typed_int t1 (by kernel_rfl)
 obtain ⟨z2,rfl,f2,_⟩:=typed_int t2 (by kernel_rfl)
 exact ⟨⟨z0,z1,z2⟩,⟨f0,f1,f2⟩,rfl⟩
structure Tier where
 u:Int
 r:Int
def Tier.el (a:Tier):List D:=[.int .i64 a.u,.int .i64 a.r]
def Ed (l:List Tier):List (List D):=l.map Tier.el
theorem GI {l:List Tier}:(Ed l).length=l.length:=List.length_map ..
theorem Vp {l:List Tier} {i:Nat} (h:i<l.length):(Ed l)[((i:Int)).toNat]? = some [.int .i64 l[i].u,.int .i64 l[i].r]:=by
 rw [Int.toNat_natCast]; simp [Ed,h,Tier.el]
theorem PJ {l:List Adj} {i:Nat} (h:i<l.length):(E1 l)[((i:Int)).toNat]? = some [.int .i64 l[i].k,.int .i64 l[i].n,.int .i64 l[i].m]:=SI h
def Tier.Fit (a:Tier):Prop:=Abs.Fit a.u∧Abs.Fit a.r
structure PartX where
 me:Int
 f:Int
 t:Int
 al:Int
 bl:Int
 ki:Int
 ts:List Tier
 mo:Int
 ad:List Adj
abbrev PartX.el (x:PartX):List D:=[.int .i64 x.me,.int .i64 x.f,.int .i64 x.t,.int .i64 x.al,.int .i64 x.bl,.int .i64 x.ki,.sl 2 (Ed x.ts),.int .i64 x.mo,.sl 3 (E1 x.ad)]
structure PartX.Fit (x:PartX):Prop where
 me:Abs.Fit x.me
 f:Abs.Fit x.f
 t:Abs.Fit x.t
 al:Abs.Fit x.al
 bl:Abs.Fit x.bl
 ki:Abs.Fit x.ki
 ts:∀a∈x.ts,Tier.Fit a
 tn:x.ts.length≤9223372036854775807
 mo:Abs.Fit x.mo
 ad:∀a∈x.ad,Adj.Fit a
 an:x.ad.length≤9223372036854775807
theorem Lh {α:Type} {g : α→List D} {F : α→Prop} {n:Nat} {e:TypeId} (hh:∀l,EL Try.prog n e l→∃a,F a∧l=g a):∀{xs:List (List D)},(∀el∈xs,EL Try.prog n e el)→∃zs:List α,xs=zs.map g∧∀a∈zs,F a
 | [],_=>⟨[],rfl,fun a h=>by cases h⟩
 | x::xs,h2=>by
  obtain ⟨a,ha,rfl⟩:=hh x (h2 x (List.mem_cons_self ..))
  obtain ⟨zs,rfl,hz⟩:=Lh hh (fun el h'=>h2 el (List.mem_cons_of_mem _ h'))
  refine ⟨a::zs,rfl,fun b hb=>?_⟩
  rcases List.mem_cons.1 hb with rfl | hb
  ·exact ha
  ·exact hz b hb
theorem Nv {n:Nat} {l:List D} (h:EL Try.prog (n+2) 58 l):∃a:Tier,a.Fit∧l=a.el:=by
 obtain ⟨ls,rfl,h1,_⟩:=Gd (fs:=#[⟨"Upto",3,0,false,"","",0⟩,⟨"Rate",3,1,false,"","",8⟩]) h (by kernel_rfl)
 obtain ⟨l0,r0,rfl,t0,h1⟩:=typedL_cons h1
 obtain ⟨l1,r1,rfl,t1,h1⟩:=typedL_cons h1
 obtain rfl:=typedL_nil h1
 obtain ⟨z0,rfl,f0,_⟩:=typed_int t0 (by kernel_rfl)
 obtain ⟨z1,rfl,f1,_⟩:=typed_int t1 (by kernel_rfl)
 exact ⟨⟨z0,z1⟩,⟨f0,f1⟩,rfl⟩
theorem II {α:Type} {g : α→List D} {F : α→Prop} {n k:Nat} {t e:TypeId} {l:List D} (hh:∀l,EL Try.prog n e l→∃a,F a∧l=g a) (ht:Try.prog.underlying t=some (.slice e)) (hc:Try.prog.cellsOf e=k) (h:EL Try.prog (n+1) t l) :
  ∃zs:List α,l=[.sl k (zs.map g)]∧(∀a∈zs,F a)∧zs.length≤9223372036854775807:=by
 obtain ⟨xs,rfl,h1,h2,_⟩:=Mh h ht
 obtain ⟨zs,rfl,hz⟩:=Lh hh h2
 exact ⟨zs,by rw [hc],hz,by rw [List.length_map] at h1; exact h1⟩
structure MeterX where
 nm:ByteArray
 un:ByteArray
 mx:Int
 ln:Int
 co:Int
def MeterX.el (a:MeterX):List D:=[.str a.nm,.str a.un,.int .i64 a.mx,.int .i64 a.ln,.int .i64 a.co]
def D7 (l:List MeterX):List (List D):=l.map MeterX.el
theorem FM {l:List MeterX}:(D7 l).length=l.length:=List.length_map ..
theorem Kf {l:List MeterX} {i:Nat} (h:i<l.length):(D7 l)[((i:Int)).toNat]? = some [.str l[i].nm,.str l[i].un,.int .i64 l[i].mx,.int .i64 l[i].ln,.int .i64 l[i].co]:=by
 rw [Int.toNat_natCast]; simp [D7,h,MeterX.el]
def MeterX.Fit (a:MeterX):Prop:=Abs.Fit a.mx∧Abs.Fit a.ln∧Abs.Fit a.co
structure SumX where
 a:Int
 f:Int
 t:Int
def SumX.el (a:SumX):List D:=[.int .i64 a.a,.int .i64 a.f,.int .i64 a.t]
def SumX.Fit (a:SumX):Prop:=Abs.Fit a.a∧Abs.Fit a.f∧Abs.Fit a.t
structure CoreX where
 cur:ByteArray
 f:Int
 t:Int
 ms:List MeterX
 ss:List SumX
 ps:List PartX
structure CoreX.Fit (c:CoreX):Prop where
 f:Abs.Fit c.f
 t:Abs.Fit c.t
 ms:∀a∈c.ms,a.Fit
 mn:c.ms.length≤9223372036854775807
 ss:∀a∈c.ss,a.Fit
 sn:c.ss.length≤9223372036854775807
 ps:∀a∈c.ps,a.Fit
 pn:c.ps.length≤9223372036854775807
theorem IE {n:Nat} {t:TypeId} {l:List D} (h:EL Try.prog (n+1) t l) (ht:Try.prog.underlying t=some .string):∃s,l=[.str s]:=by
 rw [EL,ht] at h
 obtain ⟨s,rfl,_⟩:=h
 exact ⟨s,rfl⟩
theorem OW {n:Nat} {l:List D} (h:EL Try.prog (n+2) 34 l):∃a:MeterX,a.Fit∧l=a.el:=by
 obtain ⟨ls,rfl,h1,_⟩:=Gd (fs:=#[⟨"Name",9,0,false,"","",0⟩,⟨"Unit",9,1,false,"","",16⟩,⟨"Max",3,2,false,"","",32⟩,⟨"Line",3,3,false,"","",40⟩,⟨"Col",3,4,false,"","",48⟩]) h (by kernel_rfl)
 obtain ⟨l0,r0,rfl,t0,h1⟩:=typedL_cons h1
 obtain ⟨l1,r1,rfl,t1,h1⟩:=typedL_cons h1
 obtain ⟨l2,r2,rfl,t2,h1⟩:=typedL_cons h1
 obtain ⟨l3,r3,rfl,t3,h1⟩:=typedL_cons h1
 obtain ⟨l4,r4,rfl,t4,h1⟩:=typedL_cons h1
 obtain rfl:=typedL_nil h1
 obtain ⟨z0,rfl⟩:=IE t0 (by kernel_rfl)
 obtain ⟨z1,rfl⟩:=IE t1 (by kernel_rfl)
 obtain ⟨z2,rfl,f2,_⟩:=typed_int t2 (by kernel_rfl)
 obtain ⟨z3,rfl,f3,_⟩:=typed_int t3 (by kernel_rfl)
 obtain ⟨z4,rfl,f4,_⟩:=typed_int t4 (by kernel_rfl)
 exact ⟨⟨z0,z1,z2,z3,z4⟩,⟨f2,f3,f4⟩,rfl⟩
def OD (m:MeterX):Prop:=200<(m.nm.size:Int)∨200<(m.un.size:Int)
def Sb (x:PartX):Prop:=40<(x.ts.length:Int)∨40<(x.ad.length:Int)
def Ml (c:CoreX):Prop:=(20<(c.ms.length:Int)∨40<(c.ss.length:Int)∨40<(c.ps.length:Int)∨200<(c.cur.size:Int))∨(∃m∈c.ms,OD m)∨∃x∈c.ps,Sb x
noncomputable instance (c:CoreX):Decidable (Ml c):=Classical.propDecidable _
structure DateX where
 y:Int
 m:Int
 d:Int
abbrev DateX.el (a:DateX):List D:=[.int .i64 a.y,.int .i64 a.m,.int .i64 a.d]
def DateX.Fit (a:DateX):Prop:=Abs.Fit a.y∧Abs.Fit a.m∧Abs.Fit a.d
structure WinX where
 has:Bool
 f:DateX
 t:DateX
abbrev WinX.el (w:WinX):List D:=[.bool w.has,.int .i64 w.f.y,.int .i64 w.f.m,.int .i64 w.f.d,.int .i64 w.t.y,.int .i64 w.t.m,.int .i64 w.t.d]
def WinX.Fit (w:WinX):Prop:=w.f.Fit∧w.t.Fit
structure FeeX where
 am:Int
 w:WinX
 ln:Int
 co:Int
abbrev FeeX.el (x:FeeX):List D:=[.int .i64 x.am,.bool x.w.has,.int .i64 x.w.f.y,.int .i64 x.w.f.m,.int .i64 x.w.f.d,.int .i64 x.w.t.y,.int .i64 x.w.t.m,.int .i64 x.w.t.d,.int .i64 x.ln,.int .i64 x.co]
def FeeX.Fit (x:FeeX):Prop:=Abs.Fit x.am∧x.w.Fit∧Abs.Fit x.ln∧Abs.Fit x.co
def ER (l:List FeeX):List (List D):=l.map FeeX.el
theorem FQ {l:List FeeX}:(ER l).length=l.length:=List.length_map ..
structure ChX where
 me:ByteArray
 w:WinX
 al:Int
 bl:Int
 ki:Int
 ts:List Tier
 mo:Int
 ad:List Adj
 ln:Int
 co:Int
abbrev ChX.el (x:ChX):List D:=[.str x.me,.bool x.w.has,.int .i64 x.w.f.y,.int .i64 x.w.f.m,.int .i64 x.w.f.d,.int .i64 x.w.t.y,.int .i64 x.w.t.m,.int .i64 x.w.t.d,.int .i64 x.al,.int .i64 x.bl,.int .i64 x.ki,.sl 2 (Ed x.ts),.int .i64 x.mo,.sl 3 (E1 x.ad),.int .i64 x.ln,.int .i64 x.co]
structure ChX.Fit (x:ChX):Prop where
 w:x.w.Fit
 al:Abs.Fit x.al
 bl:Abs.Fit x.bl
 ki:Abs.Fit x.ki
 ts:∀a∈x.ts,Tier.Fit a
 tn:x.ts.length≤9223372036854775807
 mo:Abs.Fit x.mo
 ad:∀a∈x.ad,Adj.Fit a
 an:x.ad.length≤9223372036854775807
 ln:Abs.Fit x.ln
 co:Abs.Fit x.co
def Ee (l:List ChX):List (List D):=l.map ChX.el
theorem Ex {l:List ChX}:(Ee l).length=l.length:=List.length_map ..
structure PlanX where
 nm:ByteArray
 cu:ByteArray
 f:DateX
 t:DateX
 ms:List MeterX
 fs:List FeeX
 cs:List ChX
 ln:Int
 co:Int
abbrev Eg (nm cu:ByteArray) (f t:DateX) (m e c:AV) (ln co:Int):List AV:=[.d (.str nm),.d (.str cu),i64 f.y,i64 f.m,i64 f.d,i64 t.y,i64 t.m,i64 t.d,m,e,c,i64 ln,i64 co]
abbrev PlanX.cells (p:PlanX):List AV:=Eg p.nm p.cu p.f p.t (.d (.sl 5 (D7 p.ms))) (.d (.sl 10 (ER p.fs))) (.d (.sl 16 (Ee p.cs))) p.ln p.co
abbrev FV (p:PlanX):AV:=.agg p.cells
structure PlanX.Fit (p:PlanX):Prop where
 f:p.f.Fit
 t:p.t.Fit
 ms:∀a∈p.ms,a.Fit
 mn:p.ms.length≤9223372036854775807
 fs:∀a∈p.fs,a.Fit
 fn:p.fs.length≤9223372036854775807
 cs:∀a∈p.cs,a.Fit
 cn:p.cs.length≤9223372036854775807
 ln:Abs.Fit p.ln
 co:Abs.Fit p.co
theorem Io {n:Nat} {l:List D} (h:EL Try.prog (n+2) 23 l):∃a:DateX,a.Fit∧l=a.el:=by
 obtain ⟨ls,rfl,h1,_⟩:=Gd (fs:=#[⟨"Year",3,0,false,"","",0⟩,⟨"Month",3,1,false,"","",8⟩,⟨"Day",3,2,false,"","",16⟩]) h (by kernel_rfl)
 obtain ⟨l0,r0,rfl,t0,h1⟩:=typedL_cons h1
 obtain ⟨l1,r1,rfl,t1,h1⟩:=typedL_cons h1
 obtain ⟨l2,r2,rfl,t2,h1⟩:=typedL_cons h1
 obtain rfl:=typedL_nil h1
 obtain ⟨z0,rfl,f0,_⟩:=typed_int t0 (by kernel_rfl)
 obtain ⟨z1,rfl,f1,_⟩:=typed_int t1 (by kernel_rfl)
 obtain ⟨z2,rfl,f2,_⟩:=typed_int t2 (by kernel_rfl)
 exact ⟨⟨z0,z1,z2⟩,⟨f0,f1,f2⟩,rfl⟩
theorem LJ {n:Nat} {l:List D} (h:EL Try.prog (n+3) 49 l):∃a:WinX,a.Fit∧l=a.el:=by
 obtain ⟨ls,rfl,h1,_⟩:=Gd (fs:=#[⟨"Has",4,0,false,"","",0⟩,⟨"From",23,1,false,"","",8⟩,⟨"To",23,4,false,"","",32⟩]) h (by kernel_rfl)
 obtain ⟨l0,r0,rfl,t0,h1⟩:=typedL_cons h1
 obtain ⟨l1,r1,rfl,t1,h1⟩:=typedL_cons h1
 obtain ⟨l2,r2,rfl,t2,h1⟩:=typedL_cons h1
 obtain rfl:=typedL_nil h1
 obtain ⟨z0,rfl,_⟩:=typed_bool t0 (by kernel_rfl)
 obtain ⟨z1,f1,rfl⟩:=Io t1
 obtain ⟨z2,f2,rfl⟩:=Io t2
 exact ⟨⟨z0,z1,z2⟩,⟨f1,f2⟩,rfl⟩
theorem NZ {n:Nat} {l:List D} (h:EL Try.prog (n+4) 51 l):∃a:FeeX,a.Fit∧l=a.el:=by
 obtain ⟨ls,rfl,h1,_⟩:=Gd (fs:=#[⟨"Amount",3,0,false,"","",0⟩,⟨"Window",49,1,false,"","",8⟩,⟨"Line",3,8,false,"","",64⟩,⟨"Col",3,9,false,"","",72⟩]) h (by kernel_rfl)
 obtain ⟨l0,r0,rfl,t0,h1⟩:=typedL_cons h1
 obtain ⟨l1,r1,rfl,t1,h1⟩:=typedL_cons h1
 obtain ⟨l2,r2,rfl,t2,h1⟩:=typedL_cons h1
 obtain ⟨l3,r3,rfl,t3,h1⟩:=typedL_cons h1
 obtain rfl:=typedL_nil h1
 obtain ⟨z0,rfl,f0,_⟩:=typed_int t0 (by kernel_rfl)
 obtain ⟨z1,f1,rfl⟩:=LJ t1
 obtain ⟨z2,rfl,f2,_⟩:=typed_int t2 (by kernel_rfl)
 obtain ⟨z3,rfl,f3,_⟩:=typed_int t3 (by kernel_rfl)
 exact ⟨⟨z0,z1,z2,z3⟩,⟨f0,f1,f2,f3⟩,rfl⟩
theorem XC {n:Nat} {l:List D} (h:EL Try.prog (n+4) 55 l):∃a:ChX,a.Fit∧l=a.el:=by
 obtain ⟨ls,rfl,h1,_⟩:=Gd (fs:=#[⟨"Meter",9,0,false,"","",0⟩,⟨"Window",49,1,false,"","",16⟩,⟨"Allowance",3,8,false,"","",72⟩,⟨"Block",3,9,false,"","",80⟩,⟨"Kind",3,10,false,"","",88⟩,⟨"Tiers",52,11,false,"","",96⟩,⟨"Mode",3,12,false,"","",120⟩,⟨"Adjusts",53,13,false,"","",128⟩,⟨"Line",3,14,false,"","",152⟩,⟨"Col",3,15,false,"","",160⟩]) h (by kernel_rfl)
 obtain ⟨l0,r0,rfl,t0,h1⟩:=typedL_cons h1
 obtain ⟨l1,r1,rfl,t1,h1⟩:=typedL_cons h1
 obtain ⟨l2,r2,rfl,t2,h1⟩:=typedL_cons h1
 obtain ⟨l3,r3,rfl,t3,h1⟩:=typedL_cons h1
 obtain ⟨l4,r4,rfl,t4,h1⟩:=typedL_cons h1
 obtain ⟨l5,r5,rfl,t5,h1⟩:=typedL_cons h1
 obtain ⟨l6,r6,rfl,t6,h1⟩:=typedL_cons h1
 obtain ⟨l7,r7,rfl,t7,h1⟩:=typedL_cons h1
 obtain ⟨l8,r8,rfl,t8,h1⟩:=typedL_cons h1
 obtain ⟨l9,r9,rfl,t9,h1⟩:=typedL_cons h1
 obtain rfl:=typedL_nil h1
 obtain ⟨z0,rfl⟩:=IE t0 (by kernel_rfl)
 obtain ⟨z1,f1,rfl⟩:=LJ t1
 obtain ⟨z2,rfl,f2,_⟩:=typed_int t2 (by kernel_rfl)
 obtain ⟨z3,rfl,f3,_⟩:=typed_int t3 (by kernel_rfl)
 obtain ⟨z4,rfl,f4,_⟩:=typed_int t4 (by kernel_rfl)
 obtain ⟨z5,rfl,f5,g5⟩:=II (k:=2) (e:=58) (fun l h=>Nv h) (by kernel_rfl) (by kernel_rfl) t5
 obtain ⟨z6,rfl,f6,_⟩:=typed_int t6 (by kernel_rfl)
 obtain ⟨z7,rfl,f7,g7⟩:=II (k:=3) (e:=60) (fun l h=>Pa h) (by kernel_rfl) (by kernel_rfl) t7
 obtain ⟨z8,rfl,f8,_⟩:=typed_int t8 (by kernel_rfl)
 obtain ⟨z9,rfl,f9,_⟩:=typed_int t9 (by kernel_rfl)
 exact ⟨⟨z0,z1,z2,z3,z4,z5,z6,z7,z8,z9⟩,⟨f1,f2,f3,f4,f5,g5,f6,f7,g7,f8,f9⟩,rfl⟩
theorem typed_plan {n:Nat} {l:List D} (h:EL Try.prog (n+6) 28 l):∃p:PlanX,p.Fit∧Fh Try.prog 28 l=FV p:=by
 obtain ⟨ls,rfl,h1,e⟩:=Gd (fs:=#[⟨"Name",9,0,false,"","",0⟩,⟨"Currency",9,1,false,"","",16⟩,⟨"From",23,2,false,"","",32⟩,⟨"To",23,5,false,"","",56⟩,⟨"Meters",24,8,false,"","",80⟩,⟨"Fees",25,9,false,"","",104⟩,⟨"Charges",26,10,false,"","",128⟩,⟨"Line",3,11,false,"","",152⟩,⟨"Col",3,12,false,"","",160⟩]) h (by kernel_rfl)
 obtain ⟨l0,r0,rfl,t0,h1⟩:=typedL_cons h1
 obtain ⟨l1,r1,rfl,t1,h1⟩:=typedL_cons h1
 obtain ⟨l2,r2,rfl,t2,h1⟩:=typedL_cons h1
 obtain ⟨l3,r3,rfl,t3,h1⟩:=typedL_cons h1
 obtain ⟨l4,r4,rfl,t4,h1⟩:=typedL_cons h1
 obtain ⟨l5,r5,rfl,t5,h1⟩:=typedL_cons h1
 obtain ⟨l6,r6,rfl,t6,h1⟩:=typedL_cons h1
 obtain ⟨l7,r7,rfl,t7,h1⟩:=typedL_cons h1
 obtain ⟨l8,r8,rfl,t8,h1⟩:=typedL_cons h1
 obtain rfl:=typedL_nil h1
 obtain ⟨z0,rfl⟩:=IE t0 (by kernel_rfl)
 obtain ⟨z1,rfl⟩:=IE t1 (by kernel_rfl)
 obtain ⟨z2,f2,rfl⟩:=Io t2
 obtain ⟨z3,f3,rfl⟩:=Io t3
 obtain ⟨z4,rfl,f4,g4⟩:=II (k:=5) (e:=34) (fun l h=>OW h) (by kernel_rfl) (by kernel_rfl) t4
 obtain ⟨z5,rfl,f5,g5⟩:=II (k:=10) (e:=51) (fun l h=>NZ h) (by kernel_rfl) (by kernel_rfl) t5
 obtain ⟨z6,rfl,f6,g6⟩:=II (k:=16) (e:=55) (fun l h=>XC h) (by kernel_rfl) (by kernel_rfl) t6
 obtain ⟨z7,rfl,f7,_⟩:=typed_int t7 (by kernel_rfl)
 obtain ⟨z8,rfl,f8,_⟩:=typed_int t8 (by kernel_rfl)
 exact ⟨⟨z0,z1,z2,z3,z4,z5,z6,z7,z8⟩,⟨f2,f3,f4,g4,f5,g5,f6,g6,f7,f8⟩,e⟩
def IM (m:MeterX):Prop:=200<(m.nm.size:Int)∨200<(m.un.size:Int)
def Hq (x:ChX):Prop:=40<(x.ts.length:Int)∨40<(x.ad.length:Int)∨200<(x.me.size:Int)
def HB (p:PlanX):Prop:=(20<(p.ms.length:Int)∨40<(p.fs.length:Int)∨40<(p.cs.length:Int)∨200<(p.nm.size:Int)∨200<(p.cu.size:Int))∨(∃m∈p.ms,IM m)∨∃x∈p.cs,Hq x
noncomputable instance (p:PlanX):Decidable (HB p):=Classical.propDecidable _
abbrev JO (b:Nat) (p:PlanX):List (Nat×Blk):=[(b,.box 28 p.cells)]
theorem Vn {p:PlanX}:DataW Try.prog Vr [FV p] (bv (decide (HB p))):=by
 refine EQ XD (by simp) ?_
 simp -implicitDefEqProofs -proj only [go_sem,seval]
 refine EO (fun b1 hb1=>?_)
 by_cases g1:20<(p.ms.length:Int)
 ·simp -implicitDefEqProofs -proj only [go_sem,seval,FM,FQ,Ex,decide_eq_true g1]
  exact EM (by rw [decide_eq_true (.inl (.inl g1))])
 by_cases g2:40<(p.fs.length:Int)
 ·simp -implicitDefEqProofs -proj only [go_sem,seval,FM,FQ,Ex,decide_eq_false g1,decide_eq_true g2]
  exact EM (by rw [decide_eq_true (.inl (.inr (.inl g2)))])
 by_cases g3:40<(p.cs.length:Int)
 ·simp -implicitDefEqProofs -proj only [go_sem,seval,FM,FQ,Ex,decide_eq_false g1,decide_eq_false g2,decide_eq_true g3]
  exact EM (by rw [decide_eq_true (.inl (.inr (.inr (.inl g3))))])
 by_cases g4:200<(p.nm.size:Int)
 ·simp -implicitDefEqProofs -proj only [go_sem,seval,FM,FQ,Ex,decide_eq_false g1,decide_eq_false g2,decide_eq_false g3,decide_eq_true g4]
  exact EM (by rw [decide_eq_true (.inl (.inr (.inr (.inr (.inl g4)))))])
 by_cases g5:200<(p.cu.size:Int)
 ·simp -implicitDefEqProofs -proj only [go_sem,seval,FM,FQ,Ex,decide_eq_false g1,decide_eq_false g2,decide_eq_false g3,decide_eq_false g4,decide_eq_true g5]
  exact EM (by rw [decide_eq_true (.inl (.inr (.inr (.inr (.inr g5)))))])
 simp -implicitDefEqProofs -proj only [go_sem,seval,FM,FQ,Ex,decide_eq_false g1,decide_eq_false g2,decide_eq_false g3,decide_eq_false g4,decide_eq_false g5]
 refine Ec (fun i:Nat=>i≤p.ms.length∧∀(j:Nat) (h:j<p.ms.length),j<i→¬IM p.ms[j]) 77 (fun i=>[(1,.ptr b1 0),(36,.d (.sl 5 (D7 p.ms))),(37,i64 p.ms.length),(38,i64 i)]) (fun _=>JO b1 p) (fun i=>p.ms.length-i) 0 ⟨Nat.zero_le _,fun j _ h=>absurd h (Nat.not_lt_zero _)⟩ rfl ?_ ?_ ?_
 ·simp -implicitDefEqProofs -proj only [go_sem,seval,Dn]
 ·simp -implicitDefEqProofs -proj only [go_sem,seval,AT]
 ·rintro i ⟨hi,hs⟩
  have hk:AT (D4 (JO b1 p)) (JO b1 p):=Ep (by simp [AQ])
  have k1:=hk.1
  by_cases h:i<p.ms.length
  ·have hel:=Kf h
   have hno:IM p.ms[i]→HB p:=fun e=>.inr (.inl ⟨_,List.getElem_mem h,e⟩)
   have hgo:¬IM p.ms[i]→∀(j:Nat) (h:j<p.ms.length),j<i+1→¬IM p.ms[j]:=by
    intro e j h1 h2
    by_cases hj:j=i
    ·subst hj; exact e
    ·exact hs j h1 (by omega)
   generalize p.ms[i]=m at *
   simp -implicitDefEqProofs -proj only [go_sem,seval,decide_eq_true (show (i:Int)<p.ms.length by omega)]
   refine Es _ (by omega) hel ?_
   simp -implicitDefEqProofs -proj only [go_sem,seval]
   refine EO (fun b4 hb4=>?_)
   replace hb4:D4 (JO b1 p) b4=none:=hb4
   obtain ⟨n1,n2⟩:=EA hb4 k1
   by_cases c1:200<(m.nm.size:Int)
   ·simp -implicitDefEqProofs -proj only [go_sem,seval,n1,n2,decide_eq_true c1]
    exact EM (by rw [decide_eq_true (hno (.inl c1))])
   by_cases c2:200<(m.un.size:Int)
   ·simp -implicitDefEqProofs -proj only [go_sem,seval,n1,n2,decide_eq_false c1,decide_eq_true c2]
    exact EM (by rw [decide_eq_true (hno (.inr c2))])
   simp -implicitDefEqProofs -proj only [go_sem,seval,n1,n2,decide_eq_false c1,decide_eq_false c2]
   refine Em (i+1) ⟨by omega,hgo (fun e=>e.elim c1 c2)⟩ (by show p.ms.length-(i+1)<p.ms.length-i; omega) rfl ?_ (Gf hb4 hk)
   simp -implicitDefEqProofs -proj only [go_sem,seval,Dn,E8 (show i<9223372036854775807 by omega)]
  ·have hi':i=p.ms.length:=by omega
   subst hi'
   simp -implicitDefEqProofs -proj only [go_sem,seval,k1,Ex,decide_eq_false (show ¬(p.ms.length:Int)<p.ms.length by omega)]
   refine Ec (fun i:Nat=>i≤p.cs.length∧∀(j:Nat) (h:j<p.cs.length),j<i→¬Hq p.cs[j]) 77 (fun i=>[(54,.d (.sl 16 (Ee p.cs))),(55,i64 p.cs.length),(56,i64 i)]) (fun _=>[]) (fun i=>p.cs.length-i) 0 ⟨Nat.zero_le _,fun j _ h=>absurd h (Nat.not_lt_zero _)⟩ rfl ?_ ?_ ?_
   ·simp -implicitDefEqProofs -proj only [go_sem,seval,Dn]
   ·trivial
   ·rintro i ⟨hi2,hs2⟩
    by_cases h2:i<p.cs.length
    ·have hel:(Ee p.cs)[((i:Int)).toNat]? = some p.cs[i].el:=by rw [Int.toNat_natCast]; simp [Ee,h2]
     have hno:Hq p.cs[i]→HB p:=fun e=>.inr (.inr ⟨_,List.getElem_mem h2,e⟩)
     have hgo:¬Hq p.cs[i]→∀(j:Nat) (h:j<p.cs.length),j<i+1→¬Hq p.cs[j]:=by
      intro e j h1 h2
      by_cases hj:j=i
      ·subst hj; exact e
      ·exact hs2 j h1 (by omega)
     generalize p.cs[i]=x at *
     simp -implicitDefEqProofs -proj only [go_sem,seval,decide_eq_true (show (i:Int)<p.cs.length by omega)]
     refine Es _ (by omega) hel ?_
     simp -implicitDefEqProofs -proj only [go_sem,seval]
     refine EO (fun b4 hb4=>?_)
     by_cases c1:40<(x.ts.length:Int)
     ·simp -implicitDefEqProofs -proj only [go_sem,seval,GI,GL,decide_eq_true c1]
      exact EM (by rw [decide_eq_true (hno (.inl c1))])
     by_cases c2:40<(x.ad.length:Int)
     ·simp -implicitDefEqProofs -proj only [go_sem,seval,GI,GL,decide_eq_false c1,decide_eq_true c2]
      exact EM (by rw [decide_eq_true (hno (.inr (.inl c2)))])
     by_cases c3:200<(x.me.size:Int)
     ·simp -implicitDefEqProofs -proj only [go_sem,seval,GI,GL,decide_eq_false c1,decide_eq_false c2,decide_eq_true c3]
      exact EM (by rw [decide_eq_true (hno (.inr (.inr c3)))])
     simp -implicitDefEqProofs -proj only [go_sem,seval,GI,GL,decide_eq_false c1,decide_eq_false c2,decide_eq_false c3]
     refine Em (i+1) ⟨by omega,hgo (fun e=>e.elim c1 (fun e=>e.elim c2 c3))⟩ (by show p.cs.length-(i+1)<p.cs.length-i; omega) rfl ?_ trivial
     simp -implicitDefEqProofs -proj only [go_sem,seval,Dn,E8 (show i<9223372036854775807 by omega)]
    ·have hi3:i=p.cs.length:=by omega
     subst hi3
     simp -implicitDefEqProofs -proj only [go_sem,seval,decide_eq_false (show ¬(p.cs.length:Int)<p.cs.length by omega)]
     have hn:¬HB p:=by
      rintro ((e | e | e | e | e) | ⟨m,hm,e⟩ | ⟨x,hx,e⟩)
      ·exact g1 e
      ·exact g2 e
      ·exact g3 e
      ·exact g4 e
      ·exact g5 e
      ·obtain ⟨j,hj,rfl⟩:=List.getElem_of_mem hm
       exact hs j hj hj e
      ·obtain ⟨j,hj,rfl⟩:=List.getElem_of_mem hx
       exact hs2 j hj hj e
     exact EM (by rw [decide_eq_false hn])
def WC (T:List Tier) (i:Nat):Int:=if i+1=T.length then 0 else match T[i-1]? with
 | some p=>if 0<i∧1≤p.u then min p.u 1000000+1 else 1
 | none=>1
def SG (T:List Tier) (i:Nat):Int:=if i+1=T.length then 0 else 1000000
def Jb (T:List Tier) (i:Nat) (t:Tier):Prop:=(0≤t.r∧t.r≤1000000000000)∧(WC T i≤t.u∧t.u≤SG T i)
instance (T:List Tier) (i:Nat) (t:Tier):Decidable (Jb T i t):=by unfold Jb; exact inferInstance
def Jr (a:Adj):Prop:=a.k=1∧(0≤a.n∧a.n≤100000000)∧(0≤a.m∧a.m≤3)∨(a.k=2∨a.k=3∨a.k=4)∧(0≤a.n∧a.n≤1000000000000)∧a.m=0
instance (a:Adj):Decidable (Jr a):=by unfold Jr; exact inferInstance
def J5 (f t:Int) (nm:Nat) (x:PartX):Prop:=0≤x.me∧x.me<nm∧(f≤x.f∧x.f≤x.t∧x.t≤t)∧(0≤x.al∧x.al≤1000000)∧(1≤x.bl∧x.bl≤1000000)∧(x.ki=1∨x.ki=2)∧(0≤x.mo∧x.mo≤3)∧1≤x.ts.length∧x.ts.length≤8∧x.ad.length≤6
instance (f t:Int) (nm:Nat) (x:PartX):Decidable (J5 f t nm x):=by unfold J5; exact inferInstance
def Mk (T:List Tier):Prop:=∀(i:Nat) (h:i<T.length),Jb T i T[i]
def Lz (l:List Adj):Prop:=∀a∈l,Jr a
noncomputable instance (T:List Tier):Decidable (Mk T):=Classical.propDecidable _
noncomputable instance (l:List Adj):Decidable (Lz l):=Classical.propDecidable _
def Km (f t:Int) (nm:Nat) (x:PartX):Prop:=J5 f t nm x∧Mk x.ts∧Lz x.ad
noncomputable instance (f t:Int) (nm:Nat) (x:PartX):Decidable (Km f t nm x):=by unfold Km; exact inferInstance
def Qv (a b:ByteArray):Bool:=Op.bytesLess a.toList b.toList
def NJ (ms:List MeterX) (i:Nat) (m:MeterX):Prop:=(0≤m.mx∧m.mx≤2000)∧m.ln=0∧m.co=0∧∀p,ms[i-1]? = some p→0<i→Qv p.nm m.nm=true
def RW (f t:Int) (s:SumX):Prop:=(0≤s.a∧s.a≤1000000000000)∧(f≤s.f∧s.f≤s.t∧s.t≤t)
def Q6 (c:CoreX):Prop:=(0≤c.f∧c.f≤3652058)∧(c.f≤c.t∧c.t≤3652058)∧c.t-c.f≤3999∧c.ms.length≤4∧c.ss.length≤8∧c.ps.length≤8
def Oo (ms:List MeterX):Prop:=∀(i:Nat) (h:i<ms.length),NJ ms i ms[i]
structure goodC (c:CoreX):Prop where
 hd:Q6 c
 ms:Oo c.ms
 ss:∀s∈c.ss,RW c.f c.t s
 ps:∀x∈c.ps,Km c.f c.t c.ms.length x
noncomputable instance (c:CoreX):Decidable (goodC c):=Classical.propDecidable _
theorem LI (b:ByteArray):∀(n i:Nat) (r:List UInt8),b.size≤n+i→ByteArray.toList.loop b i r=r.reverse++b.data.toList.drop i
 | 0,i,r,h=>by
  rw [ByteArray.toList.loop,if_neg (by omega)]
  rw [List.drop_eq_nil_of_le (by simpa using h),List.append_nil]
 | n+1,i,r,h=>by
  rw [ByteArray.toList.loop]
  split
  ·next hi =>
   rw [LI b n (i+1) _ (by omega),List.reverse_cons,List.append_assoc]
   congr 1
   have hi':i<b.data.toList.length:=by simpa using hi
   rw [List.drop_eq_getElem_cons hi']
   have hi2:i<b.data.size:=hi
   simp [ByteArray.get!]
   exact getElem!_pos b.data i hi2
  ·rw [List.drop_eq_nil_of_le (by simp; omega),List.append_nil]
theorem JT (b:ByteArray):b.toList=b.data.toList:=by
 rw [ByteArray.toList,LI b b.size 0 [] (by omega)]; rfl
theorem Ua {x y:ByteArray} (h:x.toList=y.toList):x=y:=by
 rw [JT,JT] at h
 cases x; cases y
 simp -implicitDefEqProofs only [ByteArray.mk.injEq]
 exact Array.ext' h
def V8 (S:List MeterX) (n:Nat):Prop:=0<n∧(S[n-1]?).map MeterX.nm=(S[n]?).map MeterX.nm
noncomputable instance (S:List MeterX) (n:Nat):Decidable (V8 S n):=Classical.propDecidable _
def Fu (u:Int):UInt8:=UInt8.ofNat (IntKind.u8.wrap u).toNat
def IW (n:Int):List UInt8:=[Fu (IntKind.u64.wrap n),Fu ((IntKind.u64.wrap n).fdiv 256),Fu ((IntKind.u64.wrap n).fdiv 65536),Fu ((IntKind.u64.wrap n).fdiv 16777216),Fu ((IntKind.u64.wrap n).fdiv 4294967296),Fu ((IntKind.u64.wrap n).fdiv 1099511627776),Fu ((IntKind.u64.wrap n).fdiv 281474976710656),Fu ((IntKind.u64.wrap n).fdiv 72057594037927936)]
def AS (n:Int):ByteArray:=⟨(IW n).toArray⟩
theorem Ev (n:Int):DataW Try.prog W3 [i64 n] (.d (.str (AS n))):=by
 refine EQ RA (by simp) ?_
 simp -implicitDefEqProofs -proj only [go_sem,seval]
 refine FH (fun b hb=>?_)
 simp -implicitDefEqProofs -proj only [go_sem,seval]
 refine TS ED rfl (bs:=IW n) rfl ?_
 simp -implicitDefEqProofs -proj only [go_sem,seval]
 exact EM rfl
theorem Gm {u v:Int} (h:Fu u=Fu v):u % 256=v % 256:=by
 unfold Fu at h
 have h1:=congrArg UInt8.toNat h
 rw [IntKind.wrap_u8,IntKind.wrap_u8,UInt8.toNat_ofNat',UInt8.toNat_ofNat'] at h1
 omega
theorem Vg {n m:Int} (hn:Fit n) (hm:Fit m) (h:(AS n).toList=(AS m).toList):n=m:=by
 have e:IW n=IW m:=by
  have h1:∀l:List UInt8,(ByteArray.mk l.toArray).toList=l:=fun l=>by rw [JT]
  simpa only [AS,h1] using h
 simp -implicitDefEqProofs only [IW,List.cons.injEq,and_true] at e
 obtain ⟨e0,e1,e2,e3,e4,e5,e6,e7⟩:=e
 have hu:∀k:Int,IntKind.u64.wrap k=k % 18446744073709551616:=IntKind.wrap_u64
 have u0:0≤IntKind.u64.wrap n∧IntKind.u64.wrap n<18446744073709551616:=by rw [hu]; omega
 have v0:0≤IntKind.u64.wrap m∧IntKind.u64.wrap m<18446744073709551616:=by rw [hu]; omega
 have hw:IntKind.u64.wrap n=IntKind.u64.wrap m→n=m:=fun e=>by
  rw [hu,hu] at e; obtain ⟨a,b⟩:=hn; obtain ⟨c,d⟩:=hm; omega
 refine hw ?_
 generalize IntKind.u64.wrap n=u at *
 generalize IntKind.u64.wrap m=v at *
 replace e0:=Gm e0
 replace e1:=Gm e1
 replace e2:=Gm e2
 replace e3:=Gm e3
 replace e4:=Gm e4
 replace e5:=Gm e5
 replace e6:=Gm e6
 replace e7:=Gm e7
 simp -implicitDefEqProofs only [Int.fdiv_eq_ediv_of_nonneg _ (show (0:Int)≤256 by decide),Int.fdiv_eq_ediv_of_nonneg _ (show (0:Int)≤65536 by decide),Int.fdiv_eq_ediv_of_nonneg _ (show (0:Int)≤16777216 by decide),Int.fdiv_eq_ediv_of_nonneg _ (show (0:Int)≤4294967296 by decide),Int.fdiv_eq_ediv_of_nonneg _ (show (0:Int)≤1099511627776 by decide),Int.fdiv_eq_ediv_of_nonneg _ (show (0:Int)≤281474976710656 by decide),Int.fdiv_eq_ediv_of_nonneg _ (show (0:Int)≤72057594037927936 by decide)] at *
 have d7:u / 72057594037927936=v / 72057594037927936:=by omega
 have d6:u / 281474976710656=v / 281474976710656:=by omega
 have d5:u / 1099511627776=v / 1099511627776:=by omega
 have d4:u / 4294967296=v / 4294967296:=by omega
 have d3:u / 16777216=v / 16777216:=by omega
 have d2:u / 65536=v / 65536:=by omega
 have d1:u / 256=v / 256:=by omega
 omega
structure TStep where
 f:Int
 t:Int
 r:Int
abbrev TStep.av (s:TStep):AV:=.agg [i64 s.f,i64 s.t,i64 s.r]
def TStep.el (s:TStep):List D:=[.int .i64 s.f,.int .i64 s.t,.int .i64 s.r]
def Ji (T:List Tier) (q:Int) (i:Nat) (t:Tier):Int:=if i+1<T.length then min q t.u else q
def Gu (T:List Tier) (q:Int):Nat→Int×List TStep
 | 0=>(0,[])
 | i+1=>match T[i]? with
  | some t=>(max (Gu T q i).1 (Ji T q i t),if (Gu T q i).1<Ji T q i t then (Gu T q i).2++[⟨(Gu T q i).1,Ji T q i t,t.r⟩] else (Gu T q i).2)
  | none=>Gu T q i
def Tc (T:List Tier) (q:Int):List TStep:=(Gu T q T.length).2
def MT (T:List Tier) (q:Int):Nat→List TStep
 | 0=>[]
 | n+1=>match T[T.length-(n+1)]? with
  | some t=>if n=0∨q≤t.u then (if 0<q then [⟨0,q,t.r⟩] else []) else MT T q n
  | none=>[]
def Tk (T:List Tier) (q:Int):List TStep:=MT T q T.length
def QK (x:PartX) (q:Int):List TStep:=if x.ki=2 then Tk x.ts q else Tc x.ts q
def Rs (s:TStep) (a:Int):Option Int:=if Fit (s.r*(s.t-s.f))∧Fit (a+s.r*(s.t-s.f)) then some (a+s.r*(s.t-s.f)) else none
def K4:List TStep→Int→Option Int
 | [],a=>some a
 | s::l,a=>match Rs s a with
  | some b=>K4 l b
  | none=>none
def UW (x:PartX) (q:Int):Option Int:=if q<0 then none else if Fit (Jl (max (q-x.al) 0) x.bl 1*x.bl) then K4 (QK x (Jl (max (q-x.al) 0) x.bl 1*x.bl)) 0 else none
def Tf (x:PartX) (q:Int):Option Int:=match UW x q with
 | some n=>K0 n 1000000 x.mo
 | none=>none
def Lg:List TStep→Int
 | []=>0
 | s::l=>s.r*(s.t-s.f)+Lg l
section
def Ir (s:Bool) (m:Int):AV:=.agg [bv s,u64 (m / 18446744073709551616),u64 (m % 18446744073709551616)]
def wide (n:Int):AV:=Ir (n<0) n.natAbs
attribute [local go_sem] Ir wide
end
def VL (a:Adj) (x:Int):Option Int :=
 if a.k=1 then K0 (x*a.n) 100000 a.m
 else if a.k=2 then some (min x a.n)
 else if a.k=3 then some (max x a.n)
 else if a.k=4 then Mo (x+a.n)
 else none
def Ms:Int→List Adj→Option Int
 | x,[]=>some x
 | x,a::l=>match VL a x with
  | some y=>Ms y l
  | none=>none
def Lx (x:PartX) (q:Int):Option Int:=match Tf x q with
 | some n=>Ms n x.ad
 | none=>none
def Mi (d f t:Int):Prop:=f≤d∧d≤t
instance (d f t:Int):Decidable (Mi d f t):=by unfold Mi; exact inferInstance
def bq (b:List Int) (m:Int):Int:=b.getD m.toNat 0
def PZ (c:CoreX) (b:List Int):Prop:=b.length=c.ms.length∧∀(i:Nat) (h:i<b.length) (h2:i<c.ms.length),0≤b[i]∧b[i]≤(c.ms[i]).mx
noncomputable instance (c:CoreX) (b:List Int):Decidable (PZ c b):=Classical.propDecidable _
def sg (g:Nat→Int):Nat→Int
 | 0=>0
 | n+1=>sg g n+g n
def pv (x:PartX) (q:Int):Int:=(Lx x q).getD 0
def K7 (x:PartX):Nat→Int
 | 0=>0
 | n+1=>max (K7 x n) (pv x n)
def MS (ms:List MeterX) (m:Int):Int:=match ms[m.toNat]? with
 | some x=>x.mx
 | none=>0
def Ol (c:CoreX) (j:Nat):Int:=match c.ps[j]? with
 | some x=>K7 x (MS c.ms x.me+1).toNat
 | none=>0
def QN (ss:List SumX) (j:Nat):Int:=match ss[j]? with
 | some s=>s.a
 | none=>0
def VQ (c:CoreX) (i:Nat):Int:=sg (QN c.ss) c.ss.length+sg (Ol c) i
def Ui (x:PartX) (q:Int):Prop:=∃n,Lx x q=some n∧0≤n∧n≤1152921504606846976
structure fitsC (c:CoreX):Prop where
 great:¬Ml c
 good:goodC c
 parts:∀x∈c.ps,∀q:Nat,q<(MS c.ms x.me+1).toNat→Ui x q
 Lg:∀i,i≤c.ps.length→VQ c i≤1152921504606846976
noncomputable instance (c:CoreX):Decidable (fitsC c):=Classical.propDecidable _
structure Run where
 f:Int
 t:Int
 v:Int
 deriving DecidableEq
def Run.el (r:Run):List D:=[.int .i64 r.f,.int .i64 r.t,.int .i64 r.v]
abbrev Run.av (r:Run):AV:=.agg [i64 r.f,i64 r.t,i64 r.v]
def G5 (l:List Run) (r:Run):List Run:=match l.getLast? with
 | some q=>if q.v=r.v then l.dropLast++[{ q with t:=r.t }] else l++[r]
 | none=>[r]
def LX (l:List Run) (x:Int):Nat:=(l.takeWhile fun r=>decide (r.t<x)).length
def Iq (l:List Run) (x:Int):Option Int:=match l[LX l x]? with
 | some r=>if r.f≤x then some r.v else none
 | none=>none
def FwdOK (val:Int→Int) (lo hi:Int):List Run→Prop
 | []=>lo=hi
 | r::R=>r.f=lo∧r.f≤r.t∧(∀x,r.f≤x→x≤r.t→val x=r.v)∧(∀s,R.head? = some s→r.v≠s.v)∧FwdOK val (r.t+1) hi R
theorem FwdOK.le {val:Int→Int}:∀{R:List Run} {lo hi:Int},FwdOK val lo hi R→lo≤hi
 | [],lo,hi,h=>by have:lo=hi:=h; omega
 | r::R,lo,hi,h=>by
  obtain ⟨h1,h2,_,_,h5⟩:=h
  have:=FwdOK.le h5
  omega
theorem K1 {r x:Run} {R:List Run} (h:R≠[]):G5 (r::R) x=r::G5 R x:=by
 obtain ⟨q,hq⟩:∃q,R.getLast? = some q:=by
  cases hh:R.getLast? with
  | none=>exact absurd (List.getLast?_eq_none_iff.1 hh) h
  | some q=>exact ⟨q,rfl⟩
 have h2:(r::R).getLast? = some q:=by
  rw [List.getLast?_cons,hq]; rfl
 unfold G5
 rw [hq,h2]
 simp -implicitDefEqProofs only []
 split
 ·rw [List.dropLast_cons_of_ne_nil h]; rfl
 ·rfl
theorem Nt {x s:Run} {R:List Run} {q:Run} (h:(G5 (s::R) x).head? = some q):q.v=s.v:=by
 cases R with
 | nil =>
  unfold G5 at h
  simp -implicitDefEqProofs only [List.getLast?_singleton] at h
  split at h
  ·simp at h; subst h; rfl
  ·simp at h; subst h; rfl
 | cons t R =>
  rw [K1 (by simp)] at h
  simp at h; subst h; rfl
theorem FwdOK.put {val:Int→Int} {hi:Int}:∀{R:List Run} {lo:Int},FwdOK val lo hi R→FwdOK val lo (hi+1) (G5 R ⟨hi,hi,val hi⟩)
 | [],lo,h=>by
  have:lo=hi:=h
  subst this
  exact ⟨rfl,Int.le_refl _,fun x h1 h2=>by rw [show x=lo from Int.le_antisymm h2 h1],fun s h=>(by cases h),rfl⟩
 | [r],lo,h=>by
  obtain ⟨h1,h2,h3,h4,h5⟩:=h
  have h5:r.t+1=hi:=h5
  unfold G5
  simp -implicitDefEqProofs only [List.getLast?_singleton]
  split
  ·next hv =>
   refine ⟨h1,by show r.f≤hi; omega,fun x x1 x2=>?_,fun s h=>(by cases h),rfl⟩
   by_cases hx:x=hi
   ·subst hx; exact hv.symm
   ·exact h3 x x1 (by have:x≤hi:=x2; omega)
  ·next hv =>
   refine ⟨h1,h2,h3,fun s h=>?_,⟨h5.symm,Int.le_refl _,fun x x1 x2=>by rw [show x=hi from Int.le_antisymm x2 x1],fun s h=>(by cases h),rfl⟩⟩
   cases h; exact hv
 | r::s::R,lo,h=>by
  obtain ⟨h1,h2,h3,h4,h5⟩:=h
  rw [K1 (by simp)]
  refine ⟨h1,h2,h3,fun q hq=>?_,FwdOK.put h5⟩
  rw [Nt hq]
  exact h4 s rfl
theorem PM {r:Run} {R:List Run} {x:Int}:Iq (r::R) x=if r.t<x then Iq R x else if r.f≤x then some r.v else none:=by
 unfold Iq LX
 by_cases h:r.t<x
 ·rw [if_pos h,List.takeWhile_cons_of_pos (by simpa using h),List.length_cons,List.getElem?_cons_succ]
 ·rw [if_neg h,List.takeWhile_cons_of_neg (by simpa using h)]
  rfl
def Adj2:List Run→Prop
 | []=>True
 | r::R=>(∀s,R.head? = some s→r.v≠s.v)∧Adj2 R
theorem Adj2.last {S R:List Run} {x q:Run} (h:Adj2 (S++x::R)) (hq:S.getLast? = some q):q.v≠x.v:=by
 induction S with
 | nil=>cases hq
 | cons s S ih =>
  cases S with
  | nil =>
   simp at hq; subst hq
   exact h.1 x rfl
  | cons t S =>
   rw [List.getLast?_cons_cons] at hq
   exact ih h.2 hq
structure Seg (β:Type) where
 f:Int
 t:Int
 v : β
section
variable {β:Type}
def FwdB (val:Int→β) (lo hi:Int):List (Seg β)→Prop
 | []=>lo=hi
 | r::R=>r.f=lo∧r.f≤r.t∧(∀x,r.f≤x→x≤r.t→val x=r.v)∧(∀s,R.head? = some s→r.v≠s.v)∧FwdB val (r.t+1) hi R
theorem FwdB.le {val:Int→β}:∀{R:List (Seg β)} {lo hi:Int},FwdB val lo hi R→lo≤hi
 | [],lo,hi,h=>by have:lo=hi:=h; omega
 | r::R,lo,hi,h=>by
  obtain ⟨h1,h2,_,_,h5⟩:=h
  have:=FwdB.le h5
  omega
theorem FwdB.len {val:Int→β}:∀{R:List (Seg β)} {lo hi:Int},FwdB val lo hi R→(R.length:Int)≤hi-lo
 | [],lo,hi,h=>by have:lo=hi:=h; simp; omega
 | r::R,lo,hi,h=>by
  obtain ⟨h1,h2,_,_,h5⟩:=h
  have:=FwdB.len h5
  simp -implicitDefEqProofs only [List.length_cons]
  omega
theorem FwdB.congr {val val':Int→β} {hi:Int}:∀{R:List (Seg β)} {lo:Int},(∀x,lo≤x→x<hi→val x=val' x)→FwdB val lo hi R→FwdB val' lo hi R
 | [],lo,_,h=>h
 | r::R,lo,hv,h=>by
  obtain ⟨h1,h2,h3,h4,h5⟩:=h
  have hl:=h5.le
  exact ⟨h1,h2,fun x a b=>by rw [←hv x (by omega) (by omega)]; exact h3 x a b,h4,FwdB.congr (fun x a b=>hv x (by omega) b) h5⟩
theorem FwdB.nth {val:Int→β} {hi:Int}:∀{R:List (Seg β)} {lo:Int},FwdB val lo hi R→∀(i:Nat) r,R[i]? = some r→lo+i≤r.f∧r.f≤r.t∧r.t<hi∧(∀x,r.f≤x→x≤r.t→val x=r.v)∧(∀s,R[i+1]? = some s→s.f=r.t+1∧r.v≠s.v)∧(R[i+1]? = none→r.t+1=hi)∧(i=0→r.f=lo)
 | [],lo,_,i,r,hr=>by simp at hr
 | q::R,lo,h,0,r,hr=>by
  obtain ⟨h1,h2,h3,h4,h5⟩:=h
  have hl:=h5.le
  simp -implicitDefEqProofs only [List.getElem?_cons_zero,Option.some.injEq] at hr
  subst hr
  refine ⟨by omega,h2,by omega,h3,fun s hs=>?_,fun hs=>?_,fun _=>h1⟩
  ·cases R with
   | nil=>simp at hs
   | cons a R =>
    simp -implicitDefEqProofs only [List.getElem?_cons_succ,List.getElem?_cons_zero,Option.some.injEq] at hs
    subst hs
    exact ⟨h5.1,h4 a rfl⟩
  ·cases R with
   | nil=>exact h5
   | cons a R=>simp at hs
 | q::R,lo,h,i+1,r,hr=>by
  obtain ⟨h1,h2,h3,h4,h5⟩:=h
  have hl:=h5.le
  obtain ⟨g1,g2,g3,g4,g5,g6,g7⟩:=FwdB.nth h5 i r (by simpa using hr)
  exact ⟨by omega,g2,g3,g4,by simpa using g5,by simpa using g6,fun h=>by omega⟩
theorem FwdB.apart {val:Int→β} {hi:Int}:∀{R:List (Seg β)} {lo:Int},FwdB val lo hi R→∀(i j:Nat) r s,i<j→R[i]? = some r→R[j]? = some s→r.t<s.f
 | [],lo,_,i,j,r,s,_,hr,_=>by simp at hr
 | q::R,lo,h,0,0,r,s,hij,_,_=>by omega
 | q::R,lo,h,0,j+1,r,s,_,hr,hs=>by
  obtain ⟨h1,h2,h3,h4,h5⟩:=h
  simp -implicitDefEqProofs only [List.getElem?_cons_zero,Option.some.injEq] at hr
  subst hr
  have:=(FwdB.nth h5 j s (by simpa using hs)).1
  omega
 | q::R,lo,h,i+1,0,r,s,hij,_,_=>by omega
 | q::R,lo,h,i+1,j+1,r,s,hij,hr,hs=>FwdB.apart h.2.2.2.2 i j r s (by omega) (by simpa using hr) (by simpa using hs)
end
theorem FwdOK.out {val:Int→Int} {hi x:Int}:∀{R:List Run} {lo:Int},FwdOK val lo hi R→(x<lo∨hi≤x)→Iq R x=none
 | [],lo,h,_=>rfl
 | r::R,lo,h,h1=>by
  obtain ⟨g1,g2,g3,g4,g5⟩:=h
  have:=g5.le
  rw [PM]
  by_cases ht:r.t<x
  ·rw [if_pos ht]; exact FwdOK.out g5 (.inr (by omega))
  ·rw [if_neg ht,if_neg (by omega)]
theorem FwdOK.ends {val:Int→Int} {hi:Int}:∀{R:List Run} {lo:Int} (hr:R≠[]),FwdOK val lo hi R→(R.head hr).f=lo∧(R.getLast hr).t=hi-1
 | [r],lo,_,h=>⟨h.1,by have:r.t+1=hi:=h.2.2.2.2; show r.t=hi-1; omega⟩
 | r::s::R,lo,_,h=>⟨h.1,(FwdOK.ends (R:=s::R) (by simp) h.2.2.2.2).2⟩
theorem FwdOK.congr {val val':Int→Int} {hi:Int}:∀{R:List Run} {lo:Int},(∀x,lo≤x→x<hi→val x=val' x)→FwdOK val lo hi R→FwdOK val' lo hi R
 | [],_,_,h=>h
 | r::R,lo,he,h=>by
  obtain ⟨g1,g2,g3,g4,g5⟩:=h
  have:=g5.le
  exact ⟨g1,g2,fun x h1 h2=>by rw [←he x (by omega) (by omega)]; exact g3 x h1 h2,g4,FwdOK.congr (fun x h1 h2=>he x (by omega) h2) g5⟩
def Hm (R:List Run) (hi:Int) (i:Nat):Int:=match R[i]? with
 | some r=>r.f
 | none=>hi
theorem FwdOK.nth {val:Int→Int} {hi:Int}:∀{R:List Run} {lo:Int},FwdOK val lo hi R→∀(i:Nat) r,R[i]? = some r→r.f=Hm R hi i∧r.f≤r.t∧Hm R hi (i+1)=r.t+1∧r.t+1≤hi∧lo≤r.f∧∀x,r.f≤x→x≤r.t→val x=r.v:=by
 intro R
 induction R with
 | nil=>intro lo _ i r h; simp at h
 | cons q R ih =>
  intro lo h i r hi'
  obtain ⟨g1,g2,g3,g4,g5⟩:=h
  have hle:=g5.le
  cases i with
  | zero =>
   simp -implicitDefEqProofs only [List.getElem?_cons_zero,Option.some.injEq] at hi'
   subst hi'
   refine ⟨rfl,g2,?_,hle,by omega,g3⟩
   unfold Hm
   cases R with
   | nil=>exact g5.symm
   | cons s R=>exact g5.1
  | succ i =>
   obtain ⟨e1,e2,e3,e4,e5,e6⟩:=ih g5 i r (by simpa using hi')
   exact ⟨by rw [e1]; simp [Hm],e2,by rw [←e3]; simp [Hm],e4,by omega,e6⟩
theorem FwdOK.len {val:Int→Int} {hi:Int}:∀{R:List Run} {lo:Int},FwdOK val lo hi R→(R.length:Int)≤hi-lo
 | [],lo,h=>by have:lo=hi:=h; simp; omega
 | r::R,lo,⟨g1,g2,g3,g4,g5⟩=>by
  have:=g5.len
  simp -implicitDefEqProofs only [List.length_cons]
  omega
structure Grp where
 f:Int
 v:Int
 w:Int
 r:Int
 c:Int
 deriving DecidableEq
theorem FwdOK.drop {val:Int→Int} {hi:Int}:∀{R:List Run} {lo:Int} (k:Nat),FwdOK val lo hi R→k≤R.length→∃m,FwdOK val m hi (R.drop k)∧lo+k≤m∧(∀q,lo≤q→q<m→∃(j:Nat) (h:j<R.length),j<k∧R[j].f≤q∧q≤R[j].t∧val q=R[j].v∧(∀(h2:j+1<R.length),q<R[j+1].f))
 | R,lo,0,h,_=>⟨lo,h,by omega,fun q h1 h2=>by omega⟩
 | [],lo,k+1,h,hk=>absurd hk (by simp)
 | a::R,lo,k+1,⟨g1,g2,g3,g4,g5⟩,hk=>by
  obtain ⟨m,k1,k2,k3⟩:=FwdOK.drop k g5 (by simpa using hk)
  refine ⟨m,k1,by omega,fun q h1 h2=>?_⟩
  by_cases hq:q≤a.t
  ·refine ⟨0,by simp,by omega,by simpa using (by omega),by simpa using hq,by simpa using g3 q (by omega) hq,fun h3=>?_⟩
   cases R with
   | nil=>simp at h3
   | cons b R =>
    have:=g5.1
    simp -implicitDefEqProofs only [List.getElem_cons_succ,List.getElem_cons_zero]
    omega
  ·obtain ⟨j,j1,j2,j3,j4,j5,j6⟩:=k3 q (by omega) h2
   exact ⟨j+1,by simpa using j1,by omega,by simpa using j3,by simpa using j4,by simpa using j5,fun h3=>by simpa using j6 (by simpa using h3)⟩
def Kd (r:Run):Prop:=r.v < -2305843009213693952∨2305843009213693952<r.v
instance (r:Run):Decidable (Kd r):=by unfold Kd; exact inferInstance
def Grp.el (g:Grp):List D:=[.int .i64 g.f,.int .i64 g.v,.int .i64 g.w,.int .i64 g.r,.int .i64 g.c]
abbrev Grp.av (g:Grp):AV:=.agg [i64 g.f,i64 g.v,i64 g.w,i64 g.r,i64 g.c]
def TL (R:List Run):Prop:=∃h:R≠[],(R.head h).f=0∧(R.getLast h).t≤2000∧∀r∈R,¬Kd r
noncomputable instance (R:List Run):Decidable (TL R):=Classical.propDecidable _
def KZ (v:Int):Prop:=-2305843009213693952≤v∧v≤2305843009213693952
instance (v:Int):Decidable (KZ v):=by unfold KZ; exact inferInstance
def Vv (l:List Int):Prop:=l≠[]∧l.length≤2001∧∀v∈l,KZ v
noncomputable instance (l:List Int):Decidable (Vv l):=Classical.propDecidable _
theorem Gw {P:Program} {Q:Out→St→Prop} {k:List Item} {s:St} {d:Option Nat} {l:List AO} {e:TypeId} {sz bytes b len cap:Nat} {z:List AV} {xs ys:List (List D)} {x:AV} (hx:∀K,Eu s.H x K=K sz ys) (hb:s.H b=some (.row e sz cap xs)) (hlb:len=xs.length) (hz:z.length=sz) (hbd:(xs.length+ys.length)*bytes≤140737488355328∧xs.length+ys.length≤maxLen)
  (hk:∀b' cap' H',H' b'=some (.row e sz cap' (xs++ys))→(∀k x,s.H k=some x→¬k=b→H' k=some x∧¬k=b'∧¬b'=k)→AF P Q l k (AD s d (.own b' sz 0 (len+ys.length) cap') H')):Ft e sz bytes z (.own b sz 0 len cap) x d l k s P Q:=by
 refine Tx hx hb hlb hz hbd (fun h=>?_) (fun h b' cap' hb'=>?_)
 ·subst h
  have:=hk b cap s.H (by rw [List.append_nil]; exact hb) (fun k x h1 h2=>⟨h1,h2,fun e=>h2 e.symm⟩)
  simpa using this
 ·refine hk b' cap' _ ED (fun k x h1 h2=>?_)
  have hne:¬k=b':=by
   rintro rfl
   rw [D3 (fun e=>h2 e.symm),h1] at hb'
   cases hb'
  exact ⟨by rw [D3 (fun e=>hne e.symm),D3 (fun e=>h2 e.symm)]; exact h1,hne,fun e=>hne e.symm⟩
def EV (l:List ByteArray):List (List D):=l.map fun s=>[.str s]
theorem Gr {l:List ByteArray}:(EV l).length=l.length:=List.length_map ..
theorem WJ {l r:List ByteArray}:EV (l++r)=EV l++EV r:=List.map_append ..
abbrev KT:ByteArray:=⟨⟨[110,111]⟩⟩
abbrev KW:ByteArray:=⟨⟨[121,101,115]⟩⟩
abbrev yn (b:Bool):ByteArray:=if b=true then KW else KT
def Er (w:WinX):List ByteArray:=[yn w.has,AS w.f.y,AS w.f.m,AS w.f.d,AS w.t.y,AS w.t.m,AS w.t.d]
abbrev Sl (w:WinX):List AV:=[bv w.has,i64 w.f.y,i64 w.f.m,i64 w.f.d,i64 w.t.y,i64 w.t.m,i64 w.t.d]
theorem Jf (w:WinX):DataW Try.prog Qh [.agg (Sl w)] (.d (.sl 1 (EV (Er w)))):=by
 refine EQ Sg (by simp) ?_
 simp -implicitDefEqProofs -proj only [go_sem,seval]
 refine EO (fun b1 hb1=>?_)
 cases hh:w.has <;> simp -implicitDefEqProofs -proj only [go_sem,seval,hh]
 all_goals
  refine E5 (Ev _) ?_
  simp -implicitDefEqProofs -proj only [go_sem,seval]
  refine E5 (Ev _) ?_
  simp -implicitDefEqProofs -proj only [go_sem,seval]
  refine E5 (Ev _) ?_
  simp -implicitDefEqProofs -proj only [go_sem,seval]
  refine E5 (Ev _) ?_
  simp -implicitDefEqProofs -proj only [go_sem,seval]
  refine E5 (Ev _) ?_
  simp -implicitDefEqProofs -proj only [go_sem,seval]
  refine Eb (Ev _) ?_
  simp -implicitDefEqProofs -proj only [go_sem,seval]
 ·have e:Er w=[KT,AS w.f.y,AS w.f.m,AS w.f.d,AS w.t.y,AS w.t.m,AS w.t.d]:=by simp [Er,hh]
  refine GK (ds:=[.str KT,.str (AS w.f.y),.str (AS w.f.m),.str (AS w.f.d),.str (AS w.t.y),.str (AS w.t.m),.str (AS w.t.d)]) rfl (fun bs hs=>?_)
  simp -implicitDefEqProofs -proj only [go_sem,seval]
  rw [e]
  exact LendV.own bs 1 7 9 7 _ ED
 ·have e:Er w=[KW,AS w.f.y,AS w.f.m,AS w.f.d,AS w.t.y,AS w.t.m,AS w.t.d]:=by simp [Er,hh]
  refine GK (ds:=[.str KW,.str (AS w.f.y),.str (AS w.f.m),.str (AS w.f.d),.str (AS w.t.y),.str (AS w.t.m),.str (AS w.t.d)]) rfl (fun bs hs=>?_)
  simp -implicitDefEqProofs -proj only [go_sem,seval]
  rw [e]
  exact LendV.own bs 1 7 9 7 _ ED
def Fi (m:MeterX):List ByteArray:=[m.nm,m.un,AS m.mx]
def Fa (x:FeeX):List ByteArray:=AS x.am::Er x.w
def Fp (x:Tier):List ByteArray:=[AS x.u,AS x.r]
def Fg (x:Adj):List ByteArray:=[AS x.k,AS x.n,AS x.m]
def IC (x:ChX):List ByteArray:=(x.me::Er x.w)++[AS x.al,AS x.bl,AS x.ki,AS x.mo,AS x.ts.length,AS x.ad.length]
def Ez (x:ChX):List ByteArray:=IC x++(x.ts.flatMap Fp++x.ad.flatMap Fg)
def IH (p:PlanX):List ByteArray:=[p.nm,p.cu]++(Er ⟨false,p.f,p.t⟩++[AS p.ms.length,AS p.fs.length,AS p.cs.length])
def Ek (p:PlanX):List ByteArray:=IH p++(p.ms.flatMap Fi++(p.fs.flatMap Fa++p.cs.flatMap Ez))
structure RwY where
 i:Nat
 c:Nat
 cap:Nat
 l:List ByteArray
theorem En {i c cap:Nat} {l:List ByteArray}:(RwY.mk i c cap l).i=i:=(rfl)
theorem El {i c cap:Nat} {l:List ByteArray}:(RwY.mk i c cap l).c=c:=(rfl)
theorem Ey {i c cap:Nat} {l:List ByteArray}:(RwY.mk i c cap l).cap=cap:=(rfl)
theorem Ej {i c cap:Nat} {l:List ByteArray}:(RwY.mk i c cap l).l=l:=(rfl)
abbrev Ga (b1:Nat) (p:PlanX) (c cap:Nat) (L:List ByteArray):List (Nat×Blk):=[(c,.row 9 1 cap (EV L)),(b1,.box 28 p.cells)]
theorem O9 {L M R T:List ByteArray} (h:L++(M++R)=T) (hT:T.length≤1000000):((EV L).length+(EV M).length)*16≤140737488355328∧(EV L).length+(EV M).length≤maxLen:=by
 have e:=congrArg List.length h
 simp -implicitDefEqProofs only [List.length_append] at e
 rw [Gr,Gr]
 simp -implicitDefEqProofs only [maxLen]
 omega
theorem GG {P:Program} {Q:Out→St→Prop} {k:List Item} {s:St} {d:Option Nat} {l:List AO} {e:TypeId} {b len cap:Nat} {z:List AV} {L M R T:List ByteArray} {x:AV} (hx:∀K,Eu s.H x K=K 1 (EV M)) (hb:s.H b=some (.row e 1 cap (EV L))) (hlb:len=L.length) (hz:z.length=1) (hT:L++(M++R)=T) (hT1:T.length≤1000000)
  (hk:∀b' cap' H' L',L'++R=T→H' b'=some (.row e 1 cap' (EV L'))→(∀k x,s.H k=some x→¬k=b→H' k=some x∧¬k=b'∧¬b'=k)→AF P Q l k (AD s d (.own b' 1 0 L'.length cap') H')):Ft e 1 16 z (.own b 1 0 len cap) x d l k s P Q:=by
 refine Gw hx hb (by rw [Gr]; exact hlb) hz (O9 hT hT1) (fun b' cap' H' h1 h2=>?_)
 have e1:len+(EV M).length=(L++M).length:=by rw [Gr,List.length_append,hlb]
 rw [e1]
 exact hk b' cap' H' (L++M) (by rw [List.append_assoc]; exact hT) (by rw [WJ]; exact h1) h2
theorem IL {α:Type} {f : α→List ByteArray} {l:List α} {i:Nat} (h:i<l.length):(l.drop i).flatMap f=f l[i]++(l.drop (i+1)).flatMap f:=by
 rw [List.drop_eq_getElem_cons h,List.flatMap_cons]
theorem H8 {α:Type} {f : α→List ByteArray} {l:List α}:(l.drop l.length).flatMap f=[]:=by rw [List.drop_length]; rfl
theorem K6 {l:List FeeX} {i:Nat} (h:i<l.length):(ER l)[((i:Int)).toNat]? = some (l[i]).el:=by rw [Int.toNat_natCast]; simp [ER,h]
theorem LH {l:List ChX} {i:Nat} (h:i<l.length):(Ee l)[((i:Int)).toNat]? = some (l[i]).el:=by rw [Int.toNat_natCast]; simp [Ee,h]
abbrev ChX.cells (x:ChX):List AV:=[.d (.str x.me),bv x.w.has,i64 x.w.f.y,i64 x.w.f.m,i64 x.w.f.d,i64 x.w.t.y,i64 x.w.t.m,i64 x.w.t.d,i64 x.al,i64 x.bl,i64 x.ki,.d (.sl 2 (Ed x.ts)),i64 x.mo,.d (.sl 3 (E1 x.ad)),i64 x.ln,i64 x.co]
abbrev JL (b9:Nat) (x:ChX) (c cap:Nat) (L:List ByteArray):List (Nat×Blk):=[(c,.row 9 1 cap (EV L)),(b9,.box 55 x.cells)]
theorem MH {p:PlanX} (hl:(Ek p).length≤1000000) (h1:p.ms.length≤1000000) (h2:p.fs.length≤1000000) (h3:p.cs.length≤1000000) (h4:∀x∈p.cs,x.ts.length≤1000000∧x.ad.length≤1000000):DataW Try.prog PF [FV p] (.d (.sl 1 (EV (Ek p)))):=by
 refine EQ Np (by simp) ?_
 simp -implicitDefEqProofs -proj only [go_sem,seval]
 refine EO (fun b1 hb1=>?_)
 simp -implicitDefEqProofs -proj only [go_sem,seval]
 refine FH (fun bs hs=>?_)
 replace hs:AH Heap.none b1 _ bs=none:=hs
 obtain ⟨n1,n2⟩:=EA hs ED
 simp -implicitDefEqProofs -proj only [go_sem,seval,n1,n2]
 refine Eb (Jf ⟨false,p.f,p.t⟩) ?_
 simp -implicitDefEqProofs -proj only [go_sem,seval,n1,n2]
 have hT:[p.nm,p.cu]++(Er ⟨false,p.f,p.t⟩++([AS p.ms.length,AS p.fs.length,AS p.cs.length]++(p.ms.flatMap Fi++(p.fs.flatMap Fa++p.cs.flatMap Ez))))=Ek p:=by simp -implicitDefEqProofs only [Ek,IH,List.append_assoc]
 refine GG (cap:=2) (e:=9) (fun K=>rfl) ED rfl rfl hT hl (fun b' cap' H' L1 hT2 q1 q2=>?_)
 obtain ⟨g1,m1,m2⟩:=q2 b1 _ ((D3 n1).trans ED) n2
 clear q2 hs hb1 n1 n2 hT
 simp -implicitDefEqProofs -proj only [go_sem,seval,g1,m1,m2,FM,FQ,Ex]
 refine E5 (Ev _) ?_
 simp -implicitDefEqProofs -proj only [go_sem,seval,g1,m1,m2,FM,FQ,Ex]
 refine E5 (Ev _) ?_
 simp -implicitDefEqProofs -proj only [go_sem,seval,g1,m1,m2,FM,FQ,Ex]
 refine Eb (Ev _) ?_
 simp -implicitDefEqProofs -proj only [go_sem,seval,g1,m1,m2,FM,FQ,Ex]
 refine GK (ds:=[.str (AS p.ms.length),.str (AS p.fs.length),.str (AS p.cs.length)]) rfl (fun bs hs=>?_)
 replace hs:H' bs=none:=hs
 obtain ⟨n1,n2⟩:=EA hs q1
 obtain ⟨n3,n4⟩:=EA hs g1
 simp -implicitDefEqProofs -proj only [go_sem,seval,n1,n2]
 refine GG (M:=[AS p.ms.length,AS p.fs.length,AS p.cs.length]) (GA ED rfl) ((D3 n1).trans q1) rfl rfl hT2 hl (fun b2 cap2 H2 L2 hT3 r1 r2=>?_)
 obtain ⟨u1,m3,m4⟩:=r2 b1 _ ((D3 n3).trans g1) m1
 clear r2 hs n1 n2 n3 n4 hT2 g1 q1 m1 m2
 simp -implicitDefEqProofs -proj only [go_sem,seval,u1,FM]
 refine Ec (fun y:RwY=>y.i≤p.ms.length∧¬b1=y.c∧y.l++((p.ms.drop y.i).flatMap Fi++(p.fs.flatMap Fa++p.cs.flatMap Ez))=Ek p) 156 (fun y=>[(1,.ptr b1 0),(3,.own y.c 1 0 y.l.length y.cap),(43,.d (.sl 5 (D7 p.ms))),(44,i64 p.ms.length),(45,i64 y.i)]) (fun y=>Ga b1 p y.c y.cap y.l) (fun y=>p.ms.length-y.i) ⟨0,b2,cap2,L2⟩ ⟨Nat.zero_le _,m3,hT3⟩ rfl ?_ ?_ ?_
 ·simp -implicitDefEqProofs -proj only [go_sem,seval,Dn,En,El,Ey,Ej]
 ·simp -implicitDefEqProofs -proj only [go_sem,seval]
  exact ⟨r1,u1,trivial⟩
 clear u1 r1 hT3 m3 m4
 rintro ⟨i,c,cap,L⟩ ⟨hi,hcb,hL⟩
 simp -implicitDefEqProofs only [En,El,Ej] at hi hcb hL
 have hall:AT (D4 (Ga b1 p c cap L)) (Ga b1 p c cap L):=Ep (by simp [AQ]; exact fun e=>hcb e.symm)
 obtain ⟨H,hH⟩:∃H,D4 (Ga b1 p c cap L)=H:=⟨_,rfl⟩
 rw [hH] at hall
 obtain ⟨q1,g1,qz⟩:=hall
 clear qz
 by_cases h:i<p.ms.length
 ·have hel:=Kf h
  rw [IL h,List.append_assoc] at hL
  generalize p.ms[i]=m at *
  simp -implicitDefEqProofs -proj only [go_sem,seval,En,El,Ey,Ej,hH,decide_eq_true (show (i:Int)<p.ms.length by omega)]
  refine Es _ (by omega) hel ?_
  simp -implicitDefEqProofs -proj only [go_sem,seval]
  refine EO (fun b5 hb5=>?_)
  replace hb5:H b5=none:=hb5
  obtain ⟨n1,n2⟩:=EA hb5 q1
  obtain ⟨n3,n4⟩:=EA hb5 g1
  simp -implicitDefEqProofs -proj only [go_sem,seval]
  refine E5 (Ev _) ?_
  simp -implicitDefEqProofs -proj only [go_sem,seval]
  refine GK (ds:=[.str m.nm,.str m.un,.str (AS m.mx)]) rfl (fun bs hs=>?_)
  replace hs:AH H b5 _ bs=none:=hs
  obtain ⟨n5,n6⟩:=EA hs ((D3 n1).trans q1)
  obtain ⟨n7,n8⟩:=EA hs ((D3 n3).trans g1)
  simp -implicitDefEqProofs -proj only [go_sem,seval]
  refine GG (M:=Fi m) (GA ED rfl) ((D3 n5).trans ((D3 n1).trans q1)) rfl rfl hL hl (fun c' cap' H' L' hL' r1 r2=>?_)
  obtain ⟨u1,m3,m4⟩:=r2 b1 _ ((D3 n7).trans ((D3 n3).trans g1)) hcb
  simp -implicitDefEqProofs -proj only [go_sem,seval]
  refine Em ⟨i+1,c',cap',L'⟩ ⟨by show i+1≤_; omega,m3,hL'⟩ (by show p.ms.length-(i+1)<p.ms.length-i; omega) rfl ?_ ⟨r1,u1,trivial⟩
  simp -implicitDefEqProofs -proj only [go_sem,seval,Dn,En,El,Ey,Ej,E8 (show i<9223372036854775807 by omega)]
 have hi':i=p.ms.length:=by omega
 subst hi'
 rw [H8,List.nil_append] at hL
 clear h hi
 simp -implicitDefEqProofs -proj only [go_sem,seval,En,El,Ey,Ej,hH,g1,FQ,decide_eq_false (show ¬(p.ms.length:Int)<p.ms.length by omega)]
 clear hH
 refine Ec (fun y:RwY=>y.i≤p.fs.length∧¬b1=y.c∧y.l++((p.fs.drop y.i).flatMap Fa++p.cs.flatMap Ez)=Ek p) 156 (fun y=>[(1,.ptr b1 0),(3,.own y.c 1 0 y.l.length y.cap),(61,.d (.sl 10 (ER p.fs))),(62,i64 p.fs.length),(63,i64 y.i)]) (fun y=>Ga b1 p y.c y.cap y.l) (fun y=>p.fs.length-y.i) ⟨0,c,cap,L⟩ ⟨Nat.zero_le _,hcb,hL⟩ rfl ?_ ?_ ?_
 ·simp -implicitDefEqProofs -proj only [go_sem,seval,Dn,En,El,Ey,Ej]
 ·exact ⟨q1,g1,trivial⟩
 clear q1 g1 hL hcb
 clear L cap c H
 rintro ⟨i,c,cap,L⟩ ⟨hi,hcb,hL⟩
 simp -implicitDefEqProofs only [En,El,Ej] at hi hcb hL
 have hall:AT (D4 (Ga b1 p c cap L)) (Ga b1 p c cap L):=Ep (by simp [AQ]; exact fun e=>hcb e.symm)
 obtain ⟨H,hH⟩:∃H,D4 (Ga b1 p c cap L)=H:=⟨_,rfl⟩
 rw [hH] at hall
 obtain ⟨q1,g1,qz⟩:=hall
 clear qz
 by_cases h:i<p.fs.length
 ·have hel:=K6 h
  rw [IL h,List.append_assoc] at hL
  generalize p.fs[i]=x at *
  simp -implicitDefEqProofs -proj only [go_sem,seval,En,El,Ey,Ej,hH,decide_eq_true (show (i:Int)<p.fs.length by omega)]
  refine Es _ (by omega) hel ?_
  simp -implicitDefEqProofs -proj only [go_sem,seval]
  refine EO (fun b5 hb5=>?_)
  replace hb5:H b5=none:=hb5
  obtain ⟨n1,n2⟩:=EA hb5 q1
  obtain ⟨n3,n4⟩:=EA hb5 g1
  simp -implicitDefEqProofs -proj only [go_sem,seval]
  refine E5 (Ev _) ?_
  simp -implicitDefEqProofs -proj only [go_sem,seval]
  refine GK (ds:=[.str (AS x.am)]) rfl (fun bs hs=>?_)
  replace hs:AH H b5 _ bs=none:=hs
  obtain ⟨n5,n6⟩:=EA hs ((D3 n1).trans q1)
  obtain ⟨n7,n8⟩:=EA hs ((D3 n3).trans g1)
  simp -implicitDefEqProofs -proj only [go_sem,seval]
  refine GG (M:=[AS x.am]) (R:=Er x.w++((p.fs.drop (i+1)).flatMap Fa++p.cs.flatMap Ez)) (GA ED rfl) ((D3 n5).trans ((D3 n1).trans q1)) rfl rfl hL hl (fun c' cap' H' L' hL' r1 r2=>?_)
  obtain ⟨u1,m3,m4⟩:=r2 b1 _ ((D3 n7).trans ((D3 n3).trans g1)) hcb
  simp -implicitDefEqProofs -proj only [go_sem,seval]
  refine Eb (Jf x.w) ?_
  simp -implicitDefEqProofs -proj only [go_sem,seval]
  refine GG (M:=Er x.w) (fun K=>rfl) r1 rfl rfl hL' hl (fun c2 cap2 H2 L2 hL2 s1 s2=>?_)
  obtain ⟨v1,m5,m6⟩:=s2 b1 _ u1 m3
  simp -implicitDefEqProofs -proj only [go_sem,seval]
  refine Em ⟨i+1,c2,cap2,L2⟩ ⟨by show i+1≤_; omega,m5,hL2⟩ (by show p.fs.length-(i+1)<p.fs.length-i; omega) rfl ?_ ⟨s1,v1,trivial⟩
  simp -implicitDefEqProofs -proj only [go_sem,seval,Dn,En,El,Ey,Ej,E8 (show i<9223372036854775807 by omega)]
 have hi':i=p.fs.length:=by omega
 subst hi'
 rw [H8,List.nil_append] at hL
 clear h hi
 simp -implicitDefEqProofs -proj only [go_sem,seval,En,El,Ey,Ej,hH,g1,Ex,decide_eq_false (show ¬(p.fs.length:Int)<p.fs.length by omega)]
 clear hH
 have hL0:L++(p.cs.drop 0).flatMap Ez=Ek p:=hL
 refine Ec (fun y:RwY=>y.i≤p.cs.length∧y.l++(p.cs.drop y.i).flatMap Ez=Ek p) 156 (fun y=>[(3,.own y.c 1 0 y.l.length y.cap),(79,.d (.sl 16 (Ee p.cs))),(80,i64 p.cs.length),(81,i64 y.i)]) (fun y=>[(y.c,.row 9 1 y.cap (EV y.l))]) (fun y=>p.cs.length-y.i) ⟨0,c,cap,L⟩ ⟨Nat.zero_le _,hL0⟩ rfl ?_ ?_ ?_
 ·simp -implicitDefEqProofs -proj only [go_sem,seval,Dn,En,El,Ey,Ej]
 ·exact ⟨q1,trivial⟩
 clear q1 g1 hL hL0 hcb
 clear L cap c H
 rintro ⟨i,c,cap,L⟩ ⟨hi,hL⟩
 simp -implicitDefEqProofs only [En,El,Ej] at hi hL
 have hall:AT (D4 [(c,Blk.row 9 1 cap (EV L))]) [(c,.row 9 1 cap (EV L))]:=Ep (by simp [AQ])
 obtain ⟨H,hH⟩:∃H,D4 [(c,Blk.row 9 1 cap (EV L))]=H:=⟨_,rfl⟩
 rw [hH] at hall
 obtain ⟨q1,qz⟩:=hall
 clear qz
 by_cases h:i<p.cs.length
 ·have hel:=LH h
  have hbd:=h4 _ (List.getElem_mem h)
  rw [IL h] at hL
  generalize p.cs[i]=x at *
  have hL:L++([x.me]++(Er x.w++([AS x.al,AS x.bl,AS x.ki,AS x.mo,AS x.ts.length,AS x.ad.length]++(x.ts.flatMap Fp++(x.ad.flatMap Fg++(p.cs.drop (i+1)).flatMap Ez)))))=Ek p:=by
   rw [←hL]
   simp -implicitDefEqProofs only [Ez,IC,List.append_assoc,List.cons_append,List.nil_append]
  simp -implicitDefEqProofs -proj only [go_sem,seval,En,El,Ey,Ej,hH,decide_eq_true (show (i:Int)<p.cs.length by omega)]
  refine Es _ (by omega) hel ?_
  simp -implicitDefEqProofs -proj only [go_sem,seval]
  refine EO (fun b9 hb9=>?_)
  replace hb9:H b9=none:=hb9
  obtain ⟨n1,n2⟩:=EA hb9 q1
  simp -implicitDefEqProofs -proj only [go_sem,seval]
  refine GK (ds:=[.str x.me]) rfl (fun bs hs=>?_)
  replace hs:AH H b9 _ bs=none:=hs
  obtain ⟨n5,n6⟩:=EA hs ((D3 n1).trans q1)
  obtain ⟨n7,n8⟩:=EA hs ED
  simp -implicitDefEqProofs -proj only [go_sem,seval]
  refine GG (M:=[x.me]) (GA ED rfl) ((D3 n5).trans ((D3 n1).trans q1)) rfl rfl hL hl (fun c2 cap2 H2 L2 hL2 r1 r2=>?_)
  obtain ⟨u1,m3,m4⟩:=r2 b9 _ ((D3 n7).trans ED) n1
  clear r2 hs n5 n6 n7 n8 hb9 n1 n2 q1 hL
  simp -implicitDefEqProofs -proj only [go_sem,seval]
  refine Eb (Jf x.w) ?_
  simp -implicitDefEqProofs -proj only [go_sem,seval]
  refine GG (M:=Er x.w) (fun K=>rfl) r1 rfl rfl hL2 hl (fun c3 cap3 H3 L3 hL3 s1 s2=>?_)
  obtain ⟨v1,m5,m6⟩:=s2 b9 _ u1 m3
  clear s2 m3 m4 u1 r1 hL2
  simp -implicitDefEqProofs -proj only [go_sem,seval,v1]
  refine E5 (Ev _) ?_
  simp -implicitDefEqProofs -proj only [go_sem,seval,v1]
  refine E5 (Ev _) ?_
  simp -implicitDefEqProofs -proj only [go_sem,seval,v1]
  refine E5 (Ev _) ?_
  simp -implicitDefEqProofs -proj only [go_sem,seval,v1]
  refine E5 (Ev _) ?_
  simp -implicitDefEqProofs -proj only [go_sem,seval,v1,GI]
  refine E5 (Ev _) ?_
  simp -implicitDefEqProofs -proj only [go_sem,seval,v1,GL]
  refine Eb (Ev _) ?_
  simp -implicitDefEqProofs -proj only [go_sem,seval,v1]
  refine GK (ds:=[.str (AS x.al),.str (AS x.bl),.str (AS x.ki),.str (AS x.mo),.str (AS x.ts.length),.str (AS x.ad.length)]) rfl (fun bs hs=>?_)
  replace hs:H3 bs=none:=hs
  obtain ⟨n5,n6⟩:=EA hs s1
  obtain ⟨n7,n8⟩:=EA hs v1
  simp -implicitDefEqProofs -proj only [go_sem,seval]
  refine GG (M:=[AS x.al,AS x.bl,AS x.ki,AS x.mo,AS x.ts.length,AS x.ad.length]) (GA ED rfl) ((D3 n5).trans s1) rfl rfl hL3 hl (fun c4 cap4 H4 L4 hL4 r1 r2=>?_)
  obtain ⟨u1,m3,m4⟩:=r2 b9 _ ((D3 n7).trans v1) m5
  clear r2 hs n5 n6 n7 n8 m5 m6 v1 s1 hL3
  simp -implicitDefEqProofs -proj only [go_sem,seval,u1,GI]
  have hx1:=hbd.1
  have hx2:=hbd.2
  refine Ec (fun y:RwY=>y.i≤x.ts.length∧¬b9=y.c∧y.l++((x.ts.drop y.i).flatMap Fp++(x.ad.flatMap Fg++(p.cs.drop (i+1)).flatMap Ez))=Ek p) 156 (fun y=>[(9,.ptr b9 0),(3,.own y.c 1 0 y.l.length y.cap),(79,.d (.sl 16 (Ee p.cs))),(80,i64 p.cs.length),(81,i64 i),(118,.d (.sl 2 (Ed x.ts))),(119,i64 x.ts.length),(120,i64 y.i)]) (fun y=>JL b9 x y.c y.cap y.l) (fun y=>x.ts.length-y.i) ⟨0,c4,cap4,L4⟩ ⟨Nat.zero_le _,m3,hL4⟩ rfl ?_ ?_ ?_
  ·simp -implicitDefEqProofs -proj only [go_sem,seval,Dn,En,El,Ey,Ej]
  ·exact ⟨r1,u1,trivial⟩
  clear r1 u1 m3 m4 hL4
  rintro ⟨j,c,cap,L⟩ ⟨hj,hcb,hL⟩
  simp -implicitDefEqProofs only [En,El,Ej] at hj hcb hL
  have hall:AT (D4 (JL b9 x c cap L)) (JL b9 x c cap L):=Ep (by simp [AQ]; exact fun e=>hcb e.symm)
  obtain ⟨H,hH⟩:∃H,D4 (JL b9 x c cap L)=H:=⟨_,rfl⟩
  rw [hH] at hall
  obtain ⟨q1,g1,qz⟩:=hall
  clear qz
  by_cases h:j<x.ts.length
  ·have hel:=Vp h
   rw [IL h,List.append_assoc] at hL
   generalize x.ts[j]=t at *
   simp -implicitDefEqProofs -proj only [go_sem,seval,En,El,Ey,Ej,hH,decide_eq_true (show (j:Int)<x.ts.length by omega)]
   refine Es _ (by omega) hel ?_
   simp -implicitDefEqProofs -proj only [go_sem,seval]
   refine EO (fun b5 hb5=>?_)
   replace hb5:H b5=none:=hb5
   obtain ⟨n1,n2⟩:=EA hb5 q1
   obtain ⟨n3,n4⟩:=EA hb5 g1
   simp -implicitDefEqProofs -proj only [go_sem,seval]
   refine E5 (Ev _) ?_
   simp -implicitDefEqProofs -proj only [go_sem,seval]
   refine Eb (Ev _) ?_
   simp -implicitDefEqProofs -proj only [go_sem,seval]
   refine GK (ds:=[.str (AS t.u),.str (AS t.r)]) rfl (fun bs hs=>?_)
   replace hs:AH H b5 _ bs=none:=hs
   obtain ⟨n5,n6⟩:=EA hs ((D3 n1).trans q1)
   obtain ⟨n7,n8⟩:=EA hs ((D3 n3).trans g1)
   simp -implicitDefEqProofs -proj only [go_sem,seval]
   refine GG (M:=Fp t) (GA ED rfl) ((D3 n5).trans ((D3 n1).trans q1)) rfl rfl hL hl (fun c' cap' H' L' hL' r1 r2=>?_)
   obtain ⟨u1,m3,m4⟩:=r2 b9 _ ((D3 n7).trans ((D3 n3).trans g1)) hcb
   simp -implicitDefEqProofs -proj only [go_sem,seval]
   refine Em ⟨j+1,c',cap',L'⟩ ⟨by show j+1≤_; omega,m3,hL'⟩ (by show x.ts.length-(j+1)<x.ts.length-j; omega) rfl ?_ ⟨r1,u1,trivial⟩
   simp -implicitDefEqProofs -proj only [go_sem,seval,Dn,En,El,Ey,Ej,E8 (show j<9223372036854775807 by omega)]
  have hj':j=x.ts.length:=by omega
  subst hj'
  rw [H8,List.nil_append] at hL
  clear h hj
  simp -implicitDefEqProofs -proj only [go_sem,seval,En,El,Ey,Ej,hH,g1,GL,decide_eq_false (show ¬(x.ts.length:Int)<x.ts.length by omega)]
  clear hH
  refine Ec (fun y:RwY=>y.i≤x.ad.length∧y.l++((x.ad.drop y.i).flatMap Fg++(p.cs.drop (i+1)).flatMap Ez)=Ek p) 156 (fun y=>[(3,.own y.c 1 0 y.l.length y.cap),(79,.d (.sl 16 (Ee p.cs))),(80,i64 p.cs.length),(81,i64 i),(135,.d (.sl 3 (E1 x.ad))),(136,i64 x.ad.length),(137,i64 y.i)]) (fun y=>[(y.c,.row 9 1 y.cap (EV y.l))]) (fun y=>x.ad.length-y.i) ⟨0,c,cap,L⟩ ⟨Nat.zero_le _,hL⟩ rfl ?_ ?_ ?_
  ·simp -implicitDefEqProofs -proj only [go_sem,seval,Dn,En,El,Ey,Ej]
  ·exact ⟨q1,trivial⟩
  clear q1 g1 hL hcb
  clear L cap c H
  rintro ⟨j,c,cap,L⟩ ⟨hj,hL⟩
  simp -implicitDefEqProofs only [En,El,Ej] at hj hL
  have hall:AT (D4 [(c,Blk.row 9 1 cap (EV L))]) [(c,.row 9 1 cap (EV L))]:=Ep (by simp [AQ])
  obtain ⟨H,hH⟩:∃H,D4 [(c,Blk.row 9 1 cap (EV L))]=H:=⟨_,rfl⟩
  rw [hH] at hall
  obtain ⟨q1,qz⟩:=hall
  clear qz
  by_cases h:j<x.ad.length
  ·have hel:=PJ h
   rw [IL h,List.append_assoc] at hL
   generalize x.ad[j]=t at *
   simp -implicitDefEqProofs -proj only [go_sem,seval,En,El,Ey,Ej,hH,decide_eq_true (show (j:Int)<x.ad.length by omega)]
   refine Es _ (by omega) hel ?_
   simp -implicitDefEqProofs -proj only [go_sem,seval]
   refine EO (fun b5 hb5=>?_)
   replace hb5:H b5=none:=hb5
   obtain ⟨n1,n2⟩:=EA hb5 q1
   simp -implicitDefEqProofs -proj only [go_sem,seval]
   refine E5 (Ev _) ?_
   simp -implicitDefEqProofs -proj only [go_sem,seval]
   refine E5 (Ev _) ?_
   simp -implicitDefEqProofs -proj only [go_sem,seval]
   refine Eb (Ev _) ?_
   simp -implicitDefEqProofs -proj only [go_sem,seval]
   refine GK (ds:=[.str (AS t.k),.str (AS t.n),.str (AS t.m)]) rfl (fun bs hs=>?_)
   replace hs:AH H b5 _ bs=none:=hs
   obtain ⟨n5,n6⟩:=EA hs ((D3 n1).trans q1)
   simp -implicitDefEqProofs -proj only [go_sem,seval]
   refine GG (M:=Fg t) (GA ED rfl) ((D3 n5).trans ((D3 n1).trans q1)) rfl rfl hL hl (fun c' cap' H' L' hL' r1 r2=>?_)
   simp -implicitDefEqProofs -proj only [go_sem,seval]
   refine Em ⟨j+1,c',cap',L'⟩ ⟨by show j+1≤_; omega,hL'⟩ (by show x.ad.length-(j+1)<x.ad.length-j; omega) rfl ?_ ⟨r1,trivial⟩
   simp -implicitDefEqProofs -proj only [go_sem,seval,Dn,En,El,Ey,Ej,E8 (show j<9223372036854775807 by omega)]
  have hj':j=x.ad.length:=by omega
  subst hj'
  rw [H8,List.nil_append] at hL
  clear h hj
  simp -implicitDefEqProofs -proj only [go_sem,seval,En,El,Ey,Ej,hH,decide_eq_false (show ¬(x.ad.length:Int)<x.ad.length by omega)]
  refine Em ⟨i+1,c,cap,L⟩ ⟨by show i+1≤_; omega,hL⟩ (by show p.cs.length-(i+1)<p.cs.length-i; omega) rfl ?_ ⟨q1,trivial⟩
  simp -implicitDefEqProofs -proj only [go_sem,seval,Dn,En,El,Ey,Ej,E8 (show i<9223372036854775807 by omega)]
 have hi':i=p.cs.length:=by omega
 subst hi'
 rw [H8,List.append_nil] at hL
 subst hL
 simp -implicitDefEqProofs -proj only [go_sem,seval,En,El,Ey,Ej,hH,decide_eq_false (show ¬(p.cs.length:Int)<p.cs.length by omega)]
 have:=LendV.own c 1 cap 9 cap (EV (Ek p)) q1
 rwa [Gr] at this
theorem Tv {P:Program} {f:FuncId} {args:List AV} {H0 H:Heap} {K:AV→Heap→Prop} (h:CallW P f args H0 K) (hs:∀k,H0 k=none∨H0 k=H k) :
  CallW P f args H fun r H'=>∃H1,K r H1∧(∀k x,H1 k=some x→H' k=some x)∧∀k x,H k=some x→H0 k=none→H' k=some x:=by
 classical
 intro F w vs hh hv
 have hsub:∀b x,H0 b=some x→H b=some x:=fun b x hb=>by
  rcases hs b with e | e
  ·rw [e] at hb; cases hb
  ·rw [←e]; exact hb
 have hh0:HRel P F H0 w:=⟨fun b x hb=>hh.at_ b x (hsub b x hb),fun b x hb=>hh.apart b x (hsub b x hb),hh.old⟩
 refine (h F w vs hh0 hv).mono fun e w' hr=>?_
 obtain ⟨r,H1,F',v,rfl,h1,h2,h3,h4⟩:=hr
 have hF0:∀k,F k→H0 k=none:=fun k hk=>by
  cases e:H0 k with
  | none=>rfl
  | some x=>exact absurd hk (hh0.apart k x e)
 have hne:∀k,H0 k≠none→H k≠none:=fun k hk=>by
  cases e:H0 k with
  | none=>exact absurd e hk
  | some x=>rw [hsub k x e]; simp
 have hfr:∀k x,H1 k=some x→¬(H k≠none∧H0 k=none):=fun k x hx hk=>by
  rcases h3.dom k (by rw [hx]; simp) with e | e
  ·exact e hk.2
  ·cases e2:H k with
   | none=>exact hk.1 e2
   | some y=>have:=(hh.at_ k y e2).lt; omega
 refine ⟨r,fun k=>if H k≠none∧H0 k=none then H k else H1 k,F',v,rfl,h1,⟨fun b x hb=>?_,fun b x hb hf=>?_,h2.old⟩,⟨h3.os,h3.tape,h3.output,h3.size,fun k hk e=>h3.keep k hk ?_,fun k hk=>?_,h3.mono,fun k hk=>?_⟩,H1,h4,fun k x hx=>?_,fun k x hx hk=>?_⟩
 ·by_cases e:H b≠none∧H0 b=none
  ·rw [if_pos e] at hb
   exact (hh.at_ b x hb).mono (h3.keep b (hh.at_ b x hb).lt e.2) h3.mono (fun k hk=>h3.keep k (hh.old k hk) (hF0 k hk))
  ·rw [if_neg e] at hb
   exact h2.at_ b x hb
 ·by_cases e:H b≠none∧H0 b=none
  ·rw [if_pos e] at hb
   rcases h3.new b hf with e2 | e2 | e2
   ·exact hh.apart b x hb e2
   ·exact e2 e.2
   ·have:=(hh.at_ b x hb).lt; omega
  ·rw [if_neg e] at hb
   exact h2.apart b x hb hf
 ·rcases hs k with e2 | e2
  ·exact e2
  ·rw [e2,e]
 ·by_cases e:H k≠none∧H0 k=none
  ·exact .inl e.1
  ·rw [if_neg e] at hk
   exact (h3.dom k hk).imp (hne k) id
 ·rcases h3.new k hk with e | e | e
  ·exact .inl e
  ·exact .inr (.inl (hne k e))
  ·exact .inr (.inr e)
 ·show (if H k≠none∧H0 k=none then H k else H1 k)=some x
  rw [if_neg (hfr k x hx)]
  exact hx
 ·show (if H k≠none∧H0 k=none then H k else H1 k)=some x
  rw [if_pos ⟨by rw [hx]; simp,hk⟩]
  exact hx
def Redesc (P:Program) (H H':Heap):Prop:=∀F w,HRel P F H w→∃F',HRel P F' H' w∧Step F H w F' H' w
theorem DefOK.step {B:Nat} {F F':Nat→Prop} {H H':Heap} {ds:List Deferred} {w:World} (h:DefOK B F H ds w) (st:Step F H w F' H' w):DefOK B F' H' ds w:=by
 obtain ⟨h1,ms,h2,h3,h4⟩:=h
 refine ⟨h1,ms,h2,h3,fun D hD=>?_⟩
 obtain ⟨g1,g2,g3,g4⟩:=h4 D hD
 have hlt:D<w.heap.size:=by
  rcases Nat.lt_or_ge D w.heap.size with h | h
  ·exact h
  ·rw [Array.getElem?_eq_none h] at g4; cases g4
 refine ⟨g1,?_,fun hf=>?_,g4⟩
 ·cases e:H' D with
  | none=>rfl
  | some x =>
   rcases st.dom D (by rw [e]; simp) with k | k
   ·exact absurd g2 k
   ·omega
 ·rcases st.new D hf with k | k | k
  ·exact g3 k
  ·exact k g2
  ·omega
theorem Redesc.loop {P:Program} {Q:Out→St→Prop} {b:ACode} {k:List Item} {s:St} {H':Heap} (hd:Redesc P s.H H') (h:HI P Q b k ⟨s.n,s.t,H'⟩):HI P Q b k s:=by
 intro r c0 hc hr B F a w hR
 obtain ⟨F',h1,h2⟩:=hd F w hR.1
 exact Code.wpIn_mono (fun e a' w' ⟨o,s',F2,g1,g2,g3,g4⟩=>⟨o,s',F2,g1,g2,h2.trans g3,g4⟩) (h r c0 hc hr B F' a w ⟨h1,hR.2.1.step h2,hR.2.2.1,fun t=>(hR.2.2.2 t).mono h2.mono (fun _ _=>rfl)⟩)
theorem Redesc.call {P:Program} {f:FuncId} {args:List AV} {H H':Heap} {K:AV→Heap→Prop} (hd:Redesc P H H') (h:CallW P f args H' K):CallW P f args H K:=by
 intro F w vs hh hv
 obtain ⟨F',h1,h2⟩:=hd F w hh
 exact (h F' w vs h1 (hv.mono h2.mono (fun _ _=>rfl))).mono fun e w' ⟨r,H2,F2,v,g1,g2,g3,g4,g5⟩=>⟨r,H2,F2,v,g1,g2,g3,h2.trans g4,g5⟩
theorem CallW.redesc {P:Program} {f:FuncId} {args:List AV} {H:Heap} {K K2:AV→Heap→Prop} (h:CallW P f args H K) (hk:∀r H',K r H'→∃H2,Redesc P H' H2∧K2 r H2):CallW P f args H K2:=by
 intro F w vs hh hv
 refine (h F w vs hh hv).mono fun e w' ⟨r,H',F',v,g1,g2,g3,g4,g5⟩=>?_
 obtain ⟨H2,hd,h2⟩:=hk r H' g5
 obtain ⟨F2,h3,h4⟩:=hd F' w' g3
 exact ⟨r,H2,F2,v,g1,g2.mono h4.mono (fun _ _=>rfl),h3,g4.trans h4,h2⟩
theorem Rt {P:Program} {Q:Out→St→Prop} {b:ACode} {k:List Item} {s:St} {c sz cap:Nat} {e:TypeId} {xs:List (List D)} (hb:s.H c=some (.row e sz cap xs)) (h:xs.length≤cap∧cap≤maxLen→HI P Q b k s):HI P Q b k s:=by
 intro r c0 hc hr B F a w hR
 obtain ⟨cur,g1,g2,g3,g4,_⟩:=hR.1.at_ _ _ hb
 exact h ⟨g3,g4⟩ r c0 hc hr B F a w hR
theorem GX {α:Type} {sz:Nat}:∀{xs:List (List α)},(∀el∈xs,el.length=sz)→xs.flatten.length=xs.length*sz
 | [],_=>by simp
 | x::xs,h=>by
  rw [List.flatten_cons,List.length_append,h x (by simp),GX (fun el he=>h el (by simp [he])),List.length_cons,Nat.add_mul]; omega
theorem I1 {α:Type} {sz:Nat}:∀{xs:List (List α)} {i j:Nat} {el:List α},(∀el∈xs,el.length=sz)→xs[i]? = some el→j<sz→xs.flatten[i*sz+j]? = el[j]?
 | [],i,j,el,_,h,_=>by simp at h
 | x::xs,0,j,el,hs,h,hj=>by
  simp -implicitDefEqProofs only [List.getElem?_cons_zero,Option.some.injEq] at h
  subst h
  rw [List.flatten_cons,Nat.zero_mul,Nat.zero_add,List.getElem?_append_left (by rw [hs x (by simp)]; exact hj)]
 | x::xs,i+1,j,el,hs,h,hj=>by
  have hx:=hs x (by simp)
  rw [List.flatten_cons,List.getElem?_append_right (by rw [hx,Nat.add_mul]; omega),hx,show (i+1)*sz+j-sz=i*sz+j by rw [Nat.add_mul]; omega]
  exact I1 (fun el he=>hs el (by simp [he])) (by simpa using h) hj
def Hw (sz cap:Nat) (xs:List (List D)):List AV:=(xs.map mapD).flatten++List.replicate (cap*sz-xs.length*sz) .undef
theorem O5 {P:Program} {H:Heap} {b sz cap:Nat} {e:TypeId} {xs:List (List D)} (hb:H b=some (.row e sz cap xs)):Redesc P H (AH H b (some (.box e (Hw sz cap xs)))):=by
 intro F w hh
 obtain ⟨cur,g1,g2,g3,g4,g5,g6,g7,g8⟩:=hh.at_ _ _ hb
 have hml:∀zs∈xs.map mapD,zs.length=sz:=fun zs ha=>by
  obtain ⟨el,he,rfl⟩:=List.mem_map.1 ha
  rw [G8,List.length_map]; exact g6 el he
 have hfl:(xs.map mapD).flatten.length=xs.length*sz:=by rw [GX hml,List.length_map]
 have hle:xs.length*sz≤cap*sz:=Nat.mul_le_mul_right _ g3
 refine ⟨F,hh.turn hb (fun _ _=>rfl) rfl ⟨cur,g1,⟨?_,fun k x v h1 h2=>?_⟩,g8⟩,Step.turn hb (fun _ _=>rfl) rfl rfl rfl rfl⟩
 ·rw [Hw,List.length_append,hfl,List.length_replicate,g2]; omega
 ·rcases Nat.lt_or_ge k (xs.length*sz) with hk | hk
  ·have hi:k / sz<xs.length:=Nat.div_lt_of_lt_mul (by rw [Nat.mul_comm]; exact hk)
   have hj:k % sz<sz:=Nat.mod_lt _ g5
   have hd:k / sz*sz+k % sz=k:=by rw [Nat.mul_comm]; exact Nat.div_add_mod k sz
   have h1':(xs.map mapD).flatten[k / sz*sz+k % sz]? = some x:=by
    rw [hd]
    rw [Hw,List.getElem?_append_left (by rw [hfl]; exact hk)] at h1
    exact h1
   rw [I1 hml (el:=mapD xs[k / sz]) (by simp [hi]) hj,G8,List.getElem?_map,Option.map_eq_some_iff] at h1'
   obtain ⟨c,h3,rfl⟩:=h1'
   refine .d _ _ (g7 (k / sz) (k % sz) xs[k / sz] c v (List.getElem?_eq_getElem hi) h3 ?_)
   rw [hd]; exact h2
  ·rw [Hw,List.getElem?_append_right (by rw [hfl]; exact hk),hfl] at h1
   have:x = .undef:=by
    have:=List.mem_of_getElem? h1
    exact (List.mem_replicate.1 this).2
   subst this
   exact .undef _
def KU (H Hr:Heap) (b:Nat) (x:Blk):Heap:=fun k=>if k=b then some x else if Hr k=none then H k else none
theorem IU {H Hr:Heap} {b:Nat} {x:Blk} {k:Nat}:KU H Hr b x k=if k=b then some x else if Hr k=none then H k else none:=rfl
theorem QM {P:Program} {H Hr:Heap} {b sz cap:Nat} {e:TypeId} {L:List (List AV)} {pad:List AV} {xs:List (List D)} (hb:H b=some (.box e (L.flatten++pad))) (hr:∀k,Hr k=none∨Hr k=H k) (hrb:Hr b=none) (hL:L.length=xs.length)
  (hl:∀(i:Nat) zs el,L[i]? = some zs→xs[i]? = some el→LendL Hr zs (mapD el)) (hsz:∀el∈xs,el.length=sz) (h0:0<sz) (hcap:(L.flatten++pad).length=cap*sz) (hle:xs.length≤cap) (hm:cap≤maxLen) :
  Redesc P H (KU H Hr b (.row e sz cap xs)):=by
 intro F w hh
 obtain ⟨cur,g1,g2,g3⟩:=hh.at_ _ _ hb
 have hsub:∀k x,Hr k=some x→H k=some x:=fun k x hk=>by
  rcases hr k with e | e
  ·rw [e] at hk; cases hk
  ·rw [←e]; exact hk
 have hrel:HRel P F Hr w:=⟨fun k x hk=>hh.at_ k x (hsub k x hk),fun k x hk=>hh.apart k x (hsub k x hk),hh.old⟩
 have hal:∀(i:Nat) zs,L[i]? = some zs→zs.length=sz:=fun i zs ha=>by
  have hi:i<xs.length:=by rw [←hL]; exact (List.getElem?_eq_some_iff.1 ha).1
  rw [(hl i zs xs[i] ha (List.getElem?_eq_getElem hi)).1,G8,List.length_map]
  exact hsz _ (List.getElem_mem hi)
 have hal':∀zs∈L,zs.length=sz:=fun zs ha=>by
  obtain ⟨i,hi,rfl⟩:=List.getElem_of_mem ha
  exact hal i _ (List.getElem?_eq_getElem hi)
 have key:BR P (fun k=>F k∨FI Hr k) w b (.row e sz cap xs):=by
  refine ⟨cur,g1,by rw [←g2.1]; exact hcap,hle,hm,h0,hsz,fun i j el c u e1 e2 e3=>?_,g3⟩
  have hi:i<L.length:=by rw [hL]; exact (List.getElem?_eq_some_iff.1 e1).1
  have ha:L[i]? = some L[i]:=List.getElem?_eq_getElem hi
  have hj:j<sz:=by
   have h1:=(List.getElem?_eq_some_iff.1 e2).1
   rw [hsz el (List.mem_of_getElem? e1)] at h1
   exact h1
  have hj':j<(L[i]).length:=by rw [hal i _ ha]; exact hj
  have hv:VR P F w (L[i])[j] u:=by
   refine g2.2 (i*sz+j) _ u ?_ e3
   have hlt:i*sz+j<L.flatten.length:=by
    rw [GX hal']
    have:(i+1)*sz≤L.length*sz:=Nat.mul_le_mul_right _ hi
    rw [Nat.add_mul] at this; omega
   rw [List.getElem?_append_left hlt,I1 hal' ha hj]
   exact List.getElem?_eq_getElem hj'
  have hle:=(hl i _ el ha e1).2 j _ (.d c) (List.getElem?_eq_getElem hj') (by rw [G8,List.getElem?_map,e2]; rfl)
  have:=hle.sound hrel hv
  cases this with
  | d _ _ h=>exact h
 refine ⟨fun k=>F k∨FI Hr k,⟨fun k x hk=>?_,fun k x hk hf=>?_,fun k hk=>?_⟩,⟨rfl,rfl,rfl,Nat.le_refl _,fun _ _ _=>rfl,fun k hk=>?_,fun _ h=>.inl h,fun k hk=>?_⟩⟩
 ·rw [IU] at hk
  split at hk
  ·next e=>cases hk; subst e; exact key
  ·split at hk
   ·exact (hh.at_ k x hk).mono rfl (fun _ h=>.inl h) (fun _ _=>rfl)
   ·cases hk
 ·rw [IU] at hk
  split at hk
  ·next e =>
   subst e
   rcases hf with hf | ⟨t,s,c,y,e⟩
   ·exact hh.apart _ _ hb hf
   ·rw [hrb] at e; cases e
  ·split at hk
   ·next e =>
    rcases hf with hf | ⟨t,s,c,y,e'⟩
    ·exact hh.apart k x hk hf
    ·rw [e] at e'; cases e'
   ·cases hk
 ·rcases hk with hk | ⟨t,s,c,y,e⟩
  ·exact hh.old k hk
  ·exact (hh.at_ k _ (hsub k _ e)).lt
 ·rw [IU] at hk
  split at hk
  ·next e=>subst e; exact .inl (by rw [hb]; simp)
  ·split at hk
   ·exact .inl hk
   ·exact absurd rfl hk
 ·rcases hk with hk | ⟨t,s,c,y,e⟩
  ·exact .inl hk
  ·exact .inr (.inl (by rw [hsub k _ e]; simp))
theorem SR {l:List AV} {i:Nat} {x:AV} (h:l[i]? = some x):nth l i=x:=by
 have hi:=(List.getElem?_eq_some_iff.1 h).1
 have:=Kp l i hi
 rw [h] at this
 exact (Option.some.inj this).symm
theorem Uh {sz i j:Nat} {L:List (List AV)} {pad zs:List AV} (hal:∀zs∈L,zs.length=sz) (ha:L[i]? = some zs) (hj:j<sz):nth (L.flatten++pad) (i*sz+j)=nth zs j:=by
 have hi:=(List.getElem?_eq_some_iff.1 ha).1
 have hs:zs.length=sz:=hal zs (List.mem_of_getElem? ha)
 refine SR ?_
 have hlt:i*sz+j<L.flatten.length:=by
  rw [GX hal]
  have:(i+1)*sz≤L.length*sz:=Nat.mul_le_mul_right _ hi
  rw [Nat.add_mul] at this; omega
 rw [List.getElem?_append_left hlt,I1 hal ha hj]
 exact Kp zs j (by omega)
theorem J0:∀(cs:List AV) (k:Nat) (ns:List AV),(setSeg cs k ns).length=cs.length
 | [],_,_=>by simp [setSeg]
 | c::cs,0,[]=>by simp [setSeg]
 | c::cs,0,n::ns=>by simp [setSeg,J0 cs 0 ns]
 | c::cs,k+1,ns=>by simp [setSeg,J0 cs k ns]
theorem Ld:∀(A B:List AV) (k:Nat) (ns:List AV),setSeg (A++B) (A.length+k) ns=A++setSeg B k ns
 | [],B,k,ns=>by simp
 | a::A,B,k,ns=>by
  rw [List.cons_append,show (a::A).length+k=(A.length+k)+1 by rw [List.length_cons]; omega]
  simp -implicitDefEqProofs only [setSeg,List.cons_append,Ld A B k ns]
theorem Lw:∀(A B:List AV) (k:Nat) (n:AV),k<A.length→setSeg (A++B) k [n]=setSeg A k [n]++B
 | [],B,k,n,h=>by simp at h
 | a::A,B,0,n,h=>by cases A <;> cases B <;> simp [setSeg]
 | a::A,B,k+1,n,h=>by simp -implicitDefEqProofs only [List.cons_append,setSeg,Lw A B k n (by simpa using h)]
theorem Kz {sz j:Nat}:∀{L:List (List AV)} {i:Nat} {pad zs:List AV} {n:AV},(∀zs∈L,zs.length=sz)→L[i]? = some zs→j<sz→setSeg (L.flatten++pad) (i*sz+j) [n]=(L.set i (setSeg zs j [n])).flatten++pad
 | [],i,pad,zs,n,_,h,_=>by simp at h
 | x::L,0,pad,zs,n,hs,h,hj=>by
  simp -implicitDefEqProofs only [List.getElem?_cons_zero,Option.some.injEq] at h
  subst h
  rw [Nat.zero_mul,Nat.zero_add,List.flatten_cons,List.append_assoc,Lw _ _ _ _ (by rw [hs x (by simp)]; exact hj)]
  simp
 | x::L,i+1,pad,zs,n,hs,h,hj=>by
  have hx:=hs x (by simp)
  rw [List.flatten_cons,List.append_assoc,show (i+1)*sz+j=x.length+(i*sz+j) by rw [hx,Nat.add_mul]; omega,Ld,Kz (fun zs ha=>hs zs (by simp [ha])) (by simpa using h) hj]
  simp
def Ea (r:AV) (sz n:Nat):Prop:=(n=0∧∃q,r = .nilsl q)∨∃b cap,r = .own b sz 0 n cap
def Al (e:TypeId) (r:AV) (xs:List (List D)):List (Nat×Blk):=match r with
 | .own b sz _ _ cap=>[(b,.row e sz cap xs)]
 | _=>[]
theorem IJ {e:TypeId} {b sz off n cap:Nat} {xs:List (List D)}:Al e (.own b sz off n cap) xs=[(b,.row e sz cap xs)]:=rfl
theorem Td {e:TypeId} {q:Nat} {xs:List (List D)}:Al e (.nilsl q) xs=[]:=rfl
theorem IR {r:AV} {sz n:Nat} (h:Ea r sz n):GO r=some (i64 n):=by
 rcases h with ⟨rfl,q,rfl⟩ | ⟨b,cap,rfl⟩ <;> rfl
theorem Hz {r:AV} {sz n:Nat} (h:Ea r sz n):EE 1 r=true:=by
 rcases h with ⟨rfl,q,rfl⟩ | ⟨b,cap,rfl⟩ <;> rfl
theorem Hu {r:AV} {sz n:Nat} (h:Ea r sz n):EF r=[r]:=by
 rcases h with ⟨rfl,q,rfl⟩ | ⟨b,cap,rfl⟩ <;> rfl
theorem Is {r:AV} {sz n:Nat} (h:Ea r sz n) (hn:0<n):∃b cap,r = .own b sz 0 n cap:=by
 rcases h with ⟨rfl,q,rfl⟩ | h
 ·omega
 ·exact h
theorem ID {e e':TypeId} {r:AV} {xs ys:List (List D)}:AQ (Al e r xs)=AQ (Al e' r ys):=by cases r <;> rfl
theorem Hf {H:Heap} {e:TypeId} {r:AV} {sz:Nat} {xs:List (List D)} (h:Ea r sz xs.length) (ha:AT H (Al e r xs)):LendV H r (.d (.sl sz xs)):=by
 rcases h with ⟨h0,q,rfl⟩ | ⟨b,cap,rfl⟩
 ·rw [List.eq_nil_of_length_eq_zero h0]; exact .nilsl _ _
 ·exact .own b sz cap e cap xs ha.1
theorem LE {P:Program} {f:FuncId} {args args':List AV} {e:TypeId} {sz:Nat} {xs:List (List D)} {H:Heap} {K:AV→Heap→Prop} (h:GQ P f args' e sz xs) (hl:LendL Heap.none args args')
  (hk:∀r H',Ea r sz xs.length→AT H' (Al e r xs)→(∀l,AT H l→AT H' l)→(∀l,AT H l→(AQ l).Nodup→(AQ (Al e r xs++l)).Nodup)→K r H'):NCallK P f args H K:=by
 refine ⟨args',e,sz,xs,hl,h,fun h0 n=>?_,fun b cap hb=>?_⟩
 ·exact hk _ _ (.inl ⟨by rw [h0]; rfl,n,rfl⟩) trivial (fun _ h=>h) (fun _ _ h=>h)
 ·exact hk _ _ (.inr ⟨b,cap,rfl⟩) ⟨ED,trivial⟩ (fun l h=>Gf hb h) (fun l h hn=>He (x:=.row e sz cap xs) hb h hn)
theorem KK {P:Program} {Q:Out→St→Prop} {k:List Item} {s:St} {d:Option Nat} {l:List AO} {f:FuncId} {args args':List AV} {e:TypeId} {sz:Nat} {xs:List (List D)} (h:GQ P f args' e sz xs) (hl:LendL Heap.none args args')
  (hk:∀r H',Ea r sz xs.length→AT H' (Al e r xs)→(∀l,AT s.H l→AT H' l)→(∀l,AT s.H l→(AQ l).Nodup→(AQ (Al e r xs++l)).Nodup)→AF P Q l k (AD s d r H')):Lr f args d l k s P Q :=
 LE (K:=fun v H'=>AF P Q l k (AD s d v H')) h hl hk
theorem MG {P:Program} {Q:Out→St→Prop} {k:List Item} {s:St} {d:Option Nat} {l:List AO} {f:FuncId} {args args':List AV} {e:TypeId} {sz:Nat} {xs:List (List D)} (h:GQ P f args' e sz xs) (hl:LendL Heap.none args args')
  (hk:∀r H',Ea r sz xs.length→AT H' (Al e r xs)→(∀l,AT s.H l→AT H' l)→(∀l,AT s.H l→(AQ l).Nodup→(AQ (Al e r xs++l)).Nodup)→AF P Q l k (AD s d r H')):GF P Q f args d l k s :=
 NCallK.call (LE (K:=fun v H'=>AF P Q l k (AD s d v H')) h hl hk)
def EG {α:Type} (f : α→α) (i:Nat) (l:List α):List α:=(l.take i).map f++l.drop i
theorem Kj {α:Type} {f : α→α} {l:List α}:EG f 0 l=l:=by simp [EG]
theorem Kg {α:Type} {f : α→α} {l:List α}:EG f l.length l=l.map f:=by simp [EG]
theorem Je {α:Type} {f : α→α} {i:Nat} {l:List α} (h:i<l.length):(EG f i l)[i]? = some l[i]:=by
 have e:((l.take i).map f).length=i:=by rw [List.length_map,List.length_take]; omega
 rw [EG,List.getElem?_append_right (by omega),e,Nat.sub_self,List.getElem?_drop,Nat.add_zero,List.getElem?_eq_getElem h]
theorem J4 {α:Type} {f : α→α} {i:Nat} {l:List α} (h:i<l.length):(EG f i l).set i (f l[i])=EG f (i+1) l:=by
 have e:((l.take i).map f).length=i:=by rw [List.length_map,List.length_take]; omega
 rw [EG,EG,List.set_append_right _ _ (by omega),e,Nat.sub_self,List.drop_eq_getElem_cons h,List.set_cons_zero,List.take_succ_eq_append_getElem h,List.map_append,List.append_assoc]
 rfl
theorem Uq {xs:List (List D)} (hl:xs.length≤1000000):GQ Try.prog Nn [.d (.sl 5 xs)] 34 5 xs:=by
 refine EQ Tu (by simp) ?_
 simp -implicitDefEqProofs -proj only [go_sem,seval]
 refine IQ ?_ (fun h0=>?_)
 ·simp -implicitDefEqProofs -proj only [go_sem,seval]
  refine FH (fun bs hs=>?_)
  simp -implicitDefEqProofs -proj only [go_sem,seval]
  refine Gw (xs:=[]) (ys:=xs) (cap:=0) (e:=34) (fun K=>rfl) (by simp -implicitDefEqProofs -proj only [go_sem,seval]) rfl rfl (by simp [maxLen]; omega) (fun b' cap' H' h1 h2=>?_)
  simp -implicitDefEqProofs -proj only [go_sem,seval]
  rw [List.nil_append] at h1
  exact .inr ⟨b',cap',rfl,h1⟩
 ·simp -implicitDefEqProofs -proj only [go_sem,seval]
  exact .inl ⟨h0,0,rfl⟩
theorem WP {xs:List (List D)} (hl:xs.length≤1000000):GQ Try.prog Po [.d (.sl 10 xs)] 51 10 xs:=by
 refine EQ Wg (by simp) ?_
 simp -implicitDefEqProofs -proj only [go_sem,seval]
 refine IQ ?_ (fun h0=>?_)
 ·simp -implicitDefEqProofs -proj only [go_sem,seval]
  refine FH (fun bs hs=>?_)
  simp -implicitDefEqProofs -proj only [go_sem,seval]
  refine Gw (xs:=[]) (ys:=xs) (cap:=0) (e:=51) (fun K=>rfl) (by simp -implicitDefEqProofs -proj only [go_sem,seval]) rfl rfl (by simp [maxLen]; omega) (fun b' cap' H' h1 h2=>?_)
  simp -implicitDefEqProofs -proj only [go_sem,seval]
  rw [List.nil_append] at h1
  exact .inr ⟨b',cap',rfl,h1⟩
 ·simp -implicitDefEqProofs -proj only [go_sem,seval]
  exact .inl ⟨h0,0,rfl⟩
theorem Vu {xs:List (List D)} (hl:xs.length≤1000000):GQ Try.prog WE [.d (.sl 16 xs)] 55 16 xs:=by
 refine EQ WL (by simp) ?_
 simp -implicitDefEqProofs -proj only [go_sem,seval]
 refine IQ ?_ (fun h0=>?_)
 ·simp -implicitDefEqProofs -proj only [go_sem,seval]
  refine FH (fun bs hs=>?_)
  simp -implicitDefEqProofs -proj only [go_sem,seval]
  refine Gw (xs:=[]) (ys:=xs) (cap:=0) (e:=55) (fun K=>rfl) (by simp -implicitDefEqProofs -proj only [go_sem,seval]) rfl rfl (by simp [maxLen]; omega) (fun b' cap' H' h1 h2=>?_)
  simp -implicitDefEqProofs -proj only [go_sem,seval]
  rw [List.nil_append] at h1
  exact .inr ⟨b',cap',rfl,h1⟩
 ·simp -implicitDefEqProofs -proj only [go_sem,seval]
  exact .inl ⟨h0,0,rfl⟩
theorem Oz {xs:List (List D)} (hl:xs.length≤1000000):GQ Try.prog Nr [.d (.sl 2 xs)] 58 2 xs:=by
 refine EQ Qp (by simp) ?_
 simp -implicitDefEqProofs -proj only [go_sem,seval]
 refine IQ ?_ (fun h0=>?_)
 ·simp -implicitDefEqProofs -proj only [go_sem,seval]
  refine FH (fun bs hs=>?_)
  simp -implicitDefEqProofs -proj only [go_sem,seval]
  refine Gw (xs:=[]) (ys:=xs) (cap:=0) (e:=58) (fun K=>rfl) (by simp -implicitDefEqProofs -proj only [go_sem,seval]) rfl rfl (by simp [maxLen]; omega) (fun b' cap' H' h1 h2=>?_)
  simp -implicitDefEqProofs -proj only [go_sem,seval]
  rw [List.nil_append] at h1
  exact .inr ⟨b',cap',rfl,h1⟩
 ·simp -implicitDefEqProofs -proj only [go_sem,seval]
  exact .inl ⟨h0,0,rfl⟩
theorem NF {xs:List (List D)} (hl:xs.length≤1000000):GQ Try.prog Vm [.d (.sl 3 xs)] 60 3 xs:=by
 refine EQ P8 (by simp) ?_
 simp -implicitDefEqProofs -proj only [go_sem,seval]
 refine IQ ?_ (fun h0=>?_)
 ·simp -implicitDefEqProofs -proj only [go_sem,seval]
  refine FH (fun bs hs=>?_)
  simp -implicitDefEqProofs -proj only [go_sem,seval]
  refine Gw (xs:=[]) (ys:=xs) (cap:=0) (e:=60) (fun K=>rfl) (by simp -implicitDefEqProofs -proj only [go_sem,seval]) rfl rfl (by simp [maxLen]; omega) (fun b' cap' H' h1 h2=>?_)
  simp -implicitDefEqProofs -proj only [go_sem,seval]
  rw [List.nil_append] at h1
  exact .inr ⟨b',cap',rfl,h1⟩
 ·simp -implicitDefEqProofs -proj only [go_sem,seval]
  exact .inl ⟨h0,0,rfl⟩
def MeterX.pl (m:MeterX):MeterX:=⟨m.nm,m.un,m.mx,0,0⟩
def FeeX.pl (x:FeeX):FeeX:=⟨x.am,x.w,0,0⟩
def ChX.pl (x:ChX):ChX:=⟨x.me,x.w,x.al,x.bl,x.ki,x.ts,x.mo,x.ad,0,0⟩
def PlanX.pl (p:PlanX):PlanX:=⟨p.nm,p.cu,p.f,p.t,p.ms.map MeterX.pl,p.fs.map FeeX.pl,p.cs.map ChX.pl,0,0⟩
abbrev GS (x:ChX) (t a:AV) (ln co:Int):List AV:=[.d (.str x.me),bv x.w.has,i64 x.w.f.y,i64 x.w.f.m,i64 x.w.f.d,i64 x.w.t.y,i64 x.w.t.m,i64 x.w.t.d,i64 x.al,i64 x.bl,i64 x.ki,t,i64 x.mo,a,i64 ln,i64 co]
structure PlanX.Sm (p:PlanX):Prop where
 m:p.ms.length≤1000000
 f:p.fs.length≤1000000
 c:p.cs.length≤1000000
 ta:∀x∈p.cs,x.ts.length≤1000000∧x.ad.length≤1000000
abbrev Gh:List AV:=[.d (.str ⟨⟨[]⟩⟩),.d (.str ⟨⟨[]⟩⟩),i64 0,i64 0,i64 0,i64 0,i64 0,i64 0,.nilsl 5,.nilsl 10,.nilsl 16,i64 0,i64 0]
abbrev Ew (b1 b2:Nat) (p:PlanX) (m f c:AV) (M:List MeterX) (F:List FeeX):List (Nat×Blk) :=
 Al 55 c (Ee p.cs)++(Al 51 f (ER F)++(Al 34 m (D7 M)++[(b2,.box 28 Gh),(b1,.box 28 (Eg p.nm p.cu p.f p.t m f c 0 0))]))
theorem GV {H:Heap} {A B:List (Nat×Blk)} {b:Nat} {x y:Blk} (h:AT H (A++(b,x)::B)) (hn:(AQ (A++(b,x)::B)).Nodup):AT (AH H b (some y)) (A++(b,y)::B):=by
 rw [Ao] at h ⊢
 simp -implicitDefEqProofs only [AQ,List.map_append,List.map_cons,List.nodup_append,List.nodup_cons] at hn
 obtain ⟨_,⟨h2,_⟩,h3⟩:=hn
 refine ⟨Ei.2 fun q hq=>?_,ED,Ei.2 fun q hq=>?_⟩
 ·rw [D3 (fun e=>h3 q.1 (List.mem_map.2 ⟨q,hq,rfl⟩) b (by simp) e.symm)]
  exact Ei.1 h.1 q hq
 ·rw [D3 (fun e=>h2 (by rw [e]; exact List.mem_map.2 ⟨q,hq,rfl⟩))]
  exact Ei.1 h.2.2 q hq
theorem Qr {H:Heap} {A:List (Nat×Blk)} {b:Nat} {x y:Blk} (h:AT H (A++[(b,x)])) (hn:(AQ (A++[(b,x)])).Nodup):AT (AH H b (some y)) (A++[(b,y)]):=GV h hn
theorem M1 {b1 b2:Nat} {p:PlanX} {m f c:AV} {M M':List MeterX} {F F':List FeeX}:AQ (Ew b1 b2 p m f c M F)=AQ (Ew b1 b2 p m f c M' F'):=by
 simp -implicitDefEqProofs only [AQ,List.map_append]
 have e1:=ID (e:=51) (e':=51) (r:=f) (xs:=ER F) (ys:=ER F')
 have e2:=ID (e:=34) (e':=34) (r:=m) (xs:=D7 M) (ys:=D7 M')
 simp -implicitDefEqProofs only [AQ] at e1 e2
 rw [e1,e2]
theorem Rr {H:Heap} {b1 b2 bm off n capm:Nat} {p:PlanX} {f c:AV} {M M':List MeterX} {F:List FeeX} (h:AT H (Ew b1 b2 p (.own bm 5 off n capm) f c M F)) (hn:(AQ (Ew b1 b2 p (.own bm 5 off n capm) f c M F)).Nodup):AT (AH H bm (some (.row 34 5 capm (D7 M')))) (Ew b1 b2 p (.own bm 5 off n capm) f c M' F):=by
 simp -implicitDefEqProofs only [Ew,IJ,←List.append_assoc] at h hn ⊢
 simp -implicitDefEqProofs only [List.append_assoc,List.cons_append,List.nil_append] at h hn ⊢
 rw [←List.append_assoc] at h hn ⊢
 exact GV h hn
theorem PT {H:Heap} {b1 b2 bm off n capm:Nat} {p:PlanX} {m c:AV} {M:List MeterX} {F F':List FeeX} (h:AT H (Ew b1 b2 p m (.own bm 10 off n capm) c M F)) (hn:(AQ (Ew b1 b2 p m (.own bm 10 off n capm) c M F)).Nodup):AT (AH H bm (some (.row 51 10 capm (ER F')))) (Ew b1 b2 p m (.own bm 10 off n capm) c M F'):=by
 simp -implicitDefEqProofs only [Ew,IJ,List.cons_append,List.nil_append] at h hn ⊢
 exact GV h hn
theorem Pi {ms:List MeterX} {i:Nat} (h:i<ms.length):(D7 (EG MeterX.pl i ms))[i]? = some (ms[i]).el:=by
 rw [D7,List.getElem?_map,Je h]; rfl
theorem Rw {ms:List MeterX} {i:Nat} (h:i<ms.length):(D7 (EG MeterX.pl i ms)).set i ((ms[i]).pl).el=D7 (EG MeterX.pl (i+1) ms):=by
 rw [←J4 h,D7,D7,List.map_set]
theorem Rz {ms:List FeeX} {i:Nat} (h:i<ms.length):(ER (EG FeeX.pl i ms))[i]? = some (ms[i]).el:=by
 rw [ER,List.getElem?_map,Je h]; rfl
theorem SO {ms:List FeeX} {i:Nat} (h:i<ms.length):(ER (EG FeeX.pl i ms)).set i ((ms[i]).pl).el=ER (EG FeeX.pl (i+1) ms):=by
 rw [←J4 h,ER,ER,List.map_set]
def EX:List ChX→List (AV×AV)→List (List AV)
 | [],_=>[]
 | x::cs,q::P=>GS x q.1 q.2 0 0::EX cs P
 | x::cs,[]=>GS x (.d (.sl 2 (Ed x.ts))) (.d (.sl 3 (E1 x.ad))) x.ln x.co::EX cs []
def EI:List ChX→List (AV×AV)→List (Nat×Blk)
 | x::cs,q::P=>(Al 58 q.1 (Ed x.ts)++Al 60 q.2 (E1 x.ad))++EI cs P
 | _,_=>[]
def FB:List ChX→List (AV×AV)→Prop
 | x::cs,q::P=>Ea q.1 2 x.ts.length∧Ea q.2 3 x.ad.length∧FB cs P
 | _,[]=>True
 | [],_=>False
theorem HQ:∀{cs:List ChX} {P:List (AV×AV)},(EX cs P).length=cs.length
 | [],_=>rfl
 | x::cs,q::P=>by simp [EX,HQ (cs:=cs) (P:=P)]
 | x::cs,[]=>by simp [EX,HQ (cs:=cs) (P:=[])]
theorem HL:∀{cs:List ChX} {P:List (AV×AV)},∀u∈EX cs P,u.length=16
 | [],_,_,h=>by simp [EX] at h
 | x::cs,q::P,u,h=>by
  rcases List.mem_cons.1 h with rfl | h
  ·rfl
  ·exact HL u h
 | x::cs,[],u,h=>by
  rcases List.mem_cons.1 h with rfl | h
  ·rfl
  ·exact HL u h
theorem JU {cs:List ChX}:EI cs []=[]:=by cases cs <;> rfl
theorem LZ {cs:List ChX}:FB cs []:=by cases cs <;> trivial
theorem Mx:∀{cs:List ChX} {P:List (AV×AV)} (h:P.length<cs.length),(EX cs P)[P.length]? = some (GS cs[P.length] (.d (.sl 2 (Ed cs[P.length].ts))) (.d (.sl 3 (E1 cs[P.length].ad))) cs[P.length].ln cs[P.length].co)
 | x::cs,[],_=>rfl
 | x::cs,q::P,h=>by
  have h':P.length<cs.length:=by simpa using h
  simpa [EX] using Mx h'
theorem LB:∀{cs:List ChX} {P:List (AV×AV)} (h:P.length<cs.length) (q:AV×AV),(EX cs P).set P.length (GS cs[P.length] q.1 q.2 0 0)=EX cs (P++[q])
 | x::cs,[],_,q=>rfl
 | x::cs,r::P,h,q=>by
  have h':P.length<cs.length:=by simpa using h
  simpa [EX] using LB h' q
theorem L5:∀{cs:List ChX} {P:List (AV×AV)} (h:P.length<cs.length) (q:AV×AV),EI cs (P++[q])=EI cs P++(Al 58 q.1 (Ed cs[P.length].ts)++Al 60 q.2 (E1 cs[P.length].ad))
 | x::cs,[],_,q=>by cases cs <;> simp [EI]
 | x::cs,r::P,h,q=>by
  have h':P.length<cs.length:=by simpa using h
  simp [EI,L5 h' q]
theorem MO:∀{cs:List ChX} {P:List (AV×AV)} (h:P.length<cs.length) {q:AV×AV},FB cs P→Ea q.1 2 cs[P.length].ts.length→Ea q.2 3 cs[P.length].ad.length→FB cs (P++[q])
 | x::cs,[],_,q,_,h1,h2=>⟨h1,h2,by cases cs <;> trivial⟩
 | x::cs,r::P,h,q,h0,h1,h2=>⟨h0.1,h0.2.1,MO (by simpa using h) h0.2.2 h1 h2⟩
theorem S2 {cs:List ChX}:(Ee cs).map mapD=EX cs []:=by
 induction cs with
 | nil=>rfl
 | cons x cs ih =>
  simp -implicitDefEqProofs only [Ee,List.map_cons,EX] at ih ⊢
  rw [ih]; rfl
abbrev JK (b1 b2:Nat) (p:PlanX) (m f c:AV):List (Nat×Blk) :=
 Al 51 f (ER (p.fs.map FeeX.pl))++(Al 34 m (D7 (p.ms.map MeterX.pl))++[(b2,.box 28 Gh),(b1,.box 28 (Eg p.nm p.cu p.f p.t m f c 0 0))])
abbrev GC (b1 b2 cc:Nat) (p:PlanX) (m f c:AV) (P:List (AV×AV)) (pad:List AV):List (Nat×Blk) :=
 EI p.cs P++((cc,.box 55 ((EX p.cs P).flatten++pad))::JK b1 b2 p m f c)
theorem IO {P:Program} {Q:Out→St→Prop} {k:List Item} {s:St} {d:Option Nat} {l:List AO} {v:AV} {cc i j:Nat} {T:TypeId} {L:List (List AV)} {pad seg seg':List AV} (hb:s.H cc=some (.box T (L.flatten++pad))) (hal:∀u∈L,u.length=16) (hg:L[i]? = some seg) (hj:j<16) (hv:EF v=[v]) (hs:setSeg seg j [v]=seg')
  (hk:∀L',L'[i]? = some seg'→(∀u∈L',u.length=16)→L'=L.set i seg'→AF P Q l k (AD s d .void (AH s.H cc (some (.box T (L'.flatten++pad)))))):G0 1 v cc 16 i j d l k s P Q:=by
 have hi:=(List.getElem?_eq_some_iff.1 hg).1
 have hsl:seg.length=16:=hal seg (List.mem_of_getElem? hg)
 refine WK hb ?_ ?_
 ·rw [Fb,List.length_append,GX hal]
  have:(i+1)*16≤L.length*16:=Nat.mul_le_mul_right _ hi
  omega
 ·rw [hv,Kz hal hg hj,hs]
  refine hk _ (by simp [hi]) (fun u hu=>?_) rfl
  rcases List.mem_or_eq_of_mem_set hu with h | rfl
  ·exact hal u h
  ·rw [←hs,J0,hsl]
theorem IG {P:Program} {Q:Out→St→Prop} {k:List Item} {s:St} {d:Option Nat} {l:List AO} {i j:Nat} {T:TypeId} {L:List (List AV)} {pad seg:List AV} (hal:∀u∈L,u.length=16) (hg:L[i]? = some seg) (hj:j<16) (hk:AF P Q l k (AD s d (nth seg j) s.H)):HN none (some (.box T (L.flatten++pad))) 16 i j d l k s P Q:=by
 have hi:=(List.getElem?_eq_some_iff.1 hg).1
 refine P3 ?_ ?_
 ·rw [Fb,List.length_append,GX hal]
  have:(i+1)*16≤L.length*16:=Nat.mul_le_mul_right _ hi
  omega
 ·rw [Uh hal hg hj]; exact hk
theorem V0 {α:Type} {a t i r:List α}:(a++(t++(i++r))).Perm ((i++(t++a))++r):=by
 rw [←List.append_assoc,←List.append_assoc]
 exact (List.perm_append_comm.trans (List.perm_append_comm.append_left i)).append_right r
theorem MQ {H:Heap} {A:List (Nat×Blk)} {b1 b2:Nat} {x y:Blk} {z:Option Blk} (h:AT H (A++[(b2,x),(b1,y)])) (hn:(AQ (A++[(b2,x),(b1,y)])).Nodup):AT (AH H b2 z) A∧(AQ A).Nodup:=by
 rw [Ao] at h
 simp -implicitDefEqProofs only [AQ,List.map_append] at hn ⊢
 have hn:=List.nodup_append.1 hn
 refine ⟨Ei.2 fun q hq=>?_,hn.1⟩
 rw [D3 (fun e=>hn.2.2 q.1 (List.mem_map.2 ⟨q,hq,rfl⟩) b2 (by simp) e.symm)]
 exact Ei.1 h.1 q hq
def Ff (c:AV) (cells:List AV):List (Nat×Blk):=match c with
 | .own b _ _ _ _=>[(b,.box 55 cells)]
 | _=>[]
def Mg (c:AV) (n:Nat) (cells:List AV):Prop:=(n=0∧∃q,c = .nilsl q)∨∃b cap,c = .own b 16 0 n cap∧cells.length=cap*16∧n≤cap∧cap≤maxLen
abbrev HX (p:PlanX) (m f c:AV) (P:List (AV×AV)) (pad:List AV):List (Nat×Blk) :=
 EI p.cs P++(Ff c ((EX p.cs P).flatten++pad)++(Al 51 f (ER (p.fs.map FeeX.pl))++Al 34 m (D7 (p.ms.map MeterX.pl))))
structure DeepP (p:PlanX) (m f c:AV) (P:List (AV×AV)) (pad:List AV) (H':Heap):Prop where
 hm:Ea m 5 p.ms.length
 hf:Ea f 10 p.fs.length
 hc:Mg c p.cs.length ((EX p.cs P).flatten++pad)
 n:P.length=p.cs.length
 ok:FB p.cs P
 all:AT H' (HX p m f c P pad)
 nd:(AQ (HX p m f c P pad)).Nodup
theorem Kx {p:PlanX} (hp:p.Sm):CallW Try.prog KS [FV p] Heap.none fun r H'=>∃m f c P pad,r = .agg (Eg p.nm p.cu p.f p.t m f c 0 0)∧DeepP p m f c P pad H':=by
 refine EQ UF (by simp) ?_
 simp -implicitDefEqProofs -proj only [go_sem,seval]
 refine EO (fun b1 hb1=>?_)
 simp -implicitDefEqProofs -proj only [go_sem,seval]
 refine EO (fun b2 hb2=>?_)
 replace hb2:AH Heap.none b1 (some (.box 28 p.cells)) b2=none:=hb2
 obtain ⟨n1,n2⟩:=EA hb2 ED
 simp -implicitDefEqProofs -proj only [go_sem,seval,n1,n2]
 have z1:=hp.m
 have z2:=hp.f
 have z3:=hp.c
 refine KK (Uq (by rw [FM]; exact z1)) (LendL.refl _) (fun m H1 hm r1 u1 w1=>?_)
 rw [FM] at hm
 have a1:=u1 [(b2,.box 28 Gh),(b1,.box 28 (Eg p.nm p.cu p.f p.t (.d (.sl 5 (D7 p.ms))) (.d (.sl 10 (ER p.fs))) (.d (.sl 16 (Ee p.cs))) 0 0))] ⟨(D3 n2).trans ED,ED,trivial⟩
 have k1:=w1 [(b2,.box 28 Gh),(b1,.box 28 (Eg p.nm p.cu p.f p.t (.d (.sl 5 (D7 p.ms))) (.d (.sl 10 (ER p.fs))) (.d (.sl 16 (Ee p.cs))) 0 0))] ⟨(D3 n2).trans ED,ED,trivial⟩ (by simp [AQ]; exact n1)
 have a1:=Ao.2 ⟨r1,a1⟩
 clear u1 w1 r1
 simp -implicitDefEqProofs -proj only [go_sem,seval]
 refine KK (WP (by rw [FQ]; exact z2)) (LendL.refl _) (fun f H2 hf r2 u2 w2=>?_)
 rw [FQ] at hf
 have a2:=Ao.2 ⟨r2,u2 _ a1⟩
 have k2:=w2 _ a1 k1
 clear u2 w2 r2 a1 k1
 simp -implicitDefEqProofs -proj only [go_sem,seval]
 refine MG (Vu (by rw [Ex]; exact z3)) (LendL.refl _) (fun c H3 hc r3 u3 w3=>?_)
 rw [Ex] at hc
 have a3:=Ao.2 ⟨r3,u3 _ a2⟩
 have k3:=w3 _ a2 k2
 clear u3 w3 r3 a2 k2
 have g1:H3 b1=some (.box 28 (Eg p.nm p.cu p.f p.t (.d (.sl 5 (D7 p.ms))) (.d (.sl 10 (ER p.fs))) (.d (.sl 16 (Ee p.cs))) 0 0)):=(Ao.1 (Ao.1 (Ao.1 a3).2).2).2.2.1
 simp -implicitDefEqProofs -proj only [go_sem,seval,g1,Hz hm,Hu hm,Hz hf,Hu hf,Hz hc,Hu hc,IR hm]
 have e1:∀x y:Blk,Al 55 c (Ee p.cs)++(Al 51 f (ER p.fs)++(Al 34 m (D7 p.ms)++[(b2,x),(b1,y)]))=(Al 55 c (Ee p.cs)++(Al 51 f (ER p.fs)++(Al 34 m (D7 p.ms)++[(b2,x)])))++[(b1,y)]:=fun x y=>by simp -implicitDefEqProofs only [List.append_assoc,List.cons_append,List.nil_append]
 rw [e1] at a3 k3
 have a4:=Qr (y:=.box 28 (Eg p.nm p.cu p.f p.t m f c 0 0)) a3 k3
 have k4:(AQ (Ew b1 b2 p m f c p.ms p.fs)).Nodup:=by
  simp -implicitDefEqProofs only [AQ,List.map_append,List.map_cons,List.map_nil] at k3 ⊢
  simpa using k3
 rw [←e1] at a4
 clear e1 a3 k3 g1 n1 n2 hb1 hb2
 refine Ec (fun i:Nat=>i≤p.ms.length) 89 (fun i=>[(1,.ptr b1 0),(2,.ptr b2 0),(23,i64 p.ms.length),(24,i64 i)]) (fun i=>Ew b1 b2 p m f c (EG MeterX.pl i p.ms) p.fs) (fun i=>p.ms.length-i) 0 (Nat.zero_le _) rfl ?_ ?_ ?_
 ·simp -implicitDefEqProofs -proj only [go_sem,seval,Dn]
 ·rw [Kj]; exact a4
 clear a4
 intro i hi
 have kn:(AQ (Ew b1 b2 p m f c (EG MeterX.pl i p.ms) p.fs)).Nodup:=by rw [M1]; exact k4
 have hall:=Ep kn
 obtain ⟨H,hH⟩:∃H,D4 (Ew b1 b2 p m f c (EG MeterX.pl i p.ms) p.fs)=H:=⟨_,rfl⟩
 rw [hH] at hall
 have g1:H b1=some (.box 28 (Eg p.nm p.cu p.f p.t m f c 0 0)):=(Ao.1 (Ao.1 (Ao.1 hall).2).2).2.2.1
 by_cases h:i<p.ms.length
 ·obtain ⟨bm,capm,rfl⟩:=Is hm (by omega)
  have q1:=Pi h
  have q2:=Rw h
  have gm:H bm=some (.row 34 5 capm (D7 (EG MeterX.pl i p.ms))):=(Ao.1 (Ao.1 (Ao.1 hall).2).2).1.1
  generalize p.ms[i]=x at *
  obtain ⟨R,hR⟩:∃R,D7 (EG MeterX.pl i p.ms)=R:=⟨_,rfl⟩
  rw [hR] at gm q1 q2
  have nm1:¬bm=b1:=fun e=>by rw [e,g1] at gm; cases gm
  simp -implicitDefEqProofs -proj only [go_sem,seval,hH,g1,decide_eq_true (show (i:Int)<p.ms.length by omega)]
  refine E2 (by omega) (fun _=>?_)
  refine Me gm (by simpa using q1) (by simp [MeterX.el]) ?_
  simp -implicitDefEqProofs -proj only [go_sem,seval]
  refine E2 (by omega) (fun _=>?_)
  have hl:i<R.length:=(List.getElem?_eq_some_iff.1 q1).1
  simp -implicitDefEqProofs only [Int.toNat_natCast]
  refine HK (cap:=capm) (t:=34) (xs:=R.set i [.str x.nm,.str x.un,.int .i64 x.mx,.int .i64 0,.int .i64 x.co]) (el:=[.str x.nm,.str x.un,.int .i64 x.mx,.int .i64 0,.int .i64 x.co]) ED (by simp [hl]) (by simp) ?_
  simp -implicitDefEqProofs -proj only [go_sem,seval,List.set_set]
  refine Em (i+1) (by omega) (by omega) rfl ?_ ?_
  ·simp -implicitDefEqProofs -proj only [go_sem,seval,Dn,E8 (show i<9223372036854775807 by omega)]
  ·have e:R.set i (E3 [.str x.nm,.str x.un,.int .i64 x.mx,.int .i64 0,.int .i64 x.co] 4 [.int .i64 0])=D7 (EG MeterX.pl (i+1) p.ms):=q2
   have hk:=Rr (M':=EG MeterX.pl (i+1) p.ms) hall kn
   rw [←e] at hk
   exact hk
 have hi':i=p.ms.length:=by omega
 subst hi'
 clear h hi k4
 simp -implicitDefEqProofs -proj only [go_sem,seval,hH,g1,IR hf,decide_eq_false (show ¬(p.ms.length:Int)<p.ms.length by omega)]
 rw [Kg] at hall kn
 clear hH g1
 refine Ec (fun i:Nat=>i≤p.fs.length) 89 (fun i=>[(1,.ptr b1 0),(2,.ptr b2 0),(40,i64 p.fs.length),(41,i64 i)]) (fun i=>Ew b1 b2 p m f c (p.ms.map MeterX.pl) (EG FeeX.pl i p.fs)) (fun i=>p.fs.length-i) 0 (Nat.zero_le _) rfl ?_ ?_ ?_
 ·simp -implicitDefEqProofs -proj only [go_sem,seval,Dn]
 ·rw [Kj]; exact hall
 clear hall H
 intro i hi
 have k4:=kn
 rw [M1 (M':=p.ms.map MeterX.pl) (F':=EG FeeX.pl i p.fs)] at kn
 have hall:=Ep kn
 obtain ⟨H,hH⟩:∃H,D4 (Ew b1 b2 p m f c (p.ms.map MeterX.pl) (EG FeeX.pl i p.fs))=H:=⟨_,rfl⟩
 rw [hH] at hall
 have g1:H b1=some (.box 28 (Eg p.nm p.cu p.f p.t m f c 0 0)):=(Ao.1 (Ao.1 (Ao.1 hall).2).2).2.2.1
 by_cases h:i<p.fs.length
 ·obtain ⟨bm,capm,rfl⟩:=Is hf (by omega)
  have q1:=Rz h
  have q2:=SO h
  have gm:H bm=some (.row 51 10 capm (ER (EG FeeX.pl i p.fs))):=(Ao.1 (Ao.1 hall).2).1.1
  generalize p.fs[i]=x at *
  obtain ⟨R,hR⟩:∃R,ER (EG FeeX.pl i p.fs)=R:=⟨_,rfl⟩
  rw [hR] at gm q1 q2
  have nm1:¬bm=b1:=fun e=>by rw [e,g1] at gm; cases gm
  simp -implicitDefEqProofs -proj only [go_sem,seval,hH,g1,decide_eq_true (show (i:Int)<p.fs.length by omega)]
  refine E2 (by omega) (fun _=>?_)
  refine Me gm (by simpa using q1) (by simp) ?_
  simp -implicitDefEqProofs -proj only [go_sem,seval]
  refine E2 (by omega) (fun _=>?_)
  have hl:i<R.length:=(List.getElem?_eq_some_iff.1 q1).1
  simp -implicitDefEqProofs only [Int.toNat_natCast]
  refine HK (cap:=capm) (t:=51) (xs:=R.set i (FeeX.el ⟨x.am,x.w,0,x.co⟩)) (el:=FeeX.el ⟨x.am,x.w,0,x.co⟩) ED (by simp [hl]) (by simp) ?_
  simp -implicitDefEqProofs -proj only [go_sem,seval,List.set_set]
  refine Em (i+1) (by omega) (by omega) rfl ?_ ?_
  ·simp -implicitDefEqProofs -proj only [go_sem,seval,Dn,E8 (show i<9223372036854775807 by omega)]
  ·have e:R.set i (E3 (FeeX.el ⟨x.am,x.w,0,x.co⟩) 9 [.int .i64 0])=ER (EG FeeX.pl (i+1) p.fs):=q2
   have hk:=PT (F':=EG FeeX.pl (i+1) p.fs) hall kn
   rw [←e] at hk
   exact hk
 have hi':i=p.fs.length:=by omega
 subst hi'
 clear h hi k4
 simp -implicitDefEqProofs -proj only [go_sem,seval,hH,g1,IR hc,decide_eq_false (show ¬(p.fs.length:Int)<p.fs.length by omega)]
 rw [Kg] at hall kn
 clear hH
 rcases hc with ⟨h0,qn,rfl⟩ | ⟨cc,capc,rfl⟩
 ·have h0':p.cs=[]:=List.eq_nil_of_length_eq_zero h0
  refine Ec (fun i:Nat=>i=0) 89 (fun i=>[(1,.ptr b1 0),(2,.ptr b2 0),(57,i64 0),(58,i64 0)]) (fun i=>Ew b1 b2 p m f (.nilsl qn) (p.ms.map MeterX.pl) (p.fs.map FeeX.pl)) (fun i=>i) 0 rfl rfl ?_ hall ?_
  ·simp -implicitDefEqProofs -proj only [go_sem,seval,Dn,h0]
  clear hall g1 H
  rintro i rfl
  have hall:=Ep kn
  obtain ⟨H,hH⟩:∃H,D4 (Ew b1 b2 p m f (.nilsl qn) (p.ms.map MeterX.pl) (p.fs.map FeeX.pl))=H:=⟨_,rfl⟩
  rw [hH] at hall
  have g1:H b1=some (.box 28 (Eg p.nm p.cu p.f p.t m f (.nilsl qn) 0 0)):=(Ao.1 (Ao.1 (Ao.1 hall).2).2).2.2.1
  have g2:H b2=some (.box 28 Gh):=(Ao.1 (Ao.1 (Ao.1 hall).2).2).2.1
  simp -implicitDefEqProofs -proj only [go_sem,seval,hH,g1,g2]
  have e6:Ew b1 b2 p m f (.nilsl qn) (p.ms.map MeterX.pl) (p.fs.map FeeX.pl)=HX p m f (.nilsl qn) [] []++[(b2,.box 28 Gh),(b1,.box 28 (Eg p.nm p.cu p.f p.t m f (.nilsl qn) 0 0))]:=by
   simp -implicitDefEqProofs only [Ew,HX,JU,Ff,Td,List.nil_append,List.append_assoc]
  rw [e6] at hall kn
  obtain ⟨e7,e8⟩:=MQ hall kn
  exact ⟨m,f,.nilsl qn,[],[],rfl,hm,hf,.inl ⟨h0,qn,rfl⟩,by rw [h0]; rfl,LZ,e7,e8⟩
 ·have gc:H cc=some (.row 55 16 capc (Ee p.cs)):=(Ao.1 hall).1.1
  refine Rt gc (fun hcc=>?_)
  refine Redesc.loop (O5 gc) ?_
  rw [Hw,S2,Ex]
  obtain ⟨pad,hpad⟩:∃pad,List.replicate (capc*16-p.cs.length*16) AV.undef=pad:=⟨_,rfl⟩
  rw [hpad]
  have hcs:((EX p.cs []).flatten++pad).length=capc*16:=by
   have h1:p.cs.length*16≤capc*16:=Nat.mul_le_mul_right _ (by rw [Ex] at hcc; exact hcc.1)
   rw [List.length_append,GX HL,HQ,←hpad,List.length_replicate]; omega
  have a5:AT (AH H cc (some (.box 55 ((EX p.cs []).flatten++pad)))) (GC b1 b2 cc p m f (.own cc 16 0 p.cs.length capc) [] pad):=by
   have:=GV (A:=[]) (y:=.box 55 ((EX p.cs []).flatten++pad)) hall kn
   simp -implicitDefEqProofs only [GC,JU,List.nil_append] at this ⊢
   exact this
  have k5:(AQ (GC b1 b2 cc p m f (.own cc 16 0 p.cs.length capc) [] pad)).Nodup:=by
   have e:AQ (GC b1 b2 cc p m f (.own cc 16 0 p.cs.length capc) [] pad)=AQ (Ew b1 b2 p m f (.own cc 16 0 p.cs.length capc) (p.ms.map MeterX.pl) (p.fs.map FeeX.pl)):=by
    simp -implicitDefEqProofs only [GC,JU,List.nil_append]; rfl
   rw [e]; exact kn
  clear hpad gc hall kn g1
  refine Ec (fun P:List (AV×AV)=>P.length≤p.cs.length∧FB p.cs P∧(AQ (GC b1 b2 cc p m f (.own cc 16 0 p.cs.length capc) P pad)).Nodup) 89 (fun P=>[(1,.ptr b1 0),(2,.ptr b2 0),(57,i64 p.cs.length),(58,i64 P.length)]) (fun P=>GC b1 b2 cc p m f (.own cc 16 0 p.cs.length capc) P pad) (fun P=>p.cs.length-P.length) [] ⟨Nat.zero_le _,LZ,k5⟩ rfl ?_ a5 ?_
  ·simp -implicitDefEqProofs -proj only [go_sem,seval,Dn]
  clear a5 k5
  rintro P ⟨hi,hP,kn⟩
  have hall:=Ep kn
  obtain ⟨H,hH⟩:∃H,D4 (GC b1 b2 cc p m f (.own cc 16 0 p.cs.length capc) P pad)=H:=⟨_,rfl⟩
  rw [hH] at hall
  have g1:H b1=some (.box 28 (Eg p.nm p.cu p.f p.t m f (.own cc 16 0 p.cs.length capc) 0 0)):=(Ao.1 (Ao.1 (Ao.1 hall).2.2).2).2.2.1
  have gc:H cc=some (.box 55 ((EX p.cs P).flatten++pad)):=(Ao.1 hall).2.1
  by_cases h:P.length<p.cs.length
  ·have q1:=Mx h
   have q2:=LB h
   have q3:=L5 h
   have q4:=fun {q:AV×AV}=>MO (q:=q) h hP
   have hal:=HL (cs:=p.cs) (P:=P)
   have hlt:=hp.ta _ (List.getElem_mem h)
   have hlL:(EX p.cs P).length=p.cs.length:=HQ
   generalize p.cs[P.length]=x at *
   obtain ⟨L,hL⟩:∃L,EX p.cs P=L:=⟨_,rfl⟩
   rw [hL] at gc q1 q2 hal hlL
   simp -implicitDefEqProofs -proj only [go_sem,seval,hH,g1,decide_eq_true (show (P.length:Int)<p.cs.length by omega)]
   refine E2 (by omega) (fun _=>?_)
   simp -implicitDefEqProofs only [Int.toNat_natCast]
   refine IO gc hal q1 (by decide) rfl rfl (fun L1 s1 hal1 e1=>?_)
   simp -implicitDefEqProofs -proj only [go_sem,seval]
   refine IO ED hal1 s1 (by decide) rfl rfl (fun L2 s2 hal2 e2=>?_)
   simp -implicitDefEqProofs -proj only [go_sem,seval]
   rw [e1,List.set_set] at e2
   clear e1 s1 hal1
   have a2:=GV (y:=.box 55 (L2.flatten++pad)) hall kn
   have k2:(AQ (EI p.cs P++(cc,.box 55 (L2.flatten++pad))::JK b1 b2 p m f (.own cc 16 0 p.cs.length capc))).Nodup:=by
    simp -implicitDefEqProofs only [AQ,List.map_append,List.map_cons] at kn ⊢; exact kn
   refine IG hal2 s2 (by decide) ?_
   simp -implicitDefEqProofs -proj only [go_sem,seval]
   refine IG hal2 s2 (by decide) ?_
   simp -implicitDefEqProofs -proj only [go_sem,seval]
   refine KK (Oz (xs:=Ed x.ts) (by rw [GI]; exact hlt.1)) (LendL.refl _) (fun t H3 ht r1 u1 w1=>?_)
   rw [GI] at ht
   replace u1:∀l,AT (AH H cc (some (.box 55 (L2.flatten++pad)))) l→AT H3 l:=u1
   replace w1:∀l,AT (AH H cc (some (.box 55 (L2.flatten++pad)))) l→(AQ l).Nodup→(AQ (Al 58 t (Ed x.ts)++l)).Nodup:=w1
   have a3:=Ao.2 ⟨r1,u1 _ a2⟩
   have k3:=w1 _ a2 k2
   clear u1 w1 r1 a2 k2
   simp -implicitDefEqProofs -proj only [go_sem,seval]
   refine MG (NF (xs:=E1 x.ad) (by rw [GL]; exact hlt.2)) (LendL.refl _) (fun a H4 ha r2 u2 w2=>?_)
   rw [GL] at ha
   have a4:=Ao.2 ⟨r2,u2 _ a3⟩
   have k4:=w2 _ a3 k3
   clear u2 w2 r2 a3 k3
   have g4:H4 cc=some (.box 55 (L2.flatten++pad)):=(Ao.1 (Ao.1 (Ao.1 a4).2).2).2.1
   simp -implicitDefEqProofs -proj only [go_sem,seval,Hz ht]
   refine IO g4 hal2 s2 (by decide) (Hu ht) rfl (fun L3 s3 hal3 e3=>?_)
   simp -implicitDefEqProofs -proj only [go_sem,seval,Hz ha]
   refine IO ED hal3 s3 (by decide) (Hu ha) rfl (fun L4 s4 hal4 e4=>?_)
   rw [e3,e2,List.set_set,List.set_set] at e4
   have e5:L4=EX p.cs (P++[(t,a)]):=e4.trans (q2 (t,a))
   subst e5
   simp -implicitDefEqProofs -proj only [go_sem,seval]
   rw [←List.append_assoc,←List.append_assoc] at a4 k4
   have a5:=GV (y:=.box 55 ((EX p.cs (P++[(t,a)])).flatten++pad)) a4 k4
   have k5:(AQ ((Al 60 a (E1 x.ad)++Al 58 t (Ed x.ts)++EI p.cs P)++(cc,.box 55 ((EX p.cs (P++[(t,a)])).flatten++pad))::JK b1 b2 p m f (.own cc 16 0 p.cs.length capc))).Nodup:=by
    simp -implicitDefEqProofs only [AQ,List.map_append,List.map_cons] at k4 ⊢; exact k4
   rw [List.append_assoc,List.append_assoc] at a5 k5
   have pm:=V0 (a:=Al 60 a (E1 x.ad)) (t:=Al 58 t (Ed x.ts)) (i:=EI p.cs P) (r:=(cc,.box 55 ((EX p.cs (P++[(t,a)])).flatten++pad))::JK b1 b2 p m f (.own cc 16 0 p.cs.length capc))
   rw [←q3 (t,a)] at pm
   have hl1:(P++[(t,a)]).length=P.length+1:=by simp
   refine Em (P++[(t,a)]) ⟨by rw [hl1]; omega,q4 ht ha,?_⟩ (by rw [hl1]; omega) rfl ?_ ?_
   ·exact ((pm.map (fun q:Nat×Blk=>q.1)).nodup_iff).1 k5
   ·simp -implicitDefEqProofs -proj only [go_sem,seval,Dn,hl1,E8 (show P.length<9223372036854775807 by omega)]
   ·exact Wu a5 fun q hq=>pm.mem_iff.2 hq
  ·have hn:P.length=p.cs.length:=by omega
   have g2:H b2=some (.box 28 Gh):=(Ao.1 (Ao.1 (Ao.1 hall).2.2).2).2.1
   simp -implicitDefEqProofs -proj only [go_sem,seval,hH,g1,g2,decide_eq_false (show ¬(P.length:Int)<p.cs.length by omega)]
   have e6:GC b1 b2 cc p m f (.own cc 16 0 p.cs.length capc) P pad=HX p m f (.own cc 16 0 p.cs.length capc) P pad++[(b2,.box 28 Gh),(b1,.box 28 (Eg p.nm p.cu p.f p.t m f (.own cc 16 0 p.cs.length capc) 0 0))]:=by
    simp -implicitDefEqProofs only [GC,HX,Ff,List.cons_append,List.nil_append,List.append_assoc]
   rw [e6] at hall kn
   obtain ⟨e7,e8⟩:=MQ hall kn
   refine ⟨m,f,.own cc 16 0 p.cs.length capc,P,pad,rfl,hm,hf,.inr ⟨cc,capc,rfl,?_,by rw [Ex] at hcc; exact hcc.1,hcc.2⟩,hn,hP,e7,e8⟩
   rw [←hcs,List.length_append,List.length_append,GX HL,GX HL,HQ,HQ]
def EP:List ChX→List (AV×AV)→List (List AV)
 | x::X,q::P=>GS x q.1 q.2 x.ln x.co::EP X P
 | _,_=>[]
theorem JI:∀{cs:List ChX} {P:List (AV×AV)},P.length=cs.length→EP (cs.map ChX.pl) P=EX cs P
 | [],[],_=>rfl
 | x::cs,q::P,h=>by
  have h':P.length=cs.length:=by simpa using h
  simp -implicitDefEqProofs only [List.map_cons,EP,EX,JI h']
  rfl
 | [],q::P,h=>by simp at h
 | x::cs,[],h=>by simp at h
theorem Ko:∀{cs:List ChX} {P:List (AV×AV)},EI (cs.map ChX.pl) P=EI cs P
 | [],_=>rfl
 | x::cs,[]=>rfl
 | x::cs,q::P=>by
  simp -implicitDefEqProofs only [List.map_cons,EI,Ko (cs:=cs) (P:=P)]
  rfl
theorem LV:∀{cs:List ChX} {P:List (AV×AV)},FB cs P→FB (cs.map ChX.pl) P
 | [],[],_=>trivial
 | [],q::P,h=>h
 | x::cs,[],_=>trivial
 | x::cs,q::P,h=>⟨h.1,h.2.1,LV h.2.2⟩
theorem MU:∀{X:List ChX} {P:List (AV×AV)},P.length=X.length→(EP X P).length=X.length
 | [],[],_=>rfl
 | x::X,q::P,h=>by
  have h':P.length=X.length:=by simpa using h
  simp [EP,MU h']
 | [],q::P,h=>by simp at h
 | x::X,[],h=>by simp at h
theorem Hy:∀{X:List ChX} {P:List (AV×AV)},∀u∈EP X P,u.length=16
 | [],_,u,h=>by simp [EP] at h
 | x::X,[],u,h=>by simp [EP] at h
 | x::X,q::P,u,h=>by
  rcases List.mem_cons.1 h with rfl | h
  ·rfl
  ·exact Hy u h
structure GenD (M:List MeterX) (F:List FeeX) (X:List ChX) (m f c:AV) (P:List (AV×AV)) (pad:List AV) (H:Heap):Prop where
 hm:Ea m 5 M.length
 hf:Ea f 10 F.length
 hc:Mg c X.length ((EP X P).flatten++pad)
 n:P.length=X.length
 ok:FB X P
 all:AT H (EI X P++(Ff c ((EP X P).flatten++pad)++(Al 51 f (ER F)++Al 34 m (D7 M))))
 nd:(AQ (EI X P++(Ff c ((EP X P).flatten++pad)++(Al 51 f (ER F)++Al 34 m (D7 M))))).Nodup
structure GenS (M:List MeterX) (F:List FeeX) (X:List ChX) (m f c:AV) (H:Heap):Prop where
 hm:Ea m 5 M.length
 hf:Ea f 10 F.length
 hc:Ea c 16 X.length
 all:AT H (Al 55 c (Ee X)++(Al 51 f (ER F)++Al 34 m (D7 M)))
 nd:(AQ (Al 55 c (Ee X)++(Al 51 f (ER F)++Al 34 m (D7 M)))).Nodup
theorem DeepP.gen {p:PlanX} {m f c:AV} {P:List (AV×AV)} {pad:List AV} {H:Heap} (h:DeepP p m f c P pad H):GenD (p.ms.map MeterX.pl) (p.fs.map FeeX.pl) (p.cs.map ChX.pl) m f c P pad H:=by
 obtain ⟨h1,h2,h3,h4,h5,h6,h7⟩:=h
 exact ⟨by rw [List.length_map]; exact h1,by rw [List.length_map]; exact h2,by rw [List.length_map,JI h4]; exact h3,by rw [List.length_map]; exact h4,LV h5,by rw [Ko,JI h4]; exact h6,by rw [Ko,JI h4]; exact h7⟩
theorem La {l:List (Nat×Blk)} {k:Nat} (h:k∉AQ l):D4 l k=none:=by
 induction l with
 | nil=>rfl
 | cons q l ih =>
  obtain ⟨b,x⟩:=q
  simp -implicitDefEqProofs only [AQ,List.map_cons,List.mem_cons,not_or] at h ih
  rw [Am,if_neg h.1]
  exact ih h.2
theorem RE {H:Heap} {x:ChX} {t a:AV} (h1:LendV H t (.d (.sl 2 (Ed x.ts)))) (h2:LendV H a (.d (.sl 3 (E1 x.ad)))):LendL H (GS x t a x.ln x.co) (mapD x.el):=by
 refine EB (.refl _) (EB (.refl _) (EB (.refl _) (EB (.refl _) (EB (.refl _) (EB (.refl _) (EB (.refl _) (EB (.refl _) (EB (.refl _) (EB (.refl _) (EB (.refl _) (EB h1 (EB (.refl _) (EB h2 (EB (.refl _) (EB (.refl _) Gj)))))))))))))))
theorem Mj {H:Heap}:∀{X:List ChX} {P:List (AV×AV)},FB X P→AT H (EI X P)→∀(i:Nat) u el,(EP X P)[i]? = some u→(Ee X)[i]? = some el→LendL H u (mapD el)
 | [],_,_,_,i,u,el,h,_=>by simp [EP] at h
 | x::X,[],_,_,i,u,el,h,_=>by simp [EP] at h
 | x::X,q::P,hp,ha,0,u,el,h1,h2=>by
  simp -implicitDefEqProofs only [EP,Ee,List.map_cons,List.getElem?_cons_zero,Option.some.injEq] at h1 h2
  subst h1; subst h2
  have ha:=Ao.1 (Ao.1 ha).1
  exact RE (Hf (by rw [GI]; exact hp.1) ha.1) (Hf (by rw [GL]; exact hp.2.1) ha.2)
 | x::X,q::P,hp,ha,i+1,u,el,h1,h2=>by
  simp -implicitDefEqProofs only [EP,Ee,List.map_cons,List.getElem?_cons_succ] at h1 h2
  exact Mj hp.2.2 (Ao.1 ha).2 i u el h1 h2
theorem Redesc.refl (P:Program) (H:Heap):Redesc P H H:=fun F w h=>⟨F,h,Step.refl _ _ _⟩
theorem GenD.pack {M:List MeterX} {F:List FeeX} {X:List ChX} {m f c:AV} {P:List (AV×AV)} {pad:List AV} {H:Heap} {Pr:Program} (h:GenD M F X m f c P pad H):∃H2,Redesc Pr H H2∧GenS M F X m f c H2:=by
 obtain ⟨h1,h2,h3,h4,h5,h6,h7⟩:=h
 rcases h3 with ⟨h0,q,rfl⟩ | ⟨cc,cap,rfl,g1,g2,g3⟩
 ·obtain rfl:X=[]:=List.eq_nil_of_length_eq_zero h0
  refine ⟨H,Redesc.refl _ _,h1,h2,.inl ⟨rfl,q,rfl⟩,?_,?_⟩
  ·simpa [EI,Ff,Al] using h6
  ·simpa [EI,Ff,Al] using h7
 ·simp -implicitDefEqProofs only [Ff,List.cons_append,List.nil_append] at h6 h7
  have ha:=Ao.1 h6
  simp -implicitDefEqProofs only [AQ,List.map_append,List.map_cons,List.nodup_append,List.nodup_cons] at h7
  obtain ⟨n1,⟨n2,n3⟩,n4⟩:=h7
  have hcc:cc∉AQ (EI X P):=fun hm=>n4 cc hm cc (by simp) rfl
  have hr:AT (D4 (EI X P)) (EI X P):=Ep (by simpa [AQ] using n1)
  refine ⟨KU H (D4 (EI X P)) cc (.row 55 16 cap (Ee X)),QM (L:=EP X P) ha.2.1 (JZ ha.1) (La hcc) (by rw [MU h4,Ex]) (Mj h5 hr) (fun el he=>?_) (by decide) g1 (by rw [Ex]; exact g2) g3,h1,h2,.inr ⟨cc,cap,rfl⟩,?_,?_⟩
  ·obtain ⟨x,_,rfl⟩:=List.mem_map.1 he
   rfl
  ·refine ⟨by rw [IU,if_pos rfl],Ei.2 fun q hq=>?_⟩
   have hk1:¬q.1=cc:=fun e=>n2 (by
    rw [←e,←List.map_append]
    exact List.mem_map.2 ⟨q,hq,rfl⟩)
   have hk2:q.1∉AQ (EI X P):=fun hm=>n4 q.1 hm q.1 (by
    rw [←List.map_append]
    exact List.mem_cons_of_mem _ (List.mem_map.2 ⟨q,hq,rfl⟩)) rfl
   rw [IU,if_neg hk1,if_pos (La hk2)]
   exact Ei.1 ha.2.2 q hq
  ·simp -implicitDefEqProofs only [IJ,List.cons_append,List.nil_append,AQ,List.map_append,List.map_cons,List.nodup_cons]
   exact ⟨n2,List.nodup_append.2 n3⟩
theorem R3 {p:PlanX} (hp:p.Sm):CallW Try.prog KS [FV p] Heap.none fun r H'=>∃m f c,r = .agg (Eg p.nm p.cu p.f p.t m f c 0 0)∧GenS p.pl.ms p.pl.fs p.pl.cs m f c H' :=
 CallW.redesc (Kx hp) fun r H' ⟨m,f,c,P,pad,h1,h2⟩=>by
  obtain ⟨H2,h3,h4⟩:=(h2.gen).pack (Pr:=Try.prog)
  exact ⟨H2,h3,m,f,c,h1,h4⟩
theorem GenS.lend {p:PlanX} {m f c:AV} {H:Heap} (h:GenS p.ms p.fs p.cs m f c H):LendV H (.agg (Eg p.nm p.cu p.f p.t m f c p.ln p.co)) (FV p):=by
 have a1:=Ao.1 h.all
 have a2:=Ao.1 a1.2
 refine LendV.aggL (EB (.refl _) (EB (.refl _) (EB (.refl _) (EB (.refl _) (EB (.refl _) (EB (.refl _) (EB (.refl _) (EB (.refl _) (EB ?_ (EB ?_ (EB ?_ (EB (.refl _) (EB (.refl _) Gj)))))))))))))
 ·exact Hf (by rw [FM]; exact h.hm) a2.2
 ·exact Hf (by rw [FQ]; exact h.hf) a2.1
 ·exact Hf (by rw [Ex]; exact h.hc) a1.1
theorem TQ {p:PlanX} (hp:p.Sm):DataW Try.prog KS [FV p] (FV p.pl) :=
 CallW.mono' (R3 hp) fun r H' ⟨m,f,c,h1,h2⟩=>by
  subst h1
  exact GenS.lend (p:=p.pl) h2
def EN {α β:Type} (p : α→β→Bool):List α→List β→Bool
 | [],[]=>true
 | x::a,y::b=>p x y&&EN p a b
 | _,_=>false
theorem Kk {α β:Type} {p : α→β→Bool}:∀{a:List α} {b:List β},a.length≠b.length→EN p a b=false
 | [],[],h=>absurd rfl h
 | [],_::_,_=>rfl
 | _::_,[],_=>rfl
 | _::a,_::b,h=>by
  rw [EN,Kk (a:=a) (b:=b) (fun e=>h (by simp [e])),Bool.and_false]
def F6 (a b:DateX):Bool:=decide (a.y=b.y)&&(decide (a.m=b.m)&&decide (a.d=b.d))
def FW (a b:WinX):Bool:=(a.has == b.has)&&(decide (a.f.y=b.f.y)&&(decide (a.f.m=b.f.m)&&(decide (a.f.d=b.f.d)&&(decide (a.t.y=b.t.y)&&(decide (a.t.m=b.t.m)&&decide (a.t.d=b.t.d))))))
def Fv (a b:Tier):Bool:=decide (a.u=b.u)&&decide (a.r=b.r)
def F3 (a b:Adj):Bool:=decide (a.k=b.k)&&(decide (a.n=b.n)&&decide (a.m=b.m))
def FU (a b:MeterX):Bool:=(a.nm.toList == b.nm.toList)&&((a.un.toList == b.un.toList)&&decide (a.mx=b.mx))
def FS (a b:FeeX):Bool:=decide (a.am=b.am)&&FW a.w b.w
def FT (a b:ChX):Bool:=(a.me.toList == b.me.toList)&&(FW a.w b.w&&(decide (a.al=b.al)&&(decide (a.bl=b.bl)&&(decide (a.ki=b.ki)&&(decide (a.mo=b.mo)&&(EN Fv a.ts b.ts&&EN F3 a.ad b.ad))))))
def Fe (a b:PlanX):Bool:=(a.nm.toList == b.nm.toList)&&((a.cu.toList == b.cu.toList)&&(F6 a.f b.f&&(F6 a.t b.t&&(EN FU a.ms b.ms&&(EN FS a.fs b.fs&&EN FT a.cs b.cs)))))
theorem Js {P:Program} {Q:Out→St→Prop} {k:List Item} {s:St} {d:Option Nat} {l:List AO} {e:TypeId} {α:Type} {g : α→List D} {sz b len cap bytes:Nat} {z:List AV} {L M R T:List α} {x:AV} (hx:∀K,Eu s.H x K=K sz (M.map g)) (hb:s.H b=some (.row e sz cap (L.map g))) (hlb:len=L.length) (hz:z.length=sz) (hby:bytes≤1000) (hT:L++(M++R)=T) (hT1:T.length≤1000000)
  (hk:∀b' cap' H' L',L'++R=T→H' b'=some (.row e sz cap' (L'.map g))→(∀k x,s.H k=some x→¬k=b→H' k=some x∧¬k=b'∧¬b'=k)→AF P Q l k (AD s d (.own b' sz 0 L'.length cap') H')):Ft e sz bytes z (.own b sz 0 len cap) x d l k s P Q:=by
 have e0:=congrArg List.length hT
 simp -implicitDefEqProofs only [List.length_append] at e0
 refine Gw hx hb (by rw [List.length_map]; exact hlb) hz ?_ (fun b' cap' H' h1 h2=>?_)
 ·rw [List.length_map,List.length_map]
  refine ⟨?_,by simp -implicitDefEqProofs only [maxLen]; omega⟩
  have:(L.length+M.length)*bytes≤1000000*1000:=Nat.mul_le_mul (by omega) hby
  omega
 ·have e1:len+(M.map g).length=(L++M).length:=by rw [List.length_map,List.length_append,hlb]
  rw [e1]
  exact hk b' cap' H' (L++M) (by rw [List.append_assoc]; exact hT) (by rw [List.map_append]; exact h1) h2
def Hx (m:MeterX):List Int:=[m.ln,m.co]
def HU (x:FeeX):List Int:=[x.ln,x.co]
def Gg (x:ChX):List Int:=[x.ln,x.co]
def Fj (p:PlanX):List Int:=[p.ln,p.co]++(p.ms.flatMap Hx++(p.fs.flatMap HU++p.cs.flatMap Gg))
theorem Jc {α:Type} {f : α→List Int} {l:List α} {i:Nat} (h:i<l.length):(l.drop i).flatMap f=f l[i]++(l.drop (i+1)).flatMap f:=by
 rw [List.drop_eq_getElem_cons h,List.flatMap_cons]
theorem Jv {α:Type} {f : α→List Int} {l:List α}:(l.drop l.length).flatMap f=[]:=by rw [List.drop_length]; rfl
structure PlY where
 i:Nat
 c:Nat
 cap:Nat
 l:List Int
theorem FN {i c cap:Nat} {l:List Int}:(PlY.mk i c cap l).i=i:=(rfl)
theorem FP {i c cap:Nat} {l:List Int}:(PlY.mk i c cap l).c=c:=(rfl)
theorem Fr {i c cap:Nat} {l:List Int}:(PlY.mk i c cap l).cap=cap:=(rfl)
theorem FR {i c cap:Nat} {l:List Int}:(PlY.mk i c cap l).l=l:=(rfl)
abbrev GY (b1:Nat) (p:PlanX) (c cap:Nat) (L:List Int):List (Nat×Blk):=[(c,.row 3 1 cap (Fx L)),(b1,.box 28 p.cells)]
theorem XB {p:PlanX} (h:p.Sm) (h1:p.ms.length≤1000) (h2:p.fs.length≤1000) (h3:p.cs.length≤1000):(Fj p).length≤1000000:=by
 have hm:(p.ms.flatMap Hx).length=p.ms.length*2:=by rw [List.length_flatMap]; induction p.ms <;> simp [Hx] at * <;> omega
 have hf:(p.fs.flatMap HU).length=p.fs.length*2:=by rw [List.length_flatMap]; induction p.fs <;> simp [HU] at * <;> omega
 have hc:(p.cs.flatMap Gg).length=p.cs.length*2:=by rw [List.length_flatMap]; induction p.cs <;> simp [Gg] at * <;> omega
 simp -implicitDefEqProofs only [Fj,List.length_append,hm,hf,hc,List.length_cons,List.length_nil]
 omega
theorem M3 {p:PlanX} (hp:p.Sm) (hl:(Fj p).length≤1000000):NewW Try.prog Lm [FV p] (Gp (Fj p)):=by
 have z1:=hp.m
 have z2:=hp.f
 have z3:=hp.c
 refine EQ XK (by simp) ?_
 simp -implicitDefEqProofs -proj only [go_sem,seval]
 refine EO (fun b1 hb1=>?_)
 simp -implicitDefEqProofs -proj only [go_sem,seval]
 refine FH (fun bs hs=>?_)
 replace hs:AH Heap.none b1 _ bs=none:=hs
 obtain ⟨n1,n2⟩:=EA hs ED
 simp -implicitDefEqProofs -proj only [go_sem,seval,n1,n2,FM]
 refine Ec (fun y:PlY=>y.i≤p.ms.length∧¬b1=y.c∧y.l++((p.ms.drop y.i).flatMap Hx++(p.fs.flatMap HU++p.cs.flatMap Gg))=Fj p) 61 (fun y=>[(1,.ptr b1 0),(3,.own y.c 1 0 y.l.length y.cap),(16,.d (.sl 5 (D7 p.ms))),(17,i64 p.ms.length),(18,i64 y.i)]) (fun y=>GY b1 p y.c y.cap y.l) (fun y=>p.ms.length-y.i) ⟨0,bs,2,[p.ln,p.co]⟩ ⟨Nat.zero_le _,n2,rfl⟩ rfl ?_ ?_ ?_
 ·simp -implicitDefEqProofs -proj only [go_sem,seval,Dn,FN,FP,Fr,FR]
 ·simp -implicitDefEqProofs -proj only [go_sem,seval]
  exact ⟨ED,(D3 n1).trans ED,trivial⟩
 clear hs n1 n2 hb1
 rintro ⟨i,c,cap,L⟩ ⟨hi,hcb,hL⟩
 simp -implicitDefEqProofs only [FN,FP,FR] at hi hcb hL
 have hall:AT (D4 (GY b1 p c cap L)) (GY b1 p c cap L):=Ep (by simp [AQ]; exact fun e=>hcb e.symm)
 obtain ⟨H,hH⟩:∃H,D4 (GY b1 p c cap L)=H:=⟨_,rfl⟩
 rw [hH] at hall
 obtain ⟨q1,g1,qz⟩:=hall
 clear qz
 by_cases h:i<p.ms.length
 ·have hel:=Kf h
  rw [Jc h,List.append_assoc] at hL
  generalize p.ms[i]=m at *
  simp -implicitDefEqProofs -proj only [go_sem,seval,FN,FP,Fr,FR,hH,decide_eq_true (show (i:Int)<p.ms.length by omega)]
  refine Es _ (by omega) hel ?_
  simp -implicitDefEqProofs -proj only [go_sem,seval]
  refine EO (fun b5 hb5=>?_)
  replace hb5:H b5=none:=hb5
  obtain ⟨n1,n2⟩:=EA hb5 q1
  obtain ⟨n3,n4⟩:=EA hb5 g1
  simp -implicitDefEqProofs -proj only [go_sem,seval]
  refine FH (fun bs hs=>?_)
  replace hs:AH H b5 _ bs=none:=hs
  obtain ⟨n5,n6⟩:=EA hs ((D3 n1).trans q1)
  obtain ⟨n7,n8⟩:=EA hs ((D3 n3).trans g1)
  simp -implicitDefEqProofs -proj only [go_sem,seval]
  refine Js (M:=Hx m) (GA ED rfl) ((D3 n5).trans ((D3 n1).trans q1)) rfl rfl (by decide) hL hl (fun c' cap' H' L' hL' r1 r2=>?_)
  obtain ⟨u1,m3,m4⟩:=r2 b1 _ ((D3 n7).trans ((D3 n3).trans g1)) hcb
  simp -implicitDefEqProofs -proj only [go_sem,seval]
  refine Em ⟨i+1,c',cap',L'⟩ ⟨by show i+1≤_; omega,m3,hL'⟩ (by show p.ms.length-(i+1)<p.ms.length-i; omega) rfl ?_ ⟨r1,u1,trivial⟩
  simp -implicitDefEqProofs -proj only [go_sem,seval,Dn,FN,FP,Fr,FR,E8 (show i<9223372036854775807 by omega)]
 have hi':i=p.ms.length:=by omega
 subst hi'
 rw [Jv,List.nil_append] at hL
 clear h hi
 simp -implicitDefEqProofs -proj only [go_sem,seval,FN,FP,Fr,FR,hH,g1,FQ,decide_eq_false (show ¬(p.ms.length:Int)<p.ms.length by omega)]
 clear hH
 refine Ec (fun y:PlY=>y.i≤p.fs.length∧¬b1=y.c∧y.l++((p.fs.drop y.i).flatMap HU++p.cs.flatMap Gg)=Fj p) 61 (fun y=>[(1,.ptr b1 0),(3,.own y.c 1 0 y.l.length y.cap),(31,.d (.sl 10 (ER p.fs))),(32,i64 p.fs.length),(33,i64 y.i)]) (fun y=>GY b1 p y.c y.cap y.l) (fun y=>p.fs.length-y.i) ⟨0,c,cap,L⟩ ⟨Nat.zero_le _,hcb,hL⟩ rfl ?_ ?_ ?_
 ·simp -implicitDefEqProofs -proj only [go_sem,seval,Dn,FN,FP,Fr,FR]
 ·exact ⟨q1,g1,trivial⟩
 clear q1 g1 hL hcb
 clear L cap c H
 rintro ⟨i,c,cap,L⟩ ⟨hi,hcb,hL⟩
 simp -implicitDefEqProofs only [FN,FP,FR] at hi hcb hL
 have hall:AT (D4 (GY b1 p c cap L)) (GY b1 p c cap L):=Ep (by simp [AQ]; exact fun e=>hcb e.symm)
 obtain ⟨H,hH⟩:∃H,D4 (GY b1 p c cap L)=H:=⟨_,rfl⟩
 rw [hH] at hall
 obtain ⟨q1,g1,qz⟩:=hall
 clear qz
 by_cases h:i<p.fs.length
 ·have hel:=K6 h
  rw [Jc h,List.append_assoc] at hL
  generalize p.fs[i]=x at *
  simp -implicitDefEqProofs -proj only [go_sem,seval,FN,FP,Fr,FR,hH,decide_eq_true (show (i:Int)<p.fs.length by omega)]
  refine Es _ (by omega) hel ?_
  simp -implicitDefEqProofs -proj only [go_sem,seval]
  refine EO (fun b5 hb5=>?_)
  replace hb5:H b5=none:=hb5
  obtain ⟨n1,n2⟩:=EA hb5 q1
  obtain ⟨n3,n4⟩:=EA hb5 g1
  simp -implicitDefEqProofs -proj only [go_sem,seval]
  refine FH (fun bs hs=>?_)
  replace hs:AH H b5 _ bs=none:=hs
  obtain ⟨n5,n6⟩:=EA hs ((D3 n1).trans q1)
  obtain ⟨n7,n8⟩:=EA hs ((D3 n3).trans g1)
  simp -implicitDefEqProofs -proj only [go_sem,seval]
  refine Js (M:=HU x) (GA ED rfl) ((D3 n5).trans ((D3 n1).trans q1)) rfl rfl (by decide) hL hl (fun c' cap' H' L' hL' r1 r2=>?_)
  obtain ⟨u1,m3,m4⟩:=r2 b1 _ ((D3 n7).trans ((D3 n3).trans g1)) hcb
  simp -implicitDefEqProofs -proj only [go_sem,seval]
  refine Em ⟨i+1,c',cap',L'⟩ ⟨by show i+1≤_; omega,m3,hL'⟩ (by show p.fs.length-(i+1)<p.fs.length-i; omega) rfl ?_ ⟨r1,u1,trivial⟩
  simp -implicitDefEqProofs -proj only [go_sem,seval,Dn,FN,FP,Fr,FR,E8 (show i<9223372036854775807 by omega)]
 have hi':i=p.fs.length:=by omega
 subst hi'
 rw [Jv,List.nil_append] at hL
 clear h hi
 simp -implicitDefEqProofs -proj only [go_sem,seval,FN,FP,Fr,FR,hH,g1,Ex,decide_eq_false (show ¬(p.fs.length:Int)<p.fs.length by omega)]
 clear hH
 have hL0:L++(p.cs.drop 0).flatMap Gg=Fj p:=hL
 refine Ec (fun y:PlY=>y.i≤p.cs.length∧y.l++(p.cs.drop y.i).flatMap Gg=Fj p) 61 (fun y=>[(3,.own y.c 1 0 y.l.length y.cap),(46,.d (.sl 16 (Ee p.cs))),(47,i64 p.cs.length),(48,i64 y.i)]) (fun y=>[(y.c,.row 3 1 y.cap (Fx y.l))]) (fun y=>p.cs.length-y.i) ⟨0,c,cap,L⟩ ⟨Nat.zero_le _,hL0⟩ rfl ?_ ?_ ?_
 ·simp -implicitDefEqProofs -proj only [go_sem,seval,Dn,FN,FP,Fr,FR]
 ·exact ⟨q1,trivial⟩
 clear q1 g1 hL hL0 hcb
 clear L cap c H
 rintro ⟨i,c,cap,L⟩ ⟨hi,hL⟩
 simp -implicitDefEqProofs only [FN,FP,FR] at hi hL
 have hall:AT (D4 [(c,Blk.row 3 1 cap (Fx L))]) [(c,.row 3 1 cap (Fx L))]:=Ep (by simp [AQ])
 obtain ⟨H,hH⟩:∃H,D4 [(c,Blk.row 3 1 cap (Fx L))]=H:=⟨_,rfl⟩
 rw [hH] at hall
 obtain ⟨q1,qz⟩:=hall
 clear qz
 by_cases h:i<p.cs.length
 ·have hel:=LH h
  rw [Jc h] at hL
  generalize p.cs[i]=x at *
  simp -implicitDefEqProofs -proj only [go_sem,seval,FN,FP,Fr,FR,hH,decide_eq_true (show (i:Int)<p.cs.length by omega)]
  refine Es _ (by omega) hel ?_
  simp -implicitDefEqProofs -proj only [go_sem,seval]
  refine EO (fun b5 hb5=>?_)
  replace hb5:H b5=none:=hb5
  obtain ⟨n1,n2⟩:=EA hb5 q1
  simp -implicitDefEqProofs -proj only [go_sem,seval]
  refine FH (fun bs hs=>?_)
  replace hs:AH H b5 _ bs=none:=hs
  obtain ⟨n5,n6⟩:=EA hs ((D3 n1).trans q1)
  simp -implicitDefEqProofs -proj only [go_sem,seval]
  refine Js (M:=Gg x) (GA ED rfl) ((D3 n5).trans ((D3 n1).trans q1)) rfl rfl (by decide) hL hl (fun c' cap' H' L' hL' r1 r2=>?_)
  simp -implicitDefEqProofs -proj only [go_sem,seval]
  refine Em ⟨i+1,c',cap',L'⟩ ⟨by show i+1≤_; omega,hL'⟩ (by show p.cs.length-(i+1)<p.cs.length-i; omega) rfl ?_ ⟨r1,trivial⟩
  simp -implicitDefEqProofs -proj only [go_sem,seval,Dn,FN,FP,Fr,FR,E8 (show i<9223372036854775807 by omega)]
 have hi':i=p.cs.length:=by omega
 subst hi'
 rw [Jv,List.append_nil] at hL
 subst hL
 simp -implicitDefEqProofs -proj only [go_sem,seval,FN,FP,Fr,FR,hH,decide_eq_false (show ¬(p.cs.length:Int)<p.cs.length by omega)]
 have:=NewV.own c 1 cap 3 cap (Fx (Fj p)) q1 (fun el he d hd=>by
  obtain ⟨n,_,rfl⟩:=List.mem_map.1 he
  simp -implicitDefEqProofs only [List.mem_cons,List.not_mem_nil,or_false] at hd
  subst hd; rfl)
 rwa [I3] at this
theorem V1 {p:PlanX} (hp:p.Sm) (hl:(Fj p).length≤1000000):DataW Try.prog Lm [FV p] (Gp (Fj p)):=(M3 hp hl).data
def HD (x y:Int):Bool:=decide (x=y)
def GR (x y:ByteArray):Bool:=x.toList == y.toList
theorem M6 {l:List ByteArray} {i:Nat} (h:i<l.length):(EV l)[((i:Int)).toNat]? = some [.str l[i]]:=by rw [Int.toNat_natCast]; simp [EV,h]
theorem UT {a b:List Int} (ha:a.length≤1000000) (hb:b.length≤1000000):DataW Try.prog VI [Gp a,Gp b] (bv (EN HD a b)):=by
 refine EQ Ox (by simp) ?_
 by_cases hl:a.length=b.length
 rotate_left
 ·rw [Kk hl]
  simp -implicitDefEqProofs -proj only [go_sem,seval,I3,decide_eq_false (show ¬(a.length:Int)=b.length by omega)]
  exact EM rfl
 simp -implicitDefEqProofs -proj only [go_sem,seval,I3,decide_eq_true (show (a.length:Int)=b.length by omega)]
 refine Ec (fun i:Nat=>i≤a.length∧EN HD (a.drop i) (b.drop i)=EN HD a b) 26 (fun i=>[(0,Gp a),(1,Gp b),(12,i64 a.length),(13,i64 i)]) (fun _=>[]) (fun i=>a.length-i) 0 ⟨Nat.zero_le _,by simp⟩ rfl ?_ ?_ ?_
 ·simp -implicitDefEqProofs -proj only [go_sem,seval,Dn]
  try simp [hl]
 ·trivial
 ·rintro i ⟨hi,hat⟩
  by_cases h:i<a.length
  ·have h':i<b.length:=by omega
   have e1:=Mn (List.getElem?_eq_getElem h)
   have e2:=Mn (List.getElem?_eq_getElem h')
   rw [List.drop_eq_getElem_cons h,List.drop_eq_getElem_cons h',EN] at hat
   generalize a[i]=x at *
   generalize b[i]=y at *
   simp -implicitDefEqProofs -proj only [go_sem,seval,decide_eq_true (show (i:Int)<a.length by omega)]
   refine Es _ (by omega) e1 ?_
   simp -implicitDefEqProofs -proj only [go_sem,seval]
   refine Es _ (by omega) e2 ?_
   by_cases hp:x=y
   ·rw [show HD x y=true from decide_eq_true hp,Bool.true_and] at hat
    simp -implicitDefEqProofs -proj only [go_sem,seval,decide_eq_true hp]
    refine Em (i+1) ⟨by omega,hat⟩ (by omega) rfl ?_ trivial
    simp -implicitDefEqProofs -proj only [go_sem,seval,Dn,E8 (show i<9223372036854775807 by omega)]
   ·rw [show HD x y=false from decide_eq_false hp,Bool.false_and] at hat
    simp -implicitDefEqProofs -proj only [go_sem,seval,decide_eq_false hp]
    rw [←hat]
    exact EM rfl
  ·have hi':i=a.length:=by omega
   subst hi'
   rw [List.drop_length,hl,List.drop_length] at hat
   simp -implicitDefEqProofs -proj only [go_sem,seval,decide_eq_false (show ¬(a.length:Int)<a.length by omega)]
   rw [←hat]
   exact EM rfl
theorem Sj {a b:List ByteArray} (ha:a.length≤1000000) (hb:b.length≤1000000):DataW Try.prog Ow [.d (.sl 1 (EV a)),.d (.sl 1 (EV b))] (bv (EN GR a b)):=by
 refine EQ RX (by simp) ?_
 by_cases hl:a.length=b.length
 rotate_left
 ·rw [Kk hl]
  simp -implicitDefEqProofs -proj only [go_sem,seval,Gr,decide_eq_false (show ¬(a.length:Int)=b.length by omega)]
  exact EM rfl
 simp -implicitDefEqProofs -proj only [go_sem,seval,Gr,decide_eq_true (show (a.length:Int)=b.length by omega)]
 refine Ec (fun i:Nat=>i≤a.length∧EN GR (a.drop i) (b.drop i)=EN GR a b) 26 (fun i=>[(0,.d (.sl 1 (EV a))),(1,.d (.sl 1 (EV b))),(12,i64 a.length),(13,i64 i)]) (fun _=>[]) (fun i=>a.length-i) 0 ⟨Nat.zero_le _,by simp⟩ rfl ?_ ?_ ?_
 ·simp -implicitDefEqProofs -proj only [go_sem,seval,Dn]
  try simp [hl]
 ·trivial
 ·rintro i ⟨hi,hat⟩
  by_cases h:i<a.length
  ·have h':i<b.length:=by omega
   have e1:=M6 h
   have e2:=M6 h'
   rw [List.drop_eq_getElem_cons h,List.drop_eq_getElem_cons h',EN] at hat
   generalize a[i]=x at *
   generalize b[i]=y at *
   simp -implicitDefEqProofs -proj only [go_sem,seval,decide_eq_true (show (i:Int)<a.length by omega)]
   refine Es _ (by omega) e1 ?_
   simp -implicitDefEqProofs -proj only [go_sem,seval]
   refine Es _ (by omega) e2 ?_
   cases hp:GR x y
   ·rw [hp,Bool.false_and] at hat
    unfold GR at hp
    simp -implicitDefEqProofs -proj only [go_sem,seval,KR,hp]
    rw [←hat]
    exact EM rfl
   ·rw [hp,Bool.true_and] at hat
    unfold GR at hp
    simp -implicitDefEqProofs -proj only [go_sem,seval,KR,hp]
    refine Em (i+1) ⟨by omega,hat⟩ (by omega) rfl ?_ trivial
    simp -implicitDefEqProofs -proj only [go_sem,seval,Dn,E8 (show i<9223372036854775807 by omega)]
  ·have hi':i=a.length:=by omega
   subst hi'
   rw [List.drop_length,hl,List.drop_length] at hat
   simp -implicitDefEqProofs -proj only [go_sem,seval,decide_eq_false (show ¬(a.length:Int)<a.length by omega)]
   rw [←hat]
   exact EM rfl
theorem Jt {a b:PlanX} (h1:a.Sm) (h2:b.Sm) (l1:(Ek a).length≤1000000) (l2:(Ek b).length≤1000000):DataW Try.prog OV [FV a,FV b] (bv (EN GR (Ek a) (Ek b))):=by
 refine EQ Qq (by simp) ?_
 simp -implicitDefEqProofs -proj only [go_sem,seval]
 refine EO (fun b2 hb2=>?_)
 simp -implicitDefEqProofs -proj only [go_sem,seval]
 refine EO (fun b3 hb3=>?_)
 replace hb3:AH Heap.none b2 _ b3=none:=hb3
 obtain ⟨n1,n2⟩:=EA hb3 ED
 simp -implicitDefEqProofs -proj only [go_sem,seval,n1,n2]
 refine E5 (MH l1 h1.m h1.f h1.c h1.ta) ?_
 simp -implicitDefEqProofs -proj only [go_sem,seval,n1,n2]
 refine Eb (MH l2 h2.m h2.f h2.c h2.ta) ?_
 simp -implicitDefEqProofs -proj only [go_sem,seval,n1,n2]
 refine Eb (Sj l1 l2) ?_
 simp -implicitDefEqProofs -proj only [go_sem,seval]
 exact EM rfl
theorem Ip {x y:ByteArray}:(x.toList == y.toList)=true↔x=y:=by
 rw [beq_iff_eq]
 exact ⟨Ua,fun e=>by rw [e]⟩
theorem MF {α:Type} {p : α→α→Bool} (hp:∀x y,p x y=true↔x=y):∀{a b:List α},EN p a b=true↔a=b
 | [],[]=>by simp [EN]
 | x::a,[]=>by simp [EN]
 | [],y::b=>by simp [EN]
 | x::a,y::b=>by simp [EN,hp,MF hp]
theorem Hd {α β:Type} {p : α→α→Bool} {g : α→List β} (hp:∀x y,p x y=true→g x=g y):∀{a b:List α},EN p a b=true→a.flatMap g=b.flatMap g∧a.length=b.length
 | [],[],_=>⟨rfl,rfl⟩
 | x::a,[],h=>by simp [EN] at h
 | [],y::b,h=>by simp [EN] at h
 | x::a,y::b,h=>by
  simp -implicitDefEqProofs only [EN,Bool.and_eq_true] at h
  obtain ⟨h1,h2⟩:=Hd hp h.2
  exact ⟨by rw [List.flatMap_cons,List.flatMap_cons,hp x y h.1,h1],by simp [h2]⟩
theorem HS {α β:Type} {p : α→α→Bool} {g : α→List β} {F : α→Prop} (hg:∀x y u v,F x→F y→g x++u=g y++v→p x y=true∧u=v):∀{a b:List α} {u v:List β},(∀x∈a,F x)→(∀y∈b,F y)→a.length=b.length→a.flatMap g++u=b.flatMap g++v→EN p a b=true∧u=v
 | [],[],u,v,_,_,_,h=>⟨rfl,by simpa using h⟩
 | x::a,[],u,v,_,_,h,_=>by simp at h
 | [],y::b,u,v,_,_,h,_=>by simp at h
 | x::a,y::b,u,v,hx,hy,hl,h=>by
  rw [List.flatMap_cons,List.flatMap_cons,List.append_assoc,List.append_assoc] at h
  obtain ⟨h1,h2⟩:=hg x y _ _ (hx x (by simp)) (hy y (by simp)) h
  obtain ⟨h3,h4⟩:=HS hg (fun z hz=>hx z (by simp [hz])) (fun z hz=>hy z (by simp [hz])) (by simpa using hl) h2
  exact ⟨by simp [EN,h1,h3],h4⟩
theorem E6 {n m:Int} (hn:Fit n) (hm:Fit m):AS n=AS m↔n=m:=⟨fun e=>Vg hn hm (by rw [e]),fun e=>by rw [e]⟩
theorem MY {n:Nat} (h:n≤1000000):Fit (n:Int):=by unfold Fit; omega
theorem IA {n m:Nat} (hn:n≤1000000) (hm:m≤1000000) (h:AS n=AS m):n=m:=by
 have:=(E6 (MY hn) (MY hm)).1 h
 omega
theorem UR {a b:Bool} (h:yn a=yn b):a=b:=by
 cases a <;> cases b <;> first | rfl | exact absurd h (by decide)
theorem SJ {a b:WinX} (ha:a.Fit) (hb:b.Fit) (h:Er a=Er b):FW a b=true:=by
 simp -implicitDefEqProofs only [Er,List.cons.injEq,and_true] at h
 obtain ⟨h0,h1,h2,h3,h4,h5,h6⟩:=h
 obtain ⟨⟨a1,a2,a3⟩,a4,a5,a6⟩:=ha
 obtain ⟨⟨b1,b2,b3⟩,b4,b5,b6⟩:=hb
 rw [E6 a1 b1] at h1
 rw [E6 a2 b2] at h2
 rw [E6 a3 b3] at h3
 rw [E6 a4 b4] at h4
 rw [E6 a5 b5] at h5
 rw [E6 a6 b6] at h6
 simp [FW,UR h0,h1,h2,h3,h4,h5,h6]
theorem Ju {a b:WinX} (h:FW a b=true):Er a=Er b:=by
 simp -implicitDefEqProofs only [FW,Bool.and_eq_true,beq_iff_eq,decide_eq_true_eq] at h
 obtain ⟨h0,h1,h2,h3,h4,h5,h6⟩:=h
 simp [Er,h0,h1,h2,h3,h4,h5,h6]
theorem Wp {x y:MeterX} {u v:List ByteArray} (hx:x.Fit) (hy:y.Fit) (h:Fi x++u=Fi y++v):FU x y=true∧u=v:=by
 simp -implicitDefEqProofs only [Fi,List.cons_append,List.nil_append,List.cons.injEq] at h
 obtain ⟨h1,h2,h3,h4⟩:=h
 rw [E6 hx.1 hy.1] at h3
 exact ⟨by simp [FU,h1,h2,h3],h4⟩
theorem QU {x y:MeterX} (h:FU x y=true):Fi x=Fi y:=by
 simp -implicitDefEqProofs only [FU,Bool.and_eq_true,Ip,decide_eq_true_eq] at h
 simp [Fi,h]
theorem KX {a b:WinX} {u v:List ByteArray} (ha:a.Fit) (hb:b.Fit) (h:Er a++u=Er b++v):FW a b=true∧u=v:=by
 obtain ⟨h1,h2⟩:=List.append_inj h rfl
 exact ⟨SJ ha hb h1,h2⟩
theorem QG {x y:FeeX} {u v:List ByteArray} (hx:x.Fit) (hy:y.Fit) (h:Fa x++u=Fa y++v):FS x y=true∧u=v:=by
 simp -implicitDefEqProofs only [Fa,List.cons_append,List.cons.injEq] at h
 obtain ⟨h1,h2⟩:=h
 rw [E6 hx.1 hy.1] at h1
 obtain ⟨h3,h4⟩:=KX hx.2.1 hy.2.1 h2
 exact ⟨by simp [FS,h1,h3],h4⟩
theorem Pq {x y:FeeX} (h:FS x y=true):Fa x=Fa y:=by
 simp -implicitDefEqProofs only [FS,Bool.and_eq_true,decide_eq_true_eq] at h
 simp [Fa,h.1,Ju h.2]
theorem UD {x y:Tier} {u v:List ByteArray} (hx:x.Fit) (hy:y.Fit) (h:Fp x++u=Fp y++v):Fv x y=true∧u=v:=by
 simp -implicitDefEqProofs only [Fp,List.cons_append,List.nil_append,List.cons.injEq] at h
 obtain ⟨h1,h2,h3⟩:=h
 rw [E6 hx.1 hy.1] at h1
 rw [E6 hx.2 hy.2] at h2
 exact ⟨by simp [Fv,h1,h2],h3⟩
theorem UN {x y:Tier} (h:Fv x y=true):Fp x=Fp y:=by
 simp -implicitDefEqProofs only [Fv,Bool.and_eq_true,decide_eq_true_eq] at h
 simp [Fp,h]
theorem Q8 {x y:Adj} {u v:List ByteArray} (hx:x.Fit) (hy:y.Fit) (h:Fg x++u=Fg y++v):F3 x y=true∧u=v:=by
 simp -implicitDefEqProofs only [Fg,List.cons_append,List.nil_append,List.cons.injEq] at h
 obtain ⟨h1,h2,h3,h4⟩:=h
 rw [E6 hx.1 hy.1] at h1
 rw [E6 hx.2.1 hy.2.1] at h2
 rw [E6 hx.2.2 hy.2.2] at h3
 exact ⟨by simp [F3,h1,h2,h3],h4⟩
theorem Uj {x y:Adj} (h:F3 x y=true):Fg x=Fg y:=by
 simp -implicitDefEqProofs only [F3,Bool.and_eq_true,decide_eq_true_eq] at h
 simp [Fg,h]
structure ChX.Sm (x:ChX):Prop where
 fit:x.Fit
 t:x.ts.length≤1000000
 a:x.ad.length≤1000000
theorem Og {x y:ChX} {u v:List ByteArray} (hx:x.Sm) (hy:y.Sm) (h:Ez x++u=Ez y++v):FT x y=true∧u=v:=by
 obtain ⟨fx,tx,ax⟩:=hx
 obtain ⟨fy,ty,ay⟩:=hy
 simp -implicitDefEqProofs only [Ez,IC,List.append_assoc,List.cons_append,List.nil_append,List.cons.injEq] at h
 obtain ⟨h1,h2⟩:=h
 obtain ⟨h3,h4⟩:=KX fx.w fy.w h2
 simp -implicitDefEqProofs only [List.cons.injEq] at h4
 obtain ⟨k1,k2,k3,k4,k5,k6,k7⟩:=h4
 rw [E6 fx.al fy.al] at k1
 rw [E6 fx.bl fy.bl] at k2
 rw [E6 fx.ki fy.ki] at k3
 rw [E6 fx.mo fy.mo] at k4
 obtain ⟨e1,k8⟩:=HS (fun x y u v=>UD) fx.ts fy.ts (IA tx ty k5) k7
 obtain ⟨e2,k9⟩:=HS (fun x y u v=>Q8) fx.ad fy.ad (IA ax ay k6) k8
 exact ⟨by simp [FT,h1,h3,k1,k2,k3,k4,e1,e2],k9⟩
theorem N3 {x y:ChX} (h:FT x y=true):Ez x=Ez y:=by
 simp -implicitDefEqProofs only [FT,Bool.and_eq_true,Ip,decide_eq_true_eq] at h
 obtain ⟨h1,h2,h3,h4,h5,h6,h7,h8⟩:=h
 obtain ⟨e1,e2⟩:=Hd (p:=Fv) (g:=Fp) (fun _ _=>UN) h7
 obtain ⟨e3,e4⟩:=Hd (p:=F3) (g:=Fg) (fun _ _=>Uj) h8
 simp -implicitDefEqProofs only [Ez,IC,h1,Ju h2,h3,h4,h5,h6,e1,e2,e3,e4]
theorem MW {a b c d:DateX}:FW ⟨false,a,b⟩ ⟨false,c,d⟩=(F6 a c&&F6 b d):=by
 simp [FW,F6,Bool.and_assoc]
theorem Uk {a b:PlanX} (ha:a.Fit) (hb:b.Fit) (sa:a.Sm) (sb:b.Sm):Ek a=Ek b↔Fe a b=true:=by
 constructor
 ·intro h
  simp -implicitDefEqProofs only [Ek,IH,List.append_assoc,List.cons_append,List.nil_append,List.cons.injEq] at h
  obtain ⟨h1,h2,h3⟩:=h
  obtain ⟨h4,h5⟩:=KX (a:=⟨false,a.f,a.t⟩) (b:=⟨false,b.f,b.t⟩) ⟨ha.f,ha.t⟩ ⟨hb.f,hb.t⟩ h3
  rw [MW,Bool.and_eq_true] at h4
  simp -implicitDefEqProofs only [List.cons.injEq] at h5
  obtain ⟨k1,k2,k3,k4⟩:=h5
  obtain ⟨e1,k5⟩:=HS (fun x y u v=>Wp) ha.ms hb.ms (IA sa.m sb.m k1) k4
  obtain ⟨e2,k6⟩:=HS (fun x y u v=>QG) ha.fs hb.fs (IA sa.f sb.f k2) k5
  obtain ⟨e3,_⟩:=HS (u:=[]) (v:=[]) (fun x y u v=>Og) (fun x hx=>⟨ha.cs x hx,(sa.ta x hx).1,(sa.ta x hx).2⟩) (fun x hx=>⟨hb.cs x hx,(sb.ta x hx).1,(sb.ta x hx).2⟩) (IA sa.c sb.c k3) (by rw [k6])
  simp [Fe,h1,h2,h4.1,h4.2,e1,e2,e3]
 ·intro h
  simp -implicitDefEqProofs only [Fe,Bool.and_eq_true,Ip] at h
  obtain ⟨h1,h2,h3,h4,h5,h6,h7⟩:=h
  obtain ⟨e1,e2⟩:=Hd (p:=FU) (g:=Fi) (fun _ _=>QU) h5
  obtain ⟨e3,e4⟩:=Hd (p:=FS) (g:=Fa) (fun _ _=>Pq) h6
  obtain ⟨e5,e6⟩:=Hd (p:=FT) (g:=Ez) (fun _ _=>N3) h7
  have e7:Er ⟨false,a.f,a.t⟩=Er ⟨false,b.f,b.t⟩:=Ju (by rw [MW,h3,h4]; rfl)
  simp -implicitDefEqProofs only [Ek,IH,h1,h2,e1,e2,e3,e4,e5,e6,e7]
theorem J9 {a b:PlanX} (ha:a.Fit) (hb:b.Fit) (sa:a.Sm) (sb:b.Sm):EN GR (Ek a) (Ek b)=Fe a b:=by
 rw [Bool.eq_iff_iff,MF (p:=GR) (fun _ _=>Ip),Uk ha hb sa sb]
theorem GT {α:Type} {p : α→α→Bool} (hp:∀x,p x x=true):∀a:List α,EN p a a=true
 | []=>rfl
 | x::a=>by simp [EN,hp,GT hp a]
theorem Iu {α:Type} {p : α→α→Bool} {g : α→α} (hp:∀x,p x (g x)=true):∀a:List α,EN p a (a.map g)=true
 | []=>rfl
 | x::a=>by simp [EN,hp,Iu hp a]
theorem LU (a:DateX):F6 a a=true:=by simp [F6]
theorem If (a:WinX):FW a a=true:=by simp [FW]
theorem Kt (a:Tier):Fv a a=true:=by simp [Fv]
theorem Mf (a:Adj):F3 a a=true:=by simp [F3]
theorem TO (a:MeterX):FU a a.pl=true:=by simp [FU,MeterX.pl]
theorem Pg (a:FeeX):FS a a.pl=true:=by simp [FS,FeeX.pl,If]
theorem Sw (a:ChX):FT a a.pl=true:=by simp [FT,ChX.pl,If,GT Kt,GT Mf]
theorem V9 (a:MeterX):FU a a=true:=by simp [FU]
theorem Uz (a:FeeX):FS a a=true:=by simp [FS,If]
theorem S7 (a:ChX):FT a a=true:=by simp [FT,If,GT Kt,GT Mf]
theorem Sc (a:PlanX):Fe a a=true:=by simp [Fe,LU,GT V9,GT Uz,GT S7]
theorem OA (a:PlanX):Fe a a.pl=true:=by simp [Fe,PlanX.pl,LU,Iu TO,Iu Pg,Iu Sw]
theorem Gb:Fit 0:=by unfold Fit; omega
theorem PlanX.Fit.pl {p:PlanX} (h:p.Fit):p.pl.Fit:=by
 refine ⟨h.f,h.t,fun a ha=>?_,by simp -implicitDefEqProofs only [PlanX.pl,List.length_map]; exact h.mn,fun a ha=>?_,by simp -implicitDefEqProofs only [PlanX.pl,List.length_map]; exact h.fn,fun a ha=>?_,by simp -implicitDefEqProofs only [PlanX.pl,List.length_map]; exact h.cn,Gb,Gb⟩
 ·obtain ⟨x,hx,rfl⟩:=List.mem_map.1 ha
  exact ⟨(h.ms x hx).1,Gb,Gb⟩
 ·obtain ⟨x,hx,rfl⟩:=List.mem_map.1 ha
  exact ⟨(h.fs x hx).1,(h.fs x hx).2.1,Gb,Gb⟩
 ·obtain ⟨x,hx,rfl⟩:=List.mem_map.1 ha
  have:=h.cs x hx
  exact ⟨this.w,this.al,this.bl,this.ki,this.ts,this.tn,this.mo,this.ad,this.an,Gb,Gb⟩
theorem PlanX.Sm.pl {p:PlanX} (h:p.Sm):p.pl.Sm:=by
 refine ⟨by simp -implicitDefEqProofs only [PlanX.pl,List.length_map]; exact h.m,by simp -implicitDefEqProofs only [PlanX.pl,List.length_map]; exact h.f,by simp -implicitDefEqProofs only [PlanX.pl,List.length_map]; exact h.c,fun a ha=>?_⟩
 obtain ⟨x,hx,rfl⟩:=List.mem_map.1 ha
 exact h.ta x hx
structure PlanX.Lo (p:PlanX):Prop where
 m:p.ms.length≤20
 f:p.fs.length≤40
 c:p.cs.length≤40
 ta:∀x∈p.cs,x.ts.length≤40∧x.ad.length≤40
theorem PlanX.lo {p:PlanX} (h:¬HB p):p.Lo:=by
 refine ⟨?_,?_,?_,fun x hx=>?_⟩
 ·exact Nat.not_lt.1 fun e=>h (.inl (.inl (by omega)))
 ·exact Nat.not_lt.1 fun e=>h (.inl (.inr (.inl (by omega))))
 ·exact Nat.not_lt.1 fun e=>h (.inl (.inr (.inr (.inl (by omega)))))
 ·exact ⟨Nat.not_lt.1 fun e=>h (.inr (.inr ⟨x,hx,.inl (by omega)⟩)),Nat.not_lt.1 fun e=>h (.inr (.inr ⟨x,hx,.inr (.inl (by omega))⟩))⟩
theorem PlanX.Lo.sm {p:PlanX} (h:p.Lo):p.Sm:=⟨by have:=h.m; omega,by have:=h.f; omega,by have:=h.c; omega,fun x hx=>by have:=h.ta x hx; omega⟩
theorem HR {α β:Type} {g : α→List β} {n:Nat}:∀{l:List α},(∀x∈l,(g x).length≤n)→(l.flatMap g).length≤l.length*n
 | [],_=>by simp
 | x::l,h=>by
  rw [List.flatMap_cons,List.length_append,List.length_cons,Nat.add_mul,Nat.one_mul]
  have:=h x (by simp)
  have:=HR (l:=l) fun y hy=>h y (by simp [hy])
  omega
theorem S9 {p:PlanX} {k:Nat} (hk:k≤100) (hm:p.ms.length≤k) (hf:p.fs.length≤k) (hc:p.cs.length≤k) (ht:∀x∈p.cs,x.ts.length≤k∧x.ad.length≤k):(Ek p).length≤1000000:=by
 have h1:(p.ms.flatMap Fi).length≤p.ms.length*3:=HR fun x _=>Nat.le_refl 3
 have h2:(p.fs.flatMap Fa).length≤p.fs.length*8:=HR fun x _=>Nat.le_refl 8
 have h3:(p.cs.flatMap Ez).length≤p.cs.length*514:=HR fun x hx=>by
  have h4:(x.ts.flatMap Fp).length≤x.ts.length*2:=HR fun x _=>Nat.le_refl 2
  have h5:(x.ad.flatMap Fg).length≤x.ad.length*3:=HR fun x _=>Nat.le_refl 3
  have h6:=ht x hx
  have h7:(IC x).length=14:=rfl
  simp -implicitDefEqProofs only [Ez,List.length_append,h7]
  omega
 have h4:(IH p).length=12:=rfl
 simp -implicitDefEqProofs only [Ek,List.length_append,h4]
 omega
theorem PlanX.Lo.txt {p:PlanX} (h:p.Lo):(Ek p).length≤1000000:=S9 (k:=40) (by omega) (by have:=h.m; omega) h.f h.c h.ta
theorem PlanX.Lo.plc {p:PlanX} (h:p.Lo):(Fj p).length≤1000000:=XB h.sm (by have:=h.m; omega) (by have:=h.f; omega) (by have:=h.c; omega)
theorem PlanX.Lo.pl {p:PlanX} (h:p.Lo):p.pl.Lo:=by
 refine ⟨by simp -implicitDefEqProofs only [PlanX.pl,List.length_map]; exact h.m,by simp -implicitDefEqProofs only [PlanX.pl,List.length_map]; exact h.f,by simp -implicitDefEqProofs only [PlanX.pl,List.length_map]; exact h.c,fun a ha=>?_⟩
 obtain ⟨x,hx,rfl⟩:=List.mem_map.1 ha
 exact h.ta x hx
theorem ND (n:Int):HD n n=true:=by simp [HD]
theorem VS {P:Program} {f:FuncId} {args:List AV} {H:Heap} {K:AV→Heap→Prop} (h:CallW P f args Heap.none K) :
  CallW P f args H fun r H'=>∃H1,K r H1∧(∀k x,H1 k=some x→H' k=some x∧H k=none)∧∀k x,H k=some x→H' k=some x:=by
 classical
 intro F w vs hh hv
 have hh0:HRel P F Heap.none w:=⟨fun b x hb=>(by cases hb),fun b x hb=>(by cases hb),hh.old⟩
 refine (h F w vs hh0 hv).mono fun e w' hr=>?_
 obtain ⟨r,H1,F',v,rfl,h1,h2,h3,h4⟩:=hr
 have hkeep:∀k,k<w.heap.size→w'.heap[k]? = w.heap[k]?:=fun k hk=>h3.keep k hk rfl
 have hnew:∀k x,H1 k=some x→w.heap.size≤k∧H k=none:=fun k x hx=>by
  rcases h3.dom k (by rw [hx]; simp) with e | e
  ·exact absurd rfl e
  ·exact ⟨e,hh.fresh e⟩
 refine ⟨r,fun k=>if H k=none then H1 k else H k,F',v,rfl,h1,⟨fun b x hb=>?_,fun b x hb hf=>?_,h2.old⟩,⟨h3.os,h3.tape,h3.output,h3.size,fun k hk _=>hkeep k hk,fun k hk=>?_,h3.mono,fun k hk=>?_⟩,H1,h4,fun k x hx=>?_,fun k x hx=>?_⟩
 ·split at hb
  ·exact h2.at_ b x hb
  ·exact (hh.at_ b x hb).mono (hkeep b (hh.at_ b x hb).lt) h3.mono (fun k hk=>hkeep k (hh.old k hk))
 ·split at hb
  ·exact h2.apart b x hb hf
  ·rcases h3.new b hf with e | e | e
   ·exact hh.apart b x hb e
   ·exact e rfl
   ·have:=(hh.at_ b x hb).lt; omega
 ·replace hk:(if H k=none then H1 k else H k)≠none:=hk
  split at hk
  ·next e =>
   cases hx:H1 k with
   | none=>exact absurd hx hk
   | some x=>exact .inr (hnew k x hx).1
  ·exact .inl hk
 ·rcases h3.new k hk with e | e | e
  ·exact .inl e
  ·exact absurd rfl e
  ·exact .inr (.inr e)
 ·exact ⟨by show (if H k=none then H1 k else H k)=some x; rw [if_pos (hnew k x hx).2]; exact hx,(hnew k x hx).2⟩
 ·show (if H k=none then H1 k else H k)=some x
  rw [if_neg (by rw [hx]; simp)]; exact hx
theorem Nz {H H1 H':Heap} {A B:List (Nat×Blk)} (h1:∀k x,H1 k=some x→H' k=some x∧H k=none) (h2:∀k x,H k=some x→H' k=some x) (ha:AT H1 A) (hb:AT H B) (na:(AQ A).Nodup) (nb:(AQ B).Nodup):AT H' (A++B)∧(AQ (A++B)).Nodup:=by
 refine ⟨Ao.2 ⟨Ei.2 fun q hq=>(h1 _ _ (Ei.1 ha q hq)).1,Ei.2 fun q hq=>h2 _ _ (Ei.1 hb q hq)⟩,?_⟩
 simp -implicitDefEqProofs only [AQ,List.map_append] at na nb ⊢
 refine List.nodup_append.2 ⟨na,nb,fun x hx y hy e=>?_⟩
 subst e
 obtain ⟨q,hq,rfl⟩:=List.mem_map.1 hx
 obtain ⟨s,hs,e⟩:=List.mem_map.1 hy
 have e1:=(h1 _ _ (Ei.1 ha q hq)).2
 have e2:=Ei.1 hb s hs
 rw [e,e1] at e2; cases e2
theorem HO {α:Type} {p : α→α→Bool} (hp:∀x y,p x y=p y x):∀{a b:List α},EN p a b=EN p b a
 | [],[]=>rfl
 | [],y::b=>rfl
 | x::a,[]=>rfl
 | x::a,y::b=>by rw [EN,EN,hp,HO hp (a:=a)]
theorem Lv (a b:DateX):F6 a b=F6 b a:=by simp [F6,eq_comm]
theorem LL (a b:WinX):FW a b=FW b a:=by simp [FW,eq_comm,Bool.beq_comm]
theorem OB (a b:Tier):Fv a b=Fv b a:=by simp [Fv,eq_comm]
theorem UG (a b:Adj):F3 a b=F3 b a:=by simp [F3,eq_comm]
theorem Hg (a b:ByteArray):(a.toList == b.toList)=(b.toList == a.toList):=Bool.beq_comm
theorem XS (a b:MeterX):FU a b=FU b a:=by rw [FU,FU,Hg,Hg a.un]; simp [eq_comm]
theorem N2 (a b:FeeX):FS a b=FS b a:=by rw [FS,FS,LL]; simp [eq_comm]
theorem R8 (a b:ChX):FT a b=FT b a:=by
 rw [FT,FT,Hg,LL,HO OB,HO UG (a:=a.ad)]
 simp -implicitDefEqProofs only [eq_comm]
theorem NQ (a b:PlanX):Fe a b=Fe b a:=by
 rw [Fe,Fe,Hg,Hg a.cu,Lv,Lv a.t,HO XS,HO N2 (a:=a.fs),HO R8 (a:=a.cs)]
theorem My {H:Heap}:∀{l:List (Nat×Blk)},AT H l→∀k,D4 l k=none∨D4 l k=H k
 | [],_,_=>.inl rfl
 | (b,x)::l,h,k=>by
  rw [Am]
  by_cases e:k=b
  ·rw [if_pos e]
   subst e
   exact .inr h.1.symm
  ·rw [if_neg e]
   exact My h.2 k
abbrev sA:ByteArray:=⟨⟨[97]⟩⟩
abbrev sB:ByteArray:=⟨⟨[98]⟩⟩
theorem U8 (s:ByteArray):DataW Try.prog NM [.d (.str s)] (bv false):=by
 refine EQ Vw (by simp) ?_
 simp -implicitDefEqProofs -proj only [go_sem,seval,KR]
 refine EM ?_
 simp
theorem OK (s t:ByteArray):DataW Try.prog Te [.d (.str s),.d (.str t)] (bv (Op.bytesLess s.toList t.toList)):=by
 refine EQ SD (by simp) ?_
 simp -implicitDefEqProofs -proj only [go_sem,seval]
 refine Eb (U8 s) ?_
 simp -implicitDefEqProofs -proj only [go_sem,seval,Sh]
 exact EM rfl
theorem Nw:Op.bytesLess sA.toList sB.toList=true:=by decide +kernel
abbrev rowBA:List (List D):=[[.str sB],[.str sA]]
abbrev GH:List (List D):=[[.str sA],[.str sB]]
abbrev H2 (c cap:Nat) (xs:List (List D)):List (Nat×Blk):=[(c,.row 9 1 cap xs)]
theorem SE {c cap cp:Nat}:CallW Try.prog Nl [.own c 1 0 2 cp,i64 0,i64 2] (D4 (H2 c cap rowBA)) fun _ H'=>H' c=some (.row 9 1 cap GH):=by
 have hall:∀xs,AT (D4 (H2 c cap xs)) (H2 c cap xs):=fun xs=>Ep (by simp [AQ])
 have hw1:IntKind.i64.wrap 1=1:=by decide
 have hw2:IntKind.i64.wrap 2=2:=by decide
 have hw0:IntKind.i64.wrap 0=0:=by decide
 refine EQ Wx (by simp) ?_
 simp -implicitDefEqProofs -proj only [go_sem,seval,hw1]
 refine Ec (fun x:Nat=>x≤1) 49 (fun x=>[(0,.own c 1 0 2 cp),(1,i64 0),(2,i64 2),(6,i64 ((x:Int)+1))]) (fun x=>H2 c cap (if x=0 then rowBA else GH)) (fun x=>1-x) 0 (by omega) rfl ?_ ?_ ?_
 ·simp -implicitDefEqProofs -proj only [go_sem,seval,Dn]
 ·simp -implicitDefEqProofs -proj only [go_sem,seval]
  exact hall _
 ·intro x hx
  rcases (by omega:x=0∨x=1) with rfl | rfl
  ·simp -implicitDefEqProofs -proj only [go_sem,seval]
   refine Ec (fun y:Nat=>y≤1) 49 (fun y=>[(0,.own c 1 0 2 cp),(1,i64 0),(2,i64 2),(6,i64 1),(7,i64 (1-(y:Int)))]) (fun y=>H2 c cap (if y=0 then rowBA else GH)) (fun y=>1-y) 0 (by omega) rfl ?_ ?_ ?_
   ·simp -implicitDefEqProofs -proj only [go_sem,seval,Dn]
   ·simp -implicitDefEqProofs -proj only [go_sem,seval]
    exact hall _
   ·intro y hy
    rcases (by omega:y=0∨y=1) with rfl | rfl
    ·have hr:D4 (H2 c cap rowBA) c=some (.row 9 1 cap rowBA):=(hall _).1
     have hw:IntKind.i64.wrap (1-1)=0:=by decide
     have hl:=OK sA sB
     rw [Nw] at hl
     simp -implicitDefEqProofs -proj only [go_sem,seval,hr]
     (repeat' (with_reducible refine E2 ?_ (fun h=>?_); (focus first | decide | omega); clear h; try simp -implicitDefEqProofs -proj only [go_sem,seval,eq_self,hr]))
     refine Hc _ rfl (by simp) ?_
     simp -implicitDefEqProofs -proj only [go_sem,seval,hr]
     refine Hc _ rfl (by simp) ?_
     simp -implicitDefEqProofs -proj only [go_sem,seval,hr]
     refine Eb hl ?_
     simp -implicitDefEqProofs -proj only [go_sem,seval,hr]
     (repeat' (with_reducible refine E2 ?_ (fun h=>?_); (focus first | decide | omega); clear h; try simp -implicitDefEqProofs -proj only [go_sem,seval,eq_self,hr]))
     refine Hc _ rfl (by simp) ?_
     simp -implicitDefEqProofs -proj only [go_sem,seval,hr]
     refine Hc _ rfl (by simp) ?_
     simp -implicitDefEqProofs -proj only [go_sem,seval,hr]
     (repeat' (with_reducible refine E2 ?_ (fun h=>?_); (focus first | decide | omega); clear h; try simp -implicitDefEqProofs -proj only [go_sem,seval,eq_self,hr]))
     refine HK (cap:=cap) (t:=9) (xs:=rowBA) hr rfl (by simp) ?_
     simp -implicitDefEqProofs -proj only [go_sem,seval]
     (repeat' (with_reducible refine E2 ?_ (fun h=>?_); (focus first | decide | omega); clear h; try simp -implicitDefEqProofs -proj only [go_sem,seval,eq_self]))
     refine HK (cap:=cap) (t:=9) (xs:=[[.str sB],[.str sB]]) (by simp -implicitDefEqProofs -proj only [go_sem,seval]; rfl) rfl (by simp) ?_
     simp -implicitDefEqProofs -proj only [go_sem,seval,hw0]
     refine Em 1 (by omega) (by omega) rfl ?_ ?_
     ·simp -implicitDefEqProofs -proj only [go_sem,seval,Dn]
     ·simp -implicitDefEqProofs -proj only [go_sem,seval,AT]
      try rfl
    ·simp -implicitDefEqProofs -proj only [go_sem,seval]
     refine Em 1 (by omega) (by omega) rfl ?_ ?_
     ·simp -implicitDefEqProofs -proj only [go_sem,seval,Dn,hw2]
     ·simp -implicitDefEqProofs -proj only [go_sem,seval]
      exact hall _
  ·have hr:D4 (H2 c cap GH) c=some (.row 9 1 cap GH):=(hall _).1
   simp -implicitDefEqProofs -proj only [go_sem,seval]
   try rfl
theorem Pc {c cap cp:Nat} {lim:Int}:CallW Try.prog WY [.own c 1 0 2 cp,i64 0,i64 2,i64 lim] (D4 (H2 c cap rowBA)) fun _ H'=>H' c=some (.row 9 1 cap GH):=by
 have hall:∀xs,AT (D4 (H2 c cap xs)) (H2 c cap xs):=fun xs=>Ep (by simp [AQ])
 have hw2:IntKind.i64.wrap 2=2:=by decide
 refine EQ Q4 (by simp) ?_
 simp -implicitDefEqProofs -proj only [go_sem,seval]
 refine Ec (fun x:Nat=>x=0) 134 (fun x=>[(0,.own c 1 0 2 cp),(1,i64 0),(2,i64 2),(3,i64 lim)]) (fun x=>H2 c cap rowBA) (fun x=>x) 0 rfl rfl ?_ ?_ ?_
 ·simp -implicitDefEqProofs -proj only [go_sem,seval,Dn]
 ·exact hall _
 ·rintro x rfl
  simp -implicitDefEqProofs -proj only [go_sem,seval,hw2]
  refine Gi SE (fun r H' hk=>?_)
  simp -implicitDefEqProofs -proj only [go_sem,seval]
  exact hk
set_option maxRecDepth 100000 in
theorem PE:DataW Try.prog Qg [.d (.int .u64 2)] (i64 2):=by
 refine EQ OM (by simp) ?_
 simp -implicitDefEqProofs -proj only [go_sem,seval]
 refine E2 (by decide +kernel) (fun _=>?_)
 exact EM (RR (by decide +kernel))
theorem PK:DataW Try.prog UY [.d (.int .u64 2)] (i64 2):=by
 refine EQ Q7 (by simp) ?_
 simp -implicitDefEqProofs -proj only [go_sem,seval]
 refine Eb PE ?_
 simp -implicitDefEqProofs -proj only [go_sem,seval]
 exact EM rfl
theorem O7 {H:Heap} {c cap cp:Nat} (h:H c=some (.row 9 1 cap rowBA)):CallW Try.prog Qs [.own c 1 0 2 cp] H fun _ H'=>H' c=some (.row 9 1 cap GH)∧∀k x,¬k=c→H k=some x→H' k=some x:=by
 have hall:AT (D4 (H2 c cap rowBA)) (H2 c cap rowBA):=Ep (by simp [AQ])
 refine EQ Wr (by simp) ?_
 have hw2:IntKind.u64.wrap 2=2:=by decide
 simp -implicitDefEqProofs -proj only [go_sem,seval,hw2]
 refine Eb PK ?_
 simp -implicitDefEqProofs -proj only [go_sem,seval]
 refine Gi (Tv (Pc (c:=c) (cap:=cap) (cp:=cp) (lim:=2)) (My ⟨h,trivial⟩)) (fun r H' hk=>?_)
 obtain ⟨H1,h1,h2,h3⟩:=hk
 simp -implicitDefEqProofs -proj only [go_sem,seval]
 refine ⟨h2 c _ h1,fun k x hk hx=>h3 k x hx ?_⟩
 simp -implicitDefEqProofs -proj only [go_sem,seval,hk]
 try rfl
abbrev s0:ByteArray:=⟨⟨[]⟩⟩
abbrev sP:ByteArray:=⟨⟨[112]⟩⟩
abbrev Ef (col:Int):List (List D):=[[.str sB,.str s0,.int .i64 0,.int .i64 0,.int .i64 col],[.str sA,.str s0,.int .i64 0,.int .i64 0,.int .i64 0]]
abbrev Jh:List (List D):=[[.int .i64 5,.bool false,.int .i64 0,.int .i64 0,.int .i64 0,.int .i64 0,.int .i64 0,.int .i64 0,.int .i64 0,.int .i64 0]]
abbrev HJ (M F:List (List D)) (ln:Int):List AV:=[.d (.str sP),.d (.str s0),i64 0,i64 0,i64 0,i64 0,i64 0,i64 0,.d (.sl 5 M),.d (.sl 10 F),.d (.sl 16 []),i64 ln,i64 0]
abbrev JF (M F:List (List D)) (ln:Int):AV:=.agg (HJ M F ln)
structure NmX where
 i:Nat
 c:Nat
 cap:Nat
theorem Gc {i c cap:Nat}:(NmX.mk i c cap).i=i:=(rfl)
theorem Gs {i c cap:Nat}:(NmX.mk i c cap).c=c:=(rfl)
theorem HA {i c cap:Nat}:(NmX.mk i c cap).cap=cap:=(rfl)
def Iy (b1:Nat) (y:NmX):List (Nat×Blk):=HP 9 1 y.c y.cap (rowBA.take y.i)++[(b1,.box 28 (HJ (Ef 0) [] 0))]
theorem UB:NewW Try.prog WW [JF (Ef 0) [] 0] (.d (.sl 1 GH)):=by
 have hw1:IntKind.i64.wrap 1=1:=by decide
 have hw2:IntKind.i64.wrap 2=2:=by decide
 refine EQ Vo (by simp) ?_
 simp -implicitDefEqProofs -proj only [go_sem,seval]
 refine EO (fun b1 hb1=>?_)
 have a1:=JE (x:=.box 28 (HJ (Ef 0) [] 0)) hb1 (l:=[]) trivial
 have k1:=He (x:=.box 28 (HJ (Ef 0) [] 0)) hb1 (l:=[]) trivial List.nodup_nil
 simp -implicitDefEqProofs -proj only [go_sem,seval]
 refine Ec (fun y:NmX=>y.i≤2∧(AQ (Iy b1 y)).Nodup) 22 (fun y=>[(1,.ptr b1 0),(3,HG 0 1 y.c y.cap (rowBA.take y.i)),(7,.d (.sl 5 (Ef 0))),(8,i64 2),(9,i64 y.i)]) (Iy b1) (fun y=>2-y.i) ⟨0,0,0⟩ ⟨Nat.zero_le _,k1⟩ rfl ?_ ?_ ?_
 ·simp -implicitDefEqProofs -proj only [go_sem,seval,Dn,Gc,Gs,HA]
  try rfl
 ·simp -implicitDefEqProofs -proj only [go_sem,seval]
  exact a1
 ·rintro ⟨i,c,cap⟩ ⟨hi,hn⟩
  simp -implicitDefEqProofs only [Gc] at hi
  have hall:=Ep hn
  obtain ⟨H,hH⟩:∃H,D4 (Iy b1 ⟨i,c,cap⟩)=H:=⟨_,rfl⟩
  rw [hH] at hall
  simp -implicitDefEqProofs only [Iy,Gc,Gs,HA] at hall hn
  obtain ⟨hrow,e1,_⟩:=Ao.1 hall
  rcases (by omega:i=0∨i=1∨i=2) with rfl | rfl | rfl
  ·simp -implicitDefEqProofs -proj only [go_sem,seval,Gc,Gs,HA,hH,e1]
   refine Es [.str sB,.str s0,.int .i64 0,.int .i64 0,.int .i64 0] (by decide) rfl ?_
   simp -implicitDefEqProofs -proj only [go_sem,seval]
   refine EO (fun b5 hb5=>?_)
   replace hb5:H b5=none:=hb5
   simp -implicitDefEqProofs -proj only [go_sem,seval]
   refine FH (fun bs hs'=>?_)
   have hall2:=Gf (y:=some (.box 34 [.d (.str sB),.d (.str s0),i64 0,i64 0,i64 0])) hb5 hall
   replace hs':AH H b5 _ bs=none:=hs'
   simp -implicitDefEqProofs -proj only [go_sem,seval]
   refine MA (xs:=rowBA.take 0) (y:=[.str sB]) (t:=9) (capc:=1) [(b1,.box 28 (HJ (Ef 0) [] 0))] rfl (Gf hs' hall2) hn (by simp -implicitDefEqProofs -proj only [go_sem,seval]) (by decide) (by decide) (fun H' c' cap' ha hk=>?_)
   simp -implicitDefEqProofs -proj only [go_sem,seval,hw1]
   refine Em ⟨1,c',cap'⟩ ⟨by show 1≤2; omega,hk⟩ (by show 2-1<2-0; omega) rfl ?_ ha
   simp -implicitDefEqProofs -proj only [go_sem,seval,Dn,Gc,Gs,HA,hw1]
   try rfl
  ·simp -implicitDefEqProofs -proj only [go_sem,seval,Gc,Gs,HA,hH,e1]
   refine Es [.str sA,.str s0,.int .i64 0,.int .i64 0,.int .i64 0] (by decide) rfl ?_
   simp -implicitDefEqProofs -proj only [go_sem,seval]
   refine EO (fun b5 hb5=>?_)
   replace hb5:H b5=none:=hb5
   simp -implicitDefEqProofs -proj only [go_sem,seval]
   refine FH (fun bs hs'=>?_)
   have hall2:=Gf (y:=some (.box 34 [.d (.str sA),.d (.str s0),i64 0,i64 0,i64 0])) hb5 hall
   replace hs':AH H b5 _ bs=none:=hs'
   simp -implicitDefEqProofs -proj only [go_sem,seval]
   refine MA (xs:=rowBA.take 1) (y:=[.str sA]) (t:=9) (capc:=1) [(b1,.box 28 (HJ (Ef 0) [] 0))] rfl (Gf hs' hall2) hn (by simp -implicitDefEqProofs -proj only [go_sem,seval]) (by decide) (by decide) (fun H' c' cap' ha hk=>?_)
   simp -implicitDefEqProofs -proj only [go_sem,seval,hw2]
   refine Em ⟨2,c',cap'⟩ ⟨by show 2≤2; omega,hk⟩ (by show 2-2<2-1; omega) rfl ?_ ha
   simp -implicitDefEqProofs -proj only [go_sem,seval,Dn,Gc,Gs,HA,hw2]
   try rfl
  ·simp -implicitDefEqProofs -proj only [go_sem,seval,Gc,Gs,HA,hH]
   refine Gi (O7 (cap:=cap) hrow.1) (fun r H' hk=>?_)
   obtain ⟨h1,h2⟩:=hk
   simp -implicitDefEqProofs -proj only [go_sem,seval]
   exact .own _ _ _ _ _ GH h1 (by intro el he d hd; simp -implicitDefEqProofs only [List.mem_cons,List.not_mem_nil,or_false] at he; rcases he with rfl | rfl <;> (simp -implicitDefEqProofs only [List.mem_cons,List.not_mem_nil,or_false] at hd; subst hd; rfl))
theorem MR {x y:ByteArray} {c d:Int} (h:x.toList == y.toList):DataW Try.prog I7 [.agg [.d (.str x),.d (.str s0),i64 0,i64 0,i64 c],.agg [.d (.str y),.d (.str s0),i64 0,i64 0,i64 d]] (bv true):=by
 refine EQ Oj (by simp) ?_
 simp -implicitDefEqProofs -proj only [go_sem,seval]
 refine EO (fun b2 hb2=>?_)
 simp -implicitDefEqProofs -proj only [go_sem,seval]
 refine EO (fun b3 hb3=>?_)
 replace hb3:AH Heap.none b2 _ b3=none:=hb3
 obtain ⟨n1,n2⟩:=EA hb3 ED
 simp -implicitDefEqProofs -proj only [go_sem,seval,n1,n2,I5,h,beq_self_eq_true,decide_eq_true (rfl:(0:Int)=0)]
 exact EM rfl
theorem R0 {c d:Int}:DataW Try.prog Pb [.d (.sl 5 (Ef c)),.d (.sl 5 (Ef d)),.fn I7 []] (bv true):=by
 have hw1:IntKind.i64.wrap 1=1:=by decide
 have hw2:IntKind.i64.wrap 2=2:=by decide
 refine EQ RG (by simp) ?_
 simp -implicitDefEqProofs -proj only [go_sem,seval]
 refine Ec (fun i:Nat=>i≤2) 32 (fun i=>[(0,.d (.sl 5 (Ef c))),(1,.d (.sl 5 (Ef d))),(2,.fn I7 []),(15,.d (.sl 5 (Ef c))),(16,i64 2),(17,i64 i)]) (fun _=>[]) (fun i=>2-i) 0 (by omega) rfl ?_ ?_ ?_
 ·simp -implicitDefEqProofs -proj only [go_sem,seval,Dn]
  try rfl
 ·simp -implicitDefEqProofs -proj only [go_sem,seval,AT]
 ·intro i hi
  rcases (by omega:i=0∨i=1∨i=2) with rfl | rfl | rfl
  ·simp -implicitDefEqProofs -proj only [go_sem,seval]
   refine Es [.str sB,.str s0,.int .i64 0,.int .i64 0,.int .i64 c] (by decide) rfl ?_
   simp -implicitDefEqProofs -proj only [go_sem,seval]
   refine EO (fun b8 hb8=>?_)
   simp -implicitDefEqProofs -proj only [go_sem,seval]
   refine Es [.str sB,.str s0,.int .i64 0,.int .i64 0,.int .i64 d] (by decide) rfl ?_
   simp -implicitDefEqProofs -proj only [go_sem,seval]
   refine EO (fun b9 hb9=>?_)
   simp -implicitDefEqProofs only [AK] at hb9
   have n1:¬b8=b9:=fun e=>by subst e; simp at hb9
   have n2:¬b9=b8:=fun e=>n1 e.symm
   simp -implicitDefEqProofs -proj only [go_sem,seval,n1,n2]
   refine Eb (MR (by simp)) ?_
   simp -implicitDefEqProofs -proj only [go_sem,seval,hw1]
   refine Em 1 (by omega) (by omega) rfl ?_ trivial
   simp -implicitDefEqProofs -proj only [go_sem,seval,Dn,hw1]
   try rfl
  ·simp -implicitDefEqProofs -proj only [go_sem,seval]
   refine Es [.str sA,.str s0,.int .i64 0,.int .i64 0,.int .i64 0] (by decide) rfl ?_
   simp -implicitDefEqProofs -proj only [go_sem,seval]
   refine EO (fun b8 hb8=>?_)
   simp -implicitDefEqProofs -proj only [go_sem,seval]
   refine Es [.str sA,.str s0,.int .i64 0,.int .i64 0,.int .i64 0] (by decide) rfl ?_
   simp -implicitDefEqProofs -proj only [go_sem,seval]
   refine EO (fun b9 hb9=>?_)
   simp -implicitDefEqProofs only [AK] at hb9
   have n1:¬b8=b9:=fun e=>by subst e; simp at hb9
   have n2:¬b9=b8:=fun e=>n1 e.symm
   simp -implicitDefEqProofs -proj only [go_sem,seval,n1,n2]
   refine Eb (MR (by simp)) ?_
   simp -implicitDefEqProofs -proj only [go_sem,seval,hw2]
   refine Em 2 (by omega) (by omega) rfl ?_ trivial
   simp -implicitDefEqProofs -proj only [go_sem,seval,Dn,hw2]
   try rfl
  ·simp -implicitDefEqProofs -proj only [go_sem,seval]
   exact EM rfl
theorem Wb {c d:Int}:DataW Try.prog Q3 [.d (.sl 5 (Ef c)),.d (.sl 5 (Ef d)),.fn I7 []] (bv true):=by
 refine EQ OF (by simp) ?_
 simp -implicitDefEqProofs -proj only [go_sem,seval]
 refine Eb R0 ?_
 simp -implicitDefEqProofs -proj only [go_sem,seval]
 exact EM rfl
theorem SB:DataW Try.prog PN [.d (.sl 16 []),.d (.sl 16 []),.fn Kv []] (bv true):=by
 have h:DataW Try.prog Qw [.d (.sl 16 []),.d (.sl 16 []),.fn Kv []] (bv true):=by
  refine EQ Ni (by simp) ?_
  simp -implicitDefEqProofs -proj only [go_sem,seval]
  refine Ec (fun i:Nat=>i=0) 32 (fun i=>[(16,i64 0),(17,i64 0)]) (fun _=>[]) (fun i=>i) 0 rfl rfl ?_ ?_ ?_
  ·simp -implicitDefEqProofs -proj only [go_sem,seval,Dn]
  ·simp -implicitDefEqProofs -proj only [go_sem,seval,AT]
  ·rintro i rfl
   simp -implicitDefEqProofs -proj only [go_sem,seval]
   exact EM rfl
 refine EQ WR (by simp) ?_
 simp -implicitDefEqProofs -proj only [go_sem,seval]
 refine Eb h ?_
 simp -implicitDefEqProofs -proj only [go_sem,seval]
 exact EM rfl
theorem Mq {F:List (List D)} (hF:F=[]∨F=Jh):DataW Try.prog Ls [.d (.sl 10 []),.d (.sl 10 F),.fn Kh []] (bv (decide (F.length=0))):=by
 have h:DataW Try.prog Ns [.d (.sl 10 []),.d (.sl 10 F),.fn Kh []] (bv (decide (F.length=0))):=by
  refine EQ SW (by simp) ?_
  rcases hF with rfl | rfl
  ·simp -implicitDefEqProofs -proj only [go_sem,seval]
   refine Ec (fun i:Nat=>i=0) 32 (fun i=>[(16,i64 0),(17,i64 0)]) (fun _=>[]) (fun i=>i) 0 rfl rfl ?_ ?_ ?_
   ·simp -implicitDefEqProofs -proj only [go_sem,seval,Dn]
   ·simp -implicitDefEqProofs -proj only [go_sem,seval,AT]
   ·rintro i rfl
    simp -implicitDefEqProofs -proj only [go_sem,seval]
    exact EM rfl
  ·simp -implicitDefEqProofs -proj only [go_sem,seval]
   exact EM rfl
 refine EQ Si (by simp) ?_
 simp -implicitDefEqProofs -proj only [go_sem,seval]
 refine Eb h ?_
 simp -implicitDefEqProofs -proj only [go_sem,seval]
 exact EM rfl
theorem Ll {c d e:Int} {F:List (List D)} {u:Bool} (h2:DataW Try.prog Ls [.d (.sl 10 []),.d (.sl 10 F),.fn Kh []] (bv u)):DataW Try.prog US [JF (Ef c) [] 0,JF (Ef d) F e] (bv u):=by
 have h1:=Wb (c:=c) (d:=d)
 have h3:=SB
 refine EQ SL (by simp) ?_
 simp -implicitDefEqProofs -proj only [go_sem,seval]
 refine EO (fun b2 hb2=>?_)
 simp -implicitDefEqProofs -proj only [go_sem,seval]
 refine EO (fun b3 hb3=>?_)
 replace hb3:AH Heap.none b2 _ b3=none:=hb3
 obtain ⟨n1,n2⟩:=EA hb3 ED
 simp -implicitDefEqProofs -proj only [go_sem,seval,n1,n2,I5,beq_self_eq_true,decide_eq_true (rfl:(0:Int)=0)]
 refine Eb h1 ?_
 simp -implicitDefEqProofs -proj only [go_sem,seval,n1,n2]
 refine Eb h2 ?_
 cases u
 ·simp -implicitDefEqProofs -proj only [go_sem,seval,n1,n2]
  exact EM rfl
 ·simp -implicitDefEqProofs -proj only [go_sem,seval,n1,n2]
  refine Eb h3 ?_
  simp -implicitDefEqProofs -proj only [go_sem,seval]
  exact EM rfl
theorem V3:(sB.toList == sA.toList)=false:=by decide +kernel
theorem L7 {H:Heap} {b:Nat} {x y:ByteArray} {c:Int} {z:Bool} (hb:H b=some (.box 9 [.d (.str y)])) (h:(x.toList == y.toList)=z):CallW Try.prog Ii [.agg [.d (.str x),.d (.str s0),i64 0,i64 0,i64 c],.ptr b 0] H fun r H'=>r=bv z∧H' b=some (.box 9 [.d (.str y)]):=by
 refine EQ OS (by simp) ?_
 simp -implicitDefEqProofs -proj only [go_sem,seval]
 refine EO (fun b2 hb2=>?_)
 replace hb2:H b2=none:=hb2
 obtain ⟨n1,n2⟩:=EA hb2 hb
 simp -implicitDefEqProofs -proj only [go_sem,seval,n1,n2,hb,I5,h]
theorem U5 {H:Heap} {b:Nat} (hb:H b=some (.box 9 [.d (.str sA)])):CallW Try.prog WO [.d (.sl 5 (Ef 0)),.fn Ii [.ptr b 0]] H fun r _=>r=i64 1:=by
 have hw1:IntKind.i64.wrap 1=1:=by decide
 have hall:AT (D4 [(b,.box 9 [.d (.str sA)])]) [(b,.box 9 [.d (.str sA)])]:=Ep (by simp [AQ])
 refine EQ VX (by simp) ?_
 simp -implicitDefEqProofs -proj only [go_sem,seval]
 refine Ec (fun i:Nat=>i≤1) 19 (fun i=>[(0,.d (.sl 5 (Ef 0))),(1,.fn Ii [.ptr b 0]),(6,.d (.sl 5 (Ef 0))),(7,i64 2),(8,i64 i)]) (fun _=>[(b,.box 9 [.d (.str sA)])]) (fun i=>2-i) 0 (by omega) rfl ?_ ?_ ?_
 ·simp -implicitDefEqProofs -proj only [go_sem,seval,Dn]
  try rfl
 ·exact ⟨hb,trivial⟩
 ·intro i hi
  rcases (by omega:i=0∨i=1) with rfl | rfl
  ·simp -implicitDefEqProofs -proj only [go_sem,seval]
   refine Es [.str sB,.str s0,.int .i64 0,.int .i64 0,.int .i64 0] (by decide) rfl ?_
   simp -implicitDefEqProofs -proj only [go_sem,seval]
   refine Gi (L7 hall.1 V3) (fun r H' hk=>?_)
   obtain ⟨rfl,hk⟩:=hk
   simp -implicitDefEqProofs -proj only [go_sem,seval,hw1]
   refine Em 1 (by omega) (by omega) rfl ?_ ⟨hk,trivial⟩
   simp -implicitDefEqProofs -proj only [go_sem,seval,Dn,hw1]
   try rfl
  ·simp -implicitDefEqProofs -proj only [go_sem,seval]
   refine Es [.str sA,.str s0,.int .i64 0,.int .i64 0,.int .i64 0] (by decide) rfl ?_
   simp -implicitDefEqProofs -proj only [go_sem,seval]
   refine Gi (L7 (z:=true) hall.1 (by simp)) (fun r H' hk=>?_)
   obtain ⟨rfl,hk⟩:=hk
   simp -implicitDefEqProofs -proj only [go_sem,seval,hw1]
   try rfl
theorem N1 {H:Heap} {b:Nat} (hb:H b=some (.box 9 [.d (.str sA)])):CallW Try.prog Ng [.d (.sl 5 (Ef 0)),.fn Ii [.ptr b 0]] H fun r _=>r=i64 1:=by
 refine EQ Rb (by simp) ?_
 simp -implicitDefEqProofs -proj only [go_sem,seval]
 refine Gi (U5 hb) (fun r H' hk=>?_)
 subst hk
 simp -implicitDefEqProofs -proj only [go_sem,seval]
theorem Sd:DataW Try.prog TK [JF (Ef 0) [] 0,.d (.str sA)] (i64 1):=by
 refine EQ O2 (by simp) ?_
 simp -implicitDefEqProofs -proj only [go_sem,seval]
 refine EO (fun b2 hb2=>?_)
 simp -implicitDefEqProofs -proj only [go_sem,seval]
 refine EO (fun b3 hb3=>?_)
 replace hb3:AH Heap.none b2 _ b3=none:=hb3
 obtain ⟨n1,n2⟩:=EA hb3 ED
 simp -implicitDefEqProofs -proj only [go_sem,seval,n1,n2]
 refine Gi (N1 (by simp -implicitDefEqProofs -proj only [go_sem,seval])) (fun r H' hk=>?_)
 subst hk
 simp -implicitDefEqProofs -proj only [go_sem,seval]
 exact EM rfl
theorem Ha {H:Heap} {m f c m' f' c':AV} {n d:AV} {a1 a2 a3 a4 a5 a6 a7 a8:AV} (h1:LendV H m m') (h2:LendV H f f') (h3:LendV H c c'):LendV H (.agg [n,d,a1,a2,a3,a4,a5,a6,m,f,c,a7,a8]) (.agg [n,d,a1,a2,a3,a4,a5,a6,m',f',c',a7,a8]):=by
 refine .aggL ?_
 iterate 8 refine EB (.refl _) ?_
 exact EB h1 (EB h2 (EB h3 (LendL.refl _)))
theorem Tj:DataW Try.prog WG [] (bv true):=by
 have h0:=UB
 have h1:=Ll (c:=0) (d:=0) (e:=0) (F:=[]) (u:=true) (Mq (.inl rfl))
 have h2:=Ll (c:=0) (d:=7) (e:=3) (F:=Jh) (u:=false) (Mq (.inr rfl))
 have h3:=Sd
 refine EQ VD (by simp) ?_
 simp -implicitDefEqProofs -proj only [go_sem,seval]
 refine FH (fun bs hs=>?_)
 simp -implicitDefEqProofs -proj only [go_sem,seval]
 refine EO (fun b1 hb1=>?_)
 replace hb1:AH Heap.none bs _ b1=none:=hb1
 obtain ⟨n1,n2⟩:=EA hb1 ED
 simp -implicitDefEqProofs -proj only [go_sem,seval,n1,n2]
 refine FH (fun br hr=>?_)
 simp -implicitDefEqProofs only [AK,n1,n2,↓reduceIte] at hr
 have n3:¬b1=br:=fun e=>by subst e; simp [n1,n2] at hr
 have n4:¬bs=br:=fun e=>by subst e; simp [n1,n2] at hr
 have n5:¬br=b1:=fun e=>n3 e.symm
 have n6:¬br=bs:=fun e=>n4 e.symm
 simp -implicitDefEqProofs -proj only [go_sem,seval,n1,n2,n3,n4,n5,n6]
 refine FH (fun bq hq=>?_)
 simp -implicitDefEqProofs only [AK,n1,n2,n3,n4,n5,n6,↓reduceIte] at hq
 have m1:¬b1=bq:=fun e=>by subst e; simp [n1,n2,n3,n4,n5,n6] at hq
 have m2:¬bs=bq:=fun e=>by subst e; simp [n1,n2,n3,n4,n5,n6] at hq
 have m3:¬br=bq:=fun e=>by subst e; simp [n1,n2,n3,n4,n5,n6] at hq
 have m4:¬bq=b1:=fun e=>m1 e.symm
 have m5:¬bq=bs:=fun e=>m2 e.symm
 have m6:¬bq=br:=fun e=>m3 e.symm
 simp -implicitDefEqProofs -proj only [go_sem,seval,n1,n2,n3,n4,n5,n6,m1,m2,m3,m4,m5,m6]
 refine EO (fun b2 hb2=>?_)
 simp -implicitDefEqProofs only [AK,n1,n2,n3,n4,n5,n6,m1,m2,m3,m4,m5,m6,↓reduceIte] at hb2
 have k1:¬b1=b2:=fun e=>by subst e; simp [n1,n2,n3,n4,n5,n6,m1,m2,m3,m4,m5,m6] at hb2
 have k2:¬bs=b2:=fun e=>by subst e; simp [n1,n2,n3,n4,n5,n6,m1,m2,m3,m4,m5,m6] at hb2
 have k3:¬br=b2:=fun e=>by subst e; simp [n1,n2,n3,n4,n5,n6,m1,m2,m3,m4,m5,m6] at hb2
 have k4:¬bq=b2:=fun e=>by subst e; simp [n1,n2,n3,n4,n5,n6,m1,m2,m3,m4,m5,m6] at hb2
 have k5:¬b2=b1:=fun e=>k1 e.symm
 have k6:¬b2=bs:=fun e=>k2 e.symm
 have k7:¬b2=br:=fun e=>k3 e.symm
 have k8:¬b2=bq:=fun e=>k4 e.symm
 simp -implicitDefEqProofs -proj only [go_sem,seval,n1,n2,n3,n4,n5,n6,m1,m2,m3,m4,m5,m6,k1,k2,k3,k4,k5,k6,k7,k8]
 refine Q1 h0 (EB (Ha (G1 (xs:=Ef 0) (by simp -implicitDefEqProofs -proj only [go_sem,seval,n1,n2,n3,n4,n5,n6,m1,m2,m3,m4,m5,m6,k1,k2,k3,k4,k5,k6,k7,k8]; try rfl) rfl) (.nilsl _ _) (.nilsl _ _)) Gj) ?_
 simp -implicitDefEqProofs -proj only [go_sem,seval,n1,n2,n3,n4,n5,n6,m1,m2,m3,m4,m5,m6,k1,k2,k3,k4,k5,k6,k7,k8]
 refine Kl h1 (EB (Ha (G1 (xs:=Ef 0) (by simp -implicitDefEqProofs -proj only [go_sem,seval,n1,n2,n3,n4,n5,n6,m1,m2,m3,m4,m5,m6,k1,k2,k3,k4,k5,k6,k7,k8]; try rfl) rfl) (.nilsl _ _) (.nilsl _ _)) (EB (Ha (G1 (xs:=Ef 0) (by simp -implicitDefEqProofs -proj only [go_sem,seval,n1,n2,n3,n4,n5,n6,m1,m2,m3,m4,m5,m6,k1,k2,k3,k4,k5,k6,k7,k8]; try rfl) rfl) (.nilsl _ _) (.nilsl _ _)) Gj)) rfl ?_
 simp -implicitDefEqProofs -proj only [go_sem,seval,n1,n2,n3,n4,n5,n6,m1,m2,m3,m4,m5,m6,k1,k2,k3,k4,k5,k6,k7,k8]
 refine Kl h2 (EB (Ha (G1 (xs:=Ef 0) (by simp -implicitDefEqProofs -proj only [go_sem,seval,n1,n2,n3,n4,n5,n6,m1,m2,m3,m4,m5,m6,k1,k2,k3,k4,k5,k6,k7,k8]; try rfl) rfl) (.nilsl _ _) (.nilsl _ _)) (EB (Ha (G1 (xs:=Ef 7) (by simp -implicitDefEqProofs -proj only [go_sem,seval,n1,n2,n3,n4,n5,n6,m1,m2,m3,m4,m5,m6,k1,k2,k3,k4,k5,k6,k7,k8]; try rfl) rfl) (G1 (xs:=Jh) (by simp -implicitDefEqProofs -proj only [go_sem,seval,n1,n2,n3,n4,n5,n6,m1,m2,m3,m4,m5,m6,k1,k2,k3,k4,k5,k6,k7,k8]; try rfl) rfl) (.nilsl _ _)) Gj)) rfl ?_
 simp -implicitDefEqProofs -proj only [go_sem,seval,n1,n2,n3,n4,n5,n6,m1,m2,m3,m4,m5,m6,k1,k2,k3,k4,k5,k6,k7,k8]
 refine Kl h3 (EB (Ha (G1 (xs:=Ef 0) (by simp -implicitDefEqProofs -proj only [go_sem,seval,n1,n2,n3,n4,n5,n6,m1,m2,m3,m4,m5,m6,k1,k2,k3,k4,k5,k6,k7,k8]; try rfl) rfl) (.nilsl _ _) (.nilsl _ _)) (EB (.refl _) Gj)) rfl ?_
 simp -implicitDefEqProofs -proj only [go_sem,seval,n1,n2,n3,n4,n5,n6,m1,m2,m3,m4,m5,m6,k1,k2,k3,k4,k5,k6,k7,k8]
 refine Es [.str sA] (by decide) rfl ?_
 simp -implicitDefEqProofs -proj only [go_sem,seval,I5,beq_self_eq_true]
 exact EM rfl
abbrev sZ:ByteArray:=⟨⟨[122]⟩⟩
theorem GenS.off {M:List MeterX} {F:List FeeX} {X:List ChX} {m f c:AV} {H:Heap} {B:List (Nat×Blk)} (hm:Ea m 5 M.length) (hf:Ea f 10 F.length) (hc:Ea c 16 X.length) (ha:AT H ((Al 55 c (Ee X)++(Al 51 f (ER F)++Al 34 m (D7 M)))++B)) (hn:(AQ ((Al 55 c (Ee X)++(Al 51 f (ER F)++Al 34 m (D7 M)))++B)).Nodup):GenS M F X m f c H :=
 ⟨hm,hf,hc,(Ao.1 ha).1,by simp -implicitDefEqProofs only [AQ,List.map_append] at hn ⊢; exact (List.nodup_append.1 hn).1⟩
theorem JJ:∀{X:List ChX} {P:List (AV×AV)} {j:Nat},P.length=X.length→j<X.length→∃A B,∀(x:ChX) (q:AV×AV),EI (X.set j x) (P.set j q)=A++((Al 58 q.1 (Ed x.ts)++Al 60 q.2 (E1 x.ad))++B)
 | [],_,_,_,h=>by simp at h
 | x::X,[],_,h,_=>by simp at h
 | x::X,q::P,0,_,_=>⟨[],EI X P,fun y r=>by simp [EI]⟩
 | x::X,q::P,j+1,h,hj=>by
  obtain ⟨A,B,hab⟩:=JJ (X:=X) (P:=P) (j:=j) (by simpa using h) (by simpa using hj)
  exact ⟨(Al 58 q.1 (Ed x.ts)++Al 60 q.2 (E1 x.ad))++A,B,fun y r=>by simp -implicitDefEqProofs only [List.set_cons_succ,EI,hab,List.append_assoc]⟩
theorem Jd:∀{X:List ChX} {P:List (AV×AV)} {j:Nat} {x:ChX} {q:AV×AV},P.length=X.length→EP (X.set j x) (P.set j q)=(EP X P).set j (GS x q.1 q.2 x.ln x.co)
 | [],_,_,_,_,_=>by simp [EP]
 | x::X,[],_,_,_,h=>by simp at h
 | x::X,r::P,0,y,q,_=>by simp [EP]
 | x::X,r::P,j+1,y,q,h=>by simp -implicitDefEqProofs only [List.set_cons_succ,EP,Jd (X:=X) (P:=P) (by simpa using h)]
theorem Iz:∀{X:List ChX} {P:List (AV×AV)} {j:Nat} (h1:j<X.length) (h2:j<P.length),(EP X P)[j]? = some (GS X[j] (P[j]).1 (P[j]).2 X[j].ln X[j].co)
 | [],_,_,h,_=>by simp at h
 | x::X,[],_,_,h=>by simp at h
 | x::X,r::P,0,_,_=>rfl
 | x::X,r::P,j+1,h1,h2=>by
  have:=Iz (X:=X) (P:=P) (j:=j) (by simpa using h1) (by simpa using h2)
  simpa [EP] using this
theorem KV:∀{X:List ChX} {P:List (AV×AV)} {j:Nat} (h1:j<X.length) (h2:j<P.length),FB X P→Ea (P[j]).1 2 X[j].ts.length∧Ea (P[j]).2 3 X[j].ad.length
 | [],_,_,h,_,_=>by simp at h
 | x::X,[],_,_,h,_=>by simp at h
 | x::X,r::P,0,_,_,h=>⟨h.1,h.2.1⟩
 | x::X,r::P,j+1,h1,h2,h=>KV (X:=X) (P:=P) (j:=j) (by simpa using h1) (by simpa using h2) h.2.2
theorem Ke:∀{X:List ChX} {P:List (AV×AV)} {j:Nat} {x:ChX} {q:AV×AV},FB X P→Ea q.1 2 x.ts.length→Ea q.2 3 x.ad.length→FB (X.set j x) (P.set j q)
 | [],[],_,_,_,_,_,_=>trivial
 | [],r::P,_,_,_,h,_,_=>False.elim h
 | x::X,[],_,_,_,_,_,_=>by cases ‹Nat› <;> trivial
 | x::X,r::P,0,y,q,h,h1,h2=>⟨h1,h2,h.2.2⟩
 | x::X,r::P,j+1,y,q,h,h1,h2=>⟨h.1,h.2.1,Ke (X:=X) (P:=P) h.2.2 h1 h2⟩
theorem Sa {P:Program} {f:FuncId} {args args':List AV} {r:AV} {H H2:Heap} {K:AV→Heap→Prop} (hd:Redesc P H H2) (h:DataW P f args' r) (hl:LendL H2 args args') (hs:G4 r=true) (hk:K r H):CallW P f args H K:=by
 intro F w vs hh hv
 obtain ⟨F2,hh2,st⟩:=hd F w hh
 refine (h.run (F:=fun k=>F2 k∨FI H2 k) (fun k hk=>?_) (hl.sound hh2 (hv.mono st.mono (fun _ _=>rfl)))).mono fun e w' hr=>?_
 ·rcases hk with hk | ⟨t,sz,cap,xs,hk⟩
  ·exact hh2.old k hk
  ·exact (hh2.at_ k _ hk).lt
 obtain ⟨F',v,rfl,h1,h2,h3⟩:=hr
 have hkeep:∀k,k<w.heap.size→w'.heap[k]? = w.heap[k]?:=fun k hk=>h3.keep k hk rfl
 refine ⟨r,H,fun k=>F' k∧H k=none,v,rfl,Iw h1 hs,⟨fun b x hb=>?_,fun b x hb hf=>?_,fun k hk=>h2 k hk.1⟩,⟨h3.os,h3.tape,h3.output,h3.size,fun k hk _=>hkeep k hk,fun k hk=>.inl hk,fun k hk=>⟨h3.mono k (.inl (st.mono k hk)),hh.out hk⟩,fun k hk=>?_⟩,hk⟩
 ·exact (hh.at_ b x hb).mono (hkeep b (hh.at_ b x hb).lt) (fun k hk=>⟨h3.mono k (.inl (st.mono k hk)),hh.out hk⟩) (fun k hk=>hkeep k (hh.old k hk))
 ·rw [hf.2] at hb; cases hb
 ·rcases h3.new k hk.1 with (e | ⟨t,sz,cap,xs,e⟩) | e | e
  ·exact st.new k e
  ·rcases st.dom k (by rw [e]; simp) with e' | e'
   ·exact .inr (.inl e')
   ·exact .inr (.inr e')
  ·exact absurd rfl e
  ·exact .inr (.inr e)
theorem M9 {P:Program} {f:FuncId} {args args':List AV} {r:AV} {H H2:Heap} {K:AV→Heap→Prop} (hd:Redesc P H H2) (h:NewW P f args' r) (hl:LendL H2 args args') (hk:K r H):CallW P f args H K:=by
 intro F w vs hh hv
 obtain ⟨F2,hh2,st⟩:=hd F w hh
 have hold:∀k,F2 k∨FI H2 k→k<w.heap.size:=by
  rintro k (hk | ⟨t,sz,cap,xs,hk⟩)
  ·exact hh2.old k hk
  ·exact (hh2.at_ k _ hk).lt
 refine (h (fun k=>F2 k∨FI H2 k) w vs ⟨fun b x hb=>(by cases hb),fun b x hb=>(by cases hb),hold⟩ (hl.sound hh2 (hv.mono st.mono (fun _ _=>rfl)))).mono fun e w' hr=>?_
 obtain ⟨r',H',F',v,rfl,h1,h2,h3,h4⟩:=hr
 have hkeep:∀k,k<w.heap.size→w'.heap[k]? = w.heap[k]?:=fun k hk=>h3.keep k hk rfl
 have hnew:∀k,FI H' k→w.heap.size≤k:=by
  rintro k ⟨t,sz,cap,xs,e⟩
  rcases h3.dom k (by rw [e]; simp) with e | e
  ·exact absurd rfl e
  ·exact e
 refine ⟨r,H,fun k=>F k∨FI H' k,v,rfl,(h4.sound h2 h1).mono (fun _ h=>.inr h) (fun _ _=>rfl),⟨fun b x hb=>?_,fun b x hb hf=>?_,fun k hk=>?_⟩,⟨h3.os,h3.tape,h3.output,h3.size,fun k hk _=>hkeep k hk,fun k hk=>.inl hk,fun k hk=>.inl hk,fun k hk=>?_⟩,hk⟩
 ·exact (hh.at_ b x hb).mono (hkeep b (hh.at_ b x hb).lt) (fun k hk=>.inl hk) (fun k hk=>hkeep k (hh.old k hk))
 ·rcases hf with hf | hf
  ·exact hh.apart b x hb hf
  ·have:=hnew b hf
   have:=(hh.at_ b x hb).lt
   omega
 ·rcases hk with hk | ⟨t,sz,cap,xs,e⟩
  ·exact Nat.lt_of_lt_of_le (hh.old k hk) h3.size
  ·exact (h2.at_ k _ e).lt
 ·rcases hk with hk | hk
  ·exact .inl hk
  ·exact .inr (.inr (hnew k hk))
theorem UM (a:PlanX):a.pl.pl=a.pl:=by
 simp -implicitDefEqProofs only [PlanX.pl,List.map_map]
 congr 1
def MeterX.nz (m:MeterX):MeterX:=⟨m.nm++sZ,m.un,m.mx,m.ln,m.co⟩
theorem WI {g:MeterX→MeterX} {ms:List MeterX} {i:Nat} (h:i<ms.length):(D7 (EG g i ms))[i]? = some (ms[i]).el:=by
 rw [D7,List.getElem?_map,Je h]; rfl
theorem TG {g:MeterX→MeterX} {ms:List MeterX} {i:Nat} (h:i<ms.length):(D7 (EG g i ms)).set i (g (ms[i])).el=D7 (EG g (i+1) ms):=by
 rw [←J4 h,D7,D7,List.map_set]
abbrev EU (b1 b3 b4:Nat) (a p:PlanX) (m f c:AV) (P:List (AV×AV)) (pad:List AV) (M:List MeterX) (X:List ChX):List (Nat×Blk) :=
 (b4,.box 28 (Eg p.nm p.cu p.f p.t m f c 0 0))::((EI X P++(Ff c ((EP X P).flatten++pad)++(Al 51 f (ER p.fs)++Al 34 m (D7 M))))++[(b3,.box 28 p.cells),(b1,.box 28 a.cells)])
theorem Oh {b1 b3 b4:Nat} {a p:PlanX} {m f c:AV} {P:List (AV×AV)} {pad:List AV} {M M':List MeterX} {X:List ChX}:AQ (EU b1 b3 b4 a p m f c P pad M X)=AQ (EU b1 b3 b4 a p m f c P pad M' X):=by
 have e:=ID (e:=34) (e':=34) (r:=m) (xs:=D7 M) (ys:=D7 M')
 simp -implicitDefEqProofs only [AQ,List.map_cons,List.map_append] at e ⊢
 rw [e]
theorem P2 {H:Heap} {b1 b3 b4 bm n cap:Nat} {a p:PlanX} {f c:AV} {P:List (AV×AV)} {pad:List AV} {M M':List MeterX} {X:List ChX} (h:AT H (EU b1 b3 b4 a p (.own bm 5 0 n cap) f c P pad M X)) (hn:(AQ (EU b1 b3 b4 a p (.own bm 5 0 n cap) f c P pad M X)).Nodup):AT (AH H bm (some (.row 34 5 cap (D7 M')))) (EU b1 b3 b4 a p (.own bm 5 0 n cap) f c P pad M' X):=by
 have e:∀M,EU b1 b3 b4 a p (.own bm 5 0 n cap) f c P pad M X=((b4,.box 28 (Eg p.nm p.cu p.f p.t (.own bm 5 0 n cap) f c 0 0))::(EI X P++(Ff c ((EP X P).flatten++pad)++Al 51 f (ER p.fs))))++(bm,.row 34 5 cap (D7 M))::[(b3,.box 28 p.cells),(b1,.box 28 a.cells)]:=fun M=>by
  simp -implicitDefEqProofs only [EU,IJ,List.append_assoc,List.cons_append,List.nil_append]
 rw [e] at h hn ⊢
 exact GV h hn
theorem OY {X:List ChX} {P:List (AV×AV)} {j:Nat} {x:ChX} (h1:P.length=X.length) (h2:j<X.length):AQ (EI (X.set j x) P)=AQ (EI X P):=by
 obtain ⟨A,B,hab⟩:=JJ h1 h2
 have e1:=hab x (P[j]'(by omega))
 have e2:=hab X[j] (P[j]'(by omega))
 rw [List.set_getElem_self] at e1 e2
 rw [List.set_getElem_self] at e2
 rw [e1,e2]
 have k1:=ID (e:=58) (e':=58) (r:=(P[j]'(by omega)).1) (xs:=Ed x.ts) (ys:=Ed X[j].ts)
 have k2:=ID (e:=60) (e':=60) (r:=(P[j]'(by omega)).2) (xs:=E1 x.ad) (ys:=E1 X[j].ad)
 simp -implicitDefEqProofs only [AQ,List.map_append] at k1 k2 ⊢
 rw [k1,k2]
theorem M0 {b1 b3 b4:Nat} {a p:PlanX} {m f:AV} {cc n cap j:Nat} {P:List (AV×AV)} {pad:List AV} {M:List MeterX} {X:List ChX} {x:ChX} (h1:P.length=X.length) (h2:j<X.length):AQ (EU b1 b3 b4 a p m f (.own cc 16 0 n cap) P pad M (X.set j x))=AQ (EU b1 b3 b4 a p m f (.own cc 16 0 n cap) P pad M X):=by
 have e:=OY (x:=x) h1 h2
 simp -implicitDefEqProofs only [AQ,List.map_cons,List.map_append,Ff,List.map_nil] at e ⊢
 rw [e]
theorem Rn {α:Type} {l:List α} {i:Nat} {v : α} (h:l[i]? = some v):l.set i v=l:=by
 obtain ⟨hi,rfl⟩:=List.getElem?_eq_some_iff.1 h
 exact List.set_getElem_self hi
theorem Ql {H:Heap} {b1 b3 b4 cc n cap j:Nat} {a p:PlanX} {m f:AV} {P:List (AV×AV)} {pad:List AV} {M:List MeterX} {X:List ChX} {x:ChX} (h1:P.length=X.length) (h2:j<X.length) (ht:x.ts=X[j].ts) (ha:x.ad=X[j].ad) (h:AT H (EU b1 b3 b4 a p m f (.own cc 16 0 n cap) P pad M X)) (hn:(AQ (EU b1 b3 b4 a p m f (.own cc 16 0 n cap) P pad M X)).Nodup):AT (AH H cc (some (.box 55 ((EP (X.set j x) P).flatten++pad)))) (EU b1 b3 b4 a p m f (.own cc 16 0 n cap) P pad M (X.set j x)):=by
 have hI:EI (X.set j x) P=EI X P:=by
  obtain ⟨A,B,hab⟩:=JJ h1 h2
  have e1:=hab x (P[j]'(by omega))
  have e2:=hab X[j] (P[j]'(by omega))
  rw [List.set_getElem_self] at e1 e2
  rw [List.set_getElem_self] at e2
  rw [e1,e2,ht,ha]
 have e:∀Y Z,EI Y P=EI X P→(b4,Blk.box 28 (Eg p.nm p.cu p.f p.t m f (.own cc 16 0 n cap) 0 0))::((EI Y P++(Ff (.own cc 16 0 n cap) Z++(Al 51 f (ER p.fs)++Al 34 m (D7 M))))++[(b3,.box 28 p.cells),(b1,.box 28 a.cells)])=((b4,.box 28 (Eg p.nm p.cu p.f p.t m f (.own cc 16 0 n cap) 0 0))::EI X P)++(cc,.box 55 Z)::(Al 51 f (ER p.fs)++(Al 34 m (D7 M)++[(b3,.box 28 p.cells),(b1,.box 28 a.cells)])):=fun Y Z hY=>by
  rw [hY]
  simp -implicitDefEqProofs only [Ff,List.append_assoc,List.cons_append,List.nil_append]
 simp -implicitDefEqProofs only [EU] at h hn ⊢
 rw [e _ _ rfl] at h hn
 rw [e _ _ hI]
 exact GV h hn
theorem M7 {H:Heap} {b1 b3 b4 cc n cap j bt nt ct:Nat} {a p:PlanX} {m f ad:AV} {P:List (AV×AV)} {pad:List AV} {M:List MeterX} {X:List ChX} {ts:List Tier} (h1:P.length=X.length) (h2:j<X.length) (hq:P[j]'(by omega)=(.own bt 2 0 nt ct,ad)) (h:AT H (EU b1 b3 b4 a p m f (.own cc 16 0 n cap) P pad M X)) (hn:(AQ (EU b1 b3 b4 a p m f (.own cc 16 0 n cap) P pad M X)).Nodup) :
  H bt=some (.row 58 2 ct (Ed X[j].ts))∧AT (AH H bt (some (.row 58 2 ct (Ed ts)))) (EU b1 b3 b4 a p m f (.own cc 16 0 n cap) P pad M (X.set j ⟨X[j].me,X[j].w,X[j].al,X[j].bl,X[j].ki,ts,X[j].mo,X[j].ad,X[j].ln,X[j].co⟩)):=by
 have hjP:j<P.length:=by omega
 have hS:EP (X.set j ⟨X[j].me,X[j].w,X[j].al,X[j].bl,X[j].ki,ts,X[j].mo,X[j].ad,X[j].ln,X[j].co⟩) P=EP X P:=by
  have e1:=Jd (j:=j) (x:=⟨X[j].me,X[j].w,X[j].al,X[j].bl,X[j].ki,ts,X[j].mo,X[j].ad,X[j].ln,X[j].co⟩) (q:=P[j]) h1
  rw [List.set_getElem_self] at e1
  rw [e1]
  exact Rn (Iz h2 hjP)
 obtain ⟨A,B,hab⟩:=JJ h1 h2
 have e1:=hab ⟨X[j].me,X[j].w,X[j].al,X[j].bl,X[j].ki,ts,X[j].mo,X[j].ad,X[j].ln,X[j].co⟩ P[j]
 have e2:=hab X[j] P[j]
 rw [List.set_getElem_self] at e1 e2
 rw [List.set_getElem_self] at e2
 rw [hq] at e1 e2
 simp -implicitDefEqProofs only [EU] at h hn ⊢
 rw [e2] at h hn
 rw [e1,hS]
 simp -implicitDefEqProofs only [IJ,List.append_assoc,List.cons_append,List.nil_append] at h hn ⊢
 rw [←List.cons_append] at h hn ⊢
 exact ⟨(Ao.1 h).2.1,GV h hn⟩
structure TpY where
 i:Nat
 X:List ChX
theorem F9 {i:Nat} {X:List ChX}:(TpY.mk i X).i=i:=(rfl)
theorem F5 {i:Nat} {X:List ChX}:(TpY.mk i X).X=X:=(rfl)
theorem TreePlain_ok {a:PlanX} (fa:a.Fit):DataW Try.prog T6 [FV a] (bv true):=by
 refine EQ Wz (by simp) ?_
 simp -implicitDefEqProofs -proj only [go_sem,seval]
 refine EO (fun b1 hb1=>?_)
 simp -implicitDefEqProofs -proj only [go_sem,seval]
 refine Eb Tj ?_
 simp -implicitDefEqProofs -proj only [go_sem,seval]
 refine Eb Vn ?_
 by_cases g1:HB a
 ·rw [decide_eq_true g1]
  simp -implicitDefEqProofs -proj only [go_sem,seval]
  exact EM rfl
 rw [decide_eq_false g1]
 simp -implicitDefEqProofs -proj only [go_sem,seval]
 have la:=PlanX.lo g1
 have hP:=TQ la.sm
 have lp:=la.pl
 have fp:=fa.pl
 have hpa:Fe a.pl a=true:=by rw [NQ]; exact OA a
 have hpp:=UM a
 have hnm:∀m∈a.pl.ms,m.nm.size≤200:=by
  intro m hm
  obtain ⟨x,hx,rfl⟩:=List.mem_map.1 hm
  exact Nat.not_lt.1 fun h=>g1 (.inr (.inl ⟨x,hx,.inl (by show (200:Int)<(x.nm.size:Int); exact_mod_cast h)⟩))
 generalize a.pl=p at hP lp fp hpa hpp hnm
 refine Eb hP ?_
 simp -implicitDefEqProofs -proj only [go_sem,seval]
 refine EO (fun b3 hb3=>?_)
 replace hb3:AH Heap.none b1 (some (.box 28 a.cells)) b3=none:=hb3
 obtain ⟨n1,n2⟩:=EA hb3 ED
 simp -implicitDefEqProofs -proj only [go_sem,seval,n1,n2]
 refine Gi (VS (Kx lp.sm)) (fun r H' hk'=>?_)
 obtain ⟨H1,⟨m,f,c,P,pad,rfl,hg⟩,u1,u2⟩:=hk'
 have hg:=hg.gen
 rw [show p.ms.map MeterX.pl=p.ms from congrArg PlanX.ms hpp,show p.fs.map FeeX.pl=p.fs from congrArg PlanX.fs hpp,show p.cs.map ChX.pl=p.cs from congrArg PlanX.cs hpp] at hg
 obtain ⟨hm,hf,hc,hn,hok,hall0,hnd0⟩:=hg
 obtain ⟨hall,hnd⟩:=Nz (B:=[(b3,.box 28 p.cells),(b1,.box 28 a.cells)]) u1 u2 hall0 ⟨ED,(D3 n1).trans ED,trivial⟩ hnd0 (by simp [AQ]; exact n1)
 clear u1 u2 hb3 hb1 hall0 hnd0
 simp -implicitDefEqProofs -proj only [go_sem,seval]
 refine EO (fun b4 hb4=>?_)
 replace hb4:H' b4=none:=hb4
 have h1:H' b1=some (.box 28 a.cells):=(Ao.1 hall).2.2.1
 have h3:H' b3=some (.box 28 p.cells):=(Ao.1 hall).2.1
 obtain ⟨n3,n4⟩:=EA hb4 h1
 obtain ⟨n5,n6⟩:=EA hb4 h3
 have a1:=JE (x:=.box 28 (Eg p.nm p.cu p.f p.t m f c 0 0)) hb4 hall
 have k1:=He (x:=.box 28 (Eg p.nm p.cu p.f p.t m f c 0 0)) hb4 hall hnd
 have hpz:p.ln=0∧p.co=0:=⟨(congrArg PlanX.ln hpp).symm,(congrArg PlanX.co hpp).symm⟩
 simp -implicitDefEqProofs -proj only [go_sem,seval,n1,n2,n3,n4,n5,n6,h1,h3]
 have hgd:GenD p.ms p.fs p.cs m f c P pad (AH H' b4 (some (.box 28 (Eg p.nm p.cu p.f p.t m f c 0 0)))):=⟨hm,hf,hc,hn,hok,(Ao.1 a1.2).1,by
  simp -implicitDefEqProofs only [AQ,List.map_append] at hnd ⊢; exact (List.nodup_append.1 hnd).1⟩
 obtain ⟨H2,hd,hs⟩:=hgd.pack (Pr:=Try.prog)
 have hlend:LendV H2 (.agg (Eg p.nm p.cu p.f p.t m f c 0 0)) (FV p):=by
  have:=GenS.lend (p:=p) hs
  rwa [hpz.1,hpz.2] at this
 unfold GF
 refine Sa hd (Jt lp.sm lp.sm lp.txt lp.txt) (EB (.refl _) (EB hlend Gj)) rfl ?_
 rw [J9 fp fp lp.sm lp.sm,Sc]
 simp -implicitDefEqProofs -proj only [go_sem,seval,n1,n2,n3,n4,n5,n6,h1,h3]
 refine E5 (V1 lp.sm lp.plc) ?_
 simp -implicitDefEqProofs -proj only [go_sem,seval,n1,n2,n3,n4,n5,n6,h1,h3]
 unfold GF
 refine M9 hd (M3 lp.sm lp.plc) (EB hlend Gj) ?_
 simp -implicitDefEqProofs -proj only [go_sem,seval,n1,n2,n3,n4,n5,n6,h1,h3]
 refine Eb (UT lp.plc lp.plc) ?_
 rw [GT ND]
 clear hd hs hlend H2 hgd
 simp -implicitDefEqProofs -proj only [go_sem,seval,n1,n2,n3,n4,n5,n6,h1,h3,IR hm]
 have z1:=lp.m
 have z3:=lp.c
 refine Ec (fun i:Nat=>i≤p.ms.length) 90 (fun i=>[(1,.ptr b1 0),(3,.ptr b3 0),(4,.ptr b4 0),(30,i64 p.ms.length),(31,i64 i)]) (fun i=>EU b1 b3 b4 a p m f c P pad (EG MeterX.nz i p.ms) p.cs) (fun i=>p.ms.length-i) 0 (Nat.zero_le _) rfl ?_ ?_ ?_
 ·simp -implicitDefEqProofs -proj only [go_sem,seval,Dn]
 ·rw [Kj]; exact a1
 clear a1 h1 h3 hall
 intro i hi
 have kn:(AQ (EU b1 b3 b4 a p m f c P pad (EG MeterX.nz i p.ms) p.cs)).Nodup:=by rw [Oh]; exact k1
 have hall:=Ep kn
 obtain ⟨H,hH⟩:∃H,D4 (EU b1 b3 b4 a p m f c P pad (EG MeterX.nz i p.ms) p.cs)=H:=⟨_,rfl⟩
 rw [hH] at hall
 have g4:H b4=some (.box 28 (Eg p.nm p.cu p.f p.t m f c 0 0)):=hall.1
 by_cases h:i<p.ms.length
 ·obtain ⟨bm,capm,rfl⟩:=Is hm (by omega)
  have q1:=WI (g:=MeterX.nz) h
  have q2:=TG (g:=MeterX.nz) h
  have hsz:=hnm _ (List.getElem_mem h)
  have gm:H bm=some (.row 34 5 capm (D7 (EG MeterX.nz i p.ms))):=(Ao.1 (Ao.1 (Ao.1 (Ao.1 hall.2).1).2).2).2.1
  generalize p.ms[i]=x at *
  obtain ⟨R,hR⟩:∃R,D7 (EG MeterX.nz i p.ms)=R:=⟨_,rfl⟩
  rw [hR] at gm q1 q2
  have hl:i<R.length:=(List.getElem?_eq_some_iff.1 q1).1
  replace q1:R[i]? = some [.str x.nm,.str x.un,.int .i64 x.mx,.int .i64 x.ln,.int .i64 x.co]:=q1
  simp -implicitDefEqProofs -proj only [go_sem,seval,hH,g4,decide_eq_true (show (i:Int)<p.ms.length by omega)]
  refine E2 (by omega) (fun _=>?_)
  simp -implicitDefEqProofs -proj only [go_sem,seval,gm,Int.toNat_natCast]
  refine Hc _ q1 (by simp) ?_
  simp -implicitDefEqProofs -proj only [go_sem,seval]
  have hz1:sZ.size=1:=rfl
  refine E2 (by show (x.nm.size+sZ.size:Nat)≤_; omega) (fun _=>?_)
  simp -implicitDefEqProofs -proj only [go_sem,seval,Int.toNat_natCast]
  refine E2 (by omega) (fun _=>?_)
  refine HK (cap:=capm) (t:=34) (xs:=R) (el:=[.str x.nm,.str x.un,.int .i64 x.mx,.int .i64 x.ln,.int .i64 x.co]) gm q1 (by simp) ?_
  simp -implicitDefEqProofs -proj only [go_sem,seval]
  refine Em (i+1) (by omega) (by omega) rfl ?_ ?_
  ·simp -implicitDefEqProofs -proj only [go_sem,seval,Dn,E8 (show i<9223372036854775807 by omega)]
  ·have e:R.set i (E3 [.str x.nm,.str x.un,.int .i64 x.mx,.int .i64 x.ln,.int .i64 x.co] 0 [.str (x.nm++sZ)])=D7 (EG MeterX.nz (i+1) p.ms):=q2
   have hk:=P2 (M':=EG MeterX.nz (i+1) p.ms) hall kn
   rw [←e] at hk
   exact hk
 have hi':i=p.ms.length:=by omega
 subst hi'
 have hlc:GO c=some (i64 p.cs.length):=by
  rcases hc with ⟨h0,q,rfl⟩ | ⟨b,cap,rfl,_⟩
  ·rw [h0]; rfl
  ·rfl
 simp -implicitDefEqProofs -proj only [go_sem,seval,hH,g4,hlc,decide_eq_false (show ¬(p.ms.length:Int)<p.ms.length by omega)]
 clear hH g4 h hi k1
 rw [Kg] at hall kn
 obtain ⟨M,hM⟩:∃M,p.ms.map MeterX.nz=M:=⟨_,rfl⟩
 rw [hM] at hall kn
 clear hM
 have fin:∀(H:Heap) (Q:AV→Heap→Prop),H b3=some (.box 28 p.cells)→H b1=some (.box 28 a.cells)→True:=fun _ _ _ _=>trivial
 clear fin
 have sX:∀z∈p.cs,z.ts.length≤1000000:=fun z hz=>(lp.sm.ta z hz).1
 rcases hc with ⟨h0,qn,rfl⟩ | ⟨cc,capc,rfl,zc1,zc2,zc3⟩
 ·refine Ec (fun i:Nat=>i=0) 90 (fun i=>[(1,.ptr b1 0),(3,.ptr b3 0),(49,i64 0),(50,i64 0)]) (fun i=>EU b1 b3 b4 a p m f (.nilsl qn) P pad M p.cs) (fun i=>i) 0 rfl rfl ?_ hall ?_
  ·simp -implicitDefEqProofs -proj only [go_sem,seval,Dn,h0]
  clear hall H
  rintro i rfl
  have hall:=Ep kn
  obtain ⟨H,hH⟩:∃H,D4 (EU b1 b3 b4 a p m f (.nilsl qn) P pad M p.cs)=H:=⟨_,rfl⟩
  rw [hH] at hall
  have g3:H b3=some (.box 28 p.cells):=Ei.1 hall (b3,_) (by simp)
  have g1:H b1=some (.box 28 a.cells):=Ei.1 hall (b1,_) (by simp)
  simp -implicitDefEqProofs -proj only [go_sem,seval,hH,g3,g1]
  refine Eb (Jt lp.sm la.sm lp.txt la.txt) ?_
  rw [J9 fp fa lp.sm la.sm,hpa]
  simp -implicitDefEqProofs -proj only [go_sem,seval]
  exact EM rfl
 ·let TB:=fun X=>EU b1 b3 b4 a p m f (.own cc 16 0 p.cs.length capc) P pad M X
  refine Ec (fun y:TpY=>y.i≤p.cs.length∧y.X.length=p.cs.length∧FB y.X P∧(AQ (EU b1 b3 b4 a p m f (.own cc 16 0 p.cs.length capc) P pad M y.X)).Nodup∧∀z∈y.X,z.ts.length≤1000000) 90 (fun y=>[(1,.ptr b1 0),(3,.ptr b3 0),(4,.ptr b4 0),(49,i64 p.cs.length),(50,i64 y.i)]) (fun y=>EU b1 b3 b4 a p m f (.own cc 16 0 p.cs.length capc) P pad M y.X) (fun y=>p.cs.length-y.i) ⟨0,p.cs⟩ ⟨Nat.zero_le _,rfl,hok,kn,sX⟩ rfl ?_ hall ?_
  ·simp -implicitDefEqProofs -proj only [go_sem,seval,Dn,F9,F5]
  clear hall H sX hok kn
  rintro ⟨i,X⟩ ⟨hi,hX,hok,kn,sX⟩
  simp -implicitDefEqProofs only [F9,F5] at hi hX hok kn sX
  have hall:=Ep kn
  obtain ⟨H,hH⟩:∃H,D4 (EU b1 b3 b4 a p m f (.own cc 16 0 p.cs.length capc) P pad M X)=H:=⟨_,rfl⟩
  rw [hH] at hall
  have g4:H b4=some (.box 28 (Eg p.nm p.cu p.f p.t m f (.own cc 16 0 p.cs.length capc) 0 0)):=hall.1
  have gc:H cc=some (.box 55 ((EP X P).flatten++pad)):=(Ao.1 (Ao.1 (Ao.1 hall.2).1).2).1.1
  have nc1:¬cc=b4:=fun e=>by rw [e,g4] at gc; cases gc
  have nc2:¬b4=cc:=fun e=>nc1 e.symm
  by_cases h:i<p.cs.length
  ·have hiX:i<X.length:=by omega
   have hiP:i<P.length:=by omega
   have hPX:P.length=X.length:=by omega
   have hsg:=Iz hiX hiP
   have hqk:=KV hiX hiP hok
   have hsx:=sX _ (List.getElem_mem hiX)
   obtain ⟨⟨t,ad⟩,hpi⟩:∃q,P[i]=q:=⟨_,rfl⟩
   rw [hpi] at hsg hqk
   obtain ⟨x,hx⟩:∃x,X[i]=x:=⟨_,rfl⟩
   rw [hx] at hsg hqk hsx
   replace hsg:(EP X P)[i]? = some [.d (.str x.me),bv x.w.has,i64 x.w.f.y,i64 x.w.f.m,i64 x.w.f.d,i64 x.w.t.y,i64 x.w.t.m,i64 x.w.t.d,i64 x.al,i64 x.bl,i64 x.ki,t,i64 x.mo,ad,i64 x.ln,i64 x.co]:=hsg
   replace hqk:Ea t 2 x.ts.length∧Ea ad 3 x.ad.length:=hqk
   obtain ⟨x1,hx1⟩:∃x1,x1=ChX.mk x.me x.w x.al (IntKind.i64.wrap (x.bl+1)) x.ki x.ts x.mo x.ad x.ln x.co:=⟨_,rfl⟩
   have hb1:=Ql (x:=x1) hPX hiX (by rw [hx1,hx]) (by rw [hx1,hx]) hall kn
   have k1:(AQ (EU b1 b3 b4 a p m f (.own cc 16 0 p.cs.length capc) P pad M (X.set i x1))).Nodup:=by rw [M0 hPX hiX]; exact kn
   have ok1:FB (X.set i x1) P:=by
    have:=Ke (j:=i) (x:=x1) (q:=P[i]) hok (by rw [hpi,hx1]; exact hqk.1) (by rw [hpi,hx1]; exact hqk.2)
    rwa [List.set_getElem_self] at this
   have sx1:∀z∈X.set i x1,z.ts.length≤1000000:=fun z hz=>by
    rcases List.mem_or_eq_of_mem_set hz with h | rfl
    ·exact sX z h
    ·rw [hx1]; exact hsx
   have hS1:EP (X.set i x1) P=(EP X P).set i (GS x1 t ad x1.ln x1.co):=by
    have:=Jd (j:=i) (x:=x1) (q:=P[i]) hPX
    rw [List.set_getElem_self,hpi] at this
    exact this
   simp -implicitDefEqProofs -proj only [go_sem,seval,F9,F5,hH,g4,gc,Int.toNat_natCast,decide_eq_true (show (i:Int)<p.cs.length by omega)]
   refine E2 (by omega) (fun _=>?_)
   refine IG Hy hsg (by decide) ?_
   simp -implicitDefEqProofs -proj only [go_sem,seval,Int.toNat_natCast]
   refine E2 (by omega) (fun _=>?_)
   refine IO gc Hy hsg (by decide) rfl rfl (fun L1 s1 hal1 e1=>?_)
   have e2:L1=EP (X.set i x1) P:=by rw [hS1,e1,hx1]; rfl
   subst e2
   simp -implicitDefEqProofs -proj only [go_sem,seval,g4,nc1,nc2,Int.toNat_natCast]
   refine E2 (by omega) (fun _=>?_)
   refine IG Hy s1 (by decide) ?_
   simp -implicitDefEqProofs -proj only [go_sem,seval,IR hqk.1]
   refine Ec (fun y:TpY=>y.i≤x.ts.length∧y.X.length=p.cs.length∧FB y.X P∧(AQ (EU b1 b3 b4 a p m f (.own cc 16 0 p.cs.length capc) P pad M y.X)).Nodup∧(∀z∈y.X,z.ts.length≤1000000)∧∀(h:i<y.X.length),y.X[i].ts.length=x.ts.length) 90 (fun y=>[(1,.ptr b1 0),(3,.ptr b3 0),(4,.ptr b4 0),(6,i64 i),(49,i64 p.cs.length),(50,i64 i),(68,i64 x.ts.length),(69,i64 y.i)]) (fun y=>EU b1 b3 b4 a p m f (.own cc 16 0 p.cs.length capc) P pad M y.X) (fun y=>x.ts.length-y.i) ⟨0,X.set i x1⟩ ⟨Nat.zero_le _,by show (X.set i x1).length=_; rw [List.length_set,hX],ok1,k1,sx1,fun h=>by show ((X.set i x1)[i]'h).ts.length=_; rw [List.getElem_set_self,hx1]⟩ rfl ?_ hb1 ?_
   ·simp -implicitDefEqProofs -proj only [go_sem,seval,Dn,F9,F5]
   clear hb1 k1 ok1 sx1 hS1 s1 hal1 e1 hsg gc g4 hall hH
   clear hok kn
   rintro ⟨k,X2⟩ ⟨hk,hX2,hok,kn,sX2,hlen⟩
   simp -implicitDefEqProofs only [F9,F5] at hk hX2 hok kn sX2 hlen
   have hall:=Ep kn
   obtain ⟨H2,hH2⟩:∃H2,D4 (EU b1 b3 b4 a p m f (.own cc 16 0 p.cs.length capc) P pad M X2)=H2:=⟨_,rfl⟩
   rw [hH2] at hall
   have g4:H2 b4=some (.box 28 (Eg p.nm p.cu p.f p.t m f (.own cc 16 0 p.cs.length capc) 0 0)):=hall.1
   have gc:H2 cc=some (.box 55 ((EP X2 P).flatten++pad)):=(Ao.1 (Ao.1 (Ao.1 hall.2).1).2).1.1
   have hiX2:i<X2.length:=by omega
   have hPX2:P.length=X2.length:=by omega
   have hsg:=Iz hiX2 hiP
   have hl2:=hlen hiX2
   rw [hpi] at hsg
   have hq2:=KV hiX2 hiP hok
   rw [hpi] at hq2
   by_cases hkk:k<x.ts.length
   ·obtain ⟨bt,ct,ht⟩:=Is hqk.1 (by omega)
    subst ht
    have hr2:k<X2[i].ts.length:=by omega
    obtain ⟨gt,hb2⟩:=M7 (ts:=X2[i].ts.set k ⟨X2[i].ts[k].u,IntKind.i64.wrap (X2[i].ts[k].r+1)⟩) hPX2 hiX2 hpi hall kn
    have k2:(AQ (EU b1 b3 b4 a p m f (.own cc 16 0 p.cs.length capc) P pad M (X2.set i ⟨X2[i].me,X2[i].w,X2[i].al,X2[i].bl,X2[i].ki,X2[i].ts.set k ⟨X2[i].ts[k].u,IntKind.i64.wrap (X2[i].ts[k].r+1)⟩,X2[i].mo,X2[i].ad,X2[i].ln,X2[i].co⟩))).Nodup:=by rw [M0 hPX2 hiX2]; exact kn
    have ok2:FB (X2.set i ⟨X2[i].me,X2[i].w,X2[i].al,X2[i].bl,X2[i].ki,X2[i].ts.set k ⟨X2[i].ts[k].u,IntKind.i64.wrap (X2[i].ts[k].r+1)⟩,X2[i].mo,X2[i].ad,X2[i].ln,X2[i].co⟩) P:=by
     have:=Ke (j:=i) (x:=⟨X2[i].me,X2[i].w,X2[i].al,X2[i].bl,X2[i].ki,X2[i].ts.set k ⟨X2[i].ts[k].u,IntKind.i64.wrap (X2[i].ts[k].r+1)⟩,X2[i].mo,X2[i].ad,X2[i].ln,X2[i].co⟩) (q:=P[i]) hok (by rw [hpi,List.length_set]; exact hq2.1) (by rw [hpi]; exact hq2.2)
     rwa [List.set_getElem_self] at this
    have sx2:∀z∈X2.set i ⟨X2[i].me,X2[i].w,X2[i].al,X2[i].bl,X2[i].ki,X2[i].ts.set k ⟨X2[i].ts[k].u,IntKind.i64.wrap (X2[i].ts[k].r+1)⟩,X2[i].mo,X2[i].ad,X2[i].ln,X2[i].co⟩,z.ts.length≤1000000:=fun z hz=>by
     rcases List.mem_or_eq_of_mem_set hz with h | rfl
     ·exact sX2 z h
     ·show (X2[i].ts.set k _).length≤_; rw [List.length_set]; omega
    have q1:(Ed X2[i].ts)[k]? = some [.int .i64 X2[i].ts[k].u,.int .i64 X2[i].ts[k].r]:=by simp [Ed,hr2,Tier.el]
    have q2:(Ed X2[i].ts).set k [.int .i64 X2[i].ts[k].u,.int .i64 (IntKind.i64.wrap (X2[i].ts[k].r+1))]=Ed (X2[i].ts.set k ⟨X2[i].ts[k].u,IntKind.i64.wrap (X2[i].ts[k].r+1)⟩):=by simp -implicitDefEqProofs only [Ed,List.map_set]; rfl
    have hlX3:(X2.set i ⟨X2[i].me,X2[i].w,X2[i].al,X2[i].bl,X2[i].ki,X2[i].ts.set k ⟨X2[i].ts[k].u,IntKind.i64.wrap (X2[i].ts[k].r+1)⟩,X2[i].mo,X2[i].ad,X2[i].ln,X2[i].co⟩).length=p.cs.length:=by rw [List.length_set,hX2]
    have hl3:∀(h:i<(X2.set i ⟨X2[i].me,X2[i].w,X2[i].al,X2[i].bl,X2[i].ki,X2[i].ts.set k ⟨X2[i].ts[k].u,IntKind.i64.wrap (X2[i].ts[k].r+1)⟩,X2[i].mo,X2[i].ad,X2[i].ln,X2[i].co⟩).length),((X2.set i ⟨X2[i].me,X2[i].w,X2[i].al,X2[i].bl,X2[i].ki,X2[i].ts.set k ⟨X2[i].ts[k].u,IntKind.i64.wrap (X2[i].ts[k].r+1)⟩,X2[i].mo,X2[i].ad,X2[i].ln,X2[i].co⟩)[i]'h).ts.length=x.ts.length:=fun h=>by
     rw [List.getElem_set_self]
     show (X2[i].ts.set k _).length=_
     rw [List.length_set,hl2]
    generalize X2.set i ⟨X2[i].me,X2[i].w,X2[i].al,X2[i].bl,X2[i].ki,X2[i].ts.set k ⟨X2[i].ts[k].u,IntKind.i64.wrap (X2[i].ts[k].r+1)⟩,X2[i].mo,X2[i].ad,X2[i].ln,X2[i].co⟩=X3 at *
    rw [←q2] at hb2
    generalize X2[i]=y at *
    generalize y.ts[k]=tk at *
    replace hsg:(EP X2 P)[i]? = some [.d (.str y.me),bv y.w.has,i64 y.w.f.y,i64 y.w.f.m,i64 y.w.f.d,i64 y.w.t.y,i64 y.w.t.m,i64 y.w.t.d,i64 y.al,i64 y.bl,i64 y.ki,.own bt 2 0 x.ts.length ct,i64 y.mo,ad,i64 y.ln,i64 y.co]:=hsg
    simp -implicitDefEqProofs -proj only [go_sem,seval,F9,F5,hH2,g4,gc,Int.toNat_natCast,decide_eq_true (show (k:Int)<x.ts.length by omega)]
    refine E2 (by omega) (fun _=>?_)
    refine IG Hy hsg (by decide) ?_
    simp -implicitDefEqProofs -proj only [go_sem,seval,Int.toNat_natCast]
    refine E2 (by omega) (fun _=>?_)
    rw [gt]
    simp -implicitDefEqProofs -proj only [go_sem,seval]
    refine Hc _ q1 (by simp) ?_
    simp -implicitDefEqProofs -proj only [go_sem,seval,Int.toNat_natCast]
    refine E2 (by omega) (fun _=>?_)
    refine HK (cap:=ct) (t:=58) (xs:=Ed y.ts) (el:=[.int .i64 tk.u,.int .i64 tk.r]) gt q1 (by simp) ?_
    simp -implicitDefEqProofs -proj only [go_sem,seval]
    refine Em ⟨k+1,X3⟩ ⟨by show k+1≤_; omega,hlX3,ok2,k2,sx2,hl3⟩ (by show x.ts.length-(k+1)<x.ts.length-k; omega) rfl ?_ hb2
    simp -implicitDefEqProofs -proj only [go_sem,seval,Dn,F9,F5,E8 (show k<9223372036854775807 by omega)]
   ·simp -implicitDefEqProofs -proj only [go_sem,seval,F9,F5,hH2,decide_eq_false (show ¬(k:Int)<x.ts.length by omega)]
    refine Em ⟨i+1,X2⟩ ⟨by show i+1≤_; omega,hX2,hok,kn,sX2⟩ (by show p.cs.length-(i+1)<p.cs.length-i; omega) rfl ?_ hall
    simp -implicitDefEqProofs -proj only [go_sem,seval,Dn,F9,F5,E8 (show i<9223372036854775807 by omega)]
  ·have g3:H b3=some (.box 28 p.cells):=Ei.1 hall (b3,_) (by simp)
   have g1':H b1=some (.box 28 a.cells):=Ei.1 hall (b1,_) (by simp)
   simp -implicitDefEqProofs -proj only [go_sem,seval,F9,F5,hH,g3,g1',decide_eq_false (show ¬(i:Int)<p.cs.length by omega)]
   refine Eb (Jt lp.sm la.sm lp.txt la.txt) ?_
   rw [J9 fp fa lp.sm la.sm,hpa]
   simp -implicitDefEqProofs -proj only [go_sem,seval]
   exact EM rfl
end Go.Proofs.Ytndepejgafppmaa.Abs
