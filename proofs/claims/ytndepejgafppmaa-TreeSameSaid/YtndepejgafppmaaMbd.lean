/- Contracts of the machine and the contracts of one law (joined by kmerge.py). No claim stands here. -/
import Derived.Below
import Derived.Carry
import Derived.ChangeCalls
import Derived.ChangeOld
import Derived.IntWalk
import Derived.KernelRfl
import Derived.Laws.Append
import Derived.Laws.AppendOwn
import Derived.Laws.BytesArg
import Derived.Laws.Cells
import Derived.Laws.CopyRow
import Derived.Laws.Entries
import Derived.Laws.MakeOwn
import Derived.Laws.NewFold
import Derived.Laws.Rows
import Derived.Laws.StructEq
import Derived.OpenShut
import Derived.Orders
import Derived.OrdersIn
import Derived.ProofKit
import Derived.RangeFuncLeaves
import Derived.RangeFuncSeq
import Derived.SizedLaws
import Derived.TacticsIn
import Derived.WalkKit
import Derived.Test.YtndepejgafppmaaMbc
set_option maxRecDepth 100000
set_option linter.unusedSimpArgs false
set_option linter.unusedVariables false
namespace Go.Proofs.Ytndepejgafppmaa.Abs
open Go Go.RowKit Go.Proofs
attribute [local go_sem] B8 D2 Dm Bu DR CW Bt Cy DV A6 Db Bh BD Cl CL DJ Ay BX DI DZ BF Cs Bv BW DC CX D1 A9 Bl C3 Dd A7 BV CP Bn Cz C4 Bk B1 BO Bg A1 CC Ca Di C6 B5 Dq Bm Ci CZ C8 Bf Cr C0 Df C5 DL BL Bj Ce DP BM BS B3 Be BG Do Bs CH Dy Ax A4 B2 As Ba C1 An CV DN A3 Bi DO DS BU BA Bz D3 DU CA CY DQ Cn Dc Dv Bp CD Dl Ds CT DH Cc Dt C9 Ck Au BB Av Ah Ct Bo DW AD ev AS AP Ac Ar AX Bq Bx A2 CR AY Aa Dh Bw Dk DT Dj B9 CF Cv DX BI C7 B4 Cq CB DA A5 BC B0 BE Co DB CG CQ AM setSeg nth seg mapD Ab Ak AK Al DD Br Am Dw cond_true cond_false BZ A0 Aw Aq Az By BQ List.cons_append List.nil_append Bool.not_true Bool.not_false Bool.and_true Bool.and_self Nat.lt_add_left_iff_pos Nat.zero_add Nat.add_zero List.drop_succ_cons List.drop_zero List.take_succ_cons List.take_zero beq_self_eq_true Bool.false_eq_true Cf Cd Cb CS BJ BP C2 DE BY Af and_self and_true true_and CU CN CE A8 Dr Bc Cg DY Dn BN Cu CK B6 BH Da Du Bb Dz Ad Ag Aj AZ Cm Bd DK DG CM CI Dx D0 Ch Cj De List.length_cons List.length_nil Nat.min_def Int.cast_ofNat_Int Int.natCast_zero Int.natCast_one decide_true decide_false List.getElem?_cons_zero List.getElem?_cons_succ BT Dg DM B7 Cw Cx Cp BK Dp CJ CO DF
theorem QD {a b:Int} (h:a=b):i64 a=i64 b:=by rw [h]
def LenP (x:Int) (n:Nat):Prop:=0≤x∧x<2 ^ n∧(x=0∧n=0∨0<n∧2 ^ (n-1)≤x)
theorem T5 (n:Nat):(0:Int)<2 ^ n:=Int.pow_pos (by omega)
theorem LenP.shift {x:Int} {k n:Nat} (h0:0≤x) (h1:2 ^ k≤x) (h:LenP (x / 2 ^ k) n):LenP x (k+n):=by
 obtain ⟨a0,a1,a2⟩:=h
 have hk:=T5 k
 have e1:x<2 ^ (k+n):=by
  rw [Int.ediv_lt_iff_lt_mul hk] at a1
  rw [Int.pow_add,Int.mul_comm]; exact a1
 have h2:1≤x / 2 ^ k:=by rw [Int.le_ediv_iff_mul_le hk]; omega
 refine ⟨h0,e1,.inr ?_⟩
 rcases a2 with ⟨a2,_⟩ | ⟨a2,a3⟩
 ·omega
 ·refine ⟨by omega,?_⟩
  rw [Int.le_ediv_iff_mul_le hk] at a3
  have:k+n-1=k+(n-1):=by omega
  rw [this,Int.pow_add,Int.mul_comm]; exact a3
def JQ (m q r c:Int):Prop:=m=1∧0<r∨m=2∧c≤2*r∨m=3∧(c<2*r∨c=2*r∧q % 2=1)
instance (m q r c:Int):Decidable (JQ m q r c):=by unfold JQ; exact inferInstance
def KT (p c m:Int):Int:=p / c+if JQ m (p / c) (p % c) c then 1 else 0
def Lx (m:Int) (neg:Bool) (q r c:Int):Prop:=r≠0∧(m=0∧neg=true∨m=1∧neg=false∨m=2∧(r > c-r∨r=c-r∧neg=false)∨m=3∧(r > c-r∨r=c-r∧q % 2=1))
instance (m:Int) (neg:Bool) (q r c:Int):Decidable (Lx m neg q r c):=by unfold Lx; exact inferInstance
structure Adj where
 k:Int
 n:Int
 m:Int
def Adj.el (a:Adj):List D:=[.int .i64 a.k,.int .i64 a.n,.int .i64 a.m]
def Ez (l:List Adj):List (List D):=l.map Adj.el
theorem Ft {l:List Adj}:(Ez l).length=l.length:=List.length_map ..
theorem Wh {l:List Adj} {i:Nat} (h:i<l.length):(Ez l)[((i:Int)).toNat]? = some (Adj.el l[i]):=by
 rw [Int.toNat_natCast]; simp [Ez,h]
def Adj.Fit (a:Adj):Prop:=Abs.Fit a.k∧Abs.Fit a.n∧Abs.Fit a.m
def Lf (n:Int):Option Int:=if Fit n then some n else none
def MI (p c m:Int):Option Int:=if 0<c∧0≤m∧m≤3 then Lf (KT p c m) else none
theorem Tp {n:Nat} {l:List D} (h:EP Try.prog (n+2) 60 l):∃a:Adj,a.Fit∧l=a.el:=by
 obtain ⟨ls,rfl,h1,_⟩:=Gd (fs:=#[⟨"Kind",3,0,false,"","",0⟩,⟨"N",3,1,false,"","",8⟩,⟨"Mode",3,2,false,"","",16⟩]) h (by kernel_rfl)
 obtain ⟨l0,r0,rfl,t0,h1⟩:=typedL_cons h1
 obtain ⟨l1,r1,rfl,t1,h1⟩:=typedL_cons h1
 obtain ⟨l2,r2,rfl,t2,h1⟩:=typedL_cons h1
 obtain rfl:=typedL_nil h1
 obtain ⟨z0,rfl,f0,_⟩:=typed_int t0 (by kernel_rfl)
 obtain ⟨z1,rfl,f1,_⟩:=typed_int t1 (by kernel_rfl)
 obtain ⟨z2,rfl,f2,_⟩:=typed_int t2 (by kernel_rfl)
 exact ⟨⟨z0,z1,z2⟩,⟨f0,f1,f2⟩,rfl⟩
structure Tier where
 u:Int
 r:Int
def Tier.el (a:Tier):List D:=[.int .i64 a.u,.int .i64 a.r]
def Ev (l:List Tier):List (List D):=l.map Tier.el
theorem Fx {l:List Tier}:(Ev l).length=l.length:=List.length_map ..
theorem J5 {l:List Tier} {i:Nat} (h:i<l.length):(Ev l)[((i:Int)).toNat]? = some [.int .i64 l[i].u,.int .i64 l[i].r]:=by
 rw [Int.toNat_natCast]; simp [Ev,h,Tier.el]
theorem KS {l:List Adj} {i:Nat} (h:i<l.length):(Ez l)[((i:Int)).toNat]? = some [.int .i64 l[i].k,.int .i64 l[i].n,.int .i64 l[i].m]:=Wh h
def Tier.Fit (a:Tier):Prop:=Abs.Fit a.u∧Abs.Fit a.r
structure PartX where
 me:Int
 f:Int
 t:Int
 al:Int
 bl:Int
 ki:Int
 ts:List Tier
 mo:Int
 ad:List Adj
abbrev PartX.el (x:PartX):List D:=[.int .i64 x.me,.int .i64 x.f,.int .i64 x.t,.int .i64 x.al,.int .i64 x.bl,.int .i64 x.ki,.sl 2 (Ev x.ts),.int .i64 x.mo,.sl 3 (Ez x.ad)]
structure PartX.Fit (x:PartX):Prop where
 me:Abs.Fit x.me
 f:Abs.Fit x.f
 t:Abs.Fit x.t
 al:Abs.Fit x.al
 bl:Abs.Fit x.bl
 ki:Abs.Fit x.ki
 ts:∀a∈x.ts,Tier.Fit a
 tn:x.ts.length≤9223372036854775807
 mo:Abs.Fit x.mo
 ad:∀a∈x.ad,Adj.Fit a
 an:x.ad.length≤9223372036854775807
theorem Mu {α:Type} {g : α→List D} {F : α→Prop} {n:Nat} {e:TypeId} (hh:∀l,EP Try.prog n e l→∃a,F a∧l=g a):∀{xs:List (List D)},(∀el∈xs,EP Try.prog n e el)→∃zs:List α,xs=zs.map g∧∀a∈zs,F a
 | [],_=>⟨[],rfl,fun a h=>by cases h⟩
 | x::xs,h2=>by
  obtain ⟨a,ha,rfl⟩:=hh x (h2 x (List.mem_cons_self ..))
  obtain ⟨zs,rfl,hz⟩:=Mu hh (fun el h'=>h2 el (List.mem_cons_of_mem _ h'))
  refine ⟨a::zs,rfl,fun b hb=>?_⟩
  rcases List.mem_cons.1 hb with rfl | hb
  ·exact ha
  ·exact hz b hb
theorem RY {n:Nat} {l:List D} (h:EP Try.prog (n+2) 58 l):∃a:Tier,a.Fit∧l=a.el:=by
 obtain ⟨ls,rfl,h1,_⟩:=Gd (fs:=#[⟨"Upto",3,0,false,"","",0⟩,⟨"Rate",3,1,false,"","",8⟩]) h (by kernel_rfl)
 obtain ⟨l0,r0,rfl,t0,h1⟩:=typedL_cons h1
 obtain ⟨l1,r1,rfl,t1,h1⟩:=typedL_cons h1
 obtain rfl:=typedL_nil h1
 obtain ⟨z0,rfl,f0,_⟩:=typed_int t0 (by kernel_rfl)
 obtain ⟨z1,rfl,f1,_⟩:=typed_int t1 (by kernel_rfl)
 exact ⟨⟨z0,z1⟩,⟨f0,f1⟩,rfl⟩
theorem IR {α:Type} {g : α→List D} {F : α→Prop} {n k:Nat} {t e:TypeId} {l:List D} (hh:∀l,EP Try.prog n e l→∃a,F a∧l=g a) (ht:Try.prog.underlying t=some (.slice e)) (hc:Try.prog.cellsOf e=k) (h:EP Try.prog (n+1) t l) :
  ∃zs:List α,l=[.sl k (zs.map g)]∧(∀a∈zs,F a)∧zs.length≤9223372036854775807:=by
 obtain ⟨xs,rfl,h1,h2,_⟩:=M2 h ht
 obtain ⟨zs,rfl,hz⟩:=Mu hh h2
 exact ⟨zs,by rw [hc],hz,by rw [List.length_map] at h1; exact h1⟩
structure MeterX where
 nm:ByteArray
 un:ByteArray
 mx:Int
 ln:Int
 co:Int
def MeterX.el (a:MeterX):List D:=[.str a.nm,.str a.un,.int .i64 a.mx,.int .i64 a.ln,.int .i64 a.co]
def EO (l:List MeterX):List (List D):=l.map MeterX.el
theorem E8 {l:List MeterX}:(EO l).length=l.length:=List.length_map ..
theorem Hq {l:List MeterX} {i:Nat} (h:i<l.length):(EO l)[((i:Int)).toNat]? = some [.str l[i].nm,.str l[i].un,.int .i64 l[i].mx,.int .i64 l[i].ln,.int .i64 l[i].co]:=by
 rw [Int.toNat_natCast]; simp [EO,h,MeterX.el]
def MeterX.Fit (a:MeterX):Prop:=Abs.Fit a.mx∧Abs.Fit a.ln∧Abs.Fit a.co
structure SumX where
 a:Int
 f:Int
 t:Int
def SumX.el (a:SumX):List D:=[.int .i64 a.a,.int .i64 a.f,.int .i64 a.t]
def SumX.Fit (a:SumX):Prop:=Abs.Fit a.a∧Abs.Fit a.f∧Abs.Fit a.t
structure CoreX where
 cur:ByteArray
 f:Int
 t:Int
 ms:List MeterX
 ss:List SumX
 ps:List PartX
structure CoreX.Fit (c:CoreX):Prop where
 f:Abs.Fit c.f
 t:Abs.Fit c.t
 ms:∀a∈c.ms,a.Fit
 mn:c.ms.length≤9223372036854775807
 ss:∀a∈c.ss,a.Fit
 sn:c.ss.length≤9223372036854775807
 ps:∀a∈c.ps,a.Fit
 pn:c.ps.length≤9223372036854775807
theorem IP {n:Nat} {t:TypeId} {l:List D} (h:EP Try.prog (n+1) t l) (ht:Try.prog.underlying t=some .string):∃s,l=[.str s]:=by
 rw [EP,ht] at h
 obtain ⟨s,rfl,_⟩:=h
 exact ⟨s,rfl⟩
theorem Ux {n:Nat} {l:List D} (h:EP Try.prog (n+2) 34 l):∃a:MeterX,a.Fit∧l=a.el:=by
 obtain ⟨ls,rfl,h1,_⟩:=Gd (fs:=#[⟨"Name",9,0,false,"","",0⟩,⟨"Unit",9,1,false,"","",16⟩,⟨"Max",3,2,false,"","",32⟩,⟨"Line",3,3,false,"","",40⟩,⟨"Col",3,4,false,"","",48⟩]) h (by kernel_rfl)
 obtain ⟨l0,r0,rfl,t0,h1⟩:=typedL_cons h1
 obtain ⟨l1,r1,rfl,t1,h1⟩:=typedL_cons h1
 obtain ⟨l2,r2,rfl,t2,h1⟩:=typedL_cons h1
 obtain ⟨l3,r3,rfl,t3,h1⟩:=typedL_cons h1
 obtain ⟨l4,r4,rfl,t4,h1⟩:=typedL_cons h1
 obtain rfl:=typedL_nil h1
 obtain ⟨z0,rfl⟩:=IP t0 (by kernel_rfl)
 obtain ⟨z1,rfl⟩:=IP t1 (by kernel_rfl)
 obtain ⟨z2,rfl,f2,_⟩:=typed_int t2 (by kernel_rfl)
 obtain ⟨z3,rfl,f3,_⟩:=typed_int t3 (by kernel_rfl)
 obtain ⟨z4,rfl,f4,_⟩:=typed_int t4 (by kernel_rfl)
 exact ⟨⟨z0,z1,z2,z3,z4⟩,⟨f2,f3,f4⟩,rfl⟩
def XD (m:MeterX):Prop:=200<(m.nm.size:Int)∨200<(m.un.size:Int)
def UY (x:PartX):Prop:=40<(x.ts.length:Int)∨40<(x.ad.length:Int)
def Ls (c:CoreX):Prop:=(20<(c.ms.length:Int)∨40<(c.ss.length:Int)∨40<(c.ps.length:Int)∨200<(c.cur.size:Int))∨(∃m∈c.ms,XD m)∨∃x∈c.ps,UY x
noncomputable instance (c:CoreX):Decidable (Ls c):=Classical.propDecidable _
structure DateX where
 y:Int
 m:Int
 d:Int
abbrev DateX.el (a:DateX):List D:=[.int .i64 a.y,.int .i64 a.m,.int .i64 a.d]
def DateX.Fit (a:DateX):Prop:=Abs.Fit a.y∧Abs.Fit a.m∧Abs.Fit a.d
structure WinX where
 has:Bool
 f:DateX
 t:DateX
abbrev WinX.el (w:WinX):List D:=[.bool w.has,.int .i64 w.f.y,.int .i64 w.f.m,.int .i64 w.f.d,.int .i64 w.t.y,.int .i64 w.t.m,.int .i64 w.t.d]
def WinX.Fit (w:WinX):Prop:=w.f.Fit∧w.t.Fit
structure FeeX where
 am:Int
 w:WinX
 ln:Int
 co:Int
abbrev FeeX.el (x:FeeX):List D:=[.int .i64 x.am,.bool x.w.has,.int .i64 x.w.f.y,.int .i64 x.w.f.m,.int .i64 x.w.f.d,.int .i64 x.w.t.y,.int .i64 x.w.t.m,.int .i64 x.w.t.d,.int .i64 x.ln,.int .i64 x.co]
def FeeX.Fit (x:FeeX):Prop:=Abs.Fit x.am∧x.w.Fit∧Abs.Fit x.ln∧Abs.Fit x.co
def EQ (l:List FeeX):List (List D):=l.map FeeX.el
theorem FA {l:List FeeX}:(EQ l).length=l.length:=List.length_map ..
structure ChX where
 me:ByteArray
 w:WinX
 al:Int
 bl:Int
 ki:Int
 ts:List Tier
 mo:Int
 ad:List Adj
 ln:Int
 co:Int
abbrev ChX.el (x:ChX):List D:=[.str x.me,.bool x.w.has,.int .i64 x.w.f.y,.int .i64 x.w.f.m,.int .i64 x.w.f.d,.int .i64 x.w.t.y,.int .i64 x.w.t.m,.int .i64 x.w.t.d,.int .i64 x.al,.int .i64 x.bl,.int .i64 x.ki,.sl 2 (Ev x.ts),.int .i64 x.mo,.sl 3 (Ez x.ad),.int .i64 x.ln,.int .i64 x.co]
structure ChX.Fit (x:ChX):Prop where
 w:x.w.Fit
 al:Abs.Fit x.al
 bl:Abs.Fit x.bl
 ki:Abs.Fit x.ki
 ts:∀a∈x.ts,Tier.Fit a
 tn:x.ts.length≤9223372036854775807
 mo:Abs.Fit x.mo
 ad:∀a∈x.ad,Adj.Fit a
 an:x.ad.length≤9223372036854775807
 ln:Abs.Fit x.ln
 co:Abs.Fit x.co
def ET (l:List ChX):List (List D):=l.map ChX.el
theorem En {l:List ChX}:(ET l).length=l.length:=List.length_map ..
structure PlanX where
 nm:ByteArray
 cu:ByteArray
 f:DateX
 t:DateX
 ms:List MeterX
 fs:List FeeX
 cs:List ChX
 ln:Int
 co:Int
abbrev FG (nm cu:ByteArray) (f t:DateX) (m e c:AV) (ln co:Int):List AV:=[.d (.str nm),.d (.str cu),i64 f.y,i64 f.m,i64 f.d,i64 t.y,i64 t.m,i64 t.d,m,e,c,i64 ln,i64 co]
abbrev PlanX.cells (p:PlanX):List AV:=FG p.nm p.cu p.f p.t (.d (.sl 5 (EO p.ms))) (.d (.sl 10 (EQ p.fs))) (.d (.sl 16 (ET p.cs))) p.ln p.co
abbrev FS (p:PlanX):AV:=.agg p.cells
structure PlanX.Fit (p:PlanX):Prop where
 f:p.f.Fit
 t:p.t.Fit
 ms:∀a∈p.ms,a.Fit
 mn:p.ms.length≤9223372036854775807
 fs:∀a∈p.fs,a.Fit
 fn:p.fs.length≤9223372036854775807
 cs:∀a∈p.cs,a.Fit
 cn:p.cs.length≤9223372036854775807
 ln:Abs.Fit p.ln
 co:Abs.Fit p.co
theorem JI {n:Nat} {l:List D} (h:EP Try.prog (n+2) 23 l):∃a:DateX,a.Fit∧l=a.el:=by
 obtain ⟨ls,rfl,h1,_⟩:=Gd (fs:=#[⟨"Year",3,0,false,"","",0⟩,⟨"Month",3,1,false,"","",8⟩,⟨"Day",3,2,false,"","",16⟩]) h (by kernel_rfl)
 obtain ⟨l0,r0,rfl,t0,h1⟩:=typedL_cons h1
 obtain ⟨l1,r1,rfl,t1,h1⟩:=typedL_cons h1
 obtain ⟨l2,r2,rfl,t2,h1⟩:=typedL_cons h1
 obtain rfl:=typedL_nil h1
 obtain ⟨z0,rfl,f0,_⟩:=typed_int t0 (by kernel_rfl)
 obtain ⟨z1,rfl,f1,_⟩:=typed_int t1 (by kernel_rfl)
 obtain ⟨z2,rfl,f2,_⟩:=typed_int t2 (by kernel_rfl)
 exact ⟨⟨z0,z1,z2⟩,⟨f0,f1,f2⟩,rfl⟩
theorem K9 {n:Nat} {l:List D} (h:EP Try.prog (n+3) 49 l):∃a:WinX,a.Fit∧l=a.el:=by
 obtain ⟨ls,rfl,h1,_⟩:=Gd (fs:=#[⟨"Has",4,0,false,"","",0⟩,⟨"From",23,1,false,"","",8⟩,⟨"To",23,4,false,"","",32⟩]) h (by kernel_rfl)
 obtain ⟨l0,r0,rfl,t0,h1⟩:=typedL_cons h1
 obtain ⟨l1,r1,rfl,t1,h1⟩:=typedL_cons h1
 obtain ⟨l2,r2,rfl,t2,h1⟩:=typedL_cons h1
 obtain rfl:=typedL_nil h1
 obtain ⟨z0,rfl,_⟩:=typed_bool t0 (by kernel_rfl)
 obtain ⟨z1,f1,rfl⟩:=JI t1
 obtain ⟨z2,f2,rfl⟩:=JI t2
 exact ⟨⟨z0,z1,z2⟩,⟨f1,f2⟩,rfl⟩
theorem OX {n:Nat} {l:List D} (h:EP Try.prog (n+4) 51 l):∃a:FeeX,a.Fit∧l=a.el:=by
 obtain ⟨ls,rfl,h1,_⟩:=Gd (fs:=#[⟨"Amount",3,0,false,"","",0⟩,⟨"Window",49,1,false,"","",8⟩,⟨"Line",3,8,false,"","",64⟩,⟨"Col",3,9,false,"","",72⟩]) h (by kernel_rfl)
 obtain ⟨l0,r0,rfl,t0,h1⟩:=typedL_cons h1
 obtain ⟨l1,r1,rfl,t1,h1⟩:=typedL_cons h1
 obtain ⟨l2,r2,rfl,t2,h1⟩:=typedL_cons h1
 obtain ⟨l3,r3,rfl,t3,h1⟩:=typedL_cons h1
 obtain rfl:=typedL_nil h1
 obtain ⟨z0,rfl,f0,_⟩:=typed_int t0 (by kernel_rfl)
 obtain ⟨z1,f1,rfl⟩:=K9 t1
 obtain ⟨z2,rfl,f2,_⟩:=typed_int t2 (by kernel_rfl)
 obtain ⟨z3,rfl,f3,_⟩:=typed_int t3 (by kernel_rfl)
 exact ⟨⟨z0,z1,z2,z3⟩,⟨f0,f1,f2,f3⟩,rfl⟩
theorem Qs {n:Nat} {l:List D} (h:EP Try.prog (n+4) 55 l):∃a:ChX,a.Fit∧l=a.el:=by
 obtain ⟨ls,rfl,h1,_⟩:=Gd (fs:=#[⟨"Meter",9,0,false,"","",0⟩,⟨"Window",49,1,false,"","",16⟩,⟨"Allowance",3,8,false,"","",72⟩,⟨"Block",3,9,false,"","",80⟩,⟨"Kind",3,10,false,"","",88⟩,⟨"Tiers",52,11,false,"","",96⟩,⟨"Mode",3,12,false,"","",120⟩,⟨"Adjusts",53,13,false,"","",128⟩,⟨"Line",3,14,false,"","",152⟩,⟨"Col",3,15,false,"","",160⟩]) h (by kernel_rfl)
 obtain ⟨l0,r0,rfl,t0,h1⟩:=typedL_cons h1
 obtain ⟨l1,r1,rfl,t1,h1⟩:=typedL_cons h1
 obtain ⟨l2,r2,rfl,t2,h1⟩:=typedL_cons h1
 obtain ⟨l3,r3,rfl,t3,h1⟩:=typedL_cons h1
 obtain ⟨l4,r4,rfl,t4,h1⟩:=typedL_cons h1
 obtain ⟨l5,r5,rfl,t5,h1⟩:=typedL_cons h1
 obtain ⟨l6,r6,rfl,t6,h1⟩:=typedL_cons h1
 obtain ⟨l7,r7,rfl,t7,h1⟩:=typedL_cons h1
 obtain ⟨l8,r8,rfl,t8,h1⟩:=typedL_cons h1
 obtain ⟨l9,r9,rfl,t9,h1⟩:=typedL_cons h1
 obtain rfl:=typedL_nil h1
 obtain ⟨z0,rfl⟩:=IP t0 (by kernel_rfl)
 obtain ⟨z1,f1,rfl⟩:=K9 t1
 obtain ⟨z2,rfl,f2,_⟩:=typed_int t2 (by kernel_rfl)
 obtain ⟨z3,rfl,f3,_⟩:=typed_int t3 (by kernel_rfl)
 obtain ⟨z4,rfl,f4,_⟩:=typed_int t4 (by kernel_rfl)
 obtain ⟨z5,rfl,f5,g5⟩:=IR (k:=2) (e:=58) (fun l h=>RY h) (by kernel_rfl) (by kernel_rfl) t5
 obtain ⟨z6,rfl,f6,_⟩:=typed_int t6 (by kernel_rfl)
 obtain ⟨z7,rfl,f7,g7⟩:=IR (k:=3) (e:=60) (fun l h=>Tp h) (by kernel_rfl) (by kernel_rfl) t7
 obtain ⟨z8,rfl,f8,_⟩:=typed_int t8 (by kernel_rfl)
 obtain ⟨z9,rfl,f9,_⟩:=typed_int t9 (by kernel_rfl)
 exact ⟨⟨z0,z1,z2,z3,z4,z5,z6,z7,z8,z9⟩,⟨f1,f2,f3,f4,f5,g5,f6,f7,g7,f8,f9⟩,rfl⟩
theorem typed_plan {n:Nat} {l:List D} (h:EP Try.prog (n+6) 28 l):∃p:PlanX,p.Fit∧Fh Try.prog 28 l=FS p:=by
 obtain ⟨ls,rfl,h1,e⟩:=Gd (fs:=#[⟨"Name",9,0,false,"","",0⟩,⟨"Currency",9,1,false,"","",16⟩,⟨"From",23,2,false,"","",32⟩,⟨"To",23,5,false,"","",56⟩,⟨"Meters",24,8,false,"","",80⟩,⟨"Fees",25,9,false,"","",104⟩,⟨"Charges",26,10,false,"","",128⟩,⟨"Line",3,11,false,"","",152⟩,⟨"Col",3,12,false,"","",160⟩]) h (by kernel_rfl)
 obtain ⟨l0,r0,rfl,t0,h1⟩:=typedL_cons h1
 obtain ⟨l1,r1,rfl,t1,h1⟩:=typedL_cons h1
 obtain ⟨l2,r2,rfl,t2,h1⟩:=typedL_cons h1
 obtain ⟨l3,r3,rfl,t3,h1⟩:=typedL_cons h1
 obtain ⟨l4,r4,rfl,t4,h1⟩:=typedL_cons h1
 obtain ⟨l5,r5,rfl,t5,h1⟩:=typedL_cons h1
 obtain ⟨l6,r6,rfl,t6,h1⟩:=typedL_cons h1
 obtain ⟨l7,r7,rfl,t7,h1⟩:=typedL_cons h1
 obtain ⟨l8,r8,rfl,t8,h1⟩:=typedL_cons h1
 obtain rfl:=typedL_nil h1
 obtain ⟨z0,rfl⟩:=IP t0 (by kernel_rfl)
 obtain ⟨z1,rfl⟩:=IP t1 (by kernel_rfl)
 obtain ⟨z2,f2,rfl⟩:=JI t2
 obtain ⟨z3,f3,rfl⟩:=JI t3
 obtain ⟨z4,rfl,f4,g4⟩:=IR (k:=5) (e:=34) (fun l h=>Ux h) (by kernel_rfl) (by kernel_rfl) t4
 obtain ⟨z5,rfl,f5,g5⟩:=IR (k:=10) (e:=51) (fun l h=>OX h) (by kernel_rfl) (by kernel_rfl) t5
 obtain ⟨z6,rfl,f6,g6⟩:=IR (k:=16) (e:=55) (fun l h=>Qs h) (by kernel_rfl) (by kernel_rfl) t6
 obtain ⟨z7,rfl,f7,_⟩:=typed_int t7 (by kernel_rfl)
 obtain ⟨z8,rfl,f8,_⟩:=typed_int t8 (by kernel_rfl)
 exact ⟨⟨z0,z1,z2,z3,z4,z5,z6,z7,z8⟩,⟨f2,f3,f4,g4,f5,g5,f6,g6,f7,f8⟩,e⟩
def Hj (m:MeterX):Prop:=200<(m.nm.size:Int)∨200<(m.un.size:Int)
def IM (x:ChX):Prop:=40<(x.ts.length:Int)∨40<(x.ad.length:Int)∨200<(x.me.size:Int)
def GV (p:PlanX):Prop:=(20<(p.ms.length:Int)∨40<(p.fs.length:Int)∨40<(p.cs.length:Int)∨200<(p.nm.size:Int)∨200<(p.cu.size:Int))∨(∃m∈p.ms,Hj m)∨∃x∈p.cs,IM x
noncomputable instance (p:PlanX):Decidable (GV p):=Classical.propDecidable _
abbrev Ir (b:Nat) (p:PlanX):List (Nat×Blk):=[(b,.box 28 p.cells)]
theorem Mv {p:PlanX}:DataW Try.prog WZ [FS p] (bv (decide (GV p))):=by
 refine D9 Tn (by simp) ?_
 simp -implicitDefEqProofs -proj only [go_sem,seval]
 refine D4 (fun b1 hb1=>?_)
 by_cases g1:20<(p.ms.length:Int)
 ·simp -implicitDefEqProofs -proj only [go_sem,seval,E8,FA,En,decide_eq_true g1]
  exact AU (by rw [decide_eq_true (.inl (.inl g1))])
 by_cases g2:40<(p.fs.length:Int)
 ·simp -implicitDefEqProofs -proj only [go_sem,seval,E8,FA,En,decide_eq_false g1,decide_eq_true g2]
  exact AU (by rw [decide_eq_true (.inl (.inr (.inl g2)))])
 by_cases g3:40<(p.cs.length:Int)
 ·simp -implicitDefEqProofs -proj only [go_sem,seval,E8,FA,En,decide_eq_false g1,decide_eq_false g2,decide_eq_true g3]
  exact AU (by rw [decide_eq_true (.inl (.inr (.inr (.inl g3))))])
 by_cases g4:200<(p.nm.size:Int)
 ·simp -implicitDefEqProofs -proj only [go_sem,seval,E8,FA,En,decide_eq_false g1,decide_eq_false g2,decide_eq_false g3,decide_eq_true g4]
  exact AU (by rw [decide_eq_true (.inl (.inr (.inr (.inr (.inl g4)))))])
 by_cases g5:200<(p.cu.size:Int)
 ·simp -implicitDefEqProofs -proj only [go_sem,seval,E8,FA,En,decide_eq_false g1,decide_eq_false g2,decide_eq_false g3,decide_eq_false g4,decide_eq_true g5]
  exact AU (by rw [decide_eq_true (.inl (.inr (.inr (.inr (.inr g5)))))])
 simp -implicitDefEqProofs -proj only [go_sem,seval,E8,FA,En,decide_eq_false g1,decide_eq_false g2,decide_eq_false g3,decide_eq_false g4,decide_eq_false g5]
 refine EY (fun i:Nat=>i≤p.ms.length∧∀(j:Nat) (h:j<p.ms.length),j<i→¬Hj p.ms[j]) 77 (fun i=>[(1,.ptr b1 0),(36,.d (.sl 5 (EO p.ms))),(37,i64 p.ms.length),(38,i64 i)]) (fun _=>Ir b1 p) (fun i=>p.ms.length-i) 0 ⟨Nat.zero_le _,fun j _ h=>absurd h (Nat.not_lt_zero _)⟩ rfl ?_ ?_ ?_
 ·simp -implicitDefEqProofs -proj only [go_sem,seval,Ai]
 ·simp -implicitDefEqProofs -proj only [go_sem,seval,AT]
 ·rintro i ⟨hi,hs⟩
  have hk:AT (D6 (Ir b1 p)) (Ir b1 p):=Eu (by simp [Ae])
  have k1:=hk.1
  by_cases h:i<p.ms.length
  ·have hel:=Hq h
   have hno:Hj p.ms[i]→GV p:=fun e=>.inr (.inl ⟨_,List.getElem_mem h,e⟩)
   have hgo:¬Hj p.ms[i]→∀(j:Nat) (h:j<p.ms.length),j<i+1→¬Hj p.ms[j]:=by
    intro e j h1 h2
    by_cases hj:j=i
    ·subst hj; exact e
    ·exact hs j h1 (by omega)
   generalize p.ms[i]=m at *
   simp -implicitDefEqProofs -proj only [go_sem,seval,decide_eq_true (show (i:Int)<p.ms.length by omega)]
   refine ES _ (by omega) hel ?_
   simp -implicitDefEqProofs -proj only [go_sem,seval]
   refine D4 (fun b4 hb4=>?_)
   replace hb4:D6 (Ir b1 p) b4=none:=hb4
   obtain ⟨n1,n2⟩:=EA hb4 k1
   by_cases c1:200<(m.nm.size:Int)
   ·simp -implicitDefEqProofs -proj only [go_sem,seval,n1,n2,decide_eq_true c1]
    exact AU (by rw [decide_eq_true (hno (.inl c1))])
   by_cases c2:200<(m.un.size:Int)
   ·simp -implicitDefEqProofs -proj only [go_sem,seval,n1,n2,decide_eq_false c1,decide_eq_true c2]
    exact AU (by rw [decide_eq_true (hno (.inr c2))])
   simp -implicitDefEqProofs -proj only [go_sem,seval,n1,n2,decide_eq_false c1,decide_eq_false c2]
   refine Ed (i+1) ⟨by omega,hgo (fun e=>e.elim c1 c2)⟩ (by show p.ms.length-(i+1)<p.ms.length-i; omega) rfl ?_ (GX hb4 hk)
   simp -implicitDefEqProofs -proj only [go_sem,seval,Ai,Es (show i<9223372036854775807 by omega)]
  ·have hi':i=p.ms.length:=by omega
   subst hi'
   simp -implicitDefEqProofs -proj only [go_sem,seval,k1,En,decide_eq_false (show ¬(p.ms.length:Int)<p.ms.length by omega)]
   refine EY (fun i:Nat=>i≤p.cs.length∧∀(j:Nat) (h:j<p.cs.length),j<i→¬IM p.cs[j]) 77 (fun i=>[(54,.d (.sl 16 (ET p.cs))),(55,i64 p.cs.length),(56,i64 i)]) (fun _=>[]) (fun i=>p.cs.length-i) 0 ⟨Nat.zero_le _,fun j _ h=>absurd h (Nat.not_lt_zero _)⟩ rfl ?_ ?_ ?_
   ·simp -implicitDefEqProofs -proj only [go_sem,seval,Ai]
   ·trivial
   ·rintro i ⟨hi2,hs2⟩
    by_cases h2:i<p.cs.length
    ·have hel:(ET p.cs)[((i:Int)).toNat]? = some p.cs[i].el:=by rw [Int.toNat_natCast]; simp [ET,h2]
     have hno:IM p.cs[i]→GV p:=fun e=>.inr (.inr ⟨_,List.getElem_mem h2,e⟩)
     have hgo:¬IM p.cs[i]→∀(j:Nat) (h:j<p.cs.length),j<i+1→¬IM p.cs[j]:=by
      intro e j h1 h2
      by_cases hj:j=i
      ·subst hj; exact e
      ·exact hs2 j h1 (by omega)
     generalize p.cs[i]=x at *
     simp -implicitDefEqProofs -proj only [go_sem,seval,decide_eq_true (show (i:Int)<p.cs.length by omega)]
     refine ES _ (by omega) hel ?_
     simp -implicitDefEqProofs -proj only [go_sem,seval]
     refine D4 (fun b4 hb4=>?_)
     by_cases c1:40<(x.ts.length:Int)
     ·simp -implicitDefEqProofs -proj only [go_sem,seval,Fx,Ft,decide_eq_true c1]
      exact AU (by rw [decide_eq_true (hno (.inl c1))])
     by_cases c2:40<(x.ad.length:Int)
     ·simp -implicitDefEqProofs -proj only [go_sem,seval,Fx,Ft,decide_eq_false c1,decide_eq_true c2]
      exact AU (by rw [decide_eq_true (hno (.inr (.inl c2)))])
     by_cases c3:200<(x.me.size:Int)
     ·simp -implicitDefEqProofs -proj only [go_sem,seval,Fx,Ft,decide_eq_false c1,decide_eq_false c2,decide_eq_true c3]
      exact AU (by rw [decide_eq_true (hno (.inr (.inr c3)))])
     simp -implicitDefEqProofs -proj only [go_sem,seval,Fx,Ft,decide_eq_false c1,decide_eq_false c2,decide_eq_false c3]
     refine Ed (i+1) ⟨by omega,hgo (fun e=>e.elim c1 (fun e=>e.elim c2 c3))⟩ (by show p.cs.length-(i+1)<p.cs.length-i; omega) rfl ?_ trivial
     simp -implicitDefEqProofs -proj only [go_sem,seval,Ai,Es (show i<9223372036854775807 by omega)]
    ·have hi3:i=p.cs.length:=by omega
     subst hi3
     simp -implicitDefEqProofs -proj only [go_sem,seval,decide_eq_false (show ¬(p.cs.length:Int)<p.cs.length by omega)]
     have hn:¬GV p:=by
      rintro ((e | e | e | e | e) | ⟨m,hm,e⟩ | ⟨x,hx,e⟩)
      ·exact g1 e
      ·exact g2 e
      ·exact g3 e
      ·exact g4 e
      ·exact g5 e
      ·obtain ⟨j,hj,rfl⟩:=List.getElem_of_mem hm
       exact hs j hj hj e
      ·obtain ⟨j,hj,rfl⟩:=List.getElem_of_mem hx
       exact hs2 j hj hj e
     exact AU (by rw [decide_eq_false hn])
def Sa (T:List Tier) (i:Nat):Int:=if i+1=T.length then 0 else match T[i-1]? with
 | some p=>if 0<i∧1≤p.u then min p.u 1000000+1 else 1
 | none=>1
def Pw (T:List Tier) (i:Nat):Int:=if i+1=T.length then 0 else 1000000
def KV (T:List Tier) (i:Nat) (t:Tier):Prop:=(0≤t.r∧t.r≤1000000000000)∧(Sa T i≤t.u∧t.u≤Pw T i)
instance (T:List Tier) (i:Nat) (t:Tier):Decidable (KV T i t):=by unfold KV; exact inferInstance
def J0 (a:Adj):Prop:=a.k=1∧(0≤a.n∧a.n≤100000000)∧(0≤a.m∧a.m≤3)∨(a.k=2∨a.k=3∨a.k=4)∧(0≤a.n∧a.n≤1000000000000)∧a.m=0
instance (a:Adj):Decidable (J0 a):=by unfold J0; exact inferInstance
def KP (f t:Int) (nm:Nat) (x:PartX):Prop:=0≤x.me∧x.me<nm∧(f≤x.f∧x.f≤x.t∧x.t≤t)∧(0≤x.al∧x.al≤1000000)∧(1≤x.bl∧x.bl≤1000000)∧(x.ki=1∨x.ki=2)∧(0≤x.mo∧x.mo≤3)∧1≤x.ts.length∧x.ts.length≤8∧x.ad.length≤6
instance (f t:Int) (nm:Nat) (x:PartX):Decidable (KP f t nm x):=by unfold KP; exact inferInstance
def M3 (T:List Tier):Prop:=∀(i:Nat) (h:i<T.length),KV T i T[i]
def Lm (l:List Adj):Prop:=∀a∈l,J0 a
noncomputable instance (T:List Tier):Decidable (M3 T):=Classical.propDecidable _
noncomputable instance (l:List Adj):Decidable (Lm l):=Classical.propDecidable _
def Jo (f t:Int) (nm:Nat) (x:PartX):Prop:=KP f t nm x∧M3 x.ts∧Lm x.ad
noncomputable instance (f t:Int) (nm:Nat) (x:PartX):Decidable (Jo f t nm x):=by unfold Jo; exact inferInstance
def Pf (a b:ByteArray):Bool:=Op.bytesLess a.toList b.toList
def Su (ms:List MeterX) (i:Nat) (m:MeterX):Prop:=(0≤m.mx∧m.mx≤2000)∧m.ln=0∧m.co=0∧∀p,ms[i-1]? = some p→0<i→Pf p.nm m.nm=true
def PX (f t:Int) (s:SumX):Prop:=(0≤s.a∧s.a≤1000000000000)∧(f≤s.f∧s.f≤s.t∧s.t≤t)
def Qd (c:CoreX):Prop:=(0≤c.f∧c.f≤3652058)∧(c.f≤c.t∧c.t≤3652058)∧c.t-c.f≤3999∧c.ms.length≤4∧c.ss.length≤8∧c.ps.length≤8
def O7 (ms:List MeterX):Prop:=∀(i:Nat) (h:i<ms.length),Su ms i ms[i]
structure goodC (c:CoreX):Prop where
 hd:Qd c
 ms:O7 c.ms
 ss:∀s∈c.ss,PX c.f c.t s
 ps:∀x∈c.ps,Jo c.f c.t c.ms.length x
noncomputable instance (c:CoreX):Decidable (goodC c):=Classical.propDecidable _
theorem MP (b:ByteArray):∀(n i:Nat) (r:List UInt8),b.size≤n+i→ByteArray.toList.loop b i r=r.reverse++b.data.toList.drop i
 | 0,i,r,h=>by
  rw [ByteArray.toList.loop,if_neg (by omega)]
  rw [List.drop_eq_nil_of_le (by simpa using h),List.append_nil]
 | n+1,i,r,h=>by
  rw [ByteArray.toList.loop]
  split
  ·next hi =>
   rw [MP b n (i+1) _ (by omega),List.reverse_cons,List.append_assoc]
   congr 1
   have hi':i<b.data.toList.length:=by simpa using hi
   rw [List.drop_eq_getElem_cons hi']
   have hi2:i<b.data.size:=hi
   simp [ByteArray.get!]
   exact getElem!_pos b.data i hi2
  ·rw [List.drop_eq_nil_of_le (by simp; omega),List.append_nil]
theorem JN (b:ByteArray):b.toList=b.data.toList:=by
 rw [ByteArray.toList,MP b b.size 0 [] (by omega)]; rfl
theorem U1 {x y:ByteArray} (h:x.toList=y.toList):x=y:=by
 rw [JN,JN] at h
 cases x; cases y
 simp -implicitDefEqProofs only [ByteArray.mk.injEq]
 exact Array.ext' h
def SV (S:List MeterX) (n:Nat):Prop:=0<n∧(S[n-1]?).map MeterX.nm=(S[n]?).map MeterX.nm
noncomputable instance (S:List MeterX) (n:Nat):Decidable (SV S n):=Classical.propDecidable _
def Fr (u:Int):UInt8:=UInt8.ofNat (IntKind.u8.wrap u).toNat
def IS (n:Int):List UInt8:=[Fr (IntKind.u64.wrap n),Fr ((IntKind.u64.wrap n).fdiv 256),Fr ((IntKind.u64.wrap n).fdiv 65536),Fr ((IntKind.u64.wrap n).fdiv 16777216),Fr ((IntKind.u64.wrap n).fdiv 4294967296),Fr ((IntKind.u64.wrap n).fdiv 1099511627776),Fr ((IntKind.u64.wrap n).fdiv 281474976710656),Fr ((IntKind.u64.wrap n).fdiv 72057594037927936)]
def AQ (n:Int):ByteArray:=⟨(IS n).toArray⟩
theorem Er (n:Int):DataW Try.prog Sn [i64 n] (.d (.str (AQ n))):=by
 refine D9 R2 (by simp) ?_
 simp -implicitDefEqProofs -proj only [go_sem,seval]
 refine FN (fun b hb=>?_)
 simp -implicitDefEqProofs -proj only [go_sem,seval]
 refine PW D8 rfl (bs:=IS n) rfl ?_
 simp -implicitDefEqProofs -proj only [go_sem,seval]
 exact AU rfl
theorem Gg {u v:Int} (h:Fr u=Fr v):u % 256=v % 256:=by
 unfold Fr at h
 have h1:=congrArg UInt8.toNat h
 rw [IntKind.wrap_u8,IntKind.wrap_u8,UInt8.toNat_ofNat',UInt8.toNat_ofNat'] at h1
 omega
theorem P4 {n m:Int} (hn:Fit n) (hm:Fit m) (h:(AQ n).toList=(AQ m).toList):n=m:=by
 have e:IS n=IS m:=by
  have h1:∀l:List UInt8,(ByteArray.mk l.toArray).toList=l:=fun l=>by rw [JN]
  simpa only [AQ,h1] using h
 simp -implicitDefEqProofs only [IS,List.cons.injEq,and_true] at e
 obtain ⟨e0,e1,e2,e3,e4,e5,e6,e7⟩:=e
 have hu:∀k:Int,IntKind.u64.wrap k=k % 18446744073709551616:=IntKind.wrap_u64
 have u0:0≤IntKind.u64.wrap n∧IntKind.u64.wrap n<18446744073709551616:=by rw [hu]; omega
 have v0:0≤IntKind.u64.wrap m∧IntKind.u64.wrap m<18446744073709551616:=by rw [hu]; omega
 have hw:IntKind.u64.wrap n=IntKind.u64.wrap m→n=m:=fun e=>by
  rw [hu,hu] at e; obtain ⟨a,b⟩:=hn; obtain ⟨c,d⟩:=hm; omega
 refine hw ?_
 generalize IntKind.u64.wrap n=u at *
 generalize IntKind.u64.wrap m=v at *
 replace e0:=Gg e0
 replace e1:=Gg e1
 replace e2:=Gg e2
 replace e3:=Gg e3
 replace e4:=Gg e4
 replace e5:=Gg e5
 replace e6:=Gg e6
 replace e7:=Gg e7
 simp -implicitDefEqProofs only [Int.fdiv_eq_ediv_of_nonneg _ (show (0:Int)≤256 by decide),Int.fdiv_eq_ediv_of_nonneg _ (show (0:Int)≤65536 by decide),Int.fdiv_eq_ediv_of_nonneg _ (show (0:Int)≤16777216 by decide),Int.fdiv_eq_ediv_of_nonneg _ (show (0:Int)≤4294967296 by decide),Int.fdiv_eq_ediv_of_nonneg _ (show (0:Int)≤1099511627776 by decide),Int.fdiv_eq_ediv_of_nonneg _ (show (0:Int)≤281474976710656 by decide),Int.fdiv_eq_ediv_of_nonneg _ (show (0:Int)≤72057594037927936 by decide)] at *
 have d7:u / 72057594037927936=v / 72057594037927936:=by omega
 have d6:u / 281474976710656=v / 281474976710656:=by omega
 have d5:u / 1099511627776=v / 1099511627776:=by omega
 have d4:u / 4294967296=v / 4294967296:=by omega
 have d3:u / 16777216=v / 16777216:=by omega
 have d2:u / 65536=v / 65536:=by omega
 have d1:u / 256=v / 256:=by omega
 omega
structure TStep where
 f:Int
 t:Int
 r:Int
abbrev TStep.av (s:TStep):AV:=.agg [i64 s.f,i64 s.t,i64 s.r]
def TStep.el (s:TStep):List D:=[.int .i64 s.f,.int .i64 s.t,.int .i64 s.r]
def JT (T:List Tier) (q:Int) (i:Nat) (t:Tier):Int:=if i+1<T.length then min q t.u else q
def Gz (T:List Tier) (q:Int):Nat→Int×List TStep
 | 0=>(0,[])
 | i+1=>match T[i]? with
  | some t=>(max (Gz T q i).1 (JT T q i t),if (Gz T q i).1<JT T q i t then (Gz T q i).2++[⟨(Gz T q i).1,JT T q i t,t.r⟩] else (Gz T q i).2)
  | none=>Gz T q i
def UF (T:List Tier) (q:Int):List TStep:=(Gz T q T.length).2
def MO (T:List Tier) (q:Int):Nat→List TStep
 | 0=>[]
 | n+1=>match T[T.length-(n+1)]? with
  | some t=>if n=0∨q≤t.u then (if 0<q then [⟨0,q,t.r⟩] else []) else MO T q n
  | none=>[]
def O5 (T:List Tier) (q:Int):List TStep:=MO T q T.length
def S8 (x:PartX) (q:Int):List TStep:=if x.ki=2 then O5 x.ts q else UF x.ts q
def V5 (s:TStep) (a:Int):Option Int:=if Fit (s.r*(s.t-s.f))∧Fit (a+s.r*(s.t-s.f)) then some (a+s.r*(s.t-s.f)) else none
def LT:List TStep→Int→Option Int
 | [],a=>some a
 | s::l,a=>match V5 s a with
  | some b=>LT l b
  | none=>none
def Uk (x:PartX) (q:Int):Option Int:=if q<0 then none else if Fit (KT (max (q-x.al) 0) x.bl 1*x.bl) then LT (S8 x (KT (max (q-x.al) 0) x.bl 1*x.bl)) 0 else none
def N8 (x:PartX) (q:Int):Option Int:=match Uk x q with
 | some n=>MI n 1000000 x.mo
 | none=>none
def K0:List TStep→Int
 | []=>0
 | s::l=>s.r*(s.t-s.f)+K0 l
section
def Is (s:Bool) (m:Int):AV:=.agg [bv s,u64 (m / 18446744073709551616),u64 (m % 18446744073709551616)]
def wide (n:Int):AV:=Is (n<0) n.natAbs
attribute [local go_sem] Is wide
end
def Sl (a:Adj) (x:Int):Option Int :=
 if a.k=1 then MI (x*a.n) 100000 a.m
 else if a.k=2 then some (min x a.n)
 else if a.k=3 then some (max x a.n)
 else if a.k=4 then Lf (x+a.n)
 else none
def LJ:Int→List Adj→Option Int
 | x,[]=>some x
 | x,a::l=>match Sl a x with
  | some y=>LJ y l
  | none=>none
def L7 (x:PartX) (q:Int):Option Int:=match N8 x q with
 | some n=>LJ n x.ad
 | none=>none
def Mi (d f t:Int):Prop:=f≤d∧d≤t
instance (d f t:Int):Decidable (Mi d f t):=by unfold Mi; exact inferInstance
def bq (b:List Int) (m:Int):Int:=b.getD m.toNat 0
def TA (c:CoreX) (b:List Int):Prop:=b.length=c.ms.length∧∀(i:Nat) (h:i<b.length) (h2:i<c.ms.length),0≤b[i]∧b[i]≤(c.ms[i]).mx
noncomputable instance (c:CoreX) (b:List Int):Decidable (TA c b):=Classical.propDecidable _
def sg (g:Nat→Int):Nat→Int
 | 0=>0
 | n+1=>sg g n+g n
def pv (x:PartX) (q:Int):Int:=(L7 x q).getD 0
def L9 (x:PartX):Nat→Int
 | 0=>0
 | n+1=>max (L9 x n) (pv x n)
def Ld (ms:List MeterX) (m:Int):Int:=match ms[m.toNat]? with
 | some x=>x.mx
 | none=>0
def T7 (c:CoreX) (j:Nat):Int:=match c.ps[j]? with
 | some x=>L9 x (Ld c.ms x.me+1).toNat
 | none=>0
def PC (ss:List SumX) (j:Nat):Int:=match ss[j]? with
 | some s=>s.a
 | none=>0
def SM (c:CoreX) (i:Nat):Int:=sg (PC c.ss) c.ss.length+sg (T7 c) i
def SW (x:PartX) (q:Int):Prop:=∃n,L7 x q=some n∧0≤n∧n≤1152921504606846976
structure fitsC (c:CoreX):Prop where
 great:¬Ls c
 good:goodC c
 parts:∀x∈c.ps,∀q:Nat,q<(Ld c.ms x.me+1).toNat→SW x q
 K0:∀i,i≤c.ps.length→SM c i≤1152921504606846976
noncomputable instance (c:CoreX):Decidable (fitsC c):=Classical.propDecidable _
structure Run where
 f:Int
 t:Int
 v:Int
 deriving DecidableEq
def Run.el (r:Run):List D:=[.int .i64 r.f,.int .i64 r.t,.int .i64 r.v]
abbrev Run.av (r:Run):AV:=.agg [i64 r.f,i64 r.t,i64 r.v]
def G5 (l:List Run) (r:Run):List Run:=match l.getLast? with
 | some q=>if q.v=r.v then l.dropLast++[{ q with t:=r.t }] else l++[r]
 | none=>[r]
def Ks (l:List Run) (x:Int):Nat:=(l.takeWhile fun r=>decide (r.t<x)).length
def JG (l:List Run) (x:Int):Option Int:=match l[Ks l x]? with
 | some r=>if r.f≤x then some r.v else none
 | none=>none
def FwdOK (val:Int→Int) (lo hi:Int):List Run→Prop
 | []=>lo=hi
 | r::R=>r.f=lo∧r.f≤r.t∧(∀x,r.f≤x→x≤r.t→val x=r.v)∧(∀s,R.head? = some s→r.v≠s.v)∧FwdOK val (r.t+1) hi R
theorem FwdOK.le {val:Int→Int}:∀{R:List Run} {lo hi:Int},FwdOK val lo hi R→lo≤hi
 | [],lo,hi,h=>by have:lo=hi:=h; omega
 | r::R,lo,hi,h=>by
  obtain ⟨h1,h2,_,_,h5⟩:=h
  have:=FwdOK.le h5
  omega
theorem MN {r x:Run} {R:List Run} (h:R≠[]):G5 (r::R) x=r::G5 R x:=by
 obtain ⟨q,hq⟩:∃q,R.getLast? = some q:=by
  cases hh:R.getLast? with
  | none=>exact absurd (List.getLast?_eq_none_iff.1 hh) h
  | some q=>exact ⟨q,rfl⟩
 have h2:(r::R).getLast? = some q:=by
  rw [List.getLast?_cons,hq]; rfl
 unfold G5
 rw [hq,h2]
 simp -implicitDefEqProofs only []
 split
 ·rw [List.dropLast_cons_of_ne_nil h]; rfl
 ·rfl
theorem TQ {x s:Run} {R:List Run} {q:Run} (h:(G5 (s::R) x).head? = some q):q.v=s.v:=by
 cases R with
 | nil =>
  unfold G5 at h
  simp -implicitDefEqProofs only [List.getLast?_singleton] at h
  split at h
  ·simp at h; subst h; rfl
  ·simp at h; subst h; rfl
 | cons t R =>
  rw [MN (by simp)] at h
  simp at h; subst h; rfl
theorem FwdOK.put {val:Int→Int} {hi:Int}:∀{R:List Run} {lo:Int},FwdOK val lo hi R→FwdOK val lo (hi+1) (G5 R ⟨hi,hi,val hi⟩)
 | [],lo,h=>by
  have:lo=hi:=h
  subst this
  exact ⟨rfl,Int.le_refl _,fun x h1 h2=>by rw [show x=lo from Int.le_antisymm h2 h1],fun s h=>(by cases h),rfl⟩
 | [r],lo,h=>by
  obtain ⟨h1,h2,h3,h4,h5⟩:=h
  have h5:r.t+1=hi:=h5
  unfold G5
  simp -implicitDefEqProofs only [List.getLast?_singleton]
  split
  ·next hv =>
   refine ⟨h1,by show r.f≤hi; omega,fun x x1 x2=>?_,fun s h=>(by cases h),rfl⟩
   by_cases hx:x=hi
   ·subst hx; exact hv.symm
   ·exact h3 x x1 (by have:x≤hi:=x2; omega)
  ·next hv =>
   refine ⟨h1,h2,h3,fun s h=>?_,⟨h5.symm,Int.le_refl _,fun x x1 x2=>by rw [show x=hi from Int.le_antisymm x2 x1],fun s h=>(by cases h),rfl⟩⟩
   cases h; exact hv
 | r::s::R,lo,h=>by
  obtain ⟨h1,h2,h3,h4,h5⟩:=h
  rw [MN (by simp)]
  refine ⟨h1,h2,h3,fun q hq=>?_,FwdOK.put h5⟩
  rw [TQ hq]
  exact h4 s rfl
theorem Pn {r:Run} {R:List Run} {x:Int}:JG (r::R) x=if r.t<x then JG R x else if r.f≤x then some r.v else none:=by
 unfold JG Ks
 by_cases h:r.t<x
 ·rw [if_pos h,List.takeWhile_cons_of_pos (by simpa using h),List.length_cons,List.getElem?_cons_succ]
 ·rw [if_neg h,List.takeWhile_cons_of_neg (by simpa using h)]
  rfl
def Adj2:List Run→Prop
 | []=>True
 | r::R=>(∀s,R.head? = some s→r.v≠s.v)∧Adj2 R
theorem Adj2.last {S R:List Run} {x q:Run} (h:Adj2 (S++x::R)) (hq:S.getLast? = some q):q.v≠x.v:=by
 induction S with
 | nil=>cases hq
 | cons s S ih =>
  cases S with
  | nil =>
   simp at hq; subst hq
   exact h.1 x rfl
  | cons t S =>
   rw [List.getLast?_cons_cons] at hq
   exact ih h.2 hq
structure Seg (β:Type) where
 f:Int
 t:Int
 v : β
section
variable {β:Type}
def FwdB (val:Int→β) (lo hi:Int):List (Seg β)→Prop
 | []=>lo=hi
 | r::R=>r.f=lo∧r.f≤r.t∧(∀x,r.f≤x→x≤r.t→val x=r.v)∧(∀s,R.head? = some s→r.v≠s.v)∧FwdB val (r.t+1) hi R
theorem FwdB.le {val:Int→β}:∀{R:List (Seg β)} {lo hi:Int},FwdB val lo hi R→lo≤hi
 | [],lo,hi,h=>by have:lo=hi:=h; omega
 | r::R,lo,hi,h=>by
  obtain ⟨h1,h2,_,_,h5⟩:=h
  have:=FwdB.le h5
  omega
theorem FwdB.len {val:Int→β}:∀{R:List (Seg β)} {lo hi:Int},FwdB val lo hi R→(R.length:Int)≤hi-lo
 | [],lo,hi,h=>by have:lo=hi:=h; simp; omega
 | r::R,lo,hi,h=>by
  obtain ⟨h1,h2,_,_,h5⟩:=h
  have:=FwdB.len h5
  simp -implicitDefEqProofs only [List.length_cons]
  omega
theorem FwdB.congr {val val':Int→β} {hi:Int}:∀{R:List (Seg β)} {lo:Int},(∀x,lo≤x→x<hi→val x=val' x)→FwdB val lo hi R→FwdB val' lo hi R
 | [],lo,_,h=>h
 | r::R,lo,hv,h=>by
  obtain ⟨h1,h2,h3,h4,h5⟩:=h
  have hl:=h5.le
  exact ⟨h1,h2,fun x a b=>by rw [←hv x (by omega) (by omega)]; exact h3 x a b,h4,FwdB.congr (fun x a b=>hv x (by omega) b) h5⟩
theorem FwdB.nth {val:Int→β} {hi:Int}:∀{R:List (Seg β)} {lo:Int},FwdB val lo hi R→∀(i:Nat) r,R[i]? = some r→lo+i≤r.f∧r.f≤r.t∧r.t<hi∧(∀x,r.f≤x→x≤r.t→val x=r.v)∧(∀s,R[i+1]? = some s→s.f=r.t+1∧r.v≠s.v)∧(R[i+1]? = none→r.t+1=hi)∧(i=0→r.f=lo)
 | [],lo,_,i,r,hr=>by simp at hr
 | q::R,lo,h,0,r,hr=>by
  obtain ⟨h1,h2,h3,h4,h5⟩:=h
  have hl:=h5.le
  simp -implicitDefEqProofs only [List.getElem?_cons_zero,Option.some.injEq] at hr
  subst hr
  refine ⟨by omega,h2,by omega,h3,fun s hs=>?_,fun hs=>?_,fun _=>h1⟩
  ·cases R with
   | nil=>simp at hs
   | cons a R =>
    simp -implicitDefEqProofs only [List.getElem?_cons_succ,List.getElem?_cons_zero,Option.some.injEq] at hs
    subst hs
    exact ⟨h5.1,h4 a rfl⟩
  ·cases R with
   | nil=>exact h5
   | cons a R=>simp at hs
 | q::R,lo,h,i+1,r,hr=>by
  obtain ⟨h1,h2,h3,h4,h5⟩:=h
  have hl:=h5.le
  obtain ⟨g1,g2,g3,g4,g5,g6,g7⟩:=FwdB.nth h5 i r (by simpa using hr)
  exact ⟨by omega,g2,g3,g4,by simpa using g5,by simpa using g6,fun h=>by omega⟩
theorem FwdB.apart {val:Int→β} {hi:Int}:∀{R:List (Seg β)} {lo:Int},FwdB val lo hi R→∀(i j:Nat) r s,i<j→R[i]? = some r→R[j]? = some s→r.t<s.f
 | [],lo,_,i,j,r,s,_,hr,_=>by simp at hr
 | q::R,lo,h,0,0,r,s,hij,_,_=>by omega
 | q::R,lo,h,0,j+1,r,s,_,hr,hs=>by
  obtain ⟨h1,h2,h3,h4,h5⟩:=h
  simp -implicitDefEqProofs only [List.getElem?_cons_zero,Option.some.injEq] at hr
  subst hr
  have:=(FwdB.nth h5 j s (by simpa using hs)).1
  omega
 | q::R,lo,h,i+1,0,r,s,hij,_,_=>by omega
 | q::R,lo,h,i+1,j+1,r,s,hij,hr,hs=>FwdB.apart h.2.2.2.2 i j r s (by omega) (by simpa using hr) (by simpa using hs)
end
theorem FwdOK.out {val:Int→Int} {hi x:Int}:∀{R:List Run} {lo:Int},FwdOK val lo hi R→(x<lo∨hi≤x)→JG R x=none
 | [],lo,h,_=>rfl
 | r::R,lo,h,h1=>by
  obtain ⟨g1,g2,g3,g4,g5⟩:=h
  have:=g5.le
  rw [Pn]
  by_cases ht:r.t<x
  ·rw [if_pos ht]; exact FwdOK.out g5 (.inr (by omega))
  ·rw [if_neg ht,if_neg (by omega)]
theorem FwdOK.ends {val:Int→Int} {hi:Int}:∀{R:List Run} {lo:Int} (hr:R≠[]),FwdOK val lo hi R→(R.head hr).f=lo∧(R.getLast hr).t=hi-1
 | [r],lo,_,h=>⟨h.1,by have:r.t+1=hi:=h.2.2.2.2; show r.t=hi-1; omega⟩
 | r::s::R,lo,_,h=>⟨h.1,(FwdOK.ends (R:=s::R) (by simp) h.2.2.2.2).2⟩
theorem FwdOK.congr {val val':Int→Int} {hi:Int}:∀{R:List Run} {lo:Int},(∀x,lo≤x→x<hi→val x=val' x)→FwdOK val lo hi R→FwdOK val' lo hi R
 | [],_,_,h=>h
 | r::R,lo,he,h=>by
  obtain ⟨g1,g2,g3,g4,g5⟩:=h
  have:=g5.le
  exact ⟨g1,g2,fun x h1 h2=>by rw [←he x (by omega) (by omega)]; exact g3 x h1 h2,g4,FwdOK.congr (fun x h1 h2=>he x (by omega) h2) g5⟩
def Hh (R:List Run) (hi:Int) (i:Nat):Int:=match R[i]? with
 | some r=>r.f
 | none=>hi
theorem FwdOK.nth {val:Int→Int} {hi:Int}:∀{R:List Run} {lo:Int},FwdOK val lo hi R→∀(i:Nat) r,R[i]? = some r→r.f=Hh R hi i∧r.f≤r.t∧Hh R hi (i+1)=r.t+1∧r.t+1≤hi∧lo≤r.f∧∀x,r.f≤x→x≤r.t→val x=r.v:=by
 intro R
 induction R with
 | nil=>intro lo _ i r h; simp at h
 | cons q R ih =>
  intro lo h i r hi'
  obtain ⟨g1,g2,g3,g4,g5⟩:=h
  have hle:=g5.le
  cases i with
  | zero =>
   simp -implicitDefEqProofs only [List.getElem?_cons_zero,Option.some.injEq] at hi'
   subst hi'
   refine ⟨rfl,g2,?_,hle,by omega,g3⟩
   unfold Hh
   cases R with
   | nil=>exact g5.symm
   | cons s R=>exact g5.1
  | succ i =>
   obtain ⟨e1,e2,e3,e4,e5,e6⟩:=ih g5 i r (by simpa using hi')
   exact ⟨by rw [e1]; simp [Hh],e2,by rw [←e3]; simp [Hh],e4,by omega,e6⟩
theorem FwdOK.len {val:Int→Int} {hi:Int}:∀{R:List Run} {lo:Int},FwdOK val lo hi R→(R.length:Int)≤hi-lo
 | [],lo,h=>by have:lo=hi:=h; simp; omega
 | r::R,lo,⟨g1,g2,g3,g4,g5⟩=>by
  have:=g5.len
  simp -implicitDefEqProofs only [List.length_cons]
  omega
structure Grp where
 f:Int
 v:Int
 w:Int
 r:Int
 c:Int
 deriving DecidableEq
theorem FwdOK.drop {val:Int→Int} {hi:Int}:∀{R:List Run} {lo:Int} (k:Nat),FwdOK val lo hi R→k≤R.length→∃m,FwdOK val m hi (R.drop k)∧lo+k≤m∧(∀q,lo≤q→q<m→∃(j:Nat) (h:j<R.length),j<k∧R[j].f≤q∧q≤R[j].t∧val q=R[j].v∧(∀(h2:j+1<R.length),q<R[j+1].f))
 | R,lo,0,h,_=>⟨lo,h,by omega,fun q h1 h2=>by omega⟩
 | [],lo,k+1,h,hk=>absurd hk (by simp)
 | a::R,lo,k+1,⟨g1,g2,g3,g4,g5⟩,hk=>by
  obtain ⟨m,k1,k2,k3⟩:=FwdOK.drop k g5 (by simpa using hk)
  refine ⟨m,k1,by omega,fun q h1 h2=>?_⟩
  by_cases hq:q≤a.t
  ·refine ⟨0,by simp,by omega,by simpa using (by omega),by simpa using hq,by simpa using g3 q (by omega) hq,fun h3=>?_⟩
   cases R with
   | nil=>simp at h3
   | cons b R =>
    have:=g5.1
    simp -implicitDefEqProofs only [List.getElem_cons_succ,List.getElem_cons_zero]
    omega
  ·obtain ⟨j,j1,j2,j3,j4,j5,j6⟩:=k3 q (by omega) h2
   exact ⟨j+1,by simpa using j1,by omega,by simpa using j3,by simpa using j4,by simpa using j5,fun h3=>by simpa using j6 (by simpa using h3)⟩
def Kb (r:Run):Prop:=r.v < -2305843009213693952∨2305843009213693952<r.v
instance (r:Run):Decidable (Kb r):=by unfold Kb; exact inferInstance
def Grp.el (g:Grp):List D:=[.int .i64 g.f,.int .i64 g.v,.int .i64 g.w,.int .i64 g.r,.int .i64 g.c]
abbrev Grp.av (g:Grp):AV:=.agg [i64 g.f,i64 g.v,i64 g.w,i64 g.r,i64 g.c]
def U6 (R:List Run):Prop:=∃h:R≠[],(R.head h).f=0∧(R.getLast h).t≤2000∧∀r∈R,¬Kb r
noncomputable instance (R:List Run):Decidable (U6 R):=Classical.propDecidable _
def Jb (v:Int):Prop:=-2305843009213693952≤v∧v≤2305843009213693952
instance (v:Int):Decidable (Jb v):=by unfold Jb; exact inferInstance
def NC (l:List Int):Prop:=l≠[]∧l.length≤2001∧∀v∈l,Jb v
noncomputable instance (l:List Int):Decidable (NC l):=Classical.propDecidable _
theorem G2 {P:Program} {Q:Out→St→Prop} {k:List Item} {s:St} {d:Option Nat} {l:List AO} {e:TypeId} {sz bytes b len cap:Nat} {z:List AV} {xs ys:List (List D)} {x:AV} (hx:∀K,El s.H x K=K sz ys) (hb:s.H b=some (.row e sz cap xs)) (hlb:len=xs.length) (hz:z.length=sz) (hbd:(xs.length+ys.length)*bytes≤140737488355328∧xs.length+ys.length≤maxLen)
  (hk:∀b' cap' H',H' b'=some (.row e sz cap' (xs++ys))→(∀k x,s.H k=some x→¬k=b→H' k=some x∧¬k=b'∧¬b'=k)→AF P Q l k (AD s d (.own b' sz 0 (len+ys.length) cap') H')):Fw e sz bytes z (.own b sz 0 len cap) x d l k s P Q:=by
 refine Tj hx hb hlb hz hbd (fun h=>?_) (fun h b' cap' hb'=>?_)
 ·subst h
  have:=hk b cap s.H (by rw [List.append_nil]; exact hb) (fun k x h1 h2=>⟨h1,h2,fun e=>h2 e.symm⟩)
  simpa using this
 ·refine hk b' cap' _ D8 (fun k x h1 h2=>?_)
  have hne:¬k=b':=by
   rintro rfl
   rw [Ap (fun e=>h2 e.symm),h1] at hb'
   cases hb'
  exact ⟨by rw [Ap (fun e=>hne e.symm),Ap (fun e=>h2 e.symm)]; exact h1,hne,fun e=>hne e.symm⟩
def EV (l:List ByteArray):List (List D):=l.map fun s=>[.str s]
theorem Gx {l:List ByteArray}:(EV l).length=l.length:=List.length_map ..
theorem Qj {l r:List ByteArray}:EV (l++r)=EV l++EV r:=List.map_append ..
abbrev Jq:ByteArray:=⟨⟨[110,111]⟩⟩
abbrev KA:ByteArray:=⟨⟨[121,101,115]⟩⟩
abbrev yn (b:Bool):ByteArray:=if b=true then KA else Jq
def Em (w:WinX):List ByteArray:=[yn w.has,AQ w.f.y,AQ w.f.m,AQ w.f.d,AQ w.t.y,AQ w.t.m,AQ w.t.d]
abbrev Rp (w:WinX):List AV:=[bv w.has,i64 w.f.y,i64 w.f.m,i64 w.f.d,i64 w.t.y,i64 w.t.m,i64 w.t.d]
theorem Jf (w:WinX):DataW Try.prog Ub [.agg (Rp w)] (.d (.sl 1 (EV (Em w)))):=by
 refine D9 Ww (by simp) ?_
 simp -implicitDefEqProofs -proj only [go_sem,seval]
 refine D4 (fun b1 hb1=>?_)
 cases hh:w.has <;> simp -implicitDefEqProofs -proj only [go_sem,seval,hh]
 all_goals
  refine E2 (Er _) ?_
  simp -implicitDefEqProofs -proj only [go_sem,seval]
  refine E2 (Er _) ?_
  simp -implicitDefEqProofs -proj only [go_sem,seval]
  refine E2 (Er _) ?_
  simp -implicitDefEqProofs -proj only [go_sem,seval]
  refine E2 (Er _) ?_
  simp -implicitDefEqProofs -proj only [go_sem,seval]
  refine E2 (Er _) ?_
  simp -implicitDefEqProofs -proj only [go_sem,seval]
  refine EE (Er _) ?_
  simp -implicitDefEqProofs -proj only [go_sem,seval]
 ·have e:Em w=[Jq,AQ w.f.y,AQ w.f.m,AQ w.f.d,AQ w.t.y,AQ w.t.m,AQ w.t.d]:=by simp [Em,hh]
  refine GR (ds:=[.str Jq,.str (AQ w.f.y),.str (AQ w.f.m),.str (AQ w.f.d),.str (AQ w.t.y),.str (AQ w.t.m),.str (AQ w.t.d)]) rfl (fun bs hs=>?_)
  simp -implicitDefEqProofs -proj only [go_sem,seval]
  rw [e]
  exact LendV.own bs 1 7 9 7 _ D8
 ·have e:Em w=[KA,AQ w.f.y,AQ w.f.m,AQ w.f.d,AQ w.t.y,AQ w.t.m,AQ w.t.d]:=by simp [Em,hh]
  refine GR (ds:=[.str KA,.str (AQ w.f.y),.str (AQ w.f.m),.str (AQ w.f.d),.str (AQ w.t.y),.str (AQ w.t.m),.str (AQ w.t.d)]) rfl (fun bs hs=>?_)
  simp -implicitDefEqProofs -proj only [go_sem,seval]
  rw [e]
  exact LendV.own bs 1 7 9 7 _ D8
def Fi (m:MeterX):List ByteArray:=[m.nm,m.un,AQ m.mx]
def Fg (x:FeeX):List ByteArray:=AQ x.am::Em x.w
def Fj (x:Tier):List ByteArray:=[AQ x.u,AQ x.r]
def Fd (x:Adj):List ByteArray:=[AQ x.k,AQ x.n,AQ x.m]
def Hk (x:ChX):List ByteArray:=(x.me::Em x.w)++[AQ x.al,AQ x.bl,AQ x.ki,AQ x.mo,AQ x.ts.length,AQ x.ad.length]
def Ew (x:ChX):List ByteArray:=Hk x++(x.ts.flatMap Fj++x.ad.flatMap Fd)
def Hm (p:PlanX):List ByteArray:=[p.nm,p.cu]++(Em ⟨false,p.f,p.t⟩++[AQ p.ms.length,AQ p.fs.length,AQ p.cs.length])
def Eg (p:PlanX):List ByteArray:=Hm p++(p.ms.flatMap Fi++(p.fs.flatMap Fg++p.cs.flatMap Ew))
structure RwY where
 i:Nat
 c:Nat
 cap:Nat
 l:List ByteArray
theorem Ei {i c cap:Nat} {l:List ByteArray}:(RwY.mk i c cap l).i=i:=(rfl)
theorem Ef {i c cap:Nat} {l:List ByteArray}:(RwY.mk i c cap l).c=c:=(rfl)
theorem Ex {i c cap:Nat} {l:List ByteArray}:(RwY.mk i c cap l).cap=cap:=(rfl)
theorem Eh {i c cap:Nat} {l:List ByteArray}:(RwY.mk i c cap l).l=l:=(rfl)
abbrev Gi (b1:Nat) (p:PlanX) (c cap:Nat) (L:List ByteArray):List (Nat×Blk):=[(c,.row 9 1 cap (EV L)),(b1,.box 28 p.cells)]
theorem Pi {L M R T:List ByteArray} (h:L++(M++R)=T) (hT:T.length≤1000000):((EV L).length+(EV M).length)*16≤140737488355328∧(EV L).length+(EV M).length≤maxLen:=by
 have e:=congrArg List.length h
 simp -implicitDefEqProofs only [List.length_append] at e
 rw [Gx,Gx]
 simp -implicitDefEqProofs only [maxLen]
 omega
theorem GD {P:Program} {Q:Out→St→Prop} {k:List Item} {s:St} {d:Option Nat} {l:List AO} {e:TypeId} {b len cap:Nat} {z:List AV} {L M R T:List ByteArray} {x:AV} (hx:∀K,El s.H x K=K 1 (EV M)) (hb:s.H b=some (.row e 1 cap (EV L))) (hlb:len=L.length) (hz:z.length=1) (hT:L++(M++R)=T) (hT1:T.length≤1000000)
  (hk:∀b' cap' H' L',L'++R=T→H' b'=some (.row e 1 cap' (EV L'))→(∀k x,s.H k=some x→¬k=b→H' k=some x∧¬k=b'∧¬b'=k)→AF P Q l k (AD s d (.own b' 1 0 L'.length cap') H')):Fw e 1 16 z (.own b 1 0 len cap) x d l k s P Q:=by
 refine G2 hx hb (by rw [Gx]; exact hlb) hz (Pi hT hT1) (fun b' cap' H' h1 h2=>?_)
 have e1:len+(EV M).length=(L++M).length:=by rw [Gx,List.length_append,hlb]
 rw [e1]
 exact hk b' cap' H' (L++M) (by rw [List.append_assoc]; exact hT) (by rw [Qj]; exact h1) h2
theorem H5 {α:Type} {f : α→List ByteArray} {l:List α} {i:Nat} (h:i<l.length):(l.drop i).flatMap f=f l[i]++(l.drop (i+1)).flatMap f:=by
 rw [List.drop_eq_getElem_cons h,List.flatMap_cons]
theorem IB {α:Type} {f : α→List ByteArray} {l:List α}:(l.drop l.length).flatMap f=[]:=by rw [List.drop_length]; rfl
theorem JF {l:List FeeX} {i:Nat} (h:i<l.length):(EQ l)[((i:Int)).toNat]? = some (l[i]).el:=by rw [Int.toNat_natCast]; simp [EQ,h]
theorem I3 {l:List ChX} {i:Nat} (h:i<l.length):(ET l)[((i:Int)).toNat]? = some (l[i]).el:=by rw [Int.toNat_natCast]; simp [ET,h]
abbrev ChX.cells (x:ChX):List AV:=[.d (.str x.me),bv x.w.has,i64 x.w.f.y,i64 x.w.f.m,i64 x.w.f.d,i64 x.w.t.y,i64 x.w.t.m,i64 x.w.t.d,i64 x.al,i64 x.bl,i64 x.ki,.d (.sl 2 (Ev x.ts)),i64 x.mo,.d (.sl 3 (Ez x.ad)),i64 x.ln,i64 x.co]
abbrev I4 (b9:Nat) (x:ChX) (c cap:Nat) (L:List ByteArray):List (Nat×Blk):=[(c,.row 9 1 cap (EV L)),(b9,.box 55 x.cells)]
theorem Kx {p:PlanX} (hl:(Eg p).length≤1000000) (h1:p.ms.length≤1000000) (h2:p.fs.length≤1000000) (h3:p.cs.length≤1000000) (h4:∀x∈p.cs,x.ts.length≤1000000∧x.ad.length≤1000000):DataW Try.prog NI [FS p] (.d (.sl 1 (EV (Eg p)))):=by
 refine D9 Nl (by simp) ?_
 simp -implicitDefEqProofs -proj only [go_sem,seval]
 refine D4 (fun b1 hb1=>?_)
 simp -implicitDefEqProofs -proj only [go_sem,seval]
 refine FN (fun bs hs=>?_)
 replace hs:AH Heap.none b1 _ bs=none:=hs
 obtain ⟨n1,n2⟩:=EA hs D8
 simp -implicitDefEqProofs -proj only [go_sem,seval,n1,n2]
 refine EE (Jf ⟨false,p.f,p.t⟩) ?_
 simp -implicitDefEqProofs -proj only [go_sem,seval,n1,n2]
 have hT:[p.nm,p.cu]++(Em ⟨false,p.f,p.t⟩++([AQ p.ms.length,AQ p.fs.length,AQ p.cs.length]++(p.ms.flatMap Fi++(p.fs.flatMap Fg++p.cs.flatMap Ew))))=Eg p:=by simp -implicitDefEqProofs only [Eg,Hm,List.append_assoc]
 refine GD (cap:=2) (e:=9) (fun K=>rfl) D8 rfl rfl hT hl (fun b' cap' H' L1 hT2 q1 q2=>?_)
 obtain ⟨g1,m1,m2⟩:=q2 b1 _ ((Ap n1).trans D8) n2
 clear q2 hs hb1 n1 n2 hT
 simp -implicitDefEqProofs -proj only [go_sem,seval,g1,m1,m2,E8,FA,En]
 refine E2 (Er _) ?_
 simp -implicitDefEqProofs -proj only [go_sem,seval,g1,m1,m2,E8,FA,En]
 refine E2 (Er _) ?_
 simp -implicitDefEqProofs -proj only [go_sem,seval,g1,m1,m2,E8,FA,En]
 refine EE (Er _) ?_
 simp -implicitDefEqProofs -proj only [go_sem,seval,g1,m1,m2,E8,FA,En]
 refine GR (ds:=[.str (AQ p.ms.length),.str (AQ p.fs.length),.str (AQ p.cs.length)]) rfl (fun bs hs=>?_)
 replace hs:H' bs=none:=hs
 obtain ⟨n1,n2⟩:=EA hs q1
 obtain ⟨n3,n4⟩:=EA hs g1
 simp -implicitDefEqProofs -proj only [go_sem,seval,n1,n2]
 refine GD (M:=[AQ p.ms.length,AQ p.fs.length,AQ p.cs.length]) (F9 D8 rfl) ((Ap n1).trans q1) rfl rfl hT2 hl (fun b2 cap2 H2 L2 hT3 r1 r2=>?_)
 obtain ⟨u1,m3,m4⟩:=r2 b1 _ ((Ap n3).trans g1) m1
 clear r2 hs n1 n2 n3 n4 hT2 g1 q1 m1 m2
 simp -implicitDefEqProofs -proj only [go_sem,seval,u1,E8]
 refine EY (fun y:RwY=>y.i≤p.ms.length∧¬b1=y.c∧y.l++((p.ms.drop y.i).flatMap Fi++(p.fs.flatMap Fg++p.cs.flatMap Ew))=Eg p) 156 (fun y=>[(1,.ptr b1 0),(3,.own y.c 1 0 y.l.length y.cap),(43,.d (.sl 5 (EO p.ms))),(44,i64 p.ms.length),(45,i64 y.i)]) (fun y=>Gi b1 p y.c y.cap y.l) (fun y=>p.ms.length-y.i) ⟨0,b2,cap2,L2⟩ ⟨Nat.zero_le _,m3,hT3⟩ rfl ?_ ?_ ?_
 ·simp -implicitDefEqProofs -proj only [go_sem,seval,Ai,Ei,Ef,Ex,Eh]
 ·simp -implicitDefEqProofs -proj only [go_sem,seval]
  exact ⟨r1,u1,trivial⟩
 clear u1 r1 hT3 m3 m4
 rintro ⟨i,c,cap,L⟩ ⟨hi,hcb,hL⟩
 simp -implicitDefEqProofs only [Ei,Ef,Eh] at hi hcb hL
 have hall:AT (D6 (Gi b1 p c cap L)) (Gi b1 p c cap L):=Eu (by simp [Ae]; exact fun e=>hcb e.symm)
 obtain ⟨H,hH⟩:∃H,D6 (Gi b1 p c cap L)=H:=⟨_,rfl⟩
 rw [hH] at hall
 obtain ⟨q1,g1,qz⟩:=hall
 clear qz
 by_cases h:i<p.ms.length
 ·have hel:=Hq h
  rw [H5 h,List.append_assoc] at hL
  generalize p.ms[i]=m at *
  simp -implicitDefEqProofs -proj only [go_sem,seval,Ei,Ef,Ex,Eh,hH,decide_eq_true (show (i:Int)<p.ms.length by omega)]
  refine ES _ (by omega) hel ?_
  simp -implicitDefEqProofs -proj only [go_sem,seval]
  refine D4 (fun b5 hb5=>?_)
  replace hb5:H b5=none:=hb5
  obtain ⟨n1,n2⟩:=EA hb5 q1
  obtain ⟨n3,n4⟩:=EA hb5 g1
  simp -implicitDefEqProofs -proj only [go_sem,seval]
  refine E2 (Er _) ?_
  simp -implicitDefEqProofs -proj only [go_sem,seval]
  refine GR (ds:=[.str m.nm,.str m.un,.str (AQ m.mx)]) rfl (fun bs hs=>?_)
  replace hs:AH H b5 _ bs=none:=hs
  obtain ⟨n5,n6⟩:=EA hs ((Ap n1).trans q1)
  obtain ⟨n7,n8⟩:=EA hs ((Ap n3).trans g1)
  simp -implicitDefEqProofs -proj only [go_sem,seval]
  refine GD (M:=Fi m) (F9 D8 rfl) ((Ap n5).trans ((Ap n1).trans q1)) rfl rfl hL hl (fun c' cap' H' L' hL' r1 r2=>?_)
  obtain ⟨u1,m3,m4⟩:=r2 b1 _ ((Ap n7).trans ((Ap n3).trans g1)) hcb
  simp -implicitDefEqProofs -proj only [go_sem,seval]
  refine Ed ⟨i+1,c',cap',L'⟩ ⟨by show i+1≤_; omega,m3,hL'⟩ (by show p.ms.length-(i+1)<p.ms.length-i; omega) rfl ?_ ⟨r1,u1,trivial⟩
  simp -implicitDefEqProofs -proj only [go_sem,seval,Ai,Ei,Ef,Ex,Eh,Es (show i<9223372036854775807 by omega)]
 have hi':i=p.ms.length:=by omega
 subst hi'
 rw [IB,List.nil_append] at hL
 clear h hi
 simp -implicitDefEqProofs -proj only [go_sem,seval,Ei,Ef,Ex,Eh,hH,g1,FA,decide_eq_false (show ¬(p.ms.length:Int)<p.ms.length by omega)]
 clear hH
 refine EY (fun y:RwY=>y.i≤p.fs.length∧¬b1=y.c∧y.l++((p.fs.drop y.i).flatMap Fg++p.cs.flatMap Ew)=Eg p) 156 (fun y=>[(1,.ptr b1 0),(3,.own y.c 1 0 y.l.length y.cap),(61,.d (.sl 10 (EQ p.fs))),(62,i64 p.fs.length),(63,i64 y.i)]) (fun y=>Gi b1 p y.c y.cap y.l) (fun y=>p.fs.length-y.i) ⟨0,c,cap,L⟩ ⟨Nat.zero_le _,hcb,hL⟩ rfl ?_ ?_ ?_
 ·simp -implicitDefEqProofs -proj only [go_sem,seval,Ai,Ei,Ef,Ex,Eh]
 ·exact ⟨q1,g1,trivial⟩
 clear q1 g1 hL hcb
 clear L cap c H
 rintro ⟨i,c,cap,L⟩ ⟨hi,hcb,hL⟩
 simp -implicitDefEqProofs only [Ei,Ef,Eh] at hi hcb hL
 have hall:AT (D6 (Gi b1 p c cap L)) (Gi b1 p c cap L):=Eu (by simp [Ae]; exact fun e=>hcb e.symm)
 obtain ⟨H,hH⟩:∃H,D6 (Gi b1 p c cap L)=H:=⟨_,rfl⟩
 rw [hH] at hall
 obtain ⟨q1,g1,qz⟩:=hall
 clear qz
 by_cases h:i<p.fs.length
 ·have hel:=JF h
  rw [H5 h,List.append_assoc] at hL
  generalize p.fs[i]=x at *
  simp -implicitDefEqProofs -proj only [go_sem,seval,Ei,Ef,Ex,Eh,hH,decide_eq_true (show (i:Int)<p.fs.length by omega)]
  refine ES _ (by omega) hel ?_
  simp -implicitDefEqProofs -proj only [go_sem,seval]
  refine D4 (fun b5 hb5=>?_)
  replace hb5:H b5=none:=hb5
  obtain ⟨n1,n2⟩:=EA hb5 q1
  obtain ⟨n3,n4⟩:=EA hb5 g1
  simp -implicitDefEqProofs -proj only [go_sem,seval]
  refine E2 (Er _) ?_
  simp -implicitDefEqProofs -proj only [go_sem,seval]
  refine GR (ds:=[.str (AQ x.am)]) rfl (fun bs hs=>?_)
  replace hs:AH H b5 _ bs=none:=hs
  obtain ⟨n5,n6⟩:=EA hs ((Ap n1).trans q1)
  obtain ⟨n7,n8⟩:=EA hs ((Ap n3).trans g1)
  simp -implicitDefEqProofs -proj only [go_sem,seval]
  refine GD (M:=[AQ x.am]) (R:=Em x.w++((p.fs.drop (i+1)).flatMap Fg++p.cs.flatMap Ew)) (F9 D8 rfl) ((Ap n5).trans ((Ap n1).trans q1)) rfl rfl hL hl (fun c' cap' H' L' hL' r1 r2=>?_)
  obtain ⟨u1,m3,m4⟩:=r2 b1 _ ((Ap n7).trans ((Ap n3).trans g1)) hcb
  simp -implicitDefEqProofs -proj only [go_sem,seval]
  refine EE (Jf x.w) ?_
  simp -implicitDefEqProofs -proj only [go_sem,seval]
  refine GD (M:=Em x.w) (fun K=>rfl) r1 rfl rfl hL' hl (fun c2 cap2 H2 L2 hL2 s1 s2=>?_)
  obtain ⟨v1,m5,m6⟩:=s2 b1 _ u1 m3
  simp -implicitDefEqProofs -proj only [go_sem,seval]
  refine Ed ⟨i+1,c2,cap2,L2⟩ ⟨by show i+1≤_; omega,m5,hL2⟩ (by show p.fs.length-(i+1)<p.fs.length-i; omega) rfl ?_ ⟨s1,v1,trivial⟩
  simp -implicitDefEqProofs -proj only [go_sem,seval,Ai,Ei,Ef,Ex,Eh,Es (show i<9223372036854775807 by omega)]
 have hi':i=p.fs.length:=by omega
 subst hi'
 rw [IB,List.nil_append] at hL
 clear h hi
 simp -implicitDefEqProofs -proj only [go_sem,seval,Ei,Ef,Ex,Eh,hH,g1,En,decide_eq_false (show ¬(p.fs.length:Int)<p.fs.length by omega)]
 clear hH
 have hL0:L++(p.cs.drop 0).flatMap Ew=Eg p:=hL
 refine EY (fun y:RwY=>y.i≤p.cs.length∧y.l++(p.cs.drop y.i).flatMap Ew=Eg p) 156 (fun y=>[(3,.own y.c 1 0 y.l.length y.cap),(79,.d (.sl 16 (ET p.cs))),(80,i64 p.cs.length),(81,i64 y.i)]) (fun y=>[(y.c,.row 9 1 y.cap (EV y.l))]) (fun y=>p.cs.length-y.i) ⟨0,c,cap,L⟩ ⟨Nat.zero_le _,hL0⟩ rfl ?_ ?_ ?_
 ·simp -implicitDefEqProofs -proj only [go_sem,seval,Ai,Ei,Ef,Ex,Eh]
 ·exact ⟨q1,trivial⟩
 clear q1 g1 hL hL0 hcb
 clear L cap c H
 rintro ⟨i,c,cap,L⟩ ⟨hi,hL⟩
 simp -implicitDefEqProofs only [Ei,Ef,Eh] at hi hL
 have hall:AT (D6 [(c,Blk.row 9 1 cap (EV L))]) [(c,.row 9 1 cap (EV L))]:=Eu (by simp [Ae])
 obtain ⟨H,hH⟩:∃H,D6 [(c,Blk.row 9 1 cap (EV L))]=H:=⟨_,rfl⟩
 rw [hH] at hall
 obtain ⟨q1,qz⟩:=hall
 clear qz
 by_cases h:i<p.cs.length
 ·have hel:=I3 h
  have hbd:=h4 _ (List.getElem_mem h)
  rw [H5 h] at hL
  generalize p.cs[i]=x at *
  have hL:L++([x.me]++(Em x.w++([AQ x.al,AQ x.bl,AQ x.ki,AQ x.mo,AQ x.ts.length,AQ x.ad.length]++(x.ts.flatMap Fj++(x.ad.flatMap Fd++(p.cs.drop (i+1)).flatMap Ew)))))=Eg p:=by
   rw [←hL]
   simp -implicitDefEqProofs only [Ew,Hk,List.append_assoc,List.cons_append,List.nil_append]
  simp -implicitDefEqProofs -proj only [go_sem,seval,Ei,Ef,Ex,Eh,hH,decide_eq_true (show (i:Int)<p.cs.length by omega)]
  refine ES _ (by omega) hel ?_
  simp -implicitDefEqProofs -proj only [go_sem,seval]
  refine D4 (fun b9 hb9=>?_)
  replace hb9:H b9=none:=hb9
  obtain ⟨n1,n2⟩:=EA hb9 q1
  simp -implicitDefEqProofs -proj only [go_sem,seval]
  refine GR (ds:=[.str x.me]) rfl (fun bs hs=>?_)
  replace hs:AH H b9 _ bs=none:=hs
  obtain ⟨n5,n6⟩:=EA hs ((Ap n1).trans q1)
  obtain ⟨n7,n8⟩:=EA hs D8
  simp -implicitDefEqProofs -proj only [go_sem,seval]
  refine GD (M:=[x.me]) (F9 D8 rfl) ((Ap n5).trans ((Ap n1).trans q1)) rfl rfl hL hl (fun c2 cap2 H2 L2 hL2 r1 r2=>?_)
  obtain ⟨u1,m3,m4⟩:=r2 b9 _ ((Ap n7).trans D8) n1
  clear r2 hs n5 n6 n7 n8 hb9 n1 n2 q1 hL
  simp -implicitDefEqProofs -proj only [go_sem,seval]
  refine EE (Jf x.w) ?_
  simp -implicitDefEqProofs -proj only [go_sem,seval]
  refine GD (M:=Em x.w) (fun K=>rfl) r1 rfl rfl hL2 hl (fun c3 cap3 H3 L3 hL3 s1 s2=>?_)
  obtain ⟨v1,m5,m6⟩:=s2 b9 _ u1 m3
  clear s2 m3 m4 u1 r1 hL2
  simp -implicitDefEqProofs -proj only [go_sem,seval,v1]
  refine E2 (Er _) ?_
  simp -implicitDefEqProofs -proj only [go_sem,seval,v1]
  refine E2 (Er _) ?_
  simp -implicitDefEqProofs -proj only [go_sem,seval,v1]
  refine E2 (Er _) ?_
  simp -implicitDefEqProofs -proj only [go_sem,seval,v1]
  refine E2 (Er _) ?_
  simp -implicitDefEqProofs -proj only [go_sem,seval,v1,Fx]
  refine E2 (Er _) ?_
  simp -implicitDefEqProofs -proj only [go_sem,seval,v1,Ft]
  refine EE (Er _) ?_
  simp -implicitDefEqProofs -proj only [go_sem,seval,v1]
  refine GR (ds:=[.str (AQ x.al),.str (AQ x.bl),.str (AQ x.ki),.str (AQ x.mo),.str (AQ x.ts.length),.str (AQ x.ad.length)]) rfl (fun bs hs=>?_)
  replace hs:H3 bs=none:=hs
  obtain ⟨n5,n6⟩:=EA hs s1
  obtain ⟨n7,n8⟩:=EA hs v1
  simp -implicitDefEqProofs -proj only [go_sem,seval]
  refine GD (M:=[AQ x.al,AQ x.bl,AQ x.ki,AQ x.mo,AQ x.ts.length,AQ x.ad.length]) (F9 D8 rfl) ((Ap n5).trans s1) rfl rfl hL3 hl (fun c4 cap4 H4 L4 hL4 r1 r2=>?_)
  obtain ⟨u1,m3,m4⟩:=r2 b9 _ ((Ap n7).trans v1) m5
  clear r2 hs n5 n6 n7 n8 m5 m6 v1 s1 hL3
  simp -implicitDefEqProofs -proj only [go_sem,seval,u1,Fx]
  have hx1:=hbd.1
  have hx2:=hbd.2
  refine EY (fun y:RwY=>y.i≤x.ts.length∧¬b9=y.c∧y.l++((x.ts.drop y.i).flatMap Fj++(x.ad.flatMap Fd++(p.cs.drop (i+1)).flatMap Ew))=Eg p) 156 (fun y=>[(9,.ptr b9 0),(3,.own y.c 1 0 y.l.length y.cap),(79,.d (.sl 16 (ET p.cs))),(80,i64 p.cs.length),(81,i64 i),(118,.d (.sl 2 (Ev x.ts))),(119,i64 x.ts.length),(120,i64 y.i)]) (fun y=>I4 b9 x y.c y.cap y.l) (fun y=>x.ts.length-y.i) ⟨0,c4,cap4,L4⟩ ⟨Nat.zero_le _,m3,hL4⟩ rfl ?_ ?_ ?_
  ·simp -implicitDefEqProofs -proj only [go_sem,seval,Ai,Ei,Ef,Ex,Eh]
  ·exact ⟨r1,u1,trivial⟩
  clear r1 u1 m3 m4 hL4
  rintro ⟨j,c,cap,L⟩ ⟨hj,hcb,hL⟩
  simp -implicitDefEqProofs only [Ei,Ef,Eh] at hj hcb hL
  have hall:AT (D6 (I4 b9 x c cap L)) (I4 b9 x c cap L):=Eu (by simp [Ae]; exact fun e=>hcb e.symm)
  obtain ⟨H,hH⟩:∃H,D6 (I4 b9 x c cap L)=H:=⟨_,rfl⟩
  rw [hH] at hall
  obtain ⟨q1,g1,qz⟩:=hall
  clear qz
  by_cases h:j<x.ts.length
  ·have hel:=J5 h
   rw [H5 h,List.append_assoc] at hL
   generalize x.ts[j]=t at *
   simp -implicitDefEqProofs -proj only [go_sem,seval,Ei,Ef,Ex,Eh,hH,decide_eq_true (show (j:Int)<x.ts.length by omega)]
   refine ES _ (by omega) hel ?_
   simp -implicitDefEqProofs -proj only [go_sem,seval]
   refine D4 (fun b5 hb5=>?_)
   replace hb5:H b5=none:=hb5
   obtain ⟨n1,n2⟩:=EA hb5 q1
   obtain ⟨n3,n4⟩:=EA hb5 g1
   simp -implicitDefEqProofs -proj only [go_sem,seval]
   refine E2 (Er _) ?_
   simp -implicitDefEqProofs -proj only [go_sem,seval]
   refine EE (Er _) ?_
   simp -implicitDefEqProofs -proj only [go_sem,seval]
   refine GR (ds:=[.str (AQ t.u),.str (AQ t.r)]) rfl (fun bs hs=>?_)
   replace hs:AH H b5 _ bs=none:=hs
   obtain ⟨n5,n6⟩:=EA hs ((Ap n1).trans q1)
   obtain ⟨n7,n8⟩:=EA hs ((Ap n3).trans g1)
   simp -implicitDefEqProofs -proj only [go_sem,seval]
   refine GD (M:=Fj t) (F9 D8 rfl) ((Ap n5).trans ((Ap n1).trans q1)) rfl rfl hL hl (fun c' cap' H' L' hL' r1 r2=>?_)
   obtain ⟨u1,m3,m4⟩:=r2 b9 _ ((Ap n7).trans ((Ap n3).trans g1)) hcb
   simp -implicitDefEqProofs -proj only [go_sem,seval]
   refine Ed ⟨j+1,c',cap',L'⟩ ⟨by show j+1≤_; omega,m3,hL'⟩ (by show x.ts.length-(j+1)<x.ts.length-j; omega) rfl ?_ ⟨r1,u1,trivial⟩
   simp -implicitDefEqProofs -proj only [go_sem,seval,Ai,Ei,Ef,Ex,Eh,Es (show j<9223372036854775807 by omega)]
  have hj':j=x.ts.length:=by omega
  subst hj'
  rw [IB,List.nil_append] at hL
  clear h hj
  simp -implicitDefEqProofs -proj only [go_sem,seval,Ei,Ef,Ex,Eh,hH,g1,Ft,decide_eq_false (show ¬(x.ts.length:Int)<x.ts.length by omega)]
  clear hH
  refine EY (fun y:RwY=>y.i≤x.ad.length∧y.l++((x.ad.drop y.i).flatMap Fd++(p.cs.drop (i+1)).flatMap Ew)=Eg p) 156 (fun y=>[(3,.own y.c 1 0 y.l.length y.cap),(79,.d (.sl 16 (ET p.cs))),(80,i64 p.cs.length),(81,i64 i),(135,.d (.sl 3 (Ez x.ad))),(136,i64 x.ad.length),(137,i64 y.i)]) (fun y=>[(y.c,.row 9 1 y.cap (EV y.l))]) (fun y=>x.ad.length-y.i) ⟨0,c,cap,L⟩ ⟨Nat.zero_le _,hL⟩ rfl ?_ ?_ ?_
  ·simp -implicitDefEqProofs -proj only [go_sem,seval,Ai,Ei,Ef,Ex,Eh]
  ·exact ⟨q1,trivial⟩
  clear q1 g1 hL hcb
  clear L cap c H
  rintro ⟨j,c,cap,L⟩ ⟨hj,hL⟩
  simp -implicitDefEqProofs only [Ei,Ef,Eh] at hj hL
  have hall:AT (D6 [(c,Blk.row 9 1 cap (EV L))]) [(c,.row 9 1 cap (EV L))]:=Eu (by simp [Ae])
  obtain ⟨H,hH⟩:∃H,D6 [(c,Blk.row 9 1 cap (EV L))]=H:=⟨_,rfl⟩
  rw [hH] at hall
  obtain ⟨q1,qz⟩:=hall
  clear qz
  by_cases h:j<x.ad.length
  ·have hel:=KS h
   rw [H5 h,List.append_assoc] at hL
   generalize x.ad[j]=t at *
   simp -implicitDefEqProofs -proj only [go_sem,seval,Ei,Ef,Ex,Eh,hH,decide_eq_true (show (j:Int)<x.ad.length by omega)]
   refine ES _ (by omega) hel ?_
   simp -implicitDefEqProofs -proj only [go_sem,seval]
   refine D4 (fun b5 hb5=>?_)
   replace hb5:H b5=none:=hb5
   obtain ⟨n1,n2⟩:=EA hb5 q1
   simp -implicitDefEqProofs -proj only [go_sem,seval]
   refine E2 (Er _) ?_
   simp -implicitDefEqProofs -proj only [go_sem,seval]
   refine E2 (Er _) ?_
   simp -implicitDefEqProofs -proj only [go_sem,seval]
   refine EE (Er _) ?_
   simp -implicitDefEqProofs -proj only [go_sem,seval]
   refine GR (ds:=[.str (AQ t.k),.str (AQ t.n),.str (AQ t.m)]) rfl (fun bs hs=>?_)
   replace hs:AH H b5 _ bs=none:=hs
   obtain ⟨n5,n6⟩:=EA hs ((Ap n1).trans q1)
   simp -implicitDefEqProofs -proj only [go_sem,seval]
   refine GD (M:=Fd t) (F9 D8 rfl) ((Ap n5).trans ((Ap n1).trans q1)) rfl rfl hL hl (fun c' cap' H' L' hL' r1 r2=>?_)
   simp -implicitDefEqProofs -proj only [go_sem,seval]
   refine Ed ⟨j+1,c',cap',L'⟩ ⟨by show j+1≤_; omega,hL'⟩ (by show x.ad.length-(j+1)<x.ad.length-j; omega) rfl ?_ ⟨r1,trivial⟩
   simp -implicitDefEqProofs -proj only [go_sem,seval,Ai,Ei,Ef,Ex,Eh,Es (show j<9223372036854775807 by omega)]
  have hj':j=x.ad.length:=by omega
  subst hj'
  rw [IB,List.nil_append] at hL
  clear h hj
  simp -implicitDefEqProofs -proj only [go_sem,seval,Ei,Ef,Ex,Eh,hH,decide_eq_false (show ¬(x.ad.length:Int)<x.ad.length by omega)]
  refine Ed ⟨i+1,c,cap,L⟩ ⟨by show i+1≤_; omega,hL⟩ (by show p.cs.length-(i+1)<p.cs.length-i; omega) rfl ?_ ⟨q1,trivial⟩
  simp -implicitDefEqProofs -proj only [go_sem,seval,Ai,Ei,Ef,Ex,Eh,Es (show i<9223372036854775807 by omega)]
 have hi':i=p.cs.length:=by omega
 subst hi'
 rw [IB,List.append_nil] at hL
 subst hL
 simp -implicitDefEqProofs -proj only [go_sem,seval,Ei,Ef,Ex,Eh,hH,decide_eq_false (show ¬(p.cs.length:Int)<p.cs.length by omega)]
 have:=LendV.own c 1 cap 9 cap (EV (Eg p)) q1
 rwa [Gx] at this
theorem Xd {P:Program} {f:FuncId} {args:List AV} {H0 H:Heap} {K:AV→Heap→Prop} (h:CallW P f args H0 K) (hs:∀k,H0 k=none∨H0 k=H k) :
  CallW P f args H fun r H'=>∃H1,K r H1∧(∀k x,H1 k=some x→H' k=some x)∧∀k x,H k=some x→H0 k=none→H' k=some x:=by
 classical
 intro F w vs hh hv
 have hsub:∀b x,H0 b=some x→H b=some x:=fun b x hb=>by
  rcases hs b with e | e
  ·rw [e] at hb; cases hb
  ·rw [←e]; exact hb
 have hh0:HRel P F H0 w:=⟨fun b x hb=>hh.at_ b x (hsub b x hb),fun b x hb=>hh.apart b x (hsub b x hb),hh.old⟩
 refine (h F w vs hh0 hv).mono fun e w' hr=>?_
 obtain ⟨r,H1,F',v,rfl,h1,h2,h3,h4⟩:=hr
 have hF0:∀k,F k→H0 k=none:=fun k hk=>by
  cases e:H0 k with
  | none=>rfl
  | some x=>exact absurd hk (hh0.apart k x e)
 have hne:∀k,H0 k≠none→H k≠none:=fun k hk=>by
  cases e:H0 k with
  | none=>exact absurd e hk
  | some x=>rw [hsub k x e]; simp
 have hfr:∀k x,H1 k=some x→¬(H k≠none∧H0 k=none):=fun k x hx hk=>by
  rcases h3.dom k (by rw [hx]; simp) with e | e
  ·exact e hk.2
  ·cases e2:H k with
   | none=>exact hk.1 e2
   | some y=>have:=(hh.at_ k y e2).lt; omega
 refine ⟨r,fun k=>if H k≠none∧H0 k=none then H k else H1 k,F',v,rfl,h1,⟨fun b x hb=>?_,fun b x hb hf=>?_,h2.old⟩,⟨h3.os,h3.tape,h3.output,h3.size,fun k hk e=>h3.keep k hk ?_,fun k hk=>?_,h3.mono,fun k hk=>?_⟩,H1,h4,fun k x hx=>?_,fun k x hx hk=>?_⟩
 ·by_cases e:H b≠none∧H0 b=none
  ·rw [if_pos e] at hb
   exact (hh.at_ b x hb).mono (h3.keep b (hh.at_ b x hb).lt e.2) h3.mono (fun k hk=>h3.keep k (hh.old k hk) (hF0 k hk))
  ·rw [if_neg e] at hb
   exact h2.at_ b x hb
 ·by_cases e:H b≠none∧H0 b=none
  ·rw [if_pos e] at hb
   rcases h3.new b hf with e2 | e2 | e2
   ·exact hh.apart b x hb e2
   ·exact e2 e.2
   ·have:=(hh.at_ b x hb).lt; omega
  ·rw [if_neg e] at hb
   exact h2.apart b x hb hf
 ·rcases hs k with e2 | e2
  ·exact e2
  ·rw [e2,e]
 ·by_cases e:H k≠none∧H0 k=none
  ·exact .inl e.1
  ·rw [if_neg e] at hk
   exact (h3.dom k hk).imp (hne k) id
 ·rcases h3.new k hk with e | e | e
  ·exact .inl e
  ·exact .inr (.inl (hne k e))
  ·exact .inr (.inr e)
 ·show (if H k≠none∧H0 k=none then H k else H1 k)=some x
  rw [if_neg (hfr k x hx)]
  exact hx
 ·show (if H k≠none∧H0 k=none then H k else H1 k)=some x
  rw [if_pos ⟨by rw [hx]; simp,hk⟩]
  exact hx
def Redesc (P:Program) (H H':Heap):Prop:=∀F w,HRel P F H w→∃F',HRel P F' H' w∧Step F H w F' H' w
theorem DefOK.step {B:Nat} {F F':Nat→Prop} {H H':Heap} {ds:List Deferred} {w:World} (h:DefOK B F H ds w) (st:Step F H w F' H' w):DefOK B F' H' ds w:=by
 obtain ⟨h1,ms,h2,h3,h4⟩:=h
 refine ⟨h1,ms,h2,h3,fun D hD=>?_⟩
 obtain ⟨g1,g2,g3,g4⟩:=h4 D hD
 have hlt:D<w.heap.size:=by
  rcases Nat.lt_or_ge D w.heap.size with h | h
  ·exact h
  ·rw [Array.getElem?_eq_none h] at g4; cases g4
 refine ⟨g1,?_,fun hf=>?_,g4⟩
 ·cases e:H' D with
  | none=>rfl
  | some x =>
   rcases st.dom D (by rw [e]; simp) with k | k
   ·exact absurd g2 k
   ·omega
 ·rcases st.new D hf with k | k | k
  ·exact g3 k
  ·exact k g2
  ·omega
theorem Redesc.loop {P:Program} {Q:Out→St→Prop} {b:ACode} {k:List Item} {s:St} {H':Heap} (hd:Redesc P s.H H') (h:G7 P Q b k ⟨s.n,s.t,H'⟩):G7 P Q b k s:=by
 intro r c0 hc hr B F a w hR
 obtain ⟨F',h1,h2⟩:=hd F w hR.1
 exact Code.wpIn_mono (fun e a' w' ⟨o,s',F2,g1,g2,g3,g4⟩=>⟨o,s',F2,g1,g2,h2.trans g3,g4⟩) (h r c0 hc hr B F' a w ⟨h1,hR.2.1.step h2,hR.2.2.1,fun t=>(hR.2.2.2 t).mono h2.mono (fun _ _=>rfl)⟩)
theorem Redesc.call {P:Program} {f:FuncId} {args:List AV} {H H':Heap} {K:AV→Heap→Prop} (hd:Redesc P H H') (h:CallW P f args H' K):CallW P f args H K:=by
 intro F w vs hh hv
 obtain ⟨F',h1,h2⟩:=hd F w hh
 exact (h F' w vs h1 (hv.mono h2.mono (fun _ _=>rfl))).mono fun e w' ⟨r,H2,F2,v,g1,g2,g3,g4,g5⟩=>⟨r,H2,F2,v,g1,g2,g3,h2.trans g4,g5⟩
theorem CallW.redesc {P:Program} {f:FuncId} {args:List AV} {H:Heap} {K K2:AV→Heap→Prop} (h:CallW P f args H K) (hk:∀r H',K r H'→∃H2,Redesc P H' H2∧K2 r H2):CallW P f args H K2:=by
 intro F w vs hh hv
 refine (h F w vs hh hv).mono fun e w' ⟨r,H',F',v,g1,g2,g3,g4,g5⟩=>?_
 obtain ⟨H2,hd,h2⟩:=hk r H' g5
 obtain ⟨F2,h3,h4⟩:=hd F' w' g3
 exact ⟨r,H2,F2,v,g1,g2.mono h4.mono (fun _ _=>rfl),h3,g4.trans h4,h2⟩
theorem OO {P:Program} {Q:Out→St→Prop} {b:ACode} {k:List Item} {s:St} {c sz cap:Nat} {e:TypeId} {xs:List (List D)} (hb:s.H c=some (.row e sz cap xs)) (h:xs.length≤cap∧cap≤maxLen→G7 P Q b k s):G7 P Q b k s:=by
 intro r c0 hc hr B F a w hR
 obtain ⟨cur,g1,g2,g3,g4,_⟩:=hR.1.at_ _ _ hb
 exact h ⟨g3,g4⟩ r c0 hc hr B F a w hR
theorem GP {α:Type} {sz:Nat}:∀{xs:List (List α)},(∀el∈xs,el.length=sz)→xs.flatten.length=xs.length*sz
 | [],_=>by simp
 | x::xs,h=>by
  rw [List.flatten_cons,List.length_append,h x (by simp),GP (fun el he=>h el (by simp [he])),List.length_cons,Nat.add_mul]; omega
theorem IW {α:Type} {sz:Nat}:∀{xs:List (List α)} {i j:Nat} {el:List α},(∀el∈xs,el.length=sz)→xs[i]? = some el→j<sz→xs.flatten[i*sz+j]? = el[j]?
 | [],i,j,el,_,h,_=>by simp at h
 | x::xs,0,j,el,hs,h,hj=>by
  simp -implicitDefEqProofs only [List.getElem?_cons_zero,Option.some.injEq] at h
  subst h
  rw [List.flatten_cons,Nat.zero_mul,Nat.zero_add,List.getElem?_append_left (by rw [hs x (by simp)]; exact hj)]
 | x::xs,i+1,j,el,hs,h,hj=>by
  have hx:=hs x (by simp)
  rw [List.flatten_cons,List.getElem?_append_right (by rw [hx,Nat.add_mul]; omega),hx,show (i+1)*sz+j-sz=i*sz+j by rw [Nat.add_mul]; omega]
  exact IW (fun el he=>hs el (by simp [he])) (by simpa using h) hj
def Hx (sz cap:Nat) (xs:List (List D)):List AV:=(xs.map mapD).flatten++List.replicate (cap*sz-xs.length*sz) .undef
theorem OB {P:Program} {H:Heap} {b sz cap:Nat} {e:TypeId} {xs:List (List D)} (hb:H b=some (.row e sz cap xs)):Redesc P H (AH H b (some (.box e (Hx sz cap xs)))):=by
 intro F w hh
 obtain ⟨cur,g1,g2,g3,g4,g5,g6,g7,g8⟩:=hh.at_ _ _ hb
 have hml:∀zs∈xs.map mapD,zs.length=sz:=fun zs ha=>by
  obtain ⟨el,he,rfl⟩:=List.mem_map.1 ha
  rw [Gm,List.length_map]; exact g6 el he
 have hfl:(xs.map mapD).flatten.length=xs.length*sz:=by rw [GP hml,List.length_map]
 have hle:xs.length*sz≤cap*sz:=Nat.mul_le_mul_right _ g3
 refine ⟨F,hh.turn hb (fun _ _=>rfl) rfl ⟨cur,g1,⟨?_,fun k x v h1 h2=>?_⟩,g8⟩,Step.turn hb (fun _ _=>rfl) rfl rfl rfl rfl⟩
 ·rw [Hx,List.length_append,hfl,List.length_replicate,g2]; omega
 ·rcases Nat.lt_or_ge k (xs.length*sz) with hk | hk
  ·have hi:k / sz<xs.length:=Nat.div_lt_of_lt_mul (by rw [Nat.mul_comm]; exact hk)
   have hj:k % sz<sz:=Nat.mod_lt _ g5
   have hd:k / sz*sz+k % sz=k:=by rw [Nat.mul_comm]; exact Nat.div_add_mod k sz
   have h1':(xs.map mapD).flatten[k / sz*sz+k % sz]? = some x:=by
    rw [hd]
    rw [Hx,List.getElem?_append_left (by rw [hfl]; exact hk)] at h1
    exact h1
   rw [IW hml (el:=mapD xs[k / sz]) (by simp [hi]) hj,Gm,List.getElem?_map,Option.map_eq_some_iff] at h1'
   obtain ⟨c,h3,rfl⟩:=h1'
   refine .d _ _ (g7 (k / sz) (k % sz) xs[k / sz] c v (List.getElem?_eq_getElem hi) h3 ?_)
   rw [hd]; exact h2
  ·rw [Hx,List.getElem?_append_right (by rw [hfl]; exact hk),hfl] at h1
   have:x = .undef:=by
    have:=List.mem_of_getElem? h1
    exact (List.mem_replicate.1 this).2
   subst this
   exact .undef _
def Kf (H Hr:Heap) (b:Nat) (x:Blk):Heap:=fun k=>if k=b then some x else if Hr k=none then H k else none
theorem Hf {H Hr:Heap} {b:Nat} {x:Blk} {k:Nat}:Kf H Hr b x k=if k=b then some x else if Hr k=none then H k else none:=rfl
theorem Nq {P:Program} {H Hr:Heap} {b sz cap:Nat} {e:TypeId} {L:List (List AV)} {pad:List AV} {xs:List (List D)} (hb:H b=some (.box e (L.flatten++pad))) (hr:∀k,Hr k=none∨Hr k=H k) (hrb:Hr b=none) (hL:L.length=xs.length)
  (hl:∀(i:Nat) zs el,L[i]? = some zs→xs[i]? = some el→LendL Hr zs (mapD el)) (hsz:∀el∈xs,el.length=sz) (h0:0<sz) (hcap:(L.flatten++pad).length=cap*sz) (hle:xs.length≤cap) (hm:cap≤maxLen) :
  Redesc P H (Kf H Hr b (.row e sz cap xs)):=by
 intro F w hh
 obtain ⟨cur,g1,g2,g3⟩:=hh.at_ _ _ hb
 have hsub:∀k x,Hr k=some x→H k=some x:=fun k x hk=>by
  rcases hr k with e | e
  ·rw [e] at hk; cases hk
  ·rw [←e]; exact hk
 have hrel:HRel P F Hr w:=⟨fun k x hk=>hh.at_ k x (hsub k x hk),fun k x hk=>hh.apart k x (hsub k x hk),hh.old⟩
 have hal:∀(i:Nat) zs,L[i]? = some zs→zs.length=sz:=fun i zs ha=>by
  have hi:i<xs.length:=by rw [←hL]; exact (List.getElem?_eq_some_iff.1 ha).1
  rw [(hl i zs xs[i] ha (List.getElem?_eq_getElem hi)).1,Gm,List.length_map]
  exact hsz _ (List.getElem_mem hi)
 have hal':∀zs∈L,zs.length=sz:=fun zs ha=>by
  obtain ⟨i,hi,rfl⟩:=List.getElem_of_mem ha
  exact hal i _ (List.getElem?_eq_getElem hi)
 have key:BR P (fun k=>F k∨Fz Hr k) w b (.row e sz cap xs):=by
  refine ⟨cur,g1,by rw [←g2.1]; exact hcap,hle,hm,h0,hsz,fun i j el c u e1 e2 e3=>?_,g3⟩
  have hi:i<L.length:=by rw [hL]; exact (List.getElem?_eq_some_iff.1 e1).1
  have ha:L[i]? = some L[i]:=List.getElem?_eq_getElem hi
  have hj:j<sz:=by
   have h1:=(List.getElem?_eq_some_iff.1 e2).1
   rw [hsz el (List.mem_of_getElem? e1)] at h1
   exact h1
  have hj':j<(L[i]).length:=by rw [hal i _ ha]; exact hj
  have hv:VR P F w (L[i])[j] u:=by
   refine g2.2 (i*sz+j) _ u ?_ e3
   have hlt:i*sz+j<L.flatten.length:=by
    rw [GP hal']
    have:(i+1)*sz≤L.length*sz:=Nat.mul_le_mul_right _ hi
    rw [Nat.add_mul] at this; omega
   rw [List.getElem?_append_left hlt,IW hal' ha hj]
   exact List.getElem?_eq_getElem hj'
  have hle:=(hl i _ el ha e1).2 j _ (.d c) (List.getElem?_eq_getElem hj') (by rw [Gm,List.getElem?_map,e2]; rfl)
  have:=hle.sound hrel hv
  cases this with
  | d _ _ h=>exact h
 refine ⟨fun k=>F k∨Fz Hr k,⟨fun k x hk=>?_,fun k x hk hf=>?_,fun k hk=>?_⟩,⟨rfl,rfl,rfl,Nat.le_refl _,fun _ _ _=>rfl,fun k hk=>?_,fun _ h=>.inl h,fun k hk=>?_⟩⟩
 ·rw [Hf] at hk
  split at hk
  ·next e=>cases hk; subst e; exact key
  ·split at hk
   ·exact (hh.at_ k x hk).mono rfl (fun _ h=>.inl h) (fun _ _=>rfl)
   ·cases hk
 ·rw [Hf] at hk
  split at hk
  ·next e =>
   subst e
   rcases hf with hf | ⟨t,s,c,y,e⟩
   ·exact hh.apart _ _ hb hf
   ·rw [hrb] at e; cases e
  ·split at hk
   ·next e =>
    rcases hf with hf | ⟨t,s,c,y,e'⟩
    ·exact hh.apart k x hk hf
    ·rw [e] at e'; cases e'
   ·cases hk
 ·rcases hk with hk | ⟨t,s,c,y,e⟩
  ·exact hh.old k hk
  ·exact (hh.at_ k _ (hsub k _ e)).lt
 ·rw [Hf] at hk
  split at hk
  ·next e=>subst e; exact .inl (by rw [hb]; simp)
  ·split at hk
   ·exact .inl hk
   ·exact absurd rfl hk
 ·rcases hk with hk | ⟨t,s,c,y,e⟩
  ·exact .inl hk
  ·exact .inr (.inl (by rw [hsub k _ e]; simp))
theorem Se {l:List AV} {i:Nat} {x:AV} (h:l[i]? = some x):nth l i=x:=by
 have hi:=(List.getElem?_eq_some_iff.1 h).1
 have:=Jj l i hi
 rw [h] at this
 exact (Option.some.inj this).symm
theorem UT {sz i j:Nat} {L:List (List AV)} {pad zs:List AV} (hal:∀zs∈L,zs.length=sz) (ha:L[i]? = some zs) (hj:j<sz):nth (L.flatten++pad) (i*sz+j)=nth zs j:=by
 have hi:=(List.getElem?_eq_some_iff.1 ha).1
 have hs:zs.length=sz:=hal zs (List.mem_of_getElem? ha)
 refine Se ?_
 have hlt:i*sz+j<L.flatten.length:=by
  rw [GP hal]
  have:(i+1)*sz≤L.length*sz:=Nat.mul_le_mul_right _ hi
  rw [Nat.add_mul] at this; omega
 rw [List.getElem?_append_left hlt,IW hal ha hj]
 exact Jj zs j (by omega)
theorem Kc:∀(cs:List AV) (k:Nat) (ns:List AV),(setSeg cs k ns).length=cs.length
 | [],_,_=>by simp [setSeg]
 | c::cs,0,[]=>by simp [setSeg]
 | c::cs,0,n::ns=>by simp [setSeg,Kc cs 0 ns]
 | c::cs,k+1,ns=>by simp [setSeg,Kc cs k ns]
theorem Mx:∀(A B:List AV) (k:Nat) (ns:List AV),setSeg (A++B) (A.length+k) ns=A++setSeg B k ns
 | [],B,k,ns=>by simp
 | a::A,B,k,ns=>by
  rw [List.cons_append,show (a::A).length+k=(A.length+k)+1 by rw [List.length_cons]; omega]
  simp -implicitDefEqProofs only [setSeg,List.cons_append,Mx A B k ns]
theorem Lk:∀(A B:List AV) (k:Nat) (n:AV),k<A.length→setSeg (A++B) k [n]=setSeg A k [n]++B
 | [],B,k,n,h=>by simp at h
 | a::A,B,0,n,h=>by cases A <;> cases B <;> simp [setSeg]
 | a::A,B,k+1,n,h=>by simp -implicitDefEqProofs only [List.cons_append,setSeg,Lk A B k n (by simpa using h)]
theorem MF {sz j:Nat}:∀{L:List (List AV)} {i:Nat} {pad zs:List AV} {n:AV},(∀zs∈L,zs.length=sz)→L[i]? = some zs→j<sz→setSeg (L.flatten++pad) (i*sz+j) [n]=(L.set i (setSeg zs j [n])).flatten++pad
 | [],i,pad,zs,n,_,h,_=>by simp at h
 | x::L,0,pad,zs,n,hs,h,hj=>by
  simp -implicitDefEqProofs only [List.getElem?_cons_zero,Option.some.injEq] at h
  subst h
  rw [Nat.zero_mul,Nat.zero_add,List.flatten_cons,List.append_assoc,Lk _ _ _ _ (by rw [hs x (by simp)]; exact hj)]
  simp
 | x::L,i+1,pad,zs,n,hs,h,hj=>by
  have hx:=hs x (by simp)
  rw [List.flatten_cons,List.append_assoc,show (i+1)*sz+j=x.length+(i*sz+j) by rw [hx,Nat.add_mul]; omega,Mx,MF (fun zs ha=>hs zs (by simp [ha])) (by simpa using h) hj]
  simp
def E1 (r:AV) (sz n:Nat):Prop:=(n=0∧∃q,r = .nilsl q)∨∃b cap,r = .own b sz 0 n cap
def EC (e:TypeId) (r:AV) (xs:List (List D)):List (Nat×Blk):=match r with
 | .own b sz _ _ cap=>[(b,.row e sz cap xs)]
 | _=>[]
theorem Ji {e:TypeId} {b sz off n cap:Nat} {xs:List (List D)}:EC e (.own b sz off n cap) xs=[(b,.row e sz cap xs)]:=rfl
theorem Sx {e:TypeId} {q:Nat} {xs:List (List D)}:EC e (.nilsl q) xs=[]:=rfl
theorem Ju {r:AV} {sz n:Nat} (h:E1 r sz n):GW r=some (i64 n):=by
 rcases h with ⟨rfl,q,rfl⟩ | ⟨b,cap,rfl⟩ <;> rfl
theorem IQ {r:AV} {sz n:Nat} (h:E1 r sz n):EI 1 r=true:=by
 rcases h with ⟨rfl,q,rfl⟩ | ⟨b,cap,rfl⟩ <;> rfl
theorem Hg {r:AV} {sz n:Nat} (h:E1 r sz n):EK r=[r]:=by
 rcases h with ⟨rfl,q,rfl⟩ | ⟨b,cap,rfl⟩ <;> rfl
theorem LF {r:AV} {sz n:Nat} (h:E1 r sz n) (hn:0<n):∃b cap,r = .own b sz 0 n cap:=by
 rcases h with ⟨rfl,q,rfl⟩ | h
 ·omega
 ·exact h
theorem LB {e e':TypeId} {r:AV} {xs ys:List (List D)}:Ae (EC e r xs)=Ae (EC e' r ys):=by cases r <;> rfl
theorem Hy {H:Heap} {e:TypeId} {r:AV} {sz:Nat} {xs:List (List D)} (h:E1 r sz xs.length) (ha:AT H (EC e r xs)):LendV H r (.d (.sl sz xs)):=by
 rcases h with ⟨h0,q,rfl⟩ | ⟨b,cap,rfl⟩
 ·rw [List.eq_nil_of_length_eq_zero h0]; exact .nilsl _ _
 ·exact .own b sz cap e cap xs ha.1
theorem Lc {P:Program} {f:FuncId} {args args':List AV} {e:TypeId} {sz:Nat} {xs:List (List D)} {H:Heap} {K:AV→Heap→Prop} (h:GH P f args' e sz xs) (hl:LendL Heap.none args args')
  (hk:∀r H',E1 r sz xs.length→AT H' (EC e r xs)→(∀l,AT H l→AT H' l)→(∀l,AT H l→(Ae l).Nodup→(Ae (EC e r xs++l)).Nodup)→K r H'):NCallK P f args H K:=by
 refine ⟨args',e,sz,xs,hl,h,fun h0 n=>?_,fun b cap hb=>?_⟩
 ·exact hk _ _ (.inl ⟨by rw [h0]; rfl,n,rfl⟩) trivial (fun _ h=>h) (fun _ _ h=>h)
 ·exact hk _ _ (.inr ⟨b,cap,rfl⟩) ⟨D8,trivial⟩ (fun l h=>GX hb h) (fun l h hn=>I5 (x:=.row e sz cap xs) hb h hn)
theorem KJ {P:Program} {Q:Out→St→Prop} {k:List Item} {s:St} {d:Option Nat} {l:List AO} {f:FuncId} {args args':List AV} {e:TypeId} {sz:Nat} {xs:List (List D)} (h:GH P f args' e sz xs) (hl:LendL Heap.none args args')
  (hk:∀r H',E1 r sz xs.length→AT H' (EC e r xs)→(∀l,AT s.H l→AT H' l)→(∀l,AT s.H l→(Ae l).Nodup→(Ae (EC e r xs++l)).Nodup)→AF P Q l k (AD s d r H')):Mh f args d l k s P Q :=
 Lc (K:=fun v H'=>AF P Q l k (AD s d v H')) h hl hk
theorem Kz {P:Program} {Q:Out→St→Prop} {k:List Item} {s:St} {d:Option Nat} {l:List AO} {f:FuncId} {args args':List AV} {e:TypeId} {sz:Nat} {xs:List (List D)} (h:GH P f args' e sz xs) (hl:LendL Heap.none args args')
  (hk:∀r H',E1 r sz xs.length→AT H' (EC e r xs)→(∀l,AT s.H l→AT H' l)→(∀l,AT s.H l→(Ae l).Nodup→(Ae (EC e r xs++l)).Nodup)→AF P Q l k (AD s d r H')):Gf P Q f args d l k s :=
 NCallK.call (Lc (K:=fun v H'=>AF P Q l k (AD s d v H')) h hl hk)
def EX {α:Type} (f : α→α) (i:Nat) (l:List α):List α:=(l.take i).map f++l.drop i
theorem LA {α:Type} {f : α→α} {l:List α}:EX f 0 l=l:=by simp [EX]
theorem Kt {α:Type} {f : α→α} {l:List α}:EX f l.length l=l.map f:=by simp [EX]
theorem K7 {α:Type} {f : α→α} {i:Nat} {l:List α} (h:i<l.length):(EX f i l)[i]? = some l[i]:=by
 have e:((l.take i).map f).length=i:=by rw [List.length_map,List.length_take]; omega
 rw [EX,List.getElem?_append_right (by omega),e,Nat.sub_self,List.getElem?_drop,Nat.add_zero,List.getElem?_eq_getElem h]
theorem Kl {α:Type} {f : α→α} {i:Nat} {l:List α} (h:i<l.length):(EX f i l).set i (f l[i])=EX f (i+1) l:=by
 have e:((l.take i).map f).length=i:=by rw [List.length_map,List.length_take]; omega
 rw [EX,EX,List.set_append_right _ _ (by omega),e,Nat.sub_self,List.drop_eq_getElem_cons h,List.set_cons_zero,List.take_succ_eq_append_getElem h,List.map_append,List.append_assoc]
 rfl
theorem Pv {xs:List (List D)} (hl:xs.length≤1000000):GH Try.prog OT [.d (.sl 5 xs)] 34 5 xs:=by
 refine D9 XC (by simp) ?_
 simp -implicitDefEqProofs -proj only [go_sem,seval]
 refine Ht ?_ (fun h0=>?_)
 ·simp -implicitDefEqProofs -proj only [go_sem,seval]
  refine FN (fun bs hs=>?_)
  simp -implicitDefEqProofs -proj only [go_sem,seval]
  refine G2 (xs:=[]) (ys:=xs) (cap:=0) (e:=34) (fun K=>rfl) (by simp -implicitDefEqProofs -proj only [go_sem,seval]) rfl rfl (by simp [maxLen]; omega) (fun b' cap' H' h1 h2=>?_)
  simp -implicitDefEqProofs -proj only [go_sem,seval]
  rw [List.nil_append] at h1
  exact .inr ⟨b',cap',rfl,h1⟩
 ·simp -implicitDefEqProofs -proj only [go_sem,seval]
  exact .inl ⟨h0,0,rfl⟩
theorem Un {xs:List (List D)} (hl:xs.length≤1000000):GH Try.prog QL [.d (.sl 10 xs)] 51 10 xs:=by
 refine D9 Td (by simp) ?_
 simp -implicitDefEqProofs -proj only [go_sem,seval]
 refine Ht ?_ (fun h0=>?_)
 ·simp -implicitDefEqProofs -proj only [go_sem,seval]
  refine FN (fun bs hs=>?_)
  simp -implicitDefEqProofs -proj only [go_sem,seval]
  refine G2 (xs:=[]) (ys:=xs) (cap:=0) (e:=51) (fun K=>rfl) (by simp -implicitDefEqProofs -proj only [go_sem,seval]) rfl rfl (by simp [maxLen]; omega) (fun b' cap' H' h1 h2=>?_)
  simp -implicitDefEqProofs -proj only [go_sem,seval]
  rw [List.nil_append] at h1
  exact .inr ⟨b',cap',rfl,h1⟩
 ·simp -implicitDefEqProofs -proj only [go_sem,seval]
  exact .inl ⟨h0,0,rfl⟩
theorem U3 {xs:List (List D)} (hl:xs.length≤1000000):GH Try.prog PS [.d (.sl 16 xs)] 55 16 xs:=by
 refine D9 OF (by simp) ?_
 simp -implicitDefEqProofs -proj only [go_sem,seval]
 refine Ht ?_ (fun h0=>?_)
 ·simp -implicitDefEqProofs -proj only [go_sem,seval]
  refine FN (fun bs hs=>?_)
  simp -implicitDefEqProofs -proj only [go_sem,seval]
  refine G2 (xs:=[]) (ys:=xs) (cap:=0) (e:=55) (fun K=>rfl) (by simp -implicitDefEqProofs -proj only [go_sem,seval]) rfl rfl (by simp [maxLen]; omega) (fun b' cap' H' h1 h2=>?_)
  simp -implicitDefEqProofs -proj only [go_sem,seval]
  rw [List.nil_append] at h1
  exact .inr ⟨b',cap',rfl,h1⟩
 ·simp -implicitDefEqProofs -proj only [go_sem,seval]
  exact .inl ⟨h0,0,rfl⟩
theorem Rj {xs:List (List D)} (hl:xs.length≤1000000):GH Try.prog XA [.d (.sl 2 xs)] 58 2 xs:=by
 refine D9 Rb (by simp) ?_
 simp -implicitDefEqProofs -proj only [go_sem,seval]
 refine Ht ?_ (fun h0=>?_)
 ·simp -implicitDefEqProofs -proj only [go_sem,seval]
  refine FN (fun bs hs=>?_)
  simp -implicitDefEqProofs -proj only [go_sem,seval]
  refine G2 (xs:=[]) (ys:=xs) (cap:=0) (e:=58) (fun K=>rfl) (by simp -implicitDefEqProofs -proj only [go_sem,seval]) rfl rfl (by simp [maxLen]; omega) (fun b' cap' H' h1 h2=>?_)
  simp -implicitDefEqProofs -proj only [go_sem,seval]
  rw [List.nil_append] at h1
  exact .inr ⟨b',cap',rfl,h1⟩
 ·simp -implicitDefEqProofs -proj only [go_sem,seval]
  exact .inl ⟨h0,0,rfl⟩
theorem PD {xs:List (List D)} (hl:xs.length≤1000000):GH Try.prog SB [.d (.sl 3 xs)] 60 3 xs:=by
 refine D9 SG (by simp) ?_
 simp -implicitDefEqProofs -proj only [go_sem,seval]
 refine Ht ?_ (fun h0=>?_)
 ·simp -implicitDefEqProofs -proj only [go_sem,seval]
  refine FN (fun bs hs=>?_)
  simp -implicitDefEqProofs -proj only [go_sem,seval]
  refine G2 (xs:=[]) (ys:=xs) (cap:=0) (e:=60) (fun K=>rfl) (by simp -implicitDefEqProofs -proj only [go_sem,seval]) rfl rfl (by simp [maxLen]; omega) (fun b' cap' H' h1 h2=>?_)
  simp -implicitDefEqProofs -proj only [go_sem,seval]
  rw [List.nil_append] at h1
  exact .inr ⟨b',cap',rfl,h1⟩
 ·simp -implicitDefEqProofs -proj only [go_sem,seval]
  exact .inl ⟨h0,0,rfl⟩
def MeterX.pl (m:MeterX):MeterX:=⟨m.nm,m.un,m.mx,0,0⟩
def FeeX.pl (x:FeeX):FeeX:=⟨x.am,x.w,0,0⟩
def ChX.pl (x:ChX):ChX:=⟨x.me,x.w,x.al,x.bl,x.ki,x.ts,x.mo,x.ad,0,0⟩
def PlanX.pl (p:PlanX):PlanX:=⟨p.nm,p.cu,p.f,p.t,p.ms.map MeterX.pl,p.fs.map FeeX.pl,p.cs.map ChX.pl,0,0⟩
abbrev HG (x:ChX) (t a:AV) (ln co:Int):List AV:=[.d (.str x.me),bv x.w.has,i64 x.w.f.y,i64 x.w.f.m,i64 x.w.f.d,i64 x.w.t.y,i64 x.w.t.m,i64 x.w.t.d,i64 x.al,i64 x.bl,i64 x.ki,t,i64 x.mo,a,i64 ln,i64 co]
structure PlanX.Sm (p:PlanX):Prop where
 m:p.ms.length≤1000000
 f:p.fs.length≤1000000
 c:p.cs.length≤1000000
 ta:∀x∈p.cs,x.ts.length≤1000000∧x.ad.length≤1000000
abbrev Gc:List AV:=[.d (.str ⟨⟨[]⟩⟩),.d (.str ⟨⟨[]⟩⟩),i64 0,i64 0,i64 0,i64 0,i64 0,i64 0,.nilsl 5,.nilsl 10,.nilsl 16,i64 0,i64 0]
abbrev Et (b1 b2:Nat) (p:PlanX) (m f c:AV) (M:List MeterX) (F:List FeeX):List (Nat×Blk) :=
 EC 55 c (ET p.cs)++(EC 51 f (EQ F)++(EC 34 m (EO M)++[(b2,.box 28 Gc),(b1,.box 28 (FG p.nm p.cu p.f p.t m f c 0 0))]))
theorem HT {H:Heap} {A B:List (Nat×Blk)} {b:Nat} {x y:Blk} (h:AT H (A++(b,x)::B)) (hn:(Ae (A++(b,x)::B)).Nodup):AT (AH H b (some y)) (A++(b,y)::B):=by
 rw [ED] at h ⊢
 simp -implicitDefEqProofs only [Ae,List.map_append,List.map_cons,List.nodup_append,List.nodup_cons] at hn
 obtain ⟨_,⟨h2,_⟩,h3⟩:=hn
 refine ⟨FO.2 fun q hq=>?_,D8,FO.2 fun q hq=>?_⟩
 ·rw [Ap (fun e=>h3 q.1 (List.mem_map.2 ⟨q,hq,rfl⟩) b (by simp) e.symm)]
  exact FO.1 h.1 q hq
 ·rw [Ap (fun e=>h2 (by rw [e]; exact List.mem_map.2 ⟨q,hq,rfl⟩))]
  exact FO.1 h.2.2 q hq
theorem Pb {H:Heap} {A:List (Nat×Blk)} {b:Nat} {x y:Blk} (h:AT H (A++[(b,x)])) (hn:(Ae (A++[(b,x)])).Nodup):AT (AH H b (some y)) (A++[(b,y)]):=HT h hn
theorem M5 {b1 b2:Nat} {p:PlanX} {m f c:AV} {M M':List MeterX} {F F':List FeeX}:Ae (Et b1 b2 p m f c M F)=Ae (Et b1 b2 p m f c M' F'):=by
 simp -implicitDefEqProofs only [Ae,List.map_append]
 have e1:=LB (e:=51) (e':=51) (r:=f) (xs:=EQ F) (ys:=EQ F')
 have e2:=LB (e:=34) (e':=34) (r:=m) (xs:=EO M) (ys:=EO M')
 simp -implicitDefEqProofs only [Ae] at e1 e2
 rw [e1,e2]
theorem XW {H:Heap} {b1 b2 bm off n capm:Nat} {p:PlanX} {f c:AV} {M M':List MeterX} {F:List FeeX} (h:AT H (Et b1 b2 p (.own bm 5 off n capm) f c M F)) (hn:(Ae (Et b1 b2 p (.own bm 5 off n capm) f c M F)).Nodup):AT (AH H bm (some (.row 34 5 capm (EO M')))) (Et b1 b2 p (.own bm 5 off n capm) f c M' F):=by
 simp -implicitDefEqProofs only [Et,Ji,←List.append_assoc] at h hn ⊢
 simp -implicitDefEqProofs only [List.append_assoc,List.cons_append,List.nil_append] at h hn ⊢
 rw [←List.append_assoc] at h hn ⊢
 exact HT h hn
theorem S6 {H:Heap} {b1 b2 bm off n capm:Nat} {p:PlanX} {m c:AV} {M:List MeterX} {F F':List FeeX} (h:AT H (Et b1 b2 p m (.own bm 10 off n capm) c M F)) (hn:(Ae (Et b1 b2 p m (.own bm 10 off n capm) c M F)).Nodup):AT (AH H bm (some (.row 51 10 capm (EQ F')))) (Et b1 b2 p m (.own bm 10 off n capm) c M F'):=by
 simp -implicitDefEqProofs only [Et,Ji,List.cons_append,List.nil_append] at h hn ⊢
 exact HT h hn
theorem W7 {ms:List MeterX} {i:Nat} (h:i<ms.length):(EO (EX MeterX.pl i ms))[i]? = some (ms[i]).el:=by
 rw [EO,List.getElem?_map,K7 h]; rfl
theorem Nm {ms:List MeterX} {i:Nat} (h:i<ms.length):(EO (EX MeterX.pl i ms)).set i ((ms[i]).pl).el=EO (EX MeterX.pl (i+1) ms):=by
 rw [←Kl h,EO,EO,List.map_set]
theorem Qz {ms:List FeeX} {i:Nat} (h:i<ms.length):(EQ (EX FeeX.pl i ms))[i]? = some (ms[i]).el:=by
 rw [EQ,List.getElem?_map,K7 h]; rfl
theorem UM {ms:List FeeX} {i:Nat} (h:i<ms.length):(EQ (EX FeeX.pl i ms)).set i ((ms[i]).pl).el=EQ (EX FeeX.pl (i+1) ms):=by
 rw [←Kl h,EQ,EQ,List.map_set]
def EZ:List ChX→List (AV×AV)→List (List AV)
 | [],_=>[]
 | x::cs,q::P=>HG x q.1 q.2 0 0::EZ cs P
 | x::cs,[]=>HG x (.d (.sl 2 (Ev x.ts))) (.d (.sl 3 (Ez x.ad))) x.ln x.co::EZ cs []
def Ej:List ChX→List (AV×AV)→List (Nat×Blk)
 | x::cs,q::P=>(EC 58 q.1 (Ev x.ts)++EC 60 q.2 (Ez x.ad))++Ej cs P
 | _,_=>[]
def GB:List ChX→List (AV×AV)→Prop
 | x::cs,q::P=>E1 q.1 2 x.ts.length∧E1 q.2 3 x.ad.length∧GB cs P
 | _,[]=>True
 | [],_=>False
theorem HX:∀{cs:List ChX} {P:List (AV×AV)},(EZ cs P).length=cs.length
 | [],_=>rfl
 | x::cs,q::P=>by simp [EZ,HX (cs:=cs) (P:=P)]
 | x::cs,[]=>by simp [EZ,HX (cs:=cs) (P:=[])]
theorem HJ:∀{cs:List ChX} {P:List (AV×AV)},∀u∈EZ cs P,u.length=16
 | [],_,_,h=>by simp [EZ] at h
 | x::cs,q::P,u,h=>by
  rcases List.mem_cons.1 h with rfl | h
  ·rfl
  ·exact HJ u h
 | x::cs,[],u,h=>by
  rcases List.mem_cons.1 h with rfl | h
  ·rfl
  ·exact HJ u h
theorem KI {cs:List ChX}:Ej cs []=[]:=by cases cs <;> rfl
theorem Mq {cs:List ChX}:GB cs []:=by cases cs <;> trivial
theorem Mp:∀{cs:List ChX} {P:List (AV×AV)} (h:P.length<cs.length),(EZ cs P)[P.length]? = some (HG cs[P.length] (.d (.sl 2 (Ev cs[P.length].ts))) (.d (.sl 3 (Ez cs[P.length].ad))) cs[P.length].ln cs[P.length].co)
 | x::cs,[],_=>rfl
 | x::cs,q::P,h=>by
  have h':P.length<cs.length:=by simpa using h
  simpa [EZ] using Mp h'
theorem Mj:∀{cs:List ChX} {P:List (AV×AV)} (h:P.length<cs.length) (q:AV×AV),(EZ cs P).set P.length (HG cs[P.length] q.1 q.2 0 0)=EZ cs (P++[q])
 | x::cs,[],_,q=>rfl
 | x::cs,r::P,h,q=>by
  have h':P.length<cs.length:=by simpa using h
  simpa [EZ] using Mj h' q
theorem Le:∀{cs:List ChX} {P:List (AV×AV)} (h:P.length<cs.length) (q:AV×AV),Ej cs (P++[q])=Ej cs P++(EC 58 q.1 (Ev cs[P.length].ts)++EC 60 q.2 (Ez cs[P.length].ad))
 | x::cs,[],_,q=>by cases cs <;> simp [Ej]
 | x::cs,r::P,h,q=>by
  have h':P.length<cs.length:=by simpa using h
  simp [Ej,Le h' q]
theorem Lg:∀{cs:List ChX} {P:List (AV×AV)} (h:P.length<cs.length) {q:AV×AV},GB cs P→E1 q.1 2 cs[P.length].ts.length→E1 q.2 3 cs[P.length].ad.length→GB cs (P++[q])
 | x::cs,[],_,q,_,h1,h2=>⟨h1,h2,by cases cs <;> trivial⟩
 | x::cs,r::P,h,q,h0,h1,h2=>⟨h0.1,h0.2.1,Lg (by simpa using h) h0.2.2 h1 h2⟩
theorem Uh {cs:List ChX}:(ET cs).map mapD=EZ cs []:=by
 induction cs with
 | nil=>rfl
 | cons x cs ih =>
  simp -implicitDefEqProofs only [ET,List.map_cons,EZ] at ih ⊢
  rw [ih]; rfl
abbrev JC (b1 b2:Nat) (p:PlanX) (m f c:AV):List (Nat×Blk) :=
 EC 51 f (EQ (p.fs.map FeeX.pl))++(EC 34 m (EO (p.ms.map MeterX.pl))++[(b2,.box 28 Gc),(b1,.box 28 (FG p.nm p.cu p.f p.t m f c 0 0))])
abbrev F5 (b1 b2 cc:Nat) (p:PlanX) (m f c:AV) (P:List (AV×AV)) (pad:List AV):List (Nat×Blk) :=
 Ej p.cs P++((cc,.box 55 ((EZ p.cs P).flatten++pad))::JC b1 b2 p m f c)
theorem JJ {P:Program} {Q:Out→St→Prop} {k:List Item} {s:St} {d:Option Nat} {l:List AO} {v:AV} {cc i j:Nat} {T:TypeId} {L:List (List AV)} {pad seg seg':List AV} (hb:s.H cc=some (.box T (L.flatten++pad))) (hal:∀u∈L,u.length=16) (hg:L[i]? = some seg) (hj:j<16) (hv:EK v=[v]) (hs:setSeg seg j [v]=seg')
  (hk:∀L',L'[i]? = some seg'→(∀u∈L',u.length=16)→L'=L.set i seg'→AF P Q l k (AD s d .void (AH s.H cc (some (.box T (L'.flatten++pad)))))):HB 1 v cc 16 i j d l k s P Q:=by
 have hi:=(List.getElem?_eq_some_iff.1 hg).1
 have hsl:seg.length=16:=hal seg (List.mem_of_getElem? hg)
 refine NW hb ?_ ?_
 ·rw [Ff,List.length_append,GP hal]
  have:(i+1)*16≤L.length*16:=Nat.mul_le_mul_right _ hi
  omega
 ·rw [hv,MF hal hg hj,hs]
  refine hk _ (by simp [hi]) (fun u hu=>?_) rfl
  rcases List.mem_or_eq_of_mem_set hu with h | rfl
  ·exact hal u h
  ·rw [←hs,Kc,hsl]
theorem LO {P:Program} {Q:Out→St→Prop} {k:List Item} {s:St} {d:Option Nat} {l:List AO} {i j:Nat} {T:TypeId} {L:List (List AV)} {pad seg:List AV} (hal:∀u∈L,u.length=16) (hg:L[i]? = some seg) (hj:j<16) (hk:AF P Q l k (AD s d (nth seg j) s.H)):HO none (some (.box T (L.flatten++pad))) 16 i j d l k s P Q:=by
 have hi:=(List.getElem?_eq_some_iff.1 hg).1
 refine VQ ?_ ?_
 ·rw [Ff,List.length_append,GP hal]
  have:(i+1)*16≤L.length*16:=Nat.mul_le_mul_right _ hi
  omega
 ·rw [UT hal hg hj]; exact hk
theorem NJ {α:Type} {a t i r:List α}:(a++(t++(i++r))).Perm ((i++(t++a))++r):=by
 rw [←List.append_assoc,←List.append_assoc]
 exact (List.perm_append_comm.trans (List.perm_append_comm.append_left i)).append_right r
theorem L6 {H:Heap} {A:List (Nat×Blk)} {b1 b2:Nat} {x y:Blk} {z:Option Blk} (h:AT H (A++[(b2,x),(b1,y)])) (hn:(Ae (A++[(b2,x),(b1,y)])).Nodup):AT (AH H b2 z) A∧(Ae A).Nodup:=by
 rw [ED] at h
 simp -implicitDefEqProofs only [Ae,List.map_append] at hn ⊢
 have hn:=List.nodup_append.1 hn
 refine ⟨FO.2 fun q hq=>?_,hn.1⟩
 rw [Ap (fun e=>hn.2.2 q.1 (List.mem_map.2 ⟨q,hq,rfl⟩) b2 (by simp) e.symm)]
 exact FO.1 h.1 q hq
def GY (c:AV) (cells:List AV):List (Nat×Blk):=match c with
 | .own b _ _ _ _=>[(b,.box 55 cells)]
 | _=>[]
def MT (c:AV) (n:Nat) (cells:List AV):Prop:=(n=0∧∃q,c = .nilsl q)∨∃b cap,c = .own b 16 0 n cap∧cells.length=cap*16∧n≤cap∧cap≤maxLen
abbrev HL (p:PlanX) (m f c:AV) (P:List (AV×AV)) (pad:List AV):List (Nat×Blk) :=
 Ej p.cs P++(GY c ((EZ p.cs P).flatten++pad)++(EC 51 f (EQ (p.fs.map FeeX.pl))++EC 34 m (EO (p.ms.map MeterX.pl))))
structure DeepP (p:PlanX) (m f c:AV) (P:List (AV×AV)) (pad:List AV) (H':Heap):Prop where
 hm:E1 m 5 p.ms.length
 hf:E1 f 10 p.fs.length
 hc:MT c p.cs.length ((EZ p.cs P).flatten++pad)
 n:P.length=p.cs.length
 ok:GB p.cs P
 all:AT H' (HL p m f c P pad)
 nd:(Ae (HL p m f c P pad)).Nodup
theorem PT {p:PlanX} (hp:p.Sm):CallW Try.prog Jz [FS p] Heap.none fun r H'=>∃m f c P pad,r = .agg (FG p.nm p.cu p.f p.t m f c 0 0)∧DeepP p m f c P pad H':=by
 refine D9 W0 (by simp) ?_
 simp -implicitDefEqProofs -proj only [go_sem,seval]
 refine D4 (fun b1 hb1=>?_)
 simp -implicitDefEqProofs -proj only [go_sem,seval]
 refine D4 (fun b2 hb2=>?_)
 replace hb2:AH Heap.none b1 (some (.box 28 p.cells)) b2=none:=hb2
 obtain ⟨n1,n2⟩:=EA hb2 D8
 simp -implicitDefEqProofs -proj only [go_sem,seval,n1,n2]
 have z1:=hp.m
 have z2:=hp.f
 have z3:=hp.c
 refine KJ (Pv (by rw [E8]; exact z1)) (LendL.refl _) (fun m H1 hm r1 u1 w1=>?_)
 rw [E8] at hm
 have a1:=u1 [(b2,.box 28 Gc),(b1,.box 28 (FG p.nm p.cu p.f p.t (.d (.sl 5 (EO p.ms))) (.d (.sl 10 (EQ p.fs))) (.d (.sl 16 (ET p.cs))) 0 0))] ⟨(Ap n2).trans D8,D8,trivial⟩
 have k1:=w1 [(b2,.box 28 Gc),(b1,.box 28 (FG p.nm p.cu p.f p.t (.d (.sl 5 (EO p.ms))) (.d (.sl 10 (EQ p.fs))) (.d (.sl 16 (ET p.cs))) 0 0))] ⟨(Ap n2).trans D8,D8,trivial⟩ (by simp [Ae]; exact n1)
 have a1:=ED.2 ⟨r1,a1⟩
 clear u1 w1 r1
 simp -implicitDefEqProofs -proj only [go_sem,seval]
 refine KJ (Un (by rw [FA]; exact z2)) (LendL.refl _) (fun f H2 hf r2 u2 w2=>?_)
 rw [FA] at hf
 have a2:=ED.2 ⟨r2,u2 _ a1⟩
 have k2:=w2 _ a1 k1
 clear u2 w2 r2 a1 k1
 simp -implicitDefEqProofs -proj only [go_sem,seval]
 refine Kz (U3 (by rw [En]; exact z3)) (LendL.refl _) (fun c H3 hc r3 u3 w3=>?_)
 rw [En] at hc
 have a3:=ED.2 ⟨r3,u3 _ a2⟩
 have k3:=w3 _ a2 k2
 clear u3 w3 r3 a2 k2
 have g1:H3 b1=some (.box 28 (FG p.nm p.cu p.f p.t (.d (.sl 5 (EO p.ms))) (.d (.sl 10 (EQ p.fs))) (.d (.sl 16 (ET p.cs))) 0 0)):=(ED.1 (ED.1 (ED.1 a3).2).2).2.2.1
 simp -implicitDefEqProofs -proj only [go_sem,seval,g1,IQ hm,Hg hm,IQ hf,Hg hf,IQ hc,Hg hc,Ju hm]
 have e1:∀x y:Blk,EC 55 c (ET p.cs)++(EC 51 f (EQ p.fs)++(EC 34 m (EO p.ms)++[(b2,x),(b1,y)]))=(EC 55 c (ET p.cs)++(EC 51 f (EQ p.fs)++(EC 34 m (EO p.ms)++[(b2,x)])))++[(b1,y)]:=fun x y=>by simp -implicitDefEqProofs only [List.append_assoc,List.cons_append,List.nil_append]
 rw [e1] at a3 k3
 have a4:=Pb (y:=.box 28 (FG p.nm p.cu p.f p.t m f c 0 0)) a3 k3
 have k4:(Ae (Et b1 b2 p m f c p.ms p.fs)).Nodup:=by
  simp -implicitDefEqProofs only [Ae,List.map_append,List.map_cons,List.map_nil] at k3 ⊢
  simpa using k3
 rw [←e1] at a4
 clear e1 a3 k3 g1 n1 n2 hb1 hb2
 refine EY (fun i:Nat=>i≤p.ms.length) 89 (fun i=>[(1,.ptr b1 0),(2,.ptr b2 0),(23,i64 p.ms.length),(24,i64 i)]) (fun i=>Et b1 b2 p m f c (EX MeterX.pl i p.ms) p.fs) (fun i=>p.ms.length-i) 0 (Nat.zero_le _) rfl ?_ ?_ ?_
 ·simp -implicitDefEqProofs -proj only [go_sem,seval,Ai]
 ·rw [LA]; exact a4
 clear a4
 intro i hi
 have kn:(Ae (Et b1 b2 p m f c (EX MeterX.pl i p.ms) p.fs)).Nodup:=by rw [M5]; exact k4
 have hall:=Eu kn
 obtain ⟨H,hH⟩:∃H,D6 (Et b1 b2 p m f c (EX MeterX.pl i p.ms) p.fs)=H:=⟨_,rfl⟩
 rw [hH] at hall
 have g1:H b1=some (.box 28 (FG p.nm p.cu p.f p.t m f c 0 0)):=(ED.1 (ED.1 (ED.1 hall).2).2).2.2.1
 by_cases h:i<p.ms.length
 ·obtain ⟨bm,capm,rfl⟩:=LF hm (by omega)
  have q1:=W7 h
  have q2:=Nm h
  have gm:H bm=some (.row 34 5 capm (EO (EX MeterX.pl i p.ms))):=(ED.1 (ED.1 (ED.1 hall).2).2).1.1
  generalize p.ms[i]=x at *
  obtain ⟨R,hR⟩:∃R,EO (EX MeterX.pl i p.ms)=R:=⟨_,rfl⟩
  rw [hR] at gm q1 q2
  have nm1:¬bm=b1:=fun e=>by rw [e,g1] at gm; cases gm
  simp -implicitDefEqProofs -proj only [go_sem,seval,hH,g1,decide_eq_true (show (i:Int)<p.ms.length by omega)]
  refine F4 (by omega) (fun _=>?_)
  refine Me gm (by simpa using q1) (by simp [MeterX.el]) ?_
  simp -implicitDefEqProofs -proj only [go_sem,seval]
  refine F4 (by omega) (fun _=>?_)
  have hl:i<R.length:=(List.getElem?_eq_some_iff.1 q1).1
  simp -implicitDefEqProofs only [Int.toNat_natCast]
  refine I8 (cap:=capm) (t:=34) (xs:=R.set i [.str x.nm,.str x.un,.int .i64 x.mx,.int .i64 0,.int .i64 x.co]) (el:=[.str x.nm,.str x.un,.int .i64 x.mx,.int .i64 0,.int .i64 x.co]) D8 (by simp [hl]) (by simp) ?_
  simp -implicitDefEqProofs -proj only [go_sem,seval,List.set_set]
  refine Ed (i+1) (by omega) (by omega) rfl ?_ ?_
  ·simp -implicitDefEqProofs -proj only [go_sem,seval,Ai,Es (show i<9223372036854775807 by omega)]
  ·have e:R.set i (E6 [.str x.nm,.str x.un,.int .i64 x.mx,.int .i64 0,.int .i64 x.co] 4 [.int .i64 0])=EO (EX MeterX.pl (i+1) p.ms):=q2
   have hk:=XW (M':=EX MeterX.pl (i+1) p.ms) hall kn
   rw [←e] at hk
   exact hk
 have hi':i=p.ms.length:=by omega
 subst hi'
 clear h hi k4
 simp -implicitDefEqProofs -proj only [go_sem,seval,hH,g1,Ju hf,decide_eq_false (show ¬(p.ms.length:Int)<p.ms.length by omega)]
 rw [Kt] at hall kn
 clear hH g1
 refine EY (fun i:Nat=>i≤p.fs.length) 89 (fun i=>[(1,.ptr b1 0),(2,.ptr b2 0),(40,i64 p.fs.length),(41,i64 i)]) (fun i=>Et b1 b2 p m f c (p.ms.map MeterX.pl) (EX FeeX.pl i p.fs)) (fun i=>p.fs.length-i) 0 (Nat.zero_le _) rfl ?_ ?_ ?_
 ·simp -implicitDefEqProofs -proj only [go_sem,seval,Ai]
 ·rw [LA]; exact hall
 clear hall H
 intro i hi
 have k4:=kn
 rw [M5 (M':=p.ms.map MeterX.pl) (F':=EX FeeX.pl i p.fs)] at kn
 have hall:=Eu kn
 obtain ⟨H,hH⟩:∃H,D6 (Et b1 b2 p m f c (p.ms.map MeterX.pl) (EX FeeX.pl i p.fs))=H:=⟨_,rfl⟩
 rw [hH] at hall
 have g1:H b1=some (.box 28 (FG p.nm p.cu p.f p.t m f c 0 0)):=(ED.1 (ED.1 (ED.1 hall).2).2).2.2.1
 by_cases h:i<p.fs.length
 ·obtain ⟨bm,capm,rfl⟩:=LF hf (by omega)
  have q1:=Qz h
  have q2:=UM h
  have gm:H bm=some (.row 51 10 capm (EQ (EX FeeX.pl i p.fs))):=(ED.1 (ED.1 hall).2).1.1
  generalize p.fs[i]=x at *
  obtain ⟨R,hR⟩:∃R,EQ (EX FeeX.pl i p.fs)=R:=⟨_,rfl⟩
  rw [hR] at gm q1 q2
  have nm1:¬bm=b1:=fun e=>by rw [e,g1] at gm; cases gm
  simp -implicitDefEqProofs -proj only [go_sem,seval,hH,g1,decide_eq_true (show (i:Int)<p.fs.length by omega)]
  refine F4 (by omega) (fun _=>?_)
  refine Me gm (by simpa using q1) (by simp) ?_
  simp -implicitDefEqProofs -proj only [go_sem,seval]
  refine F4 (by omega) (fun _=>?_)
  have hl:i<R.length:=(List.getElem?_eq_some_iff.1 q1).1
  simp -implicitDefEqProofs only [Int.toNat_natCast]
  refine I8 (cap:=capm) (t:=51) (xs:=R.set i (FeeX.el ⟨x.am,x.w,0,x.co⟩)) (el:=FeeX.el ⟨x.am,x.w,0,x.co⟩) D8 (by simp [hl]) (by simp) ?_
  simp -implicitDefEqProofs -proj only [go_sem,seval,List.set_set]
  refine Ed (i+1) (by omega) (by omega) rfl ?_ ?_
  ·simp -implicitDefEqProofs -proj only [go_sem,seval,Ai,Es (show i<9223372036854775807 by omega)]
  ·have e:R.set i (E6 (FeeX.el ⟨x.am,x.w,0,x.co⟩) 9 [.int .i64 0])=EQ (EX FeeX.pl (i+1) p.fs):=q2
   have hk:=S6 (F':=EX FeeX.pl (i+1) p.fs) hall kn
   rw [←e] at hk
   exact hk
 have hi':i=p.fs.length:=by omega
 subst hi'
 clear h hi k4
 simp -implicitDefEqProofs -proj only [go_sem,seval,hH,g1,Ju hc,decide_eq_false (show ¬(p.fs.length:Int)<p.fs.length by omega)]
 rw [Kt] at hall kn
 clear hH
 rcases hc with ⟨h0,qn,rfl⟩ | ⟨cc,capc,rfl⟩
 ·have h0':p.cs=[]:=List.eq_nil_of_length_eq_zero h0
  refine EY (fun i:Nat=>i=0) 89 (fun i=>[(1,.ptr b1 0),(2,.ptr b2 0),(57,i64 0),(58,i64 0)]) (fun i=>Et b1 b2 p m f (.nilsl qn) (p.ms.map MeterX.pl) (p.fs.map FeeX.pl)) (fun i=>i) 0 rfl rfl ?_ hall ?_
  ·simp -implicitDefEqProofs -proj only [go_sem,seval,Ai,h0]
  clear hall g1 H
  rintro i rfl
  have hall:=Eu kn
  obtain ⟨H,hH⟩:∃H,D6 (Et b1 b2 p m f (.nilsl qn) (p.ms.map MeterX.pl) (p.fs.map FeeX.pl))=H:=⟨_,rfl⟩
  rw [hH] at hall
  have g1:H b1=some (.box 28 (FG p.nm p.cu p.f p.t m f (.nilsl qn) 0 0)):=(ED.1 (ED.1 (ED.1 hall).2).2).2.2.1
  have g2:H b2=some (.box 28 Gc):=(ED.1 (ED.1 (ED.1 hall).2).2).2.1
  simp -implicitDefEqProofs -proj only [go_sem,seval,hH,g1,g2]
  have e6:Et b1 b2 p m f (.nilsl qn) (p.ms.map MeterX.pl) (p.fs.map FeeX.pl)=HL p m f (.nilsl qn) [] []++[(b2,.box 28 Gc),(b1,.box 28 (FG p.nm p.cu p.f p.t m f (.nilsl qn) 0 0))]:=by
   simp -implicitDefEqProofs only [Et,HL,KI,GY,Sx,List.nil_append,List.append_assoc]
  rw [e6] at hall kn
  obtain ⟨e7,e8⟩:=L6 hall kn
  exact ⟨m,f,.nilsl qn,[],[],rfl,hm,hf,.inl ⟨h0,qn,rfl⟩,by rw [h0]; rfl,Mq,e7,e8⟩
 ·have gc:H cc=some (.row 55 16 capc (ET p.cs)):=(ED.1 hall).1.1
  refine OO gc (fun hcc=>?_)
  refine Redesc.loop (OB gc) ?_
  rw [Hx,Uh,En]
  obtain ⟨pad,hpad⟩:∃pad,List.replicate (capc*16-p.cs.length*16) AV.undef=pad:=⟨_,rfl⟩
  rw [hpad]
  have hcs:((EZ p.cs []).flatten++pad).length=capc*16:=by
   have h1:p.cs.length*16≤capc*16:=Nat.mul_le_mul_right _ (by rw [En] at hcc; exact hcc.1)
   rw [List.length_append,GP HJ,HX,←hpad,List.length_replicate]; omega
  have a5:AT (AH H cc (some (.box 55 ((EZ p.cs []).flatten++pad)))) (F5 b1 b2 cc p m f (.own cc 16 0 p.cs.length capc) [] pad):=by
   have:=HT (A:=[]) (y:=.box 55 ((EZ p.cs []).flatten++pad)) hall kn
   simp -implicitDefEqProofs only [F5,KI,List.nil_append] at this ⊢
   exact this
  have k5:(Ae (F5 b1 b2 cc p m f (.own cc 16 0 p.cs.length capc) [] pad)).Nodup:=by
   have e:Ae (F5 b1 b2 cc p m f (.own cc 16 0 p.cs.length capc) [] pad)=Ae (Et b1 b2 p m f (.own cc 16 0 p.cs.length capc) (p.ms.map MeterX.pl) (p.fs.map FeeX.pl)):=by
    simp -implicitDefEqProofs only [F5,KI,List.nil_append]; rfl
   rw [e]; exact kn
  clear hpad gc hall kn g1
  refine EY (fun P:List (AV×AV)=>P.length≤p.cs.length∧GB p.cs P∧(Ae (F5 b1 b2 cc p m f (.own cc 16 0 p.cs.length capc) P pad)).Nodup) 89 (fun P=>[(1,.ptr b1 0),(2,.ptr b2 0),(57,i64 p.cs.length),(58,i64 P.length)]) (fun P=>F5 b1 b2 cc p m f (.own cc 16 0 p.cs.length capc) P pad) (fun P=>p.cs.length-P.length) [] ⟨Nat.zero_le _,Mq,k5⟩ rfl ?_ a5 ?_
  ·simp -implicitDefEqProofs -proj only [go_sem,seval,Ai]
  clear a5 k5
  rintro P ⟨hi,hP,kn⟩
  have hall:=Eu kn
  obtain ⟨H,hH⟩:∃H,D6 (F5 b1 b2 cc p m f (.own cc 16 0 p.cs.length capc) P pad)=H:=⟨_,rfl⟩
  rw [hH] at hall
  have g1:H b1=some (.box 28 (FG p.nm p.cu p.f p.t m f (.own cc 16 0 p.cs.length capc) 0 0)):=(ED.1 (ED.1 (ED.1 hall).2.2).2).2.2.1
  have gc:H cc=some (.box 55 ((EZ p.cs P).flatten++pad)):=(ED.1 hall).2.1
  by_cases h:P.length<p.cs.length
  ·have q1:=Mp h
   have q2:=Mj h
   have q3:=Le h
   have q4:=fun {q:AV×AV}=>Lg (q:=q) h hP
   have hal:=HJ (cs:=p.cs) (P:=P)
   have hlt:=hp.ta _ (List.getElem_mem h)
   have hlL:(EZ p.cs P).length=p.cs.length:=HX
   generalize p.cs[P.length]=x at *
   obtain ⟨L,hL⟩:∃L,EZ p.cs P=L:=⟨_,rfl⟩
   rw [hL] at gc q1 q2 hal hlL
   simp -implicitDefEqProofs -proj only [go_sem,seval,hH,g1,decide_eq_true (show (P.length:Int)<p.cs.length by omega)]
   refine F4 (by omega) (fun _=>?_)
   simp -implicitDefEqProofs only [Int.toNat_natCast]
   refine JJ gc hal q1 (by decide) rfl rfl (fun L1 s1 hal1 e1=>?_)
   simp -implicitDefEqProofs -proj only [go_sem,seval]
   refine JJ D8 hal1 s1 (by decide) rfl rfl (fun L2 s2 hal2 e2=>?_)
   simp -implicitDefEqProofs -proj only [go_sem,seval]
   rw [e1,List.set_set] at e2
   clear e1 s1 hal1
   have a2:=HT (y:=.box 55 (L2.flatten++pad)) hall kn
   have k2:(Ae (Ej p.cs P++(cc,.box 55 (L2.flatten++pad))::JC b1 b2 p m f (.own cc 16 0 p.cs.length capc))).Nodup:=by
    simp -implicitDefEqProofs only [Ae,List.map_append,List.map_cons] at kn ⊢; exact kn
   refine LO hal2 s2 (by decide) ?_
   simp -implicitDefEqProofs -proj only [go_sem,seval]
   refine LO hal2 s2 (by decide) ?_
   simp -implicitDefEqProofs -proj only [go_sem,seval]
   refine KJ (Rj (xs:=Ev x.ts) (by rw [Fx]; exact hlt.1)) (LendL.refl _) (fun t H3 ht r1 u1 w1=>?_)
   rw [Fx] at ht
   replace u1:∀l,AT (AH H cc (some (.box 55 (L2.flatten++pad)))) l→AT H3 l:=u1
   replace w1:∀l,AT (AH H cc (some (.box 55 (L2.flatten++pad)))) l→(Ae l).Nodup→(Ae (EC 58 t (Ev x.ts)++l)).Nodup:=w1
   have a3:=ED.2 ⟨r1,u1 _ a2⟩
   have k3:=w1 _ a2 k2
   clear u1 w1 r1 a2 k2
   simp -implicitDefEqProofs -proj only [go_sem,seval]
   refine Kz (PD (xs:=Ez x.ad) (by rw [Ft]; exact hlt.2)) (LendL.refl _) (fun a H4 ha r2 u2 w2=>?_)
   rw [Ft] at ha
   have a4:=ED.2 ⟨r2,u2 _ a3⟩
   have k4:=w2 _ a3 k3
   clear u2 w2 r2 a3 k3
   have g4:H4 cc=some (.box 55 (L2.flatten++pad)):=(ED.1 (ED.1 (ED.1 a4).2).2).2.1
   simp -implicitDefEqProofs -proj only [go_sem,seval,IQ ht]
   refine JJ g4 hal2 s2 (by decide) (Hg ht) rfl (fun L3 s3 hal3 e3=>?_)
   simp -implicitDefEqProofs -proj only [go_sem,seval,IQ ha]
   refine JJ D8 hal3 s3 (by decide) (Hg ha) rfl (fun L4 s4 hal4 e4=>?_)
   rw [e3,e2,List.set_set,List.set_set] at e4
   have e5:L4=EZ p.cs (P++[(t,a)]):=e4.trans (q2 (t,a))
   subst e5
   simp -implicitDefEqProofs -proj only [go_sem,seval]
   rw [←List.append_assoc,←List.append_assoc] at a4 k4
   have a5:=HT (y:=.box 55 ((EZ p.cs (P++[(t,a)])).flatten++pad)) a4 k4
   have k5:(Ae ((EC 60 a (Ez x.ad)++EC 58 t (Ev x.ts)++Ej p.cs P)++(cc,.box 55 ((EZ p.cs (P++[(t,a)])).flatten++pad))::JC b1 b2 p m f (.own cc 16 0 p.cs.length capc))).Nodup:=by
    simp -implicitDefEqProofs only [Ae,List.map_append,List.map_cons] at k4 ⊢; exact k4
   rw [List.append_assoc,List.append_assoc] at a5 k5
   have pm:=NJ (a:=EC 60 a (Ez x.ad)) (t:=EC 58 t (Ev x.ts)) (i:=Ej p.cs P) (r:=(cc,.box 55 ((EZ p.cs (P++[(t,a)])).flatten++pad))::JC b1 b2 p m f (.own cc 16 0 p.cs.length capc))
   rw [←q3 (t,a)] at pm
   have hl1:(P++[(t,a)]).length=P.length+1:=by simp
   refine Ed (P++[(t,a)]) ⟨by rw [hl1]; omega,q4 ht ha,?_⟩ (by rw [hl1]; omega) rfl ?_ ?_
   ·exact ((pm.map (fun q:Nat×Blk=>q.1)).nodup_iff).1 k5
   ·simp -implicitDefEqProofs -proj only [go_sem,seval,Ai,hl1,Es (show P.length<9223372036854775807 by omega)]
   ·exact Tr a5 fun q hq=>pm.mem_iff.2 hq
  ·have hn:P.length=p.cs.length:=by omega
   have g2:H b2=some (.box 28 Gc):=(ED.1 (ED.1 (ED.1 hall).2.2).2).2.1
   simp -implicitDefEqProofs -proj only [go_sem,seval,hH,g1,g2,decide_eq_false (show ¬(P.length:Int)<p.cs.length by omega)]
   have e6:F5 b1 b2 cc p m f (.own cc 16 0 p.cs.length capc) P pad=HL p m f (.own cc 16 0 p.cs.length capc) P pad++[(b2,.box 28 Gc),(b1,.box 28 (FG p.nm p.cu p.f p.t m f (.own cc 16 0 p.cs.length capc) 0 0))]:=by
    simp -implicitDefEqProofs only [F5,HL,GY,List.cons_append,List.nil_append,List.append_assoc]
   rw [e6] at hall kn
   obtain ⟨e7,e8⟩:=L6 hall kn
   refine ⟨m,f,.own cc 16 0 p.cs.length capc,P,pad,rfl,hm,hf,.inr ⟨cc,capc,rfl,?_,by rw [En] at hcc; exact hcc.1,hcc.2⟩,hn,hP,e7,e8⟩
   rw [←hcs,List.length_append,List.length_append,GP HJ,GP HJ,HX,HX]
def FZ:List ChX→List (AV×AV)→List (List AV)
 | x::X,q::P=>HG x q.1 q.2 x.ln x.co::FZ X P
 | _,_=>[]
theorem Ip:∀{cs:List ChX} {P:List (AV×AV)},P.length=cs.length→FZ (cs.map ChX.pl) P=EZ cs P
 | [],[],_=>rfl
 | x::cs,q::P,h=>by
  have h':P.length=cs.length:=by simpa using h
  simp -implicitDefEqProofs only [List.map_cons,FZ,EZ,Ip h']
  rfl
 | [],q::P,h=>by simp at h
 | x::cs,[],h=>by simp at h
theorem JV:∀{cs:List ChX} {P:List (AV×AV)},Ej (cs.map ChX.pl) P=Ej cs P
 | [],_=>rfl
 | x::cs,[]=>rfl
 | x::cs,q::P=>by
  simp -implicitDefEqProofs only [List.map_cons,Ej,JV (cs:=cs) (P:=P)]
  rfl
theorem LS:∀{cs:List ChX} {P:List (AV×AV)},GB cs P→GB (cs.map ChX.pl) P
 | [],[],_=>trivial
 | [],q::P,h=>h
 | x::cs,[],_=>trivial
 | x::cs,q::P,h=>⟨h.1,h.2.1,LS h.2.2⟩
theorem Kr:∀{X:List ChX} {P:List (AV×AV)},P.length=X.length→(FZ X P).length=X.length
 | [],[],_=>rfl
 | x::X,q::P,h=>by
  have h':P.length=X.length:=by simpa using h
  simp [FZ,Kr h']
 | [],q::P,h=>by simp at h
 | x::X,[],h=>by simp at h
structure GenD (M:List MeterX) (F:List FeeX) (X:List ChX) (m f c:AV) (P:List (AV×AV)) (pad:List AV) (H:Heap):Prop where
 hm:E1 m 5 M.length
 hf:E1 f 10 F.length
 hc:MT c X.length ((FZ X P).flatten++pad)
 n:P.length=X.length
 ok:GB X P
 all:AT H (Ej X P++(GY c ((FZ X P).flatten++pad)++(EC 51 f (EQ F)++EC 34 m (EO M))))
 nd:(Ae (Ej X P++(GY c ((FZ X P).flatten++pad)++(EC 51 f (EQ F)++EC 34 m (EO M))))).Nodup
structure GenS (M:List MeterX) (F:List FeeX) (X:List ChX) (m f c:AV) (H:Heap):Prop where
 hm:E1 m 5 M.length
 hf:E1 f 10 F.length
 hc:E1 c 16 X.length
 all:AT H (EC 55 c (ET X)++(EC 51 f (EQ F)++EC 34 m (EO M)))
 nd:(Ae (EC 55 c (ET X)++(EC 51 f (EQ F)++EC 34 m (EO M)))).Nodup
theorem DeepP.gen {p:PlanX} {m f c:AV} {P:List (AV×AV)} {pad:List AV} {H:Heap} (h:DeepP p m f c P pad H):GenD (p.ms.map MeterX.pl) (p.fs.map FeeX.pl) (p.cs.map ChX.pl) m f c P pad H:=by
 obtain ⟨h1,h2,h3,h4,h5,h6,h7⟩:=h
 exact ⟨by rw [List.length_map]; exact h1,by rw [List.length_map]; exact h2,by rw [List.length_map,Ip h4]; exact h3,by rw [List.length_map]; exact h4,LS h5,by rw [JV,Ip h4]; exact h6,by rw [JV,Ip h4]; exact h7⟩
theorem ME {l:List (Nat×Blk)} {k:Nat} (h:k∉Ae l):D6 l k=none:=by
 induction l with
 | nil=>rfl
 | cons q l ih =>
  obtain ⟨b,x⟩:=q
  simp -implicitDefEqProofs only [Ae,List.map_cons,List.mem_cons,not_or] at h ih
  rw [Am,if_neg h.1]
  exact ih h.2
theorem UB {H:Heap} {x:ChX} {t a:AV} (h1:LendV H t (.d (.sl 2 (Ev x.ts)))) (h2:LendV H a (.d (.sl 3 (Ez x.ad)))):LendL H (HG x t a x.ln x.co) (mapD x.el):=by
 refine EL (.refl _) (EL (.refl _) (EL (.refl _) (EL (.refl _) (EL (.refl _) (EL (.refl _) (EL (.refl _) (EL (.refl _) (EL (.refl _) (EL (.refl _) (EL (.refl _) (EL h1 (EL (.refl _) (EL h2 (EL (.refl _) (EL (.refl _) HW)))))))))))))))
theorem MG {H:Heap}:∀{X:List ChX} {P:List (AV×AV)},GB X P→AT H (Ej X P)→∀(i:Nat) u el,(FZ X P)[i]? = some u→(ET X)[i]? = some el→LendL H u (mapD el)
 | [],_,_,_,i,u,el,h,_=>by simp [FZ] at h
 | x::X,[],_,_,i,u,el,h,_=>by simp [FZ] at h
 | x::X,q::P,hp,ha,0,u,el,h1,h2=>by
  simp -implicitDefEqProofs only [FZ,ET,List.map_cons,List.getElem?_cons_zero,Option.some.injEq] at h1 h2
  subst h1; subst h2
  have ha:=ED.1 (ED.1 ha).1
  exact UB (Hy (by rw [Fx]; exact hp.1) ha.1) (Hy (by rw [Ft]; exact hp.2.1) ha.2)
 | x::X,q::P,hp,ha,i+1,u,el,h1,h2=>by
  simp -implicitDefEqProofs only [FZ,ET,List.map_cons,List.getElem?_cons_succ] at h1 h2
  exact MG hp.2.2 (ED.1 ha).2 i u el h1 h2
theorem Redesc.refl (P:Program) (H:Heap):Redesc P H H:=fun F w h=>⟨F,h,Step.refl _ _ _⟩
theorem GenD.pack {M:List MeterX} {F:List FeeX} {X:List ChX} {m f c:AV} {P:List (AV×AV)} {pad:List AV} {H:Heap} {Pr:Program} (h:GenD M F X m f c P pad H):∃H2,Redesc Pr H H2∧GenS M F X m f c H2:=by
 obtain ⟨h1,h2,h3,h4,h5,h6,h7⟩:=h
 rcases h3 with ⟨h0,q,rfl⟩ | ⟨cc,cap,rfl,g1,g2,g3⟩
 ·obtain rfl:X=[]:=List.eq_nil_of_length_eq_zero h0
  refine ⟨H,Redesc.refl _ _,h1,h2,.inl ⟨rfl,q,rfl⟩,?_,?_⟩
  ·simpa [Ej,GY,EC] using h6
  ·simpa [Ej,GY,EC] using h7
 ·simp -implicitDefEqProofs only [GY,List.cons_append,List.nil_append] at h6 h7
  have ha:=ED.1 h6
  simp -implicitDefEqProofs only [Ae,List.map_append,List.map_cons,List.nodup_append,List.nodup_cons] at h7
  obtain ⟨n1,⟨n2,n3⟩,n4⟩:=h7
  have hcc:cc∉Ae (Ej X P):=fun hm=>n4 cc hm cc (by simp) rfl
  have hr:AT (D6 (Ej X P)) (Ej X P):=Eu (by simpa [Ae] using n1)
  refine ⟨Kf H (D6 (Ej X P)) cc (.row 55 16 cap (ET X)),Nq (L:=FZ X P) ha.2.1 (J2 ha.1) (ME hcc) (by rw [Kr h4,En]) (MG h5 hr) (fun el he=>?_) (by decide) g1 (by rw [En]; exact g2) g3,h1,h2,.inr ⟨cc,cap,rfl⟩,?_,?_⟩
  ·obtain ⟨x,_,rfl⟩:=List.mem_map.1 he
   rfl
  ·refine ⟨by rw [Hf,if_pos rfl],FO.2 fun q hq=>?_⟩
   have hk1:¬q.1=cc:=fun e=>n2 (by
    rw [←e,←List.map_append]
    exact List.mem_map.2 ⟨q,hq,rfl⟩)
   have hk2:q.1∉Ae (Ej X P):=fun hm=>n4 q.1 hm q.1 (by
    rw [←List.map_append]
    exact List.mem_cons_of_mem _ (List.mem_map.2 ⟨q,hq,rfl⟩)) rfl
   rw [Hf,if_neg hk1,if_pos (ME hk2)]
   exact FO.1 ha.2.2 q hq
  ·simp -implicitDefEqProofs only [Ji,List.cons_append,List.nil_append,Ae,List.map_append,List.map_cons,List.nodup_cons]
   exact ⟨n2,List.nodup_append.2 n3⟩
theorem UO {p:PlanX} (hp:p.Sm):CallW Try.prog Jz [FS p] Heap.none fun r H'=>∃m f c,r = .agg (FG p.nm p.cu p.f p.t m f c 0 0)∧GenS p.pl.ms p.pl.fs p.pl.cs m f c H' :=
 CallW.redesc (PT hp) fun r H' ⟨m,f,c,P,pad,h1,h2⟩=>by
  obtain ⟨H2,h3,h4⟩:=(h2.gen).pack (Pr:=Try.prog)
  exact ⟨H2,h3,m,f,c,h1,h4⟩
theorem GenS.lend {p:PlanX} {m f c:AV} {H:Heap} (h:GenS p.ms p.fs p.cs m f c H):LendV H (.agg (FG p.nm p.cu p.f p.t m f c p.ln p.co)) (FS p):=by
 have a1:=ED.1 h.all
 have a2:=ED.1 a1.2
 refine LendV.aggL (EL (.refl _) (EL (.refl _) (EL (.refl _) (EL (.refl _) (EL (.refl _) (EL (.refl _) (EL (.refl _) (EL (.refl _) (EL ?_ (EL ?_ (EL ?_ (EL (.refl _) (EL (.refl _) HW)))))))))))))
 ·exact Hy (by rw [E8]; exact h.hm) a2.2
 ·exact Hy (by rw [FA]; exact h.hf) a2.1
 ·exact Hy (by rw [En]; exact h.hc) a1.1
theorem W4 {p:PlanX} (hp:p.Sm):DataW Try.prog Jz [FS p] (FS p.pl) :=
 CallW.mono' (UO hp) fun r H' ⟨m,f,c,h1,h2⟩=>by
  subst h1
  exact GenS.lend (p:=p.pl) h2
def Ao {α β:Type} (p : α→β→Bool):List α→List β→Bool
 | [],[]=>true
 | x::a,y::b=>p x y&&Ao p a b
 | _,_=>false
theorem GU {α β:Type} {p : α→β→Bool}:∀{a:List α} {b:List β},a.length≠b.length→Ao p a b=false
 | [],[],h=>absurd rfl h
 | [],_::_,_=>rfl
 | _::_,[],_=>rfl
 | _::a,_::b,h=>by
  rw [Ao,GU (a:=a) (b:=b) (fun e=>h (by simp [e])),Bool.and_false]
def Fe (a b:DateX):Bool:=decide (a.y=b.y)&&(decide (a.m=b.m)&&decide (a.d=b.d))
def FC (a b:WinX):Bool:=(a.has == b.has)&&(decide (a.f.y=b.f.y)&&(decide (a.f.m=b.f.m)&&(decide (a.f.d=b.f.d)&&(decide (a.t.y=b.t.y)&&(decide (a.t.m=b.t.m)&&decide (a.t.d=b.t.d))))))
def FR (a b:Tier):Bool:=decide (a.u=b.u)&&decide (a.r=b.r)
def FX (a b:Adj):Bool:=decide (a.k=b.k)&&(decide (a.n=b.n)&&decide (a.m=b.m))
def FD (a b:MeterX):Bool:=(a.nm.toList == b.nm.toList)&&((a.un.toList == b.un.toList)&&decide (a.mx=b.mx))
def FT (a b:FeeX):Bool:=decide (a.am=b.am)&&FC a.w b.w
def E3 (a b:ChX):Bool:=(a.me.toList == b.me.toList)&&(FC a.w b.w&&(decide (a.al=b.al)&&(decide (a.bl=b.bl)&&(decide (a.ki=b.ki)&&(decide (a.mo=b.mo)&&(Ao FR a.ts b.ts&&Ao FX a.ad b.ad))))))
def FK (a b:PlanX):Bool:=(a.nm.toList == b.nm.toList)&&((a.cu.toList == b.cu.toList)&&(Fe a.f b.f&&(Fe a.t b.t&&(Ao FD a.ms b.ms&&(Ao FT a.fs b.fs&&Ao E3 a.cs b.cs)))))
abbrev HQ (m:MeterX):AV:=.agg [.d (.str m.nm),.d (.str m.un),i64 m.mx,i64 m.ln,i64 m.co]
abbrev HZ (x:FeeX):AV:=.agg [i64 x.am,bv x.w.has,i64 x.w.f.y,i64 x.w.f.m,i64 x.w.f.d,i64 x.w.t.y,i64 x.w.t.m,i64 x.w.t.d,i64 x.ln,i64 x.co]
abbrev HM (x:ChX):AV:=.agg x.cells
theorem T4 {a b:List Tier} (ha:a.length≤1000000) (hb:b.length≤1000000):DataW Try.prog PB [.d (.sl 2 (Ev a)),.d (.sl 2 (Ev b))] (bv (Ao FR a b)):=by
 refine D9 XU (by simp) ?_
 by_cases hl:a.length=b.length
 rotate_left
 ·rw [GU hl]
  simp -implicitDefEqProofs -proj only [go_sem,seval,Fx,decide_eq_false (show ¬(a.length:Int)=b.length by omega)]
  exact AU rfl
 simp -implicitDefEqProofs -proj only [go_sem,seval,Fx,decide_eq_true (show (a.length:Int)=b.length by omega)]
 refine EY (fun i:Nat=>i≤a.length∧Ao FR (a.drop i) (b.drop i)=Ao FR a b) 26 (fun i=>[(0,.d (.sl 2 (Ev a))),(1,.d (.sl 2 (Ev b))),(12,i64 a.length),(13,i64 i)]) (fun _=>[]) (fun i=>a.length-i) 0 ⟨Nat.zero_le _,by simp⟩ rfl ?_ ?_ ?_
 ·simp -implicitDefEqProofs -proj only [go_sem,seval,Ai]
  try simp [hl]
 ·trivial
 ·rintro i ⟨hi,hat⟩
  by_cases h:i<a.length
  ·have h':i<b.length:=by omega
   have e1:=J5 h
   have e2:=J5 h'
   rw [List.drop_eq_getElem_cons h,List.drop_eq_getElem_cons h',Ao] at hat
   generalize a[i]=x at *
   generalize b[i]=y at *
   simp -implicitDefEqProofs -proj only [go_sem,seval,decide_eq_true (show (i:Int)<a.length by omega)]
   refine ES _ (by omega) e1 ?_
   simp -implicitDefEqProofs -proj only [go_sem,seval]
   refine ES _ (by omega) e2 ?_
   cases hp:FR x y
   ·rw [hp,Bool.false_and] at hat
    unfold FR at hp
    simp -implicitDefEqProofs -proj only [go_sem,seval,hp]
    rw [←hat]
    exact AU rfl
   ·rw [hp,Bool.true_and] at hat
    unfold FR at hp
    simp -implicitDefEqProofs -proj only [go_sem,seval,hp]
    refine Ed (i+1) ⟨by omega,hat⟩ (by omega) rfl ?_ trivial
    simp -implicitDefEqProofs -proj only [go_sem,seval,Ai,Es (show i<9223372036854775807 by omega)]
  ·have hi':i=a.length:=by omega
   subst hi'
   rw [List.drop_length,hl,List.drop_length] at hat
   simp -implicitDefEqProofs -proj only [go_sem,seval,decide_eq_false (show ¬(a.length:Int)<a.length by omega)]
   rw [←hat]
   exact AU rfl
theorem VA {a b:List Adj} (ha:a.length≤1000000) (hb:b.length≤1000000):DataW Try.prog Ue [.d (.sl 3 (Ez a)),.d (.sl 3 (Ez b))] (bv (Ao FX a b)):=by
 refine D9 Q2 (by simp) ?_
 by_cases hl:a.length=b.length
 rotate_left
 ·rw [GU hl]
  simp -implicitDefEqProofs -proj only [go_sem,seval,Ft,decide_eq_false (show ¬(a.length:Int)=b.length by omega)]
  exact AU rfl
 simp -implicitDefEqProofs -proj only [go_sem,seval,Ft,decide_eq_true (show (a.length:Int)=b.length by omega)]
 refine EY (fun i:Nat=>i≤a.length∧Ao FX (a.drop i) (b.drop i)=Ao FX a b) 26 (fun i=>[(0,.d (.sl 3 (Ez a))),(1,.d (.sl 3 (Ez b))),(12,i64 a.length),(13,i64 i)]) (fun _=>[]) (fun i=>a.length-i) 0 ⟨Nat.zero_le _,by simp⟩ rfl ?_ ?_ ?_
 ·simp -implicitDefEqProofs -proj only [go_sem,seval,Ai]
  try simp [hl]
 ·trivial
 ·rintro i ⟨hi,hat⟩
  by_cases h:i<a.length
  ·have h':i<b.length:=by omega
   have e1:=KS h
   have e2:=KS h'
   rw [List.drop_eq_getElem_cons h,List.drop_eq_getElem_cons h',Ao] at hat
   generalize a[i]=x at *
   generalize b[i]=y at *
   simp -implicitDefEqProofs -proj only [go_sem,seval,decide_eq_true (show (i:Int)<a.length by omega)]
   refine ES _ (by omega) e1 ?_
   simp -implicitDefEqProofs -proj only [go_sem,seval]
   refine ES _ (by omega) e2 ?_
   cases hp:FX x y
   ·rw [hp,Bool.false_and] at hat
    unfold FX at hp
    simp -implicitDefEqProofs -proj only [go_sem,seval,hp]
    rw [←hat]
    exact AU rfl
   ·rw [hp,Bool.true_and] at hat
    unfold FX at hp
    simp -implicitDefEqProofs -proj only [go_sem,seval,hp]
    refine Ed (i+1) ⟨by omega,hat⟩ (by omega) rfl ?_ trivial
    simp -implicitDefEqProofs -proj only [go_sem,seval,Ai,Es (show i<9223372036854775807 by omega)]
  ·have hi':i=a.length:=by omega
   subst hi'
   rw [List.drop_length,hl,List.drop_length] at hat
   simp -implicitDefEqProofs -proj only [go_sem,seval,decide_eq_false (show ¬(a.length:Int)<a.length by omega)]
   rw [←hat]
   exact AU rfl
theorem U0 {a b:List MeterX} {f:FuncId} {p:MeterX→MeterX→Bool} (hf:∀x∈a,∀y∈b,DataW Try.prog f [HQ x,HQ y] (bv (p x y))) (ha:a.length≤1000000) (hb:b.length≤1000000):DataW Try.prog LG [.d (.sl 5 (EO a)),.d (.sl 5 (EO b)),.fn f []] (bv (Ao p a b)):=by
 refine D9 Lp (by simp) ?_
 by_cases hl:a.length=b.length
 rotate_left
 ·rw [GU hl]
  simp -implicitDefEqProofs -proj only [go_sem,seval,E8,decide_eq_false (show ¬(a.length:Int)=b.length by omega)]
  exact AU rfl
 simp -implicitDefEqProofs -proj only [go_sem,seval,E8,decide_eq_true (show (a.length:Int)=b.length by omega)]
 refine EY (fun i:Nat=>i≤a.length∧Ao p (a.drop i) (b.drop i)=Ao p a b) 32 (fun i=>[(0,.d (.sl 5 (EO a))),(1,.d (.sl 5 (EO b))),(2,.fn f []),(15,.d (.sl 5 (EO a))),(16,i64 a.length),(17,i64 i)]) (fun _=>[]) (fun i=>a.length-i) 0 ⟨Nat.zero_le _,by simp⟩ rfl ?_ ?_ ?_
 ·simp -implicitDefEqProofs -proj only [go_sem,seval,Ai]
  try simp [hl]
 ·trivial
 ·rintro i ⟨hi,hat⟩
  by_cases h:i<a.length
  ·have h':i<b.length:=by omega
   have e1:=Hq h
   have e2:=Hq h'
   have hxy:=hf _ (List.getElem_mem h) _ (List.getElem_mem h')
   rw [List.drop_eq_getElem_cons h,List.drop_eq_getElem_cons h',Ao] at hat
   generalize a[i]=x at *
   generalize b[i]=y at *
   simp -implicitDefEqProofs -proj only [go_sem,seval,decide_eq_true (show (i:Int)<a.length by omega)]
   refine ES _ (by omega) e1 ?_
   simp -implicitDefEqProofs -proj only [go_sem,seval]
   refine D4 (fun b8 hb8=>?_)
   simp -implicitDefEqProofs -proj only [go_sem,seval]
   refine ES _ (by omega) e2 ?_
   simp -implicitDefEqProofs -proj only [go_sem,seval]
   refine D4 (fun b9 hb9=>?_)
   simp -implicitDefEqProofs only [AK] at hb9
   have n1:¬b8=b9:=fun e=>by subst e; simp at hb9
   have n2:¬b9=b8:=fun e=>n1 e.symm
   simp -implicitDefEqProofs -proj only [go_sem,seval,n1,n2]
   refine EE hxy ?_
   cases hp:p x y
   ·rw [hp,Bool.false_and] at hat
    simp -implicitDefEqProofs -proj only [go_sem,seval]
    rw [←hat]
    exact AU rfl
   ·rw [hp,Bool.true_and] at hat
    simp -implicitDefEqProofs -proj only [go_sem,seval]
    refine Ed (i+1) ⟨by omega,hat⟩ (by omega) rfl ?_ trivial
    simp -implicitDefEqProofs -proj only [go_sem,seval,Ai,Es (show i<9223372036854775807 by omega)]
  ·have hi':i=a.length:=by omega
   subst hi'
   rw [List.drop_length,hl,List.drop_length] at hat
   simp -implicitDefEqProofs -proj only [go_sem,seval,decide_eq_false (show ¬(a.length:Int)<a.length by omega)]
   rw [←hat]
   exact AU rfl
theorem Qm {a b:List MeterX} {f:FuncId} {p:MeterX→MeterX→Bool} (hf:∀x∈a,∀y∈b,DataW Try.prog f [HQ x,HQ y] (bv (p x y))) (ha:a.length≤1000000) (hb:b.length≤1000000):DataW Try.prog K3 [.d (.sl 5 (EO a)),.d (.sl 5 (EO b)),.fn f []] (bv (Ao p a b)):=by
 refine D9 Lv (by simp) ?_
 simp -implicitDefEqProofs -proj only [go_sem,seval]
 refine EE (U0 hf ha hb) ?_
 simp -implicitDefEqProofs -proj only [go_sem,seval]
 exact AU rfl
theorem PF {a b:List FeeX} {f:FuncId} {p:FeeX→FeeX→Bool} (hf:∀x∈a,∀y∈b,DataW Try.prog f [HZ x,HZ y] (bv (p x y))) (ha:a.length≤1000000) (hb:b.length≤1000000):DataW Try.prog Ly [.d (.sl 10 (EQ a)),.d (.sl 10 (EQ b)),.fn f []] (bv (Ao p a b)):=by
 refine D9 Mr (by simp) ?_
 by_cases hl:a.length=b.length
 rotate_left
 ·rw [GU hl]
  simp -implicitDefEqProofs -proj only [go_sem,seval,FA,decide_eq_false (show ¬(a.length:Int)=b.length by omega)]
  exact AU rfl
 simp -implicitDefEqProofs -proj only [go_sem,seval,FA,decide_eq_true (show (a.length:Int)=b.length by omega)]
 refine EY (fun i:Nat=>i≤a.length∧Ao p (a.drop i) (b.drop i)=Ao p a b) 32 (fun i=>[(0,.d (.sl 10 (EQ a))),(1,.d (.sl 10 (EQ b))),(2,.fn f []),(15,.d (.sl 10 (EQ a))),(16,i64 a.length),(17,i64 i)]) (fun _=>[]) (fun i=>a.length-i) 0 ⟨Nat.zero_le _,by simp⟩ rfl ?_ ?_ ?_
 ·simp -implicitDefEqProofs -proj only [go_sem,seval,Ai]
  try simp [hl]
 ·trivial
 ·rintro i ⟨hi,hat⟩
  by_cases h:i<a.length
  ·have h':i<b.length:=by omega
   have e1:=JF h
   have e2:=JF h'
   have hxy:=hf _ (List.getElem_mem h) _ (List.getElem_mem h')
   rw [List.drop_eq_getElem_cons h,List.drop_eq_getElem_cons h',Ao] at hat
   generalize a[i]=x at *
   generalize b[i]=y at *
   simp -implicitDefEqProofs -proj only [go_sem,seval,decide_eq_true (show (i:Int)<a.length by omega)]
   refine ES _ (by omega) e1 ?_
   simp -implicitDefEqProofs -proj only [go_sem,seval]
   refine D4 (fun b8 hb8=>?_)
   simp -implicitDefEqProofs -proj only [go_sem,seval]
   refine ES _ (by omega) e2 ?_
   simp -implicitDefEqProofs -proj only [go_sem,seval]
   refine D4 (fun b9 hb9=>?_)
   simp -implicitDefEqProofs only [AK] at hb9
   have n1:¬b8=b9:=fun e=>by subst e; simp at hb9
   have n2:¬b9=b8:=fun e=>n1 e.symm
   simp -implicitDefEqProofs -proj only [go_sem,seval,n1,n2]
   refine EE hxy ?_
   cases hp:p x y
   ·rw [hp,Bool.false_and] at hat
    simp -implicitDefEqProofs -proj only [go_sem,seval]
    rw [←hat]
    exact AU rfl
   ·rw [hp,Bool.true_and] at hat
    simp -implicitDefEqProofs -proj only [go_sem,seval]
    refine Ed (i+1) ⟨by omega,hat⟩ (by omega) rfl ?_ trivial
    simp -implicitDefEqProofs -proj only [go_sem,seval,Ai,Es (show i<9223372036854775807 by omega)]
  ·have hi':i=a.length:=by omega
   subst hi'
   rw [List.drop_length,hl,List.drop_length] at hat
   simp -implicitDefEqProofs -proj only [go_sem,seval,decide_eq_false (show ¬(a.length:Int)<a.length by omega)]
   rw [←hat]
   exact AU rfl
theorem OZ {a b:List FeeX} {f:FuncId} {p:FeeX→FeeX→Bool} (hf:∀x∈a,∀y∈b,DataW Try.prog f [HZ x,HZ y] (bv (p x y))) (ha:a.length≤1000000) (hb:b.length≤1000000):DataW Try.prog Jr [.d (.sl 10 (EQ a)),.d (.sl 10 (EQ b)),.fn f []] (bv (Ao p a b)):=by
 refine D9 ML (by simp) ?_
 simp -implicitDefEqProofs -proj only [go_sem,seval]
 refine EE (PF hf ha hb) ?_
 simp -implicitDefEqProofs -proj only [go_sem,seval]
 exact AU rfl
theorem Sp {a b:List ChX} {f:FuncId} {p:ChX→ChX→Bool} (hf:∀x∈a,∀y∈b,DataW Try.prog f [HM x,HM y] (bv (p x y))) (ha:a.length≤1000000) (hb:b.length≤1000000):DataW Try.prog Mt [.d (.sl 16 (ET a)),.d (.sl 16 (ET b)),.fn f []] (bv (Ao p a b)):=by
 refine D9 Lu (by simp) ?_
 by_cases hl:a.length=b.length
 rotate_left
 ·rw [GU hl]
  simp -implicitDefEqProofs -proj only [go_sem,seval,En,decide_eq_false (show ¬(a.length:Int)=b.length by omega)]
  exact AU rfl
 simp -implicitDefEqProofs -proj only [go_sem,seval,En,decide_eq_true (show (a.length:Int)=b.length by omega)]
 refine EY (fun i:Nat=>i≤a.length∧Ao p (a.drop i) (b.drop i)=Ao p a b) 32 (fun i=>[(0,.d (.sl 16 (ET a))),(1,.d (.sl 16 (ET b))),(2,.fn f []),(15,.d (.sl 16 (ET a))),(16,i64 a.length),(17,i64 i)]) (fun _=>[]) (fun i=>a.length-i) 0 ⟨Nat.zero_le _,by simp⟩ rfl ?_ ?_ ?_
 ·simp -implicitDefEqProofs -proj only [go_sem,seval,Ai]
  try simp [hl]
 ·trivial
 ·rintro i ⟨hi,hat⟩
  by_cases h:i<a.length
  ·have h':i<b.length:=by omega
   have e1:=I3 h
   have e2:=I3 h'
   have hxy:=hf _ (List.getElem_mem h) _ (List.getElem_mem h')
   rw [List.drop_eq_getElem_cons h,List.drop_eq_getElem_cons h',Ao] at hat
   generalize a[i]=x at *
   generalize b[i]=y at *
   simp -implicitDefEqProofs -proj only [go_sem,seval,decide_eq_true (show (i:Int)<a.length by omega)]
   refine ES _ (by omega) e1 ?_
   simp -implicitDefEqProofs -proj only [go_sem,seval]
   refine D4 (fun b8 hb8=>?_)
   simp -implicitDefEqProofs -proj only [go_sem,seval]
   refine ES _ (by omega) e2 ?_
   simp -implicitDefEqProofs -proj only [go_sem,seval]
   refine D4 (fun b9 hb9=>?_)
   simp -implicitDefEqProofs only [AK] at hb9
   have n1:¬b8=b9:=fun e=>by subst e; simp at hb9
   have n2:¬b9=b8:=fun e=>n1 e.symm
   simp -implicitDefEqProofs -proj only [go_sem,seval,n1,n2]
   refine EE hxy ?_
   cases hp:p x y
   ·rw [hp,Bool.false_and] at hat
    simp -implicitDefEqProofs -proj only [go_sem,seval]
    rw [←hat]
    exact AU rfl
   ·rw [hp,Bool.true_and] at hat
    simp -implicitDefEqProofs -proj only [go_sem,seval]
    refine Ed (i+1) ⟨by omega,hat⟩ (by omega) rfl ?_ trivial
    simp -implicitDefEqProofs -proj only [go_sem,seval,Ai,Es (show i<9223372036854775807 by omega)]
  ·have hi':i=a.length:=by omega
   subst hi'
   rw [List.drop_length,hl,List.drop_length] at hat
   simp -implicitDefEqProofs -proj only [go_sem,seval,decide_eq_false (show ¬(a.length:Int)<a.length by omega)]
   rw [←hat]
   exact AU rfl
theorem Xe {a b:List ChX} {f:FuncId} {p:ChX→ChX→Bool} (hf:∀x∈a,∀y∈b,DataW Try.prog f [HM x,HM y] (bv (p x y))) (ha:a.length≤1000000) (hb:b.length≤1000000):DataW Try.prog MV [.d (.sl 16 (ET a)),.d (.sl 16 (ET b)),.fn f []] (bv (Ao p a b)):=by
 refine D9 MK (by simp) ?_
 simp -implicitDefEqProofs -proj only [go_sem,seval]
 refine EE (Sp hf ha hb) ?_
 simp -implicitDefEqProofs -proj only [go_sem,seval]
 exact AU rfl
theorem QB (a b:MeterX):DataW Try.prog Hw [HQ a,HQ b] (bv (FD a b)):=by
 refine D9 Kq (by simp) ?_
 simp -implicitDefEqProofs -proj only [go_sem,seval]
 refine D4 (fun b2 hb2=>?_)
 simp -implicitDefEqProofs -proj only [go_sem,seval]
 refine D4 (fun b3 hb3=>?_)
 replace hb3:AH Heap.none b2 _ b3=none:=hb3
 obtain ⟨n1,n2⟩:=EA hb3 D8
 cases c0:a.nm.toList == b.nm.toList
 ·simp -implicitDefEqProofs -proj only [go_sem,seval,n1,n2,EW,c0]
  exact AU (by simp [FD,c0])
 cases c1:a.un.toList == b.un.toList
 ·simp -implicitDefEqProofs -proj only [go_sem,seval,n1,n2,EW,c0,c1]
  exact AU (by simp [FD,c0,c1])
 cases c2:decide (a.mx=b.mx)
 ·simp -implicitDefEqProofs -proj only [go_sem,seval,n1,n2,EW,c0,c1,c2]
  exact AU (by simp [FD,c0,c1,c2])
 simp -implicitDefEqProofs -proj only [go_sem,seval,n1,n2,EW,c0,c1,c2]
 exact AU (by simp [FD,c0,c1,c2])
theorem Uf (a b:FeeX):DataW Try.prog Ib [HZ a,HZ b] (bv (FT a b)):=by
 refine D9 Wq (by simp) ?_
 simp -implicitDefEqProofs -proj only [go_sem,seval]
 refine D4 (fun b2 hb2=>?_)
 simp -implicitDefEqProofs -proj only [go_sem,seval]
 refine D4 (fun b3 hb3=>?_)
 replace hb3:AH Heap.none b2 _ b3=none:=hb3
 obtain ⟨n1,n2⟩:=EA hb3 D8
 cases c0:decide (a.am=b.am)
 ·simp -implicitDefEqProofs -proj only [go_sem,seval,n1,n2,EW,c0]
  exact AU (by simp [FT,c0])
 cases c1:FC a.w b.w
 ·have c1u:=c1
  unfold FC at c1u
  simp -implicitDefEqProofs -proj only [go_sem,seval,n1,n2,EW,c0,c1u]
  exact AU (by simp [FT,c0,c1])
 have c1u:=c1
 unfold FC at c1u
 simp -implicitDefEqProofs -proj only [go_sem,seval,n1,n2,EW,c0,c1u]
 exact AU (by simp [FT,c0,c1])
theorem Qe {a b:ChX} (h1:a.ts.length≤1000000∧a.ad.length≤1000000) (h2:b.ts.length≤1000000∧b.ad.length≤1000000):DataW Try.prog JW [HM a,HM b] (bv (E3 a b)):=by
 refine D9 RJ (by simp) ?_
 simp -implicitDefEqProofs -proj only [go_sem,seval]
 refine D4 (fun b2 hb2=>?_)
 simp -implicitDefEqProofs -proj only [go_sem,seval]
 refine D4 (fun b3 hb3=>?_)
 replace hb3:AH Heap.none b2 _ b3=none:=hb3
 obtain ⟨n1,n2⟩:=EA hb3 D8
 cases c0:a.me.toList == b.me.toList
 ·simp -implicitDefEqProofs -proj only [go_sem,seval,n1,n2,EW,c0]
  exact AU (by simp [E3,c0])
 cases c1:FC a.w b.w
 ·have c1u:=c1
  unfold FC at c1u
  simp -implicitDefEqProofs -proj only [go_sem,seval,n1,n2,EW,c0,c1u]
  exact AU (by simp [E3,c0,c1])
 have c1u:=c1
 unfold FC at c1u
 cases c2:decide (a.al=b.al)
 ·simp -implicitDefEqProofs -proj only [go_sem,seval,n1,n2,EW,c0,c1u,c2]
  exact AU (by simp [E3,c0,c1,c2])
 cases c3:decide (a.bl=b.bl)
 ·simp -implicitDefEqProofs -proj only [go_sem,seval,n1,n2,EW,c0,c1u,c2,c3]
  exact AU (by simp [E3,c0,c1,c2,c3])
 cases c4:decide (a.ki=b.ki)
 ·simp -implicitDefEqProofs -proj only [go_sem,seval,n1,n2,EW,c0,c1u,c2,c3,c4]
  exact AU (by simp [E3,c0,c1,c2,c3,c4])
 cases c5:decide (a.mo=b.mo)
 ·simp -implicitDefEqProofs -proj only [go_sem,seval,n1,n2,EW,c0,c1u,c2,c3,c4,c5]
  exact AU (by simp [E3,c0,c1,c2,c3,c4,c5])
 simp -implicitDefEqProofs -proj only [go_sem,seval,n1,n2,EW,c0,c1u,c2,c3,c4,c5]
 refine EE (T4 h1.1 h2.1) ?_
 cases c6:Ao FR a.ts b.ts
 ·simp -implicitDefEqProofs -proj only [go_sem,seval,n1,n2,EW,c0,c1u,c2,c3,c4,c5]
  exact AU (by simp [E3,c0,c1,c2,c3,c4,c5,c6])
 simp -implicitDefEqProofs -proj only [go_sem,seval,n1,n2,EW,c0,c1u,c2,c3,c4,c5]
 refine EE (VA h1.2 h2.2) ?_
 simp -implicitDefEqProofs -proj only [go_sem,seval,n1,n2,EW,c0,c1u,c2,c3,c4,c5,c6]
 exact AU (by simp [E3,c0,c1,c2,c3,c4,c5,c6])
theorem J6 {a b:PlanX} (h1:a.Sm) (h2:b.Sm):DataW Try.prog Lh [FS a,FS b] (bv (FK a b)):=by
 refine D9 LP (by simp) ?_
 simp -implicitDefEqProofs -proj only [go_sem,seval]
 refine D4 (fun b2 hb2=>?_)
 simp -implicitDefEqProofs -proj only [go_sem,seval]
 refine D4 (fun b3 hb3=>?_)
 replace hb3:AH Heap.none b2 _ b3=none:=hb3
 obtain ⟨n1,n2⟩:=EA hb3 D8
 cases c0:a.nm.toList == b.nm.toList
 ·simp -implicitDefEqProofs -proj only [go_sem,seval,n1,n2,EW,c0]
  exact AU (by simp [FK,c0])
 cases c1:a.cu.toList == b.cu.toList
 ·simp -implicitDefEqProofs -proj only [go_sem,seval,n1,n2,EW,c0,c1]
  exact AU (by simp [FK,c0,c1])
 cases c2:Fe a.f b.f
 ·have c2u:=c2
  unfold Fe at c2u
  simp -implicitDefEqProofs -proj only [go_sem,seval,n1,n2,EW,c0,c1,c2u]
  exact AU (by simp [FK,c0,c1,c2])
 have c2u:=c2
 unfold Fe at c2u
 cases c3:Fe a.t b.t
 ·have c3u:=c3
  unfold Fe at c3u
  simp -implicitDefEqProofs -proj only [go_sem,seval,n1,n2,EW,c0,c1,c2u,c3u]
  exact AU (by simp [FK,c0,c1,c2,c3])
 have c3u:=c3
 unfold Fe at c3u
 simp -implicitDefEqProofs -proj only [go_sem,seval,n1,n2,EW,c0,c1,c2u,c3u]
 refine EE (Qm (fun x _ y _=>QB x y) h1.m h2.m) ?_
 cases c4:Ao FD a.ms b.ms
 ·simp -implicitDefEqProofs -proj only [go_sem,seval,n1,n2,EW,c0,c1,c2u,c3u]
  exact AU (by simp [FK,c0,c1,c2,c3,c4])
 simp -implicitDefEqProofs -proj only [go_sem,seval,n1,n2,EW,c0,c1,c2u,c3u]
 refine EE (OZ (fun x _ y _=>Uf x y) h1.f h2.f) ?_
 cases c5:Ao FT a.fs b.fs
 ·simp -implicitDefEqProofs -proj only [go_sem,seval,n1,n2,EW,c0,c1,c2u,c3u,c4]
  exact AU (by simp [FK,c0,c1,c2,c3,c4,c5])
 simp -implicitDefEqProofs -proj only [go_sem,seval,n1,n2,EW,c0,c1,c2u,c3u,c4]
 refine EE (Xe (fun x hx y hy=>Qe (h1.ta x hx) (h2.ta y hy)) h1.c h2.c) ?_
 simp -implicitDefEqProofs -proj only [go_sem,seval,n1,n2,EW,c0,c1,c2u,c3u,c4,c5]
 exact AU (by simp [FK,c0,c1,c2,c3,c4,c5])
theorem Jh {P:Program} {Q:Out→St→Prop} {k:List Item} {s:St} {d:Option Nat} {l:List AO} {e:TypeId} {α:Type} {g : α→List D} {sz b len cap bytes:Nat} {z:List AV} {L M R T:List α} {x:AV} (hx:∀K,El s.H x K=K sz (M.map g)) (hb:s.H b=some (.row e sz cap (L.map g))) (hlb:len=L.length) (hz:z.length=sz) (hby:bytes≤1000) (hT:L++(M++R)=T) (hT1:T.length≤1000000)
  (hk:∀b' cap' H' L',L'++R=T→H' b'=some (.row e sz cap' (L'.map g))→(∀k x,s.H k=some x→¬k=b→H' k=some x∧¬k=b'∧¬b'=k)→AF P Q l k (AD s d (.own b' sz 0 L'.length cap') H')):Fw e sz bytes z (.own b sz 0 len cap) x d l k s P Q:=by
 have e0:=congrArg List.length hT
 simp -implicitDefEqProofs only [List.length_append] at e0
 refine G2 hx hb (by rw [List.length_map]; exact hlb) hz ?_ (fun b' cap' H' h1 h2=>?_)
 ·rw [List.length_map,List.length_map]
  refine ⟨?_,by simp -implicitDefEqProofs only [maxLen]; omega⟩
  have:(L.length+M.length)*bytes≤1000000*1000:=Nat.mul_le_mul (by omega) hby
  omega
 ·have e1:len+(M.map g).length=(L++M).length:=by rw [List.length_map,List.length_append,hlb]
  rw [e1]
  exact hk b' cap' H' (L++M) (by rw [List.append_assoc]; exact hT) (by rw [List.map_append]; exact h1) h2
def HF (m:MeterX):List Int:=[m.ln,m.co]
def Gr (x:FeeX):List Int:=[x.ln,x.co]
def GO (x:ChX):List Int:=[x.ln,x.co]
def Eq (p:PlanX):List Int:=[p.ln,p.co]++(p.ms.flatMap HF++(p.fs.flatMap Gr++p.cs.flatMap GO))
theorem KD {α:Type} {f : α→List Int} {l:List α} {i:Nat} (h:i<l.length):(l.drop i).flatMap f=f l[i]++(l.drop (i+1)).flatMap f:=by
 rw [List.drop_eq_getElem_cons h,List.flatMap_cons]
theorem KN {α:Type} {f : α→List Int} {l:List α}:(l.drop l.length).flatMap f=[]:=by rw [List.drop_length]; rfl
structure PlY where
 i:Nat
 c:Nat
 cap:Nat
 l:List Int
theorem FP {i c cap:Nat} {l:List Int}:(PlY.mk i c cap l).i=i:=(rfl)
theorem FQ {i c cap:Nat} {l:List Int}:(PlY.mk i c cap l).c=c:=(rfl)
theorem Fm {i c cap:Nat} {l:List Int}:(PlY.mk i c cap l).cap=cap:=(rfl)
theorem FU {i c cap:Nat} {l:List Int}:(PlY.mk i c cap l).l=l:=(rfl)
abbrev Ga (b1:Nat) (p:PlanX) (c cap:Nat) (L:List Int):List (Nat×Blk):=[(c,.row 3 1 cap (Fy L)),(b1,.box 28 p.cells)]
theorem QK {p:PlanX} (h:p.Sm) (h1:p.ms.length≤1000) (h2:p.fs.length≤1000) (h3:p.cs.length≤1000):(Eq p).length≤1000000:=by
 have hm:(p.ms.flatMap HF).length=p.ms.length*2:=by rw [List.length_flatMap]; induction p.ms <;> simp [HF] at * <;> omega
 have hf:(p.fs.flatMap Gr).length=p.fs.length*2:=by rw [List.length_flatMap]; induction p.fs <;> simp [Gr] at * <;> omega
 have hc:(p.cs.flatMap GO).length=p.cs.length*2:=by rw [List.length_flatMap]; induction p.cs <;> simp [GO] at * <;> omega
 simp -implicitDefEqProofs only [Eq,List.length_append,hm,hf,hc,List.length_cons,List.length_nil]
 omega
theorem J3 {p:PlanX} (hp:p.Sm) (hl:(Eq p).length≤1000000):DataW Try.prog Rl [FS p] (GZ (Eq p)):=by
 have z1:=hp.m
 have z2:=hp.f
 have z3:=hp.c
 refine D9 Uz (by simp) ?_
 simp -implicitDefEqProofs -proj only [go_sem,seval]
 refine D4 (fun b1 hb1=>?_)
 simp -implicitDefEqProofs -proj only [go_sem,seval]
 refine FN (fun bs hs=>?_)
 replace hs:AH Heap.none b1 _ bs=none:=hs
 obtain ⟨n1,n2⟩:=EA hs D8
 simp -implicitDefEqProofs -proj only [go_sem,seval,n1,n2,E8]
 refine EY (fun y:PlY=>y.i≤p.ms.length∧¬b1=y.c∧y.l++((p.ms.drop y.i).flatMap HF++(p.fs.flatMap Gr++p.cs.flatMap GO))=Eq p) 61 (fun y=>[(1,.ptr b1 0),(3,.own y.c 1 0 y.l.length y.cap),(16,.d (.sl 5 (EO p.ms))),(17,i64 p.ms.length),(18,i64 y.i)]) (fun y=>Ga b1 p y.c y.cap y.l) (fun y=>p.ms.length-y.i) ⟨0,bs,2,[p.ln,p.co]⟩ ⟨Nat.zero_le _,n2,rfl⟩ rfl ?_ ?_ ?_
 ·simp -implicitDefEqProofs -proj only [go_sem,seval,Ai,FP,FQ,Fm,FU]
 ·simp -implicitDefEqProofs -proj only [go_sem,seval]
  exact ⟨D8,(Ap n1).trans D8,trivial⟩
 clear hs n1 n2 hb1
 rintro ⟨i,c,cap,L⟩ ⟨hi,hcb,hL⟩
 simp -implicitDefEqProofs only [FP,FQ,FU] at hi hcb hL
 have hall:AT (D6 (Ga b1 p c cap L)) (Ga b1 p c cap L):=Eu (by simp [Ae]; exact fun e=>hcb e.symm)
 obtain ⟨H,hH⟩:∃H,D6 (Ga b1 p c cap L)=H:=⟨_,rfl⟩
 rw [hH] at hall
 obtain ⟨q1,g1,qz⟩:=hall
 clear qz
 by_cases h:i<p.ms.length
 ·have hel:=Hq h
  rw [KD h,List.append_assoc] at hL
  generalize p.ms[i]=m at *
  simp -implicitDefEqProofs -proj only [go_sem,seval,FP,FQ,Fm,FU,hH,decide_eq_true (show (i:Int)<p.ms.length by omega)]
  refine ES _ (by omega) hel ?_
  simp -implicitDefEqProofs -proj only [go_sem,seval]
  refine D4 (fun b5 hb5=>?_)
  replace hb5:H b5=none:=hb5
  obtain ⟨n1,n2⟩:=EA hb5 q1
  obtain ⟨n3,n4⟩:=EA hb5 g1
  simp -implicitDefEqProofs -proj only [go_sem,seval]
  refine FN (fun bs hs=>?_)
  replace hs:AH H b5 _ bs=none:=hs
  obtain ⟨n5,n6⟩:=EA hs ((Ap n1).trans q1)
  obtain ⟨n7,n8⟩:=EA hs ((Ap n3).trans g1)
  simp -implicitDefEqProofs -proj only [go_sem,seval]
  refine Jh (M:=HF m) (F9 D8 rfl) ((Ap n5).trans ((Ap n1).trans q1)) rfl rfl (by decide) hL hl (fun c' cap' H' L' hL' r1 r2=>?_)
  obtain ⟨u1,m3,m4⟩:=r2 b1 _ ((Ap n7).trans ((Ap n3).trans g1)) hcb
  simp -implicitDefEqProofs -proj only [go_sem,seval]
  refine Ed ⟨i+1,c',cap',L'⟩ ⟨by show i+1≤_; omega,m3,hL'⟩ (by show p.ms.length-(i+1)<p.ms.length-i; omega) rfl ?_ ⟨r1,u1,trivial⟩
  simp -implicitDefEqProofs -proj only [go_sem,seval,Ai,FP,FQ,Fm,FU,Es (show i<9223372036854775807 by omega)]
 have hi':i=p.ms.length:=by omega
 subst hi'
 rw [KN,List.nil_append] at hL
 clear h hi
 simp -implicitDefEqProofs -proj only [go_sem,seval,FP,FQ,Fm,FU,hH,g1,FA,decide_eq_false (show ¬(p.ms.length:Int)<p.ms.length by omega)]
 clear hH
 refine EY (fun y:PlY=>y.i≤p.fs.length∧¬b1=y.c∧y.l++((p.fs.drop y.i).flatMap Gr++p.cs.flatMap GO)=Eq p) 61 (fun y=>[(1,.ptr b1 0),(3,.own y.c 1 0 y.l.length y.cap),(31,.d (.sl 10 (EQ p.fs))),(32,i64 p.fs.length),(33,i64 y.i)]) (fun y=>Ga b1 p y.c y.cap y.l) (fun y=>p.fs.length-y.i) ⟨0,c,cap,L⟩ ⟨Nat.zero_le _,hcb,hL⟩ rfl ?_ ?_ ?_
 ·simp -implicitDefEqProofs -proj only [go_sem,seval,Ai,FP,FQ,Fm,FU]
 ·exact ⟨q1,g1,trivial⟩
 clear q1 g1 hL hcb
 clear L cap c H
 rintro ⟨i,c,cap,L⟩ ⟨hi,hcb,hL⟩
 simp -implicitDefEqProofs only [FP,FQ,FU] at hi hcb hL
 have hall:AT (D6 (Ga b1 p c cap L)) (Ga b1 p c cap L):=Eu (by simp [Ae]; exact fun e=>hcb e.symm)
 obtain ⟨H,hH⟩:∃H,D6 (Ga b1 p c cap L)=H:=⟨_,rfl⟩
 rw [hH] at hall
 obtain ⟨q1,g1,qz⟩:=hall
 clear qz
 by_cases h:i<p.fs.length
 ·have hel:=JF h
  rw [KD h,List.append_assoc] at hL
  generalize p.fs[i]=x at *
  simp -implicitDefEqProofs -proj only [go_sem,seval,FP,FQ,Fm,FU,hH,decide_eq_true (show (i:Int)<p.fs.length by omega)]
  refine ES _ (by omega) hel ?_
  simp -implicitDefEqProofs -proj only [go_sem,seval]
  refine D4 (fun b5 hb5=>?_)
  replace hb5:H b5=none:=hb5
  obtain ⟨n1,n2⟩:=EA hb5 q1
  obtain ⟨n3,n4⟩:=EA hb5 g1
  simp -implicitDefEqProofs -proj only [go_sem,seval]
  refine FN (fun bs hs=>?_)
  replace hs:AH H b5 _ bs=none:=hs
  obtain ⟨n5,n6⟩:=EA hs ((Ap n1).trans q1)
  obtain ⟨n7,n8⟩:=EA hs ((Ap n3).trans g1)
  simp -implicitDefEqProofs -proj only [go_sem,seval]
  refine Jh (M:=Gr x) (F9 D8 rfl) ((Ap n5).trans ((Ap n1).trans q1)) rfl rfl (by decide) hL hl (fun c' cap' H' L' hL' r1 r2=>?_)
  obtain ⟨u1,m3,m4⟩:=r2 b1 _ ((Ap n7).trans ((Ap n3).trans g1)) hcb
  simp -implicitDefEqProofs -proj only [go_sem,seval]
  refine Ed ⟨i+1,c',cap',L'⟩ ⟨by show i+1≤_; omega,m3,hL'⟩ (by show p.fs.length-(i+1)<p.fs.length-i; omega) rfl ?_ ⟨r1,u1,trivial⟩
  simp -implicitDefEqProofs -proj only [go_sem,seval,Ai,FP,FQ,Fm,FU,Es (show i<9223372036854775807 by omega)]
 have hi':i=p.fs.length:=by omega
 subst hi'
 rw [KN,List.nil_append] at hL
 clear h hi
 simp -implicitDefEqProofs -proj only [go_sem,seval,FP,FQ,Fm,FU,hH,g1,En,decide_eq_false (show ¬(p.fs.length:Int)<p.fs.length by omega)]
 clear hH
 have hL0:L++(p.cs.drop 0).flatMap GO=Eq p:=hL
 refine EY (fun y:PlY=>y.i≤p.cs.length∧y.l++(p.cs.drop y.i).flatMap GO=Eq p) 61 (fun y=>[(3,.own y.c 1 0 y.l.length y.cap),(46,.d (.sl 16 (ET p.cs))),(47,i64 p.cs.length),(48,i64 y.i)]) (fun y=>[(y.c,.row 3 1 y.cap (Fy y.l))]) (fun y=>p.cs.length-y.i) ⟨0,c,cap,L⟩ ⟨Nat.zero_le _,hL0⟩ rfl ?_ ?_ ?_
 ·simp -implicitDefEqProofs -proj only [go_sem,seval,Ai,FP,FQ,Fm,FU]
 ·exact ⟨q1,trivial⟩
 clear q1 g1 hL hL0 hcb
 clear L cap c H
 rintro ⟨i,c,cap,L⟩ ⟨hi,hL⟩
 simp -implicitDefEqProofs only [FP,FQ,FU] at hi hL
 have hall:AT (D6 [(c,Blk.row 3 1 cap (Fy L))]) [(c,.row 3 1 cap (Fy L))]:=Eu (by simp [Ae])
 obtain ⟨H,hH⟩:∃H,D6 [(c,Blk.row 3 1 cap (Fy L))]=H:=⟨_,rfl⟩
 rw [hH] at hall
 obtain ⟨q1,qz⟩:=hall
 clear qz
 by_cases h:i<p.cs.length
 ·have hel:=I3 h
  rw [KD h] at hL
  generalize p.cs[i]=x at *
  simp -implicitDefEqProofs -proj only [go_sem,seval,FP,FQ,Fm,FU,hH,decide_eq_true (show (i:Int)<p.cs.length by omega)]
  refine ES _ (by omega) hel ?_
  simp -implicitDefEqProofs -proj only [go_sem,seval]
  refine D4 (fun b5 hb5=>?_)
  replace hb5:H b5=none:=hb5
  obtain ⟨n1,n2⟩:=EA hb5 q1
  simp -implicitDefEqProofs -proj only [go_sem,seval]
  refine FN (fun bs hs=>?_)
  replace hs:AH H b5 _ bs=none:=hs
  obtain ⟨n5,n6⟩:=EA hs ((Ap n1).trans q1)
  simp -implicitDefEqProofs -proj only [go_sem,seval]
  refine Jh (M:=GO x) (F9 D8 rfl) ((Ap n5).trans ((Ap n1).trans q1)) rfl rfl (by decide) hL hl (fun c' cap' H' L' hL' r1 r2=>?_)
  simp -implicitDefEqProofs -proj only [go_sem,seval]
  refine Ed ⟨i+1,c',cap',L'⟩ ⟨by show i+1≤_; omega,hL'⟩ (by show p.cs.length-(i+1)<p.cs.length-i; omega) rfl ?_ ⟨r1,trivial⟩
  simp -implicitDefEqProofs -proj only [go_sem,seval,Ai,FP,FQ,Fm,FU,Es (show i<9223372036854775807 by omega)]
 have hi':i=p.cs.length:=by omega
 subst hi'
 rw [KN,List.append_nil] at hL
 subst hL
 simp -implicitDefEqProofs -proj only [go_sem,seval,FP,FQ,Fm,FU,hH,decide_eq_false (show ¬(p.cs.length:Int)<p.cs.length by omega)]
 have:=LendV.own c 1 cap 3 cap (Fy (Eq p)) q1
 rwa [IK] at this
def Gs (x y:Int):Bool:=decide (x=y)
def GI (x y:ByteArray):Bool:=x.toList == y.toList
theorem M0 {l:List ByteArray} {i:Nat} (h:i<l.length):(EV l)[((i:Int)).toNat]? = some [.str l[i]]:=by rw [Int.toNat_natCast]; simp [EV,h]
theorem Sy {a b:List Int} (ha:a.length≤1000000) (hb:b.length≤1000000):DataW Try.prog Vp [GZ a,GZ b] (bv (Ao Gs a b)):=by
 refine D9 Pl (by simp) ?_
 by_cases hl:a.length=b.length
 rotate_left
 ·rw [GU hl]
  simp -implicitDefEqProofs -proj only [go_sem,seval,IK,decide_eq_false (show ¬(a.length:Int)=b.length by omega)]
  exact AU rfl
 simp -implicitDefEqProofs -proj only [go_sem,seval,IK,decide_eq_true (show (a.length:Int)=b.length by omega)]
 refine EY (fun i:Nat=>i≤a.length∧Ao Gs (a.drop i) (b.drop i)=Ao Gs a b) 26 (fun i=>[(0,GZ a),(1,GZ b),(12,i64 a.length),(13,i64 i)]) (fun _=>[]) (fun i=>a.length-i) 0 ⟨Nat.zero_le _,by simp⟩ rfl ?_ ?_ ?_
 ·simp -implicitDefEqProofs -proj only [go_sem,seval,Ai]
  try simp [hl]
 ·trivial
 ·rintro i ⟨hi,hat⟩
  by_cases h:i<a.length
  ·have h':i<b.length:=by omega
   have e1:=Je (List.getElem?_eq_getElem h)
   have e2:=Je (List.getElem?_eq_getElem h')
   rw [List.drop_eq_getElem_cons h,List.drop_eq_getElem_cons h',Ao] at hat
   generalize a[i]=x at *
   generalize b[i]=y at *
   simp -implicitDefEqProofs -proj only [go_sem,seval,decide_eq_true (show (i:Int)<a.length by omega)]
   refine ES _ (by omega) e1 ?_
   simp -implicitDefEqProofs -proj only [go_sem,seval]
   refine ES _ (by omega) e2 ?_
   by_cases hp:x=y
   ·rw [show Gs x y=true from decide_eq_true hp,Bool.true_and] at hat
    simp -implicitDefEqProofs -proj only [go_sem,seval,decide_eq_true hp]
    refine Ed (i+1) ⟨by omega,hat⟩ (by omega) rfl ?_ trivial
    simp -implicitDefEqProofs -proj only [go_sem,seval,Ai,Es (show i<9223372036854775807 by omega)]
   ·rw [show Gs x y=false from decide_eq_false hp,Bool.false_and] at hat
    simp -implicitDefEqProofs -proj only [go_sem,seval,decide_eq_false hp]
    rw [←hat]
    exact AU rfl
  ·have hi':i=a.length:=by omega
   subst hi'
   rw [List.drop_length,hl,List.drop_length] at hat
   simp -implicitDefEqProofs -proj only [go_sem,seval,decide_eq_false (show ¬(a.length:Int)<a.length by omega)]
   rw [←hat]
   exact AU rfl
theorem Tt {a b:List ByteArray} (ha:a.length≤1000000) (hb:b.length≤1000000):DataW Try.prog SQ [.d (.sl 1 (EV a)),.d (.sl 1 (EV b))] (bv (Ao GI a b)):=by
 refine D9 Ph (by simp) ?_
 by_cases hl:a.length=b.length
 rotate_left
 ·rw [GU hl]
  simp -implicitDefEqProofs -proj only [go_sem,seval,Gx,decide_eq_false (show ¬(a.length:Int)=b.length by omega)]
  exact AU rfl
 simp -implicitDefEqProofs -proj only [go_sem,seval,Gx,decide_eq_true (show (a.length:Int)=b.length by omega)]
 refine EY (fun i:Nat=>i≤a.length∧Ao GI (a.drop i) (b.drop i)=Ao GI a b) 26 (fun i=>[(0,.d (.sl 1 (EV a))),(1,.d (.sl 1 (EV b))),(12,i64 a.length),(13,i64 i)]) (fun _=>[]) (fun i=>a.length-i) 0 ⟨Nat.zero_le _,by simp⟩ rfl ?_ ?_ ?_
 ·simp -implicitDefEqProofs -proj only [go_sem,seval,Ai]
  try simp [hl]
 ·trivial
 ·rintro i ⟨hi,hat⟩
  by_cases h:i<a.length
  ·have h':i<b.length:=by omega
   have e1:=M0 h
   have e2:=M0 h'
   rw [List.drop_eq_getElem_cons h,List.drop_eq_getElem_cons h',Ao] at hat
   generalize a[i]=x at *
   generalize b[i]=y at *
   simp -implicitDefEqProofs -proj only [go_sem,seval,decide_eq_true (show (i:Int)<a.length by omega)]
   refine ES _ (by omega) e1 ?_
   simp -implicitDefEqProofs -proj only [go_sem,seval]
   refine ES _ (by omega) e2 ?_
   cases hp:GI x y
   ·rw [hp,Bool.false_and] at hat
    unfold GI at hp
    simp -implicitDefEqProofs -proj only [go_sem,seval,JX,hp]
    rw [←hat]
    exact AU rfl
   ·rw [hp,Bool.true_and] at hat
    unfold GI at hp
    simp -implicitDefEqProofs -proj only [go_sem,seval,JX,hp]
    refine Ed (i+1) ⟨by omega,hat⟩ (by omega) rfl ?_ trivial
    simp -implicitDefEqProofs -proj only [go_sem,seval,Ai,Es (show i<9223372036854775807 by omega)]
  ·have hi':i=a.length:=by omega
   subst hi'
   rw [List.drop_length,hl,List.drop_length] at hat
   simp -implicitDefEqProofs -proj only [go_sem,seval,decide_eq_false (show ¬(a.length:Int)<a.length by omega)]
   rw [←hat]
   exact AU rfl
theorem Ln {a b:PlanX} (h1:a.Sm) (h2:b.Sm) (l1:(Eg a).length≤1000000) (l2:(Eg b).length≤1000000):DataW Try.prog Ru [FS a,FS b] (bv (Ao GI (Eg a) (Eg b))):=by
 refine D9 WY (by simp) ?_
 simp -implicitDefEqProofs -proj only [go_sem,seval]
 refine D4 (fun b2 hb2=>?_)
 simp -implicitDefEqProofs -proj only [go_sem,seval]
 refine D4 (fun b3 hb3=>?_)
 replace hb3:AH Heap.none b2 _ b3=none:=hb3
 obtain ⟨n1,n2⟩:=EA hb3 D8
 simp -implicitDefEqProofs -proj only [go_sem,seval,n1,n2]
 refine E2 (Kx l1 h1.m h1.f h1.c h1.ta) ?_
 simp -implicitDefEqProofs -proj only [go_sem,seval,n1,n2]
 refine EE (Kx l2 h2.m h2.f h2.c h2.ta) ?_
 simp -implicitDefEqProofs -proj only [go_sem,seval,n1,n2]
 refine EE (Tt l1 l2) ?_
 simp -implicitDefEqProofs -proj only [go_sem,seval]
 exact AU rfl
theorem Ix {x y:ByteArray}:(x.toList == y.toList)=true↔x=y:=by
 rw [beq_iff_eq]
 exact ⟨U1,fun e=>by rw [e]⟩
theorem MD {α:Type} {p : α→α→Bool} (hp:∀x y,p x y=true↔x=y):∀{a b:List α},Ao p a b=true↔a=b
 | [],[]=>by simp [Ao]
 | x::a,[]=>by simp [Ao]
 | [],y::b=>by simp [Ao]
 | x::a,y::b=>by simp [Ao,hp,MD hp]
theorem Hb {α β:Type} {p : α→α→Bool} {g : α→List β} (hp:∀x y,p x y=true→g x=g y):∀{a b:List α},Ao p a b=true→a.flatMap g=b.flatMap g∧a.length=b.length
 | [],[],_=>⟨rfl,rfl⟩
 | x::a,[],h=>by simp [Ao] at h
 | [],y::b,h=>by simp [Ao] at h
 | x::a,y::b,h=>by
  simp -implicitDefEqProofs only [Ao,Bool.and_eq_true] at h
  obtain ⟨h1,h2⟩:=Hb hp h.2
  exact ⟨by rw [List.flatMap_cons,List.flatMap_cons,hp x y h.1,h1],by simp [h2]⟩
theorem HK {α β:Type} {p : α→α→Bool} {g : α→List β} {F : α→Prop} (hg:∀x y u v,F x→F y→g x++u=g y++v→p x y=true∧u=v):∀{a b:List α} {u v:List β},(∀x∈a,F x)→(∀y∈b,F y)→a.length=b.length→a.flatMap g++u=b.flatMap g++v→Ao p a b=true∧u=v
 | [],[],u,v,_,_,_,h=>⟨rfl,by simpa using h⟩
 | x::a,[],u,v,_,_,h,_=>by simp at h
 | [],y::b,u,v,_,_,h,_=>by simp at h
 | x::a,y::b,u,v,hx,hy,hl,h=>by
  rw [List.flatMap_cons,List.flatMap_cons,List.append_assoc,List.append_assoc] at h
  obtain ⟨h1,h2⟩:=hg x y _ _ (hx x (by simp)) (hy y (by simp)) h
  obtain ⟨h3,h4⟩:=HK hg (fun z hz=>hx z (by simp [hz])) (fun z hz=>hy z (by simp [hz])) (by simpa using hl) h2
  exact ⟨by simp [Ao,h1,h3],h4⟩
theorem E7 {n m:Int} (hn:Fit n) (hm:Fit m):AQ n=AQ m↔n=m:=⟨fun e=>P4 hn hm (by rw [e]),fun e=>by rw [e]⟩
theorem Mz {n:Nat} (h:n≤1000000):Fit (n:Int):=by unfold Fit; omega
theorem He {n m:Nat} (hn:n≤1000000) (hm:m≤1000000) (h:AQ n=AQ m):n=m:=by
 have:=(E7 (Mz hn) (Mz hm)).1 h
 omega
theorem Tf {a b:Bool} (h:yn a=yn b):a=b:=by
 cases a <;> cases b <;> first | rfl | exact absurd h (by decide)
theorem XX {a b:WinX} (ha:a.Fit) (hb:b.Fit) (h:Em a=Em b):FC a b=true:=by
 simp -implicitDefEqProofs only [Em,List.cons.injEq,and_true] at h
 obtain ⟨h0,h1,h2,h3,h4,h5,h6⟩:=h
 obtain ⟨⟨a1,a2,a3⟩,a4,a5,a6⟩:=ha
 obtain ⟨⟨b1,b2,b3⟩,b4,b5,b6⟩:=hb
 rw [E7 a1 b1] at h1
 rw [E7 a2 b2] at h2
 rw [E7 a3 b3] at h3
 rw [E7 a4 b4] at h4
 rw [E7 a5 b5] at h5
 rw [E7 a6 b6] at h6
 simp [FC,Tf h0,h1,h2,h3,h4,h5,h6]
theorem Ka {a b:WinX} (h:FC a b=true):Em a=Em b:=by
 simp -implicitDefEqProofs only [FC,Bool.and_eq_true,beq_iff_eq,decide_eq_true_eq] at h
 obtain ⟨h0,h1,h2,h3,h4,h5,h6⟩:=h
 simp [Em,h0,h1,h2,h3,h4,h5,h6]
theorem N6 {x y:MeterX} {u v:List ByteArray} (hx:x.Fit) (hy:y.Fit) (h:Fi x++u=Fi y++v):FD x y=true∧u=v:=by
 simp -implicitDefEqProofs only [Fi,List.cons_append,List.nil_append,List.cons.injEq] at h
 obtain ⟨h1,h2,h3,h4⟩:=h
 rw [E7 hx.1 hy.1] at h3
 exact ⟨by simp [FD,h1,h2,h3],h4⟩
theorem Vz {x y:MeterX} (h:FD x y=true):Fi x=Fi y:=by
 simp -implicitDefEqProofs only [FD,Bool.and_eq_true,Ix,decide_eq_true_eq] at h
 simp [Fi,h]
theorem KO {a b:WinX} {u v:List ByteArray} (ha:a.Fit) (hb:b.Fit) (h:Em a++u=Em b++v):FC a b=true∧u=v:=by
 obtain ⟨h1,h2⟩:=List.append_inj h rfl
 exact ⟨XX ha hb h1,h2⟩
theorem Wp {x y:FeeX} {u v:List ByteArray} (hx:x.Fit) (hy:y.Fit) (h:Fg x++u=Fg y++v):FT x y=true∧u=v:=by
 simp -implicitDefEqProofs only [Fg,List.cons_append,List.cons.injEq] at h
 obtain ⟨h1,h2⟩:=h
 rw [E7 hx.1 hy.1] at h1
 obtain ⟨h3,h4⟩:=KO hx.2.1 hy.2.1 h2
 exact ⟨by simp [FT,h1,h3],h4⟩
theorem Ud {x y:FeeX} (h:FT x y=true):Fg x=Fg y:=by
 simp -implicitDefEqProofs only [FT,Bool.and_eq_true,decide_eq_true_eq] at h
 simp [Fg,h.1,Ka h.2]
theorem WA {x y:Tier} {u v:List ByteArray} (hx:x.Fit) (hy:y.Fit) (h:Fj x++u=Fj y++v):FR x y=true∧u=v:=by
 simp -implicitDefEqProofs only [Fj,List.cons_append,List.nil_append,List.cons.injEq] at h
 obtain ⟨h1,h2,h3⟩:=h
 rw [E7 hx.1 hy.1] at h1
 rw [E7 hx.2 hy.2] at h2
 exact ⟨by simp [FR,h1,h2],h3⟩
theorem VF {x y:Tier} (h:FR x y=true):Fj x=Fj y:=by
 simp -implicitDefEqProofs only [FR,Bool.and_eq_true,decide_eq_true_eq] at h
 simp [Fj,h]
theorem XT {x y:Adj} {u v:List ByteArray} (hx:x.Fit) (hy:y.Fit) (h:Fd x++u=Fd y++v):FX x y=true∧u=v:=by
 simp -implicitDefEqProofs only [Fd,List.cons_append,List.nil_append,List.cons.injEq] at h
 obtain ⟨h1,h2,h3,h4⟩:=h
 rw [E7 hx.1 hy.1] at h1
 rw [E7 hx.2.1 hy.2.1] at h2
 rw [E7 hx.2.2 hy.2.2] at h3
 exact ⟨by simp [FX,h1,h2,h3],h4⟩
theorem Px {x y:Adj} (h:FX x y=true):Fd x=Fd y:=by
 simp -implicitDefEqProofs only [FX,Bool.and_eq_true,decide_eq_true_eq] at h
 simp [Fd,h]
structure ChX.Sm (x:ChX):Prop where
 fit:x.Fit
 t:x.ts.length≤1000000
 a:x.ad.length≤1000000
theorem ND {x y:ChX} {u v:List ByteArray} (hx:x.Sm) (hy:y.Sm) (h:Ew x++u=Ew y++v):E3 x y=true∧u=v:=by
 obtain ⟨fx,tx,ax⟩:=hx
 obtain ⟨fy,ty,ay⟩:=hy
 simp -implicitDefEqProofs only [Ew,Hk,List.append_assoc,List.cons_append,List.nil_append,List.cons.injEq] at h
 obtain ⟨h1,h2⟩:=h
 obtain ⟨h3,h4⟩:=KO fx.w fy.w h2
 simp -implicitDefEqProofs only [List.cons.injEq] at h4
 obtain ⟨k1,k2,k3,k4,k5,k6,k7⟩:=h4
 rw [E7 fx.al fy.al] at k1
 rw [E7 fx.bl fy.bl] at k2
 rw [E7 fx.ki fy.ki] at k3
 rw [E7 fx.mo fy.mo] at k4
 obtain ⟨e1,k8⟩:=HK (fun x y u v=>WA) fx.ts fy.ts (He tx ty k5) k7
 obtain ⟨e2,k9⟩:=HK (fun x y u v=>XT) fx.ad fy.ad (He ax ay k6) k8
 exact ⟨by simp [E3,h1,h3,k1,k2,k3,k4,e1,e2],k9⟩
theorem Sf {x y:ChX} (h:E3 x y=true):Ew x=Ew y:=by
 simp -implicitDefEqProofs only [E3,Bool.and_eq_true,Ix,decide_eq_true_eq] at h
 obtain ⟨h1,h2,h3,h4,h5,h6,h7,h8⟩:=h
 obtain ⟨e1,e2⟩:=Hb (p:=FR) (g:=Fj) (fun _ _=>VF) h7
 obtain ⟨e3,e4⟩:=Hb (p:=FX) (g:=Fd) (fun _ _=>Px) h8
 simp -implicitDefEqProofs only [Ew,Hk,h1,Ka h2,h3,h4,h5,h6,e1,e2,e3,e4]
theorem LK {a b c d:DateX}:FC ⟨false,a,b⟩ ⟨false,c,d⟩=(Fe a c&&Fe b d):=by
 simp [FC,Fe,Bool.and_assoc]
theorem O4 {a b:PlanX} (ha:a.Fit) (hb:b.Fit) (sa:a.Sm) (sb:b.Sm):Eg a=Eg b↔FK a b=true:=by
 constructor
 ·intro h
  simp -implicitDefEqProofs only [Eg,Hm,List.append_assoc,List.cons_append,List.nil_append,List.cons.injEq] at h
  obtain ⟨h1,h2,h3⟩:=h
  obtain ⟨h4,h5⟩:=KO (a:=⟨false,a.f,a.t⟩) (b:=⟨false,b.f,b.t⟩) ⟨ha.f,ha.t⟩ ⟨hb.f,hb.t⟩ h3
  rw [LK,Bool.and_eq_true] at h4
  simp -implicitDefEqProofs only [List.cons.injEq] at h5
  obtain ⟨k1,k2,k3,k4⟩:=h5
  obtain ⟨e1,k5⟩:=HK (fun x y u v=>N6) ha.ms hb.ms (He sa.m sb.m k1) k4
  obtain ⟨e2,k6⟩:=HK (fun x y u v=>Wp) ha.fs hb.fs (He sa.f sb.f k2) k5
  obtain ⟨e3,_⟩:=HK (u:=[]) (v:=[]) (fun x y u v=>ND) (fun x hx=>⟨ha.cs x hx,(sa.ta x hx).1,(sa.ta x hx).2⟩) (fun x hx=>⟨hb.cs x hx,(sb.ta x hx).1,(sb.ta x hx).2⟩) (He sa.c sb.c k3) (by rw [k6])
  simp [FK,h1,h2,h4.1,h4.2,e1,e2,e3]
 ·intro h
  simp -implicitDefEqProofs only [FK,Bool.and_eq_true,Ix] at h
  obtain ⟨h1,h2,h3,h4,h5,h6,h7⟩:=h
  obtain ⟨e1,e2⟩:=Hb (p:=FD) (g:=Fi) (fun _ _=>Vz) h5
  obtain ⟨e3,e4⟩:=Hb (p:=FT) (g:=Fg) (fun _ _=>Ud) h6
  obtain ⟨e5,e6⟩:=Hb (p:=E3) (g:=Ew) (fun _ _=>Sf) h7
  have e7:Em ⟨false,a.f,a.t⟩=Em ⟨false,b.f,b.t⟩:=Ka (by rw [LK,h3,h4]; rfl)
  simp -implicitDefEqProofs only [Eg,Hm,h1,h2,e1,e2,e3,e4,e5,e6,e7]
theorem Ky {a b:PlanX} (ha:a.Fit) (hb:b.Fit) (sa:a.Sm) (sb:b.Sm):Ao GI (Eg a) (Eg b)=FK a b:=by
 rw [Bool.eq_iff_iff,MD (p:=GI) (fun _ _=>Ix),O4 ha hb sa sb]
theorem GK {α:Type} {p : α→α→Bool} (hp:∀x,p x x=true):∀a:List α,Ao p a a=true
 | []=>rfl
 | x::a=>by simp [Ao,hp,GK hp a]
theorem If {α:Type} {p : α→α→Bool} {g : α→α} (hp:∀x,p x (g x)=true):∀a:List α,Ao p a (a.map g)=true
 | []=>rfl
 | x::a=>by simp [Ao,hp,If hp a]
theorem LU (a:DateX):Fe a a=true:=by simp [Fe]
theorem Ig (a:WinX):FC a a=true:=by simp [FC]
theorem K8 (a:Tier):FR a a=true:=by simp [FR]
theorem LZ (a:Adj):FX a a=true:=by simp [FX]
theorem Wn (a:MeterX):FD a a.pl=true:=by simp [FD,MeterX.pl]
theorem PU (a:FeeX):FT a a.pl=true:=by simp [FT,FeeX.pl,Ig]
theorem SN (a:ChX):E3 a a.pl=true:=by simp [E3,ChX.pl,Ig,GK K8,GK LZ]
theorem Or (a:MeterX):FD a a=true:=by simp [FD]
theorem XS (a:FeeX):FT a a=true:=by simp [FT,Ig]
theorem UZ (a:ChX):E3 a a=true:=by simp [E3,Ig,GK K8,GK LZ]
theorem U5 (a:PlanX):FK a a=true:=by simp [FK,LU,GK Or,GK XS,GK UZ]
theorem VX (a:PlanX):FK a a.pl=true:=by simp [FK,PlanX.pl,LU,If Wn,If PU,If SN]
theorem Gj:Fit 0:=by unfold Fit; omega
theorem PlanX.Fit.pl {p:PlanX} (h:p.Fit):p.pl.Fit:=by
 refine ⟨h.f,h.t,fun a ha=>?_,by simp -implicitDefEqProofs only [PlanX.pl,List.length_map]; exact h.mn,fun a ha=>?_,by simp -implicitDefEqProofs only [PlanX.pl,List.length_map]; exact h.fn,fun a ha=>?_,by simp -implicitDefEqProofs only [PlanX.pl,List.length_map]; exact h.cn,Gj,Gj⟩
 ·obtain ⟨x,hx,rfl⟩:=List.mem_map.1 ha
  exact ⟨(h.ms x hx).1,Gj,Gj⟩
 ·obtain ⟨x,hx,rfl⟩:=List.mem_map.1 ha
  exact ⟨(h.fs x hx).1,(h.fs x hx).2.1,Gj,Gj⟩
 ·obtain ⟨x,hx,rfl⟩:=List.mem_map.1 ha
  have:=h.cs x hx
  exact ⟨this.w,this.al,this.bl,this.ki,this.ts,this.tn,this.mo,this.ad,this.an,Gj,Gj⟩
theorem PlanX.Sm.pl {p:PlanX} (h:p.Sm):p.pl.Sm:=by
 refine ⟨by simp -implicitDefEqProofs only [PlanX.pl,List.length_map]; exact h.m,by simp -implicitDefEqProofs only [PlanX.pl,List.length_map]; exact h.f,by simp -implicitDefEqProofs only [PlanX.pl,List.length_map]; exact h.c,fun a ha=>?_⟩
 obtain ⟨x,hx,rfl⟩:=List.mem_map.1 ha
 exact h.ta x hx
structure PlanX.Lo (p:PlanX):Prop where
 m:p.ms.length≤20
 f:p.fs.length≤40
 c:p.cs.length≤40
 ta:∀x∈p.cs,x.ts.length≤40∧x.ad.length≤40
theorem PlanX.lo {p:PlanX} (h:¬GV p):p.Lo:=by
 refine ⟨?_,?_,?_,fun x hx=>?_⟩
 ·exact Nat.not_lt.1 fun e=>h (.inl (.inl (by omega)))
 ·exact Nat.not_lt.1 fun e=>h (.inl (.inr (.inl (by omega))))
 ·exact Nat.not_lt.1 fun e=>h (.inl (.inr (.inr (.inl (by omega)))))
 ·exact ⟨Nat.not_lt.1 fun e=>h (.inr (.inr ⟨x,hx,.inl (by omega)⟩)),Nat.not_lt.1 fun e=>h (.inr (.inr ⟨x,hx,.inr (.inl (by omega))⟩))⟩
theorem PlanX.Lo.sm {p:PlanX} (h:p.Lo):p.Sm:=⟨by have:=h.m; omega,by have:=h.f; omega,by have:=h.c; omega,fun x hx=>by have:=h.ta x hx; omega⟩
theorem HV {α β:Type} {g : α→List β} {n:Nat}:∀{l:List α},(∀x∈l,(g x).length≤n)→(l.flatMap g).length≤l.length*n
 | [],_=>by simp
 | x::l,h=>by
  rw [List.flatMap_cons,List.length_append,List.length_cons,Nat.add_mul,Nat.one_mul]
  have:=h x (by simp)
  have:=HV (l:=l) fun y hy=>h y (by simp [hy])
  omega
theorem TK {p:PlanX} {k:Nat} (hk:k≤100) (hm:p.ms.length≤k) (hf:p.fs.length≤k) (hc:p.cs.length≤k) (ht:∀x∈p.cs,x.ts.length≤k∧x.ad.length≤k):(Eg p).length≤1000000:=by
 have h1:(p.ms.flatMap Fi).length≤p.ms.length*3:=HV fun x _=>Nat.le_refl 3
 have h2:(p.fs.flatMap Fg).length≤p.fs.length*8:=HV fun x _=>Nat.le_refl 8
 have h3:(p.cs.flatMap Ew).length≤p.cs.length*514:=HV fun x hx=>by
  have h4:(x.ts.flatMap Fj).length≤x.ts.length*2:=HV fun x _=>Nat.le_refl 2
  have h5:(x.ad.flatMap Fd).length≤x.ad.length*3:=HV fun x _=>Nat.le_refl 3
  have h6:=ht x hx
  have h7:(Hk x).length=14:=rfl
  simp -implicitDefEqProofs only [Ew,List.length_append,h7]
  omega
 have h4:(Hm p).length=12:=rfl
 simp -implicitDefEqProofs only [Eg,List.length_append,h4]
 omega
theorem PlanX.Lo.txt {p:PlanX} (h:p.Lo):(Eg p).length≤1000000:=TK (k:=40) (by omega) (by have:=h.m; omega) h.f h.c h.ta
theorem PlanX.Lo.plc {p:PlanX} (h:p.Lo):(Eq p).length≤1000000:=QK h.sm (by have:=h.m; omega) (by have:=h.f; omega) (by have:=h.c; omega)
theorem PlanX.Lo.pl {p:PlanX} (h:p.Lo):p.pl.Lo:=by
 refine ⟨by simp -implicitDefEqProofs only [PlanX.pl,List.length_map]; exact h.m,by simp -implicitDefEqProofs only [PlanX.pl,List.length_map]; exact h.f,by simp -implicitDefEqProofs only [PlanX.pl,List.length_map]; exact h.c,fun a ha=>?_⟩
 obtain ⟨x,hx,rfl⟩:=List.mem_map.1 ha
 exact h.ta x hx
theorem Nd {p:PlanX}:∀n∈Eq p.pl,n=0:=by
 intro n hn
 simp -implicitDefEqProofs only [Eq,PlanX.pl,List.mem_append,List.mem_cons,List.not_mem_nil,or_false,List.mem_flatMap,List.mem_map] at hn
 rcases hn with (rfl | rfl) | ⟨m,⟨x,_,rfl⟩,h⟩ | ⟨m,⟨x,_,rfl⟩,h⟩ | ⟨m,⟨x,_,rfl⟩,h⟩
 ·rfl
 ·rfl
 ·simpa [HF,MeterX.pl] using h
 ·simpa [Gr,FeeX.pl] using h
 ·simpa [GO,ChX.pl] using h
theorem SU (n:Int):Gs n n=true:=by simp [Gs]
theorem Kp {H:Heap}:∀{l:List (Nat×Blk)},AT H l→∀k,D6 l k=none∨D6 l k=H k
 | [],_,_=>.inl rfl
 | (b,x)::l,h,k=>by
  rw [Am]
  by_cases e:k=b
  ·rw [if_pos e]
   subst e
   exact .inr h.1.symm
  ·rw [if_neg e]
   exact Kp h.2 k
abbrev sA:ByteArray:=⟨⟨[97]⟩⟩
abbrev sB:ByteArray:=⟨⟨[98]⟩⟩
theorem Oa (s:ByteArray):DataW Try.prog PK [.d (.str s)] (bv false):=by
 refine D9 P0 (by simp) ?_
 simp -implicitDefEqProofs -proj only [go_sem,seval,JX]
 refine AU ?_
 simp
theorem Sv (s t:ByteArray):DataW Try.prog Vu [.d (.str s),.d (.str t)] (bv (Op.bytesLess s.toList t.toList)):=by
 refine D9 Xg (by simp) ?_
 simp -implicitDefEqProofs -proj only [go_sem,seval]
 refine EE (Oa s) ?_
 simp -implicitDefEqProofs -proj only [go_sem,seval,T8]
 exact AU rfl
theorem Qa:Op.bytesLess sA.toList sB.toList=true:=by decide +kernel
abbrev rowBA:List (List D):=[[.str sB],[.str sA]]
abbrev GN:List (List D):=[[.str sA],[.str sB]]
abbrev H2 (c cap:Nat) (xs:List (List D)):List (Nat×Blk):=[(c,.row 9 1 cap xs)]
theorem UI {c cap cp:Nat}:CallW Try.prog O0 [.own c 1 0 2 cp,i64 0,i64 2] (D6 (H2 c cap rowBA)) fun _ H'=>H' c=some (.row 9 1 cap GN):=by
 have hall:∀xs,AT (D6 (H2 c cap xs)) (H2 c cap xs):=fun xs=>Eu (by simp [Ae])
 have hw1:IntKind.i64.wrap 1=1:=by decide
 have hw2:IntKind.i64.wrap 2=2:=by decide
 have hw0:IntKind.i64.wrap 0=0:=by decide
 refine D9 Oi (by simp) ?_
 simp -implicitDefEqProofs -proj only [go_sem,seval,hw1]
 refine EY (fun x:Nat=>x≤1) 49 (fun x=>[(0,.own c 1 0 2 cp),(1,i64 0),(2,i64 2),(6,i64 ((x:Int)+1))]) (fun x=>H2 c cap (if x=0 then rowBA else GN)) (fun x=>1-x) 0 (by omega) rfl ?_ ?_ ?_
 ·simp -implicitDefEqProofs -proj only [go_sem,seval,Ai]
 ·simp -implicitDefEqProofs -proj only [go_sem,seval]
  exact hall _
 ·intro x hx
  rcases (by omega:x=0∨x=1) with rfl | rfl
  ·simp -implicitDefEqProofs -proj only [go_sem,seval]
   refine EY (fun y:Nat=>y≤1) 49 (fun y=>[(0,.own c 1 0 2 cp),(1,i64 0),(2,i64 2),(6,i64 1),(7,i64 (1-(y:Int)))]) (fun y=>H2 c cap (if y=0 then rowBA else GN)) (fun y=>1-y) 0 (by omega) rfl ?_ ?_ ?_
   ·simp -implicitDefEqProofs -proj only [go_sem,seval,Ai]
   ·simp -implicitDefEqProofs -proj only [go_sem,seval]
    exact hall _
   ·intro y hy
    rcases (by omega:y=0∨y=1) with rfl | rfl
    ·have hr:D6 (H2 c cap rowBA) c=some (.row 9 1 cap rowBA):=(hall _).1
     have hw:IntKind.i64.wrap (1-1)=0:=by decide
     have hl:=Sv sA sB
     rw [Qa] at hl
     simp -implicitDefEqProofs -proj only [go_sem,seval,hr]
     (repeat' (with_reducible refine F4 ?_ (fun h=>?_); (focus first | decide | omega); clear h; try simp -implicitDefEqProofs -proj only [go_sem,seval,eq_self,hr]))
     refine Il _ rfl (by simp) ?_
     simp -implicitDefEqProofs -proj only [go_sem,seval,hr]
     refine Il _ rfl (by simp) ?_
     simp -implicitDefEqProofs -proj only [go_sem,seval,hr]
     refine EE hl ?_
     simp -implicitDefEqProofs -proj only [go_sem,seval,hr]
     (repeat' (with_reducible refine F4 ?_ (fun h=>?_); (focus first | decide | omega); clear h; try simp -implicitDefEqProofs -proj only [go_sem,seval,eq_self,hr]))
     refine Il _ rfl (by simp) ?_
     simp -implicitDefEqProofs -proj only [go_sem,seval,hr]
     refine Il _ rfl (by simp) ?_
     simp -implicitDefEqProofs -proj only [go_sem,seval,hr]
     (repeat' (with_reducible refine F4 ?_ (fun h=>?_); (focus first | decide | omega); clear h; try simp -implicitDefEqProofs -proj only [go_sem,seval,eq_self,hr]))
     refine I8 (cap:=cap) (t:=9) (xs:=rowBA) hr rfl (by simp) ?_
     simp -implicitDefEqProofs -proj only [go_sem,seval]
     (repeat' (with_reducible refine F4 ?_ (fun h=>?_); (focus first | decide | omega); clear h; try simp -implicitDefEqProofs -proj only [go_sem,seval,eq_self]))
     refine I8 (cap:=cap) (t:=9) (xs:=[[.str sB],[.str sB]]) (by simp -implicitDefEqProofs -proj only [go_sem,seval]; rfl) rfl (by simp) ?_
     simp -implicitDefEqProofs -proj only [go_sem,seval,hw0]
     refine Ed 1 (by omega) (by omega) rfl ?_ ?_
     ·simp -implicitDefEqProofs -proj only [go_sem,seval,Ai]
     ·simp -implicitDefEqProofs -proj only [go_sem,seval,AT]
      try rfl
    ·simp -implicitDefEqProofs -proj only [go_sem,seval]
     refine Ed 1 (by omega) (by omega) rfl ?_ ?_
     ·simp -implicitDefEqProofs -proj only [go_sem,seval,Ai,hw2]
     ·simp -implicitDefEqProofs -proj only [go_sem,seval]
      exact hall _
  ·have hr:D6 (H2 c cap GN) c=some (.row 9 1 cap GN):=(hall _).1
   simp -implicitDefEqProofs -proj only [go_sem,seval]
   try rfl
theorem Sz {c cap cp:Nat} {lim:Int}:CallW Try.prog QJ [.own c 1 0 2 cp,i64 0,i64 2,i64 lim] (D6 (H2 c cap rowBA)) fun _ H'=>H' c=some (.row 9 1 cap GN):=by
 have hall:∀xs,AT (D6 (H2 c cap xs)) (H2 c cap xs):=fun xs=>Eu (by simp [Ae])
 have hw2:IntKind.i64.wrap 2=2:=by decide
 refine D9 Qk (by simp) ?_
 simp -implicitDefEqProofs -proj only [go_sem,seval]
 refine EY (fun x:Nat=>x=0) 134 (fun x=>[(0,.own c 1 0 2 cp),(1,i64 0),(2,i64 2),(3,i64 lim)]) (fun x=>H2 c cap rowBA) (fun x=>x) 0 rfl rfl ?_ ?_ ?_
 ·simp -implicitDefEqProofs -proj only [go_sem,seval,Ai]
 ·exact hall _
 ·rintro x rfl
  simp -implicitDefEqProofs -proj only [go_sem,seval,hw2]
  refine Gt UI (fun r H' hk=>?_)
  simp -implicitDefEqProofs -proj only [go_sem,seval]
  exact hk
set_option maxRecDepth 100000 in
theorem Rn:DataW Try.prog VZ [.d (.int .u64 2)] (i64 2):=by
 refine D9 S0 (by simp) ?_
 simp -implicitDefEqProofs -proj only [go_sem,seval]
 refine F4 (by decide +kernel) (fun _=>?_)
 exact AU (QD (by decide +kernel))
theorem O6:DataW Try.prog Wz [.d (.int .u64 2)] (i64 2):=by
 refine D9 WT (by simp) ?_
 simp -implicitDefEqProofs -proj only [go_sem,seval]
 refine EE Rn ?_
 simp -implicitDefEqProofs -proj only [go_sem,seval]
 exact AU rfl
theorem RV {H:Heap} {c cap cp:Nat} (h:H c=some (.row 9 1 cap rowBA)):CallW Try.prog RB [.own c 1 0 2 cp] H fun _ H'=>H' c=some (.row 9 1 cap GN)∧∀k x,¬k=c→H k=some x→H' k=some x:=by
 have hall:AT (D6 (H2 c cap rowBA)) (H2 c cap rowBA):=Eu (by simp [Ae])
 refine D9 Vs (by simp) ?_
 have hw2:IntKind.u64.wrap 2=2:=by decide
 simp -implicitDefEqProofs -proj only [go_sem,seval,hw2]
 refine EE O6 ?_
 simp -implicitDefEqProofs -proj only [go_sem,seval]
 refine Gt (Xd (Sz (c:=c) (cap:=cap) (cp:=cp) (lim:=2)) (Kp ⟨h,trivial⟩)) (fun r H' hk=>?_)
 obtain ⟨H1,h1,h2,h3⟩:=hk
 simp -implicitDefEqProofs -proj only [go_sem,seval]
 refine ⟨h2 c _ h1,fun k x hk hx=>h3 k x hx ?_⟩
 simp -implicitDefEqProofs -proj only [go_sem,seval,hk]
 try rfl
abbrev s0:ByteArray:=⟨⟨[]⟩⟩
abbrev sP:ByteArray:=⟨⟨[112]⟩⟩
abbrev Ee (col:Int):List (List D):=[[.str sB,.str s0,.int .i64 0,.int .i64 0,.int .i64 col],[.str sA,.str s0,.int .i64 0,.int .i64 0,.int .i64 0]]
abbrev Jl:List (List D):=[[.int .i64 5,.bool false,.int .i64 0,.int .i64 0,.int .i64 0,.int .i64 0,.int .i64 0,.int .i64 0,.int .i64 0,.int .i64 0]]
abbrev HP (M F:List (List D)) (ln:Int):List AV:=[.d (.str sP),.d (.str s0),i64 0,i64 0,i64 0,i64 0,i64 0,i64 0,.d (.sl 5 M),.d (.sl 10 F),.d (.sl 16 []),i64 ln,i64 0]
abbrev I2 (M F:List (List D)) (ln:Int):AV:=.agg (HP M F ln)
structure NmX where
 i:Nat
 c:Nat
 cap:Nat
theorem GS {i c cap:Nat}:(NmX.mk i c cap).i=i:=(rfl)
theorem Gk {i c cap:Nat}:(NmX.mk i c cap).c=c:=(rfl)
theorem G3 {i c cap:Nat}:(NmX.mk i c cap).cap=cap:=(rfl)
def JK (b1:Nat) (y:NmX):List (Nat×Blk):=HY 9 1 y.c y.cap (rowBA.take y.i)++[(b1,.box 28 (HP (Ee 0) [] 0))]
theorem N3:NewW Try.prog QU [I2 (Ee 0) [] 0] (.d (.sl 1 GN)):=by
 have hw1:IntKind.i64.wrap 1=1:=by decide
 have hw2:IntKind.i64.wrap 2=2:=by decide
 refine D9 NG (by simp) ?_
 simp -implicitDefEqProofs -proj only [go_sem,seval]
 refine D4 (fun b1 hb1=>?_)
 have a1:=JP (x:=.box 28 (HP (Ee 0) [] 0)) hb1 (l:=[]) trivial
 have k1:=I5 (x:=.box 28 (HP (Ee 0) [] 0)) hb1 (l:=[]) trivial List.nodup_nil
 simp -implicitDefEqProofs -proj only [go_sem,seval]
 refine EY (fun y:NmX=>y.i≤2∧(Ae (JK b1 y)).Nodup) 22 (fun y=>[(1,.ptr b1 0),(3,Gv 0 1 y.c y.cap (rowBA.take y.i)),(7,.d (.sl 5 (Ee 0))),(8,i64 2),(9,i64 y.i)]) (JK b1) (fun y=>2-y.i) ⟨0,0,0⟩ ⟨Nat.zero_le _,k1⟩ rfl ?_ ?_ ?_
 ·simp -implicitDefEqProofs -proj only [go_sem,seval,Ai,GS,Gk,G3]
  try rfl
 ·simp -implicitDefEqProofs -proj only [go_sem,seval]
  exact a1
 ·rintro ⟨i,c,cap⟩ ⟨hi,hn⟩
  simp -implicitDefEqProofs only [GS] at hi
  have hall:=Eu hn
  obtain ⟨H,hH⟩:∃H,D6 (JK b1 ⟨i,c,cap⟩)=H:=⟨_,rfl⟩
  rw [hH] at hall
  simp -implicitDefEqProofs only [JK,GS,Gk,G3] at hall hn
  obtain ⟨hrow,e1,_⟩:=ED.1 hall
  rcases (by omega:i=0∨i=1∨i=2) with rfl | rfl | rfl
  ·simp -implicitDefEqProofs -proj only [go_sem,seval,GS,Gk,G3,hH,e1]
   refine ES [.str sB,.str s0,.int .i64 0,.int .i64 0,.int .i64 0] (by decide) rfl ?_
   simp -implicitDefEqProofs -proj only [go_sem,seval]
   refine D4 (fun b5 hb5=>?_)
   replace hb5:H b5=none:=hb5
   simp -implicitDefEqProofs -proj only [go_sem,seval]
   refine FN (fun bs hs'=>?_)
   have hall2:=GX (y:=some (.box 34 [.d (.str sB),.d (.str s0),i64 0,i64 0,i64 0])) hb5 hall
   replace hs':AH H b5 _ bs=none:=hs'
   simp -implicitDefEqProofs -proj only [go_sem,seval]
   refine MZ (xs:=rowBA.take 0) (y:=[.str sB]) (t:=9) (capc:=1) [(b1,.box 28 (HP (Ee 0) [] 0))] rfl (GX hs' hall2) hn (by simp -implicitDefEqProofs -proj only [go_sem,seval]) (by decide) (by decide) (fun H' c' cap' ha hk=>?_)
   simp -implicitDefEqProofs -proj only [go_sem,seval,hw1]
   refine Ed ⟨1,c',cap'⟩ ⟨by show 1≤2; omega,hk⟩ (by show 2-1<2-0; omega) rfl ?_ ha
   simp -implicitDefEqProofs -proj only [go_sem,seval,Ai,GS,Gk,G3,hw1]
   try rfl
  ·simp -implicitDefEqProofs -proj only [go_sem,seval,GS,Gk,G3,hH,e1]
   refine ES [.str sA,.str s0,.int .i64 0,.int .i64 0,.int .i64 0] (by decide) rfl ?_
   simp -implicitDefEqProofs -proj only [go_sem,seval]
   refine D4 (fun b5 hb5=>?_)
   replace hb5:H b5=none:=hb5
   simp -implicitDefEqProofs -proj only [go_sem,seval]
   refine FN (fun bs hs'=>?_)
   have hall2:=GX (y:=some (.box 34 [.d (.str sA),.d (.str s0),i64 0,i64 0,i64 0])) hb5 hall
   replace hs':AH H b5 _ bs=none:=hs'
   simp -implicitDefEqProofs -proj only [go_sem,seval]
   refine MZ (xs:=rowBA.take 1) (y:=[.str sA]) (t:=9) (capc:=1) [(b1,.box 28 (HP (Ee 0) [] 0))] rfl (GX hs' hall2) hn (by simp -implicitDefEqProofs -proj only [go_sem,seval]) (by decide) (by decide) (fun H' c' cap' ha hk=>?_)
   simp -implicitDefEqProofs -proj only [go_sem,seval,hw2]
   refine Ed ⟨2,c',cap'⟩ ⟨by show 2≤2; omega,hk⟩ (by show 2-2<2-1; omega) rfl ?_ ha
   simp -implicitDefEqProofs -proj only [go_sem,seval,Ai,GS,Gk,G3,hw2]
   try rfl
  ·simp -implicitDefEqProofs -proj only [go_sem,seval,GS,Gk,G3,hH]
   refine Gt (RV (cap:=cap) hrow.1) (fun r H' hk=>?_)
   obtain ⟨h1,h2⟩:=hk
   simp -implicitDefEqProofs -proj only [go_sem,seval]
   exact .own _ _ _ _ _ GN h1 (by intro el he d hd; simp -implicitDefEqProofs only [List.mem_cons,List.not_mem_nil,or_false] at he; rcases he with rfl | rfl <;> (simp -implicitDefEqProofs only [List.mem_cons,List.not_mem_nil,or_false] at hd; subst hd; rfl))
theorem K4 {x y:ByteArray} {c d:Int} (h:x.toList == y.toList):DataW Try.prog Hw [.agg [.d (.str x),.d (.str s0),i64 0,i64 0,i64 c],.agg [.d (.str y),.d (.str s0),i64 0,i64 0,i64 d]] (bv true):=by
 refine D9 Kq (by simp) ?_
 simp -implicitDefEqProofs -proj only [go_sem,seval]
 refine D4 (fun b2 hb2=>?_)
 simp -implicitDefEqProofs -proj only [go_sem,seval]
 refine D4 (fun b3 hb3=>?_)
 replace hb3:AH Heap.none b2 _ b3=none:=hb3
 obtain ⟨n1,n2⟩:=EA hb3 D8
 simp -implicitDefEqProofs -proj only [go_sem,seval,n1,n2,EW,h,beq_self_eq_true,decide_eq_true (rfl:(0:Int)=0)]
 exact AU rfl
theorem Sj {c d:Int}:DataW Try.prog LG [.d (.sl 5 (Ee c)),.d (.sl 5 (Ee d)),.fn Hw []] (bv true):=by
 have hw1:IntKind.i64.wrap 1=1:=by decide
 have hw2:IntKind.i64.wrap 2=2:=by decide
 refine D9 Lp (by simp) ?_
 simp -implicitDefEqProofs -proj only [go_sem,seval]
 refine EY (fun i:Nat=>i≤2) 32 (fun i=>[(0,.d (.sl 5 (Ee c))),(1,.d (.sl 5 (Ee d))),(2,.fn Hw []),(15,.d (.sl 5 (Ee c))),(16,i64 2),(17,i64 i)]) (fun _=>[]) (fun i=>2-i) 0 (by omega) rfl ?_ ?_ ?_
 ·simp -implicitDefEqProofs -proj only [go_sem,seval,Ai]
  try rfl
 ·simp -implicitDefEqProofs -proj only [go_sem,seval,AT]
 ·intro i hi
  rcases (by omega:i=0∨i=1∨i=2) with rfl | rfl | rfl
  ·simp -implicitDefEqProofs -proj only [go_sem,seval]
   refine ES [.str sB,.str s0,.int .i64 0,.int .i64 0,.int .i64 c] (by decide) rfl ?_
   simp -implicitDefEqProofs -proj only [go_sem,seval]
   refine D4 (fun b8 hb8=>?_)
   simp -implicitDefEqProofs -proj only [go_sem,seval]
   refine ES [.str sB,.str s0,.int .i64 0,.int .i64 0,.int .i64 d] (by decide) rfl ?_
   simp -implicitDefEqProofs -proj only [go_sem,seval]
   refine D4 (fun b9 hb9=>?_)
   simp -implicitDefEqProofs only [AK] at hb9
   have n1:¬b8=b9:=fun e=>by subst e; simp at hb9
   have n2:¬b9=b8:=fun e=>n1 e.symm
   simp -implicitDefEqProofs -proj only [go_sem,seval,n1,n2]
   refine EE (K4 (by simp)) ?_
   simp -implicitDefEqProofs -proj only [go_sem,seval,hw1]
   refine Ed 1 (by omega) (by omega) rfl ?_ trivial
   simp -implicitDefEqProofs -proj only [go_sem,seval,Ai,hw1]
   try rfl
  ·simp -implicitDefEqProofs -proj only [go_sem,seval]
   refine ES [.str sA,.str s0,.int .i64 0,.int .i64 0,.int .i64 0] (by decide) rfl ?_
   simp -implicitDefEqProofs -proj only [go_sem,seval]
   refine D4 (fun b8 hb8=>?_)
   simp -implicitDefEqProofs -proj only [go_sem,seval]
   refine ES [.str sA,.str s0,.int .i64 0,.int .i64 0,.int .i64 0] (by decide) rfl ?_
   simp -implicitDefEqProofs -proj only [go_sem,seval]
   refine D4 (fun b9 hb9=>?_)
   simp -implicitDefEqProofs only [AK] at hb9
   have n1:¬b8=b9:=fun e=>by subst e; simp at hb9
   have n2:¬b9=b8:=fun e=>n1 e.symm
   simp -implicitDefEqProofs -proj only [go_sem,seval,n1,n2]
   refine EE (K4 (by simp)) ?_
   simp -implicitDefEqProofs -proj only [go_sem,seval,hw2]
   refine Ed 2 (by omega) (by omega) rfl ?_ trivial
   simp -implicitDefEqProofs -proj only [go_sem,seval,Ai,hw2]
   try rfl
  ·simp -implicitDefEqProofs -proj only [go_sem,seval]
   exact AU rfl
theorem Vg {c d:Int}:DataW Try.prog K3 [.d (.sl 5 (Ee c)),.d (.sl 5 (Ee d)),.fn Hw []] (bv true):=by
 refine D9 Lv (by simp) ?_
 simp -implicitDefEqProofs -proj only [go_sem,seval]
 refine EE Sj ?_
 simp -implicitDefEqProofs -proj only [go_sem,seval]
 exact AU rfl
theorem T2:DataW Try.prog MV [.d (.sl 16 []),.d (.sl 16 []),.fn JW []] (bv true):=by
 have h:DataW Try.prog Mt [.d (.sl 16 []),.d (.sl 16 []),.fn JW []] (bv true):=by
  refine D9 Lu (by simp) ?_
  simp -implicitDefEqProofs -proj only [go_sem,seval]
  refine EY (fun i:Nat=>i=0) 32 (fun i=>[(16,i64 0),(17,i64 0)]) (fun _=>[]) (fun i=>i) 0 rfl rfl ?_ ?_ ?_
  ·simp -implicitDefEqProofs -proj only [go_sem,seval,Ai]
  ·simp -implicitDefEqProofs -proj only [go_sem,seval,AT]
  ·rintro i rfl
   simp -implicitDefEqProofs -proj only [go_sem,seval]
   exact AU rfl
 refine D9 MK (by simp) ?_
 simp -implicitDefEqProofs -proj only [go_sem,seval]
 refine EE h ?_
 simp -implicitDefEqProofs -proj only [go_sem,seval]
 exact AU rfl
theorem Ms {F:List (List D)} (hF:F=[]∨F=Jl):DataW Try.prog Jr [.d (.sl 10 []),.d (.sl 10 F),.fn Ib []] (bv (decide (F.length=0))):=by
 have h:DataW Try.prog Ly [.d (.sl 10 []),.d (.sl 10 F),.fn Ib []] (bv (decide (F.length=0))):=by
  refine D9 Mr (by simp) ?_
  rcases hF with rfl | rfl
  ·simp -implicitDefEqProofs -proj only [go_sem,seval]
   refine EY (fun i:Nat=>i=0) 32 (fun i=>[(16,i64 0),(17,i64 0)]) (fun _=>[]) (fun i=>i) 0 rfl rfl ?_ ?_ ?_
   ·simp -implicitDefEqProofs -proj only [go_sem,seval,Ai]
   ·simp -implicitDefEqProofs -proj only [go_sem,seval,AT]
   ·rintro i rfl
    simp -implicitDefEqProofs -proj only [go_sem,seval]
    exact AU rfl
  ·simp -implicitDefEqProofs -proj only [go_sem,seval]
   exact AU rfl
 refine D9 ML (by simp) ?_
 simp -implicitDefEqProofs -proj only [go_sem,seval]
 refine EE h ?_
 simp -implicitDefEqProofs -proj only [go_sem,seval]
 exact AU rfl
theorem Mg {c d e:Int} {F:List (List D)} {u:Bool} (h2:DataW Try.prog Jr [.d (.sl 10 []),.d (.sl 10 F),.fn Ib []] (bv u)):DataW Try.prog Lh [I2 (Ee c) [] 0,I2 (Ee d) F e] (bv u):=by
 have h1:=Vg (c:=c) (d:=d)
 have h3:=T2
 refine D9 LP (by simp) ?_
 simp -implicitDefEqProofs -proj only [go_sem,seval]
 refine D4 (fun b2 hb2=>?_)
 simp -implicitDefEqProofs -proj only [go_sem,seval]
 refine D4 (fun b3 hb3=>?_)
 replace hb3:AH Heap.none b2 _ b3=none:=hb3
 obtain ⟨n1,n2⟩:=EA hb3 D8
 simp -implicitDefEqProofs -proj only [go_sem,seval,n1,n2,EW,beq_self_eq_true,decide_eq_true (rfl:(0:Int)=0)]
 refine EE h1 ?_
 simp -implicitDefEqProofs -proj only [go_sem,seval,n1,n2]
 refine EE h2 ?_
 cases u
 ·simp -implicitDefEqProofs -proj only [go_sem,seval,n1,n2]
  exact AU rfl
 ·simp -implicitDefEqProofs -proj only [go_sem,seval,n1,n2]
  refine EE h3 ?_
  simp -implicitDefEqProofs -proj only [go_sem,seval]
  exact AU rfl
theorem Ob:(sB.toList == sA.toList)=false:=by decide +kernel
theorem Ko {H:Heap} {b:Nat} {x y:ByteArray} {c:Int} {z:Bool} (hb:H b=some (.box 9 [.d (.str y)])) (h:(x.toList == y.toList)=z):CallW Try.prog Ik [.agg [.d (.str x),.d (.str s0),i64 0,i64 0,i64 c],.ptr b 0] H fun r H'=>r=bv z∧H' b=some (.box 9 [.d (.str y)]):=by
 refine D9 P9 (by simp) ?_
 simp -implicitDefEqProofs -proj only [go_sem,seval]
 refine D4 (fun b2 hb2=>?_)
 replace hb2:H b2=none:=hb2
 obtain ⟨n1,n2⟩:=EA hb2 hb
 simp -implicitDefEqProofs -proj only [go_sem,seval,n1,n2,hb,EW,h]
theorem Rz {H:Heap} {b:Nat} (hb:H b=some (.box 9 [.d (.str sA)])):CallW Try.prog ON [.d (.sl 5 (Ee 0)),.fn Ik [.ptr b 0]] H fun r _=>r=i64 1:=by
 have hw1:IntKind.i64.wrap 1=1:=by decide
 have hall:AT (D6 [(b,.box 9 [.d (.str sA)])]) [(b,.box 9 [.d (.str sA)])]:=Eu (by simp [Ae])
 refine D9 Oj (by simp) ?_
 simp -implicitDefEqProofs -proj only [go_sem,seval]
 refine EY (fun i:Nat=>i≤1) 19 (fun i=>[(0,.d (.sl 5 (Ee 0))),(1,.fn Ik [.ptr b 0]),(6,.d (.sl 5 (Ee 0))),(7,i64 2),(8,i64 i)]) (fun _=>[(b,.box 9 [.d (.str sA)])]) (fun i=>2-i) 0 (by omega) rfl ?_ ?_ ?_
 ·simp -implicitDefEqProofs -proj only [go_sem,seval,Ai]
  try rfl
 ·exact ⟨hb,trivial⟩
 ·intro i hi
  rcases (by omega:i=0∨i=1) with rfl | rfl
  ·simp -implicitDefEqProofs -proj only [go_sem,seval]
   refine ES [.str sB,.str s0,.int .i64 0,.int .i64 0,.int .i64 0] (by decide) rfl ?_
   simp -implicitDefEqProofs -proj only [go_sem,seval]
   refine Gt (Ko hall.1 Ob) (fun r H' hk=>?_)
   obtain ⟨rfl,hk⟩:=hk
   simp -implicitDefEqProofs -proj only [go_sem,seval,hw1]
   refine Ed 1 (by omega) (by omega) rfl ?_ ⟨hk,trivial⟩
   simp -implicitDefEqProofs -proj only [go_sem,seval,Ai,hw1]
   try rfl
  ·simp -implicitDefEqProofs -proj only [go_sem,seval]
   refine ES [.str sA,.str s0,.int .i64 0,.int .i64 0,.int .i64 0] (by decide) rfl ?_
   simp -implicitDefEqProofs -proj only [go_sem,seval]
   refine Gt (Ko (z:=true) hall.1 (by simp)) (fun r H' hk=>?_)
   obtain ⟨rfl,hk⟩:=hk
   simp -implicitDefEqProofs -proj only [go_sem,seval,hw1]
   try rfl
theorem Ri {H:Heap} {b:Nat} (hb:H b=some (.box 9 [.d (.str sA)])):CallW Try.prog QF [.d (.sl 5 (Ee 0)),.fn Ik [.ptr b 0]] H fun r _=>r=i64 1:=by
 refine D9 UW (by simp) ?_
 simp -implicitDefEqProofs -proj only [go_sem,seval]
 refine Gt (Rz hb) (fun r H' hk=>?_)
 subst hk
 simp -implicitDefEqProofs -proj only [go_sem,seval]
theorem R6:DataW Try.prog Qt [I2 (Ee 0) [] 0,.d (.str sA)] (i64 1):=by
 refine D9 UC (by simp) ?_
 simp -implicitDefEqProofs -proj only [go_sem,seval]
 refine D4 (fun b2 hb2=>?_)
 simp -implicitDefEqProofs -proj only [go_sem,seval]
 refine D4 (fun b3 hb3=>?_)
 replace hb3:AH Heap.none b2 _ b3=none:=hb3
 obtain ⟨n1,n2⟩:=EA hb3 D8
 simp -implicitDefEqProofs -proj only [go_sem,seval,n1,n2]
 refine Gt (Ri (by simp -implicitDefEqProofs -proj only [go_sem,seval])) (fun r H' hk=>?_)
 subst hk
 simp -implicitDefEqProofs -proj only [go_sem,seval]
 exact AU rfl
theorem Hd {H:Heap} {m f c m' f' c':AV} {n d:AV} {a1 a2 a3 a4 a5 a6 a7 a8:AV} (h1:LendV H m m') (h2:LendV H f f') (h3:LendV H c c'):LendV H (.agg [n,d,a1,a2,a3,a4,a5,a6,m,f,c,a7,a8]) (.agg [n,d,a1,a2,a3,a4,a5,a6,m',f',c',a7,a8]):=by
 refine .aggL ?_
 iterate 8 refine EL (.refl _) ?_
 exact EL h1 (EL h2 (EL h3 (LendL.refl _)))
theorem Q3:DataW Try.prog VN [] (bv true):=by
 have h0:=N3
 have h1:=Mg (c:=0) (d:=0) (e:=0) (F:=[]) (u:=true) (Ms (.inl rfl))
 have h2:=Mg (c:=0) (d:=7) (e:=3) (F:=Jl) (u:=false) (Ms (.inr rfl))
 have h3:=R6
 refine D9 N7 (by simp) ?_
 simp -implicitDefEqProofs -proj only [go_sem,seval]
 refine FN (fun bs hs=>?_)
 simp -implicitDefEqProofs -proj only [go_sem,seval]
 refine D4 (fun b1 hb1=>?_)
 replace hb1:AH Heap.none bs _ b1=none:=hb1
 obtain ⟨n1,n2⟩:=EA hb1 D8
 simp -implicitDefEqProofs -proj only [go_sem,seval,n1,n2]
 refine FN (fun br hr=>?_)
 simp -implicitDefEqProofs only [AK,n1,n2,↓reduceIte] at hr
 have n3:¬b1=br:=fun e=>by subst e; simp [n1,n2] at hr
 have n4:¬bs=br:=fun e=>by subst e; simp [n1,n2] at hr
 have n5:¬br=b1:=fun e=>n3 e.symm
 have n6:¬br=bs:=fun e=>n4 e.symm
 simp -implicitDefEqProofs -proj only [go_sem,seval,n1,n2,n3,n4,n5,n6]
 refine FN (fun bq hq=>?_)
 simp -implicitDefEqProofs only [AK,n1,n2,n3,n4,n5,n6,↓reduceIte] at hq
 have m1:¬b1=bq:=fun e=>by subst e; simp [n1,n2,n3,n4,n5,n6] at hq
 have m2:¬bs=bq:=fun e=>by subst e; simp [n1,n2,n3,n4,n5,n6] at hq
 have m3:¬br=bq:=fun e=>by subst e; simp [n1,n2,n3,n4,n5,n6] at hq
 have m4:¬bq=b1:=fun e=>m1 e.symm
 have m5:¬bq=bs:=fun e=>m2 e.symm
 have m6:¬bq=br:=fun e=>m3 e.symm
 simp -implicitDefEqProofs -proj only [go_sem,seval,n1,n2,n3,n4,n5,n6,m1,m2,m3,m4,m5,m6]
 refine D4 (fun b2 hb2=>?_)
 simp -implicitDefEqProofs only [AK,n1,n2,n3,n4,n5,n6,m1,m2,m3,m4,m5,m6,↓reduceIte] at hb2
 have k1:¬b1=b2:=fun e=>by subst e; simp [n1,n2,n3,n4,n5,n6,m1,m2,m3,m4,m5,m6] at hb2
 have k2:¬bs=b2:=fun e=>by subst e; simp [n1,n2,n3,n4,n5,n6,m1,m2,m3,m4,m5,m6] at hb2
 have k3:¬br=b2:=fun e=>by subst e; simp [n1,n2,n3,n4,n5,n6,m1,m2,m3,m4,m5,m6] at hb2
 have k4:¬bq=b2:=fun e=>by subst e; simp [n1,n2,n3,n4,n5,n6,m1,m2,m3,m4,m5,m6] at hb2
 have k5:¬b2=b1:=fun e=>k1 e.symm
 have k6:¬b2=bs:=fun e=>k2 e.symm
 have k7:¬b2=br:=fun e=>k3 e.symm
 have k8:¬b2=bq:=fun e=>k4 e.symm
 simp -implicitDefEqProofs -proj only [go_sem,seval,n1,n2,n3,n4,n5,n6,m1,m2,m3,m4,m5,m6,k1,k2,k3,k4,k5,k6,k7,k8]
 refine Qb h0 (EL (Hd (G4 (xs:=Ee 0) (by simp -implicitDefEqProofs -proj only [go_sem,seval,n1,n2,n3,n4,n5,n6,m1,m2,m3,m4,m5,m6,k1,k2,k3,k4,k5,k6,k7,k8]; try rfl) rfl) (.nilsl _ _) (.nilsl _ _)) HW) ?_
 simp -implicitDefEqProofs -proj only [go_sem,seval,n1,n2,n3,n4,n5,n6,m1,m2,m3,m4,m5,m6,k1,k2,k3,k4,k5,k6,k7,k8]
 refine Jy h1 (EL (Hd (G4 (xs:=Ee 0) (by simp -implicitDefEqProofs -proj only [go_sem,seval,n1,n2,n3,n4,n5,n6,m1,m2,m3,m4,m5,m6,k1,k2,k3,k4,k5,k6,k7,k8]; try rfl) rfl) (.nilsl _ _) (.nilsl _ _)) (EL (Hd (G4 (xs:=Ee 0) (by simp -implicitDefEqProofs -proj only [go_sem,seval,n1,n2,n3,n4,n5,n6,m1,m2,m3,m4,m5,m6,k1,k2,k3,k4,k5,k6,k7,k8]; try rfl) rfl) (.nilsl _ _) (.nilsl _ _)) HW)) rfl ?_
 simp -implicitDefEqProofs -proj only [go_sem,seval,n1,n2,n3,n4,n5,n6,m1,m2,m3,m4,m5,m6,k1,k2,k3,k4,k5,k6,k7,k8]
 refine Jy h2 (EL (Hd (G4 (xs:=Ee 0) (by simp -implicitDefEqProofs -proj only [go_sem,seval,n1,n2,n3,n4,n5,n6,m1,m2,m3,m4,m5,m6,k1,k2,k3,k4,k5,k6,k7,k8]; try rfl) rfl) (.nilsl _ _) (.nilsl _ _)) (EL (Hd (G4 (xs:=Ee 7) (by simp -implicitDefEqProofs -proj only [go_sem,seval,n1,n2,n3,n4,n5,n6,m1,m2,m3,m4,m5,m6,k1,k2,k3,k4,k5,k6,k7,k8]; try rfl) rfl) (G4 (xs:=Jl) (by simp -implicitDefEqProofs -proj only [go_sem,seval,n1,n2,n3,n4,n5,n6,m1,m2,m3,m4,m5,m6,k1,k2,k3,k4,k5,k6,k7,k8]; try rfl) rfl) (.nilsl _ _)) HW)) rfl ?_
 simp -implicitDefEqProofs -proj only [go_sem,seval,n1,n2,n3,n4,n5,n6,m1,m2,m3,m4,m5,m6,k1,k2,k3,k4,k5,k6,k7,k8]
 refine Jy h3 (EL (Hd (G4 (xs:=Ee 0) (by simp -implicitDefEqProofs -proj only [go_sem,seval,n1,n2,n3,n4,n5,n6,m1,m2,m3,m4,m5,m6,k1,k2,k3,k4,k5,k6,k7,k8]; try rfl) rfl) (.nilsl _ _) (.nilsl _ _)) (EL (.refl _) HW)) rfl ?_
 simp -implicitDefEqProofs -proj only [go_sem,seval,n1,n2,n3,n4,n5,n6,m1,m2,m3,m4,m5,m6,k1,k2,k3,k4,k5,k6,k7,k8]
 refine ES [.str sA] (by decide) rfl ?_
 simp -implicitDefEqProofs -proj only [go_sem,seval,EW,beq_self_eq_true]
 exact AU rfl
theorem TreeSame_ok {a b:PlanX} (fa:a.Fit) (fb:b.Fit):DataW Try.prog T1 [FS a,FS b] (bv true):=by
 refine D9 OU (by simp) ?_
 simp -implicitDefEqProofs -proj only [go_sem,seval]
 refine D4 (fun b2 hb2=>?_)
 simp -implicitDefEqProofs -proj only [go_sem,seval]
 refine D4 (fun b3 hb3=>?_)
 replace hb3:AH Heap.none b2 _ b3=none:=hb3
 obtain ⟨n1,n2⟩:=EA hb3 D8
 simp -implicitDefEqProofs -proj only [go_sem,seval,n1,n2]
 refine EE Q3 ?_
 simp -implicitDefEqProofs -proj only [go_sem,seval,n1,n2]
 refine EE Mv ?_
 by_cases g1:GV a
 ·rw [decide_eq_true g1]
  simp -implicitDefEqProofs -proj only [go_sem,seval,n1,n2]
  exact AU rfl
 rw [decide_eq_false g1]
 simp -implicitDefEqProofs -proj only [go_sem,seval,n1,n2]
 refine EE Mv ?_
 by_cases g2:GV b
 ·rw [decide_eq_true g2]
  simp -implicitDefEqProofs -proj only [go_sem,seval,n1,n2]
  exact AU rfl
 rw [decide_eq_false g2]
 simp -implicitDefEqProofs -proj only [go_sem,seval,n1,n2]
 have la:=PlanX.lo g1
 have lb:=PlanX.lo g2
 refine EE (J3 la.sm la.plc) ?_
 simp -implicitDefEqProofs -proj only [go_sem,seval,n1,n2]
 have hP:=W4 la.sm
 have lq:=la.pl
 have fq:=fa.pl
 have pq:=VX a
 have zq:=Nd (p:=a)
 generalize a.pl=q at hP lq fq pq zq
 refine EE hP ?_
 simp -implicitDefEqProofs -proj only [go_sem,seval,n1,n2]
 refine D4 (fun b6 hb6=>?_)
 replace hb6:AH (AH Heap.none b2 _) b3 _ b6=none:=hb6
 obtain ⟨n3,n4⟩:=EA hb6 D8
 obtain ⟨n5,n6⟩:=EA hb6 ((Ap n1).trans D8)
 simp -implicitDefEqProofs -proj only [go_sem,seval,n1,n2,n3,n4,n5,n6]
 refine EE (J3 lq.sm lq.plc) ?_
 simp -implicitDefEqProofs -proj only [go_sem,seval,n1,n2,n3,n4,n5,n6,IK]
 have zl:=lq.plc
 refine EY (fun i:Nat=>i≤(Eq q).length) 59 (fun i=>[(2,.ptr b2 0),(3,.ptr b3 0),(5,GZ (Eq a)),(6,.ptr b6 0),(22,GZ (Eq q)),(23,i64 (Eq q).length),(24,i64 i)]) (fun _=>[(b6,.box 28 q.cells),(b3,.box 28 b.cells),(b2,.box 28 a.cells)]) (fun i=>(Eq q).length-i) 0 (Nat.zero_le _) rfl ?_ ?_ ?_
 ·simp -implicitDefEqProofs -proj only [go_sem,seval,Ai]
 ·exact ⟨D8,(Ap n3).trans D8,(Ap n5).trans ((Ap n1).trans D8),trivial⟩
 intro i hi
 have hall:AT (D6 [(b6,Blk.box 28 q.cells),(b3,.box 28 b.cells),(b2,.box 28 a.cells)]) [(b6,.box 28 q.cells),(b3,.box 28 b.cells),(b2,.box 28 a.cells)]:=Eu (by simp [Ae,n1,n3,n5])
 by_cases h:i<(Eq q).length
 ·have e1:=Je (List.getElem?_eq_getElem h)
  rw [zq _ (List.getElem_mem h)] at e1
  simp -implicitDefEqProofs -proj only [go_sem,seval,decide_eq_true (show (i:Int)<(Eq q).length by omega)]
  refine ES _ (by omega) (by rw [Int.toNat_natCast]; exact e1) ?_
  simp -implicitDefEqProofs -proj only [go_sem,seval]
  refine Ed (i+1) (by omega) (by omega) rfl ?_ hall
  simp -implicitDefEqProofs -proj only [go_sem,seval,Ai,Es (show i<9223372036854775807 by omega)]
 have hi':i=(Eq q).length:=by omega
 subst hi'
 obtain ⟨g6,g3,g2',_⟩:=hall
 generalize D6 [(b6,Blk.box 28 q.cells),(b3,.box 28 b.cells),(b2,.box 28 a.cells)]=H at g6 g3 g2' ⊢
 simp -implicitDefEqProofs -proj only [go_sem,seval,g6,g3,g2',decide_eq_false (show ¬((Eq q).length:Int)<(Eq q).length by omega)]
 refine E2 (J6 la.sm lb.sm) ?_
 simp -implicitDefEqProofs -proj only [go_sem,seval,g6,g3,g2']
 refine EE (Ln la.sm lb.sm la.txt lb.txt) ?_
 rw [Ky fa fb la.sm lb.sm]
 simp -implicitDefEqProofs -proj only [go_sem,seval,g6,g3,g2']
 refine EE (J6 la.sm la.sm) ?_
 rw [U5]
 simp -implicitDefEqProofs -proj only [go_sem,seval,g6,g3,g2']
 refine EE (J6 la.sm lq.sm) ?_
 rw [pq]
 simp -implicitDefEqProofs -proj only [go_sem,seval,g6,g3,g2']
 refine EE (Ln la.sm lq.sm la.txt lq.txt) ?_
 rw [Ky fa fq la.sm lq.sm,pq]
 simp -implicitDefEqProofs -proj only [go_sem,seval,g6,g3,g2']
 refine EE (J3 la.sm la.plc) ?_
 simp -implicitDefEqProofs -proj only [go_sem,seval,g6,g3,g2']
 refine EE (Sy la.plc la.plc) ?_
 rw [GK SU]
 simp -implicitDefEqProofs -proj only [go_sem,seval]
 exact AU rfl
end Go.Proofs.Ytndepejgafppmaa.Abs
