/- Contracts of the machine and the contracts of one law (joined by kmerge.py). No claim stands here. -/
import Derived.Below
import Derived.Carry
import Derived.ChangeCalls
import Derived.ChangeOld
import Derived.IntWalk
import Derived.KernelRfl
import Derived.Laws.Append
import Derived.Laws.AppendOwn
import Derived.Laws.BytesArg
import Derived.Laws.Cells
import Derived.Laws.CopyRow
import Derived.Laws.Entries
import Derived.Laws.MakeOwn
import Derived.Laws.NewFold
import Derived.Laws.Rows
import Derived.Laws.StructEq
import Derived.OpenShut
import Derived.Orders
import Derived.OrdersIn
import Derived.ProofKit
import Derived.RangeFuncLeaves
import Derived.RangeFuncSeq
import Derived.Shelf.Sort.Plain
import Derived.SizedLaws
import Derived.TacticsIn
import Derived.WalkKit
import Derived.Test.YtndepejgafppmaaMcc
set_option maxRecDepth 100000
set_option linter.unusedSimpArgs false
set_option linter.unusedVariables false
namespace Go.Proofs.Ytndepejgafppmaa.Abs
open Go Go.RowKit Go.Proofs
attribute [local go_sem] DN DW CN DF Du B6 Ck Dh BM Ce CF Cu Bx C1 CY Bk Ar Ci A6 DX DL BB CE DD BH A9 BX BE C6 BG By Bq CI CZ A2 DZ BT Be CD B2 Dd Cl Dw Di Ch Cj Cp Cv C3 BO Df DG Bj Dq DB A8 CT B8 Cn Bm Db Bu Cs CU Ay CC B3 Bg De B9 A1 Am CA Dt Ao Bb Br Ag Az BP BY CO Cf A0 CL DK DO CG CW Dj Dm A7 BQ Cr B7 Cy DT Bf DA DQ Bi Au Ba Bt Co An Cc Ap Ac Aw CX Bw AC ev AP AN AY Aj AR B1 Cm Bs BJ AQ AS Do B5 CV Bd C2 DR Bo Da Dl Dk Bn BW C9 DI Cx Bc DM CB Bl Bh A4 C4 Av AM setSeg nth seg mapD AT Af AI Ah CK Dg Ai BF cond_true cond_false Dv As Al Ak Aq DE C8 List.cons_append List.nil_append Bool.not_true Bool.not_false Bool.and_true Bool.and_self Nat.lt_add_left_iff_pos Nat.zero_add Nat.add_zero List.drop_succ_cons List.drop_zero List.take_succ_cons List.take_zero beq_self_eq_true Bool.false_eq_true C0 Bz Bp CR DS BI BU CJ Bv Aa and_self and_true true_and DU DV Cq DH BZ Cz BK A3 Dc Cw Cb BN DJ BD CQ B0 DY CH AZ Ab Ad AX A5 Ax CP BV DC BA BL Ct C5 DP C7 List.length_cons List.length_nil Nat.min_def Int.cast_ofNat_Int Int.natCast_zero Int.natCast_one decide_true decide_false List.getElem?_cons_zero List.getElem?_cons_succ CM Dp BS B4 Dr Ds Dn Cd BC Ca CS Cg
theorem KX {a b:Int} (h:a=b):i64 a=i64 b:=by rw [h]
def LenP (x:Int) (n:Nat):Prop:=0≤x∧x<2 ^ n∧(x=0∧n=0∨0<n∧2 ^ (n-1)≤x)
theorem Pb (n:Nat):(0:Int)<2 ^ n:=Int.pow_pos (by omega)
theorem LenP.shift {x:Int} {k n:Nat} (h0:0≤x) (h1:2 ^ k≤x) (h:LenP (x / 2 ^ k) n):LenP x (k+n):=by
 obtain ⟨a0,a1,a2⟩:=h
 have hk:=Pb k
 have e1:x<2 ^ (k+n):=by
  rw [Int.ediv_lt_iff_lt_mul hk] at a1
  rw [Int.pow_add,Int.mul_comm]; exact a1
 have h2:1≤x / 2 ^ k:=by rw [Int.le_ediv_iff_mul_le hk]; omega
 refine ⟨h0,e1,.inr ?_⟩
 rcases a2 with ⟨a2,_⟩ | ⟨a2,a3⟩
 ·omega
 ·refine ⟨by omega,?_⟩
  rw [Int.le_ediv_iff_mul_le hk] at a3
  have:k+n-1=k+(n-1):=by omega
  rw [this,Int.pow_add,Int.mul_comm]; exact a3
def It (m q r c:Int):Prop:=m=1∧0<r∨m=2∧c≤2*r∨m=3∧(c<2*r∨c=2*r∧q % 2=1)
instance (m q r c:Int):Decidable (It m q r c):=by unfold It; exact inferInstance
def Ho (p c m:Int):Int:=p / c+if It m (p / c) (p % c) c then 1 else 0
def Jk (m:Int) (neg:Bool) (q r c:Int):Prop:=r≠0∧(m=0∧neg=true∨m=1∧neg=false∨m=2∧(r > c-r∨r=c-r∧neg=false)∨m=3∧(r > c-r∨r=c-r∧q % 2=1))
instance (m:Int) (neg:Bool) (q r c:Int):Decidable (Jk m neg q r c):=by unfold Jk; exact inferInstance
structure Adj where
 k:Int
 n:Int
 m:Int
def Adj.el (a:Adj):List D:=[.int .i64 a.k,.int .i64 a.n,.int .i64 a.m]
def HI (l:List Adj):List (List D):=l.map Adj.el
theorem HN {l:List Adj}:(HI l).length=l.length:=List.length_map ..
def Adj.Fit (a:Adj):Prop:=Abs.Fit a.k∧Abs.Fit a.n∧Abs.Fit a.m
def JF (n:Int):Option Int:=if Fit n then some n else none
def Jo (p c m:Int):Option Int:=if 0<c∧0≤m∧m≤3 then JF (Ho p c m) else none
theorem N8 {n:Nat} {l:List D} (h:D5 Try.prog (n+2) 60 l):∃a:Adj,a.Fit∧l=a.el:=by
 obtain ⟨ls,rfl,h1,_⟩:=Fe (fs:=#[⟨"Kind",3,0,false,"","",0⟩,⟨"N",3,1,false,"","",8⟩,⟨"Mode",3,2,false,"","",16⟩]) h (by kernel_rfl)
 obtain ⟨l0,r0,rfl,t0,h1⟩:=typedL_cons h1
 obtain ⟨l1,r1,rfl,t1,h1⟩:=typedL_cons h1
 obtain ⟨l2,r2,rfl,t2,h1⟩:=typedL_cons h1
 obtain rfl:=typedL_nil h1
 obtain ⟨z0,rfl,f0,_⟩:=typed_int t0 (by kernel_rfl)
 obtain ⟨z1,rfl,f1,_⟩:=typed_int t1 (by kernel_rfl)
 obtain ⟨z2,rfl,f2,_⟩:=typed_int t2 (by kernel_rfl)
 exact ⟨⟨z0,z1,z2⟩,⟨f0,f1,f2⟩,rfl⟩
structure Tier where
 u:Int
 r:Int
def Tier.el (a:Tier):List D:=[.int .i64 a.u,.int .i64 a.r]
def Hb (l:List Tier):List (List D):=l.map Tier.el
theorem HV {l:List Tier}:(Hb l).length=l.length:=List.length_map ..
def Tier.Fit (a:Tier):Prop:=Abs.Fit a.u∧Abs.Fit a.r
structure PartX where
 me:Int
 f:Int
 t:Int
 al:Int
 bl:Int
 ki:Int
 ts:List Tier
 mo:Int
 ad:List Adj
abbrev PartX.el (x:PartX):List D:=[.int .i64 x.me,.int .i64 x.f,.int .i64 x.t,.int .i64 x.al,.int .i64 x.bl,.int .i64 x.ki,.sl 2 (Hb x.ts),.int .i64 x.mo,.sl 3 (HI x.ad)]
structure PartX.Fit (x:PartX):Prop where
 me:Abs.Fit x.me
 f:Abs.Fit x.f
 t:Abs.Fit x.t
 al:Abs.Fit x.al
 bl:Abs.Fit x.bl
 ki:Abs.Fit x.ki
 ts:∀a∈x.ts,Tier.Fit a
 tn:x.ts.length≤9223372036854775807
 mo:Abs.Fit x.mo
 ad:∀a∈x.ad,Adj.Fit a
 an:x.ad.length≤9223372036854775807
theorem JN {α:Type} {g : α→List D} {F : α→Prop} {n:Nat} {e:TypeId} (hh:∀l,D5 Try.prog n e l→∃a,F a∧l=g a):∀{xs:List (List D)},(∀el∈xs,D5 Try.prog n e el)→∃zs:List α,xs=zs.map g∧∀a∈zs,F a
 | [],_=>⟨[],rfl,fun a h=>by cases h⟩
 | x::xs,h2=>by
  obtain ⟨a,ha,rfl⟩:=hh x (h2 x (List.mem_cons_self ..))
  obtain ⟨zs,rfl,hz⟩:=JN hh (fun el h'=>h2 el (List.mem_cons_of_mem _ h'))
  refine ⟨a::zs,rfl,fun b hb=>?_⟩
  rcases List.mem_cons.1 hb with rfl | hb
  ·exact ha
  ·exact hz b hb
theorem Oa {n:Nat} {l:List D} (h:D5 Try.prog (n+2) 58 l):∃a:Tier,a.Fit∧l=a.el:=by
 obtain ⟨ls,rfl,h1,_⟩:=Fe (fs:=#[⟨"Upto",3,0,false,"","",0⟩,⟨"Rate",3,1,false,"","",8⟩]) h (by kernel_rfl)
 obtain ⟨l0,r0,rfl,t0,h1⟩:=typedL_cons h1
 obtain ⟨l1,r1,rfl,t1,h1⟩:=typedL_cons h1
 obtain rfl:=typedL_nil h1
 obtain ⟨z0,rfl,f0,_⟩:=typed_int t0 (by kernel_rfl)
 obtain ⟨z1,rfl,f1,_⟩:=typed_int t1 (by kernel_rfl)
 exact ⟨⟨z0,z1⟩,⟨f0,f1⟩,rfl⟩
theorem Gq {α:Type} {g : α→List D} {F : α→Prop} {n k:Nat} {t e:TypeId} {l:List D} (hh:∀l,D5 Try.prog n e l→∃a,F a∧l=g a) (ht:Try.prog.underlying t=some (.slice e)) (hc:Try.prog.cellsOf e=k) (h:D5 Try.prog (n+1) t l) :
  ∃zs:List α,l=[.sl k (zs.map g)]∧(∀a∈zs,F a)∧zs.length≤9223372036854775807:=by
 obtain ⟨xs,rfl,h1,h2,_⟩:=JD h ht
 obtain ⟨zs,rfl,hz⟩:=JN hh h2
 exact ⟨zs,by rw [hc],hz,by rw [List.length_map] at h1; exact h1⟩
structure MeterX where
 nm:ByteArray
 un:ByteArray
 mx:Int
 ln:Int
 co:Int
def MeterX.el (a:MeterX):List D:=[.str a.nm,.str a.un,.int .i64 a.mx,.int .i64 a.ln,.int .i64 a.co]
def E6 (l:List MeterX):List (List D):=l.map MeterX.el
theorem E9 {l:List MeterX}:(E6 l).length=l.length:=List.length_map ..
theorem GQ {l:List MeterX} {i:Nat} (h:i<l.length):(E6 l)[((i:Int)).toNat]? = some [.str l[i].nm,.str l[i].un,.int .i64 l[i].mx,.int .i64 l[i].ln,.int .i64 l[i].co]:=by
 rw [Int.toNat_natCast]; simp [E6,h,MeterX.el]
def MeterX.Fit (a:MeterX):Prop:=Abs.Fit a.mx∧Abs.Fit a.ln∧Abs.Fit a.co
structure SumX where
 a:Int
 f:Int
 t:Int
def SumX.el (a:SumX):List D:=[.int .i64 a.a,.int .i64 a.f,.int .i64 a.t]
def SumX.Fit (a:SumX):Prop:=Abs.Fit a.a∧Abs.Fit a.f∧Abs.Fit a.t
structure CoreX where
 cur:ByteArray
 f:Int
 t:Int
 ms:List MeterX
 ss:List SumX
 ps:List PartX
structure CoreX.Fit (c:CoreX):Prop where
 f:Abs.Fit c.f
 t:Abs.Fit c.t
 ms:∀a∈c.ms,a.Fit
 mn:c.ms.length≤9223372036854775807
 ss:∀a∈c.ss,a.Fit
 sn:c.ss.length≤9223372036854775807
 ps:∀a∈c.ps,a.Fit
 pn:c.ps.length≤9223372036854775807
theorem Gr {n:Nat} {t:TypeId} {l:List D} (h:D5 Try.prog (n+1) t l) (ht:Try.prog.underlying t=some .string):∃s,l=[.str s]:=by
 rw [D5,ht] at h
 obtain ⟨s,rfl,_⟩:=h
 exact ⟨s,rfl⟩
theorem LX {n:Nat} {l:List D} (h:D5 Try.prog (n+2) 34 l):∃a:MeterX,a.Fit∧l=a.el:=by
 obtain ⟨ls,rfl,h1,_⟩:=Fe (fs:=#[⟨"Name",9,0,false,"","",0⟩,⟨"Unit",9,1,false,"","",16⟩,⟨"Max",3,2,false,"","",32⟩,⟨"Line",3,3,false,"","",40⟩,⟨"Col",3,4,false,"","",48⟩]) h (by kernel_rfl)
 obtain ⟨l0,r0,rfl,t0,h1⟩:=typedL_cons h1
 obtain ⟨l1,r1,rfl,t1,h1⟩:=typedL_cons h1
 obtain ⟨l2,r2,rfl,t2,h1⟩:=typedL_cons h1
 obtain ⟨l3,r3,rfl,t3,h1⟩:=typedL_cons h1
 obtain ⟨l4,r4,rfl,t4,h1⟩:=typedL_cons h1
 obtain rfl:=typedL_nil h1
 obtain ⟨z0,rfl⟩:=Gr t0 (by kernel_rfl)
 obtain ⟨z1,rfl⟩:=Gr t1 (by kernel_rfl)
 obtain ⟨z2,rfl,f2,_⟩:=typed_int t2 (by kernel_rfl)
 obtain ⟨z3,rfl,f3,_⟩:=typed_int t3 (by kernel_rfl)
 obtain ⟨z4,rfl,f4,_⟩:=typed_int t4 (by kernel_rfl)
 exact ⟨⟨z0,z1,z2,z3,z4⟩,⟨f2,f3,f4⟩,rfl⟩
def NM (m:MeterX):Prop:=200<(m.nm.size:Int)∨200<(m.un.size:Int)
def Q2 (x:PartX):Prop:=40<(x.ts.length:Int)∨40<(x.ad.length:Int)
def Jb (c:CoreX):Prop:=(20<(c.ms.length:Int)∨40<(c.ss.length:Int)∨40<(c.ps.length:Int)∨200<(c.cur.size:Int))∨(∃m∈c.ms,NM m)∨∃x∈c.ps,Q2 x
noncomputable instance (c:CoreX):Decidable (Jb c):=Classical.propDecidable _
structure DateX where
 y:Int
 m:Int
 d:Int
abbrev DateX.el (a:DateX):List D:=[.int .i64 a.y,.int .i64 a.m,.int .i64 a.d]
def DateX.Fit (a:DateX):Prop:=Abs.Fit a.y∧Abs.Fit a.m∧Abs.Fit a.d
structure WinX where
 has:Bool
 f:DateX
 t:DateX
abbrev WinX.el (w:WinX):List D:=[.bool w.has,.int .i64 w.f.y,.int .i64 w.f.m,.int .i64 w.f.d,.int .i64 w.t.y,.int .i64 w.t.m,.int .i64 w.t.d]
def WinX.Fit (w:WinX):Prop:=w.f.Fit∧w.t.Fit
structure FeeX where
 am:Int
 w:WinX
 ln:Int
 co:Int
abbrev FeeX.el (x:FeeX):List D:=[.int .i64 x.am,.bool x.w.has,.int .i64 x.w.f.y,.int .i64 x.w.f.m,.int .i64 x.w.f.d,.int .i64 x.w.t.y,.int .i64 x.w.t.m,.int .i64 x.w.t.d,.int .i64 x.ln,.int .i64 x.co]
def FeeX.Fit (x:FeeX):Prop:=Abs.Fit x.am∧x.w.Fit∧Abs.Fit x.ln∧Abs.Fit x.co
def HX (l:List FeeX):List (List D):=l.map FeeX.el
theorem Fi {l:List FeeX}:(HX l).length=l.length:=List.length_map ..
structure ChX where
 me:ByteArray
 w:WinX
 al:Int
 bl:Int
 ki:Int
 ts:List Tier
 mo:Int
 ad:List Adj
 ln:Int
 co:Int
abbrev ChX.el (x:ChX):List D:=[.str x.me,.bool x.w.has,.int .i64 x.w.f.y,.int .i64 x.w.f.m,.int .i64 x.w.f.d,.int .i64 x.w.t.y,.int .i64 x.w.t.m,.int .i64 x.w.t.d,.int .i64 x.al,.int .i64 x.bl,.int .i64 x.ki,.sl 2 (Hb x.ts),.int .i64 x.mo,.sl 3 (HI x.ad),.int .i64 x.ln,.int .i64 x.co]
structure ChX.Fit (x:ChX):Prop where
 w:x.w.Fit
 al:Abs.Fit x.al
 bl:Abs.Fit x.bl
 ki:Abs.Fit x.ki
 ts:∀a∈x.ts,Tier.Fit a
 tn:x.ts.length≤9223372036854775807
 mo:Abs.Fit x.mo
 ad:∀a∈x.ad,Adj.Fit a
 an:x.ad.length≤9223372036854775807
 ln:Abs.Fit x.ln
 co:Abs.Fit x.co
def Ft (l:List ChX):List (List D):=l.map ChX.el
theorem FV {l:List ChX}:(Ft l).length=l.length:=List.length_map ..
structure PlanX where
 nm:ByteArray
 cu:ByteArray
 f:DateX
 t:DateX
 ms:List MeterX
 fs:List FeeX
 cs:List ChX
 ln:Int
 co:Int
abbrev I6 (nm cu:ByteArray) (f t:DateX) (m e c:AV) (ln co:Int):List AV:=[.d (.str nm),.d (.str cu),i64 f.y,i64 f.m,i64 f.d,i64 t.y,i64 t.m,i64 t.d,m,e,c,i64 ln,i64 co]
abbrev PlanX.cells (p:PlanX):List AV:=I6 p.nm p.cu p.f p.t (.d (.sl 5 (E6 p.ms))) (.d (.sl 10 (HX p.fs))) (.d (.sl 16 (Ft p.cs))) p.ln p.co
abbrev GL (p:PlanX):AV:=.agg p.cells
structure PlanX.Fit (p:PlanX):Prop where
 f:p.f.Fit
 t:p.t.Fit
 ms:∀a∈p.ms,a.Fit
 mn:p.ms.length≤9223372036854775807
 fs:∀a∈p.fs,a.Fit
 fn:p.fs.length≤9223372036854775807
 cs:∀a∈p.cs,a.Fit
 cn:p.cs.length≤9223372036854775807
 ln:Abs.Fit p.ln
 co:Abs.Fit p.co
theorem HQ {n:Nat} {l:List D} (h:D5 Try.prog (n+2) 23 l):∃a:DateX,a.Fit∧l=a.el:=by
 obtain ⟨ls,rfl,h1,_⟩:=Fe (fs:=#[⟨"Year",3,0,false,"","",0⟩,⟨"Month",3,1,false,"","",8⟩,⟨"Day",3,2,false,"","",16⟩]) h (by kernel_rfl)
 obtain ⟨l0,r0,rfl,t0,h1⟩:=typedL_cons h1
 obtain ⟨l1,r1,rfl,t1,h1⟩:=typedL_cons h1
 obtain ⟨l2,r2,rfl,t2,h1⟩:=typedL_cons h1
 obtain rfl:=typedL_nil h1
 obtain ⟨z0,rfl,f0,_⟩:=typed_int t0 (by kernel_rfl)
 obtain ⟨z1,rfl,f1,_⟩:=typed_int t1 (by kernel_rfl)
 obtain ⟨z2,rfl,f2,_⟩:=typed_int t2 (by kernel_rfl)
 exact ⟨⟨z0,z1,z2⟩,⟨f0,f1,f2⟩,rfl⟩
theorem J2 {n:Nat} {l:List D} (h:D5 Try.prog (n+3) 49 l):∃a:WinX,a.Fit∧l=a.el:=by
 obtain ⟨ls,rfl,h1,_⟩:=Fe (fs:=#[⟨"Has",4,0,false,"","",0⟩,⟨"From",23,1,false,"","",8⟩,⟨"To",23,4,false,"","",32⟩]) h (by kernel_rfl)
 obtain ⟨l0,r0,rfl,t0,h1⟩:=typedL_cons h1
 obtain ⟨l1,r1,rfl,t1,h1⟩:=typedL_cons h1
 obtain ⟨l2,r2,rfl,t2,h1⟩:=typedL_cons h1
 obtain rfl:=typedL_nil h1
 obtain ⟨z0,rfl,_⟩:=typed_bool t0 (by kernel_rfl)
 obtain ⟨z1,f1,rfl⟩:=HQ t1
 obtain ⟨z2,f2,rfl⟩:=HQ t2
 exact ⟨⟨z0,z1,z2⟩,⟨f1,f2⟩,rfl⟩
theorem Qz {n:Nat} {l:List D} (h:D5 Try.prog (n+4) 51 l):∃a:FeeX,a.Fit∧l=a.el:=by
 obtain ⟨ls,rfl,h1,_⟩:=Fe (fs:=#[⟨"Amount",3,0,false,"","",0⟩,⟨"Window",49,1,false,"","",8⟩,⟨"Line",3,8,false,"","",64⟩,⟨"Col",3,9,false,"","",72⟩]) h (by kernel_rfl)
 obtain ⟨l0,r0,rfl,t0,h1⟩:=typedL_cons h1
 obtain ⟨l1,r1,rfl,t1,h1⟩:=typedL_cons h1
 obtain ⟨l2,r2,rfl,t2,h1⟩:=typedL_cons h1
 obtain ⟨l3,r3,rfl,t3,h1⟩:=typedL_cons h1
 obtain rfl:=typedL_nil h1
 obtain ⟨z0,rfl,f0,_⟩:=typed_int t0 (by kernel_rfl)
 obtain ⟨z1,f1,rfl⟩:=J2 t1
 obtain ⟨z2,rfl,f2,_⟩:=typed_int t2 (by kernel_rfl)
 obtain ⟨z3,rfl,f3,_⟩:=typed_int t3 (by kernel_rfl)
 exact ⟨⟨z0,z1,z2,z3⟩,⟨f0,f1,f2,f3⟩,rfl⟩
theorem OD {n:Nat} {l:List D} (h:D5 Try.prog (n+4) 55 l):∃a:ChX,a.Fit∧l=a.el:=by
 obtain ⟨ls,rfl,h1,_⟩:=Fe (fs:=#[⟨"Meter",9,0,false,"","",0⟩,⟨"Window",49,1,false,"","",16⟩,⟨"Allowance",3,8,false,"","",72⟩,⟨"Block",3,9,false,"","",80⟩,⟨"Kind",3,10,false,"","",88⟩,⟨"Tiers",52,11,false,"","",96⟩,⟨"Mode",3,12,false,"","",120⟩,⟨"Adjusts",53,13,false,"","",128⟩,⟨"Line",3,14,false,"","",152⟩,⟨"Col",3,15,false,"","",160⟩]) h (by kernel_rfl)
 obtain ⟨l0,r0,rfl,t0,h1⟩:=typedL_cons h1
 obtain ⟨l1,r1,rfl,t1,h1⟩:=typedL_cons h1
 obtain ⟨l2,r2,rfl,t2,h1⟩:=typedL_cons h1
 obtain ⟨l3,r3,rfl,t3,h1⟩:=typedL_cons h1
 obtain ⟨l4,r4,rfl,t4,h1⟩:=typedL_cons h1
 obtain ⟨l5,r5,rfl,t5,h1⟩:=typedL_cons h1
 obtain ⟨l6,r6,rfl,t6,h1⟩:=typedL_cons h1
 obtain ⟨l7,r7,rfl,t7,h1⟩:=typedL_cons h1
 obtain ⟨l8,r8,rfl,t8,h1⟩:=typedL_cons h1
 obtain ⟨l9,r9,rfl,t9,h1⟩:=typedL_cons h1
 obtain rfl:=typedL_nil h1
 obtain ⟨z0,rfl⟩:=Gr t0 (by kernel_rfl)
 obtain ⟨z1,f1,rfl⟩:=J2 t1
 obtain ⟨z2,rfl,f2,_⟩:=typed_int t2 (by kernel_rfl)
 obtain ⟨z3,rfl,f3,_⟩:=typed_int t3 (by kernel_rfl)
 obtain ⟨z4,rfl,f4,_⟩:=typed_int t4 (by kernel_rfl)
 obtain ⟨z5,rfl,f5,g5⟩:=Gq (k:=2) (e:=58) (fun l h=>Oa h) (by kernel_rfl) (by kernel_rfl) t5
 obtain ⟨z6,rfl,f6,_⟩:=typed_int t6 (by kernel_rfl)
 obtain ⟨z7,rfl,f7,g7⟩:=Gq (k:=3) (e:=60) (fun l h=>N8 h) (by kernel_rfl) (by kernel_rfl) t7
 obtain ⟨z8,rfl,f8,_⟩:=typed_int t8 (by kernel_rfl)
 obtain ⟨z9,rfl,f9,_⟩:=typed_int t9 (by kernel_rfl)
 exact ⟨⟨z0,z1,z2,z3,z4,z5,z6,z7,z8,z9⟩,⟨f1,f2,f3,f4,f5,g5,f6,f7,g7,f8,f9⟩,rfl⟩
theorem typed_plan {n:Nat} {l:List D} (h:D5 Try.prog (n+6) 28 l):∃p:PlanX,p.Fit∧Eo Try.prog 28 l=GL p:=by
 obtain ⟨ls,rfl,h1,e⟩:=Fe (fs:=#[⟨"Name",9,0,false,"","",0⟩,⟨"Currency",9,1,false,"","",16⟩,⟨"From",23,2,false,"","",32⟩,⟨"To",23,5,false,"","",56⟩,⟨"Meters",24,8,false,"","",80⟩,⟨"Fees",25,9,false,"","",104⟩,⟨"Charges",26,10,false,"","",128⟩,⟨"Line",3,11,false,"","",152⟩,⟨"Col",3,12,false,"","",160⟩]) h (by kernel_rfl)
 obtain ⟨l0,r0,rfl,t0,h1⟩:=typedL_cons h1
 obtain ⟨l1,r1,rfl,t1,h1⟩:=typedL_cons h1
 obtain ⟨l2,r2,rfl,t2,h1⟩:=typedL_cons h1
 obtain ⟨l3,r3,rfl,t3,h1⟩:=typedL_cons h1
 obtain ⟨l4,r4,rfl,t4,h1⟩:=typedL_cons h1
 obtain ⟨l5,r5,rfl,t5,h1⟩:=typedL_cons h1
 obtain ⟨l6,r6,rfl,t6,h1⟩:=typedL_cons h1
 obtain ⟨l7,r7,rfl,t7,h1⟩:=typedL_cons h1
 obtain ⟨l8,r8,rfl,t8,h1⟩:=typedL_cons h1
 obtain rfl:=typedL_nil h1
 obtain ⟨z0,rfl⟩:=Gr t0 (by kernel_rfl)
 obtain ⟨z1,rfl⟩:=Gr t1 (by kernel_rfl)
 obtain ⟨z2,f2,rfl⟩:=HQ t2
 obtain ⟨z3,f3,rfl⟩:=HQ t3
 obtain ⟨z4,rfl,f4,g4⟩:=Gq (k:=5) (e:=34) (fun l h=>LX h) (by kernel_rfl) (by kernel_rfl) t4
 obtain ⟨z5,rfl,f5,g5⟩:=Gq (k:=10) (e:=51) (fun l h=>Qz h) (by kernel_rfl) (by kernel_rfl) t5
 obtain ⟨z6,rfl,f6,g6⟩:=Gq (k:=16) (e:=55) (fun l h=>OD h) (by kernel_rfl) (by kernel_rfl) t6
 obtain ⟨z7,rfl,f7,_⟩:=typed_int t7 (by kernel_rfl)
 obtain ⟨z8,rfl,f8,_⟩:=typed_int t8 (by kernel_rfl)
 exact ⟨⟨z0,z1,z2,z3,z4,z5,z6,z7,z8⟩,⟨f2,f3,f4,g4,f5,g5,f6,g6,f7,f8⟩,e⟩
def Gd (m:MeterX):Prop:=200<(m.nm.size:Int)∨200<(m.un.size:Int)
def Ge (x:ChX):Prop:=40<(x.ts.length:Int)∨40<(x.ad.length:Int)∨200<(x.me.size:Int)
def F6 (p:PlanX):Prop:=(20<(p.ms.length:Int)∨40<(p.fs.length:Int)∨40<(p.cs.length:Int)∨200<(p.nm.size:Int)∨200<(p.cu.size:Int))∨(∃m∈p.ms,Gd m)∨∃x∈p.cs,Ge x
noncomputable instance (p:PlanX):Decidable (F6 p):=Classical.propDecidable _
abbrev HC (b:Nat) (p:PlanX):List (Nat×Blk):=[(b,.box 28 p.cells)]
theorem PE {p:PlanX}:DataW Try.prog L2 [GL p] (bv (decide (F6 p))):=by
 refine EC Mh (by simp) ?_
 simp -implicitDefEqProofs -proj only [go_sem,seval]
 refine EK (fun b1 hb1=>?_)
 by_cases g1:20<(p.ms.length:Int)
 ·simp -implicitDefEqProofs -proj only [go_sem,seval,E9,Fi,FV,decide_eq_true g1]
  exact D9 (by rw [decide_eq_true (.inl (.inl g1))])
 by_cases g2:40<(p.fs.length:Int)
 ·simp -implicitDefEqProofs -proj only [go_sem,seval,E9,Fi,FV,decide_eq_false g1,decide_eq_true g2]
  exact D9 (by rw [decide_eq_true (.inl (.inr (.inl g2)))])
 by_cases g3:40<(p.cs.length:Int)
 ·simp -implicitDefEqProofs -proj only [go_sem,seval,E9,Fi,FV,decide_eq_false g1,decide_eq_false g2,decide_eq_true g3]
  exact D9 (by rw [decide_eq_true (.inl (.inr (.inr (.inl g3))))])
 by_cases g4:200<(p.nm.size:Int)
 ·simp -implicitDefEqProofs -proj only [go_sem,seval,E9,Fi,FV,decide_eq_false g1,decide_eq_false g2,decide_eq_false g3,decide_eq_true g4]
  exact D9 (by rw [decide_eq_true (.inl (.inr (.inr (.inr (.inl g4)))))])
 by_cases g5:200<(p.cu.size:Int)
 ·simp -implicitDefEqProofs -proj only [go_sem,seval,E9,Fi,FV,decide_eq_false g1,decide_eq_false g2,decide_eq_false g3,decide_eq_false g4,decide_eq_true g5]
  exact D9 (by rw [decide_eq_true (.inl (.inr (.inr (.inr (.inr g5)))))])
 simp -implicitDefEqProofs -proj only [go_sem,seval,E9,Fi,FV,decide_eq_false g1,decide_eq_false g2,decide_eq_false g3,decide_eq_false g4,decide_eq_false g5]
 refine Ec (fun i:Nat=>i≤p.ms.length∧∀(j:Nat) (h:j<p.ms.length),j<i→¬Gd p.ms[j]) 77 (fun i=>[(1,.ptr b1 0),(36,.d (.sl 5 (E6 p.ms))),(37,i64 p.ms.length),(38,i64 i)]) (fun _=>HC b1 p) (fun i=>p.ms.length-i) 0 ⟨Nat.zero_le _,fun j _ h=>absurd h (Nat.not_lt_zero _)⟩ rfl ?_ ?_ ?_
 ·simp -implicitDefEqProofs -proj only [go_sem,seval,EA]
 ·simp -implicitDefEqProofs -proj only [go_sem,seval,D3]
 ·rintro i ⟨hi,hs⟩
  have hk:D3 (EI (HC b1 p)) (HC b1 p):=FF (by simp [ES])
  have k1:=hk.1
  by_cases h:i<p.ms.length
  ·have hel:=GQ h
   have hno:Gd p.ms[i]→F6 p:=fun e=>.inr (.inl ⟨_,List.getElem_mem h,e⟩)
   have hgo:¬Gd p.ms[i]→∀(j:Nat) (h:j<p.ms.length),j<i+1→¬Gd p.ms[j]:=by
    intro e j h1 h2
    by_cases hj:j=i
    ·subst hj; exact e
    ·exact hs j h1 (by omega)
   generalize p.ms[i]=m at *
   simp -implicitDefEqProofs -proj only [go_sem,seval,decide_eq_true (show (i:Int)<p.ms.length by omega)]
   refine EW _ (by omega) hel ?_
   simp -implicitDefEqProofs -proj only [go_sem,seval]
   refine EK (fun b4 hb4=>?_)
   replace hb4:EI (HC b1 p) b4=none:=hb4
   obtain ⟨n1,n2⟩:=FY hb4 k1
   by_cases c1:200<(m.nm.size:Int)
   ·simp -implicitDefEqProofs -proj only [go_sem,seval,n1,n2,decide_eq_true c1]
    exact D9 (by rw [decide_eq_true (hno (.inl c1))])
   by_cases c2:200<(m.un.size:Int)
   ·simp -implicitDefEqProofs -proj only [go_sem,seval,n1,n2,decide_eq_false c1,decide_eq_true c2]
    exact D9 (by rw [decide_eq_true (hno (.inr c2))])
   simp -implicitDefEqProofs -proj only [go_sem,seval,n1,n2,decide_eq_false c1,decide_eq_false c2]
   refine Eq (i+1) ⟨by omega,hgo (fun e=>e.elim c1 c2)⟩ (by show p.ms.length-(i+1)<p.ms.length-i; omega) rfl ?_ (FN hb4 hk)
   simp -implicitDefEqProofs -proj only [go_sem,seval,EA,FZ (show i<9223372036854775807 by omega)]
  ·have hi':i=p.ms.length:=by omega
   subst hi'
   simp -implicitDefEqProofs -proj only [go_sem,seval,k1,FV,decide_eq_false (show ¬(p.ms.length:Int)<p.ms.length by omega)]
   refine Ec (fun i:Nat=>i≤p.cs.length∧∀(j:Nat) (h:j<p.cs.length),j<i→¬Ge p.cs[j]) 77 (fun i=>[(54,.d (.sl 16 (Ft p.cs))),(55,i64 p.cs.length),(56,i64 i)]) (fun _=>[]) (fun i=>p.cs.length-i) 0 ⟨Nat.zero_le _,fun j _ h=>absurd h (Nat.not_lt_zero _)⟩ rfl ?_ ?_ ?_
   ·simp -implicitDefEqProofs -proj only [go_sem,seval,EA]
   ·trivial
   ·rintro i ⟨hi2,hs2⟩
    by_cases h2:i<p.cs.length
    ·have hel:(Ft p.cs)[((i:Int)).toNat]? = some p.cs[i].el:=by rw [Int.toNat_natCast]; simp [Ft,h2]
     have hno:Ge p.cs[i]→F6 p:=fun e=>.inr (.inr ⟨_,List.getElem_mem h2,e⟩)
     have hgo:¬Ge p.cs[i]→∀(j:Nat) (h:j<p.cs.length),j<i+1→¬Ge p.cs[j]:=by
      intro e j h1 h2
      by_cases hj:j=i
      ·subst hj; exact e
      ·exact hs2 j h1 (by omega)
     generalize p.cs[i]=x at *
     simp -implicitDefEqProofs -proj only [go_sem,seval,decide_eq_true (show (i:Int)<p.cs.length by omega)]
     refine EW _ (by omega) hel ?_
     simp -implicitDefEqProofs -proj only [go_sem,seval]
     refine EK (fun b4 hb4=>?_)
     by_cases c1:40<(x.ts.length:Int)
     ·simp -implicitDefEqProofs -proj only [go_sem,seval,HV,HN,decide_eq_true c1]
      exact D9 (by rw [decide_eq_true (hno (.inl c1))])
     by_cases c2:40<(x.ad.length:Int)
     ·simp -implicitDefEqProofs -proj only [go_sem,seval,HV,HN,decide_eq_false c1,decide_eq_true c2]
      exact D9 (by rw [decide_eq_true (hno (.inr (.inl c2)))])
     by_cases c3:200<(x.me.size:Int)
     ·simp -implicitDefEqProofs -proj only [go_sem,seval,HV,HN,decide_eq_false c1,decide_eq_false c2,decide_eq_true c3]
      exact D9 (by rw [decide_eq_true (hno (.inr (.inr c3)))])
     simp -implicitDefEqProofs -proj only [go_sem,seval,HV,HN,decide_eq_false c1,decide_eq_false c2,decide_eq_false c3]
     refine Eq (i+1) ⟨by omega,hgo (fun e=>e.elim c1 (fun e=>e.elim c2 c3))⟩ (by show p.cs.length-(i+1)<p.cs.length-i; omega) rfl ?_ trivial
     simp -implicitDefEqProofs -proj only [go_sem,seval,EA,FZ (show i<9223372036854775807 by omega)]
    ·have hi3:i=p.cs.length:=by omega
     subst hi3
     simp -implicitDefEqProofs -proj only [go_sem,seval,decide_eq_false (show ¬(p.cs.length:Int)<p.cs.length by omega)]
     have hn:¬F6 p:=by
      rintro ((e | e | e | e | e) | ⟨m,hm,e⟩ | ⟨x,hx,e⟩)
      ·exact g1 e
      ·exact g2 e
      ·exact g3 e
      ·exact g4 e
      ·exact g5 e
      ·obtain ⟨j,hj,rfl⟩:=List.getElem_of_mem hm
       exact hs j hj hj e
      ·obtain ⟨j,hj,rfl⟩:=List.getElem_of_mem hx
       exact hs2 j hj hj e
     exact D9 (by rw [decide_eq_false hn])
def L0 (T:List Tier) (i:Nat):Int:=if i+1=T.length then 0 else match T[i-1]? with
 | some p=>if 0<i∧1≤p.u then min p.u 1000000+1 else 1
 | none=>1
def MS (T:List Tier) (i:Nat):Int:=if i+1=T.length then 0 else 1000000
def H9 (T:List Tier) (i:Nat) (t:Tier):Prop:=(0≤t.r∧t.r≤1000000000000)∧(L0 T i≤t.u∧t.u≤MS T i)
instance (T:List Tier) (i:Nat) (t:Tier):Decidable (H9 T i t):=by unfold H9; exact inferInstance
def H8 (a:Adj):Prop:=a.k=1∧(0≤a.n∧a.n≤100000000)∧(0≤a.m∧a.m≤3)∨(a.k=2∨a.k=3∨a.k=4)∧(0≤a.n∧a.n≤1000000000000)∧a.m=0
instance (a:Adj):Decidable (H8 a):=by unfold H8; exact inferInstance
def IT (f t:Int) (nm:Nat) (x:PartX):Prop:=0≤x.me∧x.me<nm∧(f≤x.f∧x.f≤x.t∧x.t≤t)∧(0≤x.al∧x.al≤1000000)∧(1≤x.bl∧x.bl≤1000000)∧(x.ki=1∨x.ki=2)∧(0≤x.mo∧x.mo≤3)∧1≤x.ts.length∧x.ts.length≤8∧x.ad.length≤6
instance (f t:Int) (nm:Nat) (x:PartX):Decidable (IT f t nm x):=by unfold IT; exact inferInstance
def Km (T:List Tier):Prop:=∀(i:Nat) (h:i<T.length),H9 T i T[i]
def Kq (l:List Adj):Prop:=∀a∈l,H8 a
noncomputable instance (T:List Tier):Decidable (Km T):=Classical.propDecidable _
noncomputable instance (l:List Adj):Decidable (Kq l):=Classical.propDecidable _
def IX (f t:Int) (nm:Nat) (x:PartX):Prop:=IT f t nm x∧Km x.ts∧Kq x.ad
noncomputable instance (f t:Int) (nm:Nat) (x:PartX):Decidable (IX f t nm x):=by unfold IX; exact inferInstance
def OJ (a b:ByteArray):Bool:=Op.bytesLess a.toList b.toList
def Qg (ms:List MeterX) (i:Nat) (m:MeterX):Prop:=(0≤m.mx∧m.mx≤2000)∧m.ln=0∧m.co=0∧∀p,ms[i-1]? = some p→0<i→OJ p.nm m.nm=true
def Qv (f t:Int) (s:SumX):Prop:=(0≤s.a∧s.a≤1000000000000)∧(f≤s.f∧s.f≤s.t∧s.t≤t)
def Na (c:CoreX):Prop:=(0≤c.f∧c.f≤3652058)∧(c.f≤c.t∧c.t≤3652058)∧c.t-c.f≤3999∧c.ms.length≤4∧c.ss.length≤8∧c.ps.length≤8
def Oi (ms:List MeterX):Prop:=∀(i:Nat) (h:i<ms.length),Qg ms i ms[i]
structure goodC (c:CoreX):Prop where
 hd:Na c
 ms:Oi c.ms
 ss:∀s∈c.ss,Qv c.f c.t s
 ps:∀x∈c.ps,IX c.f c.t c.ms.length x
noncomputable instance (c:CoreX):Decidable (goodC c):=Classical.propDecidable _
theorem J1:∀x:List UInt8,Op.bytesLess x x=false
 | []=>rfl
 | a::x=>by simp [Op.bytesLess,J1 x]
theorem IZ:∀{x y z:List UInt8},Op.bytesLess x y=true→Op.bytesLess y z=true→Op.bytesLess x z=true
 | [],y,[],h1,h2=>by cases y <;> simp [Op.bytesLess] at h2
 | [],y,c::z,h1,h2=>rfl
 | a::x,[],z,h1,h2=>by simp [Op.bytesLess] at h1
 | a::x,b::y,[],h1,h2=>by simp [Op.bytesLess] at h2
 | a::x,b::y,c::z,h1,h2=>by
  simp -implicitDefEqProofs only [Op.bytesLess,Bool.or_eq_true,decide_eq_true_eq,Bool.and_eq_true,beq_iff_eq] at h1 h2 ⊢
  rcases h1 with h1 | ⟨rfl,h1⟩
  ·rcases h2 with h2 | ⟨rfl,h2⟩
   ·exact .inl (UInt8.lt_trans h1 h2)
   ·exact .inl h1
  ·rcases h2 with h2 | ⟨rfl,h2⟩
   ·exact .inl h2
   ·exact .inr ⟨rfl,IZ h1 h2⟩
theorem Hs:∀{x y:List UInt8},Op.bytesLess x y=false→Op.bytesLess y x=false→x=y
 | [],[],_,_=>rfl
 | [],c::z,h1,h2=>by simp [Op.bytesLess] at h1
 | a::x,[],h1,h2=>by simp [Op.bytesLess] at h2
 | a::x,b::y,h1,h2=>by
  simp -implicitDefEqProofs only [Op.bytesLess,Bool.or_eq_false_iff,decide_eq_false_iff_not,Bool.and_eq_false_iff,beq_eq_false_iff_ne,ne_eq] at h1 h2
  have hab:a=b:=UInt8.le_antisymm (UInt8.not_lt.1 h2.1) (UInt8.not_lt.1 h1.1)
  subst hab
  rw [Hs (h1.2.resolve_left (fun h=>h rfl)) (h2.2.resolve_left (fun h=>h rfl))]
theorem KP (b:ByteArray):∀(n i:Nat) (r:List UInt8),b.size≤n+i→ByteArray.toList.loop b i r=r.reverse++b.data.toList.drop i
 | 0,i,r,h=>by
  rw [ByteArray.toList.loop,if_neg (by omega)]
  rw [List.drop_eq_nil_of_le (by simpa using h),List.append_nil]
 | n+1,i,r,h=>by
  rw [ByteArray.toList.loop]
  split
  ·next hi =>
   rw [KP b n (i+1) _ (by omega),List.reverse_cons,List.append_assoc]
   congr 1
   have hi':i<b.data.toList.length:=by simpa using hi
   rw [List.drop_eq_getElem_cons hi']
   have hi2:i<b.data.size:=hi
   simp [ByteArray.get!]
   exact getElem!_pos b.data i hi2
  ·rw [List.drop_eq_nil_of_le (by simp; omega),List.append_nil]
theorem Kn (b:ByteArray):b.toList=b.data.toList:=by
 rw [ByteArray.toList,KP b b.size 0 [] (by omega)]; rfl
def Pd (S:List MeterX) (n:Nat):Prop:=0<n∧(S[n-1]?).map MeterX.nm=(S[n]?).map MeterX.nm
noncomputable instance (S:List MeterX) (n:Nat):Decidable (Pd S n):=Classical.propDecidable _
structure TStep where
 f:Int
 t:Int
 r:Int
abbrev TStep.av (s:TStep):AV:=.agg [i64 s.f,i64 s.t,i64 s.r]
def TStep.el (s:TStep):List D:=[.int .i64 s.f,.int .i64 s.t,.int .i64 s.r]
def Ii (T:List Tier) (q:Int) (i:Nat) (t:Tier):Int:=if i+1<T.length then min q t.u else q
def Fu (T:List Tier) (q:Int):Nat→Int×List TStep
 | 0=>(0,[])
 | i+1=>match T[i]? with
  | some t=>(max (Fu T q i).1 (Ii T q i t),if (Fu T q i).1<Ii T q i t then (Fu T q i).2++[⟨(Fu T q i).1,Ii T q i t,t.r⟩] else (Fu T q i).2)
  | none=>Fu T q i
def M8 (T:List Tier) (q:Int):List TStep:=(Fu T q T.length).2
def I2 (T:List Tier) (q:Int):Nat→List TStep
 | 0=>[]
 | n+1=>match T[T.length-(n+1)]? with
  | some t=>if n=0∨q≤t.u then (if 0<q then [⟨0,q,t.r⟩] else []) else I2 T q n
  | none=>[]
def LJ (T:List Tier) (q:Int):List TStep:=I2 T q T.length
def P8 (x:PartX) (q:Int):List TStep:=if x.ki=2 then LJ x.ts q else M8 x.ts q
def Lq (s:TStep) (a:Int):Option Int:=if Fit (s.r*(s.t-s.f))∧Fit (a+s.r*(s.t-s.f)) then some (a+s.r*(s.t-s.f)) else none
def KQ:List TStep→Int→Option Int
 | [],a=>some a
 | s::l,a=>match Lq s a with
  | some b=>KQ l b
  | none=>none
def QR (x:PartX) (q:Int):Option Int:=if q<0 then none else if Fit (Ho (max (q-x.al) 0) x.bl 1*x.bl) then KQ (P8 x (Ho (max (q-x.al) 0) x.bl 1*x.bl)) 0 else none
def Ni (x:PartX) (q:Int):Option Int:=match QR x q with
 | some n=>Jo n 1000000 x.mo
 | none=>none
def I1:List TStep→Int
 | []=>0
 | s::l=>s.r*(s.t-s.f)+I1 l
section
def HG (s:Bool) (m:Int):AV:=.agg [bv s,u64 (m / 18446744073709551616),u64 (m % 18446744073709551616)]
def wide (n:Int):AV:=HG (n<0) n.natAbs
attribute [local go_sem] HG wide
end
def Oo (a:Adj) (x:Int):Option Int :=
 if a.k=1 then Jo (x*a.n) 100000 a.m
 else if a.k=2 then some (min x a.n)
 else if a.k=3 then some (max x a.n)
 else if a.k=4 then JF (x+a.n)
 else none
def Kk:Int→List Adj→Option Int
 | x,[]=>some x
 | x,a::l=>match Oo a x with
  | some y=>Kk y l
  | none=>none
def Ke (x:PartX) (q:Int):Option Int:=match Ni x q with
 | some n=>Kk n x.ad
 | none=>none
def Jt (d f t:Int):Prop:=f≤d∧d≤t
instance (d f t:Int):Decidable (Jt d f t):=by unfold Jt; exact inferInstance
def bq (b:List Int) (m:Int):Int:=b.getD m.toNat 0
def M2 (c:CoreX) (b:List Int):Prop:=b.length=c.ms.length∧∀(i:Nat) (h:i<b.length) (h2:i<c.ms.length),0≤b[i]∧b[i]≤(c.ms[i]).mx
noncomputable instance (c:CoreX) (b:List Int):Decidable (M2 c b):=Classical.propDecidable _
def sg (g:Nat→Int):Nat→Int
 | 0=>0
 | n+1=>sg g n+g n
def pv (x:PartX) (q:Int):Int:=(Ke x q).getD 0
def JZ (x:PartX):Nat→Int
 | 0=>0
 | n+1=>max (JZ x n) (pv x n)
def JH (ms:List MeterX) (m:Int):Int:=match ms[m.toNat]? with
 | some x=>x.mx
 | none=>0
def Qn (c:CoreX) (j:Nat):Int:=match c.ps[j]? with
 | some x=>JZ x (JH c.ms x.me+1).toNat
 | none=>0
def NA (ss:List SumX) (j:Nat):Int:=match ss[j]? with
 | some s=>s.a
 | none=>0
def Oe (c:CoreX) (i:Nat):Int:=sg (NA c.ss) c.ss.length+sg (Qn c) i
def Lz (x:PartX) (q:Int):Prop:=∃n,Ke x q=some n∧0≤n∧n≤1152921504606846976
structure fitsC (c:CoreX):Prop where
 great:¬Jb c
 good:goodC c
 parts:∀x∈c.ps,∀q:Nat,q<(JH c.ms x.me+1).toNat→Lz x q
 I1:∀i,i≤c.ps.length→Oe c i≤1152921504606846976
noncomputable instance (c:CoreX):Decidable (fitsC c):=Classical.propDecidable _
structure Run where
 f:Int
 t:Int
 v:Int
 deriving DecidableEq
def Run.el (r:Run):List D:=[.int .i64 r.f,.int .i64 r.t,.int .i64 r.v]
abbrev Run.av (r:Run):AV:=.agg [i64 r.f,i64 r.t,i64 r.v]
def Fr (l:List Run) (r:Run):List Run:=match l.getLast? with
 | some q=>if q.v=r.v then l.dropLast++[{ q with t:=r.t }] else l++[r]
 | none=>[r]
def Jh (l:List Run) (x:Int):Nat:=(l.takeWhile fun r=>decide (r.t<x)).length
def HD (l:List Run) (x:Int):Option Int:=match l[Jh l x]? with
 | some r=>if r.f≤x then some r.v else none
 | none=>none
def FwdOK (val:Int→Int) (lo hi:Int):List Run→Prop
 | []=>lo=hi
 | r::R=>r.f=lo∧r.f≤r.t∧(∀x,r.f≤x→x≤r.t→val x=r.v)∧(∀s,R.head? = some s→r.v≠s.v)∧FwdOK val (r.t+1) hi R
theorem FwdOK.le {val:Int→Int}:∀{R:List Run} {lo hi:Int},FwdOK val lo hi R→lo≤hi
 | [],lo,hi,h=>by have:lo=hi:=h; omega
 | r::R,lo,hi,h=>by
  obtain ⟨h1,h2,_,_,h5⟩:=h
  have:=FwdOK.le h5
  omega
theorem I9 {r x:Run} {R:List Run} (h:R≠[]):Fr (r::R) x=r::Fr R x:=by
 obtain ⟨q,hq⟩:∃q,R.getLast? = some q:=by
  cases hh:R.getLast? with
  | none=>exact absurd (List.getLast?_eq_none_iff.1 hh) h
  | some q=>exact ⟨q,rfl⟩
 have h2:(r::R).getLast? = some q:=by
  rw [List.getLast?_cons,hq]; rfl
 unfold Fr
 rw [hq,h2]
 simp -implicitDefEqProofs only []
 split
 ·rw [List.dropLast_cons_of_ne_nil h]; rfl
 ·rfl
theorem Oj {x s:Run} {R:List Run} {q:Run} (h:(Fr (s::R) x).head? = some q):q.v=s.v:=by
 cases R with
 | nil =>
  unfold Fr at h
  simp -implicitDefEqProofs only [List.getLast?_singleton] at h
  split at h
  ·simp at h; subst h; rfl
  ·simp at h; subst h; rfl
 | cons t R =>
  rw [I9 (by simp)] at h
  simp at h; subst h; rfl
theorem FwdOK.put {val:Int→Int} {hi:Int}:∀{R:List Run} {lo:Int},FwdOK val lo hi R→FwdOK val lo (hi+1) (Fr R ⟨hi,hi,val hi⟩)
 | [],lo,h=>by
  have:lo=hi:=h
  subst this
  exact ⟨rfl,Int.le_refl _,fun x h1 h2=>by rw [show x=lo from Int.le_antisymm h2 h1],fun s h=>(by cases h),rfl⟩
 | [r],lo,h=>by
  obtain ⟨h1,h2,h3,h4,h5⟩:=h
  have h5:r.t+1=hi:=h5
  unfold Fr
  simp -implicitDefEqProofs only [List.getLast?_singleton]
  split
  ·next hv =>
   refine ⟨h1,by show r.f≤hi; omega,fun x x1 x2=>?_,fun s h=>(by cases h),rfl⟩
   by_cases hx:x=hi
   ·subst hx; exact hv.symm
   ·exact h3 x x1 (by have:x≤hi:=x2; omega)
  ·next hv =>
   refine ⟨h1,h2,h3,fun s h=>?_,⟨h5.symm,Int.le_refl _,fun x x1 x2=>by rw [show x=hi from Int.le_antisymm x2 x1],fun s h=>(by cases h),rfl⟩⟩
   cases h; exact hv
 | r::s::R,lo,h=>by
  obtain ⟨h1,h2,h3,h4,h5⟩:=h
  rw [I9 (by simp)]
  refine ⟨h1,h2,h3,fun q hq=>?_,FwdOK.put h5⟩
  rw [Oj hq]
  exact h4 s rfl
theorem Pk {r:Run} {R:List Run} {x:Int}:HD (r::R) x=if r.t<x then HD R x else if r.f≤x then some r.v else none:=by
 unfold HD Jh
 by_cases h:r.t<x
 ·rw [if_pos h,List.takeWhile_cons_of_pos (by simpa using h),List.length_cons,List.getElem?_cons_succ]
 ·rw [if_neg h,List.takeWhile_cons_of_neg (by simpa using h)]
  rfl
def Adj2:List Run→Prop
 | []=>True
 | r::R=>(∀s,R.head? = some s→r.v≠s.v)∧Adj2 R
theorem Adj2.last {S R:List Run} {x q:Run} (h:Adj2 (S++x::R)) (hq:S.getLast? = some q):q.v≠x.v:=by
 induction S with
 | nil=>cases hq
 | cons s S ih =>
  cases S with
  | nil =>
   simp at hq; subst hq
   exact h.1 x rfl
  | cons t S =>
   rw [List.getLast?_cons_cons] at hq
   exact ih h.2 hq
structure Seg (β:Type) where
 f:Int
 t:Int
 v : β
section
variable {β:Type}
def FwdB (val:Int→β) (lo hi:Int):List (Seg β)→Prop
 | []=>lo=hi
 | r::R=>r.f=lo∧r.f≤r.t∧(∀x,r.f≤x→x≤r.t→val x=r.v)∧(∀s,R.head? = some s→r.v≠s.v)∧FwdB val (r.t+1) hi R
theorem FwdB.le {val:Int→β}:∀{R:List (Seg β)} {lo hi:Int},FwdB val lo hi R→lo≤hi
 | [],lo,hi,h=>by have:lo=hi:=h; omega
 | r::R,lo,hi,h=>by
  obtain ⟨h1,h2,_,_,h5⟩:=h
  have:=FwdB.le h5
  omega
theorem FwdB.len {val:Int→β}:∀{R:List (Seg β)} {lo hi:Int},FwdB val lo hi R→(R.length:Int)≤hi-lo
 | [],lo,hi,h=>by have:lo=hi:=h; simp; omega
 | r::R,lo,hi,h=>by
  obtain ⟨h1,h2,_,_,h5⟩:=h
  have:=FwdB.len h5
  simp -implicitDefEqProofs only [List.length_cons]
  omega
theorem FwdB.congr {val val':Int→β} {hi:Int}:∀{R:List (Seg β)} {lo:Int},(∀x,lo≤x→x<hi→val x=val' x)→FwdB val lo hi R→FwdB val' lo hi R
 | [],lo,_,h=>h
 | r::R,lo,hv,h=>by
  obtain ⟨h1,h2,h3,h4,h5⟩:=h
  have hl:=h5.le
  exact ⟨h1,h2,fun x a b=>by rw [←hv x (by omega) (by omega)]; exact h3 x a b,h4,FwdB.congr (fun x a b=>hv x (by omega) b) h5⟩
theorem FwdB.nth {val:Int→β} {hi:Int}:∀{R:List (Seg β)} {lo:Int},FwdB val lo hi R→∀(i:Nat) r,R[i]? = some r→lo+i≤r.f∧r.f≤r.t∧r.t<hi∧(∀x,r.f≤x→x≤r.t→val x=r.v)∧(∀s,R[i+1]? = some s→s.f=r.t+1∧r.v≠s.v)∧(R[i+1]? = none→r.t+1=hi)∧(i=0→r.f=lo)
 | [],lo,_,i,r,hr=>by simp at hr
 | q::R,lo,h,0,r,hr=>by
  obtain ⟨h1,h2,h3,h4,h5⟩:=h
  have hl:=h5.le
  simp -implicitDefEqProofs only [List.getElem?_cons_zero,Option.some.injEq] at hr
  subst hr
  refine ⟨by omega,h2,by omega,h3,fun s hs=>?_,fun hs=>?_,fun _=>h1⟩
  ·cases R with
   | nil=>simp at hs
   | cons a R =>
    simp -implicitDefEqProofs only [List.getElem?_cons_succ,List.getElem?_cons_zero,Option.some.injEq] at hs
    subst hs
    exact ⟨h5.1,h4 a rfl⟩
  ·cases R with
   | nil=>exact h5
   | cons a R=>simp at hs
 | q::R,lo,h,i+1,r,hr=>by
  obtain ⟨h1,h2,h3,h4,h5⟩:=h
  have hl:=h5.le
  obtain ⟨g1,g2,g3,g4,g5,g6,g7⟩:=FwdB.nth h5 i r (by simpa using hr)
  exact ⟨by omega,g2,g3,g4,by simpa using g5,by simpa using g6,fun h=>by omega⟩
theorem FwdB.apart {val:Int→β} {hi:Int}:∀{R:List (Seg β)} {lo:Int},FwdB val lo hi R→∀(i j:Nat) r s,i<j→R[i]? = some r→R[j]? = some s→r.t<s.f
 | [],lo,_,i,j,r,s,_,hr,_=>by simp at hr
 | q::R,lo,h,0,0,r,s,hij,_,_=>by omega
 | q::R,lo,h,0,j+1,r,s,_,hr,hs=>by
  obtain ⟨h1,h2,h3,h4,h5⟩:=h
  simp -implicitDefEqProofs only [List.getElem?_cons_zero,Option.some.injEq] at hr
  subst hr
  have:=(FwdB.nth h5 j s (by simpa using hs)).1
  omega
 | q::R,lo,h,i+1,0,r,s,hij,_,_=>by omega
 | q::R,lo,h,i+1,j+1,r,s,hij,hr,hs=>FwdB.apart h.2.2.2.2 i j r s (by omega) (by simpa using hr) (by simpa using hs)
end
theorem FwdOK.out {val:Int→Int} {hi x:Int}:∀{R:List Run} {lo:Int},FwdOK val lo hi R→(x<lo∨hi≤x)→HD R x=none
 | [],lo,h,_=>rfl
 | r::R,lo,h,h1=>by
  obtain ⟨g1,g2,g3,g4,g5⟩:=h
  have:=g5.le
  rw [Pk]
  by_cases ht:r.t<x
  ·rw [if_pos ht]; exact FwdOK.out g5 (.inr (by omega))
  ·rw [if_neg ht,if_neg (by omega)]
theorem FwdOK.ends {val:Int→Int} {hi:Int}:∀{R:List Run} {lo:Int} (hr:R≠[]),FwdOK val lo hi R→(R.head hr).f=lo∧(R.getLast hr).t=hi-1
 | [r],lo,_,h=>⟨h.1,by have:r.t+1=hi:=h.2.2.2.2; show r.t=hi-1; omega⟩
 | r::s::R,lo,_,h=>⟨h.1,(FwdOK.ends (R:=s::R) (by simp) h.2.2.2.2).2⟩
theorem FwdOK.congr {val val':Int→Int} {hi:Int}:∀{R:List Run} {lo:Int},(∀x,lo≤x→x<hi→val x=val' x)→FwdOK val lo hi R→FwdOK val' lo hi R
 | [],_,_,h=>h
 | r::R,lo,he,h=>by
  obtain ⟨g1,g2,g3,g4,g5⟩:=h
  have:=g5.le
  exact ⟨g1,g2,fun x h1 h2=>by rw [←he x (by omega) (by omega)]; exact g3 x h1 h2,g4,FwdOK.congr (fun x h1 h2=>he x (by omega) h2) g5⟩
def Gn (R:List Run) (hi:Int) (i:Nat):Int:=match R[i]? with
 | some r=>r.f
 | none=>hi
theorem FwdOK.nth {val:Int→Int} {hi:Int}:∀{R:List Run} {lo:Int},FwdOK val lo hi R→∀(i:Nat) r,R[i]? = some r→r.f=Gn R hi i∧r.f≤r.t∧Gn R hi (i+1)=r.t+1∧r.t+1≤hi∧lo≤r.f∧∀x,r.f≤x→x≤r.t→val x=r.v:=by
 intro R
 induction R with
 | nil=>intro lo _ i r h; simp at h
 | cons q R ih =>
  intro lo h i r hi'
  obtain ⟨g1,g2,g3,g4,g5⟩:=h
  have hle:=g5.le
  cases i with
  | zero =>
   simp -implicitDefEqProofs only [List.getElem?_cons_zero,Option.some.injEq] at hi'
   subst hi'
   refine ⟨rfl,g2,?_,hle,by omega,g3⟩
   unfold Gn
   cases R with
   | nil=>exact g5.symm
   | cons s R=>exact g5.1
  | succ i =>
   obtain ⟨e1,e2,e3,e4,e5,e6⟩:=ih g5 i r (by simpa using hi')
   exact ⟨by rw [e1]; simp [Gn],e2,by rw [←e3]; simp [Gn],e4,by omega,e6⟩
theorem FwdOK.len {val:Int→Int} {hi:Int}:∀{R:List Run} {lo:Int},FwdOK val lo hi R→(R.length:Int)≤hi-lo
 | [],lo,h=>by have:lo=hi:=h; simp; omega
 | r::R,lo,⟨g1,g2,g3,g4,g5⟩=>by
  have:=g5.len
  simp -implicitDefEqProofs only [List.length_cons]
  omega
structure Grp where
 f:Int
 v:Int
 w:Int
 r:Int
 c:Int
 deriving DecidableEq
theorem FwdOK.drop {val:Int→Int} {hi:Int}:∀{R:List Run} {lo:Int} (k:Nat),FwdOK val lo hi R→k≤R.length→∃m,FwdOK val m hi (R.drop k)∧lo+k≤m∧(∀q,lo≤q→q<m→∃(j:Nat) (h:j<R.length),j<k∧R[j].f≤q∧q≤R[j].t∧val q=R[j].v∧(∀(h2:j+1<R.length),q<R[j+1].f))
 | R,lo,0,h,_=>⟨lo,h,by omega,fun q h1 h2=>by omega⟩
 | [],lo,k+1,h,hk=>absurd hk (by simp)
 | a::R,lo,k+1,⟨g1,g2,g3,g4,g5⟩,hk=>by
  obtain ⟨m,k1,k2,k3⟩:=FwdOK.drop k g5 (by simpa using hk)
  refine ⟨m,k1,by omega,fun q h1 h2=>?_⟩
  by_cases hq:q≤a.t
  ·refine ⟨0,by simp,by omega,by simpa using (by omega),by simpa using hq,by simpa using g3 q (by omega) hq,fun h3=>?_⟩
   cases R with
   | nil=>simp at h3
   | cons b R =>
    have:=g5.1
    simp -implicitDefEqProofs only [List.getElem_cons_succ,List.getElem_cons_zero]
    omega
  ·obtain ⟨j,j1,j2,j3,j4,j5,j6⟩:=k3 q (by omega) h2
   exact ⟨j+1,by simpa using j1,by omega,by simpa using j3,by simpa using j4,by simpa using j5,fun h3=>by simpa using j6 (by simpa using h3)⟩
def Iq (r:Run):Prop:=r.v < -2305843009213693952∨2305843009213693952<r.v
instance (r:Run):Decidable (Iq r):=by unfold Iq; exact inferInstance
def Grp.el (g:Grp):List D:=[.int .i64 g.f,.int .i64 g.v,.int .i64 g.w,.int .i64 g.r,.int .i64 g.c]
abbrev Grp.av (g:Grp):AV:=.agg [i64 g.f,i64 g.v,i64 g.w,i64 g.r,i64 g.c]
def Md (R:List Run):Prop:=∃h:R≠[],(R.head h).f=0∧(R.getLast h).t≤2000∧∀r∈R,¬Iq r
noncomputable instance (R:List Run):Decidable (Md R):=Classical.propDecidable _
def Hw (v:Int):Prop:=-2305843009213693952≤v∧v≤2305843009213693952
instance (v:Int):Decidable (Hw v):=by unfold Hw; exact inferInstance
def O5 (l:List Int):Prop:=l≠[]∧l.length≤2001∧∀v∈l,Hw v
noncomputable instance (l:List Int):Decidable (O5 l):=Classical.propDecidable _
def EH (l:List ByteArray):List (List D):=l.map fun s=>[.str s]
theorem FD {l:List ByteArray}:(EH l).length=l.length:=List.length_map ..
theorem OF {l r:List ByteArray}:EH (l++r)=EH l++EH r:=List.map_append ..
abbrev ChX.cells (x:ChX):List AV:=[.d (.str x.me),bv x.w.has,i64 x.w.f.y,i64 x.w.f.m,i64 x.w.f.d,i64 x.w.t.y,i64 x.w.t.m,i64 x.w.t.d,i64 x.al,i64 x.bl,i64 x.ki,.d (.sl 2 (Hb x.ts)),i64 x.mo,.d (.sl 3 (HI x.ad)),i64 x.ln,i64 x.co]
def Nb:Go.Shelf.Ren:=⟨fun | 190=>22 | 125=>41 | 258=>40 | 128=>59 | 129=>60 | 302=>50 | 303=>51 | 304=>52 | 305=>53 | 306=>54 | 307=>55 | 308=>56 | 309=>57 | 310=>58 | 333=>61 | 329=>62 | 330=>63 | 334=>64 | 335=>65 | 336=>66 | 344=>67 | n=>n,fun | 31=>31 | 9=>9 | 3=>3 | 46=>47 | 0=>0 | 51=>93 | 53=>95 | 4=>4 | 183=>85 | 182=>84 | 131=>90 | 5=>5 | 218=>97 | 222=>101 | 228=>104 | 229=>105 | n=>n,fun | n=>n⟩
theorem Le:Go.Proofs.Lays.n190 Try.prog Nb:={
 mixed:=by kernel_rfl
 f125:=Try.func41.trans (congrArg some (by kernel_rfl))
 f128:=Try.func59.trans (congrArg some (by kernel_rfl))
 f129:=Try.func60.trans (congrArg some (by kernel_rfl))
 f190:=Try.func22.trans (congrArg some (by kernel_rfl))
 f258:=Try.func40.trans (congrArg some (by kernel_rfl))
 f302:=Try.func50.trans (congrArg some (by kernel_rfl))
 f303:=Try.func51.trans (congrArg some (by kernel_rfl))
 f304:=Try.func52.trans (congrArg some (by kernel_rfl))
 f305:=Try.func53.trans (congrArg some (by kernel_rfl))
 f306:=Try.func54.trans (congrArg some (by kernel_rfl))
 f307:=Try.func55.trans (congrArg some (by kernel_rfl))
 f308:=Try.func56.trans (congrArg some (by kernel_rfl))
 f309:=Try.func57.trans (congrArg some (by kernel_rfl))
 f310:=Try.func58.trans (congrArg some (by kernel_rfl))
 f329:=Try.func62.trans (congrArg some (by kernel_rfl))
 f330:=Try.func63.trans (congrArg some (by kernel_rfl))
 f333:=Try.func61.trans (congrArg some (by kernel_rfl))
 f334:=Try.func64.trans (congrArg some (by kernel_rfl))
 f335:=Try.func65.trans (congrArg some (by kernel_rfl))
 f336:=Try.func66.trans (congrArg some (by kernel_rfl))
 f344:=Try.func67.trans (congrArg some (by kernel_rfl))
 t0:=Try.underlying0
 a0:=Try.isAgg0
 z0:=Try.sizeOf0
 v0:=Try.zeroValue0
 t3:=Try.underlying3
 a3:=Try.isAgg3
 z3:=Try.sizeOf3
 v3:=Try.zeroValue3
 t4:=Try.underlying4
 a4:=Try.isAgg4
 z4:=Try.sizeOf4
 v4:=Try.zeroValue4
 t5:=Try.underlying5
 a5:=Try.isAgg5
 z5:=Try.sizeOf5
 v5:=Try.zeroValue5
 t9:=Try.underlying9
 a9:=Try.isAgg9
 z9:=Try.sizeOf9
 v9:=Try.zeroValue9
 t31:=Try.underlying31
 a31:=Try.isAgg31
 z31:=Try.sizeOf31
 v31:=Try.zeroValue31
 t46:=Try.underlying47
 a46:=Try.isAgg47
 z46:=Try.sizeOf47
 v46:=Try.zeroValue47
 t51:=Try.underlying93
 a51:=Try.isAgg93
 z51:=Try.sizeOf93
 v51:=Try.zeroValue93
 t53:=Try.underlying95
 a53:=Try.isAgg95
 z53:=Try.sizeOf95
 v53:=Try.zeroValue95
 t131:=Try.underlying90
 a131:=Try.isAgg90
 z131:=Try.sizeOf90
 v131:=Try.zeroValue90
 t182:=Try.underlying84
 a182:=Try.isAgg84
 z182:=Try.sizeOf84
 v182:=Try.zeroValue84
 t183:=Try.underlying85
 a183:=Try.isAgg85
 z183:=Try.sizeOf85
 v183:=Try.zeroValue85
 t218:=Try.underlying97
 a218:=Try.isAgg97
 z218:=Try.sizeOf97
 v218:=Try.zeroValue97
 t222:=Try.underlying101
 a222:=Try.isAgg101
 z222:=Try.sizeOf101
 v222:=Try.zeroValue101
 t228:=Try.underlying104
 a228:=Try.isAgg104
 z228:=Try.sizeOf104
 v228:=Try.zeroValue104
 t229:=Try.underlying105
 a229:=Try.isAgg105
 z229:=Try.sizeOf105
 v229:=Try.zeroValue105 }
def EP (l:List ByteArray):List ByteArray:=((l.map fun s=>s.data.toList).mergeSort fun x y=>decide (x≤y)).map fun l=>⟨l.toArray⟩
theorem Id {l:List ByteArray}:(EP l).length=l.length:=by simp [EP]
theorem Ob {H:Heap} {c cap cp:Nat} {L:List ByteArray} (h:H c=some (.row 9 1 cap (EH L))) (hl:L.length≤1000000):CallW Try.prog IB [.own c 1 0 L.length cp] H fun r H'=>r = .tup []∧H'=AH H c (some (.row 9 1 cap (EH (EP L)))):=by
 intro F w vs hh hv
 obtain ⟨v,us,rfl,hx,hu⟩:=hv.uncons
 obtain rfl:=hu.unnil
 generalize hlen:L.length=n at hx
 cases hx with | own _ _ _ _ _ hlc =>
 obtain ⟨cur,g1,g2,g3,g4,g5,g6,g7,g8⟩:=hh.at_ _ _ h
 have hclt:c<w.heap.size:=(hh.at_ _ _ h).lt
 have hcur:∀(i:Nat) (hi:i<L.length),cur[i]? = some (.string L[i]):=fun i hi=>by
  have hlt:i<cur.length:=by rw [FD] at g3; omega
  have:=g7 i 0 [.str L[i]] (.str L[i]) cur[i] (by simp [EH,hi]) rfl (by rw [Nat.mul_one,Nat.add_zero]; exact List.getElem?_eq_getElem hlt)
  rw [List.getElem?_eq_getElem hlt]
  generalize cur[i]=u at this ⊢
  cases this with
  | str s=>rfl
 let ss:List (List UInt8):=L.map fun s=>s.data.toList
 have hss:ss.length=L.length:=List.length_map ..
 have hH:Sort.Holds encStr w c 0 ss.toArray:=fun j hj=>by
  have hj':j<L.length:=by simpa [ss] using hj
  have e1:ss.toArray[j]! = (L[j]).data.toList:=by
   rw [getElem!_pos ss.toArray j hj]; simp [ss]
  rw [e1,Nat.zero_add]
  have hc:=hcur j hj'
  have hjc:=(List.getElem?_eq_some_iff.1 hc).1
  refine ⟨?_,?_⟩
  ·simp [World.cell?,g1,hc]
  ·simp [World.frozen?,g1]
 have hrun:=Any.slices_Sort_string (P:=Try.prog) Le c 0 cp ss w hH hclt (by rw [hss]; omega)
 rw [hss,hlen] at hrun
 have hargs:(#[Value.slice (some ⟨c,0,none⟩) n cp]:Array Value)=[Value.slice (some ⟨c,0*1,none⟩) n cp].toArray:=rfl
 rw [hargs] at hrun
 refine hrun.mono fun ex w' hr=>?_
 obtain ⟨rfl,k,os,rfl⟩:=hr
 obtain ⟨ms,hms⟩:∃ms,ss.mergeSort (fun x y=>decide (x≤y))=ms:=⟨_,rfl⟩
 have hml:ms.length=L.length:=by rw [←hms,List.length_mergeSort,hss]
 have hsb:EP L=ms.map fun l=>⟨l.toArray⟩:=by rw [←hms]; rfl
 rw [hms]
 have hheap:(Sort.grow (Sort.putRow encStr (Sort.ahead w k) c 0 ms.toArray) os).heap=w.heap.modify c (Sort.onCells (Sort.putCells encStr 0 ms.toArray))++os:=rfl
 have hne:∀j,j<w.heap.size→j≠c→(Sort.grow (Sort.putRow encStr (Sort.ahead w k) c 0 ms.toArray) os).heap[j]? = w.heap[j]?:=fun j hj hjc=>by
  rw [hheap,Array.getElem?_append_left (by rw [Array.size_modify]; exact hj),Array.getElem?_modify,if_neg (fun e=>hjc e.symm)]
 have hc:(Sort.grow (Sort.putRow encStr (Sort.ahead w k) c 0 ms.toArray) os).heap[c]? = some (.cells (Sort.putCells encStr 0 ms.toArray cur.toArray) 9 (0,0)):=by
  rw [hheap,Array.getElem?_append_left (by rw [Array.size_modify]; exact hclt),Array.getElem?_modify,if_pos rfl,g1]
  rfl
 have hsz:(Sort.grow (Sort.putRow encStr (Sort.ahead w k) c 0 ms.toArray) os).heap.size=w.heap.size+os.size:=by
  rw [hheap,Array.size_append,Array.size_modify]
 have ho1:(Sort.grow (Sort.putRow encStr (Sort.ahead w k) c 0 ms.toArray) os).os=w.os:=rfl
 have ho2:(Sort.grow (Sort.putRow encStr (Sort.ahead w k) c 0 ms.toArray) os).tape=w.tape:=rfl
 have ho3:(Sort.grow (Sort.putRow encStr (Sort.ahead w k) c 0 ms.toArray) os).output=w.output:=rfl
 generalize Sort.grow (Sort.putRow encStr (Sort.ahead w k) c 0 ms.toArray) os=w' at hne hc hsz ho1 ho2 ho3 ⊢
 have hFc:¬F c:=hh.apart c _ h
 have hput:∀i:Nat,(Sort.putCells encStr 0 ms.toArray cur.toArray)[i]? = (cur[i]?).map fun x=>if i<ms.length then encStr ms.toArray[i]! else x:=fun i=>by
  simp -implicitDefEqProofs only [Sort.putCells,Array.getElem?_mapIdx,List.getElem?_toArray,Nat.zero_le,true_and,Nat.zero_add,Nat.sub_zero,List.size_toArray]
 have hlen':(Sort.putCells encStr 0 ms.toArray cur.toArray).size=cur.length:=by simp [Sort.putCells]
 have hrow:BR Try.prog F w' c (.row 9 1 cap (EH (EP L))):=by
  refine ⟨(Sort.putCells encStr 0 ms.toArray cur.toArray).toList,by simpa using hc,by rw [Array.length_toList,hlen',g2],by rw [FD,Id,←FD (l:=L)]; exact g3,g4,g5,fun el he=>?_,fun i j el cc u e1 e2 e3=>?_,fun v hv=>?_⟩
  ·obtain ⟨s,_,rfl⟩:=List.mem_map.1 he
   rfl
  ·rw [hsb] at e1
   simp -implicitDefEqProofs only [EH,List.map_map,List.getElem?_map,Option.map_eq_some_iff,Function.comp_apply] at e1
   obtain ⟨l,hl1,rfl⟩:=e1
   have hi:=(List.getElem?_eq_some_iff.1 hl1).1
   cases j with
   | succ j=>simp at e2
   | zero =>
    simp -implicitDefEqProofs only [List.getElem?_cons_zero,Option.some.injEq] at e2
    subst e2
    rw [Nat.mul_one,Nat.add_zero,Array.getElem?_toList,hput] at e3
    obtain ⟨x,hx1,hx2⟩:=Option.map_eq_some_iff.1 e3
    rw [if_pos hi,getElem!_pos ms.toArray i (by simpa using hi)] at hx2
    have hli:ms.toArray[i]=l:=by
     have:=(List.getElem?_eq_some_iff.1 hl1).2
     simpa using this
    rw [hli] at hx2
    subst hx2
    exact .str _
  ·obtain ⟨i,hi,rfl⟩:=List.getElem_of_mem hv
   have e:=hput i
   rw [←Array.getElem?_toList,List.getElem?_eq_getElem hi] at e
   obtain ⟨x,hx1,hx2⟩:=Option.map_eq_some_iff.1 e.symm
   rw [←hx2]
   split
   ·rfl
   ·exact g8 x (List.mem_of_getElem? hx1)
 refine ⟨.tup [],AH H c (some (.row 9 1 cap (EH (EP L)))),F,.tuple #[],rfl,.tup [] [] rfl (fun j x v hx _=>by simp at hx),⟨fun q x hq=>?_,fun q x hq hf=>?_,fun q hq=>?_⟩,⟨ho1,ho2,ho3,by omega,fun q hq hn=>?_,fun q hq=>?_,fun _ h=>h,fun _ h=>.inl h⟩,rfl,rfl⟩
 ·rw [AI] at hq
  split at hq
  ·next e=>cases hq; subst e; exact hrow
  ·next e=>exact (hh.at_ q x hq).mono (hne q (hh.at_ q x hq).lt (fun e'=>e e'.symm)) (fun _ h=>h) (fun j hj=>hne j (hh.old j hj) (fun e'=>hFc (e'▸hj)))
 ·rw [AI] at hq
  split at hq
  ·next e=>subst e; exact hFc hf
  ·exact hh.apart q x hq hf
 ·have:=hh.old q hq; omega
 ·exact hne q hq (fun e=>by rw [e,h] at hn; cases hn)
 ·rw [AI] at hq
  split at hq
  ·next e=>subst e; exact .inl (by rw [h]; simp)
  ·exact .inl hq
theorem Lk {P:Program} {f:FuncId} {args:List AV} {H0 H:Heap} {K:AV→Heap→Prop} (h:CallW P f args H0 K) (hs:∀k,H0 k=none∨H0 k=H k) :
  CallW P f args H fun r H'=>∃H1,K r H1∧(∀k x,H1 k=some x→H' k=some x)∧∀k x,H k=some x→H0 k=none→H' k=some x:=by
 classical
 intro F w vs hh hv
 have hsub:∀b x,H0 b=some x→H b=some x:=fun b x hb=>by
  rcases hs b with e | e
  ·rw [e] at hb; cases hb
  ·rw [←e]; exact hb
 have hh0:HRel P F H0 w:=⟨fun b x hb=>hh.at_ b x (hsub b x hb),fun b x hb=>hh.apart b x (hsub b x hb),hh.old⟩
 refine (h F w vs hh0 hv).mono fun e w' hr=>?_
 obtain ⟨r,H1,F',v,rfl,h1,h2,h3,h4⟩:=hr
 have hF0:∀k,F k→H0 k=none:=fun k hk=>by
  cases e:H0 k with
  | none=>rfl
  | some x=>exact absurd hk (hh0.apart k x e)
 have hne:∀k,H0 k≠none→H k≠none:=fun k hk=>by
  cases e:H0 k with
  | none=>exact absurd e hk
  | some x=>rw [hsub k x e]; simp
 have hfr:∀k x,H1 k=some x→¬(H k≠none∧H0 k=none):=fun k x hx hk=>by
  rcases h3.dom k (by rw [hx]; simp) with e | e
  ·exact e hk.2
  ·cases e2:H k with
   | none=>exact hk.1 e2
   | some y=>have:=(hh.at_ k y e2).lt; omega
 refine ⟨r,fun k=>if H k≠none∧H0 k=none then H k else H1 k,F',v,rfl,h1,⟨fun b x hb=>?_,fun b x hb hf=>?_,h2.old⟩,⟨h3.os,h3.tape,h3.output,h3.size,fun k hk e=>h3.keep k hk ?_,fun k hk=>?_,h3.mono,fun k hk=>?_⟩,H1,h4,fun k x hx=>?_,fun k x hx hk=>?_⟩
 ·by_cases e:H b≠none∧H0 b=none
  ·rw [if_pos e] at hb
   exact (hh.at_ b x hb).mono (h3.keep b (hh.at_ b x hb).lt e.2) h3.mono (fun k hk=>h3.keep k (hh.old k hk) (hF0 k hk))
  ·rw [if_neg e] at hb
   exact h2.at_ b x hb
 ·by_cases e:H b≠none∧H0 b=none
  ·rw [if_pos e] at hb
   rcases h3.new b hf with e2 | e2 | e2
   ·exact hh.apart b x hb e2
   ·exact e2 e.2
   ·have:=(hh.at_ b x hb).lt; omega
  ·rw [if_neg e] at hb
   exact h2.apart b x hb hf
 ·rcases hs k with e2 | e2
  ·exact e2
  ·rw [e2,e]
 ·by_cases e:H k≠none∧H0 k=none
  ·exact .inl e.1
  ·rw [if_neg e] at hk
   exact (h3.dom k hk).imp (hne k) id
 ·rcases h3.new k hk with e | e | e
  ·exact .inl e
  ·exact .inr (.inl (hne k e))
  ·exact .inr (.inr e)
 ·show (if H k≠none∧H0 k=none then H k else H1 k)=some x
  rw [if_neg (hfr k x hx)]
  exact hx
 ·show (if H k≠none∧H0 k=none then H k else H1 k)=some x
  rw [if_pos ⟨by rw [hx]; simp,hk⟩]
  exact hx
theorem J0 {H:Heap}:∀{l:List (Nat×Blk)},D3 H l→∀k,EI l k=none∨EI l k=H k
 | [],_,_=>.inl rfl
 | (b,x)::l,h,k=>by
  rw [Ai]
  by_cases e:k=b
  ·rw [if_pos e]
   subst e
   exact .inr h.1.symm
  ·rw [if_neg e]
   exact J0 h.2 k
abbrev sA:ByteArray:=⟨⟨[97]⟩⟩
abbrev sB:ByteArray:=⟨⟨[98]⟩⟩
theorem MX (s:ByteArray):DataW Try.prog Os [.d (.str s)] (bv false):=by
 refine EC Lx (by simp) ?_
 simp -implicitDefEqProofs -proj only [go_sem,seval,M9]
 refine D9 ?_
 simp
theorem Qb (s t:ByteArray):DataW Try.prog PI [.d (.str s),.d (.str t)] (bv (Op.bytesLess s.toList t.toList)):=by
 refine EC M6 (by simp) ?_
 simp -implicitDefEqProofs -proj only [go_sem,seval]
 refine ER (MX s) ?_
 simp -implicitDefEqProofs -proj only [go_sem,seval,Qa]
 exact D9 rfl
theorem N4:Op.bytesLess sA.toList sB.toList=true:=by decide +kernel
abbrev rowBA:List (List D):=[[.str sB],[.str sA]]
abbrev FU:List (List D):=[[.str sA],[.str sB]]
abbrev H2 (c cap:Nat) (xs:List (List D)):List (Nat×Blk):=[(c,.row 9 1 cap xs)]
theorem Lt {c cap cp:Nat}:CallW Try.prog Jr [.own c 1 0 2 cp,i64 0,i64 2] (EI (H2 c cap rowBA)) fun _ H'=>H' c=some (.row 9 1 cap FU):=by
 have hall:∀xs,D3 (EI (H2 c cap xs)) (H2 c cap xs):=fun xs=>FF (by simp [ES])
 have hw1:IntKind.i64.wrap 1=1:=by decide
 have hw2:IntKind.i64.wrap 2=2:=by decide
 have hw0:IntKind.i64.wrap 0=0:=by decide
 refine EC KH (by simp) ?_
 simp -implicitDefEqProofs -proj only [go_sem,seval,hw1]
 refine Ec (fun x:Nat=>x≤1) 49 (fun x=>[(0,.own c 1 0 2 cp),(1,i64 0),(2,i64 2),(6,i64 ((x:Int)+1))]) (fun x=>H2 c cap (if x=0 then rowBA else FU)) (fun x=>1-x) 0 (by omega) rfl ?_ ?_ ?_
 ·simp -implicitDefEqProofs -proj only [go_sem,seval,EA]
 ·simp -implicitDefEqProofs -proj only [go_sem,seval]
  exact hall _
 ·intro x hx
  rcases (by omega:x=0∨x=1) with rfl | rfl
  ·simp -implicitDefEqProofs -proj only [go_sem,seval]
   refine Ec (fun y:Nat=>y≤1) 49 (fun y=>[(0,.own c 1 0 2 cp),(1,i64 0),(2,i64 2),(6,i64 1),(7,i64 (1-(y:Int)))]) (fun y=>H2 c cap (if y=0 then rowBA else FU)) (fun y=>1-y) 0 (by omega) rfl ?_ ?_ ?_
   ·simp -implicitDefEqProofs -proj only [go_sem,seval,EA]
   ·simp -implicitDefEqProofs -proj only [go_sem,seval]
    exact hall _
   ·intro y hy
    rcases (by omega:y=0∨y=1) with rfl | rfl
    ·have hr:EI (H2 c cap rowBA) c=some (.row 9 1 cap rowBA):=(hall _).1
     have hw:IntKind.i64.wrap (1-1)=0:=by decide
     have hl:=Qb sA sB
     rw [N4] at hl
     simp -implicitDefEqProofs -proj only [go_sem,seval,hr]
     (repeat' (with_reducible refine GI ?_ (fun h=>?_); (focus first | decide | omega); clear h; try simp -implicitDefEqProofs -proj only [go_sem,seval,eq_self,hr]))
     refine Hi _ rfl (by simp) ?_
     simp -implicitDefEqProofs -proj only [go_sem,seval,hr]
     refine Hi _ rfl (by simp) ?_
     simp -implicitDefEqProofs -proj only [go_sem,seval,hr]
     refine ER hl ?_
     simp -implicitDefEqProofs -proj only [go_sem,seval,hr]
     (repeat' (with_reducible refine GI ?_ (fun h=>?_); (focus first | decide | omega); clear h; try simp -implicitDefEqProofs -proj only [go_sem,seval,eq_self,hr]))
     refine Hi _ rfl (by simp) ?_
     simp -implicitDefEqProofs -proj only [go_sem,seval,hr]
     refine Hi _ rfl (by simp) ?_
     simp -implicitDefEqProofs -proj only [go_sem,seval,hr]
     (repeat' (with_reducible refine GI ?_ (fun h=>?_); (focus first | decide | omega); clear h; try simp -implicitDefEqProofs -proj only [go_sem,seval,eq_self,hr]))
     refine Kw (cap:=cap) (t:=9) (xs:=rowBA) hr rfl (by simp) ?_
     simp -implicitDefEqProofs -proj only [go_sem,seval]
     (repeat' (with_reducible refine GI ?_ (fun h=>?_); (focus first | decide | omega); clear h; try simp -implicitDefEqProofs -proj only [go_sem,seval,eq_self]))
     refine Kw (cap:=cap) (t:=9) (xs:=[[.str sB],[.str sB]]) (by simp -implicitDefEqProofs -proj only [go_sem,seval]; rfl) rfl (by simp) ?_
     simp -implicitDefEqProofs -proj only [go_sem,seval,hw0]
     refine Eq 1 (by omega) (by omega) rfl ?_ ?_
     ·simp -implicitDefEqProofs -proj only [go_sem,seval,EA]
     ·simp -implicitDefEqProofs -proj only [go_sem,seval,D3]
      try rfl
    ·simp -implicitDefEqProofs -proj only [go_sem,seval]
     refine Eq 1 (by omega) (by omega) rfl ?_ ?_
     ·simp -implicitDefEqProofs -proj only [go_sem,seval,EA,hw2]
     ·simp -implicitDefEqProofs -proj only [go_sem,seval]
      exact hall _
  ·have hr:EI (H2 c cap FU) c=some (.row 9 1 cap FU):=(hall _).1
   simp -implicitDefEqProofs -proj only [go_sem,seval]
   try rfl
theorem RK {c cap cp:Nat} {lim:Int}:CallW Try.prog Je [.own c 1 0 2 cp,i64 0,i64 2,i64 lim] (EI (H2 c cap rowBA)) fun _ H'=>H' c=some (.row 9 1 cap FU):=by
 have hall:∀xs,D3 (EI (H2 c cap xs)) (H2 c cap xs):=fun xs=>FF (by simp [ES])
 have hw2:IntKind.i64.wrap 2=2:=by decide
 refine EC Jn (by simp) ?_
 simp -implicitDefEqProofs -proj only [go_sem,seval]
 refine Ec (fun x:Nat=>x=0) 134 (fun x=>[(0,.own c 1 0 2 cp),(1,i64 0),(2,i64 2),(3,i64 lim)]) (fun x=>H2 c cap rowBA) (fun x=>x) 0 rfl rfl ?_ ?_ ?_
 ·simp -implicitDefEqProofs -proj only [go_sem,seval,EA]
 ·exact hall _
 ·rintro x rfl
  simp -implicitDefEqProofs -proj only [go_sem,seval,hw2]
  refine E8 Lt (fun r H' hk=>?_)
  simp -implicitDefEqProofs -proj only [go_sem,seval]
  exact hk
set_option maxRecDepth 100000 in
theorem PF:DataW Try.prog KI [.d (.int .u64 2)] (i64 2):=by
 refine EC JE (by simp) ?_
 simp -implicitDefEqProofs -proj only [go_sem,seval]
 refine GI (by decide +kernel) (fun _=>?_)
 exact D9 (KX (by decide +kernel))
theorem Pw:DataW Try.prog JS [.d (.int .u64 2)] (i64 2):=by
 refine EC I8 (by simp) ?_
 simp -implicitDefEqProofs -proj only [go_sem,seval]
 refine ER PF ?_
 simp -implicitDefEqProofs -proj only [go_sem,seval]
 exact D9 rfl
theorem Nw {H:Heap} {c cap cp:Nat} (h:H c=some (.row 9 1 cap rowBA)):CallW Try.prog IB [.own c 1 0 2 cp] H fun _ H'=>H' c=some (.row 9 1 cap FU)∧∀k x,¬k=c→H k=some x→H' k=some x:=by
 have hall:D3 (EI (H2 c cap rowBA)) (H2 c cap rowBA):=FF (by simp [ES])
 refine EC Kg (by simp) ?_
 have hw2:IntKind.u64.wrap 2=2:=by decide
 simp -implicitDefEqProofs -proj only [go_sem,seval,hw2]
 refine ER Pw ?_
 simp -implicitDefEqProofs -proj only [go_sem,seval]
 refine E8 (Lk (RK (c:=c) (cap:=cap) (cp:=cp) (lim:=2)) (J0 ⟨h,trivial⟩)) (fun r H' hk=>?_)
 obtain ⟨H1,h1,h2,h3⟩:=hk
 simp -implicitDefEqProofs -proj only [go_sem,seval]
 refine ⟨h2 c _ h1,fun k x hk hx=>h3 k x hx ?_⟩
 simp -implicitDefEqProofs -proj only [go_sem,seval,hk]
 try rfl
abbrev s0:ByteArray:=⟨⟨[]⟩⟩
abbrev sP:ByteArray:=⟨⟨[112]⟩⟩
abbrev EJ (col:Int):List (List D):=[[.str sB,.str s0,.int .i64 0,.int .i64 0,.int .i64 col],[.str sA,.str s0,.int .i64 0,.int .i64 0,.int .i64 0]]
abbrev If:List (List D):=[[.int .i64 5,.bool false,.int .i64 0,.int .i64 0,.int .i64 0,.int .i64 0,.int .i64 0,.int .i64 0,.int .i64 0,.int .i64 0]]
abbrev F8 (M F:List (List D)) (ln:Int):List AV:=[.d (.str sP),.d (.str s0),i64 0,i64 0,i64 0,i64 0,i64 0,i64 0,.d (.sl 5 M),.d (.sl 10 F),.d (.sl 16 []),i64 ln,i64 0]
abbrev Hk (M F:List (List D)) (ln:Int):AV:=.agg (F8 M F ln)
structure NmX where
 i:Nat
 c:Nat
 cap:Nat
theorem En {i c cap:Nat}:(NmX.mk i c cap).i=i:=(rfl)
theorem Eu {i c cap:Nat}:(NmX.mk i c cap).c=c:=(rfl)
theorem Ew {i c cap:Nat}:(NmX.mk i c cap).cap=cap:=(rfl)
def HP (b1:Nat) (y:NmX):List (Nat×Blk):=Fk 9 1 y.c y.cap (rowBA.take y.i)++[(b1,.box 28 (F8 (EJ 0) [] 0))]
theorem QM:NewW Try.prog KV [Hk (EJ 0) [] 0] (.d (.sl 1 FU)):=by
 have hw1:IntKind.i64.wrap 1=1:=by decide
 have hw2:IntKind.i64.wrap 2=2:=by decide
 refine EC KZ (by simp) ?_
 simp -implicitDefEqProofs -proj only [go_sem,seval]
 refine EK (fun b1 hb1=>?_)
 have a1:=HS (x:=.box 28 (F8 (EJ 0) [] 0)) hb1 (l:=[]) trivial
 have k1:=HR (x:=.box 28 (F8 (EJ 0) [] 0)) hb1 (l:=[]) trivial List.nodup_nil
 simp -implicitDefEqProofs -proj only [go_sem,seval]
 refine Ec (fun y:NmX=>y.i≤2∧(ES (HP b1 y)).Nodup) 22 (fun y=>[(1,.ptr b1 0),(3,FI 0 1 y.c y.cap (rowBA.take y.i)),(7,.d (.sl 5 (EJ 0))),(8,i64 2),(9,i64 y.i)]) (HP b1) (fun y=>2-y.i) ⟨0,0,0⟩ ⟨Nat.zero_le _,k1⟩ rfl ?_ ?_ ?_
 ·simp -implicitDefEqProofs -proj only [go_sem,seval,EA,En,Eu,Ew]
  try rfl
 ·simp -implicitDefEqProofs -proj only [go_sem,seval]
  exact a1
 ·rintro ⟨i,c,cap⟩ ⟨hi,hn⟩
  simp -implicitDefEqProofs only [En] at hi
  have hall:=FF hn
  obtain ⟨H,hH⟩:∃H,EI (HP b1 ⟨i,c,cap⟩)=H:=⟨_,rfl⟩
  rw [hH] at hall
  simp -implicitDefEqProofs only [HP,En,Eu,Ew] at hall hn
  obtain ⟨hrow,e1,_⟩:=Hc.1 hall
  rcases (by omega:i=0∨i=1∨i=2) with rfl | rfl | rfl
  ·simp -implicitDefEqProofs -proj only [go_sem,seval,En,Eu,Ew,hH,e1]
   refine EW [.str sB,.str s0,.int .i64 0,.int .i64 0,.int .i64 0] (by decide) rfl ?_
   simp -implicitDefEqProofs -proj only [go_sem,seval]
   refine EK (fun b5 hb5=>?_)
   replace hb5:H b5=none:=hb5
   simp -implicitDefEqProofs -proj only [go_sem,seval]
   refine GB (fun bs hs'=>?_)
   have hall2:=FN (y:=some (.box 34 [.d (.str sB),.d (.str s0),i64 0,i64 0,i64 0])) hb5 hall
   replace hs':AH H b5 _ bs=none:=hs'
   simp -implicitDefEqProofs -proj only [go_sem,seval]
   refine Is (xs:=rowBA.take 0) (y:=[.str sB]) (t:=9) (capc:=1) [(b1,.box 28 (F8 (EJ 0) [] 0))] rfl (FN hs' hall2) hn (by simp -implicitDefEqProofs -proj only [go_sem,seval]) (by decide) (by decide) (fun H' c' cap' ha hk=>?_)
   simp -implicitDefEqProofs -proj only [go_sem,seval,hw1]
   refine Eq ⟨1,c',cap'⟩ ⟨by show 1≤2; omega,hk⟩ (by show 2-1<2-0; omega) rfl ?_ ha
   simp -implicitDefEqProofs -proj only [go_sem,seval,EA,En,Eu,Ew,hw1]
   try rfl
  ·simp -implicitDefEqProofs -proj only [go_sem,seval,En,Eu,Ew,hH,e1]
   refine EW [.str sA,.str s0,.int .i64 0,.int .i64 0,.int .i64 0] (by decide) rfl ?_
   simp -implicitDefEqProofs -proj only [go_sem,seval]
   refine EK (fun b5 hb5=>?_)
   replace hb5:H b5=none:=hb5
   simp -implicitDefEqProofs -proj only [go_sem,seval]
   refine GB (fun bs hs'=>?_)
   have hall2:=FN (y:=some (.box 34 [.d (.str sA),.d (.str s0),i64 0,i64 0,i64 0])) hb5 hall
   replace hs':AH H b5 _ bs=none:=hs'
   simp -implicitDefEqProofs -proj only [go_sem,seval]
   refine Is (xs:=rowBA.take 1) (y:=[.str sA]) (t:=9) (capc:=1) [(b1,.box 28 (F8 (EJ 0) [] 0))] rfl (FN hs' hall2) hn (by simp -implicitDefEqProofs -proj only [go_sem,seval]) (by decide) (by decide) (fun H' c' cap' ha hk=>?_)
   simp -implicitDefEqProofs -proj only [go_sem,seval,hw2]
   refine Eq ⟨2,c',cap'⟩ ⟨by show 2≤2; omega,hk⟩ (by show 2-2<2-1; omega) rfl ?_ ha
   simp -implicitDefEqProofs -proj only [go_sem,seval,EA,En,Eu,Ew,hw2]
   try rfl
  ·simp -implicitDefEqProofs -proj only [go_sem,seval,En,Eu,Ew,hH]
   refine E8 (Nw (cap:=cap) hrow.1) (fun r H' hk=>?_)
   obtain ⟨h1,h2⟩:=hk
   simp -implicitDefEqProofs -proj only [go_sem,seval]
   exact .own _ _ _ _ _ FU h1 (by intro el he d hd; simp -implicitDefEqProofs only [List.mem_cons,List.not_mem_nil,or_false] at he; rcases he with rfl | rfl <;> (simp -implicitDefEqProofs only [List.mem_cons,List.not_mem_nil,or_false] at hd; subst hd; rfl))
theorem JY {x y:ByteArray} {c d:Int} (h:x.toList == y.toList):DataW Try.prog HY [.agg [.d (.str x),.d (.str s0),i64 0,i64 0,i64 c],.agg [.d (.str y),.d (.str s0),i64 0,i64 0,i64 d]] (bv true):=by
 refine EC Qo (by simp) ?_
 simp -implicitDefEqProofs -proj only [go_sem,seval]
 refine EK (fun b2 hb2=>?_)
 simp -implicitDefEqProofs -proj only [go_sem,seval]
 refine EK (fun b3 hb3=>?_)
 replace hb3:AH Heap.none b2 _ b3=none:=hb3
 obtain ⟨n1,n2⟩:=FY hb3 FL
 simp -implicitDefEqProofs -proj only [go_sem,seval,n1,n2,Fb,h,beq_self_eq_true,decide_eq_true (rfl:(0:Int)=0)]
 exact D9 rfl
theorem LP {c d:Int}:DataW Try.prog NV [.d (.sl 5 (EJ c)),.d (.sl 5 (EJ d)),.fn HY []] (bv true):=by
 have hw1:IntKind.i64.wrap 1=1:=by decide
 have hw2:IntKind.i64.wrap 2=2:=by decide
 refine EC NL (by simp) ?_
 simp -implicitDefEqProofs -proj only [go_sem,seval]
 refine Ec (fun i:Nat=>i≤2) 32 (fun i=>[(0,.d (.sl 5 (EJ c))),(1,.d (.sl 5 (EJ d))),(2,.fn HY []),(15,.d (.sl 5 (EJ c))),(16,i64 2),(17,i64 i)]) (fun _=>[]) (fun i=>2-i) 0 (by omega) rfl ?_ ?_ ?_
 ·simp -implicitDefEqProofs -proj only [go_sem,seval,EA]
  try rfl
 ·simp -implicitDefEqProofs -proj only [go_sem,seval,D3]
 ·intro i hi
  rcases (by omega:i=0∨i=1∨i=2) with rfl | rfl | rfl
  ·simp -implicitDefEqProofs -proj only [go_sem,seval]
   refine EW [.str sB,.str s0,.int .i64 0,.int .i64 0,.int .i64 c] (by decide) rfl ?_
   simp -implicitDefEqProofs -proj only [go_sem,seval]
   refine EK (fun b8 hb8=>?_)
   simp -implicitDefEqProofs -proj only [go_sem,seval]
   refine EW [.str sB,.str s0,.int .i64 0,.int .i64 0,.int .i64 d] (by decide) rfl ?_
   simp -implicitDefEqProofs -proj only [go_sem,seval]
   refine EK (fun b9 hb9=>?_)
   simp -implicitDefEqProofs only [AI] at hb9
   have n1:¬b8=b9:=fun e=>by subst e; simp at hb9
   have n2:¬b9=b8:=fun e=>n1 e.symm
   simp -implicitDefEqProofs -proj only [go_sem,seval,n1,n2]
   refine ER (JY (by simp)) ?_
   simp -implicitDefEqProofs -proj only [go_sem,seval,hw1]
   refine Eq 1 (by omega) (by omega) rfl ?_ trivial
   simp -implicitDefEqProofs -proj only [go_sem,seval,EA,hw1]
   try rfl
  ·simp -implicitDefEqProofs -proj only [go_sem,seval]
   refine EW [.str sA,.str s0,.int .i64 0,.int .i64 0,.int .i64 0] (by decide) rfl ?_
   simp -implicitDefEqProofs -proj only [go_sem,seval]
   refine EK (fun b8 hb8=>?_)
   simp -implicitDefEqProofs -proj only [go_sem,seval]
   refine EW [.str sA,.str s0,.int .i64 0,.int .i64 0,.int .i64 0] (by decide) rfl ?_
   simp -implicitDefEqProofs -proj only [go_sem,seval]
   refine EK (fun b9 hb9=>?_)
   simp -implicitDefEqProofs only [AI] at hb9
   have n1:¬b8=b9:=fun e=>by subst e; simp at hb9
   have n2:¬b9=b8:=fun e=>n1 e.symm
   simp -implicitDefEqProofs -proj only [go_sem,seval,n1,n2]
   refine ER (JY (by simp)) ?_
   simp -implicitDefEqProofs -proj only [go_sem,seval,hw2]
   refine Eq 2 (by omega) (by omega) rfl ?_ trivial
   simp -implicitDefEqProofs -proj only [go_sem,seval,EA,hw2]
   try rfl
  ·simp -implicitDefEqProofs -proj only [go_sem,seval]
   exact D9 rfl
theorem QS {c d:Int}:DataW Try.prog Ot [.d (.sl 5 (EJ c)),.d (.sl 5 (EJ d)),.fn HY []] (bv true):=by
 refine EC Ky (by simp) ?_
 simp -implicitDefEqProofs -proj only [go_sem,seval]
 refine ER LP ?_
 simp -implicitDefEqProofs -proj only [go_sem,seval]
 exact D9 rfl
theorem Pc:DataW Try.prog RO [.d (.sl 16 []),.d (.sl 16 []),.fn Jf []] (bv true):=by
 have h:DataW Try.prog Mz [.d (.sl 16 []),.d (.sl 16 []),.fn Jf []] (bv true):=by
  refine EC N9 (by simp) ?_
  simp -implicitDefEqProofs -proj only [go_sem,seval]
  refine Ec (fun i:Nat=>i=0) 32 (fun i=>[(16,i64 0),(17,i64 0)]) (fun _=>[]) (fun i=>i) 0 rfl rfl ?_ ?_ ?_
  ·simp -implicitDefEqProofs -proj only [go_sem,seval,EA]
  ·simp -implicitDefEqProofs -proj only [go_sem,seval,D3]
  ·rintro i rfl
   simp -implicitDefEqProofs -proj only [go_sem,seval]
   exact D9 rfl
 refine EC Ok (by simp) ?_
 simp -implicitDefEqProofs -proj only [go_sem,seval]
 refine ER h ?_
 simp -implicitDefEqProofs -proj only [go_sem,seval]
 exact D9 rfl
theorem KY {F:List (List D)} (hF:F=[]∨F=If):DataW Try.prog Ix [.d (.sl 10 []),.d (.sl 10 F),.fn Hq []] (bv (decide (F.length=0))):=by
 have h:DataW Try.prog MA [.d (.sl 10 []),.d (.sl 10 F),.fn Hq []] (bv (decide (F.length=0))):=by
  refine EC Ps (by simp) ?_
  rcases hF with rfl | rfl
  ·simp -implicitDefEqProofs -proj only [go_sem,seval]
   refine Ec (fun i:Nat=>i=0) 32 (fun i=>[(16,i64 0),(17,i64 0)]) (fun _=>[]) (fun i=>i) 0 rfl rfl ?_ ?_ ?_
   ·simp -implicitDefEqProofs -proj only [go_sem,seval,EA]
   ·simp -implicitDefEqProofs -proj only [go_sem,seval,D3]
   ·rintro i rfl
    simp -implicitDefEqProofs -proj only [go_sem,seval]
    exact D9 rfl
  ·simp -implicitDefEqProofs -proj only [go_sem,seval]
   exact D9 rfl
 refine EC Pt (by simp) ?_
 simp -implicitDefEqProofs -proj only [go_sem,seval]
 refine ER h ?_
 simp -implicitDefEqProofs -proj only [go_sem,seval]
 exact D9 rfl
theorem JU {c d e:Int} {F:List (List D)} {u:Bool} (h2:DataW Try.prog Ix [.d (.sl 10 []),.d (.sl 10 F),.fn Hq []] (bv u)):DataW Try.prog Q8 [Hk (EJ c) [] 0,Hk (EJ d) F e] (bv u):=by
 have h1:=QS (c:=c) (d:=d)
 have h3:=Pc
 refine EC QB (by simp) ?_
 simp -implicitDefEqProofs -proj only [go_sem,seval]
 refine EK (fun b2 hb2=>?_)
 simp -implicitDefEqProofs -proj only [go_sem,seval]
 refine EK (fun b3 hb3=>?_)
 replace hb3:AH Heap.none b2 _ b3=none:=hb3
 obtain ⟨n1,n2⟩:=FY hb3 FL
 simp -implicitDefEqProofs -proj only [go_sem,seval,n1,n2,Fb,beq_self_eq_true,decide_eq_true (rfl:(0:Int)=0)]
 refine ER h1 ?_
 simp -implicitDefEqProofs -proj only [go_sem,seval,n1,n2]
 refine ER h2 ?_
 cases u
 ·simp -implicitDefEqProofs -proj only [go_sem,seval,n1,n2]
  exact D9 rfl
 ·simp -implicitDefEqProofs -proj only [go_sem,seval,n1,n2]
  refine ER h3 ?_
  simp -implicitDefEqProofs -proj only [go_sem,seval]
  exact D9 rfl
theorem MF:(sB.toList == sA.toList)=false:=by decide +kernel
theorem KM {H:Heap} {b:Nat} {x y:ByteArray} {c:Int} {z:Bool} (hb:H b=some (.box 9 [.d (.str y)])) (h:(x.toList == y.toList)=z):CallW Try.prog FX [.agg [.d (.str x),.d (.str s0),i64 0,i64 0,i64 c],.ptr b 0] H fun r H'=>r=bv z∧H' b=some (.box 9 [.d (.str y)]):=by
 refine EC Jm (by simp) ?_
 simp -implicitDefEqProofs -proj only [go_sem,seval]
 refine EK (fun b2 hb2=>?_)
 replace hb2:H b2=none:=hb2
 obtain ⟨n1,n2⟩:=FY hb2 hb
 simp -implicitDefEqProofs -proj only [go_sem,seval,n1,n2,hb,Fb,h]
theorem LR {H:Heap} {b:Nat} (hb:H b=some (.box 9 [.d (.str sA)])):CallW Try.prog JI [.d (.sl 5 (EJ 0)),.fn FX [.ptr b 0]] H fun r _=>r=i64 1:=by
 have hw1:IntKind.i64.wrap 1=1:=by decide
 have hall:D3 (EI [(b,.box 9 [.d (.str sA)])]) [(b,.box 9 [.d (.str sA)])]:=FF (by simp [ES])
 refine EC KT (by simp) ?_
 simp -implicitDefEqProofs -proj only [go_sem,seval]
 refine Ec (fun i:Nat=>i≤1) 19 (fun i=>[(0,.d (.sl 5 (EJ 0))),(1,.fn FX [.ptr b 0]),(6,.d (.sl 5 (EJ 0))),(7,i64 2),(8,i64 i)]) (fun _=>[(b,.box 9 [.d (.str sA)])]) (fun i=>2-i) 0 (by omega) rfl ?_ ?_ ?_
 ·simp -implicitDefEqProofs -proj only [go_sem,seval,EA]
  try rfl
 ·exact ⟨hb,trivial⟩
 ·intro i hi
  rcases (by omega:i=0∨i=1) with rfl | rfl
  ·simp -implicitDefEqProofs -proj only [go_sem,seval]
   refine EW [.str sB,.str s0,.int .i64 0,.int .i64 0,.int .i64 0] (by decide) rfl ?_
   simp -implicitDefEqProofs -proj only [go_sem,seval]
   refine E8 (KM hall.1 MF) (fun r H' hk=>?_)
   obtain ⟨rfl,hk⟩:=hk
   simp -implicitDefEqProofs -proj only [go_sem,seval,hw1]
   refine Eq 1 (by omega) (by omega) rfl ?_ ⟨hk,trivial⟩
   simp -implicitDefEqProofs -proj only [go_sem,seval,EA,hw1]
   try rfl
  ·simp -implicitDefEqProofs -proj only [go_sem,seval]
   refine EW [.str sA,.str s0,.int .i64 0,.int .i64 0,.int .i64 0] (by decide) rfl ?_
   simp -implicitDefEqProofs -proj only [go_sem,seval]
   refine E8 (KM (z:=true) hall.1 (by simp)) (fun r H' hk=>?_)
   obtain ⟨rfl,hk⟩:=hk
   simp -implicitDefEqProofs -proj only [go_sem,seval,hw1]
   try rfl
theorem PK {H:Heap} {b:Nat} (hb:H b=some (.box 9 [.d (.str sA)])):CallW Try.prog JL [.d (.sl 5 (EJ 0)),.fn FX [.ptr b 0]] H fun r _=>r=i64 1:=by
 refine EC JX (by simp) ?_
 simp -implicitDefEqProofs -proj only [go_sem,seval]
 refine E8 (LR hb) (fun r H' hk=>?_)
 subst hk
 simp -implicitDefEqProofs -proj only [go_sem,seval]
theorem Qw:DataW Try.prog KG [Hk (EJ 0) [] 0,.d (.str sA)] (i64 1):=by
 refine EC KO (by simp) ?_
 simp -implicitDefEqProofs -proj only [go_sem,seval]
 refine EK (fun b2 hb2=>?_)
 simp -implicitDefEqProofs -proj only [go_sem,seval]
 refine EK (fun b3 hb3=>?_)
 replace hb3:AH Heap.none b2 _ b3=none:=hb3
 obtain ⟨n1,n2⟩:=FY hb3 FL
 simp -implicitDefEqProofs -proj only [go_sem,seval,n1,n2]
 refine E8 (PK (by simp -implicitDefEqProofs -proj only [go_sem,seval])) (fun r H' hk=>?_)
 subst hk
 simp -implicitDefEqProofs -proj only [go_sem,seval]
 exact D9 rfl
theorem GF {H:Heap} {m f c m' f' c':AV} {n d:AV} {a1 a2 a3 a4 a5 a6 a7 a8:AV} (h1:LendV H m m') (h2:LendV H f f') (h3:LendV H c c'):LendV H (.agg [n,d,a1,a2,a3,a4,a5,a6,m,f,c,a7,a8]) (.agg [n,d,a1,a2,a3,a4,a5,a6,m',f',c',a7,a8]):=by
 refine .aggL ?_
 iterate 8 refine EM (.refl _) ?_
 exact EM h1 (EM h2 (EM h3 (LendL.refl _)))
theorem Oc:DataW Try.prog Lc [] (bv true):=by
 have h0:=QM
 have h1:=JU (c:=0) (d:=0) (e:=0) (F:=[]) (u:=true) (KY (.inl rfl))
 have h2:=JU (c:=0) (d:=7) (e:=3) (F:=If) (u:=false) (KY (.inr rfl))
 have h3:=Qw
 refine EC MC (by simp) ?_
 simp -implicitDefEqProofs -proj only [go_sem,seval]
 refine GB (fun bs hs=>?_)
 simp -implicitDefEqProofs -proj only [go_sem,seval]
 refine EK (fun b1 hb1=>?_)
 replace hb1:AH Heap.none bs _ b1=none:=hb1
 obtain ⟨n1,n2⟩:=FY hb1 FL
 simp -implicitDefEqProofs -proj only [go_sem,seval,n1,n2]
 refine GB (fun br hr=>?_)
 simp -implicitDefEqProofs only [AI,n1,n2,↓reduceIte] at hr
 have n3:¬b1=br:=fun e=>by subst e; simp [n1,n2] at hr
 have n4:¬bs=br:=fun e=>by subst e; simp [n1,n2] at hr
 have n5:¬br=b1:=fun e=>n3 e.symm
 have n6:¬br=bs:=fun e=>n4 e.symm
 simp -implicitDefEqProofs -proj only [go_sem,seval,n1,n2,n3,n4,n5,n6]
 refine GB (fun bq hq=>?_)
 simp -implicitDefEqProofs only [AI,n1,n2,n3,n4,n5,n6,↓reduceIte] at hq
 have m1:¬b1=bq:=fun e=>by subst e; simp [n1,n2,n3,n4,n5,n6] at hq
 have m2:¬bs=bq:=fun e=>by subst e; simp [n1,n2,n3,n4,n5,n6] at hq
 have m3:¬br=bq:=fun e=>by subst e; simp [n1,n2,n3,n4,n5,n6] at hq
 have m4:¬bq=b1:=fun e=>m1 e.symm
 have m5:¬bq=bs:=fun e=>m2 e.symm
 have m6:¬bq=br:=fun e=>m3 e.symm
 simp -implicitDefEqProofs -proj only [go_sem,seval,n1,n2,n3,n4,n5,n6,m1,m2,m3,m4,m5,m6]
 refine EK (fun b2 hb2=>?_)
 simp -implicitDefEqProofs only [AI,n1,n2,n3,n4,n5,n6,m1,m2,m3,m4,m5,m6,↓reduceIte] at hb2
 have k1:¬b1=b2:=fun e=>by subst e; simp [n1,n2,n3,n4,n5,n6,m1,m2,m3,m4,m5,m6] at hb2
 have k2:¬bs=b2:=fun e=>by subst e; simp [n1,n2,n3,n4,n5,n6,m1,m2,m3,m4,m5,m6] at hb2
 have k3:¬br=b2:=fun e=>by subst e; simp [n1,n2,n3,n4,n5,n6,m1,m2,m3,m4,m5,m6] at hb2
 have k4:¬bq=b2:=fun e=>by subst e; simp [n1,n2,n3,n4,n5,n6,m1,m2,m3,m4,m5,m6] at hb2
 have k5:¬b2=b1:=fun e=>k1 e.symm
 have k6:¬b2=bs:=fun e=>k2 e.symm
 have k7:¬b2=br:=fun e=>k3 e.symm
 have k8:¬b2=bq:=fun e=>k4 e.symm
 simp -implicitDefEqProofs -proj only [go_sem,seval,n1,n2,n3,n4,n5,n6,m1,m2,m3,m4,m5,m6,k1,k2,k3,k4,k5,k6,k7,k8]
 refine Ma h0 (EM (GF (Fh (xs:=EJ 0) (by simp -implicitDefEqProofs -proj only [go_sem,seval,n1,n2,n3,n4,n5,n6,m1,m2,m3,m4,m5,m6,k1,k2,k3,k4,k5,k6,k7,k8]; try rfl) rfl) (.nilsl _ _) (.nilsl _ _)) GZ) ?_
 simp -implicitDefEqProofs -proj only [go_sem,seval,n1,n2,n3,n4,n5,n6,m1,m2,m3,m4,m5,m6,k1,k2,k3,k4,k5,k6,k7,k8]
 refine IN h1 (EM (GF (Fh (xs:=EJ 0) (by simp -implicitDefEqProofs -proj only [go_sem,seval,n1,n2,n3,n4,n5,n6,m1,m2,m3,m4,m5,m6,k1,k2,k3,k4,k5,k6,k7,k8]; try rfl) rfl) (.nilsl _ _) (.nilsl _ _)) (EM (GF (Fh (xs:=EJ 0) (by simp -implicitDefEqProofs -proj only [go_sem,seval,n1,n2,n3,n4,n5,n6,m1,m2,m3,m4,m5,m6,k1,k2,k3,k4,k5,k6,k7,k8]; try rfl) rfl) (.nilsl _ _) (.nilsl _ _)) GZ)) rfl ?_
 simp -implicitDefEqProofs -proj only [go_sem,seval,n1,n2,n3,n4,n5,n6,m1,m2,m3,m4,m5,m6,k1,k2,k3,k4,k5,k6,k7,k8]
 refine IN h2 (EM (GF (Fh (xs:=EJ 0) (by simp -implicitDefEqProofs -proj only [go_sem,seval,n1,n2,n3,n4,n5,n6,m1,m2,m3,m4,m5,m6,k1,k2,k3,k4,k5,k6,k7,k8]; try rfl) rfl) (.nilsl _ _) (.nilsl _ _)) (EM (GF (Fh (xs:=EJ 7) (by simp -implicitDefEqProofs -proj only [go_sem,seval,n1,n2,n3,n4,n5,n6,m1,m2,m3,m4,m5,m6,k1,k2,k3,k4,k5,k6,k7,k8]; try rfl) rfl) (Fh (xs:=If) (by simp -implicitDefEqProofs -proj only [go_sem,seval,n1,n2,n3,n4,n5,n6,m1,m2,m3,m4,m5,m6,k1,k2,k3,k4,k5,k6,k7,k8]; try rfl) rfl) (.nilsl _ _)) GZ)) rfl ?_
 simp -implicitDefEqProofs -proj only [go_sem,seval,n1,n2,n3,n4,n5,n6,m1,m2,m3,m4,m5,m6,k1,k2,k3,k4,k5,k6,k7,k8]
 refine IN h3 (EM (GF (Fh (xs:=EJ 0) (by simp -implicitDefEqProofs -proj only [go_sem,seval,n1,n2,n3,n4,n5,n6,m1,m2,m3,m4,m5,m6,k1,k2,k3,k4,k5,k6,k7,k8]; try rfl) rfl) (.nilsl _ _) (.nilsl _ _)) (EM (.refl _) GZ)) rfl ?_
 simp -implicitDefEqProofs -proj only [go_sem,seval,n1,n2,n3,n4,n5,n6,m1,m2,m3,m4,m5,m6,k1,k2,k3,k4,k5,k6,k7,k8]
 refine EW [.str sA] (by decide) rfl ?_
 simp -implicitDefEqProofs -proj only [go_sem,seval,Fb,beq_self_eq_true]
 exact D9 rfl
def Redesc (P:Program) (H H':Heap):Prop:=∀F w,HRel P F H w→∃F',HRel P F' H' w∧Step F H w F' H' w
theorem DefOK.step {B:Nat} {F F':Nat→Prop} {H H':Heap} {ds:List Deferred} {w:World} (h:DefOK B F H ds w) (st:Step F H w F' H' w):DefOK B F' H' ds w:=by
 obtain ⟨h1,ms,h2,h3,h4⟩:=h
 refine ⟨h1,ms,h2,h3,fun D hD=>?_⟩
 obtain ⟨g1,g2,g3,g4⟩:=h4 D hD
 have hlt:D<w.heap.size:=by
  rcases Nat.lt_or_ge D w.heap.size with h | h
  ·exact h
  ·rw [Array.getElem?_eq_none h] at g4; cases g4
 refine ⟨g1,?_,fun hf=>?_,g4⟩
 ·cases e:H' D with
  | none=>rfl
  | some x =>
   rcases st.dom D (by rw [e]; simp) with k | k
   ·exact absurd g2 k
   ·omega
 ·rcases st.new D hf with k | k | k
  ·exact g3 k
  ·exact k g2
  ·omega
theorem Redesc.loop {P:Program} {Q:Out→St→Prop} {b:ACode} {k:List Item} {s:St} {H':Heap} (hd:Redesc P s.H H') (h:Gl P Q b k ⟨s.n,s.t,H'⟩):Gl P Q b k s:=by
 intro r c0 hc hr B F a w hR
 obtain ⟨F',h1,h2⟩:=hd F w hR.1
 exact Code.wpIn_mono (fun e a' w' ⟨o,s',F2,g1,g2,g3,g4⟩=>⟨o,s',F2,g1,g2,h2.trans g3,g4⟩) (h r c0 hc hr B F' a w ⟨h1,hR.2.1.step h2,hR.2.2.1,fun t=>(hR.2.2.2 t).mono h2.mono (fun _ _=>rfl)⟩)
theorem Redesc.call {P:Program} {f:FuncId} {args:List AV} {H H':Heap} {K:AV→Heap→Prop} (hd:Redesc P H H') (h:CallW P f args H' K):CallW P f args H K:=by
 intro F w vs hh hv
 obtain ⟨F',h1,h2⟩:=hd F w hh
 exact (h F' w vs h1 (hv.mono h2.mono (fun _ _=>rfl))).mono fun e w' ⟨r,H2,F2,v,g1,g2,g3,g4,g5⟩=>⟨r,H2,F2,v,g1,g2,g3,h2.trans g4,g5⟩
def Gx (r:AV) (sz n:Nat):Prop:=(n=0∧∃q,r = .nilsl q)∨∃b cap,r = .own b sz 0 n cap
def Fp (e:TypeId) (r:AV) (xs:List (List D)):List (Nat×Blk):=match r with
 | .own b sz _ _ cap=>[(b,.row e sz cap xs)]
 | _=>[]
theorem Hy {H:Heap} {e:TypeId} {r:AV} {sz:Nat} {xs:List (List D)} (h:Gx r sz xs.length) (ha:D3 H (Fp e r xs)):LendV H r (.d (.sl sz xs)):=by
 rcases h with ⟨h0,q,rfl⟩ | ⟨b,cap,rfl⟩
 ·rw [List.eq_nil_of_length_eq_zero h0]; exact .nilsl _ _
 ·exact .own b sz cap e cap xs ha.1
structure PlanX.Sm (p:PlanX):Prop where
 m:p.ms.length≤1000000
 f:p.fs.length≤1000000
 c:p.cs.length≤1000000
 ta:∀x∈p.cs,x.ts.length≤1000000∧x.ad.length≤1000000
structure GenS (M:List MeterX) (F:List FeeX) (X:List ChX) (m f c:AV) (H:Heap):Prop where
 hm:Gx m 5 M.length
 hf:Gx f 10 F.length
 hc:Gx c 16 X.length
 all:D3 H (Fp 55 c (Ft X)++(Fp 51 f (HX F)++Fp 34 m (E6 M)))
 nd:(ES (Fp 55 c (Ft X)++(Fp 51 f (HX F)++Fp 34 m (E6 M)))).Nodup
theorem Redesc.refl (P:Program) (H:Heap):Redesc P H H:=fun F w h=>⟨F,h,Step.refl _ _ _⟩
theorem GenS.lend {p:PlanX} {m f c:AV} {H:Heap} (h:GenS p.ms p.fs p.cs m f c H):LendV H (.agg (I6 p.nm p.cu p.f p.t m f c p.ln p.co)) (GL p):=by
 have a1:=Hc.1 h.all
 have a2:=Hc.1 a1.2
 refine LendV.aggL (EM (.refl _) (EM (.refl _) (EM (.refl _) (EM (.refl _) (EM (.refl _) (EM (.refl _) (EM (.refl _) (EM (.refl _) (EM ?_ (EM ?_ (EM ?_ (EM (.refl _) (EM (.refl _) GZ)))))))))))))
 ·exact Hy (by rw [E9]; exact h.hm) a2.2
 ·exact Hy (by rw [Fi]; exact h.hf) a2.1
 ·exact Hy (by rw [FV]; exact h.hc) a1.1
abbrev N5 (m:MeterX):AV:=.agg [.d (.str m.nm),.d (.str m.un),i64 m.mx,i64 m.ln,i64 m.co]
theorem Ic {l:List ByteArray} {i:Nat} (h:i<l.length):(EH l)[((i:Int)).toNat]? = some [.str l[i]]:=by rw [Int.toNat_natCast]; simp [EH,h]
structure ChX.Sm (x:ChX):Prop where
 fit:x.Fit
 t:x.ts.length≤1000000
 a:x.ad.length≤1000000
structure PlanX.Lo (p:PlanX):Prop where
 m:p.ms.length≤20
 f:p.fs.length≤40
 c:p.cs.length≤40
 ta:∀x∈p.cs,x.ts.length≤40∧x.ad.length≤40
theorem PlanX.lo {p:PlanX} (h:¬F6 p):p.Lo:=by
 refine ⟨?_,?_,?_,fun x hx=>?_⟩
 ·exact Nat.not_lt.1 fun e=>h (.inl (.inl (by omega)))
 ·exact Nat.not_lt.1 fun e=>h (.inl (.inr (.inl (by omega))))
 ·exact Nat.not_lt.1 fun e=>h (.inl (.inr (.inr (.inl (by omega)))))
 ·exact ⟨Nat.not_lt.1 fun e=>h (.inr (.inr ⟨x,hx,.inl (by omega)⟩)),Nat.not_lt.1 fun e=>h (.inr (.inr ⟨x,hx,.inr (.inl (by omega))⟩))⟩
theorem PlanX.Lo.sm {p:PlanX} (h:p.Lo):p.Sm:=⟨by have:=h.m; omega,by have:=h.f; omega,by have:=h.c; omega,fun x hx=>by have:=h.ta x hx; omega⟩
theorem Mg:DataW Try.prog Jr [.nilsl 0,i64 0,i64 0] (.tup []):=by
 have hw1:IntKind.i64.wrap 1=1:=by decide
 refine EC KH (by simp) ?_
 simp -implicitDefEqProofs -proj only [go_sem,seval,hw1]
 refine Ec (fun x:Nat=>x=0) 49 (fun x=>[(0,.nilsl 0),(1,i64 0),(2,i64 0),(6,i64 1)]) (fun x=>[]) (fun x=>x) 0 rfl rfl ?_ trivial ?_
 ·simp -implicitDefEqProofs -proj only [go_sem,seval,EA]
 ·rintro x rfl
  simp -implicitDefEqProofs -proj only [go_sem,seval]
  exact D9 rfl
theorem PY {lim:Int}:DataW Try.prog Je [.nilsl 0,i64 0,i64 0,i64 lim] (.tup []):=by
 have hw:IntKind.i64.wrap 0=0:=by decide
 refine EC Jn (by simp) ?_
 simp -implicitDefEqProofs -proj only [go_sem,seval]
 refine Ec (fun x:Nat=>x=0) 134 (fun x=>[(0,.nilsl 0),(1,i64 0),(2,i64 0),(3,i64 lim)]) (fun x=>[]) (fun x=>x) 0 rfl rfl ?_ trivial ?_
 ·simp -implicitDefEqProofs -proj only [go_sem,seval,EA]
 ·rintro x rfl
  simp -implicitDefEqProofs -proj only [go_sem,seval,hw]
  refine ER Mg ?_
  simp -implicitDefEqProofs -proj only [go_sem,seval]
  exact D9 rfl
set_option maxRecDepth 100000 in
theorem OO:DataW Try.prog KI [.d (.int .u64 0)] (i64 0):=by
 refine EC JE (by simp) ?_
 simp -implicitDefEqProofs -proj only [go_sem,seval]
 refine GI (by decide +kernel) (fun _=>?_)
 exact D9 (KX (by decide +kernel))
theorem K0:DataW Try.prog JS [.d (.int .u64 0)] (i64 0):=by
 refine EC I8 (by simp) ?_
 simp -implicitDefEqProofs -proj only [go_sem,seval]
 refine ER OO ?_
 simp -implicitDefEqProofs -proj only [go_sem,seval]
 exact D9 rfl
theorem Q4:DataW Try.prog IB [.nilsl 0] (.tup []):=by
 have hw:IntKind.u64.wrap 0=0:=by decide
 refine EC Kg (by simp) ?_
 simp -implicitDefEqProofs -proj only [go_sem,seval,hw]
 refine ER K0 ?_
 simp -implicitDefEqProofs -proj only [go_sem,seval]
 refine ER PY ?_
 simp -implicitDefEqProofs -proj only [go_sem,seval]
 exact D9 rfl
def D0 (p:PlanX):List ByteArray:=p.ms.map (·.nm)
theorem namesX_len {p:PlanX}:(D0 p).length=p.ms.length:=List.length_map ..
def HZ (b1:Nat) (p:PlanX) (y:NmX):List (Nat×Blk):=Fk 9 1 y.c y.cap (EH ((D0 p).take y.i))++[(b1,.box 28 p.cells)]
theorem Or {p:PlanX} (hp:p.Sm):DataW Try.prog KV [GL p] (.d (.sl 1 (EH (EP (D0 p))))):=by
 have z1:=hp.m
 refine EC KZ (by simp) ?_
 simp -implicitDefEqProofs -proj only [go_sem,seval]
 refine EK (fun b1 hb1=>?_)
 have a1:=HS (x:=.box 28 p.cells) hb1 (l:=[]) trivial
 have k1:=HR (x:=.box 28 p.cells) hb1 (l:=[]) trivial List.nodup_nil
 simp -implicitDefEqProofs -proj only [go_sem,seval,E9]
 refine Ec (fun y:NmX=>y.i≤p.ms.length∧(ES (HZ b1 p y)).Nodup) 22 (fun y=>[(1,.ptr b1 0),(3,FI 0 1 y.c y.cap (EH ((D0 p).take y.i))),(7,.d (.sl 5 (E6 p.ms))),(8,i64 p.ms.length),(9,i64 y.i)]) (HZ b1 p) (fun y=>p.ms.length-y.i) ⟨0,0,0⟩ ⟨Nat.zero_le _,k1⟩ rfl ?_ ?_ ?_
 ·simp -implicitDefEqProofs -proj only [go_sem,seval,EA,En,Eu,Ew]
  try rfl
 ·simp -implicitDefEqProofs -proj only [go_sem,seval]
  exact a1
 ·rintro ⟨i,c,cap⟩ ⟨hi,hn⟩
  simp -implicitDefEqProofs only [En] at hi
  have hall:=FF hn
  obtain ⟨H,hH⟩:∃H,EI (HZ b1 p ⟨i,c,cap⟩)=H:=⟨_,rfl⟩
  rw [hH] at hall
  simp -implicitDefEqProofs only [HZ,En,Eu,Ew] at hall hn
  obtain ⟨hrow,e1,_⟩:=Hc.1 hall
  by_cases h:i<p.ms.length
  ·have hel:=GQ h
   have htk:EH ((D0 p).take i)++[[.str p.ms[i].nm]]=EH ((D0 p).take (i+1)):=by
    have h':i<(D0 p).length:=by rw [namesX_len]; exact h
    rw [List.take_succ_eq_append_getElem h',OF]
    simp [EH,D0]
   generalize p.ms[i]=m at *
   simp -implicitDefEqProofs -proj only [go_sem,seval,En,Eu,Ew,hH,e1,decide_eq_true (show (i:Int)<p.ms.length by omega)]
   refine EW _ (by omega) hel ?_
   simp -implicitDefEqProofs -proj only [go_sem,seval]
   refine EK (fun b5 hb5=>?_)
   replace hb5:H b5=none:=hb5
   simp -implicitDefEqProofs -proj only [go_sem,seval]
   refine GB (fun bs hs'=>?_)
   have hall2:=FN (y:=some (.box 34 [.d (.str m.nm),.d (.str m.un),i64 m.mx,i64 m.ln,i64 m.co])) hb5 hall
   replace hs':AH H b5 _ bs=none:=hs'
   simp -implicitDefEqProofs -proj only [go_sem,seval]
   refine Is (xs:=EH ((D0 p).take i)) (y:=[.str m.nm]) (t:=9) (capc:=1) [(b1,.box 28 p.cells)] rfl (FN hs' hall2) hn (by simp -implicitDefEqProofs -proj only [go_sem,seval]) (by rw [FD,List.length_take,namesX_len]; omega) (by rw [FD,List.length_take,namesX_len]; omega) (fun H' c' cap' ha hk=>?_)
   have hrv:FI 0 1 c' cap' (EH ((D0 p).take (i+1))) = .own c' 1 0 ((EH ((D0 p).take i)).length+1) cap':=by
    rw [←htk,IP (by simp),List.length_append]; rfl
   rw [htk] at ha hk
   simp -implicitDefEqProofs -proj only [go_sem,seval]
   refine Eq ⟨i+1,c',cap'⟩ ⟨by show i+1≤_; omega,hk⟩ (by show p.ms.length-(i+1)<p.ms.length-i; omega) rfl ?_ ha
   simp -implicitDefEqProofs -proj only [go_sem,seval,EA,En,Eu,Ew,hrv,FZ (show i<9223372036854775807 by omega)]
   try rfl
  ·have hi':i=p.ms.length:=by omega
   subst hi'
   have htk:(D0 p).take p.ms.length=D0 p:=by rw [←namesX_len]; exact List.take_length
   rw [htk] at hall hn hrow
   by_cases h0:D0 p=[]
   ·have hrv0:FI 0 1 c cap (EH ((D0 p).take p.ms.length)) = .nilsl 0:=by rw [htk,h0]; rfl
    have hs0:EP (D0 p)=[]:=by rw [h0]; simp [EP]
    simp -implicitDefEqProofs -proj only [go_sem,seval,En,Eu,Ew,hH,hrv0,decide_eq_false (show ¬(p.ms.length:Int)<p.ms.length by omega)]
    refine ER Q4 ?_
    simp -implicitDefEqProofs -proj only [go_sem,seval]
    rw [hs0]
    exact .nilsl _ _
   ·have hne:EH (D0 p)≠[]:=fun e=>h0 (List.map_eq_nil_iff.1 e)
    rw [Gz hne] at hrow
    simp -implicitDefEqProofs -proj only [go_sem,seval,En,Eu,Ew,hH,htk,IP hne,FD,decide_eq_false (show ¬(p.ms.length:Int)<p.ms.length by omega)]
    refine E8 (Ob (cap:=cap) hrow.1 (by rw [namesX_len]; exact z1)) (fun r H' hk=>?_)
    obtain ⟨rfl,rfl⟩:=hk
    simp -implicitDefEqProofs -proj only [go_sem,seval]
    have:=LendV.own c 1 cap 9 cap (EH (EP (D0 p))) (H:=AH H c (some (.row 9 1 cap (EH (EP (D0 p)))))) FL
    rwa [FD,Id] at this
theorem NJ {P:Program} {Q:Out→St→Prop} {d:Option Nat} {l:List AO} {k:List Item} {s:St} {a b:ByteArray}:D7 P Q .gtr (.d (.str a)) (.d (.str b)) d l k s=AF P Q l k (AC s d (.d (.bool (!(Op.bytesLess a.toList b.toList||a.toList == b.toList)))) s.H):=rfl
theorem Kr:∀{x y:List UInt8},x<y↔Op.bytesLess x y=true
 | [],[]=>by simp [Op.bytesLess]
 | [],b::y=>by simp [Op.bytesLess]
 | a::x,[]=>by simp [Op.bytesLess]
 | a::x,b::y=>by
  rw [List.cons_lt_cons_iff,Kr]
  simp [Op.bytesLess]
theorem OR:(fun x y:List UInt8=>decide (x≤y))=fun x y=>!Op.bytesLess y x:=by
 funext x y
 have:x≤y↔¬Op.bytesLess y x=true:=by rw [←Kr,List.not_lt]
 cases h:Op.bytesLess y x <;> simp [this,h]
theorem Q1 {x y z:List UInt8} (h1:Op.bytesLess y x=false) (h2:Op.bytesLess z y=false):Op.bytesLess z x=false:=by
 cases h:Op.bytesLess z x with
 | false=>rfl
 | true =>
  cases h3:Op.bytesLess x y with
  | true=>rw [IZ h h3] at h2; cases h2
  | false=>rw [Hs h3 h1] at h; rw [h] at h2; cases h2
theorem Lm (x y:List UInt8):(!Op.bytesLess y x||!Op.bytesLess x y)=true:=by
 cases h1:Op.bytesLess y x with
 | false=>rfl
 | true =>
  cases h2:Op.bytesLess x y with
  | false=>rfl
  | true =>
   have:=IZ h2 h1
   rw [J1] at this
   cases this
theorem Qk (l:List ByteArray):(EP l).Perm l:=by
 unfold EP
 refine ((List.mergeSort_perm _ _).map _).trans ?_
 rw [List.map_map]
 have:(fun l:List UInt8=>(⟨l.toArray⟩:ByteArray)) ∘ (fun s:ByteArray=>s.data.toList)=id:=by funext s; rfl
 rw [this,List.map_id]
theorem PU (l:List ByteArray):(EP l).Pairwise fun a b=>Op.bytesLess b.toList a.toList=false:=by
 unfold EP
 rw [OR,List.pairwise_map]
 have:=List.pairwise_mergeSort (le:=fun x y:List UInt8=>!Op.bytesLess y x) (fun a b c h1 h2=>by
  simp -implicitDefEqProofs only [Bool.not_eq_true'] at h1 h2 ⊢
  exact Q1 h1 h2) (fun a b=>Lm a b) (l.map fun s=>s.data.toList)
 refine this.imp fun {a b} h=>?_
 rw [Kn,Kn]
 simpa using h
theorem Pn {l:List ByteArray} {i:Nat} (h:i+1<(EP l).length):(!(Op.bytesLess ((EP l)[i]'(by omega)).toList ((EP l)[i+1]).toList||((EP l)[i]'(by omega)).toList == ((EP l)[i+1]).toList))=false:=by
 have h1:=List.pairwise_iff_getElem.1 (PU l) i (i+1) (by omega) h (by omega)
 cases h2:Op.bytesLess ((EP l)[i]'(by omega)).toList ((EP l)[i+1]).toList with
 | true=>rfl
 | false=>rw [Hs h2 h1]; simp
def Ek (s:ByteArray) (x:ByteArray):Bool:=x.toList == s.toList
def Ea (s:ByteArray) (l:List ByteArray) (k:Nat):Nat:=(l.take k).countP (Ek s)
theorem K6 {s:ByteArray} {l:List ByteArray}:Ea s l 0=0:=by simp [Ea]
theorem Kc {s:ByteArray} {l:List ByteArray} {k:Nat}:Ea s l k≤k:=Nat.le_trans List.countP_le_length (by rw [List.length_take]; omega)
theorem I5 {s:ByteArray} {l:List ByteArray} {k:Nat} (h:k<l.length):Ea s l (k+1)=if Ek s l[k]=true then Ea s l k+1 else Ea s l k:=by
 unfold Ea
 rw [List.take_succ_eq_append_getElem h,List.countP_append,List.countP_singleton]
 split <;> simp
theorem Kd {s:ByteArray} {l:List ByteArray}:Ea s l l.length=l.countP (Ek s):=by rw [Ea,List.take_length]
def Ez (s:ByteArray) (l:List ByteArray) (n:Nat):Int:=match (l.drop n).findIdx? (Ek s) with
 | some j=>n+j
 | none=>-1
theorem JQ {s:ByteArray} {l:List ByteArray} {n:Nat} (h:n<l.length):Ez s l n=if Ek s l[n]=true then (n:Int) else Ez s l (n+1):=by
 unfold Ez
 rw [List.drop_eq_getElem_cons h,List.findIdx?_cons]
 cases hk:Ek s l[n]
 rotate_left
 ·simp
 ·simp -implicitDefEqProofs only [Bool.false_eq_true,if_false]
  cases (l.drop (n+1)).findIdx? (Ek s) with
  | none=>rfl
  | some j=>simp -implicitDefEqProofs only [Option.map_some]; omega
theorem Kh {s:ByteArray} {l:List ByteArray}:Ez s l l.length = -1:=by
 unfold Ez; rw [List.drop_length]; rfl
theorem PL {H:Heap} {b:Nat} {m:MeterX} {s:ByteArray} (hb:H b=some (.box 9 [.d (.str s)])):CallW Try.prog FX [N5 m,.ptr b 0] H fun r H'=>r=bv (Ek s m.nm)∧H' b=some (.box 9 [.d (.str s)]):=by
 refine EC Jm (by simp) ?_
 simp -implicitDefEqProofs -proj only [go_sem,seval]
 refine EK (fun b2 hb2=>?_)
 replace hb2:H b2=none:=hb2
 obtain ⟨n1,n2⟩:=FY hb2 hb
 simp -implicitDefEqProofs -proj only [go_sem,seval,n1,n2,hb,Fb]
 rfl
theorem L8 {H:Heap} {b:Nat} {p:PlanX} {s:ByteArray} (hb:H b=some (.box 9 [.d (.str s)])) (hp:p.Sm):CallW Try.prog JI [.d (.sl 5 (E6 p.ms)),.fn FX [.ptr b 0]] H fun r _=>r=i64 (Ez s (D0 p) 0):=by
 have z1:=hp.m
 refine EC KT (by simp) ?_
 simp -implicitDefEqProofs -proj only [go_sem,seval,E9]
 refine Ec (fun i:Nat=>i≤p.ms.length∧Ez s (D0 p) i=Ez s (D0 p) 0) 19 (fun i=>[(0,.d (.sl 5 (E6 p.ms))),(1,.fn FX [.ptr b 0]),(7,i64 p.ms.length),(8,i64 i)]) (fun _=>[(b,.box 9 [.d (.str s)])]) (fun i=>p.ms.length-i) 0 ⟨Nat.zero_le _,rfl⟩ rfl ?_ ?_ ?_
 ·simp -implicitDefEqProofs -proj only [go_sem,seval,EA]
 ·exact ⟨hb,trivial⟩
 ·rintro i ⟨hi,hat⟩
  have hall:D3 (EI [(b,.box 9 [.d (.str s)])]) [(b,.box 9 [.d (.str s)])]:=FF (by simp [ES])
  by_cases h:i<p.ms.length
  ·have e1:=GQ h
   rw [JQ (by rw [namesX_len]; exact h),show (D0 p)[i]'(by rw [namesX_len]; exact h)=p.ms[i].nm by simp [D0]] at hat
   generalize p.ms[i]=m at *
   simp -implicitDefEqProofs -proj only [go_sem,seval,decide_eq_true (show (i:Int)<p.ms.length by omega)]
   refine EW _ (by omega) e1 ?_
   simp -implicitDefEqProofs -proj only [go_sem,seval]
   refine E8 (PL (m:=m) hall.1) (fun r H' hk=>?_)
   obtain ⟨rfl,hk⟩:=hk
   cases hp:Ek s m.nm
   ·rw [hp,if_neg (by simp)] at hat
    simp -implicitDefEqProofs -proj only [go_sem,seval]
    refine Eq (i+1) ⟨by omega,hat⟩ (by omega) rfl ?_ ⟨hk,trivial⟩
    simp -implicitDefEqProofs -proj only [go_sem,seval,EA,FZ (show i<9223372036854775807 by omega)]
   ·rw [hp,if_pos rfl] at hat
    simp -implicitDefEqProofs -proj only [go_sem,seval]
    rw [hat]
  ·have hi':i=p.ms.length:=by omega
   subst hi'
   rw [show p.ms.length=(D0 p).length from namesX_len.symm,Kh] at hat
   simp -implicitDefEqProofs -proj only [go_sem,seval,decide_eq_false (show ¬(p.ms.length:Int)<p.ms.length by omega)]
   rw [←hat]
theorem Ns {p:PlanX} {s:ByteArray} (hp:p.Sm):DataW Try.prog KG [GL p,.d (.str s)] (i64 (Ez s (D0 p) 0)):=by
 refine EC KO (by simp) ?_
 simp -implicitDefEqProofs -proj only [go_sem,seval]
 refine EK (fun b2 hb2=>?_)
 simp -implicitDefEqProofs -proj only [go_sem,seval]
 refine EK (fun b3 hb3=>?_)
 replace hb3:AH Heap.none b2 _ b3=none:=hb3
 obtain ⟨n1,n2⟩:=FY hb3 FL
 simp -implicitDefEqProofs -proj only [go_sem,seval,n1,n2]
 have hF:CallW Try.prog JL [.d (.sl 5 (E6 p.ms)),.fn FX [.ptr b3 0]] (AH (AH Heap.none b2 (some (.box 28 p.cells))) b3 (some (.box 9 [.d (.str s)]))) fun r _=>r=i64 (Ez s (D0 p) 0):=by
  refine EC JX (by simp) ?_
  simp -implicitDefEqProofs -proj only [go_sem,seval]
  refine E8 (L8 (b:=b3) (s:=s) FL hp) (fun r H' hk=>?_)
  subst hk
  simp -implicitDefEqProofs -proj only [go_sem,seval]
 refine E8 hF (fun r H' hk=>?_)
 subst hk
 simp -implicitDefEqProofs -proj only [go_sem,seval]
 exact D9 rfl
theorem typed_stringV {n:Nat} {t:TypeId} {l:List D} (h:D5 Try.prog (n+1) t l) (ht:Try.prog.underlying t=some .string):∃s,l=[.str s]∧Eo Try.prog t l = .d (.str s):=by
 rw [D5,ht] at h
 obtain ⟨s,rfl,_⟩:=h
 exact ⟨s,rfl,by simp [Eo,ht,GK]⟩
theorem TreeNames_ok {p:PlanX} (fp:p.Fit) (nm:ByteArray):DataW Try.prog QH [GL p,.d (.str nm)] (bv true):=by
 refine EC RL (by simp) ?_
 simp -implicitDefEqProofs -proj only [go_sem,seval]
 refine EK (fun b2 hb2=>?_)
 simp -implicitDefEqProofs -proj only [go_sem,seval]
 refine ER Oc ?_
 simp -implicitDefEqProofs -proj only [go_sem,seval]
 refine ER PE ?_
 by_cases g1:F6 p
 ·rw [decide_eq_true g1]
  simp -implicitDefEqProofs -proj only [go_sem,seval]
  exact D9 rfl
 rw [decide_eq_false g1]
 by_cases g2:200<(nm.size:Int)
 ·simp -implicitDefEqProofs -proj only [go_sem,seval,decide_eq_true g2]
  exact D9 rfl
 simp -implicitDefEqProofs -proj only [go_sem,seval,decide_eq_false g2]
 have lp:=(PlanX.lo g1).sm
 have z1:=lp.m
 refine ER (Or lp) ?_
 obtain ⟨l,hl⟩:∃l,EP (D0 p)=l:=⟨_,rfl⟩
 have hll:l.length=p.ms.length:=by rw [←hl,Id,namesX_len]
 have hcnt:∀s,l.countP (Ek s)=(D0 p).countP (Ek s):=fun s=>by rw [←hl]; exact (Qk _).countP_eq _
 have hnx:∀(i:Nat) (h:i+1<l.length),(!(Op.bytesLess (l[i]'(by omega)).toList (l[i+1]).toList||(l[i]'(by omega)).toList == (l[i+1]).toList))=false:=by
  subst hl; exact fun i h=>Pn h
 rw [hl]
 simp -implicitDefEqProofs -proj only [go_sem,seval,FD,E9,hll,decide_eq_true (rfl:(p.ms.length:Int)=p.ms.length)]
 refine Ec (fun i:Nat=>i≤p.ms.length) 98 (fun i=>[(1,.d (.str nm)),(2,.ptr b2 0),(5,.d (.sl 1 (EH l))),(30,.d (.sl 1 (EH l))),(31,i64 p.ms.length),(32,i64 i)]) (fun _=>[(b2,.box 28 p.cells)]) (fun i=>p.ms.length-i) 0 (Nat.zero_le _) rfl ?_ ?_ ?_
 ·simp -implicitDefEqProofs -proj only [go_sem,seval,EA]
 ·exact ⟨FL,trivial⟩
 intro i hi
 have hall:D3 (EI [(b2,Blk.box 28 p.cells)]) [(b2,.box 28 p.cells)]:=FF (by simp [ES])
 have k1:=hall.1
 by_cases h:i<p.ms.length
 ·have hi':i<l.length:=by omega
  have e1:=Ic hi'
  have hp0:∀(j:Nat) (hj:j+1=i),(!(Op.bytesLess (l[j]'(by omega)).toList (l[i]).toList||(l[j]'(by omega)).toList == (l[i]).toList))=false:=fun j hj=>by subst hj; exact hnx j hi'
  have hcn:=hcnt l[i]
  generalize l[i]=s at *
  rcases Nat.eq_zero_or_pos i with h0 | h0
  case' inl =>
   simp -implicitDefEqProofs -proj only [go_sem,seval,decide_eq_true (show (i:Int)<p.ms.length by omega)]
   refine EW _ (by omega) e1 ?_
   simp -implicitDefEqProofs -proj only [go_sem,seval,decide_eq_false (show ¬(0:Int)<i by omega),FD,hll]
  case' inr =>
   obtain ⟨j,hji⟩:∃j,i=j+1:=⟨i-1,by omega⟩
   have hj:j<l.length:=by omega
   have e2:=Ic hj
   have e3:=hp0 j hji.symm
   generalize l[j]=r at *
   have hw:IntKind.i64.wrap ((i:Int)-1)=(j:Int):=by rw [IntKind.wrap_i64]; omega
   simp -implicitDefEqProofs -proj only [go_sem,seval,decide_eq_true (show (i:Int)<p.ms.length by omega)]
   refine EW _ (by omega) e1 ?_
   simp -implicitDefEqProofs -proj only [go_sem,seval,decide_eq_true (show (0:Int)<i by omega),hw]
   refine EW _ (by omega) e2 ?_
   simp -implicitDefEqProofs -proj only [go_sem,seval,NJ,e3,FD,hll]
  all_goals
   refine Ec (fun k:Nat=>k≤p.ms.length) 98 (fun k=>[(1,.d (.str nm)),(2,.ptr b2 0),(5,.d (.sl 1 (EH l))),(7,.d (.str s)),(8,i64 (Ea s l k)),(9,i64 (Ea s (D0 p) k)),(30,.d (.sl 1 (EH l))),(31,i64 p.ms.length),(32,i64 i),(49,i64 p.ms.length),(50,i64 k)]) (fun _=>[(b2,.box 28 p.cells)]) (fun k=>p.ms.length-k) 0 (Nat.zero_le _) rfl ?_ hall ?_
   ·simp -implicitDefEqProofs -proj only [go_sem,seval,EA,K6]
   intro k hk
   by_cases h2:k<p.ms.length
   ·have d1:=Ic (show k<l.length by omega)
    have d2:=GQ h2
    have s1:=I5 (s:=s) (show k<l.length by omega)
    have s2:=I5 (s:=s) (l:=D0 p) (show k<(D0 p).length by rw [namesX_len]; exact h2)
    have l1:=Kc (s:=s) (l:=l) (k:=k)
    have l2:=Kc (s:=s) (l:=D0 p) (k:=k)
    rw [show (D0 p)[k]'(by rw [namesX_len]; exact h2)=p.ms[k].nm by simp [D0]] at s2
    generalize p.ms[k]=m at *
    generalize l[k]=u at *
    simp -implicitDefEqProofs -proj only [go_sem,seval,decide_eq_true (show (k:Int)<p.ms.length by omega)]
    refine EW _ (by omega) d1 ?_
    cases c1:Ek s u <;> cases c2:Ek s m.nm <;> simp -implicitDefEqProofs only [c1,c2,if_true,if_false,Bool.false_eq_true] at s1 s2 <;> unfold Ek at c1 c2
    all_goals
     simp -implicitDefEqProofs -proj only [go_sem,seval,Fb,c1,k1,FZ (show Ea s l k<9223372036854775807 by omega)]
     refine EW _ (by omega) d2 ?_
     simp -implicitDefEqProofs -proj only [go_sem,seval,Fb,c2,k1,FZ (show Ea s (D0 p) k<9223372036854775807 by omega)]
     refine Eq (k+1) (by omega) (by omega) rfl ?_ hall
     simp -implicitDefEqProofs -proj only [go_sem,seval,EA,s1,s2,FZ (show k<9223372036854775807 by omega)]
   have hk':k=p.ms.length:=by omega
   subst hk'
   have c1:Ea s l p.ms.length=Ea s (D0 p) p.ms.length:=by
    rw [←hll,Kd,hll,←namesX_len,Kd]; exact hcn
   simp -implicitDefEqProofs -proj only [go_sem,seval,c1,decide_eq_false (show ¬(p.ms.length:Int)<p.ms.length by omega),decide_eq_true (rfl:(Ea s (D0 p) p.ms.length:Int)=Ea s (D0 p) p.ms.length)]
   refine Eq (i+1) (by omega) (by omega) rfl ?_ hall
   simp -implicitDefEqProofs -proj only [go_sem,seval,EA,FZ (show i<9223372036854775807 by omega)]
 have hi':i=p.ms.length:=by omega
 subst hi'
 clear hnx hcnt h hi
 have hw:IntKind.i64.wrap ((p.ms.length:Int)-1)=(p.ms.length:Int)-1:=by rw [IntKind.wrap_i64]; omega
 simp -implicitDefEqProofs -proj only [go_sem,seval,k1,E9,hw,decide_eq_false (show ¬(p.ms.length:Int)<p.ms.length by omega)]
 refine Ec (fun j:Nat=>j≤p.ms.length) 98 (fun j=>[(1,.d (.str nm)),(2,.ptr b2 0),(11,i64 (Ez nm (D0 p) j)),(12,i64 ((j:Int)-1))]) (fun _=>[(b2,.box 28 p.cells)]) (fun j=>j) p.ms.length (Nat.le_refl _) rfl ?_ hall ?_
 ·have he:Ez nm (D0 p) p.ms.length = -1:=by rw [←namesX_len,Kh]
  simp -implicitDefEqProofs -proj only [go_sem,seval,EA,he]
 intro j hj
 cases j with
 | zero =>
  simp -implicitDefEqProofs -proj only [go_sem,seval,k1]
  refine ER (Ns lp) ?_
  simp -implicitDefEqProofs -proj only [go_sem,seval]
  exact D9 rfl
 | succ j =>
  have e1:=GQ (show j<p.ms.length by omega)
  have s2:=JQ (s:=nm) (l:=D0 p) (show j<(D0 p).length by rw [namesX_len]; omega)
  rw [show (D0 p)[j]'(by rw [namesX_len]; omega)=p.ms[j].nm by simp [D0]] at s2
  generalize p.ms[j]=m at *
  have hj1:((j+1:Nat):Int)-1=j:=by omega
  have hw2:IntKind.i64.wrap ((j:Int)-1)=(j:Int)-1:=by rw [IntKind.wrap_i64]; omega
  simp -implicitDefEqProofs -proj only [go_sem,seval,k1,hj1,decide_eq_true (show (0:Int)≤j by omega)]
  refine EW _ (by omega) e1 ?_
  cases c1:Ek nm m.nm <;> simp -implicitDefEqProofs only [c1,if_true,if_false,Bool.false_eq_true] at s2 <;> unfold Ek at c1
  all_goals
   simp -implicitDefEqProofs -proj only [go_sem,seval,Fb,c1,hw2]
   refine Eq j (by omega) (by omega) rfl ?_ hall
   simp -implicitDefEqProofs -proj only [go_sem,seval,EA,s2]
end Go.Proofs.Ytndepejgafppmaa.Abs
