/- Contracts of the machine and the contracts of one law (joined by kmerge.py). No claim stands here. -/
import Derived.Below
import Derived.Carry
import Derived.ChangeCalls
import Derived.ChangeOld
import Derived.IntWalk
import Derived.KernelRfl
import Derived.Laws.Append
import Derived.Laws.AppendOwn
import Derived.Laws.BytesArg
import Derived.Laws.Cells
import Derived.Laws.CopyRow
import Derived.Laws.Entries
import Derived.Laws.MakeOwn
import Derived.Laws.NewFold
import Derived.Laws.Rows
import Derived.Laws.StructEq
import Derived.OpenShut
import Derived.Orders
import Derived.OrdersIn
import Derived.ProofKit
import Derived.RangeFuncLeaves
import Derived.RangeFuncSeq
import Derived.SizedLaws
import Derived.TacticsIn
import Derived.WalkKit
import Derived.Test.YtndepejgafppmaaMdc
set_option maxRecDepth 100000
set_option linter.unusedSimpArgs false
set_option linter.unusedVariables false
namespace Go.Proofs.Ytndepejgafppmaa.Abs
open Go Go.RowKit Go.Proofs
attribute [local go_sem] CF BB DA Df Da Cu CD DX BA Bu DQ Bn DB Cb CI Bc A2 Cj CL CV C3 Dm CM CC BX Bw Ch BO C4 BY BG DO BF Dg Dz BL Cz D5 De Be Dq CE Dx B8 Ci CU BI DK C8 B7 C6 CT DN Bz B6 DC B1 DG Dk B4 DJ Dj BC Dn CH BD D2 B3 CZ Cg Cs Ax Bl D6 Az Bt Ct Ar B5 Bf Ck BV DI CK BT Dy DD A4 Cw D0 Cr CQ Dp Bj DZ CN Cv C1 BK Br Cl CR Cf DT CA A0 BN Aw Al Ba CJ DY AD ev AS AP Ah Au Aa CX Dh CG DH AZ Ae DE Cq Bq BU BM C9 Cn B0 Ce DM BZ Bg Bm Db CP C2 Bb Bh Dt B9 Bx B2 Bp AM setSeg nth seg mapD Af Ao AL Ap CO BQ Aq Bo cond_true cond_false CY A3 Ay As A1 D3 Bi List.cons_append List.nil_append Bool.not_true Bool.not_false Bool.and_true Bool.and_self Nat.lt_add_left_iff_pos Nat.zero_add Nat.add_zero List.drop_succ_cons List.drop_zero List.take_succ_cons List.take_zero beq_self_eq_true Bool.false_eq_true C7 A9 Du Co Bk By A7 Ds Dc Aj and_self and_true true_and Cm D1 Bd Cx Do Dr Cy CW D4 Cc DW Cd BH A8 BP CS Dl DR Ai Ak Am Ag Dd Dv CB Cp DL DP DF Dw C5 BW Bv List.length_cons List.length_nil Nat.min_def Int.cast_ofNat_Int Int.natCast_zero Int.natCast_one decide_true decide_false List.getElem?_cons_zero List.getElem?_cons_succ DU DS BJ BS Bs BE Di C0 A6 A5 Ca DV
theorem Ud {a b:Int} (h:a=b):i64 a=i64 b:=by rw [h]
def LenP (x:Int) (n:Nat):Prop:=0≤x∧x<2 ^ n∧(x=0∧n=0∨0<n∧2 ^ (n-1)≤x)
theorem Mi (n:Nat):(0:Int)<2 ^ n:=Int.pow_pos (by omega)
theorem LenP.shift {x:Int} {k n:Nat} (h0:0≤x) (h1:2 ^ k≤x) (h:LenP (x / 2 ^ k) n):LenP x (k+n):=by
 obtain ⟨a0,a1,a2⟩:=h
 have hk:=Mi k
 have e1:x<2 ^ (k+n):=by
  rw [Int.ediv_lt_iff_lt_mul hk] at a1
  rw [Int.pow_add,Int.mul_comm]; exact a1
 have h2:1≤x / 2 ^ k:=by rw [Int.le_ediv_iff_mul_le hk]; omega
 refine ⟨h0,e1,.inr ?_⟩
 rcases a2 with ⟨a2,_⟩ | ⟨a2,a3⟩
 ·omega
 ·refine ⟨by omega,?_⟩
  rw [Int.le_ediv_iff_mul_le hk] at a3
  have:k+n-1=k+(n-1):=by omega
  rw [this,Int.pow_add,Int.mul_comm]; exact a3
def KE (m q r c:Int):Prop:=m=1∧0<r∨m=2∧c≤2*r∨m=3∧(c<2*r∨c=2*r∧q % 2=1)
instance (m q r c:Int):Decidable (KE m q r c):=by unfold KE; exact inferInstance
def Jk (p c m:Int):Int:=p / c+if KE m (p / c) (p % c) c then 1 else 0
def Kb (m:Int) (neg:Bool) (q r c:Int):Prop:=r≠0∧(m=0∧neg=true∨m=1∧neg=false∨m=2∧(r > c-r∨r=c-r∧neg=false)∨m=3∧(r > c-r∨r=c-r∧q % 2=1))
instance (m:Int) (neg:Bool) (q r c:Int):Decidable (Kb m neg q r c):=by unfold Kb; exact inferInstance
structure Adj where
 k:Int
 n:Int
 m:Int
def Adj.el (a:Adj):List D:=[.int .i64 a.k,.int .i64 a.n,.int .i64 a.m]
def D8 (l:List Adj):List (List D):=l.map Adj.el
theorem Ff {l:List Adj}:(D8 l).length=l.length:=List.length_map ..
theorem Ss {l:List Adj} {i:Nat} (h:i<l.length):(D8 l)[((i:Int)).toNat]? = some (Adj.el l[i]):=by
 rw [Int.toNat_natCast]; simp [D8,h]
def Adj.Fit (a:Adj):Prop:=Abs.Fit a.k∧Abs.Fit a.n∧Abs.Fit a.m
def Ma (n:Int):Option Int:=if Fit n then some n else none
def K8 (p c m:Int):Option Int:=if 0<c∧0≤m∧m≤3 then Ma (Jk p c m) else none
theorem RM {n:Nat} {l:List D} (h:ES Try.prog (n+2) 60 l):∃a:Adj,a.Fit∧l=a.el:=by
 obtain ⟨ls,rfl,h1,_⟩:=GY (fs:=#[⟨"Kind",3,0,false,"","",0⟩,⟨"N",3,1,false,"","",8⟩,⟨"Mode",3,2,false,"","",16⟩]) h (by kernel_rfl)
 obtain ⟨l0,r0,rfl,t0,h1⟩:=typedL_cons h1
 obtain ⟨l1,r1,rfl,t1,h1⟩:=typedL_cons h1
 obtain ⟨l2,r2,rfl,t2,h1⟩:=typedL_cons h1
 obtain rfl:=typedL_nil h1
 obtain ⟨z0,rfl,f0,_⟩:=typed_int t0 (by kernel_rfl)
 obtain ⟨z1,rfl,f1,_⟩:=typed_int t1 (by kernel_rfl)
 obtain ⟨z2,rfl,f2,_⟩:=typed_int t2 (by kernel_rfl)
 exact ⟨⟨z0,z1,z2⟩,⟨f0,f1,f2⟩,rfl⟩
structure Tier where
 u:Int
 r:Int
def Tier.el (a:Tier):List D:=[.int .i64 a.u,.int .i64 a.r]
def D7 (l:List Tier):List (List D):=l.map Tier.el
theorem Fs {l:List Tier}:(D7 l).length=l.length:=List.length_map ..
theorem ME {l:List Tier} {i:Nat} (h:i<l.length):(D7 l)[((i:Int)).toNat]? = some [.int .i64 l[i].u,.int .i64 l[i].r]:=by
 rw [Int.toNat_natCast]; simp [D7,h,Tier.el]
theorem LO {l:List Adj} {i:Nat} (h:i<l.length):(D8 l)[((i:Int)).toNat]? = some [.int .i64 l[i].k,.int .i64 l[i].n,.int .i64 l[i].m]:=Ss h
def Tier.Fit (a:Tier):Prop:=Abs.Fit a.u∧Abs.Fit a.r
structure PartX where
 me:Int
 f:Int
 t:Int
 al:Int
 bl:Int
 ki:Int
 ts:List Tier
 mo:Int
 ad:List Adj
abbrev PartX.el (x:PartX):List D:=[.int .i64 x.me,.int .i64 x.f,.int .i64 x.t,.int .i64 x.al,.int .i64 x.bl,.int .i64 x.ki,.sl 2 (D7 x.ts),.int .i64 x.mo,.sl 3 (D8 x.ad)]
structure PartX.Fit (x:PartX):Prop where
 me:Abs.Fit x.me
 f:Abs.Fit x.f
 t:Abs.Fit x.t
 al:Abs.Fit x.al
 bl:Abs.Fit x.bl
 ki:Abs.Fit x.ki
 ts:∀a∈x.ts,Tier.Fit a
 tn:x.ts.length≤9223372036854775807
 mo:Abs.Fit x.mo
 ad:∀a∈x.ad,Adj.Fit a
 an:x.ad.length≤9223372036854775807
theorem MR {α:Type} {g : α→List D} {F : α→Prop} {n:Nat} {e:TypeId} (hh:∀l,ES Try.prog n e l→∃a,F a∧l=g a):∀{xs:List (List D)},(∀el∈xs,ES Try.prog n e el)→∃zs:List α,xs=zs.map g∧∀a∈zs,F a
 | [],_=>⟨[],rfl,fun a h=>by cases h⟩
 | x::xs,h2=>by
  obtain ⟨a,ha,rfl⟩:=hh x (h2 x (List.mem_cons_self ..))
  obtain ⟨zs,rfl,hz⟩:=MR hh (fun el h'=>h2 el (List.mem_cons_of_mem _ h'))
  refine ⟨a::zs,rfl,fun b hb=>?_⟩
  rcases List.mem_cons.1 hb with rfl | hb
  ·exact ha
  ·exact hz b hb
theorem M6 {n:Nat} {l:List D} (h:ES Try.prog (n+2) 58 l):∃a:Tier,a.Fit∧l=a.el:=by
 obtain ⟨ls,rfl,h1,_⟩:=GY (fs:=#[⟨"Upto",3,0,false,"","",0⟩,⟨"Rate",3,1,false,"","",8⟩]) h (by kernel_rfl)
 obtain ⟨l0,r0,rfl,t0,h1⟩:=typedL_cons h1
 obtain ⟨l1,r1,rfl,t1,h1⟩:=typedL_cons h1
 obtain rfl:=typedL_nil h1
 obtain ⟨z0,rfl,f0,_⟩:=typed_int t0 (by kernel_rfl)
 obtain ⟨z1,rfl,f1,_⟩:=typed_int t1 (by kernel_rfl)
 exact ⟨⟨z0,z1⟩,⟨f0,f1⟩,rfl⟩
theorem Hs {α:Type} {g : α→List D} {F : α→Prop} {n k:Nat} {t e:TypeId} {l:List D} (hh:∀l,ES Try.prog n e l→∃a,F a∧l=g a) (ht:Try.prog.underlying t=some (.slice e)) (hc:Try.prog.cellsOf e=k) (h:ES Try.prog (n+1) t l) :
  ∃zs:List α,l=[.sl k (zs.map g)]∧(∀a∈zs,F a)∧zs.length≤9223372036854775807:=by
 obtain ⟨xs,rfl,h1,h2,_⟩:=MT h ht
 obtain ⟨zs,rfl,hz⟩:=MR hh h2
 exact ⟨zs,by rw [hc],hz,by rw [List.length_map] at h1; exact h1⟩
structure MeterX where
 nm:ByteArray
 un:ByteArray
 mx:Int
 ln:Int
 co:Int
def MeterX.el (a:MeterX):List D:=[.str a.nm,.str a.un,.int .i64 a.mx,.int .i64 a.ln,.int .i64 a.co]
def EB (l:List MeterX):List (List D):=l.map MeterX.el
theorem FN {l:List MeterX}:(EB l).length=l.length:=List.length_map ..
theorem JD {l:List MeterX} {i:Nat} (h:i<l.length):(EB l)[((i:Int)).toNat]? = some [.str l[i].nm,.str l[i].un,.int .i64 l[i].mx,.int .i64 l[i].ln,.int .i64 l[i].co]:=by
 rw [Int.toNat_natCast]; simp [EB,h,MeterX.el]
def MeterX.Fit (a:MeterX):Prop:=Abs.Fit a.mx∧Abs.Fit a.ln∧Abs.Fit a.co
structure SumX where
 a:Int
 f:Int
 t:Int
def SumX.el (a:SumX):List D:=[.int .i64 a.a,.int .i64 a.f,.int .i64 a.t]
def SumX.Fit (a:SumX):Prop:=Abs.Fit a.a∧Abs.Fit a.f∧Abs.Fit a.t
structure CoreX where
 cur:ByteArray
 f:Int
 t:Int
 ms:List MeterX
 ss:List SumX
 ps:List PartX
structure CoreX.Fit (c:CoreX):Prop where
 f:Abs.Fit c.f
 t:Abs.Fit c.t
 ms:∀a∈c.ms,a.Fit
 mn:c.ms.length≤9223372036854775807
 ss:∀a∈c.ss,a.Fit
 sn:c.ss.length≤9223372036854775807
 ps:∀a∈c.ps,a.Fit
 pn:c.ps.length≤9223372036854775807
theorem HR {n:Nat} {t:TypeId} {l:List D} (h:ES Try.prog (n+1) t l) (ht:Try.prog.underlying t=some .string):∃s,l=[.str s]:=by
 rw [ES,ht] at h
 obtain ⟨s,rfl,_⟩:=h
 exact ⟨s,rfl⟩
theorem RZ {n:Nat} {l:List D} (h:ES Try.prog (n+2) 34 l):∃a:MeterX,a.Fit∧l=a.el:=by
 obtain ⟨ls,rfl,h1,_⟩:=GY (fs:=#[⟨"Name",9,0,false,"","",0⟩,⟨"Unit",9,1,false,"","",16⟩,⟨"Max",3,2,false,"","",32⟩,⟨"Line",3,3,false,"","",40⟩,⟨"Col",3,4,false,"","",48⟩]) h (by kernel_rfl)
 obtain ⟨l0,r0,rfl,t0,h1⟩:=typedL_cons h1
 obtain ⟨l1,r1,rfl,t1,h1⟩:=typedL_cons h1
 obtain ⟨l2,r2,rfl,t2,h1⟩:=typedL_cons h1
 obtain ⟨l3,r3,rfl,t3,h1⟩:=typedL_cons h1
 obtain ⟨l4,r4,rfl,t4,h1⟩:=typedL_cons h1
 obtain rfl:=typedL_nil h1
 obtain ⟨z0,rfl⟩:=HR t0 (by kernel_rfl)
 obtain ⟨z1,rfl⟩:=HR t1 (by kernel_rfl)
 obtain ⟨z2,rfl,f2,_⟩:=typed_int t2 (by kernel_rfl)
 obtain ⟨z3,rfl,f3,_⟩:=typed_int t3 (by kernel_rfl)
 obtain ⟨z4,rfl,f4,_⟩:=typed_int t4 (by kernel_rfl)
 exact ⟨⟨z0,z1,z2,z3,z4⟩,⟨f2,f3,f4⟩,rfl⟩
def O1 (m:MeterX):Prop:=200<(m.nm.size:Int)∨200<(m.un.size:Int)
def Ps (x:PartX):Prop:=40<(x.ts.length:Int)∨40<(x.ad.length:Int)
def KV (c:CoreX):Prop:=(20<(c.ms.length:Int)∨40<(c.ss.length:Int)∨40<(c.ps.length:Int)∨200<(c.cur.size:Int))∨(∃m∈c.ms,O1 m)∨∃x∈c.ps,Ps x
noncomputable instance (c:CoreX):Decidable (KV c):=Classical.propDecidable _
structure DateX where
 y:Int
 m:Int
 d:Int
abbrev DateX.el (a:DateX):List D:=[.int .i64 a.y,.int .i64 a.m,.int .i64 a.d]
def DateX.Fit (a:DateX):Prop:=Abs.Fit a.y∧Abs.Fit a.m∧Abs.Fit a.d
structure WinX where
 has:Bool
 f:DateX
 t:DateX
abbrev WinX.el (w:WinX):List D:=[.bool w.has,.int .i64 w.f.y,.int .i64 w.f.m,.int .i64 w.f.d,.int .i64 w.t.y,.int .i64 w.t.m,.int .i64 w.t.d]
def WinX.Fit (w:WinX):Prop:=w.f.Fit∧w.t.Fit
structure FeeX where
 am:Int
 w:WinX
 ln:Int
 co:Int
abbrev FeeX.el (x:FeeX):List D:=[.int .i64 x.am,.bool x.w.has,.int .i64 x.w.f.y,.int .i64 x.w.f.m,.int .i64 x.w.f.d,.int .i64 x.w.t.y,.int .i64 x.w.t.m,.int .i64 x.w.t.d,.int .i64 x.ln,.int .i64 x.co]
def FeeX.Fit (x:FeeX):Prop:=Abs.Fit x.am∧x.w.Fit∧Abs.Fit x.ln∧Abs.Fit x.co
def EC (l:List FeeX):List (List D):=l.map FeeX.el
theorem FI {l:List FeeX}:(EC l).length=l.length:=List.length_map ..
structure ChX where
 me:ByteArray
 w:WinX
 al:Int
 bl:Int
 ki:Int
 ts:List Tier
 mo:Int
 ad:List Adj
 ln:Int
 co:Int
abbrev ChX.el (x:ChX):List D:=[.str x.me,.bool x.w.has,.int .i64 x.w.f.y,.int .i64 x.w.f.m,.int .i64 x.w.f.d,.int .i64 x.w.t.y,.int .i64 x.w.t.m,.int .i64 x.w.t.d,.int .i64 x.al,.int .i64 x.bl,.int .i64 x.ki,.sl 2 (D7 x.ts),.int .i64 x.mo,.sl 3 (D8 x.ad),.int .i64 x.ln,.int .i64 x.co]
structure ChX.Fit (x:ChX):Prop where
 w:x.w.Fit
 al:Abs.Fit x.al
 bl:Abs.Fit x.bl
 ki:Abs.Fit x.ki
 ts:∀a∈x.ts,Tier.Fit a
 tn:x.ts.length≤9223372036854775807
 mo:Abs.Fit x.mo
 ad:∀a∈x.ad,Adj.Fit a
 an:x.ad.length≤9223372036854775807
 ln:Abs.Fit x.ln
 co:Abs.Fit x.co
def AY (l:List ChX):List (List D):=l.map ChX.el
theorem Eq {l:List ChX}:(AY l).length=l.length:=List.length_map ..
structure PlanX where
 nm:ByteArray
 cu:ByteArray
 f:DateX
 t:DateX
 ms:List MeterX
 fs:List FeeX
 cs:List ChX
 ln:Int
 co:Int
abbrev Ad (nm cu:ByteArray) (f t:DateX) (m e c:AV) (ln co:Int):List AV:=[.d (.str nm),.d (.str cu),i64 f.y,i64 f.m,i64 f.d,i64 t.y,i64 t.m,i64 t.d,m,e,c,i64 ln,i64 co]
abbrev PlanX.cells (p:PlanX):List AV:=Ad p.nm p.cu p.f p.t (.d (.sl 5 (EB p.ms))) (.d (.sl 10 (EC p.fs))) (.d (.sl 16 (AY p.cs))) p.ln p.co
abbrev Ev (p:PlanX):AV:=.agg p.cells
structure PlanX.Fit (p:PlanX):Prop where
 f:p.f.Fit
 t:p.t.Fit
 ms:∀a∈p.ms,a.Fit
 mn:p.ms.length≤9223372036854775807
 fs:∀a∈p.fs,a.Fit
 fn:p.fs.length≤9223372036854775807
 cs:∀a∈p.cs,a.Fit
 cn:p.cs.length≤9223372036854775807
 ln:Abs.Fit p.ln
 co:Abs.Fit p.co
theorem IN {n:Nat} {l:List D} (h:ES Try.prog (n+2) 23 l):∃a:DateX,a.Fit∧l=a.el:=by
 obtain ⟨ls,rfl,h1,_⟩:=GY (fs:=#[⟨"Year",3,0,false,"","",0⟩,⟨"Month",3,1,false,"","",8⟩,⟨"Day",3,2,false,"","",16⟩]) h (by kernel_rfl)
 obtain ⟨l0,r0,rfl,t0,h1⟩:=typedL_cons h1
 obtain ⟨l1,r1,rfl,t1,h1⟩:=typedL_cons h1
 obtain ⟨l2,r2,rfl,t2,h1⟩:=typedL_cons h1
 obtain rfl:=typedL_nil h1
 obtain ⟨z0,rfl,f0,_⟩:=typed_int t0 (by kernel_rfl)
 obtain ⟨z1,rfl,f1,_⟩:=typed_int t1 (by kernel_rfl)
 obtain ⟨z2,rfl,f2,_⟩:=typed_int t2 (by kernel_rfl)
 exact ⟨⟨z0,z1,z2⟩,⟨f0,f1,f2⟩,rfl⟩
theorem Lg {n:Nat} {l:List D} (h:ES Try.prog (n+3) 49 l):∃a:WinX,a.Fit∧l=a.el:=by
 obtain ⟨ls,rfl,h1,_⟩:=GY (fs:=#[⟨"Has",4,0,false,"","",0⟩,⟨"From",23,1,false,"","",8⟩,⟨"To",23,4,false,"","",32⟩]) h (by kernel_rfl)
 obtain ⟨l0,r0,rfl,t0,h1⟩:=typedL_cons h1
 obtain ⟨l1,r1,rfl,t1,h1⟩:=typedL_cons h1
 obtain ⟨l2,r2,rfl,t2,h1⟩:=typedL_cons h1
 obtain rfl:=typedL_nil h1
 obtain ⟨z0,rfl,_⟩:=typed_bool t0 (by kernel_rfl)
 obtain ⟨z1,f1,rfl⟩:=IN t1
 obtain ⟨z2,f2,rfl⟩:=IN t2
 exact ⟨⟨z0,z1,z2⟩,⟨f1,f2⟩,rfl⟩
theorem So {n:Nat} {l:List D} (h:ES Try.prog (n+4) 51 l):∃a:FeeX,a.Fit∧l=a.el:=by
 obtain ⟨ls,rfl,h1,_⟩:=GY (fs:=#[⟨"Amount",3,0,false,"","",0⟩,⟨"Window",49,1,false,"","",8⟩,⟨"Line",3,8,false,"","",64⟩,⟨"Col",3,9,false,"","",72⟩]) h (by kernel_rfl)
 obtain ⟨l0,r0,rfl,t0,h1⟩:=typedL_cons h1
 obtain ⟨l1,r1,rfl,t1,h1⟩:=typedL_cons h1
 obtain ⟨l2,r2,rfl,t2,h1⟩:=typedL_cons h1
 obtain ⟨l3,r3,rfl,t3,h1⟩:=typedL_cons h1
 obtain rfl:=typedL_nil h1
 obtain ⟨z0,rfl,f0,_⟩:=typed_int t0 (by kernel_rfl)
 obtain ⟨z1,f1,rfl⟩:=Lg t1
 obtain ⟨z2,rfl,f2,_⟩:=typed_int t2 (by kernel_rfl)
 obtain ⟨z3,rfl,f3,_⟩:=typed_int t3 (by kernel_rfl)
 exact ⟨⟨z0,z1,z2,z3⟩,⟨f0,f1,f2,f3⟩,rfl⟩
theorem RG {n:Nat} {l:List D} (h:ES Try.prog (n+4) 55 l):∃a:ChX,a.Fit∧l=a.el:=by
 obtain ⟨ls,rfl,h1,_⟩:=GY (fs:=#[⟨"Meter",9,0,false,"","",0⟩,⟨"Window",49,1,false,"","",16⟩,⟨"Allowance",3,8,false,"","",72⟩,⟨"Block",3,9,false,"","",80⟩,⟨"Kind",3,10,false,"","",88⟩,⟨"Tiers",52,11,false,"","",96⟩,⟨"Mode",3,12,false,"","",120⟩,⟨"Adjusts",53,13,false,"","",128⟩,⟨"Line",3,14,false,"","",152⟩,⟨"Col",3,15,false,"","",160⟩]) h (by kernel_rfl)
 obtain ⟨l0,r0,rfl,t0,h1⟩:=typedL_cons h1
 obtain ⟨l1,r1,rfl,t1,h1⟩:=typedL_cons h1
 obtain ⟨l2,r2,rfl,t2,h1⟩:=typedL_cons h1
 obtain ⟨l3,r3,rfl,t3,h1⟩:=typedL_cons h1
 obtain ⟨l4,r4,rfl,t4,h1⟩:=typedL_cons h1
 obtain ⟨l5,r5,rfl,t5,h1⟩:=typedL_cons h1
 obtain ⟨l6,r6,rfl,t6,h1⟩:=typedL_cons h1
 obtain ⟨l7,r7,rfl,t7,h1⟩:=typedL_cons h1
 obtain ⟨l8,r8,rfl,t8,h1⟩:=typedL_cons h1
 obtain ⟨l9,r9,rfl,t9,h1⟩:=typedL_cons h1
 obtain rfl:=typedL_nil h1
 obtain ⟨z0,rfl⟩:=HR t0 (by kernel_rfl)
 obtain ⟨z1,f1,rfl⟩:=Lg t1
 obtain ⟨z2,rfl,f2,_⟩:=typed_int t2 (by kernel_rfl)
 obtain ⟨z3,rfl,f3,_⟩:=typed_int t3 (by kernel_rfl)
 obtain ⟨z4,rfl,f4,_⟩:=typed_int t4 (by kernel_rfl)
 obtain ⟨z5,rfl,f5,g5⟩:=Hs (k:=2) (e:=58) (fun l h=>M6 h) (by kernel_rfl) (by kernel_rfl) t5
 obtain ⟨z6,rfl,f6,_⟩:=typed_int t6 (by kernel_rfl)
 obtain ⟨z7,rfl,f7,g7⟩:=Hs (k:=3) (e:=60) (fun l h=>RM h) (by kernel_rfl) (by kernel_rfl) t7
 obtain ⟨z8,rfl,f8,_⟩:=typed_int t8 (by kernel_rfl)
 obtain ⟨z9,rfl,f9,_⟩:=typed_int t9 (by kernel_rfl)
 exact ⟨⟨z0,z1,z2,z3,z4,z5,z6,z7,z8,z9⟩,⟨f1,f2,f3,f4,f5,g5,f6,f7,g7,f8,f9⟩,rfl⟩
theorem typed_plan {n:Nat} {l:List D} (h:ES Try.prog (n+6) 28 l):∃p:PlanX,p.Fit∧FZ Try.prog 28 l=Ev p:=by
 obtain ⟨ls,rfl,h1,e⟩:=GY (fs:=#[⟨"Name",9,0,false,"","",0⟩,⟨"Currency",9,1,false,"","",16⟩,⟨"From",23,2,false,"","",32⟩,⟨"To",23,5,false,"","",56⟩,⟨"Meters",24,8,false,"","",80⟩,⟨"Fees",25,9,false,"","",104⟩,⟨"Charges",26,10,false,"","",128⟩,⟨"Line",3,11,false,"","",152⟩,⟨"Col",3,12,false,"","",160⟩]) h (by kernel_rfl)
 obtain ⟨l0,r0,rfl,t0,h1⟩:=typedL_cons h1
 obtain ⟨l1,r1,rfl,t1,h1⟩:=typedL_cons h1
 obtain ⟨l2,r2,rfl,t2,h1⟩:=typedL_cons h1
 obtain ⟨l3,r3,rfl,t3,h1⟩:=typedL_cons h1
 obtain ⟨l4,r4,rfl,t4,h1⟩:=typedL_cons h1
 obtain ⟨l5,r5,rfl,t5,h1⟩:=typedL_cons h1
 obtain ⟨l6,r6,rfl,t6,h1⟩:=typedL_cons h1
 obtain ⟨l7,r7,rfl,t7,h1⟩:=typedL_cons h1
 obtain ⟨l8,r8,rfl,t8,h1⟩:=typedL_cons h1
 obtain rfl:=typedL_nil h1
 obtain ⟨z0,rfl⟩:=HR t0 (by kernel_rfl)
 obtain ⟨z1,rfl⟩:=HR t1 (by kernel_rfl)
 obtain ⟨z2,f2,rfl⟩:=IN t2
 obtain ⟨z3,f3,rfl⟩:=IN t3
 obtain ⟨z4,rfl,f4,g4⟩:=Hs (k:=5) (e:=34) (fun l h=>RZ h) (by kernel_rfl) (by kernel_rfl) t4
 obtain ⟨z5,rfl,f5,g5⟩:=Hs (k:=10) (e:=51) (fun l h=>So h) (by kernel_rfl) (by kernel_rfl) t5
 obtain ⟨z6,rfl,f6,g6⟩:=Hs (k:=16) (e:=55) (fun l h=>RG h) (by kernel_rfl) (by kernel_rfl) t6
 obtain ⟨z7,rfl,f7,_⟩:=typed_int t7 (by kernel_rfl)
 obtain ⟨z8,rfl,f8,_⟩:=typed_int t8 (by kernel_rfl)
 exact ⟨⟨z0,z1,z2,z3,z4,z5,z6,z7,z8⟩,⟨f2,f3,f4,g4,f5,g5,f6,g6,f7,f8⟩,e⟩
def H7 (m:MeterX):Prop:=200<(m.nm.size:Int)∨200<(m.un.size:Int)
def Hl (x:ChX):Prop:=40<(x.ts.length:Int)∨40<(x.ad.length:Int)∨200<(x.me.size:Int)
def E0 (p:PlanX):Prop:=(20<(p.ms.length:Int)∨40<(p.fs.length:Int)∨40<(p.cs.length:Int)∨200<(p.nm.size:Int)∨200<(p.cu.size:Int))∨(∃m∈p.ms,H7 m)∨∃x∈p.cs,Hl x
noncomputable instance (p:PlanX):Decidable (E0 p):=Classical.propDecidable _
abbrev II (b:Nat) (p:PlanX):List (Nat×Blk):=[(b,.box 28 p.cells)]
theorem Fd {p:PlanX}:DataW Try.prog T1 [Ev p] (bv (decide (E0 p))):=by
 refine D9 TG (by simp) ?_
 simp -implicitDefEqProofs -proj only [go_sem,seval]
 refine Av (fun b1 hb1=>?_)
 by_cases g1:20<(p.ms.length:Int)
 ·simp -implicitDefEqProofs -proj only [go_sem,seval,FN,FI,Eq,decide_eq_true g1]
  exact AU (by rw [decide_eq_true (.inl (.inl g1))])
 by_cases g2:40<(p.fs.length:Int)
 ·simp -implicitDefEqProofs -proj only [go_sem,seval,FN,FI,Eq,decide_eq_false g1,decide_eq_true g2]
  exact AU (by rw [decide_eq_true (.inl (.inr (.inl g2)))])
 by_cases g3:40<(p.cs.length:Int)
 ·simp -implicitDefEqProofs -proj only [go_sem,seval,FN,FI,Eq,decide_eq_false g1,decide_eq_false g2,decide_eq_true g3]
  exact AU (by rw [decide_eq_true (.inl (.inr (.inr (.inl g3))))])
 by_cases g4:200<(p.nm.size:Int)
 ·simp -implicitDefEqProofs -proj only [go_sem,seval,FN,FI,Eq,decide_eq_false g1,decide_eq_false g2,decide_eq_false g3,decide_eq_true g4]
  exact AU (by rw [decide_eq_true (.inl (.inr (.inr (.inr (.inl g4)))))])
 by_cases g5:200<(p.cu.size:Int)
 ·simp -implicitDefEqProofs -proj only [go_sem,seval,FN,FI,Eq,decide_eq_false g1,decide_eq_false g2,decide_eq_false g3,decide_eq_false g4,decide_eq_true g5]
  exact AU (by rw [decide_eq_true (.inl (.inr (.inr (.inr (.inr g5)))))])
 simp -implicitDefEqProofs -proj only [go_sem,seval,FN,FI,Eq,decide_eq_false g1,decide_eq_false g2,decide_eq_false g3,decide_eq_false g4,decide_eq_false g5]
 refine Ex (fun i:Nat=>i≤p.ms.length∧∀(j:Nat) (h:j<p.ms.length),j<i→¬H7 p.ms[j]) 77 (fun i=>[(1,.ptr b1 0),(36,.d (.sl 5 (EB p.ms))),(37,i64 p.ms.length),(38,i64 i)]) (fun _=>II b1 p) (fun i=>p.ms.length-i) 0 ⟨Nat.zero_le _,fun j _ h=>absurd h (Nat.not_lt_zero _)⟩ rfl ?_ ?_ ?_
 ·simp -implicitDefEqProofs -proj only [go_sem,seval,EP]
 ·simp -implicitDefEqProofs -proj only [go_sem,seval,AX]
 ·rintro i ⟨hi,hs⟩
  have hk:AX (EX (II b1 p)) (II b1 p):=FY (by simp [AQ])
  have k1:=hk.1
  by_cases h:i<p.ms.length
  ·have hel:=JD h
   have hno:H7 p.ms[i]→E0 p:=fun e=>.inr (.inl ⟨_,List.getElem_mem h,e⟩)
   have hgo:¬H7 p.ms[i]→∀(j:Nat) (h:j<p.ms.length),j<i+1→¬H7 p.ms[j]:=by
    intro e j h1 h2
    by_cases hj:j=i
    ·subst hj; exact e
    ·exact hs j h1 (by omega)
   generalize p.ms[i]=m at *
   simp -implicitDefEqProofs -proj only [go_sem,seval,decide_eq_true (show (i:Int)<p.ms.length by omega)]
   refine Es _ (by omega) hel ?_
   simp -implicitDefEqProofs -proj only [go_sem,seval]
   refine Av (fun b4 hb4=>?_)
   replace hb4:EX (II b1 p) b4=none:=hb4
   obtain ⟨n1,n2⟩:=EZ hb4 k1
   by_cases c1:200<(m.nm.size:Int)
   ·simp -implicitDefEqProofs -proj only [go_sem,seval,n1,n2,decide_eq_true c1]
    exact AU (by rw [decide_eq_true (hno (.inl c1))])
   by_cases c2:200<(m.un.size:Int)
   ·simp -implicitDefEqProofs -proj only [go_sem,seval,n1,n2,decide_eq_false c1,decide_eq_true c2]
    exact AU (by rw [decide_eq_true (hno (.inr c2))])
   simp -implicitDefEqProofs -proj only [go_sem,seval,n1,n2,decide_eq_false c1,decide_eq_false c2]
   refine E3 (i+1) ⟨by omega,hgo (fun e=>e.elim c1 c2)⟩ (by show p.ms.length-(i+1)<p.ms.length-i; omega) rfl ?_ (E5 hb4 hk)
   simp -implicitDefEqProofs -proj only [go_sem,seval,EP,F6 (show i<9223372036854775807 by omega)]
  ·have hi':i=p.ms.length:=by omega
   subst hi'
   simp -implicitDefEqProofs -proj only [go_sem,seval,k1,Eq,decide_eq_false (show ¬(p.ms.length:Int)<p.ms.length by omega)]
   refine Ex (fun i:Nat=>i≤p.cs.length∧∀(j:Nat) (h:j<p.cs.length),j<i→¬Hl p.cs[j]) 77 (fun i=>[(54,.d (.sl 16 (AY p.cs))),(55,i64 p.cs.length),(56,i64 i)]) (fun _=>[]) (fun i=>p.cs.length-i) 0 ⟨Nat.zero_le _,fun j _ h=>absurd h (Nat.not_lt_zero _)⟩ rfl ?_ ?_ ?_
   ·simp -implicitDefEqProofs -proj only [go_sem,seval,EP]
   ·trivial
   ·rintro i ⟨hi2,hs2⟩
    by_cases h2:i<p.cs.length
    ·have hel:(AY p.cs)[((i:Int)).toNat]? = some p.cs[i].el:=by rw [Int.toNat_natCast]; simp [AY,h2]
     have hno:Hl p.cs[i]→E0 p:=fun e=>.inr (.inr ⟨_,List.getElem_mem h2,e⟩)
     have hgo:¬Hl p.cs[i]→∀(j:Nat) (h:j<p.cs.length),j<i+1→¬Hl p.cs[j]:=by
      intro e j h1 h2
      by_cases hj:j=i
      ·subst hj; exact e
      ·exact hs2 j h1 (by omega)
     generalize p.cs[i]=x at *
     simp -implicitDefEqProofs -proj only [go_sem,seval,decide_eq_true (show (i:Int)<p.cs.length by omega)]
     refine Es _ (by omega) hel ?_
     simp -implicitDefEqProofs -proj only [go_sem,seval]
     refine Av (fun b4 hb4=>?_)
     by_cases c1:40<(x.ts.length:Int)
     ·simp -implicitDefEqProofs -proj only [go_sem,seval,Fs,Ff,decide_eq_true c1]
      exact AU (by rw [decide_eq_true (hno (.inl c1))])
     by_cases c2:40<(x.ad.length:Int)
     ·simp -implicitDefEqProofs -proj only [go_sem,seval,Fs,Ff,decide_eq_false c1,decide_eq_true c2]
      exact AU (by rw [decide_eq_true (hno (.inr (.inl c2)))])
     by_cases c3:200<(x.me.size:Int)
     ·simp -implicitDefEqProofs -proj only [go_sem,seval,Fs,Ff,decide_eq_false c1,decide_eq_false c2,decide_eq_true c3]
      exact AU (by rw [decide_eq_true (hno (.inr (.inr c3)))])
     simp -implicitDefEqProofs -proj only [go_sem,seval,Fs,Ff,decide_eq_false c1,decide_eq_false c2,decide_eq_false c3]
     refine E3 (i+1) ⟨by omega,hgo (fun e=>e.elim c1 (fun e=>e.elim c2 c3))⟩ (by show p.cs.length-(i+1)<p.cs.length-i; omega) rfl ?_ trivial
     simp -implicitDefEqProofs -proj only [go_sem,seval,EP,F6 (show i<9223372036854775807 by omega)]
    ·have hi3:i=p.cs.length:=by omega
     subst hi3
     simp -implicitDefEqProofs -proj only [go_sem,seval,decide_eq_false (show ¬(p.cs.length:Int)<p.cs.length by omega)]
     have hn:¬E0 p:=by
      rintro ((e | e | e | e | e) | ⟨m,hm,e⟩ | ⟨x,hx,e⟩)
      ·exact g1 e
      ·exact g2 e
      ·exact g3 e
      ·exact g4 e
      ·exact g5 e
      ·obtain ⟨j,hj,rfl⟩:=List.getElem_of_mem hm
       exact hs j hj hj e
      ·obtain ⟨j,hj,rfl⟩:=List.getElem_of_mem hx
       exact hs2 j hj hj e
     exact AU (by rw [decide_eq_false hn])
def UJ (T:List Tier) (i:Nat):Int:=if i+1=T.length then 0 else match T[i-1]? with
 | some p=>if 0<i∧1≤p.u then min p.u 1000000+1 else 1
 | none=>1
def O7 (T:List Tier) (i:Nat):Int:=if i+1=T.length then 0 else 1000000
def Jr (T:List Tier) (i:Nat) (t:Tier):Prop:=(0≤t.r∧t.r≤1000000000000)∧(UJ T i≤t.u∧t.u≤O7 T i)
instance (T:List Tier) (i:Nat) (t:Tier):Decidable (Jr T i t):=by unfold Jr; exact inferInstance
def JQ (a:Adj):Prop:=a.k=1∧(0≤a.n∧a.n≤100000000)∧(0≤a.m∧a.m≤3)∨(a.k=2∨a.k=3∨a.k=4)∧(0≤a.n∧a.n≤1000000000000)∧a.m=0
instance (a:Adj):Decidable (JQ a):=by unfold JQ; exact inferInstance
def J2 (f t:Int) (nm:Nat) (x:PartX):Prop:=0≤x.me∧x.me<nm∧(f≤x.f∧x.f≤x.t∧x.t≤t)∧(0≤x.al∧x.al≤1000000)∧(1≤x.bl∧x.bl≤1000000)∧(x.ki=1∨x.ki=2)∧(0≤x.mo∧x.mo≤3)∧1≤x.ts.length∧x.ts.length≤8∧x.ad.length≤6
instance (f t:Int) (nm:Nat) (x:PartX):Decidable (J2 f t nm x):=by unfold J2; exact inferInstance
def Lc (T:List Tier):Prop:=∀(i:Nat) (h:i<T.length),Jr T i T[i]
def MG (l:List Adj):Prop:=∀a∈l,JQ a
noncomputable instance (T:List Tier):Decidable (Lc T):=Classical.propDecidable _
noncomputable instance (l:List Adj):Decidable (MG l):=Classical.propDecidable _
def J7 (f t:Int) (nm:Nat) (x:PartX):Prop:=J2 f t nm x∧Lc x.ts∧MG x.ad
noncomputable instance (f t:Int) (nm:Nat) (x:PartX):Decidable (J7 f t nm x):=by unfold J7; exact inferInstance
def Pl (a b:ByteArray):Bool:=Op.bytesLess a.toList b.toList
def SC (ms:List MeterX) (i:Nat) (m:MeterX):Prop:=(0≤m.mx∧m.mx≤2000)∧m.ln=0∧m.co=0∧∀p,ms[i-1]? = some p→0<i→Pl p.nm m.nm=true
def N0 (f t:Int) (s:SumX):Prop:=(0≤s.a∧s.a≤1000000000000)∧(f≤s.f∧s.f≤s.t∧s.t≤t)
def Pc (c:CoreX):Prop:=(0≤c.f∧c.f≤3652058)∧(c.f≤c.t∧c.t≤3652058)∧c.t-c.f≤3999∧c.ms.length≤4∧c.ss.length≤8∧c.ps.length≤8
def OZ (ms:List MeterX):Prop:=∀(i:Nat) (h:i<ms.length),SC ms i ms[i]
structure goodC (c:CoreX):Prop where
 hd:Pc c
 ms:OZ c.ms
 ss:∀s∈c.ss,N0 c.f c.t s
 ps:∀x∈c.ps,J7 c.f c.t c.ms.length x
noncomputable instance (c:CoreX):Decidable (goodC c):=Classical.propDecidable _
theorem Ky (b:ByteArray):∀(n i:Nat) (r:List UInt8),b.size≤n+i→ByteArray.toList.loop b i r=r.reverse++b.data.toList.drop i
 | 0,i,r,h=>by
  rw [ByteArray.toList.loop,if_neg (by omega)]
  rw [List.drop_eq_nil_of_le (by simpa using h),List.append_nil]
 | n+1,i,r,h=>by
  rw [ByteArray.toList.loop]
  split
  ·next hi =>
   rw [Ky b n (i+1) _ (by omega),List.reverse_cons,List.append_assoc]
   congr 1
   have hi':i<b.data.toList.length:=by simpa using hi
   rw [List.drop_eq_getElem_cons hi']
   have hi2:i<b.data.size:=hi
   simp [ByteArray.get!]
   exact getElem!_pos b.data i hi2
  ·rw [List.drop_eq_nil_of_le (by simp; omega),List.append_nil]
theorem Ld (b:ByteArray):b.toList=b.data.toList:=by
 rw [ByteArray.toList,Ky b b.size 0 [] (by omega)]; rfl
theorem US {x y:ByteArray} (h:x.toList=y.toList):x=y:=by
 rw [Ld,Ld] at h
 cases x; cases y
 simp -implicitDefEqProofs only [ByteArray.mk.injEq]
 exact Array.ext' h
def Tm (S:List MeterX) (n:Nat):Prop:=0<n∧(S[n-1]?).map MeterX.nm=(S[n]?).map MeterX.nm
noncomputable instance (S:List MeterX) (n:Nat):Decidable (Tm S n):=Classical.propDecidable _
structure TStep where
 f:Int
 t:Int
 r:Int
abbrev TStep.av (s:TStep):AV:=.agg [i64 s.f,i64 s.t,i64 s.r]
def TStep.el (s:TStep):List D:=[.int .i64 s.f,.int .i64 s.t,.int .i64 s.r]
def Jo (T:List Tier) (q:Int) (i:Nat) (t:Tier):Int:=if i+1<T.length then min q t.u else q
def Gx (T:List Tier) (q:Int):Nat→Int×List TStep
 | 0=>(0,[])
 | i+1=>match T[i]? with
  | some t=>(max (Gx T q i).1 (Jo T q i t),if (Gx T q i).1<Jo T q i t then (Gx T q i).2++[⟨(Gx T q i).1,Jo T q i t,t.r⟩] else (Gx T q i).2)
  | none=>Gx T q i
def Mg (T:List Tier) (q:Int):List TStep:=(Gx T q T.length).2
def LJ (T:List Tier) (q:Int):Nat→List TStep
 | 0=>[]
 | n+1=>match T[T.length-(n+1)]? with
  | some t=>if n=0∨q≤t.u then (if 0<q then [⟨0,q,t.r⟩] else []) else LJ T q n
  | none=>[]
def TW (T:List Tier) (q:Int):List TStep:=LJ T q T.length
def Pe (x:PartX) (q:Int):List TStep:=if x.ki=2 then TW x.ts q else Mg x.ts q
def N9 (s:TStep) (a:Int):Option Int:=if Fit (s.r*(s.t-s.f))∧Fit (a+s.r*(s.t-s.f)) then some (a+s.r*(s.t-s.f)) else none
def KY:List TStep→Int→Option Int
 | [],a=>some a
 | s::l,a=>match N9 s a with
  | some b=>KY l b
  | none=>none
def Qx (x:PartX) (q:Int):Option Int:=if q<0 then none else if Fit (Jk (max (q-x.al) 0) x.bl 1*x.bl) then KY (Pe x (Jk (max (q-x.al) 0) x.bl 1*x.bl)) 0 else none
def T0 (x:PartX) (q:Int):Option Int:=match Qx x q with
 | some n=>K8 n 1000000 x.mo
 | none=>none
def Lm:List TStep→Int
 | []=>0
 | s::l=>s.r*(s.t-s.f)+Lm l
section
def IC (s:Bool) (m:Int):AV:=.agg [bv s,u64 (m / 18446744073709551616),u64 (m % 18446744073709551616)]
def wide (n:Int):AV:=IC (n<0) n.natAbs
attribute [local go_sem] IC wide
end
def Sx (a:Adj) (x:Int):Option Int :=
 if a.k=1 then K8 (x*a.n) 100000 a.m
 else if a.k=2 then some (min x a.n)
 else if a.k=3 then some (max x a.n)
 else if a.k=4 then Ma (x+a.n)
 else none
def LD:Int→List Adj→Option Int
 | x,[]=>some x
 | x,a::l=>match Sx a x with
  | some y=>LD y l
  | none=>none
def LC (x:PartX) (q:Int):Option Int:=match T0 x q with
 | some n=>LD n x.ad
 | none=>none
def LW (d f t:Int):Prop:=f≤d∧d≤t
instance (d f t:Int):Decidable (LW d f t):=by unfold LW; exact inferInstance
def bq (b:List Int) (m:Int):Int:=b.getD m.toNat 0
def Ui (c:CoreX) (b:List Int):Prop:=b.length=c.ms.length∧∀(i:Nat) (h:i<b.length) (h2:i<c.ms.length),0≤b[i]∧b[i]≤(c.ms[i]).mx
noncomputable instance (c:CoreX) (b:List Int):Decidable (Ui c b):=Classical.propDecidable _
def sg (g:Nat→Int):Nat→Int
 | 0=>0
 | n+1=>sg g n+g n
def pv (x:PartX) (q:Int):Int:=(LC x q).getD 0
def LX (x:PartX):Nat→Int
 | 0=>0
 | n+1=>max (LX x n) (pv x n)
def MY (ms:List MeterX) (m:Int):Int:=match ms[m.toNat]? with
 | some x=>x.mx
 | none=>0
def Rq (c:CoreX) (j:Nat):Int:=match c.ps[j]? with
 | some x=>LX x (MY c.ms x.me+1).toNat
 | none=>0
def Or (ss:List SumX) (j:Nat):Int:=match ss[j]? with
 | some s=>s.a
 | none=>0
def P7 (c:CoreX) (i:Nat):Int:=sg (Or c.ss) c.ss.length+sg (Rq c) i
def Tb (x:PartX) (q:Int):Prop:=∃n,LC x q=some n∧0≤n∧n≤1152921504606846976
structure fitsC (c:CoreX):Prop where
 great:¬KV c
 good:goodC c
 parts:∀x∈c.ps,∀q:Nat,q<(MY c.ms x.me+1).toNat→Tb x q
 Lm:∀i,i≤c.ps.length→P7 c i≤1152921504606846976
noncomputable instance (c:CoreX):Decidable (fitsC c):=Classical.propDecidable _
structure Run where
 f:Int
 t:Int
 v:Int
 deriving DecidableEq
def Run.el (r:Run):List D:=[.int .i64 r.f,.int .i64 r.t,.int .i64 r.v]
abbrev Run.av (r:Run):AV:=.agg [i64 r.f,i64 r.t,i64 r.v]
def Gt (l:List Run) (r:Run):List Run:=match l.getLast? with
 | some q=>if q.v=r.v then l.dropLast++[{ q with t:=r.t }] else l++[r]
 | none=>[r]
def MU (l:List Run) (x:Int):Nat:=(l.takeWhile fun r=>decide (r.t<x)).length
def Ip (l:List Run) (x:Int):Option Int:=match l[MU l x]? with
 | some r=>if r.f≤x then some r.v else none
 | none=>none
def FwdOK (val:Int→Int) (lo hi:Int):List Run→Prop
 | []=>lo=hi
 | r::R=>r.f=lo∧r.f≤r.t∧(∀x,r.f≤x→x≤r.t→val x=r.v)∧(∀s,R.head? = some s→r.v≠s.v)∧FwdOK val (r.t+1) hi R
theorem FwdOK.le {val:Int→Int}:∀{R:List Run} {lo hi:Int},FwdOK val lo hi R→lo≤hi
 | [],lo,hi,h=>by have:lo=hi:=h; omega
 | r::R,lo,hi,h=>by
  obtain ⟨h1,h2,_,_,h5⟩:=h
  have:=FwdOK.le h5
  omega
theorem Kz {r x:Run} {R:List Run} (h:R≠[]):Gt (r::R) x=r::Gt R x:=by
 obtain ⟨q,hq⟩:∃q,R.getLast? = some q:=by
  cases hh:R.getLast? with
  | none=>exact absurd (List.getLast?_eq_none_iff.1 hh) h
  | some q=>exact ⟨q,rfl⟩
 have h2:(r::R).getLast? = some q:=by
  rw [List.getLast?_cons,hq]; rfl
 unfold Gt
 rw [hq,h2]
 simp -implicitDefEqProofs only []
 split
 ·rw [List.dropLast_cons_of_ne_nil h]; rfl
 ·rfl
theorem Mj {x s:Run} {R:List Run} {q:Run} (h:(Gt (s::R) x).head? = some q):q.v=s.v:=by
 cases R with
 | nil =>
  unfold Gt at h
  simp -implicitDefEqProofs only [List.getLast?_singleton] at h
  split at h
  ·simp at h; subst h; rfl
  ·simp at h; subst h; rfl
 | cons t R =>
  rw [Kz (by simp)] at h
  simp at h; subst h; rfl
theorem FwdOK.put {val:Int→Int} {hi:Int}:∀{R:List Run} {lo:Int},FwdOK val lo hi R→FwdOK val lo (hi+1) (Gt R ⟨hi,hi,val hi⟩)
 | [],lo,h=>by
  have:lo=hi:=h
  subst this
  exact ⟨rfl,Int.le_refl _,fun x h1 h2=>by rw [show x=lo from Int.le_antisymm h2 h1],fun s h=>(by cases h),rfl⟩
 | [r],lo,h=>by
  obtain ⟨h1,h2,h3,h4,h5⟩:=h
  have h5:r.t+1=hi:=h5
  unfold Gt
  simp -implicitDefEqProofs only [List.getLast?_singleton]
  split
  ·next hv =>
   refine ⟨h1,by show r.f≤hi; omega,fun x x1 x2=>?_,fun s h=>(by cases h),rfl⟩
   by_cases hx:x=hi
   ·subst hx; exact hv.symm
   ·exact h3 x x1 (by have:x≤hi:=x2; omega)
  ·next hv =>
   refine ⟨h1,h2,h3,fun s h=>?_,⟨h5.symm,Int.le_refl _,fun x x1 x2=>by rw [show x=hi from Int.le_antisymm x2 x1],fun s h=>(by cases h),rfl⟩⟩
   cases h; exact hv
 | r::s::R,lo,h=>by
  obtain ⟨h1,h2,h3,h4,h5⟩:=h
  rw [Kz (by simp)]
  refine ⟨h1,h2,h3,fun q hq=>?_,FwdOK.put h5⟩
  rw [Mj hq]
  exact h4 s rfl
theorem ST {r:Run} {R:List Run} {x:Int}:Ip (r::R) x=if r.t<x then Ip R x else if r.f≤x then some r.v else none:=by
 unfold Ip MU
 by_cases h:r.t<x
 ·rw [if_pos h,List.takeWhile_cons_of_pos (by simpa using h),List.length_cons,List.getElem?_cons_succ]
 ·rw [if_neg h,List.takeWhile_cons_of_neg (by simpa using h)]
  rfl
def Adj2:List Run→Prop
 | []=>True
 | r::R=>(∀s,R.head? = some s→r.v≠s.v)∧Adj2 R
theorem Adj2.last {S R:List Run} {x q:Run} (h:Adj2 (S++x::R)) (hq:S.getLast? = some q):q.v≠x.v:=by
 induction S with
 | nil=>cases hq
 | cons s S ih =>
  cases S with
  | nil =>
   simp at hq; subst hq
   exact h.1 x rfl
  | cons t S =>
   rw [List.getLast?_cons_cons] at hq
   exact ih h.2 hq
structure Seg (β:Type) where
 f:Int
 t:Int
 v : β
section
variable {β:Type}
def FwdB (val:Int→β) (lo hi:Int):List (Seg β)→Prop
 | []=>lo=hi
 | r::R=>r.f=lo∧r.f≤r.t∧(∀x,r.f≤x→x≤r.t→val x=r.v)∧(∀s,R.head? = some s→r.v≠s.v)∧FwdB val (r.t+1) hi R
theorem FwdB.le {val:Int→β}:∀{R:List (Seg β)} {lo hi:Int},FwdB val lo hi R→lo≤hi
 | [],lo,hi,h=>by have:lo=hi:=h; omega
 | r::R,lo,hi,h=>by
  obtain ⟨h1,h2,_,_,h5⟩:=h
  have:=FwdB.le h5
  omega
theorem FwdB.len {val:Int→β}:∀{R:List (Seg β)} {lo hi:Int},FwdB val lo hi R→(R.length:Int)≤hi-lo
 | [],lo,hi,h=>by have:lo=hi:=h; simp; omega
 | r::R,lo,hi,h=>by
  obtain ⟨h1,h2,_,_,h5⟩:=h
  have:=FwdB.len h5
  simp -implicitDefEqProofs only [List.length_cons]
  omega
theorem FwdB.congr {val val':Int→β} {hi:Int}:∀{R:List (Seg β)} {lo:Int},(∀x,lo≤x→x<hi→val x=val' x)→FwdB val lo hi R→FwdB val' lo hi R
 | [],lo,_,h=>h
 | r::R,lo,hv,h=>by
  obtain ⟨h1,h2,h3,h4,h5⟩:=h
  have hl:=h5.le
  exact ⟨h1,h2,fun x a b=>by rw [←hv x (by omega) (by omega)]; exact h3 x a b,h4,FwdB.congr (fun x a b=>hv x (by omega) b) h5⟩
theorem FwdB.nth {val:Int→β} {hi:Int}:∀{R:List (Seg β)} {lo:Int},FwdB val lo hi R→∀(i:Nat) r,R[i]? = some r→lo+i≤r.f∧r.f≤r.t∧r.t<hi∧(∀x,r.f≤x→x≤r.t→val x=r.v)∧(∀s,R[i+1]? = some s→s.f=r.t+1∧r.v≠s.v)∧(R[i+1]? = none→r.t+1=hi)∧(i=0→r.f=lo)
 | [],lo,_,i,r,hr=>by simp at hr
 | q::R,lo,h,0,r,hr=>by
  obtain ⟨h1,h2,h3,h4,h5⟩:=h
  have hl:=h5.le
  simp -implicitDefEqProofs only [List.getElem?_cons_zero,Option.some.injEq] at hr
  subst hr
  refine ⟨by omega,h2,by omega,h3,fun s hs=>?_,fun hs=>?_,fun _=>h1⟩
  ·cases R with
   | nil=>simp at hs
   | cons a R =>
    simp -implicitDefEqProofs only [List.getElem?_cons_succ,List.getElem?_cons_zero,Option.some.injEq] at hs
    subst hs
    exact ⟨h5.1,h4 a rfl⟩
  ·cases R with
   | nil=>exact h5
   | cons a R=>simp at hs
 | q::R,lo,h,i+1,r,hr=>by
  obtain ⟨h1,h2,h3,h4,h5⟩:=h
  have hl:=h5.le
  obtain ⟨g1,g2,g3,g4,g5,g6,g7⟩:=FwdB.nth h5 i r (by simpa using hr)
  exact ⟨by omega,g2,g3,g4,by simpa using g5,by simpa using g6,fun h=>by omega⟩
theorem FwdB.apart {val:Int→β} {hi:Int}:∀{R:List (Seg β)} {lo:Int},FwdB val lo hi R→∀(i j:Nat) r s,i<j→R[i]? = some r→R[j]? = some s→r.t<s.f
 | [],lo,_,i,j,r,s,_,hr,_=>by simp at hr
 | q::R,lo,h,0,0,r,s,hij,_,_=>by omega
 | q::R,lo,h,0,j+1,r,s,_,hr,hs=>by
  obtain ⟨h1,h2,h3,h4,h5⟩:=h
  simp -implicitDefEqProofs only [List.getElem?_cons_zero,Option.some.injEq] at hr
  subst hr
  have:=(FwdB.nth h5 j s (by simpa using hs)).1
  omega
 | q::R,lo,h,i+1,0,r,s,hij,_,_=>by omega
 | q::R,lo,h,i+1,j+1,r,s,hij,hr,hs=>FwdB.apart h.2.2.2.2 i j r s (by omega) (by simpa using hr) (by simpa using hs)
end
theorem FwdOK.out {val:Int→Int} {hi x:Int}:∀{R:List Run} {lo:Int},FwdOK val lo hi R→(x<lo∨hi≤x)→Ip R x=none
 | [],lo,h,_=>rfl
 | r::R,lo,h,h1=>by
  obtain ⟨g1,g2,g3,g4,g5⟩:=h
  have:=g5.le
  rw [ST]
  by_cases ht:r.t<x
  ·rw [if_pos ht]; exact FwdOK.out g5 (.inr (by omega))
  ·rw [if_neg ht,if_neg (by omega)]
theorem FwdOK.ends {val:Int→Int} {hi:Int}:∀{R:List Run} {lo:Int} (hr:R≠[]),FwdOK val lo hi R→(R.head hr).f=lo∧(R.getLast hr).t=hi-1
 | [r],lo,_,h=>⟨h.1,by have:r.t+1=hi:=h.2.2.2.2; show r.t=hi-1; omega⟩
 | r::s::R,lo,_,h=>⟨h.1,(FwdOK.ends (R:=s::R) (by simp) h.2.2.2.2).2⟩
theorem FwdOK.congr {val val':Int→Int} {hi:Int}:∀{R:List Run} {lo:Int},(∀x,lo≤x→x<hi→val x=val' x)→FwdOK val lo hi R→FwdOK val' lo hi R
 | [],_,_,h=>h
 | r::R,lo,he,h=>by
  obtain ⟨g1,g2,g3,g4,g5⟩:=h
  have:=g5.le
  exact ⟨g1,g2,fun x h1 h2=>by rw [←he x (by omega) (by omega)]; exact g3 x h1 h2,g4,FwdOK.congr (fun x h1 h2=>he x (by omega) h2) g5⟩
def Hk (R:List Run) (hi:Int) (i:Nat):Int:=match R[i]? with
 | some r=>r.f
 | none=>hi
theorem FwdOK.nth {val:Int→Int} {hi:Int}:∀{R:List Run} {lo:Int},FwdOK val lo hi R→∀(i:Nat) r,R[i]? = some r→r.f=Hk R hi i∧r.f≤r.t∧Hk R hi (i+1)=r.t+1∧r.t+1≤hi∧lo≤r.f∧∀x,r.f≤x→x≤r.t→val x=r.v:=by
 intro R
 induction R with
 | nil=>intro lo _ i r h; simp at h
 | cons q R ih =>
  intro lo h i r hi'
  obtain ⟨g1,g2,g3,g4,g5⟩:=h
  have hle:=g5.le
  cases i with
  | zero =>
   simp -implicitDefEqProofs only [List.getElem?_cons_zero,Option.some.injEq] at hi'
   subst hi'
   refine ⟨rfl,g2,?_,hle,by omega,g3⟩
   unfold Hk
   cases R with
   | nil=>exact g5.symm
   | cons s R=>exact g5.1
  | succ i =>
   obtain ⟨e1,e2,e3,e4,e5,e6⟩:=ih g5 i r (by simpa using hi')
   exact ⟨by rw [e1]; simp [Hk],e2,by rw [←e3]; simp [Hk],e4,by omega,e6⟩
theorem FwdOK.len {val:Int→Int} {hi:Int}:∀{R:List Run} {lo:Int},FwdOK val lo hi R→(R.length:Int)≤hi-lo
 | [],lo,h=>by have:lo=hi:=h; simp; omega
 | r::R,lo,⟨g1,g2,g3,g4,g5⟩=>by
  have:=g5.len
  simp -implicitDefEqProofs only [List.length_cons]
  omega
structure Grp where
 f:Int
 v:Int
 w:Int
 r:Int
 c:Int
 deriving DecidableEq
theorem FwdOK.drop {val:Int→Int} {hi:Int}:∀{R:List Run} {lo:Int} (k:Nat),FwdOK val lo hi R→k≤R.length→∃m,FwdOK val m hi (R.drop k)∧lo+k≤m∧(∀q,lo≤q→q<m→∃(j:Nat) (h:j<R.length),j<k∧R[j].f≤q∧q≤R[j].t∧val q=R[j].v∧(∀(h2:j+1<R.length),q<R[j+1].f))
 | R,lo,0,h,_=>⟨lo,h,by omega,fun q h1 h2=>by omega⟩
 | [],lo,k+1,h,hk=>absurd hk (by simp)
 | a::R,lo,k+1,⟨g1,g2,g3,g4,g5⟩,hk=>by
  obtain ⟨m,k1,k2,k3⟩:=FwdOK.drop k g5 (by simpa using hk)
  refine ⟨m,k1,by omega,fun q h1 h2=>?_⟩
  by_cases hq:q≤a.t
  ·refine ⟨0,by simp,by omega,by simpa using (by omega),by simpa using hq,by simpa using g3 q (by omega) hq,fun h3=>?_⟩
   cases R with
   | nil=>simp at h3
   | cons b R =>
    have:=g5.1
    simp -implicitDefEqProofs only [List.getElem_cons_succ,List.getElem_cons_zero]
    omega
  ·obtain ⟨j,j1,j2,j3,j4,j5,j6⟩:=k3 q (by omega) h2
   exact ⟨j+1,by simpa using j1,by omega,by simpa using j3,by simpa using j4,by simpa using j5,fun h3=>by simpa using j6 (by simpa using h3)⟩
def Jz (r:Run):Prop:=r.v < -2305843009213693952∨2305843009213693952<r.v
instance (r:Run):Decidable (Jz r):=by unfold Jz; exact inferInstance
def Grp.el (g:Grp):List D:=[.int .i64 g.f,.int .i64 g.v,.int .i64 g.w,.int .i64 g.r,.int .i64 g.c]
abbrev Grp.av (g:Grp):AV:=.agg [i64 g.f,i64 g.v,i64 g.w,i64 g.r,i64 g.c]
def OS (R:List Run):Prop:=∃h:R≠[],(R.head h).f=0∧(R.getLast h).t≤2000∧∀r∈R,¬Jz r
noncomputable instance (R:List Run):Decidable (OS R):=Classical.propDecidable _
def KB (v:Int):Prop:=-2305843009213693952≤v∧v≤2305843009213693952
instance (v:Int):Decidable (KB v):=by unfold KB; exact inferInstance
def TI (l:List Int):Prop:=l≠[]∧l.length≤2001∧∀v∈l,KB v
noncomputable instance (l:List Int):Decidable (TI l):=Classical.propDecidable _
theorem G5 {P:Program} {Q:Out→St→Prop} {k:List Item} {s:St} {d:Option Nat} {l:List AO} {e:TypeId} {sz bytes b len cap:Nat} {z:List AV} {xs ys:List (List D)} {x:AV} (hx:∀K,Er s.H x K=K sz ys) (hb:s.H b=some (.row e sz cap xs)) (hlb:len=xs.length) (hz:z.length=sz) (hbd:(xs.length+ys.length)*bytes≤140737488355328∧xs.length+ys.length≤maxLen)
  (hk:∀b' cap' H',H' b'=some (.row e sz cap' (xs++ys))→(∀k x,s.H k=some x→¬k=b→H' k=some x∧¬k=b'∧¬b'=k)→AF P Q l k (AD s d (.own b' sz 0 (len+ys.length) cap') H')):Fo e sz bytes z (.own b sz 0 len cap) x d l k s P Q:=by
 refine TX hx hb hlb hz hbd (fun h=>?_) (fun h b' cap' hb'=>?_)
 ·subst h
  have:=hk b cap s.H (by rw [List.append_nil]; exact hb) (fun k x h1 h2=>⟨h1,h2,fun e=>h2 e.symm⟩)
  simpa using this
 ·refine hk b' cap' _ EN (fun k x h1 h2=>?_)
  have hne:¬k=b':=by
   rintro rfl
   rw [FR (fun e=>h2 e.symm),h1] at hb'
   cases hb'
  exact ⟨by rw [FR (fun e=>hne e.symm),FR (fun e=>h2 e.symm)]; exact h1,hne,fun e=>hne e.symm⟩
theorem KW {l:List FeeX} {i:Nat} (h:i<l.length):(EC l)[((i:Int)).toNat]? = some (l[i]).el:=by rw [Int.toNat_natCast]; simp [EC,h]
theorem LH {l:List ChX} {i:Nat} (h:i<l.length):(AY l)[((i:Int)).toNat]? = some (l[i]).el:=by rw [Int.toNat_natCast]; simp [AY,h]
abbrev ChX.cells (x:ChX):List AV:=[.d (.str x.me),bv x.w.has,i64 x.w.f.y,i64 x.w.f.m,i64 x.w.f.d,i64 x.w.t.y,i64 x.w.t.m,i64 x.w.t.d,i64 x.al,i64 x.bl,i64 x.ki,.d (.sl 2 (D7 x.ts)),i64 x.mo,.d (.sl 3 (D8 x.ad)),i64 x.ln,i64 x.co]
theorem U3 {P:Program} {f:FuncId} {args:List AV} {H0 H:Heap} {K:AV→Heap→Prop} (h:CallW P f args H0 K) (hs:∀k,H0 k=none∨H0 k=H k) :
  CallW P f args H fun r H'=>∃H1,K r H1∧(∀k x,H1 k=some x→H' k=some x)∧∀k x,H k=some x→H0 k=none→H' k=some x:=by
 classical
 intro F w vs hh hv
 have hsub:∀b x,H0 b=some x→H b=some x:=fun b x hb=>by
  rcases hs b with e | e
  ·rw [e] at hb; cases hb
  ·rw [←e]; exact hb
 have hh0:HRel P F H0 w:=⟨fun b x hb=>hh.at_ b x (hsub b x hb),fun b x hb=>hh.apart b x (hsub b x hb),hh.old⟩
 refine (h F w vs hh0 hv).mono fun e w' hr=>?_
 obtain ⟨r,H1,F',v,rfl,h1,h2,h3,h4⟩:=hr
 have hF0:∀k,F k→H0 k=none:=fun k hk=>by
  cases e:H0 k with
  | none=>rfl
  | some x=>exact absurd hk (hh0.apart k x e)
 have hne:∀k,H0 k≠none→H k≠none:=fun k hk=>by
  cases e:H0 k with
  | none=>exact absurd e hk
  | some x=>rw [hsub k x e]; simp
 have hfr:∀k x,H1 k=some x→¬(H k≠none∧H0 k=none):=fun k x hx hk=>by
  rcases h3.dom k (by rw [hx]; simp) with e | e
  ·exact e hk.2
  ·cases e2:H k with
   | none=>exact hk.1 e2
   | some y=>have:=(hh.at_ k y e2).lt; omega
 refine ⟨r,fun k=>if H k≠none∧H0 k=none then H k else H1 k,F',v,rfl,h1,⟨fun b x hb=>?_,fun b x hb hf=>?_,h2.old⟩,⟨h3.os,h3.tape,h3.output,h3.size,fun k hk e=>h3.keep k hk ?_,fun k hk=>?_,h3.mono,fun k hk=>?_⟩,H1,h4,fun k x hx=>?_,fun k x hx hk=>?_⟩
 ·by_cases e:H b≠none∧H0 b=none
  ·rw [if_pos e] at hb
   exact (hh.at_ b x hb).mono (h3.keep b (hh.at_ b x hb).lt e.2) h3.mono (fun k hk=>h3.keep k (hh.old k hk) (hF0 k hk))
  ·rw [if_neg e] at hb
   exact h2.at_ b x hb
 ·by_cases e:H b≠none∧H0 b=none
  ·rw [if_pos e] at hb
   rcases h3.new b hf with e2 | e2 | e2
   ·exact hh.apart b x hb e2
   ·exact e2 e.2
   ·have:=(hh.at_ b x hb).lt; omega
  ·rw [if_neg e] at hb
   exact h2.apart b x hb hf
 ·rcases hs k with e2 | e2
  ·exact e2
  ·rw [e2,e]
 ·by_cases e:H k≠none∧H0 k=none
  ·exact .inl e.1
  ·rw [if_neg e] at hk
   exact (h3.dom k hk).imp (hne k) id
 ·rcases h3.new k hk with e | e | e
  ·exact .inl e
  ·exact .inr (.inl (hne k e))
  ·exact .inr (.inr e)
 ·show (if H k≠none∧H0 k=none then H k else H1 k)=some x
  rw [if_neg (hfr k x hx)]
  exact hx
 ·show (if H k≠none∧H0 k=none then H k else H1 k)=some x
  rw [if_pos ⟨by rw [hx]; simp,hk⟩]
  exact hx
def Redesc (P:Program) (H H':Heap):Prop:=∀F w,HRel P F H w→∃F',HRel P F' H' w∧Step F H w F' H' w
theorem DefOK.step {B:Nat} {F F':Nat→Prop} {H H':Heap} {ds:List Deferred} {w:World} (h:DefOK B F H ds w) (st:Step F H w F' H' w):DefOK B F' H' ds w:=by
 obtain ⟨h1,ms,h2,h3,h4⟩:=h
 refine ⟨h1,ms,h2,h3,fun D hD=>?_⟩
 obtain ⟨g1,g2,g3,g4⟩:=h4 D hD
 have hlt:D<w.heap.size:=by
  rcases Nat.lt_or_ge D w.heap.size with h | h
  ·exact h
  ·rw [Array.getElem?_eq_none h] at g4; cases g4
 refine ⟨g1,?_,fun hf=>?_,g4⟩
 ·cases e:H' D with
  | none=>rfl
  | some x =>
   rcases st.dom D (by rw [e]; simp) with k | k
   ·exact absurd g2 k
   ·omega
 ·rcases st.new D hf with k | k | k
  ·exact g3 k
  ·exact k g2
  ·omega
theorem Redesc.loop {P:Program} {Q:Out→St→Prop} {b:ACode} {k:List Item} {s:St} {H':Heap} (hd:Redesc P s.H H') (h:Gc P Q b k ⟨s.n,s.t,H'⟩):Gc P Q b k s:=by
 intro r c0 hc hr B F a w hR
 obtain ⟨F',h1,h2⟩:=hd F w hR.1
 exact Code.wpIn_mono (fun e a' w' ⟨o,s',F2,g1,g2,g3,g4⟩=>⟨o,s',F2,g1,g2,h2.trans g3,g4⟩) (h r c0 hc hr B F' a w ⟨h1,hR.2.1.step h2,hR.2.2.1,fun t=>(hR.2.2.2 t).mono h2.mono (fun _ _=>rfl)⟩)
theorem Redesc.call {P:Program} {f:FuncId} {args:List AV} {H H':Heap} {K:AV→Heap→Prop} (hd:Redesc P H H') (h:CallW P f args H' K):CallW P f args H K:=by
 intro F w vs hh hv
 obtain ⟨F',h1,h2⟩:=hd F w hh
 exact (h F' w vs h1 (hv.mono h2.mono (fun _ _=>rfl))).mono fun e w' ⟨r,H2,F2,v,g1,g2,g3,g4,g5⟩=>⟨r,H2,F2,v,g1,g2,g3,h2.trans g4,g5⟩
theorem CallW.redesc {P:Program} {f:FuncId} {args:List AV} {H:Heap} {K K2:AV→Heap→Prop} (h:CallW P f args H K) (hk:∀r H',K r H'→∃H2,Redesc P H' H2∧K2 r H2):CallW P f args H K2:=by
 intro F w vs hh hv
 refine (h F w vs hh hv).mono fun e w' ⟨r,H',F',v,g1,g2,g3,g4,g5⟩=>?_
 obtain ⟨H2,hd,h2⟩:=hk r H' g5
 obtain ⟨F2,h3,h4⟩:=hd F' w' g3
 exact ⟨r,H2,F2,v,g1,g2.mono h4.mono (fun _ _=>rfl),h3,g4.trans h4,h2⟩
theorem Mq {P:Program} {Q:Out→St→Prop} {b:ACode} {k:List Item} {s:St} {c sz cap:Nat} {e:TypeId} {xs:List (List D)} (hb:s.H c=some (.row e sz cap xs)) (h:xs.length≤cap∧cap≤maxLen→Gc P Q b k s):Gc P Q b k s:=by
 intro r c0 hc hr B F a w hR
 obtain ⟨cur,g1,g2,g3,g4,_⟩:=hR.1.at_ _ _ hb
 exact h ⟨g3,g4⟩ r c0 hc hr B F a w hR
theorem FX {α:Type} {sz:Nat}:∀{xs:List (List α)},(∀el∈xs,el.length=sz)→xs.flatten.length=xs.length*sz
 | [],_=>by simp
 | x::xs,h=>by
  rw [List.flatten_cons,List.length_append,h x (by simp),FX (fun el he=>h el (by simp [he])),List.length_cons,Nat.add_mul]; omega
theorem IS {α:Type} {sz:Nat}:∀{xs:List (List α)} {i j:Nat} {el:List α},(∀el∈xs,el.length=sz)→xs[i]? = some el→j<sz→xs.flatten[i*sz+j]? = el[j]?
 | [],i,j,el,_,h,_=>by simp at h
 | x::xs,0,j,el,hs,h,hj=>by
  simp -implicitDefEqProofs only [List.getElem?_cons_zero,Option.some.injEq] at h
  subst h
  rw [List.flatten_cons,Nat.zero_mul,Nat.zero_add,List.getElem?_append_left (by rw [hs x (by simp)]; exact hj)]
 | x::xs,i+1,j,el,hs,h,hj=>by
  have hx:=hs x (by simp)
  rw [List.flatten_cons,List.getElem?_append_right (by rw [hx,Nat.add_mul]; omega),hx,show (i+1)*sz+j-sz=i*sz+j by rw [Nat.add_mul]; omega]
  exact IS (fun el he=>hs el (by simp [he])) (by simpa using h) hj
def Hf (sz cap:Nat) (xs:List (List D)):List AV:=(xs.map mapD).flatten++List.replicate (cap*sz-xs.length*sz) .undef
theorem VL {P:Program} {H:Heap} {b sz cap:Nat} {e:TypeId} {xs:List (List D)} (hb:H b=some (.row e sz cap xs)):Redesc P H (AG H b (some (.box e (Hf sz cap xs)))):=by
 intro F w hh
 obtain ⟨cur,g1,g2,g3,g4,g5,g6,g7,g8⟩:=hh.at_ _ _ hb
 have hml:∀zs∈xs.map mapD,zs.length=sz:=fun zs ha=>by
  obtain ⟨el,he,rfl⟩:=List.mem_map.1 ha
  rw [Gu,List.length_map]; exact g6 el he
 have hfl:(xs.map mapD).flatten.length=xs.length*sz:=by rw [FX hml,List.length_map]
 have hle:xs.length*sz≤cap*sz:=Nat.mul_le_mul_right _ g3
 refine ⟨F,hh.turn hb (fun _ _=>rfl) rfl ⟨cur,g1,⟨?_,fun k x v h1 h2=>?_⟩,g8⟩,Step.turn hb (fun _ _=>rfl) rfl rfl rfl rfl⟩
 ·rw [Hf,List.length_append,hfl,List.length_replicate,g2]; omega
 ·rcases Nat.lt_or_ge k (xs.length*sz) with hk | hk
  ·have hi:k / sz<xs.length:=Nat.div_lt_of_lt_mul (by rw [Nat.mul_comm]; exact hk)
   have hj:k % sz<sz:=Nat.mod_lt _ g5
   have hd:k / sz*sz+k % sz=k:=by rw [Nat.mul_comm]; exact Nat.div_add_mod k sz
   have h1':(xs.map mapD).flatten[k / sz*sz+k % sz]? = some x:=by
    rw [hd]
    rw [Hf,List.getElem?_append_left (by rw [hfl]; exact hk)] at h1
    exact h1
   rw [IS hml (el:=mapD xs[k / sz]) (by simp [hi]) hj,Gu,List.getElem?_map,Option.map_eq_some_iff] at h1'
   obtain ⟨c,h3,rfl⟩:=h1'
   refine .d _ _ (g7 (k / sz) (k % sz) xs[k / sz] c v (List.getElem?_eq_getElem hi) h3 ?_)
   rw [hd]; exact h2
  ·rw [Hf,List.getElem?_append_right (by rw [hfl]; exact hk),hfl] at h1
   have:x = .undef:=by
    have:=List.mem_of_getElem? h1
    exact (List.mem_replicate.1 this).2
   subst this
   exact .undef _
def IU (H Hr:Heap) (b:Nat) (x:Blk):Heap:=fun k=>if k=b then some x else if Hr k=none then H k else none
theorem G0 {H Hr:Heap} {b:Nat} {x:Blk} {k:Nat}:IU H Hr b x k=if k=b then some x else if Hr k=none then H k else none:=rfl
theorem Lf {P:Program} {H Hr:Heap} {b sz cap:Nat} {e:TypeId} {L:List (List AV)} {pad:List AV} {xs:List (List D)} (hb:H b=some (.box e (L.flatten++pad))) (hr:∀k,Hr k=none∨Hr k=H k) (hrb:Hr b=none) (hL:L.length=xs.length)
  (hl:∀(i:Nat) zs el,L[i]? = some zs→xs[i]? = some el→LendL Hr zs (mapD el)) (hsz:∀el∈xs,el.length=sz) (h0:0<sz) (hcap:(L.flatten++pad).length=cap*sz) (hle:xs.length≤cap) (hm:cap≤maxLen) :
  Redesc P H (IU H Hr b (.row e sz cap xs)):=by
 intro F w hh
 obtain ⟨cur,g1,g2,g3⟩:=hh.at_ _ _ hb
 have hsub:∀k x,Hr k=some x→H k=some x:=fun k x hk=>by
  rcases hr k with e | e
  ·rw [e] at hk; cases hk
  ·rw [←e]; exact hk
 have hrel:HRel P F Hr w:=⟨fun k x hk=>hh.at_ k x (hsub k x hk),fun k x hk=>hh.apart k x (hsub k x hk),hh.old⟩
 have hal:∀(i:Nat) zs,L[i]? = some zs→zs.length=sz:=fun i zs ha=>by
  have hi:i<xs.length:=by rw [←hL]; exact (List.getElem?_eq_some_iff.1 ha).1
  rw [(hl i zs xs[i] ha (List.getElem?_eq_getElem hi)).1,Gu,List.length_map]
  exact hsz _ (List.getElem_mem hi)
 have hal':∀zs∈L,zs.length=sz:=fun zs ha=>by
  obtain ⟨i,hi,rfl⟩:=List.getElem_of_mem ha
  exact hal i _ (List.getElem?_eq_getElem hi)
 have key:BR P (fun k=>F k∨Fx Hr k) w b (.row e sz cap xs):=by
  refine ⟨cur,g1,by rw [←g2.1]; exact hcap,hle,hm,h0,hsz,fun i j el c u e1 e2 e3=>?_,g3⟩
  have hi:i<L.length:=by rw [hL]; exact (List.getElem?_eq_some_iff.1 e1).1
  have ha:L[i]? = some L[i]:=List.getElem?_eq_getElem hi
  have hj:j<sz:=by
   have h1:=(List.getElem?_eq_some_iff.1 e2).1
   rw [hsz el (List.mem_of_getElem? e1)] at h1
   exact h1
  have hj':j<(L[i]).length:=by rw [hal i _ ha]; exact hj
  have hv:VR P F w (L[i])[j] u:=by
   refine g2.2 (i*sz+j) _ u ?_ e3
   have hlt:i*sz+j<L.flatten.length:=by
    rw [FX hal']
    have:(i+1)*sz≤L.length*sz:=Nat.mul_le_mul_right _ hi
    rw [Nat.add_mul] at this; omega
   rw [List.getElem?_append_left hlt,IS hal' ha hj]
   exact List.getElem?_eq_getElem hj'
  have hle:=(hl i _ el ha e1).2 j _ (.d c) (List.getElem?_eq_getElem hj') (by rw [Gu,List.getElem?_map,e2]; rfl)
  have:=hle.sound hrel hv
  cases this with
  | d _ _ h=>exact h
 refine ⟨fun k=>F k∨Fx Hr k,⟨fun k x hk=>?_,fun k x hk hf=>?_,fun k hk=>?_⟩,⟨rfl,rfl,rfl,Nat.le_refl _,fun _ _ _=>rfl,fun k hk=>?_,fun _ h=>.inl h,fun k hk=>?_⟩⟩
 ·rw [G0] at hk
  split at hk
  ·next e=>cases hk; subst e; exact key
  ·split at hk
   ·exact (hh.at_ k x hk).mono rfl (fun _ h=>.inl h) (fun _ _=>rfl)
   ·cases hk
 ·rw [G0] at hk
  split at hk
  ·next e =>
   subst e
   rcases hf with hf | ⟨t,s,c,y,e⟩
   ·exact hh.apart _ _ hb hf
   ·rw [hrb] at e; cases e
  ·split at hk
   ·next e =>
    rcases hf with hf | ⟨t,s,c,y,e'⟩
    ·exact hh.apart k x hk hf
    ·rw [e] at e'; cases e'
   ·cases hk
 ·rcases hk with hk | ⟨t,s,c,y,e⟩
  ·exact hh.old k hk
  ·exact (hh.at_ k _ (hsub k _ e)).lt
 ·rw [G0] at hk
  split at hk
  ·next e=>subst e; exact .inl (by rw [hb]; simp)
  ·split at hk
   ·exact .inl hk
   ·exact absurd rfl hk
 ·rcases hk with hk | ⟨t,s,c,y,e⟩
  ·exact .inl hk
  ·exact .inr (.inl (by rw [hsub k _ e]; simp))
theorem U9 {l:List AV} {i:Nat} {x:AV} (h:l[i]? = some x):nth l i=x:=by
 have hi:=(List.getElem?_eq_some_iff.1 h).1
 have:=JB l i hi
 rw [h] at this
 exact (Option.some.inj this).symm
theorem U6 {sz i j:Nat} {L:List (List AV)} {pad zs:List AV} (hal:∀zs∈L,zs.length=sz) (ha:L[i]? = some zs) (hj:j<sz):nth (L.flatten++pad) (i*sz+j)=nth zs j:=by
 have hi:=(List.getElem?_eq_some_iff.1 ha).1
 have hs:zs.length=sz:=hal zs (List.mem_of_getElem? ha)
 refine U9 ?_
 have hlt:i*sz+j<L.flatten.length:=by
  rw [FX hal]
  have:(i+1)*sz≤L.length*sz:=Nat.mul_le_mul_right _ hi
  rw [Nat.add_mul] at this; omega
 rw [List.getElem?_append_left hlt,IS hal ha hj]
 exact JB zs j (by omega)
theorem JN:∀(cs:List AV) (k:Nat) (ns:List AV),(setSeg cs k ns).length=cs.length
 | [],_,_=>by simp [setSeg]
 | c::cs,0,[]=>by simp [setSeg]
 | c::cs,0,n::ns=>by simp [setSeg,JN cs 0 ns]
 | c::cs,k+1,ns=>by simp [setSeg,JN cs k ns]
theorem L7:∀(A B:List AV) (k:Nat) (ns:List AV),setSeg (A++B) (A.length+k) ns=A++setSeg B k ns
 | [],B,k,ns=>by simp
 | a::A,B,k,ns=>by
  rw [List.cons_append,show (a::A).length+k=(A.length+k)+1 by rw [List.length_cons]; omega]
  simp -implicitDefEqProofs only [setSeg,List.cons_append,L7 A B k ns]
theorem Kp:∀(A B:List AV) (k:Nat) (n:AV),k<A.length→setSeg (A++B) k [n]=setSeg A k [n]++B
 | [],B,k,n,h=>by simp at h
 | a::A,B,0,n,h=>by cases A <;> cases B <;> simp [setSeg]
 | a::A,B,k+1,n,h=>by simp -implicitDefEqProofs only [List.cons_append,setSeg,Kp A B k n (by simpa using h)]
theorem Lv {sz j:Nat}:∀{L:List (List AV)} {i:Nat} {pad zs:List AV} {n:AV},(∀zs∈L,zs.length=sz)→L[i]? = some zs→j<sz→setSeg (L.flatten++pad) (i*sz+j) [n]=(L.set i (setSeg zs j [n])).flatten++pad
 | [],i,pad,zs,n,_,h,_=>by simp at h
 | x::L,0,pad,zs,n,hs,h,hj=>by
  simp -implicitDefEqProofs only [List.getElem?_cons_zero,Option.some.injEq] at h
  subst h
  rw [Nat.zero_mul,Nat.zero_add,List.flatten_cons,List.append_assoc,Kp _ _ _ _ (by rw [hs x (by simp)]; exact hj)]
  simp
 | x::L,i+1,pad,zs,n,hs,h,hj=>by
  have hx:=hs x (by simp)
  rw [List.flatten_cons,List.append_assoc,show (i+1)*sz+j=x.length+(i*sz+j) by rw [hx,Nat.add_mul]; omega,L7,Lv (fun zs ha=>hs zs (by simp [ha])) (by simpa using h) hj]
  simp
def EY (r:AV) (sz n:Nat):Prop:=(n=0∧∃q,r = .nilsl q)∨∃b cap,r = .own b sz 0 n cap
def AN (e:TypeId) (r:AV) (xs:List (List D)):List (Nat×Blk):=match r with
 | .own b sz _ _ cap=>[(b,.row e sz cap xs)]
 | _=>[]
theorem Gr {e:TypeId} {b sz off n cap:Nat} {xs:List (List D)}:AN e (.own b sz off n cap) xs=[(b,.row e sz cap xs)]:=rfl
theorem MJ {e:TypeId} {q:Nat} {xs:List (List D)}:AN e (.nilsl q) xs=[]:=rfl
theorem Gz {r:AV} {sz n:Nat} (h:EY r sz n):F5 r=some (i64 n):=by
 rcases h with ⟨rfl,q,rfl⟩ | ⟨b,cap,rfl⟩ <;> rfl
theorem GC {r:AV} {sz n:Nat} (h:EY r sz n):EM 1 r=true:=by
 rcases h with ⟨rfl,q,rfl⟩ | ⟨b,cap,rfl⟩ <;> rfl
theorem GA {r:AV} {sz n:Nat} (h:EY r sz n):EO r=[r]:=by
 rcases h with ⟨rfl,q,rfl⟩ | ⟨b,cap,rfl⟩ <;> rfl
theorem G4 {r:AV} {sz n:Nat} (h:EY r sz n) (hn:0<n):∃b cap,r = .own b sz 0 n cap:=by
 rcases h with ⟨rfl,q,rfl⟩ | h
 ·omega
 ·exact h
theorem MP {e e':TypeId} {r:AV} {xs ys:List (List D)}:AQ (AN e r xs)=AQ (AN e' r ys):=by cases r <;> rfl
theorem Hv {H:Heap} {e:TypeId} {r:AV} {sz:Nat} {xs:List (List D)} (h:EY r sz xs.length) (ha:AX H (AN e r xs)):LendV H r (.d (.sl sz xs)):=by
 rcases h with ⟨h0,q,rfl⟩ | ⟨b,cap,rfl⟩
 ·rw [List.eq_nil_of_length_eq_zero h0]; exact .nilsl _ _
 ·exact .own b sz cap e cap xs ha.1
theorem KR {P:Program} {f:FuncId} {args args':List AV} {e:TypeId} {sz:Nat} {xs:List (List D)} {H:Heap} {K:AV→Heap→Prop} (h:GN P f args' e sz xs) (hl:LendL Heap.none args args')
  (hk:∀r H',EY r sz xs.length→AX H' (AN e r xs)→(∀l,AX H l→AX H' l)→(∀l,AX H l→(AQ l).Nodup→(AQ (AN e r xs++l)).Nodup)→K r H'):NCallK P f args H K:=by
 refine ⟨args',e,sz,xs,hl,h,fun h0 n=>?_,fun b cap hb=>?_⟩
 ·exact hk _ _ (.inl ⟨by rw [h0]; rfl,n,rfl⟩) trivial (fun _ h=>h) (fun _ _ h=>h)
 ·exact hk _ _ (.inr ⟨b,cap,rfl⟩) ⟨EN,trivial⟩ (fun l h=>E5 hb h) (fun l h hn=>Fb (x:=.row e sz cap xs) hb h hn)
theorem JS {P:Program} {Q:Out→St→Prop} {k:List Item} {s:St} {d:Option Nat} {l:List AO} {f:FuncId} {args args':List AV} {e:TypeId} {sz:Nat} {xs:List (List D)} (h:GN P f args' e sz xs) (hl:LendL Heap.none args args')
  (hk:∀r H',EY r sz xs.length→AX H' (AN e r xs)→(∀l,AX s.H l→AX H' l)→(∀l,AX s.H l→(AQ l).Nodup→(AQ (AN e r xs++l)).Nodup)→AF P Q l k (AD s d r H')):Kk f args d l k s P Q :=
 KR (K:=fun v H'=>AF P Q l k (AD s d v H')) h hl hk
theorem K9 {P:Program} {Q:Out→St→Prop} {k:List Item} {s:St} {d:Option Nat} {l:List AO} {f:FuncId} {args args':List AV} {e:TypeId} {sz:Nat} {xs:List (List D)} (h:GN P f args' e sz xs) (hl:LendL Heap.none args args')
  (hk:∀r H',EY r sz xs.length→AX H' (AN e r xs)→(∀l,AX s.H l→AX H' l)→(∀l,AX s.H l→(AQ l).Nodup→(AQ (AN e r xs++l)).Nodup)→AF P Q l k (AD s d r H')):F4 P Q f args d l k s :=
 NCallK.call (KR (K:=fun v H'=>AF P Q l k (AD s d v H')) h hl hk)
def Ec {α:Type} (f : α→α) (i:Nat) (l:List α):List α:=(l.take i).map f++l.drop i
theorem MH {α:Type} {f : α→α} {l:List α}:Ec f 0 l=l:=by simp [Ec]
theorem KT {α:Type} {f : α→α} {l:List α}:Ec f l.length l=l.map f:=by simp [Ec]
theorem MK {α:Type} {f : α→α} {i:Nat} {l:List α} (h:i<l.length):(Ec f i l)[i]? = some l[i]:=by
 have e:((l.take i).map f).length=i:=by rw [List.length_map,List.length_take]; omega
 rw [Ec,List.getElem?_append_right (by omega),e,Nat.sub_self,List.getElem?_drop,Nat.add_zero,List.getElem?_eq_getElem h]
theorem KO {α:Type} {f : α→α} {i:Nat} {l:List α} (h:i<l.length):(Ec f i l).set i (f l[i])=Ec f (i+1) l:=by
 have e:((l.take i).map f).length=i:=by rw [List.length_map,List.length_take]; omega
 rw [Ec,Ec,List.set_append_right _ _ (by omega),e,Nat.sub_self,List.drop_eq_getElem_cons h,List.set_cons_zero,List.take_succ_eq_append_getElem h,List.map_append,List.append_assoc]
 rfl
theorem Uo {xs:List (List D)} (hl:xs.length≤1000000):GN Try.prog Ul [.d (.sl 5 xs)] 34 5 xs:=by
 refine D9 Uz (by simp) ?_
 simp -implicitDefEqProofs -proj only [go_sem,seval]
 refine Ht ?_ (fun h0=>?_)
 ·simp -implicitDefEqProofs -proj only [go_sem,seval]
  refine FE (fun bs hs=>?_)
  simp -implicitDefEqProofs -proj only [go_sem,seval]
  refine G5 (xs:=[]) (ys:=xs) (cap:=0) (e:=34) (fun K=>rfl) (by simp -implicitDefEqProofs -proj only [go_sem,seval]) rfl rfl (by simp [maxLen]; omega) (fun b' cap' H' h1 h2=>?_)
  simp -implicitDefEqProofs -proj only [go_sem,seval]
  rw [List.nil_append] at h1
  exact .inr ⟨b',cap',rfl,h1⟩
 ·simp -implicitDefEqProofs -proj only [go_sem,seval]
  exact .inl ⟨h0,0,rfl⟩
theorem Pb {xs:List (List D)} (hl:xs.length≤1000000):GN Try.prog OQ [.d (.sl 10 xs)] 51 10 xs:=by
 refine D9 OG (by simp) ?_
 simp -implicitDefEqProofs -proj only [go_sem,seval]
 refine Ht ?_ (fun h0=>?_)
 ·simp -implicitDefEqProofs -proj only [go_sem,seval]
  refine FE (fun bs hs=>?_)
  simp -implicitDefEqProofs -proj only [go_sem,seval]
  refine G5 (xs:=[]) (ys:=xs) (cap:=0) (e:=51) (fun K=>rfl) (by simp -implicitDefEqProofs -proj only [go_sem,seval]) rfl rfl (by simp [maxLen]; omega) (fun b' cap' H' h1 h2=>?_)
  simp -implicitDefEqProofs -proj only [go_sem,seval]
  rw [List.nil_append] at h1
  exact .inr ⟨b',cap',rfl,h1⟩
 ·simp -implicitDefEqProofs -proj only [go_sem,seval]
  exact .inl ⟨h0,0,rfl⟩
theorem T2 {xs:List (List D)} (hl:xs.length≤1000000):GN Try.prog Q2 [.d (.sl 16 xs)] 55 16 xs:=by
 refine D9 NY (by simp) ?_
 simp -implicitDefEqProofs -proj only [go_sem,seval]
 refine Ht ?_ (fun h0=>?_)
 ·simp -implicitDefEqProofs -proj only [go_sem,seval]
  refine FE (fun bs hs=>?_)
  simp -implicitDefEqProofs -proj only [go_sem,seval]
  refine G5 (xs:=[]) (ys:=xs) (cap:=0) (e:=55) (fun K=>rfl) (by simp -implicitDefEqProofs -proj only [go_sem,seval]) rfl rfl (by simp [maxLen]; omega) (fun b' cap' H' h1 h2=>?_)
  simp -implicitDefEqProofs -proj only [go_sem,seval]
  rw [List.nil_append] at h1
  exact .inr ⟨b',cap',rfl,h1⟩
 ·simp -implicitDefEqProofs -proj only [go_sem,seval]
  exact .inl ⟨h0,0,rfl⟩
theorem Q1 {xs:List (List D)} (hl:xs.length≤1000000):GN Try.prog Tg [.d (.sl 2 xs)] 58 2 xs:=by
 refine D9 Os (by simp) ?_
 simp -implicitDefEqProofs -proj only [go_sem,seval]
 refine Ht ?_ (fun h0=>?_)
 ·simp -implicitDefEqProofs -proj only [go_sem,seval]
  refine FE (fun bs hs=>?_)
  simp -implicitDefEqProofs -proj only [go_sem,seval]
  refine G5 (xs:=[]) (ys:=xs) (cap:=0) (e:=58) (fun K=>rfl) (by simp -implicitDefEqProofs -proj only [go_sem,seval]) rfl rfl (by simp [maxLen]; omega) (fun b' cap' H' h1 h2=>?_)
  simp -implicitDefEqProofs -proj only [go_sem,seval]
  rw [List.nil_append] at h1
  exact .inr ⟨b',cap',rfl,h1⟩
 ·simp -implicitDefEqProofs -proj only [go_sem,seval]
  exact .inl ⟨h0,0,rfl⟩
theorem Td {xs:List (List D)} (hl:xs.length≤1000000):GN Try.prog Sr [.d (.sl 3 xs)] 60 3 xs:=by
 refine D9 UK (by simp) ?_
 simp -implicitDefEqProofs -proj only [go_sem,seval]
 refine Ht ?_ (fun h0=>?_)
 ·simp -implicitDefEqProofs -proj only [go_sem,seval]
  refine FE (fun bs hs=>?_)
  simp -implicitDefEqProofs -proj only [go_sem,seval]
  refine G5 (xs:=[]) (ys:=xs) (cap:=0) (e:=60) (fun K=>rfl) (by simp -implicitDefEqProofs -proj only [go_sem,seval]) rfl rfl (by simp [maxLen]; omega) (fun b' cap' H' h1 h2=>?_)
  simp -implicitDefEqProofs -proj only [go_sem,seval]
  rw [List.nil_append] at h1
  exact .inr ⟨b',cap',rfl,h1⟩
 ·simp -implicitDefEqProofs -proj only [go_sem,seval]
  exact .inl ⟨h0,0,rfl⟩
def MeterX.pl (m:MeterX):MeterX:=⟨m.nm,m.un,m.mx,0,0⟩
def FeeX.pl (x:FeeX):FeeX:=⟨x.am,x.w,0,0⟩
def ChX.pl (x:ChX):ChX:=⟨x.me,x.w,x.al,x.bl,x.ki,x.ts,x.mo,x.ad,0,0⟩
def PlanX.pl (p:PlanX):PlanX:=⟨p.nm,p.cu,p.f,p.t,p.ms.map MeterX.pl,p.fs.map FeeX.pl,p.cs.map ChX.pl,0,0⟩
abbrev GP (x:ChX) (t a:AV) (ln co:Int):List AV:=[.d (.str x.me),bv x.w.has,i64 x.w.f.y,i64 x.w.f.m,i64 x.w.f.d,i64 x.w.t.y,i64 x.w.t.m,i64 x.w.t.d,i64 x.al,i64 x.bl,i64 x.ki,t,i64 x.mo,a,i64 ln,i64 co]
structure PlanX.Sm (p:PlanX):Prop where
 m:p.ms.length≤1000000
 f:p.fs.length≤1000000
 c:p.cs.length≤1000000
 ta:∀x∈p.cs,x.ts.length≤1000000∧x.ad.length≤1000000
abbrev GV:List AV:=[.d (.str ⟨⟨[]⟩⟩),.d (.str ⟨⟨[]⟩⟩),i64 0,i64 0,i64 0,i64 0,i64 0,i64 0,.nilsl 5,.nilsl 10,.nilsl 16,i64 0,i64 0]
abbrev Et (b1 b2:Nat) (p:PlanX) (m f c:AV) (M:List MeterX) (F:List FeeX):List (Nat×Blk) :=
 AN 55 c (AY p.cs)++(AN 51 f (EC F)++(AN 34 m (EB M)++[(b2,.box 28 GV),(b1,.box 28 (Ad p.nm p.cu p.f p.t m f c 0 0))]))
theorem FG {H:Heap} {A B:List (Nat×Blk)} {b:Nat} {x y:Blk} (h:AX H (A++(b,x)::B)) (hn:(AQ (A++(b,x)::B)).Nodup):AX (AG H b (some y)) (A++(b,y)::B):=by
 rw [Ac] at h ⊢
 simp -implicitDefEqProofs only [AQ,List.map_append,List.map_cons,List.nodup_append,List.nodup_cons] at hn
 obtain ⟨_,⟨h2,_⟩,h3⟩:=hn
 refine ⟨ER.2 fun q hq=>?_,EN,ER.2 fun q hq=>?_⟩
 ·rw [FR (fun e=>h3 q.1 (List.mem_map.2 ⟨q,hq,rfl⟩) b (by simp) e.symm)]
  exact ER.1 h.1 q hq
 ·rw [FR (fun e=>h2 (by rw [e]; exact List.mem_map.2 ⟨q,hq,rfl⟩))]
  exact ER.1 h.2.2 q hq
theorem TL {H:Heap} {A:List (Nat×Blk)} {b:Nat} {x y:Blk} (h:AX H (A++[(b,x)])) (hn:(AQ (A++[(b,x)])).Nodup):AX (AG H b (some y)) (A++[(b,y)]):=FG h hn
theorem LQ {b1 b2:Nat} {p:PlanX} {m f c:AV} {M M':List MeterX} {F F':List FeeX}:AQ (Et b1 b2 p m f c M F)=AQ (Et b1 b2 p m f c M' F'):=by
 simp -implicitDefEqProofs only [AQ,List.map_append]
 have e1:=MP (e:=51) (e':=51) (r:=f) (xs:=EC F) (ys:=EC F')
 have e2:=MP (e:=34) (e':=34) (r:=m) (xs:=EB M) (ys:=EB M')
 simp -implicitDefEqProofs only [AQ] at e1 e2
 rw [e1,e2]
theorem RY {H:Heap} {b1 b2 bm off n capm:Nat} {p:PlanX} {f c:AV} {M M':List MeterX} {F:List FeeX} (h:AX H (Et b1 b2 p (.own bm 5 off n capm) f c M F)) (hn:(AQ (Et b1 b2 p (.own bm 5 off n capm) f c M F)).Nodup):AX (AG H bm (some (.row 34 5 capm (EB M')))) (Et b1 b2 p (.own bm 5 off n capm) f c M' F):=by
 simp -implicitDefEqProofs only [Et,Gr,←List.append_assoc] at h hn ⊢
 simp -implicitDefEqProofs only [List.append_assoc,List.cons_append,List.nil_append] at h hn ⊢
 rw [←List.append_assoc] at h hn ⊢
 exact FG h hn
theorem Ug {H:Heap} {b1 b2 bm off n capm:Nat} {p:PlanX} {m c:AV} {M:List MeterX} {F F':List FeeX} (h:AX H (Et b1 b2 p m (.own bm 10 off n capm) c M F)) (hn:(AQ (Et b1 b2 p m (.own bm 10 off n capm) c M F)).Nodup):AX (AG H bm (some (.row 51 10 capm (EC F')))) (Et b1 b2 p m (.own bm 10 off n capm) c M F'):=by
 simp -implicitDefEqProofs only [Et,Gr,List.cons_append,List.nil_append] at h hn ⊢
 exact FG h hn
theorem Nd {ms:List MeterX} {i:Nat} (h:i<ms.length):(EB (Ec MeterX.pl i ms))[i]? = some (ms[i]).el:=by
 rw [EB,List.getElem?_map,MK h]; rfl
theorem SM {ms:List MeterX} {i:Nat} (h:i<ms.length):(EB (Ec MeterX.pl i ms)).set i ((ms[i]).pl).el=EB (Ec MeterX.pl (i+1) ms):=by
 rw [←KO h,EB,EB,List.map_set]
theorem Qm {ms:List FeeX} {i:Nat} (h:i<ms.length):(EC (Ec FeeX.pl i ms))[i]? = some (ms[i]).el:=by
 rw [EC,List.getElem?_map,MK h]; rfl
theorem Rw {ms:List FeeX} {i:Nat} (h:i<ms.length):(EC (Ec FeeX.pl i ms)).set i ((ms[i]).pl).el=EC (Ec FeeX.pl (i+1) ms):=by
 rw [←KO h,EC,EC,List.map_set]
def Ei:List ChX→List (AV×AV)→List (List AV)
 | [],_=>[]
 | x::cs,q::P=>GP x q.1 q.2 0 0::Ei cs P
 | x::cs,[]=>GP x (.d (.sl 2 (D7 x.ts))) (.d (.sl 3 (D8 x.ad))) x.ln x.co::Ei cs []
def EJ:List ChX→List (AV×AV)→List (Nat×Blk)
 | x::cs,q::P=>(AN 58 q.1 (D7 x.ts)++AN 60 q.2 (D8 x.ad))++EJ cs P
 | _,_=>[]
def FJ:List ChX→List (AV×AV)→Prop
 | x::cs,q::P=>EY q.1 2 x.ts.length∧EY q.2 3 x.ad.length∧FJ cs P
 | _,[]=>True
 | [],_=>False
theorem G8:∀{cs:List ChX} {P:List (AV×AV)},(Ei cs P).length=cs.length
 | [],_=>rfl
 | x::cs,q::P=>by simp [Ei,G8 (cs:=cs) (P:=P)]
 | x::cs,[]=>by simp [Ei,G8 (cs:=cs) (P:=[])]
theorem HJ:∀{cs:List ChX} {P:List (AV×AV)},∀u∈Ei cs P,u.length=16
 | [],_,_,h=>by simp [Ei] at h
 | x::cs,q::P,u,h=>by
  rcases List.mem_cons.1 h with rfl | h
  ·rfl
  ·exact HJ u h
 | x::cs,[],u,h=>by
  rcases List.mem_cons.1 h with rfl | h
  ·rfl
  ·exact HJ u h
theorem I6 {cs:List ChX}:EJ cs []=[]:=by cases cs <;> rfl
theorem Ly {cs:List ChX}:FJ cs []:=by cases cs <;> trivial
theorem LF:∀{cs:List ChX} {P:List (AV×AV)} (h:P.length<cs.length),(Ei cs P)[P.length]? = some (GP cs[P.length] (.d (.sl 2 (D7 cs[P.length].ts))) (.d (.sl 3 (D8 cs[P.length].ad))) cs[P.length].ln cs[P.length].co)
 | x::cs,[],_=>rfl
 | x::cs,q::P,h=>by
  have h':P.length<cs.length:=by simpa using h
  simpa [Ei] using LF h'
theorem KZ:∀{cs:List ChX} {P:List (AV×AV)} (h:P.length<cs.length) (q:AV×AV),(Ei cs P).set P.length (GP cs[P.length] q.1 q.2 0 0)=Ei cs (P++[q])
 | x::cs,[],_,q=>rfl
 | x::cs,r::P,h,q=>by
  have h':P.length<cs.length:=by simpa using h
  simpa [Ei] using KZ h' q
theorem Mc:∀{cs:List ChX} {P:List (AV×AV)} (h:P.length<cs.length) (q:AV×AV),EJ cs (P++[q])=EJ cs P++(AN 58 q.1 (D7 cs[P.length].ts)++AN 60 q.2 (D8 cs[P.length].ad))
 | x::cs,[],_,q=>by cases cs <;> simp [EJ]
 | x::cs,r::P,h,q=>by
  have h':P.length<cs.length:=by simpa using h
  simp [EJ,Mc h' q]
theorem MV:∀{cs:List ChX} {P:List (AV×AV)} (h:P.length<cs.length) {q:AV×AV},FJ cs P→EY q.1 2 cs[P.length].ts.length→EY q.2 3 cs[P.length].ad.length→FJ cs (P++[q])
 | x::cs,[],_,q,_,h1,h2=>⟨h1,h2,by cases cs <;> trivial⟩
 | x::cs,r::P,h,q,h0,h1,h2=>⟨h0.1,h0.2.1,MV (by simpa using h) h0.2.2 h1 h2⟩
theorem PI {cs:List ChX}:(AY cs).map mapD=Ei cs []:=by
 induction cs with
 | nil=>rfl
 | cons x cs ih =>
  simp -implicitDefEqProofs only [AY,List.map_cons,Ei] at ih ⊢
  rw [ih]; rfl
abbrev IW (b1 b2:Nat) (p:PlanX) (m f c:AV):List (Nat×Blk) :=
 AN 51 f (EC (p.fs.map FeeX.pl))++(AN 34 m (EB (p.ms.map MeterX.pl))++[(b2,.box 28 GV),(b1,.box 28 (Ad p.nm p.cu p.f p.t m f c 0 0))])
abbrev GD (b1 b2 cc:Nat) (p:PlanX) (m f c:AV) (P:List (AV×AV)) (pad:List AV):List (Nat×Blk) :=
 EJ p.cs P++((cc,.box 55 ((Ei p.cs P).flatten++pad))::IW b1 b2 p m f c)
theorem G9 {P:Program} {Q:Out→St→Prop} {k:List Item} {s:St} {d:Option Nat} {l:List AO} {v:AV} {cc i j:Nat} {T:TypeId} {L:List (List AV)} {pad seg seg':List AV} (hb:s.H cc=some (.box T (L.flatten++pad))) (hal:∀u∈L,u.length=16) (hg:L[i]? = some seg) (hj:j<16) (hv:EO v=[v]) (hs:setSeg seg j [v]=seg')
  (hk:∀L',L'[i]? = some seg'→(∀u∈L',u.length=16)→L'=L.set i seg'→AF P Q l k (AD s d .void (AG s.H cc (some (.box T (L'.flatten++pad)))))):Gm 1 v cc 16 i j d l k s P Q:=by
 have hi:=(List.getElem?_eq_some_iff.1 hg).1
 have hsl:seg.length=16:=hal seg (List.mem_of_getElem? hg)
 refine Tu hb ?_ ?_
 ·rw [FU,List.length_append,FX hal]
  have:(i+1)*16≤L.length*16:=Nat.mul_le_mul_right _ hi
  omega
 ·rw [hv,Lv hal hg hj,hs]
  refine hk _ (by simp [hi]) (fun u hu=>?_) rfl
  rcases List.mem_or_eq_of_mem_set hu with h | rfl
  ·exact hal u h
  ·rw [←hs,JN,hsl]
theorem Ix {P:Program} {Q:Out→St→Prop} {k:List Item} {s:St} {d:Option Nat} {l:List AO} {i j:Nat} {T:TypeId} {L:List (List AV)} {pad seg:List AV} (hal:∀u∈L,u.length=16) (hg:L[i]? = some seg) (hj:j<16) (hk:AF P Q l k (AD s d (nth seg j) s.H)):G7 none (some (.box T (L.flatten++pad))) 16 i j d l k s P Q:=by
 have hi:=(List.getElem?_eq_some_iff.1 hg).1
 refine Vc ?_ ?_
 ·rw [FU,List.length_append,FX hal]
  have:(i+1)*16≤L.length*16:=Nat.mul_le_mul_right _ hi
  omega
 ·rw [U6 hal hg hj]; exact hk
theorem Tt {α:Type} {a t i r:List α}:(a++(t++(i++r))).Perm ((i++(t++a))++r):=by
 rw [←List.append_assoc,←List.append_assoc]
 exact (List.perm_append_comm.trans (List.perm_append_comm.append_left i)).append_right r
theorem Kh {H:Heap} {A:List (Nat×Blk)} {b1 b2:Nat} {x y:Blk} {z:Option Blk} (h:AX H (A++[(b2,x),(b1,y)])) (hn:(AQ (A++[(b2,x),(b1,y)])).Nodup):AX (AG H b2 z) A∧(AQ A).Nodup:=by
 rw [Ac] at h
 simp -implicitDefEqProofs only [AQ,List.map_append] at hn ⊢
 have hn:=List.nodup_append.1 hn
 refine ⟨ER.2 fun q hq=>?_,hn.1⟩
 rw [FR (fun e=>hn.2.2 q.1 (List.mem_map.2 ⟨q,hq,rfl⟩) b2 (by simp) e.symm)]
 exact ER.1 h.1 q hq
def Ez (c:AV) (cells:List AV):List (Nat×Blk):=match c with
 | .own b _ _ _ _=>[(b,.box 55 cells)]
 | _=>[]
def JW (c:AV) (n:Nat) (cells:List AV):Prop:=(n=0∧∃q,c = .nilsl q)∨∃b cap,c = .own b 16 0 n cap∧cells.length=cap*16∧n≤cap∧cap≤maxLen
abbrev HH (p:PlanX) (m f c:AV) (P:List (AV×AV)) (pad:List AV):List (Nat×Blk) :=
 EJ p.cs P++(Ez c ((Ei p.cs P).flatten++pad)++(AN 51 f (EC (p.fs.map FeeX.pl))++AN 34 m (EB (p.ms.map MeterX.pl))))
structure DeepP (p:PlanX) (m f c:AV) (P:List (AV×AV)) (pad:List AV) (H':Heap):Prop where
 hm:EY m 5 p.ms.length
 hf:EY f 10 p.fs.length
 hc:JW c p.cs.length ((Ei p.cs P).flatten++pad)
 n:P.length=p.cs.length
 ok:FJ p.cs P
 all:AX H' (HH p m f c P pad)
 nd:(AQ (HH p m f c P pad)).Nodup
theorem Jd {p:PlanX} (hp:p.Sm):CallW Try.prog LS [Ev p] Heap.none fun r H'=>∃m f c P pad,r = .agg (Ad p.nm p.cu p.f p.t m f c 0 0)∧DeepP p m f c P pad H':=by
 refine D9 PC (by simp) ?_
 simp -implicitDefEqProofs -proj only [go_sem,seval]
 refine Av (fun b1 hb1=>?_)
 simp -implicitDefEqProofs -proj only [go_sem,seval]
 refine Av (fun b2 hb2=>?_)
 replace hb2:AG Heap.none b1 (some (.box 28 p.cells)) b2=none:=hb2
 obtain ⟨n1,n2⟩:=EZ hb2 EN
 simp -implicitDefEqProofs -proj only [go_sem,seval,n1,n2]
 have z1:=hp.m
 have z2:=hp.f
 have z3:=hp.c
 refine JS (Uo (by rw [FN]; exact z1)) (LendL.refl _) (fun m H1 hm r1 u1 w1=>?_)
 rw [FN] at hm
 have a1:=u1 [(b2,.box 28 GV),(b1,.box 28 (Ad p.nm p.cu p.f p.t (.d (.sl 5 (EB p.ms))) (.d (.sl 10 (EC p.fs))) (.d (.sl 16 (AY p.cs))) 0 0))] ⟨(FR n2).trans EN,EN,trivial⟩
 have k1:=w1 [(b2,.box 28 GV),(b1,.box 28 (Ad p.nm p.cu p.f p.t (.d (.sl 5 (EB p.ms))) (.d (.sl 10 (EC p.fs))) (.d (.sl 16 (AY p.cs))) 0 0))] ⟨(FR n2).trans EN,EN,trivial⟩ (by simp [AQ]; exact n1)
 have a1:=Ac.2 ⟨r1,a1⟩
 clear u1 w1 r1
 simp -implicitDefEqProofs -proj only [go_sem,seval]
 refine JS (Pb (by rw [FI]; exact z2)) (LendL.refl _) (fun f H2 hf r2 u2 w2=>?_)
 rw [FI] at hf
 have a2:=Ac.2 ⟨r2,u2 _ a1⟩
 have k2:=w2 _ a1 k1
 clear u2 w2 r2 a1 k1
 simp -implicitDefEqProofs -proj only [go_sem,seval]
 refine K9 (T2 (by rw [Eq]; exact z3)) (LendL.refl _) (fun c H3 hc r3 u3 w3=>?_)
 rw [Eq] at hc
 have a3:=Ac.2 ⟨r3,u3 _ a2⟩
 have k3:=w3 _ a2 k2
 clear u3 w3 r3 a2 k2
 have g1:H3 b1=some (.box 28 (Ad p.nm p.cu p.f p.t (.d (.sl 5 (EB p.ms))) (.d (.sl 10 (EC p.fs))) (.d (.sl 16 (AY p.cs))) 0 0)):=(Ac.1 (Ac.1 (Ac.1 a3).2).2).2.2.1
 simp -implicitDefEqProofs -proj only [go_sem,seval,g1,GC hm,GA hm,GC hf,GA hf,GC hc,GA hc,Gz hm]
 have e1:∀x y:Blk,AN 55 c (AY p.cs)++(AN 51 f (EC p.fs)++(AN 34 m (EB p.ms)++[(b2,x),(b1,y)]))=(AN 55 c (AY p.cs)++(AN 51 f (EC p.fs)++(AN 34 m (EB p.ms)++[(b2,x)])))++[(b1,y)]:=fun x y=>by simp -implicitDefEqProofs only [List.append_assoc,List.cons_append,List.nil_append]
 rw [e1] at a3 k3
 have a4:=TL (y:=.box 28 (Ad p.nm p.cu p.f p.t m f c 0 0)) a3 k3
 have k4:(AQ (Et b1 b2 p m f c p.ms p.fs)).Nodup:=by
  simp -implicitDefEqProofs only [AQ,List.map_append,List.map_cons,List.map_nil] at k3 ⊢
  simpa using k3
 rw [←e1] at a4
 clear e1 a3 k3 g1 n1 n2 hb1 hb2
 refine Ex (fun i:Nat=>i≤p.ms.length) 89 (fun i=>[(1,.ptr b1 0),(2,.ptr b2 0),(23,i64 p.ms.length),(24,i64 i)]) (fun i=>Et b1 b2 p m f c (Ec MeterX.pl i p.ms) p.fs) (fun i=>p.ms.length-i) 0 (Nat.zero_le _) rfl ?_ ?_ ?_
 ·simp -implicitDefEqProofs -proj only [go_sem,seval,EP]
 ·rw [MH]; exact a4
 clear a4
 intro i hi
 have kn:(AQ (Et b1 b2 p m f c (Ec MeterX.pl i p.ms) p.fs)).Nodup:=by rw [LQ]; exact k4
 have hall:=FY kn
 obtain ⟨H,hH⟩:∃H,EX (Et b1 b2 p m f c (Ec MeterX.pl i p.ms) p.fs)=H:=⟨_,rfl⟩
 rw [hH] at hall
 have g1:H b1=some (.box 28 (Ad p.nm p.cu p.f p.t m f c 0 0)):=(Ac.1 (Ac.1 (Ac.1 hall).2).2).2.2.1
 by_cases h:i<p.ms.length
 ·obtain ⟨bm,capm,rfl⟩:=G4 hm (by omega)
  have q1:=Nd h
  have q2:=SM h
  have gm:H bm=some (.row 34 5 capm (EB (Ec MeterX.pl i p.ms))):=(Ac.1 (Ac.1 (Ac.1 hall).2).2).1.1
  generalize p.ms[i]=x at *
  obtain ⟨R,hR⟩:∃R,EB (Ec MeterX.pl i p.ms)=R:=⟨_,rfl⟩
  rw [hR] at gm q1 q2
  have nm1:¬bm=b1:=fun e=>by rw [e,g1] at gm; cases gm
  simp -implicitDefEqProofs -proj only [go_sem,seval,hH,g1,decide_eq_true (show (i:Int)<p.ms.length by omega)]
  refine En (by omega) (fun _=>?_)
  refine MI gm (by simpa using q1) (by simp [MeterX.el]) ?_
  simp -implicitDefEqProofs -proj only [go_sem,seval]
  refine En (by omega) (fun _=>?_)
  have hl:i<R.length:=(List.getElem?_eq_some_iff.1 q1).1
  simp -implicitDefEqProofs only [Int.toNat_natCast]
  refine GO (cap:=capm) (t:=34) (xs:=R.set i [.str x.nm,.str x.un,.int .i64 x.mx,.int .i64 0,.int .i64 x.co]) (el:=[.str x.nm,.str x.un,.int .i64 x.mx,.int .i64 0,.int .i64 x.co]) EN (by simp [hl]) (by simp) ?_
  simp -implicitDefEqProofs -proj only [go_sem,seval,List.set_set]
  refine E3 (i+1) (by omega) (by omega) rfl ?_ ?_
  ·simp -implicitDefEqProofs -proj only [go_sem,seval,EP,F6 (show i<9223372036854775807 by omega)]
  ·have e:R.set i (Ed [.str x.nm,.str x.un,.int .i64 x.mx,.int .i64 0,.int .i64 x.co] 4 [.int .i64 0])=EB (Ec MeterX.pl (i+1) p.ms):=q2
   have hk:=RY (M':=Ec MeterX.pl (i+1) p.ms) hall kn
   rw [←e] at hk
   exact hk
 have hi':i=p.ms.length:=by omega
 subst hi'
 clear h hi k4
 simp -implicitDefEqProofs -proj only [go_sem,seval,hH,g1,Gz hf,decide_eq_false (show ¬(p.ms.length:Int)<p.ms.length by omega)]
 rw [KT] at hall kn
 clear hH g1
 refine Ex (fun i:Nat=>i≤p.fs.length) 89 (fun i=>[(1,.ptr b1 0),(2,.ptr b2 0),(40,i64 p.fs.length),(41,i64 i)]) (fun i=>Et b1 b2 p m f c (p.ms.map MeterX.pl) (Ec FeeX.pl i p.fs)) (fun i=>p.fs.length-i) 0 (Nat.zero_le _) rfl ?_ ?_ ?_
 ·simp -implicitDefEqProofs -proj only [go_sem,seval,EP]
 ·rw [MH]; exact hall
 clear hall H
 intro i hi
 have k4:=kn
 rw [LQ (M':=p.ms.map MeterX.pl) (F':=Ec FeeX.pl i p.fs)] at kn
 have hall:=FY kn
 obtain ⟨H,hH⟩:∃H,EX (Et b1 b2 p m f c (p.ms.map MeterX.pl) (Ec FeeX.pl i p.fs))=H:=⟨_,rfl⟩
 rw [hH] at hall
 have g1:H b1=some (.box 28 (Ad p.nm p.cu p.f p.t m f c 0 0)):=(Ac.1 (Ac.1 (Ac.1 hall).2).2).2.2.1
 by_cases h:i<p.fs.length
 ·obtain ⟨bm,capm,rfl⟩:=G4 hf (by omega)
  have q1:=Qm h
  have q2:=Rw h
  have gm:H bm=some (.row 51 10 capm (EC (Ec FeeX.pl i p.fs))):=(Ac.1 (Ac.1 hall).2).1.1
  generalize p.fs[i]=x at *
  obtain ⟨R,hR⟩:∃R,EC (Ec FeeX.pl i p.fs)=R:=⟨_,rfl⟩
  rw [hR] at gm q1 q2
  have nm1:¬bm=b1:=fun e=>by rw [e,g1] at gm; cases gm
  simp -implicitDefEqProofs -proj only [go_sem,seval,hH,g1,decide_eq_true (show (i:Int)<p.fs.length by omega)]
  refine En (by omega) (fun _=>?_)
  refine MI gm (by simpa using q1) (by simp) ?_
  simp -implicitDefEqProofs -proj only [go_sem,seval]
  refine En (by omega) (fun _=>?_)
  have hl:i<R.length:=(List.getElem?_eq_some_iff.1 q1).1
  simp -implicitDefEqProofs only [Int.toNat_natCast]
  refine GO (cap:=capm) (t:=51) (xs:=R.set i (FeeX.el ⟨x.am,x.w,0,x.co⟩)) (el:=FeeX.el ⟨x.am,x.w,0,x.co⟩) EN (by simp [hl]) (by simp) ?_
  simp -implicitDefEqProofs -proj only [go_sem,seval,List.set_set]
  refine E3 (i+1) (by omega) (by omega) rfl ?_ ?_
  ·simp -implicitDefEqProofs -proj only [go_sem,seval,EP,F6 (show i<9223372036854775807 by omega)]
  ·have e:R.set i (Ed (FeeX.el ⟨x.am,x.w,0,x.co⟩) 9 [.int .i64 0])=EC (Ec FeeX.pl (i+1) p.fs):=q2
   have hk:=Ug (F':=Ec FeeX.pl (i+1) p.fs) hall kn
   rw [←e] at hk
   exact hk
 have hi':i=p.fs.length:=by omega
 subst hi'
 clear h hi k4
 simp -implicitDefEqProofs -proj only [go_sem,seval,hH,g1,Gz hc,decide_eq_false (show ¬(p.fs.length:Int)<p.fs.length by omega)]
 rw [KT] at hall kn
 clear hH
 rcases hc with ⟨h0,qn,rfl⟩ | ⟨cc,capc,rfl⟩
 ·have h0':p.cs=[]:=List.eq_nil_of_length_eq_zero h0
  refine Ex (fun i:Nat=>i=0) 89 (fun i=>[(1,.ptr b1 0),(2,.ptr b2 0),(57,i64 0),(58,i64 0)]) (fun i=>Et b1 b2 p m f (.nilsl qn) (p.ms.map MeterX.pl) (p.fs.map FeeX.pl)) (fun i=>i) 0 rfl rfl ?_ hall ?_
  ·simp -implicitDefEqProofs -proj only [go_sem,seval,EP,h0]
  clear hall g1 H
  rintro i rfl
  have hall:=FY kn
  obtain ⟨H,hH⟩:∃H,EX (Et b1 b2 p m f (.nilsl qn) (p.ms.map MeterX.pl) (p.fs.map FeeX.pl))=H:=⟨_,rfl⟩
  rw [hH] at hall
  have g1:H b1=some (.box 28 (Ad p.nm p.cu p.f p.t m f (.nilsl qn) 0 0)):=(Ac.1 (Ac.1 (Ac.1 hall).2).2).2.2.1
  have g2:H b2=some (.box 28 GV):=(Ac.1 (Ac.1 (Ac.1 hall).2).2).2.1
  simp -implicitDefEqProofs -proj only [go_sem,seval,hH,g1,g2]
  have e6:Et b1 b2 p m f (.nilsl qn) (p.ms.map MeterX.pl) (p.fs.map FeeX.pl)=HH p m f (.nilsl qn) [] []++[(b2,.box 28 GV),(b1,.box 28 (Ad p.nm p.cu p.f p.t m f (.nilsl qn) 0 0))]:=by
   simp -implicitDefEqProofs only [Et,HH,I6,Ez,MJ,List.nil_append,List.append_assoc]
  rw [e6] at hall kn
  obtain ⟨e7,e8⟩:=Kh hall kn
  exact ⟨m,f,.nilsl qn,[],[],rfl,hm,hf,.inl ⟨h0,qn,rfl⟩,by rw [h0]; rfl,Ly,e7,e8⟩
 ·have gc:H cc=some (.row 55 16 capc (AY p.cs)):=(Ac.1 hall).1.1
  refine Mq gc (fun hcc=>?_)
  refine Redesc.loop (VL gc) ?_
  rw [Hf,PI,Eq]
  obtain ⟨pad,hpad⟩:∃pad,List.replicate (capc*16-p.cs.length*16) AV.undef=pad:=⟨_,rfl⟩
  rw [hpad]
  have hcs:((Ei p.cs []).flatten++pad).length=capc*16:=by
   have h1:p.cs.length*16≤capc*16:=Nat.mul_le_mul_right _ (by rw [Eq] at hcc; exact hcc.1)
   rw [List.length_append,FX HJ,G8,←hpad,List.length_replicate]; omega
  have a5:AX (AG H cc (some (.box 55 ((Ei p.cs []).flatten++pad)))) (GD b1 b2 cc p m f (.own cc 16 0 p.cs.length capc) [] pad):=by
   have:=FG (A:=[]) (y:=.box 55 ((Ei p.cs []).flatten++pad)) hall kn
   simp -implicitDefEqProofs only [GD,I6,List.nil_append] at this ⊢
   exact this
  have k5:(AQ (GD b1 b2 cc p m f (.own cc 16 0 p.cs.length capc) [] pad)).Nodup:=by
   have e:AQ (GD b1 b2 cc p m f (.own cc 16 0 p.cs.length capc) [] pad)=AQ (Et b1 b2 p m f (.own cc 16 0 p.cs.length capc) (p.ms.map MeterX.pl) (p.fs.map FeeX.pl)):=by
    simp -implicitDefEqProofs only [GD,I6,List.nil_append]; rfl
   rw [e]; exact kn
  clear hpad gc hall kn g1
  refine Ex (fun P:List (AV×AV)=>P.length≤p.cs.length∧FJ p.cs P∧(AQ (GD b1 b2 cc p m f (.own cc 16 0 p.cs.length capc) P pad)).Nodup) 89 (fun P=>[(1,.ptr b1 0),(2,.ptr b2 0),(57,i64 p.cs.length),(58,i64 P.length)]) (fun P=>GD b1 b2 cc p m f (.own cc 16 0 p.cs.length capc) P pad) (fun P=>p.cs.length-P.length) [] ⟨Nat.zero_le _,Ly,k5⟩ rfl ?_ a5 ?_
  ·simp -implicitDefEqProofs -proj only [go_sem,seval,EP]
  clear a5 k5
  rintro P ⟨hi,hP,kn⟩
  have hall:=FY kn
  obtain ⟨H,hH⟩:∃H,EX (GD b1 b2 cc p m f (.own cc 16 0 p.cs.length capc) P pad)=H:=⟨_,rfl⟩
  rw [hH] at hall
  have g1:H b1=some (.box 28 (Ad p.nm p.cu p.f p.t m f (.own cc 16 0 p.cs.length capc) 0 0)):=(Ac.1 (Ac.1 (Ac.1 hall).2.2).2).2.2.1
  have gc:H cc=some (.box 55 ((Ei p.cs P).flatten++pad)):=(Ac.1 hall).2.1
  by_cases h:P.length<p.cs.length
  ·have q1:=LF h
   have q2:=KZ h
   have q3:=Mc h
   have q4:=fun {q:AV×AV}=>MV (q:=q) h hP
   have hal:=HJ (cs:=p.cs) (P:=P)
   have hlt:=hp.ta _ (List.getElem_mem h)
   have hlL:(Ei p.cs P).length=p.cs.length:=G8
   generalize p.cs[P.length]=x at *
   obtain ⟨L,hL⟩:∃L,Ei p.cs P=L:=⟨_,rfl⟩
   rw [hL] at gc q1 q2 hal hlL
   simp -implicitDefEqProofs -proj only [go_sem,seval,hH,g1,decide_eq_true (show (P.length:Int)<p.cs.length by omega)]
   refine En (by omega) (fun _=>?_)
   simp -implicitDefEqProofs only [Int.toNat_natCast]
   refine G9 gc hal q1 (by decide) rfl rfl (fun L1 s1 hal1 e1=>?_)
   simp -implicitDefEqProofs -proj only [go_sem,seval]
   refine G9 EN hal1 s1 (by decide) rfl rfl (fun L2 s2 hal2 e2=>?_)
   simp -implicitDefEqProofs -proj only [go_sem,seval]
   rw [e1,List.set_set] at e2
   clear e1 s1 hal1
   have a2:=FG (y:=.box 55 (L2.flatten++pad)) hall kn
   have k2:(AQ (EJ p.cs P++(cc,.box 55 (L2.flatten++pad))::IW b1 b2 p m f (.own cc 16 0 p.cs.length capc))).Nodup:=by
    simp -implicitDefEqProofs only [AQ,List.map_append,List.map_cons] at kn ⊢; exact kn
   refine Ix hal2 s2 (by decide) ?_
   simp -implicitDefEqProofs -proj only [go_sem,seval]
   refine Ix hal2 s2 (by decide) ?_
   simp -implicitDefEqProofs -proj only [go_sem,seval]
   refine JS (Q1 (xs:=D7 x.ts) (by rw [Fs]; exact hlt.1)) (LendL.refl _) (fun t H3 ht r1 u1 w1=>?_)
   rw [Fs] at ht
   replace u1:∀l,AX (AG H cc (some (.box 55 (L2.flatten++pad)))) l→AX H3 l:=u1
   replace w1:∀l,AX (AG H cc (some (.box 55 (L2.flatten++pad)))) l→(AQ l).Nodup→(AQ (AN 58 t (D7 x.ts)++l)).Nodup:=w1
   have a3:=Ac.2 ⟨r1,u1 _ a2⟩
   have k3:=w1 _ a2 k2
   clear u1 w1 r1 a2 k2
   simp -implicitDefEqProofs -proj only [go_sem,seval]
   refine K9 (Td (xs:=D8 x.ad) (by rw [Ff]; exact hlt.2)) (LendL.refl _) (fun a H4 ha r2 u2 w2=>?_)
   rw [Ff] at ha
   have a4:=Ac.2 ⟨r2,u2 _ a3⟩
   have k4:=w2 _ a3 k3
   clear u2 w2 r2 a3 k3
   have g4:H4 cc=some (.box 55 (L2.flatten++pad)):=(Ac.1 (Ac.1 (Ac.1 a4).2).2).2.1
   simp -implicitDefEqProofs -proj only [go_sem,seval,GC ht]
   refine G9 g4 hal2 s2 (by decide) (GA ht) rfl (fun L3 s3 hal3 e3=>?_)
   simp -implicitDefEqProofs -proj only [go_sem,seval,GC ha]
   refine G9 EN hal3 s3 (by decide) (GA ha) rfl (fun L4 s4 hal4 e4=>?_)
   rw [e3,e2,List.set_set,List.set_set] at e4
   have e5:L4=Ei p.cs (P++[(t,a)]):=e4.trans (q2 (t,a))
   subst e5
   simp -implicitDefEqProofs -proj only [go_sem,seval]
   rw [←List.append_assoc,←List.append_assoc] at a4 k4
   have a5:=FG (y:=.box 55 ((Ei p.cs (P++[(t,a)])).flatten++pad)) a4 k4
   have k5:(AQ ((AN 60 a (D8 x.ad)++AN 58 t (D7 x.ts)++EJ p.cs P)++(cc,.box 55 ((Ei p.cs (P++[(t,a)])).flatten++pad))::IW b1 b2 p m f (.own cc 16 0 p.cs.length capc))).Nodup:=by
    simp -implicitDefEqProofs only [AQ,List.map_append,List.map_cons] at k4 ⊢; exact k4
   rw [List.append_assoc,List.append_assoc] at a5 k5
   have pm:=Tt (a:=AN 60 a (D8 x.ad)) (t:=AN 58 t (D7 x.ts)) (i:=EJ p.cs P) (r:=(cc,.box 55 ((Ei p.cs (P++[(t,a)])).flatten++pad))::IW b1 b2 p m f (.own cc 16 0 p.cs.length capc))
   rw [←q3 (t,a)] at pm
   have hl1:(P++[(t,a)]).length=P.length+1:=by simp
   refine E3 (P++[(t,a)]) ⟨by rw [hl1]; omega,q4 ht ha,?_⟩ (by rw [hl1]; omega) rfl ?_ ?_
   ·exact ((pm.map (fun q:Nat×Blk=>q.1)).nodup_iff).1 k5
   ·simp -implicitDefEqProofs -proj only [go_sem,seval,EP,hl1,F6 (show P.length<9223372036854775807 by omega)]
   ·exact JY a5 fun q hq=>pm.mem_iff.2 hq
  ·have hn:P.length=p.cs.length:=by omega
   have g2:H b2=some (.box 28 GV):=(Ac.1 (Ac.1 (Ac.1 hall).2.2).2).2.1
   simp -implicitDefEqProofs -proj only [go_sem,seval,hH,g1,g2,decide_eq_false (show ¬(P.length:Int)<p.cs.length by omega)]
   have e6:GD b1 b2 cc p m f (.own cc 16 0 p.cs.length capc) P pad=HH p m f (.own cc 16 0 p.cs.length capc) P pad++[(b2,.box 28 GV),(b1,.box 28 (Ad p.nm p.cu p.f p.t m f (.own cc 16 0 p.cs.length capc) 0 0))]:=by
    simp -implicitDefEqProofs only [GD,HH,Ez,List.cons_append,List.nil_append,List.append_assoc]
   rw [e6] at hall kn
   obtain ⟨e7,e8⟩:=Kh hall kn
   refine ⟨m,f,.own cc 16 0 p.cs.length capc,P,pad,rfl,hm,hf,.inr ⟨cc,capc,rfl,?_,by rw [Eq] at hcc; exact hcc.1,hcc.2⟩,hn,hP,e7,e8⟩
   rw [←hcs,List.length_append,List.length_append,FX HJ,FX HJ,G8,G8]
def EG:List ChX→List (AV×AV)→List (List AV)
 | x::X,q::P=>GP x q.1 q.2 x.ln x.co::EG X P
 | _,_=>[]
theorem ID:∀{cs:List ChX} {P:List (AV×AV)},P.length=cs.length→EG (cs.map ChX.pl) P=Ei cs P
 | [],[],_=>rfl
 | x::cs,q::P,h=>by
  have h':P.length=cs.length:=by simpa using h
  simp -implicitDefEqProofs only [List.map_cons,EG,Ei,ID h']
  rfl
 | [],q::P,h=>by simp at h
 | x::cs,[],h=>by simp at h
theorem Je:∀{cs:List ChX} {P:List (AV×AV)},EJ (cs.map ChX.pl) P=EJ cs P
 | [],_=>rfl
 | x::cs,[]=>rfl
 | x::cs,q::P=>by
  simp -implicitDefEqProofs only [List.map_cons,EJ,Je (cs:=cs) (P:=P)]
  rfl
theorem Lu:∀{cs:List ChX} {P:List (AV×AV)},FJ cs P→FJ (cs.map ChX.pl) P
 | [],[],_=>trivial
 | [],q::P,h=>h
 | x::cs,[],_=>trivial
 | x::cs,q::P,h=>⟨h.1,h.2.1,Lu h.2.2⟩
theorem JI:∀{X:List ChX} {P:List (AV×AV)},P.length=X.length→(EG X P).length=X.length
 | [],[],_=>rfl
 | x::X,q::P,h=>by
  have h':P.length=X.length:=by simpa using h
  simp [EG,JI h']
 | [],q::P,h=>by simp at h
 | x::X,[],h=>by simp at h
theorem GF:∀{X:List ChX} {P:List (AV×AV)},∀u∈EG X P,u.length=16
 | [],_,u,h=>by simp [EG] at h
 | x::X,[],u,h=>by simp [EG] at h
 | x::X,q::P,u,h=>by
  rcases List.mem_cons.1 h with rfl | h
  ·rfl
  ·exact GF u h
structure GenD (M:List MeterX) (F:List FeeX) (X:List ChX) (m f c:AV) (P:List (AV×AV)) (pad:List AV) (H:Heap):Prop where
 hm:EY m 5 M.length
 hf:EY f 10 F.length
 hc:JW c X.length ((EG X P).flatten++pad)
 n:P.length=X.length
 ok:FJ X P
 all:AX H (EJ X P++(Ez c ((EG X P).flatten++pad)++(AN 51 f (EC F)++AN 34 m (EB M))))
 nd:(AQ (EJ X P++(Ez c ((EG X P).flatten++pad)++(AN 51 f (EC F)++AN 34 m (EB M))))).Nodup
structure GenS (M:List MeterX) (F:List FeeX) (X:List ChX) (m f c:AV) (H:Heap):Prop where
 hm:EY m 5 M.length
 hf:EY f 10 F.length
 hc:EY c 16 X.length
 all:AX H (AN 55 c (AY X)++(AN 51 f (EC F)++AN 34 m (EB M)))
 nd:(AQ (AN 55 c (AY X)++(AN 51 f (EC F)++AN 34 m (EB M)))).Nodup
theorem DeepP.gen {p:PlanX} {m f c:AV} {P:List (AV×AV)} {pad:List AV} {H:Heap} (h:DeepP p m f c P pad H):GenD (p.ms.map MeterX.pl) (p.fs.map FeeX.pl) (p.cs.map ChX.pl) m f c P pad H:=by
 obtain ⟨h1,h2,h3,h4,h5,h6,h7⟩:=h
 exact ⟨by rw [List.length_map]; exact h1,by rw [List.length_map]; exact h2,by rw [List.length_map,ID h4]; exact h3,by rw [List.length_map]; exact h4,Lu h5,by rw [Je,ID h4]; exact h6,by rw [Je,ID h4]; exact h7⟩
theorem IJ {l:List (Nat×Blk)} {k:Nat} (h:k∉AQ l):EX l k=none:=by
 induction l with
 | nil=>rfl
 | cons q l ih =>
  obtain ⟨b,x⟩:=q
  simp -implicitDefEqProofs only [AQ,List.map_cons,List.mem_cons,not_or] at h ih
  rw [Aq,if_neg h.1]
  exact ih h.2
theorem TV {H:Heap} {x:ChX} {t a:AV} (h1:LendV H t (.d (.sl 2 (D7 x.ts)))) (h2:LendV H a (.d (.sl 3 (D8 x.ad)))):LendL H (GP x t a x.ln x.co) (mapD x.el):=by
 refine AT (.refl _) (AT (.refl _) (AT (.refl _) (AT (.refl _) (AT (.refl _) (AT (.refl _) (AT (.refl _) (AT (.refl _) (AT (.refl _) (AT (.refl _) (AT (.refl _) (AT h1 (AT (.refl _) (AT h2 (AT (.refl _) (AT (.refl _) Ee)))))))))))))))
theorem I3 {H:Heap}:∀{X:List ChX} {P:List (AV×AV)},FJ X P→AX H (EJ X P)→∀(i:Nat) u el,(EG X P)[i]? = some u→(AY X)[i]? = some el→LendL H u (mapD el)
 | [],_,_,_,i,u,el,h,_=>by simp [EG] at h
 | x::X,[],_,_,i,u,el,h,_=>by simp [EG] at h
 | x::X,q::P,hp,ha,0,u,el,h1,h2=>by
  simp -implicitDefEqProofs only [EG,AY,List.map_cons,List.getElem?_cons_zero,Option.some.injEq] at h1 h2
  subst h1; subst h2
  have ha:=Ac.1 (Ac.1 ha).1
  exact TV (Hv (by rw [Fs]; exact hp.1) ha.1) (Hv (by rw [Ff]; exact hp.2.1) ha.2)
 | x::X,q::P,hp,ha,i+1,u,el,h1,h2=>by
  simp -implicitDefEqProofs only [EG,AY,List.map_cons,List.getElem?_cons_succ] at h1 h2
  exact I3 hp.2.2 (Ac.1 ha).2 i u el h1 h2
theorem Redesc.refl (P:Program) (H:Heap):Redesc P H H:=fun F w h=>⟨F,h,Step.refl _ _ _⟩
theorem GenD.pack {M:List MeterX} {F:List FeeX} {X:List ChX} {m f c:AV} {P:List (AV×AV)} {pad:List AV} {H:Heap} {Pr:Program} (h:GenD M F X m f c P pad H):∃H2,Redesc Pr H H2∧GenS M F X m f c H2:=by
 obtain ⟨h1,h2,h3,h4,h5,h6,h7⟩:=h
 rcases h3 with ⟨h0,q,rfl⟩ | ⟨cc,cap,rfl,g1,g2,g3⟩
 ·obtain rfl:X=[]:=List.eq_nil_of_length_eq_zero h0
  refine ⟨H,Redesc.refl _ _,h1,h2,.inl ⟨rfl,q,rfl⟩,?_,?_⟩
  ·simpa [EJ,Ez,AN] using h6
  ·simpa [EJ,Ez,AN] using h7
 ·simp -implicitDefEqProofs only [Ez,List.cons_append,List.nil_append] at h6 h7
  have ha:=Ac.1 h6
  simp -implicitDefEqProofs only [AQ,List.map_append,List.map_cons,List.nodup_append,List.nodup_cons] at h7
  obtain ⟨n1,⟨n2,n3⟩,n4⟩:=h7
  have hcc:cc∉AQ (EJ X P):=fun hm=>n4 cc hm cc (by simp) rfl
  have hr:AX (EX (EJ X P)) (EJ X P):=FY (by simpa [AQ] using n1)
  refine ⟨IU H (EX (EJ X P)) cc (.row 55 16 cap (AY X)),Lf (L:=EG X P) ha.2.1 (Is ha.1) (IJ hcc) (by rw [JI h4,Eq]) (I3 h5 hr) (fun el he=>?_) (by decide) g1 (by rw [Eq]; exact g2) g3,h1,h2,.inr ⟨cc,cap,rfl⟩,?_,?_⟩
  ·obtain ⟨x,_,rfl⟩:=List.mem_map.1 he
   rfl
  ·refine ⟨by rw [G0,if_pos rfl],ER.2 fun q hq=>?_⟩
   have hk1:¬q.1=cc:=fun e=>n2 (by
    rw [←e,←List.map_append]
    exact List.mem_map.2 ⟨q,hq,rfl⟩)
   have hk2:q.1∉AQ (EJ X P):=fun hm=>n4 q.1 hm q.1 (by
    rw [←List.map_append]
    exact List.mem_cons_of_mem _ (List.mem_map.2 ⟨q,hq,rfl⟩)) rfl
   rw [G0,if_neg hk1,if_pos (IJ hk2)]
   exact ER.1 ha.2.2 q hq
  ·simp -implicitDefEqProofs only [Gr,List.cons_append,List.nil_append,AQ,List.map_append,List.map_cons,List.nodup_cons]
   exact ⟨n2,List.nodup_append.2 n3⟩
theorem F7 {p:PlanX} (hp:p.Sm):CallW Try.prog LS [Ev p] Heap.none fun r H'=>∃m f c,r = .agg (Ad p.nm p.cu p.f p.t m f c 0 0)∧GenS p.pl.ms p.pl.fs p.pl.cs m f c H' :=
 CallW.redesc (Jd hp) fun r H' ⟨m,f,c,P,pad,h1,h2⟩=>by
  obtain ⟨H2,h3,h4⟩:=(h2.gen).pack (Pr:=Try.prog)
  exact ⟨H2,h3,m,f,c,h1,h4⟩
theorem GenS.lend {p:PlanX} {m f c:AV} {H:Heap} (h:GenS p.ms p.fs p.cs m f c H):LendV H (.agg (Ad p.nm p.cu p.f p.t m f c p.ln p.co)) (Ev p):=by
 have a1:=Ac.1 h.all
 have a2:=Ac.1 a1.2
 refine LendV.aggL (AT (.refl _) (AT (.refl _) (AT (.refl _) (AT (.refl _) (AT (.refl _) (AT (.refl _) (AT (.refl _) (AT (.refl _) (AT ?_ (AT ?_ (AT ?_ (AT (.refl _) (AT (.refl _) Ee)))))))))))))
 ·exact Hv (by rw [FN]; exact h.hm) a2.2
 ·exact Hv (by rw [FI]; exact h.hf) a2.1
 ·exact Hv (by rw [Eq]; exact h.hc) a1.1
def An {α β:Type} (p : α→β→Bool):List α→List β→Bool
 | [],[]=>true
 | x::a,y::b=>p x y&&An p a b
 | _,_=>false
theorem Ft {α β:Type} {p : α→β→Bool}:∀{a:List α} {b:List β},a.length≠b.length→An p a b=false
 | [],[],h=>absurd rfl h
 | [],_::_,_=>rfl
 | _::_,[],_=>rfl
 | _::a,_::b,h=>by
  rw [An,Ft (a:=a) (b:=b) (fun e=>h (by simp [e])),Bool.and_false]
def FH (a b:DateX):Bool:=decide (a.y=b.y)&&(decide (a.m=b.m)&&decide (a.d=b.d))
def FP (a b:WinX):Bool:=(a.has == b.has)&&(decide (a.f.y=b.f.y)&&(decide (a.f.m=b.f.m)&&(decide (a.f.d=b.f.d)&&(decide (a.t.y=b.t.y)&&(decide (a.t.m=b.t.m)&&decide (a.t.d=b.t.d))))))
def FK (a b:Tier):Bool:=decide (a.u=b.u)&&decide (a.r=b.r)
def FT (a b:Adj):Bool:=decide (a.k=b.k)&&(decide (a.n=b.n)&&decide (a.m=b.m))
def FQ (a b:MeterX):Bool:=(a.nm.toList == b.nm.toList)&&((a.un.toList == b.un.toList)&&decide (a.mx=b.mx))
def FS (a b:FeeX):Bool:=decide (a.am=b.am)&&FP a.w b.w
def EL (a b:ChX):Bool:=(a.me.toList == b.me.toList)&&(FP a.w b.w&&(decide (a.al=b.al)&&(decide (a.bl=b.bl)&&(decide (a.ki=b.ki)&&(decide (a.mo=b.mo)&&(An FK a.ts b.ts&&An FT a.ad b.ad))))))
def EW (a b:PlanX):Bool:=(a.nm.toList == b.nm.toList)&&((a.cu.toList == b.cu.toList)&&(FH a.f b.f&&(FH a.t b.t&&(An FQ a.ms b.ms&&(An FS a.fs b.fs&&An EL a.cs b.cs)))))
abbrev G6 (m:MeterX):AV:=.agg [.d (.str m.nm),.d (.str m.un),i64 m.mx,i64 m.ln,i64 m.co]
abbrev G1 (x:FeeX):AV:=.agg [i64 x.am,bv x.w.has,i64 x.w.f.y,i64 x.w.f.m,i64 x.w.f.d,i64 x.w.t.y,i64 x.w.t.m,i64 x.w.t.d,i64 x.ln,i64 x.co]
abbrev HC (x:ChX):AV:=.agg x.cells
theorem TD {a b:List Tier} (ha:a.length≤1000000) (hb:b.length≤1000000):DataW Try.prog Tq [.d (.sl 2 (D7 a)),.d (.sl 2 (D7 b))] (bv (An FK a b)):=by
 refine D9 PN (by simp) ?_
 by_cases hl:a.length=b.length
 rotate_left
 ·rw [Ft hl]
  simp -implicitDefEqProofs -proj only [go_sem,seval,Fs,decide_eq_false (show ¬(a.length:Int)=b.length by omega)]
  exact AU rfl
 simp -implicitDefEqProofs -proj only [go_sem,seval,Fs,decide_eq_true (show (a.length:Int)=b.length by omega)]
 refine Ex (fun i:Nat=>i≤a.length∧An FK (a.drop i) (b.drop i)=An FK a b) 26 (fun i=>[(0,.d (.sl 2 (D7 a))),(1,.d (.sl 2 (D7 b))),(12,i64 a.length),(13,i64 i)]) (fun _=>[]) (fun i=>a.length-i) 0 ⟨Nat.zero_le _,by simp⟩ rfl ?_ ?_ ?_
 ·simp -implicitDefEqProofs -proj only [go_sem,seval,EP]
  try simp [hl]
 ·trivial
 ·rintro i ⟨hi,hat⟩
  by_cases h:i<a.length
  ·have h':i<b.length:=by omega
   have e1:=ME h
   have e2:=ME h'
   rw [List.drop_eq_getElem_cons h,List.drop_eq_getElem_cons h',An] at hat
   generalize a[i]=x at *
   generalize b[i]=y at *
   simp -implicitDefEqProofs -proj only [go_sem,seval,decide_eq_true (show (i:Int)<a.length by omega)]
   refine Es _ (by omega) e1 ?_
   simp -implicitDefEqProofs -proj only [go_sem,seval]
   refine Es _ (by omega) e2 ?_
   cases hp:FK x y
   ·rw [hp,Bool.false_and] at hat
    unfold FK at hp
    simp -implicitDefEqProofs -proj only [go_sem,seval,hp]
    rw [←hat]
    exact AU rfl
   ·rw [hp,Bool.true_and] at hat
    unfold FK at hp
    simp -implicitDefEqProofs -proj only [go_sem,seval,hp]
    refine E3 (i+1) ⟨by omega,hat⟩ (by omega) rfl ?_ trivial
    simp -implicitDefEqProofs -proj only [go_sem,seval,EP,F6 (show i<9223372036854775807 by omega)]
  ·have hi':i=a.length:=by omega
   subst hi'
   rw [List.drop_length,hl,List.drop_length] at hat
   simp -implicitDefEqProofs -proj only [go_sem,seval,decide_eq_false (show ¬(a.length:Int)<a.length by omega)]
   rw [←hat]
   exact AU rfl
theorem Ms {a b:List Adj} (ha:a.length≤1000000) (hb:b.length≤1000000):DataW Try.prog Qi [.d (.sl 3 (D8 a)),.d (.sl 3 (D8 b))] (bv (An FT a b)):=by
 refine D9 PD (by simp) ?_
 by_cases hl:a.length=b.length
 rotate_left
 ·rw [Ft hl]
  simp -implicitDefEqProofs -proj only [go_sem,seval,Ff,decide_eq_false (show ¬(a.length:Int)=b.length by omega)]
  exact AU rfl
 simp -implicitDefEqProofs -proj only [go_sem,seval,Ff,decide_eq_true (show (a.length:Int)=b.length by omega)]
 refine Ex (fun i:Nat=>i≤a.length∧An FT (a.drop i) (b.drop i)=An FT a b) 26 (fun i=>[(0,.d (.sl 3 (D8 a))),(1,.d (.sl 3 (D8 b))),(12,i64 a.length),(13,i64 i)]) (fun _=>[]) (fun i=>a.length-i) 0 ⟨Nat.zero_le _,by simp⟩ rfl ?_ ?_ ?_
 ·simp -implicitDefEqProofs -proj only [go_sem,seval,EP]
  try simp [hl]
 ·trivial
 ·rintro i ⟨hi,hat⟩
  by_cases h:i<a.length
  ·have h':i<b.length:=by omega
   have e1:=LO h
   have e2:=LO h'
   rw [List.drop_eq_getElem_cons h,List.drop_eq_getElem_cons h',An] at hat
   generalize a[i]=x at *
   generalize b[i]=y at *
   simp -implicitDefEqProofs -proj only [go_sem,seval,decide_eq_true (show (i:Int)<a.length by omega)]
   refine Es _ (by omega) e1 ?_
   simp -implicitDefEqProofs -proj only [go_sem,seval]
   refine Es _ (by omega) e2 ?_
   cases hp:FT x y
   ·rw [hp,Bool.false_and] at hat
    unfold FT at hp
    simp -implicitDefEqProofs -proj only [go_sem,seval,hp]
    rw [←hat]
    exact AU rfl
   ·rw [hp,Bool.true_and] at hat
    unfold FT at hp
    simp -implicitDefEqProofs -proj only [go_sem,seval,hp]
    refine E3 (i+1) ⟨by omega,hat⟩ (by omega) rfl ?_ trivial
    simp -implicitDefEqProofs -proj only [go_sem,seval,EP,F6 (show i<9223372036854775807 by omega)]
  ·have hi':i=a.length:=by omega
   subst hi'
   rw [List.drop_length,hl,List.drop_length] at hat
   simp -implicitDefEqProofs -proj only [go_sem,seval,decide_eq_false (show ¬(a.length:Int)<a.length by omega)]
   rw [←hat]
   exact AU rfl
theorem Ta {a b:List MeterX} {f:FuncId} {p:MeterX→MeterX→Bool} (hf:∀x∈a,∀y∈b,DataW Try.prog f [G6 x,G6 y] (bv (p x y))) (ha:a.length≤1000000) (hb:b.length≤1000000):DataW Try.prog LK [.d (.sl 5 (EB a)),.d (.sl 5 (EB b)),.fn f []] (bv (An p a b)):=by
 refine D9 Li (by simp) ?_
 by_cases hl:a.length=b.length
 rotate_left
 ·rw [Ft hl]
  simp -implicitDefEqProofs -proj only [go_sem,seval,FN,decide_eq_false (show ¬(a.length:Int)=b.length by omega)]
  exact AU rfl
 simp -implicitDefEqProofs -proj only [go_sem,seval,FN,decide_eq_true (show (a.length:Int)=b.length by omega)]
 refine Ex (fun i:Nat=>i≤a.length∧An p (a.drop i) (b.drop i)=An p a b) 32 (fun i=>[(0,.d (.sl 5 (EB a))),(1,.d (.sl 5 (EB b))),(2,.fn f []),(15,.d (.sl 5 (EB a))),(16,i64 a.length),(17,i64 i)]) (fun _=>[]) (fun i=>a.length-i) 0 ⟨Nat.zero_le _,by simp⟩ rfl ?_ ?_ ?_
 ·simp -implicitDefEqProofs -proj only [go_sem,seval,EP]
  try simp [hl]
 ·trivial
 ·rintro i ⟨hi,hat⟩
  by_cases h:i<a.length
  ·have h':i<b.length:=by omega
   have e1:=JD h
   have e2:=JD h'
   have hxy:=hf _ (List.getElem_mem h) _ (List.getElem_mem h')
   rw [List.drop_eq_getElem_cons h,List.drop_eq_getElem_cons h',An] at hat
   generalize a[i]=x at *
   generalize b[i]=y at *
   simp -implicitDefEqProofs -proj only [go_sem,seval,decide_eq_true (show (i:Int)<a.length by omega)]
   refine Es _ (by omega) e1 ?_
   simp -implicitDefEqProofs -proj only [go_sem,seval]
   refine Av (fun b8 hb8=>?_)
   simp -implicitDefEqProofs -proj only [go_sem,seval]
   refine Es _ (by omega) e2 ?_
   simp -implicitDefEqProofs -proj only [go_sem,seval]
   refine Av (fun b9 hb9=>?_)
   simp -implicitDefEqProofs only [AL] at hb9
   have n1:¬b8=b9:=fun e=>by subst e; simp at hb9
   have n2:¬b9=b8:=fun e=>n1 e.symm
   simp -implicitDefEqProofs -proj only [go_sem,seval,n1,n2]
   refine EF hxy ?_
   cases hp:p x y
   ·rw [hp,Bool.false_and] at hat
    simp -implicitDefEqProofs -proj only [go_sem,seval]
    rw [←hat]
    exact AU rfl
   ·rw [hp,Bool.true_and] at hat
    simp -implicitDefEqProofs -proj only [go_sem,seval]
    refine E3 (i+1) ⟨by omega,hat⟩ (by omega) rfl ?_ trivial
    simp -implicitDefEqProofs -proj only [go_sem,seval,EP,F6 (show i<9223372036854775807 by omega)]
  ·have hi':i=a.length:=by omega
   subst hi'
   rw [List.drop_length,hl,List.drop_length] at hat
   simp -implicitDefEqProofs -proj only [go_sem,seval,decide_eq_false (show ¬(a.length:Int)<a.length by omega)]
   rw [←hat]
   exact AU rfl
theorem Uq {a b:List MeterX} {f:FuncId} {p:MeterX→MeterX→Bool} (hf:∀x∈a,∀y∈b,DataW Try.prog f [G6 x,G6 y] (bv (p x y))) (ha:a.length≤1000000) (hb:b.length≤1000000):DataW Try.prog MB [.d (.sl 5 (EB a)),.d (.sl 5 (EB b)),.fn f []] (bv (An p a b)):=by
 refine D9 KU (by simp) ?_
 simp -implicitDefEqProofs -proj only [go_sem,seval]
 refine EF (Ta hf ha hb) ?_
 simp -implicitDefEqProofs -proj only [go_sem,seval]
 exact AU rfl
theorem QS {a b:List FeeX} {f:FuncId} {p:FeeX→FeeX→Bool} (hf:∀x∈a,∀y∈b,DataW Try.prog f [G1 x,G1 y] (bv (p x y))) (ha:a.length≤1000000) (hb:b.length≤1000000):DataW Try.prog LU [.d (.sl 10 (EC a)),.d (.sl 10 (EC b)),.fn f []] (bv (An p a b)):=by
 refine D9 Lz (by simp) ?_
 by_cases hl:a.length=b.length
 rotate_left
 ·rw [Ft hl]
  simp -implicitDefEqProofs -proj only [go_sem,seval,FI,decide_eq_false (show ¬(a.length:Int)=b.length by omega)]
  exact AU rfl
 simp -implicitDefEqProofs -proj only [go_sem,seval,FI,decide_eq_true (show (a.length:Int)=b.length by omega)]
 refine Ex (fun i:Nat=>i≤a.length∧An p (a.drop i) (b.drop i)=An p a b) 32 (fun i=>[(0,.d (.sl 10 (EC a))),(1,.d (.sl 10 (EC b))),(2,.fn f []),(15,.d (.sl 10 (EC a))),(16,i64 a.length),(17,i64 i)]) (fun _=>[]) (fun i=>a.length-i) 0 ⟨Nat.zero_le _,by simp⟩ rfl ?_ ?_ ?_
 ·simp -implicitDefEqProofs -proj only [go_sem,seval,EP]
  try simp [hl]
 ·trivial
 ·rintro i ⟨hi,hat⟩
  by_cases h:i<a.length
  ·have h':i<b.length:=by omega
   have e1:=KW h
   have e2:=KW h'
   have hxy:=hf _ (List.getElem_mem h) _ (List.getElem_mem h')
   rw [List.drop_eq_getElem_cons h,List.drop_eq_getElem_cons h',An] at hat
   generalize a[i]=x at *
   generalize b[i]=y at *
   simp -implicitDefEqProofs -proj only [go_sem,seval,decide_eq_true (show (i:Int)<a.length by omega)]
   refine Es _ (by omega) e1 ?_
   simp -implicitDefEqProofs -proj only [go_sem,seval]
   refine Av (fun b8 hb8=>?_)
   simp -implicitDefEqProofs -proj only [go_sem,seval]
   refine Es _ (by omega) e2 ?_
   simp -implicitDefEqProofs -proj only [go_sem,seval]
   refine Av (fun b9 hb9=>?_)
   simp -implicitDefEqProofs only [AL] at hb9
   have n1:¬b8=b9:=fun e=>by subst e; simp at hb9
   have n2:¬b9=b8:=fun e=>n1 e.symm
   simp -implicitDefEqProofs -proj only [go_sem,seval,n1,n2]
   refine EF hxy ?_
   cases hp:p x y
   ·rw [hp,Bool.false_and] at hat
    simp -implicitDefEqProofs -proj only [go_sem,seval]
    rw [←hat]
    exact AU rfl
   ·rw [hp,Bool.true_and] at hat
    simp -implicitDefEqProofs -proj only [go_sem,seval]
    refine E3 (i+1) ⟨by omega,hat⟩ (by omega) rfl ?_ trivial
    simp -implicitDefEqProofs -proj only [go_sem,seval,EP,F6 (show i<9223372036854775807 by omega)]
  ·have hi':i=a.length:=by omega
   subst hi'
   rw [List.drop_length,hl,List.drop_length] at hat
   simp -implicitDefEqProofs -proj only [go_sem,seval,decide_eq_false (show ¬(a.length:Int)<a.length by omega)]
   rw [←hat]
   exact AU rfl
theorem NW {a b:List FeeX} {f:FuncId} {p:FeeX→FeeX→Bool} (hf:∀x∈a,∀y∈b,DataW Try.prog f [G1 x,G1 y] (bv (p x y))) (ha:a.length≤1000000) (hb:b.length≤1000000):DataW Try.prog JC [.d (.sl 10 (EC a)),.d (.sl 10 (EC b)),.fn f []] (bv (An p a b)):=by
 refine D9 MQ (by simp) ?_
 simp -implicitDefEqProofs -proj only [go_sem,seval]
 refine EF (QS hf ha hb) ?_
 simp -implicitDefEqProofs -proj only [go_sem,seval]
 exact AU rfl
theorem R7 {a b:List ChX} {f:FuncId} {p:ChX→ChX→Bool} (hf:∀x∈a,∀y∈b,DataW Try.prog f [HC x,HC y] (bv (p x y))) (ha:a.length≤1000000) (hb:b.length≤1000000):DataW Try.prog K4 [.d (.sl 16 (AY a)),.d (.sl 16 (AY b)),.fn f []] (bv (An p a b)):=by
 refine D9 KS (by simp) ?_
 by_cases hl:a.length=b.length
 rotate_left
 ·rw [Ft hl]
  simp -implicitDefEqProofs -proj only [go_sem,seval,Eq,decide_eq_false (show ¬(a.length:Int)=b.length by omega)]
  exact AU rfl
 simp -implicitDefEqProofs -proj only [go_sem,seval,Eq,decide_eq_true (show (a.length:Int)=b.length by omega)]
 refine Ex (fun i:Nat=>i≤a.length∧An p (a.drop i) (b.drop i)=An p a b) 32 (fun i=>[(0,.d (.sl 16 (AY a))),(1,.d (.sl 16 (AY b))),(2,.fn f []),(15,.d (.sl 16 (AY a))),(16,i64 a.length),(17,i64 i)]) (fun _=>[]) (fun i=>a.length-i) 0 ⟨Nat.zero_le _,by simp⟩ rfl ?_ ?_ ?_
 ·simp -implicitDefEqProofs -proj only [go_sem,seval,EP]
  try simp [hl]
 ·trivial
 ·rintro i ⟨hi,hat⟩
  by_cases h:i<a.length
  ·have h':i<b.length:=by omega
   have e1:=LH h
   have e2:=LH h'
   have hxy:=hf _ (List.getElem_mem h) _ (List.getElem_mem h')
   rw [List.drop_eq_getElem_cons h,List.drop_eq_getElem_cons h',An] at hat
   generalize a[i]=x at *
   generalize b[i]=y at *
   simp -implicitDefEqProofs -proj only [go_sem,seval,decide_eq_true (show (i:Int)<a.length by omega)]
   refine Es _ (by omega) e1 ?_
   simp -implicitDefEqProofs -proj only [go_sem,seval]
   refine Av (fun b8 hb8=>?_)
   simp -implicitDefEqProofs -proj only [go_sem,seval]
   refine Es _ (by omega) e2 ?_
   simp -implicitDefEqProofs -proj only [go_sem,seval]
   refine Av (fun b9 hb9=>?_)
   simp -implicitDefEqProofs only [AL] at hb9
   have n1:¬b8=b9:=fun e=>by subst e; simp at hb9
   have n2:¬b9=b8:=fun e=>n1 e.symm
   simp -implicitDefEqProofs -proj only [go_sem,seval,n1,n2]
   refine EF hxy ?_
   cases hp:p x y
   ·rw [hp,Bool.false_and] at hat
    simp -implicitDefEqProofs -proj only [go_sem,seval]
    rw [←hat]
    exact AU rfl
   ·rw [hp,Bool.true_and] at hat
    simp -implicitDefEqProofs -proj only [go_sem,seval]
    refine E3 (i+1) ⟨by omega,hat⟩ (by omega) rfl ?_ trivial
    simp -implicitDefEqProofs -proj only [go_sem,seval,EP,F6 (show i<9223372036854775807 by omega)]
  ·have hi':i=a.length:=by omega
   subst hi'
   rw [List.drop_length,hl,List.drop_length] at hat
   simp -implicitDefEqProofs -proj only [go_sem,seval,decide_eq_false (show ¬(a.length:Int)<a.length by omega)]
   rw [←hat]
   exact AU rfl
theorem Uk {a b:List ChX} {f:FuncId} {p:ChX→ChX→Bool} (hf:∀x∈a,∀y∈b,DataW Try.prog f [HC x,HC y] (bv (p x y))) (ha:a.length≤1000000) (hb:b.length≤1000000):DataW Try.prog Lk [.d (.sl 16 (AY a)),.d (.sl 16 (AY b)),.fn f []] (bv (An p a b)):=by
 refine D9 Ke (by simp) ?_
 simp -implicitDefEqProofs -proj only [go_sem,seval]
 refine EF (R7 hf ha hb) ?_
 simp -implicitDefEqProofs -proj only [go_sem,seval]
 exact AU rfl
theorem VY (a b:MeterX):DataW Try.prog H6 [G6 a,G6 b] (bv (FQ a b)):=by
 refine D9 LP (by simp) ?_
 simp -implicitDefEqProofs -proj only [go_sem,seval]
 refine Av (fun b2 hb2=>?_)
 simp -implicitDefEqProofs -proj only [go_sem,seval]
 refine Av (fun b3 hb3=>?_)
 replace hb3:AG Heap.none b2 _ b3=none:=hb3
 obtain ⟨n1,n2⟩:=EZ hb3 EN
 cases c0:a.nm.toList == b.nm.toList
 ·simp -implicitDefEqProofs -proj only [go_sem,seval,n1,n2,Ea,c0]
  exact AU (by simp [FQ,c0])
 cases c1:a.un.toList == b.un.toList
 ·simp -implicitDefEqProofs -proj only [go_sem,seval,n1,n2,Ea,c0,c1]
  exact AU (by simp [FQ,c0,c1])
 cases c2:decide (a.mx=b.mx)
 ·simp -implicitDefEqProofs -proj only [go_sem,seval,n1,n2,Ea,c0,c1,c2]
  exact AU (by simp [FQ,c0,c1,c2])
 simp -implicitDefEqProofs -proj only [go_sem,seval,n1,n2,Ea,c0,c1,c2]
 exact AU (by simp [FQ,c0,c1,c2])
theorem QD (a b:FeeX):DataW Try.prog Ig [G1 a,G1 b] (bv (FS a b)):=by
 refine D9 RQ (by simp) ?_
 simp -implicitDefEqProofs -proj only [go_sem,seval]
 refine Av (fun b2 hb2=>?_)
 simp -implicitDefEqProofs -proj only [go_sem,seval]
 refine Av (fun b3 hb3=>?_)
 replace hb3:AG Heap.none b2 _ b3=none:=hb3
 obtain ⟨n1,n2⟩:=EZ hb3 EN
 cases c0:decide (a.am=b.am)
 ·simp -implicitDefEqProofs -proj only [go_sem,seval,n1,n2,Ea,c0]
  exact AU (by simp [FS,c0])
 cases c1:FP a.w b.w
 ·have c1u:=c1
  unfold FP at c1u
  simp -implicitDefEqProofs -proj only [go_sem,seval,n1,n2,Ea,c0,c1u]
  exact AU (by simp [FS,c0,c1])
 have c1u:=c1
 unfold FP at c1u
 simp -implicitDefEqProofs -proj only [go_sem,seval,n1,n2,Ea,c0,c1u]
 exact AU (by simp [FS,c0,c1])
theorem QI {a b:ChX} (h1:a.ts.length≤1000000∧a.ad.length≤1000000) (h2:b.ts.length≤1000000∧b.ad.length≤1000000):DataW Try.prog I2 [HC a,HC b] (bv (EL a b)):=by
 refine D9 UT (by simp) ?_
 simp -implicitDefEqProofs -proj only [go_sem,seval]
 refine Av (fun b2 hb2=>?_)
 simp -implicitDefEqProofs -proj only [go_sem,seval]
 refine Av (fun b3 hb3=>?_)
 replace hb3:AG Heap.none b2 _ b3=none:=hb3
 obtain ⟨n1,n2⟩:=EZ hb3 EN
 cases c0:a.me.toList == b.me.toList
 ·simp -implicitDefEqProofs -proj only [go_sem,seval,n1,n2,Ea,c0]
  exact AU (by simp [EL,c0])
 cases c1:FP a.w b.w
 ·have c1u:=c1
  unfold FP at c1u
  simp -implicitDefEqProofs -proj only [go_sem,seval,n1,n2,Ea,c0,c1u]
  exact AU (by simp [EL,c0,c1])
 have c1u:=c1
 unfold FP at c1u
 cases c2:decide (a.al=b.al)
 ·simp -implicitDefEqProofs -proj only [go_sem,seval,n1,n2,Ea,c0,c1u,c2]
  exact AU (by simp [EL,c0,c1,c2])
 cases c3:decide (a.bl=b.bl)
 ·simp -implicitDefEqProofs -proj only [go_sem,seval,n1,n2,Ea,c0,c1u,c2,c3]
  exact AU (by simp [EL,c0,c1,c2,c3])
 cases c4:decide (a.ki=b.ki)
 ·simp -implicitDefEqProofs -proj only [go_sem,seval,n1,n2,Ea,c0,c1u,c2,c3,c4]
  exact AU (by simp [EL,c0,c1,c2,c3,c4])
 cases c5:decide (a.mo=b.mo)
 ·simp -implicitDefEqProofs -proj only [go_sem,seval,n1,n2,Ea,c0,c1u,c2,c3,c4,c5]
  exact AU (by simp [EL,c0,c1,c2,c3,c4,c5])
 simp -implicitDefEqProofs -proj only [go_sem,seval,n1,n2,Ea,c0,c1u,c2,c3,c4,c5]
 refine EF (TD h1.1 h2.1) ?_
 cases c6:An FK a.ts b.ts
 ·simp -implicitDefEqProofs -proj only [go_sem,seval,n1,n2,Ea,c0,c1u,c2,c3,c4,c5]
  exact AU (by simp [EL,c0,c1,c2,c3,c4,c5,c6])
 simp -implicitDefEqProofs -proj only [go_sem,seval,n1,n2,Ea,c0,c1u,c2,c3,c4,c5]
 refine EF (Ms h1.2 h2.2) ?_
 simp -implicitDefEqProofs -proj only [go_sem,seval,n1,n2,Ea,c0,c1u,c2,c3,c4,c5,c6]
 exact AU (by simp [EL,c0,c1,c2,c3,c4,c5,c6])
theorem Em {a b:PlanX} (h1:a.Sm) (h2:b.Sm):DataW Try.prog ML [Ev a,Ev b] (bv (EW a b)):=by
 refine D9 Ki (by simp) ?_
 simp -implicitDefEqProofs -proj only [go_sem,seval]
 refine Av (fun b2 hb2=>?_)
 simp -implicitDefEqProofs -proj only [go_sem,seval]
 refine Av (fun b3 hb3=>?_)
 replace hb3:AG Heap.none b2 _ b3=none:=hb3
 obtain ⟨n1,n2⟩:=EZ hb3 EN
 cases c0:a.nm.toList == b.nm.toList
 ·simp -implicitDefEqProofs -proj only [go_sem,seval,n1,n2,Ea,c0]
  exact AU (by simp [EW,c0])
 cases c1:a.cu.toList == b.cu.toList
 ·simp -implicitDefEqProofs -proj only [go_sem,seval,n1,n2,Ea,c0,c1]
  exact AU (by simp [EW,c0,c1])
 cases c2:FH a.f b.f
 ·have c2u:=c2
  unfold FH at c2u
  simp -implicitDefEqProofs -proj only [go_sem,seval,n1,n2,Ea,c0,c1,c2u]
  exact AU (by simp [EW,c0,c1,c2])
 have c2u:=c2
 unfold FH at c2u
 cases c3:FH a.t b.t
 ·have c3u:=c3
  unfold FH at c3u
  simp -implicitDefEqProofs -proj only [go_sem,seval,n1,n2,Ea,c0,c1,c2u,c3u]
  exact AU (by simp [EW,c0,c1,c2,c3])
 have c3u:=c3
 unfold FH at c3u
 simp -implicitDefEqProofs -proj only [go_sem,seval,n1,n2,Ea,c0,c1,c2u,c3u]
 refine EF (Uq (fun x _ y _=>VY x y) h1.m h2.m) ?_
 cases c4:An FQ a.ms b.ms
 ·simp -implicitDefEqProofs -proj only [go_sem,seval,n1,n2,Ea,c0,c1,c2u,c3u]
  exact AU (by simp [EW,c0,c1,c2,c3,c4])
 simp -implicitDefEqProofs -proj only [go_sem,seval,n1,n2,Ea,c0,c1,c2u,c3u]
 refine EF (NW (fun x _ y _=>QD x y) h1.f h2.f) ?_
 cases c5:An FS a.fs b.fs
 ·simp -implicitDefEqProofs -proj only [go_sem,seval,n1,n2,Ea,c0,c1,c2u,c3u,c4]
  exact AU (by simp [EW,c0,c1,c2,c3,c4,c5])
 simp -implicitDefEqProofs -proj only [go_sem,seval,n1,n2,Ea,c0,c1,c2u,c3u,c4]
 refine EF (Uk (fun x hx y hy=>QI (h1.ta x hx) (h2.ta y hy)) h1.c h2.c) ?_
 simp -implicitDefEqProofs -proj only [go_sem,seval,n1,n2,Ea,c0,c1,c2u,c3u,c4,c5]
 exact AU (by simp [EW,c0,c1,c2,c3,c4,c5])
theorem N3 {x y:ByteArray}:(x.toList == y.toList)=true↔x=y:=by
 rw [beq_iff_eq]
 exact ⟨US,fun e=>by rw [e]⟩
structure ChX.Sm (x:ChX):Prop where
 fit:x.Fit
 t:x.ts.length≤1000000
 a:x.ad.length≤1000000
theorem Ha {α:Type} {p : α→α→Bool} (hp:∀x,p x x=true):∀a:List α,An p a a=true
 | []=>rfl
 | x::a=>by simp [An,hp,Ha hp a]
theorem IM {α:Type} {p : α→α→Bool} {g : α→α} (hp:∀x,p x (g x)=true):∀a:List α,An p a (a.map g)=true
 | []=>rfl
 | x::a=>by simp [An,hp,IM hp a]
theorem Sv (a:DateX):FH a a=true:=by simp [FH]
theorem Jt (a:WinX):FP a a=true:=by simp [FP]
theorem Kw (a:Tier):FK a a=true:=by simp [FK]
theorem KG (a:Adj):FT a a=true:=by simp [FT]
theorem R9 (a:MeterX):FQ a a.pl=true:=by simp [FQ,MeterX.pl]
theorem RP (a:FeeX):FS a a.pl=true:=by simp [FS,FeeX.pl,Jt]
theorem MF (a:ChX):EL a a.pl=true:=by simp [EL,ChX.pl,Jt,Ha Kw,Ha KG]
theorem Qf (a:ChX):EL a a=true:=by simp [EL,Jt,Ha Kw,Ha KG]
theorem KM (a:PlanX):EW a a.pl=true:=by simp [EW,PlanX.pl,Sv,IM R9,IM RP,IM MF]
theorem GT:Fit 0:=by unfold Fit; omega
theorem PlanX.Fit.pl {p:PlanX} (h:p.Fit):p.pl.Fit:=by
 refine ⟨h.f,h.t,fun a ha=>?_,by simp -implicitDefEqProofs only [PlanX.pl,List.length_map]; exact h.mn,fun a ha=>?_,by simp -implicitDefEqProofs only [PlanX.pl,List.length_map]; exact h.fn,fun a ha=>?_,by simp -implicitDefEqProofs only [PlanX.pl,List.length_map]; exact h.cn,GT,GT⟩
 ·obtain ⟨x,hx,rfl⟩:=List.mem_map.1 ha
  exact ⟨(h.ms x hx).1,GT,GT⟩
 ·obtain ⟨x,hx,rfl⟩:=List.mem_map.1 ha
  exact ⟨(h.fs x hx).1,(h.fs x hx).2.1,GT,GT⟩
 ·obtain ⟨x,hx,rfl⟩:=List.mem_map.1 ha
  have:=h.cs x hx
  exact ⟨this.w,this.al,this.bl,this.ki,this.ts,this.tn,this.mo,this.ad,this.an,GT,GT⟩
theorem PlanX.Sm.pl {p:PlanX} (h:p.Sm):p.pl.Sm:=by
 refine ⟨by simp -implicitDefEqProofs only [PlanX.pl,List.length_map]; exact h.m,by simp -implicitDefEqProofs only [PlanX.pl,List.length_map]; exact h.f,by simp -implicitDefEqProofs only [PlanX.pl,List.length_map]; exact h.c,fun a ha=>?_⟩
 obtain ⟨x,hx,rfl⟩:=List.mem_map.1 ha
 exact h.ta x hx
structure PlanX.Lo (p:PlanX):Prop where
 m:p.ms.length≤20
 f:p.fs.length≤40
 c:p.cs.length≤40
 ta:∀x∈p.cs,x.ts.length≤40∧x.ad.length≤40
theorem PlanX.lo {p:PlanX} (h:¬E0 p):p.Lo:=by
 refine ⟨?_,?_,?_,fun x hx=>?_⟩
 ·exact Nat.not_lt.1 fun e=>h (.inl (.inl (by omega)))
 ·exact Nat.not_lt.1 fun e=>h (.inl (.inr (.inl (by omega))))
 ·exact Nat.not_lt.1 fun e=>h (.inl (.inr (.inr (.inl (by omega)))))
 ·exact ⟨Nat.not_lt.1 fun e=>h (.inr (.inr ⟨x,hx,.inl (by omega)⟩)),Nat.not_lt.1 fun e=>h (.inr (.inr ⟨x,hx,.inr (.inl (by omega))⟩))⟩
theorem PlanX.Lo.sm {p:PlanX} (h:p.Lo):p.Sm:=⟨by have:=h.m; omega,by have:=h.f; omega,by have:=h.c; omega,fun x hx=>by have:=h.ta x hx; omega⟩
theorem PlanX.Lo.pl {p:PlanX} (h:p.Lo):p.pl.Lo:=by
 refine ⟨by simp -implicitDefEqProofs only [PlanX.pl,List.length_map]; exact h.m,by simp -implicitDefEqProofs only [PlanX.pl,List.length_map]; exact h.f,by simp -implicitDefEqProofs only [PlanX.pl,List.length_map]; exact h.c,fun a ha=>?_⟩
 obtain ⟨x,hx,rfl⟩:=List.mem_map.1 ha
 exact h.ta x hx
theorem Fk {P:Program} {f:FuncId} {args:List AV} {H:Heap} {K:AV→Heap→Prop} (h:CallW P f args Heap.none K) :
  CallW P f args H fun r H'=>∃H1,K r H1∧(∀k x,H1 k=some x→H' k=some x∧H k=none)∧∀k x,H k=some x→H' k=some x:=by
 classical
 intro F w vs hh hv
 have hh0:HRel P F Heap.none w:=⟨fun b x hb=>(by cases hb),fun b x hb=>(by cases hb),hh.old⟩
 refine (h F w vs hh0 hv).mono fun e w' hr=>?_
 obtain ⟨r,H1,F',v,rfl,h1,h2,h3,h4⟩:=hr
 have hkeep:∀k,k<w.heap.size→w'.heap[k]? = w.heap[k]?:=fun k hk=>h3.keep k hk rfl
 have hnew:∀k x,H1 k=some x→w.heap.size≤k∧H k=none:=fun k x hx=>by
  rcases h3.dom k (by rw [hx]; simp) with e | e
  ·exact absurd rfl e
  ·exact ⟨e,hh.fresh e⟩
 refine ⟨r,fun k=>if H k=none then H1 k else H k,F',v,rfl,h1,⟨fun b x hb=>?_,fun b x hb hf=>?_,h2.old⟩,⟨h3.os,h3.tape,h3.output,h3.size,fun k hk _=>hkeep k hk,fun k hk=>?_,h3.mono,fun k hk=>?_⟩,H1,h4,fun k x hx=>?_,fun k x hx=>?_⟩
 ·split at hb
  ·exact h2.at_ b x hb
  ·exact (hh.at_ b x hb).mono (hkeep b (hh.at_ b x hb).lt) h3.mono (fun k hk=>hkeep k (hh.old k hk))
 ·split at hb
  ·exact h2.apart b x hb hf
  ·rcases h3.new b hf with e | e | e
   ·exact hh.apart b x hb e
   ·exact e rfl
   ·have:=(hh.at_ b x hb).lt; omega
 ·replace hk:(if H k=none then H1 k else H k)≠none:=hk
  split at hk
  ·next e =>
   cases hx:H1 k with
   | none=>exact absurd hx hk
   | some x=>exact .inr (hnew k x hx).1
  ·exact .inl hk
 ·rcases h3.new k hk with e | e | e
  ·exact .inl e
  ·exact absurd rfl e
  ·exact .inr (.inr e)
 ·exact ⟨by show (if H k=none then H1 k else H k)=some x; rw [if_pos (hnew k x hx).2]; exact hx,(hnew k x hx).2⟩
 ·show (if H k=none then H1 k else H k)=some x
  rw [if_neg (by rw [hx]; simp)]; exact hx
theorem Fp {H H1 H':Heap} {A B:List (Nat×Blk)} (h1:∀k x,H1 k=some x→H' k=some x∧H k=none) (h2:∀k x,H k=some x→H' k=some x) (ha:AX H1 A) (hb:AX H B) (na:(AQ A).Nodup) (nb:(AQ B).Nodup):AX H' (A++B)∧(AQ (A++B)).Nodup:=by
 refine ⟨Ac.2 ⟨ER.2 fun q hq=>(h1 _ _ (ER.1 ha q hq)).1,ER.2 fun q hq=>h2 _ _ (ER.1 hb q hq)⟩,?_⟩
 simp -implicitDefEqProofs only [AQ,List.map_append] at na nb ⊢
 refine List.nodup_append.2 ⟨na,nb,fun x hx y hy e=>?_⟩
 subst e
 obtain ⟨q,hq,rfl⟩:=List.mem_map.1 hx
 obtain ⟨s,hs,e⟩:=List.mem_map.1 hy
 have e1:=(h1 _ _ (ER.1 ha q hq)).2
 have e2:=ER.1 hb s hs
 rw [e,e1] at e2; cases e2
theorem IB {P:Program} {Q:Out→St→Prop} {k:List Item} {s:St} {d:Option Nat} {l:List AO} {e:TypeId} {sz bytes:Nat} {z:List AV} {xs:List (List D)} {y:List D} {r x:AV} {A B:List (Nat×Blk)} (hr:EY r sz xs.length) (hx:∀K,Er s.H x K=K sz [y]) (hz:z.length=sz) (hall:AX s.H (A++(AN e r xs++B))) (hn:(AQ (A++(AN e r xs++B))).Nodup) (hbd:(xs.length+1)*bytes≤140737488355328∧xs.length+1≤maxLen)
  (hk:∀r' H',EY r' sz (xs.length+1)→AX H' (A++(AN e r' (xs++[y])++B))→(AQ (A++(AN e r' (xs++[y])++B))).Nodup→AF P Q l k (AD s d r' H')):Fo e sz bytes z r x d l k s P Q:=by
 rcases hr with ⟨h0,q,rfl⟩ | ⟨b,cap,rfl⟩
 ·obtain rfl:xs=[]:=List.eq_nil_of_length_eq_zero h0
  rw [MJ,List.nil_append] at hall hn
  refine Ot hx hz (by simpa using hbd) (fun h=>by cases h) (fun _ b hb cap=>?_)
  have ha:=Ac.1 (E5 (y:=some (.row e sz cap [y])) hb hall)
  have hf:=Fl hb hall
  refine hk _ _ (.inr ⟨b,cap,rfl⟩) (Ac.2 ⟨ha.1,EN,ha.2⟩) ?_
  simp -implicitDefEqProofs only [Gr,AQ,List.map_append,List.map_cons,List.map_nil,List.cons_append,List.nil_append] at hn hf ⊢
  exact (List.perm_middle.nodup_iff).2 (List.nodup_cons.2 ⟨hf,hn⟩)
 ·rw [Gr,List.cons_append,List.nil_append] at hall hn
  have ha:=Ac.1 hall
  simp -implicitDefEqProofs only [AQ,List.map_append,List.map_cons] at hn
  have hn':=List.nodup_cons.1 ((List.perm_middle.nodup_iff).1 hn)
  have hne:∀q∈A++B,¬q.1=b:=fun q hq e=>hn'.1 (by rw [←List.map_append,←e]; exact List.mem_map.2 ⟨q,hq,rfl⟩)
  refine G5 hx ha.2.1 rfl hz (by simpa using hbd) (fun b' cap' H' h1 h2=>?_)
  have h3:∀q∈A++B,H' q.1=some q.2∧¬q.1=b':=fun q hq=>by
   have hs:s.H q.1=some q.2:=by
    rcases List.mem_append.1 hq with h | h
    ·exact ER.1 ha.1 q h
    ·exact ER.1 ha.2.2 q h
   have:=h2 q.1 q.2 hs (hne q hq)
   exact ⟨this.1,this.2.1⟩
  refine hk _ _ (.inr ⟨b',cap',rfl⟩) (Ac.2 ⟨ER.2 fun q hq=>(h3 q (List.mem_append.2 (.inl hq))).1,h1,ER.2 fun q hq=>(h3 q (List.mem_append.2 (.inr hq))).1⟩) ?_
  simp -implicitDefEqProofs only [Gr,AQ,List.map_append,List.map_cons,List.map_nil,List.cons_append,List.nil_append]
  refine (List.perm_middle.nodup_iff).2 (List.nodup_cons.2 ⟨fun h=>?_,hn'.2⟩)
  rw [←List.map_append] at h
  obtain ⟨q,hq,e⟩:=List.mem_map.1 h
  exact (h3 q hq).2 e
theorem Lj {α β:Type} {p : α→β→Bool}:∀{a:List α} {b:List β},An p a b=true→∀(i:Nat) (h1:i<a.length) (h2:i<b.length),p a[i] b[i]=true
 | [],_,_,i,h1,_=>by simp at h1
 | x::a,[],h,i,_,h2=>by simp at h2
 | x::a,y::b,h,0,_,_=>by simp -implicitDefEqProofs only [An,Bool.and_eq_true] at h; exact h.1
 | x::a,y::b,h,i+1,h1,h2=>by
  simp -implicitDefEqProofs only [An,Bool.and_eq_true] at h
  simpa using Lj h.2 i (by simpa using h1) (by simpa using h2)
theorem S5 {α β:Type} {p : α→β→Bool} {a:List α} {b:List β} {i:Nat} (h1:i<a.length) (h2:i<b.length) (h:p a[i] b[i]=false):An p a b=false:=by
 cases e:An p a b with
 | false=>rfl
 | true=>rw [Lj e i h1 h2] at h; cases h
theorem MM {α β:Type} {p : α→β→Bool}:∀{a:List α} {b:List β},a.length=b.length→(∀(i:Nat) (h1:i<a.length) (h2:i<b.length),p a[i] b[i]=true)→An p a b=true
 | [],[],_,_=>rfl
 | [],y::b,h,_=>by simp at h
 | x::a,[],h,_=>by simp at h
 | x::a,y::b,h,hp=>by
  simp -implicitDefEqProofs only [An,Bool.and_eq_true]
  exact ⟨hp 0 (by simp) (by simp),MM (by simpa using h) fun i h1 h2=>hp (i+1) (by simpa using h1) (by simpa using h2)⟩
theorem HO {α:Type} {p : α→α→Bool} (hp:∀x y,p x y=p y x):∀{a b:List α},An p a b=An p b a
 | [],[]=>rfl
 | [],y::b=>rfl
 | x::a,[]=>rfl
 | x::a,y::b=>by rw [An,An,hp,HO hp (a:=a)]
theorem KL (a b:DateX):FH a b=FH b a:=by simp [FH,eq_comm]
theorem K3 (a b:WinX):FP a b=FP b a:=by simp [FP,eq_comm,Bool.beq_comm]
theorem Ux (a b:Tier):FK a b=FK b a:=by simp [FK,eq_comm]
theorem QN (a b:Adj):FT a b=FT b a:=by simp [FT,eq_comm]
theorem Hu (a b:ByteArray):(a.toList == b.toList)=(b.toList == a.toList):=Bool.beq_comm
theorem Oh (a b:MeterX):FQ a b=FQ b a:=by rw [FQ,FQ,Hu,Hu a.un]; simp [eq_comm]
theorem Un (a b:FeeX):FS a b=FS b a:=by rw [FS,FS,K3]; simp [eq_comm]
theorem SJ (a b:ChX):EL a b=EL b a:=by
 rw [EL,EL,Hu,K3,HO Ux,HO QN (a:=a.ad)]
 simp -implicitDefEqProofs only [eq_comm]
theorem Fr (a b:PlanX):EW a b=EW b a:=by
 rw [EW,EW,Hu,Hu a.cu,KL,KL a.t,HO Oh,HO Un (a:=a.fs),HO SJ (a:=a.cs)]
theorem Kq {H:Heap}:∀{l:List (Nat×Blk)},AX H l→∀k,EX l k=none∨EX l k=H k
 | [],_,_=>.inl rfl
 | (b,x)::l,h,k=>by
  rw [Aq]
  by_cases e:k=b
  ·rw [if_pos e]
   subst e
   exact .inr h.1.symm
  ·rw [if_neg e]
   exact Kq h.2 k
abbrev sA:ByteArray:=⟨⟨[97]⟩⟩
abbrev sB:ByteArray:=⟨⟨[98]⟩⟩
theorem NH (s:ByteArray):DataW Try.prog P4 [.d (.str s)] (bv false):=by
 refine D9 Qz (by simp) ?_
 simp -implicitDefEqProofs -proj only [go_sem,seval,Rn]
 refine AU ?_
 simp
theorem QO (s t:ByteArray):DataW Try.prog Rh [.d (.str s),.d (.str t)] (bv (Op.bytesLess s.toList t.toList)):=by
 refine D9 P0 (by simp) ?_
 simp -implicitDefEqProofs -proj only [go_sem,seval]
 refine EF (NH s) ?_
 simp -implicitDefEqProofs -proj only [go_sem,seval,N5]
 exact AU rfl
theorem Pg:Op.bytesLess sA.toList sB.toList=true:=by decide +kernel
abbrev rowBA:List (List D):=[[.str sB],[.str sA]]
abbrev GE:List (List D):=[[.str sA],[.str sB]]
abbrev H2 (c cap:Nat) (xs:List (List D)):List (Nat×Blk):=[(c,.row 9 1 cap xs)]
theorem Oy {c cap cp:Nat}:CallW Try.prog SY [.own c 1 0 2 cp,i64 0,i64 2] (EX (H2 c cap rowBA)) fun _ H'=>H' c=some (.row 9 1 cap GE):=by
 have hall:∀xs,AX (EX (H2 c cap xs)) (H2 c cap xs):=fun xs=>FY (by simp [AQ])
 have hw1:IntKind.i64.wrap 1=1:=by decide
 have hw2:IntKind.i64.wrap 2=2:=by decide
 have hw0:IntKind.i64.wrap 0=0:=by decide
 refine D9 UW (by simp) ?_
 simp -implicitDefEqProofs -proj only [go_sem,seval,hw1]
 refine Ex (fun x:Nat=>x≤1) 49 (fun x=>[(0,.own c 1 0 2 cp),(1,i64 0),(2,i64 2),(6,i64 ((x:Int)+1))]) (fun x=>H2 c cap (if x=0 then rowBA else GE)) (fun x=>1-x) 0 (by omega) rfl ?_ ?_ ?_
 ·simp -implicitDefEqProofs -proj only [go_sem,seval,EP]
 ·simp -implicitDefEqProofs -proj only [go_sem,seval]
  exact hall _
 ·intro x hx
  rcases (by omega:x=0∨x=1) with rfl | rfl
  ·simp -implicitDefEqProofs -proj only [go_sem,seval]
   refine Ex (fun y:Nat=>y≤1) 49 (fun y=>[(0,.own c 1 0 2 cp),(1,i64 0),(2,i64 2),(6,i64 1),(7,i64 (1-(y:Int)))]) (fun y=>H2 c cap (if y=0 then rowBA else GE)) (fun y=>1-y) 0 (by omega) rfl ?_ ?_ ?_
   ·simp -implicitDefEqProofs -proj only [go_sem,seval,EP]
   ·simp -implicitDefEqProofs -proj only [go_sem,seval]
    exact hall _
   ·intro y hy
    rcases (by omega:y=0∨y=1) with rfl | rfl
    ·have hr:EX (H2 c cap rowBA) c=some (.row 9 1 cap rowBA):=(hall _).1
     have hw:IntKind.i64.wrap (1-1)=0:=by decide
     have hl:=QO sA sB
     rw [Pg] at hl
     simp -implicitDefEqProofs -proj only [go_sem,seval,hr]
     (repeat' (with_reducible refine En ?_ (fun h=>?_); (focus first | decide | omega); clear h; try simp -implicitDefEqProofs -proj only [go_sem,seval,eq_self,hr]))
     refine GW _ rfl (by simp) ?_
     simp -implicitDefEqProofs -proj only [go_sem,seval,hr]
     refine GW _ rfl (by simp) ?_
     simp -implicitDefEqProofs -proj only [go_sem,seval,hr]
     refine EF hl ?_
     simp -implicitDefEqProofs -proj only [go_sem,seval,hr]
     (repeat' (with_reducible refine En ?_ (fun h=>?_); (focus first | decide | omega); clear h; try simp -implicitDefEqProofs -proj only [go_sem,seval,eq_self,hr]))
     refine GW _ rfl (by simp) ?_
     simp -implicitDefEqProofs -proj only [go_sem,seval,hr]
     refine GW _ rfl (by simp) ?_
     simp -implicitDefEqProofs -proj only [go_sem,seval,hr]
     (repeat' (with_reducible refine En ?_ (fun h=>?_); (focus first | decide | omega); clear h; try simp -implicitDefEqProofs -proj only [go_sem,seval,eq_self,hr]))
     refine GO (cap:=cap) (t:=9) (xs:=rowBA) hr rfl (by simp) ?_
     simp -implicitDefEqProofs -proj only [go_sem,seval]
     (repeat' (with_reducible refine En ?_ (fun h=>?_); (focus first | decide | omega); clear h; try simp -implicitDefEqProofs -proj only [go_sem,seval,eq_self]))
     refine GO (cap:=cap) (t:=9) (xs:=[[.str sB],[.str sB]]) (by simp -implicitDefEqProofs -proj only [go_sem,seval]; rfl) rfl (by simp) ?_
     simp -implicitDefEqProofs -proj only [go_sem,seval,hw0]
     refine E3 1 (by omega) (by omega) rfl ?_ ?_
     ·simp -implicitDefEqProofs -proj only [go_sem,seval,EP]
     ·simp -implicitDefEqProofs -proj only [go_sem,seval,AX]
      try rfl
    ·simp -implicitDefEqProofs -proj only [go_sem,seval]
     refine E3 1 (by omega) (by omega) rfl ?_ ?_
     ·simp -implicitDefEqProofs -proj only [go_sem,seval,EP,hw2]
     ·simp -implicitDefEqProofs -proj only [go_sem,seval]
      exact hall _
  ·have hr:EX (H2 c cap GE) c=some (.row 9 1 cap GE):=(hall _).1
   simp -implicitDefEqProofs -proj only [go_sem,seval]
   try rfl
theorem OI {c cap cp:Nat} {lim:Int}:CallW Try.prog Ob [.own c 1 0 2 cp,i64 0,i64 2,i64 lim] (EX (H2 c cap rowBA)) fun _ H'=>H' c=some (.row 9 1 cap GE):=by
 have hall:∀xs,AX (EX (H2 c cap xs)) (H2 c cap xs):=fun xs=>FY (by simp [AQ])
 have hw2:IntKind.i64.wrap 2=2:=by decide
 refine D9 OC (by simp) ?_
 simp -implicitDefEqProofs -proj only [go_sem,seval]
 refine Ex (fun x:Nat=>x=0) 134 (fun x=>[(0,.own c 1 0 2 cp),(1,i64 0),(2,i64 2),(3,i64 lim)]) (fun x=>H2 c cap rowBA) (fun x=>x) 0 rfl rfl ?_ ?_ ?_
 ·simp -implicitDefEqProofs -proj only [go_sem,seval,EP]
 ·exact hall _
 ·rintro x rfl
  simp -implicitDefEqProofs -proj only [go_sem,seval,hw2]
  refine Ew Oy (fun r H' hk=>?_)
  simp -implicitDefEqProofs -proj only [go_sem,seval]
  exact hk
set_option maxRecDepth 100000 in
theorem Nb:DataW Try.prog N1 [.d (.int .u64 2)] (i64 2):=by
 refine D9 SN (by simp) ?_
 simp -implicitDefEqProofs -proj only [go_sem,seval]
 refine En (by decide +kernel) (fun _=>?_)
 exact AU (Ud (by decide +kernel))
theorem NV:DataW Try.prog My [.d (.int .u64 2)] (i64 2):=by
 refine D9 NX (by simp) ?_
 simp -implicitDefEqProofs -proj only [go_sem,seval]
 refine EF Nb ?_
 simp -implicitDefEqProofs -proj only [go_sem,seval]
 exact AU rfl
theorem OO {H:Heap} {c cap cp:Nat} (h:H c=some (.row 9 1 cap rowBA)):CallW Try.prog Pt [.own c 1 0 2 cp] H fun _ H'=>H' c=some (.row 9 1 cap GE)∧∀k x,¬k=c→H k=some x→H' k=some x:=by
 have hall:AX (EX (H2 c cap rowBA)) (H2 c cap rowBA):=FY (by simp [AQ])
 refine D9 OB (by simp) ?_
 have hw2:IntKind.u64.wrap 2=2:=by decide
 simp -implicitDefEqProofs -proj only [go_sem,seval,hw2]
 refine EF NV ?_
 simp -implicitDefEqProofs -proj only [go_sem,seval]
 refine Ew (U3 (OI (c:=c) (cap:=cap) (cp:=cp) (lim:=2)) (Kq ⟨h,trivial⟩)) (fun r H' hk=>?_)
 obtain ⟨H1,h1,h2,h3⟩:=hk
 simp -implicitDefEqProofs -proj only [go_sem,seval]
 refine ⟨h2 c _ h1,fun k x hk hx=>h3 k x hx ?_⟩
 simp -implicitDefEqProofs -proj only [go_sem,seval,hk]
 try rfl
abbrev s0:ByteArray:=⟨⟨[]⟩⟩
abbrev sP:ByteArray:=⟨⟨[112]⟩⟩
abbrev Ej (col:Int):List (List D):=[[.str sB,.str s0,.int .i64 0,.int .i64 0,.int .i64 col],[.str sA,.str s0,.int .i64 0,.int .i64 0,.int .i64 0]]
abbrev I9:List (List D):=[[.int .i64 5,.bool false,.int .i64 0,.int .i64 0,.int .i64 0,.int .i64 0,.int .i64 0,.int .i64 0,.int .i64 0,.int .i64 0]]
abbrev HK (M F:List (List D)) (ln:Int):List AV:=[.d (.str sP),.d (.str s0),i64 0,i64 0,i64 0,i64 0,i64 0,i64 0,.d (.sl 5 M),.d (.sl 10 F),.d (.sl 16 []),i64 ln,i64 0]
abbrev If (M F:List (List D)) (ln:Int):AV:=.agg (HK M F ln)
structure NmX where
 i:Nat
 c:Nat
 cap:Nat
theorem GR {i c cap:Nat}:(NmX.mk i c cap).i=i:=(rfl)
theorem Gq {i c cap:Nat}:(NmX.mk i c cap).c=c:=(rfl)
theorem Gg {i c cap:Nat}:(NmX.mk i c cap).cap=cap:=(rfl)
def IH (b1:Nat) (y:NmX):List (Nat×Blk):=HN 9 1 y.c y.cap (rowBA.take y.i)++[(b1,.box 28 (HK (Ej 0) [] 0))]
theorem Pw:NewW Try.prog SP [If (Ej 0) [] 0] (.d (.sl 1 GE)):=by
 have hw1:IntKind.i64.wrap 1=1:=by decide
 have hw2:IntKind.i64.wrap 2=2:=by decide
 refine D9 U1 (by simp) ?_
 simp -implicitDefEqProofs -proj only [go_sem,seval]
 refine Av (fun b1 hb1=>?_)
 have a1:=Fj (x:=.box 28 (HK (Ej 0) [] 0)) hb1 (l:=[]) trivial
 have k1:=Fb (x:=.box 28 (HK (Ej 0) [] 0)) hb1 (l:=[]) trivial List.nodup_nil
 simp -implicitDefEqProofs -proj only [go_sem,seval]
 refine Ex (fun y:NmX=>y.i≤2∧(AQ (IH b1 y)).Nodup) 22 (fun y=>[(1,.ptr b1 0),(3,Gb 0 1 y.c y.cap (rowBA.take y.i)),(7,.d (.sl 5 (Ej 0))),(8,i64 2),(9,i64 y.i)]) (IH b1) (fun y=>2-y.i) ⟨0,0,0⟩ ⟨Nat.zero_le _,k1⟩ rfl ?_ ?_ ?_
 ·simp -implicitDefEqProofs -proj only [go_sem,seval,EP,GR,Gq,Gg]
  try rfl
 ·simp -implicitDefEqProofs -proj only [go_sem,seval]
  exact a1
 ·rintro ⟨i,c,cap⟩ ⟨hi,hn⟩
  simp -implicitDefEqProofs only [GR] at hi
  have hall:=FY hn
  obtain ⟨H,hH⟩:∃H,EX (IH b1 ⟨i,c,cap⟩)=H:=⟨_,rfl⟩
  rw [hH] at hall
  simp -implicitDefEqProofs only [IH,GR,Gq,Gg] at hall hn
  obtain ⟨hrow,e1,_⟩:=Ac.1 hall
  rcases (by omega:i=0∨i=1∨i=2) with rfl | rfl | rfl
  ·simp -implicitDefEqProofs -proj only [go_sem,seval,GR,Gq,Gg,hH,e1]
   refine Es [.str sB,.str s0,.int .i64 0,.int .i64 0,.int .i64 0] (by decide) rfl ?_
   simp -implicitDefEqProofs -proj only [go_sem,seval]
   refine Av (fun b5 hb5=>?_)
   replace hb5:H b5=none:=hb5
   simp -implicitDefEqProofs -proj only [go_sem,seval]
   refine FE (fun bs hs'=>?_)
   have hall2:=E5 (y:=some (.box 34 [.d (.str sB),.d (.str s0),i64 0,i64 0,i64 0])) hb5 hall
   replace hs':AG H b5 _ bs=none:=hs'
   simp -implicitDefEqProofs -proj only [go_sem,seval]
   refine Lw (xs:=rowBA.take 0) (y:=[.str sB]) (t:=9) (capc:=1) [(b1,.box 28 (HK (Ej 0) [] 0))] rfl (E5 hs' hall2) hn (by simp -implicitDefEqProofs -proj only [go_sem,seval]) (by decide) (by decide) (fun H' c' cap' ha hk=>?_)
   simp -implicitDefEqProofs -proj only [go_sem,seval,hw1]
   refine E3 ⟨1,c',cap'⟩ ⟨by show 1≤2; omega,hk⟩ (by show 2-1<2-0; omega) rfl ?_ ha
   simp -implicitDefEqProofs -proj only [go_sem,seval,EP,GR,Gq,Gg,hw1]
   try rfl
  ·simp -implicitDefEqProofs -proj only [go_sem,seval,GR,Gq,Gg,hH,e1]
   refine Es [.str sA,.str s0,.int .i64 0,.int .i64 0,.int .i64 0] (by decide) rfl ?_
   simp -implicitDefEqProofs -proj only [go_sem,seval]
   refine Av (fun b5 hb5=>?_)
   replace hb5:H b5=none:=hb5
   simp -implicitDefEqProofs -proj only [go_sem,seval]
   refine FE (fun bs hs'=>?_)
   have hall2:=E5 (y:=some (.box 34 [.d (.str sA),.d (.str s0),i64 0,i64 0,i64 0])) hb5 hall
   replace hs':AG H b5 _ bs=none:=hs'
   simp -implicitDefEqProofs -proj only [go_sem,seval]
   refine Lw (xs:=rowBA.take 1) (y:=[.str sA]) (t:=9) (capc:=1) [(b1,.box 28 (HK (Ej 0) [] 0))] rfl (E5 hs' hall2) hn (by simp -implicitDefEqProofs -proj only [go_sem,seval]) (by decide) (by decide) (fun H' c' cap' ha hk=>?_)
   simp -implicitDefEqProofs -proj only [go_sem,seval,hw2]
   refine E3 ⟨2,c',cap'⟩ ⟨by show 2≤2; omega,hk⟩ (by show 2-2<2-1; omega) rfl ?_ ha
   simp -implicitDefEqProofs -proj only [go_sem,seval,EP,GR,Gq,Gg,hw2]
   try rfl
  ·simp -implicitDefEqProofs -proj only [go_sem,seval,GR,Gq,Gg,hH]
   refine Ew (OO (cap:=cap) hrow.1) (fun r H' hk=>?_)
   obtain ⟨h1,h2⟩:=hk
   simp -implicitDefEqProofs -proj only [go_sem,seval]
   exact .own _ _ _ _ _ GE h1 (by intro el he d hd; simp -implicitDefEqProofs only [List.mem_cons,List.not_mem_nil,or_false] at he; rcases he with rfl | rfl <;> (simp -implicitDefEqProofs only [List.mem_cons,List.not_mem_nil,or_false] at hd; subst hd; rfl))
theorem Lt {x y:ByteArray} {c d:Int} (h:x.toList == y.toList):DataW Try.prog H6 [.agg [.d (.str x),.d (.str s0),i64 0,i64 0,i64 c],.agg [.d (.str y),.d (.str s0),i64 0,i64 0,i64 d]] (bv true):=by
 refine D9 LP (by simp) ?_
 simp -implicitDefEqProofs -proj only [go_sem,seval]
 refine Av (fun b2 hb2=>?_)
 simp -implicitDefEqProofs -proj only [go_sem,seval]
 refine Av (fun b3 hb3=>?_)
 replace hb3:AG Heap.none b2 _ b3=none:=hb3
 obtain ⟨n1,n2⟩:=EZ hb3 EN
 simp -implicitDefEqProofs -proj only [go_sem,seval,n1,n2,Ea,h,beq_self_eq_true,decide_eq_true (rfl:(0:Int)=0)]
 exact AU rfl
theorem Nt {c d:Int}:DataW Try.prog LK [.d (.sl 5 (Ej c)),.d (.sl 5 (Ej d)),.fn H6 []] (bv true):=by
 have hw1:IntKind.i64.wrap 1=1:=by decide
 have hw2:IntKind.i64.wrap 2=2:=by decide
 refine D9 Li (by simp) ?_
 simp -implicitDefEqProofs -proj only [go_sem,seval]
 refine Ex (fun i:Nat=>i≤2) 32 (fun i=>[(0,.d (.sl 5 (Ej c))),(1,.d (.sl 5 (Ej d))),(2,.fn H6 []),(15,.d (.sl 5 (Ej c))),(16,i64 2),(17,i64 i)]) (fun _=>[]) (fun i=>2-i) 0 (by omega) rfl ?_ ?_ ?_
 ·simp -implicitDefEqProofs -proj only [go_sem,seval,EP]
  try rfl
 ·simp -implicitDefEqProofs -proj only [go_sem,seval,AX]
 ·intro i hi
  rcases (by omega:i=0∨i=1∨i=2) with rfl | rfl | rfl
  ·simp -implicitDefEqProofs -proj only [go_sem,seval]
   refine Es [.str sB,.str s0,.int .i64 0,.int .i64 0,.int .i64 c] (by decide) rfl ?_
   simp -implicitDefEqProofs -proj only [go_sem,seval]
   refine Av (fun b8 hb8=>?_)
   simp -implicitDefEqProofs -proj only [go_sem,seval]
   refine Es [.str sB,.str s0,.int .i64 0,.int .i64 0,.int .i64 d] (by decide) rfl ?_
   simp -implicitDefEqProofs -proj only [go_sem,seval]
   refine Av (fun b9 hb9=>?_)
   simp -implicitDefEqProofs only [AL] at hb9
   have n1:¬b8=b9:=fun e=>by subst e; simp at hb9
   have n2:¬b9=b8:=fun e=>n1 e.symm
   simp -implicitDefEqProofs -proj only [go_sem,seval,n1,n2]
   refine EF (Lt (by simp)) ?_
   simp -implicitDefEqProofs -proj only [go_sem,seval,hw1]
   refine E3 1 (by omega) (by omega) rfl ?_ trivial
   simp -implicitDefEqProofs -proj only [go_sem,seval,EP,hw1]
   try rfl
  ·simp -implicitDefEqProofs -proj only [go_sem,seval]
   refine Es [.str sA,.str s0,.int .i64 0,.int .i64 0,.int .i64 0] (by decide) rfl ?_
   simp -implicitDefEqProofs -proj only [go_sem,seval]
   refine Av (fun b8 hb8=>?_)
   simp -implicitDefEqProofs -proj only [go_sem,seval]
   refine Es [.str sA,.str s0,.int .i64 0,.int .i64 0,.int .i64 0] (by decide) rfl ?_
   simp -implicitDefEqProofs -proj only [go_sem,seval]
   refine Av (fun b9 hb9=>?_)
   simp -implicitDefEqProofs only [AL] at hb9
   have n1:¬b8=b9:=fun e=>by subst e; simp at hb9
   have n2:¬b9=b8:=fun e=>n1 e.symm
   simp -implicitDefEqProofs -proj only [go_sem,seval,n1,n2]
   refine EF (Lt (by simp)) ?_
   simp -implicitDefEqProofs -proj only [go_sem,seval,hw2]
   refine E3 2 (by omega) (by omega) rfl ?_ trivial
   simp -implicitDefEqProofs -proj only [go_sem,seval,EP,hw2]
   try rfl
  ·simp -implicitDefEqProofs -proj only [go_sem,seval]
   exact AU rfl
theorem Pp {c d:Int}:DataW Try.prog MB [.d (.sl 5 (Ej c)),.d (.sl 5 (Ej d)),.fn H6 []] (bv true):=by
 refine D9 KU (by simp) ?_
 simp -implicitDefEqProofs -proj only [go_sem,seval]
 refine EF Nt ?_
 simp -implicitDefEqProofs -proj only [go_sem,seval]
 exact AU rfl
theorem R5:DataW Try.prog Lk [.d (.sl 16 []),.d (.sl 16 []),.fn I2 []] (bv true):=by
 have h:DataW Try.prog K4 [.d (.sl 16 []),.d (.sl 16 []),.fn I2 []] (bv true):=by
  refine D9 KS (by simp) ?_
  simp -implicitDefEqProofs -proj only [go_sem,seval]
  refine Ex (fun i:Nat=>i=0) 32 (fun i=>[(16,i64 0),(17,i64 0)]) (fun _=>[]) (fun i=>i) 0 rfl rfl ?_ ?_ ?_
  ·simp -implicitDefEqProofs -proj only [go_sem,seval,EP]
  ·simp -implicitDefEqProofs -proj only [go_sem,seval,AX]
  ·rintro i rfl
   simp -implicitDefEqProofs -proj only [go_sem,seval]
   exact AU rfl
 refine D9 Ke (by simp) ?_
 simp -implicitDefEqProofs -proj only [go_sem,seval]
 refine EF h ?_
 simp -implicitDefEqProofs -proj only [go_sem,seval]
 exact AU rfl
theorem Kf {F:List (List D)} (hF:F=[]∨F=I9):DataW Try.prog JC [.d (.sl 10 []),.d (.sl 10 F),.fn Ig []] (bv (decide (F.length=0))):=by
 have h:DataW Try.prog LU [.d (.sl 10 []),.d (.sl 10 F),.fn Ig []] (bv (decide (F.length=0))):=by
  refine D9 Lz (by simp) ?_
  rcases hF with rfl | rfl
  ·simp -implicitDefEqProofs -proj only [go_sem,seval]
   refine Ex (fun i:Nat=>i=0) 32 (fun i=>[(16,i64 0),(17,i64 0)]) (fun _=>[]) (fun i=>i) 0 rfl rfl ?_ ?_ ?_
   ·simp -implicitDefEqProofs -proj only [go_sem,seval,EP]
   ·simp -implicitDefEqProofs -proj only [go_sem,seval,AX]
   ·rintro i rfl
    simp -implicitDefEqProofs -proj only [go_sem,seval]
    exact AU rfl
  ·simp -implicitDefEqProofs -proj only [go_sem,seval]
   exact AU rfl
 refine D9 MQ (by simp) ?_
 simp -implicitDefEqProofs -proj only [go_sem,seval]
 refine EF h ?_
 simp -implicitDefEqProofs -proj only [go_sem,seval]
 exact AU rfl
theorem Kr {c d e:Int} {F:List (List D)} {u:Bool} (h2:DataW Try.prog JC [.d (.sl 10 []),.d (.sl 10 F),.fn Ig []] (bv u)):DataW Try.prog ML [If (Ej c) [] 0,If (Ej d) F e] (bv u):=by
 have h1:=Pp (c:=c) (d:=d)
 have h3:=R5
 refine D9 Ki (by simp) ?_
 simp -implicitDefEqProofs -proj only [go_sem,seval]
 refine Av (fun b2 hb2=>?_)
 simp -implicitDefEqProofs -proj only [go_sem,seval]
 refine Av (fun b3 hb3=>?_)
 replace hb3:AG Heap.none b2 _ b3=none:=hb3
 obtain ⟨n1,n2⟩:=EZ hb3 EN
 simp -implicitDefEqProofs -proj only [go_sem,seval,n1,n2,Ea,beq_self_eq_true,decide_eq_true (rfl:(0:Int)=0)]
 refine EF h1 ?_
 simp -implicitDefEqProofs -proj only [go_sem,seval,n1,n2]
 refine EF h2 ?_
 cases u
 ·simp -implicitDefEqProofs -proj only [go_sem,seval,n1,n2]
  exact AU rfl
 ·simp -implicitDefEqProofs -proj only [go_sem,seval,n1,n2]
  refine EF h3 ?_
  simp -implicitDefEqProofs -proj only [go_sem,seval]
  exact AU rfl
theorem SQ:(sB.toList == sA.toList)=false:=by decide +kernel
theorem LL {H:Heap} {b:Nat} {x y:ByteArray} {c:Int} {z:Bool} (hb:H b=some (.box 9 [.d (.str y)])) (h:(x.toList == y.toList)=z):CallW Try.prog IL [.agg [.d (.str x),.d (.str s0),i64 0,i64 0,i64 c],.ptr b 0] H fun r H'=>r=bv z∧H' b=some (.box 9 [.d (.str y)]):=by
 refine D9 NG (by simp) ?_
 simp -implicitDefEqProofs -proj only [go_sem,seval]
 refine Av (fun b2 hb2=>?_)
 replace hb2:H b2=none:=hb2
 obtain ⟨n1,n2⟩:=EZ hb2 hb
 simp -implicitDefEqProofs -proj only [go_sem,seval,n1,n2,hb,Ea,h]
theorem TR {H:Heap} {b:Nat} (hb:H b=some (.box 9 [.d (.str sA)])):CallW Try.prog PL [.d (.sl 5 (Ej 0)),.fn IL [.ptr b 0]] H fun r _=>r=i64 1:=by
 have hw1:IntKind.i64.wrap 1=1:=by decide
 have hall:AX (EX [(b,.box 9 [.d (.str sA)])]) [(b,.box 9 [.d (.str sA)])]:=FY (by simp [AQ])
 refine D9 SU (by simp) ?_
 simp -implicitDefEqProofs -proj only [go_sem,seval]
 refine Ex (fun i:Nat=>i≤1) 19 (fun i=>[(0,.d (.sl 5 (Ej 0))),(1,.fn IL [.ptr b 0]),(6,.d (.sl 5 (Ej 0))),(7,i64 2),(8,i64 i)]) (fun _=>[(b,.box 9 [.d (.str sA)])]) (fun i=>2-i) 0 (by omega) rfl ?_ ?_ ?_
 ·simp -implicitDefEqProofs -proj only [go_sem,seval,EP]
  try rfl
 ·exact ⟨hb,trivial⟩
 ·intro i hi
  rcases (by omega:i=0∨i=1) with rfl | rfl
  ·simp -implicitDefEqProofs -proj only [go_sem,seval]
   refine Es [.str sB,.str s0,.int .i64 0,.int .i64 0,.int .i64 0] (by decide) rfl ?_
   simp -implicitDefEqProofs -proj only [go_sem,seval]
   refine Ew (LL hall.1 SQ) (fun r H' hk=>?_)
   obtain ⟨rfl,hk⟩:=hk
   simp -implicitDefEqProofs -proj only [go_sem,seval,hw1]
   refine E3 1 (by omega) (by omega) rfl ?_ ⟨hk,trivial⟩
   simp -implicitDefEqProofs -proj only [go_sem,seval,EP,hw1]
   try rfl
  ·simp -implicitDefEqProofs -proj only [go_sem,seval]
   refine Es [.str sA,.str s0,.int .i64 0,.int .i64 0,.int .i64 0] (by decide) rfl ?_
   simp -implicitDefEqProofs -proj only [go_sem,seval]
   refine Ew (LL (z:=true) hall.1 (by simp)) (fun r H' hk=>?_)
   obtain ⟨rfl,hk⟩:=hk
   simp -implicitDefEqProofs -proj only [go_sem,seval,hw1]
   try rfl
theorem U2 {H:Heap} {b:Nat} (hb:H b=some (.box 9 [.d (.str sA)])):CallW Try.prog Sz [.d (.sl 5 (Ej 0)),.fn IL [.ptr b 0]] H fun r _=>r=i64 1:=by
 refine D9 ND (by simp) ?_
 simp -implicitDefEqProofs -proj only [go_sem,seval]
 refine Ew (TR hb) (fun r H' hk=>?_)
 subst hk
 simp -implicitDefEqProofs -proj only [go_sem,seval]
theorem OJ:DataW Try.prog QL [If (Ej 0) [] 0,.d (.str sA)] (i64 1):=by
 refine D9 Og (by simp) ?_
 simp -implicitDefEqProofs -proj only [go_sem,seval]
 refine Av (fun b2 hb2=>?_)
 simp -implicitDefEqProofs -proj only [go_sem,seval]
 refine Av (fun b3 hb3=>?_)
 replace hb3:AG Heap.none b2 _ b3=none:=hb3
 obtain ⟨n1,n2⟩:=EZ hb3 EN
 simp -implicitDefEqProofs -proj only [go_sem,seval,n1,n2]
 refine Ew (U2 (by simp -implicitDefEqProofs -proj only [go_sem,seval])) (fun r H' hk=>?_)
 subst hk
 simp -implicitDefEqProofs -proj only [go_sem,seval]
 exact AU rfl
theorem HA {H:Heap} {m f c m' f' c':AV} {n d:AV} {a1 a2 a3 a4 a5 a6 a7 a8:AV} (h1:LendV H m m') (h2:LendV H f f') (h3:LendV H c c'):LendV H (.agg [n,d,a1,a2,a3,a4,a5,a6,m,f,c,a7,a8]) (.agg [n,d,a1,a2,a3,a4,a5,a6,m',f',c',a7,a8]):=by
 refine .aggL ?_
 iterate 8 refine AT (.refl _) ?_
 exact AT h1 (AT h2 (AT h3 (LendL.refl _)))
theorem FV:DataW Try.prog Tv [] (bv true):=by
 have h0:=Pw
 have h1:=Kr (c:=0) (d:=0) (e:=0) (F:=[]) (u:=true) (Kf (.inl rfl))
 have h2:=Kr (c:=0) (d:=7) (e:=3) (F:=I9) (u:=false) (Kf (.inr rfl))
 have h3:=OJ
 refine D9 PM (by simp) ?_
 simp -implicitDefEqProofs -proj only [go_sem,seval]
 refine FE (fun bs hs=>?_)
 simp -implicitDefEqProofs -proj only [go_sem,seval]
 refine Av (fun b1 hb1=>?_)
 replace hb1:AG Heap.none bs _ b1=none:=hb1
 obtain ⟨n1,n2⟩:=EZ hb1 EN
 simp -implicitDefEqProofs -proj only [go_sem,seval,n1,n2]
 refine FE (fun br hr=>?_)
 simp -implicitDefEqProofs only [AL,n1,n2,↓reduceIte] at hr
 have n3:¬b1=br:=fun e=>by subst e; simp [n1,n2] at hr
 have n4:¬bs=br:=fun e=>by subst e; simp [n1,n2] at hr
 have n5:¬br=b1:=fun e=>n3 e.symm
 have n6:¬br=bs:=fun e=>n4 e.symm
 simp -implicitDefEqProofs -proj only [go_sem,seval,n1,n2,n3,n4,n5,n6]
 refine FE (fun bq hq=>?_)
 simp -implicitDefEqProofs only [AL,n1,n2,n3,n4,n5,n6,↓reduceIte] at hq
 have m1:¬b1=bq:=fun e=>by subst e; simp [n1,n2,n3,n4,n5,n6] at hq
 have m2:¬bs=bq:=fun e=>by subst e; simp [n1,n2,n3,n4,n5,n6] at hq
 have m3:¬br=bq:=fun e=>by subst e; simp [n1,n2,n3,n4,n5,n6] at hq
 have m4:¬bq=b1:=fun e=>m1 e.symm
 have m5:¬bq=bs:=fun e=>m2 e.symm
 have m6:¬bq=br:=fun e=>m3 e.symm
 simp -implicitDefEqProofs -proj only [go_sem,seval,n1,n2,n3,n4,n5,n6,m1,m2,m3,m4,m5,m6]
 refine Av (fun b2 hb2=>?_)
 simp -implicitDefEqProofs only [AL,n1,n2,n3,n4,n5,n6,m1,m2,m3,m4,m5,m6,↓reduceIte] at hb2
 have k1:¬b1=b2:=fun e=>by subst e; simp [n1,n2,n3,n4,n5,n6,m1,m2,m3,m4,m5,m6] at hb2
 have k2:¬bs=b2:=fun e=>by subst e; simp [n1,n2,n3,n4,n5,n6,m1,m2,m3,m4,m5,m6] at hb2
 have k3:¬br=b2:=fun e=>by subst e; simp [n1,n2,n3,n4,n5,n6,m1,m2,m3,m4,m5,m6] at hb2
 have k4:¬bq=b2:=fun e=>by subst e; simp [n1,n2,n3,n4,n5,n6,m1,m2,m3,m4,m5,m6] at hb2
 have k5:¬b2=b1:=fun e=>k1 e.symm
 have k6:¬b2=bs:=fun e=>k2 e.symm
 have k7:¬b2=br:=fun e=>k3 e.symm
 have k8:¬b2=bq:=fun e=>k4 e.symm
 simp -implicitDefEqProofs -proj only [go_sem,seval,n1,n2,n3,n4,n5,n6,m1,m2,m3,m4,m5,m6,k1,k2,k3,k4,k5,k6,k7,k8]
 refine NN h0 (AT (HA (Gv (xs:=Ej 0) (by simp -implicitDefEqProofs -proj only [go_sem,seval,n1,n2,n3,n4,n5,n6,m1,m2,m3,m4,m5,m6,k1,k2,k3,k4,k5,k6,k7,k8]; try rfl) rfl) (.nilsl _ _) (.nilsl _ _)) Ee) ?_
 simp -implicitDefEqProofs -proj only [go_sem,seval,n1,n2,n3,n4,n5,n6,m1,m2,m3,m4,m5,m6,k1,k2,k3,k4,k5,k6,k7,k8]
 refine Ek h1 (AT (HA (Gv (xs:=Ej 0) (by simp -implicitDefEqProofs -proj only [go_sem,seval,n1,n2,n3,n4,n5,n6,m1,m2,m3,m4,m5,m6,k1,k2,k3,k4,k5,k6,k7,k8]; try rfl) rfl) (.nilsl _ _) (.nilsl _ _)) (AT (HA (Gv (xs:=Ej 0) (by simp -implicitDefEqProofs -proj only [go_sem,seval,n1,n2,n3,n4,n5,n6,m1,m2,m3,m4,m5,m6,k1,k2,k3,k4,k5,k6,k7,k8]; try rfl) rfl) (.nilsl _ _) (.nilsl _ _)) Ee)) rfl ?_
 simp -implicitDefEqProofs -proj only [go_sem,seval,n1,n2,n3,n4,n5,n6,m1,m2,m3,m4,m5,m6,k1,k2,k3,k4,k5,k6,k7,k8]
 refine Ek h2 (AT (HA (Gv (xs:=Ej 0) (by simp -implicitDefEqProofs -proj only [go_sem,seval,n1,n2,n3,n4,n5,n6,m1,m2,m3,m4,m5,m6,k1,k2,k3,k4,k5,k6,k7,k8]; try rfl) rfl) (.nilsl _ _) (.nilsl _ _)) (AT (HA (Gv (xs:=Ej 7) (by simp -implicitDefEqProofs -proj only [go_sem,seval,n1,n2,n3,n4,n5,n6,m1,m2,m3,m4,m5,m6,k1,k2,k3,k4,k5,k6,k7,k8]; try rfl) rfl) (Gv (xs:=I9) (by simp -implicitDefEqProofs -proj only [go_sem,seval,n1,n2,n3,n4,n5,n6,m1,m2,m3,m4,m5,m6,k1,k2,k3,k4,k5,k6,k7,k8]; try rfl) rfl) (.nilsl _ _)) Ee)) rfl ?_
 simp -implicitDefEqProofs -proj only [go_sem,seval,n1,n2,n3,n4,n5,n6,m1,m2,m3,m4,m5,m6,k1,k2,k3,k4,k5,k6,k7,k8]
 refine Ek h3 (AT (HA (Gv (xs:=Ej 0) (by simp -implicitDefEqProofs -proj only [go_sem,seval,n1,n2,n3,n4,n5,n6,m1,m2,m3,m4,m5,m6,k1,k2,k3,k4,k5,k6,k7,k8]; try rfl) rfl) (.nilsl _ _) (.nilsl _ _)) (AT (.refl _) Ee)) rfl ?_
 simp -implicitDefEqProofs -proj only [go_sem,seval,n1,n2,n3,n4,n5,n6,m1,m2,m3,m4,m5,m6,k1,k2,k3,k4,k5,k6,k7,k8]
 refine Es [.str sA] (by decide) rfl ?_
 simp -implicitDefEqProofs -proj only [go_sem,seval,Ea,beq_self_eq_true]
 exact AU rfl
abbrev sZ:ByteArray:=⟨⟨[122]⟩⟩
theorem Nh (x:ByteArray):(x.toList == (x++sZ).toList)=false:=by
 cases h:x.toList == (x++sZ).toList with
 | false=>rfl
 | true =>
  have:=congrArg ByteArray.size (N3.1 h)
  rw [ByteArray.size_append] at this
  have e:sZ.size=1:=rfl
  omega
theorem JK {d:Int} (h:Fit d):¬d=IntKind.i64.wrap (d+1):=by
 rw [IntKind.wrap_i64]; unfold Fit at h; omega
theorem GenS.off {M:List MeterX} {F:List FeeX} {X:List ChX} {m f c:AV} {H:Heap} {B:List (Nat×Blk)} (hm:EY m 5 M.length) (hf:EY f 10 F.length) (hc:EY c 16 X.length) (ha:AX H ((AN 55 c (AY X)++(AN 51 f (EC F)++AN 34 m (EB M)))++B)) (hn:(AQ ((AN 55 c (AY X)++(AN 51 f (EC F)++AN 34 m (EB M)))++B)).Nodup):GenS M F X m f c H :=
 ⟨hm,hf,hc,(Ac.1 ha).1,by simp -implicitDefEqProofs only [AQ,List.map_append] at hn ⊢; exact (List.nodup_append.1 hn).1⟩
theorem RR (k:Int):∃n:Nat,n<12∧IntKind.i64.wrap ((IntKind.u64.wrap k).tmod 12)=n:=by
 have h0:0≤IntKind.u64.wrap k:=by rw [IntKind.wrap_u64]; omega
 have h1:(IntKind.u64.wrap k).tmod 12=IntKind.u64.wrap k % 12:=Int.tmod_eq_emod_of_nonneg h0
 have h2:IntKind.i64.wrap ((IntKind.u64.wrap k).tmod 12)=IntKind.u64.wrap k % 12:=by rw [h1,IntKind.wrap_i64]; omega
 exact ⟨(IntKind.u64.wrap k % 12).toNat,by omega,by rw [h2]; omega⟩
theorem Sy {a:PlanX} (fa:a.Fit) (la:a.Lo) (g1:¬E0 a) {i k:Int} (hk:IntKind.i64.wrap ((IntKind.u64.wrap k).tmod 12)=0):DataW Try.prog Fc [Ev a,i64 i,i64 k] (bv true):=by
 refine D9 FW (by simp) ?_
 simp -implicitDefEqProofs -proj only [go_sem,seval]
 refine Av (fun b3 hb3=>?_)
 simp -implicitDefEqProofs -proj only [go_sem,seval]
 refine EF FV ?_
 simp -implicitDefEqProofs -proj only [go_sem,seval]
 refine EF Fd ?_
 rw [decide_eq_false g1]
 simp -implicitDefEqProofs -proj only [go_sem,seval]
 refine Ew (Fk (F7 la.sm)) (fun r H' hk'=>?_)
 obtain ⟨H1,⟨m,f,c,rfl,hg⟩,u1,u2⟩:=hk'
 replace u2:∀k x,AG Heap.none b3 (some (.box 28 a.cells)) k=some x→H' k=some x:=u2
 obtain ⟨hall,hnd⟩:=Fp (B:=[(b3,.box 28 a.cells)]) u1 u2 hg.all ⟨EN,trivial⟩ hg.nd (by simp [AQ])
 have hm:=hg.hm
 have hf:=hg.hf
 have hc:=hg.hc
 clear u1 u2 hg hb3
 simp -implicitDefEqProofs -proj only [go_sem,seval]
 refine Av (fun b7 hb7=>?_)
 replace hb7:H' b7=none:=hb7
 have h3:H' b3=some (.box 28 a.cells):=(Ac.1 hall).2.1
 obtain ⟨n1,n2⟩:=EZ hb7 h3
 have hk7:=Fl hb7 hall
 have hnm:(a.nm.size:Int)≤200:=Int.not_lt.1 fun h=>g1 (.inl (.inr (.inr (.inr (.inl h)))))
 have hz1:sZ.size=1:=rfl
 simp -implicitDefEqProofs -proj only [go_sem,seval,n1,n2,h3,hk]
 refine En (by show (a.nm.size+sZ.size:Nat)≤_; omega) (fun _=>?_)
 have sb:PlanX.Sm ⟨a.nm++sZ,a.cu,a.f,a.t,a.pl.ms,a.pl.fs,a.pl.cs,0,0⟩:=⟨la.pl.sm.m,la.pl.sm.f,la.pl.sm.c,la.pl.sm.ta⟩
 have hpe:EW a ⟨a.nm++sZ,a.cu,a.f,a.t,a.pl.ms,a.pl.fs,a.pl.cs,0,0⟩=false:=by simp -implicitDefEqProofs only [EW,Nh,Bool.false_and]
 have hg':GenS a.pl.ms a.pl.fs a.pl.cs m f c (AG H' b7 (some (.box 28 (Ad (PlanX.nm ⟨a.nm++sZ,a.cu,a.f,a.t,a.pl.ms,a.pl.fs,a.pl.cs,0,0⟩) a.cu a.f (PlanX.t ⟨a.nm++sZ,a.cu,a.f,a.t,a.pl.ms,a.pl.fs,a.pl.cs,0,0⟩) m f c (PlanX.ln ⟨a.nm++sZ,a.cu,a.f,a.t,a.pl.ms,a.pl.fs,a.pl.cs,0,0⟩) (PlanX.co ⟨a.nm++sZ,a.cu,a.f,a.t,a.pl.ms,a.pl.fs,a.pl.cs,0,0⟩))))):=GenS.off hm hf hc (E5 hb7 hall) hnd
 refine Ek (Em la.sm sb) (AT (.refl _) (AT (GenS.lend (p:=⟨a.nm++sZ,a.cu,a.f,a.t,a.pl.ms,a.pl.fs,a.pl.cs,0,0⟩) hg') Ee)) rfl ?_
 rw [hpe]
 simp -implicitDefEqProofs -proj only [go_sem,seval,n1,n2,h3]
 refine Ek (Em sb la.sm) (AT (GenS.lend (p:=⟨a.nm++sZ,a.cu,a.f,a.t,a.pl.ms,a.pl.fs,a.pl.cs,0,0⟩) hg') (AT (.refl _) Ee)) rfl ?_
 rw [Fr,hpe]
 simp -implicitDefEqProofs -proj only [go_sem,seval]
 exact AU rfl
theorem PB {a:PlanX} (fa:a.Fit) (la:a.Lo) (g1:¬E0 a) {i k:Int} (hk:IntKind.i64.wrap ((IntKind.u64.wrap k).tmod 12)=1):DataW Try.prog Fc [Ev a,i64 i,i64 k] (bv true):=by
 refine D9 FW (by simp) ?_
 simp -implicitDefEqProofs -proj only [go_sem,seval]
 refine Av (fun b3 hb3=>?_)
 simp -implicitDefEqProofs -proj only [go_sem,seval]
 refine EF FV ?_
 simp -implicitDefEqProofs -proj only [go_sem,seval]
 refine EF Fd ?_
 rw [decide_eq_false g1]
 simp -implicitDefEqProofs -proj only [go_sem,seval]
 refine Ew (Fk (F7 la.sm)) (fun r H' hk'=>?_)
 obtain ⟨H1,⟨m,f,c,rfl,hg⟩,u1,u2⟩:=hk'
 replace u2:∀k x,AG Heap.none b3 (some (.box 28 a.cells)) k=some x→H' k=some x:=u2
 obtain ⟨hall,hnd⟩:=Fp (B:=[(b3,.box 28 a.cells)]) u1 u2 hg.all ⟨EN,trivial⟩ hg.nd (by simp [AQ])
 have hm:=hg.hm
 have hf:=hg.hf
 have hc:=hg.hc
 clear u1 u2 hg hb3
 simp -implicitDefEqProofs -proj only [go_sem,seval]
 refine Av (fun b7 hb7=>?_)
 replace hb7:H' b7=none:=hb7
 have h3:H' b3=some (.box 28 a.cells):=(Ac.1 hall).2.1
 obtain ⟨n1,n2⟩:=EZ hb7 h3
 have hk7:=Fl hb7 hall
 simp -implicitDefEqProofs -proj only [go_sem,seval,n1,n2,h3,hk]
 have sb:PlanX.Sm ⟨a.nm,a.cu,a.f,⟨a.t.y,a.t.m,IntKind.i64.wrap (a.t.d+1)⟩,a.pl.ms,a.pl.fs,a.pl.cs,0,0⟩:=⟨la.pl.sm.m,la.pl.sm.f,la.pl.sm.c,la.pl.sm.ta⟩
 have hpe:EW a ⟨a.nm,a.cu,a.f,⟨a.t.y,a.t.m,IntKind.i64.wrap (a.t.d+1)⟩,a.pl.ms,a.pl.fs,a.pl.cs,0,0⟩=false:=by simp [EW,FH,JK fa.t.2.2]
 have hg':GenS a.pl.ms a.pl.fs a.pl.cs m f c (AG H' b7 (some (.box 28 (Ad (PlanX.nm ⟨a.nm,a.cu,a.f,⟨a.t.y,a.t.m,IntKind.i64.wrap (a.t.d+1)⟩,a.pl.ms,a.pl.fs,a.pl.cs,0,0⟩) a.cu a.f (PlanX.t ⟨a.nm,a.cu,a.f,⟨a.t.y,a.t.m,IntKind.i64.wrap (a.t.d+1)⟩,a.pl.ms,a.pl.fs,a.pl.cs,0,0⟩) m f c (PlanX.ln ⟨a.nm,a.cu,a.f,⟨a.t.y,a.t.m,IntKind.i64.wrap (a.t.d+1)⟩,a.pl.ms,a.pl.fs,a.pl.cs,0,0⟩) (PlanX.co ⟨a.nm,a.cu,a.f,⟨a.t.y,a.t.m,IntKind.i64.wrap (a.t.d+1)⟩,a.pl.ms,a.pl.fs,a.pl.cs,0,0⟩))))):=GenS.off hm hf hc (E5 hb7 hall) hnd
 refine Ek (Em la.sm sb) (AT (.refl _) (AT (GenS.lend (p:=⟨a.nm,a.cu,a.f,⟨a.t.y,a.t.m,IntKind.i64.wrap (a.t.d+1)⟩,a.pl.ms,a.pl.fs,a.pl.cs,0,0⟩) hg') Ee)) rfl ?_
 rw [hpe]
 simp -implicitDefEqProofs -proj only [go_sem,seval,n1,n2,h3]
 refine Ek (Em sb la.sm) (AT (GenS.lend (p:=⟨a.nm,a.cu,a.f,⟨a.t.y,a.t.m,IntKind.i64.wrap (a.t.d+1)⟩,a.pl.ms,a.pl.fs,a.pl.cs,0,0⟩) hg') (AT (.refl _) Ee)) rfl ?_
 rw [Fr,hpe]
 simp -implicitDefEqProofs -proj only [go_sem,seval]
 exact AU rfl
theorem Ro {a:PlanX} (fa:a.Fit) (la:a.Lo) (g1:¬E0 a) {i k:Int} (hk:IntKind.i64.wrap ((IntKind.u64.wrap k).tmod 12)=5):DataW Try.prog Fc [Ev a,i64 i,i64 k] (bv true):=by
 refine D9 FW (by simp) ?_
 simp -implicitDefEqProofs -proj only [go_sem,seval]
 refine Av (fun b3 hb3=>?_)
 simp -implicitDefEqProofs -proj only [go_sem,seval]
 refine EF FV ?_
 simp -implicitDefEqProofs -proj only [go_sem,seval]
 refine EF Fd ?_
 rw [decide_eq_false g1]
 simp -implicitDefEqProofs -proj only [go_sem,seval]
 refine Ew (Fk (F7 la.sm)) (fun r H' hk'=>?_)
 obtain ⟨H1,⟨m,f,c,rfl,hg⟩,u1,u2⟩:=hk'
 replace u2:∀k x,AG Heap.none b3 (some (.box 28 a.cells)) k=some x→H' k=some x:=u2
 obtain ⟨hall,hnd⟩:=Fp (B:=[(b3,.box 28 a.cells)]) u1 u2 hg.all ⟨EN,trivial⟩ hg.nd (by simp [AQ])
 have hm:=hg.hm
 have hf:=hg.hf
 have hc:=hg.hc
 clear u1 u2 hg hb3
 simp -implicitDefEqProofs -proj only [go_sem,seval]
 refine Av (fun b7 hb7=>?_)
 replace hb7:H' b7=none:=hb7
 have h3:H' b3=some (.box 28 a.cells):=(Ac.1 hall).2.1
 obtain ⟨n1,n2⟩:=EZ hb7 h3
 have hk7:=Fl hb7 hall
 simp -implicitDefEqProofs -proj only [go_sem,seval,n1,n2,h3,hk]
 have sb:PlanX.Sm ⟨a.nm,a.cu,a.f,a.t,a.pl.ms,a.pl.fs,a.pl.cs,7,8⟩:=⟨la.pl.sm.m,la.pl.sm.f,la.pl.sm.c,la.pl.sm.ta⟩
 have hpe:EW a ⟨a.nm,a.cu,a.f,a.t,a.pl.ms,a.pl.fs,a.pl.cs,7,8⟩=true:=KM a
 have hg':GenS a.pl.ms a.pl.fs a.pl.cs m f c (AG H' b7 (some (.box 28 (Ad (PlanX.nm ⟨a.nm,a.cu,a.f,a.t,a.pl.ms,a.pl.fs,a.pl.cs,7,8⟩) a.cu a.f (PlanX.t ⟨a.nm,a.cu,a.f,a.t,a.pl.ms,a.pl.fs,a.pl.cs,7,8⟩) m f c (PlanX.ln ⟨a.nm,a.cu,a.f,a.t,a.pl.ms,a.pl.fs,a.pl.cs,7,8⟩) (PlanX.co ⟨a.nm,a.cu,a.f,a.t,a.pl.ms,a.pl.fs,a.pl.cs,7,8⟩))))):=GenS.off hm hf hc (E5 hb7 hall) hnd
 refine Ek (Em la.sm sb) (AT (.refl _) (AT (GenS.lend (p:=⟨a.nm,a.cu,a.f,a.t,a.pl.ms,a.pl.fs,a.pl.cs,7,8⟩) hg') Ee)) rfl ?_
 rw [hpe]
 simp -implicitDefEqProofs -proj only [go_sem,seval,n1,n2,h3]
 refine Ek (Em sb la.sm) (AT (GenS.lend (p:=⟨a.nm,a.cu,a.f,a.t,a.pl.ms,a.pl.fs,a.pl.cs,7,8⟩) hg') (AT (.refl _) Ee)) rfl ?_
 rw [Fr,hpe]
 simp -implicitDefEqProofs -proj only [go_sem,seval]
 exact AU rfl
theorem UR {a:PlanX} (fa:a.Fit) (la:a.Lo) (g1:¬E0 a) {i k:Int} (hk:IntKind.i64.wrap ((IntKind.u64.wrap k).tmod 12)=2):DataW Try.prog Fc [Ev a,i64 i,i64 k] (bv true):=by
 refine D9 FW (by simp) ?_
 simp -implicitDefEqProofs -proj only [go_sem,seval]
 refine Av (fun b3 hb3=>?_)
 simp -implicitDefEqProofs -proj only [go_sem,seval]
 refine EF FV ?_
 simp -implicitDefEqProofs -proj only [go_sem,seval]
 refine EF Fd ?_
 rw [decide_eq_false g1]
 simp -implicitDefEqProofs -proj only [go_sem,seval]
 refine Ew (Fk (F7 la.sm)) (fun r H' hk'=>?_)
 obtain ⟨H1,⟨m,f,c,rfl,hg⟩,u1,u2⟩:=hk'
 replace u2:∀k x,AG Heap.none b3 (some (.box 28 a.cells)) k=some x→H' k=some x:=u2
 obtain ⟨hall,hnd⟩:=Fp (B:=[(b3,.box 28 a.cells)]) u1 u2 hg.all ⟨EN,trivial⟩ hg.nd (by simp [AQ])
 have hm:=hg.hm
 have hf:=hg.hf
 have hc:=hg.hc
 clear u1 u2 hg hb3
 simp -implicitDefEqProofs -proj only [go_sem,seval]
 refine Av (fun b7 hb7=>?_)
 replace hb7:H' b7=none:=hb7
 have h3:H' b3=some (.box 28 a.cells):=(Ac.1 hall).2.1
 obtain ⟨n1,n2⟩:=EZ hb7 h3
 have hk7:=Fl hb7 hall
 have a1:=Fj (x:=.box 28 (Ad a.nm a.cu a.f a.t m f c 0 0)) hb7 hall
 have k1:=Fb (x:=.box 28 (Ad a.nm a.cu a.f a.t m f c 0 0)) hb7 hall hnd
 have ll:=la.pl.sm.m
 simp -implicitDefEqProofs -proj only [go_sem,seval,n1,n2,h3,hk]
 refine FE (fun bs hs=>?_)
 replace hs:AG H' b7 (some (.box 28 (Ad a.nm a.cu a.f a.t m f c 0 0))) bs=none:=hs
 have a2:=E5 (y:=some (.row 34 5 1 [[.str ⟨⟨[]⟩⟩,.str ⟨⟨[]⟩⟩,.int .i64 0,.int .i64 0,.int .i64 0]])) hs a1
 obtain ⟨nb1,nb2⟩:=EZ hs EN
 simp -implicitDefEqProofs -proj only [go_sem,seval,nb1,nb2,n1,n2,h3]
 refine IB (e:=34) (xs:=EB a.pl.ms) (y:=[.str ⟨⟨[]⟩⟩,.str ⟨⟨[]⟩⟩,.int .i64 0,.int .i64 0,.int .i64 0]) (A:=(b7,Blk.box 28 (Ad a.nm a.cu a.f a.t m f c 0 0))::(AN 55 c (AY a.pl.cs)++AN 51 f (EC a.pl.fs))) (B:=[(b3,Blk.box 28 a.cells)]) (by rw [FN]; exact hm) (Hq EN rfl) rfl (by simpa only [List.append_assoc,List.cons_append,List.nil_append] using a2) (by simpa only [List.append_assoc,List.cons_append,List.nil_append] using k1) (by rw [FN]; simp -implicitDefEqProofs only [maxLen]; omega) (fun r' H2 hr' a3 k3=>?_)
 rw [FN] at hr'
 have er:EB a.pl.ms++[[.str ⟨⟨[]⟩⟩,.str ⟨⟨[]⟩⟩,.int .i64 0,.int .i64 0,.int .i64 0]]=EB (a.pl.ms++[⟨⟨⟨[]⟩⟩,⟨⟨[]⟩⟩,0,0,0⟩]):=by rw [EB,EB,List.map_append]; rfl
 rw [er] at a3 k3
 simp -implicitDefEqProofs only [List.append_assoc,List.cons_append,List.nil_append] at a3 k3
 have g7:H2 b7=some (.box 28 (Ad a.nm a.cu a.f a.t m f c 0 0)):=a3.1
 have g3:H2 b3=some (.box 28 a.cells):=ER.1 a3 (b3,_) (by simp)
 have a4:=(FG (A:=[]) (y:=.box 28 (Ad a.nm a.cu a.f a.t r' f c 0 0)) a3 k3).2
 have k4:=(List.nodup_cons.1 k3).2
 simp -implicitDefEqProofs -proj only [go_sem,seval,g7,g3,n1,n2,GC hr',GA hr']
 have sb:PlanX.Sm ⟨a.nm,a.cu,a.f,a.t,a.pl.ms++[⟨⟨⟨[]⟩⟩,⟨⟨[]⟩⟩,0,0,0⟩],a.pl.fs,a.pl.cs,0,0⟩:=by
  have:=la.pl
  refine ⟨?_,?_,?_,?_⟩
  all_goals first | (have:=this.m; simp at *; omega) | (have:=this.f; simp at *; omega) | (have:=this.c; simp at *; omega) | exact la.pl.sm.ta | skip
 have hpe:EW a ⟨a.nm,a.cu,a.f,a.t,a.pl.ms++[⟨⟨⟨[]⟩⟩,⟨⟨[]⟩⟩,0,0,0⟩],a.pl.fs,a.pl.cs,0,0⟩=false:=by
  have:An FQ a.ms (a.pl.ms++[⟨⟨⟨[]⟩⟩,⟨⟨[]⟩⟩,0,0,0⟩])=false:=Ft (by simp [PlanX.pl])
  simp -implicitDefEqProofs only [EW,this,Bool.and_false,Bool.false_and]
 have hg':GenS (PlanX.ms ⟨a.nm,a.cu,a.f,a.t,a.pl.ms++[⟨⟨⟨[]⟩⟩,⟨⟨[]⟩⟩,0,0,0⟩],a.pl.fs,a.pl.cs,0,0⟩) (PlanX.fs ⟨a.nm,a.cu,a.f,a.t,a.pl.ms++[⟨⟨⟨[]⟩⟩,⟨⟨[]⟩⟩,0,0,0⟩],a.pl.fs,a.pl.cs,0,0⟩) (PlanX.cs ⟨a.nm,a.cu,a.f,a.t,a.pl.ms++[⟨⟨⟨[]⟩⟩,⟨⟨[]⟩⟩,0,0,0⟩],a.pl.fs,a.pl.cs,0,0⟩) r' f c (AG H2 b7 (some (.box 28 (Ad a.nm a.cu a.f a.t r' f c 0 0)))) :=
  GenS.off (B:=[(b3,.box 28 a.cells)]) (by simpa using hr') hf hc (by simpa only [List.append_assoc,List.cons_append,List.nil_append] using a4) (by simpa only [List.append_assoc,List.cons_append,List.nil_append,AQ] using k4)
 refine Ek (Em la.sm sb) (AT (.refl _) (AT (GenS.lend (p:=⟨a.nm,a.cu,a.f,a.t,a.pl.ms++[⟨⟨⟨[]⟩⟩,⟨⟨[]⟩⟩,0,0,0⟩],a.pl.fs,a.pl.cs,0,0⟩) hg') Ee)) rfl ?_
 rw [hpe]
 simp -implicitDefEqProofs -proj only [go_sem,seval,n1,n2,g3]
 refine Ek (Em sb la.sm) (AT (GenS.lend (p:=⟨a.nm,a.cu,a.f,a.t,a.pl.ms++[⟨⟨⟨[]⟩⟩,⟨⟨[]⟩⟩,0,0,0⟩],a.pl.fs,a.pl.cs,0,0⟩) hg') (AT (.refl _) Ee)) rfl ?_
 rw [Fr,hpe]
 simp -implicitDefEqProofs -proj only [go_sem,seval]
 exact AU rfl
theorem SB {a:PlanX} (fa:a.Fit) (la:a.Lo) (g1:¬E0 a) {i k:Int} (hk:IntKind.i64.wrap ((IntKind.u64.wrap k).tmod 12)=3):DataW Try.prog Fc [Ev a,i64 i,i64 k] (bv true):=by
 refine D9 FW (by simp) ?_
 simp -implicitDefEqProofs -proj only [go_sem,seval]
 refine Av (fun b3 hb3=>?_)
 simp -implicitDefEqProofs -proj only [go_sem,seval]
 refine EF FV ?_
 simp -implicitDefEqProofs -proj only [go_sem,seval]
 refine EF Fd ?_
 rw [decide_eq_false g1]
 simp -implicitDefEqProofs -proj only [go_sem,seval]
 refine Ew (Fk (F7 la.sm)) (fun r H' hk'=>?_)
 obtain ⟨H1,⟨m,f,c,rfl,hg⟩,u1,u2⟩:=hk'
 replace u2:∀k x,AG Heap.none b3 (some (.box 28 a.cells)) k=some x→H' k=some x:=u2
 obtain ⟨hall,hnd⟩:=Fp (B:=[(b3,.box 28 a.cells)]) u1 u2 hg.all ⟨EN,trivial⟩ hg.nd (by simp [AQ])
 have hm:=hg.hm
 have hf:=hg.hf
 have hc:=hg.hc
 clear u1 u2 hg hb3
 simp -implicitDefEqProofs -proj only [go_sem,seval]
 refine Av (fun b7 hb7=>?_)
 replace hb7:H' b7=none:=hb7
 have h3:H' b3=some (.box 28 a.cells):=(Ac.1 hall).2.1
 obtain ⟨n1,n2⟩:=EZ hb7 h3
 have hk7:=Fl hb7 hall
 have a1:=Fj (x:=.box 28 (Ad a.nm a.cu a.f a.t m f c 0 0)) hb7 hall
 have k1:=Fb (x:=.box 28 (Ad a.nm a.cu a.f a.t m f c 0 0)) hb7 hall hnd
 have ll:=la.pl.sm.f
 simp -implicitDefEqProofs -proj only [go_sem,seval,n1,n2,h3,hk]
 refine FE (fun bs hs=>?_)
 replace hs:AG H' b7 (some (.box 28 (Ad a.nm a.cu a.f a.t m f c 0 0))) bs=none:=hs
 have a2:=E5 (y:=some (.row 51 10 1 [[.int .i64 0,.bool false,.int .i64 0,.int .i64 0,.int .i64 0,.int .i64 0,.int .i64 0,.int .i64 0,.int .i64 0,.int .i64 0]])) hs a1
 obtain ⟨nb1,nb2⟩:=EZ hs EN
 simp -implicitDefEqProofs -proj only [go_sem,seval,nb1,nb2,n1,n2,h3]
 refine IB (e:=51) (xs:=EC a.pl.fs) (y:=[.int .i64 0,.bool false,.int .i64 0,.int .i64 0,.int .i64 0,.int .i64 0,.int .i64 0,.int .i64 0,.int .i64 0,.int .i64 0]) (A:=(b7,Blk.box 28 (Ad a.nm a.cu a.f a.t m f c 0 0))::AN 55 c (AY a.pl.cs)) (B:=AN 34 m (EB a.pl.ms)++[(b3,Blk.box 28 a.cells)]) (by rw [FI]; exact hf) (Hq EN rfl) rfl (by simpa only [List.append_assoc,List.cons_append,List.nil_append] using a2) (by simpa only [List.append_assoc,List.cons_append,List.nil_append] using k1) (by rw [FI]; simp -implicitDefEqProofs only [maxLen]; omega) (fun r' H2 hr' a3 k3=>?_)
 rw [FI] at hr'
 have er:EC a.pl.fs++[[.int .i64 0,.bool false,.int .i64 0,.int .i64 0,.int .i64 0,.int .i64 0,.int .i64 0,.int .i64 0,.int .i64 0,.int .i64 0]]=EC (a.pl.fs++[⟨0,⟨false,⟨0,0,0⟩,⟨0,0,0⟩⟩,0,0⟩]):=by rw [EC,EC,List.map_append]; rfl
 rw [er] at a3 k3
 simp -implicitDefEqProofs only [List.append_assoc,List.cons_append,List.nil_append] at a3 k3
 have g7:H2 b7=some (.box 28 (Ad a.nm a.cu a.f a.t m f c 0 0)):=a3.1
 have g3:H2 b3=some (.box 28 a.cells):=ER.1 a3 (b3,_) (by simp)
 have a4:=(FG (A:=[]) (y:=.box 28 (Ad a.nm a.cu a.f a.t m r' c 0 0)) a3 k3).2
 have k4:=(List.nodup_cons.1 k3).2
 simp -implicitDefEqProofs -proj only [go_sem,seval,g7,g3,n1,n2,GC hr',GA hr']
 have sb:PlanX.Sm ⟨a.nm,a.cu,a.f,a.t,a.pl.ms,a.pl.fs++[⟨0,⟨false,⟨0,0,0⟩,⟨0,0,0⟩⟩,0,0⟩],a.pl.cs,0,0⟩:=by
  have:=la.pl
  refine ⟨?_,?_,?_,?_⟩
  all_goals first | (have:=this.m; simp at *; omega) | (have:=this.f; simp at *; omega) | (have:=this.c; simp at *; omega) | exact la.pl.sm.ta | skip
 have hpe:EW a ⟨a.nm,a.cu,a.f,a.t,a.pl.ms,a.pl.fs++[⟨0,⟨false,⟨0,0,0⟩,⟨0,0,0⟩⟩,0,0⟩],a.pl.cs,0,0⟩=false:=by
  have:An FS a.fs (a.pl.fs++[⟨0,⟨false,⟨0,0,0⟩,⟨0,0,0⟩⟩,0,0⟩])=false:=Ft (by simp [PlanX.pl])
  simp -implicitDefEqProofs only [EW,this,Bool.and_false,Bool.false_and]
 have hg':GenS (PlanX.ms ⟨a.nm,a.cu,a.f,a.t,a.pl.ms,a.pl.fs++[⟨0,⟨false,⟨0,0,0⟩,⟨0,0,0⟩⟩,0,0⟩],a.pl.cs,0,0⟩) (PlanX.fs ⟨a.nm,a.cu,a.f,a.t,a.pl.ms,a.pl.fs++[⟨0,⟨false,⟨0,0,0⟩,⟨0,0,0⟩⟩,0,0⟩],a.pl.cs,0,0⟩) (PlanX.cs ⟨a.nm,a.cu,a.f,a.t,a.pl.ms,a.pl.fs++[⟨0,⟨false,⟨0,0,0⟩,⟨0,0,0⟩⟩,0,0⟩],a.pl.cs,0,0⟩) m r' c (AG H2 b7 (some (.box 28 (Ad a.nm a.cu a.f a.t m r' c 0 0)))) :=
  GenS.off (B:=[(b3,.box 28 a.cells)]) hm (by simpa using hr') hc (by simpa only [List.append_assoc,List.cons_append,List.nil_append] using a4) (by simpa only [List.append_assoc,List.cons_append,List.nil_append,AQ] using k4)
 refine Ek (Em la.sm sb) (AT (.refl _) (AT (GenS.lend (p:=⟨a.nm,a.cu,a.f,a.t,a.pl.ms,a.pl.fs++[⟨0,⟨false,⟨0,0,0⟩,⟨0,0,0⟩⟩,0,0⟩],a.pl.cs,0,0⟩) hg') Ee)) rfl ?_
 rw [hpe]
 simp -implicitDefEqProofs -proj only [go_sem,seval,n1,n2,g3]
 refine Ek (Em sb la.sm) (AT (GenS.lend (p:=⟨a.nm,a.cu,a.f,a.t,a.pl.ms,a.pl.fs++[⟨0,⟨false,⟨0,0,0⟩,⟨0,0,0⟩⟩,0,0⟩],a.pl.cs,0,0⟩) hg') (AT (.refl _) Ee)) rfl ?_
 rw [Fr,hpe]
 simp -implicitDefEqProofs -proj only [go_sem,seval]
 exact AU rfl
theorem Vd {a:PlanX} (fa:a.Fit) (la:a.Lo) (g1:¬E0 a) {i k:Int} (hk:IntKind.i64.wrap ((IntKind.u64.wrap k).tmod 12)=4):DataW Try.prog Fc [Ev a,i64 i,i64 k] (bv true):=by
 refine D9 FW (by simp) ?_
 simp -implicitDefEqProofs -proj only [go_sem,seval]
 refine Av (fun b3 hb3=>?_)
 simp -implicitDefEqProofs -proj only [go_sem,seval]
 refine EF FV ?_
 simp -implicitDefEqProofs -proj only [go_sem,seval]
 refine EF Fd ?_
 rw [decide_eq_false g1]
 simp -implicitDefEqProofs -proj only [go_sem,seval]
 refine Ew (Fk (F7 la.sm)) (fun r H' hk'=>?_)
 obtain ⟨H1,⟨m,f,c,rfl,hg⟩,u1,u2⟩:=hk'
 replace u2:∀k x,AG Heap.none b3 (some (.box 28 a.cells)) k=some x→H' k=some x:=u2
 obtain ⟨hall,hnd⟩:=Fp (B:=[(b3,.box 28 a.cells)]) u1 u2 hg.all ⟨EN,trivial⟩ hg.nd (by simp [AQ])
 have hm:=hg.hm
 have hf:=hg.hf
 have hc:=hg.hc
 clear u1 u2 hg hb3
 simp -implicitDefEqProofs -proj only [go_sem,seval]
 refine Av (fun b7 hb7=>?_)
 replace hb7:H' b7=none:=hb7
 have h3:H' b3=some (.box 28 a.cells):=(Ac.1 hall).2.1
 obtain ⟨n1,n2⟩:=EZ hb7 h3
 have hk7:=Fl hb7 hall
 have a1:=Fj (x:=.box 28 (Ad a.nm a.cu a.f a.t m f c 0 0)) hb7 hall
 have k1:=Fb (x:=.box 28 (Ad a.nm a.cu a.f a.t m f c 0 0)) hb7 hall hnd
 have ll:=la.pl.sm.c
 simp -implicitDefEqProofs -proj only [go_sem,seval,n1,n2,h3,hk]
 refine FE (fun bs hs=>?_)
 replace hs:AG H' b7 (some (.box 28 (Ad a.nm a.cu a.f a.t m f c 0 0))) bs=none:=hs
 have a2:=E5 (y:=some (.row 55 16 1 [[.str ⟨⟨[]⟩⟩,.bool false,.int .i64 0,.int .i64 0,.int .i64 0,.int .i64 0,.int .i64 0,.int .i64 0,.int .i64 0,.int .i64 0,.int .i64 0,.sl 2 [],.int .i64 0,.sl 3 [],.int .i64 0,.int .i64 0]])) hs a1
 obtain ⟨nb1,nb2⟩:=EZ hs EN
 simp -implicitDefEqProofs -proj only [go_sem,seval,nb1,nb2,n1,n2,h3]
 refine IB (e:=55) (xs:=AY a.pl.cs) (y:=[.str ⟨⟨[]⟩⟩,.bool false,.int .i64 0,.int .i64 0,.int .i64 0,.int .i64 0,.int .i64 0,.int .i64 0,.int .i64 0,.int .i64 0,.int .i64 0,.sl 2 [],.int .i64 0,.sl 3 [],.int .i64 0,.int .i64 0]) (A:=[(b7,Blk.box 28 (Ad a.nm a.cu a.f a.t m f c 0 0))]) (B:=AN 51 f (EC a.pl.fs)++(AN 34 m (EB a.pl.ms)++[(b3,Blk.box 28 a.cells)])) (by rw [Eq]; exact hc) (Hq EN rfl) rfl (by simpa only [List.append_assoc,List.cons_append,List.nil_append] using a2) (by simpa only [List.append_assoc,List.cons_append,List.nil_append] using k1) (by rw [Eq]; simp -implicitDefEqProofs only [maxLen]; omega) (fun r' H2 hr' a3 k3=>?_)
 rw [Eq] at hr'
 have er:AY a.pl.cs++[[.str ⟨⟨[]⟩⟩,.bool false,.int .i64 0,.int .i64 0,.int .i64 0,.int .i64 0,.int .i64 0,.int .i64 0,.int .i64 0,.int .i64 0,.int .i64 0,.sl 2 [],.int .i64 0,.sl 3 [],.int .i64 0,.int .i64 0]]=AY (a.pl.cs++[⟨⟨⟨[]⟩⟩,⟨false,⟨0,0,0⟩,⟨0,0,0⟩⟩,0,0,0,[],0,[],0,0⟩]):=by rw [AY,AY,List.map_append]; rfl
 rw [er] at a3 k3
 simp -implicitDefEqProofs only [List.append_assoc,List.cons_append,List.nil_append] at a3 k3
 have g7:H2 b7=some (.box 28 (Ad a.nm a.cu a.f a.t m f c 0 0)):=a3.1
 have g3:H2 b3=some (.box 28 a.cells):=ER.1 a3 (b3,_) (by simp)
 have a4:=(FG (A:=[]) (y:=.box 28 (Ad a.nm a.cu a.f a.t m f r' 0 0)) a3 k3).2
 have k4:=(List.nodup_cons.1 k3).2
 simp -implicitDefEqProofs -proj only [go_sem,seval,g7,g3,n1,n2,GC hr',GA hr']
 have sb:PlanX.Sm ⟨a.nm,a.cu,a.f,a.t,a.pl.ms,a.pl.fs,a.pl.cs++[⟨⟨⟨[]⟩⟩,⟨false,⟨0,0,0⟩,⟨0,0,0⟩⟩,0,0,0,[],0,[],0,0⟩],0,0⟩:=by
  have:=la.pl
  refine ⟨?_,?_,?_,?_⟩
  all_goals first | (have:=this.m; simp at *; omega) | (have:=this.f; simp at *; omega) | (have:=this.c; simp at *; omega) | exact la.pl.sm.ta | skip
  intro x hx
  rcases List.mem_append.1 hx with h | h
  ·exact la.pl.sm.ta x h
  ·simp -implicitDefEqProofs only [List.mem_cons,List.not_mem_nil,or_false] at h
   subst h; simp
 have hpe:EW a ⟨a.nm,a.cu,a.f,a.t,a.pl.ms,a.pl.fs,a.pl.cs++[⟨⟨⟨[]⟩⟩,⟨false,⟨0,0,0⟩,⟨0,0,0⟩⟩,0,0,0,[],0,[],0,0⟩],0,0⟩=false:=by
  have:An EL a.cs (a.pl.cs++[⟨⟨⟨[]⟩⟩,⟨false,⟨0,0,0⟩,⟨0,0,0⟩⟩,0,0,0,[],0,[],0,0⟩])=false:=Ft (by simp [PlanX.pl])
  simp -implicitDefEqProofs only [EW,this,Bool.and_false,Bool.false_and]
 have hg':GenS (PlanX.ms ⟨a.nm,a.cu,a.f,a.t,a.pl.ms,a.pl.fs,a.pl.cs++[⟨⟨⟨[]⟩⟩,⟨false,⟨0,0,0⟩,⟨0,0,0⟩⟩,0,0,0,[],0,[],0,0⟩],0,0⟩) (PlanX.fs ⟨a.nm,a.cu,a.f,a.t,a.pl.ms,a.pl.fs,a.pl.cs++[⟨⟨⟨[]⟩⟩,⟨false,⟨0,0,0⟩,⟨0,0,0⟩⟩,0,0,0,[],0,[],0,0⟩],0,0⟩) (PlanX.cs ⟨a.nm,a.cu,a.f,a.t,a.pl.ms,a.pl.fs,a.pl.cs++[⟨⟨⟨[]⟩⟩,⟨false,⟨0,0,0⟩,⟨0,0,0⟩⟩,0,0,0,[],0,[],0,0⟩],0,0⟩) m f r' (AG H2 b7 (some (.box 28 (Ad a.nm a.cu a.f a.t m f r' 0 0)))) :=
  GenS.off (B:=[(b3,.box 28 a.cells)]) hm hf (by simpa using hr') (by simpa only [List.append_assoc,List.cons_append,List.nil_append] using a4) (by simpa only [List.append_assoc,List.cons_append,List.nil_append,AQ] using k4)
 refine Ek (Em la.sm sb) (AT (.refl _) (AT (GenS.lend (p:=⟨a.nm,a.cu,a.f,a.t,a.pl.ms,a.pl.fs,a.pl.cs++[⟨⟨⟨[]⟩⟩,⟨false,⟨0,0,0⟩,⟨0,0,0⟩⟩,0,0,0,[],0,[],0,0⟩],0,0⟩) hg') Ee)) rfl ?_
 rw [hpe]
 simp -implicitDefEqProofs -proj only [go_sem,seval,n1,n2,g3]
 refine Ek (Em sb la.sm) (AT (GenS.lend (p:=⟨a.nm,a.cu,a.f,a.t,a.pl.ms,a.pl.fs,a.pl.cs++[⟨⟨⟨[]⟩⟩,⟨false,⟨0,0,0⟩,⟨0,0,0⟩⟩,0,0,0,[],0,[],0,0⟩],0,0⟩) hg') (AT (.refl _) Ee)) rfl ?_
 rw [Fr,hpe]
 simp -implicitDefEqProofs -proj only [go_sem,seval]
 exact AU rfl
theorem HG {n:Nat} (h0:¬n=0) (h1:n≤1000) (i:Int):IntKind.u64.wrap (n:Int)≠0∧∃j:Nat,j<n∧IntKind.i64.wrap ((IntKind.u64.wrap i).tmod (IntKind.u64.wrap n))=j:=by
 have hn:IntKind.u64.wrap (n:Int)=n:=by rw [IntKind.wrap_u64]; omega
 have g0:0≤IntKind.u64.wrap i:=by rw [IntKind.wrap_u64]; omega
 rw [hn,Int.tmod_eq_emod_of_nonneg g0]
 have e1:=Int.emod_nonneg (IntKind.u64.wrap i) (show (n:Int)≠0 by omega)
 have e2:=Int.emod_lt_of_pos (IntKind.u64.wrap i) (show (0:Int)<n by omega)
 have e3:IntKind.i64.wrap (IntKind.u64.wrap i % (n:Int))=IntKind.u64.wrap i % (n:Int):=by rw [IntKind.wrap_i64]; omega
 exact ⟨by omega,(IntKind.u64.wrap i % (n:Int)).toNat,by omega,by rw [e3]; omega⟩
theorem Ij {X:List ChX} {j:Nat} {y:ChX}:(AY X).set j y.el=AY (X.set j y):=by simp [AY,List.map_set]
theorem HI {X:List ChX} {j:Nat} {x y:ChX} (hx:∀z∈X,z.ts.length≤1000000∧z.ad.length≤1000000) (hy:y.ts.length≤1000000∧y.ad.length≤1000000):∀z∈X.set j y,z.ts.length≤1000000∧z.ad.length≤1000000:=by
 intro z hz
 rcases List.mem_or_eq_of_mem_set hz with h | rfl
 ·exact hx z h
 ·exact hy
theorem Hg {a:PlanX} {j:Nat} {y:ChX} (h:j<a.cs.length) (hy:EL a.cs[j] y=false):An EL a.cs (a.pl.cs.set j y)=false:=by
 refine S5 (i:=j) h (by simpa [PlanX.pl] using h) ?_
 rw [List.getElem_set_self]; exact hy
theorem Ni {a:PlanX} {j:Nat} {y:ChX} (h:j<a.cs.length) (hy:EL a.cs[j] y=true):An EL a.cs (a.pl.cs.set j y)=true:=by
 refine MM (by simp [PlanX.pl]) fun i h1 h2=>?_
 rw [List.getElem_set]
 split
 ·next e=>subst e; exact hy
 ·simp -implicitDefEqProofs only [PlanX.pl,List.getElem_map]; exact MF _
theorem QR {a:PlanX} {X:List ChX} (h:An EL a.cs X=true):EW a ⟨a.nm,a.cu,a.f,a.t,a.pl.ms,a.pl.fs,X,0,0⟩=true:=by
 have:=KM a
 simp -implicitDefEqProofs only [EW,Bool.and_eq_true] at this ⊢
 exact ⟨this.1,this.2.1,this.2.2.1,this.2.2.2.1,this.2.2.2.2.1,this.2.2.2.2.2.1,h⟩
theorem Hc {a:PlanX} {X:List ChX} (h:An EL a.cs X=false):EW a ⟨a.nm,a.cu,a.f,a.t,a.pl.ms,a.pl.fs,X,0,0⟩=false:=by
 simp -implicitDefEqProofs only [EW,h,Bool.and_false]
theorem Rm {a:PlanX} (fa:a.Fit) (la:a.Lo) (g1:¬E0 a) {i k:Int} (hk:IntKind.i64.wrap ((IntKind.u64.wrap k).tmod 12)=8):DataW Try.prog Fc [Ev a,i64 i,i64 k] (bv true):=by
 refine D9 FW (by simp) ?_
 simp -implicitDefEqProofs -proj only [go_sem,seval]
 refine Av (fun b3 hb3=>?_)
 simp -implicitDefEqProofs -proj only [go_sem,seval]
 refine EF FV ?_
 simp -implicitDefEqProofs -proj only [go_sem,seval]
 refine EF Fd ?_
 rw [decide_eq_false g1]
 simp -implicitDefEqProofs -proj only [go_sem,seval]
 refine Ew (Fk (F7 la.sm)) (fun r H' hk'=>?_)
 obtain ⟨H1,⟨m,f,c,rfl,hg⟩,u1,u2⟩:=hk'
 replace u2:∀k x,AG Heap.none b3 (some (.box 28 a.cells)) k=some x→H' k=some x:=u2
 obtain ⟨hall,hnd⟩:=Fp (B:=[(b3,.box 28 a.cells)]) u1 u2 hg.all ⟨EN,trivial⟩ hg.nd (by simp [AQ])
 have hm:=hg.hm
 have hf:=hg.hf
 have hc:=hg.hc
 clear u1 u2 hg hb3
 simp -implicitDefEqProofs -proj only [go_sem,seval]
 refine Av (fun b7 hb7=>?_)
 replace hb7:H' b7=none:=hb7
 have h3:H' b3=some (.box 28 a.cells):=(Ac.1 hall).2.1
 obtain ⟨n1,n2⟩:=EZ hb7 h3
 have hk7:=Fl hb7 hall
 rw [show a.pl.cs.length=a.cs.length by simp [PlanX.pl]] at hc
 have ll:=la.c
 by_cases h0:a.cs.length=0
 ·simp -implicitDefEqProofs -proj only [go_sem,seval,n1,n2,h3,hk,Gz hc,decide_eq_true (show (a.cs.length:Int)=0 by omega)]
  exact AU rfl
 obtain ⟨cc,capc,rfl⟩:=G4 hc (by omega)
 obtain ⟨hu,j,hj,hij⟩:=HG h0 (by omega) i
 have gc:H' cc=some (.row 55 16 capc (AY a.pl.cs)):=(Ac.1 (Ac.1 hall).1).1.1
 obtain ⟨nc1,nc2⟩:=EZ hb7 gc
 have nc3:¬cc=b3:=fun e=>by rw [e,h3] at gc; cases gc
 have nc4:¬b3=cc:=fun e=>nc3 e.symm
 have a1:=Fj (x:=.box 28 (Ad a.nm a.cu a.f a.t m f (.own cc 16 0 a.cs.length capc) 0 0)) hb7 hall
 have k1:=Fb (x:=.box 28 (Ad a.nm a.cu a.f a.t m f (.own cc 16 0 a.cs.length capc) 0 0)) hb7 hall hnd
 have hx:=fa.cs _ (List.getElem_mem hj)
 have hlx:=la.sm.ta _ (List.getElem_mem hj)
 have hjp:j<a.pl.cs.length:=by simpa [PlanX.pl] using hj
 have q0:a.pl.cs[j]=(a.cs[j]).pl:=by simp [PlanX.pl]
 have q1:(AY a.pl.cs)[j]? = some ((a.cs[j]).pl).el:=by rw [←q0]; simp [AY,hjp]
 have q2:∀y,EL a.cs[j] y=false→An EL a.cs (a.pl.cs.set j y)=false:=fun y hy=>Hg hj hy
 generalize a.cs[j]=x at *
 replace q1:(AY a.pl.cs)[j]? = some [.str x.me,.bool x.w.has,.int .i64 x.w.f.y,.int .i64 x.w.f.m,.int .i64 x.w.f.d,.int .i64 x.w.t.y,.int .i64 x.w.t.m,.int .i64 x.w.t.d,.int .i64 x.al,.int .i64 x.bl,.int .i64 x.ki,.sl 2 (D7 x.ts),.int .i64 x.mo,.sl 3 (D8 x.ad),.int .i64 0,.int .i64 0]:=q1
 simp -implicitDefEqProofs -proj only [go_sem,seval,n1,n2,nc1,h3,hk,gc,hij,Int.toNat_natCast,decide_eq_false (show ¬(a.cs.length:Int)=0 by omega)]
 refine En hu (fun _=>?_)
 refine En (by omega) (fun _=>?_)
 refine GW _ q1 (by simp) ?_
 simp -implicitDefEqProofs -proj only [go_sem,seval,n1,n2,nc1,h3,gc]
 refine GO (cap:=capc) (t:=55) (xs:=AY a.pl.cs) (el:=[.str x.me,.bool x.w.has,.int .i64 x.w.f.y,.int .i64 x.w.f.m,.int .i64 x.w.f.d,.int .i64 x.w.t.y,.int .i64 x.w.t.m,.int .i64 x.w.t.d,.int .i64 x.al,.int .i64 x.bl,.int .i64 x.ki,.sl 2 (D7 x.ts),.int .i64 x.mo,.sl 3 (D8 x.ad),.int .i64 0,.int .i64 0]) ((FR nc1).trans gc) q1 (by simp) ?_
 simp -implicitDefEqProofs -proj only [go_sem,seval,n1,n2,nc1,nc2,nc3,nc4,h3]
 have er:(AY a.pl.cs).set j (Ed [.str x.me,.bool x.w.has,.int .i64 x.w.f.y,.int .i64 x.w.f.m,.int .i64 x.w.f.d,.int .i64 x.w.t.y,.int .i64 x.w.t.m,.int .i64 x.w.t.d,.int .i64 x.al,.int .i64 x.bl,.int .i64 x.ki,.sl 2 (D7 x.ts),.int .i64 x.mo,.sl 3 (D8 x.ad),.int .i64 0,.int .i64 0] 1 [.bool (!x.w.has)])=AY (a.pl.cs.set j ⟨x.me,⟨!x.w.has,x.w.f,x.w.t⟩,x.al,x.bl,x.ki,x.ts,x.mo,x.ad,0,0⟩):=Ij (y:=⟨x.me,⟨!x.w.has,x.w.f,x.w.t⟩,x.al,x.bl,x.ki,x.ts,x.mo,x.ad,0,0⟩)
 have a2:=(FG (A:=[(b7,Blk.box 28 (Ad a.nm a.cu a.f a.t m f (.own cc 16 0 a.cs.length capc) 0 0))]) (y:=.row 55 16 capc ((AY a.pl.cs).set j (Ed [.str x.me,.bool x.w.has,.int .i64 x.w.f.y,.int .i64 x.w.f.m,.int .i64 x.w.f.d,.int .i64 x.w.t.y,.int .i64 x.w.t.m,.int .i64 x.w.t.d,.int .i64 x.al,.int .i64 x.bl,.int .i64 x.ki,.sl 2 (D7 x.ts),.int .i64 x.mo,.sl 3 (D8 x.ad),.int .i64 0,.int .i64 0] 1 [.bool (!x.w.has)]))) a1 k1).2
 have sb:PlanX.Sm ⟨a.nm,a.cu,a.f,a.t,a.pl.ms,a.pl.fs,a.pl.cs.set j ⟨x.me,⟨!x.w.has,x.w.f,x.w.t⟩,x.al,x.bl,x.ki,x.ts,x.mo,x.ad,0,0⟩,0,0⟩:=⟨la.pl.sm.m,la.pl.sm.f,by simpa using la.pl.sm.c,HI (x:=x) la.pl.sm.ta hlx⟩
 have hpe:EW a ⟨a.nm,a.cu,a.f,a.t,a.pl.ms,a.pl.fs,a.pl.cs.set j ⟨x.me,⟨!x.w.has,x.w.f,x.w.t⟩,x.al,x.bl,x.ki,x.ts,x.mo,x.ad,0,0⟩,0,0⟩=false:=Hc (q2 _ (by simp [EL,FP]))
 have hg':GenS a.pl.ms a.pl.fs (a.pl.cs.set j ⟨x.me,⟨!x.w.has,x.w.f,x.w.t⟩,x.al,x.bl,x.ki,x.ts,x.mo,x.ad,0,0⟩) m f (.own cc 16 0 a.cs.length capc) (AG (AG H' b7 (some (.box 28 (Ad a.nm a.cu a.f a.t m f (.own cc 16 0 a.cs.length capc) 0 0)))) cc (some (.row 55 16 capc ((AY a.pl.cs).set j (Ed [.str x.me,.bool x.w.has,.int .i64 x.w.f.y,.int .i64 x.w.f.m,.int .i64 x.w.f.d,.int .i64 x.w.t.y,.int .i64 x.w.t.m,.int .i64 x.w.t.d,.int .i64 x.al,.int .i64 x.bl,.int .i64 x.ki,.sl 2 (D7 x.ts),.int .i64 x.mo,.sl 3 (D8 x.ad),.int .i64 0,.int .i64 0] 1 [.bool (!x.w.has)]))))):=by
  rw [er] at a2 ⊢
  exact GenS.off (B:=[(b3,.box 28 a.cells)]) hm hf (by simpa [PlanX.pl] using hc) a2 hnd
 refine Ek (Em la.sm sb) (AT (.refl _) (AT (GenS.lend (p:=⟨a.nm,a.cu,a.f,a.t,a.pl.ms,a.pl.fs,a.pl.cs.set j ⟨x.me,⟨!x.w.has,x.w.f,x.w.t⟩,x.al,x.bl,x.ki,x.ts,x.mo,x.ad,0,0⟩,0,0⟩) hg') Ee)) rfl ?_
 rw [hpe]
 simp -implicitDefEqProofs -proj only [go_sem,seval,n1,n2,h3,nc1,nc2,nc3,nc4]
 refine Ek (Em sb la.sm) (AT (GenS.lend (p:=⟨a.nm,a.cu,a.f,a.t,a.pl.ms,a.pl.fs,a.pl.cs.set j ⟨x.me,⟨!x.w.has,x.w.f,x.w.t⟩,x.al,x.bl,x.ki,x.ts,x.mo,x.ad,0,0⟩,0,0⟩) hg') (AT (.refl _) Ee)) rfl ?_
 rw [Fr,hpe]
 simp -implicitDefEqProofs -proj only [go_sem,seval]
 exact AU rfl
theorem M8 {a:PlanX} (fa:a.Fit) (la:a.Lo) (g1:¬E0 a) {i k:Int} (hk:IntKind.i64.wrap ((IntKind.u64.wrap k).tmod 12)=9):DataW Try.prog Fc [Ev a,i64 i,i64 k] (bv true):=by
 refine D9 FW (by simp) ?_
 simp -implicitDefEqProofs -proj only [go_sem,seval]
 refine Av (fun b3 hb3=>?_)
 simp -implicitDefEqProofs -proj only [go_sem,seval]
 refine EF FV ?_
 simp -implicitDefEqProofs -proj only [go_sem,seval]
 refine EF Fd ?_
 rw [decide_eq_false g1]
 simp -implicitDefEqProofs -proj only [go_sem,seval]
 refine Ew (Fk (F7 la.sm)) (fun r H' hk'=>?_)
 obtain ⟨H1,⟨m,f,c,rfl,hg⟩,u1,u2⟩:=hk'
 replace u2:∀k x,AG Heap.none b3 (some (.box 28 a.cells)) k=some x→H' k=some x:=u2
 obtain ⟨hall,hnd⟩:=Fp (B:=[(b3,.box 28 a.cells)]) u1 u2 hg.all ⟨EN,trivial⟩ hg.nd (by simp [AQ])
 have hm:=hg.hm
 have hf:=hg.hf
 have hc:=hg.hc
 clear u1 u2 hg hb3
 simp -implicitDefEqProofs -proj only [go_sem,seval]
 refine Av (fun b7 hb7=>?_)
 replace hb7:H' b7=none:=hb7
 have h3:H' b3=some (.box 28 a.cells):=(Ac.1 hall).2.1
 obtain ⟨n1,n2⟩:=EZ hb7 h3
 have hk7:=Fl hb7 hall
 rw [show a.pl.cs.length=a.cs.length by simp [PlanX.pl]] at hc
 have ll:=la.c
 by_cases h0:a.cs.length=0
 ·simp -implicitDefEqProofs -proj only [go_sem,seval,n1,n2,h3,hk,Gz hc,decide_eq_true (show (a.cs.length:Int)=0 by omega)]
  exact AU rfl
 obtain ⟨cc,capc,rfl⟩:=G4 hc (by omega)
 obtain ⟨hu,j,hj,hij⟩:=HG h0 (by omega) i
 have gc:H' cc=some (.row 55 16 capc (AY a.pl.cs)):=(Ac.1 (Ac.1 hall).1).1.1
 obtain ⟨nc1,nc2⟩:=EZ hb7 gc
 have nc3:¬cc=b3:=fun e=>by rw [e,h3] at gc; cases gc
 have nc4:¬b3=cc:=fun e=>nc3 e.symm
 have a1:=Fj (x:=.box 28 (Ad a.nm a.cu a.f a.t m f (.own cc 16 0 a.cs.length capc) 0 0)) hb7 hall
 have k1:=Fb (x:=.box 28 (Ad a.nm a.cu a.f a.t m f (.own cc 16 0 a.cs.length capc) 0 0)) hb7 hall hnd
 have hx:=fa.cs _ (List.getElem_mem hj)
 have hlx:=la.sm.ta _ (List.getElem_mem hj)
 have hjp:j<a.pl.cs.length:=by simpa [PlanX.pl] using hj
 have q0:a.pl.cs[j]=(a.cs[j]).pl:=by simp [PlanX.pl]
 have q1:(AY a.pl.cs)[j]? = some ((a.cs[j]).pl).el:=by rw [←q0]; simp [AY,hjp]
 have q2:∀y,EL a.cs[j] y=false→An EL a.cs (a.pl.cs.set j y)=false:=fun y hy=>Hg hj hy
 generalize a.cs[j]=x at *
 replace q1:(AY a.pl.cs)[j]? = some [.str x.me,.bool x.w.has,.int .i64 x.w.f.y,.int .i64 x.w.f.m,.int .i64 x.w.f.d,.int .i64 x.w.t.y,.int .i64 x.w.t.m,.int .i64 x.w.t.d,.int .i64 x.al,.int .i64 x.bl,.int .i64 x.ki,.sl 2 (D7 x.ts),.int .i64 x.mo,.sl 3 (D8 x.ad),.int .i64 0,.int .i64 0]:=q1
 simp -implicitDefEqProofs -proj only [go_sem,seval,n1,n2,nc1,h3,hk,gc,hij,Int.toNat_natCast,decide_eq_false (show ¬(a.cs.length:Int)=0 by omega)]
 refine En hu (fun _=>?_)
 refine En (by omega) (fun _=>?_)
 refine GW _ q1 (by simp) ?_
 simp -implicitDefEqProofs -proj only [go_sem,seval,n1,n2,nc1,h3,gc]
 refine GO (cap:=capc) (t:=55) (xs:=AY a.pl.cs) (el:=[.str x.me,.bool x.w.has,.int .i64 x.w.f.y,.int .i64 x.w.f.m,.int .i64 x.w.f.d,.int .i64 x.w.t.y,.int .i64 x.w.t.m,.int .i64 x.w.t.d,.int .i64 x.al,.int .i64 x.bl,.int .i64 x.ki,.sl 2 (D7 x.ts),.int .i64 x.mo,.sl 3 (D8 x.ad),.int .i64 0,.int .i64 0]) ((FR nc1).trans gc) q1 (by simp) ?_
 simp -implicitDefEqProofs -proj only [go_sem,seval,n1,n2,nc1,nc2,nc3,nc4,h3]
 have er:(AY a.pl.cs).set j (Ed [.str x.me,.bool x.w.has,.int .i64 x.w.f.y,.int .i64 x.w.f.m,.int .i64 x.w.f.d,.int .i64 x.w.t.y,.int .i64 x.w.t.m,.int .i64 x.w.t.d,.int .i64 x.al,.int .i64 x.bl,.int .i64 x.ki,.sl 2 (D7 x.ts),.int .i64 x.mo,.sl 3 (D8 x.ad),.int .i64 0,.int .i64 0] 12 [.int .i64 (IntKind.i64.wrap (x.mo+1))])=AY (a.pl.cs.set j ⟨x.me,x.w,x.al,x.bl,x.ki,x.ts,IntKind.i64.wrap (x.mo+1),x.ad,0,0⟩):=Ij (y:=⟨x.me,x.w,x.al,x.bl,x.ki,x.ts,IntKind.i64.wrap (x.mo+1),x.ad,0,0⟩)
 have a2:=(FG (A:=[(b7,Blk.box 28 (Ad a.nm a.cu a.f a.t m f (.own cc 16 0 a.cs.length capc) 0 0))]) (y:=.row 55 16 capc ((AY a.pl.cs).set j (Ed [.str x.me,.bool x.w.has,.int .i64 x.w.f.y,.int .i64 x.w.f.m,.int .i64 x.w.f.d,.int .i64 x.w.t.y,.int .i64 x.w.t.m,.int .i64 x.w.t.d,.int .i64 x.al,.int .i64 x.bl,.int .i64 x.ki,.sl 2 (D7 x.ts),.int .i64 x.mo,.sl 3 (D8 x.ad),.int .i64 0,.int .i64 0] 12 [.int .i64 (IntKind.i64.wrap (x.mo+1))]))) a1 k1).2
 have sb:PlanX.Sm ⟨a.nm,a.cu,a.f,a.t,a.pl.ms,a.pl.fs,a.pl.cs.set j ⟨x.me,x.w,x.al,x.bl,x.ki,x.ts,IntKind.i64.wrap (x.mo+1),x.ad,0,0⟩,0,0⟩:=⟨la.pl.sm.m,la.pl.sm.f,by simpa using la.pl.sm.c,HI (x:=x) la.pl.sm.ta hlx⟩
 have hpe:EW a ⟨a.nm,a.cu,a.f,a.t,a.pl.ms,a.pl.fs,a.pl.cs.set j ⟨x.me,x.w,x.al,x.bl,x.ki,x.ts,IntKind.i64.wrap (x.mo+1),x.ad,0,0⟩,0,0⟩=false:=Hc (q2 _ (by simp [EL,JK hx.mo]))
 have hg':GenS a.pl.ms a.pl.fs (a.pl.cs.set j ⟨x.me,x.w,x.al,x.bl,x.ki,x.ts,IntKind.i64.wrap (x.mo+1),x.ad,0,0⟩) m f (.own cc 16 0 a.cs.length capc) (AG (AG H' b7 (some (.box 28 (Ad a.nm a.cu a.f a.t m f (.own cc 16 0 a.cs.length capc) 0 0)))) cc (some (.row 55 16 capc ((AY a.pl.cs).set j (Ed [.str x.me,.bool x.w.has,.int .i64 x.w.f.y,.int .i64 x.w.f.m,.int .i64 x.w.f.d,.int .i64 x.w.t.y,.int .i64 x.w.t.m,.int .i64 x.w.t.d,.int .i64 x.al,.int .i64 x.bl,.int .i64 x.ki,.sl 2 (D7 x.ts),.int .i64 x.mo,.sl 3 (D8 x.ad),.int .i64 0,.int .i64 0] 12 [.int .i64 (IntKind.i64.wrap (x.mo+1))]))))):=by
  rw [er] at a2 ⊢
  exact GenS.off (B:=[(b3,.box 28 a.cells)]) hm hf (by simpa [PlanX.pl] using hc) a2 hnd
 refine Ek (Em la.sm sb) (AT (.refl _) (AT (GenS.lend (p:=⟨a.nm,a.cu,a.f,a.t,a.pl.ms,a.pl.fs,a.pl.cs.set j ⟨x.me,x.w,x.al,x.bl,x.ki,x.ts,IntKind.i64.wrap (x.mo+1),x.ad,0,0⟩,0,0⟩) hg') Ee)) rfl ?_
 rw [hpe]
 simp -implicitDefEqProofs -proj only [go_sem,seval,n1,n2,h3,nc1,nc2,nc3,nc4]
 refine Ek (Em sb la.sm) (AT (GenS.lend (p:=⟨a.nm,a.cu,a.f,a.t,a.pl.ms,a.pl.fs,a.pl.cs.set j ⟨x.me,x.w,x.al,x.bl,x.ki,x.ts,IntKind.i64.wrap (x.mo+1),x.ad,0,0⟩,0,0⟩) hg') (AT (.refl _) Ee)) rfl ?_
 rw [Fr,hpe]
 simp -implicitDefEqProofs -proj only [go_sem,seval]
 exact AU rfl
theorem Mp {a:PlanX} (fa:a.Fit) (la:a.Lo) (g1:¬E0 a) {i k:Int} (hk:IntKind.i64.wrap ((IntKind.u64.wrap k).tmod 12)=10):DataW Try.prog Fc [Ev a,i64 i,i64 k] (bv true):=by
 refine D9 FW (by simp) ?_
 simp -implicitDefEqProofs -proj only [go_sem,seval]
 refine Av (fun b3 hb3=>?_)
 simp -implicitDefEqProofs -proj only [go_sem,seval]
 refine EF FV ?_
 simp -implicitDefEqProofs -proj only [go_sem,seval]
 refine EF Fd ?_
 rw [decide_eq_false g1]
 simp -implicitDefEqProofs -proj only [go_sem,seval]
 refine Ew (Fk (F7 la.sm)) (fun r H' hk'=>?_)
 obtain ⟨H1,⟨m,f,c,rfl,hg⟩,u1,u2⟩:=hk'
 replace u2:∀k x,AG Heap.none b3 (some (.box 28 a.cells)) k=some x→H' k=some x:=u2
 obtain ⟨hall,hnd⟩:=Fp (B:=[(b3,.box 28 a.cells)]) u1 u2 hg.all ⟨EN,trivial⟩ hg.nd (by simp [AQ])
 have hm:=hg.hm
 have hf:=hg.hf
 have hc:=hg.hc
 clear u1 u2 hg hb3
 simp -implicitDefEqProofs -proj only [go_sem,seval]
 refine Av (fun b7 hb7=>?_)
 replace hb7:H' b7=none:=hb7
 have h3:H' b3=some (.box 28 a.cells):=(Ac.1 hall).2.1
 obtain ⟨n1,n2⟩:=EZ hb7 h3
 have hk7:=Fl hb7 hall
 rw [show a.pl.cs.length=a.cs.length by simp [PlanX.pl]] at hc
 have ll:=la.c
 by_cases h0:a.cs.length=0
 ·simp -implicitDefEqProofs -proj only [go_sem,seval,n1,n2,h3,hk,Gz hc,decide_eq_true (show (a.cs.length:Int)=0 by omega)]
  exact AU rfl
 obtain ⟨cc,capc,rfl⟩:=G4 hc (by omega)
 obtain ⟨hu,j,hj,hij⟩:=HG h0 (by omega) i
 have gc:H' cc=some (.row 55 16 capc (AY a.pl.cs)):=(Ac.1 (Ac.1 hall).1).1.1
 obtain ⟨nc1,nc2⟩:=EZ hb7 gc
 have nc3:¬cc=b3:=fun e=>by rw [e,h3] at gc; cases gc
 have nc4:¬b3=cc:=fun e=>nc3 e.symm
 have a1:=Fj (x:=.box 28 (Ad a.nm a.cu a.f a.t m f (.own cc 16 0 a.cs.length capc) 0 0)) hb7 hall
 have k1:=Fb (x:=.box 28 (Ad a.nm a.cu a.f a.t m f (.own cc 16 0 a.cs.length capc) 0 0)) hb7 hall hnd
 have hx:=fa.cs _ (List.getElem_mem hj)
 have hlx:=la.sm.ta _ (List.getElem_mem hj)
 have hjp:j<a.pl.cs.length:=by simpa [PlanX.pl] using hj
 have q0:a.pl.cs[j]=(a.cs[j]).pl:=by simp [PlanX.pl]
 have q1:(AY a.pl.cs)[j]? = some ((a.cs[j]).pl).el:=by rw [←q0]; simp [AY,hjp]
 have q2:∀y,EL a.cs[j] y=true→An EL a.cs (a.pl.cs.set j y)=true:=fun y hy=>Ni hj hy
 generalize a.cs[j]=x at *
 replace q1:(AY a.pl.cs)[j]? = some [.str x.me,.bool x.w.has,.int .i64 x.w.f.y,.int .i64 x.w.f.m,.int .i64 x.w.f.d,.int .i64 x.w.t.y,.int .i64 x.w.t.m,.int .i64 x.w.t.d,.int .i64 x.al,.int .i64 x.bl,.int .i64 x.ki,.sl 2 (D7 x.ts),.int .i64 x.mo,.sl 3 (D8 x.ad),.int .i64 0,.int .i64 0]:=q1
 simp -implicitDefEqProofs -proj only [go_sem,seval,n1,n2,nc1,h3,hk,gc,hij,Int.toNat_natCast,decide_eq_false (show ¬(a.cs.length:Int)=0 by omega)]
 refine En hu (fun _=>?_)
 refine En (by omega) (fun _=>?_)
 refine GW _ q1 (by simp) ?_
 simp -implicitDefEqProofs -proj only [go_sem,seval,n1,n2,nc1,h3,gc]
 refine GO (cap:=capc) (t:=55) (xs:=AY a.pl.cs) (el:=[.str x.me,.bool x.w.has,.int .i64 x.w.f.y,.int .i64 x.w.f.m,.int .i64 x.w.f.d,.int .i64 x.w.t.y,.int .i64 x.w.t.m,.int .i64 x.w.t.d,.int .i64 x.al,.int .i64 x.bl,.int .i64 x.ki,.sl 2 (D7 x.ts),.int .i64 x.mo,.sl 3 (D8 x.ad),.int .i64 0,.int .i64 0]) ((FR nc1).trans gc) q1 (by simp) ?_
 simp -implicitDefEqProofs -proj only [go_sem,seval,n1,n2,nc1,nc2,nc3,nc4,h3]
 have er:(AY a.pl.cs).set j (Ed [.str x.me,.bool x.w.has,.int .i64 x.w.f.y,.int .i64 x.w.f.m,.int .i64 x.w.f.d,.int .i64 x.w.t.y,.int .i64 x.w.t.m,.int .i64 x.w.t.d,.int .i64 x.al,.int .i64 x.bl,.int .i64 x.ki,.sl 2 (D7 x.ts),.int .i64 x.mo,.sl 3 (D8 x.ad),.int .i64 0,.int .i64 0] 14 [.int .i64 (IntKind.i64.wrap (0+1))])=AY (a.pl.cs.set j ⟨x.me,x.w,x.al,x.bl,x.ki,x.ts,x.mo,x.ad,IntKind.i64.wrap (0+1),0⟩):=Ij (y:=⟨x.me,x.w,x.al,x.bl,x.ki,x.ts,x.mo,x.ad,IntKind.i64.wrap (0+1),0⟩)
 have a2:=(FG (A:=[(b7,Blk.box 28 (Ad a.nm a.cu a.f a.t m f (.own cc 16 0 a.cs.length capc) 0 0))]) (y:=.row 55 16 capc ((AY a.pl.cs).set j (Ed [.str x.me,.bool x.w.has,.int .i64 x.w.f.y,.int .i64 x.w.f.m,.int .i64 x.w.f.d,.int .i64 x.w.t.y,.int .i64 x.w.t.m,.int .i64 x.w.t.d,.int .i64 x.al,.int .i64 x.bl,.int .i64 x.ki,.sl 2 (D7 x.ts),.int .i64 x.mo,.sl 3 (D8 x.ad),.int .i64 0,.int .i64 0] 14 [.int .i64 (IntKind.i64.wrap (0+1))]))) a1 k1).2
 have sb:PlanX.Sm ⟨a.nm,a.cu,a.f,a.t,a.pl.ms,a.pl.fs,a.pl.cs.set j ⟨x.me,x.w,x.al,x.bl,x.ki,x.ts,x.mo,x.ad,IntKind.i64.wrap (0+1),0⟩,0,0⟩:=⟨la.pl.sm.m,la.pl.sm.f,by simpa using la.pl.sm.c,HI (x:=x) la.pl.sm.ta hlx⟩
 have hpe:EW a ⟨a.nm,a.cu,a.f,a.t,a.pl.ms,a.pl.fs,a.pl.cs.set j ⟨x.me,x.w,x.al,x.bl,x.ki,x.ts,x.mo,x.ad,IntKind.i64.wrap (0+1),0⟩,0,0⟩=true:=QR (q2 _ (Qf x))
 have hg':GenS a.pl.ms a.pl.fs (a.pl.cs.set j ⟨x.me,x.w,x.al,x.bl,x.ki,x.ts,x.mo,x.ad,IntKind.i64.wrap (0+1),0⟩) m f (.own cc 16 0 a.cs.length capc) (AG (AG H' b7 (some (.box 28 (Ad a.nm a.cu a.f a.t m f (.own cc 16 0 a.cs.length capc) 0 0)))) cc (some (.row 55 16 capc ((AY a.pl.cs).set j (Ed [.str x.me,.bool x.w.has,.int .i64 x.w.f.y,.int .i64 x.w.f.m,.int .i64 x.w.f.d,.int .i64 x.w.t.y,.int .i64 x.w.t.m,.int .i64 x.w.t.d,.int .i64 x.al,.int .i64 x.bl,.int .i64 x.ki,.sl 2 (D7 x.ts),.int .i64 x.mo,.sl 3 (D8 x.ad),.int .i64 0,.int .i64 0] 14 [.int .i64 (IntKind.i64.wrap (0+1))]))))):=by
  rw [er] at a2 ⊢
  exact GenS.off (B:=[(b3,.box 28 a.cells)]) hm hf (by simpa [PlanX.pl] using hc) a2 hnd
 refine Ek (Em la.sm sb) (AT (.refl _) (AT (GenS.lend (p:=⟨a.nm,a.cu,a.f,a.t,a.pl.ms,a.pl.fs,a.pl.cs.set j ⟨x.me,x.w,x.al,x.bl,x.ki,x.ts,x.mo,x.ad,IntKind.i64.wrap (0+1),0⟩,0,0⟩) hg') Ee)) rfl ?_
 rw [hpe]
 simp -implicitDefEqProofs -proj only [go_sem,seval,n1,n2,h3,nc1,nc2,nc3,nc4]
 refine Ek (Em sb la.sm) (AT (GenS.lend (p:=⟨a.nm,a.cu,a.f,a.t,a.pl.ms,a.pl.fs,a.pl.cs.set j ⟨x.me,x.w,x.al,x.bl,x.ki,x.ts,x.mo,x.ad,IntKind.i64.wrap (0+1),0⟩,0,0⟩) hg') (AT (.refl _) Ee)) rfl ?_
 rw [Fr,hpe]
 simp -implicitDefEqProofs -proj only [go_sem,seval]
 exact AU rfl
theorem VK {a:PlanX} (fa:a.Fit) (la:a.Lo) (g1:¬E0 a) {i k:Int} (hk:IntKind.i64.wrap ((IntKind.u64.wrap k).tmod 12)=11):DataW Try.prog Fc [Ev a,i64 i,i64 k] (bv true):=by
 refine D9 FW (by simp) ?_
 simp -implicitDefEqProofs -proj only [go_sem,seval]
 refine Av (fun b3 hb3=>?_)
 simp -implicitDefEqProofs -proj only [go_sem,seval]
 refine EF FV ?_
 simp -implicitDefEqProofs -proj only [go_sem,seval]
 refine EF Fd ?_
 rw [decide_eq_false g1]
 simp -implicitDefEqProofs -proj only [go_sem,seval]
 refine Ew (Fk (F7 la.sm)) (fun r H' hk'=>?_)
 obtain ⟨H1,⟨m,f,c,rfl,hg⟩,u1,u2⟩:=hk'
 replace u2:∀k x,AG Heap.none b3 (some (.box 28 a.cells)) k=some x→H' k=some x:=u2
 obtain ⟨hall,hnd⟩:=Fp (B:=[(b3,.box 28 a.cells)]) u1 u2 hg.all ⟨EN,trivial⟩ hg.nd (by simp [AQ])
 have hm:=hg.hm
 have hf:=hg.hf
 have hc:=hg.hc
 clear u1 u2 hg hb3
 simp -implicitDefEqProofs -proj only [go_sem,seval]
 refine Av (fun b7 hb7=>?_)
 replace hb7:H' b7=none:=hb7
 have h3:H' b3=some (.box 28 a.cells):=(Ac.1 hall).2.1
 obtain ⟨n1,n2⟩:=EZ hb7 h3
 have hk7:=Fl hb7 hall
 rw [show a.pl.cs.length=a.cs.length by simp [PlanX.pl]] at hc
 have ll:=la.c
 by_cases h0:a.cs.length=0
 ·simp -implicitDefEqProofs -proj only [go_sem,seval,n1,n2,h3,hk,Gz hc,decide_eq_true (show (a.cs.length:Int)=0 by omega)]
  exact AU rfl
 obtain ⟨cc,capc,rfl⟩:=G4 hc (by omega)
 obtain ⟨hu,j,hj,hij⟩:=HG h0 (by omega) i
 have gc:H' cc=some (.row 55 16 capc (AY a.pl.cs)):=(Ac.1 (Ac.1 hall).1).1.1
 obtain ⟨nc1,nc2⟩:=EZ hb7 gc
 have nc3:¬cc=b3:=fun e=>by rw [e,h3] at gc; cases gc
 have nc4:¬b3=cc:=fun e=>nc3 e.symm
 have a1:=Fj (x:=.box 28 (Ad a.nm a.cu a.f a.t m f (.own cc 16 0 a.cs.length capc) 0 0)) hb7 hall
 have k1:=Fb (x:=.box 28 (Ad a.nm a.cu a.f a.t m f (.own cc 16 0 a.cs.length capc) 0 0)) hb7 hall hnd
 have hx:=fa.cs _ (List.getElem_mem hj)
 have hlx:=la.sm.ta _ (List.getElem_mem hj)
 have hjp:j<a.pl.cs.length:=by simpa [PlanX.pl] using hj
 have q0:a.pl.cs[j]=(a.cs[j]).pl:=by simp [PlanX.pl]
 have q1:(AY a.pl.cs)[j]? = some ((a.cs[j]).pl).el:=by rw [←q0]; simp [AY,hjp]
 have q2:∀y,EL a.cs[j] y=false→An EL a.cs (a.pl.cs.set j y)=false:=fun y hy=>Hg hj hy
 generalize a.cs[j]=x at *
 replace q1:(AY a.pl.cs)[j]? = some [.str x.me,.bool x.w.has,.int .i64 x.w.f.y,.int .i64 x.w.f.m,.int .i64 x.w.f.d,.int .i64 x.w.t.y,.int .i64 x.w.t.m,.int .i64 x.w.t.d,.int .i64 x.al,.int .i64 x.bl,.int .i64 x.ki,.sl 2 (D7 x.ts),.int .i64 x.mo,.sl 3 (D8 x.ad),.int .i64 0,.int .i64 0]:=q1
 simp -implicitDefEqProofs -proj only [go_sem,seval,n1,n2,nc1,h3,hk,gc,hij,Int.toNat_natCast,decide_eq_false (show ¬(a.cs.length:Int)=0 by omega)]
 refine En hu (fun _=>?_)
 refine En (by omega) (fun _=>?_)
 refine GW _ q1 (by simp) ?_
 simp -implicitDefEqProofs -proj only [go_sem,seval,n1,n2,nc1,h3,gc]
 refine GO (cap:=capc) (t:=55) (xs:=AY a.pl.cs) (el:=[.str x.me,.bool x.w.has,.int .i64 x.w.f.y,.int .i64 x.w.f.m,.int .i64 x.w.f.d,.int .i64 x.w.t.y,.int .i64 x.w.t.m,.int .i64 x.w.t.d,.int .i64 x.al,.int .i64 x.bl,.int .i64 x.ki,.sl 2 (D7 x.ts),.int .i64 x.mo,.sl 3 (D8 x.ad),.int .i64 0,.int .i64 0]) ((FR nc1).trans gc) q1 (by simp) ?_
 simp -implicitDefEqProofs -proj only [go_sem,seval,n1,n2,nc1,nc2,nc3,nc4,h3]
 have er:(AY a.pl.cs).set j (Ed [.str x.me,.bool x.w.has,.int .i64 x.w.f.y,.int .i64 x.w.f.m,.int .i64 x.w.f.d,.int .i64 x.w.t.y,.int .i64 x.w.t.m,.int .i64 x.w.t.d,.int .i64 x.al,.int .i64 x.bl,.int .i64 x.ki,.sl 2 (D7 x.ts),.int .i64 x.mo,.sl 3 (D8 x.ad),.int .i64 0,.int .i64 0] 9 [.int .i64 (IntKind.i64.wrap (x.bl+1))])=AY (a.pl.cs.set j ⟨x.me,x.w,x.al,IntKind.i64.wrap (x.bl+1),x.ki,x.ts,x.mo,x.ad,0,0⟩):=Ij (y:=⟨x.me,x.w,x.al,IntKind.i64.wrap (x.bl+1),x.ki,x.ts,x.mo,x.ad,0,0⟩)
 have a2:=(FG (A:=[(b7,Blk.box 28 (Ad a.nm a.cu a.f a.t m f (.own cc 16 0 a.cs.length capc) 0 0))]) (y:=.row 55 16 capc ((AY a.pl.cs).set j (Ed [.str x.me,.bool x.w.has,.int .i64 x.w.f.y,.int .i64 x.w.f.m,.int .i64 x.w.f.d,.int .i64 x.w.t.y,.int .i64 x.w.t.m,.int .i64 x.w.t.d,.int .i64 x.al,.int .i64 x.bl,.int .i64 x.ki,.sl 2 (D7 x.ts),.int .i64 x.mo,.sl 3 (D8 x.ad),.int .i64 0,.int .i64 0] 9 [.int .i64 (IntKind.i64.wrap (x.bl+1))]))) a1 k1).2
 have sb:PlanX.Sm ⟨a.nm,a.cu,a.f,a.t,a.pl.ms,a.pl.fs,a.pl.cs.set j ⟨x.me,x.w,x.al,IntKind.i64.wrap (x.bl+1),x.ki,x.ts,x.mo,x.ad,0,0⟩,0,0⟩:=⟨la.pl.sm.m,la.pl.sm.f,by simpa using la.pl.sm.c,HI (x:=x) la.pl.sm.ta hlx⟩
 have hpe:EW a ⟨a.nm,a.cu,a.f,a.t,a.pl.ms,a.pl.fs,a.pl.cs.set j ⟨x.me,x.w,x.al,IntKind.i64.wrap (x.bl+1),x.ki,x.ts,x.mo,x.ad,0,0⟩,0,0⟩=false:=Hc (q2 _ (by simp [EL,JK hx.bl]))
 have hg':GenS a.pl.ms a.pl.fs (a.pl.cs.set j ⟨x.me,x.w,x.al,IntKind.i64.wrap (x.bl+1),x.ki,x.ts,x.mo,x.ad,0,0⟩) m f (.own cc 16 0 a.cs.length capc) (AG (AG H' b7 (some (.box 28 (Ad a.nm a.cu a.f a.t m f (.own cc 16 0 a.cs.length capc) 0 0)))) cc (some (.row 55 16 capc ((AY a.pl.cs).set j (Ed [.str x.me,.bool x.w.has,.int .i64 x.w.f.y,.int .i64 x.w.f.m,.int .i64 x.w.f.d,.int .i64 x.w.t.y,.int .i64 x.w.t.m,.int .i64 x.w.t.d,.int .i64 x.al,.int .i64 x.bl,.int .i64 x.ki,.sl 2 (D7 x.ts),.int .i64 x.mo,.sl 3 (D8 x.ad),.int .i64 0,.int .i64 0] 9 [.int .i64 (IntKind.i64.wrap (x.bl+1))]))))):=by
  rw [er] at a2 ⊢
  exact GenS.off (B:=[(b3,.box 28 a.cells)]) hm hf (by simpa [PlanX.pl] using hc) a2 hnd
 refine Ek (Em la.sm sb) (AT (.refl _) (AT (GenS.lend (p:=⟨a.nm,a.cu,a.f,a.t,a.pl.ms,a.pl.fs,a.pl.cs.set j ⟨x.me,x.w,x.al,IntKind.i64.wrap (x.bl+1),x.ki,x.ts,x.mo,x.ad,0,0⟩,0,0⟩) hg') Ee)) rfl ?_
 rw [hpe]
 simp -implicitDefEqProofs -proj only [go_sem,seval,n1,n2,h3,nc1,nc2,nc3,nc4]
 refine Ek (Em sb la.sm) (AT (GenS.lend (p:=⟨a.nm,a.cu,a.f,a.t,a.pl.ms,a.pl.fs,a.pl.cs.set j ⟨x.me,x.w,x.al,IntKind.i64.wrap (x.bl+1),x.ki,x.ts,x.mo,x.ad,0,0⟩,0,0⟩) hg') (AT (.refl _) Ee)) rfl ?_
 rw [Fr,hpe]
 simp -implicitDefEqProofs -proj only [go_sem,seval]
 exact AU rfl
theorem K7 {X:List ChX} {c:AV} {P:List (AV×AV)} {pad:List AV} {H:Heap} {R:List (Nat×Blk)} {Pr:Program} (h3:JW c X.length ((EG X P).flatten++pad)) (h4:P.length=X.length) (h5:FJ X P) (h6:AX H (EJ X P++(Ez c ((EG X P).flatten++pad)++R))) (h7:(AQ (EJ X P++(Ez c ((EG X P).flatten++pad)++R))).Nodup) :
  ∃H2,Redesc Pr H H2∧EY c 16 X.length∧AX H2 (AN 55 c (AY X)++R)∧(AQ (AN 55 c (AY X)++R)).Nodup:=by
 rcases h3 with ⟨h0,q,rfl⟩ | ⟨cc,cap,rfl,g1,g2,g3⟩
 ·obtain rfl:X=[]:=List.eq_nil_of_length_eq_zero h0
  refine ⟨H,Redesc.refl _ _,.inl ⟨rfl,q,rfl⟩,?_,?_⟩
  ·simpa [EJ,Ez,AN] using h6
  ·simpa [EJ,Ez,AN] using h7
 ·simp -implicitDefEqProofs only [Ez,List.cons_append,List.nil_append] at h6 h7
  have ha:=Ac.1 h6
  simp -implicitDefEqProofs only [AQ,List.map_append,List.map_cons,List.nodup_append,List.nodup_cons] at h7
  obtain ⟨n1,⟨n2,n3⟩,n4⟩:=h7
  have hcc:cc∉AQ (EJ X P):=fun hm=>n4 cc hm cc (by simp) rfl
  have hr:AX (EX (EJ X P)) (EJ X P):=FY (by simpa [AQ] using n1)
  refine ⟨IU H (EX (EJ X P)) cc (.row 55 16 cap (AY X)),Lf (L:=EG X P) ha.2.1 (Is ha.1) (IJ hcc) (by rw [JI h4,Eq]) (I3 h5 hr) (fun el he=>?_) (by decide) g1 (by rw [Eq]; exact g2) g3,.inr ⟨cc,cap,rfl⟩,?_,?_⟩
  ·obtain ⟨x,_,rfl⟩:=List.mem_map.1 he
   rfl
  ·refine ⟨by rw [G0,if_pos rfl],ER.2 fun q hq=>?_⟩
   have hk1:¬q.1=cc:=fun e=>n2 (by
    rw [←e]
    exact List.mem_map.2 ⟨q,hq,rfl⟩)
   have hk2:q.1∉AQ (EJ X P):=fun hm=>n4 q.1 hm q.1 (List.mem_cons_of_mem _ (List.mem_map.2 ⟨q,hq,rfl⟩)) rfl
   rw [G0,if_neg hk1,if_pos (IJ hk2)]
   exact ER.1 ha.2.2 q hq
  ·simp -implicitDefEqProofs only [Gr,List.cons_append,List.nil_append,AQ,List.map_cons,List.nodup_cons]
   exact ⟨n2,n3⟩
theorem JO:∀{X:List ChX} {P:List (AV×AV)} {j:Nat},P.length=X.length→j<X.length→∃A B,∀(x:ChX) (q:AV×AV),EJ (X.set j x) (P.set j q)=A++((AN 58 q.1 (D7 x.ts)++AN 60 q.2 (D8 x.ad))++B)
 | [],_,_,_,h=>by simp at h
 | x::X,[],_,h,_=>by simp at h
 | x::X,q::P,0,_,_=>⟨[],EJ X P,fun y r=>by simp [EJ]⟩
 | x::X,q::P,j+1,h,hj=>by
  obtain ⟨A,B,hab⟩:=JO (X:=X) (P:=P) (j:=j) (by simpa using h) (by simpa using hj)
  exact ⟨(AN 58 q.1 (D7 x.ts)++AN 60 q.2 (D8 x.ad))++A,B,fun y r=>by simp -implicitDefEqProofs only [List.set_cons_succ,EJ,hab,List.append_assoc]⟩
theorem IA:∀{X:List ChX} {P:List (AV×AV)} {j:Nat} {x:ChX} {q:AV×AV},P.length=X.length→EG (X.set j x) (P.set j q)=(EG X P).set j (GP x q.1 q.2 x.ln x.co)
 | [],_,_,_,_,_=>by simp [EG]
 | x::X,[],_,_,_,h=>by simp at h
 | x::X,r::P,0,y,q,_=>by simp [EG]
 | x::X,r::P,j+1,y,q,h=>by simp -implicitDefEqProofs only [List.set_cons_succ,EG,IA (X:=X) (P:=P) (by simpa using h)]
theorem I5:∀{X:List ChX} {P:List (AV×AV)} {j:Nat} (h1:j<X.length) (h2:j<P.length),(EG X P)[j]? = some (GP X[j] (P[j]).1 (P[j]).2 X[j].ln X[j].co)
 | [],_,_,h,_=>by simp at h
 | x::X,[],_,_,h=>by simp at h
 | x::X,r::P,0,_,_=>rfl
 | x::X,r::P,j+1,h1,h2=>by
  have:=I5 (X:=X) (P:=P) (j:=j) (by simpa using h1) (by simpa using h2)
  simpa [EG] using this
theorem J4:∀{X:List ChX} {P:List (AV×AV)} {j:Nat} (h1:j<X.length) (h2:j<P.length),FJ X P→EY (P[j]).1 2 X[j].ts.length∧EY (P[j]).2 3 X[j].ad.length
 | [],_,_,h,_,_=>by simp at h
 | x::X,[],_,_,h,_=>by simp at h
 | x::X,r::P,0,_,_,h=>⟨h.1,h.2.1⟩
 | x::X,r::P,j+1,h1,h2,h=>J4 (X:=X) (P:=P) (j:=j) (by simpa using h1) (by simpa using h2) h.2.2
theorem I0:∀{X:List ChX} {P:List (AV×AV)} {j:Nat} {x:ChX} {q:AV×AV},FJ X P→EY q.1 2 x.ts.length→EY q.2 3 x.ad.length→FJ (X.set j x) (P.set j q)
 | [],[],_,_,_,_,_,_=>trivial
 | [],r::P,_,_,_,h,_,_=>False.elim h
 | x::X,[],_,_,_,_,_,_=>by cases ‹Nat› <;> trivial
 | x::X,r::P,0,y,q,h,h1,h2=>⟨h1,h2,h.2.2⟩
 | x::X,r::P,j+1,y,q,h,h1,h2=>⟨h.1,h.2.1,I0 (X:=X) (P:=P) h.2.2 h1 h2⟩
theorem NU {a:PlanX} (fa:a.Fit) (la:a.Lo) (g1:¬E0 a) {i k:Int} (hk:IntKind.i64.wrap ((IntKind.u64.wrap k).tmod 12)=6):DataW Try.prog Fc [Ev a,i64 i,i64 k] (bv true):=by
 refine D9 FW (by simp) ?_
 simp -implicitDefEqProofs -proj only [go_sem,seval]
 refine Av (fun b3 hb3=>?_)
 simp -implicitDefEqProofs -proj only [go_sem,seval]
 refine EF FV ?_
 simp -implicitDefEqProofs -proj only [go_sem,seval]
 refine EF Fd ?_
 rw [decide_eq_false g1]
 simp -implicitDefEqProofs -proj only [go_sem,seval]
 refine Ew (Fk (Jd la.sm)) (fun r H' hk'=>?_)
 obtain ⟨H1,⟨m,f,c,P,pad,rfl,hg⟩,u1,u2⟩:=hk'
 replace u2:∀k x,AG Heap.none b3 (some (.box 28 a.cells)) k=some x→H' k=some x:=u2
 obtain ⟨hm,hf,hc,hn,hok,hall0,hnd0⟩:=hg.gen
 obtain ⟨hall,hnd⟩:=Fp (B:=[(b3,.box 28 a.cells)]) u1 u2 hall0 ⟨EN,trivial⟩ hnd0 (by simp [AQ])
 clear u1 u2 hg hb3 hall0 hnd0
 simp -implicitDefEqProofs -proj only [go_sem,seval]
 refine Av (fun b7 hb7=>?_)
 replace hb7:H' b7=none:=hb7
 have h3:H' b3=some (.box 28 a.cells):=(Ac.1 hall).2.1
 obtain ⟨n1,n2⟩:=EZ hb7 h3
 have ll:=la.c
 have eX:(a.cs.map ChX.pl).length=a.cs.length:=List.length_map ..
 rw [eX] at hc hn
 by_cases h0:a.cs.length=0
 ·have hlc:F5 c=some (i64 a.cs.length):=by
   rcases hc with ⟨_,q,rfl⟩ | ⟨b,cap,rfl,_⟩
   ·rw [h0]; rfl
   ·rfl
  simp -implicitDefEqProofs -proj only [go_sem,seval,n1,n2,h3,hk,hlc,decide_eq_true (show (a.cs.length:Int)=0 by omega)]
  exact AU rfl
 obtain ⟨cc,capc,rfl,z1,z2,z3⟩:=hc.resolve_left (fun h=>h0 h.1)
 obtain ⟨hu,j,hj,hij⟩:=HG h0 (by omega) i
 have hjX:j<(a.cs.map ChX.pl).length:=by rw [eX]; exact hj
 have hjP:j<P.length:=by rw [hn]; exact hj
 obtain ⟨X,hX⟩:∃X,a.cs.map ChX.pl=X:=⟨_,rfl⟩
 have q2:∀y,EL a.cs[j] y=false→An EL a.cs (X.set j y)=false:=fun y hy=>by rw [←hX]; exact Hg hj hy
 have q0:X[j]'(by rw [←hX]; exact hjX)=(a.cs[j]).pl:=by simp [←hX]
 have lX:X.length=a.cs.length:=by rw [←hX,eX]
 have sX:∀z∈X,z.ts.length≤1000000∧z.ad.length≤1000000:=by rw [←hX]; exact la.pl.sm.ta
 rw [hX] at hall hnd hok z1
 have hjX:j<X.length:=by rw [lX]; exact hj
 have hnX:P.length=X.length:=by rw [hn,lX]
 have hlx:=la.ta _ (List.getElem_mem hj)
 obtain ⟨A,B,hab⟩:=JO hnX hjX
 have hab0:=hab X[j] P[j]
 rw [List.set_getElem_self,List.set_getElem_self] at hab0
 have hP:=J4 hjX hjP hok
 have hsg:=I5 hjX hjP
 rw [q0] at hab0 hP hsg
 generalize a.cs[j]=x at *
 obtain ⟨⟨t,ad⟩,hpj⟩:∃q,P[j]=q:=⟨_,rfl⟩
 rw [hpj] at hab0 hP hsg
 replace hsg:(EG X P)[j]? = some [.d (.str x.me),bv x.w.has,i64 x.w.f.y,i64 x.w.f.m,i64 x.w.f.d,i64 x.w.t.y,i64 x.w.t.m,i64 x.w.t.d,i64 x.al,i64 x.bl,i64 x.ki,t,i64 x.mo,ad,i64 0,i64 0]:=hsg
 replace hP:EY t 2 x.ts.length∧EY ad 3 x.ad.length:=hP
 replace hab0:EJ X P=A++((AN 58 t (D7 x.ts)++AN 60 ad (D8 x.ad))++B):=hab0
 have gc:H' cc=some (.box 55 ((EG X P).flatten++pad)):=(Ac.1 (Ac.1 (Ac.1 hall).1).2).1.1
 obtain ⟨nc1,nc2⟩:=EZ hb7 gc
 have nc3:¬cc=b3:=fun e=>by rw [e,h3] at gc; cases gc
 have nc4:¬b3=cc:=fun e=>nc3 e.symm
 have a1:=Fj (x:=.box 28 (Ad a.nm a.cu a.f a.t m f (.own cc 16 0 a.cs.length capc) 0 0)) hb7 hall
 have k1:=Fb (x:=.box 28 (Ad a.nm a.cu a.f a.t m f (.own cc 16 0 a.cs.length capc) 0 0)) hb7 hall hnd
 simp -implicitDefEqProofs -proj only [go_sem,seval,n1,n2,nc1,h3,hk,gc,hij,Int.toNat_natCast,decide_eq_false (show ¬(a.cs.length:Int)=0 by omega)]
 refine En hu (fun _=>?_)
 refine En (by omega) (fun _=>?_)
 refine Ix GF hsg (by decide) ?_
 simp -implicitDefEqProofs -proj only [go_sem,seval]
 refine FE (fun bs hs=>?_)
 replace hs:AG H' b7 (some (.box 28 (Ad a.nm a.cu a.f a.t m f (.own cc 16 0 a.cs.length capc) 0 0))) bs=none:=hs
 have a2:=E5 (y:=some (.row 58 2 1 [[.int .i64 0,.int .i64 0]])) hs a1
 rw [hab0] at a2 k1
 simp -implicitDefEqProofs only [Ez,List.append_assoc,List.cons_append,List.nil_append] at a2 k1
 simp -implicitDefEqProofs -proj only [go_sem,seval]
 refine IB (e:=58) (xs:=D7 x.ts) (y:=[.int .i64 0,.int .i64 0]) (A:=(b7,.box 28 (Ad a.nm a.cu a.f a.t m f (.own cc 16 0 a.cs.length capc) 0 0))::(A)) (B:=AN 60 ad (D8 x.ad)++B++(cc,.box 55 ((EG X P).flatten++pad))::(AN 51 f (EC (a.fs.map FeeX.pl))++(AN 34 m (EB (a.ms.map MeterX.pl))++[(b3,.box 28 a.cells)]))) (by rw [Fs]; exact hP.1) (Hq EN rfl) rfl (by simpa only [List.append_assoc,List.cons_append,List.nil_append] using a2) (by simpa only [List.append_assoc,List.cons_append,List.nil_append] using k1) (by rw [Fs]; simp -implicitDefEqProofs only [maxLen]; omega) (fun r' H2 hr' a3 k3=>?_)
 rw [Fs] at hr'
 have er:D7 x.ts++[[.int .i64 0,.int .i64 0]]=D7 (x.ts++[⟨0,0⟩]):=by simp -implicitDefEqProofs only [D7,List.map_append]; rfl
 rw [er] at a3 k3
 have g7:H2 b7=some (.box 28 (Ad a.nm a.cu a.f a.t m f (.own cc 16 0 a.cs.length capc) 0 0)):=a3.1
 have g3:H2 b3=some (.box 28 a.cells):=ER.1 a3 (b3,_) (by simp)
 have gc2:H2 cc=some (.box 55 ((EG X P).flatten++pad)):=ER.1 a3 (cc,_) (by simp)
 simp -implicitDefEqProofs -proj only [go_sem,seval,GC hr']
 refine G9 gc2 GF hsg (by decide) (GA hr') rfl (fun L' s1 hal1 e1=>?_)
 have e2:L'=EG (X.set j ⟨x.me,x.w,x.al,x.bl,x.ki,x.ts++[Tier.mk 0 0],x.mo,x.ad,0,0⟩) (P.set j (r',ad)):=by rw [IA hnX]; exact e1
 subst e2
 have a4:=FG (A:=(b7,.box 28 (Ad a.nm a.cu a.f a.t m f (.own cc 16 0 a.cs.length capc) 0 0))::(A++((AN 58 r' (D7 (x.ts++[⟨0,0⟩]))++AN 60 ad (D8 x.ad))++B))) (b:=cc) (y:=.box 55 ((EG (X.set j ⟨x.me,x.w,x.al,x.bl,x.ki,x.ts++[Tier.mk 0 0],x.mo,x.ad,0,0⟩) (P.set j (r',ad))).flatten++pad)) (by simpa only [List.append_assoc,List.cons_append,List.nil_append] using a3) (by simpa only [List.append_assoc,List.cons_append,List.nil_append] using k3)
 have k4:(AQ ((b7,Blk.box 28 (Ad a.nm a.cu a.f a.t m f (.own cc 16 0 a.cs.length capc) 0 0))::(A++((AN 58 r' (D7 (x.ts++[⟨0,0⟩]))++AN 60 ad (D8 x.ad))++B))++(cc,.box 55 ((EG (X.set j ⟨x.me,x.w,x.al,x.bl,x.ki,x.ts++[Tier.mk 0 0],x.mo,x.ad,0,0⟩) (P.set j (r',ad))).flatten++pad))::(AN 51 f (EC (a.fs.map FeeX.pl))++(AN 34 m (EB (a.ms.map MeterX.pl))++[(b3,.box 28 a.cells)])))).Nodup:=by
  simp -implicitDefEqProofs only [AQ,List.map_append,List.map_cons,List.append_assoc,List.cons_append,List.nil_append] at k3 ⊢; exact k3
 have hab1:EJ (X.set j ⟨x.me,x.w,x.al,x.bl,x.ki,x.ts++[Tier.mk 0 0],x.mo,x.ad,0,0⟩) (P.set j (r',ad))=A++((AN 58 r' (D7 (x.ts++[⟨0,0⟩]))++AN 60 ad (D8 x.ad))++B):=hab _ _
 rw [←hab1] at a4 k4
 obtain ⟨HP,hd,hcp,ap,kp⟩:=K7 (Pr:=Try.prog) (X:=X.set j ⟨x.me,x.w,x.al,x.bl,x.ki,x.ts++[Tier.mk 0 0],x.mo,x.ad,0,0⟩) (P:=P.set j (r',ad)) (c:=.own cc 16 0 a.cs.length capc) (pad:=pad) (R:=AN 51 f (EC (a.fs.map FeeX.pl))++(AN 34 m (EB (a.ms.map MeterX.pl))++[(b3,.box 28 a.cells),(b7,.box 28 (Ad a.nm a.cu a.f a.t m f (.own cc 16 0 a.cs.length capc) 0 0))]))
  (.inr ⟨cc,capc,by rw [List.length_set,lX],by
   have h1:(EG (X.set j ⟨x.me,x.w,x.al,x.bl,x.ki,x.ts++[Tier.mk 0 0],x.mo,x.ad,0,0⟩) (P.set j (r',ad))).length=(EG X P).length:=by rw [IA hnX,List.length_set]
   rw [List.length_append,FX GF,h1,←FX (GF (X:=X) (P:=P)),←List.length_append]; exact z1,by rw [List.length_set,lX]; exact z2,z3⟩) (by rw [List.length_set,List.length_set]; exact hnX) (I0 hok (by simpa using hr') hP.2)
  (JY a4 fun q hq=>by simp -implicitDefEqProofs only [Ez,List.mem_append,List.mem_cons,List.not_mem_nil,or_false] at hq ⊢; rcases hq with h | h | h | h | h | h <;> simp [h])
  (by
   have pm:=List.perm_append_singleton (b7,Blk.box 28 (Ad a.nm a.cu a.f a.t m f (.own cc 16 0 a.cs.length capc) 0 0)) (EJ (X.set j ⟨x.me,x.w,x.al,x.bl,x.ki,x.ts++[Tier.mk 0 0],x.mo,x.ad,0,0⟩) (P.set j (r',ad))++(cc,Blk.box 55 ((EG (X.set j ⟨x.me,x.w,x.al,x.bl,x.ki,x.ts++[Tier.mk 0 0],x.mo,x.ad,0,0⟩) (P.set j (r',ad))).flatten++pad))::(AN 51 f (EC (a.fs.map FeeX.pl))++(AN 34 m (EB (a.ms.map MeterX.pl))++[(b3,.box 28 a.cells)])))
   have:=((pm.map (fun q:Nat×Blk=>q.1)).nodup_iff).2 k4
   simpa only [Ez,List.append_assoc,List.cons_append,List.nil_append,AQ] using this)
 have gP3:HP b3=some (.box 28 a.cells):=ER.1 ap (b3,_) (by simp)
 have gP7:HP b7=some (.box 28 (Ad a.nm a.cu a.f a.t m f (.own cc 16 0 a.cs.length capc) 0 0)):=ER.1 ap (b7,_) (by simp)
 have hg':GenS (a.ms.map MeterX.pl) (a.fs.map FeeX.pl) (X.set j ⟨x.me,x.w,x.al,x.bl,x.ki,x.ts++[Tier.mk 0 0],x.mo,x.ad,0,0⟩) m f (.own cc 16 0 a.cs.length capc) HP :=
  GenS.off (B:=[(b3,.box 28 a.cells),(b7,.box 28 (Ad a.nm a.cu a.f a.t m f (.own cc 16 0 a.cs.length capc) 0 0))]) hm hf hcp (by simpa only [List.append_assoc] using ap) (by simpa only [List.append_assoc] using kp)
 have sb:PlanX.Sm ⟨a.nm,a.cu,a.f,a.t,a.pl.ms,a.pl.fs,X.set j ⟨x.me,x.w,x.al,x.bl,x.ki,x.ts++[Tier.mk 0 0],x.mo,x.ad,0,0⟩,0,0⟩:=⟨la.pl.sm.m,la.pl.sm.f,by show (X.set j _).length≤_; rw [List.length_set,lX]; omega,HI (x:=x) sX (by simp; omega)⟩
 have hpe:EW a ⟨a.nm,a.cu,a.f,a.t,a.pl.ms,a.pl.fs,X.set j ⟨x.me,x.w,x.al,x.bl,x.ki,x.ts++[Tier.mk 0 0],x.mo,x.ad,0,0⟩,0,0⟩=false:=Hc (q2 _ (by
  have:An FK x.ts (x.ts++[⟨0,0⟩])=false:=Ft (by simp)
  simp -implicitDefEqProofs only [EL,this,Bool.and_false,Bool.false_and]))
 simp -implicitDefEqProofs -proj only [go_sem,seval,n1,n2,nc1,nc2,nc3,nc4,g3,g7]
 unfold F4
 refine Redesc.call hd ?_
 refine Im (Em la.sm sb) (AT (.refl _) (AT (GenS.lend (p:=⟨a.nm,a.cu,a.f,a.t,a.pl.ms,a.pl.fs,X.set j ⟨x.me,x.w,x.al,x.bl,x.ki,x.ts++[Tier.mk 0 0],x.mo,x.ad,0,0⟩,0,0⟩) hg') Ee)) rfl ?_
 rw [hpe]
 simp -implicitDefEqProofs -proj only [go_sem,seval,gP3,gP7]
 refine Ek (Em sb la.sm) (AT (GenS.lend (p:=⟨a.nm,a.cu,a.f,a.t,a.pl.ms,a.pl.fs,X.set j ⟨x.me,x.w,x.al,x.bl,x.ki,x.ts++[Tier.mk 0 0],x.mo,x.ad,0,0⟩,0,0⟩) hg') (AT (.refl _) Ee)) rfl ?_
 rw [Fr,hpe]
 simp -implicitDefEqProofs -proj only [go_sem,seval]
 exact AU rfl
theorem Ov {a:PlanX} (fa:a.Fit) (la:a.Lo) (g1:¬E0 a) {i k:Int} (hk:IntKind.i64.wrap ((IntKind.u64.wrap k).tmod 12)=7):DataW Try.prog Fc [Ev a,i64 i,i64 k] (bv true):=by
 refine D9 FW (by simp) ?_
 simp -implicitDefEqProofs -proj only [go_sem,seval]
 refine Av (fun b3 hb3=>?_)
 simp -implicitDefEqProofs -proj only [go_sem,seval]
 refine EF FV ?_
 simp -implicitDefEqProofs -proj only [go_sem,seval]
 refine EF Fd ?_
 rw [decide_eq_false g1]
 simp -implicitDefEqProofs -proj only [go_sem,seval]
 refine Ew (Fk (Jd la.sm)) (fun r H' hk'=>?_)
 obtain ⟨H1,⟨m,f,c,P,pad,rfl,hg⟩,u1,u2⟩:=hk'
 replace u2:∀k x,AG Heap.none b3 (some (.box 28 a.cells)) k=some x→H' k=some x:=u2
 obtain ⟨hm,hf,hc,hn,hok,hall0,hnd0⟩:=hg.gen
 obtain ⟨hall,hnd⟩:=Fp (B:=[(b3,.box 28 a.cells)]) u1 u2 hall0 ⟨EN,trivial⟩ hnd0 (by simp [AQ])
 clear u1 u2 hg hb3 hall0 hnd0
 simp -implicitDefEqProofs -proj only [go_sem,seval]
 refine Av (fun b7 hb7=>?_)
 replace hb7:H' b7=none:=hb7
 have h3:H' b3=some (.box 28 a.cells):=(Ac.1 hall).2.1
 obtain ⟨n1,n2⟩:=EZ hb7 h3
 have ll:=la.c
 have eX:(a.cs.map ChX.pl).length=a.cs.length:=List.length_map ..
 rw [eX] at hc hn
 by_cases h0:a.cs.length=0
 ·have hlc:F5 c=some (i64 a.cs.length):=by
   rcases hc with ⟨_,q,rfl⟩ | ⟨b,cap,rfl,_⟩
   ·rw [h0]; rfl
   ·rfl
  simp -implicitDefEqProofs -proj only [go_sem,seval,n1,n2,h3,hk,hlc,decide_eq_true (show (a.cs.length:Int)=0 by omega)]
  exact AU rfl
 obtain ⟨cc,capc,rfl,z1,z2,z3⟩:=hc.resolve_left (fun h=>h0 h.1)
 obtain ⟨hu,j,hj,hij⟩:=HG h0 (by omega) i
 have hjX:j<(a.cs.map ChX.pl).length:=by rw [eX]; exact hj
 have hjP:j<P.length:=by rw [hn]; exact hj
 obtain ⟨X,hX⟩:∃X,a.cs.map ChX.pl=X:=⟨_,rfl⟩
 have q2:∀y,EL a.cs[j] y=false→An EL a.cs (X.set j y)=false:=fun y hy=>by rw [←hX]; exact Hg hj hy
 have q0:X[j]'(by rw [←hX]; exact hjX)=(a.cs[j]).pl:=by simp [←hX]
 have lX:X.length=a.cs.length:=by rw [←hX,eX]
 have sX:∀z∈X,z.ts.length≤1000000∧z.ad.length≤1000000:=by rw [←hX]; exact la.pl.sm.ta
 rw [hX] at hall hnd hok z1
 have hjX:j<X.length:=by rw [lX]; exact hj
 have hnX:P.length=X.length:=by rw [hn,lX]
 have hlx:=la.ta _ (List.getElem_mem hj)
 obtain ⟨A,B,hab⟩:=JO hnX hjX
 have hab0:=hab X[j] P[j]
 rw [List.set_getElem_self,List.set_getElem_self] at hab0
 have hP:=J4 hjX hjP hok
 have hsg:=I5 hjX hjP
 rw [q0] at hab0 hP hsg
 generalize a.cs[j]=x at *
 obtain ⟨⟨t,ad⟩,hpj⟩:∃q,P[j]=q:=⟨_,rfl⟩
 rw [hpj] at hab0 hP hsg
 replace hsg:(EG X P)[j]? = some [.d (.str x.me),bv x.w.has,i64 x.w.f.y,i64 x.w.f.m,i64 x.w.f.d,i64 x.w.t.y,i64 x.w.t.m,i64 x.w.t.d,i64 x.al,i64 x.bl,i64 x.ki,t,i64 x.mo,ad,i64 0,i64 0]:=hsg
 replace hP:EY t 2 x.ts.length∧EY ad 3 x.ad.length:=hP
 replace hab0:EJ X P=A++((AN 58 t (D7 x.ts)++AN 60 ad (D8 x.ad))++B):=hab0
 have gc:H' cc=some (.box 55 ((EG X P).flatten++pad)):=(Ac.1 (Ac.1 (Ac.1 hall).1).2).1.1
 obtain ⟨nc1,nc2⟩:=EZ hb7 gc
 have nc3:¬cc=b3:=fun e=>by rw [e,h3] at gc; cases gc
 have nc4:¬b3=cc:=fun e=>nc3 e.symm
 have a1:=Fj (x:=.box 28 (Ad a.nm a.cu a.f a.t m f (.own cc 16 0 a.cs.length capc) 0 0)) hb7 hall
 have k1:=Fb (x:=.box 28 (Ad a.nm a.cu a.f a.t m f (.own cc 16 0 a.cs.length capc) 0 0)) hb7 hall hnd
 simp -implicitDefEqProofs -proj only [go_sem,seval,n1,n2,nc1,h3,hk,gc,hij,Int.toNat_natCast,decide_eq_false (show ¬(a.cs.length:Int)=0 by omega)]
 refine En hu (fun _=>?_)
 refine En (by omega) (fun _=>?_)
 refine Ix GF hsg (by decide) ?_
 simp -implicitDefEqProofs -proj only [go_sem,seval]
 refine FE (fun bs hs=>?_)
 replace hs:AG H' b7 (some (.box 28 (Ad a.nm a.cu a.f a.t m f (.own cc 16 0 a.cs.length capc) 0 0))) bs=none:=hs
 have a2:=E5 (y:=some (.row 60 3 1 [[.int .i64 0,.int .i64 0,.int .i64 0]])) hs a1
 rw [hab0] at a2 k1
 simp -implicitDefEqProofs only [Ez,List.append_assoc,List.cons_append,List.nil_append] at a2 k1
 simp -implicitDefEqProofs -proj only [go_sem,seval]
 refine IB (e:=60) (xs:=D8 x.ad) (y:=[.int .i64 0,.int .i64 0,.int .i64 0]) (A:=(b7,.box 28 (Ad a.nm a.cu a.f a.t m f (.own cc 16 0 a.cs.length capc) 0 0))::(A++AN 58 t (D7 x.ts))) (B:=B++(cc,.box 55 ((EG X P).flatten++pad))::(AN 51 f (EC (a.fs.map FeeX.pl))++(AN 34 m (EB (a.ms.map MeterX.pl))++[(b3,.box 28 a.cells)]))) (by rw [Ff]; exact hP.2) (Hq EN rfl) rfl (by simpa only [List.append_assoc,List.cons_append,List.nil_append] using a2) (by simpa only [List.append_assoc,List.cons_append,List.nil_append] using k1) (by rw [Ff]; simp -implicitDefEqProofs only [maxLen]; omega) (fun r' H2 hr' a3 k3=>?_)
 rw [Ff] at hr'
 have er:D8 x.ad++[[.int .i64 0,.int .i64 0,.int .i64 0]]=D8 (x.ad++[⟨0,0,0⟩]):=by simp -implicitDefEqProofs only [D8,List.map_append]; rfl
 rw [er] at a3 k3
 have g7:H2 b7=some (.box 28 (Ad a.nm a.cu a.f a.t m f (.own cc 16 0 a.cs.length capc) 0 0)):=a3.1
 have g3:H2 b3=some (.box 28 a.cells):=ER.1 a3 (b3,_) (by simp)
 have gc2:H2 cc=some (.box 55 ((EG X P).flatten++pad)):=ER.1 a3 (cc,_) (by simp)
 simp -implicitDefEqProofs -proj only [go_sem,seval,GC hr']
 refine G9 gc2 GF hsg (by decide) (GA hr') rfl (fun L' s1 hal1 e1=>?_)
 have e2:L'=EG (X.set j ⟨x.me,x.w,x.al,x.bl,x.ki,x.ts,x.mo,x.ad++[Adj.mk 0 0 0],0,0⟩) (P.set j (t,r')):=by rw [IA hnX]; exact e1
 subst e2
 have a4:=FG (A:=(b7,.box 28 (Ad a.nm a.cu a.f a.t m f (.own cc 16 0 a.cs.length capc) 0 0))::(A++((AN 58 t (D7 x.ts)++AN 60 r' (D8 (x.ad++[⟨0,0,0⟩])))++B))) (b:=cc) (y:=.box 55 ((EG (X.set j ⟨x.me,x.w,x.al,x.bl,x.ki,x.ts,x.mo,x.ad++[Adj.mk 0 0 0],0,0⟩) (P.set j (t,r'))).flatten++pad)) (by simpa only [List.append_assoc,List.cons_append,List.nil_append] using a3) (by simpa only [List.append_assoc,List.cons_append,List.nil_append] using k3)
 have k4:(AQ ((b7,Blk.box 28 (Ad a.nm a.cu a.f a.t m f (.own cc 16 0 a.cs.length capc) 0 0))::(A++((AN 58 t (D7 x.ts)++AN 60 r' (D8 (x.ad++[⟨0,0,0⟩])))++B))++(cc,.box 55 ((EG (X.set j ⟨x.me,x.w,x.al,x.bl,x.ki,x.ts,x.mo,x.ad++[Adj.mk 0 0 0],0,0⟩) (P.set j (t,r'))).flatten++pad))::(AN 51 f (EC (a.fs.map FeeX.pl))++(AN 34 m (EB (a.ms.map MeterX.pl))++[(b3,.box 28 a.cells)])))).Nodup:=by
  simp -implicitDefEqProofs only [AQ,List.map_append,List.map_cons,List.append_assoc,List.cons_append,List.nil_append] at k3 ⊢; exact k3
 have hab1:EJ (X.set j ⟨x.me,x.w,x.al,x.bl,x.ki,x.ts,x.mo,x.ad++[Adj.mk 0 0 0],0,0⟩) (P.set j (t,r'))=A++((AN 58 t (D7 x.ts)++AN 60 r' (D8 (x.ad++[⟨0,0,0⟩])))++B):=hab _ _
 rw [←hab1] at a4 k4
 obtain ⟨HP,hd,hcp,ap,kp⟩:=K7 (Pr:=Try.prog) (X:=X.set j ⟨x.me,x.w,x.al,x.bl,x.ki,x.ts,x.mo,x.ad++[Adj.mk 0 0 0],0,0⟩) (P:=P.set j (t,r')) (c:=.own cc 16 0 a.cs.length capc) (pad:=pad) (R:=AN 51 f (EC (a.fs.map FeeX.pl))++(AN 34 m (EB (a.ms.map MeterX.pl))++[(b3,.box 28 a.cells),(b7,.box 28 (Ad a.nm a.cu a.f a.t m f (.own cc 16 0 a.cs.length capc) 0 0))]))
  (.inr ⟨cc,capc,by rw [List.length_set,lX],by
   have h1:(EG (X.set j ⟨x.me,x.w,x.al,x.bl,x.ki,x.ts,x.mo,x.ad++[Adj.mk 0 0 0],0,0⟩) (P.set j (t,r'))).length=(EG X P).length:=by rw [IA hnX,List.length_set]
   rw [List.length_append,FX GF,h1,←FX (GF (X:=X) (P:=P)),←List.length_append]; exact z1,by rw [List.length_set,lX]; exact z2,z3⟩) (by rw [List.length_set,List.length_set]; exact hnX) (I0 hok hP.1 (by simpa using hr'))
  (JY a4 fun q hq=>by simp -implicitDefEqProofs only [Ez,List.mem_append,List.mem_cons,List.not_mem_nil,or_false] at hq ⊢; rcases hq with h | h | h | h | h | h <;> simp [h])
  (by
   have pm:=List.perm_append_singleton (b7,Blk.box 28 (Ad a.nm a.cu a.f a.t m f (.own cc 16 0 a.cs.length capc) 0 0)) (EJ (X.set j ⟨x.me,x.w,x.al,x.bl,x.ki,x.ts,x.mo,x.ad++[Adj.mk 0 0 0],0,0⟩) (P.set j (t,r'))++(cc,Blk.box 55 ((EG (X.set j ⟨x.me,x.w,x.al,x.bl,x.ki,x.ts,x.mo,x.ad++[Adj.mk 0 0 0],0,0⟩) (P.set j (t,r'))).flatten++pad))::(AN 51 f (EC (a.fs.map FeeX.pl))++(AN 34 m (EB (a.ms.map MeterX.pl))++[(b3,.box 28 a.cells)])))
   have:=((pm.map (fun q:Nat×Blk=>q.1)).nodup_iff).2 k4
   simpa only [Ez,List.append_assoc,List.cons_append,List.nil_append,AQ] using this)
 have gP3:HP b3=some (.box 28 a.cells):=ER.1 ap (b3,_) (by simp)
 have gP7:HP b7=some (.box 28 (Ad a.nm a.cu a.f a.t m f (.own cc 16 0 a.cs.length capc) 0 0)):=ER.1 ap (b7,_) (by simp)
 have hg':GenS (a.ms.map MeterX.pl) (a.fs.map FeeX.pl) (X.set j ⟨x.me,x.w,x.al,x.bl,x.ki,x.ts,x.mo,x.ad++[Adj.mk 0 0 0],0,0⟩) m f (.own cc 16 0 a.cs.length capc) HP :=
  GenS.off (B:=[(b3,.box 28 a.cells),(b7,.box 28 (Ad a.nm a.cu a.f a.t m f (.own cc 16 0 a.cs.length capc) 0 0))]) hm hf hcp (by simpa only [List.append_assoc] using ap) (by simpa only [List.append_assoc] using kp)
 have sb:PlanX.Sm ⟨a.nm,a.cu,a.f,a.t,a.pl.ms,a.pl.fs,X.set j ⟨x.me,x.w,x.al,x.bl,x.ki,x.ts,x.mo,x.ad++[Adj.mk 0 0 0],0,0⟩,0,0⟩:=⟨la.pl.sm.m,la.pl.sm.f,by show (X.set j _).length≤_; rw [List.length_set,lX]; omega,HI (x:=x) sX (by simp; omega)⟩
 have hpe:EW a ⟨a.nm,a.cu,a.f,a.t,a.pl.ms,a.pl.fs,X.set j ⟨x.me,x.w,x.al,x.bl,x.ki,x.ts,x.mo,x.ad++[Adj.mk 0 0 0],0,0⟩,0,0⟩=false:=Hc (q2 _ (by
  have:An FT x.ad (x.ad++[⟨0,0,0⟩])=false:=Ft (by simp)
  simp -implicitDefEqProofs only [EL,this,Bool.and_false,Bool.false_and]))
 simp -implicitDefEqProofs -proj only [go_sem,seval,n1,n2,nc1,nc2,nc3,nc4,g3,g7]
 unfold F4
 refine Redesc.call hd ?_
 refine Im (Em la.sm sb) (AT (.refl _) (AT (GenS.lend (p:=⟨a.nm,a.cu,a.f,a.t,a.pl.ms,a.pl.fs,X.set j ⟨x.me,x.w,x.al,x.bl,x.ki,x.ts,x.mo,x.ad++[Adj.mk 0 0 0],0,0⟩,0,0⟩) hg') Ee)) rfl ?_
 rw [hpe]
 simp -implicitDefEqProofs -proj only [go_sem,seval,gP3,gP7]
 refine Ek (Em sb la.sm) (AT (GenS.lend (p:=⟨a.nm,a.cu,a.f,a.t,a.pl.ms,a.pl.fs,X.set j ⟨x.me,x.w,x.al,x.bl,x.ki,x.ts,x.mo,x.ad++[Adj.mk 0 0 0],0,0⟩,0,0⟩) hg') (AT (.refl _) Ee)) rfl ?_
 rw [Fr,hpe]
 simp -implicitDefEqProofs -proj only [go_sem,seval]
 exact AU rfl
theorem TreeTurned_ok {a:PlanX} (fa:a.Fit) {i k:Int} (fi:Fit i) (fk:Fit k):DataW Try.prog Fc [Ev a,i64 i,i64 k] (bv true):=by
 by_cases g1:E0 a
 ·refine D9 FW (by simp) ?_
  simp -implicitDefEqProofs -proj only [go_sem,seval]
  refine Av (fun b3 hb3=>?_)
  simp -implicitDefEqProofs -proj only [go_sem,seval]
  refine EF FV ?_
  simp -implicitDefEqProofs -proj only [go_sem,seval]
  refine EF Fd ?_
  rw [decide_eq_true g1]
  simp -implicitDefEqProofs -proj only [go_sem,seval]
  exact AU rfl
 have la:=PlanX.lo g1
 obtain ⟨n,hn,hk⟩:=RR k
 rcases (by omega:n=0∨n=1∨n=2∨n=3∨n=4∨n=5∨n=6∨n=7∨n=8∨n=9∨n=10∨n=11) with rfl | rfl | rfl | rfl | rfl | rfl | rfl | rfl | rfl | rfl | rfl | rfl
 ·exact Sy fa la g1 hk
 ·exact PB fa la g1 hk
 ·exact UR fa la g1 hk
 ·exact SB fa la g1 hk
 ·exact Vd fa la g1 hk
 ·exact Ro fa la g1 hk
 ·exact NU fa la g1 hk
 ·exact Ov fa la g1 hk
 ·exact Rm fa la g1 hk
 ·exact M8 fa la g1 hk
 ·exact Mp fa la g1 hk
 ·exact VK fa la g1 hk
end Go.Proofs.Ytndepejgafppmaa.Abs
