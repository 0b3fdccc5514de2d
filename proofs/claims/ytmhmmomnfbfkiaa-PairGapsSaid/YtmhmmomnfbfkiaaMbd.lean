/- Contracts of the machine and the contracts of one law (joined by kmerge.py). No claim stands here. -/
import Derived.Below
import Derived.Carry
import Derived.ChangeCalls
import Derived.ChangeOld
import Derived.IntWalk
import Derived.KernelRfl
import Derived.Laws.Append
import Derived.Laws.AppendOwn
import Derived.Laws.Cells
import Derived.Laws.CopyRow
import Derived.Laws.Entries
import Derived.Laws.MakeOwn
import Derived.Laws.NewFold
import Derived.Laws.Rows
import Derived.Laws.StructEq
import Derived.OpenShut
import Derived.Orders
import Derived.OrdersIn
import Derived.ProofKit
import Derived.RangeFuncLeaves
import Derived.RangeFuncSeq
import Derived.SizedLaws
import Derived.TacticsIn
import Derived.WalkKit
import Derived.Test.YtmhmmomnfbfkiaaMbc
set_option maxRecDepth 100000
set_option linter.unusedSimpArgs false
set_option linter.unusedVariables false
namespace Go.Proofs.Ytmhmmomnfbfkiaa.Abs
open Go Go.RowKit Go.Proofs
attribute [local go_sem] B8 Bd Dh DC Cs C9 Bb Al Ax DE DU BV CI DK Dm CQ BM DF Du B2 CO Cd DM DH DL Bg De C7 EJ CF EF DR B3 EL D3 Cf CB EC CP Da Bj C2 CK Co Bc DD Cq Bm Be Dr C8 Ck Bq CE Ca Cu Cm DS Ba CR Bv BS D7 DQ CJ Bt EK Cn DO Cb BW BI DA B1 BJ C3 Bn BB CG EI Dg D2 EA Df Cr Bi Cl Db DW EH Ce Bo Dj By D5 Dc EG Cw Di D8 C5 CN DI CH Bk BF BY BG A8 Bs C6 CL AH ev Ah Ai Aw BK A6 Cg CM DJ BX Aq As Bu Bf CC Bp CX Dn Ci Bw Do Dv BU DX B7 Cc Ch BZ B0 B9 Dt D9 Dq C4 A9 Ae setSeg nth seg mapD Au A7 AQ BC Cx DZ Av Af cond_true cond_false D6 BO BH BE BL EM D1 List.cons_append List.nil_append Bool.not_true Bool.not_false Bool.and_true Bool.and_self Nat.lt_add_left_iff_pos Nat.zero_add Nat.add_zero List.drop_succ_cons List.drop_zero List.take_succ_cons List.take_zero beq_self_eq_true Bool.false_eq_true CU Cj BQ Bx ED Dy DV D0 Bz A0 and_self and_true true_and CT Ds CZ Cp Cv BP Cz Ct Dw Dz C0 CV Dk EB DB DT CW CS Az A5 BA Ao Dx CD Br EE BN Bh Cy Dd BT DN CA List.length_cons List.length_nil Nat.min_def Int.cast_ofNat_Int Int.natCast_zero Int.natCast_one decide_true decide_false List.getElem?_cons_zero List.getElem?_cons_succ Dp Bl CY C1 DG DP
def IR (n:Int):AV:=.tup [i64 (if Fit n then n else 0),bv (Fit n)]
theorem Iq {n:Int} (h:Fit n):IR n = .tup [i64 n,bv true]:=by simp [IR,h]
theorem K0 {n:Int} (h:¬Fit n):IR n = .tup [i64 0,bv false]:=by simp [IR,h]
theorem PO {n m:Int} {b:Bool} (h:(b=true∧m=n∧Fit n)∨(b=false∧m=0∧¬Fit n)):AV.tup [i64 m,bv b]=IR n:=by
 rcases h with ⟨rfl,rfl,h⟩ | ⟨rfl,rfl,h⟩
 ·exact (Iq h).symm
 ·exact (K0 h).symm
theorem wI (n:Int):IntKind.i64.wrap n=(n+9223372036854775808) % 18446744073709551616-9223372036854775808:=IntKind.wrap_i64 n
def Es:Option Int→AV
 | some n=>.tup [i64 n,bv true]
 | none=>.tup [i64 0,bv false]
def LenP (x:Int) (n:Nat):Prop:=0≤x∧x<2 ^ n∧(x=0∧n=0∨0<n∧2 ^ (n-1)≤x)
theorem ASS {n m:Nat} (h:n≤m):(2:Int) ^ n≤2 ^ m:=by
 have:=Nat.pow_le_pow_right (n:=2) (by omega) h
 exact_mod_cast this
theorem RV (n:Nat):(0:Int)<2 ^ n:=Int.pow_pos (by omega)
theorem LenP.shift {x:Int} {k n:Nat} (h0:0≤x) (h1:2 ^ k≤x) (h:LenP (x / 2 ^ k) n):LenP x (k+n):=by
 obtain ⟨a0,a1,a2⟩:=h
 have hk:=RV k
 have e1:x<2 ^ (k+n):=by
  rw [Int.ediv_lt_iff_lt_mul hk] at a1
  rw [Int.pow_add,Int.mul_comm]; exact a1
 have h2:1≤x / 2 ^ k:=by rw [Int.le_ediv_iff_mul_le hk]; omega
 refine ⟨h0,e1,.inr ?_⟩
 rcases a2 with ⟨a2,_⟩ | ⟨a2,a3⟩
 ·omega
 ·refine ⟨by omega,?_⟩
  rw [Int.le_ediv_iff_mul_le hk] at a3
  have:k+n-1=k+(n-1):=by omega
  rw [this,Int.pow_add,Int.mul_comm]; exact a3
def Iv (m q r c:Int):Prop:=m=1∧0<r∨m=2∧c≤2*r∨m=3∧(c<2*r∨c=2*r∧q % 2=1)
instance (m q r c:Int):Decidable (Iv m q r c):=by unfold Iv; exact inferInstance
def Fo (p c m:Int):Int:=p / c+if Iv m (p / c) (p % c) c then 1 else 0
def TY (m:Int) (neg:Bool) (q r c:Int):Prop:=r≠0∧(m=0∧neg=true∨m=1∧neg=false∨m=2∧(r > c-r∨r=c-r∧neg=false)∨m=3∧(r > c-r∨r=c-r∧q % 2=1))
instance (m:Int) (neg:Bool) (q r c:Int):Decidable (TY m neg q r c):=by unfold TY; exact inferInstance
theorem AL3 {p c:Int} (hc:0<c):p / c*c+p % c=p∧0≤p % c∧p % c<c:=by
 have e:=Int.emod_add_mul_ediv p c
 rw [Int.mul_comm] at e
 exact ⟨by omega,Int.emod_nonneg _ (by omega),Int.emod_lt_of_pos _ hc⟩
theorem MX {p c m:Int} (hc:0<c) (hm:0≤m∧m≤3):∃q r,q*c+r=p∧0≤r∧r<c∧p / c=q∧p % c=r∧(¬Iv m q r c∧Fo p c m=q∨Iv m q r c∧Fo p c m=q+1):=by
 obtain ⟨e,f,g⟩:=AL3 (p:=p) hc
 refine ⟨_,_,e,f,g,rfl,rfl,?_⟩
 unfold Fo
 by_cases h:Iv m (p / c) (p % c) c
 ·exact .inr ⟨h,by rw [if_pos h]⟩
 ·exact .inl ⟨h,by rw [if_neg h,Int.add_zero]⟩
theorem SZ {p p' c m:Int} (hc:0<c) (hm:0≤m∧m≤3) (h:p≤p'):Fo p c m≤Fo p' c m:=by
 obtain ⟨q,r,e,f,g,d1,d2,hh⟩:=MX (p:=p) hc hm
 obtain ⟨q',r',e',f',g',d1',d2',hh'⟩:=MX (p:=p') hc hm
 have hq:q≤q':=by rw [←d1,←d1']; exact Int.ediv_le_ediv hc h
 rcases Int.lt_or_eq_of_le hq with h1 | h1
 ·omega
 ·subst h1
  have hr:r≤r':=by omega
  unfold Iv at hh hh'
  omega
theorem AEB {a c m:Int} (hc:0<c) (hm:0≤m∧m≤3) (ha : -9223372036854775808≤a∧a≤9223372036854775807) : -9223372036854775808≤Fo a c m∧Fo a c m≤9223372036854775807:=by
 have h1:Fo (-9223372036854775808) c m≤Fo a c m:=SZ hc hm ha.1
 have h2:Fo a c m≤Fo 9223372036854775807 c m:=SZ hc hm ha.2
 have h3 : -9223372036854775808≤Fo (-9223372036854775808) c m:=by
  obtain ⟨q,r,e,f,g,d1,d2,hh⟩:=MX (p:=-9223372036854775808) hc hm
  have : -9223372036854775808≤q:=by
   rw [←d1,Int.le_ediv_iff_mul_le hc]; omega
  omega
 have h4:Fo 9223372036854775807 c m≤9223372036854775807:=by
  obtain ⟨q,r,e,f,g,d1,d2,hh⟩:=MX (p:=9223372036854775807) hc hm
  by_cases h0:c=1
  ·subst h0
   unfold Iv at hh
   omega
  ·have:q<4611686018427387904:=by
    rw [←d1,Int.ediv_lt_iff_lt_mul hc]; omega
   omega
 omega
def Iy (p c:Int):Int:=if p / c≤9223372036854775807 then p / c else 9223372036854775807
theorem SW {p c n:Int} (hc:0<c) (hn:n≤9223372036854775807):n≤Iy p c↔n*c≤p:=by
 unfold Iy
 rw [←Int.le_ediv_iff_mul_le hc]
 split <;> omega
def LQ (p c m:Int):AV:=if 0<c∧0≤m∧m≤3 then IR (Fo p c m) else .tup [i64 0,bv false]
theorem Sd {p c m:Int} (hc:0<c) (hm:0≤m∧m≤3):LQ p c m=IR (Fo p c m):=by rw [LQ,if_pos ⟨hc,hm⟩]
theorem AIe {p c m:Int} (h:¬(0<c∧0≤m∧m≤3)):LQ p c m = .tup [i64 0,bv false]:=by rw [LQ,if_neg h]
structure Adj where
 k:Int
 n:Int
 m:Int
def Adj.el (a:Adj):List D:=[.int .i64 a.k,.int .i64 a.n,.int .i64 a.m]
def Kl (l:List Adj):List (List D):=l.map Adj.el
theorem I9 {l:List Adj}:(Kl l).length=l.length:=List.length_map ..
theorem AED {l:List Adj} {i:Nat} (h:i<l.length):(Kl l)[((i:Int)).toNat]? = some (Adj.el l[i]):=by
 rw [Int.toNat_natCast]; simp [Kl,h]
abbrev Fe (l:List Adj):AV:=.d (.sl 3 (Kl l))
def Adj.Fit (a:Adj):Prop:=Abs.Fit a.k∧Abs.Fit a.n∧Abs.Fit a.m
def Km (n:Int):Option Int:=if Fit n then some n else none
theorem QZ (n:Int):IR n=Es (Km n):=by
 unfold Km
 by_cases h:Fit n
 ·rw [Iq h,if_pos h]; rfl
 ·rw [K0 h,if_neg h]; rfl
def Jz (p c m:Int):Option Int:=if 0<c∧0≤m∧m≤3 then Km (Fo p c m) else none
theorem TK (p c m:Int):LQ p c m=Es (Jz p c m):=by
 unfold LQ Jz
 split
 ·exact QZ _
 ·rfl
theorem ASc {n:Nat} {l:List D} (h:FM Try.prog (n+2) 136 l):∃a:Adj,a.Fit∧l=a.el:=by
 obtain ⟨ls,rfl,h1,_⟩:=Ld (fs:=#[⟨"Kind",3,0,false,"","",0⟩,⟨"N",3,1,false,"","",8⟩,⟨"Mode",3,2,false,"","",16⟩]) h (by kernel_rfl)
 obtain ⟨l0,r0,rfl,t0,h1⟩:=typedL_cons h1
 obtain ⟨l1,r1,rfl,t1,h1⟩:=typedL_cons h1
 obtain ⟨l2,r2,rfl,t2,h1⟩:=typedL_cons h1
 obtain rfl:=typedL_nil h1
 obtain ⟨z0,rfl,f0,_⟩:=typed_int t0 (by kernel_rfl)
 obtain ⟨z1,rfl,f1,_⟩:=typed_int t1 (by kernel_rfl)
 obtain ⟨z2,rfl,f2,_⟩:=typed_int t2 (by kernel_rfl)
 exact ⟨⟨z0,z1,z2⟩,⟨f0,f1,f2⟩,rfl⟩
structure Tier where
 u:Int
 r:Int
def Tier.el (a:Tier):List D:=[.int .i64 a.u,.int .i64 a.r]
def Lx (l:List Tier):List (List D):=l.map Tier.el
theorem GH {l:List Tier}:(Lx l).length=l.length:=List.length_map ..
theorem Kh {l:List Tier} {i:Nat} (h:i<l.length):(Lx l)[((i:Int)).toNat]? = some [.int .i64 l[i].u,.int .i64 l[i].r]:=by
 rw [Int.toNat_natCast]; simp [Lx,h,Tier.el]
theorem QU {l:List Adj} {i:Nat} (h:i<l.length):(Kl l)[((i:Int)).toNat]? = some [.int .i64 l[i].k,.int .i64 l[i].n,.int .i64 l[i].m]:=AED h
abbrev Fc (l:List Tier):AV:=.d (.sl 2 (Lx l))
def Tier.Fit (a:Tier):Prop:=Abs.Fit a.u∧Abs.Fit a.r
structure PartX where
 me:Int
 f:Int
 t:Int
 al:Int
 bl:Int
 ki:Int
 ts:List Tier
 mo:Int
 ad:List Adj
abbrev PartX.el (x:PartX):List D:=[.int .i64 x.me,.int .i64 x.f,.int .i64 x.t,.int .i64 x.al,.int .i64 x.bl,.int .i64 x.ki,.sl 2 (Lx x.ts),.int .i64 x.mo,.sl 3 (Kl x.ad)]
abbrev Jm (x:PartX):AV:=.agg [i64 x.me,i64 x.f,i64 x.t,i64 x.al,i64 x.bl,i64 x.ki,Fc x.ts,i64 x.mo,Fe x.ad]
structure PartX.Fit (x:PartX):Prop where
 me:Abs.Fit x.me
 f:Abs.Fit x.f
 t:Abs.Fit x.t
 al:Abs.Fit x.al
 bl:Abs.Fit x.bl
 ki:Abs.Fit x.ki
 ts:∀a∈x.ts,Tier.Fit a
 tn:x.ts.length≤9223372036854775807
 mo:Abs.Fit x.mo
 ad:∀a∈x.ad,Adj.Fit a
 an:x.ad.length≤9223372036854775807
theorem Si {α:Type} {g : α→List D} {F : α→Prop} {n:Nat} {e:TypeId} (hh:∀l,FM Try.prog n e l→∃a,F a∧l=g a):∀{xs:List (List D)},(∀el∈xs,FM Try.prog n e el)→∃zs:List α,xs=zs.map g∧∀a∈zs,F a
 | [],_=>⟨[],rfl,fun a h=>by cases h⟩
 | x::xs,h2=>by
  obtain ⟨a,ha,rfl⟩:=hh x (h2 x (List.mem_cons_self ..))
  obtain ⟨zs,rfl,hz⟩:=Si hh (fun el h'=>h2 el (List.mem_cons_of_mem _ h'))
  refine ⟨a::zs,rfl,fun b hb=>?_⟩
  rcases List.mem_cons.1 hb with rfl | hb
  ·exact ha
  ·exact hz b hb
theorem AN5 {n:Nat} {l:List D} (h:FM Try.prog (n+2) 141 l):∃a:Tier,a.Fit∧l=a.el:=by
 obtain ⟨ls,rfl,h1,_⟩:=Ld (fs:=#[⟨"Upto",3,0,false,"","",0⟩,⟨"Rate",3,1,false,"","",8⟩]) h (by kernel_rfl)
 obtain ⟨l0,r0,rfl,t0,h1⟩:=typedL_cons h1
 obtain ⟨l1,r1,rfl,t1,h1⟩:=typedL_cons h1
 obtain rfl:=typedL_nil h1
 obtain ⟨z0,rfl,f0,_⟩:=typed_int t0 (by kernel_rfl)
 obtain ⟨z1,rfl,f1,_⟩:=typed_int t1 (by kernel_rfl)
 exact ⟨⟨z0,z1⟩,⟨f0,f1⟩,rfl⟩
theorem MI {α:Type} {g : α→List D} {F : α→Prop} {n k:Nat} {t e:TypeId} {l:List D} (hh:∀l,FM Try.prog n e l→∃a,F a∧l=g a) (ht:Try.prog.underlying t=some (.slice e)) (hc:Try.prog.cellsOf e=k) (h:FM Try.prog (n+1) t l) :
  ∃zs:List α,l=[.sl k (zs.map g)]∧(∀a∈zs,F a)∧zs.length≤9223372036854775807:=by
 obtain ⟨xs,rfl,h1,h2,_⟩:=Tz h ht
 obtain ⟨zs,rfl,hz⟩:=Si hh h2
 exact ⟨zs,by rw [hc],hz,by rw [List.length_map] at h1; exact h1⟩
theorem ASf {n:Nat} {l:List D} (h:FM Try.prog (n+4) 93 l):∃x:PartX,x.Fit∧l=x.el∧Hx Try.prog 93 l=Jm x:=by
 obtain ⟨ls,rfl,h1,e⟩:=Ld (fs:=#[⟨"Meter",3,0,false,"","",0⟩,⟨"From",3,1,false,"","",8⟩,⟨"To",3,2,false,"","",16⟩,⟨"Allowance",3,3,false,"","",24⟩,⟨"Block",3,4,false,"","",32⟩,⟨"Kind",3,5,false,"","",40⟩,⟨"Tiers",90,6,false,"","",48⟩,⟨"Mode",3,7,false,"","",72⟩,⟨"Adjusts",91,8,false,"","",80⟩]) h (by kernel_rfl)
 obtain ⟨l0,r0,rfl,t0,h1⟩:=typedL_cons h1
 obtain ⟨l1,r1,rfl,t1,h1⟩:=typedL_cons h1
 obtain ⟨l2,r2,rfl,t2,h1⟩:=typedL_cons h1
 obtain ⟨l3,r3,rfl,t3,h1⟩:=typedL_cons h1
 obtain ⟨l4,r4,rfl,t4,h1⟩:=typedL_cons h1
 obtain ⟨l5,r5,rfl,t5,h1⟩:=typedL_cons h1
 obtain ⟨l6,r6,rfl,t6,h1⟩:=typedL_cons h1
 obtain ⟨l7,r7,rfl,t7,h1⟩:=typedL_cons h1
 obtain ⟨l8,r8,rfl,t8,h1⟩:=typedL_cons h1
 obtain rfl:=typedL_nil h1
 obtain ⟨z0,rfl,f0,_⟩:=typed_int t0 (by kernel_rfl)
 obtain ⟨z1,rfl,f1,_⟩:=typed_int t1 (by kernel_rfl)
 obtain ⟨z2,rfl,f2,_⟩:=typed_int t2 (by kernel_rfl)
 obtain ⟨z3,rfl,f3,_⟩:=typed_int t3 (by kernel_rfl)
 obtain ⟨z4,rfl,f4,_⟩:=typed_int t4 (by kernel_rfl)
 obtain ⟨z5,rfl,f5,_⟩:=typed_int t5 (by kernel_rfl)
 obtain ⟨z7,rfl,f7,_⟩:=typed_int t7 (by kernel_rfl)
 obtain ⟨z6,rfl,f6,g6⟩:=MI (k:=2) (e:=141) (fun l h=>AN5 h) (by kernel_rfl) (by kernel_rfl) t6
 obtain ⟨z8,rfl,f8,g8⟩:=MI (k:=3) (e:=136) (fun l h=>ASc h) (by kernel_rfl) (by kernel_rfl) t8
 exact ⟨⟨z0,z1,z2,z3,z4,z5,z6,z7,z8⟩,⟨f0,f1,f2,f3,f4,f5,f6,g6,f7,f8,g8⟩,rfl,e⟩
abbrev MO (cur:ByteArray) (f t:Int) (ms ss ps:List (List D)):AV:=.agg [.d (.str cur),i64 f,i64 t,.d (.sl 5 ms),.d (.sl 3 ss),.d (.sl 9 ps)]
theorem RJ {n lo hi:Int}:DataW Try.prog Os [i64 n,i64 lo,i64 hi] (bv (decide (lo≤n∧n≤hi))):=by
 refine Aj AQs (by simp) ?_
 by_cases h1:lo≤n
 ·by_cases h2:n≤hi
  ·simp -implicitDefEqProofs -proj only [go_sem,seval,decide_eq_true h1,decide_eq_true h2]
   exact AM (by rw [decide_eq_true ⟨h1,h2⟩])
  ·simp -implicitDefEqProofs -proj only [go_sem,seval,decide_eq_true h1,decide_eq_false h2]
   exact AM (by rw [decide_eq_false (fun h=>h2 h.2)])
 ·simp -implicitDefEqProofs -proj only [go_sem,seval,decide_eq_false h1]
  exact AM (by rw [decide_eq_false (fun h=>h1 h.1)])
theorem Et {n lo hi:Int} (h:lo≤n∧n≤hi):DataW Try.prog Os [i64 n,i64 lo,i64 hi] (bv true):=by
 have:=@RJ n lo hi; rwa [decide_eq_true h] at this
theorem Ex {n lo hi:Int} (h:¬(lo≤n∧n≤hi)):DataW Try.prog Os [i64 n,i64 lo,i64 hi] (bv false):=by
 have:=@RJ n lo hi; rwa [decide_eq_false h] at this
theorem O1 {cur:ByteArray} {f t a b:Int} {ms ss ps:List (List D)}:DataW Try.prog Wr [MO cur f t ms ss ps,i64 a,i64 b] (bv (decide (f≤a∧a≤b∧b≤t))):=by
 refine Aj ADG (by simp) ?_
 simp -implicitDefEqProofs -proj only [go_sem,seval]
 refine AI (fun b3 hb3=>?_)
 by_cases h1:f≤a
 ·by_cases h2:a≤b
  ·by_cases h3:b≤t
   ·simp -implicitDefEqProofs -proj only [go_sem,seval,decide_eq_true h1,decide_eq_true h2,decide_eq_true h3]
    exact AM (by rw [decide_eq_true ⟨h1,h2,h3⟩])
   ·simp -implicitDefEqProofs -proj only [go_sem,seval,decide_eq_true h1,decide_eq_true h2,decide_eq_false h3]
    exact AM (by rw [decide_eq_false (fun h=>h3 h.2.2)])
  ·simp -implicitDefEqProofs -proj only [go_sem,seval,decide_eq_true h1,decide_eq_false h2]
   exact AM (by rw [decide_eq_false (fun h=>h2 h.2.1)])
 ·simp -implicitDefEqProofs -proj only [go_sem,seval,decide_eq_false h1]
  exact AM (by rw [decide_eq_false (fun h=>h1 h.1)])
structure MeterX where
 nm:ByteArray
 un:ByteArray
 mx:Int
 ln:Int
 co:Int
def MeterX.el (a:MeterX):List D:=[.str a.nm,.str a.un,.int .i64 a.mx,.int .i64 a.ln,.int .i64 a.co]
def AX (l:List MeterX):List (List D):=l.map MeterX.el
theorem Fy {l:List MeterX}:(AX l).length=l.length:=List.length_map ..
theorem G2 {l:List MeterX} {i:Nat} (h:i<l.length):(AX l)[((i:Int)).toNat]? = some [.str l[i].nm,.str l[i].un,.int .i64 l[i].mx,.int .i64 l[i].ln,.int .i64 l[i].co]:=by
 rw [Int.toNat_natCast]; simp [AX,h,MeterX.el]
def MeterX.Fit (a:MeterX):Prop:=Abs.Fit a.mx∧Abs.Fit a.ln∧Abs.Fit a.co
structure SumX where
 a:Int
 f:Int
 t:Int
def SumX.el (a:SumX):List D:=[.int .i64 a.a,.int .i64 a.f,.int .i64 a.t]
def GL (l:List SumX):List (List D):=l.map SumX.el
theorem HW {l:List SumX}:(GL l).length=l.length:=List.length_map ..
theorem Mn {l:List SumX} {i:Nat} (h:i<l.length):(GL l)[((i:Int)).toNat]? = some [.int .i64 l[i].a,.int .i64 l[i].f,.int .i64 l[i].t]:=by
 rw [Int.toNat_natCast]; simp [GL,h,SumX.el]
def SumX.Fit (a:SumX):Prop:=Abs.Fit a.a∧Abs.Fit a.f∧Abs.Fit a.t
def Fw (l:List PartX):List (List D):=l.map PartX.el
theorem HG {l:List PartX}:(Fw l).length=l.length:=List.length_map ..
theorem L2 {l:List PartX} {i:Nat} (h:i<l.length):(Fw l)[((i:Int)).toNat]? = some [.int .i64 l[i].me,.int .i64 l[i].f,.int .i64 l[i].t,.int .i64 l[i].al,.int .i64 l[i].bl,.int .i64 l[i].ki,.sl 2 (Lx l[i].ts),.int .i64 l[i].mo,.sl 3 (Kl l[i].ad)]:=by
 rw [Int.toNat_natCast]; simp [Fw,h,PartX.el]
structure CoreX where
 cur:ByteArray
 f:Int
 t:Int
 ms:List MeterX
 ss:List SumX
 ps:List PartX
abbrev F9 (c:CoreX):AV:=MO c.cur c.f c.t (AX c.ms) (GL c.ss) (Fw c.ps)
structure CoreX.Fit (c:CoreX):Prop where
 f:Abs.Fit c.f
 t:Abs.Fit c.t
 ms:∀a∈c.ms,a.Fit
 mn:c.ms.length≤9223372036854775807
 ss:∀a∈c.ss,a.Fit
 sn:c.ss.length≤9223372036854775807
 ps:∀a∈c.ps,a.Fit
 pn:c.ps.length≤9223372036854775807
theorem OW {n:Nat} {t:TypeId} {l:List D} (h:FM Try.prog (n+1) t l) (ht:Try.prog.underlying t=some .string):∃s,l=[.str s]:=by
 rw [FM,ht] at h
 obtain ⟨s,rfl,_⟩:=h
 exact ⟨s,rfl⟩
theorem ANj {n:Nat} {l:List D} (h:FM Try.prog (n+2) 39 l):∃a:MeterX,a.Fit∧l=a.el:=by
 obtain ⟨ls,rfl,h1,_⟩:=Ld (fs:=#[⟨"Name",9,0,false,"","",0⟩,⟨"Unit",9,1,false,"","",16⟩,⟨"Max",3,2,false,"","",32⟩,⟨"Line",3,3,false,"","",40⟩,⟨"Col",3,4,false,"","",48⟩]) h (by kernel_rfl)
 obtain ⟨l0,r0,rfl,t0,h1⟩:=typedL_cons h1
 obtain ⟨l1,r1,rfl,t1,h1⟩:=typedL_cons h1
 obtain ⟨l2,r2,rfl,t2,h1⟩:=typedL_cons h1
 obtain ⟨l3,r3,rfl,t3,h1⟩:=typedL_cons h1
 obtain ⟨l4,r4,rfl,t4,h1⟩:=typedL_cons h1
 obtain rfl:=typedL_nil h1
 obtain ⟨z0,rfl⟩:=OW t0 (by kernel_rfl)
 obtain ⟨z1,rfl⟩:=OW t1 (by kernel_rfl)
 obtain ⟨z2,rfl,f2,_⟩:=typed_int t2 (by kernel_rfl)
 obtain ⟨z3,rfl,f3,_⟩:=typed_int t3 (by kernel_rfl)
 obtain ⟨z4,rfl,f4,_⟩:=typed_int t4 (by kernel_rfl)
 exact ⟨⟨z0,z1,z2,z3,z4⟩,⟨f2,f3,f4⟩,rfl⟩
theorem AVT {n:Nat} {l:List D} (h:FM Try.prog (n+2) 89 l):∃a:SumX,a.Fit∧l=a.el:=by
 obtain ⟨ls,rfl,h1,_⟩:=Ld (fs:=#[⟨"Amount",3,0,false,"","",0⟩,⟨"From",3,1,false,"","",8⟩,⟨"To",3,2,false,"","",16⟩]) h (by kernel_rfl)
 obtain ⟨l0,r0,rfl,t0,h1⟩:=typedL_cons h1
 obtain ⟨l1,r1,rfl,t1,h1⟩:=typedL_cons h1
 obtain ⟨l2,r2,rfl,t2,h1⟩:=typedL_cons h1
 obtain rfl:=typedL_nil h1
 obtain ⟨z0,rfl,f0,_⟩:=typed_int t0 (by kernel_rfl)
 obtain ⟨z1,rfl,f1,_⟩:=typed_int t1 (by kernel_rfl)
 obtain ⟨z2,rfl,f2,_⟩:=typed_int t2 (by kernel_rfl)
 exact ⟨⟨z0,z1,z2⟩,⟨f0,f1,f2⟩,rfl⟩
theorem typed_core {n:Nat} {l:List D} (h:FM Try.prog (n+6) 26 l):∃c:CoreX,c.Fit∧l=[.str c.cur,.int .i64 c.f,.int .i64 c.t,.sl 5 (AX c.ms),.sl 3 (GL c.ss),.sl 9 (Fw c.ps)]∧Hx Try.prog 26 l=F9 c:=by
 obtain ⟨ls,rfl,h1,e⟩:=Ld (fs:=#[⟨"Currency",9,0,false,"","",0⟩,⟨"From",3,1,false,"","",16⟩,⟨"To",3,2,false,"","",24⟩,⟨"Meters",22,3,false,"","",32⟩,⟨"Sums",23,4,false,"","",56⟩,⟨"Parts",24,5,false,"","",80⟩]) h (by kernel_rfl)
 obtain ⟨l0,r0,rfl,t0,h1⟩:=typedL_cons h1
 obtain ⟨l1,r1,rfl,t1,h1⟩:=typedL_cons h1
 obtain ⟨l2,r2,rfl,t2,h1⟩:=typedL_cons h1
 obtain ⟨l3,r3,rfl,t3,h1⟩:=typedL_cons h1
 obtain ⟨l4,r4,rfl,t4,h1⟩:=typedL_cons h1
 obtain ⟨l5,r5,rfl,t5,h1⟩:=typedL_cons h1
 obtain rfl:=typedL_nil h1
 obtain ⟨z0,rfl⟩:=OW t0 (by kernel_rfl)
 obtain ⟨z1,rfl,f1,_⟩:=typed_int t1 (by kernel_rfl)
 obtain ⟨z2,rfl,f2,_⟩:=typed_int t2 (by kernel_rfl)
 obtain ⟨z3,rfl,f3,g3⟩:=MI (k:=5) (e:=39) (fun l h=>ANj h) (by kernel_rfl) (by kernel_rfl) t3
 obtain ⟨z4,rfl,f4,g4⟩:=MI (k:=3) (e:=89) (fun l h=>AVT h) (by kernel_rfl) (by kernel_rfl) t4
 obtain ⟨z5,rfl,f5,g5⟩:=MI (k:=9) (e:=93) (g:=PartX.el) (F:=PartX.Fit) (fun l h=>by obtain ⟨x,h1,h2,_⟩:=ASf h; exact ⟨x,h1,h2⟩) (by kernel_rfl) (by kernel_rfl) t5
 exact ⟨⟨z0,z1,z2,z3,z4,z5⟩,⟨f1,f2,f3,g3,f4,g4,f5,g5⟩,rfl,e⟩
def MS (m:MeterX):Prop:=200<(m.nm.size:Int)∨200<(m.un.size:Int)
def Me (x:PartX):Prop:=40<(x.ts.length:Int)∨40<(x.ad.length:Int)
def KJ (c:CoreX):Prop:=(20<(c.ms.length:Int)∨40<(c.ss.length:Int)∨40<(c.ps.length:Int)∨200<(c.cur.size:Int))∨(∃m∈c.ms,MS m)∨∃x∈c.ps,Me x
noncomputable instance (c:CoreX):Decidable (KJ c):=Classical.propDecidable _
theorem AAj {c:CoreX}:DataW Try.prog ANI [F9 c] (bv (decide (KJ c))):=by
 obtain ⟨cur,f,t,ms,ss,ps⟩:=c
 refine Aj AGx (by simp) ?_
 simp -implicitDefEqProofs -proj only [go_sem,seval]
 refine AI (fun b1 hb1=>?_)
 by_cases g1:20<(ms.length:Int)
 ·simp -implicitDefEqProofs -proj only [go_sem,seval,Fy,HW,HG,decide_eq_true g1]
  exact AM (by rw [decide_eq_true (.inl (.inl g1))])
 by_cases g2:40<(ss.length:Int)
 ·simp -implicitDefEqProofs -proj only [go_sem,seval,Fy,HW,HG,decide_eq_false g1,decide_eq_true g2]
  exact AM (by rw [decide_eq_true (.inl (.inr (.inl g2)))])
 by_cases g3:40<(ps.length:Int)
 ·simp -implicitDefEqProofs -proj only [go_sem,seval,Fy,HW,HG,decide_eq_false g1,decide_eq_false g2,decide_eq_true g3]
  exact AM (by rw [decide_eq_true (.inl (.inr (.inr (.inl g3))))])
 by_cases g4:200<(cur.size:Int)
 ·simp -implicitDefEqProofs -proj only [go_sem,seval,Fy,HW,HG,decide_eq_false g1,decide_eq_false g2,decide_eq_false g3,decide_eq_true g4]
  exact AM (by rw [decide_eq_true (.inl (.inr (.inr (.inr g4))))])
 simp -implicitDefEqProofs -proj only [go_sem,seval,Fy,HW,HG,decide_eq_false g1,decide_eq_false g2,decide_eq_false g3,decide_eq_false g4]
 refine EN (fun i:Nat=>i≤ms.length∧∀(j:Nat) (h:j<ms.length),j<i→¬MS ms[j]) 65 (fun i=>[(1,.ptr b1 0),(30,.d (.sl 5 (AX ms))),(31,i64 ms.length),(32,i64 i)]) (fun _=>[(b1,.box 26 [.d (.str cur),i64 f,i64 t,.d (.sl 5 (AX ms)),.d (.sl 3 (GL ss)),.d (.sl 9 (Fw ps))])]) (fun i=>ms.length-i) 0 ⟨Nat.zero_le _,fun j _ h=>absurd h (Nat.not_lt_zero _)⟩ rfl ?_ ?_ ?_
 ·simp -implicitDefEqProofs -proj only [go_sem,seval,AJ]
 ·simp -implicitDefEqProofs -proj only [go_sem,seval,AZ]
 ·rintro i ⟨hi,hs⟩
  have hk:AZ (Ac [(b1,.box 26 [.d (.str cur),i64 f,i64 t,.d (.sl 5 (AX ms)),.d (.sl 3 (GL ss)),.d (.sl 9 (Fw ps))])]) [(b1,.box 26 [.d (.str cur),i64 f,i64 t,.d (.sl 5 (AX ms)),.d (.sl 3 (GL ss)),.d (.sl 9 (Fw ps))])]:=EV (by simp [AP])
  have k1:=hk.1
  by_cases h:i<ms.length
  ·have hel:=G2 h
   have hno:MS ms[i]→KJ ⟨cur,f,t,ms,ss,ps⟩:=fun e=>.inr (.inl ⟨_,List.getElem_mem h,e⟩)
   have hgo:¬MS ms[i]→∀(j:Nat) (h:j<ms.length),j<i+1→¬MS ms[j]:=by
    intro e j h1 h2
    by_cases hj:j=i
    ·subst hj; exact e
    ·exact hs j h1 (by omega)
   generalize ms[i]=m at *
   simp -implicitDefEqProofs -proj only [go_sem,seval,decide_eq_true (show (i:Int)<ms.length by omega)]
   refine Ag _ (by omega) hel ?_
   simp -implicitDefEqProofs -proj only [go_sem,seval]
   refine AI (fun b4 hb4=>?_)
   replace hb4:Ac [(b1,Blk.box 26 [.d (.str cur),i64 f,i64 t,.d (.sl 5 (AX ms)),.d (.sl 3 (GL ss)),.d (.sl 9 (Fw ps))])] b4=none:=hb4
   obtain ⟨n1,n2⟩:=AK hb4 k1
   by_cases c1:200<(m.nm.size:Int)
   ·simp -implicitDefEqProofs -proj only [go_sem,seval,n1,n2,decide_eq_true c1]
    exact AM (by rw [decide_eq_true (hno (.inl c1))])
   by_cases c2:200<(m.un.size:Int)
   ·simp -implicitDefEqProofs -proj only [go_sem,seval,n1,n2,decide_eq_false c1,decide_eq_true c2]
    exact AM (by rw [decide_eq_true (hno (.inr c2))])
   simp -implicitDefEqProofs -proj only [go_sem,seval,n1,n2,decide_eq_false c1,decide_eq_false c2]
   refine AY (i+1) ⟨by omega,hgo (fun e=>e.elim c1 c2)⟩ (by show ms.length-(i+1)<ms.length-i; omega) rfl ?_ (Ap hb4 hk)
   simp -implicitDefEqProofs -proj only [go_sem,seval,AJ,AU (show i<9223372036854775807 by omega)]
  ·have hi':i=ms.length:=by omega
   subst hi'
   simp -implicitDefEqProofs -proj only [go_sem,seval,k1,HG,decide_eq_false (show ¬(ms.length:Int)<ms.length by omega)]
   refine EN (fun i:Nat=>i≤ps.length∧∀(j:Nat) (h:j<ps.length),j<i→¬Me ps[j]) 65 (fun i=>[(48,.d (.sl 9 (Fw ps))),(49,i64 ps.length),(50,i64 i)]) (fun _=>[]) (fun i=>ps.length-i) 0 ⟨Nat.zero_le _,fun j _ h=>absurd h (Nat.not_lt_zero _)⟩ rfl ?_ ?_ ?_
   ·simp -implicitDefEqProofs -proj only [go_sem,seval,AJ]
   ·trivial
   ·rintro i ⟨hi2,hs2⟩
    by_cases h2:i<ps.length
    ·have hel:=L2 h2
     have hno:Me ps[i]→KJ ⟨cur,f,t,ms,ss,ps⟩:=fun e=>.inr (.inr ⟨_,List.getElem_mem h2,e⟩)
     have hgo:¬Me ps[i]→∀(j:Nat) (h:j<ps.length),j<i+1→¬Me ps[j]:=by
      intro e j h1 h2
      by_cases hj:j=i
      ·subst hj; exact e
      ·exact hs2 j h1 (by omega)
     generalize ps[i]=x at *
     simp -implicitDefEqProofs -proj only [go_sem,seval,decide_eq_true (show (i:Int)<ps.length by omega)]
     refine Ag _ (by omega) hel ?_
     simp -implicitDefEqProofs -proj only [go_sem,seval]
     refine AI (fun b4 hb4=>?_)
     by_cases c1:40<(x.ts.length:Int)
     ·simp -implicitDefEqProofs -proj only [go_sem,seval,GH,I9,decide_eq_true c1]
      exact AM (by rw [decide_eq_true (hno (.inl c1))])
     by_cases c2:40<(x.ad.length:Int)
     ·simp -implicitDefEqProofs -proj only [go_sem,seval,GH,I9,decide_eq_false c1,decide_eq_true c2]
      exact AM (by rw [decide_eq_true (hno (.inr c2))])
     simp -implicitDefEqProofs -proj only [go_sem,seval,GH,I9,decide_eq_false c1,decide_eq_false c2]
     refine AY (i+1) ⟨by omega,hgo (fun e=>e.elim c1 c2)⟩ (by show ps.length-(i+1)<ps.length-i; omega) rfl ?_ trivial
     simp -implicitDefEqProofs -proj only [go_sem,seval,AJ,AU (show i<9223372036854775807 by omega)]
    ·have hi3:i=ps.length:=by omega
     subst hi3
     have hfin:¬KJ ⟨cur,f,t,ms,ss,ps⟩:=by
      rintro (h | ⟨m,hm,h⟩ | ⟨x,hx,h⟩)
      ·simp -implicitDefEqProofs only [] at h; omega
      ·obtain ⟨j,hj,rfl⟩:=List.getElem_of_mem hm
       exact hs j hj hj h
      ·obtain ⟨j,hj,rfl⟩:=List.getElem_of_mem hx
       exact hs2 j hj hj h
     simp -implicitDefEqProofs -proj only [go_sem,seval,decide_eq_false (show ¬(ps.length:Int)<ps.length by omega)]
     exact AM (by rw [decide_eq_false hfin])
def F7 (T:List Tier) (i:Nat):Int:=if i+1=T.length then 0 else match T[i-1]? with
 | some p=>if 0<i∧1≤p.u then min p.u 1000000+1 else 1
 | none=>1
def GY (T:List Tier) (i:Nat):Int:=if i+1=T.length then 0 else 1000000
def Is (T:List Tier) (i:Nat) (t:Tier):Prop:=(0≤t.r∧t.r≤1000000000000)∧(F7 T i≤t.u∧t.u≤GY T i)
instance (T:List Tier) (i:Nat) (t:Tier):Decidable (Is T i t):=by unfold Is; exact inferInstance
def IM (a:Adj):Prop:=a.k=1∧(0≤a.n∧a.n≤100000000)∧(0≤a.m∧a.m≤3)∨(a.k=2∨a.k=3∨a.k=4)∧(0≤a.n∧a.n≤1000000000000)∧a.m=0
instance (a:Adj):Decidable (IM a):=by unfold IM; exact inferInstance
def Ki (f t:Int) (nm:Nat) (x:PartX):Prop:=0≤x.me∧x.me<nm∧(f≤x.f∧x.f≤x.t∧x.t≤t)∧(0≤x.al∧x.al≤1000000)∧(1≤x.bl∧x.bl≤1000000)∧(x.ki=1∨x.ki=2)∧(0≤x.mo∧x.mo≤3)∧1≤x.ts.length∧x.ts.length≤8∧x.ad.length≤6
instance (f t:Int) (nm:Nat) (x:PartX):Decidable (Ki f t nm x):=by unfold Ki; exact inferInstance
def I8 (T:List Tier):Prop:=∀(i:Nat) (h:i<T.length),Is T i T[i]
def Je (l:List Adj):Prop:=∀a∈l,IM a
noncomputable instance (T:List Tier):Decidable (I8 T):=Classical.propDecidable _
noncomputable instance (l:List Adj):Decidable (Je l):=Classical.propDecidable _
def IS (f t:Int) (nm:Nat) (x:PartX):Prop:=Ki f t nm x∧I8 x.ts∧Je x.ad
noncomputable instance (f t:Int) (nm:Nat) (x:PartX):Decidable (IS f t nm x):=by unfold IS; exact inferInstance
theorem T8 {T:List Tier} {i:Nat} (h:i+1=T.length):F7 T i=0∧GY T i=0:=⟨if_pos h,if_pos h⟩
theorem S3 {T:List Tier} (h:¬0+1=T.length):F7 T 0=1∧GY T 0=1000000:=by
 refine ⟨?_,if_neg h⟩
 unfold F7
 rw [if_neg h]
 split
 ·rw [if_neg (by omega)]
 ·rfl
theorem QV {T:List Tier} {i:Nat} (h0:0<i) (hi:i-1<T.length) (h:¬i+1=T.length) (hu:1≤T[i-1].u):F7 T i=min T[i-1].u 1000000+1∧GY T i=1000000:=by
 refine ⟨?_,if_neg h⟩
 unfold F7
 rw [if_neg h,List.getElem?_eq_getElem hi]
 exact if_pos ⟨h0,hu⟩
theorem SV {T:List Tier} {i:Nat} (h0:0<i) (hi:i-1<T.length) (h:¬i+1=T.length) (hu:¬1≤T[i-1].u):F7 T i=1∧GY T i=1000000:=by
 refine ⟨?_,if_neg h⟩
 unfold F7
 rw [if_neg h,List.getElem?_eq_getElem hi]
 exact if_neg (fun h=>hu h.2)
set_option maxRecDepth 20000 in
theorem AQ7 {cur:ByteArray} {f t:Int} {ms ss ps:List (List D)} {x:PartX} (h:¬Ki f t ms.length x):DataW Try.prog O5 [MO cur f t ms ss ps,Jm x] (bv false):=by
 refine Aj UK (by simp) ?_
 simp -implicitDefEqProofs -proj only [go_sem,seval]
 refine AI (fun b2 hb2=>?_)
 simp -implicitDefEqProofs -proj only [go_sem,seval]
 refine AI (fun b3 hb3=>?_)
 replace hb3:upd Heap.none b2 _ b3=none:=hb3
 obtain ⟨n1,n2⟩:=AK hb3 AN
 unfold Ki at h
 by_cases g1:x.me<0
 ·simp -implicitDefEqProofs -proj only [go_sem,seval,n1,n2,decide_eq_true g1]
  exact AM rfl
 by_cases g2:(ms.length:Int)≤x.me
 ·simp -implicitDefEqProofs -proj only [go_sem,seval,n1,n2,decide_eq_false g1,decide_eq_true g2]
  exact AM rfl
 simp -implicitDefEqProofs -proj only [go_sem,seval,n1,n2,decide_eq_false g1,decide_eq_false g2]
 refine AL O1 ?_
 by_cases g3:f≤x.f∧x.f≤x.t∧x.t≤t
 rotate_left
 ·simp -implicitDefEqProofs -proj only [go_sem,seval,n1,n2,decide_eq_false g3]
  exact AM rfl
 simp -implicitDefEqProofs -proj only [go_sem,seval,n1,n2,decide_eq_true g3]
 by_cases g4:0≤x.al∧x.al≤1000000
 rotate_left
 ·refine AL (Ex g4) ?_
  simp -implicitDefEqProofs -proj only [go_sem,seval]
  exact AM rfl
 refine AL (Et g4) ?_
 simp -implicitDefEqProofs -proj only [go_sem,seval,n1,n2]
 by_cases g5:1≤x.bl∧x.bl≤1000000
 rotate_left
 ·refine AL (Ex g5) ?_
  simp -implicitDefEqProofs -proj only [go_sem,seval]
  exact AM rfl
 refine AL (Et g5) ?_
 by_cases g6:x.ki=1
 ·simp -implicitDefEqProofs -proj only [go_sem,seval,n1,n2,decide_eq_true g6]
  by_cases g7:0≤x.mo∧x.mo≤3
  rotate_left
  ·refine AL (Ex g7) ?_
   simp -implicitDefEqProofs -proj only [go_sem,seval]
   exact AM rfl
  refine AL (Et g7) ?_
  by_cases g8:(x.ts.length:Int)<1
  ·simp -implicitDefEqProofs -proj only [go_sem,seval,n1,n2,GH,decide_eq_true g8]
   exact AM rfl
  by_cases g9:8<(x.ts.length:Int)
  ·simp -implicitDefEqProofs -proj only [go_sem,seval,n1,n2,GH,decide_eq_false g8,decide_eq_true g9]
   exact AM rfl
  simp -implicitDefEqProofs -proj only [go_sem,seval,n1,n2,GH,I9,decide_eq_false g8,decide_eq_false g9,decide_eq_true (show 6<(x.ad.length:Int) by omega)]
  exact AM rfl
 by_cases g6':x.ki=2
 ·simp -implicitDefEqProofs -proj only [go_sem,seval,n1,n2,decide_eq_false g6,decide_eq_true g6']
  by_cases g7:0≤x.mo∧x.mo≤3
  rotate_left
  ·refine AL (Ex g7) ?_
   simp -implicitDefEqProofs -proj only [go_sem,seval]
   exact AM rfl
  refine AL (Et g7) ?_
  by_cases g8:(x.ts.length:Int)<1
  ·simp -implicitDefEqProofs -proj only [go_sem,seval,n1,n2,GH,decide_eq_true g8]
   exact AM rfl
  by_cases g9:8<(x.ts.length:Int)
  ·simp -implicitDefEqProofs -proj only [go_sem,seval,n1,n2,GH,decide_eq_false g8,decide_eq_true g9]
   exact AM rfl
  simp -implicitDefEqProofs -proj only [go_sem,seval,n1,n2,GH,I9,decide_eq_false g8,decide_eq_false g9,decide_eq_true (show 6<(x.ad.length:Int) by omega)]
  exact AM rfl
 simp -implicitDefEqProofs -proj only [go_sem,seval,n1,n2,decide_eq_false g6,decide_eq_false g6']
 exact AM rfl
set_option maxRecDepth 20000 in
set_option maxHeartbeats 4000000 in
theorem AQu {cur:ByteArray} {f t:Int} {ms ss ps:List (List D)} {x:PartX} (hh:Ki f t ms.length x):DataW Try.prog O5 [MO cur f t ms ss ps,Jm x] (bv (decide (I8 x.ts∧Je x.ad))):=by
 refine Aj UK (by simp) ?_
 simp -implicitDefEqProofs -proj only [go_sem,seval]
 refine AI (fun b2 hb2=>?_)
 simp -implicitDefEqProofs -proj only [go_sem,seval]
 refine AI (fun b3 hb3=>?_)
 replace hb3:upd Heap.none b2 _ b3=none:=hb3
 obtain ⟨n1,n2⟩:=AK hb3 AN
 obtain ⟨g1,g2,g3,g4,g5,g6,g7,g8,g9,g10⟩:=hh
 simp -implicitDefEqProofs -proj only [go_sem,seval,n1,n2,decide_eq_false (show ¬x.me<0 by omega),decide_eq_false (show ¬(ms.length:Int)≤x.me by omega)]
 refine AL O1 ?_
 simp -implicitDefEqProofs -proj only [go_sem,seval,n1,n2,decide_eq_true g3]
 refine AL (Et g4) ?_
 simp -implicitDefEqProofs -proj only [go_sem,seval,n1,n2]
 refine AL (Et g5) ?_
 have e1:=decide_eq_false (show ¬(x.ts.length:Int)<1 by omega)
 have e2:=decide_eq_false (show ¬8<(x.ts.length:Int) by omega)
 have e3:=decide_eq_false (show ¬6<(x.ad.length:Int) by omega)
 rcases g6 with g6 | g6
 ·simp -implicitDefEqProofs -proj only [go_sem,seval,n1,n2,decide_eq_true g6]
  refine AL (Et g7) ?_
  simp -implicitDefEqProofs -proj only [go_sem,seval,n1,n2,GH,I9,e1,e2,e3]
  refine EN (fun i:Nat=>i≤x.ts.length∧∀(j:Nat) (h:j<x.ts.length),j<i→Is x.ts j x.ts[j]) 160 (fun i=>[(78,Fc x.ts),(79,i64 x.ts.length),(80,i64 i),(3,.ptr b3 0)]) (fun _=>[(b3,.box 93 [i64 x.me,i64 x.f,i64 x.t,i64 x.al,i64 x.bl,i64 x.ki,Fc x.ts,i64 x.mo,Fe x.ad])]) (fun i=>x.ts.length-i) 0 ⟨Nat.zero_le _,fun j _ h=>absurd h (Nat.not_lt_zero _)⟩ rfl ?_ ?_ ?_
  ·simp -implicitDefEqProofs -proj only [go_sem,seval,AJ]
  ·simp -implicitDefEqProofs -proj only [go_sem,seval,AZ]
  ·rintro i ⟨hi,hs⟩
   have hk3:AZ (Ac [(b3,.box 93 [i64 x.me,i64 x.f,i64 x.t,i64 x.al,i64 x.bl,i64 x.ki,Fc x.ts,i64 x.mo,Fe x.ad])]) [(b3,.box 93 [i64 x.me,i64 x.f,i64 x.t,i64 x.al,i64 x.bl,i64 x.ki,Fc x.ts,i64 x.mo,Fe x.ad])]:=EV (by simp [AP])
   have h3:=hk3.1
   by_cases h:i<x.ts.length
   ·have hel:=Kh h
    have hgo:Is x.ts i x.ts[i]→∀(j:Nat) (h:j<x.ts.length),j<i+1→Is x.ts j x.ts[j]:=by
     intro e j h1 h2
     by_cases hj:j=i
     ·subst hj; exact e
     ·exact hs j h1 (by omega)
    have hno:¬Is x.ts i x.ts[i]→¬I8 x.ts:=fun e k=>e (k i h)
    have hlast:i+1=x.ts.length→F7 x.ts i=0∧GY x.ts i=0:=T8
    have hwl:IntKind.i64.wrap ((x.ts.length:Int)-1)=(x.ts.length:Int)-1:=by rw [IntKind.wrap_i64]; omega
    generalize hq:x.ts[i]=q at *
    simp -implicitDefEqProofs -proj only [go_sem,seval,decide_eq_true (show (i:Int)<x.ts.length by omega)]
    refine Ag _ (by omega) hel ?_
    simp -implicitDefEqProofs -proj only [go_sem,seval]
    refine AI (fun b6 hb6=>?_)
    have hb6':=hb6
    replace hb6:Ac [(b3,Blk.box 93 [i64 x.me,i64 x.f,i64 x.t,i64 x.al,i64 x.bl,i64 x.ki,Fc x.ts,i64 x.mo,Fe x.ad])] b6=none:=hb6
    obtain ⟨m1,m2⟩:=AK hb6 h3
    by_cases h0:i=0
    ·by_cases hl:i+1=x.ts.length
     ·have hlow:=hlast hl
      simp -implicitDefEqProofs -proj only [go_sem,seval,m1,m2,GH,hwl,decide_eq_false (show ¬0<(i:Int) by omega),decide_eq_true (show (i:Int)=(x.ts.length:Int)-1 by omega)]
      by_cases hr:0≤q.r∧q.r≤1000000000000
      rotate_left
      ·refine AL (Ex hr) ?_
       simp -implicitDefEqProofs -proj only [go_sem,seval]
       exact AM (by rw [decide_eq_false (fun h=>hno (fun k=>hr k.1) h.1)])
      refine AL (Et hr) ?_
      simp -implicitDefEqProofs -proj only [go_sem,seval,m1,m2]
      by_cases hu:F7 x.ts i≤q.u∧q.u≤GY x.ts i
      rotate_left
      ·refine AL (Ex (by rw [hlow.1,hlow.2] at hu; exact hu)) ?_
       simp -implicitDefEqProofs -proj only [go_sem,seval]
       exact AM (by rw [decide_eq_false (fun h=>hno (fun k=>hu k.2) h.1)])
      refine AL (Et (by rw [hlow.1,hlow.2] at hu; exact hu)) ?_
      simp -implicitDefEqProofs -proj only [go_sem,seval]
      refine AY (i+1) ⟨by omega,hgo ⟨hr,hu⟩⟩ (by omega) rfl ?_ (Ap hb6' hk3)
      simp -implicitDefEqProofs -proj only [go_sem,seval,AJ,AU (show i<9223372036854775807 by omega)]
     ·have hlow:F7 x.ts i=1∧GY x.ts i=1000000:=by subst h0; exact S3 hl
      simp -implicitDefEqProofs -proj only [go_sem,seval,m1,m2,GH,hwl,decide_eq_false (show ¬0<(i:Int) by omega),decide_eq_false (show ¬(i:Int)=(x.ts.length:Int)-1 by omega)]
      by_cases hr:0≤q.r∧q.r≤1000000000000
      rotate_left
      ·refine AL (Ex hr) ?_
       simp -implicitDefEqProofs -proj only [go_sem,seval]
       exact AM (by rw [decide_eq_false (fun h=>hno (fun k=>hr k.1) h.1)])
      refine AL (Et hr) ?_
      simp -implicitDefEqProofs -proj only [go_sem,seval,m1,m2]
      by_cases hu:F7 x.ts i≤q.u∧q.u≤GY x.ts i
      rotate_left
      ·refine AL (Ex (by rw [hlow.1,hlow.2] at hu; exact hu)) ?_
       simp -implicitDefEqProofs -proj only [go_sem,seval]
       exact AM (by rw [decide_eq_false (fun h=>hno (fun k=>hu k.2) h.1)])
      refine AL (Et (by rw [hlow.1,hlow.2] at hu; exact hu)) ?_
      simp -implicitDefEqProofs -proj only [go_sem,seval]
      refine AY (i+1) ⟨by omega,hgo ⟨hr,hu⟩⟩ (by omega) rfl ?_ (Ap hb6' hk3)
      simp -implicitDefEqProofs -proj only [go_sem,seval,AJ,AU (show i<9223372036854775807 by omega)]
    ·have wi:IntKind.i64.wrap ((i:Int)-1)=((i-1:Nat):Int):=by rw [IntKind.wrap_i64]; omega
     have hep:=Kh (l:=x.ts) (i:=i-1) (by omega)
     have hm1:=@QV x.ts i (by omega) (by omega)
     have hm0:=@SV x.ts i (by omega) (by omega)
     obtain ⟨p,hp⟩:∃p,x.ts[i-1]'(by omega)=p:=⟨_,rfl⟩
     rw [hp] at hep hm1 hm0
     clear hp
     by_cases hu1:1≤p.u
     ·have wp:IntKind.i64.wrap (min p.u 1000000+1)=min p.u 1000000+1:=by rw [IntKind.wrap_i64]; omega
      simp -implicitDefEqProofs -proj only [go_sem,seval,m1,m2,decide_eq_true (show 0<(i:Int) by omega),wi]
      (repeat' (with_reducible refine Ak ?_ (fun h=>?_); (focus first | decide | omega); clear h; try simp -implicitDefEqProofs -proj only [go_sem,seval,wi]))
      refine Ag _ (by omega) hep ?_
      simp -implicitDefEqProofs -proj only [go_sem,seval,m1,m2,wi]
      simp -implicitDefEqProofs -proj only [go_sem,seval,m1,m2,wi,decide_eq_true hu1]
      (repeat' (with_reducible refine Ak ?_ (fun h=>?_); (focus first | decide | omega); clear h; try simp -implicitDefEqProofs -proj only [go_sem,seval,wi]))
      refine Ag _ (by omega) hep ?_
      by_cases hl:i+1=x.ts.length
      ·have hlow:=hlast hl
       simp -implicitDefEqProofs -proj only [go_sem,seval,m1,m2,GH,wi,hwl,wp,decide_eq_true (show (i:Int)=(x.ts.length:Int)-1 by omega)]
       by_cases hr:0≤q.r∧q.r≤1000000000000
       rotate_left
       ·refine AL (Ex hr) ?_
        simp -implicitDefEqProofs -proj only [go_sem,seval]
        exact AM (by rw [decide_eq_false (fun h=>hno (fun k=>hr k.1) h.1)])
       refine AL (Et hr) ?_
       simp -implicitDefEqProofs -proj only [go_sem,seval,m1,m2]
       by_cases hu:F7 x.ts i≤q.u∧q.u≤GY x.ts i
       rotate_left
       ·refine AL (Ex (by rw [hlow.1,hlow.2] at hu; exact hu)) ?_
        simp -implicitDefEqProofs -proj only [go_sem,seval]
        exact AM (by rw [decide_eq_false (fun h=>hno (fun k=>hu k.2) h.1)])
       refine AL (Et (by rw [hlow.1,hlow.2] at hu; exact hu)) ?_
       simp -implicitDefEqProofs -proj only [go_sem,seval]
       refine AY (i+1) ⟨by omega,hgo ⟨hr,hu⟩⟩ (by omega) rfl ?_ (Ap hb6' hk3)
       simp -implicitDefEqProofs -proj only [go_sem,seval,AJ,AU (show i<9223372036854775807 by omega)]
      ·have hlow:=hm1 hl hu1
       simp -implicitDefEqProofs -proj only [go_sem,seval,m1,m2,GH,wi,hwl,wp,decide_eq_false (show ¬(i:Int)=(x.ts.length:Int)-1 by omega)]
       by_cases hr:0≤q.r∧q.r≤1000000000000
       rotate_left
       ·refine AL (Ex hr) ?_
        simp -implicitDefEqProofs -proj only [go_sem,seval]
        exact AM (by rw [decide_eq_false (fun h=>hno (fun k=>hr k.1) h.1)])
       refine AL (Et hr) ?_
       simp -implicitDefEqProofs -proj only [go_sem,seval,m1,m2]
       by_cases hu:F7 x.ts i≤q.u∧q.u≤GY x.ts i
       rotate_left
       ·refine AL (Ex (by rw [hlow.1,hlow.2] at hu; exact hu)) ?_
        simp -implicitDefEqProofs -proj only [go_sem,seval]
        exact AM (by rw [decide_eq_false (fun h=>hno (fun k=>hu k.2) h.1)])
       refine AL (Et (by rw [hlow.1,hlow.2] at hu; exact hu)) ?_
       simp -implicitDefEqProofs -proj only [go_sem,seval]
       refine AY (i+1) ⟨by omega,hgo ⟨hr,hu⟩⟩ (by omega) rfl ?_ (Ap hb6' hk3)
       simp -implicitDefEqProofs -proj only [go_sem,seval,AJ,AU (show i<9223372036854775807 by omega)]
     ·simp -implicitDefEqProofs -proj only [go_sem,seval,m1,m2,decide_eq_true (show 0<(i:Int) by omega),wi]
      (repeat' (with_reducible refine Ak ?_ (fun h=>?_); (focus first | decide | omega); clear h; try simp -implicitDefEqProofs -proj only [go_sem,seval,wi]))
      refine Ag _ (by omega) hep ?_
      simp -implicitDefEqProofs -proj only [go_sem,seval,m1,m2,wi]
      by_cases hl:i+1=x.ts.length
      ·have hlow:=hlast hl
       simp -implicitDefEqProofs -proj only [go_sem,seval,m1,m2,GH,wi,hwl,decide_eq_false hu1,decide_eq_true (show (i:Int)=(x.ts.length:Int)-1 by omega)]
       by_cases hr:0≤q.r∧q.r≤1000000000000
       rotate_left
       ·refine AL (Ex hr) ?_
        simp -implicitDefEqProofs -proj only [go_sem,seval]
        exact AM (by rw [decide_eq_false (fun h=>hno (fun k=>hr k.1) h.1)])
       refine AL (Et hr) ?_
       simp -implicitDefEqProofs -proj only [go_sem,seval,m1,m2]
       by_cases hu:F7 x.ts i≤q.u∧q.u≤GY x.ts i
       rotate_left
       ·refine AL (Ex (by rw [hlow.1,hlow.2] at hu; exact hu)) ?_
        simp -implicitDefEqProofs -proj only [go_sem,seval]
        exact AM (by rw [decide_eq_false (fun h=>hno (fun k=>hu k.2) h.1)])
       refine AL (Et (by rw [hlow.1,hlow.2] at hu; exact hu)) ?_
       simp -implicitDefEqProofs -proj only [go_sem,seval]
       refine AY (i+1) ⟨by omega,hgo ⟨hr,hu⟩⟩ (by omega) rfl ?_ (Ap hb6' hk3)
       simp -implicitDefEqProofs -proj only [go_sem,seval,AJ,AU (show i<9223372036854775807 by omega)]
      ·have hlow:=hm0 hl hu1
       simp -implicitDefEqProofs -proj only [go_sem,seval,m1,m2,GH,wi,hwl,decide_eq_false hu1,decide_eq_false (show ¬(i:Int)=(x.ts.length:Int)-1 by omega)]
       by_cases hr:0≤q.r∧q.r≤1000000000000
       rotate_left
       ·refine AL (Ex hr) ?_
        simp -implicitDefEqProofs -proj only [go_sem,seval]
        exact AM (by rw [decide_eq_false (fun h=>hno (fun k=>hr k.1) h.1)])
       refine AL (Et hr) ?_
       simp -implicitDefEqProofs -proj only [go_sem,seval,m1,m2]
       by_cases hu:F7 x.ts i≤q.u∧q.u≤GY x.ts i
       rotate_left
       ·refine AL (Ex (by rw [hlow.1,hlow.2] at hu; exact hu)) ?_
        simp -implicitDefEqProofs -proj only [go_sem,seval]
        exact AM (by rw [decide_eq_false (fun h=>hno (fun k=>hu k.2) h.1)])
       refine AL (Et (by rw [hlow.1,hlow.2] at hu; exact hu)) ?_
       simp -implicitDefEqProofs -proj only [go_sem,seval]
       refine AY (i+1) ⟨by omega,hgo ⟨hr,hu⟩⟩ (by omega) rfl ?_ (Ap hb6' hk3)
       simp -implicitDefEqProofs -proj only [go_sem,seval,AJ,AU (show i<9223372036854775807 by omega)]
   ·have hi':i=x.ts.length:=by omega
    subst hi'
    have hT:I8 x.ts:=fun j h1=>hs j h1 h1
    simp -implicitDefEqProofs -proj only [go_sem,seval,decide_eq_false (show ¬(x.ts.length:Int)<x.ts.length by omega),I9]
    refine EN (fun i:Nat=>i≤x.ad.length∧∀(j:Nat) (h:j<x.ad.length),j<i→IM x.ad[j]) 160 (fun i=>[(126,Fe x.ad),(127,i64 x.ad.length),(128,i64 i)]) (fun _=>[]) (fun i=>x.ad.length-i) 0 ⟨Nat.zero_le _,fun j _ h=>absurd h (Nat.not_lt_zero _)⟩ rfl ?_ ?_ ?_
    ·simp -implicitDefEqProofs -proj only [go_sem,seval,AJ]
    ·simp -implicitDefEqProofs -proj only [go_sem,seval,AZ]
    ·rintro i ⟨hi,hs⟩
     by_cases h:i<x.ad.length
     ·have hel:=QU h
      have hgo:IM x.ad[i]→∀(j:Nat) (h:j<x.ad.length),j<i+1→IM x.ad[j]:=by
       intro e j h1 h2
       by_cases hj:j=i
       ·subst hj; exact e
       ·exact hs j h1 (by omega)
      have hno:¬IM x.ad[i]→¬Je x.ad:=fun e k=>e (k _ (List.getElem_mem h))
      generalize hq:x.ad[i]=q at *
      unfold IM at hgo hno
      simp -implicitDefEqProofs -proj only [go_sem,seval,decide_eq_true (show (i:Int)<x.ad.length by omega)]
      refine Ag _ (by omega) hel ?_
      simp -implicitDefEqProofs -proj only [go_sem,seval]
      refine AI (fun b10 hb10=>?_)
      by_cases k1:q.k=1
      ·simp -implicitDefEqProofs -proj only [go_sem,seval,decide_eq_true k1]
       by_cases hn:0≤q.n∧q.n≤100000000
       rotate_left
       ·refine AL (Ex hn) ?_
        simp -implicitDefEqProofs -proj only [go_sem,seval]
        exact AM (by rw [decide_eq_false (fun h=>hno (by omega) h.2)])
       refine AL (Et hn) ?_
       simp -implicitDefEqProofs -proj only [go_sem,seval]
       by_cases hm:0≤q.m∧q.m≤3
       rotate_left
       ·refine AL (Ex hm) ?_
        simp -implicitDefEqProofs -proj only [go_sem,seval]
        exact AM (by rw [decide_eq_false (fun h=>hno (by omega) h.2)])
       refine AL (Et hm) ?_
       simp -implicitDefEqProofs -proj only [go_sem,seval]
       refine AY (i+1) ⟨by omega,hgo (by omega)⟩ (by omega) rfl ?_ trivial
       simp -implicitDefEqProofs -proj only [go_sem,seval,AJ,AU (show i<9223372036854775807 by omega)]
      ·by_cases k2:q.k=2
       ·simp -implicitDefEqProofs -proj only [go_sem,seval,decide_eq_false k1,decide_eq_true k2]
        by_cases hn:0≤q.n∧q.n≤1000000000000
        rotate_left
        ·refine AL (Ex hn) ?_
         simp -implicitDefEqProofs -proj only [go_sem,seval]
         exact AM (by rw [decide_eq_false (fun h=>hno (by omega) h.2)])
        refine AL (Et hn) ?_
        by_cases hm:q.m=0
        rotate_left
        ·simp -implicitDefEqProofs -proj only [go_sem,seval,decide_eq_false hm]
         exact AM (by rw [decide_eq_false (fun h=>hno (by omega) h.2)])
        simp -implicitDefEqProofs -proj only [go_sem,seval,decide_eq_true hm]
        refine AY (i+1) ⟨by omega,hgo (by omega)⟩ (by omega) rfl ?_ trivial
        simp -implicitDefEqProofs -proj only [go_sem,seval,AJ,AU (show i<9223372036854775807 by omega)]
       ·by_cases k3:q.k=3
        ·simp -implicitDefEqProofs -proj only [go_sem,seval,decide_eq_false k1,decide_eq_false k2,decide_eq_true k3]
         by_cases hn:0≤q.n∧q.n≤1000000000000
         rotate_left
         ·refine AL (Ex hn) ?_
          simp -implicitDefEqProofs -proj only [go_sem,seval]
          exact AM (by rw [decide_eq_false (fun h=>hno (by omega) h.2)])
         refine AL (Et hn) ?_
         by_cases hm:q.m=0
         rotate_left
         ·simp -implicitDefEqProofs -proj only [go_sem,seval,decide_eq_false hm]
          exact AM (by rw [decide_eq_false (fun h=>hno (by omega) h.2)])
         simp -implicitDefEqProofs -proj only [go_sem,seval,decide_eq_true hm]
         refine AY (i+1) ⟨by omega,hgo (by omega)⟩ (by omega) rfl ?_ trivial
         simp -implicitDefEqProofs -proj only [go_sem,seval,AJ,AU (show i<9223372036854775807 by omega)]
        ·by_cases k4:q.k=4
         ·simp -implicitDefEqProofs -proj only [go_sem,seval,decide_eq_false k1,decide_eq_false k2,decide_eq_false k3,decide_eq_true k4]
          by_cases hn:0≤q.n∧q.n≤1000000000000
          rotate_left
          ·refine AL (Ex hn) ?_
           simp -implicitDefEqProofs -proj only [go_sem,seval]
           exact AM (by rw [decide_eq_false (fun h=>hno (by omega) h.2)])
          refine AL (Et hn) ?_
          by_cases hm:q.m=0
          rotate_left
          ·simp -implicitDefEqProofs -proj only [go_sem,seval,decide_eq_false hm]
           exact AM (by rw [decide_eq_false (fun h=>hno (by omega) h.2)])
          simp -implicitDefEqProofs -proj only [go_sem,seval,decide_eq_true hm]
          refine AY (i+1) ⟨by omega,hgo (by omega)⟩ (by omega) rfl ?_ trivial
          simp -implicitDefEqProofs -proj only [go_sem,seval,AJ,AU (show i<9223372036854775807 by omega)]
         ·simp -implicitDefEqProofs -proj only [go_sem,seval,decide_eq_false k1,decide_eq_false k2,decide_eq_false k3,decide_eq_false k4]
          exact AM (by rw [decide_eq_false (fun h=>hno (by omega) h.2)])
     ·have hi':i=x.ad.length:=by omega
      subst hi'
      have hA:Je x.ad:=fun a ha=>by obtain ⟨j,h1,rfl⟩:=List.getElem_of_mem ha; exact hs j h1 h1
      simp -implicitDefEqProofs -proj only [go_sem,seval,decide_eq_false (show ¬(x.ad.length:Int)<x.ad.length by omega)]
      exact AM (by rw [decide_eq_true ⟨hT,hA⟩])
 ·simp -implicitDefEqProofs -proj only [go_sem,seval,n1,n2,decide_eq_false (show ¬x.ki=1 by omega),decide_eq_true g6]
  refine AL (Et g7) ?_
  simp -implicitDefEqProofs -proj only [go_sem,seval,n1,n2,GH,I9,e1,e2,e3]
  refine EN (fun i:Nat=>i≤x.ts.length∧∀(j:Nat) (h:j<x.ts.length),j<i→Is x.ts j x.ts[j]) 160 (fun i=>[(78,Fc x.ts),(79,i64 x.ts.length),(80,i64 i),(3,.ptr b3 0)]) (fun _=>[(b3,.box 93 [i64 x.me,i64 x.f,i64 x.t,i64 x.al,i64 x.bl,i64 x.ki,Fc x.ts,i64 x.mo,Fe x.ad])]) (fun i=>x.ts.length-i) 0 ⟨Nat.zero_le _,fun j _ h=>absurd h (Nat.not_lt_zero _)⟩ rfl ?_ ?_ ?_
  ·simp -implicitDefEqProofs -proj only [go_sem,seval,AJ]
  ·simp -implicitDefEqProofs -proj only [go_sem,seval,AZ]
  ·rintro i ⟨hi,hs⟩
   have hk3:AZ (Ac [(b3,.box 93 [i64 x.me,i64 x.f,i64 x.t,i64 x.al,i64 x.bl,i64 x.ki,Fc x.ts,i64 x.mo,Fe x.ad])]) [(b3,.box 93 [i64 x.me,i64 x.f,i64 x.t,i64 x.al,i64 x.bl,i64 x.ki,Fc x.ts,i64 x.mo,Fe x.ad])]:=EV (by simp [AP])
   have h3:=hk3.1
   by_cases h:i<x.ts.length
   ·have hel:=Kh h
    have hgo:Is x.ts i x.ts[i]→∀(j:Nat) (h:j<x.ts.length),j<i+1→Is x.ts j x.ts[j]:=by
     intro e j h1 h2
     by_cases hj:j=i
     ·subst hj; exact e
     ·exact hs j h1 (by omega)
    have hno:¬Is x.ts i x.ts[i]→¬I8 x.ts:=fun e k=>e (k i h)
    have hlast:i+1=x.ts.length→F7 x.ts i=0∧GY x.ts i=0:=T8
    have hwl:IntKind.i64.wrap ((x.ts.length:Int)-1)=(x.ts.length:Int)-1:=by rw [IntKind.wrap_i64]; omega
    generalize hq:x.ts[i]=q at *
    simp -implicitDefEqProofs -proj only [go_sem,seval,decide_eq_true (show (i:Int)<x.ts.length by omega)]
    refine Ag _ (by omega) hel ?_
    simp -implicitDefEqProofs -proj only [go_sem,seval]
    refine AI (fun b6 hb6=>?_)
    have hb6':=hb6
    replace hb6:Ac [(b3,Blk.box 93 [i64 x.me,i64 x.f,i64 x.t,i64 x.al,i64 x.bl,i64 x.ki,Fc x.ts,i64 x.mo,Fe x.ad])] b6=none:=hb6
    obtain ⟨m1,m2⟩:=AK hb6 h3
    by_cases h0:i=0
    ·by_cases hl:i+1=x.ts.length
     ·have hlow:=hlast hl
      simp -implicitDefEqProofs -proj only [go_sem,seval,m1,m2,GH,hwl,decide_eq_false (show ¬0<(i:Int) by omega),decide_eq_true (show (i:Int)=(x.ts.length:Int)-1 by omega)]
      by_cases hr:0≤q.r∧q.r≤1000000000000
      rotate_left
      ·refine AL (Ex hr) ?_
       simp -implicitDefEqProofs -proj only [go_sem,seval]
       exact AM (by rw [decide_eq_false (fun h=>hno (fun k=>hr k.1) h.1)])
      refine AL (Et hr) ?_
      simp -implicitDefEqProofs -proj only [go_sem,seval,m1,m2]
      by_cases hu:F7 x.ts i≤q.u∧q.u≤GY x.ts i
      rotate_left
      ·refine AL (Ex (by rw [hlow.1,hlow.2] at hu; exact hu)) ?_
       simp -implicitDefEqProofs -proj only [go_sem,seval]
       exact AM (by rw [decide_eq_false (fun h=>hno (fun k=>hu k.2) h.1)])
      refine AL (Et (by rw [hlow.1,hlow.2] at hu; exact hu)) ?_
      simp -implicitDefEqProofs -proj only [go_sem,seval]
      refine AY (i+1) ⟨by omega,hgo ⟨hr,hu⟩⟩ (by omega) rfl ?_ (Ap hb6' hk3)
      simp -implicitDefEqProofs -proj only [go_sem,seval,AJ,AU (show i<9223372036854775807 by omega)]
     ·have hlow:F7 x.ts i=1∧GY x.ts i=1000000:=by subst h0; exact S3 hl
      simp -implicitDefEqProofs -proj only [go_sem,seval,m1,m2,GH,hwl,decide_eq_false (show ¬0<(i:Int) by omega),decide_eq_false (show ¬(i:Int)=(x.ts.length:Int)-1 by omega)]
      by_cases hr:0≤q.r∧q.r≤1000000000000
      rotate_left
      ·refine AL (Ex hr) ?_
       simp -implicitDefEqProofs -proj only [go_sem,seval]
       exact AM (by rw [decide_eq_false (fun h=>hno (fun k=>hr k.1) h.1)])
      refine AL (Et hr) ?_
      simp -implicitDefEqProofs -proj only [go_sem,seval,m1,m2]
      by_cases hu:F7 x.ts i≤q.u∧q.u≤GY x.ts i
      rotate_left
      ·refine AL (Ex (by rw [hlow.1,hlow.2] at hu; exact hu)) ?_
       simp -implicitDefEqProofs -proj only [go_sem,seval]
       exact AM (by rw [decide_eq_false (fun h=>hno (fun k=>hu k.2) h.1)])
      refine AL (Et (by rw [hlow.1,hlow.2] at hu; exact hu)) ?_
      simp -implicitDefEqProofs -proj only [go_sem,seval]
      refine AY (i+1) ⟨by omega,hgo ⟨hr,hu⟩⟩ (by omega) rfl ?_ (Ap hb6' hk3)
      simp -implicitDefEqProofs -proj only [go_sem,seval,AJ,AU (show i<9223372036854775807 by omega)]
    ·have wi:IntKind.i64.wrap ((i:Int)-1)=((i-1:Nat):Int):=by rw [IntKind.wrap_i64]; omega
     have hep:=Kh (l:=x.ts) (i:=i-1) (by omega)
     have hm1:=@QV x.ts i (by omega) (by omega)
     have hm0:=@SV x.ts i (by omega) (by omega)
     obtain ⟨p,hp⟩:∃p,x.ts[i-1]'(by omega)=p:=⟨_,rfl⟩
     rw [hp] at hep hm1 hm0
     clear hp
     by_cases hu1:1≤p.u
     ·have wp:IntKind.i64.wrap (min p.u 1000000+1)=min p.u 1000000+1:=by rw [IntKind.wrap_i64]; omega
      simp -implicitDefEqProofs -proj only [go_sem,seval,m1,m2,decide_eq_true (show 0<(i:Int) by omega),wi]
      (repeat' (with_reducible refine Ak ?_ (fun h=>?_); (focus first | decide | omega); clear h; try simp -implicitDefEqProofs -proj only [go_sem,seval,wi]))
      refine Ag _ (by omega) hep ?_
      simp -implicitDefEqProofs -proj only [go_sem,seval,m1,m2,wi]
      simp -implicitDefEqProofs -proj only [go_sem,seval,m1,m2,wi,decide_eq_true hu1]
      (repeat' (with_reducible refine Ak ?_ (fun h=>?_); (focus first | decide | omega); clear h; try simp -implicitDefEqProofs -proj only [go_sem,seval,wi]))
      refine Ag _ (by omega) hep ?_
      by_cases hl:i+1=x.ts.length
      ·have hlow:=hlast hl
       simp -implicitDefEqProofs -proj only [go_sem,seval,m1,m2,GH,wi,hwl,wp,decide_eq_true (show (i:Int)=(x.ts.length:Int)-1 by omega)]
       by_cases hr:0≤q.r∧q.r≤1000000000000
       rotate_left
       ·refine AL (Ex hr) ?_
        simp -implicitDefEqProofs -proj only [go_sem,seval]
        exact AM (by rw [decide_eq_false (fun h=>hno (fun k=>hr k.1) h.1)])
       refine AL (Et hr) ?_
       simp -implicitDefEqProofs -proj only [go_sem,seval,m1,m2]
       by_cases hu:F7 x.ts i≤q.u∧q.u≤GY x.ts i
       rotate_left
       ·refine AL (Ex (by rw [hlow.1,hlow.2] at hu; exact hu)) ?_
        simp -implicitDefEqProofs -proj only [go_sem,seval]
        exact AM (by rw [decide_eq_false (fun h=>hno (fun k=>hu k.2) h.1)])
       refine AL (Et (by rw [hlow.1,hlow.2] at hu; exact hu)) ?_
       simp -implicitDefEqProofs -proj only [go_sem,seval]
       refine AY (i+1) ⟨by omega,hgo ⟨hr,hu⟩⟩ (by omega) rfl ?_ (Ap hb6' hk3)
       simp -implicitDefEqProofs -proj only [go_sem,seval,AJ,AU (show i<9223372036854775807 by omega)]
      ·have hlow:=hm1 hl hu1
       simp -implicitDefEqProofs -proj only [go_sem,seval,m1,m2,GH,wi,hwl,wp,decide_eq_false (show ¬(i:Int)=(x.ts.length:Int)-1 by omega)]
       by_cases hr:0≤q.r∧q.r≤1000000000000
       rotate_left
       ·refine AL (Ex hr) ?_
        simp -implicitDefEqProofs -proj only [go_sem,seval]
        exact AM (by rw [decide_eq_false (fun h=>hno (fun k=>hr k.1) h.1)])
       refine AL (Et hr) ?_
       simp -implicitDefEqProofs -proj only [go_sem,seval,m1,m2]
       by_cases hu:F7 x.ts i≤q.u∧q.u≤GY x.ts i
       rotate_left
       ·refine AL (Ex (by rw [hlow.1,hlow.2] at hu; exact hu)) ?_
        simp -implicitDefEqProofs -proj only [go_sem,seval]
        exact AM (by rw [decide_eq_false (fun h=>hno (fun k=>hu k.2) h.1)])
       refine AL (Et (by rw [hlow.1,hlow.2] at hu; exact hu)) ?_
       simp -implicitDefEqProofs -proj only [go_sem,seval]
       refine AY (i+1) ⟨by omega,hgo ⟨hr,hu⟩⟩ (by omega) rfl ?_ (Ap hb6' hk3)
       simp -implicitDefEqProofs -proj only [go_sem,seval,AJ,AU (show i<9223372036854775807 by omega)]
     ·simp -implicitDefEqProofs -proj only [go_sem,seval,m1,m2,decide_eq_true (show 0<(i:Int) by omega),wi]
      (repeat' (with_reducible refine Ak ?_ (fun h=>?_); (focus first | decide | omega); clear h; try simp -implicitDefEqProofs -proj only [go_sem,seval,wi]))
      refine Ag _ (by omega) hep ?_
      simp -implicitDefEqProofs -proj only [go_sem,seval,m1,m2,wi]
      by_cases hl:i+1=x.ts.length
      ·have hlow:=hlast hl
       simp -implicitDefEqProofs -proj only [go_sem,seval,m1,m2,GH,wi,hwl,decide_eq_false hu1,decide_eq_true (show (i:Int)=(x.ts.length:Int)-1 by omega)]
       by_cases hr:0≤q.r∧q.r≤1000000000000
       rotate_left
       ·refine AL (Ex hr) ?_
        simp -implicitDefEqProofs -proj only [go_sem,seval]
        exact AM (by rw [decide_eq_false (fun h=>hno (fun k=>hr k.1) h.1)])
       refine AL (Et hr) ?_
       simp -implicitDefEqProofs -proj only [go_sem,seval,m1,m2]
       by_cases hu:F7 x.ts i≤q.u∧q.u≤GY x.ts i
       rotate_left
       ·refine AL (Ex (by rw [hlow.1,hlow.2] at hu; exact hu)) ?_
        simp -implicitDefEqProofs -proj only [go_sem,seval]
        exact AM (by rw [decide_eq_false (fun h=>hno (fun k=>hu k.2) h.1)])
       refine AL (Et (by rw [hlow.1,hlow.2] at hu; exact hu)) ?_
       simp -implicitDefEqProofs -proj only [go_sem,seval]
       refine AY (i+1) ⟨by omega,hgo ⟨hr,hu⟩⟩ (by omega) rfl ?_ (Ap hb6' hk3)
       simp -implicitDefEqProofs -proj only [go_sem,seval,AJ,AU (show i<9223372036854775807 by omega)]
      ·have hlow:=hm0 hl hu1
       simp -implicitDefEqProofs -proj only [go_sem,seval,m1,m2,GH,wi,hwl,decide_eq_false hu1,decide_eq_false (show ¬(i:Int)=(x.ts.length:Int)-1 by omega)]
       by_cases hr:0≤q.r∧q.r≤1000000000000
       rotate_left
       ·refine AL (Ex hr) ?_
        simp -implicitDefEqProofs -proj only [go_sem,seval]
        exact AM (by rw [decide_eq_false (fun h=>hno (fun k=>hr k.1) h.1)])
       refine AL (Et hr) ?_
       simp -implicitDefEqProofs -proj only [go_sem,seval,m1,m2]
       by_cases hu:F7 x.ts i≤q.u∧q.u≤GY x.ts i
       rotate_left
       ·refine AL (Ex (by rw [hlow.1,hlow.2] at hu; exact hu)) ?_
        simp -implicitDefEqProofs -proj only [go_sem,seval]
        exact AM (by rw [decide_eq_false (fun h=>hno (fun k=>hu k.2) h.1)])
       refine AL (Et (by rw [hlow.1,hlow.2] at hu; exact hu)) ?_
       simp -implicitDefEqProofs -proj only [go_sem,seval]
       refine AY (i+1) ⟨by omega,hgo ⟨hr,hu⟩⟩ (by omega) rfl ?_ (Ap hb6' hk3)
       simp -implicitDefEqProofs -proj only [go_sem,seval,AJ,AU (show i<9223372036854775807 by omega)]
   ·have hi':i=x.ts.length:=by omega
    subst hi'
    have hT:I8 x.ts:=fun j h1=>hs j h1 h1
    simp -implicitDefEqProofs -proj only [go_sem,seval,decide_eq_false (show ¬(x.ts.length:Int)<x.ts.length by omega),I9]
    refine EN (fun i:Nat=>i≤x.ad.length∧∀(j:Nat) (h:j<x.ad.length),j<i→IM x.ad[j]) 160 (fun i=>[(126,Fe x.ad),(127,i64 x.ad.length),(128,i64 i)]) (fun _=>[]) (fun i=>x.ad.length-i) 0 ⟨Nat.zero_le _,fun j _ h=>absurd h (Nat.not_lt_zero _)⟩ rfl ?_ ?_ ?_
    ·simp -implicitDefEqProofs -proj only [go_sem,seval,AJ]
    ·simp -implicitDefEqProofs -proj only [go_sem,seval,AZ]
    ·rintro i ⟨hi,hs⟩
     by_cases h:i<x.ad.length
     ·have hel:=QU h
      have hgo:IM x.ad[i]→∀(j:Nat) (h:j<x.ad.length),j<i+1→IM x.ad[j]:=by
       intro e j h1 h2
       by_cases hj:j=i
       ·subst hj; exact e
       ·exact hs j h1 (by omega)
      have hno:¬IM x.ad[i]→¬Je x.ad:=fun e k=>e (k _ (List.getElem_mem h))
      generalize hq:x.ad[i]=q at *
      unfold IM at hgo hno
      simp -implicitDefEqProofs -proj only [go_sem,seval,decide_eq_true (show (i:Int)<x.ad.length by omega)]
      refine Ag _ (by omega) hel ?_
      simp -implicitDefEqProofs -proj only [go_sem,seval]
      refine AI (fun b10 hb10=>?_)
      by_cases k1:q.k=1
      ·simp -implicitDefEqProofs -proj only [go_sem,seval,decide_eq_true k1]
       by_cases hn:0≤q.n∧q.n≤100000000
       rotate_left
       ·refine AL (Ex hn) ?_
        simp -implicitDefEqProofs -proj only [go_sem,seval]
        exact AM (by rw [decide_eq_false (fun h=>hno (by omega) h.2)])
       refine AL (Et hn) ?_
       simp -implicitDefEqProofs -proj only [go_sem,seval]
       by_cases hm:0≤q.m∧q.m≤3
       rotate_left
       ·refine AL (Ex hm) ?_
        simp -implicitDefEqProofs -proj only [go_sem,seval]
        exact AM (by rw [decide_eq_false (fun h=>hno (by omega) h.2)])
       refine AL (Et hm) ?_
       simp -implicitDefEqProofs -proj only [go_sem,seval]
       refine AY (i+1) ⟨by omega,hgo (by omega)⟩ (by omega) rfl ?_ trivial
       simp -implicitDefEqProofs -proj only [go_sem,seval,AJ,AU (show i<9223372036854775807 by omega)]
      ·by_cases k2:q.k=2
       ·simp -implicitDefEqProofs -proj only [go_sem,seval,decide_eq_false k1,decide_eq_true k2]
        by_cases hn:0≤q.n∧q.n≤1000000000000
        rotate_left
        ·refine AL (Ex hn) ?_
         simp -implicitDefEqProofs -proj only [go_sem,seval]
         exact AM (by rw [decide_eq_false (fun h=>hno (by omega) h.2)])
        refine AL (Et hn) ?_
        by_cases hm:q.m=0
        rotate_left
        ·simp -implicitDefEqProofs -proj only [go_sem,seval,decide_eq_false hm]
         exact AM (by rw [decide_eq_false (fun h=>hno (by omega) h.2)])
        simp -implicitDefEqProofs -proj only [go_sem,seval,decide_eq_true hm]
        refine AY (i+1) ⟨by omega,hgo (by omega)⟩ (by omega) rfl ?_ trivial
        simp -implicitDefEqProofs -proj only [go_sem,seval,AJ,AU (show i<9223372036854775807 by omega)]
       ·by_cases k3:q.k=3
        ·simp -implicitDefEqProofs -proj only [go_sem,seval,decide_eq_false k1,decide_eq_false k2,decide_eq_true k3]
         by_cases hn:0≤q.n∧q.n≤1000000000000
         rotate_left
         ·refine AL (Ex hn) ?_
          simp -implicitDefEqProofs -proj only [go_sem,seval]
          exact AM (by rw [decide_eq_false (fun h=>hno (by omega) h.2)])
         refine AL (Et hn) ?_
         by_cases hm:q.m=0
         rotate_left
         ·simp -implicitDefEqProofs -proj only [go_sem,seval,decide_eq_false hm]
          exact AM (by rw [decide_eq_false (fun h=>hno (by omega) h.2)])
         simp -implicitDefEqProofs -proj only [go_sem,seval,decide_eq_true hm]
         refine AY (i+1) ⟨by omega,hgo (by omega)⟩ (by omega) rfl ?_ trivial
         simp -implicitDefEqProofs -proj only [go_sem,seval,AJ,AU (show i<9223372036854775807 by omega)]
        ·by_cases k4:q.k=4
         ·simp -implicitDefEqProofs -proj only [go_sem,seval,decide_eq_false k1,decide_eq_false k2,decide_eq_false k3,decide_eq_true k4]
          by_cases hn:0≤q.n∧q.n≤1000000000000
          rotate_left
          ·refine AL (Ex hn) ?_
           simp -implicitDefEqProofs -proj only [go_sem,seval]
           exact AM (by rw [decide_eq_false (fun h=>hno (by omega) h.2)])
          refine AL (Et hn) ?_
          by_cases hm:q.m=0
          rotate_left
          ·simp -implicitDefEqProofs -proj only [go_sem,seval,decide_eq_false hm]
           exact AM (by rw [decide_eq_false (fun h=>hno (by omega) h.2)])
          simp -implicitDefEqProofs -proj only [go_sem,seval,decide_eq_true hm]
          refine AY (i+1) ⟨by omega,hgo (by omega)⟩ (by omega) rfl ?_ trivial
          simp -implicitDefEqProofs -proj only [go_sem,seval,AJ,AU (show i<9223372036854775807 by omega)]
         ·simp -implicitDefEqProofs -proj only [go_sem,seval,decide_eq_false k1,decide_eq_false k2,decide_eq_false k3,decide_eq_false k4]
          exact AM (by rw [decide_eq_false (fun h=>hno (by omega) h.2)])
     ·have hi':i=x.ad.length:=by omega
      subst hi'
      have hA:Je x.ad:=fun a ha=>by obtain ⟨j,h1,rfl⟩:=List.getElem_of_mem ha; exact hs j h1 h1
      simp -implicitDefEqProofs -proj only [go_sem,seval,decide_eq_false (show ¬(x.ad.length:Int)<x.ad.length by omega)]
      exact AM (by rw [decide_eq_true ⟨hT,hA⟩])
def EW (a b:ByteArray):Bool:=Op.bytesLess a.toList b.toList
def Lp (ms:List MeterX) (i:Nat) (m:MeterX):Prop:=(0≤m.mx∧m.mx≤2000)∧m.ln=0∧m.co=0∧∀p,ms[i-1]? = some p→0<i→EW p.nm m.nm=true
def Kg (f t:Int) (s:SumX):Prop:=(0≤s.a∧s.a≤1000000000000)∧(f≤s.f∧s.f≤s.t∧s.t≤t)
def NP (c:CoreX):Prop:=(0≤c.f∧c.f≤3652058)∧(c.f≤c.t∧c.t≤3652058)∧c.t-c.f≤3999∧c.ms.length≤4∧c.ss.length≤8∧c.ps.length≤8
def Mk (ms:List MeterX):Prop:=∀(i:Nat) (h:i<ms.length),Lp ms i ms[i]
structure goodC (c:CoreX):Prop where
 hd:NP c
 ms:Mk c.ms
 ss:∀s∈c.ss,Kg c.f c.t s
 ps:∀x∈c.ps,IS c.f c.t c.ms.length x
noncomputable instance (c:CoreX):Decidable (goodC c):=Classical.propDecidable _
theorem AO5 {cur:ByteArray} {f t:Int} {ms ss ps:List (List D)} {x:PartX}:DataW Try.prog O5 [MO cur f t ms ss ps,Jm x] (bv (decide (IS f t ms.length x))):=by
 by_cases h:Ki f t ms.length x
 ·have:=AQu (cur:=cur) (ss:=ss) (ps:=ps) h
  rwa [show decide (I8 x.ts∧Je x.ad)=decide (IS f t ms.length x) from decide_eq_decide.2 ⟨fun k=>⟨h,k⟩,fun k=>k.2⟩] at this
 ·have:=AQ7 (cur:=cur) (ss:=ss) (ps:=ps) h
  rwa [show false=decide (IS f t ms.length x) from (decide_eq_false (fun k=>h k.1)).symm] at this
theorem K6 {α:Type} {l:List α} {P:Nat→α→Prop} {i:Nat} {x : α} (hi:l[i]? = some x) (hs:∀(j:Nat) (h:j<l.length),j<i→P j l[j]) (hx:P i x):∀(j:Nat) (h:j<l.length),j<i+1→P j l[j]:=by
 intro j h1 h2
 by_cases hj:j=i
 ·subst hj
  rw [List.getElem?_eq_getElem h1] at hi
  cases hi
  exact hx
 ·exact hs j h1 (by omega)
set_option maxRecDepth 20000 in
theorem AJ7 {c:CoreX} (hc:c.Fit):DataW Try.prog ZX [F9 c] (bv (decide (goodC c))):=by
 obtain ⟨cur,f,t,ms,ss,ps⟩:=c
 obtain ⟨hff,hft,_,hmn,_,hsn,_,hpn⟩:=hc
 simp -implicitDefEqProofs only [] at hff hft hmn hsn hpn
 have hno:¬NP ⟨cur,f,t,ms,ss,ps⟩→decide (goodC ⟨cur,f,t,ms,ss,ps⟩)=false:=fun h=>decide_eq_false (fun k=>h k.hd)
 unfold NP at hno
 simp -implicitDefEqProofs only [] at hno
 refine Aj ABg (by simp) ?_
 simp -implicitDefEqProofs -proj only [go_sem,seval]
 refine AI (fun b1 hb1=>?_)
 simp -implicitDefEqProofs -proj only [go_sem,seval]
 by_cases g1:0≤f∧f≤3652058
 rotate_left
 ·refine AL (Ex g1) ?_
  simp -implicitDefEqProofs -proj only [go_sem,seval]
  exact AM (by rw [hno (fun k=>g1 k.1)])
 refine AL (Et g1) ?_
 simp -implicitDefEqProofs -proj only [go_sem,seval]
 by_cases g2:f≤t∧t≤3652058
 rotate_left
 ·refine AL (Ex g2) ?_
  simp -implicitDefEqProofs -proj only [go_sem,seval]
  exact AM (by rw [hno (fun k=>g2 k.2.1)])
 refine AL (Et g2) ?_
 have w1:IntKind.i64.wrap (t-f)=t-f:=by rw [IntKind.wrap_i64]; omega
 by_cases g3:3999<t-f
 ·simp -implicitDefEqProofs -proj only [go_sem,seval,w1,decide_eq_true g3]
  exact AM (by rw [hno (fun k=>by omega)])
 by_cases g4:4<(ms.length:Int)
 ·simp -implicitDefEqProofs -proj only [go_sem,seval,w1,Fy,HW,HG,decide_eq_false g3,decide_eq_true g4]
  exact AM (by rw [hno (fun k=>by omega)])
 by_cases g5:8<(ss.length:Int)
 ·simp -implicitDefEqProofs -proj only [go_sem,seval,w1,Fy,HW,HG,decide_eq_false g3,decide_eq_false g4,decide_eq_true g5]
  exact AM (by rw [hno (fun k=>by omega)])
 by_cases g6:8<(ps.length:Int)
 ·simp -implicitDefEqProofs -proj only [go_sem,seval,w1,Fy,HW,HG,decide_eq_false g3,decide_eq_false g4,decide_eq_false g5,decide_eq_true g6]
  exact AM (by rw [hno (fun k=>by omega)])
 have hhd:NP ⟨cur,f,t,ms,ss,ps⟩:=⟨g1,g2,show t-f≤3999 by omega,show ms.length≤4 by omega,show ss.length≤8 by omega,show ps.length≤8 by omega⟩
 clear hno
 simp -implicitDefEqProofs -proj only [go_sem,seval,w1,Fy,HW,HG,decide_eq_false g3,decide_eq_false g4,decide_eq_false g5,decide_eq_false g6]
 refine EN (fun i:Nat=>i≤ms.length∧∀(j:Nat) (h:j<ms.length),j<i→Lp ms j ms[j]) 120 (fun i=>[(1,.ptr b1 0),(48,.d (.sl 5 (AX ms))),(49,i64 ms.length),(50,i64 i)]) (fun _=>[(b1,.box 26 [.d (.str cur),i64 f,i64 t,.d (.sl 5 (AX ms)),.d (.sl 3 (GL ss)),.d (.sl 9 (Fw ps))])]) (fun i=>ms.length-i) 0 ⟨Nat.zero_le _,fun j _ h=>absurd h (Nat.not_lt_zero _)⟩ rfl ?_ ?_ ?_
 ·simp -implicitDefEqProofs -proj only [go_sem,seval,AJ]
 ·simp -implicitDefEqProofs -proj only [go_sem,seval,AZ]
 ·rintro i ⟨hi,hs⟩
  have hk:AZ (Ac [(b1,.box 26 [.d (.str cur),i64 f,i64 t,.d (.sl 5 (AX ms)),.d (.sl 3 (GL ss)),.d (.sl 9 (Fw ps))])]) [(b1,.box 26 [.d (.str cur),i64 f,i64 t,.d (.sl 5 (AX ms)),.d (.sl 3 (GL ss)),.d (.sl 9 (Fw ps))])]:=EV (by simp [AP])
  have k1:=hk.1
  by_cases h:i<ms.length
  ·have hel:=G2 h
   have hno:¬Lp ms i ms[i]→decide (goodC ⟨cur,f,t,ms,ss,ps⟩)=false:=fun e=>decide_eq_false fun k=>e (k.ms i h)
   have hgo:Lp ms i ms[i]→∀(j:Nat) (h:j<ms.length),j<i+1→Lp ms j ms[j]:=K6 (List.getElem?_eq_getElem h) hs
   generalize ms[i]=m at *
   unfold Lp at hno hgo
   simp -implicitDefEqProofs -proj only [go_sem,seval,decide_eq_true (show (i:Int)<ms.length by omega)]
   refine Ag _ (by omega) hel ?_
   simp -implicitDefEqProofs -proj only [go_sem,seval]
   refine AI (fun b4 hb4=>?_)
   replace hb4:Ac [(b1,Blk.box 26 [.d (.str cur),i64 f,i64 t,.d (.sl 5 (AX ms)),.d (.sl 3 (GL ss)),.d (.sl 9 (Fw ps))])] b4=none:=hb4
   obtain ⟨n1,n2⟩:=AK hb4 k1
   simp -implicitDefEqProofs -proj only [go_sem,seval,n1,n2]
   by_cases c1:0≤m.mx∧m.mx≤2000
   rotate_left
   ·refine AL (Ex c1) ?_
    simp -implicitDefEqProofs -proj only [go_sem,seval]
    exact AM (by rw [hno (fun k=>c1 k.1)])
   refine AL (Et c1) ?_
   by_cases c2:m.ln=0
   rotate_left
   ·simp -implicitDefEqProofs -proj only [go_sem,seval,n1,n2,decide_eq_false c2]
    exact AM (by rw [hno (fun k=>c2 k.2.1)])
   by_cases c3:m.co=0
   rotate_left
   ·simp -implicitDefEqProofs -proj only [go_sem,seval,n1,n2,decide_eq_true c2,decide_eq_false c3]
    exact AM (by rw [hno (fun k=>c3 k.2.2.1)])
   by_cases c4:i=0
   ·simp -implicitDefEqProofs -proj only [go_sem,seval,n1,n2,decide_eq_true c2,decide_eq_true c3,decide_eq_false (show ¬0<(i:Int) by omega)]
    refine AY (i+1) ⟨by omega,hgo ⟨c1,c2,c3,fun p _ h=>absurd h (by omega)⟩⟩ (by show ms.length-(i+1)<ms.length-i; omega) rfl ?_ (Ap hb4 hk)
    simp -implicitDefEqProofs -proj only [go_sem,seval,AJ,AU (show i<9223372036854775807 by omega)]
   ·have hw:IntKind.i64.wrap ((i:Int)-1)=((i-1:Nat):Int):=by rw [IntKind.wrap_i64]; omega
    have hip:i-1<ms.length:=by omega
    have hel2:=G2 hip
    have hpe:ms[i-1]? = some ms[i-1]:=List.getElem?_eq_getElem hip
    generalize ms[i-1]=p at *
    simp -implicitDefEqProofs -proj only [go_sem,seval,n1,n2,k1,hw,decide_eq_true c2,decide_eq_true c3,decide_eq_true (show 0<(i:Int) by omega)]
    refine Ag _ (by omega) hel2 ?_
    by_cases c5:EW p.nm m.nm=true
    ·have c5':Op.bytesLess p.nm.toList m.nm.toList=true:=c5
     simp -implicitDefEqProofs -proj only [go_sem,seval,n1,n2,Kb,c5']
     refine AY (i+1) ⟨by omega,hgo ⟨c1,c2,c3,fun q hq _=>by rw [hpe] at hq; cases hq; exact c5⟩⟩ (by show ms.length-(i+1)<ms.length-i; omega) rfl ?_ (Ap hb4 hk)
     simp -implicitDefEqProofs -proj only [go_sem,seval,AJ,AU (show i<9223372036854775807 by omega)]
    ·have c5':Op.bytesLess p.nm.toList m.nm.toList=false:=by simpa [EW] using c5
     simp -implicitDefEqProofs -proj only [go_sem,seval,n1,n2,Kb,c5']
     exact AM (by rw [hno (fun k=>c5 (k.2.2.2 p hpe (by omega)))])
  ·have hi':i=ms.length:=by omega
   subst hi'
   simp -implicitDefEqProofs -proj only [go_sem,seval,k1,HW,decide_eq_false (show ¬(ms.length:Int)<ms.length by omega)]
   refine EN (fun i:Nat=>i≤ss.length∧∀(j:Nat) (h:j<ss.length),j<i→Kg f t ss[j]) 120 (fun i=>[(1,.ptr b1 0),(88,.d (.sl 3 (GL ss))),(89,i64 ss.length),(90,i64 i)]) (fun _=>[(b1,.box 26 [.d (.str cur),i64 f,i64 t,.d (.sl 5 (AX ms)),.d (.sl 3 (GL ss)),.d (.sl 9 (Fw ps))])]) (fun i=>ss.length-i) 0 ⟨Nat.zero_le _,fun j _ h=>absurd h (Nat.not_lt_zero _)⟩ rfl ?_ ?_ ?_
   ·simp -implicitDefEqProofs -proj only [go_sem,seval,AJ]
   ·exact hk
   ·rintro i ⟨hi2,hs2⟩
    by_cases h2:i<ss.length
    ·have hel:=Mn h2
     have hno:¬Kg f t ss[i]→decide (goodC ⟨cur,f,t,ms,ss,ps⟩)=false:=fun e=>decide_eq_false fun k=>e (k.ss _ (List.getElem_mem h2))
     have hgo:Kg f t ss[i]→∀(j:Nat) (h:j<ss.length),j<i+1→Kg f t ss[j]:=K6 (P:=fun _ x=>Kg f t x) (List.getElem?_eq_getElem h2) hs2
     generalize ss[i]=x at *
     unfold Kg at hno hgo
     simp -implicitDefEqProofs -proj only [go_sem,seval,decide_eq_true (show (i:Int)<ss.length by omega)]
     refine Ag _ (by omega) hel ?_
     simp -implicitDefEqProofs -proj only [go_sem,seval]
     refine AI (fun b4 hb4=>?_)
     replace hb4:Ac [(b1,Blk.box 26 [.d (.str cur),i64 f,i64 t,.d (.sl 5 (AX ms)),.d (.sl 3 (GL ss)),.d (.sl 9 (Fw ps))])] b4=none:=hb4
     obtain ⟨n1,n2⟩:=AK hb4 k1
     simp -implicitDefEqProofs -proj only [go_sem,seval,n1,n2]
     by_cases c1:0≤x.a∧x.a≤1000000000000
     rotate_left
     ·refine AL (Ex c1) ?_
      simp -implicitDefEqProofs -proj only [go_sem,seval]
      exact AM (by rw [hno (fun k=>c1 k.1)])
     refine AL (Et c1) ?_
     simp -implicitDefEqProofs -proj only [go_sem,seval,n1,n2,k1]
     refine AL O1 ?_
     by_cases c2:f≤x.f∧x.f≤x.t∧x.t≤t
     rotate_left
     ·simp -implicitDefEqProofs -proj only [go_sem,seval,n1,n2,decide_eq_false c2]
      exact AM (by rw [hno (fun k=>c2 k.2)])
     simp -implicitDefEqProofs -proj only [go_sem,seval,n1,n2,decide_eq_true c2]
     refine AY (i+1) ⟨by omega,hgo ⟨c1,c2⟩⟩ (by show ss.length-(i+1)<ss.length-i; omega) rfl ?_ (Ap hb4 hk)
     simp -implicitDefEqProofs -proj only [go_sem,seval,AJ,AU (show i<9223372036854775807 by omega)]
    ·have hi3:i=ss.length:=by omega
     subst hi3
     simp -implicitDefEqProofs -proj only [go_sem,seval,k1,HG,decide_eq_false (show ¬(ss.length:Int)<ss.length by omega)]
     refine EN (fun i:Nat=>i≤ps.length∧∀(j:Nat) (h:j<ps.length),j<i→IS f t ms.length ps[j]) 120 (fun i=>[(1,.ptr b1 0),(109,.d (.sl 9 (Fw ps))),(110,i64 ps.length),(111,i64 i)]) (fun _=>[(b1,.box 26 [.d (.str cur),i64 f,i64 t,.d (.sl 5 (AX ms)),.d (.sl 3 (GL ss)),.d (.sl 9 (Fw ps))])]) (fun i=>ps.length-i) 0 ⟨Nat.zero_le _,fun j _ h=>absurd h (Nat.not_lt_zero _)⟩ rfl ?_ ?_ ?_
     ·simp -implicitDefEqProofs -proj only [go_sem,seval,AJ]
     ·exact hk
     ·rintro i ⟨hi4,hs4⟩
      by_cases h4:i<ps.length
      ·have hel:=L2 h4
       have hno:¬IS f t ms.length ps[i]→decide (goodC ⟨cur,f,t,ms,ss,ps⟩)=false:=fun e=>decide_eq_false fun k=>e (k.ps _ (List.getElem_mem h4))
       have hgo:IS f t ms.length ps[i]→∀(j:Nat) (h:j<ps.length),j<i+1→IS f t ms.length ps[j]:=K6 (P:=fun _ x=>IS f t ms.length x) (List.getElem?_eq_getElem h4) hs4
       generalize ps[i]=x at *
       have hcall:=AO5 (cur:=cur) (f:=f) (t:=t) (ms:=AX ms) (ss:=GL ss) (ps:=Fw ps) (x:=x)
       rw [Fy] at hcall
       simp -implicitDefEqProofs -proj only [go_sem,seval,decide_eq_true (show (i:Int)<ps.length by omega)]
       refine Ag _ (by omega) hel ?_
       simp -implicitDefEqProofs -proj only [go_sem,seval]
       refine AI (fun b4 hb4=>?_)
       replace hb4:Ac [(b1,Blk.box 26 [.d (.str cur),i64 f,i64 t,.d (.sl 5 (AX ms)),.d (.sl 3 (GL ss)),.d (.sl 9 (Fw ps))])] b4=none:=hb4
       obtain ⟨n1,n2⟩:=AK hb4 k1
       simp -implicitDefEqProofs -proj only [go_sem,seval,n1,n2,k1]
       refine AL hcall ?_
       by_cases c1:IS f t ms.length x
       rotate_left
       ·simp -implicitDefEqProofs -proj only [go_sem,seval,decide_eq_false c1]
        exact AM (by rw [hno c1])
       simp -implicitDefEqProofs -proj only [go_sem,seval,n1,n2,decide_eq_true c1]
       refine AY (i+1) ⟨by omega,hgo c1⟩ (by show ps.length-(i+1)<ps.length-i; omega) rfl ?_ (Ap hb4 hk)
       simp -implicitDefEqProofs -proj only [go_sem,seval,AJ,AU (show i<9223372036854775807 by omega)]
      ·have hi5:i=ps.length:=by omega
       subst hi5
       have hfin:goodC ⟨cur,f,t,ms,ss,ps⟩:=⟨hhd,fun j h=>hs j h h,fun s hm=>by obtain ⟨j,hj,rfl⟩:=List.getElem_of_mem hm; exact hs2 j hj hj,fun s hm=>by obtain ⟨j,hj,rfl⟩:=List.getElem_of_mem hm; exact hs4 j hj hj⟩
       simp -implicitDefEqProofs -proj only [go_sem,seval,decide_eq_false (show ¬(ps.length:Int)<ps.length by omega)]
       exact AM (by rw [decide_eq_true hfin])
theorem Sk:∀x:List UInt8,Op.bytesLess x x=false
 | []=>rfl
 | a::x=>by simp [Op.bytesLess,Sk x]
theorem Tq:∀{x y z:List UInt8},Op.bytesLess x y=true→Op.bytesLess y z=true→Op.bytesLess x z=true
 | [],y,[],h1,h2=>by cases y <;> simp [Op.bytesLess] at h2
 | [],y,c::z,h1,h2=>rfl
 | a::x,[],z,h1,h2=>by simp [Op.bytesLess] at h1
 | a::x,b::y,[],h1,h2=>by simp [Op.bytesLess] at h2
 | a::x,b::y,c::z,h1,h2=>by
  simp -implicitDefEqProofs only [Op.bytesLess,Bool.or_eq_true,decide_eq_true_eq,Bool.and_eq_true,beq_iff_eq] at h1 h2 ⊢
  rcases h1 with h1 | ⟨rfl,h1⟩
  ·rcases h2 with h2 | ⟨rfl,h2⟩
   ·exact .inl (UInt8.lt_trans h1 h2)
   ·exact .inl h1
  ·rcases h2 with h2 | ⟨rfl,h2⟩
   ·exact .inl h2
   ·exact .inr ⟨rfl,Tq h1 h2⟩
theorem T6:∀{x y:List UInt8},Op.bytesLess x y=false→Op.bytesLess y x=false→x=y
 | [],[],_,_=>rfl
 | [],c::z,h1,h2=>by simp [Op.bytesLess] at h1
 | a::x,[],h1,h2=>by simp [Op.bytesLess] at h2
 | a::x,b::y,h1,h2=>by
  simp -implicitDefEqProofs only [Op.bytesLess,Bool.or_eq_false_iff,decide_eq_false_iff_not,Bool.and_eq_false_iff,beq_eq_false_iff_ne,ne_eq] at h1 h2
  have hab:a=b:=UInt8.le_antisymm (UInt8.not_lt.1 h2.1) (UInt8.not_lt.1 h1.1)
  subst hab
  rw [T6 (h1.2.resolve_left (fun h=>h rfl)) (h2.2.resolve_left (fun h=>h rfl))]
theorem Jw (x:ByteArray):EW x x=false:=Sk _
theorem N6 {x y z:ByteArray} (h1:EW x y=true) (h2:EW y z=true):EW x z=true:=Tq h1 h2
theorem Ti (b:ByteArray):∀(n i:Nat) (r:List UInt8),b.size≤n+i→ByteArray.toList.loop b i r=r.reverse++b.data.toList.drop i
 | 0,i,r,h=>by
  rw [ByteArray.toList.loop,if_neg (by omega)]
  rw [List.drop_eq_nil_of_le (by simpa using h),List.append_nil]
 | n+1,i,r,h=>by
  rw [ByteArray.toList.loop]
  split
  ·next hi =>
   rw [Ti b n (i+1) _ (by omega),List.reverse_cons,List.append_assoc]
   congr 1
   have hi':i<b.data.toList.length:=by simpa using hi
   rw [List.drop_eq_getElem_cons hi']
   have hi2:i<b.data.size:=hi
   simp [ByteArray.get!]
   exact getElem!_pos b.data i hi2
  ·rw [List.drop_eq_nil_of_le (by simp; omega),List.append_nil]
theorem Um (b:ByteArray):b.toList=b.data.toList:=by
 rw [ByteArray.toList,Ti b b.size 0 [] (by omega)]; rfl
theorem H9 {x y:ByteArray} (h:x.toList=y.toList):x=y:=by
 rw [Um,Um] at h
 cases x; cases y
 simp -implicitDefEqProofs only [ByteArray.mk.injEq]
 exact Array.ext' h
theorem M7 {x y:ByteArray} (h1:EW x y=false) (h2:EW y x=false):x=y:=H9 (T6 h1 h2)
theorem Rs {x y:ByteArray} (h:EW x y=true):EW y x=false:=by
 cases e:EW y x with
 | false=>rfl
 | true=>have:=N6 h e; rw [Jw] at this; cases this
theorem UF {x y z:ByteArray} (h1:EW y x=false) (h2:EW z y=false):EW z x=false:=by
 cases e:EW z x with
 | false=>rfl
 | true =>
  cases e2:EW x y with
  | true=>have:=N6 e e2; rw [h2] at this; cases this
  | false=>obtain rfl:=M7 e2 h1; rw [h2] at e; cases e
theorem AUo {x y z:ByteArray} (h1:EW y x=false) (h2:EW y z=true):EW x z=true:=by
 cases e:EW x z with
 | true=>rfl
 | false =>
  have:=UF (x:=z) (y:=x) (z:=y) e h1
  rw [h2] at this; cases this
def G3 (A:List MeterX) (x:MeterX):Nat→Nat
 | 0=>0
 | j+1=>match A[j]? with
  | some y=>if EW x.nm y.nm=true then G3 A x j else j+1
  | none=>j+1
theorem Ub (A:List MeterX) (x:MeterX):∀j:Nat,G3 A x j≤j
 | 0=>Nat.le_refl _
 | j+1=>by
  unfold G3
  split
  ·split
   ·exact Nat.le_succ_of_le (Ub A x j)
   ·exact Nat.le_refl _
  ·exact Nat.le_refl _
def Ff (A:List MeterX) (x:MeterX) (p:Nat):List MeterX:=A.take p++x::A.drop p
def Ia (A:List MeterX) (x:MeterX):List MeterX:=Ff A x (G3 A x A.length)
theorem Ka (A:List MeterX) (x:MeterX) (p:Nat):(Ff A x p).length=A.length+1:=by
 simp -implicitDefEqProofs only [Ff,List.length_append,List.length_cons,List.length_take,List.length_drop]; omega
theorem ACZ (A:List MeterX) (x:MeterX):(Ia A x).Perm (x::A):=by
 unfold Ia Ff
 refine List.perm_middle.trans ?_
 rw [List.take_append_drop]
theorem Pt {A:List MeterX} {x:MeterX}:∀{j:Nat},j≤A.length→∀i y,G3 A x j≤i→i<j→A[i]? = some y→EW x.nm y.nm=true
 | 0,_,i,y,_,h,_=>by omega
 | j+1,hj,i,y,h1,h2,h3=>by
  unfold G3 at h1
  split at h1
  ·next z hz =>
   split at h1
   ·next hlt =>
    by_cases e:i=j
    ·subst e; rw [hz] at h3; cases h3; exact hlt
    ·exact Pt (by omega) i y h1 (by omega) h3
   ·omega
  ·omega
theorem Tp {A:List MeterX} {x:MeterX}:∀{j:Nat},j≤A.length→0<G3 A x j→∃y,A[G3 A x j-1]? = some y∧EW x.nm y.nm=false
 | 0,_,h=>by simp [G3] at h
 | j+1,hj,h=>by
  have hz:A[j]? = some A[j]:=List.getElem?_eq_getElem (by omega)
  unfold G3 at h ⊢
  rw [hz] at h ⊢
  simp -implicitDefEqProofs only [] at h ⊢
  by_cases hlt:EW x.nm A[j].nm=true
  ·rw [if_pos hlt] at h ⊢
   exact Tp (by omega) h
  ·rw [if_neg hlt]
   exact ⟨_,hz,by simpa using hlt⟩
def K9 (x y:MeterX):Prop:=EW y.nm x.nm=false
theorem ASG {A:List MeterX} {x:MeterX} (h:A.Pairwise K9):(Ia A x).Pairwise K9:=by
 unfold Ia Ff
 generalize hp:G3 A x A.length=p
 have hle:p≤A.length:=hp▸Ub A x A.length
 have hlo:∀y∈A.take p,EW x.nm y.nm=false:=by
  intro y hy
  obtain ⟨i,hi⟩:=List.mem_iff_getElem?.1 hy
  rw [List.getElem?_take] at hi
  split at hi
  ·next hip =>
   obtain ⟨z,hz1,hz2⟩:=Tp (A:=A) (x:=x) (Nat.le_refl _) (by rw [hp]; omega)
   rw [hp] at hz1
   by_cases e:i=p-1
   ·subst e; rw [hz1] at hi; cases hi; exact hz2
   ·obtain ⟨i1,rfl⟩:=List.getElem?_eq_some_iff.1 hi
    obtain ⟨i2,rfl⟩:=List.getElem?_eq_some_iff.1 hz1
    have:=(List.pairwise_iff_getElem.1 h) i (p-1) i1 i2 (by omega)
    exact UF this hz2
  ·cases hi
 have hhi:∀y∈A.drop p,EW x.nm y.nm=true:=by
  intro y hy
  obtain ⟨i,hi⟩:=List.mem_iff_getElem?.1 hy
  rw [List.getElem?_drop] at hi
  exact Pt (Nat.le_refl _) (p+i) y (by rw [hp]; omega) (List.getElem?_eq_some_iff.1 hi).1 hi
 rw [List.pairwise_append]
 have hs:(A.take p++A.drop p).Pairwise K9:=by rw [List.take_append_drop]; exact h
 rw [List.pairwise_append] at hs
 refine ⟨hs.1,List.pairwise_cons.2 ⟨fun y hy=>Rs (hhi y hy),hs.2.1⟩,fun a ha b hb=>?_⟩
 rcases List.mem_cons.1 hb with rfl | hb
 ·exact hlo a ha
 ·exact hs.2.2 a ha b hb
def GO (l:List MeterX):Nat→List MeterX
 | 0=>[]
 | n+1=>match l[n]? with
  | some x=>Ia (GO l n) x
  | none=>GO l n
theorem MH {l:List MeterX} {n:Nat} (h:n<l.length):GO l (n+1)=Ia (GO l n) l[n]:=by
 simp -implicitDefEqProofs only [GO,List.getElem?_eq_getElem h]
theorem Pc {l:List MeterX}:∀{n:Nat},n≤l.length→(GO l n).length=n
 | 0,_=>rfl
 | n+1,h=>by
  rw [MH (by omega)]
  unfold Ia
  rw [Ka,Pc (by omega)]
theorem Oz {l:List MeterX}:∀{n:Nat},n≤l.length→(GO l n).Pairwise K9
 | 0,_=>.nil
 | n+1,h=>by rw [MH (by omega)]; exact ASG (Oz (by omega))
theorem TN {l:List MeterX}:∀{n:Nat},n≤l.length→(GO l n).Perm (l.take n)
 | 0,_=>by simp [GO]
 | n+1,h=>by
  rw [MH (by omega),List.take_add_one,List.getElem?_eq_getElem (by omega:n<l.length)]
  refine (ACZ _ _).trans ?_
  refine (List.Perm.cons _ (TN (by omega))).trans ?_
  exact (List.perm_append_singleton _ _).symm
def Hu (l:List MeterX):List MeterX:=GO l l.length
def Gn (S:List MeterX) (n:Nat):Prop:=0<n∧(S[n-1]?).map MeterX.nm=(S[n]?).map MeterX.nm
noncomputable instance (S:List MeterX) (n:Nat):Decidable (Gn S n):=Classical.propDecidable _
noncomputable def FZ (S:List MeterX):Nat→List MeterX
 | 0=>[]
 | n+1=>if Gn S n then FZ S n else FZ S n++(S[n]?).toList
theorem LP {S:List MeterX} {n:Nat} (h:Gn S n):FZ S (n+1)=FZ S n:=by rw [FZ,if_pos h]
theorem Lk {S:List MeterX} {n:Nat} (hn:n<S.length) (h:¬Gn S n):FZ S (n+1)=FZ S n++[S[n]]:=by rw [FZ,if_neg h,List.getElem?_eq_getElem hn]; rfl
theorem Q3 {S:List MeterX}:∀{n:Nat},n≤S.length→(FZ S n).length≤n
 | 0,_=>Nat.le_refl _
 | n+1,h=>by
  have:=Q3 (S:=S) (n:=n) (by omega)
  by_cases hd:Gn S n
  ·rw [LP hd]; omega
  ·rw [Lk (by omega) hd,List.length_append,List.length_singleton]; omega
theorem Mz {S:List MeterX}:∀{n:Nat},n≤S.length→(∀i,i<n→¬Gn S i)→FZ S n=S.take n
 | 0,_,_=>by simp [FZ]
 | n+1,h,hd=>by
  rw [Lk (by omega) (hd n (by omega)),Mz (by omega) (fun i hi=>hd i (by omega)),List.take_add_one,List.getElem?_eq_getElem (by omega:n<S.length)]
  rfl
def GM (x y:MeterX):Prop:=EW x.nm y.nm=true
theorem SS {S:List MeterX} (hs:S.Pairwise K9):∀{n:Nat},n≤S.length→(FZ S n).Pairwise GM∧(∀m∈FZ S n,m∈S.take n)∧(∀m∈S.take n,∃y∈FZ S n,y.nm=m.nm)∧∀y∈FZ S n,∀z,S[n-1]? = some z→EW z.nm y.nm=false
 | 0,_=>⟨.nil,fun m h=>by simp [FZ] at h,fun m h=>by simp at h,fun y h=>by simp [FZ] at h⟩
 | n+1,h=>by
  obtain ⟨h1,h2,h3,h4⟩:=SS hs (n:=n) (by omega)
  have hn:n<S.length:=by omega
  have hg:=List.getElem?_eq_getElem hn
  have htk:S.take (n+1)=S.take n++[S[n]]:=by rw [List.take_add_one,hg]; rfl
  have hle:∀y∈S.take n,EW S[n].nm y.nm=false:=fun y hy=>by
   obtain ⟨i,hi⟩:=List.mem_iff_getElem?.1 hy
   rw [List.getElem?_take] at hi
   split at hi
   ·next hin =>
    obtain ⟨i1,rfl⟩:=List.getElem?_eq_some_iff.1 hi
    exact (List.pairwise_iff_getElem.1 hs) i n i1 hn hin
   ·cases hi
  by_cases hd:Gn S n
  ·rw [LP hd,htk]
   have hd0:=hd.1
   have hp:n-1<S.length:=by omega
   have hpe:=List.getElem?_eq_getElem hp
   have hdn:S[n-1].nm=S[n].nm:=by
    have:=hd.2
    rw [hpe,hg] at this
    simpa using this
   have hin:S[n-1]∈S.take n:=by
    refine List.mem_iff_getElem?.2 ⟨n-1,?_⟩
    rw [List.getElem?_take,if_pos (by omega),hpe]
   refine ⟨h1,fun m hm=>List.mem_append_left _ (h2 m hm),fun m hm=>?_,fun y hy z hz=>?_⟩
   ·rcases List.mem_append.1 hm with hm | hm
    ·exact h3 m hm
    ·obtain rfl:=List.mem_singleton.1 hm
     rw [←hdn]
     exact h3 _ hin
   ·rw [Nat.add_sub_cancel,hg] at hz
    cases hz
    exact hle y (h2 y hy)
  ·rw [Lk hn hd,htk]
   refine ⟨List.pairwise_append.2 ⟨h1,List.pairwise_singleton _ _,fun a ha b hb=>?_⟩,fun m hm=>?_,fun m hm=>?_,fun y hy z hz=>?_⟩
   ·obtain rfl:=List.mem_singleton.1 hb
    have hp:0<n:=by
     rcases Nat.eq_zero_or_pos n with e | e
     ·subst e; simp [FZ] at ha
     ·exact e
    have hpl:n-1<S.length:=by omega
    have hpe:=List.getElem?_eq_getElem hpl
    have e1:=h4 a ha _ hpe
    have e2:EW S[n].nm S[n-1].nm=false:=(List.pairwise_iff_getElem.1 hs) (n-1) n hpl hn (by omega)
    have e3:EW S[n-1].nm S[n].nm=true:=by
     cases e:EW S[n-1].nm S[n].nm with
     | true=>rfl
     | false=>exact absurd ⟨hp,by rw [hpe,hg]; simp [M7 e e2]⟩ hd
    exact AUo e1 e3
   ·rcases List.mem_append.1 hm with hm | hm
    ·exact List.mem_append_left _ (h2 m hm)
    ·exact List.mem_append_right _ hm
   ·rcases List.mem_append.1 hm with hm | hm
    ·obtain ⟨y,hy,e⟩:=h3 m hm
     exact ⟨y,List.mem_append_left _ hy,e⟩
    ·obtain rfl:=List.mem_singleton.1 hm
     exact ⟨_,List.mem_append_right _ (List.mem_singleton.2 rfl),rfl⟩
   ·rw [Nat.add_sub_cancel,hg] at hz
    cases hz
    rcases List.mem_append.1 hy with hy | hy
    ·exact hle y (h2 y hy)
    ·obtain rfl:=List.mem_singleton.1 hy
     exact Jw _
noncomputable def IO (S:List MeterX):List MeterX:=FZ S S.length
noncomputable def ES (a b:List MeterX):List MeterX:=IO (Hu (a++b))
theorem JR (a b:List MeterX):(ES a b).Pairwise GM∧(∀m∈ES a b,m∈a∨m∈b)∧(∀m,m∈a∨m∈b→∃y∈ES a b,y.nm=m.nm):=by
 have hs:=Oz (l:=a++b) (Nat.le_refl _)
 have hp:=TN (l:=a++b) (Nat.le_refl _)
 rw [List.take_length] at hp
 obtain ⟨h1,h2,h3,_⟩:=SS hs (Nat.le_refl _)
 rw [List.take_length] at h2 h3
 refine ⟨h1,fun m hm=>List.mem_append.1 (hp.mem_iff.1 (h2 m hm)),fun m hm=>h3 m (hp.mem_iff.2 (List.mem_append.2 hm))⟩
theorem QF (l:List MeterX):(Hu l).length=l.length:=Pc (Nat.le_refl _)
theorem NN (a b:List MeterX):(ES a b).length≤a.length+b.length:=by
 have:=Q3 (S:=Hu (a++b)) (Nat.le_refl _)
 unfold ES IO
 rw [QF] at this ⊢
 simpa using this
theorem IL {P:Program} {f:FuncId} {args:List AV} {H0 H:Heap} {K:AV→Heap→Prop} (h:CallW P f args H0 K) (hs:∀k,H0 k=none∨H0 k=H k) :
  CallW P f args H fun r H'=>∃H1,K r H1∧(∀k x,H1 k=some x→H' k=some x)∧∀k x,H k=some x→H0 k=none→H' k=some x:=by
 classical
 intro F w vs hh hv
 have hsub:∀b x,H0 b=some x→H b=some x:=fun b x hb=>by
  rcases hs b with e | e
  ·rw [e] at hb; cases hb
  ·rw [←e]; exact hb
 have hh0:HRel P F H0 w:=⟨fun b x hb=>hh.at_ b x (hsub b x hb),fun b x hb=>hh.apart b x (hsub b x hb),hh.old⟩
 refine (h F w vs hh0 hv).mono fun e w' hr=>?_
 obtain ⟨r,H1,F',v,rfl,h1,h2,h3,h4⟩:=hr
 have hF0:∀k,F k→H0 k=none:=fun k hk=>by
  cases e:H0 k with
  | none=>rfl
  | some x=>exact absurd hk (hh0.apart k x e)
 have hne:∀k,H0 k≠none→H k≠none:=fun k hk=>by
  cases e:H0 k with
  | none=>exact absurd e hk
  | some x=>rw [hsub k x e]; simp
 have hfr:∀k x,H1 k=some x→¬(H k≠none∧H0 k=none):=fun k x hx hk=>by
  rcases h3.dom k (by rw [hx]; simp) with e | e
  ·exact e hk.2
  ·cases e2:H k with
   | none=>exact hk.1 e2
   | some y=>have:=(hh.at_ k y e2).lt; omega
 refine ⟨r,fun k=>if H k≠none∧H0 k=none then H k else H1 k,F',v,rfl,h1,⟨fun b x hb=>?_,fun b x hb hf=>?_,h2.old⟩,⟨h3.os,h3.tape,h3.output,h3.size,fun k hk e=>h3.keep k hk ?_,fun k hk=>?_,h3.mono,fun k hk=>?_⟩,H1,h4,fun k x hx=>?_,fun k x hx hk=>?_⟩
 ·by_cases e:H b≠none∧H0 b=none
  ·rw [if_pos e] at hb
   exact (hh.at_ b x hb).mono (h3.keep b (hh.at_ b x hb).lt e.2) h3.mono (fun k hk=>h3.keep k (hh.old k hk) (hF0 k hk))
  ·rw [if_neg e] at hb
   exact h2.at_ b x hb
 ·by_cases e:H b≠none∧H0 b=none
  ·rw [if_pos e] at hb
   rcases h3.new b hf with e2 | e2 | e2
   ·exact hh.apart b x hb e2
   ·exact e2 e.2
   ·have:=(hh.at_ b x hb).lt; omega
  ·rw [if_neg e] at hb
   exact h2.apart b x hb hf
 ·rcases hs k with e2 | e2
  ·exact e2
  ·rw [e2,e]
 ·by_cases e:H k≠none∧H0 k=none
  ·exact .inl e.1
  ·rw [if_neg e] at hk
   exact (h3.dom k hk).imp (hne k) id
 ·rcases h3.new k hk with e | e | e
  ·exact .inl e
  ·exact .inr (.inl (hne k e))
  ·exact .inr (.inr e)
 ·show (if H k≠none∧H0 k=none then H k else H1 k)=some x
  rw [if_neg (hfr k x hx)]
  exact hx
 ·show (if H k≠none∧H0 k=none then H k else H1 k)=some x
  rw [if_pos ⟨by rw [hx]; simp,hk⟩]
  exact hx
theorem TB {P:Program} {Q:Out→St→Prop} {d:Option Nat} {l:List AO} {k:List Item} {s:St} {a b:ByteArray}:FE P Q .gtr (.d (.str a)) (.d (.str b)) d l k s=AS P Q l k (AH s d (.d (.bool (!(Op.bytesLess a.toList b.toList||a.toList == b.toList)))) s.H):=rfl
theorem Ut (s:ByteArray):DataW Try.prog AB9 [.d (.str s)] (bv false):=by
 refine Aj AUr (by simp) ?_
 simp -implicitDefEqProofs -proj only [go_sem,seval,Ji]
 refine AM ?_
 simp
def LR (s t:ByteArray):Int:=if EW s t then -1 else if (!(EW s t||s.toList == t.toList)) then 1 else 0
theorem ANs (s t:ByteArray):decide (LR s t<0)=EW s t:=by
 unfold LR
 cases EW s t <;> simp
 split <;> omega
theorem ACb (s t:ByteArray):DataW Try.prog AMX [.d (.str s),.d (.str t)] (i64 (LR s t)):=by
 refine Aj AKb (by simp) ?_
 simp -implicitDefEqProofs -proj only [go_sem,seval]
 refine AL (Ut s) ?_
 simp -implicitDefEqProofs -proj only [go_sem,seval]
 refine AL (Ut t) ?_
 cases h1:Op.bytesLess s.toList t.toList with
 | true =>
  simp -implicitDefEqProofs -proj only [go_sem,seval,Kb,h1]
  exact AM (by simp [LR,EW,h1])
 | false =>
  cases h2:s.toList == t.toList with
  | true =>
   simp -implicitDefEqProofs -proj only [go_sem,seval,Kb,TB,h1,h2,Bool.or_true,Bool.false_or,Bool.not_true]
   exact AM (by simp -implicitDefEqProofs only [LR,EW,h1,h2]; simp)
  | false =>
   simp -implicitDefEqProofs -proj only [go_sem,seval,Kb,TB,h1,h2,Bool.or_false,Bool.not_false]
   exact AM (by simp -implicitDefEqProofs only [LR,EW,h1,h2]; simp)
abbrev OF (x:MeterX):AV:=.agg [.d (.str x.nm),.d (.str x.un),i64 x.mx,i64 x.ln,i64 x.co]
theorem ANf (x y:MeterX):DataW Try.prog Iu [OF x,OF y] (i64 (LR x.nm y.nm)):=by
 refine Aj AGs (by simp) ?_
 simp -implicitDefEqProofs -proj only [go_sem,seval]
 refine AI (fun b1 hb1=>?_)
 simp -implicitDefEqProofs -proj only [go_sem,seval]
 refine AI (fun b2 hb2=>?_)
 replace hb2:upd Heap.none b1 _ b2=none:=hb2
 obtain ⟨n1,n2⟩:=AK hb2 AN
 simp -implicitDefEqProofs -proj only [go_sem,seval,n1,n2]
 refine AL (ACb _ _) ?_
 simp -implicitDefEqProofs -proj only [go_sem,seval,n1,n2]
 exact AM rfl
theorem RE (x y:MeterX):DataW Try.prog MZ [OF x,OF y] (bv (x.nm.toList == y.nm.toList)):=by
 refine Aj AVO (by simp) ?_
 simp -implicitDefEqProofs -proj only [go_sem,seval]
 refine AI (fun b1 hb1=>?_)
 simp -implicitDefEqProofs -proj only [go_sem,seval]
 refine AI (fun b2 hb2=>?_)
 replace hb2:upd Heap.none b1 _ b2=none:=hb2
 obtain ⟨n1,n2⟩:=AK hb2 AN
 simp -implicitDefEqProofs -proj only [go_sem,seval,n1,n2,IN]
 exact AM rfl
theorem Y7 {H0:Heap} {K:List D→Heap→Prop}:∀{ds:List D} {H:Heap},A5 H0 H (mapD ds) K=K ds H:=by
 intro ds
 induction ds generalizing K with
 | nil=>intro H; rfl
 | cons a l ih=>intro H; exact ih (K:=fun xs H''=>K (a::xs) H'')
theorem PG {P:Program} {Q:Out→St→Prop} {k:List Item} {s:St} {d:Option Nat} {l:List AO} {ds:List D} {n b sz i j cap:Nat} {t:TypeId} {xs:List (List D)} {el:List D} (hb:s.H b=some (.row t sz cap xs)) (h:xs[i]? = some el) (hj:j+n≤el.length) (hk:AS P Q l k (AH s d .void (upd s.H b (some (.row t sz cap (xs.set i (Fr el j ds))))))):Lb n (.agg (mapD ds)) b sz i j d l k s P Q:=by
 unfold Lb
 show A5 s.H s.H (mapD ds) _
 rw [Y7]
 simp -implicitDefEqProofs only [hb]
 exact ⟨by trivial,el,h,hj,hk⟩
abbrev Gz (c cap:Nat) (l:List MeterX):List (Nat×Blk):=[(c,.row 39 5 cap (AX l))]
theorem KD {l:List MeterX} {i:Nat} {x:MeterX} (h:l[i]? = some x):(AX l)[i]? = some x.el:=by simp [AX,h]
theorem Pq {l:List MeterX} {i:Nat} {x:MeterX}:(AX l).set i x.el=AX (l.set i x):=by simp [AX,List.map_set]
theorem AAw (l:List MeterX):GO l 1++l.drop 1=l:=by
 cases l with
 | nil=>rfl
 | cons a l=>simp [GO,Ia,Ff,G3]
theorem Tn {A:List MeterX} {y:MeterX} {j:Nat} (h:j≤A.length):(Ff A y j)[j]? = some y:=by
 unfold Ff
 rw [List.getElem?_append_right (by simp; omega)]
 simp [Nat.min_eq_left h]
theorem Sf {A:List MeterX} {y:MeterX} {j:Nat} (h:j<A.length):(Ff A y (j+1))[j]? = some A[j]:=by
 unfold Ff
 rw [List.getElem?_append_left (by simp; omega),List.getElem?_take_of_lt (by omega),List.getElem?_eq_getElem h]
theorem AJn {A R:List MeterX} {y:MeterX} {j:Nat} (h:j<A.length):((Ff A y (j+1)++R).set (j+1) A[j]).set j y=Ff A y j++R:=by
 apply List.ext_getElem?
 intro i
 have hl:(Ff A y (j+1)).length=A.length+1:=Ka ..
 have hl2:(Ff A y j).length=A.length+1:=Ka ..
 rw [List.getElem?_set,List.getElem?_set]
 simp -implicitDefEqProofs only [List.length_set,List.length_append,hl]
 by_cases e1:j=i
 ·subst e1
  rw [if_pos rfl,if_pos (by omega),List.getElem?_append_left (by omega),Tn (by omega)]
 ·rw [if_neg e1]
  by_cases e2:j+1=i
  ·subst e2
   rw [if_pos rfl,if_pos (by omega),List.getElem?_append_left (by omega)]
   unfold Ff
   rw [List.getElem?_append_right (by simp; omega)]
   simp -implicitDefEqProofs only [List.length_take,Nat.min_eq_left (by omega:j≤A.length),Nat.add_sub_cancel_left]
   simp [h]
  ·rw [if_neg e2]
   by_cases e3:i<A.length+1
   ·rw [List.getElem?_append_left (by omega),List.getElem?_append_left (by omega)]
    unfold Ff
    by_cases e4:i<j
    ·rw [List.getElem?_append_left (by simp; omega),List.getElem?_append_left (by simp; omega),List.getElem?_take_of_lt (by omega),List.getElem?_take_of_lt (by omega)]
    ·rw [List.getElem?_append_right (by simp; omega),List.getElem?_append_right (by simp; omega)]
     simp -implicitDefEqProofs only [List.length_take,Nat.min_eq_left (by omega:j≤A.length),Nat.min_eq_left (by omega:j+1≤A.length)]
     obtain ⟨k,rfl⟩:∃k,i=j+2+k:=⟨i-(j+2),by omega⟩
     rw [show j+2+k-(j+1)=k+1 by omega,show j+2+k-j=k+1+1 by omega]
     simp -implicitDefEqProofs only [List.getElem?_cons_succ,List.getElem?_drop]
     congr 1; omega
   ·rw [List.getElem?_append_right (by omega),List.getElem?_append_right (by omega),hl,hl2]
theorem AET (A:List MeterX) (y:MeterX):Ff A y A.length=A++[y]:=by unfold Ff; rw [List.take_length,List.drop_length]
theorem ADl {c cap cp n:Nat} {l:List MeterX} (hn:n=l.length) (hl:l.length≤1000):CallW Try.prog UU [.own c 5 0 n cp,i64 0,i64 n,.fn Iu []] (Ac (Gz c cap l)) fun _ H'=>H' c=some (.row 39 5 cap (AX (Hu l))):=by
 have hall:∀xs,AZ (Ac (Gz c cap xs)) (Gz c cap xs):=fun xs=>EV (by simp [AP])
 have hw1:IntKind.i64.wrap (0+1)=1:=by decide
 refine Aj TT (by simp) ?_
 simp -implicitDefEqProofs -proj only [go_sem,seval,hw1]
 refine EN (fun x:Nat=>x+1≤n∨x=0) 53 (fun x=>[(0,.own c 5 0 n cp),(1,i64 0),(2,i64 n),(3,.fn Iu []),(8,i64 ((x+1:Nat):Int))]) (fun x=>Gz c cap (GO l (x+1)++l.drop (x+1))) (fun x=>n-x) 0 (.inr rfl) rfl ?_ ?_ ?_
 ·simp -implicitDefEqProofs -proj only [go_sem,seval,AJ]
  try rfl
 ·rw [AAw]
  simp -implicitDefEqProofs -proj only [go_sem,seval]
  exact hall _
 intro x hx
 by_cases h:x+1<n
 rotate_left
 ·have hr:=(hall (GO l (x+1)++l.drop (x+1))).1
  simp -implicitDefEqProofs -proj only [go_sem,seval,decide_eq_false (show ¬((x+1:Nat):Int)<n by omega)]
  have e:GO l (x+1)++l.drop (x+1)=Hu l:=by
   unfold Hu
   rcases hx with hx | rfl
   ·rw [show x+1=l.length by omega,List.drop_length,List.append_nil]
   ·rcases (by omega:l.length=0∨l.length=1) with e | e
    ·obtain rfl:=List.eq_nil_of_length_eq_zero e; rfl
    ·rw [e]; rw [List.drop_eq_nil_of_le (by omega),List.append_nil]
  rw [e]
 generalize hA:GO l (x+1)=A
 have hAl:A.length=x+1:=by rw [←hA]; exact Pc (by omega)
 have hxl:x+1<l.length:=by omega
 generalize hy:l[x+1]=y
 have hdrop:A++l.drop (x+1)=Ff A y (x+1)++l.drop (x+2):=by
  rw [←hAl,AET,List.append_assoc,hAl,List.drop_eq_getElem_cons hxl,hy]; rfl
 have hnext:GO l (x+1+1)=Ia A y:=by rw [MH hxl,hA,hy]
 rw [hdrop]
 simp -implicitDefEqProofs -proj only [go_sem,seval,decide_eq_true (show ((x+1:Nat):Int)<n by omega)]
 refine EN (fun q:Nat=>q≤x+1∧G3 A y (x+1)=G3 A y (x+1-q)) 53 (fun q=>[(0,.own c 5 0 n cp),(1,i64 0),(2,i64 n),(3,.fn Iu []),(8,i64 ((x+1:Nat):Int)),(9,i64 ((x+1-q:Nat):Int))]) (fun q=>Gz c cap (Ff A y (x+1-q)++l.drop (x+2))) (fun q=>x+1-q) 0 ⟨by omega,rfl⟩ rfl ?_ ?_ ?_
 ·simp -implicitDefEqProofs -proj only [go_sem,seval,AJ]
  try rfl
 ·simp -implicitDefEqProofs -proj only [go_sem,seval]
  exact hall _
 rintro q ⟨hq,hp⟩
 generalize hj:x+1-q=j at *
 have hr:=(hall (Ff A y j++l.drop (x+2))).1
 have hfin:G3 A y j=j→(Ff A y j++l.drop (x+2)=GO l (x+1+1)++l.drop (x+1+1)):=fun e=>by
  rw [hnext]; unfold Ia; rw [hAl,hp,e]
 by_cases hj0:0<j
 rotate_left
 ·obtain rfl:j=0:=by omega
  simp -implicitDefEqProofs -proj only [go_sem,seval,decide_eq_false (show ¬(0:Int)<((0:Nat):Int) by omega),AU (show x+1<9223372036854775807 by omega)]
  refine AY (x+1) (by omega) (by omega) rfl ?_ ?_
  ·simp -implicitDefEqProofs -proj only [go_sem,seval,AJ]
   try rfl
  ·show AZ (Ac (Gz c cap (Ff A y 0++l.drop (x+2)))) (Gz c cap (GO l (x+1+1)++l.drop (x+1+1)))
   rw [←hfin rfl]
   exact hall _
 obtain ⟨i,rfl⟩:∃i,j=i+1:=⟨j-1,by omega⟩
 have hiA:i<A.length:=by omega
 have g1:(AX (Ff A y (i+1)++l.drop (x+2)))[i+1]? = some y.el:=KD (by rw [List.getElem?_append_left (by rw [Ka]; omega)]; exact Tn (by omega))
 have g2:(AX (Ff A y (i+1)++l.drop (x+2)))[i]? = some A[i].el:=KD (by rw [List.getElem?_append_left (by rw [Ka]; omega)]; exact Sf hiA)
 have hw:IntKind.i64.wrap (((i+1:Nat):Int)-1)=(i:Int):=by rw [IntKind.wrap_i64]; omega
 simp -implicitDefEqProofs -proj only [go_sem,seval,decide_eq_true (show (0:Int)<((i+1:Nat):Int) by omega),hr,hw,Int.toNat_natCast,Nat.zero_add]
 refine Ak (by omega) (fun _=>?_)
 refine Ak (by omega) (fun _=>?_)
 refine En _ g1 (Nat.le_refl 5) ?_
 simp -implicitDefEqProofs -proj only [go_sem,seval,hr,MeterX.el]
 refine En _ g2 (Nat.le_refl 5) ?_
 simp -implicitDefEqProofs -proj only [go_sem,seval,hr,MeterX.el]
 refine AL (ANf y A[i]) ?_
 simp -implicitDefEqProofs -proj only [go_sem,seval,ANs]
 cases hlt:EW y.nm A[i].nm with
 | false =>
  simp -implicitDefEqProofs -proj only [go_sem,seval,AU (show x+1<9223372036854775807 by omega)]
  refine AY (x+1) (by omega) (by omega) rfl ?_ ?_
  ·simp -implicitDefEqProofs -proj only [go_sem,seval,AJ]
   try rfl
  ·show AZ (Ac (Gz c cap (Ff A y (i+1)++l.drop (x+2)))) (Gz c cap (GO l (x+1+1)++l.drop (x+1+1)))
   rw [←hfin (by simp -implicitDefEqProofs only [G3,List.getElem?_eq_getElem hiA,hlt]; simp)]
   exact hall _
 | true =>
  simp -implicitDefEqProofs -proj only [go_sem,seval,hr,hw,Int.toNat_natCast,Nat.zero_add]
  refine Ak (by omega) (fun _=>?_)
  refine Ak (by omega) (fun _=>?_)
  refine En _ g2 (Nat.le_refl 5) ?_
  simp -implicitDefEqProofs -proj only [go_sem,seval,hr,MeterX.el]
  refine En _ g1 (Nat.le_refl 5) ?_
  simp -implicitDefEqProofs -proj only [go_sem,seval,hr,MeterX.el,Int.toNat_natCast,Nat.zero_add]
  refine Ak (by omega) (fun _=>?_)
  refine PG (ds:=A[i].el) (t:=39) (cap:=cap) (xs:=AX (Ff A y (i+1)++l.drop (x+2))) (by simp -implicitDefEqProofs -proj only [go_sem,seval]) g1 (Nat.le_refl 5) ?_
  have s1:Fr y.el 0 A[i].el=A[i].el:=rfl
  rw [s1,Pq]
  simp -implicitDefEqProofs -proj only [go_sem,seval,hw,Int.toNat_natCast,Nat.zero_add]
  refine Ak (by omega) (fun _=>?_)
  have hlen:(Ff A y (i+1)++l.drop (x+2)).length=A.length+1+(l.drop (x+2)).length:=by rw [List.length_append,Ka]
  have g3:(AX ((Ff A y (i+1)++l.drop (x+2)).set (i+1) A[i]))[i]? = some A[i].el:=KD (by
   rw [List.getElem?_set,if_neg (by omega),List.getElem?_append_left (by rw [Ka]; omega)]; exact Sf hiA)
  refine PG (ds:=y.el) (t:=39) (cap:=cap) (xs:=AX ((Ff A y (i+1)++l.drop (x+2)).set (i+1) A[i])) (by simp -implicitDefEqProofs -proj only [go_sem,seval]) g3 (Nat.le_refl 5) ?_
  have s2:Fr A[i].el 0 y.el=y.el:=rfl
  rw [s2,Pq,AJn hiA]
  simp -implicitDefEqProofs -proj only [go_sem,seval,hw]
  refine AY (q+1) ⟨by omega,?_⟩ (by omega) rfl ?_ ?_
  ·rw [show x+1-(q+1)=i by omega,hp]
   simp -implicitDefEqProofs only [G3,List.getElem?_eq_getElem hiA,hlt]
   simp
  ·rw [show x+1-(q+1)=i by omega]
   simp -implicitDefEqProofs -proj only [go_sem,seval,AJ]
   try rfl
  ·rw [show x+1-(q+1)=i by omega]
   simp -implicitDefEqProofs -proj only [go_sem,seval,AZ]
   try rfl
theorem AIX {c cap cp n:Nat} {l:List MeterX} (hn:n=l.length) (hl:l.length≤19):CallW Try.prog U4 [.own c 5 0 n cp,i64 n,.fn Iu []] (Ac (Gz c cap l)) fun _ H'=>H' c=some (.row 39 5 cap (AX (Hu l))):=by
 have hall:∀xs,AZ (Ac (Gz c cap xs)) (Gz c cap xs):=fun xs=>EV (by simp [AP])
 refine Aj Q2 (by simp) ?_
 simp -implicitDefEqProofs -proj only [go_sem,seval]
 refine EN (fun x:Nat=>x=0) 63 (fun x=>[(0,.own c 5 0 n cp),(1,i64 n),(2,.fn Iu []),(6,i64 20),(7,i64 0),(8,i64 20)]) (fun x=>Gz c cap l) (fun x=>x) 0 rfl rfl ?_ (hall _) ?_
 ·simp -implicitDefEqProofs -proj only [go_sem,seval,AJ]
  try rfl
 rintro x rfl
 simp -implicitDefEqProofs -proj only [go_sem,seval,decide_eq_false (show ¬(20:Int)≤n by omega)]
 refine Fm (ADl hn (by omega)) (fun r H' hk=>?_)
 simp -implicitDefEqProofs -proj only [go_sem,seval]
 refine EN (fun x:Nat=>x=0) 63 (fun x=>[(1,i64 n),(6,i64 20)]) (fun x=>Gz c cap (Hu l)) (fun x=>x) 0 rfl rfl ?_ ⟨hk,trivial⟩ ?_
 ·simp -implicitDefEqProofs -proj only [go_sem,seval,AJ]
  try rfl
 rintro x rfl
 simp -implicitDefEqProofs -proj only [go_sem,seval,decide_eq_false (show ¬(20:Int)<n by omega)]
 try rfl
theorem Vy {H:Heap} {c cap cp n:Nat} {l:List MeterX} (h:H c=some (.row 39 5 cap (AX l))) (hn:n=l.length) (hl:l.length≤19):CallW Try.prog SJ [.own c 5 0 n cp,.fn Iu []] H fun _ H'=>H' c=some (.row 39 5 cap (AX (Hu l)))∧∀k x,¬k=c→H k=some x→H' k=some x:=by
 refine Aj Uj (by simp) ?_
 simp -implicitDefEqProofs -proj only [go_sem,seval]
 refine Fm (IL (AIX (c:=c) (cap:=cap) (cp:=cp) hn hl) (fun k=>?_)) (fun r H' hk=>?_)
 ·rw [Av]
  by_cases e:k=c
  ·rw [if_pos e]; subst e; exact .inr h.symm
  ·rw [if_neg e]; exact .inl rfl
 obtain ⟨H1,h1,h2,h3⟩:=hk
 simp -implicitDefEqProofs -proj only [go_sem,seval]
 refine ⟨h2 c _ h1,fun k x hk hx=>h3 k x hx ?_⟩
 rw [Av,if_neg hk]
 rfl
theorem Rz {P:Program} {f:FuncId} {args:List AV} {H:Heap} {K:AV→Heap→Prop} (h:CallW P f args H fun r H'=>K r H'∨∃b sz len cap t xs,r = .part b sz 0 len cap∧H' b=some (.row t sz cap xs)∧len≤xs.length∧cap≠0∧K (.own b sz 0 len cap) (upd H' b (some (.row t sz cap (xs.take len))))):CallW P f args H K:=by
 intro F w vs hh hv
 refine (h F w vs hh hv).mono fun e w' hr=>?_
 obtain ⟨r,H',F',v,rfl,h1,h2,h3,h4⟩:=hr
 rcases h4 with h4 | ⟨b,sz,len,cap,t,xs,rfl,hb,hl,hc,hk⟩
 ·exact ⟨r,H',F',v,rfl,h1,h2,h3,h4⟩
 ·cases h1 with | part _ _ _ _ _ o hlc ho =>
  obtain rfl:o=0:=by have:=ho.resolve_left hc; simpa using this
  refine ⟨.own b sz 0 len cap,upd H' b (some (.row t sz cap (xs.take len))),F',_,rfl,?_,⟨fun k x hx=>?_,fun k x hx=>?_,h2.old⟩,⟨h3.os,h3.tape,h3.output,h3.size,h3.keep,fun k hk=>?_,h3.mono,h3.new⟩,hk⟩
  ·have:=VR.own (P:=P) (F:=F') (w:=w') b sz 0 len cap hlc
   rw [Nat.zero_mul] at this
   exact this
  ·rw [AQ] at hx
   split at hx
   ·next e =>
    subst e
    cases hx
    obtain ⟨cur,c1,c2,c3,c4,c5,c6,c7,c8⟩:=h2.at_ _ _ hb
    refine ⟨cur,c1,c2,?_,c4,c5,fun el hel=>c6 el (List.mem_of_mem_take hel),fun i j el c u e1 e2 e3=>?_,c8⟩
    ·rw [List.length_take]; omega
    ·rw [List.getElem?_take] at e1
     split at e1
     ·exact c7 i j el c u e1 e2 e3
     ·cases e1
   ·exact h2.at_ k x hx
  ·rw [AQ] at hx
   split at hx
   ·next e=>subst e; exact h2.apart _ _ hb
   ·exact h2.apart k x hx
  ·rw [AQ] at hk
   split at hk
   ·next e=>subst e; exact h3.dom _ (by rw [hb]; simp)
   ·exact h3.dom k hk
abbrev Oe:List D:=[.str ⟨⟨[]⟩⟩,.str ⟨⟨[]⟩⟩,.int .i64 0,.int .i64 0,.int .i64 0]
def Oj (q n:Nat) (r:AV) (H':Heap):Prop:=(n=0∧r = .nilsl q)∨(0<n∧∃b cap,r = .own b 5 0 0 cap∧H' b=some (.row 39 5 cap []))
def ALL (q n:Nat) (r:AV) (H':Heap):Prop:=Oj q n r H'∨∃b sz len cap t xs,r = .part b sz 0 len cap∧H' b=some (.row t sz cap xs)∧len≤xs.length∧cap≠0∧Oj q n (.own b sz 0 len cap) (upd H' b (some (.row t sz cap (xs.take len))))
theorem AFT {n q:Nat} (hn:n≤1000):CallW Try.prog ASq [.nilsl q,i64 n] Heap.none (Oj q n):=by
 refine Rz (show CallW _ _ _ _ (ALL q n) from ?_)
 refine Aj AEC (by simp) ?_
 have hw:IntKind.i64.wrap ((n:Int)-0)=n:=by rw [IntKind.wrap_i64]; omega
 have hw0:IntKind.i64.wrap 0=0:=by decide
 by_cases h:n=0
 ·simp -implicitDefEqProofs -proj only [go_sem,seval,decide_eq_false (show ¬(n:Int)<0 by omega),hw0,hw,decide_eq_false (show ¬(0:Int)<(n:Int) by omega)]
  exact .inl (.inl ⟨h,rfl⟩)
 ·simp -implicitDefEqProofs -proj only [go_sem,seval,decide_eq_false (show ¬(n:Int)<0 by omega),hw0,hw,decide_eq_true (show (0:Int)<(n:Int) by omega),Option.getD_none,Option.getD_some]
  refine Ak (by decide) (fun _=>?_)
  simp -implicitDefEqProofs -proj only [go_sem,seval]
  refine AAf (ds:=Oe) rfl (by omega) (by omega) (by simp -implicitDefEqProofs only [maxLen]; omega) (fun b hb cap hc=>?_)
  simp -implicitDefEqProofs -proj only [go_sem,seval,Option.getD_none,Option.getD_some]
  refine Ak (by simp) (fun _=>?_)
  simp -implicitDefEqProofs -proj only [go_sem,seval,Option.getD_none,Option.getD_some]
  refine .inr ⟨b,5,0,cap,_,_,rfl,AN,Nat.zero_le _,by omega,.inr ⟨by omega,b,cap,rfl,?_⟩⟩
  rw [AN,List.take_zero]
abbrev Hh (A B:List MeterX):List (List D):=[[.sl 5 (AX A)],[.sl 5 (AX B)]]
def Ep (A B:List MeterX):Nat→List MeterX
 | 0=>[]
 | 1=>A
 | _=>A++B
theorem NE {A B:List MeterX} {x:Nat} (h:x<2):∃y,(Hh A B)[x]? = some [.sl 5 (AX y)]∧Ep A B (x+1)=Ep A B x++y:=by
 rcases (by omega:x=0∨x=1) with rfl | rfl
 ·exact ⟨A,rfl,rfl⟩
 ·exact ⟨B,rfl,rfl⟩
theorem AUv (a b:List MeterX):AX (a++b)=AX a++AX b:=by simp [AX]
theorem Gf (a:List MeterX):(AX a).length=a.length:=by simp [AX]
theorem Qo {a:List MeterX} (h:AX a=[]):a=[]:=by simpa [AX] using h
def AIK (L:List MeterX) (r:AV) (H':Heap):Prop:=(L=[]∧∃q,r = .nilsl q)∨∃b cap,r = .own b 5 0 L.length cap∧H' b=some (.row 39 5 cap (AX L))
theorem AHz {A B:List MeterX} {a ca:Nat} {ta:TypeId} (hA:A.length≤100) (hB:B.length≤100):CallW Try.prog ADA [.own a 1 0 2 ca] (Ac [(a,.row ta 1 2 (Hh A B))]) (AIK (A++B)):=by
 have hca:AZ (Ac [(a,.row ta 1 2 (Hh A B))]) [(a,.row ta 1 2 (Hh A B))]:=EV (by simp [AP])
 have hr:=hca.1
 have hcl:∀x,(Ep A B x).length≤200:=fun x=>by
  match x with
  | 0=>simp [Ep]
  | 1=>simp -implicitDefEqProofs only [Ep]; omega
  | n+2=>simp -implicitDefEqProofs only [Ep,List.length_append]; omega
 have hcs:∀x,x<2→(Ep A B x).length≤(Ep A B (x+1)).length:=fun x hx=>by
  obtain ⟨y,_,e⟩:=NE (A:=A) (B:=B) hx
  rw [e]; simp
 refine Aj AL5 (by simp) ?_
 simp -implicitDefEqProofs -proj only [go_sem,seval]
 refine EN (fun x:Nat=>x≤2) 36 (fun x=>[(0,.own a 1 0 2 ca),(9,.own a 1 0 2 ca),(10,i64 2),(11,i64 x),(3,i64 (Ep A B x).length)]) (fun x=>[(a,.row ta 1 2 (Hh A B))]) (fun x=>2-x) 0 (by omega) rfl ?_ hca ?_
 ·simp -implicitDefEqProofs -proj only [go_sem,seval,AJ]
  try rfl
 intro x hx
 by_cases h:x<2
 ·obtain ⟨y,e1,e2⟩:=NE (A:=A) (B:=B) h
  have hl:(Ep A B (x+1)).length=(Ep A B x).length+y.length:=by rw [e2,List.length_append]
  have h1:=hcl (x+1)
  have hw:IntKind.i64.wrap (((Ep A B x).length:Int)+(AX y).length)=((Ep A B (x+1)).length:Int):=by rw [Gf,hl,IntKind.wrap_i64]; omega
  simp -implicitDefEqProofs -proj only [go_sem,seval,decide_eq_true (show (x:Int)<2 by omega),hr,Int.toNat_natCast,Nat.zero_add]
  refine Ak (by omega) (fun _=>?_)
  refine Ed _ e1 (Nat.le_refl 1) ?_
  simp -implicitDefEqProofs -proj only [go_sem,seval,hw,decide_eq_false (show ¬((Ep A B (x+1)).length:Int)<0 by omega),AU (show x<9223372036854775807 by omega)]
  refine AY (x+1) (by omega) (by omega) rfl ?_ hca
  simp -implicitDefEqProofs -proj only [go_sem,seval,AJ]
  try rfl
 obtain rfl:x=2:=by omega
 have hc2:Ep A B 2=A++B:=rfl
 rw [hc2]
 simp -implicitDefEqProofs -proj only [go_sem,seval,decide_eq_false (show ¬((2:Nat):Int)<2 by omega)]
 refine Fm (IL (AFT (q:=0) (n:=(A++B).length) (by have:=hcl 2; rw [hc2] at this; omega)) (fun k=>.inl rfl)) (fun r H' hk=>?_)
 obtain ⟨H1,hg,hsub,hkeep⟩:=hk
 have qa:H' a=some (.row ta 1 2 (Hh A B)):=hkeep a _ hr rfl
 rcases hg with ⟨h0,rfl⟩ | ⟨h0,b,cap,rfl,hb⟩
 ·have hAB:A++B=[]:=List.eq_nil_of_length_eq_zero h0
  have hA0:A=[]:=List.append_eq_nil_iff.1 hAB |>.1
  have hB0:B=[]:=List.append_eq_nil_iff.1 hAB |>.2
  subst hA0; subst hB0
  simp -implicitDefEqProofs -proj only [go_sem,seval]
  refine EN (fun x:Nat=>x≤2) 36 (fun x=>[(25,.own a 1 0 2 ca),(26,i64 2),(27,i64 x),(6,.nilsl 0)]) (fun x=>[(a,.row ta 1 2 (Hh [] []))]) (fun x=>2-x) 0 (by omega) rfl ?_ ⟨qa,trivial⟩ ?_
  ·simp -implicitDefEqProofs -proj only [go_sem,seval,AJ]
   try rfl
  intro x hx
  by_cases h:x<2
  ·have e1:(Hh [] [])[x]? = some [.sl 5 []]:=by rcases (by omega:x=0∨x=1) with rfl | rfl <;> rfl
   simp -implicitDefEqProofs -proj only [go_sem,seval,decide_eq_true (show (x:Int)<2 by omega),hr,Int.toNat_natCast,Nat.zero_add]
   refine Ak (by omega) (fun _=>?_)
   refine Ed _ e1 (Nat.le_refl 1) ?_
   simp -implicitDefEqProofs -proj only [go_sem,seval]
   refine WD (ys:=[]) (fun K=>rfl) rfl (by simp) (fun _=>?_) (fun e=>absurd rfl e)
   simp -implicitDefEqProofs -proj only [go_sem,seval,AU (show x<9223372036854775807 by omega)]
   refine AY (x+1) (by omega) (by omega) rfl ?_ hca
   simp -implicitDefEqProofs -proj only [go_sem,seval,AJ]
   try rfl
  ·simp -implicitDefEqProofs -proj only [go_sem,seval,decide_eq_false (show ¬(x:Int)<2 by omega)]
   exact .inl ⟨rfl,0,rfl⟩
 ·replace hb:=hsub b _ hb
  have hne:¬b=a:=by rintro rfl; rw [qa] at hb; cases hb
  simp -implicitDefEqProofs -proj only [go_sem,seval]
  refine EN (fun x:Nat×(Nat×Nat)=>x.1≤2∧¬x.2.1=a) 36 (fun x=>[(25,.own a 1 0 2 ca),(26,i64 2),(27,i64 x.1),(6,.own x.2.1 5 0 (Ep A B x.1).length x.2.2)]) (fun x=>[(x.2.1,.row 39 5 x.2.2 (AX (Ep A B x.1))),(a,.row ta 1 2 (Hh A B))]) (fun x=>2-x.1) (0,(b,cap)) ⟨by omega,hne⟩ rfl ?_ ⟨hb,qa,trivial⟩ ?_
  ·simp -implicitDefEqProofs -proj only [go_sem,seval,AJ]
   try rfl
  clear hb qa hsub hkeep H' H1 hne
  rintro ⟨x,b,cap⟩ ⟨hx,hne⟩
  simp -implicitDefEqProofs only [] at hx hne
  have hne':¬a=b:=fun e=>hne e.symm
  have hall:AZ (Ac [(b,.row 39 5 cap (AX (Ep A B x))),(a,.row ta 1 2 (Hh A B))]) [(b,.row 39 5 cap (AX (Ep A B x))),(a,.row ta 1 2 (Hh A B))]:=EV (by simp [AP,hne])
  obtain ⟨q1,q2,_⟩:=id hall
  by_cases h:x<2
  ·obtain ⟨y,e1,e2⟩:=NE (A:=A) (B:=B) h
   have hl:(Ep A B (x+1)).length=(Ep A B x).length+y.length:=by rw [e2,List.length_append]
   have h1:=hcl (x+1)
   simp -implicitDefEqProofs -proj only [go_sem,seval,decide_eq_true (show (x:Int)<2 by omega),hne,hne',Int.toNat_natCast,Nat.zero_add]
   refine Ak (by omega) (fun _=>?_)
   refine Ed _ e1 (Nat.le_refl 1) ?_
   simp -implicitDefEqProofs -proj only [go_sem,seval]
   refine Tm (ys:=AX y) (fun K=>rfl) q1 (by rw [Gf]) rfl (by simp -implicitDefEqProofs only [Gf,maxLen]; omega) (fun e=>?_) (fun e b' cap' hb'=>?_)
   ·obtain rfl:=Qo e
    rw [List.append_nil] at e2
    simp -implicitDefEqProofs -proj only [go_sem,seval,AU (show x<9223372036854775807 by omega)]
    refine AY (x+1,(b,cap)) ⟨by show x+1≤2; omega,hne⟩ (by show 2-(x+1)<2-x; omega) rfl ?_ ?_
    ·simp -implicitDefEqProofs -proj only [go_sem,seval,AJ,e2]
     try rfl
    ·simp -implicitDefEqProofs only [e2]
     exact hall
   ·have hn2:¬b'=a:=by
     rintro rfl
     rw [AF (by exact hne)] at hb'
     have q3:=q2.symm.trans hb'
     cases q3
    have hn3:¬a=b':=fun e=>hn2 e.symm
    simp -implicitDefEqProofs -proj only [go_sem,seval,AU (show x<9223372036854775807 by omega)]
    refine AY (x+1,(b',cap')) ⟨by show x+1≤2; omega,hn2⟩ (by show 2-(x+1)<2-x; omega) rfl ?_ ?_
    ·simp -implicitDefEqProofs -proj only [go_sem,seval,AJ,hl,Gf]
     try rfl
    ·refine ⟨?_,?_,trivial⟩
     ·show upd (upd _ b none) b' _ b'=_
      rw [AN]
      simp -implicitDefEqProofs only [e2,AUv]
     ·show upd (upd _ b none) b' _ a=_
      rw [AF hn2,AF hne]
      exact q2
  obtain rfl:x=2:=by omega
  simp -implicitDefEqProofs -proj only [go_sem,seval,decide_eq_false (show ¬((2:Nat):Int)<2 by omega)]
  exact .inr ⟨b,cap,rfl,q1⟩
theorem AAT {P:Program} {f:FuncId} {b sz off len cap:Nat} {rest:List AV} {H:Heap} {K:AV→Heap→Prop} (h:len≤cap→CallW P f (.own b sz off len cap::rest) H K):CallW P f (.own b sz off len cap::rest) H K:=by
 intro F w vs hh hv
 obtain ⟨u,us,rfl,hx,hl⟩:=hv.uncons
 cases hx with | own _ _ _ _ _ hlc =>
 exact h hlc F w _ hh hv
theorem ATo {S:List MeterX} {k:Nat} (h:k+1<S.length):Gn S (k+1)↔(S[k+1].nm.toList == S[k].nm.toList)=true:=by
 unfold Gn
 rw [Nat.add_sub_cancel,List.getElem?_eq_getElem h,List.getElem?_eq_getElem (by omega:k<S.length)]
 simp -implicitDefEqProofs only [Option.map_some,Option.some.injEq,beq_iff_eq]
 exact ⟨fun e=>by rw [e.2],fun e=>⟨by omega,(H9 e).symm⟩⟩
def O7 (S:List MeterX) (c cap cp:Nat) (r:AV) (H':Heap):Prop:=r = .own c 5 0 (IO S).length cp∧H' c=some (.row 39 5 cap (AX (IO S)))
def AD4 (S:List MeterX) (c cap cp:Nat) (r:AV) (H':Heap):Prop:=O7 S c cap cp r H'∨∃b sz len cap' t xs,r = .part b sz 0 len cap'∧H' b=some (.row t sz cap' xs)∧len≤xs.length∧cap'≠0∧O7 S c cap cp (.own b sz 0 len cap') (upd H' b (some (.row t sz cap' (xs.take len))))
theorem RH {S:List MeterX} (h:∀i,i<S.length→¬Gn S i):IO S=S:=by
 unfold IO; rw [Mz (Nat.le_refl _) h,List.take_length]
structure CmpI (S R:List MeterX) (m:Nat):Prop where
 len:R.length=S.length
 pre:R.take (FZ S m).length=FZ S m
 kp:(FZ S m).length<m
 suf:∀i,m≤i+1→R[i]? = S[i]?
theorem CmpI.first {S:List MeterX} {k:Nat} (hk:k<S.length) (hn:∀i,i<k→¬Gn S i) (hd:Gn S k):CmpI S S (k+1):=by
 have e:FZ S (k+1)=S.take k:=by rw [LP hd,Mz (by omega) hn]
 have hl:(S.take k).length=k:=by simp; omega
 exact ⟨rfl,by rw [e,hl],by rw [e,hl]; omega,fun i _=>rfl⟩
theorem CmpI.dup {S R:List MeterX} {m:Nat} (h:CmpI S R m) (hd:Gn S m):CmpI S R (m+1):=by
 have e:=LP hd
 exact ⟨h.len,by rw [e]; exact h.pre,by rw [e]; have:=h.kp; omega,fun i hi=>h.suf i (by omega)⟩
theorem CmpI.new {S R:List MeterX} {m:Nat} (h:CmpI S R m) (hm:m<S.length) (hd:¬Gn S m):CmpI S (R.set (FZ S m).length S[m]) (m+1):=by
 have e:=Lk hm hd
 have hkp:=h.kp
 have hl:=h.len
 refine ⟨by rw [List.length_set,h.len],?_,by rw [e,List.length_append,List.length_singleton]; omega,fun i hi=>?_⟩
 ·rw [e,List.length_append,List.length_singleton,List.take_add_one,List.getElem?_set,if_pos rfl,if_pos (by omega),List.take_set,h.pre,List.set_eq_of_length_le (by omega)]
  rfl
 ·rw [List.getElem?_set,if_neg (by omega)]
  exact h.suf i (by omega)
theorem AMI {S:List MeterX} {c cp n:Nat} (hn:n=S.length) (hl:S.length≤1000):CallW Try.prog Rf [.own c 5 0 n cp,.fn MZ []] (Ac (Gz c cp S)) (O7 S c cp cp):=by
 refine AAT (fun hcp=>?_)
 refine Rz (show CallW _ _ _ _ (AD4 S c cp cp) from ?_)
 have hall:∀R,AZ (Ac (Gz c cp R)) (Gz c cp R):=fun R=>EV (by simp [AP])
 refine Aj TO (by simp) ?_
 by_cases h2:n<2
 ·simp -implicitDefEqProofs -proj only [go_sem,seval,decide_eq_true (show (n:Int)<2 by omega)]
  have e:IO S=S:=RH (fun i hi hd=>by have:=hd.1; omega)
  exact .inl ⟨by rw [e,hn],by rw [e]; exact (hall S).1⟩
 simp -implicitDefEqProofs -proj only [go_sem,seval,decide_eq_false (show ¬(n:Int)<2 by omega)]
 refine EN (fun x:Nat=>x+1≤n∧∀i,i≤x→¬Gn S i) 66 (fun x=>[(0,.own c 5 0 n cp),(1,.fn MZ []),(5,i64 ((x+1:Nat):Int))]) (fun x=>Gz c cp S) (fun x=>n-x) 0 ⟨by omega,fun i hi hd=>by have:=hd.1; omega⟩ rfl ?_ (hall S) ?_
 ·simp -implicitDefEqProofs -proj only [go_sem,seval,AJ]
  try rfl
 rintro x ⟨hx,hnd⟩
 by_cases h:x+1<n
 rotate_left
 ·simp -implicitDefEqProofs -proj only [go_sem,seval,decide_eq_false (show ¬((x+1:Nat):Int)<n by omega)]
  have e:IO S=S:=RH (fun i hi=>hnd i (by omega))
  exact .inl ⟨by rw [e,hn],by rw [e]; exact (hall S).1⟩
 have hr:=(hall S).1
 have hw:IntKind.i64.wrap (((x+1:Nat):Int)-1)=(x:Int):=by rw [IntKind.wrap_i64]; omega
 have g1:(AX S)[x+1]? = some S[x+1].el:=KD (List.getElem?_eq_getElem (by omega))
 have g2:(AX S)[x]? = some S[x].el:=KD (List.getElem?_eq_getElem (by omega))
 have hdi:=ATo (S:=S) (k:=x) (by omega)
 simp -implicitDefEqProofs -proj only [go_sem,seval,decide_eq_true (show ((x+1:Nat):Int)<n by omega),hr,hw,Int.toNat_natCast,Nat.zero_add]
 refine Ak (by omega) (fun _=>?_)
 refine Ak (by omega) (fun _=>?_)
 refine En _ g1 (Nat.le_refl 5) ?_
 simp -implicitDefEqProofs -proj only [go_sem,seval,hr,MeterX.el]
 refine En _ g2 (Nat.le_refl 5) ?_
 simp -implicitDefEqProofs -proj only [go_sem,seval,hr,MeterX.el]
 refine AL (RE S[x+1] S[x]) ?_
 cases hd:(S[x+1].nm.toList == S[x].nm.toList) with
 | false =>
  have hnd2:¬Gn S (x+1):=fun k=>by have:=hdi.1 k; rw [hd] at this; cases this
  simp -implicitDefEqProofs -proj only [go_sem,seval,AU (show x+1<9223372036854775807 by omega)]
  refine AY (x+1) ⟨by omega,fun i hi=>?_⟩ (by omega) rfl ?_ (hall S)
  ·by_cases e:i=x+1
   ·subst e; exact hnd2
   ·exact hnd i (by omega)
  ·simp -implicitDefEqProofs -proj only [go_sem,seval,AJ]
   try rfl
 | true =>
  have hd2:Gn S (x+1):=hdi.2 hd
  have e0:(((x+1:Nat):Int)).toNat=x+1:=Int.toNat_natCast _
  have e1:((n:Int)).toNat=n:=Int.toNat_natCast _
  simp -implicitDefEqProofs -proj only [go_sem,seval,E4,Option.getD_none,Option.getD_some,e0,e1,Nat.zero_add]
  refine Ak (by omega) (fun _=>?_)
  refine EN (fun z:Nat×List MeterX=>x+1+(z.1+1)≤n∧CmpI S z.2 (x+1+(z.1+1))) 66 (fun z=>[(0,.own c 5 0 n cp),(1,.fn MZ []),(5,i64 ((FZ S (x+1+(z.1+1))).length:Int)),(6,.part c 5 (x+1) (n-(x+1)) (cp-(x+1))),(7,i64 ((z.1+1:Nat):Int))]) (fun z=>Gz c cp z.2) (fun z=>n-z.1) (0,S) ⟨by show x+1+(0+1)≤n; omega,CmpI.first (k:=x+1) (by omega) (fun i hi=>hnd i (by omega)) hd2⟩ rfl ?_ (hall S) ?_
  ·have e2:(FZ S (x+1+(0+1))).length=x+1:=by
    rw [LP hd2,Mz (by omega) (fun i hi=>hnd i (by omega)),List.length_take]; omega
   simp -implicitDefEqProofs -proj only [go_sem,seval,AJ,e2]
   try rfl
  rintro ⟨q,R⟩ ⟨hq,hI⟩
  simp -implicitDefEqProofs only [] at hq hI
  generalize hm:x+1+(q+1)=m at *
  have hkp:=hI.kp
  have hRl:=hI.len
  generalize hkl:(FZ S m).length=kl at *
  have hrR:=(hall R).1
  by_cases hqm:q+1<n-(x+1)
  rotate_left
  ·have hmn:m=n:=by omega
   have e3:((kl:Nat):Int).toNat=kl:=Int.toNat_natCast _
   simp -implicitDefEqProofs -proj only [go_sem,seval,decide_eq_false (show ¬((q+1:Nat):Int)<((n-(x+1):Nat):Int) by omega),E4,Option.getD_none,Option.getD_some,e3,e1,Nat.zero_add]
   refine Ak (by omega) (fun _=>?_)
   refine AEv (c:=cp) (e:=39) (ds:=Oe) (xs:=AX R) (by simp -implicitDefEqProofs -proj only [go_sem,seval,hrR]) rfl (by omega) (by rw [Gf]; omega) (by omega) ?_
   simp -implicitDefEqProofs -proj only [go_sem,seval,E4,Option.getD_none,Option.getD_some,e3,e1,Nat.zero_add]
   refine Ak (by omega) (fun _=>?_)
   have hc:IO S=FZ S m:=by unfold IO; rw [hmn,hn]
   have hpre:=hI.pre
   rw [hkl] at hpre
   have hx:(List.take kl (AX R)++List.replicate (n-kl) Oe++List.drop (kl+(n-kl)) (AX R)).take kl=AX (IO S):=by
    have hl3:(List.take kl (AX R)).length=kl:=by rw [List.length_take,Gf]; omega
    rw [List.append_assoc,List.take_append_of_le_length (by omega),List.take_of_length_le (by omega),hc,←hpre]
    simp [AX,List.map_take]
   refine .inr ⟨c,5,kl,cp,_,_,rfl,AN,?_,by omega,by rw [hc,hkl],?_⟩
   ·rw [List.append_assoc,List.length_append,List.length_take,Gf]; omega
   ·rw [AN,hx]
  have hmS:m<S.length:=by omega
  have hw2:IntKind.i64.wrap (((q+1:Nat):Int)-1)=(q:Int):=by rw [IntKind.wrap_i64]; omega
  have r1:(AX R)[x+1+(q+1)]? = some S[m].el:=KD (by rw [hm,hI.suf m (by omega)]; exact List.getElem?_eq_getElem hmS)
  have r2:(AX R)[x+1+q]? = some S[m-1].el:=KD (by rw [hI.suf (x+1+q) (by omega),show x+1+q=m-1 by omega]; exact List.getElem?_eq_getElem (by omega))
  simp -implicitDefEqProofs -proj only [go_sem,seval,decide_eq_true (show ((q+1:Nat):Int)<((n-(x+1):Nat):Int) by omega),hrR,hw2,Int.toNat_natCast,Nat.zero_add]
  refine Ak (by omega) (fun _=>?_)
  refine Ak (by omega) (fun _=>?_)
  refine En _ r1 (Nat.le_refl 5) ?_
  simp -implicitDefEqProofs -proj only [go_sem,seval,hrR,MeterX.el]
  refine En _ r2 (Nat.le_refl 5) ?_
  simp -implicitDefEqProofs -proj only [go_sem,seval,hrR,MeterX.el]
  refine AL (RE S[m] S[m-1]) ?_
  cases hd3:(S[m].nm.toList == S[m-1].nm.toList) with
  | true =>
   have hd4:Gn S m:=⟨by omega,by
    rw [List.getElem?_eq_getElem hmS,List.getElem?_eq_getElem (show m-1<S.length by omega)]
    simp -implicitDefEqProofs only [Option.map_some,Option.some.injEq]
    exact (H9 (by simpa using hd3)).symm⟩
   simp -implicitDefEqProofs -proj only [go_sem,seval,Bool.not_true,AU (show q+1<9223372036854775807 by omega)]
   refine AY (q+1,R) ⟨by show x+1+(q+1+1)≤n; omega,?_⟩ (by show n-(q+1)<n-q; omega) rfl ?_ ?_
   ·show CmpI S R (x+1+(q+1+1))
    rw [show x+1+(q+1+1)=m+1 by omega]
    exact hI.dup hd4
   ·have e4:(FZ S (x+1+(q+1+1))).length=kl:=by rw [show x+1+(q+1+1)=m+1 by omega,LP hd4,hkl]
    simp -implicitDefEqProofs -proj only [go_sem,seval,AJ,e4]
    try rfl
   ·exact hall R
  | false =>
   have hd4:¬Gn S m:=fun k=>by
    have:=k.2
    rw [List.getElem?_eq_getElem hmS,List.getElem?_eq_getElem (show m-1<S.length by omega)] at this
    simp -implicitDefEqProofs only [Option.map_some,Option.some.injEq] at this
    rw [this] at hd3
    simp at hd3
   simp -implicitDefEqProofs -proj only [go_sem,seval,Bool.not_false,hrR,Int.toNat_natCast,Nat.zero_add]
   refine Ak (by omega) (fun _=>?_)
   refine En _ r1 (Nat.le_refl 5) ?_
   simp -implicitDefEqProofs -proj only [go_sem,seval,hrR,MeterX.el,Int.toNat_natCast,Nat.zero_add]
   refine Ak (by omega) (fun _=>?_)
   have r3:(AX R)[kl]? = some (R[kl]'(by omega)).el:=KD (List.getElem?_eq_getElem (by omega))
   refine PG (ds:=S[m].el) (t:=39) (cap:=cp) (xs:=AX R) (by simp -implicitDefEqProofs -proj only [go_sem,seval,hrR]) r3 (Nat.le_refl 5) ?_
   have s1:Fr (R[kl]'(by omega)).el 0 S[m].el=S[m].el:=rfl
   rw [s1,Pq]
   simp -implicitDefEqProofs -proj only [go_sem,seval,AU (show q+1<9223372036854775807 by omega),AU (show kl<9223372036854775807 by omega)]
   refine AY (q+1,R.set kl S[m]) ⟨by show x+1+(q+1+1)≤n; omega,?_⟩ (by show n-(q+1)<n-q; omega) rfl ?_ ?_
   ·show CmpI S (R.set kl S[m]) (x+1+(q+1+1))
    rw [show x+1+(q+1+1)=m+1 by omega,←hkl]
    exact hI.new hmS hd4
   ·have e4:(FZ S (x+1+(q+1+1))).length=kl+1:=by rw [show x+1+(q+1+1)=m+1 by omega,Lk hmS hd4,List.length_append,hkl]; rfl
    simp -implicitDefEqProofs -proj only [go_sem,seval,AJ,e4]
    try rfl
   ·simp -implicitDefEqProofs -proj only [go_sem,seval,AZ]
    try rfl
theorem Su {a b:Int} (ha:Fit a) (hb:Fit b):DataW Try.prog M3 [i64 a,i64 b] (IR (a-b)):=by
 refine Aj ACn (by simp) ?_
 simp -implicitDefEqProofs -proj only [go_sem,seval]
 (repeat' first
  | ((with_reducible first | refine FG (fun h=>?_) (fun h=>?_) | refine FI (fun h=>?_) (fun h=>?_) | refine FJ (fun h=>?_) (fun h=>?_)) <;> (simp -implicitDefEqProofs -proj only [go_sem,seval, *]; try (revert h; intro _)))
  | ((with_reducible first | refine AI (fun _ hb=>?_) | refine EO (fun _ hb=>?_)); simp only [E8,FK,Af,Heap.none_get,and_true,true_and] at hb; simp -implicitDefEqProofs -proj only [go_sem,seval, *]; try (revert hb; intro _))
  | ((with_reducible first | refine Ed _ rfl (by simp) ?_ | refine En _ rfl (by simp) ?_); simp -implicitDefEqProofs -proj only [go_sem,seval, *])
  | (with_reducible refine Ak ?_ (fun h=>?_); first | ((focus first | decide | omega); try clear h; try simp -implicitDefEqProofs -proj only [go_sem,seval, *]) | (rotate_left; try clear h; try simp -implicitDefEqProofs -proj only [go_sem,seval, *]; rotate_right)))
 all_goals
  simp -implicitDefEqProofs only [decide_eq_true_eq,decide_eq_false_iff_not,IntKind.wrap_i64] at *
  refine AM (PO ?_)
  simp -implicitDefEqProofs only [Bool.false_eq_true,reduceCtorEq,true_and,false_and,or_false,false_or]
  unfold Fit at *
  omega
structure TStep where
 f:Int
 t:Int
 r:Int
abbrev TStep.av (s:TStep):AV:=.agg [i64 s.f,i64 s.t,i64 s.r]
def TStep.el (s:TStep):List D:=[.int .i64 s.f,.int .i64 s.t,.int .i64 s.r]
def EY (l:List TStep):List (List D):=l.map TStep.el
theorem IU {l:List TStep}:(EY l).length=l.length:=List.length_map ..
abbrev SL (l:List TStep):AV:=.d (.sl 3 (EY l))
def NY (T:List Tier) (q:Int) (i:Nat) (t:Tier):Int:=if i+1<T.length then min q t.u else q
def IV (T:List Tier) (q:Int):Nat→Int×List TStep
 | 0=>(0,[])
 | i+1=>match T[i]? with
  | some t=>(max (IV T q i).1 (NY T q i t),if (IV T q i).1<NY T q i t then (IV T q i).2++[⟨(IV T q i).1,NY T q i t,t.r⟩] else (IV T q i).2)
  | none=>IV T q i
def Uk (T:List Tier) (q:Int):List TStep:=(IV T q T.length).2
def Io (T:List Tier) (q:Int):Nat→List TStep
 | 0=>[]
 | n+1=>match T[T.length-(n+1)]? with
  | some t=>if n=0∨q≤t.u then (if 0<q then [⟨0,q,t.r⟩] else []) else Io T q n
  | none=>[]
def OA (T:List Tier) (q:Int):List TStep:=Io T q T.length
def Ja (x:PartX) (q:Int):List TStep:=if x.ki=2 then OA x.ts q else Uk x.ts q
def M1 (s:TStep) (a:Int):Option Int:=if Fit (s.r*(s.t-s.f))∧Fit (a+s.r*(s.t-s.f)) then some (a+s.r*(s.t-s.f)) else none
def KK:List TStep→Int→Option Int
 | [],a=>some a
 | s::l,a=>match M1 s a with
  | some b=>KK l b
  | none=>none
def QY (s:TStep):Prop:=Fit s.f∧Fit s.t∧Fit s.r∧Fit (s.t-s.f)
theorem ASO {l:List TStep} {a b:Int} (h:KK l a=some b) (ha:Fit a):Fit b:=by
 induction l generalizing a with
 | nil=>cases h; exact ha
 | cons s l ih =>
  simp -implicitDefEqProofs only [KK] at h
  cases hs:M1 s a with
  | none=>rw [hs] at h; cases h
  | some c =>
   rw [hs] at h
   refine ih h ?_
   unfold M1 at hs
   split at hs
   ·next hc=>cases hs; exact hc.2
   ·cases hs
def Lq (x:PartX) (q:Int):Option Int:=if q<0 then none else if Fit (Fo (max (q-x.al) 0) x.bl 1*x.bl) then KK (Ja x (Fo (max (q-x.al) 0) x.bl 1*x.bl)) 0 else none
theorem ANn {x:PartX} {q n:Int} (h:Lq x q=some n):Fit n:=by
 unfold Lq at h
 split at h
 ·cases h
 ·split at h
  ·exact ASO h (by decide)
  ·cases h
def K7 (x:PartX) (q:Int):Option Int:=match Lq x q with
 | some n=>Jz n 1000000 x.mo
 | none=>none
def HO (T:List Tier) (i:Nat):Int:=match T[i]? with
 | some t=>t.u
 | none=>0
def J5 (T:List Tier) (i:Nat):Int:=match T[i]? with
 | some t=>t.r
 | none=>0
theorem LO {T:List Tier} {i:Nat} (h:i<T.length):HO T i=T[i].u:=by simp [HO,h]
theorem N9 {T:List Tier} {i:Nat} (h:i<T.length):J5 T i=T[i].r:=by simp [J5,h]
def HJ (T:List Tier) (i:Nat):Int:=if i=0 then 0 else HO T (i-1)
def Ks (T:List Tier) (q:Int) (i:Nat):Int:=if i+1<T.length∧HO T i<q then HO T i else q
def refN (T:List Tier) (q:Int):Nat→List TStep
 | 0=>[]
 | i+1=>if HJ T i<Ks T q i then refN T q i++[⟨HJ T i,Ks T q i,J5 T i⟩] else refN T q i
def O0 (T:List Tier) (q:Int):List TStep:=refN T q T.length
structure Srt (T:List Tier):Prop where
 up:∀i,i+1<T.length→HJ T i<HO T i∧HO T i≤1000000
 low:∀i,i<T.length→0≤HJ T i∧HJ T i≤1000000
 rate:∀i,i<T.length→0≤J5 T i∧J5 T i≤1000000000000
theorem NU {T:List Tier} (h:I8 T):Srt T:=by
 have h1:∀i,i+1<T.length→1≤HO T i∧HO T i≤1000000:=by
  intro i hi
  have hh:=(h i (by omega)).2
  have hne:¬i+1=T.length:=by omega
  rw [LO (by omega)]
  have h2:GY T i=1000000:=if_neg hne
  have h3:1≤F7 T i:=by
   unfold F7
   rw [if_neg hne]
   split
   ·split <;> omega
   ·omega
  omega
 have h2:∀i,i<T.length→0≤HJ T i∧HJ T i≤1000000:=by
  intro i hi
  unfold HJ
  split
  ·omega
  ·have:=h1 (i-1) (by omega)
   omega
 refine ⟨fun i hi=>⟨?_,(h1 i hi).2⟩,h2,fun i hi=>?_⟩
 ·unfold HJ
  split
  ·have:=h1 i hi; omega
  ·next h0 =>
   have g1:=h1 (i-1) (by omega)
   have hh:=(h i (by omega)).2.1
   rw [LO (by omega)] at g1
   obtain ⟨e1,e2⟩:=QV (T:=T) (i:=i) (by omega) (by omega) (by omega) g1.1
   rw [e1] at hh
   rw [LO (by omega),LO (by omega)]
   omega
 ·have:=(h i hi).1
  rw [N9 hi]
  exact this
theorem Ua {T:List Tier} {q:Int} (hS:Srt T):∀i,i≤T.length→(IV T q i).2=refN T q i∧(i<T.length→(IV T q i).1=max 0 (min q (HJ T i)))∧(i=T.length→0<i→(IV T q i).1=max 0 q)
 | 0,_=>⟨rfl,fun _=>by simp [IV,HJ]; omega,fun _ h=>absurd h (Nat.lt_irrefl _)⟩
 | i+1,hi=>by
  obtain ⟨g1,g2,_⟩:=Ua hS i (by omega) (q:=q)
  have hlt:i<T.length:=by omega
  have hf:=g2 hlt
  have hl:=hS.low i hlt
  have ht:NY T q i T[i]=if i+1<T.length then min q (HO T i) else q:=by rw [LO hlt]; rfl
  have hlow:HJ T (i+1)=HO T i:=by simp [HJ]
  rw [IV,List.getElem?_eq_getElem hlt,refN,N9 hlt]
  simp -implicitDefEqProofs only []
  rw [hf,ht,g1,hlow]
  unfold Ks
  by_cases h:i+1<T.length
  ·obtain ⟨u1,u2⟩:=hS.up i h
   rw [if_pos h]
   refine ⟨?_,fun _=>by omega,fun e=>by omega⟩
   by_cases hq:HJ T i<q
   ·rw [if_pos (by omega),if_pos (by split <;> omega)]
    congr 3
    ·omega
    ·split <;> omega
   ·rw [if_neg (by omega),if_neg (by split <;> omega)]
  ·rw [if_neg h]
   refine ⟨?_,fun e=>absurd e h,fun _ _=>by omega⟩
   by_cases hq:HJ T i<q
   ·rw [if_pos (by omega),if_pos (by split <;> omega)]
    congr 3
    ·omega
    ·split <;> omega
   ·rw [if_neg (by omega),if_neg (by split <;> omega)]
theorem PK {T:List Tier} {q:Int} (hS:Srt T):Uk T q=O0 T q:=(Ua hS T.length (Nat.le_refl _)).1
def tot:List TStep→Int
 | []=>0
 | s::l=>s.r*(s.t-s.f)+tot l
theorem QT {T:List Tier} {q:Int} (hS:Srt T):∀i,i≤T.length→∀s∈refN T q i,0≤s.r∧s.r≤1000000000000∧0≤s.f∧s.f<s.t∧s.t≤q
 | 0,_,s,h=>by cases h
 | i+1,hi,s,h=>by
  rw [refN] at h
  split at h
  ·next hc =>
   rcases List.mem_append.1 h with h | h
   ·exact QT hS i (by omega) s h
   ·simp -implicitDefEqProofs only [List.mem_singleton] at h
    subst h
    have h1:=hS.rate i (by omega)
    have h2:=hS.low i (by omega)
    refine ⟨h1.1,h1.2,h2.1,hc,?_⟩
    show Ks T q i≤q
    unfold Ks
    split <;> omega
  ·exact QT hS i (by omega) s h
theorem Qr {T:List Tier} {q:Int} (hr:∀i,i<T.length→0≤J5 T i∧J5 T i≤1000000000000):∀n,n≤T.length→∀s∈Io T q n,0≤s.r∧s.r≤1000000000000∧s.f=0∧0<s.t∧s.t=q
 | 0,_,s,h=>by cases h
 | n+1,hn,s,h=>by
  have hlt:T.length-(n+1)<T.length:=by omega
  rw [Io,List.getElem?_eq_getElem hlt] at h
  simp -implicitDefEqProofs only [] at h
  split at h
  ·split at h
   ·next hq =>
    simp -implicitDefEqProofs only [List.mem_singleton] at h
    subst h
    have:=hr _ hlt
    rw [N9 hlt] at this
    exact ⟨this.1,this.2,rfl,hq,rfl⟩
   ·cases h
  ·exact Qr hr n (by omega) s h
structure GoodX (x:PartX):Prop where
 al:0≤x.al∧x.al≤1000000
 bl:1≤x.bl∧x.bl≤1000000
 ki:x.ki=1∨x.ki=2
 mo:0≤x.mo∧x.mo≤3
 tn:1≤x.ts.length∧x.ts.length≤8
 an:x.ad.length≤6
 ts:I8 x.ts
 ad:Je x.ad
theorem AS6 {x:PartX} {q:Int} (h:Srt x.ts):∀s∈Ja x q,0≤s.r∧s.r≤1000000000000∧0≤s.f∧s.f<s.t∧s.t≤q:=by
 intro s hs
 unfold Ja at hs
 split at hs
 ·obtain ⟨h1,h2,h3,h4,h5⟩:=Qr (h.rate) _ (Nat.le_refl _) s hs
  exact ⟨h1,h2,by omega,by omega,by omega⟩
 ·rw [PK h] at hs
  exact QT h _ (Nat.le_refl _) s hs
theorem AJM {x:PartX} {n:Int} (h:Srt x.ts) (hn:Fit n):∀s∈Ja x n,QY s:=by
 intro s hs
 have:=AS6 h s hs
 unfold Fit at hn
 unfold QY Fit
 omega
def Js (x:PartX) (q:Int):Int:=Fo (max (q-x.al) 0) x.bl 1*x.bl
section
def HQ (s:Bool) (m:Int):AV:=.agg [bv s,u64 (m / 18446744073709551616),u64 (m % 18446744073709551616)]
def E3 (m:Int):Prop:=0≤m∧m<340282366920938463463374607431768211456
def wide (n:Int):AV:=HQ (n<0) n.natAbs
attribute [local go_sem] HQ wide
theorem wU (n:Int):IntKind.u64.wrap n=n % 18446744073709551616:=IntKind.wrap_u64 n
theorem LZ {s:Bool} {m:Int} (h:E3 m):DataW Try.prog APP [HQ s m] (bv (m=0)):=by
 refine Aj ACt (by simp) ?_
 simp -implicitDefEqProofs -proj only [go_sem,seval]
 (repeat' first
  | ((with_reducible first | refine FG (fun h=>?_) (fun h=>?_) | refine FI (fun h=>?_) (fun h=>?_) | refine FJ (fun h=>?_) (fun h=>?_)) <;> (simp -implicitDefEqProofs -proj only [go_sem,seval, *]; try (revert h; intro _)))
  | ((with_reducible first | refine AI (fun _ hb=>?_) | refine EO (fun _ hb=>?_)); simp only [E8,FK,Af,Heap.none_get,and_true,true_and] at hb; simp -implicitDefEqProofs -proj only [go_sem,seval, *]; try (revert hb; intro _))
  | ((with_reducible first | refine Ed _ rfl (by simp) ?_ | refine En _ rfl (by simp) ?_); simp -implicitDefEqProofs -proj only [go_sem,seval, *])
  | (with_reducible refine Ak ?_ (fun h=>?_); first | ((focus first | decide | omega); try clear h; try simp -implicitDefEqProofs -proj only [go_sem,seval, *]) | (rotate_left; try clear h; try simp -implicitDefEqProofs -proj only [go_sem,seval, *]; rotate_right)))
 all_goals
  refine AM ?_
  simp -implicitDefEqProofs only [decide_eq_true_eq,decide_eq_false_iff_not,Bool.not_eq_true',Bool.not_eq_false',Bool.and_eq_true,Bool.and_eq_false_iff,Bool.or_eq_true,Bool.or_eq_false_iff,beq_iff_eq,beq_eq_false_iff_ne,ne_eq,decide_eq_decide,Bool.not_eq_true,Bool.not_eq_false,wU] at *
  simp -implicitDefEqProofs only [←decide_not,←Bool.decide_and,←Bool.decide_or,Bool.beq_eq_decide_eq,AV.d.injEq,D.bool.injEq,D.int.injEq,D.str.injEq,AV.tup.injEq,AV.agg.injEq,List.cons.injEq,true_and,and_true,decide_eq_decide,true_eq_decide_iff,false_eq_decide_iff,decide_eq_true_eq,decide_eq_false_iff_not,Bool.true_eq,Bool.false_eq]
  unfold E3 at *
  omega
theorem R6 {s s':Bool} {m m':Int} (h:E3 m) (h':E3 m'):DataW Try.prog W0 [HQ s m,HQ s' m'] (bv (m<m')):=by
 refine Aj ZF (by simp) ?_
 simp -implicitDefEqProofs -proj only [go_sem,seval]
 (repeat' first
  | ((with_reducible first | refine FG (fun h=>?_) (fun h=>?_) | refine FI (fun h=>?_) (fun h=>?_) | refine FJ (fun h=>?_) (fun h=>?_)) <;> (simp -implicitDefEqProofs -proj only [go_sem,seval, *]; try (revert h; intro _)))
  | ((with_reducible first | refine AI (fun _ hb=>?_) | refine EO (fun _ hb=>?_)); simp only [E8,FK,Af,Heap.none_get,and_true,true_and] at hb; simp -implicitDefEqProofs -proj only [go_sem,seval, *]; try (revert hb; intro _))
  | ((with_reducible first | refine Ed _ rfl (by simp) ?_ | refine En _ rfl (by simp) ?_); simp -implicitDefEqProofs -proj only [go_sem,seval, *])
  | (with_reducible refine Ak ?_ (fun h=>?_); first | ((focus first | decide | omega); try clear h; try simp -implicitDefEqProofs -proj only [go_sem,seval, *]) | (rotate_left; try clear h; try simp -implicitDefEqProofs -proj only [go_sem,seval, *]; rotate_right)))
 all_goals
  refine AM ?_
  simp -implicitDefEqProofs only [decide_eq_true_eq,decide_eq_false_iff_not,Bool.not_eq_true',Bool.not_eq_false',Bool.and_eq_true,Bool.and_eq_false_iff,Bool.or_eq_true,Bool.or_eq_false_iff,beq_iff_eq,beq_eq_false_iff_ne,ne_eq,decide_eq_decide,Bool.not_eq_true,Bool.not_eq_false,wU] at *
  simp -implicitDefEqProofs only [←decide_not,←Bool.decide_and,←Bool.decide_or,Bool.beq_eq_decide_eq,AV.d.injEq,D.bool.injEq,D.int.injEq,D.str.injEq,AV.tup.injEq,AV.agg.injEq,List.cons.injEq,true_and,and_true,decide_eq_decide,true_eq_decide_iff,false_eq_decide_iff,decide_eq_true_eq,decide_eq_false_iff_not,Bool.true_eq,Bool.false_eq]
  unfold E3 at *
  omega
theorem QE {s s':Bool} {m m':Int} (h:E3 m) (h':E3 m') (h2:E3 (m+m')):DataW Try.prog Sw [HQ s m,HQ s' m'] (HQ false (m+m')):=by
 refine Aj AME (by simp) ?_
 simp -implicitDefEqProofs -proj only [go_sem,seval]
 (repeat' first
  | ((with_reducible first | refine FG (fun h=>?_) (fun h=>?_) | refine FI (fun h=>?_) (fun h=>?_) | refine FJ (fun h=>?_) (fun h=>?_)) <;> (simp -implicitDefEqProofs -proj only [go_sem,seval, *]; try (revert h; intro _)))
  | ((with_reducible first | refine AI (fun _ hb=>?_) | refine EO (fun _ hb=>?_)); simp only [E8,FK,Af,Heap.none_get,and_true,true_and] at hb; simp -implicitDefEqProofs -proj only [go_sem,seval, *]; try (revert hb; intro _))
  | ((with_reducible first | refine Ed _ rfl (by simp) ?_ | refine En _ rfl (by simp) ?_); simp -implicitDefEqProofs -proj only [go_sem,seval, *])
  | (with_reducible refine Ak ?_ (fun h=>?_); first | ((focus first | decide | omega); try clear h; try simp -implicitDefEqProofs -proj only [go_sem,seval, *]) | (rotate_left; try clear h; try simp -implicitDefEqProofs -proj only [go_sem,seval, *]; rotate_right)))
 all_goals
  refine AM ?_
  simp -implicitDefEqProofs only [decide_eq_true_eq,decide_eq_false_iff_not,Bool.not_eq_true',Bool.not_eq_false',Bool.and_eq_true,Bool.and_eq_false_iff,Bool.or_eq_true,Bool.or_eq_false_iff,beq_iff_eq,beq_eq_false_iff_ne,ne_eq,decide_eq_decide,Bool.not_eq_true,Bool.not_eq_false,wU] at *
  simp -implicitDefEqProofs only [←decide_not,←Bool.decide_and,←Bool.decide_or,Bool.beq_eq_decide_eq,AV.d.injEq,D.bool.injEq,D.int.injEq,D.str.injEq,AV.tup.injEq,AV.agg.injEq,List.cons.injEq,true_and,and_true,decide_eq_decide,true_eq_decide_iff,false_eq_decide_iff,decide_eq_true_eq,decide_eq_false_iff_not,Bool.true_eq,Bool.false_eq]
  unfold E3 at *
  omega
theorem Nu {s s':Bool} {m m':Int} (h:E3 m) (h':E3 m') (h2:m'≤m):DataW Try.prog AOT [HQ s m,HQ s' m'] (HQ false (m-m')):=by
 refine Aj APQ (by simp) ?_
 simp -implicitDefEqProofs -proj only [go_sem,seval]
 (repeat' first
  | ((with_reducible first | refine FG (fun h=>?_) (fun h=>?_) | refine FI (fun h=>?_) (fun h=>?_) | refine FJ (fun h=>?_) (fun h=>?_)) <;> (simp -implicitDefEqProofs -proj only [go_sem,seval, *]; try (revert h; intro _)))
  | ((with_reducible first | refine AI (fun _ hb=>?_) | refine EO (fun _ hb=>?_)); simp only [E8,FK,Af,Heap.none_get,and_true,true_and] at hb; simp -implicitDefEqProofs -proj only [go_sem,seval, *]; try (revert hb; intro _))
  | ((with_reducible first | refine Ed _ rfl (by simp) ?_ | refine En _ rfl (by simp) ?_); simp -implicitDefEqProofs -proj only [go_sem,seval, *])
  | (with_reducible refine Ak ?_ (fun h=>?_); first | ((focus first | decide | omega); try clear h; try simp -implicitDefEqProofs -proj only [go_sem,seval, *]) | (rotate_left; try clear h; try simp -implicitDefEqProofs -proj only [go_sem,seval, *]; rotate_right)))
 all_goals
  refine AM ?_
  simp -implicitDefEqProofs only [decide_eq_true_eq,decide_eq_false_iff_not,Bool.not_eq_true',Bool.not_eq_false',Bool.and_eq_true,Bool.and_eq_false_iff,Bool.or_eq_true,Bool.or_eq_false_iff,beq_iff_eq,beq_eq_false_iff_ne,ne_eq,decide_eq_decide,Bool.not_eq_true,Bool.not_eq_false,wU] at *
  simp -implicitDefEqProofs only [←decide_not,←Bool.decide_and,←Bool.decide_or,Bool.beq_eq_decide_eq,AV.d.injEq,D.bool.injEq,D.int.injEq,D.str.injEq,AV.tup.injEq,AV.agg.injEq,List.cons.injEq,true_and,and_true,decide_eq_decide,true_eq_decide_iff,false_eq_decide_iff,decide_eq_true_eq,decide_eq_false_iff_not,Bool.true_eq,Bool.false_eq]
  unfold E3 at *
  omega
theorem Hp {a:Int} (h:Fit a):DataW Try.prog ALI [i64 a] (wide a):=by
 refine Aj AEF (by simp) ?_
 simp -implicitDefEqProofs -proj only [go_sem,seval]
 (repeat' first
  | ((with_reducible first | refine FG (fun h=>?_) (fun h=>?_) | refine FI (fun h=>?_) (fun h=>?_) | refine FJ (fun h=>?_) (fun h=>?_)) <;> (simp -implicitDefEqProofs -proj only [go_sem,seval, *]; try (revert h; intro _)))
  | ((with_reducible first | refine AI (fun _ hb=>?_) | refine EO (fun _ hb=>?_)); simp only [E8,FK,Af,Heap.none_get,and_true,true_and] at hb; simp -implicitDefEqProofs -proj only [go_sem,seval, *]; try (revert hb; intro _))
  | ((with_reducible first | refine Ed _ rfl (by simp) ?_ | refine En _ rfl (by simp) ?_); simp -implicitDefEqProofs -proj only [go_sem,seval, *])
  | (with_reducible refine Ak ?_ (fun h=>?_); first | ((focus first | decide | omega); try clear h; try simp -implicitDefEqProofs -proj only [go_sem,seval, *]) | (rotate_left; try clear h; try simp -implicitDefEqProofs -proj only [go_sem,seval, *]; rotate_right)))
 all_goals
  refine AM ?_
  simp -implicitDefEqProofs only [decide_eq_true_eq,decide_eq_false_iff_not,Bool.not_eq_true',Bool.not_eq_false',Bool.and_eq_true,Bool.and_eq_false_iff,Bool.or_eq_true,Bool.or_eq_false_iff,beq_iff_eq,beq_eq_false_iff_ne,ne_eq,decide_eq_decide,Bool.not_eq_true,Bool.not_eq_false,wU,wI,wide,HQ] at *
  simp -implicitDefEqProofs only [←decide_not,←Bool.decide_and,←Bool.decide_or,Bool.beq_eq_decide_eq,AV.d.injEq,D.bool.injEq,D.int.injEq,D.str.injEq,AV.tup.injEq,AV.agg.injEq,List.cons.injEq,true_and,and_true,decide_eq_decide,true_eq_decide_iff,false_eq_decide_iff,decide_eq_true_eq,decide_eq_false_iff_not,Bool.true_eq,Bool.false_eq]
  unfold Fit at *
  omega
theorem La {n:Int} (h:E3 n.natAbs):DataW Try.prog AJW [wide n] (IR n):=by
 refine Aj Yr (by simp) ?_
 simp -implicitDefEqProofs -proj only [go_sem,seval]
 (repeat' first
  | ((with_reducible first | refine FG (fun h=>?_) (fun h=>?_) | refine FI (fun h=>?_) (fun h=>?_) | refine FJ (fun h=>?_) (fun h=>?_)) <;> (simp -implicitDefEqProofs -proj only [go_sem,seval, *]; try (revert h; intro _)))
  | ((with_reducible first | refine AI (fun _ hb=>?_) | refine EO (fun _ hb=>?_)); simp only [E8,FK,Af,Heap.none_get,and_true,true_and] at hb; simp -implicitDefEqProofs -proj only [go_sem,seval, *]; try (revert hb; intro _))
  | ((with_reducible first | refine Ed _ rfl (by simp) ?_ | refine En _ rfl (by simp) ?_); simp -implicitDefEqProofs -proj only [go_sem,seval, *])
  | (with_reducible refine Ak ?_ (fun h=>?_); first | ((focus first | decide | omega); try clear h; try simp -implicitDefEqProofs -proj only [go_sem,seval, *]) | (rotate_left; try clear h; try simp -implicitDefEqProofs -proj only [go_sem,seval, *]; rotate_right)))
 all_goals
  refine AM (PO ?_)
  simp -implicitDefEqProofs only [decide_eq_true_eq,decide_eq_false_iff_not,Bool.not_eq_true',Bool.not_eq_false',Bool.and_eq_true,Bool.and_eq_false_iff,Bool.or_eq_true,Bool.or_eq_false_iff,beq_iff_eq,beq_eq_false_iff_ne,ne_eq,decide_eq_decide,Bool.not_eq_true,Bool.not_eq_false,wU,wI] at *
  simp -implicitDefEqProofs only [Bool.false_eq_true,reduceCtorEq,true_and,false_and,or_false,false_or]
  unfold Fit E3 at *
  omega
theorem Nb {n:Int} (h:E3 n.natAbs):DataW Try.prog AEn [wide n] (wide (-n)):=by
 refine Aj AVN (by simp) ?_
 simp -implicitDefEqProofs -proj only [go_sem,seval]
 (repeat' first
  | (refine AL (LZ h) ?_; simp -implicitDefEqProofs -proj only [go_sem,seval, *])
  | (refine Eu (LZ h) ?_; simp -implicitDefEqProofs -proj only [go_sem,seval, *])
  | ((with_reducible first | refine FG (fun h=>?_) (fun h=>?_) | refine FI (fun h=>?_) (fun h=>?_) | refine FJ (fun h=>?_) (fun h=>?_)) <;> (simp -implicitDefEqProofs -proj only [go_sem,seval, *]; try (revert h; intro _)))
  | ((with_reducible first | refine AI (fun _ hb=>?_) | refine EO (fun _ hb=>?_)); simp -implicitDefEqProofs only [E8,FK,Af,Heap.none_get,and_true,true_and] at hb; simp -implicitDefEqProofs -proj only [go_sem,seval, *]; try (revert hb; intro _))
  | ((with_reducible first | refine Ed _ rfl (by simp) ?_ | refine En _ rfl (by simp) ?_); simp -implicitDefEqProofs -proj only [go_sem,seval, *])
  | (with_reducible refine Ak ?_ (fun h=>?_); first | ((focus first | decide | omega); try clear h; try simp -implicitDefEqProofs -proj only [go_sem,seval, *]) | (rotate_left; try clear h; try simp -implicitDefEqProofs -proj only [go_sem,seval, *]; rotate_right)))
 all_goals
  refine AM ?_
  simp -implicitDefEqProofs only [decide_eq_true_eq,decide_eq_false_iff_not,Bool.not_eq_true',Bool.not_eq_false',Bool.and_eq_true,Bool.and_eq_false_iff,Bool.or_eq_true,Bool.or_eq_false_iff,beq_iff_eq,beq_eq_false_iff_ne,ne_eq,decide_eq_decide,Bool.not_eq_true,Bool.not_eq_false] at *
  simp -implicitDefEqProofs only [←decide_not,←Bool.decide_and,←Bool.decide_or,Bool.beq_eq_decide_eq,AV.d.injEq,D.bool.injEq,D.int.injEq,D.str.injEq,AV.tup.injEq,AV.agg.injEq,List.cons.injEq,true_and,and_true,decide_eq_decide,true_eq_decide_iff,false_eq_decide_iff,decide_eq_true_eq,decide_eq_false_iff_not,Bool.true_eq,Bool.false_eq]
  omega
set_option maxHeartbeats 2000000 in
theorem Jy {a b:Int} (ha:a.natAbs<170141183460469231731687303715884105728) (hb:b.natAbs<170141183460469231731687303715884105728):DataW Try.prog AVA [wide a,wide b] (wide (a+b)):=by
 have h1:E3 a.natAbs:=by unfold E3; omega
 have h2:E3 b.natAbs:=by unfold E3; omega
 have h3:E3 (a.natAbs+b.natAbs):=by unfold E3; omega
 refine Aj AEt (by simp) ?_
 simp -implicitDefEqProofs -proj only [go_sem,seval]
 (repeat' first
  | (refine AL (QE h1 h2 h3) ?_; simp -implicitDefEqProofs -proj only [go_sem,seval, *])
  | (refine Eu (QE h1 h2 h3) ?_; simp -implicitDefEqProofs -proj only [go_sem,seval, *])
  | (refine AL (LZ (by simp -implicitDefEqProofs only [decide_eq_true_eq,decide_eq_false_iff_not,Bool.not_eq_true',Bool.not_eq_false',Bool.and_eq_true,Bool.and_eq_false_iff,Bool.or_eq_true,Bool.or_eq_false_iff,beq_iff_eq,beq_eq_false_iff_ne,ne_eq,decide_eq_decide,Bool.not_eq_true,Bool.not_eq_false] at *; unfold E3 at *; omega)) ?_; simp -implicitDefEqProofs -proj only [go_sem,seval, *])
  | (refine Eu (LZ (by simp -implicitDefEqProofs only [decide_eq_true_eq,decide_eq_false_iff_not,Bool.not_eq_true',Bool.not_eq_false',Bool.and_eq_true,Bool.and_eq_false_iff,Bool.or_eq_true,Bool.or_eq_false_iff,beq_iff_eq,beq_eq_false_iff_ne,ne_eq,decide_eq_decide,Bool.not_eq_true,Bool.not_eq_false] at *; unfold E3 at *; omega)) ?_; simp -implicitDefEqProofs -proj only [go_sem,seval, *])
  | (refine AL (R6 h1 h2) ?_; simp -implicitDefEqProofs -proj only [go_sem,seval, *])
  | (refine Eu (R6 h1 h2) ?_; simp -implicitDefEqProofs -proj only [go_sem,seval, *])
  | (refine AL (Nu h1 h2 (by simp -implicitDefEqProofs only [decide_eq_true_eq,decide_eq_false_iff_not,Bool.not_eq_true',Bool.not_eq_false',Bool.and_eq_true,Bool.and_eq_false_iff,Bool.or_eq_true,Bool.or_eq_false_iff,beq_iff_eq,beq_eq_false_iff_ne,ne_eq,decide_eq_decide,Bool.not_eq_true,Bool.not_eq_false] at *; omega)) ?_; simp -implicitDefEqProofs -proj only [go_sem,seval, *])
  | (refine Eu (Nu h1 h2 (by simp -implicitDefEqProofs only [decide_eq_true_eq,decide_eq_false_iff_not,Bool.not_eq_true',Bool.not_eq_false',Bool.and_eq_true,Bool.and_eq_false_iff,Bool.or_eq_true,Bool.or_eq_false_iff,beq_iff_eq,beq_eq_false_iff_ne,ne_eq,decide_eq_decide,Bool.not_eq_true,Bool.not_eq_false] at *; omega)) ?_; simp -implicitDefEqProofs -proj only [go_sem,seval, *])
  | (refine AL (Nu h2 h1 (by simp -implicitDefEqProofs only [decide_eq_true_eq,decide_eq_false_iff_not,Bool.not_eq_true',Bool.not_eq_false',Bool.and_eq_true,Bool.and_eq_false_iff,Bool.or_eq_true,Bool.or_eq_false_iff,beq_iff_eq,beq_eq_false_iff_ne,ne_eq,decide_eq_decide,Bool.not_eq_true,Bool.not_eq_false] at *; omega)) ?_; simp -implicitDefEqProofs -proj only [go_sem,seval, *])
  | (refine Eu (Nu h2 h1 (by simp -implicitDefEqProofs only [decide_eq_true_eq,decide_eq_false_iff_not,Bool.not_eq_true',Bool.not_eq_false',Bool.and_eq_true,Bool.and_eq_false_iff,Bool.or_eq_true,Bool.or_eq_false_iff,beq_iff_eq,beq_eq_false_iff_ne,ne_eq,decide_eq_decide,Bool.not_eq_true,Bool.not_eq_false] at *; omega)) ?_; simp -implicitDefEqProofs -proj only [go_sem,seval, *])
  | ((with_reducible first | refine FG (fun h=>?_) (fun h=>?_) | refine FI (fun h=>?_) (fun h=>?_) | refine FJ (fun h=>?_) (fun h=>?_)) <;> (simp -implicitDefEqProofs -proj only [go_sem,seval, *]; try (revert h; intro _)))
  | ((with_reducible first | refine AI (fun _ hb=>?_) | refine EO (fun _ hb=>?_)); simp -implicitDefEqProofs only [E8,FK,Af,Heap.none_get,and_true,true_and] at hb; simp -implicitDefEqProofs -proj only [go_sem,seval, *]; try (revert hb; intro _))
  | ((with_reducible first | refine Ed _ rfl (by simp) ?_ | refine En _ rfl (by simp) ?_); simp -implicitDefEqProofs -proj only [go_sem,seval, *])
  | (with_reducible refine Ak ?_ (fun h=>?_); first | ((focus first | decide | omega); try clear h; try simp -implicitDefEqProofs -proj only [go_sem,seval, *]) | (rotate_left; try clear h; try simp -implicitDefEqProofs -proj only [go_sem,seval, *]; rotate_right)))
 all_goals
  refine AM ?_
  simp -implicitDefEqProofs only [decide_eq_true_eq,decide_eq_false_iff_not,Bool.not_eq_true',Bool.not_eq_false',Bool.and_eq_true,Bool.and_eq_false_iff,Bool.or_eq_true,Bool.or_eq_false_iff,beq_iff_eq,beq_eq_false_iff_ne,ne_eq,decide_eq_decide,Bool.not_eq_true,Bool.not_eq_false] at *
  simp -implicitDefEqProofs only [←decide_not,←Bool.decide_and,←Bool.decide_or,Bool.beq_eq_decide_eq,AV.d.injEq,D.bool.injEq,D.int.injEq,D.str.injEq,AV.tup.injEq,AV.agg.injEq,List.cons.injEq,true_and,and_true,decide_eq_decide,true_eq_decide_iff,false_eq_decide_iff,decide_eq_true_eq,decide_eq_false_iff_not,Bool.true_eq,Bool.false_eq]
  omega
theorem N5 {x y:Int} (hx:0≤x∧x≤4294967295) (hy:0≤y∧y≤4294967295):0≤x*y∧x*y≤18446744065119617025:=by
 refine ⟨Int.mul_nonneg hx.1 hy.1,?_⟩
 have:=Int.mul_le_mul hx.2 hy.2 hy.1 (by omega)
 omega
theorem UO {n:Int}:n.fdiv 4294967296=n / 4294967296:=Int.fdiv_eq_ediv_of_nonneg _ (by omega)
theorem AC3 {n:Int} (h:0≤n):n.tmod 4294967296=n % 4294967296:=Int.tmod_eq_emod_of_nonneg h
def Ow (x y:Int):Nat→Int
 | 0=>x / 4294967296*(y / 4294967296)*18446744073709551616+x % 4294967296*(y % 4294967296)
 | 1=>x / 4294967296*(y / 4294967296)*18446744073709551616+x % 4294967296*(y % 4294967296)+x % 4294967296*(y / 4294967296)*4294967296
 | _=>x / 4294967296*(y / 4294967296)*18446744073709551616+x % 4294967296*(y % 4294967296)+x % 4294967296*(y / 4294967296)*4294967296+x / 4294967296*(y % 4294967296)*4294967296
theorem VJ (x y:Int):Ow x y 2=x*y:=by
 have hx:=Int.emod_add_mul_ediv x 4294967296
 have hy:=Int.emod_add_mul_ediv y 4294967296
 have e:x*y=(x % 4294967296+4294967296*(x / 4294967296))*(y % 4294967296+4294967296*(y / 4294967296)):=by rw [hx,hy]
 rw [e]
 simp -implicitDefEqProofs only [Ow,Int.add_mul,Int.mul_add]
 have e1:∀p q:Int,p*(4294967296*q)=p*q*4294967296:=fun p q=>by rw [Int.mul_left_comm]; omega
 have e2:∀p q:Int,4294967296*p*q=p*q*4294967296:=fun p q=>by rw [Int.mul_assoc]; omega
 have e3:∀p q:Int,4294967296*p*(4294967296*q)=p*q*18446744073709551616:=fun p q=>by rw [e1,e2]; omega
 rw [e1,e2,e3]
 generalize x / 4294967296*(y / 4294967296)=p
 generalize x % 4294967296*(y % 4294967296)=q
 generalize x % 4294967296*(y / 4294967296)=r
 generalize x / 4294967296*(y % 4294967296)=t
 omega
theorem AJf (x y:Int):x*y<0↔(¬(x<0↔y<0)∧x*y≠0):=by
 rcases Int.lt_trichotomy x 0 with hx | hx | hx <;> rcases Int.lt_trichotomy y 0 with hy | hy | hy
 ·have:=Int.mul_pos_of_neg_of_neg hx hy; omega
 ·subst hy; simp
 ·have:=Int.mul_neg_of_neg_of_pos hx hy; omega
 ·subst hx; simp
 ·subst hx; simp
 ·subst hx; simp
 ·have:=Int.mul_neg_of_pos_of_neg hx hy; omega
 ·subst hy; simp
 ·have:=Int.mul_pos hx hy; omega
end
section
attribute [local go_sem] HQ wide
def Gw (p u v:Int):Nat→Int
 | 0=>p
 | 1=>p+u*4294967296
 | _=>p+u*4294967296+v*4294967296
theorem Pv {p u v:Int}:Gw p u v 0=p:=(rfl)
theorem Pi {p u v:Int}:Gw p u v 1=p+u*4294967296:=(rfl)
theorem MU {p u v:Int}:Gw p u v 2=p+u*4294967296+v*4294967296:=(rfl)
theorem Sy {p u v:Int} (hp:0≤p∧p<340282366920938463389587631136930004992) (hu:0≤u∧u≤18446744065119617025) (hv:0≤v∧v≤18446744065119617025) (i:Nat) (h:E3 (Gw p u v 2)) (hi:i≤2):E3 (Gw p u v i):=by
 have hi:i=0∨i=1∨i=2:=by omega
 unfold E3 at *
 rw [MU] at h
 rcases hi with rfl | rfl | rfl
 ·rw [Pv]; omega
 ·rw [Pi]; omega
 ·rw [MU]; omega
theorem AMg {p u v:Int} (hp:0≤p∧p<340282366920938463389587631136930004992) (hu:0≤u∧u≤18446744065119617025) (hv:0≤v∧v≤18446744065119617025) (h2:E3 (Gw p u v 2)) {R:Out→St→Prop} {tl:Nat→List (Nat×AV)} {hl:Nat→List (Nat×Blk)} {br b4 b5 b6 b11:Nat} {B4 B5 B6:Blk} (n1:¬b11=br) (n2:¬br=b11) (n3:¬b4=br) (n4:¬b4=b11) (n5:¬b5=br) (n6:¬b5=b11) (n7:¬b6=br) (n8:¬b6=b11)  (m4:¬b11=b4) (m6:¬b11=b5) (m8:¬b11=b6) (n9:¬b5=b4) (n10:¬b6=b4) (n11:¬b6=b5)
  (ht:∀i:Nat,tl i=[(43,.own br 1 0 2 2),(44,i64 2),(45,i64 i),(11,.ptr b11 0),(4,.ptr b4 0),(5,.ptr b5 0),(6,.ptr b6 0)])
  (hh:∀i:Nat,hl i=[(br,.row 109 1 2 [[.int .u64 u],[.int .u64 v]]),(b11,.box 111 [bv false,u64 (Gw p u v i / 18446744073709551616),u64 (Gw p u v i % 18446744073709551616)]),(b4,B4),(b5,B5),(b6,B6)]) {i:Nat} (hi:i≤1) :
  Fs Try.prog (JP (fun i=>i≤2) (fun x=>⟨69,Fq (tl x),Ac (hl x)⟩) (fun i=>2-i) i R) Qz [] ⟨69,Fq (tl i),Ac (hl i)⟩:=by
 have key:∀j:Nat,∀w c:Int,j≤1→(w=u∧j=0∨w=v∧j=1)→c=Gw p u v (j+1)→DataW Try.prog Sw [.agg [bv false,u64 (Gw p u v j / 18446744073709551616),u64 (Gw p u v j % 18446744073709551616)],.agg [bv false,u64 (w.fdiv 4294967296),u64 (IntKind.u64.wrap (w*4294967296))]] (.agg [bv false,u64 (c / 18446744073709551616),u64 (c % 18446744073709551616)]):=by
  intro j w c hj hw hc
  have e:E3 w∧E3 (w*4294967296):=by unfold E3; omega
  have e3:c=Gw p u v j+w*4294967296:=by
   rcases hw with ⟨rfl,rfl⟩ | ⟨rfl,rfl⟩
   ·rw [hc,Pi,Pv]
   ·rw [hc,MU,Pi]
  have h:=QE (s:=false) (s':=false) (Sy hp hu hv j h2 (by omega)) e.2 (by have:=Sy hp hu hv (j+1) h2 (by omega); rw [←hc,e3] at this; exact this)
  rw [←e3] at h
  have e4:AV.agg [bv false,u64 (w.fdiv 4294967296),u64 (IntKind.u64.wrap (w*4294967296))]=HQ false (w*4294967296):=by
   simp -implicitDefEqProofs only [HQ,wU,UO,←decide_not,←Bool.decide_and,←Bool.decide_or,Bool.beq_eq_decide_eq,AV.d.injEq,D.bool.injEq,D.int.injEq,D.str.injEq,AV.tup.injEq,AV.agg.injEq,List.cons.injEq,true_and,and_true,decide_eq_decide,true_eq_decide_iff,false_eq_decide_iff,decide_eq_true_eq,decide_eq_false_iff_not,Bool.true_eq,Bool.false_eq]; omega
  rw [e4]; exact h
 have k0:=key 0 u _ (by omega) (.inl ⟨rfl,rfl⟩) rfl
 have k1:=key 1 v _ (by omega) (.inr ⟨rfl,rfl⟩) rfl
 clear key
 have hi:i=0∨i=1:=by omega
 have next:∀(j:Nat) (s:St) ,j≤2→i<j→69=s.n→AJ s.t (tl j)→AZ s.H (hl j)→JP (fun i=>i≤2) (fun x=>⟨69,Fq (tl x),Ac (hl x)⟩) (fun i=>2-i) i R .normal s:=fun j s a b c d e=>AY j a (by omega) c d e
 generalize (JP (fun i=>i≤2) (fun x=>⟨69,Fq (tl x),Ac (hl x)⟩) (fun i=>2-i) i R)=Q at next ⊢
 rw [ht,hh]
 rcases hi with rfl | rfl
 ·generalize Gw p u v 0=m0 at *
  generalize hm:Gw p u v (0+1)=m1 at *
  simp -implicitDefEqProofs -proj only [go_sem,seval,n1,n2]
  (repeat' first
  | ((with_reducible first | refine FG (fun h=>?_) (fun h=>?_) | refine FI (fun h=>?_) (fun h=>?_) | refine FJ (fun h=>?_) (fun h=>?_)) <;> (simp -implicitDefEqProofs -proj only [go_sem,seval, *]; try (revert h; intro _)))
  | ((with_reducible first | refine AI (fun _ hb=>?_) | refine EO (fun _ hb=>?_)); simp only [E8,FK,Af,Heap.none_get,and_true,true_and] at hb; simp -implicitDefEqProofs -proj only [go_sem,seval, *]; try (revert hb; intro _))
  | ((with_reducible first | refine Ed _ rfl (by simp) ?_ | refine En _ rfl (by simp) ?_); simp -implicitDefEqProofs -proj only [go_sem,seval, *])
  | (with_reducible refine Ak ?_ (fun h=>?_); first | ((focus first | decide | omega); try clear h; try simp -implicitDefEqProofs -proj only [go_sem,seval, *]) | (rotate_left; try clear h; try simp -implicitDefEqProofs -proj only [go_sem,seval, *]; rotate_right)))
  refine AL k0 ?_
  simp -implicitDefEqProofs -proj only [go_sem,seval,n1,n2]
  (repeat' first
  | ((with_reducible first | refine FG (fun h=>?_) (fun h=>?_) | refine FI (fun h=>?_) (fun h=>?_) | refine FJ (fun h=>?_) (fun h=>?_)) <;> (simp -implicitDefEqProofs -proj only [go_sem,seval, *]; try (revert h; intro _)))
  | ((with_reducible first | refine AI (fun _ hb=>?_) | refine EO (fun _ hb=>?_)); simp only [E8,FK,Af,Heap.none_get,and_true,true_and] at hb; simp -implicitDefEqProofs -proj only [go_sem,seval, *]; try (revert hb; intro _))
  | ((with_reducible first | refine Ed _ rfl (by simp) ?_ | refine En _ rfl (by simp) ?_); simp -implicitDefEqProofs -proj only [go_sem,seval, *])
  | (with_reducible refine Ak ?_ (fun h=>?_); first | ((focus first | decide | omega); try clear h; try simp -implicitDefEqProofs -proj only [go_sem,seval, *]) | (rotate_left; try clear h; try simp -implicitDefEqProofs -proj only [go_sem,seval, *]; rotate_right)))
  refine next 1 _ (by omega) (by omega) rfl ?_ ?_
  ·rw [ht]; simp -implicitDefEqProofs -proj only [go_sem,seval,AJ,IntKind.wrap_i64]; try (simp -implicitDefEqProofs only [←decide_not,←Bool.decide_and,←Bool.decide_or,Bool.beq_eq_decide_eq,AV.d.injEq,D.bool.injEq,D.int.injEq,D.str.injEq,AV.tup.injEq,AV.agg.injEq,List.cons.injEq,true_and,and_true,decide_eq_decide,true_eq_decide_iff,false_eq_decide_iff,decide_eq_true_eq,decide_eq_false_iff_not,Bool.true_eq,Bool.false_eq]; omega)
  ·rw [hh,show Gw p u v 1=m1 from hm]; simp -implicitDefEqProofs -proj only [go_sem,seval,AZ,n1,n2,n3,n4,n5,n6,n7,n8,n9,n10,n11,m4,m6,m8]
 ·generalize Gw p u v 1=m0 at *
  generalize hm:Gw p u v (1+1)=m1 at *
  simp -implicitDefEqProofs -proj only [go_sem,seval,n1,n2]
  (repeat' first
  | ((with_reducible first | refine FG (fun h=>?_) (fun h=>?_) | refine FI (fun h=>?_) (fun h=>?_) | refine FJ (fun h=>?_) (fun h=>?_)) <;> (simp -implicitDefEqProofs -proj only [go_sem,seval, *]; try (revert h; intro _)))
  | ((with_reducible first | refine AI (fun _ hb=>?_) | refine EO (fun _ hb=>?_)); simp only [E8,FK,Af,Heap.none_get,and_true,true_and] at hb; simp -implicitDefEqProofs -proj only [go_sem,seval, *]; try (revert hb; intro _))
  | ((with_reducible first | refine Ed _ rfl (by simp) ?_ | refine En _ rfl (by simp) ?_); simp -implicitDefEqProofs -proj only [go_sem,seval, *])
  | (with_reducible refine Ak ?_ (fun h=>?_); first | ((focus first | decide | omega); try clear h; try simp -implicitDefEqProofs -proj only [go_sem,seval, *]) | (rotate_left; try clear h; try simp -implicitDefEqProofs -proj only [go_sem,seval, *]; rotate_right)))
  refine AL k1 ?_
  simp -implicitDefEqProofs -proj only [go_sem,seval,n1,n2]
  (repeat' first
  | ((with_reducible first | refine FG (fun h=>?_) (fun h=>?_) | refine FI (fun h=>?_) (fun h=>?_) | refine FJ (fun h=>?_) (fun h=>?_)) <;> (simp -implicitDefEqProofs -proj only [go_sem,seval, *]; try (revert h; intro _)))
  | ((with_reducible first | refine AI (fun _ hb=>?_) | refine EO (fun _ hb=>?_)); simp only [E8,FK,Af,Heap.none_get,and_true,true_and] at hb; simp -implicitDefEqProofs -proj only [go_sem,seval, *]; try (revert hb; intro _))
  | ((with_reducible first | refine Ed _ rfl (by simp) ?_ | refine En _ rfl (by simp) ?_); simp -implicitDefEqProofs -proj only [go_sem,seval, *])
  | (with_reducible refine Ak ?_ (fun h=>?_); first | ((focus first | decide | omega); try clear h; try simp -implicitDefEqProofs -proj only [go_sem,seval, *]) | (rotate_left; try clear h; try simp -implicitDefEqProofs -proj only [go_sem,seval, *]; rotate_right)))
  refine next 2 _ (by omega) (by omega) rfl ?_ ?_
  ·rw [ht]; simp -implicitDefEqProofs -proj only [go_sem,seval,AJ,IntKind.wrap_i64]; try (simp -implicitDefEqProofs only [←decide_not,←Bool.decide_and,←Bool.decide_or,Bool.beq_eq_decide_eq,AV.d.injEq,D.bool.injEq,D.int.injEq,D.str.injEq,AV.tup.injEq,AV.agg.injEq,List.cons.injEq,true_and,and_true,decide_eq_decide,true_eq_decide_iff,false_eq_decide_iff,decide_eq_true_eq,decide_eq_false_iff_not,Bool.true_eq,Bool.false_eq]; omega)
  ·rw [hh,show Gw p u v 2=m1 from hm]; simp -implicitDefEqProofs -proj only [go_sem,seval,AZ,n1,n2,n3,n4,n5,n6,n7,n8,n9,n10,n11,m4,m6,m8]
theorem Tl {x y:Int} (hx:Fit x) (hy:Fit y):0≤(x.natAbs:Int)*y.natAbs∧(x.natAbs:Int)*y.natAbs≤85070591730234615865843651857942052864:=by
 refine ⟨Int.mul_nonneg (by omega) (by omega),?_⟩
 have:=Int.mul_le_mul (a:=(x.natAbs:Int)) (c:=9223372036854775808) (b:=(y.natAbs:Int)) (d:=9223372036854775808) (by unfold Fit at hx; omega) (by unfold Fit at hy; omega) (by omega) (by omega)
 omega
theorem Ke {x y:Int} (ha:Fit x) (hb:Fit y):DataW Try.prog AOE [i64 x,i64 y] (wide (x*y)):=by
 have hx:((x.natAbs:Int) % 18446744073709551616)=x.natAbs:=by unfold Fit at ha; omega
 have hy:((y.natAbs:Int) % 18446744073709551616)=y.natAbs:=by unfold Fit at hb; omega
 refine Aj ADE (by simp) ?_
 simp -implicitDefEqProofs -proj only [go_sem,seval]
 (repeat' first
  | (refine AL (Hp ha) ?_; simp -implicitDefEqProofs -proj only [go_sem,seval, *])
  | (refine Eu (Hp ha) ?_; simp -implicitDefEqProofs -proj only [go_sem,seval, *])
  | (refine AL (Hp hb) ?_; simp -implicitDefEqProofs -proj only [go_sem,seval, *])
  | (refine Eu (Hp hb) ?_; simp -implicitDefEqProofs -proj only [go_sem,seval, *])
  | ((with_reducible first | refine FG (fun h=>?_) (fun h=>?_) | refine FI (fun h=>?_) (fun h=>?_) | refine FJ (fun h=>?_) (fun h=>?_)) <;> (simp -implicitDefEqProofs -proj only [go_sem,seval, *]; try (revert h; intro _)))
  | ((with_reducible first | refine AI (fun _ hb=>?_) | refine EO (fun _ hb=>?_)); simp -implicitDefEqProofs only [E8,FK,Af,Heap.none_get,and_true,true_and] at hb; simp -implicitDefEqProofs -proj only [go_sem,seval, *]; try (revert hb; intro _))
  | ((with_reducible first | refine Ed _ rfl (by simp) ?_ | refine En _ rfl (by simp) ?_); simp -implicitDefEqProofs -proj only [go_sem,seval, *])
  | (with_reducible refine Ak ?_ (fun h=>?_); first | ((focus first | decide | omega); try clear h; try simp -implicitDefEqProofs -proj only [go_sem,seval, *]) | (rotate_left; try clear h; try simp -implicitDefEqProofs -proj only [go_sem,seval, *]; rotate_right)))
 simp -implicitDefEqProofs -proj only [go_sem,seval,hx,hy,UO,AC3 (Int.natCast_nonneg _), *]
 (repeat' first
  | (refine AL (Hp ha) ?_; simp -implicitDefEqProofs -proj only [go_sem,seval, *])
  | (refine Eu (Hp ha) ?_; simp -implicitDefEqProofs -proj only [go_sem,seval, *])
  | (refine AL (Hp hb) ?_; simp -implicitDefEqProofs -proj only [go_sem,seval, *])
  | (refine Eu (Hp hb) ?_; simp -implicitDefEqProofs -proj only [go_sem,seval, *])
  | ((with_reducible first | refine FG (fun h=>?_) (fun h=>?_) | refine FI (fun h=>?_) (fun h=>?_) | refine FJ (fun h=>?_) (fun h=>?_)) <;> (simp -implicitDefEqProofs -proj only [go_sem,seval, *]; try (revert h; intro _)))
  | ((with_reducible first | refine AI (fun _ hb=>?_) | refine EO (fun _ hb=>?_)); simp -implicitDefEqProofs only [E8,FK,Af,Heap.none_get,and_true,true_and] at hb; simp -implicitDefEqProofs -proj only [go_sem,seval, *]; try (revert hb; intro _))
  | ((with_reducible first | refine Ed _ rfl (by simp) ?_ | refine En _ rfl (by simp) ?_); simp -implicitDefEqProofs -proj only [go_sem,seval, *])
  | (with_reducible refine Ak ?_ (fun h=>?_); first | ((focus first | decide | omega); try clear h; try simp -implicitDefEqProofs -proj only [go_sem,seval, *]) | (rotate_left; try clear h; try simp -implicitDefEqProofs -proj only [go_sem,seval, *]; rotate_right)))
 next b4 _ b5 hb5 b6 hb6 b11 hb11 br hbr =>
 have hp:=N5 (x:=x.natAbs / 4294967296) (y:=y.natAbs / 4294967296) (by unfold Fit at ha; omega) (by unfold Fit at hb; omega)
 have hq:=N5 (x:=x.natAbs % 4294967296) (y:=y.natAbs % 4294967296) (by unfold Fit at ha; omega) (by unfold Fit at hb; omega)
 have hr:=N5 (x:=x.natAbs % 4294967296) (y:=y.natAbs / 4294967296) (by unfold Fit at ha; omega) (by unfold Fit at hb; omega)
 have ht:=N5 (x:=x.natAbs / 4294967296) (y:=y.natAbs % 4294967296) (by unfold Fit at ha; omega) (by unfold Fit at hb; omega)
 have hm:=VJ x.natAbs y.natAbs
 have hxy:=Tl ha hb
 have hn:(x.natAbs:Int)*y.natAbs=(x*y).natAbs:=by rw [Int.natAbs_mul]; rfl
 have hs:=AJf x y
 rw [hn] at hm hxy
 simp -implicitDefEqProofs only [Ow] at hm
 have hz:(x*y).natAbs=0↔x*y=0:=Int.natAbs_eq_zero
 generalize (x*y).natAbs=N at *
 generalize hmn:x*y=mn at *
 generalize x.natAbs / (4294967296:Int)*(y.natAbs / (4294967296:Int))=P at *
 generalize x.natAbs % (4294967296:Int)*(y.natAbs % (4294967296:Int))=q at *
 generalize x.natAbs % (4294967296:Int)*(y.natAbs / (4294967296:Int))=u at *
 generalize x.natAbs / (4294967296:Int)*(y.natAbs % (4294967296:Int))=v at *
 obtain ⟨tl,htl⟩:∃tl:Nat→List (Nat×AV),∀i:Nat,tl i=[(43,.own br 1 0 2 2),(44,i64 2),(45,i64 i),(11,.ptr b11 0),(4,.ptr b4 0),(5,.ptr b5 0),(6,.ptr b6 0)]:=⟨_,fun _=>rfl⟩
 obtain ⟨hl,hhl⟩:∃hl:Nat→List (Nat×Blk),∀i:Nat,hl i=[(br,.row 109 1 2 [[.int .u64 u],[.int .u64 v]]),(b11,.box 111 [bv false,u64 (Gw (P*18446744073709551616+q) u v i / 18446744073709551616),u64 (Gw (P*18446744073709551616+q) u v i % 18446744073709551616)]),
   (b4,.box 111 [bv false,u64 0,u64 0]),(b5,.box 111 [bv (decide (x<0)),u64 (↑x.natAbs / 18446744073709551616),u64 ↑x.natAbs]),(b6,.box 111 [bv (decide (y<0)),u64 (↑y.natAbs / 18446744073709551616),u64 ↑y.natAbs])]:=⟨_,fun _=>rfl⟩
 refine EN (fun i:Nat=>i≤2) 69 tl hl
  (fun i=>2-i) 0 (by omega) rfl ?_ ?_ ?_
 ·rw [htl]; simp -implicitDefEqProofs -proj only [go_sem,seval,AJ]
 ·rw [hhl,Pv]; simp -implicitDefEqProofs -proj only [go_sem,seval,AZ, *]
  simp -implicitDefEqProofs only [wU,Option.some.injEq,Blk.box.injEq,Blk.row.injEq,←decide_not,←Bool.decide_and,←Bool.decide_or,Bool.beq_eq_decide_eq,AV.d.injEq,D.bool.injEq,D.int.injEq,D.str.injEq,AV.tup.injEq,AV.agg.injEq,List.cons.injEq,true_and,and_true,decide_eq_decide,true_eq_decide_iff,false_eq_decide_iff,decide_eq_true_eq,decide_eq_false_iff_not,Bool.true_eq,Bool.false_eq]
  omega
 ·intro i hi
  by_cases hi2:i≤1
  ·refine AMg (p:=P*18446744073709551616+q) (by omega) hr ht ?_ ?_ ?_ ?_ ?_ ?_ ?_ ?_ ?_ ?_ ?_ ?_ ?_ ?_ ?_ htl hhl hi2
   ·rw [MU,hm]; unfold E3; omega
   all_goals simp -implicitDefEqProofs only [hb5,hb6,hb11,hbr,not_false_eq_true]
  ·have hi:i=2:=by omega
   subst hi
   rw [htl,hhl,MU,hm]
   simp -implicitDefEqProofs -proj only [go_sem,seval,hb5,hb6,hb11,hbr]
   (repeat' first
  | (refine AL (LZ (m:=N) (by unfold E3; omega)) ?_; simp -implicitDefEqProofs -proj only [go_sem,seval, *])
  | (refine Eu (LZ (m:=N) (by unfold E3; omega)) ?_; simp -implicitDefEqProofs -proj only [go_sem,seval, *])
  | ((with_reducible first | refine FG (fun h=>?_) (fun h=>?_) | refine FI (fun h=>?_) (fun h=>?_) | refine FJ (fun h=>?_) (fun h=>?_)) <;> (simp -implicitDefEqProofs -proj only [go_sem,seval, *]; try (revert h; intro _)))
  | ((with_reducible first | refine AI (fun _ hb=>?_) | refine EO (fun _ hb=>?_)); simp -implicitDefEqProofs only [E8,FK,Af,Heap.none_get,and_true,true_and] at hb; simp -implicitDefEqProofs -proj only [go_sem,seval, *]; try (revert hb; intro _))
  | ((with_reducible first | refine Ed _ rfl (by simp) ?_ | refine En _ rfl (by simp) ?_); simp -implicitDefEqProofs -proj only [go_sem,seval, *])
  | (with_reducible refine Ak ?_ (fun h=>?_); first | ((focus first | decide | omega); try clear h; try simp -implicitDefEqProofs -proj only [go_sem,seval, *]) | (rotate_left; try clear h; try simp -implicitDefEqProofs -proj only [go_sem,seval, *]; rotate_right)))
   all_goals
    refine AM ?_
    simp -implicitDefEqProofs only [decide_eq_true_eq,decide_eq_false_iff_not,Bool.not_eq_true',Bool.not_eq_false',Bool.and_eq_true,Bool.and_eq_false_iff,Bool.or_eq_true,Bool.or_eq_false_iff,beq_iff_eq,beq_eq_false_iff_ne,ne_eq,decide_eq_decide,Bool.not_eq_true,Bool.not_eq_false] at *
    simp -implicitDefEqProofs only [←decide_not,←Bool.decide_and,←Bool.decide_or,Bool.beq_eq_decide_eq,AV.d.injEq,D.bool.injEq,D.int.injEq,D.str.injEq,AV.tup.injEq,AV.agg.injEq,List.cons.injEq,true_and,and_true,decide_eq_decide,true_eq_decide_iff,false_eq_decide_iff,decide_eq_true_eq,decide_eq_false_iff_not,Bool.true_eq,Bool.false_eq]
    first
    | exact ⟨fun h'=>⟨by assumption,by omega⟩,fun h'=>by omega⟩
    | exact fun h'=>h'.1 (by assumption)
    | omega
theorem L3 {x y:Int} (hx:Fit x) (hy:Fit y):(x*y).natAbs≤85070591730234615865843651857942052864:=by
 have h:=Tl hx hy
 have:(x.natAbs:Int)*y.natAbs=(x*y).natAbs:=by rw [Int.natAbs_mul]; rfl
 omega
end
section
attribute [local go_sem] HQ wide
theorem AFV {x y:Int} (hx:x.natAbs≤85070591730234615865843651857942052864) (hy:y.natAbs≤85070591730234615865843651857942052864):DataW Try.prog ARP [wide x,wide y] (bv (decide (x<y))):=by
 have h1:=Nb (n:=y) (by unfold E3; omega)
 have h2:=Jy (a:=x) (b:=-y) (by omega) (by omega)
 refine Aj AFy (by simp) ?_
 simp -implicitDefEqProofs -proj only [go_sem,seval]
 (repeat' first
  | ((with_reducible first | refine FG (fun h=>?_) (fun h=>?_) | refine FI (fun h=>?_) (fun h=>?_) | refine FJ (fun h=>?_) (fun h=>?_)) <;> (simp -implicitDefEqProofs -proj only [go_sem,seval, *]; try (revert h; intro _)))
  | ((with_reducible first | refine AI (fun _ hb=>?_) | refine EO (fun _ hb=>?_)); simp only [E8,FK,Af,Heap.none_get,and_true,true_and] at hb; simp -implicitDefEqProofs -proj only [go_sem,seval, *]; try (revert hb; intro _))
  | ((with_reducible first | refine Ed _ rfl (by simp) ?_ | refine En _ rfl (by simp) ?_); simp -implicitDefEqProofs -proj only [go_sem,seval, *])
  | (with_reducible refine Ak ?_ (fun h=>?_); first | ((focus first | decide | omega); try clear h; try simp -implicitDefEqProofs -proj only [go_sem,seval, *]) | (rotate_left; try clear h; try simp -implicitDefEqProofs -proj only [go_sem,seval, *]; rotate_right)))
 refine Eu h1 ?_
 simp -implicitDefEqProofs -proj only [go_sem,seval, *]
 (repeat' first
  | ((with_reducible first | refine FG (fun h=>?_) (fun h=>?_) | refine FI (fun h=>?_) (fun h=>?_) | refine FJ (fun h=>?_) (fun h=>?_)) <;> (simp -implicitDefEqProofs -proj only [go_sem,seval, *]; try (revert h; intro _)))
  | ((with_reducible first | refine AI (fun _ hb=>?_) | refine EO (fun _ hb=>?_)); simp only [E8,FK,Af,Heap.none_get,and_true,true_and] at hb; simp -implicitDefEqProofs -proj only [go_sem,seval, *]; try (revert hb; intro _))
  | ((with_reducible first | refine Ed _ rfl (by simp) ?_ | refine En _ rfl (by simp) ?_); simp -implicitDefEqProofs -proj only [go_sem,seval, *])
  | (with_reducible refine Ak ?_ (fun h=>?_); first | ((focus first | decide | omega); try clear h; try simp -implicitDefEqProofs -proj only [go_sem,seval, *]) | (rotate_left; try clear h; try simp -implicitDefEqProofs -proj only [go_sem,seval, *]; rotate_right)))
 refine Eu h2 ?_
 simp -implicitDefEqProofs -proj only [go_sem,seval, *]
 (repeat' first
  | ((with_reducible first | refine FG (fun h=>?_) (fun h=>?_) | refine FI (fun h=>?_) (fun h=>?_) | refine FJ (fun h=>?_) (fun h=>?_)) <;> (simp -implicitDefEqProofs -proj only [go_sem,seval, *]; try (revert h; intro _)))
  | ((with_reducible first | refine AI (fun _ hb=>?_) | refine EO (fun _ hb=>?_)); simp only [E8,FK,Af,Heap.none_get,and_true,true_and] at hb; simp -implicitDefEqProofs -proj only [go_sem,seval, *]; try (revert hb; intro _))
  | ((with_reducible first | refine Ed _ rfl (by simp) ?_ | refine En _ rfl (by simp) ?_); simp -implicitDefEqProofs -proj only [go_sem,seval, *])
  | (with_reducible refine Ak ?_ (fun h=>?_); first | ((focus first | decide | omega); try clear h; try simp -implicitDefEqProofs -proj only [go_sem,seval, *]) | (rotate_left; try clear h; try simp -implicitDefEqProofs -proj only [go_sem,seval, *]; rotate_right)))
 refine AM ?_
 simp -implicitDefEqProofs only [←decide_not,←Bool.decide_and,←Bool.decide_or,Bool.beq_eq_decide_eq,AV.d.injEq,D.bool.injEq,D.int.injEq,D.str.injEq,AV.tup.injEq,AV.agg.injEq,List.cons.injEq,true_and,and_true,decide_eq_decide,true_eq_decide_iff,false_eq_decide_iff,decide_eq_true_eq,decide_eq_false_iff_not,Bool.true_eq,Bool.false_eq]
 omega
theorem Qy {n c p:Int} (hn:Fit n) (hc:Fit c) (hp:p.natAbs≤85070591730234615865843651857942052864):DataW Try.prog YE [i64 n,i64 c,wide p] (bv (decide (n*c≤p))):=by
 have h1:=Ke hn hc
 have hq:=L3 hn hc
 have h2:=AFV hp hq
 generalize n*c=z at *
 refine Aj ANK (by simp) ?_
 simp -implicitDefEqProofs -proj only [go_sem,seval]
 (repeat' first
  | ((with_reducible first | refine FG (fun h=>?_) (fun h=>?_) | refine FI (fun h=>?_) (fun h=>?_) | refine FJ (fun h=>?_) (fun h=>?_)) <;> (simp -implicitDefEqProofs -proj only [go_sem,seval, *]; try (revert h; intro _)))
  | ((with_reducible first | refine AI (fun _ hb=>?_) | refine EO (fun _ hb=>?_)); simp only [E8,FK,Af,Heap.none_get,and_true,true_and] at hb; simp -implicitDefEqProofs -proj only [go_sem,seval, *]; try (revert hb; intro _))
  | ((with_reducible first | refine Ed _ rfl (by simp) ?_ | refine En _ rfl (by simp) ?_); simp -implicitDefEqProofs -proj only [go_sem,seval, *])
  | (with_reducible refine Ak ?_ (fun h=>?_); first | ((focus first | decide | omega); try clear h; try simp -implicitDefEqProofs -proj only [go_sem,seval, *]) | (rotate_left; try clear h; try simp -implicitDefEqProofs -proj only [go_sem,seval, *]; rotate_right)))
 refine Eu h1 ?_
 simp -implicitDefEqProofs -proj only [go_sem,seval, *]
 (repeat' first
  | (refine AL (h2) ?_; simp -implicitDefEqProofs -proj only [go_sem,seval, *])
  | (refine Eu (h2) ?_; simp -implicitDefEqProofs -proj only [go_sem,seval, *])
  | ((with_reducible first | refine FG (fun h=>?_) (fun h=>?_) | refine FI (fun h=>?_) (fun h=>?_) | refine FJ (fun h=>?_) (fun h=>?_)) <;> (simp -implicitDefEqProofs -proj only [go_sem,seval, *]; try (revert h; intro _)))
  | ((with_reducible first | refine AI (fun _ hb=>?_) | refine EO (fun _ hb=>?_)); simp -implicitDefEqProofs only [E8,FK,Af,Heap.none_get,and_true,true_and] at hb; simp -implicitDefEqProofs -proj only [go_sem,seval, *]; try (revert hb; intro _))
  | ((with_reducible first | refine Ed _ rfl (by simp) ?_ | refine En _ rfl (by simp) ?_); simp -implicitDefEqProofs -proj only [go_sem,seval, *])
  | (with_reducible refine Ak ?_ (fun h=>?_); first | ((focus first | decide | omega); try clear h; try simp -implicitDefEqProofs -proj only [go_sem,seval, *]) | (rotate_left; try clear h; try simp -implicitDefEqProofs -proj only [go_sem,seval, *]; rotate_right)))
 refine AM ?_
 simp -implicitDefEqProofs only [←decide_not,←Bool.decide_and,←Bool.decide_or,Bool.beq_eq_decide_eq,AV.d.injEq,D.bool.injEq,D.int.injEq,D.str.injEq,AV.tup.injEq,AV.agg.injEq,List.cons.injEq,true_and,and_true,decide_eq_decide,true_eq_decide_iff,false_eq_decide_iff,decide_eq_true_eq,decide_eq_false_iff_not,Bool.true_eq,Bool.false_eq]
 omega
def M0 (p c:Int):AV:=if -9223372036854775808*c≤p then .tup [i64 (Iy p c),bv true] else .tup [i64 0,bv false]
theorem RN {p c:Int} (hc:0<c) (h : -9223372036854775808*c≤p):Fit (Iy p c):=by
 have h1:=(SW (p:=p) (n:=-9223372036854775808) hc (by omega)).2 h
 unfold Fit
 refine ⟨h1,?_⟩
 unfold Iy
 split <;> omega
theorem Yu {low P nx:Int} (h:nx=IntKind.i64.wrap (IntKind.u64.wrap (IntKind.u64.wrap low+P))) (hl:Fit low) (hP:1≤P∧P≤9223372036854775808):(low+P≤9223372036854775807→nx=low+P)∧(9223372036854775807<low+P→nx<low):=by
 rw [IntKind.wrap_i64,IntKind.wrap_u64,IntKind.wrap_u64] at h
 unfold Fit at hl
 omega
theorem ZA (j:Nat) (h:0<j) (h2:j≤64):∃P:Int,(2:Int) ^ (j-1)=P∧(2:Int) ^ j=2*P∧1≤P∧P≤9223372036854775808:=by
 refine ⟨_,rfl,?_,?_,?_⟩
 ·conv=>lhs; rw [show j=j-1+1 by omega,Int.pow_succ,Int.mul_comm]
 ·have:=RV (j-1); omega
 ·have:=ASS (show j-1≤63 by omega)
  have e:(2:Int) ^ 63=9223372036854775808:=rfl
  omega
set_option maxRecDepth 20000 in
set_option maxHeartbeats 2000000 in
theorem AUc {p c:Int} (hc0:0<c) (hc:Fit c) (hp:p.natAbs≤85070591730234615865843651857942052864):DataW Try.prog AEG [wide p,i64 c] (M0 p c):=by
 have h1:=Qy (n:=-9223372036854775808) (c:=c) (p:=p) (by decide) hc hp
 refine Aj AFm (by simp) ?_
 by_cases h : -9223372036854775808*c≤p
 ·rw [M0,if_pos h]
  rw [decide_eq_true h] at h1
  simp -implicitDefEqProofs -proj only [go_sem,seval]
  refine AI (fun b hb=>?_)
  simp -implicitDefEqProofs -proj only [go_sem,seval]
  refine AL h1 ?_
  simp -implicitDefEqProofs -proj only [go_sem,seval]
  have hf:=RN hc0 h
  have hle:=fun n hn=>SW (p:=p) (c:=c) (n:=n) hc0 hn
  clear h1 h
  generalize Iy p c=T at *
  refine EN (fun x:Nat×Int=>x.1≤64∧Fit x.2∧x.2≤T∧T<x.2+2 ^ x.1) 39 (fun x=>[(2,.ptr b 0),(1,i64 c),(6,i64 x.2),(7,i64 ((x.1:Int)-1))])
   (fun _=>[(b,.box 111 [bv (decide (p<0)),u64 ((p.natAbs:Int) / 18446744073709551616),u64 ((p.natAbs:Int) % 18446744073709551616)])]) (fun x=>x.1) (64,-9223372036854775808) ⟨by simp -implicitDefEqProofs only [Al]; omega,by decide,by unfold Fit at hf; simp -implicitDefEqProofs only [Ax]; omega,by unfold Fit at hf; simp -implicitDefEqProofs only [Ax,Al]; omega⟩ rfl ?_ ?_ ?_
  ·simp -implicitDefEqProofs -proj only [go_sem,seval,AJ]
  ·simp -implicitDefEqProofs -proj only [go_sem,seval,AZ]
  ·rintro ⟨j,low⟩ ⟨i1,i2,i3,i4⟩
   simp -implicitDefEqProofs only [Al,Ax] at i1 i2 i3 i4
   by_cases hj:0<j
   ·obtain ⟨P,e1,e2,e3,e4⟩:=ZA j hj i1
    have w1:IntKind.u64.wrap ((j:Int)-1)=((j-1:Nat):Int):=by rw [Nm (by omega)]; omega
    have w2:IntKind.u64.wrap P=P:=Nm (by omega)
    have w3:IntKind.i64.wrap ((j:Int)-1-1)=((j-1:Nat):Int)-1:=by rw [IntKind.wrap_i64]; omega
    have hk:j-1≤64:=by omega
    obtain ⟨nx,hnx⟩:∃nx,nx=IntKind.i64.wrap (IntKind.u64.wrap (IntKind.u64.wrap low+P)):=⟨_,rfl⟩
    obtain ⟨n1,n2⟩:=Yu hnx i2 ⟨e3,e4⟩
    have hle2:=hle nx
    simp -implicitDefEqProofs -proj only [go_sem,seval,decide_eq_true (show 0≤(j:Int)-1 by omega),w1,w2,w3,Int.toNat_natCast,hk,e1,Int.one_mul]
    (repeat' (with_reducible refine Ak ?_ (fun h=>?_); (focus first | decide | omega); clear h; try simp -implicitDefEqProofs -proj only [go_sem,seval,w1,w2,w3,Int.toNat_natCast,hk,e1,Int.one_mul,←hnx]))
    by_cases hb2:low+P≤9223372036854775807
    ·have hn:=n1 hb2
     have hu:=Qy (n:=nx) (c:=c) (p:=p) (by unfold Fit at *; omega) hc hp
     simp -implicitDefEqProofs -proj only [go_sem,seval,←hnx,decide_eq_true (show low<nx by omega)]
     refine AL hu ?_
     by_cases hv:nx*c≤p
     ·have:=(hle2 (by omega)).2 hv
      simp -implicitDefEqProofs -proj only [go_sem,seval,←hnx,decide_eq_true hv]
      refine AY (j-1,nx) ⟨by simp -implicitDefEqProofs only [Al]; omega,by unfold Fit at *; simp -implicitDefEqProofs only [Ax]; omega,by simp -implicitDefEqProofs only [Ax]; omega,by simp -implicitDefEqProofs only [Al,Ax]; rw [e1]; omega⟩ (by simp -implicitDefEqProofs only [Al]; omega) rfl ?_ ?_
      ·simp -implicitDefEqProofs -proj only [go_sem,seval,AJ,w3]
      ·simp -implicitDefEqProofs -proj only [go_sem,seval,AZ]
     ·have:¬nx≤T:=fun h=>hv ((hle2 (by omega)).1 h)
      simp -implicitDefEqProofs -proj only [go_sem,seval,←hnx,decide_eq_false hv]
      refine AY (j-1,low) ⟨by simp -implicitDefEqProofs only [Al]; omega,i2,i3,by simp -implicitDefEqProofs only [Al,Ax]; rw [e1]; omega⟩ (by simp -implicitDefEqProofs only [Al]; omega) rfl ?_ ?_
      ·simp -implicitDefEqProofs -proj only [go_sem,seval,AJ,w3]
      ·simp -implicitDefEqProofs -proj only [go_sem,seval,AZ]
    ·have hn:=n2 (by omega)
     simp -implicitDefEqProofs -proj only [go_sem,seval,←hnx,decide_eq_false (show ¬low<nx by omega)]
     refine AY (j-1,low) ⟨by simp -implicitDefEqProofs only [Al]; omega,i2,i3,by unfold Fit at hf; simp -implicitDefEqProofs only [Al,Ax]; rw [e1]; omega⟩ (by simp -implicitDefEqProofs only [Al]; omega) rfl ?_ ?_
     ·simp -implicitDefEqProofs -proj only [go_sem,seval,AJ,w3]
     ·simp -implicitDefEqProofs -proj only [go_sem,seval,AZ]
   ·have hj0:j=0:=by omega
    subst hj0
    have hT:low=T:=by
     have:(2:Int) ^ 0=1:=rfl
     omega
    simp -implicitDefEqProofs -proj only [go_sem,seval]
    exact AM (by rw [hT])
 ·rw [M0,if_neg h]
  rw [decide_eq_false h] at h1
  simp -implicitDefEqProofs -proj only [go_sem,seval]
  refine AI (fun b hb=>?_)
  simp -implicitDefEqProofs -proj only [go_sem,seval]
  refine AL h1 ?_
  simp -implicitDefEqProofs -proj only [go_sem,seval]
  exact AM rfl
def KE (d c m:Int):AV:=if 0≤d∧d<c∧(m=1∨1<m∧2*d≤c) then .tup [i64 (-9223372036854775808),bv true] else .tup [i64 0,bv false]
theorem Pl {d c m n:Int} {u:Bool} (h:(u=true∧n = -9223372036854775808∧(0≤d∧d<c∧(m=1∨1<m∧2*d≤c)))∨(u=false∧n=0∧¬(0≤d∧d<c∧(m=1∨1<m∧2*d≤c)))):AV.tup [i64 n,bv u]=KE d c m:=by
 unfold KE
 rcases h with ⟨rfl,rfl,h⟩ | ⟨rfl,rfl,h⟩
 ·rw [if_pos h]
 ·rw [if_neg h]
set_option maxRecDepth 20000 in
theorem AUL {p c m:Int} (hc0:0<c) (hc:Fit c) (hp:p.natAbs≤85070591730234615865843651857942052864):DataW Try.prog AFR [wide p,i64 c,i64 m] (KE (-9223372036854775808*c-p) c m):=by
 have h1:=Ke (x:=-9223372036854775808) (y:=c) (by decide) hc
 have hq:=L3 (x:=-9223372036854775808) (y:=c) (by decide) hc
 have h2:=Nb (n:=p) (by unfold E3; omega)
 have h3:=Jy (a:=-9223372036854775808*c) (b:=-p) (by omega) (by omega)
 obtain ⟨d,hd⟩:∃d,-9223372036854775808*c + -p=d:=⟨_,rfl⟩
 have hd2 : -9223372036854775808*c-p=d:=by omega
 rw [hd] at h3
 rw [hd2]
 have hd3:d.natAbs<340282366920938463463374607431768211456:=by omega
 have hcw:IntKind.u64.wrap c=c:=Nm (by unfold Fit at hc; omega)
 generalize -9223372036854775808*c=z at *
 clear hd hd2 hq
 refine Aj X3 (by simp) ?_
 simp -implicitDefEqProofs -proj only [go_sem,seval]
 (repeat' first
  | ((with_reducible first | refine FG (fun h=>?_) (fun h=>?_) | refine FI (fun h=>?_) (fun h=>?_) | refine FJ (fun h=>?_) (fun h=>?_)) <;> (simp -implicitDefEqProofs -proj only [go_sem,seval, *]; try (revert h; intro _)))
  | ((with_reducible first | refine AI (fun _ hb=>?_) | refine EO (fun _ hb=>?_)); simp only [E8,FK,Af,Heap.none_get,and_true,true_and] at hb; simp -implicitDefEqProofs -proj only [go_sem,seval, *]; try (revert hb; intro _))
  | ((with_reducible first | refine Ed _ rfl (by simp) ?_ | refine En _ rfl (by simp) ?_); simp -implicitDefEqProofs -proj only [go_sem,seval, *])
  | (with_reducible refine Ak ?_ (fun h=>?_); first | ((focus first | decide | omega); try clear h; try simp -implicitDefEqProofs -proj only [go_sem,seval, *]) | (rotate_left; try clear h; try simp -implicitDefEqProofs -proj only [go_sem,seval, *]; rotate_right)))
 refine Eu h1 ?_
 simp -implicitDefEqProofs -proj only [go_sem,seval, *]
 (repeat' first
  | ((with_reducible first | refine FG (fun h=>?_) (fun h=>?_) | refine FI (fun h=>?_) (fun h=>?_) | refine FJ (fun h=>?_) (fun h=>?_)) <;> (simp -implicitDefEqProofs -proj only [go_sem,seval, *]; try (revert h; intro _)))
  | ((with_reducible first | refine AI (fun _ hb=>?_) | refine EO (fun _ hb=>?_)); simp only [E8,FK,Af,Heap.none_get,and_true,true_and] at hb; simp -implicitDefEqProofs -proj only [go_sem,seval, *]; try (revert hb; intro _))
  | ((with_reducible first | refine Ed _ rfl (by simp) ?_ | refine En _ rfl (by simp) ?_); simp -implicitDefEqProofs -proj only [go_sem,seval, *])
  | (with_reducible refine Ak ?_ (fun h=>?_); first | ((focus first | decide | omega); try clear h; try simp -implicitDefEqProofs -proj only [go_sem,seval, *]) | (rotate_left; try clear h; try simp -implicitDefEqProofs -proj only [go_sem,seval, *]; rotate_right)))
 refine Eu h2 ?_
 simp -implicitDefEqProofs -proj only [go_sem,seval, *]
 (repeat' first
  | ((with_reducible first | refine FG (fun h=>?_) (fun h=>?_) | refine FI (fun h=>?_) (fun h=>?_) | refine FJ (fun h=>?_) (fun h=>?_)) <;> (simp -implicitDefEqProofs -proj only [go_sem,seval, *]; try (revert h; intro _)))
  | ((with_reducible first | refine AI (fun _ hb=>?_) | refine EO (fun _ hb=>?_)); simp only [E8,FK,Af,Heap.none_get,and_true,true_and] at hb; simp -implicitDefEqProofs -proj only [go_sem,seval, *]; try (revert hb; intro _))
  | ((with_reducible first | refine Ed _ rfl (by simp) ?_ | refine En _ rfl (by simp) ?_); simp -implicitDefEqProofs -proj only [go_sem,seval, *])
  | (with_reducible refine Ak ?_ (fun h=>?_); first | ((focus first | decide | omega); try clear h; try simp -implicitDefEqProofs -proj only [go_sem,seval, *]) | (rotate_left; try clear h; try simp -implicitDefEqProofs -proj only [go_sem,seval, *]; rotate_right)))
 refine Eu h3 ?_
 simp -implicitDefEqProofs -proj only [go_sem,seval, *]
 (repeat' first
  | ((with_reducible first | refine FG (fun h=>?_) (fun h=>?_) | refine FI (fun h=>?_) (fun h=>?_) | refine FJ (fun h=>?_) (fun h=>?_)) <;> (simp -implicitDefEqProofs -proj only [go_sem,seval, *]; try (revert h; intro _)))
  | ((with_reducible first | refine AI (fun _ hb=>?_) | refine EO (fun _ hb=>?_)); simp only [E8,FK,Af,Heap.none_get,and_true,true_and] at hb; simp -implicitDefEqProofs -proj only [go_sem,seval, *]; try (revert hb; intro _))
  | ((with_reducible first | refine Ed _ rfl (by simp) ?_ | refine En _ rfl (by simp) ?_); simp -implicitDefEqProofs -proj only [go_sem,seval, *])
  | (with_reducible refine Ak ?_ (fun h=>?_); first | ((focus first | decide | omega); try clear h; try simp -implicitDefEqProofs -proj only [go_sem,seval, *]) | (rotate_left; try clear h; try simp -implicitDefEqProofs -proj only [go_sem,seval, *]; rotate_right)))
 all_goals
  refine AM (Pl ?_)
  clear h1 h2 h3
  try simp -implicitDefEqProofs only [decide_eq_true_eq,decide_eq_false_iff_not,Bool.not_eq_true',Bool.not_eq_false',Bool.and_eq_true,Bool.and_eq_false_iff,Bool.or_eq_true,Bool.or_eq_false_iff,beq_iff_eq,beq_eq_false_iff_ne,ne_eq,decide_eq_decide,Bool.not_eq_true,Bool.not_eq_false,IntKind.wrap_u64] at *
  try simp -implicitDefEqProofs only [←decide_not,←Bool.decide_and,←Bool.decide_or,Bool.beq_eq_decide_eq,AV.d.injEq,D.bool.injEq,D.int.injEq,D.str.injEq,AV.tup.injEq,AV.agg.injEq,List.cons.injEq,true_and,and_true,decide_eq_decide,true_eq_decide_iff,false_eq_decide_iff,decide_eq_true_eq,decide_eq_false_iff_not,Bool.false_eq_true,Bool.true_eq_false,reduceCtorEq,false_and,true_and,or_false,false_or]
  unfold Fit at hc
  try omega
set_option maxRecDepth 20000 in
set_option maxHeartbeats 2000000 in
theorem QN {a b c m:Int} (ha:Fit a) (hb:Fit b) (hc:Fit c):DataW Try.prog AMK [i64 a,i64 b,i64 c,i64 m] (LQ (a*b) c m):=by
 by_cases hh:0<c∧0≤m∧m≤3
 ·obtain ⟨hc0,hm⟩:=hh
  have h1:=Ke ha hb
  have hp:=L3 ha hb
  have h2:=AUc (p:=a*b) hc0 hc hp
  obtain ⟨q,r,d1,d2,d3,d4,d5,hr⟩:=MX (p:=a*b) (c:=c) (m:=m) hc0 hm
  rw [Sd hc0 hm]
  have c1:decide (c≤0)=false:=decide_eq_false (by omega)
  have c2:decide (m<0)=false:=decide_eq_false (by omega)
  have c3:decide (3<m)=false:=decide_eq_false (by omega)
  have hcw:IntKind.u64.wrap c=c:=Nm (by unfold Fit at hc; omega)
  have hE:=AUL (p:=a*b) (c:=c) (m:=m) hc0 hc hp
  generalize a*b=p at *
  refine Aj Rk (by simp) ?_
  by_cases hf : -9223372036854775808*c≤p
  ·have hcf:=RN hc0 hf
   rw [M0,if_pos hf] at h2
   have h3:=Ke hcf hc
   have hq:=L3 hcf hc
   have h4:=Nb (n:=Iy p c*c) (by unfold E3; omega)
   have h5:=Jy (a:=p) (b:=-(Iy p c*c)) (by omega) (by omega)
   have hn:Iy p c=if q≤9223372036854775807 then q else 9223372036854775807:=by rw [Iy,d4]
   obtain ⟨n,hn2⟩:∃n,Iy p c=n:=⟨_,rfl⟩
   rw [hn2] at hn h2 h3 h4 h5 hcf
   obtain ⟨d,hd⟩:∃d,p + -(n*c)=d:=⟨_,rfl⟩
   rw [hd] at h5
   have hd3:d.natAbs<340282366920938463463374607431768211456:=by rw [hn2] at hq; omega
   have key:n=q∧d=r∨n=9223372036854775807∧9223372036854775807<q∧c≤d:=by
    by_cases hqm:q≤9223372036854775807
    ·rw [if_pos hqm] at hn
     subst hn
     left; omega
    ·rw [if_neg hqm] at hn
     right
     refine ⟨hn,by omega,?_⟩
     have:=Int.mul_le_mul_of_nonneg_right (show 9223372036854775807+1≤q by omega) (Int.le_of_lt hc0)
     rw [Int.add_mul,←hn] at this
     omega
   generalize n*c=z at *
   clear hn hd hq hE d1 hf hn2
   clear d4 d5 hp
   simp -implicitDefEqProofs -proj only [go_sem,seval,c1,c2,c3]
   (repeat' first
  | (refine AL (h1) ?_; simp -implicitDefEqProofs -proj only [go_sem,seval, *])
  | (refine Eu (h1) ?_; simp -implicitDefEqProofs -proj only [go_sem,seval, *])
  | (refine AL (h2) ?_; simp -implicitDefEqProofs -proj only [go_sem,seval, *])
  | (refine Eu (h2) ?_; simp -implicitDefEqProofs -proj only [go_sem,seval, *])
  | (refine AL (h3) ?_; simp -implicitDefEqProofs -proj only [go_sem,seval, *])
  | (refine Eu (h3) ?_; simp -implicitDefEqProofs -proj only [go_sem,seval, *])
  | (refine AL (h4) ?_; simp -implicitDefEqProofs -proj only [go_sem,seval, *])
  | (refine Eu (h4) ?_; simp -implicitDefEqProofs -proj only [go_sem,seval, *])
  | (refine AL (h5) ?_; simp -implicitDefEqProofs -proj only [go_sem,seval, *])
  | (refine Eu (h5) ?_; simp -implicitDefEqProofs -proj only [go_sem,seval, *])
  | ((with_reducible first | refine FG (fun h=>?_) (fun h=>?_) | refine FI (fun h=>?_) (fun h=>?_) | refine FJ (fun h=>?_) (fun h=>?_)) <;> (simp -implicitDefEqProofs -proj only [go_sem,seval, *]; try (revert h; intro _)))
  | ((with_reducible first | refine AI (fun _ hb=>?_) | refine EO (fun _ hb=>?_)); simp -implicitDefEqProofs only [E8,FK,Af,Heap.none_get,and_true,true_and] at hb; simp -implicitDefEqProofs -proj only [go_sem,seval, *]; try (revert hb; intro _))
  | ((with_reducible first | refine Ed _ rfl (by simp) ?_ | refine En _ rfl (by simp) ?_); simp -implicitDefEqProofs -proj only [go_sem,seval, *])
  | (with_reducible refine Ak ?_ (fun h=>?_); first | ((focus first | decide | omega); try clear h; try simp -implicitDefEqProofs -proj only [go_sem,seval, *]) | (rotate_left; try clear h; try simp -implicitDefEqProofs -proj only [go_sem,seval, *]; rotate_right)))
   all_goals
    refine AM (PO ?_)
    clear h1 h2 h3 h4 h5
    have ht:n.tmod 2=0↔n % 2=0:=⟨fun h=>Int.emod_eq_zero_of_dvd (Int.dvd_of_tmod_eq_zero h),fun h=>Int.tmod_eq_zero_of_dvd (Int.dvd_of_emod_eq_zero h)⟩
    simp -implicitDefEqProofs only [decide_eq_true_eq,decide_eq_false_iff_not,Bool.not_eq_true',Bool.not_eq_false',Bool.and_eq_true,Bool.and_eq_false_iff,Bool.or_eq_true,Bool.or_eq_false_iff,beq_iff_eq,beq_eq_false_iff_ne,ne_eq,decide_eq_decide,Bool.not_eq_true,Bool.not_eq_false,IntKind.wrap_u64,IntKind.wrap_i64] at *
    simp -implicitDefEqProofs only [Bool.false_eq_true,reduceCtorEq,true_and,false_and,or_false,false_or]
    unfold Iv at hr
    unfold Fit at *
    generalize Fo p c m=R at *
    omega
  ·rw [M0,if_neg hf] at h2
   have h3:=Ke (x:=0) (y:=c) (by decide) hc
   have h4:=Nb (n:=0) (by unfold E3; decide)
   have h5:=Jy (a:=p) (b:=0) (by omega) (by decide)
   rw [Int.zero_mul] at h3
   rw [Int.neg_zero] at h4
   rw [Int.add_zero] at h5
   have hq1:q < -9223372036854775808:=by
    rw [←d4,Int.ediv_lt_iff_lt_mul hc0]; omega
   have hd : -9223372036854775808*c-p=(-9223372036854775808-q)*c-r:=by rw [Int.sub_mul]; omega
   obtain ⟨d,hd2⟩:∃d,-9223372036854775808*c-p=d:=⟨_,rfl⟩
   rw [hd2] at hd hE
   have key:q = -9223372036854775809∧d=c-r∨q < -9223372036854775809∧c<d:=by
    by_cases hqm:q = -9223372036854775809
    ·left; subst hqm; exact ⟨rfl,by omega⟩
    ·right
     have:=Int.mul_le_mul_of_nonneg_right (show 2≤-9223372036854775808-q by omega) (Int.le_of_lt hc0)
     omega
   have res:IR (Fo p c m)=KE d c m:=by
    symm
    by_cases hf:Fit (Fo p c m)
    ·rw [Iq hf]
     symm
     refine Pl ?_
     unfold Fit at hf
     unfold Iv at hr
     generalize Fo p c m=R at *
     simp -implicitDefEqProofs only [Bool.true_eq_false,Bool.false_eq_true,reduceCtorEq,true_and,false_and,or_false,false_or]
     omega
    ·rw [K0 hf]
     symm
     refine Pl ?_
     unfold Fit at hf
     unfold Iv at hr
     generalize Fo p c m=R at *
     simp -implicitDefEqProofs only [Bool.true_eq_false,Bool.false_eq_true,reduceCtorEq,true_and,false_and,or_false,false_or]
     omega
   rw [res]
   have ee:KE d c m = .tup [i64 (-9223372036854775808),bv true]∨KE d c m = .tup [i64 0,bv false]:=by
    unfold KE; split
    ·exact .inl rfl
    ·exact .inr rfl
   generalize KE d c m=R at *
   clear key hd hd2 res d1 d4 d5 hr hf hp
   rcases ee with rfl | rfl
   all_goals
    simp -implicitDefEqProofs -proj only [go_sem,seval,c1,c2,c3]
    (repeat' first
  | (refine AL (h1) ?_; simp -implicitDefEqProofs -proj only [go_sem,seval, *])
  | (refine Eu (h1) ?_; simp -implicitDefEqProofs -proj only [go_sem,seval, *])
  | (refine AL (h2) ?_; simp -implicitDefEqProofs -proj only [go_sem,seval, *])
  | (refine Eu (h2) ?_; simp -implicitDefEqProofs -proj only [go_sem,seval, *])
  | (refine AL (h3) ?_; simp -implicitDefEqProofs -proj only [go_sem,seval, *])
  | (refine Eu (h3) ?_; simp -implicitDefEqProofs -proj only [go_sem,seval, *])
  | (refine AL (h4) ?_; simp -implicitDefEqProofs -proj only [go_sem,seval, *])
  | (refine Eu (h4) ?_; simp -implicitDefEqProofs -proj only [go_sem,seval, *])
  | (refine AL (h5) ?_; simp -implicitDefEqProofs -proj only [go_sem,seval, *])
  | (refine Eu (h5) ?_; simp -implicitDefEqProofs -proj only [go_sem,seval, *])
  | (refine AL (hE) ?_; simp -implicitDefEqProofs -proj only [go_sem,seval, *])
  | (refine Eu (hE) ?_; simp -implicitDefEqProofs -proj only [go_sem,seval, *])
  | ((with_reducible first | refine FG (fun h=>?_) (fun h=>?_) | refine FI (fun h=>?_) (fun h=>?_) | refine FJ (fun h=>?_) (fun h=>?_)) <;> (simp -implicitDefEqProofs -proj only [go_sem,seval, *]; try (revert h; intro _)))
  | ((with_reducible first | refine AI (fun _ hb=>?_) | refine EO (fun _ hb=>?_)); simp -implicitDefEqProofs only [E8,FK,Af,Heap.none_get,and_true,true_and] at hb; simp -implicitDefEqProofs -proj only [go_sem,seval, *]; try (revert hb; intro _))
  | ((with_reducible first | refine Ed _ rfl (by simp) ?_ | refine En _ rfl (by simp) ?_); simp -implicitDefEqProofs -proj only [go_sem,seval, *])
  | (with_reducible refine Ak ?_ (fun h=>?_); first | ((focus first | decide | omega); try clear h; try simp -implicitDefEqProofs -proj only [go_sem,seval, *]) | (rotate_left; try clear h; try simp -implicitDefEqProofs -proj only [go_sem,seval, *]; rotate_right)))
    all_goals exact AM rfl
 ·rw [AIe hh]
  refine Aj Rk (by simp) ?_
  simp -implicitDefEqProofs -proj only [go_sem,seval]
  (repeat' first
  | ((with_reducible first | refine FG (fun h=>?_) (fun h=>?_) | refine FI (fun h=>?_) (fun h=>?_) | refine FJ (fun h=>?_) (fun h=>?_)) <;> (simp -implicitDefEqProofs -proj only [go_sem,seval, *]; try (revert h; intro _)))
  | ((with_reducible first | refine AI (fun _ hb=>?_) | refine EO (fun _ hb=>?_)); simp only [E8,FK,Af,Heap.none_get,and_true,true_and] at hb; simp -implicitDefEqProofs -proj only [go_sem,seval, *]; try (revert hb; intro _))
  | ((with_reducible first | refine Ed _ rfl (by simp) ?_ | refine En _ rfl (by simp) ?_); simp -implicitDefEqProofs -proj only [go_sem,seval, *])
  | (with_reducible refine Ak ?_ (fun h=>?_); first | ((focus first | decide | omega); try clear h; try simp -implicitDefEqProofs -proj only [go_sem,seval, *]) | (rotate_left; try clear h; try simp -implicitDefEqProofs -proj only [go_sem,seval, *]; rotate_right)))
  all_goals first | exact AM rfl | (exfalso; simp -implicitDefEqProofs only [decide_eq_true_eq,decide_eq_false_iff_not,Bool.not_eq_true',Bool.not_eq_false',Bool.and_eq_true,Bool.and_eq_false_iff,Bool.or_eq_true,Bool.or_eq_false_iff,beq_iff_eq,beq_eq_false_iff_ne,ne_eq,decide_eq_decide,Bool.not_eq_true,Bool.not_eq_false] at *; omega)
end
theorem AMa {x:PartX} {q:Int} (hx:x.Fit) (hq:Fit q) (ha:0≤x.al) (hb:1≤x.bl):DataW Try.prog AUO [Jm x,i64 q] (if q<0 then .tup [i64 0,bv false] else IR (Js x q)):=by
 refine Aj AQx (by simp) ?_
 simp -implicitDefEqProofs -proj only [go_sem,seval]
 refine AI (fun b2 hb2=>?_)
 by_cases h:q<0
 ·rw [if_pos h]
  simp -implicitDefEqProofs -proj only [go_sem,seval,decide_eq_true h]
  exact AM rfl
 ·rw [if_neg h]
  have hal:=hx.al
  have hbl:=hx.bl
  unfold Fit at hal hq
  have hw:IntKind.i64.wrap (q-x.al)=q-x.al:=by rw [IntKind.wrap_i64]; omega
  have hf:Fit (Fo (max (q-x.al) 0) x.bl 1):=by
   have:=AEB (a:=max (q-x.al) 0) (c:=x.bl) (m:=1) (by omega) (by decide) (by omega)
   unfold Fit
   omega
  have h1:=QN (a:=max (q-x.al) 0) (b:=1) (c:=x.bl) (m:=1) (by unfold Fit; omega) (by decide) hbl
  rw [Int.mul_one,Sd (by omega) (by decide),Iq hf] at h1
  have h2:=Ke hf hbl
  have h3:=La (n:=Fo (max (q-x.al) 0) x.bl 1*x.bl) (by have:=L3 hf hbl; unfold E3; omega)
  unfold Js
  generalize Fo (max (q-x.al) 0) x.bl 1=k at *
  simp -implicitDefEqProofs -proj only [go_sem,seval,decide_eq_false h,hw]
  refine AL h1 ?_
  simp -implicitDefEqProofs -proj only [go_sem,seval]
  refine AL h2 ?_
  simp -implicitDefEqProofs -proj only [go_sem,seval]
  refine AL h3 ?_
  unfold IR
  simp -implicitDefEqProofs -proj only [go_sem,seval]
  exact AM rfl
theorem Ov {l:List TStep}:∀el∈EY l,∀d∈el,Hi d=true:=by
 intro el he d hd
 obtain ⟨r,_,rfl⟩:=List.mem_map.1 he
 simp -implicitDefEqProofs only [TStep.el,List.mem_cons,List.not_mem_nil,or_false] at hd
 rcases hd with rfl | rfl | rfl <;> rfl
theorem AID {l:List TStep} {i:Nat} (h:i<l.length):(EY l)[((i:Int)).toNat]? = some [.int .i64 l[i].f,.int .i64 l[i].t,.int .i64 l[i].r]:=by
 rw [Int.toNat_natCast]; simp [EY,h,TStep.el]
structure RsX where
 i:Nat
 c:Nat
 cap:Nat
theorem E5 {i c cap:Nat}:(RsX.mk i c cap).i=i:=(rfl)
theorem FB {i c cap:Nat}:(RsX.mk i c cap).c=c:=(rfl)
theorem FD {i c cap:Nat}:(RsX.mk i c cap).cap=cap:=(rfl)
theorem Nd {T:List Tier} {q:Int}:∀i,(refN T q i).length≤i
 | 0=>Nat.le_refl _
 | i+1=>by
  have:=Nd (T:=T) (q:=q) i
  rw [refN]
  split
  ·simp -implicitDefEqProofs only [List.length_append,List.length_singleton]; omega
  ·omega
def Fp (b2:Nat) (x:PartX) (q:Int) (y:RsX):List (Nat×Blk):=BD 162 3 y.c y.cap (EY (refN x.ts q y.i))++[(b2,.box 93 [i64 x.me,i64 x.f,i64 x.t,i64 x.al,i64 x.bl,i64 x.ki,Fc x.ts,i64 x.mo,Fe x.ad])]
set_option maxRecDepth 20000 in
theorem AHc {x:PartX} {q:Int} (hl:x.ts.length≤1000000) (hn0:1≤x.ts.length):NewW Try.prog YW [Jm x,i64 q] (SL (if x.ki=2 then OA x.ts q else O0 x.ts q)):=by
 have hwl:IntKind.i64.wrap ((x.ts.length:Int)-1)=(x.ts.length:Int)-1:=by rw [IntKind.wrap_i64]; omega
 refine Aj AB4 (by simp) ?_
 simp -implicitDefEqProofs -proj only [go_sem,seval]
 refine AI (fun b2 hb2=>?_)
 have c2:=HU (x:=.box 93 [i64 x.me,i64 x.f,i64 x.t,i64 x.al,i64 x.bl,i64 x.ki,Fc x.ts,i64 x.mo,Fe x.ad]) hb2 (l:=[]) trivial
 have n2:=HT (x:=.box 93 [i64 x.me,i64 x.f,i64 x.t,i64 x.al,i64 x.bl,i64 x.ki,Fc x.ts,i64 x.mo,Fe x.ad]) hb2 (l:=[]) trivial List.nodup_nil
 by_cases hk:x.ki=2
 ·rw [if_pos hk]
  simp -implicitDefEqProofs -proj only [go_sem,seval,GH,hwl,decide_eq_true hk]
  refine EN (fun i:Nat=>i≤x.ts.length∧OA x.ts q=Io x.ts q (x.ts.length-i)) 91 (fun i=>[(21,Fc x.ts),(22,i64 x.ts.length),(23,i64 i),(6,i64 ((x.ts.length:Int)-1)),(1,i64 q),(5,.nilsl 0)]) (fun _=>[]) (fun i=>x.ts.length-i) 0 ⟨Nat.zero_le _,rfl⟩ rfl ?_ ?_ ?_
  ·simp -implicitDefEqProofs -proj only [go_sem,seval,AJ]
  ·trivial
  ·rintro i ⟨hi,hv⟩
   by_cases h:i<x.ts.length
   ·have hel:=Kh h
    obtain ⟨n,hn⟩:∃n,x.ts.length-i=n+1:=⟨x.ts.length-i-1,by omega⟩
    have hg:Io x.ts q (n+1)=if n=0∨q≤x.ts[i].u then (if 0<q then [⟨0,q,x.ts[i].r⟩] else []) else Io x.ts q n:=by
     rw [Io,show x.ts.length-(n+1)=i by omega,List.getElem?_eq_getElem h]
    rw [hn,hg] at hv
    generalize x.ts[i]=t at *
    simp -implicitDefEqProofs -proj only [go_sem,seval,decide_eq_true (show (i:Int)<x.ts.length by omega)]
    refine Ag _ (by omega) hel ?_
    simp -implicitDefEqProofs -proj only [go_sem,seval]
    refine AI (fun b8 hb8=>?_)
    replace hb8:Ac [] b8=none:=hb8
    by_cases hn0:n=0
    ·rw [if_pos (show n=0∨q≤t.u from .inl hn0)] at hv
     simp -implicitDefEqProofs -proj only [go_sem,seval,decide_eq_true (show (i:Int)=(x.ts.length:Int)-1 by omega)]
     by_cases hq:0<q
     ·rw [if_pos hq] at hv
      simp -implicitDefEqProofs -proj only [go_sem,seval,decide_eq_true hq]
      refine EO (fun bs hs=>?_)
      simp -implicitDefEqProofs -proj only [go_sem,seval]
      refine FX (xs:=[]) (y:=[.int .i64 0,.int .i64 q,.int .i64 t.r]) (t:=162) (e:=162) (c:=0) (cap:=0) (z0:=0) (capc:=1) [] rfl trivial List.nodup_nil (by simp -implicitDefEqProofs -proj only [go_sem,seval]) (by decide) (by decide) (fun H' c' cap' ha hk=>?_)
      simp -implicitDefEqProofs -proj only [go_sem,seval]
      rw [hv]
      exact KL (z:=3) (xs:=EY [⟨0,q,t.r⟩]) (EQ.1 ha).1 Ov
     ·rw [if_neg hq] at hv
      simp -implicitDefEqProofs -proj only [go_sem,seval,decide_eq_false hq]
      rw [hv]
      exact .nilsl _ _
    ·by_cases hu:q≤t.u
     ·rw [if_pos (show n=0∨q≤t.u from .inr hu)] at hv
      simp -implicitDefEqProofs -proj only [go_sem,seval,decide_eq_false (show ¬(i:Int)=(x.ts.length:Int)-1 by omega),decide_eq_true hu]
      by_cases hq:0<q
      ·rw [if_pos hq] at hv
       simp -implicitDefEqProofs -proj only [go_sem,seval,decide_eq_true hq]
       refine EO (fun bs hs=>?_)
       simp -implicitDefEqProofs -proj only [go_sem,seval]
       refine FX (xs:=[]) (y:=[.int .i64 0,.int .i64 q,.int .i64 t.r]) (t:=162) (e:=162) (c:=0) (cap:=0) (z0:=0) (capc:=1) [] rfl trivial List.nodup_nil (by simp -implicitDefEqProofs -proj only [go_sem,seval]) (by decide) (by decide) (fun H' c' cap' ha hk=>?_)
       simp -implicitDefEqProofs -proj only [go_sem,seval]
       rw [hv]
       exact KL (z:=3) (xs:=EY [⟨0,q,t.r⟩]) (EQ.1 ha).1 Ov
      ·rw [if_neg hq] at hv
       simp -implicitDefEqProofs -proj only [go_sem,seval,decide_eq_false hq]
       rw [hv]
       exact .nilsl _ _
     ·rw [if_neg (show ¬(n=0∨q≤t.u) by omega)] at hv
      simp -implicitDefEqProofs -proj only [go_sem,seval,decide_eq_false (show ¬(i:Int)=(x.ts.length:Int)-1 by omega),decide_eq_false hu]
      refine AY (i+1) ⟨by omega,by rw [hv]; congr 1; omega⟩ (by omega) rfl ?_ trivial
      simp -implicitDefEqProofs -proj only [go_sem,seval,AJ,AU (show i<9223372036854775807 by omega)]
   ·have hi':i=x.ts.length:=by omega
    subst hi'
    rw [Nat.sub_self] at hv
    simp -implicitDefEqProofs -proj only [go_sem,seval,decide_eq_false (show ¬(x.ts.length:Int)<x.ts.length by omega)]
    rw [hv]
    exact .nilsl _ _
 ·rw [if_neg hk]
  simp -implicitDefEqProofs -proj only [go_sem,seval,GH,hwl,decide_eq_false hk]
  refine EN (fun y:RsX=>y.i≤x.ts.length∧(AP (Fp b2 x q y)).Nodup) 91 (fun y=>[(50,Fc x.ts),(51,i64 x.ts.length),(52,i64 y.i),(6,i64 ((x.ts.length:Int)-1)),(1,i64 q),(2,.ptr b2 0),(5,EU 0 3 y.c y.cap (EY (refN x.ts q y.i)))]) (Fp b2 x q) (fun y=>x.ts.length-y.i) ⟨0,0,0⟩ ⟨Nat.zero_le _,n2⟩ rfl ?_ ?_ ?_
  ·simp -implicitDefEqProofs -proj only [go_sem,seval,AJ,E5,FB,FD]
   rfl
  ·simp -implicitDefEqProofs -proj only [go_sem,seval]
   exact c2
  ·rintro ⟨i,c,cap⟩ ⟨hi,hn⟩
   simp -implicitDefEqProofs only [E5] at hi
   have hall:=EV hn
   obtain ⟨H,hH⟩:∃H,Ac (Fp b2 x q ⟨i,c,cap⟩)=H:=⟨_,rfl⟩
   rw [hH] at hall
   simp -implicitDefEqProofs only [Fp,E5,FB,FD] at hall hn
   obtain ⟨hrow,h2,_⟩:=EQ.1 hall
   simp -implicitDefEqProofs -proj only [go_sem,seval,E5,FB,FD,hH]
   by_cases h:i<x.ts.length
   ·have hel:=Kh h
    have hN:=refN.eq_2 x.ts q i
    have hlen:=Nd (T:=x.ts) (q:=q) i
    have hlen1:=Nd (T:=x.ts) (q:=q) (i+1)
    have hu:=LO h
    have hr:=N9 h
    rw [←hu,←hr] at hel
    clear hu hr
    generalize hR:refN x.ts q i=R at *
    generalize hR1:refN x.ts q (i+1)=R1 at *
    have hhi:Ks x.ts q i=if i+1<x.ts.length∧HO x.ts i<q then HO x.ts i else q:=rfl
    generalize Ks x.ts q i=hi' at *
    generalize HO x.ts i=u at *
    generalize J5 x.ts i=r at *
    simp -implicitDefEqProofs -proj only [go_sem,seval,decide_eq_true (show (i:Int)<x.ts.length by omega)]
    refine Ag _ (by omega) hel ?_
    simp -implicitDefEqProofs -proj only [go_sem,seval]
    refine AI (fun b10 hb10=>?_)
    replace hb10:H b10=none:=hb10
    obtain ⟨m1,m2⟩:=AK hb10 h2
    by_cases h0:i=0
    ·have hlow:HJ x.ts i=0:=if_pos h0
     rw [hlow] at hN
     simp -implicitDefEqProofs -proj only [go_sem,seval,m1,h2,decide_eq_false (show ¬0<(i:Int) by omega)]
     by_cases g1:i+1<x.ts.length
     ·by_cases g2:u<q
      ·rw [if_pos ⟨g1,g2⟩] at hhi
       rw [hhi] at hN
       simp -implicitDefEqProofs -proj only [go_sem,seval,m1,h2,decide_eq_true (show (i:Int)<(x.ts.length:Int)-1 by omega),decide_eq_true g2]
       by_cases hem:0<u
       ·rw [if_pos hem] at hN
        simp -implicitDefEqProofs -proj only [go_sem,seval,m1,h2,decide_eq_true hem]
        refine EO (fun bs hs=>?_)
        replace hs:upd H b10 _ bs=none:=hs
        simp -implicitDefEqProofs -proj only [go_sem,seval]
        refine FX (xs:=EY R) (y:=[.int .i64 0,.int .i64 u,.int .i64 r]) (t:=162) (capc:=1) [(b2,.box 93 [i64 x.me,i64 x.f,i64 x.t,i64 x.al,i64 x.bl,i64 x.ki,Fc x.ts,i64 x.mo,Fe x.ad])] rfl (Ap hs (Ap hb10 hall)) hn (by simp -implicitDefEqProofs -proj only [go_sem,seval]) (by rw [IU]; omega) (by rw [IU]; omega) (fun H' c' cap' ha hk=>?_)
        rw [show EY R++[[.int .i64 0,.int .i64 u,.int .i64 r]]=EY R1 by rw [hN]; simp [EY,TStep.el]] at ha hk
        have hne:EY R1≠[]:=by rw [hN]; simp [EY]
        have hl1:(EY R1).length=(EY R).length+1:=by rw [hN]; simp [EY]
        simp -implicitDefEqProofs -proj only [go_sem,seval]
        refine AY ⟨i+1,c',cap'⟩ ⟨by show i+1≤x.ts.length; omega,by simp -implicitDefEqProofs only [Fp,E5,FB,FD,hR1]; exact hk⟩ (by show x.ts.length-(i+1)<x.ts.length-i; omega) rfl ?_ (by simp -implicitDefEqProofs only [Fp,E5,FB,FD,hR1]; exact ha)
        simp -implicitDefEqProofs -proj only [go_sem,seval,AJ,E5,FB,FD,AU (show i<9223372036854775807 by omega),hR1,Eg hne,hl1]
       ·rw [if_neg hem] at hN
        simp -implicitDefEqProofs -proj only [go_sem,seval,m1,h2,decide_eq_false hem]
        refine AY ⟨i+1,c,cap⟩ ⟨by show i+1≤x.ts.length; omega,by simp -implicitDefEqProofs only [Fp,E5,FB,FD,hR1,hN]; exact hn⟩ (by show x.ts.length-(i+1)<x.ts.length-i; omega) rfl ?_ (by simp -implicitDefEqProofs only [Fp,E5,FB,FD,hR1,hN]; exact Ap hb10 hall)
        simp -implicitDefEqProofs -proj only [go_sem,seval,AJ,E5,FB,FD,AU (show i<9223372036854775807 by omega),hR1,hN]
      ·rw [if_neg (fun h=>g2 h.2)] at hhi
       rw [hhi] at hN
       simp -implicitDefEqProofs -proj only [go_sem,seval,m1,h2,decide_eq_true (show (i:Int)<(x.ts.length:Int)-1 by omega),decide_eq_false g2]
       by_cases hem:0<q
       ·rw [if_pos hem] at hN
        simp -implicitDefEqProofs -proj only [go_sem,seval,m1,h2,decide_eq_true hem]
        refine EO (fun bs hs=>?_)
        replace hs:upd H b10 _ bs=none:=hs
        simp -implicitDefEqProofs -proj only [go_sem,seval]
        refine FX (xs:=EY R) (y:=[.int .i64 0,.int .i64 q,.int .i64 r]) (t:=162) (capc:=1) [(b2,.box 93 [i64 x.me,i64 x.f,i64 x.t,i64 x.al,i64 x.bl,i64 x.ki,Fc x.ts,i64 x.mo,Fe x.ad])] rfl (Ap hs (Ap hb10 hall)) hn (by simp -implicitDefEqProofs -proj only [go_sem,seval]) (by rw [IU]; omega) (by rw [IU]; omega) (fun H' c' cap' ha hk=>?_)
        rw [show EY R++[[.int .i64 0,.int .i64 q,.int .i64 r]]=EY R1 by rw [hN]; simp [EY,TStep.el]] at ha hk
        have hne:EY R1≠[]:=by rw [hN]; simp [EY]
        have hl1:(EY R1).length=(EY R).length+1:=by rw [hN]; simp [EY]
        simp -implicitDefEqProofs -proj only [go_sem,seval]
        refine AY ⟨i+1,c',cap'⟩ ⟨by show i+1≤x.ts.length; omega,by simp -implicitDefEqProofs only [Fp,E5,FB,FD,hR1]; exact hk⟩ (by show x.ts.length-(i+1)<x.ts.length-i; omega) rfl ?_ (by simp -implicitDefEqProofs only [Fp,E5,FB,FD,hR1]; exact ha)
        simp -implicitDefEqProofs -proj only [go_sem,seval,AJ,E5,FB,FD,AU (show i<9223372036854775807 by omega),hR1,Eg hne,hl1]
       ·rw [if_neg hem] at hN
        simp -implicitDefEqProofs -proj only [go_sem,seval,m1,h2,decide_eq_false hem]
        refine AY ⟨i+1,c,cap⟩ ⟨by show i+1≤x.ts.length; omega,by simp -implicitDefEqProofs only [Fp,E5,FB,FD,hR1,hN]; exact hn⟩ (by show x.ts.length-(i+1)<x.ts.length-i; omega) rfl ?_ (by simp -implicitDefEqProofs only [Fp,E5,FB,FD,hR1,hN]; exact Ap hb10 hall)
        simp -implicitDefEqProofs -proj only [go_sem,seval,AJ,E5,FB,FD,AU (show i<9223372036854775807 by omega),hR1,hN]
     ·rw [if_neg (fun h=>g1 h.1)] at hhi
      rw [hhi] at hN
      simp -implicitDefEqProofs -proj only [go_sem,seval,m1,h2,decide_eq_false (show ¬(i:Int)<(x.ts.length:Int)-1 by omega)]
      by_cases hem:0<q
      ·rw [if_pos hem] at hN
       simp -implicitDefEqProofs -proj only [go_sem,seval,m1,h2,decide_eq_true hem]
       refine EO (fun bs hs=>?_)
       replace hs:upd H b10 _ bs=none:=hs
       simp -implicitDefEqProofs -proj only [go_sem,seval]
       refine FX (xs:=EY R) (y:=[.int .i64 0,.int .i64 q,.int .i64 r]) (t:=162) (capc:=1) [(b2,.box 93 [i64 x.me,i64 x.f,i64 x.t,i64 x.al,i64 x.bl,i64 x.ki,Fc x.ts,i64 x.mo,Fe x.ad])] rfl (Ap hs (Ap hb10 hall)) hn (by simp -implicitDefEqProofs -proj only [go_sem,seval]) (by rw [IU]; omega) (by rw [IU]; omega) (fun H' c' cap' ha hk=>?_)
       rw [show EY R++[[.int .i64 0,.int .i64 q,.int .i64 r]]=EY R1 by rw [hN]; simp [EY,TStep.el]] at ha hk
       have hne:EY R1≠[]:=by rw [hN]; simp [EY]
       have hl1:(EY R1).length=(EY R).length+1:=by rw [hN]; simp [EY]
       simp -implicitDefEqProofs -proj only [go_sem,seval]
       refine AY ⟨i+1,c',cap'⟩ ⟨by show i+1≤x.ts.length; omega,by simp -implicitDefEqProofs only [Fp,E5,FB,FD,hR1]; exact hk⟩ (by show x.ts.length-(i+1)<x.ts.length-i; omega) rfl ?_ (by simp -implicitDefEqProofs only [Fp,E5,FB,FD,hR1]; exact ha)
       simp -implicitDefEqProofs -proj only [go_sem,seval,AJ,E5,FB,FD,AU (show i<9223372036854775807 by omega),hR1,Eg hne,hl1]
      ·rw [if_neg hem] at hN
       simp -implicitDefEqProofs -proj only [go_sem,seval,m1,h2,decide_eq_false hem]
       refine AY ⟨i+1,c,cap⟩ ⟨by show i+1≤x.ts.length; omega,by simp -implicitDefEqProofs only [Fp,E5,FB,FD,hR1,hN]; exact hn⟩ (by show x.ts.length-(i+1)<x.ts.length-i; omega) rfl ?_ (by simp -implicitDefEqProofs only [Fp,E5,FB,FD,hR1,hN]; exact Ap hb10 hall)
       simp -implicitDefEqProofs -proj only [go_sem,seval,AJ,E5,FB,FD,AU (show i<9223372036854775807 by omega),hR1,hN]
    ·have hep:=Kh (l:=x.ts) (i:=i-1) (by omega)
     have wi:IntKind.i64.wrap ((i:Int)-1)=((i-1:Nat):Int):=by rw [IntKind.wrap_i64]; omega
     have hlow:HJ x.ts i=HO x.ts (i-1):=if_neg h0
     rw [←LO (show i-1<x.ts.length by omega)] at hep
     rw [hlow] at hN
     generalize HO x.ts (i-1)=lo at *
     simp -implicitDefEqProofs -proj only [go_sem,seval,m1,h2,decide_eq_true (show 0<(i:Int) by omega),wi]
     (repeat' (with_reducible refine Ak ?_ (fun h=>?_); (focus first | decide | omega); clear h; try simp -implicitDefEqProofs -proj only [go_sem,seval,wi]))
     refine Ag _ (by omega) hep ?_
     simp -implicitDefEqProofs -proj only [go_sem,seval,m1,h2]
     by_cases g1:i+1<x.ts.length
     ·by_cases g2:u<q
      ·rw [if_pos ⟨g1,g2⟩] at hhi
       rw [hhi] at hN
       simp -implicitDefEqProofs -proj only [go_sem,seval,m1,h2,decide_eq_true (show (i:Int)<(x.ts.length:Int)-1 by omega),decide_eq_true g2]
       by_cases hem:lo<u
       ·rw [if_pos hem] at hN
        simp -implicitDefEqProofs -proj only [go_sem,seval,m1,h2,decide_eq_true hem]
        refine EO (fun bs hs=>?_)
        replace hs:upd H b10 _ bs=none:=hs
        simp -implicitDefEqProofs -proj only [go_sem,seval]
        refine FX (xs:=EY R) (y:=[.int .i64 lo,.int .i64 u,.int .i64 r]) (t:=162) (capc:=1) [(b2,.box 93 [i64 x.me,i64 x.f,i64 x.t,i64 x.al,i64 x.bl,i64 x.ki,Fc x.ts,i64 x.mo,Fe x.ad])] rfl (Ap hs (Ap hb10 hall)) hn (by simp -implicitDefEqProofs -proj only [go_sem,seval]) (by rw [IU]; omega) (by rw [IU]; omega) (fun H' c' cap' ha hk=>?_)
        rw [show EY R++[[.int .i64 lo,.int .i64 u,.int .i64 r]]=EY R1 by rw [hN]; simp [EY,TStep.el]] at ha hk
        have hne:EY R1≠[]:=by rw [hN]; simp [EY]
        have hl1:(EY R1).length=(EY R).length+1:=by rw [hN]; simp [EY]
        simp -implicitDefEqProofs -proj only [go_sem,seval]
        refine AY ⟨i+1,c',cap'⟩ ⟨by show i+1≤x.ts.length; omega,by simp -implicitDefEqProofs only [Fp,E5,FB,FD,hR1]; exact hk⟩ (by show x.ts.length-(i+1)<x.ts.length-i; omega) rfl ?_ (by simp -implicitDefEqProofs only [Fp,E5,FB,FD,hR1]; exact ha)
        simp -implicitDefEqProofs -proj only [go_sem,seval,AJ,E5,FB,FD,AU (show i<9223372036854775807 by omega),hR1,Eg hne,hl1]
       ·rw [if_neg hem] at hN
        simp -implicitDefEqProofs -proj only [go_sem,seval,m1,h2,decide_eq_false hem]
        refine AY ⟨i+1,c,cap⟩ ⟨by show i+1≤x.ts.length; omega,by simp -implicitDefEqProofs only [Fp,E5,FB,FD,hR1,hN]; exact hn⟩ (by show x.ts.length-(i+1)<x.ts.length-i; omega) rfl ?_ (by simp -implicitDefEqProofs only [Fp,E5,FB,FD,hR1,hN]; exact Ap hb10 hall)
        simp -implicitDefEqProofs -proj only [go_sem,seval,AJ,E5,FB,FD,AU (show i<9223372036854775807 by omega),hR1,hN]
      ·rw [if_neg (fun h=>g2 h.2)] at hhi
       rw [hhi] at hN
       simp -implicitDefEqProofs -proj only [go_sem,seval,m1,h2,decide_eq_true (show (i:Int)<(x.ts.length:Int)-1 by omega),decide_eq_false g2]
       by_cases hem:lo<q
       ·rw [if_pos hem] at hN
        simp -implicitDefEqProofs -proj only [go_sem,seval,m1,h2,decide_eq_true hem]
        refine EO (fun bs hs=>?_)
        replace hs:upd H b10 _ bs=none:=hs
        simp -implicitDefEqProofs -proj only [go_sem,seval]
        refine FX (xs:=EY R) (y:=[.int .i64 lo,.int .i64 q,.int .i64 r]) (t:=162) (capc:=1) [(b2,.box 93 [i64 x.me,i64 x.f,i64 x.t,i64 x.al,i64 x.bl,i64 x.ki,Fc x.ts,i64 x.mo,Fe x.ad])] rfl (Ap hs (Ap hb10 hall)) hn (by simp -implicitDefEqProofs -proj only [go_sem,seval]) (by rw [IU]; omega) (by rw [IU]; omega) (fun H' c' cap' ha hk=>?_)
        rw [show EY R++[[.int .i64 lo,.int .i64 q,.int .i64 r]]=EY R1 by rw [hN]; simp [EY,TStep.el]] at ha hk
        have hne:EY R1≠[]:=by rw [hN]; simp [EY]
        have hl1:(EY R1).length=(EY R).length+1:=by rw [hN]; simp [EY]
        simp -implicitDefEqProofs -proj only [go_sem,seval]
        refine AY ⟨i+1,c',cap'⟩ ⟨by show i+1≤x.ts.length; omega,by simp -implicitDefEqProofs only [Fp,E5,FB,FD,hR1]; exact hk⟩ (by show x.ts.length-(i+1)<x.ts.length-i; omega) rfl ?_ (by simp -implicitDefEqProofs only [Fp,E5,FB,FD,hR1]; exact ha)
        simp -implicitDefEqProofs -proj only [go_sem,seval,AJ,E5,FB,FD,AU (show i<9223372036854775807 by omega),hR1,Eg hne,hl1]
       ·rw [if_neg hem] at hN
        simp -implicitDefEqProofs -proj only [go_sem,seval,m1,h2,decide_eq_false hem]
        refine AY ⟨i+1,c,cap⟩ ⟨by show i+1≤x.ts.length; omega,by simp -implicitDefEqProofs only [Fp,E5,FB,FD,hR1,hN]; exact hn⟩ (by show x.ts.length-(i+1)<x.ts.length-i; omega) rfl ?_ (by simp -implicitDefEqProofs only [Fp,E5,FB,FD,hR1,hN]; exact Ap hb10 hall)
        simp -implicitDefEqProofs -proj only [go_sem,seval,AJ,E5,FB,FD,AU (show i<9223372036854775807 by omega),hR1,hN]
     ·rw [if_neg (fun h=>g1 h.1)] at hhi
      rw [hhi] at hN
      simp -implicitDefEqProofs -proj only [go_sem,seval,m1,h2,decide_eq_false (show ¬(i:Int)<(x.ts.length:Int)-1 by omega)]
      by_cases hem:lo<q
      ·rw [if_pos hem] at hN
       simp -implicitDefEqProofs -proj only [go_sem,seval,m1,h2,decide_eq_true hem]
       refine EO (fun bs hs=>?_)
       replace hs:upd H b10 _ bs=none:=hs
       simp -implicitDefEqProofs -proj only [go_sem,seval]
       refine FX (xs:=EY R) (y:=[.int .i64 lo,.int .i64 q,.int .i64 r]) (t:=162) (capc:=1) [(b2,.box 93 [i64 x.me,i64 x.f,i64 x.t,i64 x.al,i64 x.bl,i64 x.ki,Fc x.ts,i64 x.mo,Fe x.ad])] rfl (Ap hs (Ap hb10 hall)) hn (by simp -implicitDefEqProofs -proj only [go_sem,seval]) (by rw [IU]; omega) (by rw [IU]; omega) (fun H' c' cap' ha hk=>?_)
       rw [show EY R++[[.int .i64 lo,.int .i64 q,.int .i64 r]]=EY R1 by rw [hN]; simp [EY,TStep.el]] at ha hk
       have hne:EY R1≠[]:=by rw [hN]; simp [EY]
       have hl1:(EY R1).length=(EY R).length+1:=by rw [hN]; simp [EY]
       simp -implicitDefEqProofs -proj only [go_sem,seval]
       refine AY ⟨i+1,c',cap'⟩ ⟨by show i+1≤x.ts.length; omega,by simp -implicitDefEqProofs only [Fp,E5,FB,FD,hR1]; exact hk⟩ (by show x.ts.length-(i+1)<x.ts.length-i; omega) rfl ?_ (by simp -implicitDefEqProofs only [Fp,E5,FB,FD,hR1]; exact ha)
       simp -implicitDefEqProofs -proj only [go_sem,seval,AJ,E5,FB,FD,AU (show i<9223372036854775807 by omega),hR1,Eg hne,hl1]
      ·rw [if_neg hem] at hN
       simp -implicitDefEqProofs -proj only [go_sem,seval,m1,h2,decide_eq_false hem]
       refine AY ⟨i+1,c,cap⟩ ⟨by show i+1≤x.ts.length; omega,by simp -implicitDefEqProofs only [Fp,E5,FB,FD,hR1,hN]; exact hn⟩ (by show x.ts.length-(i+1)<x.ts.length-i; omega) rfl ?_ (by simp -implicitDefEqProofs only [Fp,E5,FB,FD,hR1,hN]; exact Ap hb10 hall)
       simp -implicitDefEqProofs -proj only [go_sem,seval,AJ,E5,FB,FD,AU (show i<9223372036854775807 by omega),hR1,hN]
   ·have hi':i=x.ts.length:=by omega
    subst hi'
    simp -implicitDefEqProofs -proj only [go_sem,seval,decide_eq_false (show ¬(x.ts.length:Int)<x.ts.length by omega)]
    exact KL hrow Ov
def Kj (a:Adj) (x:Int):Option Int :=
 if a.k=1 then Jz (x*a.n) 100000 a.m
 else if a.k=2 then some (min x a.n)
 else if a.k=3 then some (max x a.n)
 else if a.k=4 then Km (x+a.n)
 else none
def JA:Int→List Adj→Option Int
 | x,[]=>some x
 | x,a::l=>match Kj a x with
  | some y=>JA y l
  | none=>none
theorem Ot {n y:Int} (h:Km n=some y):Fit y∧y=n:=by
 unfold Km at h; split at h
 ·next hf=>cases h; exact ⟨hf,rfl⟩
 ·cases h
theorem Q9 {p c m y:Int} (h:Jz p c m=some y):Fit y∧y=Fo p c m∧0<c∧0≤m∧m≤3:=by
 unfold Jz at h; split at h
 ·next hh=>exact ⟨(Ot h).1,(Ot h).2,hh⟩
 ·cases h
theorem Ts {a:Adj} {x y:Int} (ha:a.Fit) (hx:Fit x) (h:Kj a x=some y):Fit y:=by
 unfold Kj at h
 obtain ⟨_,hn,_⟩:=ha
 split at h
 ·exact (Q9 h).1
 split at h
 ·cases h; unfold Fit at *; omega
 split at h
 ·cases h; unfold Fit at *; omega
 split at h
 ·exact (Ot h).1
 ·cases h
theorem Nh {n:Int} (h:n.natAbs≤85070591730234615865843651857942052864):E3 n.natAbs:=⟨by omega,by omega⟩
theorem AB5 {s:TStep} {a:Int} (h1:Fit (s.r*(s.t-s.f))) (h2:Fit (a+s.r*(s.t-s.f))):M1 s a=some (a+s.r*(s.t-s.f)):=if_pos ⟨h1,h2⟩
theorem So {s:TStep} {a:Int} (h:¬(Fit (s.r*(s.t-s.f))∧Fit (a+s.r*(s.t-s.f)))):M1 s a=none:=if_neg h
theorem AAR {x:PartX} {n:Int} (S:Srt x.ts):(if x.ki=2 then OA x.ts n else O0 x.ts n)=Ja x n:=by
 unfold Ja
 split
 ·rfl
 ·exact (PK S).symm
theorem RM {T:List Tier} {q:Int}:∀i,(Io T q i).length≤1
 | 0=>by simp [Io]
 | i+1=>by
  have:=RM (T:=T) (q:=q) i
  rw [Io]
  repeat' split
  all_goals first | omega | simp
theorem AML {x:PartX} {n:Int} (S:Srt x.ts) (h:1≤x.ts.length):(Ja x n).length≤x.ts.length:=by
 unfold Ja
 split
 ·have:=RM (T:=x.ts) (q:=n) x.ts.length
  exact Nat.le_trans this h
 ·rw [PK S]
  exact Nd x.ts.length
theorem AH9 {x:PartX} {q:Int} (hx:x.Fit) (hq:Fit q) (G:GoodX x) (S:Srt x.ts):DataW Try.prog AHd [Jm x,i64 q] (Es (Lq x q)):=by
 have hleft:=AMa hx hq G.al.1 G.bl.1
 have htn:=G.tn
 unfold Lq
 rw [show Fo (max (q-x.al) 0) x.bl 1*x.bl=Js x q from rfl]
 refine Aj ALk (by simp) ?_
 simp -implicitDefEqProofs -proj only [go_sem,seval]
 refine AI (fun b2 hb2=>?_)
 simp -implicitDefEqProofs -proj only [go_sem,seval]
 refine AL hleft ?_
 by_cases h0:q<0
 ·rw [if_pos h0,if_pos h0,Es]
  simp -implicitDefEqProofs -proj only [go_sem,seval]
  exact AM rfl
 rw [if_neg h0,if_neg h0]
 by_cases hf:Fit (Js x q)
 rotate_left
 ·rw [K0 hf,if_neg hf,Es]
  simp -implicitDefEqProofs -proj only [go_sem,seval]
  exact AM rfl
 rw [Iq hf,if_pos hf]
 have hst:=(AHc (x:=x) (q:=Js x q) (by omega) htn.1).data
 rw [AAR S] at hst
 have hln:=AML (n:=Js x q) S htn.1
 have hsf:=AJM (n:=Js x q) S hf
 generalize Ja x (Js x q)=L at *
 simp -implicitDefEqProofs -proj only [go_sem,seval]
 refine AL hst ?_
 simp -implicitDefEqProofs -proj only [go_sem,seval,IU]
 refine EN (fun p:Nat×Int=>p.1≤L.length∧Fit p.2∧KK (L.drop p.1) p.2=KK L 0) 61 (fun p=>[(8,i64 p.2),(25,SL L),(26,i64 L.length),(27,i64 p.1)]) (fun _=>[]) (fun p=>L.length-p.1) (0,0) ⟨Nat.zero_le _,by decide,rfl⟩ rfl ?_ ?_ ?_
 ·simp -implicitDefEqProofs -proj only [go_sem,seval,AJ]
 ·trivial
 ·rintro ⟨i,a⟩ ⟨hi,ha,hs⟩
  rw [Al] at hi; rw [Ax] at ha; rw [Al,Ax] at hs
  by_cases h:i<L.length
  ·have hel:=AID h
   obtain ⟨f1,f2,f3,f4⟩:=hsf _ (List.getElem_mem h)
   rw [List.drop_eq_getElem_cons h,KK] at hs
   generalize L[i]=s at *
   have w1:IntKind.i64.wrap (s.t-s.f)=s.t-s.f:=by unfold Fit at f4; rw [IntKind.wrap_i64]; omega
   have hmul:=Ke f3 f4
   have hps:=L3 f3 f4
   have hint:=La (n:=s.r*(s.t-s.f)) (Nh hps)
   have hofa:=Hp ha
   simp -implicitDefEqProofs -proj only [go_sem,seval,decide_eq_true (show (i:Int)<L.length by omega)]
   refine Ag _ (by omega) hel ?_
   simp -implicitDefEqProofs -proj only [go_sem,seval]
   refine AI (fun b10 hb10=>?_)
   simp -implicitDefEqProofs -proj only [go_sem,seval,w1]
   refine AL hmul ?_
   simp -implicitDefEqProofs -proj only [go_sem,seval]
   refine AL hint ?_
   by_cases c1:Fit (s.r*(s.t-s.f))
   ·have hofp:=Hp c1
    have hadd:=Jy (a:=a) (b:=s.r*(s.t-s.f)) (by unfold Fit at ha; omega) (by omega)
    have hint2:=La (n:=a+s.r*(s.t-s.f)) (Nh (by unfold Fit at ha c1; omega))
    rw [Iq c1]
    simp -implicitDefEqProofs -proj only [go_sem,seval]
    refine AL hofa ?_
    simp -implicitDefEqProofs -proj only [go_sem,seval]
    refine AL hofp ?_
    simp -implicitDefEqProofs -proj only [go_sem,seval]
    refine AL hadd ?_
    simp -implicitDefEqProofs -proj only [go_sem,seval]
    refine AL hint2 ?_
    by_cases c2:Fit (a+s.r*(s.t-s.f))
    ·rw [AB5 c1 c2] at hs
     simp -implicitDefEqProofs only [] at hs
     rw [Iq c2]
     simp -implicitDefEqProofs -proj only [go_sem,seval]
     refine AY (i+1,a+s.r*(s.t-s.f)) ⟨by rw [Al]; omega,c2,hs⟩ (by rw [Al,Al]; omega) rfl ?_ trivial
     simp -implicitDefEqProofs -proj only [go_sem,seval,AJ,AU (show i<9223372036854775807 by omega)]
    ·rw [So (fun k=>c2 k.2)] at hs
     simp -implicitDefEqProofs only [] at hs
     rw [K0 c2,←hs,Es]
     simp -implicitDefEqProofs -proj only [go_sem,seval]
     exact AM rfl
   ·have hofp:=Hp (a:=0) (by decide)
    have hadd:=Jy (a:=a) (b:=0) (by unfold Fit at ha; omega) (by decide)
    rw [Int.add_zero] at hadd
    have hint2:=La (n:=a) (Nh (by unfold Fit at ha; omega))
    rw [Iq ha] at hint2
    rw [So (fun k=>c1 k.1)] at hs
    simp -implicitDefEqProofs only [] at hs
    rw [K0 c1,←hs,Es]
    simp -implicitDefEqProofs -proj only [go_sem,seval]
    refine AL hofa ?_
    simp -implicitDefEqProofs -proj only [go_sem,seval]
    refine AL hofp ?_
    simp -implicitDefEqProofs -proj only [go_sem,seval]
    refine AL hadd ?_
    simp -implicitDefEqProofs -proj only [go_sem,seval]
    refine AL hint2 ?_
    simp -implicitDefEqProofs -proj only [go_sem,seval]
    exact AM rfl
  ·have hi':i=L.length:=by omega
   subst hi'
   rw [List.drop_length] at hs
   simp -implicitDefEqProofs -proj only [go_sem,seval,decide_eq_false (show ¬(L.length:Int)<L.length by omega)]
   rw [←hs,KK,Es]
   exact AM rfl
theorem AUB {x:PartX} {q:Int} (hx:x.Fit) (hq:Fit q) (G:GoodX x) (S:Srt x.ts):DataW Try.prog AP9 [Jm x,i64 q] (Es (K7 x q)):=by
 have hm:=AH9 hx hq G S
 have hf:=fun n=>@ANn x q n
 unfold K7
 refine Aj AJw (by simp) ?_
 simp -implicitDefEqProofs -proj only [go_sem,seval]
 refine AI (fun b2 hb2=>?_)
 simp -implicitDefEqProofs -proj only [go_sem,seval]
 refine AL hm ?_
 cases e:Lq x q with
 | none =>
  simp -implicitDefEqProofs -proj only [go_sem,seval,Es]
  exact AM rfl
 | some n =>
  have hd:=QN (a:=n) (b:=1) (c:=1000000) (m:=x.mo) (hf n e) (by decide) (by decide)
  rw [Int.mul_one,TK] at hd
  simp -implicitDefEqProofs only []
  simp -implicitDefEqProofs -proj only [go_sem,seval,Es]
  refine AL hd ?_
  cases Jz n 1000000 x.mo with
  | none=>simp -implicitDefEqProofs -proj only [go_sem,seval,Es]; exact AM rfl
  | some m=>simp -implicitDefEqProofs -proj only [go_sem,seval,Es]; exact AM rfl
theorem APC {a:Adj} {x:Int} (ha:a.Fit) (hx:Fit x):DataW Try.prog AHM [.agg [i64 a.k,i64 a.n,i64 a.m],i64 x] (Es (Kj a x)):=by
 obtain ⟨k,n,m⟩:=a
 obtain ⟨hk,hn,hm⟩:=ha
 simp -implicitDefEqProofs only [] at hk hn hm
 have h1:=QN (a:=x) (b:=n) (c:=100000) (m:=m) hx hn (by decide)
 rw [TK] at h1
 have hofx:=Hp hx
 have hofn:=Hp hn
 have hadd:=Jy (a:=x) (b:=n) (by unfold Fit at hx; omega) (by unfold Fit at hn; omega)
 have hint:=La (n:=x+n) (Nh (by unfold Fit at hx hn; omega))
 rw [QZ] at hint
 unfold Kj
 simp -implicitDefEqProofs only []
 refine Aj AMV (by simp) ?_
 simp -implicitDefEqProofs -proj only [go_sem,seval]
 refine AI (fun b2 hb2=>?_)
 by_cases c1:k=1
 ·rw [if_pos c1]
  simp -implicitDefEqProofs -proj only [go_sem,seval,decide_eq_true c1]
  refine AL h1 ?_
  cases Jz (x*n) 100000 m with
  | none=>simp -implicitDefEqProofs -proj only [go_sem,seval,Es]; exact AM rfl
  | some m=>simp -implicitDefEqProofs -proj only [go_sem,seval,Es]; exact AM rfl
 rw [if_neg c1]
 by_cases c2:k=2
 ·rw [if_pos c2,Es]
  by_cases d:n<x
  ·rw [show min x n=n by omega]
   simp -implicitDefEqProofs -proj only [go_sem,seval,decide_eq_false c1,decide_eq_true c2,decide_eq_true d]
   exact AM rfl
  ·rw [show min x n=x by omega]
   simp -implicitDefEqProofs -proj only [go_sem,seval,decide_eq_false c1,decide_eq_true c2,decide_eq_false d,show (false == true)=false from rfl]
   exact AM rfl
 rw [if_neg c2]
 by_cases c3:k=3
 ·rw [if_pos c3,Es]
  by_cases d:n<x
  ·rw [show max x n=x by omega]
   simp -implicitDefEqProofs -proj only [go_sem,seval,decide_eq_false c1,decide_eq_false c2,decide_eq_true c3,decide_eq_true d,show (true == false)=false from rfl]
   exact AM rfl
  ·rw [show max x n=n by omega]
   simp -implicitDefEqProofs -proj only [go_sem,seval,decide_eq_false c1,decide_eq_false c2,decide_eq_true c3,decide_eq_false d]
   exact AM rfl
 rw [if_neg c3]
 by_cases c4:k=4
 ·rw [if_pos c4]
  simp -implicitDefEqProofs -proj only [go_sem,seval,decide_eq_false c1,decide_eq_false c2,decide_eq_false c3,decide_eq_true c4]
  refine Eu hofx ?_
  simp -implicitDefEqProofs -proj only [go_sem,seval]
  refine AL hofn ?_
  simp -implicitDefEqProofs -proj only [go_sem,seval]
  refine AL hadd ?_
  simp -implicitDefEqProofs -proj only [go_sem,seval]
  refine AL hint ?_
  cases Km (x+n) with
  | none=>simp -implicitDefEqProofs -proj only [go_sem,seval,Es]; exact AM rfl
  | some m=>simp -implicitDefEqProofs -proj only [go_sem,seval,Es]; exact AM rfl
 rw [if_neg c4,Es]
 simp -implicitDefEqProofs -proj only [go_sem,seval,decide_eq_false c1,decide_eq_false c2,decide_eq_false c3,decide_eq_false c4]
 exact AM rfl
theorem ANw {l:List Adj} {x:Int} (hl:∀a∈l,Adj.Fit a) (hx:Fit x) (hn:l.length≤4611686018427387904):DataW Try.prog X4 [i64 x,Fe l] (Es (JA x l)):=by
 refine Aj AUH (by simp) ?_
 simp -implicitDefEqProofs -proj only [go_sem,seval,I9]
 refine EN (fun p:Nat×Int=>p.1≤l.length∧Fit p.2∧JA p.2 (l.drop p.1)=JA x l) 27 (fun p=>[(0,i64 p.2),(10,Fe l),(11,i64 l.length),(12,i64 p.1)]) (fun _=>[]) (fun p=>l.length-p.1) (0,x) ⟨Nat.zero_le _,hx,rfl⟩ rfl ?_ ?_ ?_
 ·simp -implicitDefEqProofs -proj only [go_sem,seval,AJ]
 ·trivial
 ·rintro ⟨i,a⟩ ⟨hi,ha,hs⟩
  rw [Al] at hi; rw [Ax] at ha; rw [Al,Ax] at hs
  by_cases h:i<l.length
  ·have hel:=QU h
   have hfit:=hl _ (List.getElem_mem h)
   rw [List.drop_eq_getElem_cons h,JA] at hs
   generalize l[i]=s at *
   have hone:=APC hfit ha
   simp -implicitDefEqProofs -proj only [go_sem,seval,decide_eq_true (show (i:Int)<l.length by omega)]
   refine Ag _ (by omega) hel ?_
   simp -implicitDefEqProofs -proj only [go_sem,seval]
   refine AI (fun b7 hb7=>?_)
   simp -implicitDefEqProofs -proj only [go_sem,seval]
   refine AL hone ?_
   cases e:Kj s a with
   | none =>
    rw [e] at hs
    simp -implicitDefEqProofs only [] at hs
    rw [←hs,Es]
    simp -implicitDefEqProofs -proj only [go_sem,seval,Es]
    exact AM rfl
   | some y =>
    rw [e] at hs
    simp -implicitDefEqProofs only [] at hs
    simp -implicitDefEqProofs -proj only [go_sem,seval,Es]
    refine AY (i+1,y) ⟨by rw [Al]; omega,Ts hfit ha e,hs⟩ (by rw [Al,Al]; omega) rfl ?_ trivial
    simp -implicitDefEqProofs -proj only [go_sem,seval,AJ,AU (show i<9223372036854775807 by omega)]
  ·have hi':i=l.length:=by omega
   subst hi'
   rw [List.drop_length] at hs
   simp -implicitDefEqProofs -proj only [go_sem,seval,decide_eq_false (show ¬(l.length:Int)<l.length by omega)]
   rw [←hs,JA,Es]
   exact AM rfl
def Hw (x:PartX) (q:Int):Option Int:=match K7 x q with
 | some n=>JA n x.ad
 | none=>none
theorem Ry {x:PartX} {q n:Int} (h:K7 x q=some n):Fit n:=by
 unfold K7 at h
 split at h
 ·exact (Q9 h).1
 ·cases h
theorem NV {x:PartX} {q:Int} (hx:x.Fit) (hq:Fit q) (G:GoodX x) (S:Srt x.ts):DataW Try.prog AJF [Jm x,i64 q] (Es (Hw x q)):=by
 have hc:=AUB hx hq G S
 unfold Hw
 refine Aj AOz (by simp) ?_
 simp -implicitDefEqProofs -proj only [go_sem,seval]
 refine AI (fun b2 hb2=>?_)
 simp -implicitDefEqProofs -proj only [go_sem,seval]
 refine AL hc ?_
 cases e:K7 x q with
 | none =>
  simp -implicitDefEqProofs -proj only [go_sem,seval,Es]
  exact AM rfl
 | some n =>
  have ha:=ANw (l:=x.ad) (x:=n) hx.ad (Ry e) (by have:=G.an; omega)
  simp -implicitDefEqProofs only []
  simp -implicitDefEqProofs -proj only [go_sem,seval,Es]
  refine AL ha ?_
  cases JA n x.ad with
  | none=>simp -implicitDefEqProofs -proj only [go_sem,seval,Es]; exact AM rfl
  | some m=>simp -implicitDefEqProofs -proj only [go_sem,seval,Es]; exact AM rfl
def GP {α:Type} (p : α→Bool) (l:List α):Int:=match l.findIdx? p with
 | some i=>i
 | none=>-1
theorem Qd {α:Type} {p : α→Bool} {l:List α} {i:Nat} (h:i<l.length) (hp:p l[i]=true) (hs:∀(j:Nat) (h:j<l.length),j<i→p l[j]=false):GP p l=i:=by
 unfold GP
 rw [List.findIdx?_eq_some_iff_getElem.2 ⟨h,hp,fun j hj=>by rw [hs j (by omega) hj]; simp⟩]
theorem Rl {α:Type} {p : α→Bool} {l:List α} (hs:∀(j:Nat) (h:j<l.length),p l[j]=false):GP p l = -1:=by
 unfold GP
 rw [List.findIdx?_eq_none_iff.2 fun x hx=>by obtain ⟨j,hj,rfl⟩:=List.getElem_of_mem hx; exact hs j hj]
theorem TJ {α:Type} {p : α→Bool} {l:List α}:decide (0≤GP p l)=l.any p:=by
 unfold GP
 cases h:l.findIdx? p with
 | some i =>
  obtain ⟨h1,h2,_⟩:=List.findIdx?_eq_some_iff_getElem.1 h
  rw [List.any_eq_true.2 ⟨_,List.getElem_mem h1,h2⟩]
  exact decide_eq_true (show (0:Int)≤(i:Int) by omega)
 | none =>
  have:=List.findIdx?_eq_none_iff.1 h
  rw [List.any_eq_false.2 (fun x hx=>by rw [this x hx]; simp)]
  exact decide_eq_false (show ¬(0:Int)≤-1 by omega)
abbrev Ea (c:CoreX):Blk:=.box 26 [.d (.str c.cur),i64 c.f,i64 c.t,.d (.sl 5 (AX c.ms)),.d (.sl 3 (GL c.ss)),.d (.sl 9 (Fw c.ps))]
def Ij (n:Int):List Int→Option Int
 | []=>some n
 | x::l=>if Fit (n+x) then Ij (n+x) l else none
theorem Xv {l:List Int} (hl:Jb l) (hn:l.length≤4611686018427387904):DataW Try.prog WQ [Fu l] (Es (Ij 0 l)):=by
 refine Aj ARz (by simp) ?_
 simp -implicitDefEqProofs -proj only [go_sem,seval,Ei]
 refine EN (fun p:Nat×Int=>p.1≤l.length∧Fit p.2∧Ij p.2 (l.drop p.1)=Ij 0 l) 29 (fun p=>[(9,Fu l),(10,i64 l.length),(11,i64 p.1),(4,i64 p.2)]) (fun _=>[]) (fun p=>l.length-p.1) (0,0) ⟨by omega,by decide,by rw [List.drop_zero]⟩ rfl ?_ ?_ ?_
 ·simp -implicitDefEqProofs -proj only [go_sem,seval,AJ]
 ·trivial
 ·rintro ⟨i,n⟩ ⟨hi,hf,hs⟩
  rw [Al] at hi; rw [Ax] at hf; rw [Al,Ax] at hs
  by_cases h:i<l.length
  ·have hx:=hl i h
   have hc:=Lo h
   rw [List.drop_eq_getElem_cons h] at hs
   generalize l[i]=x at *
   simp -implicitDefEqProofs -proj only [go_sem,seval,decide_eq_true (show (i:Int)<l.length by omega)]
   refine Ag _ (by omega) hc ?_
   simp -implicitDefEqProofs -proj only [go_sem,seval,hc]
   refine AL (Hp hf) ?_
   simp -implicitDefEqProofs -proj only [go_sem,seval]
   refine AL (Hp hx) ?_
   simp -implicitDefEqProofs -proj only [go_sem,seval]
   refine AL (Jy (by unfold Fit at hf; omega) (by unfold Fit at hx; omega)) ?_
   simp -implicitDefEqProofs -proj only [go_sem,seval]
   refine AL (La (by unfold E3; unfold Fit at hf hx; omega)) ?_
   rw [Ij] at hs
   by_cases hf2:Fit (n+x)
   ·rw [if_pos hf2] at hs; rw [Iq hf2]
    simp -implicitDefEqProofs -proj only [go_sem,seval]
    refine AY (i+1,n+x) ⟨by rw [Al]; omega,hf2,by rw [Al,Ax]; exact hs⟩ (by rw [Al,Al]; omega) rfl ?_ trivial
    simp -implicitDefEqProofs -proj only [go_sem,seval,AJ,AU (show i<9223372036854775807 by omega)]
   ·rw [if_neg hf2] at hs; rw [K0 hf2]
    simp -implicitDefEqProofs -proj only [go_sem,seval,←hs,Es]
    exact AM rfl
  ·have hi':i=l.length:=by omega
   subst hi'
   rw [List.drop_length] at hs
   simp -implicitDefEqProofs -proj only [go_sem,seval,decide_eq_false (show ¬(l.length:Int)<l.length by omega)]
   rw [←hs,Ij,Es]
   exact AM rfl
theorem Ox {f t:Int} {n:Nat} {x:PartX} (h:IS f t n x):GoodX x:=by
 obtain ⟨⟨g1,g2,g3,g4,g5,g6,g7,g8,g9,g10⟩,h2,h3⟩:=h
 exact ⟨g4,g5,g6,g7,⟨g8,g9⟩,g10,h2,h3⟩
def FQ (d f t:Int):Prop:=f≤d∧d≤t
instance (d f t:Int):Decidable (FQ d f t):=by unfold FQ; exact inferInstance
def HR (ss:List SumX) (d:Int):Nat→List Int
 | 0=>[]
 | i+1=>match ss[i]? with
  | some s=>if FQ d s.f s.t then HR ss d i++[s.a] else HR ss d i
  | none=>HR ss d i
def bq (b:List Int) (m:Int):Int:=b.getD m.toNat 0
def GE (ss:List SumX) (ps:List PartX) (d:Int) (b:List Int):Nat→Option (List Int)
 | 0=>some (HR ss d ss.length)
 | i+1=>match GE ss ps d b i,ps[i]? with
  | some l,some x=>if FQ d x.f x.t then (match Hw x (bq b x.me) with
   | some n=>some (l++[n])
   | none=>none) else some l
  | some l,none=>some l
  | none,_=>none
def NT (c:CoreX) (d:Int) (b:List Int):Option (List Int):=GE c.ss c.ps d b c.ps.length
def Jp (c:CoreX) (b:List Int):Prop:=b.length=c.ms.length∧∀(i:Nat) (h:i<b.length) (h2:i<c.ms.length),0≤b[i]∧b[i]≤(c.ms[i]).mx
noncomputable instance (c:CoreX) (b:List Int):Decidable (Jp c b):=Classical.propDecidable _
structure IX where
 i:Nat
 c:Nat
 cap:Nat
 l:List Int
theorem Ge {i c cap:Nat} {l:List Int}:(IX.mk i c cap l).i=i:=(rfl)
theorem GB {i c cap:Nat} {l:List Int}:(IX.mk i c cap l).c=c:=(rfl)
theorem F3 {i c cap:Nat} {l:List Int}:(IX.mk i c cap l).cap=cap:=(rfl)
theorem Fd {i c cap:Nat} {l:List Int}:(IX.mk i c cap l).l=l:=(rfl)
def GX (b3:Nat) (x:CoreX) (y:IX):List (Nat×Blk):=BD 3 1 y.c y.cap (Ad y.l)++[(b3,Ea x)]
theorem UG {l:List Int} {x:Int}:Ad l++[[.int .i64 x]]=Ad (l++[x]):=by simp [Ad]
theorem Om {ss:List SumX} {d:Int}:∀i,(HR ss d i).length≤i
 | 0=>by simp [HR]
 | i+1=>by
  have:=Om (ss:=ss) (d:=d) i
  rw [HR]
  split
  ·split
   ·rw [List.length_append,List.length_singleton]; omega
   ·omega
  ·omega
theorem Q8 {ss:List SumX} {ps:List PartX} {d:Int} {b:List Int}:∀i l,GE ss ps d b i=some l→l.length≤ss.length+i
 | 0,l,h=>by
  have:=Om (ss:=ss) (d:=d) ss.length
  rw [GE] at h
  cases h
  omega
 | i+1,l,h=>by
  rw [GE] at h
  cases e:GE ss ps d b i with
  | none=>rw [e] at h; cases h
  | some m =>
   have:=Q8 i m e
   rw [e] at h
   cases e2:ps[i]? with
   | none=>rw [e2] at h; cases h; omega
   | some x =>
    rw [e2] at h
    simp -implicitDefEqProofs only [] at h
    split at h
    ·split at h
     ·cases h; rw [List.length_append,List.length_singleton]; omega
     ·cases h
    ·cases h; omega
theorem R9 {ss:List SumX} {ps:List PartX} {d:Int} {b:List Int} {i:Nat} (h:GE ss ps d b i=none):∀k,GE ss ps d b (i+k)=none
 | 0=>h
 | k+1=>by
  rw [←Nat.add_assoc,GE,R9 h k]
theorem AGr {ss:List SumX} {ps:List PartX} {d:Int} {b:List Int} {i:Nat} (hi:i<ps.length) (h:GE ss ps d b (i+1)=none):GE ss ps d b ps.length=none:=by
 have:=R9 h (ps.length-(i+1))
 rwa [show i+1+(ps.length-(i+1))=ps.length by omega] at this
theorem Ze {l:List Int} (h:∀v∈l,Fit v):Jb l:=fun i hi=>h _ (List.getElem_mem hi)
theorem ABj {l:List Adj}:∀{x n:Int},(∀a∈l,a.Fit)→Fit x→JA x l=some n→Fit n:=by
 induction l with
 | nil=>intro x n _ hx h; cases h; exact hx
 | cons a l ih =>
  intro x n hl hx h
  rw [JA] at h
  cases e:Kj a x with
  | none=>rw [e] at h; cases h
  | some y =>
   rw [e] at h
   exact ih (fun b hb=>hl b (List.mem_cons_of_mem _ hb)) (Ts (hl a (List.mem_cons_self ..)) hx e) h
theorem AIR {x:PartX} {q n:Int} (hx:x.Fit) (h:Hw x q=some n):Fit n:=by
 unfold Hw at h
 cases e:K7 x q with
 | none=>rw [e] at h; cases h
 | some m =>
  rw [e] at h
  exact ABj hx.ad (Ry e) h
theorem N0 {ss:List SumX} {d:Int} (hs:∀s∈ss,s.Fit):∀i,∀v∈HR ss d i,Fit v
 | 0,v,h=>by cases h
 | i+1,v,h=>by
  rw [HR] at h
  cases e:ss[i]? with
  | none=>rw [e] at h; exact N0 hs i v h
  | some s =>
   rw [e] at h
   simp -implicitDefEqProofs only [] at h
   split at h
   ·rcases List.mem_append.1 h with h | h
    ·exact N0 hs i v h
    ·rw [List.mem_singleton] at h
     subst h
     exact (hs s (List.mem_of_getElem? e)).1
   ·exact N0 hs i v h
theorem RA {ss:List SumX} {ps:List PartX} {d:Int} {b:List Int} (hs:∀s∈ss,s.Fit) (hp:∀x∈ps,x.Fit):∀i l,GE ss ps d b i=some l→∀v∈l,Fit v
 | 0,l,h,v,hv=>by
  rw [GE] at h
  cases h
  exact N0 hs _ v hv
 | i+1,l,h,v,hv=>by
  rw [GE] at h
  cases e:GE ss ps d b i with
  | none=>rw [e] at h; cases h
  | some m =>
   have ih:=RA hs hp i m e
   rw [e] at h
   cases e2:ps[i]? with
   | none=>rw [e2] at h; cases h; exact ih v hv
   | some x =>
    rw [e2] at h
    simp -implicitDefEqProofs only [] at h
    split at h
    ·cases e3:Hw x (bq b x.me) with
     | none=>rw [e3] at h; cases h
     | some n =>
      rw [e3] at h
      cases h
      rcases List.mem_append.1 hv with h | h
      ·exact ih v h
      ·rw [List.mem_singleton] at h
       subst h
       exact AIR (hp x (List.mem_of_getElem? e2)) e3
    ·cases h; exact ih v hv
theorem AHh {c:CoreX} {d:Int} {b l:List Int} (hc:c.Fit) (hg:goodC c) (h:NT c d b=some l):∀v∈l,Fit v:=RA hc.ss hc.ps _ l h
set_option maxRecDepth 20000 in
theorem ABn {c:CoreX} {d:Int} {b:List Int} (hc:c.Fit) (hg:goodC c) (hb:Jp c b):DataW Try.prog SD [F9 c,i64 d,Fu b] (match NT c d b with | some l=>(match Ij 0 l with | some n=>.tup [i64 n,i64 0] | none=>.tup [i64 0,i64 2]) | none=>.tup [i64 0,i64 2]):=by
 obtain ⟨⟨a1,a2⟩,⟨a3,a4⟩,a5,a6,a7,a8⟩:=hg.hd
 have hmx:=hg.ms
 have hfit:=fun l h=>AHh (b:=b) (d:=d) (l:=l) hc hg h
 have hps:=hg.ps
 have hfp:=hc.ps
 obtain ⟨hb1,hb2⟩:=hb
 obtain ⟨cur,f,t,ms,ss,ps⟩:=c
 simp -implicitDefEqProofs only [] at a1 a2 a3 a4 a5 a6 a7 a8 hmx hps hfp hb1 hb2
 unfold NT at hfit ⊢
 simp -implicitDefEqProofs only [] at hfit ⊢
 refine Aj AF2 (by simp) ?_
 simp -implicitDefEqProofs -proj only [go_sem,seval]
 refine AI (fun b3 hb3=>?_)
 simp -implicitDefEqProofs -proj only [go_sem,seval,HW]
 refine EN (fun y:IX=>y.i≤ss.length∧y.l=HR ss d y.i∧(AP (GX b3 ⟨cur,f,t,ms,ss,ps⟩ y)).Nodup) 82 (fun y=>[(1,i64 d),(2,Fu b),(3,.ptr b3 0),(8,EU 0 1 y.c y.cap (Ad y.l)),(18,.d (.sl 3 (GL ss))),(19,i64 ss.length),(20,i64 y.i)]) (GX b3 ⟨cur,f,t,ms,ss,ps⟩) (fun y=>ss.length-y.i) ⟨0,0,0,[]⟩ ⟨Nat.zero_le _,rfl,by simp [AP,GX,Fd,Ad,BD]⟩ rfl ?_ ?_ ?_
 ·simp -implicitDefEqProofs -proj only [go_sem,seval,AJ,Ge,Fd]
  try rfl
 ·simp -implicitDefEqProofs only [GX,Fd,Ad,List.map_nil,J9,List.nil_append]
  exact ⟨AN,trivial⟩
 ·rintro ⟨i,c1,cap,l⟩ ⟨hi,hl,hn⟩
  simp -implicitDefEqProofs only [Ge,Fd] at hi hl
  have hall:=EV hn
  obtain ⟨H,hH⟩:∃H,Ac (GX b3 ⟨cur,f,t,ms,ss,ps⟩ ⟨i,c1,cap,l⟩)=H:=⟨_,rfl⟩
  rw [hH] at hall
  simp -implicitDefEqProofs only [GX,GB,F3,Fd] at hall hn
  obtain ⟨hrow,k3,_⟩:=EQ.1 hall
  have hll:l.length≤i:=by rw [hl]; exact Om i
  by_cases h:i<ss.length
  ·have hel:=Mn h
   have hstep:HR ss d (i+1)=if FQ d ss[i].f ss[i].t then l++[ss[i].a] else l:=by rw [HR,List.getElem?_eq_getElem h,←hl]
   generalize ss[i]=s at *
   simp -implicitDefEqProofs -proj only [go_sem,seval,Ge,GB,F3,Fd,hH,decide_eq_true (show (i:Int)<ss.length by omega)]
   refine Ag _ (by omega) hel ?_
   simp -implicitDefEqProofs -proj only [go_sem,seval]
   refine AI (fun b10 hb10=>?_)
   replace hb10:H b10=none:=hb10
   obtain ⟨p1,p2⟩:=AK hb10 k3
   by_cases c2:FQ d s.f s.t
   ·rw [if_pos c2] at hstep
    simp -implicitDefEqProofs -proj only [go_sem,seval,decide_eq_true c2.1,decide_eq_true c2.2]
    refine EO (fun bs hs=>?_)
    replace hs:upd H b10 _ bs=none:=hs
    simp -implicitDefEqProofs -proj only [go_sem,seval]
    refine FX (xs:=Ad l) (y:=[.int .i64 s.a]) (t:=3) (capc:=1) [(b3,Ea ⟨cur,f,t,ms,ss,ps⟩)] rfl (Ap hs (Ap hb10 hall)) hn (by simp -implicitDefEqProofs -proj only [go_sem,seval]; try rfl) (by rw [Ei]; omega) (by rw [Ei]; omega) (fun H' c2 cap2 ha hk=>?_)
    rw [UG] at ha hk
    have hne:Ad (l++[s.a])≠[]:=by simp [Ad]
    simp -implicitDefEqProofs -proj only [go_sem,seval,Ei]
    refine AY ⟨i+1,c2,cap2,l++[s.a]⟩ ⟨by rw [Ge]; omega,hstep.symm,by simpa only [GX,GB,F3,Fd] using hk⟩ (by show ss.length-(i+1)<ss.length-i; omega) rfl ?_ (by simpa only [GX,GB,F3,Fd] using ha)
    simp -implicitDefEqProofs -proj only [go_sem,seval,AJ,Ge,GB,F3,Fd,Eg hne,Ei,List.length_append,AU (show i<9223372036854775807 by omega)]
   ·rw [if_neg c2] at hstep
    by_cases w1:s.f≤d
    rotate_left
    ·simp -implicitDefEqProofs -proj only [go_sem,seval,decide_eq_false w1]
     refine AY ⟨i+1,c1,cap,l⟩ ⟨by rw [Ge]; omega,hstep.symm,by simpa only [GX,GB,F3,Fd] using hn⟩ (by show ss.length-(i+1)<ss.length-i; omega) rfl ?_ (by simpa only [GX,GB,F3,Fd] using Ap hb10 hall)
     simp -implicitDefEqProofs -proj only [go_sem,seval,AJ,Ge,GB,F3,Fd,AU (show i<9223372036854775807 by omega)]
    ·simp -implicitDefEqProofs -proj only [go_sem,seval,decide_eq_true w1,decide_eq_false (fun k=>c2 ⟨w1,k⟩)]
     refine AY ⟨i+1,c1,cap,l⟩ ⟨by rw [Ge]; omega,hstep.symm,by simpa only [GX,GB,F3,Fd] using hn⟩ (by show ss.length-(i+1)<ss.length-i; omega) rfl ?_ (by simpa only [GX,GB,F3,Fd] using Ap hb10 hall)
     simp -implicitDefEqProofs -proj only [go_sem,seval,AJ,Ge,GB,F3,Fd,AU (show i<9223372036854775807 by omega)]
  ·have hi':i=ss.length:=by omega
   subst hi'
   simp -implicitDefEqProofs -proj only [go_sem,seval,Ge,GB,F3,Fd,hH,k3,HG,decide_eq_false (show ¬(ss.length:Int)<ss.length by omega)]
   refine EN (fun y:IX=>y.i≤ps.length∧GE ss ps d b y.i=some y.l∧(AP (GX b3 ⟨cur,f,t,ms,ss,ps⟩ y)).Nodup) 82 (fun y=>[(1,i64 d),(2,Fu b),(8,EU 0 1 y.c y.cap (Ad y.l)),(41,.d (.sl 9 (Fw ps))),(42,i64 ps.length),(43,i64 y.i)]) (GX b3 ⟨cur,f,t,ms,ss,ps⟩) (fun y=>ps.length-y.i) ⟨0,c1,cap,l⟩ ⟨Nat.zero_le _,by rw [GE]; exact congrArg some hl.symm,hn⟩ rfl ?_ ?_ ?_
   ·simp -implicitDefEqProofs -proj only [go_sem,seval,AJ,Ge,GB,F3,Fd]
   ·exact hall
   ·rintro ⟨i,c1,cap,l⟩ ⟨hi,hl,hn⟩
    simp -implicitDefEqProofs only [Ge,Fd] at hi hl
    have hall:=EV hn
    obtain ⟨H,hH⟩:∃H,Ac (GX b3 ⟨cur,f,t,ms,ss,ps⟩ ⟨i,c1,cap,l⟩)=H:=⟨_,rfl⟩
    rw [hH] at hall
    simp -implicitDefEqProofs only [GX,GB,F3,Fd] at hall hn
    obtain ⟨hrow,k3,_⟩:=EQ.1 hall
    have hll:=Q8 i l hl
    by_cases h:i<ps.length
    ·have hel:=L2 h
     have hok:=hps _ (List.getElem_mem h)
     have hfx:=hfp _ (List.getElem_mem h)
     have hstep:GE ss ps d b (i+1)=if FQ d ps[i].f ps[i].t then (match Hw ps[i] (bq b ps[i].me) with | some n=>some (l++[n]) | none=>none) else some l:=by (rw [GE,hl,List.getElem?_eq_getElem h]; try rfl)
     have hfail:=fun e=>AGr (ss:=ss) (ps:=ps) (d:=d) (b:=b) h e
     obtain ⟨m1,m2⟩:=(show 0≤ps[i].me∧ps[i].me<(ms.length:Int) from ⟨hok.1.1,hok.1.2.1⟩)
     have hqb:(ps[i].me).toNat<b.length:=by omega
     have hq:bq b ps[i].me=b[(ps[i].me).toNat]:=by unfold bq; rw [List.getD_eq_getElem?_getD,List.getElem?_eq_getElem hqb,Option.getD_some]
     have hq2:=hb2 _ hqb (by omega)
     have hmxx:=hmx (ps[i].me).toNat (by omega)
     have helq:(Ad b)[(ps[i].me).toNat]? = some [.int .i64 (bq b ps[i].me)]:=by rw [hq]; exact Kp (List.getElem?_eq_getElem hqb)
     have hfq:Fit (bq b ps[i].me):=by rw [hq]; have:=hmxx.1; unfold Fit; omega
     have G:=Ox hok
     have hcall:=NV hfx hfq G (NU G.ts)
     clear hq hq2 hmxx hok G
     generalize bq b ps[i].me=qq at *
     generalize ps[i]=x at *
     simp -implicitDefEqProofs -proj only [go_sem,seval,Ge,GB,F3,Fd,hH,decide_eq_true (show (i:Int)<ps.length by omega)]
     refine Ag _ (by omega) hel ?_
     simp -implicitDefEqProofs -proj only [go_sem,seval]
     refine AI (fun b12 hb12=>?_)
     replace hb12:H b12=none:=hb12
     obtain ⟨p1,p2⟩:=AK hb12 k3
     by_cases c2:FQ d x.f x.t
     rotate_left
     ·rw [if_neg c2] at hstep
      by_cases w1:x.f≤d
      rotate_left
      ·simp -implicitDefEqProofs -proj only [go_sem,seval,decide_eq_false w1]
       refine AY ⟨i+1,c1,cap,l⟩ ⟨by rw [Ge]; omega,hstep,by simpa only [GX,GB,F3,Fd] using hn⟩ (by show ps.length-(i+1)<ps.length-i; omega) rfl ?_ (by simpa only [GX,GB,F3,Fd] using Ap hb12 hall)
       simp -implicitDefEqProofs -proj only [go_sem,seval,AJ,Ge,GB,F3,Fd,AU (show i<9223372036854775807 by omega)]
      ·simp -implicitDefEqProofs -proj only [go_sem,seval,decide_eq_true w1,decide_eq_false (fun k=>c2 ⟨w1,k⟩)]
       refine AY ⟨i+1,c1,cap,l⟩ ⟨by rw [Ge]; omega,hstep,by simpa only [GX,GB,F3,Fd] using hn⟩ (by show ps.length-(i+1)<ps.length-i; omega) rfl ?_ (by simpa only [GX,GB,F3,Fd] using Ap hb12 hall)
       simp -implicitDefEqProofs -proj only [go_sem,seval,AJ,Ge,GB,F3,Fd,AU (show i<9223372036854775807 by omega)]
     rw [if_pos c2] at hstep
     simp -implicitDefEqProofs -proj only [go_sem,seval,decide_eq_true c2.1,decide_eq_true c2.2]
     refine Ag _ m1 helq ?_
     simp -implicitDefEqProofs -proj only [go_sem,seval]
     refine AL hcall ?_
     cases e:Hw x qq with
     | none =>
      rw [e] at hstep
      simp -implicitDefEqProofs only [] at hstep
      rw [hfail hstep]
      simp -implicitDefEqProofs -proj only [go_sem,seval,Es]
      exact AM rfl
     | some n =>
      rw [e] at hstep
      simp -implicitDefEqProofs only [] at hstep
      simp -implicitDefEqProofs -proj only [go_sem,seval,Es]
      refine EO (fun bs hs=>?_)
      replace hs:upd H b12 _ bs=none:=hs
      simp -implicitDefEqProofs -proj only [go_sem,seval]
      refine FX (xs:=Ad l) (y:=[.int .i64 n]) (t:=3) (capc:=1) [(b3,Ea ⟨cur,f,t,ms,ss,ps⟩)] rfl (Ap hs (Ap hb12 hall)) hn (by simp -implicitDefEqProofs -proj only [go_sem,seval]; try rfl) (by rw [Ei]; omega) (by rw [Ei]; omega) (fun H' c2 cap2 ha hk=>?_)
      rw [UG] at ha hk
      have hne:Ad (l++[n])≠[]:=by simp [Ad]
      simp -implicitDefEqProofs -proj only [go_sem,seval,Ei]
      refine AY ⟨i+1,c2,cap2,l++[n]⟩ ⟨by rw [Ge]; omega,hstep,by simpa only [GX,GB,F3,Fd] using hk⟩ (by show ps.length-(i+1)<ps.length-i; omega) rfl ?_ (by simpa only [GX,GB,F3,Fd] using ha)
      simp -implicitDefEqProofs -proj only [go_sem,seval,AJ,Ge,GB,F3,Fd,Eg hne,Ei,List.length_append,AU (show i<9223372036854775807 by omega)]
    ·have hi':i=ps.length:=by omega
     subst hi'
     rw [hl]
     have hsum:=Xv (l:=l) (Ze (hfit l hl)) (by omega)
     rw [←hH] at hrow
     cases e:Ij 0 l with
     | none =>
      rw [e,Es] at hsum
      simp -implicitDefEqProofs only [e]
      simp -implicitDefEqProofs -proj only [go_sem,seval,Ge,GB,F3,Fd,decide_eq_false (show ¬(ps.length:Int)<ps.length by omega)]
      refine QS hsum (GA (Id hrow) Hl) rfl ?_
      simp -implicitDefEqProofs -proj only [go_sem,seval]
      exact AM rfl
     | some n =>
      rw [e,Es] at hsum
      simp -implicitDefEqProofs only [e]
      simp -implicitDefEqProofs -proj only [go_sem,seval,Ge,GB,F3,Fd,decide_eq_false (show ¬(ps.length:Int)<ps.length by omega)]
      refine QS hsum (GA (Id hrow) Hl) rfl ?_
      simp -implicitDefEqProofs -proj only [go_sem,seval]
      exact AM rfl
def sg (g:Nat→Int):Nat→Int
 | 0=>0
 | n+1=>sg g n+g n
theorem HH {g h:Nat→Int}:∀{n:Nat},(∀i,i<n→g i=h i)→sg g n=sg h n
 | 0,_=>rfl
 | n+1,k=>by rw [sg,sg,HH (fun i hi=>k i (by omega)),k n (by omega)]
theorem Kk {g h:Nat→Int}:∀{n:Nat},(∀i,i<n→g i≤h i)→sg g n≤sg h n
 | 0,_=>Int.le_refl _
 | n+1,k=>by
  have:=Kk (n:=n) (fun i hi=>k i (by omega))
  have:=k n (by omega)
  rw [sg,sg]; omega
theorem Qg {g:Nat→Int}:∀n:Nat,sg (fun i=>- g i) n = - sg g n
 | 0=>rfl
 | n+1=>by rw [sg,sg,Qg n]; omega
theorem KU {g:Nat→Int}:∀{n:Nat},(∀i,i<n→0≤g i)→0≤sg g n
 | 0,_=>Int.le_refl _
 | n+1,k=>by
  have:=KU (n:=n) (fun i hi=>k i (by omega))
  have:=k n (by omega)
  rw [sg]; omega
theorem AA0 {g h:Nat→Int} {n:Nat} (k:∀i,i<n→-h i≤g i∧g i≤h i) : -sg h n≤sg g n∧sg g n≤sg h n:=by
 refine ⟨?_,Kk fun i hi=>(k i hi).2⟩
 rw [←Qg]
 exact Kk fun i hi=>(k i hi).1
theorem M2 {g h:Nat→Int}:∀n:Nat,sg (fun i=>g i+h i) n=sg g n+sg h n
 | 0=>rfl
 | n+1=>by rw [sg,sg,sg,M2 n]; omega
theorem Lv:∀n:Nat,sg (fun _=>0) n=0
 | 0=>rfl
 | n+1=>by rw [sg,Lv n]; rfl
theorem N7 {g:Nat→Nat→Int} {n:Nat}:∀m:Nat,sg (fun i=>sg (g i) m) n=sg (fun j=>sg (fun i=>g i j) n) m
 | 0=>by simp -implicitDefEqProofs only [sg,Lv]
 | m+1=>by
  have:sg (fun i=>sg (g i) (m+1)) n=sg (fun i=>sg (g i) m+g i m) n:=HH fun i _=>by rw [sg]
  rw [this,M2,N7 m,sg]
theorem OB {v:Int} {k:Nat}:∀{n:Nat},sg (fun i=>if i=k then v else 0) n=if k<n then v else 0
 | 0=>rfl
 | n+1=>by
  rw [sg,OB]
  by_cases h:k<n
  ·rw [if_pos h,if_neg (by omega),if_pos (by omega)]; omega
  ·rw [if_neg h]
   by_cases e:n=k
   ·rw [if_pos e,if_pos (by omega)]; omega
   ·rw [if_neg e,if_neg (by omega)]; omega
def pv (x:PartX) (q:Int):Int:=(Hw x q).getD 0
def G6 (ss:List SumX) (d:Int) (j:Nat):Int:=match ss[j]? with
 | some s=>if FQ d s.f s.t then s.a else 0
 | none=>0
def FR (ps:List PartX) (d:Int) (m j:Nat):Int:=match ps[j]? with
 | some x=>if x.me=m∧FQ d x.f x.t then pv x 0 else 0
 | none=>0
def GG (ps:List PartX) (d:Int) (m:Nat) (q:Int) (j:Nat):Int:=match ps[j]? with
 | some x=>if x.me=m∧FQ d x.f x.t then pv x q-pv x 0 else 0
 | none=>0
def GF (c:CoreX) (d:Int):Int:=sg (G6 c.ss d) c.ss.length
def Fi (c:CoreX) (d:Int) (m:Nat):Int:=sg (FR c.ps d m) c.ps.length
def Ir (c:CoreX) (d:Int):Int:=GF c d+sg (Fi c d) c.ms.length
def HV (c:CoreX) (d:Int) (m:Nat) (q:Int):Int:=sg (GG c.ps d m q) c.ps.length
def Hq (c:CoreX) (d:Int) (m:Nat) (mx:Int):List Int:=(List.range (mx+1).toNat).map fun (q:Nat)=>HV c d m q
def Eb (c:CoreX) (d:Int) (k:Nat):List (List Int):=(List.range k).map fun m=>Hq c d m (match c.ms[m]? with | some x=>x.mx | none=>0)
abbrev D4:Type:=Int×List (List Int)
def Eo (c:CoreX) (d:Int):D4:=(Ir c d,Eb c d c.ms.length)
def HX (x:PartX):Nat→Int
 | 0=>0
 | n+1=>max (HX x n) (pv x n)
theorem Qq {x:PartX}:∀n,0≤HX x n
 | 0=>Int.le_refl _
 | n+1=>by have:=Qq (x:=x) n; rw [HX]; omega
theorem SE {x:PartX}:∀{n k:Nat},k<n→pv x k≤HX x n
 | 0,k,h=>by omega
 | n+1,k,h=>by
  rw [HX]
  by_cases e:k=n
  ·subst e; omega
  ·have:=SE (x:=x) (show k<n by omega); omega
def F8 (ms:List MeterX) (m:Int):Int:=match ms[m.toNat]? with
 | some x=>x.mx
 | none=>0
def Hv (c:CoreX) (j:Nat):Int:=match c.ps[j]? with
 | some x=>HX x (F8 c.ms x.me+1).toNat
 | none=>0
theorem MF {c:CoreX} (j:Nat):0≤Hv c j:=by
 unfold Hv; split
 ·exact Qq _
 ·exact Int.le_refl _
def Gx (ss:List SumX) (j:Nat):Int:=match ss[j]? with
 | some s=>s.a
 | none=>0
def GQ (c:CoreX) (i:Nat):Int:=sg (Gx c.ss) c.ss.length+sg (Hv c) i
def KT (x:PartX) (q:Int):Prop:=∃n,Hw x q=some n∧0≤n∧n≤1152921504606846976
structure fitsC (c:CoreX):Prop where
 great:¬KJ c
 good:goodC c
 parts:∀x∈c.ps,∀q:Nat,q<(F8 c.ms x.me+1).toNat→KT x q
 tot:∀i,i≤c.ps.length→GQ c i≤1152921504606846976
noncomputable instance (c:CoreX):Decidable (fitsC c):=Classical.propDecidable _
theorem AHZ {x:PartX} {q:Int} (h:KT x q):Hw x q=some (pv x q)∧0≤pv x q∧pv x q≤1152921504606846976:=by
 obtain ⟨n,h1,h2,h3⟩:=h
 unfold pv
 rw [h1]
 exact ⟨rfl,h2,h3⟩
structure BndC (c:CoreX):Prop where
 mx:∀(m:Nat) (h:m<c.ms.length),0≤c.ms[m].mx∧c.ms[m].mx≤2000
 me:∀x∈c.ps,0≤x.me∧x.me<(c.ms.length:Int)
 amt:∀s∈c.ss,0≤s.a∧s.a≤1000000000000
theorem fitsC.bnd {c:CoreX} (h:goodC c):BndC c :=
 ⟨fun m hm=>(h.ms m hm).1,fun x hx=>⟨(h.ps x hx).1.1,(h.ps x hx).1.2.1⟩,fun s hs=>(h.ss s hs).1⟩
theorem Qf {ms:List MeterX} {m:Nat} (h:m<ms.length):F8 ms m=ms[m].mx:=by
 unfold F8; rw [Int.toNat_natCast,List.getElem?_eq_getElem h]
theorem Uc {c:CoreX} (h:goodC c) (j:Nat):0≤Gx c.ss j:=by
 unfold Gx
 cases e:c.ss[j]? with
 | none=>exact Int.le_refl _
 | some s=>exact ((fitsC.bnd h).amt s (List.mem_of_getElem? e)).1
theorem Nt {c:CoreX} (h:goodC c) (d:Int) (j:Nat):0≤G6 c.ss d j∧G6 c.ss d j≤Gx c.ss j:=by
 have hp:=Uc h j
 unfold Gx at *
 unfold G6
 cases e:c.ss[j]? with
 | none=>exact ⟨Int.le_refl _,Int.le_refl _⟩
 | some s =>
  rw [e] at hp
  simp -implicitDefEqProofs only [] at hp ⊢
  split <;> omega
theorem MA {c:CoreX} (h:fitsC c) {x:PartX} (hx:x∈c.ps) {q:Int} (h0:0≤q) (hq:q≤F8 c.ms x.me):Hw x q=some (pv x q)∧0≤pv x q∧pv x q≤HX x (F8 c.ms x.me+1).toNat∧pv x q≤1152921504606846976:=by
 have hk:=h.parts x hx q.toNat (by omega)
 rw [Int.toNat_of_nonneg h0] at hk
 obtain ⟨h1,h2,h3⟩:=AHZ hk
 have hb:=SE (x:=x) (show q.toNat<(F8 c.ms x.me+1).toNat by omega)
 rw [Int.toNat_of_nonneg h0] at hb
 exact ⟨h1,h2,hb,h3⟩
theorem Sc {c:CoreX} (h:goodC c) {x:PartX} (hx:x∈c.ps):0≤F8 c.ms x.me:=by
 obtain ⟨h1,h2⟩:=(fitsC.bnd h).me x hx
 have:=(fitsC.bnd h).mx x.me.toNat (by omega)
 unfold F8
 rw [List.getElem?_eq_getElem (show x.me.toNat<c.ms.length by omega)]
 exact this.1
theorem Qm {c:CoreX} (h:fitsC c) (d:Int) (m j:Nat):0≤FR c.ps d m j∧FR c.ps d m j≤Hv c j:=by
 have hp:=MF (c:=c) j
 unfold Hv at *
 unfold FR
 cases e:c.ps[j]? with
 | none=>exact ⟨Int.le_refl _,Int.le_refl _⟩
 | some x =>
  have hx:=List.mem_of_getElem? e
  rw [e] at hp
  simp -implicitDefEqProofs only [] at hp ⊢
  obtain ⟨h1,h2,h3,h4⟩:=MA h hx (Int.le_refl 0) (Sc h.good hx)
  split <;> omega
theorem AJV {c:CoreX} (h:fitsC c) (d:Int) {m:Nat} (hm:m<c.ms.length) {q:Int} (h0:0≤q) (hq:q≤c.ms[m].mx) (j:Nat) : -Hv c j≤GG c.ps d m q j∧GG c.ps d m q j≤Hv c j:=by
 have hp:=MF (c:=c) j
 unfold Hv at *
 unfold GG
 cases e:c.ps[j]? with
 | none=>exact ⟨Int.le_refl _,Int.le_refl _⟩
 | some x =>
  have hx:=List.mem_of_getElem? e
  rw [e] at hp
  simp -implicitDefEqProofs only [] at hp ⊢
  by_cases hc:x.me=m∧FQ d x.f x.t
  ·rw [if_pos hc]
   have hmx:F8 c.ms x.me=c.ms[m].mx:=by rw [hc.1]; exact Qf hm
   obtain ⟨h1,h2,h3,h4⟩:=MA h hx (Int.le_refl 0) (Sc h.good hx)
   obtain ⟨g1,g2,g3,g4⟩:=MA h hx h0 (by rw [hmx]; exact hq)
   omega
  ·rw [if_neg hc]; omega
theorem AUT {c:CoreX} (h:goodC c) (n:Nat):0≤sg (Gx c.ss) n:=KU fun i _=>Uc h i
theorem U1 {c:CoreX} (h:fitsC c) {i:Nat} (hi:i≤c.ps.length):0≤sg (Hv c) i∧sg (Hv c) i≤1152921504606846976:=by
 have h1:=h.tot i hi
 have h2:=AUT h.good c.ss.length
 unfold GQ at h1
 exact ⟨KU fun i _=>MF i,by omega⟩
theorem Ps {c:CoreX} (h:goodC c) (d:Int) {i:Nat} (hi:i≤c.ss.length):0≤sg (G6 c.ss d) i∧sg (G6 c.ss d) i≤1000000000000*i:=by
 refine ⟨KU fun j _=>(Nt h d j).1,?_⟩
 have key:∀n:Nat,n≤c.ss.length→sg (Gx c.ss) n≤1000000000000*n:=by
  intro n
  induction n with
  | zero=>intro _; exact Int.le_refl _
  | succ n ih =>
   intro hn
   have:=ih (by omega)
   have h1:=((fitsC.bnd h).amt _ (List.getElem_mem (show n<c.ss.length by omega))).2
   rw [sg]
   have:Gx c.ss n=c.ss[n].a:=by unfold Gx; rw [List.getElem?_eq_getElem (by omega)]
   omega
 have:=Kk (n:=i) fun j _=>(Nt h d j).2
 have:=key i hi
 omega
theorem PZ {c:CoreX} (h:fitsC c) (d:Int) (m:Nat) {i:Nat} (hi:i≤c.ps.length):0≤sg (FR c.ps d m) i∧sg (FR c.ps d m) i≤1152921504606846976:=by
 have:=(U1 h hi).2
 have h2:=Kk (n:=i) fun j _=>(Qm h d m j).2
 exact ⟨KU fun j _=>(Qm h d m j).1,by omega⟩
theorem PE {c:CoreX} (h:fitsC c) (d:Int) {m:Nat} (hm:m<c.ms.length) {q:Int} (h0:0≤q) (hq:q≤c.ms[m].mx) {i:Nat} (hi:i≤c.ps.length) : -1152921504606846976≤sg (GG c.ps d m q) i∧sg (GG c.ps d m q) i≤1152921504606846976:=by
 have:=(U1 h hi).2
 have h2:=AA0 (n:=i) fun j _=>AJV h d hm h0 hq j
 omega
theorem Q5 {c:CoreX} (h:fitsC c) (d:Int):∀k:Nat,0≤sg (Fi c d) k∧sg (Fi c d) k≤1152921504606846976*k
 | 0=>⟨Int.le_refl _,Int.le_refl _⟩
 | k+1=>by
  have:=Q5 h d k
  have:=PZ h d k (Nat.le_refl c.ps.length)
  unfold Fi at *
  rw [sg]; omega
structure Run where
 f:Int
 t:Int
 v:Int
 deriving DecidableEq
def Run.el (r:Run):List D:=[.int .i64 r.f,.int .i64 r.t,.int .i64 r.v]
abbrev Run.av (r:Run):AV:=.agg [i64 r.f,i64 r.t,i64 r.v]
def Ew (l:List Run):List (List D):=l.map Run.el
theorem rowR_len {l:List Run}:(Ew l).length=l.length:=List.length_map ..
theorem AOZ {l:List Run} {i:Nat} (h:i<l.length):(Ew l)[i]? = some (Run.el l[i]):=by simp [Ew,h]
theorem ACU {l:List Run} {i:Nat} {r:Run}:(Ew l).set i r.el=Ew (l.set i r):=by simp [Ew,List.map_set]
theorem TW {l:List Run} {r:Run}:Ew l++[r.el]=Ew (l++[r]):=by simp [Ew]
def E6 (l:List Run) (r:Run):List Run:=match l.getLast? with
 | some q=>if q.v=r.v then l.dropLast++[{ q with t:=r.t }] else l++[r]
 | none=>[r]
theorem ABK {l:List Run} {x:Run} (h:l≠[]):l.set (l.length-1) x=l.dropLast++[x]:=by
 rcases List.eq_nil_or_concat l with rfl | ⟨dl,q,rfl⟩
 ·exact absurd rfl h
 ·simp
def LineAt (H:Heap) (b:Nat) (c:Nat) (l:List Run):Prop :=
 l=[]∧H b=some (.box 121 [.nilsl 3])∨l≠[]∧c≠b∧∃cap,H b=some (.box 121 [.own c 3 0 l.length cap])∧H c=some (.row 147 3 cap (Ew l))
def AG8 (b c:Nat) (l0 l:List Run) (H:Heap) (H':Heap):Prop:=∃c',LineAt H' b c' l∧(∀k x,k≠b→(l0≠[]→k≠c)→H k=some x→H' k=some x∧k≠c')
theorem OM {H:Heap} {b c:Nat} {l:List Run} {r:Run} (h:LineAt H b c l) (hl:l.length≤1000000):CallW Try.prog Z1 [.ptr b 0,r.av] H fun _ H'=>AG8 b c l (E6 l r) H H':=by
 rcases h with ⟨rfl,h1⟩ | ⟨h0,h3,cap,h1,h2⟩
 ·refine Aj RL (by simp) ?_
  simp -implicitDefEqProofs -proj only [go_sem,seval,h1]
  refine AI (fun b3 hb=>?_)
  replace hb:H b3=none:=hb
  obtain ⟨n1,n2⟩:=AK hb h1
  simp -implicitDefEqProofs -proj only [go_sem,seval,h1,n1,n2]
  (repeat' first
  | ((with_reducible first | refine FG (fun h=>?_) (fun h=>?_) | refine FI (fun h=>?_) (fun h=>?_) | refine FJ (fun h=>?_) (fun h=>?_)) <;> (simp -implicitDefEqProofs -proj only [go_sem,seval,h,h1,n1,n2]; try (revert h; intro _)))
  | ((with_reducible first | refine AI (fun _ hb=>?_) | refine EO (fun _ hb=>?_)); simp -implicitDefEqProofs only [E8,FK,Af,Heap.none_get,and_true,true_and] at hb; simp -implicitDefEqProofs -proj only [go_sem,seval,h1,n1,n2]; try (revert hb; intro _))
  | ((with_reducible first | refine Ed _ rfl (by simp) ?_ | refine En _ rfl (by simp) ?_); simp -implicitDefEqProofs -proj only [go_sem,seval,h1,n1,n2])
  | (with_reducible refine Ak ?_ (fun h=>?_); first | ((focus first | decide | omega); try clear h; try simp -implicitDefEqProofs -proj only [go_sem,seval,h1,n1,n2]) | (rotate_left; try clear h; try simp -implicitDefEqProofs -proj only [go_sem,seval,h1,n1,n2]; rotate_right)))
  refine Kv (ds:=r.el) rfl (fun bs hs=>?_)
  replace hs:upd H b3 _ bs=none:=hs
  rw [show Ao 3 1 r.el=[r.el] from rfl]
  obtain ⟨m1,m2⟩:=AK hs (by rw [AF n1]; exact h1)
  simp -implicitDefEqProofs -proj only [go_sem,seval,h1,n1,n2,m1,m2]
  refine Oh (ys:=[r.el]) (t:=147) (capc:=1) (by simp -implicitDefEqProofs -proj only [go_sem,seval]) rfl (by simp) rfl (by simp [maxLen]) (fun c' hc' cap=>?_)
  replace hc':upd (upd H b3 _) bs _ c'=none:=hc'
  obtain ⟨k1,k2⟩:=AK hc' (by rw [AF m1,AF n1]; exact h1)
  simp -implicitDefEqProofs -proj only [go_sem,seval,h1,n1,n2,m1,m2,k1,k2]
  (repeat' first
  | ((with_reducible first | refine FG (fun h=>?_) (fun h=>?_) | refine FI (fun h=>?_) (fun h=>?_) | refine FJ (fun h=>?_) (fun h=>?_)) <;> (simp -implicitDefEqProofs -proj only [go_sem,seval,h,h1,n1,n2,m1,m2,k1,k2]; try (revert h; intro _)))
  | ((with_reducible first | refine AI (fun _ hb=>?_) | refine EO (fun _ hb=>?_)); simp -implicitDefEqProofs only [E8,FK,Af,Heap.none_get,and_true,true_and] at hb; simp -implicitDefEqProofs -proj only [go_sem,seval,h1,n1,n2,m1,m2,k1,k2]; try (revert hb; intro _))
  | ((with_reducible first | refine Ed _ rfl (by simp) ?_ | refine En _ rfl (by simp) ?_); simp -implicitDefEqProofs -proj only [go_sem,seval,h1,n1,n2,m1,m2,k1,k2])
  | (with_reducible refine Ak ?_ (fun h=>?_); first | ((focus first | decide | omega); try clear h; try simp -implicitDefEqProofs -proj only [go_sem,seval,h1,n1,n2,m1,m2,k1,k2]) | (rotate_left; try clear h; try simp -implicitDefEqProofs -proj only [go_sem,seval,h1,n1,n2,m1,m2,k1,k2]; rotate_right)))
  refine ⟨c',.inr ⟨by simp [E6],k1,cap,?_,?_⟩,fun k x hk1 hk2 hk=>?_⟩
  ·simp -implicitDefEqProofs -proj only [go_sem,seval,E6]
   rfl
  ·simp -implicitDefEqProofs -proj only [go_sem,seval,k2]
   rfl
  ·obtain ⟨p1,p2⟩:=AK hb hk
   obtain ⟨q1,q2⟩:=AK hs (by rw [AF p1]; exact hk)
   obtain ⟨r1,r2⟩:=AK hc' (by rw [AF q1,AF p1]; exact hk)
   refine ⟨?_,r2⟩
   have hk3:¬b=k:=fun e=>hk1 e.symm
   simp -implicitDefEqProofs -proj only [go_sem,seval,p1,q1,r1,hk,hk3]
 ·obtain ⟨q,hq⟩:∃q,l.getLast? = some q:=by
   cases hh:l.getLast? with
   | none=>exact absurd (List.getLast?_eq_none_iff.1 hh) h0
   | some q=>exact ⟨q,rfl⟩
  have hlen:0<l.length:=List.length_pos_iff.2 h0
  have hq2:l[l.length-1]? = some q:=by rw [←List.getLast?_eq_getElem?]; exact hq
  have hw:IntKind.i64.wrap ((l.length:Int)-1)=((l.length-1:Nat):Int):=by rw [IntKind.wrap_i64]; omega
  have hrow:(Ew l)[l.length-1]? = some [.int .i64 q.f,.int .i64 q.t,.int .i64 q.v]:=by simp [Ew,hq2,Run.el]
  have h3':¬b=c:=fun e=>h3 e.symm
  refine Aj RL (by simp) ?_
  simp -implicitDefEqProofs -proj only [go_sem,seval,h1]
  refine AI (fun b3 hb=>?_)
  replace hb:H b3=none:=hb
  obtain ⟨n1,n2⟩:=AK hb h1
  obtain ⟨n3,n4⟩:=AK hb h2
  have c0:decide (0<(l.length:Int))=true:=decide_eq_true (by omega)
  simp -implicitDefEqProofs -proj only [go_sem,seval,h1,h2,h3,h3',n1,n2,n3,n4,c0,hw]
  (repeat' first
  | ((with_reducible first | refine FG (fun h=>?_) (fun h=>?_) | refine FI (fun h=>?_) (fun h=>?_) | refine FJ (fun h=>?_) (fun h=>?_)) <;> (simp -implicitDefEqProofs -proj only [go_sem,seval,h,h1,h2,h3,h3',n1,n2,n3,n4,c0,hw]; try (revert h; intro _)))
  | ((with_reducible first | refine AI (fun _ hb=>?_) | refine EO (fun _ hb=>?_)); simp -implicitDefEqProofs only [E8,FK,Af,Heap.none_get,and_true,true_and] at hb; simp -implicitDefEqProofs -proj only [go_sem,seval,h1,h2,h3,h3',n1,n2,n3,n4,c0,hw]; try (revert hb; intro _))
  | ((with_reducible first | refine Ed _ rfl (by simp) ?_ | refine En _ rfl (by simp) ?_); simp -implicitDefEqProofs -proj only [go_sem,seval,h1,h2,h3,h3',n1,n2,n3,n4,c0,hw])
  | (with_reducible refine Ak ?_ (fun h=>?_); first | ((focus first | decide | omega); try clear h; try simp -implicitDefEqProofs -proj only [go_sem,seval,h1,h2,h3,h3',n1,n2,n3,n4,c0,hw]) | (rotate_left; try clear h; try simp -implicitDefEqProofs -proj only [go_sem,seval,h1,h2,h3,h3',n1,n2,n3,n4,c0,hw]; rotate_right)))
  refine Ed _ (by rw [Int.toNat_natCast]; exact hrow) (by simp) ?_
  simp -implicitDefEqProofs -proj only [go_sem,seval,h1,h2,h3,h3',n1,n2,n3,n4,c0,hw]
  by_cases hv:q.v=r.v
  ·have hp:E6 l r=l.dropLast++[{ q with t:=r.t }]:=by rw [E6,hq]; exact if_pos hv
   simp -implicitDefEqProofs -proj only [go_sem,seval,h1,h2,h3,h3',n1,n2,n3,n4,c0,hw,decide_eq_true hv,Int.toNat_natCast]
   (repeat' first
  | ((with_reducible first | refine FG (fun h=>?_) (fun h=>?_) | refine FI (fun h=>?_) (fun h=>?_) | refine FJ (fun h=>?_) (fun h=>?_)) <;> (simp -implicitDefEqProofs -proj only [go_sem,seval,h,h1,h2,h3,h3',n1,n2,n3,n4,c0,hw,Int.toNat_natCast]; try (revert h; intro _)))
  | ((with_reducible first | refine AI (fun _ hb=>?_) | refine EO (fun _ hb=>?_)); simp -implicitDefEqProofs only [E8,FK,Af,Heap.none_get,and_true,true_and] at hb; simp -implicitDefEqProofs -proj only [go_sem,seval,h1,h2,h3,h3',n1,n2,n3,n4,c0,hw,Int.toNat_natCast]; try (revert hb; intro _))
  | ((with_reducible first | refine Ed _ rfl (by simp) ?_ | refine En _ rfl (by simp) ?_); simp -implicitDefEqProofs -proj only [go_sem,seval,h1,h2,h3,h3',n1,n2,n3,n4,c0,hw,Int.toNat_natCast])
  | (with_reducible refine Ak ?_ (fun h=>?_); first | ((focus first | decide | omega); try clear h; try simp -implicitDefEqProofs -proj only [go_sem,seval,h1,h2,h3,h3',n1,n2,n3,n4,c0,hw,Int.toNat_natCast]) | (rotate_left; try clear h; try simp -implicitDefEqProofs -proj only [go_sem,seval,h1,h2,h3,h3',n1,n2,n3,n4,c0,hw,Int.toNat_natCast]; rotate_right)))
   refine IK (xs:=Ew l) (t:=147) (cap:=cap) (by simp -implicitDefEqProofs -proj only [go_sem,seval,n3,h2]) hrow (by simp) ?_
   have hset:(Ew l).set (l.length-1) (Fr [.int .i64 q.f,.int .i64 q.t,.int .i64 q.v] 1 [.int .i64 r.t])=Ew (E6 l r):=by
    rw [hp,←ABK h0,←ACU]; rfl
   have hlp:(E6 l r).length=l.length:=by rw [hp,List.length_append,List.length_dropLast,List.length_singleton]; omega
   rw [hset]
   simp -implicitDefEqProofs -proj only [go_sem,seval,h1,h2,h3,h3',n1,n2,n3,n4,c0,hw]
   refine ⟨c,.inr ⟨by rw [hp]; simp,h3,cap,?_,?_⟩,fun k x hk1 hk2 hk=>?_⟩
   ·simp -implicitDefEqProofs -proj only [go_sem,seval,n1,h3,h1,hlp]
   ·simp -implicitDefEqProofs -proj only [go_sem,seval]
   ·obtain ⟨p1,p2⟩:=AK hb hk
    have hk3:¬c=k:=fun e=>hk2 h0 e.symm
    refine ⟨?_,hk2 h0⟩
    simp -implicitDefEqProofs -proj only [go_sem,seval,p1,hk3,hk]
  ·have hp:E6 l r=l++[r]:=by rw [E6,hq]; exact if_neg hv
   simp -implicitDefEqProofs -proj only [go_sem,seval,h1,h2,h3,h3',n1,n2,n3,n4,c0,hw,decide_eq_false hv]
   (repeat' first
  | ((with_reducible first | refine FG (fun h=>?_) (fun h=>?_) | refine FI (fun h=>?_) (fun h=>?_) | refine FJ (fun h=>?_) (fun h=>?_)) <;> (simp -implicitDefEqProofs -proj only [go_sem,seval,h,h1,h2,h3,h3',n1,n2,n3,n4,c0,hw]; try (revert h; intro _)))
  | ((with_reducible first | refine AI (fun _ hb=>?_) | refine EO (fun _ hb=>?_)); simp -implicitDefEqProofs only [E8,FK,Af,Heap.none_get,and_true,true_and] at hb; simp -implicitDefEqProofs -proj only [go_sem,seval,h1,h2,h3,h3',n1,n2,n3,n4,c0,hw]; try (revert hb; intro _))
  | ((with_reducible first | refine Ed _ rfl (by simp) ?_ | refine En _ rfl (by simp) ?_); simp -implicitDefEqProofs -proj only [go_sem,seval,h1,h2,h3,h3',n1,n2,n3,n4,c0,hw])
  | (with_reducible refine Ak ?_ (fun h=>?_); first | ((focus first | decide | omega); try clear h; try simp -implicitDefEqProofs -proj only [go_sem,seval,h1,h2,h3,h3',n1,n2,n3,n4,c0,hw]) | (rotate_left; try clear h; try simp -implicitDefEqProofs -proj only [go_sem,seval,h1,h2,h3,h3',n1,n2,n3,n4,c0,hw]; rotate_right)))
   refine Kv (ds:=r.el) rfl (fun bs hs=>?_)
   replace hs:upd H b3 _ bs=none:=hs
   rw [show Ao 3 1 r.el=[r.el] from rfl]
   obtain ⟨m1,m2⟩:=AK hs (by rw [AF n1]; exact h1)
   obtain ⟨m3,m4⟩:=AK hs (by rw [AF n3]; exact h2)
   simp -implicitDefEqProofs -proj only [go_sem,seval,h1,h2,h3,h3',n1,n2,n3,n4,c0,hw,m1,m2,m3,m4]
   refine Li (xs:=Ew l) (ys:=[r.el]) (t:=147) (capc:=1) (by simp -implicitDefEqProofs -proj only [go_sem,seval,m3,n3,h2]) (by simp -implicitDefEqProofs -proj only [go_sem,seval]) rowR_len.symm rfl (by simp) rfl (by simp -implicitDefEqProofs only [rowR_len,List.length_singleton,maxLen]; omega) (fun c' cap' hc'=>?_)
   replace hc':upd (upd (upd H b3 _) bs _) c none c'=none:=hc'
   obtain ⟨k1,k2⟩:=AK hc' (by rw [AF h3,AF m1,AF n1]; exact h1)
   rw [TW,List.length_singleton]
   simp -implicitDefEqProofs -proj only [go_sem,seval,h1,h2,h3,h3',n1,n2,n3,n4,c0,hw,m1,m2,m3,m4,k1,k2]
   (repeat' first
  | ((with_reducible first | refine FG (fun h=>?_) (fun h=>?_) | refine FI (fun h=>?_) (fun h=>?_) | refine FJ (fun h=>?_) (fun h=>?_)) <;> (simp -implicitDefEqProofs -proj only [go_sem,seval,h,h1,h2,h3,h3',n1,n2,n3,n4,c0,hw,m1,m2,m3,m4,k1,k2]; try (revert h; intro _)))
  | ((with_reducible first | refine AI (fun _ hb=>?_) | refine EO (fun _ hb=>?_)); simp -implicitDefEqProofs only [E8,FK,Af,Heap.none_get,and_true,true_and] at hb; simp -implicitDefEqProofs -proj only [go_sem,seval,h1,h2,h3,h3',n1,n2,n3,n4,c0,hw,m1,m2,m3,m4,k1,k2]; try (revert hb; intro _))
  | ((with_reducible first | refine Ed _ rfl (by simp) ?_ | refine En _ rfl (by simp) ?_); simp -implicitDefEqProofs -proj only [go_sem,seval,h1,h2,h3,h3',n1,n2,n3,n4,c0,hw,m1,m2,m3,m4,k1,k2])
  | (with_reducible refine Ak ?_ (fun h=>?_); first | ((focus first | decide | omega); try clear h; try simp -implicitDefEqProofs -proj only [go_sem,seval,h1,h2,h3,h3',n1,n2,n3,n4,c0,hw,m1,m2,m3,m4,k1,k2]) | (rotate_left; try clear h; try simp -implicitDefEqProofs -proj only [go_sem,seval,h1,h2,h3,h3',n1,n2,n3,n4,c0,hw,m1,m2,m3,m4,k1,k2]; rotate_right)))
   refine ⟨c',.inr ⟨by rw [hp]; simp,k1,cap',?_,?_⟩,fun k x hk1 hk2 hk=>?_⟩
   ·simp -implicitDefEqProofs -proj only [go_sem,seval,hp,List.length_append]
   ·simp -implicitDefEqProofs -proj only [go_sem,seval,k2,hp]
   ·obtain ⟨p1,p2⟩:=AK hb hk
    obtain ⟨q1,q2⟩:=AK hs (by rw [AF p1]; exact hk)
    have hk3:¬c=k:=fun e=>hk2 h0 e.symm
    have hk4:¬b=k:=fun e=>hk1 e.symm
    obtain ⟨r1,r2⟩:=AK hc' (by rw [AF hk3,AF q1,AF p1]; exact hk)
    refine ⟨?_,r2⟩
    simp -implicitDefEqProofs -proj only [go_sem,seval,p1,q1,r1,hk3,hk4,hk]
def LH (b c cap:Nat) (l:List Run):List (Nat×Blk):=if l=[] then [(b,.box 121 [.nilsl 3])] else [(b,.box 121 [.own c 3 0 l.length cap]),(c,.row 147 3 cap (Ew l))]
theorem HM {H:Heap} {xs ys:List (Nat×Blk)}:AZ H (xs++ys)↔AZ H xs∧AZ H ys:=by
 induction xs with
 | nil=>simp [AZ]
 | cons p xs ih=>obtain ⟨b,x⟩:=p; simp -implicitDefEqProofs only [List.cons_append,AZ,ih,and_assoc]
theorem RS {b c cap:Nat} {l:List Run} {rest:List (Nat×Blk)} (hc:l≠[]→c≠b):LineAt (Ac (LH b c cap l++rest)) b c l:=by
 unfold LH
 by_cases h:l=[]
 ·rw [if_pos h]
  exact .inl ⟨h,by rw [List.cons_append,Av,if_pos rfl]⟩
 ·rw [if_neg h]
  refine .inr ⟨h,hc h,cap,?_,?_⟩
  ·rw [List.cons_append,Av,if_pos rfl]
  ·rw [List.cons_append,Av,if_neg (hc h),List.cons_append,Av,if_pos rfl]
theorem Jv {b c cap k:Nat} {l:List Run} {rest:List (Nat×Blk)} (hb:k≠b) (hc:l≠[]→k≠c):Ac (LH b c cap l++rest) k=Ac rest k:=by
 unfold LH
 by_cases h:l=[]
 ·rw [if_pos h,List.cons_append,Av,if_neg hb,List.nil_append]
 ·rw [if_neg h,List.cons_append,Av,if_neg hb,List.cons_append,Av,if_neg (hc h),List.nil_append]
theorem Kt {H:Heap} {b c:Nat} {l:List Run} (h:LineAt H b c l):∃cap,AZ H (LH b c cap l)∧(l≠[]→c≠b):=by
 rcases h with ⟨rfl,h1⟩ | ⟨h0,h3,cap,h1,h2⟩
 ·exact ⟨0,⟨h1,trivial⟩,fun h=>absurd rfl h⟩
 ·refine ⟨cap,?_,fun _=>h3⟩
  unfold LH
  rw [if_neg h0]
  exact ⟨h1,h2,trivial⟩
abbrev Hm (l:List Run):AV:=.agg [.d (.sl 3 (Ew l))]
theorem Q7 {l:List Run}:∀el∈Ew l,∀d∈el,Hi d=true:=by
 intro el he d hd
 obtain ⟨r,_,rfl⟩:=List.mem_map.1 he
 simp -implicitDefEqProofs only [Run.el,List.mem_cons,List.not_mem_nil,or_false] at hd
 rcases hd with rfl | rfl | rfl <;> rfl
theorem AAC {H:Heap} {b sz cap cap' len:Nat} {e:TypeId} {xs:List (List D)} (h:H b=some (.row e sz cap' xs)) (hl:len=xs.length) (hs:∀el∈xs,∀d∈el,Hi d=true):NewV H (.own b sz 0 len cap) (.d (.sl sz xs)):=by
 subst hl; exact .own b sz cap e cap' xs h hs
theorem LineAt.read {H:Heap} {b c:Nat} {l:List Run} (h:LineAt H b c l):∃v,H b=some (.box 121 [v])∧NewV H v (.d (.sl 3 (Ew l)))∧Ju v=some (i64 l.length):=by
 rcases h with ⟨rfl,h1⟩ | ⟨h0,h3,cap,h1,h2⟩
 ·exact ⟨_,h1,.nilsl _ _,rfl⟩
 ·exact ⟨_,h1,AAC h2 rowR_len.symm Q7,rfl⟩
theorem LineAt.upd {H:Heap} {b c k:Nat} {l:List Run} {x:Option Blk} (h:LineAt H b c l) (hb:¬k=b) (hc:l≠[]→¬k=c):LineAt (upd H k x) b c l:=by
 rcases h with ⟨h0,h1⟩ | ⟨h0,h3,cap,h1,h2⟩
 ·exact .inl ⟨h0,by rw [AF hb]; exact h1⟩
 ·exact .inr ⟨h0,h3,cap,by rw [AF hb]; exact h1,by rw [AF (hc h0)]; exact h2⟩
def Gh (from':Int) (l:List Int):Nat→List Run
 | 0=>[]
 | i+1=>E6 (Gh from' l i) ⟨from'+i,from'+i,l.getD i 0⟩
abbrev EP (from':Int) (l:List Int):List Run:=Gh from' l l.length
theorem OL {l:List Run} {r:Run}:E6 l r≠[]:=by
 unfold E6
 split
 ·split <;> simp
 ·simp
theorem Ne {l:List Run} {r:Run}:(E6 l r).length≤l.length+1:=by
 unfold E6
 split
 ·split
  ·simp -implicitDefEqProofs only [List.length_append,List.length_dropLast,List.length_singleton]; omega
  ·simp
 ·simp
theorem Ll {from':Int} {l:List Int}:∀i:Nat,(Gh from' l i).length≤i
 | 0=>Nat.le_refl _
 | i+1=>by
  have:=@Ne (Gh from' l i) ⟨from'+i,from'+i,l.getD i 0⟩
  have:=Ll (from':=from') (l:=l) i
  rw [Gh]; omega
theorem OE {H:Heap} {x y:AV} (h:NewV H x y):NewV H (.agg [x]) (.agg [y]):=by
 refine .agg _ _ rfl fun j u v h1 h2=>?_
 cases j with
 | zero=>cases h1; cases h2; exact h
 | succ j=>cases h1
structure LoopX where
 i:Nat
 c:Nat
 cap:Nat
 l:List Run
theorem AC8 {from':Int} {l:List Int} (hf : -1099511627776≤from'∧from'≤1099511627776) (hn:l.length≤999999):NewW Try.prog AGb [i64 from',Fu l] (Hm (EP from' l)):=by
 refine Aj ATY (by simp) ?_
 simp -implicitDefEqProofs -proj only [go_sem,seval,Ei]
 refine AI (fun b4 hb=>?_)
 simp -implicitDefEqProofs -proj only [go_sem,seval,Ei]
 refine AI (fun b5 hb5=>?_)
 replace hb5:upd Heap.none b4 _ b5=none:=hb5
 obtain ⟨n1,n2⟩:=AK hb5 AN
 simp -implicitDefEqProofs -proj only [go_sem,seval,Ei,n1,n2]
 refine EN (fun x:LoopX=>x.i≤l.length∧x.l=Gh from' l x.i∧(x.l≠[]→x.c≠b5∧x.c≠b4)) 26 (fun x=>[(8,Fu l),(9,i64 l.length),(10,i64 x.i),(5,.ptr b5 0),(4,.ptr b4 0),(0,i64 from')]) (fun x=>LH b5 x.c x.cap x.l++[(b4,.box 121 [.nilsl 3])]) (fun x=>l.length-x.i) ⟨0,0,0,[]⟩ ⟨Nat.zero_le _,rfl,fun h=>absurd rfl h⟩ rfl ?_ ?_ ?_
 ·simp -implicitDefEqProofs -proj only [go_sem,seval,AJ]
 ·simp -implicitDefEqProofs -proj only [go_sem,seval,AZ,HM,LH,n1,n2]
 ·rintro ⟨i,c,cap,R⟩ ⟨hi,hR,hc⟩
  simp -implicitDefEqProofs only [] at hi hR hc
  have hat:=RS (b:=b5) (c:=c) (cap:=cap) (l:=R) (rest:=[(b4,.box 121 [.nilsl 3])]) (fun h=>(hc h).1)
  have h4:Ac (LH b5 c cap R++[(b4,.box 121 [.nilsl 3])]) b4=some (.box 121 [.nilsl 3]):=by
   rw [Jv n2 (fun h e=>(hc h).2 e.symm),Av,if_pos rfl]
  generalize hH:Ac (LH b5 c cap R++[(b4,.box 121 [.nilsl 3])])=H at *
  by_cases h:i<l.length
  ·have hel:=Lo h
   have hx:l.getD i 0=l[i]:=by simp [h]
   generalize l[i]=x at *
   have hw:IntKind.i64.wrap (from'+i)=from'+i:=by rw [IntKind.wrap_i64]; omega
   simp -implicitDefEqProofs -proj only [go_sem,seval,decide_eq_true (show (i:Int)<l.length by omega)]
   refine Ag _ (by omega) hel ?_
   simp -implicitDefEqProofs -proj only [go_sem,seval,hel,hw]
   have hput:=OM (r:=⟨from'+i,from'+i,x⟩) hat (by have:=Ll (from':=from') (l:=l) i; rw [←hR] at this; omega)
   refine Fm hput (fun r H' hk=>?_)
   obtain ⟨c',hat',hfr⟩:=hk
   obtain ⟨g1,g2⟩:=hfr b4 _ n2 (fun h e=>(hc h).2 e.symm) h4
   obtain ⟨cap',ha,hc'⟩:=Kt hat'
   have hR':E6 R ⟨from'+i,from'+i,x⟩=Gh from' l (i+1):=by rw [Gh,hx,hR]
   simp -implicitDefEqProofs -proj only [go_sem,seval]
   refine AY ⟨i+1,c',cap',E6 R ⟨from'+i,from'+i,x⟩⟩ ⟨by show i+1≤l.length; omega,hR',fun h=>⟨hc' h,fun e=>g2 e.symm⟩⟩ (by show l.length-(i+1)<l.length-i; omega) rfl ?_ ?_
   ·simp -implicitDefEqProofs -proj only [go_sem,seval,AJ,AU (show i<9223372036854775807 by omega)]
   ·rw [HM]
    exact ⟨ha,g1,trivial⟩
  ·have hi':i=l.length:=by omega
   subst hi'
   obtain ⟨v,hv,hl,_⟩:=hat.read
   simp -implicitDefEqProofs -proj only [go_sem,seval,decide_eq_false (show ¬(l.length:Int)<l.length by omega),hv,h4]
   obtain ⟨v2,hv2,hl2,_⟩:=(hat.upd (k:=b4) (x:=some (.box 121 [v])) n2 (fun h e=>(hc h).2 e.symm)).read
   rw [AF n2,hv] at hv2
   cases hv2
   rw [show EP from' l=R from hR.symm]
   exact OE hl2
abbrev Gm (l:List Run):AV:=.d (.sl 3 (Ew l))
theorem Jt {l:List Run} {i:Nat} (h:i<l.length):(Ew l)[((i:Int)).toNat]? = some [.int .i64 l[i].f,.int .i64 l[i].t,.int .i64 l[i].v]:=by
 rw [Int.toNat_natCast]; exact AOZ h
def TG (l:List Run) (x:Int):Nat:=(l.takeWhile fun r=>decide (r.t<x)).length
def Mw (l:List Run) (x:Int):Option Int:=match l[TG l x]? with
 | some r=>if r.f≤x then some r.v else none
 | none=>none
theorem LineAt.fresh {H:Heap} {b c k:Nat} {l:List Run} (h:LineAt H b c l) (hk:H k=none):¬k=b∧(l≠[]→¬k=c):=by
 rcases h with ⟨h0,h1⟩ | ⟨h0,h3,cap,h1,h2⟩
 ·exact ⟨(AK hk h1).1,fun h=>absurd h0 h⟩
 ·exact ⟨(AK hk h1).1,fun _=>(AK hk h2).1⟩
def GR (g:Int→Int→Int) (a b:List Run):Nat→Nat→Nat→List Run→List Run
 | 0,_,_,R=>R
 | n+1,i,k,R=>match a[i]?,b[k]? with
  | some x,some y =>
   GR g a b n (if x.t≤y.t then i+1 else i) (if y.t≤x.t then k+1 else k) (if max x.f y.f≤min x.t y.t then E6 R ⟨max x.f y.f,min x.t y.t,g x.v y.v⟩ else R)
  | _,_=>R
theorem LN {g:Int→Int→Int} {a b:List Run}:∀(n i k:Nat) (R:List Run),a.length+b.length≤n+i+k→GR g a b (n+1) i k R=GR g a b n i k R
 | 0,i,k,R,h=>by
  rw [GR,GR]
  by_cases h1:i<a.length
  ·have h2:¬k<b.length:=by omega
   rw [List.getElem?_eq_none (l:=b) (by omega)]
   split <;> first | rfl | simp_all
  ·rw [List.getElem?_eq_none (l:=a) (by omega)]
 | n+1,i,k,R,h=>by
  rw [GR,GR]
  split
  ·next x y _ _ =>
   refine LN n _ _ _ ?_
   split <;> split <;> omega
  ·rfl
def FwdOK (val:Int→Int) (lo hi:Int):List Run→Prop
 | []=>lo=hi
 | r::R=>r.f=lo∧r.f≤r.t∧(∀x,r.f≤x→x≤r.t→val x=r.v)∧(∀s,R.head? = some s→r.v≠s.v)∧FwdOK val (r.t+1) hi R
theorem FwdOK.le {val:Int→Int}:∀{R:List Run} {lo hi:Int},FwdOK val lo hi R→lo≤hi
 | [],lo,hi,h=>by have:lo=hi:=h; omega
 | r::R,lo,hi,h=>by
  obtain ⟨h1,h2,_,_,h5⟩:=h
  have:=FwdOK.le h5
  omega
theorem PU {r x:Run} {R:List Run} (h:R≠[]):E6 (r::R) x=r::E6 R x:=by
 obtain ⟨q,hq⟩:∃q,R.getLast? = some q:=by
  cases hh:R.getLast? with
  | none=>exact absurd (List.getLast?_eq_none_iff.1 hh) h
  | some q=>exact ⟨q,rfl⟩
 have h2:(r::R).getLast? = some q:=by
  rw [List.getLast?_cons,hq]; rfl
 unfold E6
 rw [hq,h2]
 simp -implicitDefEqProofs only []
 split
 ·rw [List.dropLast_cons_of_ne_nil h]; rfl
 ·rfl
theorem TX {x s:Run} {R:List Run} {q:Run} (h:(E6 (s::R) x).head? = some q):q.v=s.v:=by
 cases R with
 | nil =>
  unfold E6 at h
  simp -implicitDefEqProofs only [List.getLast?_singleton] at h
  split at h
  ·simp at h; subst h; rfl
  ·simp at h; subst h; rfl
 | cons t R =>
  rw [PU (by simp)] at h
  simp at h; subst h; rfl
theorem FwdOK.put {val:Int→Int} {hi:Int}:∀{R:List Run} {lo:Int},FwdOK val lo hi R→FwdOK val lo (hi+1) (E6 R ⟨hi,hi,val hi⟩)
 | [],lo,h=>by
  have:lo=hi:=h
  subst this
  exact ⟨rfl,Int.le_refl _,fun x h1 h2=>by rw [show x=lo from Int.le_antisymm h2 h1],fun s h=>(by cases h),rfl⟩
 | [r],lo,h=>by
  obtain ⟨h1,h2,h3,h4,h5⟩:=h
  have h5:r.t+1=hi:=h5
  unfold E6
  simp -implicitDefEqProofs only [List.getLast?_singleton]
  split
  ·next hv =>
   refine ⟨h1,by show r.f≤hi; omega,fun x x1 x2=>?_,fun s h=>(by cases h),rfl⟩
   by_cases hx:x=hi
   ·subst hx; exact hv.symm
   ·exact h3 x x1 (by have:x≤hi:=x2; omega)
  ·next hv =>
   refine ⟨h1,h2,h3,fun s h=>?_,⟨h5.symm,Int.le_refl _,fun x x1 x2=>by rw [show x=hi from Int.le_antisymm x2 x1],fun s h=>(by cases h),rfl⟩⟩
   cases h; exact hv
 | r::s::R,lo,h=>by
  obtain ⟨h1,h2,h3,h4,h5⟩:=h
  rw [PU (by simp)]
  refine ⟨h1,h2,h3,fun q hq=>?_,FwdOK.put h5⟩
  rw [TX hq]
  exact h4 s rfl
theorem UQ (from':Int) (l:List Int):∀i:Nat,FwdOK (fun x=>l.getD (x-from').toNat 0) from' (from'+i) (Gh from' l i)
 | 0=>by show from'=from'+((0:Nat):Int); omega
 | i+1=>by
  have h:=(UQ from' l i).put
  have e:l.getD (from'+(i:Int)-from').toNat 0=l.getD i 0:=by rw [show (from'+(i:Int)-from').toNat=i by omega]
  try simp -implicitDefEqProofs only [] at h
  rw [e] at h
  rw [Gh,show from'+((i+1:Nat):Int)=from'+i+1 by omega]
  exact h
theorem Sh {r:Run} {R:List Run} {x:Int}:Mw (r::R) x=if r.t<x then Mw R x else if r.f≤x then some r.v else none:=by
 unfold Mw TG
 by_cases h:r.t<x
 ·rw [if_pos h,List.takeWhile_cons_of_pos (by simpa using h),List.length_cons,List.getElem?_cons_succ]
 ·rw [if_neg h,List.takeWhile_cons_of_neg (by simpa using h)]
  rfl
theorem FwdOK.at' {val:Int→Int} {hi x:Int}:∀{R:List Run} {lo:Int},FwdOK val lo hi R→lo≤x→x<hi→Mw R x=some (val x)
 | [],lo,h,h1,h2=>by have:lo=hi:=h; omega
 | r::R,lo,h,h1,h2=>by
  obtain ⟨g1,g2,g3,g4,g5⟩:=h
  rw [Sh]
  by_cases ht:r.t<x
  ·rw [if_pos ht]; exact FwdOK.at' g5 (by omega) h2
  ·rw [if_neg ht,if_pos (by omega),g3 x (by omega) (by omega)]
def Adj2:List Run→Prop
 | []=>True
 | r::R=>(∀s,R.head? = some s→r.v≠s.v)∧Adj2 R
theorem Adj2.last {S R:List Run} {x q:Run} (h:Adj2 (S++x::R)) (hq:S.getLast? = some q):q.v≠x.v:=by
 induction S with
 | nil=>cases hq
 | cons s S ih =>
  cases S with
  | nil =>
   simp at hq; subst hq
   exact h.1 x rfl
  | cons t S =>
   rw [List.getLast?_cons_cons] at hq
   exact ih h.2 hq
end Go.Proofs.Ytmhmmomnfbfkiaa.Abs
