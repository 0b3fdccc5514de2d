/- Contracts of the machine and the contracts of one law (joined by kmerge.py). No claim stands here. -/
import Derived.Below
import Derived.Carry
import Derived.ChangeCalls
import Derived.ChangeOld
import Derived.IntWalk
import Derived.KernelRfl
import Derived.Laws.Append
import Derived.Laws.AppendOwn
import Derived.Laws.Cells
import Derived.Laws.CopyRow
import Derived.Laws.Entries
import Derived.Laws.MakeOwn
import Derived.Laws.NewFold
import Derived.Laws.Rows
import Derived.Laws.StructEq
import Derived.OpenShut
import Derived.Orders
import Derived.OrdersIn
import Derived.ProofKit
import Derived.RangeFuncLeaves
import Derived.RangeFuncSeq
import Derived.SizedLaws
import Derived.TacticsIn
import Derived.WalkKit
import Derived.Test.YtmhmmomnfbfkiaaMac
set_option maxRecDepth 100000
set_option linter.unusedSimpArgs false
set_option linter.unusedVariables false
namespace Go.Proofs.Ytmhmmomnfbfkiaa.Abs
open Go Go.RowKit Go.Proofs
attribute [local go_sem] Be DZ Bb DI DT Bf Cp Ae Ao Ce CR Cf CY Dn D1 Dh BG Bp Cy CA DJ ED Ds Dr Bu Dl DN CW Bx B7 CS Cn Bk C0 Cz BZ C9 CC Ch Di DO Ck B9 Bo Ct DB C2 DV BY Bq BP B1 Bt Cv BQ CI D9 CD BV CM CB D4 Bv EA DW Bs Bh CL Bd Dg BW BA CK Bj BC Bm Db A7 BT DH CO Dj Cq EF Br C7 CJ CX CP DF C4 DQ C8 CE Cd Cb Dm Bn D2 DX Df CQ Dz BX DR BE DL BB Ay D8 BS BM AF ev AZ Aa Al BD Au B0 DD Dy Cr Af Ai CF Cl Cg DP Dv DU B3 B2 DK EE CU CG C3 BK D0 Bw Da CZ Cw DG Bz Bg A9 AU setSeg nth seg mapD Aj Ax AL A6 BL BO Aw AY cond_true cond_false Co BI BF A8 BJ Cx Dp List.cons_append List.nil_append Bool.not_true Bool.not_false Bool.and_true Bool.and_self Nat.lt_add_left_iff_pos Nat.zero_add Nat.add_zero List.drop_succ_cons List.drop_zero List.take_succ_cons List.take_zero beq_self_eq_true Bool.false_eq_true C6 Cj EB DS B8 Dq Cm Dt D7 Ap and_self and_true true_and Ci Cs DE Dw BN DC D6 Do Ba Ca Cc By Du Dc DM C5 CV De An As Az Ah Bi Bc Dd BU BH CT EC Cu CH Bl D5 List.length_cons List.length_nil Nat.min_def Int.cast_ofNat_Int Int.natCast_zero Int.natCast_one decide_true decide_false List.getElem?_cons_zero List.getElem?_cons_succ CN D3 C1 Dk DA Dx
def G8 (n:Int):AV:=.tup [i64 (if Fit n then n else 0),bv (Fit n)]
theorem Iz {n:Int} (h:Fit n):G8 n = .tup [i64 n,bv true]:=by simp [G8,h]
theorem Jt {n:Int} (h:¬Fit n):G8 n = .tup [i64 0,bv false]:=by simp [G8,h]
theorem Pb {n m:Int} {b:Bool} (h:(b=true∧m=n∧Fit n)∨(b=false∧m=0∧¬Fit n)):AV.tup [i64 m,bv b]=G8 n:=by
 rcases h with ⟨rfl,rfl,h⟩ | ⟨rfl,rfl,h⟩
 ·exact (Iz h).symm
 ·exact (Jt h).symm
theorem wI (n:Int):IntKind.i64.wrap n=(n+9223372036854775808) % 18446744073709551616-9223372036854775808:=IntKind.wrap_i64 n
def Ep:Option Int→AV
 | some n=>.tup [i64 n,bv true]
 | none=>.tup [i64 0,bv false]
def LenP (x:Int) (n:Nat):Prop:=0≤x∧x<2 ^ n∧(x=0∧n=0∨0<n∧2 ^ (n-1)≤x)
theorem AKN {n m:Nat} (h:n≤m):(2:Int) ^ n≤2 ^ m:=by
 have:=Nat.pow_le_pow_right (n:=2) (by omega) h
 exact_mod_cast this
theorem Oi (n:Nat):(0:Int)<2 ^ n:=Int.pow_pos (by omega)
theorem LenP.shift {x:Int} {k n:Nat} (h0:0≤x) (h1:2 ^ k≤x) (h:LenP (x / 2 ^ k) n):LenP x (k+n):=by
 obtain ⟨a0,a1,a2⟩:=h
 have hk:=Oi k
 have e1:x<2 ^ (k+n):=by
  rw [Int.ediv_lt_iff_lt_mul hk] at a1
  rw [Int.pow_add,Int.mul_comm]; exact a1
 have h2:1≤x / 2 ^ k:=by rw [Int.le_ediv_iff_mul_le hk]; omega
 refine ⟨h0,e1,.inr ?_⟩
 rcases a2 with ⟨a2,_⟩ | ⟨a2,a3⟩
 ·omega
 ·refine ⟨by omega,?_⟩
  rw [Int.le_ediv_iff_mul_le hk] at a3
  have:k+n-1=k+(n-1):=by omega
  rw [this,Int.pow_add,Int.mul_comm]; exact a3
def HK (m q r c:Int):Prop:=m=1∧0<r∨m=2∧c≤2*r∨m=3∧(c<2*r∨c=2*r∧q % 2=1)
instance (m q r c:Int):Decidable (HK m q r c):=by unfold HK; exact inferInstance
def FD (p c m:Int):Int:=p / c+if HK m (p / c) (p % c) c then 1 else 0
def Ot (m:Int) (neg:Bool) (q r c:Int):Prop:=r≠0∧(m=0∧neg=true∨m=1∧neg=false∨m=2∧(r > c-r∨r=c-r∧neg=false)∨m=3∧(r > c-r∨r=c-r∧q % 2=1))
instance (m:Int) (neg:Bool) (q r c:Int):Decidable (Ot m neg q r c):=by unfold Ot; exact inferInstance
theorem Ze {p c:Int} (hc:0<c):p / c*c+p % c=p∧0≤p % c∧p % c<c:=by
 have e:=Int.emod_add_mul_ediv p c
 rw [Int.mul_comm] at e
 exact ⟨by omega,Int.emod_nonneg _ (by omega),Int.emod_lt_of_pos _ hc⟩
theorem Kv {p c m:Int} (hc:0<c) (hm:0≤m∧m≤3):∃q r,q*c+r=p∧0≤r∧r<c∧p / c=q∧p % c=r∧(¬HK m q r c∧FD p c m=q∨HK m q r c∧FD p c m=q+1):=by
 obtain ⟨e,f,g⟩:=Ze (p:=p) hc
 refine ⟨_,_,e,f,g,rfl,rfl,?_⟩
 unfold FD
 by_cases h:HK m (p / c) (p % c) c
 ·exact .inr ⟨h,by rw [if_pos h]⟩
 ·exact .inl ⟨h,by rw [if_neg h,Int.add_zero]⟩
theorem RC {p p' c m:Int} (hc:0<c) (hm:0≤m∧m≤3) (h:p≤p'):FD p c m≤FD p' c m:=by
 obtain ⟨q,r,e,f,g,d1,d2,hh⟩:=Kv (p:=p) hc hm
 obtain ⟨q',r',e',f',g',d1',d2',hh'⟩:=Kv (p:=p') hc hm
 have hq:q≤q':=by rw [←d1,←d1']; exact Int.ediv_le_ediv hc h
 rcases Int.lt_or_eq_of_le hq with h1 | h1
 ·omega
 ·subst h1
  have hr:r≤r':=by omega
  unfold HK at hh hh'
  omega
theorem Te {a c m:Int} (hc:0<c) (hm:0≤m∧m≤3) (ha : -9223372036854775808≤a∧a≤9223372036854775807) : -9223372036854775808≤FD a c m∧FD a c m≤9223372036854775807:=by
 have h1:FD (-9223372036854775808) c m≤FD a c m:=RC hc hm ha.1
 have h2:FD a c m≤FD 9223372036854775807 c m:=RC hc hm ha.2
 have h3 : -9223372036854775808≤FD (-9223372036854775808) c m:=by
  obtain ⟨q,r,e,f,g,d1,d2,hh⟩:=Kv (p:=-9223372036854775808) hc hm
  have : -9223372036854775808≤q:=by
   rw [←d1,Int.le_ediv_iff_mul_le hc]; omega
  omega
 have h4:FD 9223372036854775807 c m≤9223372036854775807:=by
  obtain ⟨q,r,e,f,g,d1,d2,hh⟩:=Kv (p:=9223372036854775807) hc hm
  by_cases h0:c=1
  ·subst h0
   unfold HK at hh
   omega
  ·have:q<4611686018427387904:=by
    rw [←d1,Int.ediv_lt_iff_lt_mul hc]; omega
   omega
 omega
def HV (p c:Int):Int:=if p / c≤9223372036854775807 then p / c else 9223372036854775807
theorem Qq {p c n:Int} (hc:0<c) (hn:n≤9223372036854775807):n≤HV p c↔n*c≤p:=by
 unfold HV
 rw [←Int.le_ediv_iff_mul_le hc]
 split <;> omega
def JK (p c m:Int):AV:=if 0<c∧0≤m∧m≤3 then G8 (FD p c m) else .tup [i64 0,bv false]
theorem PB {p c m:Int} (hc:0<c) (hm:0≤m∧m≤3):JK p c m=G8 (FD p c m):=by rw [JK,if_pos ⟨hc,hm⟩]
theorem AAL {p c m:Int} (h:¬(0<c∧0≤m∧m≤3)):JK p c m = .tup [i64 0,bv false]:=by rw [JK,if_neg h]
structure Adj where
 k:Int
 n:Int
 m:Int
def Adj.el (a:Adj):List D:=[.int .i64 a.k,.int .i64 a.n,.int .i64 a.m]
def JS (l:List Adj):List (List D):=l.map Adj.el
theorem HW {l:List Adj}:(JS l).length=l.length:=List.length_map ..
theorem AKH {l:List Adj} {i:Nat} (h:i<l.length):(JS l)[((i:Int)).toNat]? = some (Adj.el l[i]):=by
 rw [Int.toNat_natCast]; simp [JS,h]
abbrev E4 (l:List Adj):AV:=.d (.sl 3 (JS l))
def Adj.Fit (a:Adj):Prop:=Abs.Fit a.k∧Abs.Fit a.n∧Abs.Fit a.m
def JH (n:Int):Option Int:=if Fit n then some n else none
theorem RF (n:Int):G8 n=Ep (JH n):=by
 unfold JH
 by_cases h:Fit n
 ·rw [Iz h,if_pos h]; rfl
 ·rw [Jt h,if_neg h]; rfl
def Il (p c m:Int):Option Int:=if 0<c∧0≤m∧m≤3 then JH (FD p c m) else none
theorem OQ (p c m:Int):JK p c m=Ep (Il p c m):=by
 unfold JK Il
 split
 ·exact RF _
 ·rfl
theorem AKa {n:Nat} {l:List D} (h:Et Try.prog (n+2) 136 l):∃a:Adj,a.Fit∧l=a.el:=by
 obtain ⟨ls,rfl,h1,_⟩:=J9 (fs:=#[⟨"Kind",3,0,false,"","",0⟩,⟨"N",3,1,false,"","",8⟩,⟨"Mode",3,2,false,"","",16⟩]) h (by kernel_rfl)
 obtain ⟨l0,r0,rfl,t0,h1⟩:=typedL_cons h1
 obtain ⟨l1,r1,rfl,t1,h1⟩:=typedL_cons h1
 obtain ⟨l2,r2,rfl,t2,h1⟩:=typedL_cons h1
 obtain rfl:=typedL_nil h1
 obtain ⟨z0,rfl,f0,_⟩:=typed_int t0 (by kernel_rfl)
 obtain ⟨z1,rfl,f1,_⟩:=typed_int t1 (by kernel_rfl)
 obtain ⟨z2,rfl,f2,_⟩:=typed_int t2 (by kernel_rfl)
 exact ⟨⟨z0,z1,z2⟩,⟨f0,f1,f2⟩,rfl⟩
structure Tier where
 u:Int
 r:Int
def Tier.el (a:Tier):List D:=[.int .i64 a.u,.int .i64 a.r]
def KA (l:List Tier):List (List D):=l.map Tier.el
theorem FX {l:List Tier}:(KA l).length=l.length:=List.length_map ..
theorem Jc {l:List Tier} {i:Nat} (h:i<l.length):(KA l)[((i:Int)).toNat]? = some [.int .i64 l[i].u,.int .i64 l[i].r]:=by
 rw [Int.toNat_natCast]; simp [KA,h,Tier.el]
theorem Ns {l:List Adj} {i:Nat} (h:i<l.length):(JS l)[((i:Int)).toNat]? = some [.int .i64 l[i].k,.int .i64 l[i].n,.int .i64 l[i].m]:=AKH h
abbrev E9 (l:List Tier):AV:=.d (.sl 2 (KA l))
def Tier.Fit (a:Tier):Prop:=Abs.Fit a.u∧Abs.Fit a.r
structure PartX where
 me:Int
 f:Int
 t:Int
 al:Int
 bl:Int
 ki:Int
 ts:List Tier
 mo:Int
 ad:List Adj
abbrev PartX.el (x:PartX):List D:=[.int .i64 x.me,.int .i64 x.f,.int .i64 x.t,.int .i64 x.al,.int .i64 x.bl,.int .i64 x.ki,.sl 2 (KA x.ts),.int .i64 x.mo,.sl 3 (JS x.ad)]
abbrev IK (x:PartX):AV:=.agg [i64 x.me,i64 x.f,i64 x.t,i64 x.al,i64 x.bl,i64 x.ki,E9 x.ts,i64 x.mo,E4 x.ad]
structure PartX.Fit (x:PartX):Prop where
 me:Abs.Fit x.me
 f:Abs.Fit x.f
 t:Abs.Fit x.t
 al:Abs.Fit x.al
 bl:Abs.Fit x.bl
 ki:Abs.Fit x.ki
 ts:∀a∈x.ts,Tier.Fit a
 tn:x.ts.length≤9223372036854775807
 mo:Abs.Fit x.mo
 ad:∀a∈x.ad,Adj.Fit a
 an:x.ad.length≤9223372036854775807
theorem Pd {α:Type} {g : α→List D} {F : α→Prop} {n:Nat} {e:TypeId} (hh:∀l,Et Try.prog n e l→∃a,F a∧l=g a):∀{xs:List (List D)},(∀el∈xs,Et Try.prog n e el)→∃zs:List α,xs=zs.map g∧∀a∈zs,F a
 | [],_=>⟨[],rfl,fun a h=>by cases h⟩
 | x::xs,h2=>by
  obtain ⟨a,ha,rfl⟩:=hh x (h2 x (List.mem_cons_self ..))
  obtain ⟨zs,rfl,hz⟩:=Pd hh (fun el h'=>h2 el (List.mem_cons_of_mem _ h'))
  refine ⟨a::zs,rfl,fun b hb=>?_⟩
  rcases List.mem_cons.1 hb with rfl | hb
  ·exact ha
  ·exact hz b hb
theorem Z7 {n:Nat} {l:List D} (h:Et Try.prog (n+2) 141 l):∃a:Tier,a.Fit∧l=a.el:=by
 obtain ⟨ls,rfl,h1,_⟩:=J9 (fs:=#[⟨"Upto",3,0,false,"","",0⟩,⟨"Rate",3,1,false,"","",8⟩]) h (by kernel_rfl)
 obtain ⟨l0,r0,rfl,t0,h1⟩:=typedL_cons h1
 obtain ⟨l1,r1,rfl,t1,h1⟩:=typedL_cons h1
 obtain rfl:=typedL_nil h1
 obtain ⟨z0,rfl,f0,_⟩:=typed_int t0 (by kernel_rfl)
 obtain ⟨z1,rfl,f1,_⟩:=typed_int t1 (by kernel_rfl)
 exact ⟨⟨z0,z1⟩,⟨f0,f1⟩,rfl⟩
theorem Ku {α:Type} {g : α→List D} {F : α→Prop} {n k:Nat} {t e:TypeId} {l:List D} (hh:∀l,Et Try.prog n e l→∃a,F a∧l=g a) (ht:Try.prog.underlying t=some (.slice e)) (hc:Try.prog.cellsOf e=k) (h:Et Try.prog (n+1) t l) :
  ∃zs:List α,l=[.sl k (zs.map g)]∧(∀a∈zs,F a)∧zs.length≤9223372036854775807:=by
 obtain ⟨xs,rfl,h1,h2,_⟩:=Ou h ht
 obtain ⟨zs,rfl,hz⟩:=Pd hh h2
 exact ⟨zs,by rw [hc],hz,by rw [List.length_map] at h1; exact h1⟩
theorem ADE {n:Nat} {l:List D} (h:Et Try.prog (n+4) 93 l):∃x:PartX,x.Fit∧l=x.el∧Gs Try.prog 93 l=IK x:=by
 obtain ⟨ls,rfl,h1,e⟩:=J9 (fs:=#[⟨"Meter",3,0,false,"","",0⟩,⟨"From",3,1,false,"","",8⟩,⟨"To",3,2,false,"","",16⟩,⟨"Allowance",3,3,false,"","",24⟩,⟨"Block",3,4,false,"","",32⟩,⟨"Kind",3,5,false,"","",40⟩,⟨"Tiers",90,6,false,"","",48⟩,⟨"Mode",3,7,false,"","",72⟩,⟨"Adjusts",91,8,false,"","",80⟩]) h (by kernel_rfl)
 obtain ⟨l0,r0,rfl,t0,h1⟩:=typedL_cons h1
 obtain ⟨l1,r1,rfl,t1,h1⟩:=typedL_cons h1
 obtain ⟨l2,r2,rfl,t2,h1⟩:=typedL_cons h1
 obtain ⟨l3,r3,rfl,t3,h1⟩:=typedL_cons h1
 obtain ⟨l4,r4,rfl,t4,h1⟩:=typedL_cons h1
 obtain ⟨l5,r5,rfl,t5,h1⟩:=typedL_cons h1
 obtain ⟨l6,r6,rfl,t6,h1⟩:=typedL_cons h1
 obtain ⟨l7,r7,rfl,t7,h1⟩:=typedL_cons h1
 obtain ⟨l8,r8,rfl,t8,h1⟩:=typedL_cons h1
 obtain rfl:=typedL_nil h1
 obtain ⟨z0,rfl,f0,_⟩:=typed_int t0 (by kernel_rfl)
 obtain ⟨z1,rfl,f1,_⟩:=typed_int t1 (by kernel_rfl)
 obtain ⟨z2,rfl,f2,_⟩:=typed_int t2 (by kernel_rfl)
 obtain ⟨z3,rfl,f3,_⟩:=typed_int t3 (by kernel_rfl)
 obtain ⟨z4,rfl,f4,_⟩:=typed_int t4 (by kernel_rfl)
 obtain ⟨z5,rfl,f5,_⟩:=typed_int t5 (by kernel_rfl)
 obtain ⟨z7,rfl,f7,_⟩:=typed_int t7 (by kernel_rfl)
 obtain ⟨z6,rfl,f6,g6⟩:=Ku (k:=2) (e:=141) (fun l h=>Z7 h) (by kernel_rfl) (by kernel_rfl) t6
 obtain ⟨z8,rfl,f8,g8⟩:=Ku (k:=3) (e:=136) (fun l h=>AKa h) (by kernel_rfl) (by kernel_rfl) t8
 exact ⟨⟨z0,z1,z2,z3,z4,z5,z6,z7,z8⟩,⟨f0,f1,f2,f3,f4,f5,f6,g6,f7,f8,g8⟩,rfl,e⟩
abbrev KK (cur:ByteArray) (f t:Int) (ms ss ps:List (List D)):AV:=.agg [.d (.str cur),i64 f,i64 t,.d (.sl 5 ms),.d (.sl 3 ss),.d (.sl 9 ps)]
theorem Oz {n lo hi:Int}:DataW Try.prog Mi [i64 n,i64 lo,i64 hi] (bv (decide (lo≤n∧n≤hi))):=by
 refine Am RU (by simp) ?_
 by_cases h1:lo≤n
 ·by_cases h2:n≤hi
  ·simp -implicitDefEqProofs -proj only [go_sem,seval,decide_eq_true h1,decide_eq_true h2]
   exact AJ (by rw [decide_eq_true ⟨h1,h2⟩])
  ·simp -implicitDefEqProofs -proj only [go_sem,seval,decide_eq_true h1,decide_eq_false h2]
   exact AJ (by rw [decide_eq_false (fun h=>h2 h.2)])
 ·simp -implicitDefEqProofs -proj only [go_sem,seval,decide_eq_false h1]
  exact AJ (by rw [decide_eq_false (fun h=>h1 h.1)])
theorem EV {n lo hi:Int} (h:lo≤n∧n≤hi):DataW Try.prog Mi [i64 n,i64 lo,i64 hi] (bv true):=by
 have:=@Oz n lo hi; rwa [decide_eq_true h] at this
theorem Eb {n lo hi:Int} (h:¬(lo≤n∧n≤hi)):DataW Try.prog Mi [i64 n,i64 lo,i64 hi] (bv false):=by
 have:=@Oz n lo hi; rwa [decide_eq_false h] at this
theorem MP {cur:ByteArray} {f t a b:Int} {ms ss ps:List (List D)}:DataW Try.prog AEO [KK cur f t ms ss ps,i64 a,i64 b] (bv (decide (f≤a∧a≤b∧b≤t))):=by
 refine Am Yj (by simp) ?_
 simp -implicitDefEqProofs -proj only [go_sem,seval]
 refine AN (fun b3 hb3=>?_)
 by_cases h1:f≤a
 ·by_cases h2:a≤b
  ·by_cases h3:b≤t
   ·simp -implicitDefEqProofs -proj only [go_sem,seval,decide_eq_true h1,decide_eq_true h2,decide_eq_true h3]
    exact AJ (by rw [decide_eq_true ⟨h1,h2,h3⟩])
   ·simp -implicitDefEqProofs -proj only [go_sem,seval,decide_eq_true h1,decide_eq_true h2,decide_eq_false h3]
    exact AJ (by rw [decide_eq_false (fun h=>h3 h.2.2)])
  ·simp -implicitDefEqProofs -proj only [go_sem,seval,decide_eq_true h1,decide_eq_false h2]
   exact AJ (by rw [decide_eq_false (fun h=>h2 h.2.1)])
 ·simp -implicitDefEqProofs -proj only [go_sem,seval,decide_eq_false h1]
  exact AJ (by rw [decide_eq_false (fun h=>h1 h.1)])
structure MeterX where
 nm:ByteArray
 un:ByteArray
 mx:Int
 ln:Int
 co:Int
def MeterX.el (a:MeterX):List D:=[.str a.nm,.str a.un,.int .i64 a.mx,.int .i64 a.ln,.int .i64 a.co]
def AS (l:List MeterX):List (List D):=l.map MeterX.el
theorem GB {l:List MeterX}:(AS l).length=l.length:=List.length_map ..
theorem Hf {l:List MeterX} {i:Nat} (h:i<l.length):(AS l)[((i:Int)).toNat]? = some [.str l[i].nm,.str l[i].un,.int .i64 l[i].mx,.int .i64 l[i].ln,.int .i64 l[i].co]:=by
 rw [Int.toNat_natCast]; simp [AS,h,MeterX.el]
def MeterX.Fit (a:MeterX):Prop:=Abs.Fit a.mx∧Abs.Fit a.ln∧Abs.Fit a.co
structure SumX where
 a:Int
 f:Int
 t:Int
def SumX.el (a:SumX):List D:=[.int .i64 a.a,.int .i64 a.f,.int .i64 a.t]
def Fc (l:List SumX):List (List D):=l.map SumX.el
theorem Gl {l:List SumX}:(Fc l).length=l.length:=List.length_map ..
theorem Lh {l:List SumX} {i:Nat} (h:i<l.length):(Fc l)[((i:Int)).toNat]? = some [.int .i64 l[i].a,.int .i64 l[i].f,.int .i64 l[i].t]:=by
 rw [Int.toNat_natCast]; simp [Fc,h,SumX.el]
def SumX.Fit (a:SumX):Prop:=Abs.Fit a.a∧Abs.Fit a.f∧Abs.Fit a.t
def FQ (l:List PartX):List (List D):=l.map PartX.el
theorem GY {l:List PartX}:(FQ l).length=l.length:=List.length_map ..
theorem K4 {l:List PartX} {i:Nat} (h:i<l.length):(FQ l)[((i:Int)).toNat]? = some [.int .i64 l[i].me,.int .i64 l[i].f,.int .i64 l[i].t,.int .i64 l[i].al,.int .i64 l[i].bl,.int .i64 l[i].ki,.sl 2 (KA l[i].ts),.int .i64 l[i].mo,.sl 3 (JS l[i].ad)]:=by
 rw [Int.toNat_natCast]; simp [FQ,h,PartX.el]
structure CoreX where
 cur:ByteArray
 f:Int
 t:Int
 ms:List MeterX
 ss:List SumX
 ps:List PartX
abbrev Gm (c:CoreX):AV:=KK c.cur c.f c.t (AS c.ms) (Fc c.ss) (FQ c.ps)
structure CoreX.Fit (c:CoreX):Prop where
 f:Abs.Fit c.f
 t:Abs.Fit c.t
 ms:∀a∈c.ms,a.Fit
 mn:c.ms.length≤9223372036854775807
 ss:∀a∈c.ss,a.Fit
 sn:c.ss.length≤9223372036854775807
 ps:∀a∈c.ps,a.Fit
 pn:c.ps.length≤9223372036854775807
theorem M0 {n:Nat} {t:TypeId} {l:List D} (h:Et Try.prog (n+1) t l) (ht:Try.prog.underlying t=some .string):∃s,l=[.str s]:=by
 rw [Et,ht] at h
 obtain ⟨s,rfl,_⟩:=h
 exact ⟨s,rfl⟩
theorem XH {n:Nat} {l:List D} (h:Et Try.prog (n+2) 39 l):∃a:MeterX,a.Fit∧l=a.el:=by
 obtain ⟨ls,rfl,h1,_⟩:=J9 (fs:=#[⟨"Name",9,0,false,"","",0⟩,⟨"Unit",9,1,false,"","",16⟩,⟨"Max",3,2,false,"","",32⟩,⟨"Line",3,3,false,"","",40⟩,⟨"Col",3,4,false,"","",48⟩]) h (by kernel_rfl)
 obtain ⟨l0,r0,rfl,t0,h1⟩:=typedL_cons h1
 obtain ⟨l1,r1,rfl,t1,h1⟩:=typedL_cons h1
 obtain ⟨l2,r2,rfl,t2,h1⟩:=typedL_cons h1
 obtain ⟨l3,r3,rfl,t3,h1⟩:=typedL_cons h1
 obtain ⟨l4,r4,rfl,t4,h1⟩:=typedL_cons h1
 obtain rfl:=typedL_nil h1
 obtain ⟨z0,rfl⟩:=M0 t0 (by kernel_rfl)
 obtain ⟨z1,rfl⟩:=M0 t1 (by kernel_rfl)
 obtain ⟨z2,rfl,f2,_⟩:=typed_int t2 (by kernel_rfl)
 obtain ⟨z3,rfl,f3,_⟩:=typed_int t3 (by kernel_rfl)
 obtain ⟨z4,rfl,f4,_⟩:=typed_int t4 (by kernel_rfl)
 exact ⟨⟨z0,z1,z2,z3,z4⟩,⟨f2,f3,f4⟩,rfl⟩
theorem AFR {n:Nat} {l:List D} (h:Et Try.prog (n+2) 89 l):∃a:SumX,a.Fit∧l=a.el:=by
 obtain ⟨ls,rfl,h1,_⟩:=J9 (fs:=#[⟨"Amount",3,0,false,"","",0⟩,⟨"From",3,1,false,"","",8⟩,⟨"To",3,2,false,"","",16⟩]) h (by kernel_rfl)
 obtain ⟨l0,r0,rfl,t0,h1⟩:=typedL_cons h1
 obtain ⟨l1,r1,rfl,t1,h1⟩:=typedL_cons h1
 obtain ⟨l2,r2,rfl,t2,h1⟩:=typedL_cons h1
 obtain rfl:=typedL_nil h1
 obtain ⟨z0,rfl,f0,_⟩:=typed_int t0 (by kernel_rfl)
 obtain ⟨z1,rfl,f1,_⟩:=typed_int t1 (by kernel_rfl)
 obtain ⟨z2,rfl,f2,_⟩:=typed_int t2 (by kernel_rfl)
 exact ⟨⟨z0,z1,z2⟩,⟨f0,f1,f2⟩,rfl⟩
theorem typed_core {n:Nat} {l:List D} (h:Et Try.prog (n+6) 26 l):∃c:CoreX,c.Fit∧l=[.str c.cur,.int .i64 c.f,.int .i64 c.t,.sl 5 (AS c.ms),.sl 3 (Fc c.ss),.sl 9 (FQ c.ps)]∧Gs Try.prog 26 l=Gm c:=by
 obtain ⟨ls,rfl,h1,e⟩:=J9 (fs:=#[⟨"Currency",9,0,false,"","",0⟩,⟨"From",3,1,false,"","",16⟩,⟨"To",3,2,false,"","",24⟩,⟨"Meters",22,3,false,"","",32⟩,⟨"Sums",23,4,false,"","",56⟩,⟨"Parts",24,5,false,"","",80⟩]) h (by kernel_rfl)
 obtain ⟨l0,r0,rfl,t0,h1⟩:=typedL_cons h1
 obtain ⟨l1,r1,rfl,t1,h1⟩:=typedL_cons h1
 obtain ⟨l2,r2,rfl,t2,h1⟩:=typedL_cons h1
 obtain ⟨l3,r3,rfl,t3,h1⟩:=typedL_cons h1
 obtain ⟨l4,r4,rfl,t4,h1⟩:=typedL_cons h1
 obtain ⟨l5,r5,rfl,t5,h1⟩:=typedL_cons h1
 obtain rfl:=typedL_nil h1
 obtain ⟨z0,rfl⟩:=M0 t0 (by kernel_rfl)
 obtain ⟨z1,rfl,f1,_⟩:=typed_int t1 (by kernel_rfl)
 obtain ⟨z2,rfl,f2,_⟩:=typed_int t2 (by kernel_rfl)
 obtain ⟨z3,rfl,f3,g3⟩:=Ku (k:=5) (e:=39) (fun l h=>XH h) (by kernel_rfl) (by kernel_rfl) t3
 obtain ⟨z4,rfl,f4,g4⟩:=Ku (k:=3) (e:=89) (fun l h=>AFR h) (by kernel_rfl) (by kernel_rfl) t4
 obtain ⟨z5,rfl,f5,g5⟩:=Ku (k:=9) (e:=93) (g:=PartX.el) (F:=PartX.Fit) (fun l h=>by obtain ⟨x,h1,h2,_⟩:=ADE h; exact ⟨x,h1,h2⟩) (by kernel_rfl) (by kernel_rfl) t5
 exact ⟨⟨z0,z1,z2,z3,z4,z5⟩,⟨f1,f2,f3,g3,f4,g4,f5,g5⟩,rfl,e⟩
def Kh (m:MeterX):Prop:=200<(m.nm.size:Int)∨200<(m.un.size:Int)
def KJ (x:PartX):Prop:=40<(x.ts.length:Int)∨40<(x.ad.length:Int)
def It (c:CoreX):Prop:=(20<(c.ms.length:Int)∨40<(c.ss.length:Int)∨40<(c.ps.length:Int)∨200<(c.cur.size:Int))∨(∃m∈c.ms,Kh m)∨∃x∈c.ps,KJ x
noncomputable instance (c:CoreX):Decidable (It c):=Classical.propDecidable _
theorem Zw {c:CoreX}:DataW Try.prog AF9 [Gm c] (bv (decide (It c))):=by
 obtain ⟨cur,f,t,ms,ss,ps⟩:=c
 refine Am R3 (by simp) ?_
 simp -implicitDefEqProofs -proj only [go_sem,seval]
 refine AN (fun b1 hb1=>?_)
 by_cases g1:20<(ms.length:Int)
 ·simp -implicitDefEqProofs -proj only [go_sem,seval,GB,Gl,GY,decide_eq_true g1]
  exact AJ (by rw [decide_eq_true (.inl (.inl g1))])
 by_cases g2:40<(ss.length:Int)
 ·simp -implicitDefEqProofs -proj only [go_sem,seval,GB,Gl,GY,decide_eq_false g1,decide_eq_true g2]
  exact AJ (by rw [decide_eq_true (.inl (.inr (.inl g2)))])
 by_cases g3:40<(ps.length:Int)
 ·simp -implicitDefEqProofs -proj only [go_sem,seval,GB,Gl,GY,decide_eq_false g1,decide_eq_false g2,decide_eq_true g3]
  exact AJ (by rw [decide_eq_true (.inl (.inr (.inr (.inl g3))))])
 by_cases g4:200<(cur.size:Int)
 ·simp -implicitDefEqProofs -proj only [go_sem,seval,GB,Gl,GY,decide_eq_false g1,decide_eq_false g2,decide_eq_false g3,decide_eq_true g4]
  exact AJ (by rw [decide_eq_true (.inl (.inr (.inr (.inr g4))))])
 simp -implicitDefEqProofs -proj only [go_sem,seval,GB,Gl,GY,decide_eq_false g1,decide_eq_false g2,decide_eq_false g3,decide_eq_false g4]
 refine EN (fun i:Nat=>i≤ms.length∧∀(j:Nat) (h:j<ms.length),j<i→¬Kh ms[j]) 65 (fun i=>[(1,.ptr b1 0),(30,.d (.sl 5 (AS ms))),(31,i64 ms.length),(32,i64 i)]) (fun _=>[(b1,.box 26 [.d (.str cur),i64 f,i64 t,.d (.sl 5 (AS ms)),.d (.sl 3 (Fc ss)),.d (.sl 9 (FQ ps))])]) (fun i=>ms.length-i) 0 ⟨Nat.zero_le _,fun j _ h=>absurd h (Nat.not_lt_zero _)⟩ rfl ?_ ?_ ?_
 ·simp -implicitDefEqProofs -proj only [go_sem,seval,AK]
 ·simp -implicitDefEqProofs -proj only [go_sem,seval,AR]
 ·rintro i ⟨hi,hs⟩
  have hk:AR (Ak [(b1,.box 26 [.d (.str cur),i64 f,i64 t,.d (.sl 5 (AS ms)),.d (.sl 3 (Fc ss)),.d (.sl 9 (FQ ps))])]) [(b1,.box 26 [.d (.str cur),i64 f,i64 t,.d (.sl 5 (AS ms)),.d (.sl 3 (Fc ss)),.d (.sl 9 (FQ ps))])]:=EZ (by simp [AP])
  have k1:=hk.1
  by_cases h:i<ms.length
  ·have hel:=Hf h
   have hno:Kh ms[i]→It ⟨cur,f,t,ms,ss,ps⟩:=fun e=>.inr (.inl ⟨_,List.getElem_mem h,e⟩)
   have hgo:¬Kh ms[i]→∀(j:Nat) (h:j<ms.length),j<i+1→¬Kh ms[j]:=by
    intro e j h1 h2
    by_cases hj:j=i
    ·subst hj; exact e
    ·exact hs j h1 (by omega)
   generalize ms[i]=m at *
   simp -implicitDefEqProofs -proj only [go_sem,seval,decide_eq_true (show (i:Int)<ms.length by omega)]
   refine EG _ (by omega) hel ?_
   simp -implicitDefEqProofs -proj only [go_sem,seval]
   refine AN (fun b4 hb4=>?_)
   replace hb4:Ak [(b1,Blk.box 26 [.d (.str cur),i64 f,i64 t,.d (.sl 5 (AS ms)),.d (.sl 3 (Fc ss)),.d (.sl 9 (FQ ps))])] b4=none:=hb4
   obtain ⟨n1,n2⟩:=Ac hb4 k1
   by_cases c1:200<(m.nm.size:Int)
   ·simp -implicitDefEqProofs -proj only [go_sem,seval,n1,n2,decide_eq_true c1]
    exact AJ (by rw [decide_eq_true (hno (.inl c1))])
   by_cases c2:200<(m.un.size:Int)
   ·simp -implicitDefEqProofs -proj only [go_sem,seval,n1,n2,decide_eq_false c1,decide_eq_true c2]
    exact AJ (by rw [decide_eq_true (hno (.inr c2))])
   simp -implicitDefEqProofs -proj only [go_sem,seval,n1,n2,decide_eq_false c1,decide_eq_false c2]
   refine AX (i+1) ⟨by omega,hgo (fun e=>e.elim c1 c2)⟩ (by show ms.length-(i+1)<ms.length-i; omega) rfl ?_ (Ar hb4 hk)
   simp -implicitDefEqProofs -proj only [go_sem,seval,AK,Ab (show i<9223372036854775807 by omega)]
  ·have hi':i=ms.length:=by omega
   subst hi'
   simp -implicitDefEqProofs -proj only [go_sem,seval,k1,GY,decide_eq_false (show ¬(ms.length:Int)<ms.length by omega)]
   refine EN (fun i:Nat=>i≤ps.length∧∀(j:Nat) (h:j<ps.length),j<i→¬KJ ps[j]) 65 (fun i=>[(48,.d (.sl 9 (FQ ps))),(49,i64 ps.length),(50,i64 i)]) (fun _=>[]) (fun i=>ps.length-i) 0 ⟨Nat.zero_le _,fun j _ h=>absurd h (Nat.not_lt_zero _)⟩ rfl ?_ ?_ ?_
   ·simp -implicitDefEqProofs -proj only [go_sem,seval,AK]
   ·trivial
   ·rintro i ⟨hi2,hs2⟩
    by_cases h2:i<ps.length
    ·have hel:=K4 h2
     have hno:KJ ps[i]→It ⟨cur,f,t,ms,ss,ps⟩:=fun e=>.inr (.inr ⟨_,List.getElem_mem h2,e⟩)
     have hgo:¬KJ ps[i]→∀(j:Nat) (h:j<ps.length),j<i+1→¬KJ ps[j]:=by
      intro e j h1 h2
      by_cases hj:j=i
      ·subst hj; exact e
      ·exact hs2 j h1 (by omega)
     generalize ps[i]=x at *
     simp -implicitDefEqProofs -proj only [go_sem,seval,decide_eq_true (show (i:Int)<ps.length by omega)]
     refine EG _ (by omega) hel ?_
     simp -implicitDefEqProofs -proj only [go_sem,seval]
     refine AN (fun b4 hb4=>?_)
     by_cases c1:40<(x.ts.length:Int)
     ·simp -implicitDefEqProofs -proj only [go_sem,seval,FX,HW,decide_eq_true c1]
      exact AJ (by rw [decide_eq_true (hno (.inl c1))])
     by_cases c2:40<(x.ad.length:Int)
     ·simp -implicitDefEqProofs -proj only [go_sem,seval,FX,HW,decide_eq_false c1,decide_eq_true c2]
      exact AJ (by rw [decide_eq_true (hno (.inr c2))])
     simp -implicitDefEqProofs -proj only [go_sem,seval,FX,HW,decide_eq_false c1,decide_eq_false c2]
     refine AX (i+1) ⟨by omega,hgo (fun e=>e.elim c1 c2)⟩ (by show ps.length-(i+1)<ps.length-i; omega) rfl ?_ trivial
     simp -implicitDefEqProofs -proj only [go_sem,seval,AK,Ab (show i<9223372036854775807 by omega)]
    ·have hi3:i=ps.length:=by omega
     subst hi3
     have hfin:¬It ⟨cur,f,t,ms,ss,ps⟩:=by
      rintro (h | ⟨m,hm,h⟩ | ⟨x,hx,h⟩)
      ·simp -implicitDefEqProofs only [] at h; omega
      ·obtain ⟨j,hj,rfl⟩:=List.getElem_of_mem hm
       exact hs j hj hj h
      ·obtain ⟨j,hj,rfl⟩:=List.getElem_of_mem hx
       exact hs2 j hj hj h
     simp -implicitDefEqProofs -proj only [go_sem,seval,decide_eq_false (show ¬(ps.length:Int)<ps.length by omega)]
     exact AJ (by rw [decide_eq_false hfin])
def FP (T:List Tier) (i:Nat):Int:=if i+1=T.length then 0 else match T[i-1]? with
 | some p=>if 0<i∧1≤p.u then min p.u 1000000+1 else 1
 | none=>1
def Fh (T:List Tier) (i:Nat):Int:=if i+1=T.length then 0 else 1000000
def HI (T:List Tier) (i:Nat) (t:Tier):Prop:=(0≤t.r∧t.r≤1000000000000)∧(FP T i≤t.u∧t.u≤Fh T i)
instance (T:List Tier) (i:Nat) (t:Tier):Decidable (HI T i t):=by unfold HI; exact inferInstance
def Gz (a:Adj):Prop:=a.k=1∧(0≤a.n∧a.n≤100000000)∧(0≤a.m∧a.m≤3)∨(a.k=2∨a.k=3∨a.k=4)∧(0≤a.n∧a.n≤1000000000000)∧a.m=0
instance (a:Adj):Decidable (Gz a):=by unfold Gz; exact inferInstance
def JA (f t:Int) (nm:Nat) (x:PartX):Prop:=0≤x.me∧x.me<nm∧(f≤x.f∧x.f≤x.t∧x.t≤t)∧(0≤x.al∧x.al≤1000000)∧(1≤x.bl∧x.bl≤1000000)∧(x.ki=1∨x.ki=2)∧(0≤x.mo∧x.mo≤3)∧1≤x.ts.length∧x.ts.length≤8∧x.ad.length≤6
instance (f t:Int) (nm:Nat) (x:PartX):Decidable (JA f t nm x):=by unfold JA; exact inferInstance
def HY (T:List Tier):Prop:=∀(i:Nat) (h:i<T.length),HI T i T[i]
def Hy (l:List Adj):Prop:=∀a∈l,Gz a
noncomputable instance (T:List Tier):Decidable (HY T):=Classical.propDecidable _
noncomputable instance (l:List Adj):Decidable (Hy l):=Classical.propDecidable _
def G2 (f t:Int) (nm:Nat) (x:PartX):Prop:=JA f t nm x∧HY x.ts∧Hy x.ad
noncomputable instance (f t:Int) (nm:Nat) (x:PartX):Decidable (G2 f t nm x):=by unfold G2; exact inferInstance
theorem PM {T:List Tier} {i:Nat} (h:i+1=T.length):FP T i=0∧Fh T i=0:=⟨if_pos h,if_pos h⟩
theorem Qi {T:List Tier} (h:¬0+1=T.length):FP T 0=1∧Fh T 0=1000000:=by
 refine ⟨?_,if_neg h⟩
 unfold FP
 rw [if_neg h]
 split
 ·rw [if_neg (by omega)]
 ·rfl
theorem Ne {T:List Tier} {i:Nat} (h0:0<i) (hi:i-1<T.length) (h:¬i+1=T.length) (hu:1≤T[i-1].u):FP T i=min T[i-1].u 1000000+1∧Fh T i=1000000:=by
 refine ⟨?_,if_neg h⟩
 unfold FP
 rw [if_neg h,List.getElem?_eq_getElem hi]
 exact if_pos ⟨h0,hu⟩
theorem Py {T:List Tier} {i:Nat} (h0:0<i) (hi:i-1<T.length) (h:¬i+1=T.length) (hu:¬1≤T[i-1].u):FP T i=1∧Fh T i=1000000:=by
 refine ⟨?_,if_neg h⟩
 unfold FP
 rw [if_neg h,List.getElem?_eq_getElem hi]
 exact if_neg (fun h=>hu h.2)
set_option maxRecDepth 20000 in
theorem ZD {cur:ByteArray} {f t:Int} {ms ss ps:List (List D)} {x:PartX} (h:¬JA f t ms.length x):DataW Try.prog MJ [KK cur f t ms ss ps,IK x] (bv false):=by
 refine Am PN (by simp) ?_
 simp -implicitDefEqProofs -proj only [go_sem,seval]
 refine AN (fun b2 hb2=>?_)
 simp -implicitDefEqProofs -proj only [go_sem,seval]
 refine AN (fun b3 hb3=>?_)
 replace hb3:upd Heap.none b2 _ b3=none:=hb3
 obtain ⟨n1,n2⟩:=Ac hb3 Ad
 unfold JA at h
 by_cases g1:x.me<0
 ·simp -implicitDefEqProofs -proj only [go_sem,seval,n1,n2,decide_eq_true g1]
  exact AJ rfl
 by_cases g2:(ms.length:Int)≤x.me
 ·simp -implicitDefEqProofs -proj only [go_sem,seval,n1,n2,decide_eq_false g1,decide_eq_true g2]
  exact AJ rfl
 simp -implicitDefEqProofs -proj only [go_sem,seval,n1,n2,decide_eq_false g1,decide_eq_false g2]
 refine AH MP ?_
 by_cases g3:f≤x.f∧x.f≤x.t∧x.t≤t
 rotate_left
 ·simp -implicitDefEqProofs -proj only [go_sem,seval,n1,n2,decide_eq_false g3]
  exact AJ rfl
 simp -implicitDefEqProofs -proj only [go_sem,seval,n1,n2,decide_eq_true g3]
 by_cases g4:0≤x.al∧x.al≤1000000
 rotate_left
 ·refine AH (Eb g4) ?_
  simp -implicitDefEqProofs -proj only [go_sem,seval]
  exact AJ rfl
 refine AH (EV g4) ?_
 simp -implicitDefEqProofs -proj only [go_sem,seval,n1,n2]
 by_cases g5:1≤x.bl∧x.bl≤1000000
 rotate_left
 ·refine AH (Eb g5) ?_
  simp -implicitDefEqProofs -proj only [go_sem,seval]
  exact AJ rfl
 refine AH (EV g5) ?_
 by_cases g6:x.ki=1
 ·simp -implicitDefEqProofs -proj only [go_sem,seval,n1,n2,decide_eq_true g6]
  by_cases g7:0≤x.mo∧x.mo≤3
  rotate_left
  ·refine AH (Eb g7) ?_
   simp -implicitDefEqProofs -proj only [go_sem,seval]
   exact AJ rfl
  refine AH (EV g7) ?_
  by_cases g8:(x.ts.length:Int)<1
  ·simp -implicitDefEqProofs -proj only [go_sem,seval,n1,n2,FX,decide_eq_true g8]
   exact AJ rfl
  by_cases g9:8<(x.ts.length:Int)
  ·simp -implicitDefEqProofs -proj only [go_sem,seval,n1,n2,FX,decide_eq_false g8,decide_eq_true g9]
   exact AJ rfl
  simp -implicitDefEqProofs -proj only [go_sem,seval,n1,n2,FX,HW,decide_eq_false g8,decide_eq_false g9,decide_eq_true (show 6<(x.ad.length:Int) by omega)]
  exact AJ rfl
 by_cases g6':x.ki=2
 ·simp -implicitDefEqProofs -proj only [go_sem,seval,n1,n2,decide_eq_false g6,decide_eq_true g6']
  by_cases g7:0≤x.mo∧x.mo≤3
  rotate_left
  ·refine AH (Eb g7) ?_
   simp -implicitDefEqProofs -proj only [go_sem,seval]
   exact AJ rfl
  refine AH (EV g7) ?_
  by_cases g8:(x.ts.length:Int)<1
  ·simp -implicitDefEqProofs -proj only [go_sem,seval,n1,n2,FX,decide_eq_true g8]
   exact AJ rfl
  by_cases g9:8<(x.ts.length:Int)
  ·simp -implicitDefEqProofs -proj only [go_sem,seval,n1,n2,FX,decide_eq_false g8,decide_eq_true g9]
   exact AJ rfl
  simp -implicitDefEqProofs -proj only [go_sem,seval,n1,n2,FX,HW,decide_eq_false g8,decide_eq_false g9,decide_eq_true (show 6<(x.ad.length:Int) by omega)]
  exact AJ rfl
 simp -implicitDefEqProofs -proj only [go_sem,seval,n1,n2,decide_eq_false g6,decide_eq_false g6']
 exact AJ rfl
set_option maxRecDepth 20000 in
set_option maxHeartbeats 4000000 in
theorem AA8 {cur:ByteArray} {f t:Int} {ms ss ps:List (List D)} {x:PartX} (hh:JA f t ms.length x):DataW Try.prog MJ [KK cur f t ms ss ps,IK x] (bv (decide (HY x.ts∧Hy x.ad))):=by
 refine Am PN (by simp) ?_
 simp -implicitDefEqProofs -proj only [go_sem,seval]
 refine AN (fun b2 hb2=>?_)
 simp -implicitDefEqProofs -proj only [go_sem,seval]
 refine AN (fun b3 hb3=>?_)
 replace hb3:upd Heap.none b2 _ b3=none:=hb3
 obtain ⟨n1,n2⟩:=Ac hb3 Ad
 obtain ⟨g1,g2,g3,g4,g5,g6,g7,g8,g9,g10⟩:=hh
 simp -implicitDefEqProofs -proj only [go_sem,seval,n1,n2,decide_eq_false (show ¬x.me<0 by omega),decide_eq_false (show ¬(ms.length:Int)≤x.me by omega)]
 refine AH MP ?_
 simp -implicitDefEqProofs -proj only [go_sem,seval,n1,n2,decide_eq_true g3]
 refine AH (EV g4) ?_
 simp -implicitDefEqProofs -proj only [go_sem,seval,n1,n2]
 refine AH (EV g5) ?_
 have e1:=decide_eq_false (show ¬(x.ts.length:Int)<1 by omega)
 have e2:=decide_eq_false (show ¬8<(x.ts.length:Int) by omega)
 have e3:=decide_eq_false (show ¬6<(x.ad.length:Int) by omega)
 rcases g6 with g6 | g6
 ·simp -implicitDefEqProofs -proj only [go_sem,seval,n1,n2,decide_eq_true g6]
  refine AH (EV g7) ?_
  simp -implicitDefEqProofs -proj only [go_sem,seval,n1,n2,FX,HW,e1,e2,e3]
  refine EN (fun i:Nat=>i≤x.ts.length∧∀(j:Nat) (h:j<x.ts.length),j<i→HI x.ts j x.ts[j]) 160 (fun i=>[(78,E9 x.ts),(79,i64 x.ts.length),(80,i64 i),(3,.ptr b3 0)]) (fun _=>[(b3,.box 93 [i64 x.me,i64 x.f,i64 x.t,i64 x.al,i64 x.bl,i64 x.ki,E9 x.ts,i64 x.mo,E4 x.ad])]) (fun i=>x.ts.length-i) 0 ⟨Nat.zero_le _,fun j _ h=>absurd h (Nat.not_lt_zero _)⟩ rfl ?_ ?_ ?_
  ·simp -implicitDefEqProofs -proj only [go_sem,seval,AK]
  ·simp -implicitDefEqProofs -proj only [go_sem,seval,AR]
  ·rintro i ⟨hi,hs⟩
   have hk3:AR (Ak [(b3,.box 93 [i64 x.me,i64 x.f,i64 x.t,i64 x.al,i64 x.bl,i64 x.ki,E9 x.ts,i64 x.mo,E4 x.ad])]) [(b3,.box 93 [i64 x.me,i64 x.f,i64 x.t,i64 x.al,i64 x.bl,i64 x.ki,E9 x.ts,i64 x.mo,E4 x.ad])]:=EZ (by simp [AP])
   have h3:=hk3.1
   by_cases h:i<x.ts.length
   ·have hel:=Jc h
    have hgo:HI x.ts i x.ts[i]→∀(j:Nat) (h:j<x.ts.length),j<i+1→HI x.ts j x.ts[j]:=by
     intro e j h1 h2
     by_cases hj:j=i
     ·subst hj; exact e
     ·exact hs j h1 (by omega)
    have hno:¬HI x.ts i x.ts[i]→¬HY x.ts:=fun e k=>e (k i h)
    have hlast:i+1=x.ts.length→FP x.ts i=0∧Fh x.ts i=0:=PM
    have hwl:IntKind.i64.wrap ((x.ts.length:Int)-1)=(x.ts.length:Int)-1:=by rw [IntKind.wrap_i64]; omega
    generalize hq:x.ts[i]=q at *
    simp -implicitDefEqProofs -proj only [go_sem,seval,decide_eq_true (show (i:Int)<x.ts.length by omega)]
    refine EG _ (by omega) hel ?_
    simp -implicitDefEqProofs -proj only [go_sem,seval]
    refine AN (fun b6 hb6=>?_)
    have hb6':=hb6
    replace hb6:Ak [(b3,Blk.box 93 [i64 x.me,i64 x.f,i64 x.t,i64 x.al,i64 x.bl,i64 x.ki,E9 x.ts,i64 x.mo,E4 x.ad])] b6=none:=hb6
    obtain ⟨m1,m2⟩:=Ac hb6 h3
    by_cases h0:i=0
    ·by_cases hl:i+1=x.ts.length
     ·have hlow:=hlast hl
      simp -implicitDefEqProofs -proj only [go_sem,seval,m1,m2,FX,hwl,decide_eq_false (show ¬0<(i:Int) by omega),decide_eq_true (show (i:Int)=(x.ts.length:Int)-1 by omega)]
      by_cases hr:0≤q.r∧q.r≤1000000000000
      rotate_left
      ·refine AH (Eb hr) ?_
       simp -implicitDefEqProofs -proj only [go_sem,seval]
       exact AJ (by rw [decide_eq_false (fun h=>hno (fun k=>hr k.1) h.1)])
      refine AH (EV hr) ?_
      simp -implicitDefEqProofs -proj only [go_sem,seval,m1,m2]
      by_cases hu:FP x.ts i≤q.u∧q.u≤Fh x.ts i
      rotate_left
      ·refine AH (Eb (by rw [hlow.1,hlow.2] at hu; exact hu)) ?_
       simp -implicitDefEqProofs -proj only [go_sem,seval]
       exact AJ (by rw [decide_eq_false (fun h=>hno (fun k=>hu k.2) h.1)])
      refine AH (EV (by rw [hlow.1,hlow.2] at hu; exact hu)) ?_
      simp -implicitDefEqProofs -proj only [go_sem,seval]
      refine AX (i+1) ⟨by omega,hgo ⟨hr,hu⟩⟩ (by omega) rfl ?_ (Ar hb6' hk3)
      simp -implicitDefEqProofs -proj only [go_sem,seval,AK,Ab (show i<9223372036854775807 by omega)]
     ·have hlow:FP x.ts i=1∧Fh x.ts i=1000000:=by subst h0; exact Qi hl
      simp -implicitDefEqProofs -proj only [go_sem,seval,m1,m2,FX,hwl,decide_eq_false (show ¬0<(i:Int) by omega),decide_eq_false (show ¬(i:Int)=(x.ts.length:Int)-1 by omega)]
      by_cases hr:0≤q.r∧q.r≤1000000000000
      rotate_left
      ·refine AH (Eb hr) ?_
       simp -implicitDefEqProofs -proj only [go_sem,seval]
       exact AJ (by rw [decide_eq_false (fun h=>hno (fun k=>hr k.1) h.1)])
      refine AH (EV hr) ?_
      simp -implicitDefEqProofs -proj only [go_sem,seval,m1,m2]
      by_cases hu:FP x.ts i≤q.u∧q.u≤Fh x.ts i
      rotate_left
      ·refine AH (Eb (by rw [hlow.1,hlow.2] at hu; exact hu)) ?_
       simp -implicitDefEqProofs -proj only [go_sem,seval]
       exact AJ (by rw [decide_eq_false (fun h=>hno (fun k=>hu k.2) h.1)])
      refine AH (EV (by rw [hlow.1,hlow.2] at hu; exact hu)) ?_
      simp -implicitDefEqProofs -proj only [go_sem,seval]
      refine AX (i+1) ⟨by omega,hgo ⟨hr,hu⟩⟩ (by omega) rfl ?_ (Ar hb6' hk3)
      simp -implicitDefEqProofs -proj only [go_sem,seval,AK,Ab (show i<9223372036854775807 by omega)]
    ·have wi:IntKind.i64.wrap ((i:Int)-1)=((i-1:Nat):Int):=by rw [IntKind.wrap_i64]; omega
     have hep:=Jc (l:=x.ts) (i:=i-1) (by omega)
     have hm1:=@Ne x.ts i (by omega) (by omega)
     have hm0:=@Py x.ts i (by omega) (by omega)
     obtain ⟨p,hp⟩:∃p,x.ts[i-1]'(by omega)=p:=⟨_,rfl⟩
     rw [hp] at hep hm1 hm0
     clear hp
     by_cases hu1:1≤p.u
     ·have wp:IntKind.i64.wrap (min p.u 1000000+1)=min p.u 1000000+1:=by rw [IntKind.wrap_i64]; omega
      simp -implicitDefEqProofs -proj only [go_sem,seval,m1,m2,decide_eq_true (show 0<(i:Int) by omega),wi]
      (repeat' (with_reducible refine Aq ?_ (fun h=>?_); (focus first | decide | omega); clear h; try simp -implicitDefEqProofs -proj only [go_sem,seval,wi]))
      refine EG _ (by omega) hep ?_
      simp -implicitDefEqProofs -proj only [go_sem,seval,m1,m2,wi]
      simp -implicitDefEqProofs -proj only [go_sem,seval,m1,m2,wi,decide_eq_true hu1]
      (repeat' (with_reducible refine Aq ?_ (fun h=>?_); (focus first | decide | omega); clear h; try simp -implicitDefEqProofs -proj only [go_sem,seval,wi]))
      refine EG _ (by omega) hep ?_
      by_cases hl:i+1=x.ts.length
      ·have hlow:=hlast hl
       simp -implicitDefEqProofs -proj only [go_sem,seval,m1,m2,FX,wi,hwl,wp,decide_eq_true (show (i:Int)=(x.ts.length:Int)-1 by omega)]
       by_cases hr:0≤q.r∧q.r≤1000000000000
       rotate_left
       ·refine AH (Eb hr) ?_
        simp -implicitDefEqProofs -proj only [go_sem,seval]
        exact AJ (by rw [decide_eq_false (fun h=>hno (fun k=>hr k.1) h.1)])
       refine AH (EV hr) ?_
       simp -implicitDefEqProofs -proj only [go_sem,seval,m1,m2]
       by_cases hu:FP x.ts i≤q.u∧q.u≤Fh x.ts i
       rotate_left
       ·refine AH (Eb (by rw [hlow.1,hlow.2] at hu; exact hu)) ?_
        simp -implicitDefEqProofs -proj only [go_sem,seval]
        exact AJ (by rw [decide_eq_false (fun h=>hno (fun k=>hu k.2) h.1)])
       refine AH (EV (by rw [hlow.1,hlow.2] at hu; exact hu)) ?_
       simp -implicitDefEqProofs -proj only [go_sem,seval]
       refine AX (i+1) ⟨by omega,hgo ⟨hr,hu⟩⟩ (by omega) rfl ?_ (Ar hb6' hk3)
       simp -implicitDefEqProofs -proj only [go_sem,seval,AK,Ab (show i<9223372036854775807 by omega)]
      ·have hlow:=hm1 hl hu1
       simp -implicitDefEqProofs -proj only [go_sem,seval,m1,m2,FX,wi,hwl,wp,decide_eq_false (show ¬(i:Int)=(x.ts.length:Int)-1 by omega)]
       by_cases hr:0≤q.r∧q.r≤1000000000000
       rotate_left
       ·refine AH (Eb hr) ?_
        simp -implicitDefEqProofs -proj only [go_sem,seval]
        exact AJ (by rw [decide_eq_false (fun h=>hno (fun k=>hr k.1) h.1)])
       refine AH (EV hr) ?_
       simp -implicitDefEqProofs -proj only [go_sem,seval,m1,m2]
       by_cases hu:FP x.ts i≤q.u∧q.u≤Fh x.ts i
       rotate_left
       ·refine AH (Eb (by rw [hlow.1,hlow.2] at hu; exact hu)) ?_
        simp -implicitDefEqProofs -proj only [go_sem,seval]
        exact AJ (by rw [decide_eq_false (fun h=>hno (fun k=>hu k.2) h.1)])
       refine AH (EV (by rw [hlow.1,hlow.2] at hu; exact hu)) ?_
       simp -implicitDefEqProofs -proj only [go_sem,seval]
       refine AX (i+1) ⟨by omega,hgo ⟨hr,hu⟩⟩ (by omega) rfl ?_ (Ar hb6' hk3)
       simp -implicitDefEqProofs -proj only [go_sem,seval,AK,Ab (show i<9223372036854775807 by omega)]
     ·simp -implicitDefEqProofs -proj only [go_sem,seval,m1,m2,decide_eq_true (show 0<(i:Int) by omega),wi]
      (repeat' (with_reducible refine Aq ?_ (fun h=>?_); (focus first | decide | omega); clear h; try simp -implicitDefEqProofs -proj only [go_sem,seval,wi]))
      refine EG _ (by omega) hep ?_
      simp -implicitDefEqProofs -proj only [go_sem,seval,m1,m2,wi]
      by_cases hl:i+1=x.ts.length
      ·have hlow:=hlast hl
       simp -implicitDefEqProofs -proj only [go_sem,seval,m1,m2,FX,wi,hwl,decide_eq_false hu1,decide_eq_true (show (i:Int)=(x.ts.length:Int)-1 by omega)]
       by_cases hr:0≤q.r∧q.r≤1000000000000
       rotate_left
       ·refine AH (Eb hr) ?_
        simp -implicitDefEqProofs -proj only [go_sem,seval]
        exact AJ (by rw [decide_eq_false (fun h=>hno (fun k=>hr k.1) h.1)])
       refine AH (EV hr) ?_
       simp -implicitDefEqProofs -proj only [go_sem,seval,m1,m2]
       by_cases hu:FP x.ts i≤q.u∧q.u≤Fh x.ts i
       rotate_left
       ·refine AH (Eb (by rw [hlow.1,hlow.2] at hu; exact hu)) ?_
        simp -implicitDefEqProofs -proj only [go_sem,seval]
        exact AJ (by rw [decide_eq_false (fun h=>hno (fun k=>hu k.2) h.1)])
       refine AH (EV (by rw [hlow.1,hlow.2] at hu; exact hu)) ?_
       simp -implicitDefEqProofs -proj only [go_sem,seval]
       refine AX (i+1) ⟨by omega,hgo ⟨hr,hu⟩⟩ (by omega) rfl ?_ (Ar hb6' hk3)
       simp -implicitDefEqProofs -proj only [go_sem,seval,AK,Ab (show i<9223372036854775807 by omega)]
      ·have hlow:=hm0 hl hu1
       simp -implicitDefEqProofs -proj only [go_sem,seval,m1,m2,FX,wi,hwl,decide_eq_false hu1,decide_eq_false (show ¬(i:Int)=(x.ts.length:Int)-1 by omega)]
       by_cases hr:0≤q.r∧q.r≤1000000000000
       rotate_left
       ·refine AH (Eb hr) ?_
        simp -implicitDefEqProofs -proj only [go_sem,seval]
        exact AJ (by rw [decide_eq_false (fun h=>hno (fun k=>hr k.1) h.1)])
       refine AH (EV hr) ?_
       simp -implicitDefEqProofs -proj only [go_sem,seval,m1,m2]
       by_cases hu:FP x.ts i≤q.u∧q.u≤Fh x.ts i
       rotate_left
       ·refine AH (Eb (by rw [hlow.1,hlow.2] at hu; exact hu)) ?_
        simp -implicitDefEqProofs -proj only [go_sem,seval]
        exact AJ (by rw [decide_eq_false (fun h=>hno (fun k=>hu k.2) h.1)])
       refine AH (EV (by rw [hlow.1,hlow.2] at hu; exact hu)) ?_
       simp -implicitDefEqProofs -proj only [go_sem,seval]
       refine AX (i+1) ⟨by omega,hgo ⟨hr,hu⟩⟩ (by omega) rfl ?_ (Ar hb6' hk3)
       simp -implicitDefEqProofs -proj only [go_sem,seval,AK,Ab (show i<9223372036854775807 by omega)]
   ·have hi':i=x.ts.length:=by omega
    subst hi'
    have hT:HY x.ts:=fun j h1=>hs j h1 h1
    simp -implicitDefEqProofs -proj only [go_sem,seval,decide_eq_false (show ¬(x.ts.length:Int)<x.ts.length by omega),HW]
    refine EN (fun i:Nat=>i≤x.ad.length∧∀(j:Nat) (h:j<x.ad.length),j<i→Gz x.ad[j]) 160 (fun i=>[(126,E4 x.ad),(127,i64 x.ad.length),(128,i64 i)]) (fun _=>[]) (fun i=>x.ad.length-i) 0 ⟨Nat.zero_le _,fun j _ h=>absurd h (Nat.not_lt_zero _)⟩ rfl ?_ ?_ ?_
    ·simp -implicitDefEqProofs -proj only [go_sem,seval,AK]
    ·simp -implicitDefEqProofs -proj only [go_sem,seval,AR]
    ·rintro i ⟨hi,hs⟩
     by_cases h:i<x.ad.length
     ·have hel:=Ns h
      have hgo:Gz x.ad[i]→∀(j:Nat) (h:j<x.ad.length),j<i+1→Gz x.ad[j]:=by
       intro e j h1 h2
       by_cases hj:j=i
       ·subst hj; exact e
       ·exact hs j h1 (by omega)
      have hno:¬Gz x.ad[i]→¬Hy x.ad:=fun e k=>e (k _ (List.getElem_mem h))
      generalize hq:x.ad[i]=q at *
      unfold Gz at hgo hno
      simp -implicitDefEqProofs -proj only [go_sem,seval,decide_eq_true (show (i:Int)<x.ad.length by omega)]
      refine EG _ (by omega) hel ?_
      simp -implicitDefEqProofs -proj only [go_sem,seval]
      refine AN (fun b10 hb10=>?_)
      by_cases k1:q.k=1
      ·simp -implicitDefEqProofs -proj only [go_sem,seval,decide_eq_true k1]
       by_cases hn:0≤q.n∧q.n≤100000000
       rotate_left
       ·refine AH (Eb hn) ?_
        simp -implicitDefEqProofs -proj only [go_sem,seval]
        exact AJ (by rw [decide_eq_false (fun h=>hno (by omega) h.2)])
       refine AH (EV hn) ?_
       simp -implicitDefEqProofs -proj only [go_sem,seval]
       by_cases hm:0≤q.m∧q.m≤3
       rotate_left
       ·refine AH (Eb hm) ?_
        simp -implicitDefEqProofs -proj only [go_sem,seval]
        exact AJ (by rw [decide_eq_false (fun h=>hno (by omega) h.2)])
       refine AH (EV hm) ?_
       simp -implicitDefEqProofs -proj only [go_sem,seval]
       refine AX (i+1) ⟨by omega,hgo (by omega)⟩ (by omega) rfl ?_ trivial
       simp -implicitDefEqProofs -proj only [go_sem,seval,AK,Ab (show i<9223372036854775807 by omega)]
      ·by_cases k2:q.k=2
       ·simp -implicitDefEqProofs -proj only [go_sem,seval,decide_eq_false k1,decide_eq_true k2]
        by_cases hn:0≤q.n∧q.n≤1000000000000
        rotate_left
        ·refine AH (Eb hn) ?_
         simp -implicitDefEqProofs -proj only [go_sem,seval]
         exact AJ (by rw [decide_eq_false (fun h=>hno (by omega) h.2)])
        refine AH (EV hn) ?_
        by_cases hm:q.m=0
        rotate_left
        ·simp -implicitDefEqProofs -proj only [go_sem,seval,decide_eq_false hm]
         exact AJ (by rw [decide_eq_false (fun h=>hno (by omega) h.2)])
        simp -implicitDefEqProofs -proj only [go_sem,seval,decide_eq_true hm]
        refine AX (i+1) ⟨by omega,hgo (by omega)⟩ (by omega) rfl ?_ trivial
        simp -implicitDefEqProofs -proj only [go_sem,seval,AK,Ab (show i<9223372036854775807 by omega)]
       ·by_cases k3:q.k=3
        ·simp -implicitDefEqProofs -proj only [go_sem,seval,decide_eq_false k1,decide_eq_false k2,decide_eq_true k3]
         by_cases hn:0≤q.n∧q.n≤1000000000000
         rotate_left
         ·refine AH (Eb hn) ?_
          simp -implicitDefEqProofs -proj only [go_sem,seval]
          exact AJ (by rw [decide_eq_false (fun h=>hno (by omega) h.2)])
         refine AH (EV hn) ?_
         by_cases hm:q.m=0
         rotate_left
         ·simp -implicitDefEqProofs -proj only [go_sem,seval,decide_eq_false hm]
          exact AJ (by rw [decide_eq_false (fun h=>hno (by omega) h.2)])
         simp -implicitDefEqProofs -proj only [go_sem,seval,decide_eq_true hm]
         refine AX (i+1) ⟨by omega,hgo (by omega)⟩ (by omega) rfl ?_ trivial
         simp -implicitDefEqProofs -proj only [go_sem,seval,AK,Ab (show i<9223372036854775807 by omega)]
        ·by_cases k4:q.k=4
         ·simp -implicitDefEqProofs -proj only [go_sem,seval,decide_eq_false k1,decide_eq_false k2,decide_eq_false k3,decide_eq_true k4]
          by_cases hn:0≤q.n∧q.n≤1000000000000
          rotate_left
          ·refine AH (Eb hn) ?_
           simp -implicitDefEqProofs -proj only [go_sem,seval]
           exact AJ (by rw [decide_eq_false (fun h=>hno (by omega) h.2)])
          refine AH (EV hn) ?_
          by_cases hm:q.m=0
          rotate_left
          ·simp -implicitDefEqProofs -proj only [go_sem,seval,decide_eq_false hm]
           exact AJ (by rw [decide_eq_false (fun h=>hno (by omega) h.2)])
          simp -implicitDefEqProofs -proj only [go_sem,seval,decide_eq_true hm]
          refine AX (i+1) ⟨by omega,hgo (by omega)⟩ (by omega) rfl ?_ trivial
          simp -implicitDefEqProofs -proj only [go_sem,seval,AK,Ab (show i<9223372036854775807 by omega)]
         ·simp -implicitDefEqProofs -proj only [go_sem,seval,decide_eq_false k1,decide_eq_false k2,decide_eq_false k3,decide_eq_false k4]
          exact AJ (by rw [decide_eq_false (fun h=>hno (by omega) h.2)])
     ·have hi':i=x.ad.length:=by omega
      subst hi'
      have hA:Hy x.ad:=fun a ha=>by obtain ⟨j,h1,rfl⟩:=List.getElem_of_mem ha; exact hs j h1 h1
      simp -implicitDefEqProofs -proj only [go_sem,seval,decide_eq_false (show ¬(x.ad.length:Int)<x.ad.length by omega)]
      exact AJ (by rw [decide_eq_true ⟨hT,hA⟩])
 ·simp -implicitDefEqProofs -proj only [go_sem,seval,n1,n2,decide_eq_false (show ¬x.ki=1 by omega),decide_eq_true g6]
  refine AH (EV g7) ?_
  simp -implicitDefEqProofs -proj only [go_sem,seval,n1,n2,FX,HW,e1,e2,e3]
  refine EN (fun i:Nat=>i≤x.ts.length∧∀(j:Nat) (h:j<x.ts.length),j<i→HI x.ts j x.ts[j]) 160 (fun i=>[(78,E9 x.ts),(79,i64 x.ts.length),(80,i64 i),(3,.ptr b3 0)]) (fun _=>[(b3,.box 93 [i64 x.me,i64 x.f,i64 x.t,i64 x.al,i64 x.bl,i64 x.ki,E9 x.ts,i64 x.mo,E4 x.ad])]) (fun i=>x.ts.length-i) 0 ⟨Nat.zero_le _,fun j _ h=>absurd h (Nat.not_lt_zero _)⟩ rfl ?_ ?_ ?_
  ·simp -implicitDefEqProofs -proj only [go_sem,seval,AK]
  ·simp -implicitDefEqProofs -proj only [go_sem,seval,AR]
  ·rintro i ⟨hi,hs⟩
   have hk3:AR (Ak [(b3,.box 93 [i64 x.me,i64 x.f,i64 x.t,i64 x.al,i64 x.bl,i64 x.ki,E9 x.ts,i64 x.mo,E4 x.ad])]) [(b3,.box 93 [i64 x.me,i64 x.f,i64 x.t,i64 x.al,i64 x.bl,i64 x.ki,E9 x.ts,i64 x.mo,E4 x.ad])]:=EZ (by simp [AP])
   have h3:=hk3.1
   by_cases h:i<x.ts.length
   ·have hel:=Jc h
    have hgo:HI x.ts i x.ts[i]→∀(j:Nat) (h:j<x.ts.length),j<i+1→HI x.ts j x.ts[j]:=by
     intro e j h1 h2
     by_cases hj:j=i
     ·subst hj; exact e
     ·exact hs j h1 (by omega)
    have hno:¬HI x.ts i x.ts[i]→¬HY x.ts:=fun e k=>e (k i h)
    have hlast:i+1=x.ts.length→FP x.ts i=0∧Fh x.ts i=0:=PM
    have hwl:IntKind.i64.wrap ((x.ts.length:Int)-1)=(x.ts.length:Int)-1:=by rw [IntKind.wrap_i64]; omega
    generalize hq:x.ts[i]=q at *
    simp -implicitDefEqProofs -proj only [go_sem,seval,decide_eq_true (show (i:Int)<x.ts.length by omega)]
    refine EG _ (by omega) hel ?_
    simp -implicitDefEqProofs -proj only [go_sem,seval]
    refine AN (fun b6 hb6=>?_)
    have hb6':=hb6
    replace hb6:Ak [(b3,Blk.box 93 [i64 x.me,i64 x.f,i64 x.t,i64 x.al,i64 x.bl,i64 x.ki,E9 x.ts,i64 x.mo,E4 x.ad])] b6=none:=hb6
    obtain ⟨m1,m2⟩:=Ac hb6 h3
    by_cases h0:i=0
    ·by_cases hl:i+1=x.ts.length
     ·have hlow:=hlast hl
      simp -implicitDefEqProofs -proj only [go_sem,seval,m1,m2,FX,hwl,decide_eq_false (show ¬0<(i:Int) by omega),decide_eq_true (show (i:Int)=(x.ts.length:Int)-1 by omega)]
      by_cases hr:0≤q.r∧q.r≤1000000000000
      rotate_left
      ·refine AH (Eb hr) ?_
       simp -implicitDefEqProofs -proj only [go_sem,seval]
       exact AJ (by rw [decide_eq_false (fun h=>hno (fun k=>hr k.1) h.1)])
      refine AH (EV hr) ?_
      simp -implicitDefEqProofs -proj only [go_sem,seval,m1,m2]
      by_cases hu:FP x.ts i≤q.u∧q.u≤Fh x.ts i
      rotate_left
      ·refine AH (Eb (by rw [hlow.1,hlow.2] at hu; exact hu)) ?_
       simp -implicitDefEqProofs -proj only [go_sem,seval]
       exact AJ (by rw [decide_eq_false (fun h=>hno (fun k=>hu k.2) h.1)])
      refine AH (EV (by rw [hlow.1,hlow.2] at hu; exact hu)) ?_
      simp -implicitDefEqProofs -proj only [go_sem,seval]
      refine AX (i+1) ⟨by omega,hgo ⟨hr,hu⟩⟩ (by omega) rfl ?_ (Ar hb6' hk3)
      simp -implicitDefEqProofs -proj only [go_sem,seval,AK,Ab (show i<9223372036854775807 by omega)]
     ·have hlow:FP x.ts i=1∧Fh x.ts i=1000000:=by subst h0; exact Qi hl
      simp -implicitDefEqProofs -proj only [go_sem,seval,m1,m2,FX,hwl,decide_eq_false (show ¬0<(i:Int) by omega),decide_eq_false (show ¬(i:Int)=(x.ts.length:Int)-1 by omega)]
      by_cases hr:0≤q.r∧q.r≤1000000000000
      rotate_left
      ·refine AH (Eb hr) ?_
       simp -implicitDefEqProofs -proj only [go_sem,seval]
       exact AJ (by rw [decide_eq_false (fun h=>hno (fun k=>hr k.1) h.1)])
      refine AH (EV hr) ?_
      simp -implicitDefEqProofs -proj only [go_sem,seval,m1,m2]
      by_cases hu:FP x.ts i≤q.u∧q.u≤Fh x.ts i
      rotate_left
      ·refine AH (Eb (by rw [hlow.1,hlow.2] at hu; exact hu)) ?_
       simp -implicitDefEqProofs -proj only [go_sem,seval]
       exact AJ (by rw [decide_eq_false (fun h=>hno (fun k=>hu k.2) h.1)])
      refine AH (EV (by rw [hlow.1,hlow.2] at hu; exact hu)) ?_
      simp -implicitDefEqProofs -proj only [go_sem,seval]
      refine AX (i+1) ⟨by omega,hgo ⟨hr,hu⟩⟩ (by omega) rfl ?_ (Ar hb6' hk3)
      simp -implicitDefEqProofs -proj only [go_sem,seval,AK,Ab (show i<9223372036854775807 by omega)]
    ·have wi:IntKind.i64.wrap ((i:Int)-1)=((i-1:Nat):Int):=by rw [IntKind.wrap_i64]; omega
     have hep:=Jc (l:=x.ts) (i:=i-1) (by omega)
     have hm1:=@Ne x.ts i (by omega) (by omega)
     have hm0:=@Py x.ts i (by omega) (by omega)
     obtain ⟨p,hp⟩:∃p,x.ts[i-1]'(by omega)=p:=⟨_,rfl⟩
     rw [hp] at hep hm1 hm0
     clear hp
     by_cases hu1:1≤p.u
     ·have wp:IntKind.i64.wrap (min p.u 1000000+1)=min p.u 1000000+1:=by rw [IntKind.wrap_i64]; omega
      simp -implicitDefEqProofs -proj only [go_sem,seval,m1,m2,decide_eq_true (show 0<(i:Int) by omega),wi]
      (repeat' (with_reducible refine Aq ?_ (fun h=>?_); (focus first | decide | omega); clear h; try simp -implicitDefEqProofs -proj only [go_sem,seval,wi]))
      refine EG _ (by omega) hep ?_
      simp -implicitDefEqProofs -proj only [go_sem,seval,m1,m2,wi]
      simp -implicitDefEqProofs -proj only [go_sem,seval,m1,m2,wi,decide_eq_true hu1]
      (repeat' (with_reducible refine Aq ?_ (fun h=>?_); (focus first | decide | omega); clear h; try simp -implicitDefEqProofs -proj only [go_sem,seval,wi]))
      refine EG _ (by omega) hep ?_
      by_cases hl:i+1=x.ts.length
      ·have hlow:=hlast hl
       simp -implicitDefEqProofs -proj only [go_sem,seval,m1,m2,FX,wi,hwl,wp,decide_eq_true (show (i:Int)=(x.ts.length:Int)-1 by omega)]
       by_cases hr:0≤q.r∧q.r≤1000000000000
       rotate_left
       ·refine AH (Eb hr) ?_
        simp -implicitDefEqProofs -proj only [go_sem,seval]
        exact AJ (by rw [decide_eq_false (fun h=>hno (fun k=>hr k.1) h.1)])
       refine AH (EV hr) ?_
       simp -implicitDefEqProofs -proj only [go_sem,seval,m1,m2]
       by_cases hu:FP x.ts i≤q.u∧q.u≤Fh x.ts i
       rotate_left
       ·refine AH (Eb (by rw [hlow.1,hlow.2] at hu; exact hu)) ?_
        simp -implicitDefEqProofs -proj only [go_sem,seval]
        exact AJ (by rw [decide_eq_false (fun h=>hno (fun k=>hu k.2) h.1)])
       refine AH (EV (by rw [hlow.1,hlow.2] at hu; exact hu)) ?_
       simp -implicitDefEqProofs -proj only [go_sem,seval]
       refine AX (i+1) ⟨by omega,hgo ⟨hr,hu⟩⟩ (by omega) rfl ?_ (Ar hb6' hk3)
       simp -implicitDefEqProofs -proj only [go_sem,seval,AK,Ab (show i<9223372036854775807 by omega)]
      ·have hlow:=hm1 hl hu1
       simp -implicitDefEqProofs -proj only [go_sem,seval,m1,m2,FX,wi,hwl,wp,decide_eq_false (show ¬(i:Int)=(x.ts.length:Int)-1 by omega)]
       by_cases hr:0≤q.r∧q.r≤1000000000000
       rotate_left
       ·refine AH (Eb hr) ?_
        simp -implicitDefEqProofs -proj only [go_sem,seval]
        exact AJ (by rw [decide_eq_false (fun h=>hno (fun k=>hr k.1) h.1)])
       refine AH (EV hr) ?_
       simp -implicitDefEqProofs -proj only [go_sem,seval,m1,m2]
       by_cases hu:FP x.ts i≤q.u∧q.u≤Fh x.ts i
       rotate_left
       ·refine AH (Eb (by rw [hlow.1,hlow.2] at hu; exact hu)) ?_
        simp -implicitDefEqProofs -proj only [go_sem,seval]
        exact AJ (by rw [decide_eq_false (fun h=>hno (fun k=>hu k.2) h.1)])
       refine AH (EV (by rw [hlow.1,hlow.2] at hu; exact hu)) ?_
       simp -implicitDefEqProofs -proj only [go_sem,seval]
       refine AX (i+1) ⟨by omega,hgo ⟨hr,hu⟩⟩ (by omega) rfl ?_ (Ar hb6' hk3)
       simp -implicitDefEqProofs -proj only [go_sem,seval,AK,Ab (show i<9223372036854775807 by omega)]
     ·simp -implicitDefEqProofs -proj only [go_sem,seval,m1,m2,decide_eq_true (show 0<(i:Int) by omega),wi]
      (repeat' (with_reducible refine Aq ?_ (fun h=>?_); (focus first | decide | omega); clear h; try simp -implicitDefEqProofs -proj only [go_sem,seval,wi]))
      refine EG _ (by omega) hep ?_
      simp -implicitDefEqProofs -proj only [go_sem,seval,m1,m2,wi]
      by_cases hl:i+1=x.ts.length
      ·have hlow:=hlast hl
       simp -implicitDefEqProofs -proj only [go_sem,seval,m1,m2,FX,wi,hwl,decide_eq_false hu1,decide_eq_true (show (i:Int)=(x.ts.length:Int)-1 by omega)]
       by_cases hr:0≤q.r∧q.r≤1000000000000
       rotate_left
       ·refine AH (Eb hr) ?_
        simp -implicitDefEqProofs -proj only [go_sem,seval]
        exact AJ (by rw [decide_eq_false (fun h=>hno (fun k=>hr k.1) h.1)])
       refine AH (EV hr) ?_
       simp -implicitDefEqProofs -proj only [go_sem,seval,m1,m2]
       by_cases hu:FP x.ts i≤q.u∧q.u≤Fh x.ts i
       rotate_left
       ·refine AH (Eb (by rw [hlow.1,hlow.2] at hu; exact hu)) ?_
        simp -implicitDefEqProofs -proj only [go_sem,seval]
        exact AJ (by rw [decide_eq_false (fun h=>hno (fun k=>hu k.2) h.1)])
       refine AH (EV (by rw [hlow.1,hlow.2] at hu; exact hu)) ?_
       simp -implicitDefEqProofs -proj only [go_sem,seval]
       refine AX (i+1) ⟨by omega,hgo ⟨hr,hu⟩⟩ (by omega) rfl ?_ (Ar hb6' hk3)
       simp -implicitDefEqProofs -proj only [go_sem,seval,AK,Ab (show i<9223372036854775807 by omega)]
      ·have hlow:=hm0 hl hu1
       simp -implicitDefEqProofs -proj only [go_sem,seval,m1,m2,FX,wi,hwl,decide_eq_false hu1,decide_eq_false (show ¬(i:Int)=(x.ts.length:Int)-1 by omega)]
       by_cases hr:0≤q.r∧q.r≤1000000000000
       rotate_left
       ·refine AH (Eb hr) ?_
        simp -implicitDefEqProofs -proj only [go_sem,seval]
        exact AJ (by rw [decide_eq_false (fun h=>hno (fun k=>hr k.1) h.1)])
       refine AH (EV hr) ?_
       simp -implicitDefEqProofs -proj only [go_sem,seval,m1,m2]
       by_cases hu:FP x.ts i≤q.u∧q.u≤Fh x.ts i
       rotate_left
       ·refine AH (Eb (by rw [hlow.1,hlow.2] at hu; exact hu)) ?_
        simp -implicitDefEqProofs -proj only [go_sem,seval]
        exact AJ (by rw [decide_eq_false (fun h=>hno (fun k=>hu k.2) h.1)])
       refine AH (EV (by rw [hlow.1,hlow.2] at hu; exact hu)) ?_
       simp -implicitDefEqProofs -proj only [go_sem,seval]
       refine AX (i+1) ⟨by omega,hgo ⟨hr,hu⟩⟩ (by omega) rfl ?_ (Ar hb6' hk3)
       simp -implicitDefEqProofs -proj only [go_sem,seval,AK,Ab (show i<9223372036854775807 by omega)]
   ·have hi':i=x.ts.length:=by omega
    subst hi'
    have hT:HY x.ts:=fun j h1=>hs j h1 h1
    simp -implicitDefEqProofs -proj only [go_sem,seval,decide_eq_false (show ¬(x.ts.length:Int)<x.ts.length by omega),HW]
    refine EN (fun i:Nat=>i≤x.ad.length∧∀(j:Nat) (h:j<x.ad.length),j<i→Gz x.ad[j]) 160 (fun i=>[(126,E4 x.ad),(127,i64 x.ad.length),(128,i64 i)]) (fun _=>[]) (fun i=>x.ad.length-i) 0 ⟨Nat.zero_le _,fun j _ h=>absurd h (Nat.not_lt_zero _)⟩ rfl ?_ ?_ ?_
    ·simp -implicitDefEqProofs -proj only [go_sem,seval,AK]
    ·simp -implicitDefEqProofs -proj only [go_sem,seval,AR]
    ·rintro i ⟨hi,hs⟩
     by_cases h:i<x.ad.length
     ·have hel:=Ns h
      have hgo:Gz x.ad[i]→∀(j:Nat) (h:j<x.ad.length),j<i+1→Gz x.ad[j]:=by
       intro e j h1 h2
       by_cases hj:j=i
       ·subst hj; exact e
       ·exact hs j h1 (by omega)
      have hno:¬Gz x.ad[i]→¬Hy x.ad:=fun e k=>e (k _ (List.getElem_mem h))
      generalize hq:x.ad[i]=q at *
      unfold Gz at hgo hno
      simp -implicitDefEqProofs -proj only [go_sem,seval,decide_eq_true (show (i:Int)<x.ad.length by omega)]
      refine EG _ (by omega) hel ?_
      simp -implicitDefEqProofs -proj only [go_sem,seval]
      refine AN (fun b10 hb10=>?_)
      by_cases k1:q.k=1
      ·simp -implicitDefEqProofs -proj only [go_sem,seval,decide_eq_true k1]
       by_cases hn:0≤q.n∧q.n≤100000000
       rotate_left
       ·refine AH (Eb hn) ?_
        simp -implicitDefEqProofs -proj only [go_sem,seval]
        exact AJ (by rw [decide_eq_false (fun h=>hno (by omega) h.2)])
       refine AH (EV hn) ?_
       simp -implicitDefEqProofs -proj only [go_sem,seval]
       by_cases hm:0≤q.m∧q.m≤3
       rotate_left
       ·refine AH (Eb hm) ?_
        simp -implicitDefEqProofs -proj only [go_sem,seval]
        exact AJ (by rw [decide_eq_false (fun h=>hno (by omega) h.2)])
       refine AH (EV hm) ?_
       simp -implicitDefEqProofs -proj only [go_sem,seval]
       refine AX (i+1) ⟨by omega,hgo (by omega)⟩ (by omega) rfl ?_ trivial
       simp -implicitDefEqProofs -proj only [go_sem,seval,AK,Ab (show i<9223372036854775807 by omega)]
      ·by_cases k2:q.k=2
       ·simp -implicitDefEqProofs -proj only [go_sem,seval,decide_eq_false k1,decide_eq_true k2]
        by_cases hn:0≤q.n∧q.n≤1000000000000
        rotate_left
        ·refine AH (Eb hn) ?_
         simp -implicitDefEqProofs -proj only [go_sem,seval]
         exact AJ (by rw [decide_eq_false (fun h=>hno (by omega) h.2)])
        refine AH (EV hn) ?_
        by_cases hm:q.m=0
        rotate_left
        ·simp -implicitDefEqProofs -proj only [go_sem,seval,decide_eq_false hm]
         exact AJ (by rw [decide_eq_false (fun h=>hno (by omega) h.2)])
        simp -implicitDefEqProofs -proj only [go_sem,seval,decide_eq_true hm]
        refine AX (i+1) ⟨by omega,hgo (by omega)⟩ (by omega) rfl ?_ trivial
        simp -implicitDefEqProofs -proj only [go_sem,seval,AK,Ab (show i<9223372036854775807 by omega)]
       ·by_cases k3:q.k=3
        ·simp -implicitDefEqProofs -proj only [go_sem,seval,decide_eq_false k1,decide_eq_false k2,decide_eq_true k3]
         by_cases hn:0≤q.n∧q.n≤1000000000000
         rotate_left
         ·refine AH (Eb hn) ?_
          simp -implicitDefEqProofs -proj only [go_sem,seval]
          exact AJ (by rw [decide_eq_false (fun h=>hno (by omega) h.2)])
         refine AH (EV hn) ?_
         by_cases hm:q.m=0
         rotate_left
         ·simp -implicitDefEqProofs -proj only [go_sem,seval,decide_eq_false hm]
          exact AJ (by rw [decide_eq_false (fun h=>hno (by omega) h.2)])
         simp -implicitDefEqProofs -proj only [go_sem,seval,decide_eq_true hm]
         refine AX (i+1) ⟨by omega,hgo (by omega)⟩ (by omega) rfl ?_ trivial
         simp -implicitDefEqProofs -proj only [go_sem,seval,AK,Ab (show i<9223372036854775807 by omega)]
        ·by_cases k4:q.k=4
         ·simp -implicitDefEqProofs -proj only [go_sem,seval,decide_eq_false k1,decide_eq_false k2,decide_eq_false k3,decide_eq_true k4]
          by_cases hn:0≤q.n∧q.n≤1000000000000
          rotate_left
          ·refine AH (Eb hn) ?_
           simp -implicitDefEqProofs -proj only [go_sem,seval]
           exact AJ (by rw [decide_eq_false (fun h=>hno (by omega) h.2)])
          refine AH (EV hn) ?_
          by_cases hm:q.m=0
          rotate_left
          ·simp -implicitDefEqProofs -proj only [go_sem,seval,decide_eq_false hm]
           exact AJ (by rw [decide_eq_false (fun h=>hno (by omega) h.2)])
          simp -implicitDefEqProofs -proj only [go_sem,seval,decide_eq_true hm]
          refine AX (i+1) ⟨by omega,hgo (by omega)⟩ (by omega) rfl ?_ trivial
          simp -implicitDefEqProofs -proj only [go_sem,seval,AK,Ab (show i<9223372036854775807 by omega)]
         ·simp -implicitDefEqProofs -proj only [go_sem,seval,decide_eq_false k1,decide_eq_false k2,decide_eq_false k3,decide_eq_false k4]
          exact AJ (by rw [decide_eq_false (fun h=>hno (by omega) h.2)])
     ·have hi':i=x.ad.length:=by omega
      subst hi'
      have hA:Hy x.ad:=fun a ha=>by obtain ⟨j,h1,rfl⟩:=List.getElem_of_mem ha; exact hs j h1 h1
      simp -implicitDefEqProofs -proj only [go_sem,seval,decide_eq_false (show ¬(x.ad.length:Int)<x.ad.length by omega)]
      exact AJ (by rw [decide_eq_true ⟨hT,hA⟩])
def Ed (a b:ByteArray):Bool:=Op.bytesLess a.toList b.toList
def J7 (ms:List MeterX) (i:Nat) (m:MeterX):Prop:=(0≤m.mx∧m.mx≤2000)∧m.ln=0∧m.co=0∧∀p,ms[i-1]? = some p→0<i→Ed p.nm m.nm=true
def Jd (f t:Int) (s:SumX):Prop:=(0≤s.a∧s.a≤1000000000000)∧(f≤s.f∧s.f≤s.t∧s.t≤t)
def LK (c:CoreX):Prop:=(0≤c.f∧c.f≤3652058)∧(c.f≤c.t∧c.t≤3652058)∧c.t-c.f≤3999∧c.ms.length≤4∧c.ss.length≤8∧c.ps.length≤8
def Xc (ms:List MeterX):Prop:=∀(i:Nat) (h:i<ms.length),J7 ms i ms[i]
structure goodC (c:CoreX):Prop where
 hd:LK c
 ms:Xc c.ms
 ss:∀s∈c.ss,Jd c.f c.t s
 ps:∀x∈c.ps,G2 c.f c.t c.ms.length x
noncomputable instance (c:CoreX):Decidable (goodC c):=Classical.propDecidable _
theorem AIk {cur:ByteArray} {f t:Int} {ms ss ps:List (List D)} {x:PartX}:DataW Try.prog MJ [KK cur f t ms ss ps,IK x] (bv (decide (G2 f t ms.length x))):=by
 by_cases h:JA f t ms.length x
 ·have:=AA8 (cur:=cur) (ss:=ss) (ps:=ps) h
  rwa [show decide (HY x.ts∧Hy x.ad)=decide (G2 f t ms.length x) from decide_eq_decide.2 ⟨fun k=>⟨h,k⟩,fun k=>k.2⟩] at this
 ·have:=ZD (cur:=cur) (ss:=ss) (ps:=ps) h
  rwa [show false=decide (G2 f t ms.length x) from (decide_eq_false (fun k=>h k.1)).symm] at this
theorem KS {α:Type} {l:List α} {P:Nat→α→Prop} {i:Nat} {x : α} (hi:l[i]? = some x) (hs:∀(j:Nat) (h:j<l.length),j<i→P j l[j]) (hx:P i x):∀(j:Nat) (h:j<l.length),j<i+1→P j l[j]:=by
 intro j h1 h2
 by_cases hj:j=i
 ·subst hj
  rw [List.getElem?_eq_getElem h1] at hi
  cases hi
  exact hx
 ·exact hs j h1 (by omega)
set_option maxRecDepth 20000 in
theorem ABC {c:CoreX} (hc:c.Fit):DataW Try.prog SN [Gm c] (bv (decide (goodC c))):=by
 obtain ⟨cur,f,t,ms,ss,ps⟩:=c
 obtain ⟨hff,hft,_,hmn,_,hsn,_,hpn⟩:=hc
 simp -implicitDefEqProofs only [] at hff hft hmn hsn hpn
 have hno:¬LK ⟨cur,f,t,ms,ss,ps⟩→decide (goodC ⟨cur,f,t,ms,ss,ps⟩)=false:=fun h=>decide_eq_false (fun k=>h k.hd)
 unfold LK at hno
 simp -implicitDefEqProofs only [] at hno
 refine Am ABI (by simp) ?_
 simp -implicitDefEqProofs -proj only [go_sem,seval]
 refine AN (fun b1 hb1=>?_)
 simp -implicitDefEqProofs -proj only [go_sem,seval]
 by_cases g1:0≤f∧f≤3652058
 rotate_left
 ·refine AH (Eb g1) ?_
  simp -implicitDefEqProofs -proj only [go_sem,seval]
  exact AJ (by rw [hno (fun k=>g1 k.1)])
 refine AH (EV g1) ?_
 simp -implicitDefEqProofs -proj only [go_sem,seval]
 by_cases g2:f≤t∧t≤3652058
 rotate_left
 ·refine AH (Eb g2) ?_
  simp -implicitDefEqProofs -proj only [go_sem,seval]
  exact AJ (by rw [hno (fun k=>g2 k.2.1)])
 refine AH (EV g2) ?_
 have w1:IntKind.i64.wrap (t-f)=t-f:=by rw [IntKind.wrap_i64]; omega
 by_cases g3:3999<t-f
 ·simp -implicitDefEqProofs -proj only [go_sem,seval,w1,decide_eq_true g3]
  exact AJ (by rw [hno (fun k=>by omega)])
 by_cases g4:4<(ms.length:Int)
 ·simp -implicitDefEqProofs -proj only [go_sem,seval,w1,GB,Gl,GY,decide_eq_false g3,decide_eq_true g4]
  exact AJ (by rw [hno (fun k=>by omega)])
 by_cases g5:8<(ss.length:Int)
 ·simp -implicitDefEqProofs -proj only [go_sem,seval,w1,GB,Gl,GY,decide_eq_false g3,decide_eq_false g4,decide_eq_true g5]
  exact AJ (by rw [hno (fun k=>by omega)])
 by_cases g6:8<(ps.length:Int)
 ·simp -implicitDefEqProofs -proj only [go_sem,seval,w1,GB,Gl,GY,decide_eq_false g3,decide_eq_false g4,decide_eq_false g5,decide_eq_true g6]
  exact AJ (by rw [hno (fun k=>by omega)])
 have hhd:LK ⟨cur,f,t,ms,ss,ps⟩:=⟨g1,g2,show t-f≤3999 by omega,show ms.length≤4 by omega,show ss.length≤8 by omega,show ps.length≤8 by omega⟩
 clear hno
 simp -implicitDefEqProofs -proj only [go_sem,seval,w1,GB,Gl,GY,decide_eq_false g3,decide_eq_false g4,decide_eq_false g5,decide_eq_false g6]
 refine EN (fun i:Nat=>i≤ms.length∧∀(j:Nat) (h:j<ms.length),j<i→J7 ms j ms[j]) 120 (fun i=>[(1,.ptr b1 0),(48,.d (.sl 5 (AS ms))),(49,i64 ms.length),(50,i64 i)]) (fun _=>[(b1,.box 26 [.d (.str cur),i64 f,i64 t,.d (.sl 5 (AS ms)),.d (.sl 3 (Fc ss)),.d (.sl 9 (FQ ps))])]) (fun i=>ms.length-i) 0 ⟨Nat.zero_le _,fun j _ h=>absurd h (Nat.not_lt_zero _)⟩ rfl ?_ ?_ ?_
 ·simp -implicitDefEqProofs -proj only [go_sem,seval,AK]
 ·simp -implicitDefEqProofs -proj only [go_sem,seval,AR]
 ·rintro i ⟨hi,hs⟩
  have hk:AR (Ak [(b1,.box 26 [.d (.str cur),i64 f,i64 t,.d (.sl 5 (AS ms)),.d (.sl 3 (Fc ss)),.d (.sl 9 (FQ ps))])]) [(b1,.box 26 [.d (.str cur),i64 f,i64 t,.d (.sl 5 (AS ms)),.d (.sl 3 (Fc ss)),.d (.sl 9 (FQ ps))])]:=EZ (by simp [AP])
  have k1:=hk.1
  by_cases h:i<ms.length
  ·have hel:=Hf h
   have hno:¬J7 ms i ms[i]→decide (goodC ⟨cur,f,t,ms,ss,ps⟩)=false:=fun e=>decide_eq_false fun k=>e (k.ms i h)
   have hgo:J7 ms i ms[i]→∀(j:Nat) (h:j<ms.length),j<i+1→J7 ms j ms[j]:=KS (List.getElem?_eq_getElem h) hs
   generalize ms[i]=m at *
   unfold J7 at hno hgo
   simp -implicitDefEqProofs -proj only [go_sem,seval,decide_eq_true (show (i:Int)<ms.length by omega)]
   refine EG _ (by omega) hel ?_
   simp -implicitDefEqProofs -proj only [go_sem,seval]
   refine AN (fun b4 hb4=>?_)
   replace hb4:Ak [(b1,Blk.box 26 [.d (.str cur),i64 f,i64 t,.d (.sl 5 (AS ms)),.d (.sl 3 (Fc ss)),.d (.sl 9 (FQ ps))])] b4=none:=hb4
   obtain ⟨n1,n2⟩:=Ac hb4 k1
   simp -implicitDefEqProofs -proj only [go_sem,seval,n1,n2]
   by_cases c1:0≤m.mx∧m.mx≤2000
   rotate_left
   ·refine AH (Eb c1) ?_
    simp -implicitDefEqProofs -proj only [go_sem,seval]
    exact AJ (by rw [hno (fun k=>c1 k.1)])
   refine AH (EV c1) ?_
   by_cases c2:m.ln=0
   rotate_left
   ·simp -implicitDefEqProofs -proj only [go_sem,seval,n1,n2,decide_eq_false c2]
    exact AJ (by rw [hno (fun k=>c2 k.2.1)])
   by_cases c3:m.co=0
   rotate_left
   ·simp -implicitDefEqProofs -proj only [go_sem,seval,n1,n2,decide_eq_true c2,decide_eq_false c3]
    exact AJ (by rw [hno (fun k=>c3 k.2.2.1)])
   by_cases c4:i=0
   ·simp -implicitDefEqProofs -proj only [go_sem,seval,n1,n2,decide_eq_true c2,decide_eq_true c3,decide_eq_false (show ¬0<(i:Int) by omega)]
    refine AX (i+1) ⟨by omega,hgo ⟨c1,c2,c3,fun p _ h=>absurd h (by omega)⟩⟩ (by show ms.length-(i+1)<ms.length-i; omega) rfl ?_ (Ar hb4 hk)
    simp -implicitDefEqProofs -proj only [go_sem,seval,AK,Ab (show i<9223372036854775807 by omega)]
   ·have hw:IntKind.i64.wrap ((i:Int)-1)=((i-1:Nat):Int):=by rw [IntKind.wrap_i64]; omega
    have hip:i-1<ms.length:=by omega
    have hel2:=Hf hip
    have hpe:ms[i-1]? = some ms[i-1]:=List.getElem?_eq_getElem hip
    generalize ms[i-1]=p at *
    simp -implicitDefEqProofs -proj only [go_sem,seval,n1,n2,k1,hw,decide_eq_true c2,decide_eq_true c3,decide_eq_true (show 0<(i:Int) by omega)]
    refine EG _ (by omega) hel2 ?_
    by_cases c5:Ed p.nm m.nm=true
    ·have c5':Op.bytesLess p.nm.toList m.nm.toList=true:=c5
     simp -implicitDefEqProofs -proj only [go_sem,seval,n1,n2,J0,c5']
     refine AX (i+1) ⟨by omega,hgo ⟨c1,c2,c3,fun q hq _=>by rw [hpe] at hq; cases hq; exact c5⟩⟩ (by show ms.length-(i+1)<ms.length-i; omega) rfl ?_ (Ar hb4 hk)
     simp -implicitDefEqProofs -proj only [go_sem,seval,AK,Ab (show i<9223372036854775807 by omega)]
    ·have c5':Op.bytesLess p.nm.toList m.nm.toList=false:=by simpa [Ed] using c5
     simp -implicitDefEqProofs -proj only [go_sem,seval,n1,n2,J0,c5']
     exact AJ (by rw [hno (fun k=>c5 (k.2.2.2 p hpe (by omega)))])
  ·have hi':i=ms.length:=by omega
   subst hi'
   simp -implicitDefEqProofs -proj only [go_sem,seval,k1,Gl,decide_eq_false (show ¬(ms.length:Int)<ms.length by omega)]
   refine EN (fun i:Nat=>i≤ss.length∧∀(j:Nat) (h:j<ss.length),j<i→Jd f t ss[j]) 120 (fun i=>[(1,.ptr b1 0),(88,.d (.sl 3 (Fc ss))),(89,i64 ss.length),(90,i64 i)]) (fun _=>[(b1,.box 26 [.d (.str cur),i64 f,i64 t,.d (.sl 5 (AS ms)),.d (.sl 3 (Fc ss)),.d (.sl 9 (FQ ps))])]) (fun i=>ss.length-i) 0 ⟨Nat.zero_le _,fun j _ h=>absurd h (Nat.not_lt_zero _)⟩ rfl ?_ ?_ ?_
   ·simp -implicitDefEqProofs -proj only [go_sem,seval,AK]
   ·exact hk
   ·rintro i ⟨hi2,hs2⟩
    by_cases h2:i<ss.length
    ·have hel:=Lh h2
     have hno:¬Jd f t ss[i]→decide (goodC ⟨cur,f,t,ms,ss,ps⟩)=false:=fun e=>decide_eq_false fun k=>e (k.ss _ (List.getElem_mem h2))
     have hgo:Jd f t ss[i]→∀(j:Nat) (h:j<ss.length),j<i+1→Jd f t ss[j]:=KS (P:=fun _ x=>Jd f t x) (List.getElem?_eq_getElem h2) hs2
     generalize ss[i]=x at *
     unfold Jd at hno hgo
     simp -implicitDefEqProofs -proj only [go_sem,seval,decide_eq_true (show (i:Int)<ss.length by omega)]
     refine EG _ (by omega) hel ?_
     simp -implicitDefEqProofs -proj only [go_sem,seval]
     refine AN (fun b4 hb4=>?_)
     replace hb4:Ak [(b1,Blk.box 26 [.d (.str cur),i64 f,i64 t,.d (.sl 5 (AS ms)),.d (.sl 3 (Fc ss)),.d (.sl 9 (FQ ps))])] b4=none:=hb4
     obtain ⟨n1,n2⟩:=Ac hb4 k1
     simp -implicitDefEqProofs -proj only [go_sem,seval,n1,n2]
     by_cases c1:0≤x.a∧x.a≤1000000000000
     rotate_left
     ·refine AH (Eb c1) ?_
      simp -implicitDefEqProofs -proj only [go_sem,seval]
      exact AJ (by rw [hno (fun k=>c1 k.1)])
     refine AH (EV c1) ?_
     simp -implicitDefEqProofs -proj only [go_sem,seval,n1,n2,k1]
     refine AH MP ?_
     by_cases c2:f≤x.f∧x.f≤x.t∧x.t≤t
     rotate_left
     ·simp -implicitDefEqProofs -proj only [go_sem,seval,n1,n2,decide_eq_false c2]
      exact AJ (by rw [hno (fun k=>c2 k.2)])
     simp -implicitDefEqProofs -proj only [go_sem,seval,n1,n2,decide_eq_true c2]
     refine AX (i+1) ⟨by omega,hgo ⟨c1,c2⟩⟩ (by show ss.length-(i+1)<ss.length-i; omega) rfl ?_ (Ar hb4 hk)
     simp -implicitDefEqProofs -proj only [go_sem,seval,AK,Ab (show i<9223372036854775807 by omega)]
    ·have hi3:i=ss.length:=by omega
     subst hi3
     simp -implicitDefEqProofs -proj only [go_sem,seval,k1,GY,decide_eq_false (show ¬(ss.length:Int)<ss.length by omega)]
     refine EN (fun i:Nat=>i≤ps.length∧∀(j:Nat) (h:j<ps.length),j<i→G2 f t ms.length ps[j]) 120 (fun i=>[(1,.ptr b1 0),(109,.d (.sl 9 (FQ ps))),(110,i64 ps.length),(111,i64 i)]) (fun _=>[(b1,.box 26 [.d (.str cur),i64 f,i64 t,.d (.sl 5 (AS ms)),.d (.sl 3 (Fc ss)),.d (.sl 9 (FQ ps))])]) (fun i=>ps.length-i) 0 ⟨Nat.zero_le _,fun j _ h=>absurd h (Nat.not_lt_zero _)⟩ rfl ?_ ?_ ?_
     ·simp -implicitDefEqProofs -proj only [go_sem,seval,AK]
     ·exact hk
     ·rintro i ⟨hi4,hs4⟩
      by_cases h4:i<ps.length
      ·have hel:=K4 h4
       have hno:¬G2 f t ms.length ps[i]→decide (goodC ⟨cur,f,t,ms,ss,ps⟩)=false:=fun e=>decide_eq_false fun k=>e (k.ps _ (List.getElem_mem h4))
       have hgo:G2 f t ms.length ps[i]→∀(j:Nat) (h:j<ps.length),j<i+1→G2 f t ms.length ps[j]:=KS (P:=fun _ x=>G2 f t ms.length x) (List.getElem?_eq_getElem h4) hs4
       generalize ps[i]=x at *
       have hcall:=AIk (cur:=cur) (f:=f) (t:=t) (ms:=AS ms) (ss:=Fc ss) (ps:=FQ ps) (x:=x)
       rw [GB] at hcall
       simp -implicitDefEqProofs -proj only [go_sem,seval,decide_eq_true (show (i:Int)<ps.length by omega)]
       refine EG _ (by omega) hel ?_
       simp -implicitDefEqProofs -proj only [go_sem,seval]
       refine AN (fun b4 hb4=>?_)
       replace hb4:Ak [(b1,Blk.box 26 [.d (.str cur),i64 f,i64 t,.d (.sl 5 (AS ms)),.d (.sl 3 (Fc ss)),.d (.sl 9 (FQ ps))])] b4=none:=hb4
       obtain ⟨n1,n2⟩:=Ac hb4 k1
       simp -implicitDefEqProofs -proj only [go_sem,seval,n1,n2,k1]
       refine AH hcall ?_
       by_cases c1:G2 f t ms.length x
       rotate_left
       ·simp -implicitDefEqProofs -proj only [go_sem,seval,decide_eq_false c1]
        exact AJ (by rw [hno c1])
       simp -implicitDefEqProofs -proj only [go_sem,seval,n1,n2,decide_eq_true c1]
       refine AX (i+1) ⟨by omega,hgo c1⟩ (by show ps.length-(i+1)<ps.length-i; omega) rfl ?_ (Ar hb4 hk)
       simp -implicitDefEqProofs -proj only [go_sem,seval,AK,Ab (show i<9223372036854775807 by omega)]
      ·have hi5:i=ps.length:=by omega
       subst hi5
       have hfin:goodC ⟨cur,f,t,ms,ss,ps⟩:=⟨hhd,fun j h=>hs j h h,fun s hm=>by obtain ⟨j,hj,rfl⟩:=List.getElem_of_mem hm; exact hs2 j hj hj,fun s hm=>by obtain ⟨j,hj,rfl⟩:=List.getElem_of_mem hm; exact hs4 j hj hj⟩
       simp -implicitDefEqProofs -proj only [go_sem,seval,decide_eq_false (show ¬(ps.length:Int)<ps.length by omega)]
       exact AJ (by rw [decide_eq_true hfin])
theorem Q9:∀x:List UInt8,Op.bytesLess x x=false
 | []=>rfl
 | a::x=>by simp [Op.bytesLess,Q9 x]
theorem PR:∀{x y z:List UInt8},Op.bytesLess x y=true→Op.bytesLess y z=true→Op.bytesLess x z=true
 | [],y,[],h1,h2=>by cases y <;> simp [Op.bytesLess] at h2
 | [],y,c::z,h1,h2=>rfl
 | a::x,[],z,h1,h2=>by simp [Op.bytesLess] at h1
 | a::x,b::y,[],h1,h2=>by simp [Op.bytesLess] at h2
 | a::x,b::y,c::z,h1,h2=>by
  simp -implicitDefEqProofs only [Op.bytesLess,Bool.or_eq_true,decide_eq_true_eq,Bool.and_eq_true,beq_iff_eq] at h1 h2 ⊢
  rcases h1 with h1 | ⟨rfl,h1⟩
  ·rcases h2 with h2 | ⟨rfl,h2⟩
   ·exact .inl (UInt8.lt_trans h1 h2)
   ·exact .inl h1
  ·rcases h2 with h2 | ⟨rfl,h2⟩
   ·exact .inl h2
   ·exact .inr ⟨rfl,PR h1 h2⟩
theorem Pi:∀{x y:List UInt8},Op.bytesLess x y=false→Op.bytesLess y x=false→x=y
 | [],[],_,_=>rfl
 | [],c::z,h1,h2=>by simp [Op.bytesLess] at h1
 | a::x,[],h1,h2=>by simp [Op.bytesLess] at h2
 | a::x,b::y,h1,h2=>by
  simp -implicitDefEqProofs only [Op.bytesLess,Bool.or_eq_false_iff,decide_eq_false_iff_not,Bool.and_eq_false_iff,beq_eq_false_iff_ne,ne_eq] at h1 h2
  have hab:a=b:=UInt8.le_antisymm (UInt8.not_lt.1 h2.1) (UInt8.not_lt.1 h1.1)
  subst hab
  rw [Pi (h1.2.resolve_left (fun h=>h rfl)) (h2.2.resolve_left (fun h=>h rfl))]
theorem PD (x:ByteArray):Ed x x=false:=Q9 _
theorem Od {x y z:ByteArray} (h1:Ed x y=true) (h2:Ed y z=true):Ed x z=true:=PR h1 h2
theorem QU (b:ByteArray):∀(n i:Nat) (r:List UInt8),b.size≤n+i→ByteArray.toList.loop b i r=r.reverse++b.data.toList.drop i
 | 0,i,r,h=>by
  rw [ByteArray.toList.loop,if_neg (by omega)]
  rw [List.drop_eq_nil_of_le (by simpa using h),List.append_nil]
 | n+1,i,r,h=>by
  rw [ByteArray.toList.loop]
  split
  ·next hi =>
   rw [QU b n (i+1) _ (by omega),List.reverse_cons,List.append_assoc]
   congr 1
   have hi':i<b.data.toList.length:=by simpa using hi
   rw [List.drop_eq_getElem_cons hi']
   have hi2:i<b.data.size:=hi
   simp [ByteArray.get!]
   exact getElem!_pos b.data i hi2
  ·rw [List.drop_eq_nil_of_le (by simp; omega),List.append_nil]
theorem Nz (b:ByteArray):b.toList=b.data.toList:=by
 rw [ByteArray.toList,QU b b.size 0 [] (by omega)]; rfl
theorem M7 {x y:ByteArray} (h:x.toList=y.toList):x=y:=by
 rw [Nz,Nz] at h
 cases x; cases y
 simp -implicitDefEqProofs only [ByteArray.mk.injEq]
 exact Array.ext' h
theorem QL {x y:ByteArray} (h1:Ed x y=false) (h2:Ed y x=false):x=y:=M7 (Pi h1 h2)
theorem Y3 {x y:ByteArray} (h:Ed x y=true):Ed y x=false:=by
 cases e:Ed y x with
 | false=>rfl
 | true=>have:=Od h e; rw [PD] at this; cases this
theorem OP {x y z:ByteArray} (h1:Ed y x=false) (h2:Ed z y=false):Ed z x=false:=by
 cases e:Ed z x with
 | false=>rfl
 | true =>
  cases e2:Ed x y with
  | true=>have:=Od e e2; rw [h2] at this; cases this
  | false=>obtain rfl:=QL e2 h1; rw [h2] at e; cases e
theorem Yg {x y z:ByteArray} (h1:Ed y x=false) (h2:Ed y z=true):Ed x z=true:=by
 cases e:Ed x z with
 | true=>rfl
 | false =>
  have:=OP (x:=z) (y:=x) (z:=y) e h1
  rw [h2] at this; cases this
def GL (A:List MeterX) (x:MeterX):Nat→Nat
 | 0=>0
 | j+1=>match A[j]? with
  | some y=>if Ed x.nm y.nm=true then GL A x j else j+1
  | none=>j+1
theorem PV (A:List MeterX) (x:MeterX):∀j:Nat,GL A x j≤j
 | 0=>Nat.le_refl _
 | j+1=>by
  unfold GL
  split
  ·split
   ·exact Nat.le_succ_of_le (PV A x j)
   ·exact Nat.le_refl _
  ·exact Nat.le_refl _
def FB (A:List MeterX) (x:MeterX) (p:Nat):List MeterX:=A.take p++x::A.drop p
def Hn (A:List MeterX) (x:MeterX):List MeterX:=FB A x (GL A x A.length)
theorem JT (A:List MeterX) (x:MeterX) (p:Nat):(FB A x p).length=A.length+1:=by
 simp -implicitDefEqProofs only [FB,List.length_append,List.length_cons,List.length_take,List.length_drop]; omega
theorem XG (A:List MeterX) (x:MeterX):(Hn A x).Perm (x::A):=by
 unfold Hn FB
 refine List.perm_middle.trans ?_
 rw [List.take_append_drop]
theorem Oj {A:List MeterX} {x:MeterX}:∀{j:Nat},j≤A.length→∀i y,GL A x j≤i→i<j→A[i]? = some y→Ed x.nm y.nm=true
 | 0,_,i,y,_,h,_=>by omega
 | j+1,hj,i,y,h1,h2,h3=>by
  unfold GL at h1
  split at h1
  ·next z hz =>
   split at h1
   ·next hlt =>
    by_cases e:i=j
    ·subst e; rw [hz] at h3; cases h3; exact hlt
    ·exact Oj (by omega) i y h1 (by omega) h3
   ·omega
  ·omega
theorem OY {A:List MeterX} {x:MeterX}:∀{j:Nat},j≤A.length→0<GL A x j→∃y,A[GL A x j-1]? = some y∧Ed x.nm y.nm=false
 | 0,_,h=>by simp [GL] at h
 | j+1,hj,h=>by
  have hz:A[j]? = some A[j]:=List.getElem?_eq_getElem (by omega)
  unfold GL at h ⊢
  rw [hz] at h ⊢
  simp -implicitDefEqProofs only [] at h ⊢
  by_cases hlt:Ed x.nm A[j].nm=true
  ·rw [if_pos hlt] at h ⊢
   exact OY (by omega) h
  ·rw [if_neg hlt]
   exact ⟨_,hz,by simpa using hlt⟩
def Kc (x y:MeterX):Prop:=Ed y.nm x.nm=false
theorem Yr {A:List MeterX} {x:MeterX} (h:A.Pairwise Kc):(Hn A x).Pairwise Kc:=by
 unfold Hn FB
 generalize hp:GL A x A.length=p
 have hle:p≤A.length:=hp▸PV A x A.length
 have hlo:∀y∈A.take p,Ed x.nm y.nm=false:=by
  intro y hy
  obtain ⟨i,hi⟩:=List.mem_iff_getElem?.1 hy
  rw [List.getElem?_take] at hi
  split at hi
  ·next hip =>
   obtain ⟨z,hz1,hz2⟩:=OY (A:=A) (x:=x) (Nat.le_refl _) (by rw [hp]; omega)
   rw [hp] at hz1
   by_cases e:i=p-1
   ·subst e; rw [hz1] at hi; cases hi; exact hz2
   ·obtain ⟨i1,rfl⟩:=List.getElem?_eq_some_iff.1 hi
    obtain ⟨i2,rfl⟩:=List.getElem?_eq_some_iff.1 hz1
    have:=(List.pairwise_iff_getElem.1 h) i (p-1) i1 i2 (by omega)
    exact OP this hz2
  ·cases hi
 have hhi:∀y∈A.drop p,Ed x.nm y.nm=true:=by
  intro y hy
  obtain ⟨i,hi⟩:=List.mem_iff_getElem?.1 hy
  rw [List.getElem?_drop] at hi
  exact Oj (Nat.le_refl _) (p+i) y (by rw [hp]; omega) (List.getElem?_eq_some_iff.1 hi).1 hi
 rw [List.pairwise_append]
 have hs:(A.take p++A.drop p).Pairwise Kc:=by rw [List.take_append_drop]; exact h
 rw [List.pairwise_append] at hs
 refine ⟨hs.1,List.pairwise_cons.2 ⟨fun y hy=>Y3 (hhi y hy),hs.2.1⟩,fun a ha b hb=>?_⟩
 rcases List.mem_cons.1 hb with rfl | hb
 ·exact hlo a ha
 ·exact hs.2.2 a ha b hb
def Fx (l:List MeterX):Nat→List MeterX
 | 0=>[]
 | n+1=>match l[n]? with
  | some x=>Hn (Fx l n) x
  | none=>Fx l n
theorem LJ {l:List MeterX} {n:Nat} (h:n<l.length):Fx l (n+1)=Hn (Fx l n) l[n]:=by
 simp -implicitDefEqProofs only [Fx,List.getElem?_eq_getElem h]
theorem MG {l:List MeterX}:∀{n:Nat},n≤l.length→(Fx l n).length=n
 | 0,_=>rfl
 | n+1,h=>by
  rw [LJ (by omega)]
  unfold Hn
  rw [JT,MG (by omega)]
theorem Ow {l:List MeterX}:∀{n:Nat},n≤l.length→(Fx l n).Pairwise Kc
 | 0,_=>.nil
 | n+1,h=>by rw [LJ (by omega)]; exact Yr (Ow (by omega))
theorem OF {l:List MeterX}:∀{n:Nat},n≤l.length→(Fx l n).Perm (l.take n)
 | 0,_=>by simp [Fx]
 | n+1,h=>by
  rw [LJ (by omega),List.take_add_one,List.getElem?_eq_getElem (by omega:n<l.length)]
  refine (XG _ _).trans ?_
  refine (List.Perm.cons _ (OF (by omega))).trans ?_
  exact (List.perm_append_singleton _ _).symm
def HE (l:List MeterX):List MeterX:=Fx l l.length
def F7 (S:List MeterX) (n:Nat):Prop:=0<n∧(S[n-1]?).map MeterX.nm=(S[n]?).map MeterX.nm
noncomputable instance (S:List MeterX) (n:Nat):Decidable (F7 S n):=Classical.propDecidable _
noncomputable def FC (S:List MeterX):Nat→List MeterX
 | 0=>[]
 | n+1=>if F7 S n then FC S n else FC S n++(S[n]?).toList
theorem Jz {S:List MeterX} {n:Nat} (h:F7 S n):FC S (n+1)=FC S n:=by rw [FC,if_pos h]
theorem KX {S:List MeterX} {n:Nat} (hn:n<S.length) (h:¬F7 S n):FC S (n+1)=FC S n++[S[n]]:=by rw [FC,if_neg h,List.getElem?_eq_getElem hn]; rfl
theorem Qs {S:List MeterX}:∀{n:Nat},n≤S.length→(FC S n).length≤n
 | 0,_=>Nat.le_refl _
 | n+1,h=>by
  have:=Qs (S:=S) (n:=n) (by omega)
  by_cases hd:F7 S n
  ·rw [Jz hd]; omega
  ·rw [KX (by omega) hd,List.length_append,List.length_singleton]; omega
theorem Ky {S:List MeterX}:∀{n:Nat},n≤S.length→(∀i,i<n→¬F7 S i)→FC S n=S.take n
 | 0,_,_=>by simp [FC]
 | n+1,h,hd=>by
  rw [KX (by omega) (hd n (by omega)),Ky (by omega) (fun i hi=>hd i (by omega)),List.take_add_one,List.getElem?_eq_getElem (by omega:n<S.length)]
  rfl
def MM (x y:MeterX):Prop:=Ed x.nm y.nm=true
theorem Nw {S:List MeterX} (hs:S.Pairwise Kc):∀{n:Nat},n≤S.length→(FC S n).Pairwise MM∧(∀m∈FC S n,m∈S.take n)∧(∀m∈S.take n,∃y∈FC S n,y.nm=m.nm)∧∀y∈FC S n,∀z,S[n-1]? = some z→Ed z.nm y.nm=false
 | 0,_=>⟨.nil,fun m h=>by simp [FC] at h,fun m h=>by simp at h,fun y h=>by simp [FC] at h⟩
 | n+1,h=>by
  obtain ⟨h1,h2,h3,h4⟩:=Nw hs (n:=n) (by omega)
  have hn:n<S.length:=by omega
  have hg:=List.getElem?_eq_getElem hn
  have htk:S.take (n+1)=S.take n++[S[n]]:=by rw [List.take_add_one,hg]; rfl
  have hle:∀y∈S.take n,Ed S[n].nm y.nm=false:=fun y hy=>by
   obtain ⟨i,hi⟩:=List.mem_iff_getElem?.1 hy
   rw [List.getElem?_take] at hi
   split at hi
   ·next hin =>
    obtain ⟨i1,rfl⟩:=List.getElem?_eq_some_iff.1 hi
    exact (List.pairwise_iff_getElem.1 hs) i n i1 hn hin
   ·cases hi
  by_cases hd:F7 S n
  ·rw [Jz hd,htk]
   have hd0:=hd.1
   have hp:n-1<S.length:=by omega
   have hpe:=List.getElem?_eq_getElem hp
   have hdn:S[n-1].nm=S[n].nm:=by
    have:=hd.2
    rw [hpe,hg] at this
    simpa using this
   have hin:S[n-1]∈S.take n:=by
    refine List.mem_iff_getElem?.2 ⟨n-1,?_⟩
    rw [List.getElem?_take,if_pos (by omega),hpe]
   refine ⟨h1,fun m hm=>List.mem_append_left _ (h2 m hm),fun m hm=>?_,fun y hy z hz=>?_⟩
   ·rcases List.mem_append.1 hm with hm | hm
    ·exact h3 m hm
    ·obtain rfl:=List.mem_singleton.1 hm
     rw [←hdn]
     exact h3 _ hin
   ·rw [Nat.add_sub_cancel,hg] at hz
    cases hz
    exact hle y (h2 y hy)
  ·rw [KX hn hd,htk]
   refine ⟨List.pairwise_append.2 ⟨h1,List.pairwise_singleton _ _,fun a ha b hb=>?_⟩,fun m hm=>?_,fun m hm=>?_,fun y hy z hz=>?_⟩
   ·obtain rfl:=List.mem_singleton.1 hb
    have hp:0<n:=by
     rcases Nat.eq_zero_or_pos n with e | e
     ·subst e; simp [FC] at ha
     ·exact e
    have hpl:n-1<S.length:=by omega
    have hpe:=List.getElem?_eq_getElem hpl
    have e1:=h4 a ha _ hpe
    have e2:Ed S[n].nm S[n-1].nm=false:=(List.pairwise_iff_getElem.1 hs) (n-1) n hpl hn (by omega)
    have e3:Ed S[n-1].nm S[n].nm=true:=by
     cases e:Ed S[n-1].nm S[n].nm with
     | true=>rfl
     | false=>exact absurd ⟨hp,by rw [hpe,hg]; simp [QL e e2]⟩ hd
    exact Yg e1 e3
   ·rcases List.mem_append.1 hm with hm | hm
    ·exact List.mem_append_left _ (h2 m hm)
    ·exact List.mem_append_right _ hm
   ·rcases List.mem_append.1 hm with hm | hm
    ·obtain ⟨y,hy,e⟩:=h3 m hm
     exact ⟨y,List.mem_append_left _ hy,e⟩
    ·obtain rfl:=List.mem_singleton.1 hm
     exact ⟨_,List.mem_append_right _ (List.mem_singleton.2 rfl),rfl⟩
   ·rw [Nat.add_sub_cancel,hg] at hz
    cases hz
    rcases List.mem_append.1 hy with hy | hy
    ·exact hle y (h2 y hy)
    ·obtain rfl:=List.mem_singleton.1 hy
     exact PD _
noncomputable def Gu (S:List MeterX):List MeterX:=FC S S.length
noncomputable def Gd (a b:List MeterX):List MeterX:=Gu (HE (a++b))
theorem O0 (a b:List MeterX):(Gd a b).Pairwise MM∧(∀m∈Gd a b,m∈a∨m∈b)∧(∀m,m∈a∨m∈b→∃y∈Gd a b,y.nm=m.nm):=by
 have hs:=Ow (l:=a++b) (Nat.le_refl _)
 have hp:=OF (l:=a++b) (Nat.le_refl _)
 rw [List.take_length] at hp
 obtain ⟨h1,h2,h3,_⟩:=Nw hs (Nat.le_refl _)
 rw [List.take_length] at h2 h3
 refine ⟨h1,fun m hm=>List.mem_append.1 (hp.mem_iff.1 (h2 m hm)),fun m hm=>h3 m (hp.mem_iff.2 (List.mem_append.2 hm))⟩
theorem M4 (l:List MeterX):(HE l).length=l.length:=MG (Nat.le_refl _)
theorem NC (a b:List MeterX):(Gd a b).length≤a.length+b.length:=by
 have:=Qs (S:=HE (a++b)) (Nat.le_refl _)
 unfold Gd Gu
 rw [M4] at this ⊢
 simpa using this
theorem G6 {P:Program} {f:FuncId} {args:List AV} {H0 H:Heap} {K:AV→Heap→Prop} (h:CallW P f args H0 K) (hs:∀k,H0 k=none∨H0 k=H k) :
  CallW P f args H fun r H'=>∃H1,K r H1∧(∀k x,H1 k=some x→H' k=some x)∧∀k x,H k=some x→H0 k=none→H' k=some x:=by
 classical
 intro F w vs hh hv
 have hsub:∀b x,H0 b=some x→H b=some x:=fun b x hb=>by
  rcases hs b with e | e
  ·rw [e] at hb; cases hb
  ·rw [←e]; exact hb
 have hh0:HRel P F H0 w:=⟨fun b x hb=>hh.at_ b x (hsub b x hb),fun b x hb=>hh.apart b x (hsub b x hb),hh.old⟩
 refine (h F w vs hh0 hv).mono fun e w' hr=>?_
 obtain ⟨r,H1,F',v,rfl,h1,h2,h3,h4⟩:=hr
 have hF0:∀k,F k→H0 k=none:=fun k hk=>by
  cases e:H0 k with
  | none=>rfl
  | some x=>exact absurd hk (hh0.apart k x e)
 have hne:∀k,H0 k≠none→H k≠none:=fun k hk=>by
  cases e:H0 k with
  | none=>exact absurd e hk
  | some x=>rw [hsub k x e]; simp
 have hfr:∀k x,H1 k=some x→¬(H k≠none∧H0 k=none):=fun k x hx hk=>by
  rcases h3.dom k (by rw [hx]; simp) with e | e
  ·exact e hk.2
  ·cases e2:H k with
   | none=>exact hk.1 e2
   | some y=>have:=(hh.at_ k y e2).lt; omega
 refine ⟨r,fun k=>if H k≠none∧H0 k=none then H k else H1 k,F',v,rfl,h1,⟨fun b x hb=>?_,fun b x hb hf=>?_,h2.old⟩,⟨h3.os,h3.tape,h3.output,h3.size,fun k hk e=>h3.keep k hk ?_,fun k hk=>?_,h3.mono,fun k hk=>?_⟩,H1,h4,fun k x hx=>?_,fun k x hx hk=>?_⟩
 ·by_cases e:H b≠none∧H0 b=none
  ·rw [if_pos e] at hb
   exact (hh.at_ b x hb).mono (h3.keep b (hh.at_ b x hb).lt e.2) h3.mono (fun k hk=>h3.keep k (hh.old k hk) (hF0 k hk))
  ·rw [if_neg e] at hb
   exact h2.at_ b x hb
 ·by_cases e:H b≠none∧H0 b=none
  ·rw [if_pos e] at hb
   rcases h3.new b hf with e2 | e2 | e2
   ·exact hh.apart b x hb e2
   ·exact e2 e.2
   ·have:=(hh.at_ b x hb).lt; omega
  ·rw [if_neg e] at hb
   exact h2.apart b x hb hf
 ·rcases hs k with e2 | e2
  ·exact e2
  ·rw [e2,e]
 ·by_cases e:H k≠none∧H0 k=none
  ·exact .inl e.1
  ·rw [if_neg e] at hk
   exact (h3.dom k hk).imp (hne k) id
 ·rcases h3.new k hk with e | e | e
  ·exact .inl e
  ·exact .inr (.inl (hne k e))
  ·exact .inr (.inr e)
 ·show (if H k≠none∧H0 k=none then H k else H1 k)=some x
  rw [if_neg (hfr k x hx)]
  exact hx
 ·show (if H k≠none∧H0 k=none then H k else H1 k)=some x
  rw [if_pos ⟨by rw [hx]; simp,hk⟩]
  exact hx
theorem PL {P:Program} {Q:Out→St→Prop} {d:Option Nat} {l:List AO} {k:List Item} {s:St} {a b:ByteArray}:Eo P Q .gtr (.d (.str a)) (.d (.str b)) d l k s=AI P Q l k (AF s d (.d (.bool (!(Op.bytesLess a.toList b.toList||a.toList == b.toList)))) s.H):=rfl
theorem Qb (s:ByteArray):DataW Try.prog Rv [.d (.str s)] (bv false):=by
 refine Am AEk (by simp) ?_
 simp -implicitDefEqProofs -proj only [go_sem,seval,JP]
 refine AJ ?_
 simp
def JJ (s t:ByteArray):Int:=if Ed s t then -1 else if (!(Ed s t||s.toList == t.toList)) then 1 else 0
theorem Un (s t:ByteArray):decide (JJ s t<0)=Ed s t:=by
 unfold JJ
 cases Ed s t <;> simp
 split <;> omega
theorem Us (s t:ByteArray):DataW Try.prog Vh [.d (.str s),.d (.str t)] (i64 (JJ s t)):=by
 refine Am Wu (by simp) ?_
 simp -implicitDefEqProofs -proj only [go_sem,seval]
 refine AH (Qb s) ?_
 simp -implicitDefEqProofs -proj only [go_sem,seval]
 refine AH (Qb t) ?_
 cases h1:Op.bytesLess s.toList t.toList with
 | true =>
  simp -implicitDefEqProofs -proj only [go_sem,seval,J0,h1]
  exact AJ (by simp [JJ,Ed,h1])
 | false =>
  cases h2:s.toList == t.toList with
  | true =>
   simp -implicitDefEqProofs -proj only [go_sem,seval,J0,PL,h1,h2,Bool.or_true,Bool.false_or,Bool.not_true]
   exact AJ (by simp -implicitDefEqProofs only [JJ,Ed,h1,h2]; simp)
  | false =>
   simp -implicitDefEqProofs -proj only [go_sem,seval,J0,PL,h1,h2,Bool.or_false,Bool.not_false]
   exact AJ (by simp -implicitDefEqProofs only [JJ,Ed,h1,h2]; simp)
abbrev L5 (x:MeterX):AV:=.agg [.d (.str x.nm),.d (.str x.un),i64 x.mx,i64 x.ln,i64 x.co]
theorem AHD (x y:MeterX):DataW Try.prog HJ [L5 x,L5 y] (i64 (JJ x.nm y.nm)):=by
 refine Am Uj (by simp) ?_
 simp -implicitDefEqProofs -proj only [go_sem,seval]
 refine AN (fun b1 hb1=>?_)
 simp -implicitDefEqProofs -proj only [go_sem,seval]
 refine AN (fun b2 hb2=>?_)
 replace hb2:upd Heap.none b1 _ b2=none:=hb2
 obtain ⟨n1,n2⟩:=Ac hb2 Ad
 simp -implicitDefEqProofs -proj only [go_sem,seval,n1,n2]
 refine AH (Us _ _) ?_
 simp -implicitDefEqProofs -proj only [go_sem,seval,n1,n2]
 exact AJ rfl
theorem Ok (x y:MeterX):DataW Try.prog KR [L5 x,L5 y] (bv (x.nm.toList == y.nm.toList)):=by
 refine Am AEi (by simp) ?_
 simp -implicitDefEqProofs -proj only [go_sem,seval]
 refine AN (fun b1 hb1=>?_)
 simp -implicitDefEqProofs -proj only [go_sem,seval]
 refine AN (fun b2 hb2=>?_)
 replace hb2:upd Heap.none b1 _ b2=none:=hb2
 obtain ⟨n1,n2⟩:=Ac hb2 Ad
 simp -implicitDefEqProofs -proj only [go_sem,seval,n1,n2,Ig]
 exact AJ rfl
theorem ADp {H0:Heap} {K:List D→Heap→Prop}:∀{ds:List D} {H:Heap},As H0 H (mapD ds) K=K ds H:=by
 intro ds
 induction ds generalizing K with
 | nil=>intro H; rfl
 | cons a l ih=>intro H; exact ih (K:=fun xs H''=>K (a::xs) H'')
theorem My {P:Program} {Q:Out→St→Prop} {k:List Item} {s:St} {d:Option Nat} {l:List AO} {ds:List D} {n b sz i j cap:Nat} {t:TypeId} {xs:List (List D)} {el:List D} (hb:s.H b=some (.row t sz cap xs)) (h:xs[i]? = some el) (hj:j+n≤el.length) (hk:AI P Q l k (AF s d .void (upd s.H b (some (.row t sz cap (xs.set i (Fe el j ds))))))):J2 n (.agg (mapD ds)) b sz i j d l k s P Q:=by
 unfold J2
 show As s.H s.H (mapD ds) _
 rw [ADp]
 simp -implicitDefEqProofs only [hb]
 exact ⟨by trivial,el,h,hj,hk⟩
abbrev F4 (c cap:Nat) (l:List MeterX):List (Nat×Blk):=[(c,.row 39 5 cap (AS l))]
theorem IL {l:List MeterX} {i:Nat} {x:MeterX} (h:l[i]? = some x):(AS l)[i]? = some x.el:=by simp [AS,h]
theorem Mx {l:List MeterX} {i:Nat} {x:MeterX}:(AS l).set i x.el=AS (l.set i x):=by simp [AS,List.map_set]
theorem AD3 (l:List MeterX):Fx l 1++l.drop 1=l:=by
 cases l with
 | nil=>rfl
 | cons a l=>simp [Fx,Hn,FB,GL]
theorem PF {A:List MeterX} {y:MeterX} {j:Nat} (h:j≤A.length):(FB A y j)[j]? = some y:=by
 unfold FB
 rw [List.getElem?_append_right (by simp; omega)]
 simp [Nat.min_eq_left h]
theorem Oh {A:List MeterX} {y:MeterX} {j:Nat} (h:j<A.length):(FB A y (j+1))[j]? = some A[j]:=by
 unfold FB
 rw [List.getElem?_append_left (by simp; omega),List.getElem?_take_of_lt (by omega),List.getElem?_eq_getElem h]
theorem XJ {A R:List MeterX} {y:MeterX} {j:Nat} (h:j<A.length):((FB A y (j+1)++R).set (j+1) A[j]).set j y=FB A y j++R:=by
 apply List.ext_getElem?
 intro i
 have hl:(FB A y (j+1)).length=A.length+1:=JT ..
 have hl2:(FB A y j).length=A.length+1:=JT ..
 rw [List.getElem?_set,List.getElem?_set]
 simp -implicitDefEqProofs only [List.length_set,List.length_append,hl]
 by_cases e1:j=i
 ·subst e1
  rw [if_pos rfl,if_pos (by omega),List.getElem?_append_left (by omega),PF (by omega)]
 ·rw [if_neg e1]
  by_cases e2:j+1=i
  ·subst e2
   rw [if_pos rfl,if_pos (by omega),List.getElem?_append_left (by omega)]
   unfold FB
   rw [List.getElem?_append_right (by simp; omega)]
   simp -implicitDefEqProofs only [List.length_take,Nat.min_eq_left (by omega:j≤A.length),Nat.add_sub_cancel_left]
   simp [h]
  ·rw [if_neg e2]
   by_cases e3:i<A.length+1
   ·rw [List.getElem?_append_left (by omega),List.getElem?_append_left (by omega)]
    unfold FB
    by_cases e4:i<j
    ·rw [List.getElem?_append_left (by simp; omega),List.getElem?_append_left (by simp; omega),List.getElem?_take_of_lt (by omega),List.getElem?_take_of_lt (by omega)]
    ·rw [List.getElem?_append_right (by simp; omega),List.getElem?_append_right (by simp; omega)]
     simp -implicitDefEqProofs only [List.length_take,Nat.min_eq_left (by omega:j≤A.length),Nat.min_eq_left (by omega:j+1≤A.length)]
     obtain ⟨k,rfl⟩:∃k,i=j+2+k:=⟨i-(j+2),by omega⟩
     rw [show j+2+k-(j+1)=k+1 by omega,show j+2+k-j=k+1+1 by omega]
     simp -implicitDefEqProofs only [List.getElem?_cons_succ,List.getElem?_drop]
     congr 1; omega
   ·rw [List.getElem?_append_right (by omega),List.getElem?_append_right (by omega),hl,hl2]
theorem YX (A:List MeterX) (y:MeterX):FB A y A.length=A++[y]:=by unfold FB; rw [List.take_length,List.drop_length]
theorem AC4 {c cap cp n:Nat} {l:List MeterX} (hn:n=l.length) (hl:l.length≤1000):CallW Try.prog Qp [.own c 5 0 n cp,i64 0,i64 n,.fn HJ []] (Ak (F4 c cap l)) fun _ H'=>H' c=some (.row 39 5 cap (AS (HE l))):=by
 have hall:∀xs,AR (Ak (F4 c cap xs)) (F4 c cap xs):=fun xs=>EZ (by simp [AP])
 have hw1:IntKind.i64.wrap (0+1)=1:=by decide
 refine Am RI (by simp) ?_
 simp -implicitDefEqProofs -proj only [go_sem,seval,hw1]
 refine EN (fun x:Nat=>x+1≤n∨x=0) 53 (fun x=>[(0,.own c 5 0 n cp),(1,i64 0),(2,i64 n),(3,.fn HJ []),(8,i64 ((x+1:Nat):Int))]) (fun x=>F4 c cap (Fx l (x+1)++l.drop (x+1))) (fun x=>n-x) 0 (.inr rfl) rfl ?_ ?_ ?_
 ·simp -implicitDefEqProofs -proj only [go_sem,seval,AK]
  try rfl
 ·rw [AD3]
  simp -implicitDefEqProofs -proj only [go_sem,seval]
  exact hall _
 intro x hx
 by_cases h:x+1<n
 rotate_left
 ·have hr:=(hall (Fx l (x+1)++l.drop (x+1))).1
  simp -implicitDefEqProofs -proj only [go_sem,seval,decide_eq_false (show ¬((x+1:Nat):Int)<n by omega)]
  have e:Fx l (x+1)++l.drop (x+1)=HE l:=by
   unfold HE
   rcases hx with hx | rfl
   ·rw [show x+1=l.length by omega,List.drop_length,List.append_nil]
   ·rcases (by omega:l.length=0∨l.length=1) with e | e
    ·obtain rfl:=List.eq_nil_of_length_eq_zero e; rfl
    ·rw [e]; rw [List.drop_eq_nil_of_le (by omega),List.append_nil]
  rw [e]
 generalize hA:Fx l (x+1)=A
 have hAl:A.length=x+1:=by rw [←hA]; exact MG (by omega)
 have hxl:x+1<l.length:=by omega
 generalize hy:l[x+1]=y
 have hdrop:A++l.drop (x+1)=FB A y (x+1)++l.drop (x+2):=by
  rw [←hAl,YX,List.append_assoc,hAl,List.drop_eq_getElem_cons hxl,hy]; rfl
 have hnext:Fx l (x+1+1)=Hn A y:=by rw [LJ hxl,hA,hy]
 rw [hdrop]
 simp -implicitDefEqProofs -proj only [go_sem,seval,decide_eq_true (show ((x+1:Nat):Int)<n by omega)]
 refine EN (fun q:Nat=>q≤x+1∧GL A y (x+1)=GL A y (x+1-q)) 53 (fun q=>[(0,.own c 5 0 n cp),(1,i64 0),(2,i64 n),(3,.fn HJ []),(8,i64 ((x+1:Nat):Int)),(9,i64 ((x+1-q:Nat):Int))]) (fun q=>F4 c cap (FB A y (x+1-q)++l.drop (x+2))) (fun q=>x+1-q) 0 ⟨by omega,rfl⟩ rfl ?_ ?_ ?_
 ·simp -implicitDefEqProofs -proj only [go_sem,seval,AK]
  try rfl
 ·simp -implicitDefEqProofs -proj only [go_sem,seval]
  exact hall _
 rintro q ⟨hq,hp⟩
 generalize hj:x+1-q=j at *
 have hr:=(hall (FB A y j++l.drop (x+2))).1
 have hfin:GL A y j=j→(FB A y j++l.drop (x+2)=Fx l (x+1+1)++l.drop (x+1+1)):=fun e=>by
  rw [hnext]; unfold Hn; rw [hAl,hp,e]
 by_cases hj0:0<j
 rotate_left
 ·obtain rfl:j=0:=by omega
  simp -implicitDefEqProofs -proj only [go_sem,seval,decide_eq_false (show ¬(0:Int)<((0:Nat):Int) by omega),Ab (show x+1<9223372036854775807 by omega)]
  refine AX (x+1) (by omega) (by omega) rfl ?_ ?_
  ·simp -implicitDefEqProofs -proj only [go_sem,seval,AK]
   try rfl
  ·show AR (Ak (F4 c cap (FB A y 0++l.drop (x+2)))) (F4 c cap (Fx l (x+1+1)++l.drop (x+1+1)))
   rw [←hfin rfl]
   exact hall _
 obtain ⟨i,rfl⟩:∃i,j=i+1:=⟨j-1,by omega⟩
 have hiA:i<A.length:=by omega
 have g1:(AS (FB A y (i+1)++l.drop (x+2)))[i+1]? = some y.el:=IL (by rw [List.getElem?_append_left (by rw [JT]; omega)]; exact PF (by omega))
 have g2:(AS (FB A y (i+1)++l.drop (x+2)))[i]? = some A[i].el:=IL (by rw [List.getElem?_append_left (by rw [JT]; omega)]; exact Oh hiA)
 have hw:IntKind.i64.wrap (((i+1:Nat):Int)-1)=(i:Int):=by rw [IntKind.wrap_i64]; omega
 simp -implicitDefEqProofs -proj only [go_sem,seval,decide_eq_true (show (0:Int)<((i+1:Nat):Int) by omega),hr,hw,Int.toNat_natCast,Nat.zero_add]
 refine Aq (by omega) (fun _=>?_)
 refine Aq (by omega) (fun _=>?_)
 refine EX _ g1 (Nat.le_refl 5) ?_
 simp -implicitDefEqProofs -proj only [go_sem,seval,hr,MeterX.el]
 refine EX _ g2 (Nat.le_refl 5) ?_
 simp -implicitDefEqProofs -proj only [go_sem,seval,hr,MeterX.el]
 refine AH (AHD y A[i]) ?_
 simp -implicitDefEqProofs -proj only [go_sem,seval,Un]
 cases hlt:Ed y.nm A[i].nm with
 | false =>
  simp -implicitDefEqProofs -proj only [go_sem,seval,Ab (show x+1<9223372036854775807 by omega)]
  refine AX (x+1) (by omega) (by omega) rfl ?_ ?_
  ·simp -implicitDefEqProofs -proj only [go_sem,seval,AK]
   try rfl
  ·show AR (Ak (F4 c cap (FB A y (i+1)++l.drop (x+2)))) (F4 c cap (Fx l (x+1+1)++l.drop (x+1+1)))
   rw [←hfin (by simp -implicitDefEqProofs only [GL,List.getElem?_eq_getElem hiA,hlt]; simp)]
   exact hall _
 | true =>
  simp -implicitDefEqProofs -proj only [go_sem,seval,hr,hw,Int.toNat_natCast,Nat.zero_add]
  refine Aq (by omega) (fun _=>?_)
  refine Aq (by omega) (fun _=>?_)
  refine EX _ g2 (Nat.le_refl 5) ?_
  simp -implicitDefEqProofs -proj only [go_sem,seval,hr,MeterX.el]
  refine EX _ g1 (Nat.le_refl 5) ?_
  simp -implicitDefEqProofs -proj only [go_sem,seval,hr,MeterX.el,Int.toNat_natCast,Nat.zero_add]
  refine Aq (by omega) (fun _=>?_)
  refine My (ds:=A[i].el) (t:=39) (cap:=cap) (xs:=AS (FB A y (i+1)++l.drop (x+2))) (by simp -implicitDefEqProofs -proj only [go_sem,seval]) g1 (Nat.le_refl 5) ?_
  have s1:Fe y.el 0 A[i].el=A[i].el:=rfl
  rw [s1,Mx]
  simp -implicitDefEqProofs -proj only [go_sem,seval,hw,Int.toNat_natCast,Nat.zero_add]
  refine Aq (by omega) (fun _=>?_)
  have hlen:(FB A y (i+1)++l.drop (x+2)).length=A.length+1+(l.drop (x+2)).length:=by rw [List.length_append,JT]
  have g3:(AS ((FB A y (i+1)++l.drop (x+2)).set (i+1) A[i]))[i]? = some A[i].el:=IL (by
   rw [List.getElem?_set,if_neg (by omega),List.getElem?_append_left (by rw [JT]; omega)]; exact Oh hiA)
  refine My (ds:=y.el) (t:=39) (cap:=cap) (xs:=AS ((FB A y (i+1)++l.drop (x+2)).set (i+1) A[i])) (by simp -implicitDefEqProofs -proj only [go_sem,seval]) g3 (Nat.le_refl 5) ?_
  have s2:Fe A[i].el 0 y.el=y.el:=rfl
  rw [s2,Mx,XJ hiA]
  simp -implicitDefEqProofs -proj only [go_sem,seval,hw]
  refine AX (q+1) ⟨by omega,?_⟩ (by omega) rfl ?_ ?_
  ·rw [show x+1-(q+1)=i by omega,hp]
   simp -implicitDefEqProofs only [GL,List.getElem?_eq_getElem hiA,hlt]
   simp
  ·rw [show x+1-(q+1)=i by omega]
   simp -implicitDefEqProofs -proj only [go_sem,seval,AK]
   try rfl
  ·rw [show x+1-(q+1)=i by omega]
   simp -implicitDefEqProofs -proj only [go_sem,seval,AR]
   try rfl
theorem Ry {c cap cp n:Nat} {l:List MeterX} (hn:n=l.length) (hl:l.length≤19):CallW Try.prog OS [.own c 5 0 n cp,i64 n,.fn HJ []] (Ak (F4 c cap l)) fun _ H'=>H' c=some (.row 39 5 cap (AS (HE l))):=by
 have hall:∀xs,AR (Ak (F4 c cap xs)) (F4 c cap xs):=fun xs=>EZ (by simp [AP])
 refine Am P7 (by simp) ?_
 simp -implicitDefEqProofs -proj only [go_sem,seval]
 refine EN (fun x:Nat=>x=0) 63 (fun x=>[(0,.own c 5 0 n cp),(1,i64 n),(2,.fn HJ []),(6,i64 20),(7,i64 0),(8,i64 20)]) (fun x=>F4 c cap l) (fun x=>x) 0 rfl rfl ?_ (hall _) ?_
 ·simp -implicitDefEqProofs -proj only [go_sem,seval,AK]
  try rfl
 rintro x rfl
 simp -implicitDefEqProofs -proj only [go_sem,seval,decide_eq_false (show ¬(20:Int)≤n by omega)]
 refine Fy (AC4 hn (by omega)) (fun r H' hk=>?_)
 simp -implicitDefEqProofs -proj only [go_sem,seval]
 refine EN (fun x:Nat=>x=0) 63 (fun x=>[(1,i64 n),(6,i64 20)]) (fun x=>F4 c cap (HE l)) (fun x=>x) 0 rfl rfl ?_ ⟨hk,trivial⟩ ?_
 ·simp -implicitDefEqProofs -proj only [go_sem,seval,AK]
  try rfl
 rintro x rfl
 simp -implicitDefEqProofs -proj only [go_sem,seval,decide_eq_false (show ¬(20:Int)<n by omega)]
 try rfl
theorem AGN {H:Heap} {c cap cp n:Nat} {l:List MeterX} (h:H c=some (.row 39 5 cap (AS l))) (hn:n=l.length) (hl:l.length≤19):CallW Try.prog P2 [.own c 5 0 n cp,.fn HJ []] H fun _ H'=>H' c=some (.row 39 5 cap (AS (HE l)))∧∀k x,¬k=c→H k=some x→H' k=some x:=by
 refine Am Oy (by simp) ?_
 simp -implicitDefEqProofs -proj only [go_sem,seval]
 refine Fy (G6 (Ry (c:=c) (cap:=cap) (cp:=cp) hn hl) (fun k=>?_)) (fun r H' hk=>?_)
 ·rw [Aw]
  by_cases e:k=c
  ·rw [if_pos e]; subst e; exact .inr h.symm
  ·rw [if_neg e]; exact .inl rfl
 obtain ⟨H1,h1,h2,h3⟩:=hk
 simp -implicitDefEqProofs -proj only [go_sem,seval]
 refine ⟨h2 c _ h1,fun k x hk hx=>h3 k x hx ?_⟩
 rw [Aw,if_neg hk]
 rfl
theorem Om {P:Program} {f:FuncId} {args:List AV} {H:Heap} {K:AV→Heap→Prop} (h:CallW P f args H fun r H'=>K r H'∨∃b sz len cap t xs,r = .part b sz 0 len cap∧H' b=some (.row t sz cap xs)∧len≤xs.length∧cap≠0∧K (.own b sz 0 len cap) (upd H' b (some (.row t sz cap (xs.take len))))):CallW P f args H K:=by
 intro F w vs hh hv
 refine (h F w vs hh hv).mono fun e w' hr=>?_
 obtain ⟨r,H',F',v,rfl,h1,h2,h3,h4⟩:=hr
 rcases h4 with h4 | ⟨b,sz,len,cap,t,xs,rfl,hb,hl,hc,hk⟩
 ·exact ⟨r,H',F',v,rfl,h1,h2,h3,h4⟩
 ·cases h1 with | part _ _ _ _ _ o hlc ho =>
  obtain rfl:o=0:=by have:=ho.resolve_left hc; simpa using this
  refine ⟨.own b sz 0 len cap,upd H' b (some (.row t sz cap (xs.take len))),F',_,rfl,?_,⟨fun k x hx=>?_,fun k x hx=>?_,h2.old⟩,⟨h3.os,h3.tape,h3.output,h3.size,h3.keep,fun k hk=>?_,h3.mono,h3.new⟩,hk⟩
  ·have:=VR.own (P:=P) (F:=F') (w:=w') b sz 0 len cap hlc
   rw [Nat.zero_mul] at this
   exact this
  ·rw [AL] at hx
   split at hx
   ·next e =>
    subst e
    cases hx
    obtain ⟨cur,c1,c2,c3,c4,c5,c6,c7,c8⟩:=h2.at_ _ _ hb
    refine ⟨cur,c1,c2,?_,c4,c5,fun el hel=>c6 el (List.mem_of_mem_take hel),fun i j el c u e1 e2 e3=>?_,c8⟩
    ·rw [List.length_take]; omega
    ·rw [List.getElem?_take] at e1
     split at e1
     ·exact c7 i j el c u e1 e2 e3
     ·cases e1
   ·exact h2.at_ k x hx
  ·rw [AL] at hx
   split at hx
   ·next e=>subst e; exact h2.apart _ _ hb
   ·exact h2.apart k x hx
  ·rw [AL] at hk
   split at hk
   ·next e=>subst e; exact h3.dom _ (by rw [hb]; simp)
   ·exact h3.dom k hk
abbrev NM:List D:=[.str ⟨⟨[]⟩⟩,.str ⟨⟨[]⟩⟩,.int .i64 0,.int .i64 0,.int .i64 0]
def Mf (q n:Nat) (r:AV) (H':Heap):Prop:=(n=0∧r = .nilsl q)∨(0<n∧∃b cap,r = .own b 5 0 0 cap∧H' b=some (.row 39 5 cap []))
def RK (q n:Nat) (r:AV) (H':Heap):Prop:=Mf q n r H'∨∃b sz len cap t xs,r = .part b sz 0 len cap∧H' b=some (.row t sz cap xs)∧len≤xs.length∧cap≠0∧Mf q n (.own b sz 0 len cap) (upd H' b (some (.row t sz cap (xs.take len))))
theorem AB5 {n q:Nat} (hn:n≤1000):CallW Try.prog ACY [.nilsl q,i64 n] Heap.none (Mf q n):=by
 refine Om (show CallW _ _ _ _ (RK q n) from ?_)
 refine Am AKS (by simp) ?_
 have hw:IntKind.i64.wrap ((n:Int)-0)=n:=by rw [IntKind.wrap_i64]; omega
 have hw0:IntKind.i64.wrap 0=0:=by decide
 by_cases h:n=0
 ·simp -implicitDefEqProofs -proj only [go_sem,seval,decide_eq_false (show ¬(n:Int)<0 by omega),hw0,hw,decide_eq_false (show ¬(0:Int)<(n:Int) by omega)]
  exact .inl (.inl ⟨h,rfl⟩)
 ·simp -implicitDefEqProofs -proj only [go_sem,seval,decide_eq_false (show ¬(n:Int)<0 by omega),hw0,hw,decide_eq_true (show (0:Int)<(n:Int) by omega),Option.getD_none,Option.getD_some]
  refine Aq (by decide) (fun _=>?_)
  simp -implicitDefEqProofs -proj only [go_sem,seval]
  refine AJZ (ds:=NM) rfl (by omega) (by omega) (by simp -implicitDefEqProofs only [maxLen]; omega) (fun b hb cap hc=>?_)
  simp -implicitDefEqProofs -proj only [go_sem,seval,Option.getD_none,Option.getD_some]
  refine Aq (by simp) (fun _=>?_)
  simp -implicitDefEqProofs -proj only [go_sem,seval,Option.getD_none,Option.getD_some]
  refine .inr ⟨b,5,0,cap,_,_,rfl,Ad,Nat.zero_le _,by omega,.inr ⟨by omega,b,cap,rfl,?_⟩⟩
  rw [Ad,List.take_zero]
abbrev HT (A B:List MeterX):List (List D):=[[.sl 5 (AS A)],[.sl 5 (AS B)]]
def Fv (A B:List MeterX):Nat→List MeterX
 | 0=>[]
 | 1=>A
 | _=>A++B
theorem Nj {A B:List MeterX} {x:Nat} (h:x<2):∃y,(HT A B)[x]? = some [.sl 5 (AS y)]∧Fv A B (x+1)=Fv A B x++y:=by
 rcases (by omega:x=0∨x=1) with rfl | rfl
 ·exact ⟨A,rfl,rfl⟩
 ·exact ⟨B,rfl,rfl⟩
theorem QP (a b:List MeterX):AS (a++b)=AS a++AS b:=by simp [AS]
theorem Gj (a:List MeterX):(AS a).length=a.length:=by simp [AS]
theorem AET {a:List MeterX} (h:AS a=[]):a=[]:=by simpa [AS] using h
def Tc (L:List MeterX) (r:AV) (H':Heap):Prop:=(L=[]∧∃q,r = .nilsl q)∨∃b cap,r = .own b 5 0 L.length cap∧H' b=some (.row 39 5 cap (AS L))
theorem T5 {A B:List MeterX} {a ca:Nat} {ta:TypeId} (hA:A.length≤100) (hB:B.length≤100):CallW Try.prog S6 [.own a 1 0 2 ca] (Ak [(a,.row ta 1 2 (HT A B))]) (Tc (A++B)):=by
 have hca:AR (Ak [(a,.row ta 1 2 (HT A B))]) [(a,.row ta 1 2 (HT A B))]:=EZ (by simp [AP])
 have hr:=hca.1
 have hcl:∀x,(Fv A B x).length≤200:=fun x=>by
  match x with
  | 0=>simp [Fv]
  | 1=>simp -implicitDefEqProofs only [Fv]; omega
  | n+2=>simp -implicitDefEqProofs only [Fv,List.length_append]; omega
 have hcs:∀x,x<2→(Fv A B x).length≤(Fv A B (x+1)).length:=fun x hx=>by
  obtain ⟨y,_,e⟩:=Nj (A:=A) (B:=B) hx
  rw [e]; simp
 refine Am AGa (by simp) ?_
 simp -implicitDefEqProofs -proj only [go_sem,seval]
 refine EN (fun x:Nat=>x≤2) 36 (fun x=>[(0,.own a 1 0 2 ca),(9,.own a 1 0 2 ca),(10,i64 2),(11,i64 x),(3,i64 (Fv A B x).length)]) (fun x=>[(a,.row ta 1 2 (HT A B))]) (fun x=>2-x) 0 (by omega) rfl ?_ hca ?_
 ·simp -implicitDefEqProofs -proj only [go_sem,seval,AK]
  try rfl
 intro x hx
 by_cases h:x<2
 ·obtain ⟨y,e1,e2⟩:=Nj (A:=A) (B:=B) h
  have hl:(Fv A B (x+1)).length=(Fv A B x).length+y.length:=by rw [e2,List.length_append]
  have h1:=hcl (x+1)
  have hw:IntKind.i64.wrap (((Fv A B x).length:Int)+(AS y).length)=((Fv A B (x+1)).length:Int):=by rw [Gj,hl,IntKind.wrap_i64]; omega
  simp -implicitDefEqProofs -proj only [go_sem,seval,decide_eq_true (show (x:Int)<2 by omega),hr,Int.toNat_natCast,Nat.zero_add]
  refine Aq (by omega) (fun _=>?_)
  refine EW _ e1 (Nat.le_refl 1) ?_
  simp -implicitDefEqProofs -proj only [go_sem,seval,hw,decide_eq_false (show ¬((Fv A B (x+1)).length:Int)<0 by omega),Ab (show x<9223372036854775807 by omega)]
  refine AX (x+1) (by omega) (by omega) rfl ?_ hca
  simp -implicitDefEqProofs -proj only [go_sem,seval,AK]
  try rfl
 obtain rfl:x=2:=by omega
 have hc2:Fv A B 2=A++B:=rfl
 rw [hc2]
 simp -implicitDefEqProofs -proj only [go_sem,seval,decide_eq_false (show ¬((2:Nat):Int)<2 by omega)]
 refine Fy (G6 (AB5 (q:=0) (n:=(A++B).length) (by have:=hcl 2; rw [hc2] at this; omega)) (fun k=>.inl rfl)) (fun r H' hk=>?_)
 obtain ⟨H1,hg,hsub,hkeep⟩:=hk
 have qa:H' a=some (.row ta 1 2 (HT A B)):=hkeep a _ hr rfl
 rcases hg with ⟨h0,rfl⟩ | ⟨h0,b,cap,rfl,hb⟩
 ·have hAB:A++B=[]:=List.eq_nil_of_length_eq_zero h0
  have hA0:A=[]:=List.append_eq_nil_iff.1 hAB |>.1
  have hB0:B=[]:=List.append_eq_nil_iff.1 hAB |>.2
  subst hA0; subst hB0
  simp -implicitDefEqProofs -proj only [go_sem,seval]
  refine EN (fun x:Nat=>x≤2) 36 (fun x=>[(25,.own a 1 0 2 ca),(26,i64 2),(27,i64 x),(6,.nilsl 0)]) (fun x=>[(a,.row ta 1 2 (HT [] []))]) (fun x=>2-x) 0 (by omega) rfl ?_ ⟨qa,trivial⟩ ?_
  ·simp -implicitDefEqProofs -proj only [go_sem,seval,AK]
   try rfl
  intro x hx
  by_cases h:x<2
  ·have e1:(HT [] [])[x]? = some [.sl 5 []]:=by rcases (by omega:x=0∨x=1) with rfl | rfl <;> rfl
   simp -implicitDefEqProofs -proj only [go_sem,seval,decide_eq_true (show (x:Int)<2 by omega),hr,Int.toNat_natCast,Nat.zero_add]
   refine Aq (by omega) (fun _=>?_)
   refine EW _ e1 (Nat.le_refl 1) ?_
   simp -implicitDefEqProofs -proj only [go_sem,seval]
   refine ACy (ys:=[]) (fun K=>rfl) rfl (by simp) (fun _=>?_) (fun e=>absurd rfl e)
   simp -implicitDefEqProofs -proj only [go_sem,seval,Ab (show x<9223372036854775807 by omega)]
   refine AX (x+1) (by omega) (by omega) rfl ?_ hca
   simp -implicitDefEqProofs -proj only [go_sem,seval,AK]
   try rfl
  ·simp -implicitDefEqProofs -proj only [go_sem,seval,decide_eq_false (show ¬(x:Int)<2 by omega)]
   exact .inl ⟨rfl,0,rfl⟩
 ·replace hb:=hsub b _ hb
  have hne:¬b=a:=by rintro rfl; rw [qa] at hb; cases hb
  simp -implicitDefEqProofs -proj only [go_sem,seval]
  refine EN (fun x:Nat×(Nat×Nat)=>x.1≤2∧¬x.2.1=a) 36 (fun x=>[(25,.own a 1 0 2 ca),(26,i64 2),(27,i64 x.1),(6,.own x.2.1 5 0 (Fv A B x.1).length x.2.2)]) (fun x=>[(x.2.1,.row 39 5 x.2.2 (AS (Fv A B x.1))),(a,.row ta 1 2 (HT A B))]) (fun x=>2-x.1) (0,(b,cap)) ⟨by omega,hne⟩ rfl ?_ ⟨hb,qa,trivial⟩ ?_
  ·simp -implicitDefEqProofs -proj only [go_sem,seval,AK]
   try rfl
  clear hb qa hsub hkeep H' H1 hne
  rintro ⟨x,b,cap⟩ ⟨hx,hne⟩
  simp -implicitDefEqProofs only [] at hx hne
  have hne':¬a=b:=fun e=>hne e.symm
  have hall:AR (Ak [(b,.row 39 5 cap (AS (Fv A B x))),(a,.row ta 1 2 (HT A B))]) [(b,.row 39 5 cap (AS (Fv A B x))),(a,.row ta 1 2 (HT A B))]:=EZ (by simp [AP,hne])
  obtain ⟨q1,q2,_⟩:=id hall
  by_cases h:x<2
  ·obtain ⟨y,e1,e2⟩:=Nj (A:=A) (B:=B) h
   have hl:(Fv A B (x+1)).length=(Fv A B x).length+y.length:=by rw [e2,List.length_append]
   have h1:=hcl (x+1)
   simp -implicitDefEqProofs -proj only [go_sem,seval,decide_eq_true (show (x:Int)<2 by omega),hne,hne',Int.toNat_natCast,Nat.zero_add]
   refine Aq (by omega) (fun _=>?_)
   refine EW _ e1 (Nat.le_refl 1) ?_
   simp -implicitDefEqProofs -proj only [go_sem,seval]
   refine AGr (ys:=AS y) (fun K=>rfl) q1 (by rw [Gj]) rfl (by simp -implicitDefEqProofs only [Gj,maxLen]; omega) (fun e=>?_) (fun e b' cap' hb'=>?_)
   ·obtain rfl:=AET e
    rw [List.append_nil] at e2
    simp -implicitDefEqProofs -proj only [go_sem,seval,Ab (show x<9223372036854775807 by omega)]
    refine AX (x+1,(b,cap)) ⟨by show x+1≤2; omega,hne⟩ (by show 2-(x+1)<2-x; omega) rfl ?_ ?_
    ·simp -implicitDefEqProofs -proj only [go_sem,seval,AK,e2]
     try rfl
    ·simp -implicitDefEqProofs only [e2]
     exact hall
   ·have hn2:¬b'=a:=by
     rintro rfl
     rw [EH (by exact hne)] at hb'
     have q3:=q2.symm.trans hb'
     cases q3
    have hn3:¬a=b':=fun e=>hn2 e.symm
    simp -implicitDefEqProofs -proj only [go_sem,seval,Ab (show x<9223372036854775807 by omega)]
    refine AX (x+1,(b',cap')) ⟨by show x+1≤2; omega,hn2⟩ (by show 2-(x+1)<2-x; omega) rfl ?_ ?_
    ·simp -implicitDefEqProofs -proj only [go_sem,seval,AK,hl,Gj]
     try rfl
    ·refine ⟨?_,?_,trivial⟩
     ·show upd (upd _ b none) b' _ b'=_
      rw [Ad]
      simp -implicitDefEqProofs only [e2,QP]
     ·show upd (upd _ b none) b' _ a=_
      rw [EH hn2,EH hne]
      exact q2
  obtain rfl:x=2:=by omega
  simp -implicitDefEqProofs -proj only [go_sem,seval,decide_eq_false (show ¬((2:Nat):Int)<2 by omega)]
  exact .inr ⟨b,cap,rfl,q1⟩
theorem AAg {P:Program} {f:FuncId} {b sz off len cap:Nat} {rest:List AV} {H:Heap} {K:AV→Heap→Prop} (h:len≤cap→CallW P f (.own b sz off len cap::rest) H K):CallW P f (.own b sz off len cap::rest) H K:=by
 intro F w vs hh hv
 obtain ⟨u,us,rfl,hx,hl⟩:=hv.uncons
 cases hx with | own _ _ _ _ _ hlc =>
 exact h hlc F w _ hh hv
theorem AGl {S:List MeterX} {k:Nat} (h:k+1<S.length):F7 S (k+1)↔(S[k+1].nm.toList == S[k].nm.toList)=true:=by
 unfold F7
 rw [Nat.add_sub_cancel,List.getElem?_eq_getElem h,List.getElem?_eq_getElem (by omega:k<S.length)]
 simp -implicitDefEqProofs only [Option.map_some,Option.some.injEq,beq_iff_eq]
 exact ⟨fun e=>by rw [e.2],fun e=>⟨by omega,(M7 e).symm⟩⟩
def NY (S:List MeterX) (c cap cp:Nat) (r:AV) (H':Heap):Prop:=r = .own c 5 0 (Gu S).length cp∧H' c=some (.row 39 5 cap (AS (Gu S)))
def Sf (S:List MeterX) (c cap cp:Nat) (r:AV) (H':Heap):Prop:=NY S c cap cp r H'∨∃b sz len cap' t xs,r = .part b sz 0 len cap'∧H' b=some (.row t sz cap' xs)∧len≤xs.length∧cap'≠0∧NY S c cap cp (.own b sz 0 len cap') (upd H' b (some (.row t sz cap' (xs.take len))))
theorem OU {S:List MeterX} (h:∀i,i<S.length→¬F7 S i):Gu S=S:=by
 unfold Gu; rw [Ky (Nat.le_refl _) h,List.take_length]
structure CmpI (S R:List MeterX) (m:Nat):Prop where
 len:R.length=S.length
 pre:R.take (FC S m).length=FC S m
 kp:(FC S m).length<m
 suf:∀i,m≤i+1→R[i]? = S[i]?
theorem CmpI.first {S:List MeterX} {k:Nat} (hk:k<S.length) (hn:∀i,i<k→¬F7 S i) (hd:F7 S k):CmpI S S (k+1):=by
 have e:FC S (k+1)=S.take k:=by rw [Jz hd,Ky (by omega) hn]
 have hl:(S.take k).length=k:=by simp; omega
 exact ⟨rfl,by rw [e,hl],by rw [e,hl]; omega,fun i _=>rfl⟩
theorem CmpI.dup {S R:List MeterX} {m:Nat} (h:CmpI S R m) (hd:F7 S m):CmpI S R (m+1):=by
 have e:=Jz hd
 exact ⟨h.len,by rw [e]; exact h.pre,by rw [e]; have:=h.kp; omega,fun i hi=>h.suf i (by omega)⟩
theorem CmpI.new {S R:List MeterX} {m:Nat} (h:CmpI S R m) (hm:m<S.length) (hd:¬F7 S m):CmpI S (R.set (FC S m).length S[m]) (m+1):=by
 have e:=KX hm hd
 have hkp:=h.kp
 have hl:=h.len
 refine ⟨by rw [List.length_set,h.len],?_,by rw [e,List.length_append,List.length_singleton]; omega,fun i hi=>?_⟩
 ·rw [e,List.length_append,List.length_singleton,List.take_add_one,List.getElem?_set,if_pos rfl,if_pos (by omega),List.take_set,h.pre,List.set_eq_of_length_le (by omega)]
  rfl
 ·rw [List.getElem?_set,if_neg (by omega)]
  exact h.suf i (by omega)
theorem Tf {S:List MeterX} {c cp n:Nat} (hn:n=S.length) (hl:S.length≤1000):CallW Try.prog PE [.own c 5 0 n cp,.fn KR []] (Ak (F4 c cp S)) (NY S c cp cp):=by
 refine AAg (fun hcp=>?_)
 refine Om (show CallW _ _ _ _ (Sf S c cp cp) from ?_)
 have hall:∀R,AR (Ak (F4 c cp R)) (F4 c cp R):=fun R=>EZ (by simp [AP])
 refine Am Pk (by simp) ?_
 by_cases h2:n<2
 ·simp -implicitDefEqProofs -proj only [go_sem,seval,decide_eq_true (show (n:Int)<2 by omega)]
  have e:Gu S=S:=OU (fun i hi hd=>by have:=hd.1; omega)
  exact .inl ⟨by rw [e,hn],by rw [e]; exact (hall S).1⟩
 simp -implicitDefEqProofs -proj only [go_sem,seval,decide_eq_false (show ¬(n:Int)<2 by omega)]
 refine EN (fun x:Nat=>x+1≤n∧∀i,i≤x→¬F7 S i) 66 (fun x=>[(0,.own c 5 0 n cp),(1,.fn KR []),(5,i64 ((x+1:Nat):Int))]) (fun x=>F4 c cp S) (fun x=>n-x) 0 ⟨by omega,fun i hi hd=>by have:=hd.1; omega⟩ rfl ?_ (hall S) ?_
 ·simp -implicitDefEqProofs -proj only [go_sem,seval,AK]
  try rfl
 rintro x ⟨hx,hnd⟩
 by_cases h:x+1<n
 rotate_left
 ·simp -implicitDefEqProofs -proj only [go_sem,seval,decide_eq_false (show ¬((x+1:Nat):Int)<n by omega)]
  have e:Gu S=S:=OU (fun i hi=>hnd i (by omega))
  exact .inl ⟨by rw [e,hn],by rw [e]; exact (hall S).1⟩
 have hr:=(hall S).1
 have hw:IntKind.i64.wrap (((x+1:Nat):Int)-1)=(x:Int):=by rw [IntKind.wrap_i64]; omega
 have g1:(AS S)[x+1]? = some S[x+1].el:=IL (List.getElem?_eq_getElem (by omega))
 have g2:(AS S)[x]? = some S[x].el:=IL (List.getElem?_eq_getElem (by omega))
 have hdi:=AGl (S:=S) (k:=x) (by omega)
 simp -implicitDefEqProofs -proj only [go_sem,seval,decide_eq_true (show ((x+1:Nat):Int)<n by omega),hr,hw,Int.toNat_natCast,Nat.zero_add]
 refine Aq (by omega) (fun _=>?_)
 refine Aq (by omega) (fun _=>?_)
 refine EX _ g1 (Nat.le_refl 5) ?_
 simp -implicitDefEqProofs -proj only [go_sem,seval,hr,MeterX.el]
 refine EX _ g2 (Nat.le_refl 5) ?_
 simp -implicitDefEqProofs -proj only [go_sem,seval,hr,MeterX.el]
 refine AH (Ok S[x+1] S[x]) ?_
 cases hd:(S[x+1].nm.toList == S[x].nm.toList) with
 | false =>
  have hnd2:¬F7 S (x+1):=fun k=>by have:=hdi.1 k; rw [hd] at this; cases this
  simp -implicitDefEqProofs -proj only [go_sem,seval,Ab (show x+1<9223372036854775807 by omega)]
  refine AX (x+1) ⟨by omega,fun i hi=>?_⟩ (by omega) rfl ?_ (hall S)
  ·by_cases e:i=x+1
   ·subst e; exact hnd2
   ·exact hnd i (by omega)
  ·simp -implicitDefEqProofs -proj only [go_sem,seval,AK]
   try rfl
 | true =>
  have hd2:F7 S (x+1):=hdi.2 hd
  have e0:(((x+1:Nat):Int)).toNat=x+1:=Int.toNat_natCast _
  have e1:((n:Int)).toNat=n:=Int.toNat_natCast _
  simp -implicitDefEqProofs -proj only [go_sem,seval,Eu,Option.getD_none,Option.getD_some,e0,e1,Nat.zero_add]
  refine Aq (by omega) (fun _=>?_)
  refine EN (fun z:Nat×List MeterX=>x+1+(z.1+1)≤n∧CmpI S z.2 (x+1+(z.1+1))) 66 (fun z=>[(0,.own c 5 0 n cp),(1,.fn KR []),(5,i64 ((FC S (x+1+(z.1+1))).length:Int)),(6,.part c 5 (x+1) (n-(x+1)) (cp-(x+1))),(7,i64 ((z.1+1:Nat):Int))]) (fun z=>F4 c cp z.2) (fun z=>n-z.1) (0,S) ⟨by show x+1+(0+1)≤n; omega,CmpI.first (k:=x+1) (by omega) (fun i hi=>hnd i (by omega)) hd2⟩ rfl ?_ (hall S) ?_
  ·have e2:(FC S (x+1+(0+1))).length=x+1:=by
    rw [Jz hd2,Ky (by omega) (fun i hi=>hnd i (by omega)),List.length_take]; omega
   simp -implicitDefEqProofs -proj only [go_sem,seval,AK,e2]
   try rfl
  rintro ⟨q,R⟩ ⟨hq,hI⟩
  simp -implicitDefEqProofs only [] at hq hI
  generalize hm:x+1+(q+1)=m at *
  have hkp:=hI.kp
  have hRl:=hI.len
  generalize hkl:(FC S m).length=kl at *
  have hrR:=(hall R).1
  by_cases hqm:q+1<n-(x+1)
  rotate_left
  ·have hmn:m=n:=by omega
   have e3:((kl:Nat):Int).toNat=kl:=Int.toNat_natCast _
   simp -implicitDefEqProofs -proj only [go_sem,seval,decide_eq_false (show ¬((q+1:Nat):Int)<((n-(x+1):Nat):Int) by omega),Eu,Option.getD_none,Option.getD_some,e3,e1,Nat.zero_add]
   refine Aq (by omega) (fun _=>?_)
   refine AA7 (c:=cp) (e:=39) (ds:=NM) (xs:=AS R) (by simp -implicitDefEqProofs -proj only [go_sem,seval,hrR]) rfl (by omega) (by rw [Gj]; omega) (by omega) ?_
   simp -implicitDefEqProofs -proj only [go_sem,seval,Eu,Option.getD_none,Option.getD_some,e3,e1,Nat.zero_add]
   refine Aq (by omega) (fun _=>?_)
   have hc:Gu S=FC S m:=by unfold Gu; rw [hmn,hn]
   have hpre:=hI.pre
   rw [hkl] at hpre
   have hx:(List.take kl (AS R)++List.replicate (n-kl) NM++List.drop (kl+(n-kl)) (AS R)).take kl=AS (Gu S):=by
    have hl3:(List.take kl (AS R)).length=kl:=by rw [List.length_take,Gj]; omega
    rw [List.append_assoc,List.take_append_of_le_length (by omega),List.take_of_length_le (by omega),hc,←hpre]
    simp [AS,List.map_take]
   refine .inr ⟨c,5,kl,cp,_,_,rfl,Ad,?_,by omega,by rw [hc,hkl],?_⟩
   ·rw [List.append_assoc,List.length_append,List.length_take,Gj]; omega
   ·rw [Ad,hx]
  have hmS:m<S.length:=by omega
  have hw2:IntKind.i64.wrap (((q+1:Nat):Int)-1)=(q:Int):=by rw [IntKind.wrap_i64]; omega
  have r1:(AS R)[x+1+(q+1)]? = some S[m].el:=IL (by rw [hm,hI.suf m (by omega)]; exact List.getElem?_eq_getElem hmS)
  have r2:(AS R)[x+1+q]? = some S[m-1].el:=IL (by rw [hI.suf (x+1+q) (by omega),show x+1+q=m-1 by omega]; exact List.getElem?_eq_getElem (by omega))
  simp -implicitDefEqProofs -proj only [go_sem,seval,decide_eq_true (show ((q+1:Nat):Int)<((n-(x+1):Nat):Int) by omega),hrR,hw2,Int.toNat_natCast,Nat.zero_add]
  refine Aq (by omega) (fun _=>?_)
  refine Aq (by omega) (fun _=>?_)
  refine EX _ r1 (Nat.le_refl 5) ?_
  simp -implicitDefEqProofs -proj only [go_sem,seval,hrR,MeterX.el]
  refine EX _ r2 (Nat.le_refl 5) ?_
  simp -implicitDefEqProofs -proj only [go_sem,seval,hrR,MeterX.el]
  refine AH (Ok S[m] S[m-1]) ?_
  cases hd3:(S[m].nm.toList == S[m-1].nm.toList) with
  | true =>
   have hd4:F7 S m:=⟨by omega,by
    rw [List.getElem?_eq_getElem hmS,List.getElem?_eq_getElem (show m-1<S.length by omega)]
    simp -implicitDefEqProofs only [Option.map_some,Option.some.injEq]
    exact (M7 (by simpa using hd3)).symm⟩
   simp -implicitDefEqProofs -proj only [go_sem,seval,Bool.not_true,Ab (show q+1<9223372036854775807 by omega)]
   refine AX (q+1,R) ⟨by show x+1+(q+1+1)≤n; omega,?_⟩ (by show n-(q+1)<n-q; omega) rfl ?_ ?_
   ·show CmpI S R (x+1+(q+1+1))
    rw [show x+1+(q+1+1)=m+1 by omega]
    exact hI.dup hd4
   ·have e4:(FC S (x+1+(q+1+1))).length=kl:=by rw [show x+1+(q+1+1)=m+1 by omega,Jz hd4,hkl]
    simp -implicitDefEqProofs -proj only [go_sem,seval,AK,e4]
    try rfl
   ·exact hall R
  | false =>
   have hd4:¬F7 S m:=fun k=>by
    have:=k.2
    rw [List.getElem?_eq_getElem hmS,List.getElem?_eq_getElem (show m-1<S.length by omega)] at this
    simp -implicitDefEqProofs only [Option.map_some,Option.some.injEq] at this
    rw [this] at hd3
    simp at hd3
   simp -implicitDefEqProofs -proj only [go_sem,seval,Bool.not_false,hrR,Int.toNat_natCast,Nat.zero_add]
   refine Aq (by omega) (fun _=>?_)
   refine EX _ r1 (Nat.le_refl 5) ?_
   simp -implicitDefEqProofs -proj only [go_sem,seval,hrR,MeterX.el,Int.toNat_natCast,Nat.zero_add]
   refine Aq (by omega) (fun _=>?_)
   have r3:(AS R)[kl]? = some (R[kl]'(by omega)).el:=IL (List.getElem?_eq_getElem (by omega))
   refine My (ds:=S[m].el) (t:=39) (cap:=cp) (xs:=AS R) (by simp -implicitDefEqProofs -proj only [go_sem,seval,hrR]) r3 (Nat.le_refl 5) ?_
   have s1:Fe (R[kl]'(by omega)).el 0 S[m].el=S[m].el:=rfl
   rw [s1,Mx]
   simp -implicitDefEqProofs -proj only [go_sem,seval,Ab (show q+1<9223372036854775807 by omega),Ab (show kl<9223372036854775807 by omega)]
   refine AX (q+1,R.set kl S[m]) ⟨by show x+1+(q+1+1)≤n; omega,?_⟩ (by show n-(q+1)<n-q; omega) rfl ?_ ?_
   ·show CmpI S (R.set kl S[m]) (x+1+(q+1+1))
    rw [show x+1+(q+1+1)=m+1 by omega,←hkl]
    exact hI.new hmS hd4
   ·have e4:(FC S (x+1+(q+1+1))).length=kl+1:=by rw [show x+1+(q+1+1)=m+1 by omega,KX hmS hd4,List.length_append,hkl]; rfl
    simp -implicitDefEqProofs -proj only [go_sem,seval,AK,e4]
    try rfl
   ·simp -implicitDefEqProofs -proj only [go_sem,seval,AR]
    try rfl
structure TStep where
 f:Int
 t:Int
 r:Int
abbrev TStep.av (s:TStep):AV:=.agg [i64 s.f,i64 s.t,i64 s.r]
def TStep.el (s:TStep):List D:=[.int .i64 s.f,.int .i64 s.t,.int .i64 s.r]
def EI (l:List TStep):List (List D):=l.map TStep.el
theorem Gw {l:List TStep}:(EI l).length=l.length:=List.length_map ..
abbrev PP (l:List TStep):AV:=.d (.sl 3 (EI l))
def L1 (T:List Tier) (q:Int) (i:Nat) (t:Tier):Int:=if i+1<T.length then min q t.u else q
def HD (T:List Tier) (q:Int):Nat→Int×List TStep
 | 0=>(0,[])
 | i+1=>match T[i]? with
  | some t=>(max (HD T q i).1 (L1 T q i t),if (HD T q i).1<L1 T q i t then (HD T q i).2++[⟨(HD T q i).1,L1 T q i t,t.r⟩] else (HD T q i).2)
  | none=>HD T q i
def Pu (T:List Tier) (q:Int):List TStep:=(HD T q T.length).2
def HM (T:List Tier) (q:Int):Nat→List TStep
 | 0=>[]
 | n+1=>match T[T.length-(n+1)]? with
  | some t=>if n=0∨q≤t.u then (if 0<q then [⟨0,q,t.r⟩] else []) else HM T q n
  | none=>[]
def K9 (T:List Tier) (q:Int):List TStep:=HM T q T.length
def II (x:PartX) (q:Int):List TStep:=if x.ki=2 then K9 x.ts q else Pu x.ts q
def KV (s:TStep) (a:Int):Option Int:=if Fit (s.r*(s.t-s.f))∧Fit (a+s.r*(s.t-s.f)) then some (a+s.r*(s.t-s.f)) else none
def Iq:List TStep→Int→Option Int
 | [],a=>some a
 | s::l,a=>match KV s a with
  | some b=>Iq l b
  | none=>none
def P1 (s:TStep):Prop:=Fit s.f∧Fit s.t∧Fit s.r∧Fit (s.t-s.f)
theorem TU {l:List TStep} {a b:Int} (h:Iq l a=some b) (ha:Fit a):Fit b:=by
 induction l generalizing a with
 | nil=>cases h; exact ha
 | cons s l ih =>
  simp -implicitDefEqProofs only [Iq] at h
  cases hs:KV s a with
  | none=>rw [hs] at h; cases h
  | some c =>
   rw [hs] at h
   refine ih h ?_
   unfold KV at hs
   split at hs
   ·next hc=>cases hs; exact hc.2
   ·cases hs
def J3 (x:PartX) (q:Int):Option Int:=if q<0 then none else if Fit (FD (max (q-x.al) 0) x.bl 1*x.bl) then Iq (II x (FD (max (q-x.al) 0) x.bl 1*x.bl)) 0 else none
theorem Sk {x:PartX} {q n:Int} (h:J3 x q=some n):Fit n:=by
 unfold J3 at h
 split at h
 ·cases h
 ·split at h
  ·exact TU h (by decide)
  ·cases h
def Jw (x:PartX) (q:Int):Option Int:=match J3 x q with
 | some n=>Il n 1000000 x.mo
 | none=>none
def Gb (T:List Tier) (i:Nat):Int:=match T[i]? with
 | some t=>t.u
 | none=>0
def IT (T:List Tier) (i:Nat):Int:=match T[i]? with
 | some t=>t.r
 | none=>0
theorem JX {T:List Tier} {i:Nat} (h:i<T.length):Gb T i=T[i].u:=by simp [Gb,h]
theorem Lr {T:List Tier} {i:Nat} (h:i<T.length):IT T i=T[i].r:=by simp [IT,h]
def GP (T:List Tier) (i:Nat):Int:=if i=0 then 0 else Gb T (i-1)
def JB (T:List Tier) (q:Int) (i:Nat):Int:=if i+1<T.length∧Gb T i<q then Gb T i else q
def refN (T:List Tier) (q:Int):Nat→List TStep
 | 0=>[]
 | i+1=>if GP T i<JB T q i then refN T q i++[⟨GP T i,JB T q i,IT T i⟩] else refN T q i
def Nf (T:List Tier) (q:Int):List TStep:=refN T q T.length
structure Srt (T:List Tier):Prop where
 up:∀i,i+1<T.length→GP T i<Gb T i∧Gb T i≤1000000
 low:∀i,i<T.length→0≤GP T i∧GP T i≤1000000
 rate:∀i,i<T.length→0≤IT T i∧IT T i≤1000000000000
theorem M2 {T:List Tier} (h:HY T):Srt T:=by
 have h1:∀i,i+1<T.length→1≤Gb T i∧Gb T i≤1000000:=by
  intro i hi
  have hh:=(h i (by omega)).2
  have hne:¬i+1=T.length:=by omega
  rw [JX (by omega)]
  have h2:Fh T i=1000000:=if_neg hne
  have h3:1≤FP T i:=by
   unfold FP
   rw [if_neg hne]
   split
   ·split <;> omega
   ·omega
  omega
 have h2:∀i,i<T.length→0≤GP T i∧GP T i≤1000000:=by
  intro i hi
  unfold GP
  split
  ·omega
  ·have:=h1 (i-1) (by omega)
   omega
 refine ⟨fun i hi=>⟨?_,(h1 i hi).2⟩,h2,fun i hi=>?_⟩
 ·unfold GP
  split
  ·have:=h1 i hi; omega
  ·next h0 =>
   have g1:=h1 (i-1) (by omega)
   have hh:=(h i (by omega)).2.1
   rw [JX (by omega)] at g1
   obtain ⟨e1,e2⟩:=Ne (T:=T) (i:=i) (by omega) (by omega) (by omega) g1.1
   rw [e1] at hh
   rw [JX (by omega),JX (by omega)]
   omega
 ·have:=(h i hi).1
  rw [Lr hi]
  exact this
theorem Q8 {T:List Tier} {q:Int} (hS:Srt T):∀i,i≤T.length→(HD T q i).2=refN T q i∧(i<T.length→(HD T q i).1=max 0 (min q (GP T i)))∧(i=T.length→0<i→(HD T q i).1=max 0 q)
 | 0,_=>⟨rfl,fun _=>by simp [HD,GP]; omega,fun _ h=>absurd h (Nat.lt_irrefl _)⟩
 | i+1,hi=>by
  obtain ⟨g1,g2,_⟩:=Q8 hS i (by omega) (q:=q)
  have hlt:i<T.length:=by omega
  have hf:=g2 hlt
  have hl:=hS.low i hlt
  have ht:L1 T q i T[i]=if i+1<T.length then min q (Gb T i) else q:=by rw [JX hlt]; rfl
  have hlow:GP T (i+1)=Gb T i:=by simp [GP]
  rw [HD,List.getElem?_eq_getElem hlt,refN,Lr hlt]
  simp -implicitDefEqProofs only []
  rw [hf,ht,g1,hlow]
  unfold JB
  by_cases h:i+1<T.length
  ·obtain ⟨u1,u2⟩:=hS.up i h
   rw [if_pos h]
   refine ⟨?_,fun _=>by omega,fun e=>by omega⟩
   by_cases hq:GP T i<q
   ·rw [if_pos (by omega),if_pos (by split <;> omega)]
    congr 3
    ·omega
    ·split <;> omega
   ·rw [if_neg (by omega),if_neg (by split <;> omega)]
  ·rw [if_neg h]
   refine ⟨?_,fun e=>absurd e h,fun _ _=>by omega⟩
   by_cases hq:GP T i<q
   ·rw [if_pos (by omega),if_pos (by split <;> omega)]
    congr 3
    ·omega
    ·split <;> omega
   ·rw [if_neg (by omega),if_neg (by split <;> omega)]
theorem NJ {T:List Tier} {q:Int} (hS:Srt T):Pu T q=Nf T q:=(Q8 hS T.length (Nat.le_refl _)).1
def tot:List TStep→Int
 | []=>0
 | s::l=>s.r*(s.t-s.f)+tot l
theorem Mn {T:List Tier} {q:Int} (hS:Srt T):∀i,i≤T.length→∀s∈refN T q i,0≤s.r∧s.r≤1000000000000∧0≤s.f∧s.f<s.t∧s.t≤q
 | 0,_,s,h=>by cases h
 | i+1,hi,s,h=>by
  rw [refN] at h
  split at h
  ·next hc =>
   rcases List.mem_append.1 h with h | h
   ·exact Mn hS i (by omega) s h
   ·simp -implicitDefEqProofs only [List.mem_singleton] at h
    subst h
    have h1:=hS.rate i (by omega)
    have h2:=hS.low i (by omega)
    refine ⟨h1.1,h1.2,h2.1,hc,?_⟩
    show JB T q i≤q
    unfold JB
    split <;> omega
  ·exact Mn hS i (by omega) s h
theorem Qc {T:List Tier} {q:Int} (hr:∀i,i<T.length→0≤IT T i∧IT T i≤1000000000000):∀n,n≤T.length→∀s∈HM T q n,0≤s.r∧s.r≤1000000000000∧s.f=0∧0<s.t∧s.t=q
 | 0,_,s,h=>by cases h
 | n+1,hn,s,h=>by
  have hlt:T.length-(n+1)<T.length:=by omega
  rw [HM,List.getElem?_eq_getElem hlt] at h
  simp -implicitDefEqProofs only [] at h
  split at h
  ·split at h
   ·next hq =>
    simp -implicitDefEqProofs only [List.mem_singleton] at h
    subst h
    have:=hr _ hlt
    rw [Lr hlt] at this
    exact ⟨this.1,this.2,rfl,hq,rfl⟩
   ·cases h
  ·exact Qc hr n (by omega) s h
structure GoodX (x:PartX):Prop where
 al:0≤x.al∧x.al≤1000000
 bl:1≤x.bl∧x.bl≤1000000
 ki:x.ki=1∨x.ki=2
 mo:0≤x.mo∧x.mo≤3
 tn:1≤x.ts.length∧x.ts.length≤8
 an:x.ad.length≤6
 ts:HY x.ts
 ad:Hy x.ad
theorem ADX {x:PartX} {q:Int} (h:Srt x.ts):∀s∈II x q,0≤s.r∧s.r≤1000000000000∧0≤s.f∧s.f<s.t∧s.t≤q:=by
 intro s hs
 unfold II at hs
 split at hs
 ·obtain ⟨h1,h2,h3,h4,h5⟩:=Qc (h.rate) _ (Nat.le_refl _) s hs
  exact ⟨h1,h2,by omega,by omega,by omega⟩
 ·rw [NJ h] at hs
  exact Mn h _ (Nat.le_refl _) s hs
theorem AJN {x:PartX} {n:Int} (h:Srt x.ts) (hn:Fit n):∀s∈II x n,P1 s:=by
 intro s hs
 have:=ADX h s hs
 unfold Fit at hn
 unfold P1 Fit
 omega
def Ie (x:PartX) (q:Int):Int:=FD (max (q-x.al) 0) x.bl 1*x.bl
section
def GZ (s:Bool) (m:Int):AV:=.agg [bv s,u64 (m / 18446744073709551616),u64 (m % 18446744073709551616)]
def Ej (m:Int):Prop:=0≤m∧m<340282366920938463463374607431768211456
def wide (n:Int):AV:=GZ (n<0) n.natAbs
attribute [local go_sem] GZ wide
theorem wU (n:Int):IntKind.u64.wrap n=n % 18446744073709551616:=IntKind.wrap_u64 n
theorem J6 {s:Bool} {m:Int} (h:Ej m):DataW Try.prog ABi [GZ s m] (bv (m=0)):=by
 refine Am ADU (by simp) ?_
 simp -implicitDefEqProofs -proj only [go_sem,seval]
 (repeat' first
  | ((with_reducible first | refine E6 (fun h=>?_) (fun h=>?_) | refine FA (fun h=>?_) (fun h=>?_) | refine E3 (fun h=>?_) (fun h=>?_)) <;> (simp -implicitDefEqProofs -proj only [go_sem,seval, *]; try (revert h; intro _)))
  | ((with_reducible first | refine AN (fun _ hb=>?_) | refine EJ (fun _ hb=>?_)); simp only [E0,E8,AY,Heap.none_get,and_true,true_and] at hb; simp -implicitDefEqProofs -proj only [go_sem,seval, *]; try (revert hb; intro _))
  | ((with_reducible first | refine EW _ rfl (by simp) ?_ | refine EX _ rfl (by simp) ?_); simp -implicitDefEqProofs -proj only [go_sem,seval, *])
  | (with_reducible refine Aq ?_ (fun h=>?_); first | ((focus first | decide | omega); try clear h; try simp -implicitDefEqProofs -proj only [go_sem,seval, *]) | (rotate_left; try clear h; try simp -implicitDefEqProofs -proj only [go_sem,seval, *]; rotate_right)))
 all_goals
  refine AJ ?_
  simp -implicitDefEqProofs only [decide_eq_true_eq,decide_eq_false_iff_not,Bool.not_eq_true',Bool.not_eq_false',Bool.and_eq_true,Bool.and_eq_false_iff,Bool.or_eq_true,Bool.or_eq_false_iff,beq_iff_eq,beq_eq_false_iff_ne,ne_eq,decide_eq_decide,Bool.not_eq_true,Bool.not_eq_false,wU] at *
  simp -implicitDefEqProofs only [←decide_not,←Bool.decide_and,←Bool.decide_or,Bool.beq_eq_decide_eq,AV.d.injEq,D.bool.injEq,D.int.injEq,D.str.injEq,AV.tup.injEq,AV.agg.injEq,List.cons.injEq,true_and,and_true,decide_eq_decide,true_eq_decide_iff,false_eq_decide_iff,decide_eq_true_eq,decide_eq_false_iff_not,Bool.true_eq,Bool.false_eq]
  unfold Ej at *
  omega
theorem Ny {s s':Bool} {m m':Int} (h:Ej m) (h':Ej m'):DataW Try.prog AE4 [GZ s m,GZ s' m'] (bv (m<m')):=by
 refine Am Wp (by simp) ?_
 simp -implicitDefEqProofs -proj only [go_sem,seval]
 (repeat' first
  | ((with_reducible first | refine E6 (fun h=>?_) (fun h=>?_) | refine FA (fun h=>?_) (fun h=>?_) | refine E3 (fun h=>?_) (fun h=>?_)) <;> (simp -implicitDefEqProofs -proj only [go_sem,seval, *]; try (revert h; intro _)))
  | ((with_reducible first | refine AN (fun _ hb=>?_) | refine EJ (fun _ hb=>?_)); simp only [E0,E8,AY,Heap.none_get,and_true,true_and] at hb; simp -implicitDefEqProofs -proj only [go_sem,seval, *]; try (revert hb; intro _))
  | ((with_reducible first | refine EW _ rfl (by simp) ?_ | refine EX _ rfl (by simp) ?_); simp -implicitDefEqProofs -proj only [go_sem,seval, *])
  | (with_reducible refine Aq ?_ (fun h=>?_); first | ((focus first | decide | omega); try clear h; try simp -implicitDefEqProofs -proj only [go_sem,seval, *]) | (rotate_left; try clear h; try simp -implicitDefEqProofs -proj only [go_sem,seval, *]; rotate_right)))
 all_goals
  refine AJ ?_
  simp -implicitDefEqProofs only [decide_eq_true_eq,decide_eq_false_iff_not,Bool.not_eq_true',Bool.not_eq_false',Bool.and_eq_true,Bool.and_eq_false_iff,Bool.or_eq_true,Bool.or_eq_false_iff,beq_iff_eq,beq_eq_false_iff_ne,ne_eq,decide_eq_decide,Bool.not_eq_true,Bool.not_eq_false,wU] at *
  simp -implicitDefEqProofs only [←decide_not,←Bool.decide_and,←Bool.decide_or,Bool.beq_eq_decide_eq,AV.d.injEq,D.bool.injEq,D.int.injEq,D.str.injEq,AV.tup.injEq,AV.agg.injEq,List.cons.injEq,true_and,and_true,decide_eq_decide,true_eq_decide_iff,false_eq_decide_iff,decide_eq_true_eq,decide_eq_false_iff_not,Bool.true_eq,Bool.false_eq]
  unfold Ej at *
  omega
theorem NV {s s':Bool} {m m':Int} (h:Ej m) (h':Ej m') (h2:Ej (m+m')):DataW Try.prog Qm [GZ s m,GZ s' m'] (GZ false (m+m')):=by
 refine Am AA3 (by simp) ?_
 simp -implicitDefEqProofs -proj only [go_sem,seval]
 (repeat' first
  | ((with_reducible first | refine E6 (fun h=>?_) (fun h=>?_) | refine FA (fun h=>?_) (fun h=>?_) | refine E3 (fun h=>?_) (fun h=>?_)) <;> (simp -implicitDefEqProofs -proj only [go_sem,seval, *]; try (revert h; intro _)))
  | ((with_reducible first | refine AN (fun _ hb=>?_) | refine EJ (fun _ hb=>?_)); simp only [E0,E8,AY,Heap.none_get,and_true,true_and] at hb; simp -implicitDefEqProofs -proj only [go_sem,seval, *]; try (revert hb; intro _))
  | ((with_reducible first | refine EW _ rfl (by simp) ?_ | refine EX _ rfl (by simp) ?_); simp -implicitDefEqProofs -proj only [go_sem,seval, *])
  | (with_reducible refine Aq ?_ (fun h=>?_); first | ((focus first | decide | omega); try clear h; try simp -implicitDefEqProofs -proj only [go_sem,seval, *]) | (rotate_left; try clear h; try simp -implicitDefEqProofs -proj only [go_sem,seval, *]; rotate_right)))
 all_goals
  refine AJ ?_
  simp -implicitDefEqProofs only [decide_eq_true_eq,decide_eq_false_iff_not,Bool.not_eq_true',Bool.not_eq_false',Bool.and_eq_true,Bool.and_eq_false_iff,Bool.or_eq_true,Bool.or_eq_false_iff,beq_iff_eq,beq_eq_false_iff_ne,ne_eq,decide_eq_decide,Bool.not_eq_true,Bool.not_eq_false,wU] at *
  simp -implicitDefEqProofs only [←decide_not,←Bool.decide_and,←Bool.decide_or,Bool.beq_eq_decide_eq,AV.d.injEq,D.bool.injEq,D.int.injEq,D.str.injEq,AV.tup.injEq,AV.agg.injEq,List.cons.injEq,true_and,and_true,decide_eq_decide,true_eq_decide_iff,false_eq_decide_iff,decide_eq_true_eq,decide_eq_false_iff_not,Bool.true_eq,Bool.false_eq]
  unfold Ej at *
  omega
theorem Lk {s s':Bool} {m m':Int} (h:Ej m) (h':Ej m') (h2:m'≤m):DataW Try.prog AJd [GZ s m,GZ s' m'] (GZ false (m-m')):=by
 refine Am AEC (by simp) ?_
 simp -implicitDefEqProofs -proj only [go_sem,seval]
 (repeat' first
  | ((with_reducible first | refine E6 (fun h=>?_) (fun h=>?_) | refine FA (fun h=>?_) (fun h=>?_) | refine E3 (fun h=>?_) (fun h=>?_)) <;> (simp -implicitDefEqProofs -proj only [go_sem,seval, *]; try (revert h; intro _)))
  | ((with_reducible first | refine AN (fun _ hb=>?_) | refine EJ (fun _ hb=>?_)); simp only [E0,E8,AY,Heap.none_get,and_true,true_and] at hb; simp -implicitDefEqProofs -proj only [go_sem,seval, *]; try (revert hb; intro _))
  | ((with_reducible first | refine EW _ rfl (by simp) ?_ | refine EX _ rfl (by simp) ?_); simp -implicitDefEqProofs -proj only [go_sem,seval, *])
  | (with_reducible refine Aq ?_ (fun h=>?_); first | ((focus first | decide | omega); try clear h; try simp -implicitDefEqProofs -proj only [go_sem,seval, *]) | (rotate_left; try clear h; try simp -implicitDefEqProofs -proj only [go_sem,seval, *]; rotate_right)))
 all_goals
  refine AJ ?_
  simp -implicitDefEqProofs only [decide_eq_true_eq,decide_eq_false_iff_not,Bool.not_eq_true',Bool.not_eq_false',Bool.and_eq_true,Bool.and_eq_false_iff,Bool.or_eq_true,Bool.or_eq_false_iff,beq_iff_eq,beq_eq_false_iff_ne,ne_eq,decide_eq_decide,Bool.not_eq_true,Bool.not_eq_false,wU] at *
  simp -implicitDefEqProofs only [←decide_not,←Bool.decide_and,←Bool.decide_or,Bool.beq_eq_decide_eq,AV.d.injEq,D.bool.injEq,D.int.injEq,D.str.injEq,AV.tup.injEq,AV.agg.injEq,List.cons.injEq,true_and,and_true,decide_eq_decide,true_eq_decide_iff,false_eq_decide_iff,decide_eq_true_eq,decide_eq_false_iff_not,Bool.true_eq,Bool.false_eq]
  unfold Ej at *
  omega
theorem Gy {a:Int} (h:Fit a):DataW Try.prog SP [i64 a] (wide a):=by
 refine Am AEF (by simp) ?_
 simp -implicitDefEqProofs -proj only [go_sem,seval]
 (repeat' first
  | ((with_reducible first | refine E6 (fun h=>?_) (fun h=>?_) | refine FA (fun h=>?_) (fun h=>?_) | refine E3 (fun h=>?_) (fun h=>?_)) <;> (simp -implicitDefEqProofs -proj only [go_sem,seval, *]; try (revert h; intro _)))
  | ((with_reducible first | refine AN (fun _ hb=>?_) | refine EJ (fun _ hb=>?_)); simp only [E0,E8,AY,Heap.none_get,and_true,true_and] at hb; simp -implicitDefEqProofs -proj only [go_sem,seval, *]; try (revert hb; intro _))
  | ((with_reducible first | refine EW _ rfl (by simp) ?_ | refine EX _ rfl (by simp) ?_); simp -implicitDefEqProofs -proj only [go_sem,seval, *])
  | (with_reducible refine Aq ?_ (fun h=>?_); first | ((focus first | decide | omega); try clear h; try simp -implicitDefEqProofs -proj only [go_sem,seval, *]) | (rotate_left; try clear h; try simp -implicitDefEqProofs -proj only [go_sem,seval, *]; rotate_right)))
 all_goals
  refine AJ ?_
  simp -implicitDefEqProofs only [decide_eq_true_eq,decide_eq_false_iff_not,Bool.not_eq_true',Bool.not_eq_false',Bool.and_eq_true,Bool.and_eq_false_iff,Bool.or_eq_true,Bool.or_eq_false_iff,beq_iff_eq,beq_eq_false_iff_ne,ne_eq,decide_eq_decide,Bool.not_eq_true,Bool.not_eq_false,wU,wI,wide,GZ] at *
  simp -implicitDefEqProofs only [←decide_not,←Bool.decide_and,←Bool.decide_or,Bool.beq_eq_decide_eq,AV.d.injEq,D.bool.injEq,D.int.injEq,D.str.injEq,AV.tup.injEq,AV.agg.injEq,List.cons.injEq,true_and,and_true,decide_eq_decide,true_eq_decide_iff,false_eq_decide_iff,decide_eq_true_eq,decide_eq_false_iff_not,Bool.true_eq,Bool.false_eq]
  unfold Fit at *
  omega
theorem Ks {n:Int} (h:Ej n.natAbs):DataW Try.prog AES [wide n] (G8 n):=by
 refine Am Ud (by simp) ?_
 simp -implicitDefEqProofs -proj only [go_sem,seval]
 (repeat' first
  | ((with_reducible first | refine E6 (fun h=>?_) (fun h=>?_) | refine FA (fun h=>?_) (fun h=>?_) | refine E3 (fun h=>?_) (fun h=>?_)) <;> (simp -implicitDefEqProofs -proj only [go_sem,seval, *]; try (revert h; intro _)))
  | ((with_reducible first | refine AN (fun _ hb=>?_) | refine EJ (fun _ hb=>?_)); simp only [E0,E8,AY,Heap.none_get,and_true,true_and] at hb; simp -implicitDefEqProofs -proj only [go_sem,seval, *]; try (revert hb; intro _))
  | ((with_reducible first | refine EW _ rfl (by simp) ?_ | refine EX _ rfl (by simp) ?_); simp -implicitDefEqProofs -proj only [go_sem,seval, *])
  | (with_reducible refine Aq ?_ (fun h=>?_); first | ((focus first | decide | omega); try clear h; try simp -implicitDefEqProofs -proj only [go_sem,seval, *]) | (rotate_left; try clear h; try simp -implicitDefEqProofs -proj only [go_sem,seval, *]; rotate_right)))
 all_goals
  refine AJ (Pb ?_)
  simp -implicitDefEqProofs only [decide_eq_true_eq,decide_eq_false_iff_not,Bool.not_eq_true',Bool.not_eq_false',Bool.and_eq_true,Bool.and_eq_false_iff,Bool.or_eq_true,Bool.or_eq_false_iff,beq_iff_eq,beq_eq_false_iff_ne,ne_eq,decide_eq_decide,Bool.not_eq_true,Bool.not_eq_false,wU,wI] at *
  simp -implicitDefEqProofs only [Bool.false_eq_true,reduceCtorEq,true_and,false_and,or_false,false_or]
  unfold Fit Ej at *
  omega
theorem LR {n:Int} (h:Ej n.natAbs):DataW Try.prog Rt [wide n] (wide (-n)):=by
 refine Am Wl (by simp) ?_
 simp -implicitDefEqProofs -proj only [go_sem,seval]
 (repeat' first
  | (refine AH (J6 h) ?_; simp -implicitDefEqProofs -proj only [go_sem,seval, *])
  | (refine Ew (J6 h) ?_; simp -implicitDefEqProofs -proj only [go_sem,seval, *])
  | ((with_reducible first | refine E6 (fun h=>?_) (fun h=>?_) | refine FA (fun h=>?_) (fun h=>?_) | refine E3 (fun h=>?_) (fun h=>?_)) <;> (simp -implicitDefEqProofs -proj only [go_sem,seval, *]; try (revert h; intro _)))
  | ((with_reducible first | refine AN (fun _ hb=>?_) | refine EJ (fun _ hb=>?_)); simp -implicitDefEqProofs only [E0,E8,AY,Heap.none_get,and_true,true_and] at hb; simp -implicitDefEqProofs -proj only [go_sem,seval, *]; try (revert hb; intro _))
  | ((with_reducible first | refine EW _ rfl (by simp) ?_ | refine EX _ rfl (by simp) ?_); simp -implicitDefEqProofs -proj only [go_sem,seval, *])
  | (with_reducible refine Aq ?_ (fun h=>?_); first | ((focus first | decide | omega); try clear h; try simp -implicitDefEqProofs -proj only [go_sem,seval, *]) | (rotate_left; try clear h; try simp -implicitDefEqProofs -proj only [go_sem,seval, *]; rotate_right)))
 all_goals
  refine AJ ?_
  simp -implicitDefEqProofs only [decide_eq_true_eq,decide_eq_false_iff_not,Bool.not_eq_true',Bool.not_eq_false',Bool.and_eq_true,Bool.and_eq_false_iff,Bool.or_eq_true,Bool.or_eq_false_iff,beq_iff_eq,beq_eq_false_iff_ne,ne_eq,decide_eq_decide,Bool.not_eq_true,Bool.not_eq_false] at *
  simp -implicitDefEqProofs only [←decide_not,←Bool.decide_and,←Bool.decide_or,Bool.beq_eq_decide_eq,AV.d.injEq,D.bool.injEq,D.int.injEq,D.str.injEq,AV.tup.injEq,AV.agg.injEq,List.cons.injEq,true_and,and_true,decide_eq_decide,true_eq_decide_iff,false_eq_decide_iff,decide_eq_true_eq,decide_eq_false_iff_not,Bool.true_eq,Bool.false_eq]
  omega
set_option maxHeartbeats 2000000 in
theorem JV {a b:Int} (ha:a.natAbs<170141183460469231731687303715884105728) (hb:b.natAbs<170141183460469231731687303715884105728):DataW Try.prog AC9 [wide a,wide b] (wide (a+b)):=by
 have h1:Ej a.natAbs:=by unfold Ej; omega
 have h2:Ej b.natAbs:=by unfold Ej; omega
 have h3:Ej (a.natAbs+b.natAbs):=by unfold Ej; omega
 refine Am Sc (by simp) ?_
 simp -implicitDefEqProofs -proj only [go_sem,seval]
 (repeat' first
  | (refine AH (NV h1 h2 h3) ?_; simp -implicitDefEqProofs -proj only [go_sem,seval, *])
  | (refine Ew (NV h1 h2 h3) ?_; simp -implicitDefEqProofs -proj only [go_sem,seval, *])
  | (refine AH (J6 (by simp -implicitDefEqProofs only [decide_eq_true_eq,decide_eq_false_iff_not,Bool.not_eq_true',Bool.not_eq_false',Bool.and_eq_true,Bool.and_eq_false_iff,Bool.or_eq_true,Bool.or_eq_false_iff,beq_iff_eq,beq_eq_false_iff_ne,ne_eq,decide_eq_decide,Bool.not_eq_true,Bool.not_eq_false] at *; unfold Ej at *; omega)) ?_; simp -implicitDefEqProofs -proj only [go_sem,seval, *])
  | (refine Ew (J6 (by simp -implicitDefEqProofs only [decide_eq_true_eq,decide_eq_false_iff_not,Bool.not_eq_true',Bool.not_eq_false',Bool.and_eq_true,Bool.and_eq_false_iff,Bool.or_eq_true,Bool.or_eq_false_iff,beq_iff_eq,beq_eq_false_iff_ne,ne_eq,decide_eq_decide,Bool.not_eq_true,Bool.not_eq_false] at *; unfold Ej at *; omega)) ?_; simp -implicitDefEqProofs -proj only [go_sem,seval, *])
  | (refine AH (Ny h1 h2) ?_; simp -implicitDefEqProofs -proj only [go_sem,seval, *])
  | (refine Ew (Ny h1 h2) ?_; simp -implicitDefEqProofs -proj only [go_sem,seval, *])
  | (refine AH (Lk h1 h2 (by simp -implicitDefEqProofs only [decide_eq_true_eq,decide_eq_false_iff_not,Bool.not_eq_true',Bool.not_eq_false',Bool.and_eq_true,Bool.and_eq_false_iff,Bool.or_eq_true,Bool.or_eq_false_iff,beq_iff_eq,beq_eq_false_iff_ne,ne_eq,decide_eq_decide,Bool.not_eq_true,Bool.not_eq_false] at *; omega)) ?_; simp -implicitDefEqProofs -proj only [go_sem,seval, *])
  | (refine Ew (Lk h1 h2 (by simp -implicitDefEqProofs only [decide_eq_true_eq,decide_eq_false_iff_not,Bool.not_eq_true',Bool.not_eq_false',Bool.and_eq_true,Bool.and_eq_false_iff,Bool.or_eq_true,Bool.or_eq_false_iff,beq_iff_eq,beq_eq_false_iff_ne,ne_eq,decide_eq_decide,Bool.not_eq_true,Bool.not_eq_false] at *; omega)) ?_; simp -implicitDefEqProofs -proj only [go_sem,seval, *])
  | (refine AH (Lk h2 h1 (by simp -implicitDefEqProofs only [decide_eq_true_eq,decide_eq_false_iff_not,Bool.not_eq_true',Bool.not_eq_false',Bool.and_eq_true,Bool.and_eq_false_iff,Bool.or_eq_true,Bool.or_eq_false_iff,beq_iff_eq,beq_eq_false_iff_ne,ne_eq,decide_eq_decide,Bool.not_eq_true,Bool.not_eq_false] at *; omega)) ?_; simp -implicitDefEqProofs -proj only [go_sem,seval, *])
  | (refine Ew (Lk h2 h1 (by simp -implicitDefEqProofs only [decide_eq_true_eq,decide_eq_false_iff_not,Bool.not_eq_true',Bool.not_eq_false',Bool.and_eq_true,Bool.and_eq_false_iff,Bool.or_eq_true,Bool.or_eq_false_iff,beq_iff_eq,beq_eq_false_iff_ne,ne_eq,decide_eq_decide,Bool.not_eq_true,Bool.not_eq_false] at *; omega)) ?_; simp -implicitDefEqProofs -proj only [go_sem,seval, *])
  | ((with_reducible first | refine E6 (fun h=>?_) (fun h=>?_) | refine FA (fun h=>?_) (fun h=>?_) | refine E3 (fun h=>?_) (fun h=>?_)) <;> (simp -implicitDefEqProofs -proj only [go_sem,seval, *]; try (revert h; intro _)))
  | ((with_reducible first | refine AN (fun _ hb=>?_) | refine EJ (fun _ hb=>?_)); simp -implicitDefEqProofs only [E0,E8,AY,Heap.none_get,and_true,true_and] at hb; simp -implicitDefEqProofs -proj only [go_sem,seval, *]; try (revert hb; intro _))
  | ((with_reducible first | refine EW _ rfl (by simp) ?_ | refine EX _ rfl (by simp) ?_); simp -implicitDefEqProofs -proj only [go_sem,seval, *])
  | (with_reducible refine Aq ?_ (fun h=>?_); first | ((focus first | decide | omega); try clear h; try simp -implicitDefEqProofs -proj only [go_sem,seval, *]) | (rotate_left; try clear h; try simp -implicitDefEqProofs -proj only [go_sem,seval, *]; rotate_right)))
 all_goals
  refine AJ ?_
  simp -implicitDefEqProofs only [decide_eq_true_eq,decide_eq_false_iff_not,Bool.not_eq_true',Bool.not_eq_false',Bool.and_eq_true,Bool.and_eq_false_iff,Bool.or_eq_true,Bool.or_eq_false_iff,beq_iff_eq,beq_eq_false_iff_ne,ne_eq,decide_eq_decide,Bool.not_eq_true,Bool.not_eq_false] at *
  simp -implicitDefEqProofs only [←decide_not,←Bool.decide_and,←Bool.decide_or,Bool.beq_eq_decide_eq,AV.d.injEq,D.bool.injEq,D.int.injEq,D.str.injEq,AV.tup.injEq,AV.agg.injEq,List.cons.injEq,true_and,and_true,decide_eq_decide,true_eq_decide_iff,false_eq_decide_iff,decide_eq_true_eq,decide_eq_false_iff_not,Bool.true_eq,Bool.false_eq]
  omega
theorem LM {x y:Int} (hx:0≤x∧x≤4294967295) (hy:0≤y∧y≤4294967295):0≤x*y∧x*y≤18446744065119617025:=by
 refine ⟨Int.mul_nonneg hx.1 hy.1,?_⟩
 have:=Int.mul_le_mul hx.2 hy.2 hy.1 (by omega)
 omega
theorem O6 {n:Int}:n.fdiv 4294967296=n / 4294967296:=Int.fdiv_eq_ediv_of_nonneg _ (by omega)
theorem TI {n:Int} (h:0≤n):n.tmod 4294967296=n % 4294967296:=Int.tmod_eq_emod_of_nonneg h
def Na (x y:Int):Nat→Int
 | 0=>x / 4294967296*(y / 4294967296)*18446744073709551616+x % 4294967296*(y % 4294967296)
 | 1=>x / 4294967296*(y / 4294967296)*18446744073709551616+x % 4294967296*(y % 4294967296)+x % 4294967296*(y / 4294967296)*4294967296
 | _=>x / 4294967296*(y / 4294967296)*18446744073709551616+x % 4294967296*(y % 4294967296)+x % 4294967296*(y / 4294967296)*4294967296+x / 4294967296*(y % 4294967296)*4294967296
theorem AGq (x y:Int):Na x y 2=x*y:=by
 have hx:=Int.emod_add_mul_ediv x 4294967296
 have hy:=Int.emod_add_mul_ediv y 4294967296
 have e:x*y=(x % 4294967296+4294967296*(x / 4294967296))*(y % 4294967296+4294967296*(y / 4294967296)):=by rw [hx,hy]
 rw [e]
 simp -implicitDefEqProofs only [Na,Int.add_mul,Int.mul_add]
 have e1:∀p q:Int,p*(4294967296*q)=p*q*4294967296:=fun p q=>by rw [Int.mul_left_comm]; omega
 have e2:∀p q:Int,4294967296*p*q=p*q*4294967296:=fun p q=>by rw [Int.mul_assoc]; omega
 have e3:∀p q:Int,4294967296*p*(4294967296*q)=p*q*18446744073709551616:=fun p q=>by rw [e1,e2]; omega
 rw [e1,e2,e3]
 generalize x / 4294967296*(y / 4294967296)=p
 generalize x % 4294967296*(y % 4294967296)=q
 generalize x % 4294967296*(y / 4294967296)=r
 generalize x / 4294967296*(y % 4294967296)=t
 omega
theorem SL (x y:Int):x*y<0↔(¬(x<0↔y<0)∧x*y≠0):=by
 rcases Int.lt_trichotomy x 0 with hx | hx | hx <;> rcases Int.lt_trichotomy y 0 with hy | hy | hy
 ·have:=Int.mul_pos_of_neg_of_neg hx hy; omega
 ·subst hy; simp
 ·have:=Int.mul_neg_of_neg_of_pos hx hy; omega
 ·subst hx; simp
 ·subst hx; simp
 ·subst hx; simp
 ·have:=Int.mul_neg_of_pos_of_neg hx hy; omega
 ·subst hy; simp
 ·have:=Int.mul_pos hx hy; omega
end
section
attribute [local go_sem] GZ wide
def Fw (p u v:Int):Nat→Int
 | 0=>p
 | 1=>p+u*4294967296
 | _=>p+u*4294967296+v*4294967296
theorem M5 {p u v:Int}:Fw p u v 0=p:=(rfl)
theorem Mh {p u v:Int}:Fw p u v 1=p+u*4294967296:=(rfl)
theorem Km {p u v:Int}:Fw p u v 2=p+u*4294967296+v*4294967296:=(rfl)
theorem Q1 {p u v:Int} (hp:0≤p∧p<340282366920938463389587631136930004992) (hu:0≤u∧u≤18446744065119617025) (hv:0≤v∧v≤18446744065119617025) (i:Nat) (h:Ej (Fw p u v 2)) (hi:i≤2):Ej (Fw p u v i):=by
 have hi:i=0∨i=1∨i=2:=by omega
 unfold Ej at *
 rw [Km] at h
 rcases hi with rfl | rfl | rfl
 ·rw [M5]; omega
 ·rw [Mh]; omega
 ·rw [Km]; omega
theorem AKO {p u v:Int} (hp:0≤p∧p<340282366920938463389587631136930004992) (hu:0≤u∧u≤18446744065119617025) (hv:0≤v∧v≤18446744065119617025) (h2:Ej (Fw p u v 2)) {R:Out→St→Prop} {tl:Nat→List (Nat×AV)} {hl:Nat→List (Nat×Blk)} {br b4 b5 b6 b11:Nat} {B4 B5 B6:Blk} (n1:¬b11=br) (n2:¬br=b11) (n3:¬b4=br) (n4:¬b4=b11) (n5:¬b5=br) (n6:¬b5=b11) (n7:¬b6=br) (n8:¬b6=b11)  (m4:¬b11=b4) (m6:¬b11=b5) (m8:¬b11=b6) (n9:¬b5=b4) (n10:¬b6=b4) (n11:¬b6=b5)
  (ht:∀i:Nat,tl i=[(43,.own br 1 0 2 2),(44,i64 2),(45,i64 i),(11,.ptr b11 0),(4,.ptr b4 0),(5,.ptr b5 0),(6,.ptr b6 0)])
  (hh:∀i:Nat,hl i=[(br,.row 109 1 2 [[.int .u64 u],[.int .u64 v]]),(b11,.box 111 [bv false,u64 (Fw p u v i / 18446744073709551616),u64 (Fw p u v i % 18446744073709551616)]),(b4,B4),(b5,B5),(b6,B6)]) {i:Nat} (hi:i≤1) :
  FL Try.prog (IQ (fun i=>i≤2) (fun x=>⟨69,FH (tl x),Ak (hl x)⟩) (fun i=>2-i) i R) Pg [] ⟨69,FH (tl i),Ak (hl i)⟩:=by
 have key:∀j:Nat,∀w c:Int,j≤1→(w=u∧j=0∨w=v∧j=1)→c=Fw p u v (j+1)→DataW Try.prog Qm [.agg [bv false,u64 (Fw p u v j / 18446744073709551616),u64 (Fw p u v j % 18446744073709551616)],.agg [bv false,u64 (w.fdiv 4294967296),u64 (IntKind.u64.wrap (w*4294967296))]] (.agg [bv false,u64 (c / 18446744073709551616),u64 (c % 18446744073709551616)]):=by
  intro j w c hj hw hc
  have e:Ej w∧Ej (w*4294967296):=by unfold Ej; omega
  have e3:c=Fw p u v j+w*4294967296:=by
   rcases hw with ⟨rfl,rfl⟩ | ⟨rfl,rfl⟩
   ·rw [hc,Mh,M5]
   ·rw [hc,Km,Mh]
  have h:=NV (s:=false) (s':=false) (Q1 hp hu hv j h2 (by omega)) e.2 (by have:=Q1 hp hu hv (j+1) h2 (by omega); rw [←hc,e3] at this; exact this)
  rw [←e3] at h
  have e4:AV.agg [bv false,u64 (w.fdiv 4294967296),u64 (IntKind.u64.wrap (w*4294967296))]=GZ false (w*4294967296):=by
   simp -implicitDefEqProofs only [GZ,wU,O6,←decide_not,←Bool.decide_and,←Bool.decide_or,Bool.beq_eq_decide_eq,AV.d.injEq,D.bool.injEq,D.int.injEq,D.str.injEq,AV.tup.injEq,AV.agg.injEq,List.cons.injEq,true_and,and_true,decide_eq_decide,true_eq_decide_iff,false_eq_decide_iff,decide_eq_true_eq,decide_eq_false_iff_not,Bool.true_eq,Bool.false_eq]; omega
  rw [e4]; exact h
 have k0:=key 0 u _ (by omega) (.inl ⟨rfl,rfl⟩) rfl
 have k1:=key 1 v _ (by omega) (.inr ⟨rfl,rfl⟩) rfl
 clear key
 have hi:i=0∨i=1:=by omega
 have next:∀(j:Nat) (s:St) ,j≤2→i<j→69=s.n→AK s.t (tl j)→AR s.H (hl j)→IQ (fun i=>i≤2) (fun x=>⟨69,FH (tl x),Ak (hl x)⟩) (fun i=>2-i) i R .normal s:=fun j s a b c d e=>AX j a (by omega) c d e
 generalize (IQ (fun i=>i≤2) (fun x=>⟨69,FH (tl x),Ak (hl x)⟩) (fun i=>2-i) i R)=Q at next ⊢
 rw [ht,hh]
 rcases hi with rfl | rfl
 ·generalize Fw p u v 0=m0 at *
  generalize hm:Fw p u v (0+1)=m1 at *
  simp -implicitDefEqProofs -proj only [go_sem,seval,n1,n2]
  (repeat' first
  | ((with_reducible first | refine E6 (fun h=>?_) (fun h=>?_) | refine FA (fun h=>?_) (fun h=>?_) | refine E3 (fun h=>?_) (fun h=>?_)) <;> (simp -implicitDefEqProofs -proj only [go_sem,seval, *]; try (revert h; intro _)))
  | ((with_reducible first | refine AN (fun _ hb=>?_) | refine EJ (fun _ hb=>?_)); simp only [E0,E8,AY,Heap.none_get,and_true,true_and] at hb; simp -implicitDefEqProofs -proj only [go_sem,seval, *]; try (revert hb; intro _))
  | ((with_reducible first | refine EW _ rfl (by simp) ?_ | refine EX _ rfl (by simp) ?_); simp -implicitDefEqProofs -proj only [go_sem,seval, *])
  | (with_reducible refine Aq ?_ (fun h=>?_); first | ((focus first | decide | omega); try clear h; try simp -implicitDefEqProofs -proj only [go_sem,seval, *]) | (rotate_left; try clear h; try simp -implicitDefEqProofs -proj only [go_sem,seval, *]; rotate_right)))
  refine AH k0 ?_
  simp -implicitDefEqProofs -proj only [go_sem,seval,n1,n2]
  (repeat' first
  | ((with_reducible first | refine E6 (fun h=>?_) (fun h=>?_) | refine FA (fun h=>?_) (fun h=>?_) | refine E3 (fun h=>?_) (fun h=>?_)) <;> (simp -implicitDefEqProofs -proj only [go_sem,seval, *]; try (revert h; intro _)))
  | ((with_reducible first | refine AN (fun _ hb=>?_) | refine EJ (fun _ hb=>?_)); simp only [E0,E8,AY,Heap.none_get,and_true,true_and] at hb; simp -implicitDefEqProofs -proj only [go_sem,seval, *]; try (revert hb; intro _))
  | ((with_reducible first | refine EW _ rfl (by simp) ?_ | refine EX _ rfl (by simp) ?_); simp -implicitDefEqProofs -proj only [go_sem,seval, *])
  | (with_reducible refine Aq ?_ (fun h=>?_); first | ((focus first | decide | omega); try clear h; try simp -implicitDefEqProofs -proj only [go_sem,seval, *]) | (rotate_left; try clear h; try simp -implicitDefEqProofs -proj only [go_sem,seval, *]; rotate_right)))
  refine next 1 _ (by omega) (by omega) rfl ?_ ?_
  ·rw [ht]; simp -implicitDefEqProofs -proj only [go_sem,seval,AK,IntKind.wrap_i64]; try (simp -implicitDefEqProofs only [←decide_not,←Bool.decide_and,←Bool.decide_or,Bool.beq_eq_decide_eq,AV.d.injEq,D.bool.injEq,D.int.injEq,D.str.injEq,AV.tup.injEq,AV.agg.injEq,List.cons.injEq,true_and,and_true,decide_eq_decide,true_eq_decide_iff,false_eq_decide_iff,decide_eq_true_eq,decide_eq_false_iff_not,Bool.true_eq,Bool.false_eq]; omega)
  ·rw [hh,show Fw p u v 1=m1 from hm]; simp -implicitDefEqProofs -proj only [go_sem,seval,AR,n1,n2,n3,n4,n5,n6,n7,n8,n9,n10,n11,m4,m6,m8]
 ·generalize Fw p u v 1=m0 at *
  generalize hm:Fw p u v (1+1)=m1 at *
  simp -implicitDefEqProofs -proj only [go_sem,seval,n1,n2]
  (repeat' first
  | ((with_reducible first | refine E6 (fun h=>?_) (fun h=>?_) | refine FA (fun h=>?_) (fun h=>?_) | refine E3 (fun h=>?_) (fun h=>?_)) <;> (simp -implicitDefEqProofs -proj only [go_sem,seval, *]; try (revert h; intro _)))
  | ((with_reducible first | refine AN (fun _ hb=>?_) | refine EJ (fun _ hb=>?_)); simp only [E0,E8,AY,Heap.none_get,and_true,true_and] at hb; simp -implicitDefEqProofs -proj only [go_sem,seval, *]; try (revert hb; intro _))
  | ((with_reducible first | refine EW _ rfl (by simp) ?_ | refine EX _ rfl (by simp) ?_); simp -implicitDefEqProofs -proj only [go_sem,seval, *])
  | (with_reducible refine Aq ?_ (fun h=>?_); first | ((focus first | decide | omega); try clear h; try simp -implicitDefEqProofs -proj only [go_sem,seval, *]) | (rotate_left; try clear h; try simp -implicitDefEqProofs -proj only [go_sem,seval, *]; rotate_right)))
  refine AH k1 ?_
  simp -implicitDefEqProofs -proj only [go_sem,seval,n1,n2]
  (repeat' first
  | ((with_reducible first | refine E6 (fun h=>?_) (fun h=>?_) | refine FA (fun h=>?_) (fun h=>?_) | refine E3 (fun h=>?_) (fun h=>?_)) <;> (simp -implicitDefEqProofs -proj only [go_sem,seval, *]; try (revert h; intro _)))
  | ((with_reducible first | refine AN (fun _ hb=>?_) | refine EJ (fun _ hb=>?_)); simp only [E0,E8,AY,Heap.none_get,and_true,true_and] at hb; simp -implicitDefEqProofs -proj only [go_sem,seval, *]; try (revert hb; intro _))
  | ((with_reducible first | refine EW _ rfl (by simp) ?_ | refine EX _ rfl (by simp) ?_); simp -implicitDefEqProofs -proj only [go_sem,seval, *])
  | (with_reducible refine Aq ?_ (fun h=>?_); first | ((focus first | decide | omega); try clear h; try simp -implicitDefEqProofs -proj only [go_sem,seval, *]) | (rotate_left; try clear h; try simp -implicitDefEqProofs -proj only [go_sem,seval, *]; rotate_right)))
  refine next 2 _ (by omega) (by omega) rfl ?_ ?_
  ·rw [ht]; simp -implicitDefEqProofs -proj only [go_sem,seval,AK,IntKind.wrap_i64]; try (simp -implicitDefEqProofs only [←decide_not,←Bool.decide_and,←Bool.decide_or,Bool.beq_eq_decide_eq,AV.d.injEq,D.bool.injEq,D.int.injEq,D.str.injEq,AV.tup.injEq,AV.agg.injEq,List.cons.injEq,true_and,and_true,decide_eq_decide,true_eq_decide_iff,false_eq_decide_iff,decide_eq_true_eq,decide_eq_false_iff_not,Bool.true_eq,Bool.false_eq]; omega)
  ·rw [hh,show Fw p u v 2=m1 from hm]; simp -implicitDefEqProofs -proj only [go_sem,seval,AR,n1,n2,n3,n4,n5,n6,n7,n8,n9,n10,n11,m4,m6,m8]
theorem OI {x y:Int} (hx:Fit x) (hy:Fit y):0≤(x.natAbs:Int)*y.natAbs∧(x.natAbs:Int)*y.natAbs≤85070591730234615865843651857942052864:=by
 refine ⟨Int.mul_nonneg (by omega) (by omega),?_⟩
 have:=Int.mul_le_mul (a:=(x.natAbs:Int)) (c:=9223372036854775808) (b:=(y.natAbs:Int)) (d:=9223372036854775808) (by unfold Fit at hx; omega) (by unfold Fit at hy; omega) (by omega) (by omega)
 omega
theorem I9 {x y:Int} (ha:Fit x) (hb:Fit y):DataW Try.prog AEX [i64 x,i64 y] (wide (x*y)):=by
 have hx:((x.natAbs:Int) % 18446744073709551616)=x.natAbs:=by unfold Fit at ha; omega
 have hy:((y.natAbs:Int) % 18446744073709551616)=y.natAbs:=by unfold Fit at hb; omega
 refine Am Rm (by simp) ?_
 simp -implicitDefEqProofs -proj only [go_sem,seval]
 (repeat' first
  | (refine AH (Gy ha) ?_; simp -implicitDefEqProofs -proj only [go_sem,seval, *])
  | (refine Ew (Gy ha) ?_; simp -implicitDefEqProofs -proj only [go_sem,seval, *])
  | (refine AH (Gy hb) ?_; simp -implicitDefEqProofs -proj only [go_sem,seval, *])
  | (refine Ew (Gy hb) ?_; simp -implicitDefEqProofs -proj only [go_sem,seval, *])
  | ((with_reducible first | refine E6 (fun h=>?_) (fun h=>?_) | refine FA (fun h=>?_) (fun h=>?_) | refine E3 (fun h=>?_) (fun h=>?_)) <;> (simp -implicitDefEqProofs -proj only [go_sem,seval, *]; try (revert h; intro _)))
  | ((with_reducible first | refine AN (fun _ hb=>?_) | refine EJ (fun _ hb=>?_)); simp -implicitDefEqProofs only [E0,E8,AY,Heap.none_get,and_true,true_and] at hb; simp -implicitDefEqProofs -proj only [go_sem,seval, *]; try (revert hb; intro _))
  | ((with_reducible first | refine EW _ rfl (by simp) ?_ | refine EX _ rfl (by simp) ?_); simp -implicitDefEqProofs -proj only [go_sem,seval, *])
  | (with_reducible refine Aq ?_ (fun h=>?_); first | ((focus first | decide | omega); try clear h; try simp -implicitDefEqProofs -proj only [go_sem,seval, *]) | (rotate_left; try clear h; try simp -implicitDefEqProofs -proj only [go_sem,seval, *]; rotate_right)))
 simp -implicitDefEqProofs -proj only [go_sem,seval,hx,hy,O6,TI (Int.natCast_nonneg _), *]
 (repeat' first
  | (refine AH (Gy ha) ?_; simp -implicitDefEqProofs -proj only [go_sem,seval, *])
  | (refine Ew (Gy ha) ?_; simp -implicitDefEqProofs -proj only [go_sem,seval, *])
  | (refine AH (Gy hb) ?_; simp -implicitDefEqProofs -proj only [go_sem,seval, *])
  | (refine Ew (Gy hb) ?_; simp -implicitDefEqProofs -proj only [go_sem,seval, *])
  | ((with_reducible first | refine E6 (fun h=>?_) (fun h=>?_) | refine FA (fun h=>?_) (fun h=>?_) | refine E3 (fun h=>?_) (fun h=>?_)) <;> (simp -implicitDefEqProofs -proj only [go_sem,seval, *]; try (revert h; intro _)))
  | ((with_reducible first | refine AN (fun _ hb=>?_) | refine EJ (fun _ hb=>?_)); simp -implicitDefEqProofs only [E0,E8,AY,Heap.none_get,and_true,true_and] at hb; simp -implicitDefEqProofs -proj only [go_sem,seval, *]; try (revert hb; intro _))
  | ((with_reducible first | refine EW _ rfl (by simp) ?_ | refine EX _ rfl (by simp) ?_); simp -implicitDefEqProofs -proj only [go_sem,seval, *])
  | (with_reducible refine Aq ?_ (fun h=>?_); first | ((focus first | decide | omega); try clear h; try simp -implicitDefEqProofs -proj only [go_sem,seval, *]) | (rotate_left; try clear h; try simp -implicitDefEqProofs -proj only [go_sem,seval, *]; rotate_right)))
 next b4 _ b5 hb5 b6 hb6 b11 hb11 br hbr =>
 have hp:=LM (x:=x.natAbs / 4294967296) (y:=y.natAbs / 4294967296) (by unfold Fit at ha; omega) (by unfold Fit at hb; omega)
 have hq:=LM (x:=x.natAbs % 4294967296) (y:=y.natAbs % 4294967296) (by unfold Fit at ha; omega) (by unfold Fit at hb; omega)
 have hr:=LM (x:=x.natAbs % 4294967296) (y:=y.natAbs / 4294967296) (by unfold Fit at ha; omega) (by unfold Fit at hb; omega)
 have ht:=LM (x:=x.natAbs / 4294967296) (y:=y.natAbs % 4294967296) (by unfold Fit at ha; omega) (by unfold Fit at hb; omega)
 have hm:=AGq x.natAbs y.natAbs
 have hxy:=OI ha hb
 have hn:(x.natAbs:Int)*y.natAbs=(x*y).natAbs:=by rw [Int.natAbs_mul]; rfl
 have hs:=SL x y
 rw [hn] at hm hxy
 simp -implicitDefEqProofs only [Na] at hm
 have hz:(x*y).natAbs=0↔x*y=0:=Int.natAbs_eq_zero
 generalize (x*y).natAbs=N at *
 generalize hmn:x*y=mn at *
 generalize x.natAbs / (4294967296:Int)*(y.natAbs / (4294967296:Int))=P at *
 generalize x.natAbs % (4294967296:Int)*(y.natAbs % (4294967296:Int))=q at *
 generalize x.natAbs % (4294967296:Int)*(y.natAbs / (4294967296:Int))=u at *
 generalize x.natAbs / (4294967296:Int)*(y.natAbs % (4294967296:Int))=v at *
 obtain ⟨tl,htl⟩:∃tl:Nat→List (Nat×AV),∀i:Nat,tl i=[(43,.own br 1 0 2 2),(44,i64 2),(45,i64 i),(11,.ptr b11 0),(4,.ptr b4 0),(5,.ptr b5 0),(6,.ptr b6 0)]:=⟨_,fun _=>rfl⟩
 obtain ⟨hl,hhl⟩:∃hl:Nat→List (Nat×Blk),∀i:Nat,hl i=[(br,.row 109 1 2 [[.int .u64 u],[.int .u64 v]]),(b11,.box 111 [bv false,u64 (Fw (P*18446744073709551616+q) u v i / 18446744073709551616),u64 (Fw (P*18446744073709551616+q) u v i % 18446744073709551616)]),
   (b4,.box 111 [bv false,u64 0,u64 0]),(b5,.box 111 [bv (decide (x<0)),u64 (↑x.natAbs / 18446744073709551616),u64 ↑x.natAbs]),(b6,.box 111 [bv (decide (y<0)),u64 (↑y.natAbs / 18446744073709551616),u64 ↑y.natAbs])]:=⟨_,fun _=>rfl⟩
 refine EN (fun i:Nat=>i≤2) 69 tl hl
  (fun i=>2-i) 0 (by omega) rfl ?_ ?_ ?_
 ·rw [htl]; simp -implicitDefEqProofs -proj only [go_sem,seval,AK]
 ·rw [hhl,M5]; simp -implicitDefEqProofs -proj only [go_sem,seval,AR, *]
  simp -implicitDefEqProofs only [wU,Option.some.injEq,Blk.box.injEq,Blk.row.injEq,←decide_not,←Bool.decide_and,←Bool.decide_or,Bool.beq_eq_decide_eq,AV.d.injEq,D.bool.injEq,D.int.injEq,D.str.injEq,AV.tup.injEq,AV.agg.injEq,List.cons.injEq,true_and,and_true,decide_eq_decide,true_eq_decide_iff,false_eq_decide_iff,decide_eq_true_eq,decide_eq_false_iff_not,Bool.true_eq,Bool.false_eq]
  omega
 ·intro i hi
  by_cases hi2:i≤1
  ·refine AKO (p:=P*18446744073709551616+q) (by omega) hr ht ?_ ?_ ?_ ?_ ?_ ?_ ?_ ?_ ?_ ?_ ?_ ?_ ?_ ?_ ?_ htl hhl hi2
   ·rw [Km,hm]; unfold Ej; omega
   all_goals simp -implicitDefEqProofs only [hb5,hb6,hb11,hbr,not_false_eq_true]
  ·have hi:i=2:=by omega
   subst hi
   rw [htl,hhl,Km,hm]
   simp -implicitDefEqProofs -proj only [go_sem,seval,hb5,hb6,hb11,hbr]
   (repeat' first
  | (refine AH (J6 (m:=N) (by unfold Ej; omega)) ?_; simp -implicitDefEqProofs -proj only [go_sem,seval, *])
  | (refine Ew (J6 (m:=N) (by unfold Ej; omega)) ?_; simp -implicitDefEqProofs -proj only [go_sem,seval, *])
  | ((with_reducible first | refine E6 (fun h=>?_) (fun h=>?_) | refine FA (fun h=>?_) (fun h=>?_) | refine E3 (fun h=>?_) (fun h=>?_)) <;> (simp -implicitDefEqProofs -proj only [go_sem,seval, *]; try (revert h; intro _)))
  | ((with_reducible first | refine AN (fun _ hb=>?_) | refine EJ (fun _ hb=>?_)); simp -implicitDefEqProofs only [E0,E8,AY,Heap.none_get,and_true,true_and] at hb; simp -implicitDefEqProofs -proj only [go_sem,seval, *]; try (revert hb; intro _))
  | ((with_reducible first | refine EW _ rfl (by simp) ?_ | refine EX _ rfl (by simp) ?_); simp -implicitDefEqProofs -proj only [go_sem,seval, *])
  | (with_reducible refine Aq ?_ (fun h=>?_); first | ((focus first | decide | omega); try clear h; try simp -implicitDefEqProofs -proj only [go_sem,seval, *]) | (rotate_left; try clear h; try simp -implicitDefEqProofs -proj only [go_sem,seval, *]; rotate_right)))
   all_goals
    refine AJ ?_
    simp -implicitDefEqProofs only [decide_eq_true_eq,decide_eq_false_iff_not,Bool.not_eq_true',Bool.not_eq_false',Bool.and_eq_true,Bool.and_eq_false_iff,Bool.or_eq_true,Bool.or_eq_false_iff,beq_iff_eq,beq_eq_false_iff_ne,ne_eq,decide_eq_decide,Bool.not_eq_true,Bool.not_eq_false] at *
    simp -implicitDefEqProofs only [←decide_not,←Bool.decide_and,←Bool.decide_or,Bool.beq_eq_decide_eq,AV.d.injEq,D.bool.injEq,D.int.injEq,D.str.injEq,AV.tup.injEq,AV.agg.injEq,List.cons.injEq,true_and,and_true,decide_eq_decide,true_eq_decide_iff,false_eq_decide_iff,decide_eq_true_eq,decide_eq_false_iff_not,Bool.true_eq,Bool.false_eq]
    first
    | exact ⟨fun h'=>⟨by assumption,by omega⟩,fun h'=>by omega⟩
    | exact fun h'=>h'.1 (by assumption)
    | omega
theorem KE {x y:Int} (hx:Fit x) (hy:Fit y):(x*y).natAbs≤85070591730234615865843651857942052864:=by
 have h:=OI hx hy
 have:(x.natAbs:Int)*y.natAbs=(x*y).natAbs:=by rw [Int.natAbs_mul]; rfl
 omega
end
section
attribute [local go_sem] GZ wide
theorem AAT {x y:Int} (hx:x.natAbs≤85070591730234615865843651857942052864) (hy:y.natAbs≤85070591730234615865843651857942052864):DataW Try.prog AEM [wide x,wide y] (bv (decide (x<y))):=by
 have h1:=LR (n:=y) (by unfold Ej; omega)
 have h2:=JV (a:=x) (b:=-y) (by omega) (by omega)
 refine Am AB2 (by simp) ?_
 simp -implicitDefEqProofs -proj only [go_sem,seval]
 (repeat' first
  | ((with_reducible first | refine E6 (fun h=>?_) (fun h=>?_) | refine FA (fun h=>?_) (fun h=>?_) | refine E3 (fun h=>?_) (fun h=>?_)) <;> (simp -implicitDefEqProofs -proj only [go_sem,seval, *]; try (revert h; intro _)))
  | ((with_reducible first | refine AN (fun _ hb=>?_) | refine EJ (fun _ hb=>?_)); simp only [E0,E8,AY,Heap.none_get,and_true,true_and] at hb; simp -implicitDefEqProofs -proj only [go_sem,seval, *]; try (revert hb; intro _))
  | ((with_reducible first | refine EW _ rfl (by simp) ?_ | refine EX _ rfl (by simp) ?_); simp -implicitDefEqProofs -proj only [go_sem,seval, *])
  | (with_reducible refine Aq ?_ (fun h=>?_); first | ((focus first | decide | omega); try clear h; try simp -implicitDefEqProofs -proj only [go_sem,seval, *]) | (rotate_left; try clear h; try simp -implicitDefEqProofs -proj only [go_sem,seval, *]; rotate_right)))
 refine Ew h1 ?_
 simp -implicitDefEqProofs -proj only [go_sem,seval, *]
 (repeat' first
  | ((with_reducible first | refine E6 (fun h=>?_) (fun h=>?_) | refine FA (fun h=>?_) (fun h=>?_) | refine E3 (fun h=>?_) (fun h=>?_)) <;> (simp -implicitDefEqProofs -proj only [go_sem,seval, *]; try (revert h; intro _)))
  | ((with_reducible first | refine AN (fun _ hb=>?_) | refine EJ (fun _ hb=>?_)); simp only [E0,E8,AY,Heap.none_get,and_true,true_and] at hb; simp -implicitDefEqProofs -proj only [go_sem,seval, *]; try (revert hb; intro _))
  | ((with_reducible first | refine EW _ rfl (by simp) ?_ | refine EX _ rfl (by simp) ?_); simp -implicitDefEqProofs -proj only [go_sem,seval, *])
  | (with_reducible refine Aq ?_ (fun h=>?_); first | ((focus first | decide | omega); try clear h; try simp -implicitDefEqProofs -proj only [go_sem,seval, *]) | (rotate_left; try clear h; try simp -implicitDefEqProofs -proj only [go_sem,seval, *]; rotate_right)))
 refine Ew h2 ?_
 simp -implicitDefEqProofs -proj only [go_sem,seval, *]
 (repeat' first
  | ((with_reducible first | refine E6 (fun h=>?_) (fun h=>?_) | refine FA (fun h=>?_) (fun h=>?_) | refine E3 (fun h=>?_) (fun h=>?_)) <;> (simp -implicitDefEqProofs -proj only [go_sem,seval, *]; try (revert h; intro _)))
  | ((with_reducible first | refine AN (fun _ hb=>?_) | refine EJ (fun _ hb=>?_)); simp only [E0,E8,AY,Heap.none_get,and_true,true_and] at hb; simp -implicitDefEqProofs -proj only [go_sem,seval, *]; try (revert hb; intro _))
  | ((with_reducible first | refine EW _ rfl (by simp) ?_ | refine EX _ rfl (by simp) ?_); simp -implicitDefEqProofs -proj only [go_sem,seval, *])
  | (with_reducible refine Aq ?_ (fun h=>?_); first | ((focus first | decide | omega); try clear h; try simp -implicitDefEqProofs -proj only [go_sem,seval, *]) | (rotate_left; try clear h; try simp -implicitDefEqProofs -proj only [go_sem,seval, *]; rotate_right)))
 refine AJ ?_
 simp -implicitDefEqProofs only [←decide_not,←Bool.decide_and,←Bool.decide_or,Bool.beq_eq_decide_eq,AV.d.injEq,D.bool.injEq,D.int.injEq,D.str.injEq,AV.tup.injEq,AV.agg.injEq,List.cons.injEq,true_and,and_true,decide_eq_decide,true_eq_decide_iff,false_eq_decide_iff,decide_eq_true_eq,decide_eq_false_iff_not,Bool.true_eq,Bool.false_eq]
 omega
theorem QG {n c p:Int} (hn:Fit n) (hc:Fit c) (hp:p.natAbs≤85070591730234615865843651857942052864):DataW Try.prog AB7 [i64 n,i64 c,wide p] (bv (decide (n*c≤p))):=by
 have h1:=I9 hn hc
 have hq:=KE hn hc
 have h2:=AAT hp hq
 generalize n*c=z at *
 refine Am AE9 (by simp) ?_
 simp -implicitDefEqProofs -proj only [go_sem,seval]
 (repeat' first
  | ((with_reducible first | refine E6 (fun h=>?_) (fun h=>?_) | refine FA (fun h=>?_) (fun h=>?_) | refine E3 (fun h=>?_) (fun h=>?_)) <;> (simp -implicitDefEqProofs -proj only [go_sem,seval, *]; try (revert h; intro _)))
  | ((with_reducible first | refine AN (fun _ hb=>?_) | refine EJ (fun _ hb=>?_)); simp only [E0,E8,AY,Heap.none_get,and_true,true_and] at hb; simp -implicitDefEqProofs -proj only [go_sem,seval, *]; try (revert hb; intro _))
  | ((with_reducible first | refine EW _ rfl (by simp) ?_ | refine EX _ rfl (by simp) ?_); simp -implicitDefEqProofs -proj only [go_sem,seval, *])
  | (with_reducible refine Aq ?_ (fun h=>?_); first | ((focus first | decide | omega); try clear h; try simp -implicitDefEqProofs -proj only [go_sem,seval, *]) | (rotate_left; try clear h; try simp -implicitDefEqProofs -proj only [go_sem,seval, *]; rotate_right)))
 refine Ew h1 ?_
 simp -implicitDefEqProofs -proj only [go_sem,seval, *]
 (repeat' first
  | (refine AH (h2) ?_; simp -implicitDefEqProofs -proj only [go_sem,seval, *])
  | (refine Ew (h2) ?_; simp -implicitDefEqProofs -proj only [go_sem,seval, *])
  | ((with_reducible first | refine E6 (fun h=>?_) (fun h=>?_) | refine FA (fun h=>?_) (fun h=>?_) | refine E3 (fun h=>?_) (fun h=>?_)) <;> (simp -implicitDefEqProofs -proj only [go_sem,seval, *]; try (revert h; intro _)))
  | ((with_reducible first | refine AN (fun _ hb=>?_) | refine EJ (fun _ hb=>?_)); simp -implicitDefEqProofs only [E0,E8,AY,Heap.none_get,and_true,true_and] at hb; simp -implicitDefEqProofs -proj only [go_sem,seval, *]; try (revert hb; intro _))
  | ((with_reducible first | refine EW _ rfl (by simp) ?_ | refine EX _ rfl (by simp) ?_); simp -implicitDefEqProofs -proj only [go_sem,seval, *])
  | (with_reducible refine Aq ?_ (fun h=>?_); first | ((focus first | decide | omega); try clear h; try simp -implicitDefEqProofs -proj only [go_sem,seval, *]) | (rotate_left; try clear h; try simp -implicitDefEqProofs -proj only [go_sem,seval, *]; rotate_right)))
 refine AJ ?_
 simp -implicitDefEqProofs only [←decide_not,←Bool.decide_and,←Bool.decide_or,Bool.beq_eq_decide_eq,AV.d.injEq,D.bool.injEq,D.int.injEq,D.str.injEq,AV.tup.injEq,AV.agg.injEq,List.cons.injEq,true_and,and_true,decide_eq_decide,true_eq_decide_iff,false_eq_decide_iff,decide_eq_true_eq,decide_eq_false_iff_not,Bool.true_eq,Bool.false_eq]
 omega
def K1 (p c:Int):AV:=if -9223372036854775808*c≤p then .tup [i64 (HV p c),bv true] else .tup [i64 0,bv false]
theorem Qk {p c:Int} (hc:0<c) (h : -9223372036854775808*c≤p):Fit (HV p c):=by
 have h1:=(Qq (p:=p) (n:=-9223372036854775808) hc (by omega)).2 h
 unfold Fit
 refine ⟨h1,?_⟩
 unfold HV
 split <;> omega
theorem VN {low P nx:Int} (h:nx=IntKind.i64.wrap (IntKind.u64.wrap (IntKind.u64.wrap low+P))) (hl:Fit low) (hP:1≤P∧P≤9223372036854775808):(low+P≤9223372036854775807→nx=low+P)∧(9223372036854775807<low+P→nx<low):=by
 rw [IntKind.wrap_i64,IntKind.wrap_u64,IntKind.wrap_u64] at h
 unfold Fit at hl
 omega
theorem Vj (j:Nat) (h:0<j) (h2:j≤64):∃P:Int,(2:Int) ^ (j-1)=P∧(2:Int) ^ j=2*P∧1≤P∧P≤9223372036854775808:=by
 refine ⟨_,rfl,?_,?_,?_⟩
 ·conv=>lhs; rw [show j=j-1+1 by omega,Int.pow_succ,Int.mul_comm]
 ·have:=Oi (j-1); omega
 ·have:=AKN (show j-1≤63 by omega)
  have e:(2:Int) ^ 63=9223372036854775808:=rfl
  omega
set_option maxRecDepth 20000 in
set_option maxHeartbeats 2000000 in
theorem ZS {p c:Int} (hc0:0<c) (hc:Fit c) (hp:p.natAbs≤85070591730234615865843651857942052864):DataW Try.prog Vz [wide p,i64 c] (K1 p c):=by
 have h1:=QG (n:=-9223372036854775808) (c:=c) (p:=p) (by decide) hc hp
 refine Am AA0 (by simp) ?_
 by_cases h : -9223372036854775808*c≤p
 ·rw [K1,if_pos h]
  rw [decide_eq_true h] at h1
  simp -implicitDefEqProofs -proj only [go_sem,seval]
  refine AN (fun b hb=>?_)
  simp -implicitDefEqProofs -proj only [go_sem,seval]
  refine AH h1 ?_
  simp -implicitDefEqProofs -proj only [go_sem,seval]
  have hf:=Qk hc0 h
  have hle:=fun n hn=>Qq (p:=p) (c:=c) (n:=n) hc0 hn
  clear h1 h
  generalize HV p c=T at *
  refine EN (fun x:Nat×Int=>x.1≤64∧Fit x.2∧x.2≤T∧T<x.2+2 ^ x.1) 39 (fun x=>[(2,.ptr b 0),(1,i64 c),(6,i64 x.2),(7,i64 ((x.1:Int)-1))])
   (fun _=>[(b,.box 111 [bv (decide (p<0)),u64 ((p.natAbs:Int) / 18446744073709551616),u64 ((p.natAbs:Int) % 18446744073709551616)])]) (fun x=>x.1) (64,-9223372036854775808) ⟨by simp -implicitDefEqProofs only [Ae]; omega,by decide,by unfold Fit at hf; simp -implicitDefEqProofs only [Ao]; omega,by unfold Fit at hf; simp -implicitDefEqProofs only [Ao,Ae]; omega⟩ rfl ?_ ?_ ?_
  ·simp -implicitDefEqProofs -proj only [go_sem,seval,AK]
  ·simp -implicitDefEqProofs -proj only [go_sem,seval,AR]
  ·rintro ⟨j,low⟩ ⟨i1,i2,i3,i4⟩
   simp -implicitDefEqProofs only [Ae,Ao] at i1 i2 i3 i4
   by_cases hj:0<j
   ·obtain ⟨P,e1,e2,e3,e4⟩:=Vj j hj i1
    have w1:IntKind.u64.wrap ((j:Int)-1)=((j-1:Nat):Int):=by rw [LG (by omega)]; omega
    have w2:IntKind.u64.wrap P=P:=LG (by omega)
    have w3:IntKind.i64.wrap ((j:Int)-1-1)=((j-1:Nat):Int)-1:=by rw [IntKind.wrap_i64]; omega
    have hk:j-1≤64:=by omega
    obtain ⟨nx,hnx⟩:∃nx,nx=IntKind.i64.wrap (IntKind.u64.wrap (IntKind.u64.wrap low+P)):=⟨_,rfl⟩
    obtain ⟨n1,n2⟩:=VN hnx i2 ⟨e3,e4⟩
    have hle2:=hle nx
    simp -implicitDefEqProofs -proj only [go_sem,seval,decide_eq_true (show 0≤(j:Int)-1 by omega),w1,w2,w3,Int.toNat_natCast,hk,e1,Int.one_mul]
    (repeat' (with_reducible refine Aq ?_ (fun h=>?_); (focus first | decide | omega); clear h; try simp -implicitDefEqProofs -proj only [go_sem,seval,w1,w2,w3,Int.toNat_natCast,hk,e1,Int.one_mul,←hnx]))
    by_cases hb2:low+P≤9223372036854775807
    ·have hn:=n1 hb2
     have hu:=QG (n:=nx) (c:=c) (p:=p) (by unfold Fit at *; omega) hc hp
     simp -implicitDefEqProofs -proj only [go_sem,seval,←hnx,decide_eq_true (show low<nx by omega)]
     refine AH hu ?_
     by_cases hv:nx*c≤p
     ·have:=(hle2 (by omega)).2 hv
      simp -implicitDefEqProofs -proj only [go_sem,seval,←hnx,decide_eq_true hv]
      refine AX (j-1,nx) ⟨by simp -implicitDefEqProofs only [Ae]; omega,by unfold Fit at *; simp -implicitDefEqProofs only [Ao]; omega,by simp -implicitDefEqProofs only [Ao]; omega,by simp -implicitDefEqProofs only [Ae,Ao]; rw [e1]; omega⟩ (by simp -implicitDefEqProofs only [Ae]; omega) rfl ?_ ?_
      ·simp -implicitDefEqProofs -proj only [go_sem,seval,AK,w3]
      ·simp -implicitDefEqProofs -proj only [go_sem,seval,AR]
     ·have:¬nx≤T:=fun h=>hv ((hle2 (by omega)).1 h)
      simp -implicitDefEqProofs -proj only [go_sem,seval,←hnx,decide_eq_false hv]
      refine AX (j-1,low) ⟨by simp -implicitDefEqProofs only [Ae]; omega,i2,i3,by simp -implicitDefEqProofs only [Ae,Ao]; rw [e1]; omega⟩ (by simp -implicitDefEqProofs only [Ae]; omega) rfl ?_ ?_
      ·simp -implicitDefEqProofs -proj only [go_sem,seval,AK,w3]
      ·simp -implicitDefEqProofs -proj only [go_sem,seval,AR]
    ·have hn:=n2 (by omega)
     simp -implicitDefEqProofs -proj only [go_sem,seval,←hnx,decide_eq_false (show ¬low<nx by omega)]
     refine AX (j-1,low) ⟨by simp -implicitDefEqProofs only [Ae]; omega,i2,i3,by unfold Fit at hf; simp -implicitDefEqProofs only [Ae,Ao]; rw [e1]; omega⟩ (by simp -implicitDefEqProofs only [Ae]; omega) rfl ?_ ?_
     ·simp -implicitDefEqProofs -proj only [go_sem,seval,AK,w3]
     ·simp -implicitDefEqProofs -proj only [go_sem,seval,AR]
   ·have hj0:j=0:=by omega
    subst hj0
    have hT:low=T:=by
     have:(2:Int) ^ 0=1:=rfl
     omega
    simp -implicitDefEqProofs -proj only [go_sem,seval]
    exact AJ (by rw [hT])
 ·rw [K1,if_neg h]
  rw [decide_eq_false h] at h1
  simp -implicitDefEqProofs -proj only [go_sem,seval]
  refine AN (fun b hb=>?_)
  simp -implicitDefEqProofs -proj only [go_sem,seval]
  refine AH h1 ?_
  simp -implicitDefEqProofs -proj only [go_sem,seval]
  exact AJ rfl
def In (d c m:Int):AV:=if 0≤d∧d<c∧(m=1∨1<m∧2*d≤c) then .tup [i64 (-9223372036854775808),bv true] else .tup [i64 0,bv false]
theorem Mv {d c m n:Int} {u:Bool} (h:(u=true∧n = -9223372036854775808∧(0≤d∧d<c∧(m=1∨1<m∧2*d≤c)))∨(u=false∧n=0∧¬(0≤d∧d<c∧(m=1∨1<m∧2*d≤c)))):AV.tup [i64 n,bv u]=In d c m:=by
 unfold In
 rcases h with ⟨rfl,rfl,h⟩ | ⟨rfl,rfl,h⟩
 ·rw [if_pos h]
 ·rw [if_neg h]
set_option maxRecDepth 20000 in
theorem S8 {p c m:Int} (hc0:0<c) (hc:Fit c) (hp:p.natAbs≤85070591730234615865843651857942052864):DataW Try.prog AJk [wide p,i64 c,i64 m] (In (-9223372036854775808*c-p) c m):=by
 have h1:=I9 (x:=-9223372036854775808) (y:=c) (by decide) hc
 have hq:=KE (x:=-9223372036854775808) (y:=c) (by decide) hc
 have h2:=LR (n:=p) (by unfold Ej; omega)
 have h3:=JV (a:=-9223372036854775808*c) (b:=-p) (by omega) (by omega)
 obtain ⟨d,hd⟩:∃d,-9223372036854775808*c + -p=d:=⟨_,rfl⟩
 have hd2 : -9223372036854775808*c-p=d:=by omega
 rw [hd] at h3
 rw [hd2]
 have hd3:d.natAbs<340282366920938463463374607431768211456:=by omega
 have hcw:IntKind.u64.wrap c=c:=LG (by unfold Fit at hc; omega)
 generalize -9223372036854775808*c=z at *
 clear hd hd2 hq
 refine Am ACM (by simp) ?_
 simp -implicitDefEqProofs -proj only [go_sem,seval]
 (repeat' first
  | ((with_reducible first | refine E6 (fun h=>?_) (fun h=>?_) | refine FA (fun h=>?_) (fun h=>?_) | refine E3 (fun h=>?_) (fun h=>?_)) <;> (simp -implicitDefEqProofs -proj only [go_sem,seval, *]; try (revert h; intro _)))
  | ((with_reducible first | refine AN (fun _ hb=>?_) | refine EJ (fun _ hb=>?_)); simp only [E0,E8,AY,Heap.none_get,and_true,true_and] at hb; simp -implicitDefEqProofs -proj only [go_sem,seval, *]; try (revert hb; intro _))
  | ((with_reducible first | refine EW _ rfl (by simp) ?_ | refine EX _ rfl (by simp) ?_); simp -implicitDefEqProofs -proj only [go_sem,seval, *])
  | (with_reducible refine Aq ?_ (fun h=>?_); first | ((focus first | decide | omega); try clear h; try simp -implicitDefEqProofs -proj only [go_sem,seval, *]) | (rotate_left; try clear h; try simp -implicitDefEqProofs -proj only [go_sem,seval, *]; rotate_right)))
 refine Ew h1 ?_
 simp -implicitDefEqProofs -proj only [go_sem,seval, *]
 (repeat' first
  | ((with_reducible first | refine E6 (fun h=>?_) (fun h=>?_) | refine FA (fun h=>?_) (fun h=>?_) | refine E3 (fun h=>?_) (fun h=>?_)) <;> (simp -implicitDefEqProofs -proj only [go_sem,seval, *]; try (revert h; intro _)))
  | ((with_reducible first | refine AN (fun _ hb=>?_) | refine EJ (fun _ hb=>?_)); simp only [E0,E8,AY,Heap.none_get,and_true,true_and] at hb; simp -implicitDefEqProofs -proj only [go_sem,seval, *]; try (revert hb; intro _))
  | ((with_reducible first | refine EW _ rfl (by simp) ?_ | refine EX _ rfl (by simp) ?_); simp -implicitDefEqProofs -proj only [go_sem,seval, *])
  | (with_reducible refine Aq ?_ (fun h=>?_); first | ((focus first | decide | omega); try clear h; try simp -implicitDefEqProofs -proj only [go_sem,seval, *]) | (rotate_left; try clear h; try simp -implicitDefEqProofs -proj only [go_sem,seval, *]; rotate_right)))
 refine Ew h2 ?_
 simp -implicitDefEqProofs -proj only [go_sem,seval, *]
 (repeat' first
  | ((with_reducible first | refine E6 (fun h=>?_) (fun h=>?_) | refine FA (fun h=>?_) (fun h=>?_) | refine E3 (fun h=>?_) (fun h=>?_)) <;> (simp -implicitDefEqProofs -proj only [go_sem,seval, *]; try (revert h; intro _)))
  | ((with_reducible first | refine AN (fun _ hb=>?_) | refine EJ (fun _ hb=>?_)); simp only [E0,E8,AY,Heap.none_get,and_true,true_and] at hb; simp -implicitDefEqProofs -proj only [go_sem,seval, *]; try (revert hb; intro _))
  | ((with_reducible first | refine EW _ rfl (by simp) ?_ | refine EX _ rfl (by simp) ?_); simp -implicitDefEqProofs -proj only [go_sem,seval, *])
  | (with_reducible refine Aq ?_ (fun h=>?_); first | ((focus first | decide | omega); try clear h; try simp -implicitDefEqProofs -proj only [go_sem,seval, *]) | (rotate_left; try clear h; try simp -implicitDefEqProofs -proj only [go_sem,seval, *]; rotate_right)))
 refine Ew h3 ?_
 simp -implicitDefEqProofs -proj only [go_sem,seval, *]
 (repeat' first
  | ((with_reducible first | refine E6 (fun h=>?_) (fun h=>?_) | refine FA (fun h=>?_) (fun h=>?_) | refine E3 (fun h=>?_) (fun h=>?_)) <;> (simp -implicitDefEqProofs -proj only [go_sem,seval, *]; try (revert h; intro _)))
  | ((with_reducible first | refine AN (fun _ hb=>?_) | refine EJ (fun _ hb=>?_)); simp only [E0,E8,AY,Heap.none_get,and_true,true_and] at hb; simp -implicitDefEqProofs -proj only [go_sem,seval, *]; try (revert hb; intro _))
  | ((with_reducible first | refine EW _ rfl (by simp) ?_ | refine EX _ rfl (by simp) ?_); simp -implicitDefEqProofs -proj only [go_sem,seval, *])
  | (with_reducible refine Aq ?_ (fun h=>?_); first | ((focus first | decide | omega); try clear h; try simp -implicitDefEqProofs -proj only [go_sem,seval, *]) | (rotate_left; try clear h; try simp -implicitDefEqProofs -proj only [go_sem,seval, *]; rotate_right)))
 all_goals
  refine AJ (Mv ?_)
  clear h1 h2 h3
  try simp -implicitDefEqProofs only [decide_eq_true_eq,decide_eq_false_iff_not,Bool.not_eq_true',Bool.not_eq_false',Bool.and_eq_true,Bool.and_eq_false_iff,Bool.or_eq_true,Bool.or_eq_false_iff,beq_iff_eq,beq_eq_false_iff_ne,ne_eq,decide_eq_decide,Bool.not_eq_true,Bool.not_eq_false,IntKind.wrap_u64] at *
  try simp -implicitDefEqProofs only [←decide_not,←Bool.decide_and,←Bool.decide_or,Bool.beq_eq_decide_eq,AV.d.injEq,D.bool.injEq,D.int.injEq,D.str.injEq,AV.tup.injEq,AV.agg.injEq,List.cons.injEq,true_and,and_true,decide_eq_decide,true_eq_decide_iff,false_eq_decide_iff,decide_eq_true_eq,decide_eq_false_iff_not,Bool.false_eq_true,Bool.true_eq_false,reduceCtorEq,false_and,true_and,or_false,false_or]
  unfold Fit at hc
  try omega
set_option maxRecDepth 20000 in
set_option maxHeartbeats 2000000 in
theorem Mg {a b c m:Int} (ha:Fit a) (hb:Fit b) (hc:Fit c):DataW Try.prog AB4 [i64 a,i64 b,i64 c,i64 m] (JK (a*b) c m):=by
 by_cases hh:0<c∧0≤m∧m≤3
 ·obtain ⟨hc0,hm⟩:=hh
  have h1:=I9 ha hb
  have hp:=KE ha hb
  have h2:=ZS (p:=a*b) hc0 hc hp
  obtain ⟨q,r,d1,d2,d3,d4,d5,hr⟩:=Kv (p:=a*b) (c:=c) (m:=m) hc0 hm
  rw [PB hc0 hm]
  have c1:decide (c≤0)=false:=decide_eq_false (by omega)
  have c2:decide (m<0)=false:=decide_eq_false (by omega)
  have c3:decide (3<m)=false:=decide_eq_false (by omega)
  have hcw:IntKind.u64.wrap c=c:=LG (by unfold Fit at hc; omega)
  have hE:=S8 (p:=a*b) (c:=c) (m:=m) hc0 hc hp
  generalize a*b=p at *
  refine Am OE (by simp) ?_
  by_cases hf : -9223372036854775808*c≤p
  ·have hcf:=Qk hc0 hf
   rw [K1,if_pos hf] at h2
   have h3:=I9 hcf hc
   have hq:=KE hcf hc
   have h4:=LR (n:=HV p c*c) (by unfold Ej; omega)
   have h5:=JV (a:=p) (b:=-(HV p c*c)) (by omega) (by omega)
   have hn:HV p c=if q≤9223372036854775807 then q else 9223372036854775807:=by rw [HV,d4]
   obtain ⟨n,hn2⟩:∃n,HV p c=n:=⟨_,rfl⟩
   rw [hn2] at hn h2 h3 h4 h5 hcf
   obtain ⟨d,hd⟩:∃d,p + -(n*c)=d:=⟨_,rfl⟩
   rw [hd] at h5
   have hd3:d.natAbs<340282366920938463463374607431768211456:=by rw [hn2] at hq; omega
   have key:n=q∧d=r∨n=9223372036854775807∧9223372036854775807<q∧c≤d:=by
    by_cases hqm:q≤9223372036854775807
    ·rw [if_pos hqm] at hn
     subst hn
     left; omega
    ·rw [if_neg hqm] at hn
     right
     refine ⟨hn,by omega,?_⟩
     have:=Int.mul_le_mul_of_nonneg_right (show 9223372036854775807+1≤q by omega) (Int.le_of_lt hc0)
     rw [Int.add_mul,←hn] at this
     omega
   generalize n*c=z at *
   clear hn hd hq hE d1 hf hn2
   clear d4 d5 hp
   simp -implicitDefEqProofs -proj only [go_sem,seval,c1,c2,c3]
   (repeat' first
  | (refine AH (h1) ?_; simp -implicitDefEqProofs -proj only [go_sem,seval, *])
  | (refine Ew (h1) ?_; simp -implicitDefEqProofs -proj only [go_sem,seval, *])
  | (refine AH (h2) ?_; simp -implicitDefEqProofs -proj only [go_sem,seval, *])
  | (refine Ew (h2) ?_; simp -implicitDefEqProofs -proj only [go_sem,seval, *])
  | (refine AH (h3) ?_; simp -implicitDefEqProofs -proj only [go_sem,seval, *])
  | (refine Ew (h3) ?_; simp -implicitDefEqProofs -proj only [go_sem,seval, *])
  | (refine AH (h4) ?_; simp -implicitDefEqProofs -proj only [go_sem,seval, *])
  | (refine Ew (h4) ?_; simp -implicitDefEqProofs -proj only [go_sem,seval, *])
  | (refine AH (h5) ?_; simp -implicitDefEqProofs -proj only [go_sem,seval, *])
  | (refine Ew (h5) ?_; simp -implicitDefEqProofs -proj only [go_sem,seval, *])
  | ((with_reducible first | refine E6 (fun h=>?_) (fun h=>?_) | refine FA (fun h=>?_) (fun h=>?_) | refine E3 (fun h=>?_) (fun h=>?_)) <;> (simp -implicitDefEqProofs -proj only [go_sem,seval, *]; try (revert h; intro _)))
  | ((with_reducible first | refine AN (fun _ hb=>?_) | refine EJ (fun _ hb=>?_)); simp -implicitDefEqProofs only [E0,E8,AY,Heap.none_get,and_true,true_and] at hb; simp -implicitDefEqProofs -proj only [go_sem,seval, *]; try (revert hb; intro _))
  | ((with_reducible first | refine EW _ rfl (by simp) ?_ | refine EX _ rfl (by simp) ?_); simp -implicitDefEqProofs -proj only [go_sem,seval, *])
  | (with_reducible refine Aq ?_ (fun h=>?_); first | ((focus first | decide | omega); try clear h; try simp -implicitDefEqProofs -proj only [go_sem,seval, *]) | (rotate_left; try clear h; try simp -implicitDefEqProofs -proj only [go_sem,seval, *]; rotate_right)))
   all_goals
    refine AJ (Pb ?_)
    clear h1 h2 h3 h4 h5
    have ht:n.tmod 2=0↔n % 2=0:=⟨fun h=>Int.emod_eq_zero_of_dvd (Int.dvd_of_tmod_eq_zero h),fun h=>Int.tmod_eq_zero_of_dvd (Int.dvd_of_emod_eq_zero h)⟩
    simp -implicitDefEqProofs only [decide_eq_true_eq,decide_eq_false_iff_not,Bool.not_eq_true',Bool.not_eq_false',Bool.and_eq_true,Bool.and_eq_false_iff,Bool.or_eq_true,Bool.or_eq_false_iff,beq_iff_eq,beq_eq_false_iff_ne,ne_eq,decide_eq_decide,Bool.not_eq_true,Bool.not_eq_false,IntKind.wrap_u64,IntKind.wrap_i64] at *
    simp -implicitDefEqProofs only [Bool.false_eq_true,reduceCtorEq,true_and,false_and,or_false,false_or]
    unfold HK at hr
    unfold Fit at *
    generalize FD p c m=R at *
    omega
  ·rw [K1,if_neg hf] at h2
   have h3:=I9 (x:=0) (y:=c) (by decide) hc
   have h4:=LR (n:=0) (by unfold Ej; decide)
   have h5:=JV (a:=p) (b:=0) (by omega) (by decide)
   rw [Int.zero_mul] at h3
   rw [Int.neg_zero] at h4
   rw [Int.add_zero] at h5
   have hq1:q < -9223372036854775808:=by
    rw [←d4,Int.ediv_lt_iff_lt_mul hc0]; omega
   have hd : -9223372036854775808*c-p=(-9223372036854775808-q)*c-r:=by rw [Int.sub_mul]; omega
   obtain ⟨d,hd2⟩:∃d,-9223372036854775808*c-p=d:=⟨_,rfl⟩
   rw [hd2] at hd hE
   have key:q = -9223372036854775809∧d=c-r∨q < -9223372036854775809∧c<d:=by
    by_cases hqm:q = -9223372036854775809
    ·left; subst hqm; exact ⟨rfl,by omega⟩
    ·right
     have:=Int.mul_le_mul_of_nonneg_right (show 2≤-9223372036854775808-q by omega) (Int.le_of_lt hc0)
     omega
   have res:G8 (FD p c m)=In d c m:=by
    symm
    by_cases hf:Fit (FD p c m)
    ·rw [Iz hf]
     symm
     refine Mv ?_
     unfold Fit at hf
     unfold HK at hr
     generalize FD p c m=R at *
     simp -implicitDefEqProofs only [Bool.true_eq_false,Bool.false_eq_true,reduceCtorEq,true_and,false_and,or_false,false_or]
     omega
    ·rw [Jt hf]
     symm
     refine Mv ?_
     unfold Fit at hf
     unfold HK at hr
     generalize FD p c m=R at *
     simp -implicitDefEqProofs only [Bool.true_eq_false,Bool.false_eq_true,reduceCtorEq,true_and,false_and,or_false,false_or]
     omega
   rw [res]
   have ee:In d c m = .tup [i64 (-9223372036854775808),bv true]∨In d c m = .tup [i64 0,bv false]:=by
    unfold In; split
    ·exact .inl rfl
    ·exact .inr rfl
   generalize In d c m=R at *
   clear key hd hd2 res d1 d4 d5 hr hf hp
   rcases ee with rfl | rfl
   all_goals
    simp -implicitDefEqProofs -proj only [go_sem,seval,c1,c2,c3]
    (repeat' first
  | (refine AH (h1) ?_; simp -implicitDefEqProofs -proj only [go_sem,seval, *])
  | (refine Ew (h1) ?_; simp -implicitDefEqProofs -proj only [go_sem,seval, *])
  | (refine AH (h2) ?_; simp -implicitDefEqProofs -proj only [go_sem,seval, *])
  | (refine Ew (h2) ?_; simp -implicitDefEqProofs -proj only [go_sem,seval, *])
  | (refine AH (h3) ?_; simp -implicitDefEqProofs -proj only [go_sem,seval, *])
  | (refine Ew (h3) ?_; simp -implicitDefEqProofs -proj only [go_sem,seval, *])
  | (refine AH (h4) ?_; simp -implicitDefEqProofs -proj only [go_sem,seval, *])
  | (refine Ew (h4) ?_; simp -implicitDefEqProofs -proj only [go_sem,seval, *])
  | (refine AH (h5) ?_; simp -implicitDefEqProofs -proj only [go_sem,seval, *])
  | (refine Ew (h5) ?_; simp -implicitDefEqProofs -proj only [go_sem,seval, *])
  | (refine AH (hE) ?_; simp -implicitDefEqProofs -proj only [go_sem,seval, *])
  | (refine Ew (hE) ?_; simp -implicitDefEqProofs -proj only [go_sem,seval, *])
  | ((with_reducible first | refine E6 (fun h=>?_) (fun h=>?_) | refine FA (fun h=>?_) (fun h=>?_) | refine E3 (fun h=>?_) (fun h=>?_)) <;> (simp -implicitDefEqProofs -proj only [go_sem,seval, *]; try (revert h; intro _)))
  | ((with_reducible first | refine AN (fun _ hb=>?_) | refine EJ (fun _ hb=>?_)); simp -implicitDefEqProofs only [E0,E8,AY,Heap.none_get,and_true,true_and] at hb; simp -implicitDefEqProofs -proj only [go_sem,seval, *]; try (revert hb; intro _))
  | ((with_reducible first | refine EW _ rfl (by simp) ?_ | refine EX _ rfl (by simp) ?_); simp -implicitDefEqProofs -proj only [go_sem,seval, *])
  | (with_reducible refine Aq ?_ (fun h=>?_); first | ((focus first | decide | omega); try clear h; try simp -implicitDefEqProofs -proj only [go_sem,seval, *]) | (rotate_left; try clear h; try simp -implicitDefEqProofs -proj only [go_sem,seval, *]; rotate_right)))
    all_goals exact AJ rfl
 ·rw [AAL hh]
  refine Am OE (by simp) ?_
  simp -implicitDefEqProofs -proj only [go_sem,seval]
  (repeat' first
  | ((with_reducible first | refine E6 (fun h=>?_) (fun h=>?_) | refine FA (fun h=>?_) (fun h=>?_) | refine E3 (fun h=>?_) (fun h=>?_)) <;> (simp -implicitDefEqProofs -proj only [go_sem,seval, *]; try (revert h; intro _)))
  | ((with_reducible first | refine AN (fun _ hb=>?_) | refine EJ (fun _ hb=>?_)); simp only [E0,E8,AY,Heap.none_get,and_true,true_and] at hb; simp -implicitDefEqProofs -proj only [go_sem,seval, *]; try (revert hb; intro _))
  | ((with_reducible first | refine EW _ rfl (by simp) ?_ | refine EX _ rfl (by simp) ?_); simp -implicitDefEqProofs -proj only [go_sem,seval, *])
  | (with_reducible refine Aq ?_ (fun h=>?_); first | ((focus first | decide | omega); try clear h; try simp -implicitDefEqProofs -proj only [go_sem,seval, *]) | (rotate_left; try clear h; try simp -implicitDefEqProofs -proj only [go_sem,seval, *]; rotate_right)))
  all_goals first | exact AJ rfl | (exfalso; simp -implicitDefEqProofs only [decide_eq_true_eq,decide_eq_false_iff_not,Bool.not_eq_true',Bool.not_eq_false',Bool.and_eq_true,Bool.and_eq_false_iff,Bool.or_eq_true,Bool.or_eq_false_iff,beq_iff_eq,beq_eq_false_iff_ne,ne_eq,decide_eq_decide,Bool.not_eq_true,Bool.not_eq_false] at *; omega)
end
theorem X2 {x:PartX} {q:Int} (hx:x.Fit) (hq:Fit q) (ha:0≤x.al) (hb:1≤x.bl):DataW Try.prog UO [IK x,i64 q] (if q<0 then .tup [i64 0,bv false] else G8 (Ie x q)):=by
 refine Am ADR (by simp) ?_
 simp -implicitDefEqProofs -proj only [go_sem,seval]
 refine AN (fun b2 hb2=>?_)
 by_cases h:q<0
 ·rw [if_pos h]
  simp -implicitDefEqProofs -proj only [go_sem,seval,decide_eq_true h]
  exact AJ rfl
 ·rw [if_neg h]
  have hal:=hx.al
  have hbl:=hx.bl
  unfold Fit at hal hq
  have hw:IntKind.i64.wrap (q-x.al)=q-x.al:=by rw [IntKind.wrap_i64]; omega
  have hf:Fit (FD (max (q-x.al) 0) x.bl 1):=by
   have:=Te (a:=max (q-x.al) 0) (c:=x.bl) (m:=1) (by omega) (by decide) (by omega)
   unfold Fit
   omega
  have h1:=Mg (a:=max (q-x.al) 0) (b:=1) (c:=x.bl) (m:=1) (by unfold Fit; omega) (by decide) hbl
  rw [Int.mul_one,PB (by omega) (by decide),Iz hf] at h1
  have h2:=I9 hf hbl
  have h3:=Ks (n:=FD (max (q-x.al) 0) x.bl 1*x.bl) (by have:=KE hf hbl; unfold Ej; omega)
  unfold Ie
  generalize FD (max (q-x.al) 0) x.bl 1=k at *
  simp -implicitDefEqProofs -proj only [go_sem,seval,decide_eq_false h,hw]
  refine AH h1 ?_
  simp -implicitDefEqProofs -proj only [go_sem,seval]
  refine AH h2 ?_
  simp -implicitDefEqProofs -proj only [go_sem,seval]
  refine AH h3 ?_
  unfold G8
  simp -implicitDefEqProofs -proj only [go_sem,seval]
  exact AJ rfl
theorem MY {l:List TStep}:∀el∈EI l,∀d∈el,HG d=true:=by
 intro el he d hd
 obtain ⟨r,_,rfl⟩:=List.mem_map.1 he
 simp -implicitDefEqProofs only [TStep.el,List.mem_cons,List.not_mem_nil,or_false] at hd
 rcases hd with rfl | rfl | rfl <;> rfl
theorem AEU {l:List TStep} {i:Nat} (h:i<l.length):(EI l)[((i:Int)).toNat]? = some [.int .i64 l[i].f,.int .i64 l[i].t,.int .i64 l[i].r]:=by
 rw [Int.toNat_natCast]; simp [EI,h,TStep.el]
structure RsX where
 i:Nat
 c:Nat
 cap:Nat
theorem Eg {i c cap:Nat}:(RsX.mk i c cap).i=i:=(rfl)
theorem Em {i c cap:Nat}:(RsX.mk i c cap).c=c:=(rfl)
theorem El {i c cap:Nat}:(RsX.mk i c cap).cap=cap:=(rfl)
theorem LQ {T:List Tier} {q:Int}:∀i,(refN T q i).length≤i
 | 0=>Nat.le_refl _
 | i+1=>by
  have:=LQ (T:=T) (q:=q) i
  rw [refN]
  split
  ·simp -implicitDefEqProofs only [List.length_append,List.length_singleton]; omega
  ·omega
def FI (b2:Nat) (x:PartX) (q:Int) (y:RsX):List (Nat×Blk):=EK 162 3 y.c y.cap (EI (refN x.ts q y.i))++[(b2,.box 93 [i64 x.me,i64 x.f,i64 x.t,i64 x.al,i64 x.bl,i64 x.ki,E9 x.ts,i64 x.mo,E4 x.ad])]
set_option maxRecDepth 20000 in
theorem Uq {x:PartX} {q:Int} (hl:x.ts.length≤1000000) (hn0:1≤x.ts.length):NewW Try.prog Yo [IK x,i64 q] (PP (if x.ki=2 then K9 x.ts q else Nf x.ts q)):=by
 have hwl:IntKind.i64.wrap ((x.ts.length:Int)-1)=(x.ts.length:Int)-1:=by rw [IntKind.wrap_i64]; omega
 refine Am Xz (by simp) ?_
 simp -implicitDefEqProofs -proj only [go_sem,seval]
 refine AN (fun b2 hb2=>?_)
 have c2:=HA (x:=.box 93 [i64 x.me,i64 x.f,i64 x.t,i64 x.al,i64 x.bl,i64 x.ki,E9 x.ts,i64 x.mo,E4 x.ad]) hb2 (l:=[]) trivial
 have n2:=HU (x:=.box 93 [i64 x.me,i64 x.f,i64 x.t,i64 x.al,i64 x.bl,i64 x.ki,E9 x.ts,i64 x.mo,E4 x.ad]) hb2 (l:=[]) trivial List.nodup_nil
 by_cases hk:x.ki=2
 ·rw [if_pos hk]
  simp -implicitDefEqProofs -proj only [go_sem,seval,FX,hwl,decide_eq_true hk]
  refine EN (fun i:Nat=>i≤x.ts.length∧K9 x.ts q=HM x.ts q (x.ts.length-i)) 91 (fun i=>[(21,E9 x.ts),(22,i64 x.ts.length),(23,i64 i),(6,i64 ((x.ts.length:Int)-1)),(1,i64 q),(5,.nilsl 0)]) (fun _=>[]) (fun i=>x.ts.length-i) 0 ⟨Nat.zero_le _,rfl⟩ rfl ?_ ?_ ?_
  ·simp -implicitDefEqProofs -proj only [go_sem,seval,AK]
  ·trivial
  ·rintro i ⟨hi,hv⟩
   by_cases h:i<x.ts.length
   ·have hel:=Jc h
    obtain ⟨n,hn⟩:∃n,x.ts.length-i=n+1:=⟨x.ts.length-i-1,by omega⟩
    have hg:HM x.ts q (n+1)=if n=0∨q≤x.ts[i].u then (if 0<q then [⟨0,q,x.ts[i].r⟩] else []) else HM x.ts q n:=by
     rw [HM,show x.ts.length-(n+1)=i by omega,List.getElem?_eq_getElem h]
    rw [hn,hg] at hv
    generalize x.ts[i]=t at *
    simp -implicitDefEqProofs -proj only [go_sem,seval,decide_eq_true (show (i:Int)<x.ts.length by omega)]
    refine EG _ (by omega) hel ?_
    simp -implicitDefEqProofs -proj only [go_sem,seval]
    refine AN (fun b8 hb8=>?_)
    replace hb8:Ak [] b8=none:=hb8
    by_cases hn0:n=0
    ·rw [if_pos (show n=0∨q≤t.u from .inl hn0)] at hv
     simp -implicitDefEqProofs -proj only [go_sem,seval,decide_eq_true (show (i:Int)=(x.ts.length:Int)-1 by omega)]
     by_cases hq:0<q
     ·rw [if_pos hq] at hv
      simp -implicitDefEqProofs -proj only [go_sem,seval,decide_eq_true hq]
      refine EJ (fun bs hs=>?_)
      simp -implicitDefEqProofs -proj only [go_sem,seval]
      refine Fa (xs:=[]) (y:=[.int .i64 0,.int .i64 q,.int .i64 t.r]) (t:=162) (e:=162) (c:=0) (cap:=0) (z0:=0) (capc:=1) [] rfl trivial List.nodup_nil (by simp -implicitDefEqProofs -proj only [go_sem,seval]) (by decide) (by decide) (fun H' c' cap' ha hk=>?_)
      simp -implicitDefEqProofs -proj only [go_sem,seval]
      rw [hv]
      exact Jg (z:=3) (xs:=EI [⟨0,q,t.r⟩]) (EO.1 ha).1 MY
     ·rw [if_neg hq] at hv
      simp -implicitDefEqProofs -proj only [go_sem,seval,decide_eq_false hq]
      rw [hv]
      exact .nilsl _ _
    ·by_cases hu:q≤t.u
     ·rw [if_pos (show n=0∨q≤t.u from .inr hu)] at hv
      simp -implicitDefEqProofs -proj only [go_sem,seval,decide_eq_false (show ¬(i:Int)=(x.ts.length:Int)-1 by omega),decide_eq_true hu]
      by_cases hq:0<q
      ·rw [if_pos hq] at hv
       simp -implicitDefEqProofs -proj only [go_sem,seval,decide_eq_true hq]
       refine EJ (fun bs hs=>?_)
       simp -implicitDefEqProofs -proj only [go_sem,seval]
       refine Fa (xs:=[]) (y:=[.int .i64 0,.int .i64 q,.int .i64 t.r]) (t:=162) (e:=162) (c:=0) (cap:=0) (z0:=0) (capc:=1) [] rfl trivial List.nodup_nil (by simp -implicitDefEqProofs -proj only [go_sem,seval]) (by decide) (by decide) (fun H' c' cap' ha hk=>?_)
       simp -implicitDefEqProofs -proj only [go_sem,seval]
       rw [hv]
       exact Jg (z:=3) (xs:=EI [⟨0,q,t.r⟩]) (EO.1 ha).1 MY
      ·rw [if_neg hq] at hv
       simp -implicitDefEqProofs -proj only [go_sem,seval,decide_eq_false hq]
       rw [hv]
       exact .nilsl _ _
     ·rw [if_neg (show ¬(n=0∨q≤t.u) by omega)] at hv
      simp -implicitDefEqProofs -proj only [go_sem,seval,decide_eq_false (show ¬(i:Int)=(x.ts.length:Int)-1 by omega),decide_eq_false hu]
      refine AX (i+1) ⟨by omega,by rw [hv]; congr 1; omega⟩ (by omega) rfl ?_ trivial
      simp -implicitDefEqProofs -proj only [go_sem,seval,AK,Ab (show i<9223372036854775807 by omega)]
   ·have hi':i=x.ts.length:=by omega
    subst hi'
    rw [Nat.sub_self] at hv
    simp -implicitDefEqProofs -proj only [go_sem,seval,decide_eq_false (show ¬(x.ts.length:Int)<x.ts.length by omega)]
    rw [hv]
    exact .nilsl _ _
 ·rw [if_neg hk]
  simp -implicitDefEqProofs -proj only [go_sem,seval,FX,hwl,decide_eq_false hk]
  refine EN (fun y:RsX=>y.i≤x.ts.length∧(AP (FI b2 x q y)).Nodup) 91 (fun y=>[(50,E9 x.ts),(51,i64 x.ts.length),(52,i64 y.i),(6,i64 ((x.ts.length:Int)-1)),(1,i64 q),(2,.ptr b2 0),(5,EU 0 3 y.c y.cap (EI (refN x.ts q y.i)))]) (FI b2 x q) (fun y=>x.ts.length-y.i) ⟨0,0,0⟩ ⟨Nat.zero_le _,n2⟩ rfl ?_ ?_ ?_
  ·simp -implicitDefEqProofs -proj only [go_sem,seval,AK,Eg,Em,El]
   rfl
  ·simp -implicitDefEqProofs -proj only [go_sem,seval]
   exact c2
  ·rintro ⟨i,c,cap⟩ ⟨hi,hn⟩
   simp -implicitDefEqProofs only [Eg] at hi
   have hall:=EZ hn
   obtain ⟨H,hH⟩:∃H,Ak (FI b2 x q ⟨i,c,cap⟩)=H:=⟨_,rfl⟩
   rw [hH] at hall
   simp -implicitDefEqProofs only [FI,Eg,Em,El] at hall hn
   obtain ⟨hrow,h2,_⟩:=EO.1 hall
   simp -implicitDefEqProofs -proj only [go_sem,seval,Eg,Em,El,hH]
   by_cases h:i<x.ts.length
   ·have hel:=Jc h
    have hN:=refN.eq_2 x.ts q i
    have hlen:=LQ (T:=x.ts) (q:=q) i
    have hlen1:=LQ (T:=x.ts) (q:=q) (i+1)
    have hu:=JX h
    have hr:=Lr h
    rw [←hu,←hr] at hel
    clear hu hr
    generalize hR:refN x.ts q i=R at *
    generalize hR1:refN x.ts q (i+1)=R1 at *
    have hhi:JB x.ts q i=if i+1<x.ts.length∧Gb x.ts i<q then Gb x.ts i else q:=rfl
    generalize JB x.ts q i=hi' at *
    generalize Gb x.ts i=u at *
    generalize IT x.ts i=r at *
    simp -implicitDefEqProofs -proj only [go_sem,seval,decide_eq_true (show (i:Int)<x.ts.length by omega)]
    refine EG _ (by omega) hel ?_
    simp -implicitDefEqProofs -proj only [go_sem,seval]
    refine AN (fun b10 hb10=>?_)
    replace hb10:H b10=none:=hb10
    obtain ⟨m1,m2⟩:=Ac hb10 h2
    by_cases h0:i=0
    ·have hlow:GP x.ts i=0:=if_pos h0
     rw [hlow] at hN
     simp -implicitDefEqProofs -proj only [go_sem,seval,m1,h2,decide_eq_false (show ¬0<(i:Int) by omega)]
     by_cases g1:i+1<x.ts.length
     ·by_cases g2:u<q
      ·rw [if_pos ⟨g1,g2⟩] at hhi
       rw [hhi] at hN
       simp -implicitDefEqProofs -proj only [go_sem,seval,m1,h2,decide_eq_true (show (i:Int)<(x.ts.length:Int)-1 by omega),decide_eq_true g2]
       by_cases hem:0<u
       ·rw [if_pos hem] at hN
        simp -implicitDefEqProofs -proj only [go_sem,seval,m1,h2,decide_eq_true hem]
        refine EJ (fun bs hs=>?_)
        replace hs:upd H b10 _ bs=none:=hs
        simp -implicitDefEqProofs -proj only [go_sem,seval]
        refine Fa (xs:=EI R) (y:=[.int .i64 0,.int .i64 u,.int .i64 r]) (t:=162) (capc:=1) [(b2,.box 93 [i64 x.me,i64 x.f,i64 x.t,i64 x.al,i64 x.bl,i64 x.ki,E9 x.ts,i64 x.mo,E4 x.ad])] rfl (Ar hs (Ar hb10 hall)) hn (by simp -implicitDefEqProofs -proj only [go_sem,seval]) (by rw [Gw]; omega) (by rw [Gw]; omega) (fun H' c' cap' ha hk=>?_)
        rw [show EI R++[[.int .i64 0,.int .i64 u,.int .i64 r]]=EI R1 by rw [hN]; simp [EI,TStep.el]] at ha hk
        have hne:EI R1≠[]:=by rw [hN]; simp [EI]
        have hl1:(EI R1).length=(EI R).length+1:=by rw [hN]; simp [EI]
        simp -implicitDefEqProofs -proj only [go_sem,seval]
        refine AX ⟨i+1,c',cap'⟩ ⟨by show i+1≤x.ts.length; omega,by simp -implicitDefEqProofs only [FI,Eg,Em,El,hR1]; exact hk⟩ (by show x.ts.length-(i+1)<x.ts.length-i; omega) rfl ?_ (by simp -implicitDefEqProofs only [FI,Eg,Em,El,hR1]; exact ha)
        simp -implicitDefEqProofs -proj only [go_sem,seval,AK,Eg,Em,El,Ab (show i<9223372036854775807 by omega),hR1,Eq hne,hl1]
       ·rw [if_neg hem] at hN
        simp -implicitDefEqProofs -proj only [go_sem,seval,m1,h2,decide_eq_false hem]
        refine AX ⟨i+1,c,cap⟩ ⟨by show i+1≤x.ts.length; omega,by simp -implicitDefEqProofs only [FI,Eg,Em,El,hR1,hN]; exact hn⟩ (by show x.ts.length-(i+1)<x.ts.length-i; omega) rfl ?_ (by simp -implicitDefEqProofs only [FI,Eg,Em,El,hR1,hN]; exact Ar hb10 hall)
        simp -implicitDefEqProofs -proj only [go_sem,seval,AK,Eg,Em,El,Ab (show i<9223372036854775807 by omega),hR1,hN]
      ·rw [if_neg (fun h=>g2 h.2)] at hhi
       rw [hhi] at hN
       simp -implicitDefEqProofs -proj only [go_sem,seval,m1,h2,decide_eq_true (show (i:Int)<(x.ts.length:Int)-1 by omega),decide_eq_false g2]
       by_cases hem:0<q
       ·rw [if_pos hem] at hN
        simp -implicitDefEqProofs -proj only [go_sem,seval,m1,h2,decide_eq_true hem]
        refine EJ (fun bs hs=>?_)
        replace hs:upd H b10 _ bs=none:=hs
        simp -implicitDefEqProofs -proj only [go_sem,seval]
        refine Fa (xs:=EI R) (y:=[.int .i64 0,.int .i64 q,.int .i64 r]) (t:=162) (capc:=1) [(b2,.box 93 [i64 x.me,i64 x.f,i64 x.t,i64 x.al,i64 x.bl,i64 x.ki,E9 x.ts,i64 x.mo,E4 x.ad])] rfl (Ar hs (Ar hb10 hall)) hn (by simp -implicitDefEqProofs -proj only [go_sem,seval]) (by rw [Gw]; omega) (by rw [Gw]; omega) (fun H' c' cap' ha hk=>?_)
        rw [show EI R++[[.int .i64 0,.int .i64 q,.int .i64 r]]=EI R1 by rw [hN]; simp [EI,TStep.el]] at ha hk
        have hne:EI R1≠[]:=by rw [hN]; simp [EI]
        have hl1:(EI R1).length=(EI R).length+1:=by rw [hN]; simp [EI]
        simp -implicitDefEqProofs -proj only [go_sem,seval]
        refine AX ⟨i+1,c',cap'⟩ ⟨by show i+1≤x.ts.length; omega,by simp -implicitDefEqProofs only [FI,Eg,Em,El,hR1]; exact hk⟩ (by show x.ts.length-(i+1)<x.ts.length-i; omega) rfl ?_ (by simp -implicitDefEqProofs only [FI,Eg,Em,El,hR1]; exact ha)
        simp -implicitDefEqProofs -proj only [go_sem,seval,AK,Eg,Em,El,Ab (show i<9223372036854775807 by omega),hR1,Eq hne,hl1]
       ·rw [if_neg hem] at hN
        simp -implicitDefEqProofs -proj only [go_sem,seval,m1,h2,decide_eq_false hem]
        refine AX ⟨i+1,c,cap⟩ ⟨by show i+1≤x.ts.length; omega,by simp -implicitDefEqProofs only [FI,Eg,Em,El,hR1,hN]; exact hn⟩ (by show x.ts.length-(i+1)<x.ts.length-i; omega) rfl ?_ (by simp -implicitDefEqProofs only [FI,Eg,Em,El,hR1,hN]; exact Ar hb10 hall)
        simp -implicitDefEqProofs -proj only [go_sem,seval,AK,Eg,Em,El,Ab (show i<9223372036854775807 by omega),hR1,hN]
     ·rw [if_neg (fun h=>g1 h.1)] at hhi
      rw [hhi] at hN
      simp -implicitDefEqProofs -proj only [go_sem,seval,m1,h2,decide_eq_false (show ¬(i:Int)<(x.ts.length:Int)-1 by omega)]
      by_cases hem:0<q
      ·rw [if_pos hem] at hN
       simp -implicitDefEqProofs -proj only [go_sem,seval,m1,h2,decide_eq_true hem]
       refine EJ (fun bs hs=>?_)
       replace hs:upd H b10 _ bs=none:=hs
       simp -implicitDefEqProofs -proj only [go_sem,seval]
       refine Fa (xs:=EI R) (y:=[.int .i64 0,.int .i64 q,.int .i64 r]) (t:=162) (capc:=1) [(b2,.box 93 [i64 x.me,i64 x.f,i64 x.t,i64 x.al,i64 x.bl,i64 x.ki,E9 x.ts,i64 x.mo,E4 x.ad])] rfl (Ar hs (Ar hb10 hall)) hn (by simp -implicitDefEqProofs -proj only [go_sem,seval]) (by rw [Gw]; omega) (by rw [Gw]; omega) (fun H' c' cap' ha hk=>?_)
       rw [show EI R++[[.int .i64 0,.int .i64 q,.int .i64 r]]=EI R1 by rw [hN]; simp [EI,TStep.el]] at ha hk
       have hne:EI R1≠[]:=by rw [hN]; simp [EI]
       have hl1:(EI R1).length=(EI R).length+1:=by rw [hN]; simp [EI]
       simp -implicitDefEqProofs -proj only [go_sem,seval]
       refine AX ⟨i+1,c',cap'⟩ ⟨by show i+1≤x.ts.length; omega,by simp -implicitDefEqProofs only [FI,Eg,Em,El,hR1]; exact hk⟩ (by show x.ts.length-(i+1)<x.ts.length-i; omega) rfl ?_ (by simp -implicitDefEqProofs only [FI,Eg,Em,El,hR1]; exact ha)
       simp -implicitDefEqProofs -proj only [go_sem,seval,AK,Eg,Em,El,Ab (show i<9223372036854775807 by omega),hR1,Eq hne,hl1]
      ·rw [if_neg hem] at hN
       simp -implicitDefEqProofs -proj only [go_sem,seval,m1,h2,decide_eq_false hem]
       refine AX ⟨i+1,c,cap⟩ ⟨by show i+1≤x.ts.length; omega,by simp -implicitDefEqProofs only [FI,Eg,Em,El,hR1,hN]; exact hn⟩ (by show x.ts.length-(i+1)<x.ts.length-i; omega) rfl ?_ (by simp -implicitDefEqProofs only [FI,Eg,Em,El,hR1,hN]; exact Ar hb10 hall)
       simp -implicitDefEqProofs -proj only [go_sem,seval,AK,Eg,Em,El,Ab (show i<9223372036854775807 by omega),hR1,hN]
    ·have hep:=Jc (l:=x.ts) (i:=i-1) (by omega)
     have wi:IntKind.i64.wrap ((i:Int)-1)=((i-1:Nat):Int):=by rw [IntKind.wrap_i64]; omega
     have hlow:GP x.ts i=Gb x.ts (i-1):=if_neg h0
     rw [←JX (show i-1<x.ts.length by omega)] at hep
     rw [hlow] at hN
     generalize Gb x.ts (i-1)=lo at *
     simp -implicitDefEqProofs -proj only [go_sem,seval,m1,h2,decide_eq_true (show 0<(i:Int) by omega),wi]
     (repeat' (with_reducible refine Aq ?_ (fun h=>?_); (focus first | decide | omega); clear h; try simp -implicitDefEqProofs -proj only [go_sem,seval,wi]))
     refine EG _ (by omega) hep ?_
     simp -implicitDefEqProofs -proj only [go_sem,seval,m1,h2]
     by_cases g1:i+1<x.ts.length
     ·by_cases g2:u<q
      ·rw [if_pos ⟨g1,g2⟩] at hhi
       rw [hhi] at hN
       simp -implicitDefEqProofs -proj only [go_sem,seval,m1,h2,decide_eq_true (show (i:Int)<(x.ts.length:Int)-1 by omega),decide_eq_true g2]
       by_cases hem:lo<u
       ·rw [if_pos hem] at hN
        simp -implicitDefEqProofs -proj only [go_sem,seval,m1,h2,decide_eq_true hem]
        refine EJ (fun bs hs=>?_)
        replace hs:upd H b10 _ bs=none:=hs
        simp -implicitDefEqProofs -proj only [go_sem,seval]
        refine Fa (xs:=EI R) (y:=[.int .i64 lo,.int .i64 u,.int .i64 r]) (t:=162) (capc:=1) [(b2,.box 93 [i64 x.me,i64 x.f,i64 x.t,i64 x.al,i64 x.bl,i64 x.ki,E9 x.ts,i64 x.mo,E4 x.ad])] rfl (Ar hs (Ar hb10 hall)) hn (by simp -implicitDefEqProofs -proj only [go_sem,seval]) (by rw [Gw]; omega) (by rw [Gw]; omega) (fun H' c' cap' ha hk=>?_)
        rw [show EI R++[[.int .i64 lo,.int .i64 u,.int .i64 r]]=EI R1 by rw [hN]; simp [EI,TStep.el]] at ha hk
        have hne:EI R1≠[]:=by rw [hN]; simp [EI]
        have hl1:(EI R1).length=(EI R).length+1:=by rw [hN]; simp [EI]
        simp -implicitDefEqProofs -proj only [go_sem,seval]
        refine AX ⟨i+1,c',cap'⟩ ⟨by show i+1≤x.ts.length; omega,by simp -implicitDefEqProofs only [FI,Eg,Em,El,hR1]; exact hk⟩ (by show x.ts.length-(i+1)<x.ts.length-i; omega) rfl ?_ (by simp -implicitDefEqProofs only [FI,Eg,Em,El,hR1]; exact ha)
        simp -implicitDefEqProofs -proj only [go_sem,seval,AK,Eg,Em,El,Ab (show i<9223372036854775807 by omega),hR1,Eq hne,hl1]
       ·rw [if_neg hem] at hN
        simp -implicitDefEqProofs -proj only [go_sem,seval,m1,h2,decide_eq_false hem]
        refine AX ⟨i+1,c,cap⟩ ⟨by show i+1≤x.ts.length; omega,by simp -implicitDefEqProofs only [FI,Eg,Em,El,hR1,hN]; exact hn⟩ (by show x.ts.length-(i+1)<x.ts.length-i; omega) rfl ?_ (by simp -implicitDefEqProofs only [FI,Eg,Em,El,hR1,hN]; exact Ar hb10 hall)
        simp -implicitDefEqProofs -proj only [go_sem,seval,AK,Eg,Em,El,Ab (show i<9223372036854775807 by omega),hR1,hN]
      ·rw [if_neg (fun h=>g2 h.2)] at hhi
       rw [hhi] at hN
       simp -implicitDefEqProofs -proj only [go_sem,seval,m1,h2,decide_eq_true (show (i:Int)<(x.ts.length:Int)-1 by omega),decide_eq_false g2]
       by_cases hem:lo<q
       ·rw [if_pos hem] at hN
        simp -implicitDefEqProofs -proj only [go_sem,seval,m1,h2,decide_eq_true hem]
        refine EJ (fun bs hs=>?_)
        replace hs:upd H b10 _ bs=none:=hs
        simp -implicitDefEqProofs -proj only [go_sem,seval]
        refine Fa (xs:=EI R) (y:=[.int .i64 lo,.int .i64 q,.int .i64 r]) (t:=162) (capc:=1) [(b2,.box 93 [i64 x.me,i64 x.f,i64 x.t,i64 x.al,i64 x.bl,i64 x.ki,E9 x.ts,i64 x.mo,E4 x.ad])] rfl (Ar hs (Ar hb10 hall)) hn (by simp -implicitDefEqProofs -proj only [go_sem,seval]) (by rw [Gw]; omega) (by rw [Gw]; omega) (fun H' c' cap' ha hk=>?_)
        rw [show EI R++[[.int .i64 lo,.int .i64 q,.int .i64 r]]=EI R1 by rw [hN]; simp [EI,TStep.el]] at ha hk
        have hne:EI R1≠[]:=by rw [hN]; simp [EI]
        have hl1:(EI R1).length=(EI R).length+1:=by rw [hN]; simp [EI]
        simp -implicitDefEqProofs -proj only [go_sem,seval]
        refine AX ⟨i+1,c',cap'⟩ ⟨by show i+1≤x.ts.length; omega,by simp -implicitDefEqProofs only [FI,Eg,Em,El,hR1]; exact hk⟩ (by show x.ts.length-(i+1)<x.ts.length-i; omega) rfl ?_ (by simp -implicitDefEqProofs only [FI,Eg,Em,El,hR1]; exact ha)
        simp -implicitDefEqProofs -proj only [go_sem,seval,AK,Eg,Em,El,Ab (show i<9223372036854775807 by omega),hR1,Eq hne,hl1]
       ·rw [if_neg hem] at hN
        simp -implicitDefEqProofs -proj only [go_sem,seval,m1,h2,decide_eq_false hem]
        refine AX ⟨i+1,c,cap⟩ ⟨by show i+1≤x.ts.length; omega,by simp -implicitDefEqProofs only [FI,Eg,Em,El,hR1,hN]; exact hn⟩ (by show x.ts.length-(i+1)<x.ts.length-i; omega) rfl ?_ (by simp -implicitDefEqProofs only [FI,Eg,Em,El,hR1,hN]; exact Ar hb10 hall)
        simp -implicitDefEqProofs -proj only [go_sem,seval,AK,Eg,Em,El,Ab (show i<9223372036854775807 by omega),hR1,hN]
     ·rw [if_neg (fun h=>g1 h.1)] at hhi
      rw [hhi] at hN
      simp -implicitDefEqProofs -proj only [go_sem,seval,m1,h2,decide_eq_false (show ¬(i:Int)<(x.ts.length:Int)-1 by omega)]
      by_cases hem:lo<q
      ·rw [if_pos hem] at hN
       simp -implicitDefEqProofs -proj only [go_sem,seval,m1,h2,decide_eq_true hem]
       refine EJ (fun bs hs=>?_)
       replace hs:upd H b10 _ bs=none:=hs
       simp -implicitDefEqProofs -proj only [go_sem,seval]
       refine Fa (xs:=EI R) (y:=[.int .i64 lo,.int .i64 q,.int .i64 r]) (t:=162) (capc:=1) [(b2,.box 93 [i64 x.me,i64 x.f,i64 x.t,i64 x.al,i64 x.bl,i64 x.ki,E9 x.ts,i64 x.mo,E4 x.ad])] rfl (Ar hs (Ar hb10 hall)) hn (by simp -implicitDefEqProofs -proj only [go_sem,seval]) (by rw [Gw]; omega) (by rw [Gw]; omega) (fun H' c' cap' ha hk=>?_)
       rw [show EI R++[[.int .i64 lo,.int .i64 q,.int .i64 r]]=EI R1 by rw [hN]; simp [EI,TStep.el]] at ha hk
       have hne:EI R1≠[]:=by rw [hN]; simp [EI]
       have hl1:(EI R1).length=(EI R).length+1:=by rw [hN]; simp [EI]
       simp -implicitDefEqProofs -proj only [go_sem,seval]
       refine AX ⟨i+1,c',cap'⟩ ⟨by show i+1≤x.ts.length; omega,by simp -implicitDefEqProofs only [FI,Eg,Em,El,hR1]; exact hk⟩ (by show x.ts.length-(i+1)<x.ts.length-i; omega) rfl ?_ (by simp -implicitDefEqProofs only [FI,Eg,Em,El,hR1]; exact ha)
       simp -implicitDefEqProofs -proj only [go_sem,seval,AK,Eg,Em,El,Ab (show i<9223372036854775807 by omega),hR1,Eq hne,hl1]
      ·rw [if_neg hem] at hN
       simp -implicitDefEqProofs -proj only [go_sem,seval,m1,h2,decide_eq_false hem]
       refine AX ⟨i+1,c,cap⟩ ⟨by show i+1≤x.ts.length; omega,by simp -implicitDefEqProofs only [FI,Eg,Em,El,hR1,hN]; exact hn⟩ (by show x.ts.length-(i+1)<x.ts.length-i; omega) rfl ?_ (by simp -implicitDefEqProofs only [FI,Eg,Em,El,hR1,hN]; exact Ar hb10 hall)
       simp -implicitDefEqProofs -proj only [go_sem,seval,AK,Eg,Em,El,Ab (show i<9223372036854775807 by omega),hR1,hN]
   ·have hi':i=x.ts.length:=by omega
    subst hi'
    simp -implicitDefEqProofs -proj only [go_sem,seval,decide_eq_false (show ¬(x.ts.length:Int)<x.ts.length by omega)]
    exact Jg hrow MY
def Ju (a:Adj) (x:Int):Option Int :=
 if a.k=1 then Il (x*a.n) 100000 a.m
 else if a.k=2 then some (min x a.n)
 else if a.k=3 then some (max x a.n)
 else if a.k=4 then JH (x+a.n)
 else none
def IV:Int→List Adj→Option Int
 | x,[]=>some x
 | x,a::l=>match Ju a x with
  | some y=>IV y l
  | none=>none
theorem MX {n y:Int} (h:JH n=some y):Fit y∧y=n:=by
 unfold JH at h; split at h
 ·next hf=>cases h; exact ⟨hf,rfl⟩
 ·cases h
theorem QQ {p c m y:Int} (h:Il p c m=some y):Fit y∧y=FD p c m∧0<c∧0≤m∧m≤3:=by
 unfold Il at h; split at h
 ·next hh=>exact ⟨(MX h).1,(MX h).2,hh⟩
 ·cases h
theorem AGn {a:Adj} {x y:Int} (ha:a.Fit) (hx:Fit x) (h:Ju a x=some y):Fit y:=by
 unfold Ju at h
 obtain ⟨_,hn,_⟩:=ha
 split at h
 ·exact (QQ h).1
 split at h
 ·cases h; unfold Fit at *; omega
 split at h
 ·cases h; unfold Fit at *; omega
 split at h
 ·exact (MX h).1
 ·cases h
theorem LI {n:Int} (h:n.natAbs≤85070591730234615865843651857942052864):Ej n.natAbs:=⟨by omega,by omega⟩
theorem Rn {s:TStep} {a:Int} (h1:Fit (s.r*(s.t-s.f))) (h2:Fit (a+s.r*(s.t-s.f))):KV s a=some (a+s.r*(s.t-s.f)):=if_pos ⟨h1,h2⟩
theorem PT {s:TStep} {a:Int} (h:¬(Fit (s.r*(s.t-s.f))∧Fit (a+s.r*(s.t-s.f)))):KV s a=none:=if_neg h
theorem XS {x:PartX} {n:Int} (S:Srt x.ts):(if x.ki=2 then K9 x.ts n else Nf x.ts n)=II x n:=by
 unfold II
 split
 ·rfl
 ·exact (NJ S).symm
theorem PC {T:List Tier} {q:Int}:∀i,(HM T q i).length≤1
 | 0=>by simp [HM]
 | i+1=>by
  have:=PC (T:=T) (q:=q) i
  rw [HM]
  repeat' split
  all_goals first | omega | simp
theorem AG7 {x:PartX} {n:Int} (S:Srt x.ts) (h:1≤x.ts.length):(II x n).length≤x.ts.length:=by
 unfold II
 split
 ·have:=PC (T:=x.ts) (q:=n) x.ts.length
  exact Nat.le_trans this h
 ·rw [NJ S]
  exact LQ x.ts.length
theorem AFk {x:PartX} {q:Int} (hx:x.Fit) (hq:Fit q) (G:GoodX x) (S:Srt x.ts):DataW Try.prog AKf [IK x,i64 q] (Ep (J3 x q)):=by
 have hleft:=X2 hx hq G.al.1 G.bl.1
 have htn:=G.tn
 unfold J3
 rw [show FD (max (q-x.al) 0) x.bl 1*x.bl=Ie x q from rfl]
 refine Am AI6 (by simp) ?_
 simp -implicitDefEqProofs -proj only [go_sem,seval]
 refine AN (fun b2 hb2=>?_)
 simp -implicitDefEqProofs -proj only [go_sem,seval]
 refine AH hleft ?_
 by_cases h0:q<0
 ·rw [if_pos h0,if_pos h0,Ep]
  simp -implicitDefEqProofs -proj only [go_sem,seval]
  exact AJ rfl
 rw [if_neg h0,if_neg h0]
 by_cases hf:Fit (Ie x q)
 rotate_left
 ·rw [Jt hf,if_neg hf,Ep]
  simp -implicitDefEqProofs -proj only [go_sem,seval]
  exact AJ rfl
 rw [Iz hf,if_pos hf]
 have hst:=(Uq (x:=x) (q:=Ie x q) (by omega) htn.1).data
 rw [XS S] at hst
 have hln:=AG7 (n:=Ie x q) S htn.1
 have hsf:=AJN (n:=Ie x q) S hf
 generalize II x (Ie x q)=L at *
 simp -implicitDefEqProofs -proj only [go_sem,seval]
 refine AH hst ?_
 simp -implicitDefEqProofs -proj only [go_sem,seval,Gw]
 refine EN (fun p:Nat×Int=>p.1≤L.length∧Fit p.2∧Iq (L.drop p.1) p.2=Iq L 0) 61 (fun p=>[(8,i64 p.2),(25,PP L),(26,i64 L.length),(27,i64 p.1)]) (fun _=>[]) (fun p=>L.length-p.1) (0,0) ⟨Nat.zero_le _,by decide,rfl⟩ rfl ?_ ?_ ?_
 ·simp -implicitDefEqProofs -proj only [go_sem,seval,AK]
 ·trivial
 ·rintro ⟨i,a⟩ ⟨hi,ha,hs⟩
  rw [Ae] at hi; rw [Ao] at ha; rw [Ae,Ao] at hs
  by_cases h:i<L.length
  ·have hel:=AEU h
   obtain ⟨f1,f2,f3,f4⟩:=hsf _ (List.getElem_mem h)
   rw [List.drop_eq_getElem_cons h,Iq] at hs
   generalize L[i]=s at *
   have w1:IntKind.i64.wrap (s.t-s.f)=s.t-s.f:=by unfold Fit at f4; rw [IntKind.wrap_i64]; omega
   have hmul:=I9 f3 f4
   have hps:=KE f3 f4
   have hint:=Ks (n:=s.r*(s.t-s.f)) (LI hps)
   have hofa:=Gy ha
   simp -implicitDefEqProofs -proj only [go_sem,seval,decide_eq_true (show (i:Int)<L.length by omega)]
   refine EG _ (by omega) hel ?_
   simp -implicitDefEqProofs -proj only [go_sem,seval]
   refine AN (fun b10 hb10=>?_)
   simp -implicitDefEqProofs -proj only [go_sem,seval,w1]
   refine AH hmul ?_
   simp -implicitDefEqProofs -proj only [go_sem,seval]
   refine AH hint ?_
   by_cases c1:Fit (s.r*(s.t-s.f))
   ·have hofp:=Gy c1
    have hadd:=JV (a:=a) (b:=s.r*(s.t-s.f)) (by unfold Fit at ha; omega) (by omega)
    have hint2:=Ks (n:=a+s.r*(s.t-s.f)) (LI (by unfold Fit at ha c1; omega))
    rw [Iz c1]
    simp -implicitDefEqProofs -proj only [go_sem,seval]
    refine AH hofa ?_
    simp -implicitDefEqProofs -proj only [go_sem,seval]
    refine AH hofp ?_
    simp -implicitDefEqProofs -proj only [go_sem,seval]
    refine AH hadd ?_
    simp -implicitDefEqProofs -proj only [go_sem,seval]
    refine AH hint2 ?_
    by_cases c2:Fit (a+s.r*(s.t-s.f))
    ·rw [Rn c1 c2] at hs
     simp -implicitDefEqProofs only [] at hs
     rw [Iz c2]
     simp -implicitDefEqProofs -proj only [go_sem,seval]
     refine AX (i+1,a+s.r*(s.t-s.f)) ⟨by rw [Ae]; omega,c2,hs⟩ (by rw [Ae,Ae]; omega) rfl ?_ trivial
     simp -implicitDefEqProofs -proj only [go_sem,seval,AK,Ab (show i<9223372036854775807 by omega)]
    ·rw [PT (fun k=>c2 k.2)] at hs
     simp -implicitDefEqProofs only [] at hs
     rw [Jt c2,←hs,Ep]
     simp -implicitDefEqProofs -proj only [go_sem,seval]
     exact AJ rfl
   ·have hofp:=Gy (a:=0) (by decide)
    have hadd:=JV (a:=a) (b:=0) (by unfold Fit at ha; omega) (by decide)
    rw [Int.add_zero] at hadd
    have hint2:=Ks (n:=a) (LI (by unfold Fit at ha; omega))
    rw [Iz ha] at hint2
    rw [PT (fun k=>c1 k.1)] at hs
    simp -implicitDefEqProofs only [] at hs
    rw [Jt c1,←hs,Ep]
    simp -implicitDefEqProofs -proj only [go_sem,seval]
    refine AH hofa ?_
    simp -implicitDefEqProofs -proj only [go_sem,seval]
    refine AH hofp ?_
    simp -implicitDefEqProofs -proj only [go_sem,seval]
    refine AH hadd ?_
    simp -implicitDefEqProofs -proj only [go_sem,seval]
    refine AH hint2 ?_
    simp -implicitDefEqProofs -proj only [go_sem,seval]
    exact AJ rfl
  ·have hi':i=L.length:=by omega
   subst hi'
   rw [List.drop_length] at hs
   simp -implicitDefEqProofs -proj only [go_sem,seval,decide_eq_false (show ¬(L.length:Int)<L.length by omega)]
   rw [←hs,Iq,Ep]
   exact AJ rfl
theorem Uu {x:PartX} {q:Int} (hx:x.Fit) (hq:Fit q) (G:GoodX x) (S:Srt x.ts):DataW Try.prog Zr [IK x,i64 q] (Ep (Jw x q)):=by
 have hm:=AFk hx hq G S
 have hf:=fun n=>@Sk x q n
 unfold Jw
 refine Am Zu (by simp) ?_
 simp -implicitDefEqProofs -proj only [go_sem,seval]
 refine AN (fun b2 hb2=>?_)
 simp -implicitDefEqProofs -proj only [go_sem,seval]
 refine AH hm ?_
 cases e:J3 x q with
 | none =>
  simp -implicitDefEqProofs -proj only [go_sem,seval,Ep]
  exact AJ rfl
 | some n =>
  have hd:=Mg (a:=n) (b:=1) (c:=1000000) (m:=x.mo) (hf n e) (by decide) (by decide)
  rw [Int.mul_one,OQ] at hd
  simp -implicitDefEqProofs only []
  simp -implicitDefEqProofs -proj only [go_sem,seval,Ep]
  refine AH hd ?_
  cases Il n 1000000 x.mo with
  | none=>simp -implicitDefEqProofs -proj only [go_sem,seval,Ep]; exact AJ rfl
  | some m=>simp -implicitDefEqProofs -proj only [go_sem,seval,Ep]; exact AJ rfl
theorem AGS {a:Adj} {x:Int} (ha:a.Fit) (hx:Fit x):DataW Try.prog TO [.agg [i64 a.k,i64 a.n,i64 a.m],i64 x] (Ep (Ju a x)):=by
 obtain ⟨k,n,m⟩:=a
 obtain ⟨hk,hn,hm⟩:=ha
 simp -implicitDefEqProofs only [] at hk hn hm
 have h1:=Mg (a:=x) (b:=n) (c:=100000) (m:=m) hx hn (by decide)
 rw [OQ] at h1
 have hofx:=Gy hx
 have hofn:=Gy hn
 have hadd:=JV (a:=x) (b:=n) (by unfold Fit at hx; omega) (by unfold Fit at hn; omega)
 have hint:=Ks (n:=x+n) (LI (by unfold Fit at hx hn; omega))
 rw [RF] at hint
 unfold Ju
 simp -implicitDefEqProofs only []
 refine Am AKM (by simp) ?_
 simp -implicitDefEqProofs -proj only [go_sem,seval]
 refine AN (fun b2 hb2=>?_)
 by_cases c1:k=1
 ·rw [if_pos c1]
  simp -implicitDefEqProofs -proj only [go_sem,seval,decide_eq_true c1]
  refine AH h1 ?_
  cases Il (x*n) 100000 m with
  | none=>simp -implicitDefEqProofs -proj only [go_sem,seval,Ep]; exact AJ rfl
  | some m=>simp -implicitDefEqProofs -proj only [go_sem,seval,Ep]; exact AJ rfl
 rw [if_neg c1]
 by_cases c2:k=2
 ·rw [if_pos c2,Ep]
  by_cases d:n<x
  ·rw [show min x n=n by omega]
   simp -implicitDefEqProofs -proj only [go_sem,seval,decide_eq_false c1,decide_eq_true c2,decide_eq_true d]
   exact AJ rfl
  ·rw [show min x n=x by omega]
   simp -implicitDefEqProofs -proj only [go_sem,seval,decide_eq_false c1,decide_eq_true c2,decide_eq_false d,show (false == true)=false from rfl]
   exact AJ rfl
 rw [if_neg c2]
 by_cases c3:k=3
 ·rw [if_pos c3,Ep]
  by_cases d:n<x
  ·rw [show max x n=x by omega]
   simp -implicitDefEqProofs -proj only [go_sem,seval,decide_eq_false c1,decide_eq_false c2,decide_eq_true c3,decide_eq_true d,show (true == false)=false from rfl]
   exact AJ rfl
  ·rw [show max x n=n by omega]
   simp -implicitDefEqProofs -proj only [go_sem,seval,decide_eq_false c1,decide_eq_false c2,decide_eq_true c3,decide_eq_false d]
   exact AJ rfl
 rw [if_neg c3]
 by_cases c4:k=4
 ·rw [if_pos c4]
  simp -implicitDefEqProofs -proj only [go_sem,seval,decide_eq_false c1,decide_eq_false c2,decide_eq_false c3,decide_eq_true c4]
  refine Ew hofx ?_
  simp -implicitDefEqProofs -proj only [go_sem,seval]
  refine AH hofn ?_
  simp -implicitDefEqProofs -proj only [go_sem,seval]
  refine AH hadd ?_
  simp -implicitDefEqProofs -proj only [go_sem,seval]
  refine AH hint ?_
  cases JH (x+n) with
  | none=>simp -implicitDefEqProofs -proj only [go_sem,seval,Ep]; exact AJ rfl
  | some m=>simp -implicitDefEqProofs -proj only [go_sem,seval,Ep]; exact AJ rfl
 rw [if_neg c4,Ep]
 simp -implicitDefEqProofs -proj only [go_sem,seval,decide_eq_false c1,decide_eq_false c2,decide_eq_false c3,decide_eq_false c4]
 exact AJ rfl
theorem Sd {l:List Adj} {x:Int} (hl:∀a∈l,Adj.Fit a) (hx:Fit x) (hn:l.length≤4611686018427387904):DataW Try.prog AEP [i64 x,E4 l] (Ep (IV x l)):=by
 refine Am Ta (by simp) ?_
 simp -implicitDefEqProofs -proj only [go_sem,seval,HW]
 refine EN (fun p:Nat×Int=>p.1≤l.length∧Fit p.2∧IV p.2 (l.drop p.1)=IV x l) 27 (fun p=>[(0,i64 p.2),(10,E4 l),(11,i64 l.length),(12,i64 p.1)]) (fun _=>[]) (fun p=>l.length-p.1) (0,x) ⟨Nat.zero_le _,hx,rfl⟩ rfl ?_ ?_ ?_
 ·simp -implicitDefEqProofs -proj only [go_sem,seval,AK]
 ·trivial
 ·rintro ⟨i,a⟩ ⟨hi,ha,hs⟩
  rw [Ae] at hi; rw [Ao] at ha; rw [Ae,Ao] at hs
  by_cases h:i<l.length
  ·have hel:=Ns h
   have hfit:=hl _ (List.getElem_mem h)
   rw [List.drop_eq_getElem_cons h,IV] at hs
   generalize l[i]=s at *
   have hone:=AGS hfit ha
   simp -implicitDefEqProofs -proj only [go_sem,seval,decide_eq_true (show (i:Int)<l.length by omega)]
   refine EG _ (by omega) hel ?_
   simp -implicitDefEqProofs -proj only [go_sem,seval]
   refine AN (fun b7 hb7=>?_)
   simp -implicitDefEqProofs -proj only [go_sem,seval]
   refine AH hone ?_
   cases e:Ju s a with
   | none =>
    rw [e] at hs
    simp -implicitDefEqProofs only [] at hs
    rw [←hs,Ep]
    simp -implicitDefEqProofs -proj only [go_sem,seval,Ep]
    exact AJ rfl
   | some y =>
    rw [e] at hs
    simp -implicitDefEqProofs only [] at hs
    simp -implicitDefEqProofs -proj only [go_sem,seval,Ep]
    refine AX (i+1,y) ⟨by rw [Ae]; omega,AGn hfit ha e,hs⟩ (by rw [Ae,Ae]; omega) rfl ?_ trivial
    simp -implicitDefEqProofs -proj only [go_sem,seval,AK,Ab (show i<9223372036854775807 by omega)]
  ·have hi':i=l.length:=by omega
   subst hi'
   rw [List.drop_length] at hs
   simp -implicitDefEqProofs -proj only [go_sem,seval,decide_eq_false (show ¬(l.length:Int)<l.length by omega)]
   rw [←hs,IV,Ep]
   exact AJ rfl
def Ja (x:PartX) (q:Int):Option Int:=match Jw x q with
 | some n=>IV n x.ad
 | none=>none
theorem U3 {x:PartX} {q n:Int} (h:Jw x q=some n):Fit n:=by
 unfold Jw at h
 split at h
 ·exact (QQ h).1
 ·cases h
theorem NF {x:PartX} {q:Int} (hx:x.Fit) (hq:Fit q) (G:GoodX x) (S:Srt x.ts):DataW Try.prog TG [IK x,i64 q] (Ep (Ja x q)):=by
 have hc:=Uu hx hq G S
 unfold Ja
 refine Am Sw (by simp) ?_
 simp -implicitDefEqProofs -proj only [go_sem,seval]
 refine AN (fun b2 hb2=>?_)
 simp -implicitDefEqProofs -proj only [go_sem,seval]
 refine AH hc ?_
 cases e:Jw x q with
 | none =>
  simp -implicitDefEqProofs -proj only [go_sem,seval,Ep]
  exact AJ rfl
 | some n =>
  have ha:=Sd (l:=x.ad) (x:=n) hx.ad (U3 e) (by have:=G.an; omega)
  simp -implicitDefEqProofs only []
  simp -implicitDefEqProofs -proj only [go_sem,seval,Ep]
  refine AH ha ?_
  cases IV n x.ad with
  | none=>simp -implicitDefEqProofs -proj only [go_sem,seval,Ep]; exact AJ rfl
  | some m=>simp -implicitDefEqProofs -proj only [go_sem,seval,Ep]; exact AJ rfl
def HB {α:Type} (p : α→Bool) (l:List α):Int:=match l.findIdx? p with
 | some i=>i
 | none=>-1
theorem AAV {α:Type} {p : α→Bool} {l:List α} {i:Nat} (h:i<l.length) (hp:p l[i]=true) (hs:∀(j:Nat) (h:j<l.length),j<i→p l[j]=false):HB p l=i:=by
 unfold HB
 rw [List.findIdx?_eq_some_iff_getElem.2 ⟨h,hp,fun j hj=>by rw [hs j (by omega) hj]; simp⟩]
theorem U8 {α:Type} {p : α→Bool} {l:List α} (hs:∀(j:Nat) (h:j<l.length),p l[j]=false):HB p l = -1:=by
 unfold HB
 rw [List.findIdx?_eq_none_iff.2 fun x hx=>by obtain ⟨j,hj,rfl⟩:=List.getElem_of_mem hx; exact hs j hj]
theorem AKV {α:Type} {p : α→Bool} {l:List α}:decide (0≤HB p l)=l.any p:=by
 unfold HB
 cases h:l.findIdx? p with
 | some i =>
  obtain ⟨h1,h2,_⟩:=List.findIdx?_eq_some_iff_getElem.1 h
  rw [List.any_eq_true.2 ⟨_,List.getElem_mem h1,h2⟩]
  exact decide_eq_true (show (0:Int)≤(i:Int) by omega)
 | none =>
  have:=List.findIdx?_eq_none_iff.1 h
  rw [List.any_eq_false.2 (fun x hx=>by rw [this x hx]; simp)]
  exact decide_eq_false (show ¬(0:Int)≤-1 by omega)
abbrev Ea (c:CoreX):Blk:=.box 26 [.d (.str c.cur),i64 c.f,i64 c.t,.d (.sl 5 (AS c.ms)),.d (.sl 3 (Fc c.ss)),.d (.sl 9 (FQ c.ps))]
theorem Q7 {f t:Int} {n:Nat} {x:PartX} (h:G2 f t n x):GoodX x:=by
 obtain ⟨⟨g1,g2,g3,g4,g5,g6,g7,g8,g9,g10⟩,h2,h3⟩:=h
 exact ⟨g4,g5,g6,g7,⟨g8,g9⟩,g10,h2,h3⟩
def Fg (d f t:Int):Prop:=f≤d∧d≤t
instance (d f t:Int):Decidable (Fg d f t):=by unfold Fg; exact inferInstance
def AA5 (c:CoreX) (b:List Int):Prop:=b.length=c.ms.length∧∀(i:Nat) (h:i<b.length) (h2:i<c.ms.length),0≤b[i]∧b[i]≤(c.ms[i]).mx
noncomputable instance (c:CoreX) (b:List Int):Decidable (AA5 c b):=Classical.propDecidable _
def sg (g:Nat→Int):Nat→Int
 | 0=>0
 | n+1=>sg g n+g n
theorem Lm {g h:Nat→Int}:∀{n:Nat},(∀i,i<n→g i=h i)→sg g n=sg h n
 | 0,_=>rfl
 | n+1,k=>by rw [sg,sg,Lm (fun i hi=>k i (by omega)),k n (by omega)]
theorem KO {g h:Nat→Int}:∀{n:Nat},(∀i,i<n→g i≤h i)→sg g n≤sg h n
 | 0,_=>Int.le_refl _
 | n+1,k=>by
  have:=KO (n:=n) (fun i hi=>k i (by omega))
  have:=k n (by omega)
  rw [sg,sg]; omega
theorem Ov {g:Nat→Int}:∀n:Nat,sg (fun i=>- g i) n = - sg g n
 | 0=>rfl
 | n+1=>by rw [sg,sg,Ov n]; omega
theorem Jy {g:Nat→Int}:∀{n:Nat},(∀i,i<n→0≤g i)→0≤sg g n
 | 0,_=>Int.le_refl _
 | n+1,k=>by
  have:=Jy (n:=n) (fun i hi=>k i (by omega))
  have:=k n (by omega)
  rw [sg]; omega
theorem WW {g h:Nat→Int} {n:Nat} (k:∀i,i<n→-h i≤g i∧g i≤h i) : -sg h n≤sg g n∧sg g n≤sg h n:=by
 refine ⟨?_,KO fun i hi=>(k i hi).2⟩
 rw [←Ov]
 exact KO fun i hi=>(k i hi).1
def pv (x:PartX) (q:Int):Int:=(Ja x q).getD 0
def Gh (ss:List SumX) (d:Int) (j:Nat):Int:=match ss[j]? with
 | some s=>if Fg d s.f s.t then s.a else 0
 | none=>0
def E7 (ps:List PartX) (d:Int) (m j:Nat):Int:=match ps[j]? with
 | some x=>if x.me=m∧Fg d x.f x.t then pv x 0 else 0
 | none=>0
def F5 (ps:List PartX) (d:Int) (m:Nat) (q:Int) (j:Nat):Int:=match ps[j]? with
 | some x=>if x.me=m∧Fg d x.f x.t then pv x q-pv x 0 else 0
 | none=>0
def Fd (c:CoreX) (d:Int):Int:=sg (Gh c.ss d) c.ss.length
def FG (c:CoreX) (d:Int) (m:Nat):Int:=sg (E7 c.ps d m) c.ps.length
def N0 (c:CoreX) (d:Int):Int:=Fd c d+sg (FG c d) c.ms.length
def Kw (c:CoreX) (d:Int) (m:Nat) (q:Int):Int:=sg (F5 c.ps d m q) c.ps.length
def G3 (c:CoreX) (d:Int) (m:Nat) (mx:Int):List Int:=(List.range (mx+1).toNat).map fun (q:Nat)=>Kw c d m q
def FF (c:CoreX) (d:Int) (k:Nat):List (List Int):=(List.range k).map fun m=>G3 c d m (match c.ms[m]? with | some x=>x.mx | none=>0)
abbrev EM:Type:=Int×List (List Int)
def FY (c:CoreX) (d:Int):EM:=(N0 c d,FF c d c.ms.length)
def GS (x:PartX):Nat→Int
 | 0=>0
 | n+1=>max (GS x n) (pv x n)
theorem N8 {x:PartX}:∀n,0≤GS x n
 | 0=>Int.le_refl _
 | n+1=>by have:=N8 (x:=x) n; rw [GS]; omega
theorem O4 {x:PartX}:∀{n k:Nat},k<n→pv x k≤GS x n
 | 0,k,h=>by omega
 | n+1,k,h=>by
  rw [GS]
  by_cases e:k=n
  ·subst e; omega
  ·have:=O4 (x:=x) (show k<n by omega); omega
def Fp (ms:List MeterX) (m:Int):Int:=match ms[m.toNat]? with
 | some x=>x.mx
 | none=>0
def HH (c:CoreX) (j:Nat):Int:=match c.ps[j]? with
 | some x=>GS x (Fp c.ms x.me+1).toNat
 | none=>0
theorem Lx {c:CoreX} (j:Nat):0≤HH c j:=by
 unfold HH; split
 ·exact N8 _
 ·exact Int.le_refl _
def F3 (ss:List SumX) (j:Nat):Int:=match ss[j]? with
 | some s=>s.a
 | none=>0
def Fk (c:CoreX) (i:Nat):Int:=sg (F3 c.ss) c.ss.length+sg (HH c) i
def IU (x:PartX) (q:Int):Prop:=∃n,Ja x q=some n∧0≤n∧n≤1152921504606846976
structure fitsC (c:CoreX):Prop where
 great:¬It c
 good:goodC c
 parts:∀x∈c.ps,∀q:Nat,q<(Fp c.ms x.me+1).toNat→IU x q
 tot:∀i,i≤c.ps.length→Fk c i≤1152921504606846976
noncomputable instance (c:CoreX):Decidable (fitsC c):=Classical.propDecidable _
theorem AD4 {x:PartX} {q:Int} (h:IU x q):Ja x q=some (pv x q)∧0≤pv x q∧pv x q≤1152921504606846976:=by
 obtain ⟨n,h1,h2,h3⟩:=h
 unfold pv
 rw [h1]
 exact ⟨rfl,h2,h3⟩
structure BndC (c:CoreX):Prop where
 mx:∀(m:Nat) (h:m<c.ms.length),0≤c.ms[m].mx∧c.ms[m].mx≤2000
 me:∀x∈c.ps,0≤x.me∧x.me<(c.ms.length:Int)
 amt:∀s∈c.ss,0≤s.a∧s.a≤1000000000000
theorem fitsC.bnd {c:CoreX} (h:goodC c):BndC c :=
 ⟨fun m hm=>(h.ms m hm).1,fun x hx=>⟨(h.ps x hx).1.1,(h.ps x hx).1.2.1⟩,fun s hs=>(h.ss s hs).1⟩
theorem Qz {ms:List MeterX} {m:Nat} (h:m<ms.length):Fp ms m=ms[m].mx:=by
 unfold Fp; rw [Int.toNat_natCast,List.getElem?_eq_getElem h]
theorem OX {c:CoreX} (h:goodC c) (j:Nat):0≤F3 c.ss j:=by
 unfold F3
 cases e:c.ss[j]? with
 | none=>exact Int.le_refl _
 | some s=>exact ((fitsC.bnd h).amt s (List.mem_of_getElem? e)).1
theorem Qj {c:CoreX} (h:goodC c) (d:Int) (j:Nat):0≤Gh c.ss d j∧Gh c.ss d j≤F3 c.ss j:=by
 have hp:=OX h j
 unfold F3 at *
 unfold Gh
 cases e:c.ss[j]? with
 | none=>exact ⟨Int.le_refl _,Int.le_refl _⟩
 | some s =>
  rw [e] at hp
  simp -implicitDefEqProofs only [] at hp ⊢
  split <;> omega
theorem L2 {c:CoreX} (h:fitsC c) {x:PartX} (hx:x∈c.ps) {q:Int} (h0:0≤q) (hq:q≤Fp c.ms x.me):Ja x q=some (pv x q)∧0≤pv x q∧pv x q≤GS x (Fp c.ms x.me+1).toNat∧pv x q≤1152921504606846976:=by
 have hk:=h.parts x hx q.toNat (by omega)
 rw [Int.toNat_of_nonneg h0] at hk
 obtain ⟨h1,h2,h3⟩:=AD4 hk
 have hb:=O4 (x:=x) (show q.toNat<(Fp c.ms x.me+1).toNat by omega)
 rw [Int.toNat_of_nonneg h0] at hb
 exact ⟨h1,h2,hb,h3⟩
theorem O5 {c:CoreX} (h:goodC c) {x:PartX} (hx:x∈c.ps):0≤Fp c.ms x.me:=by
 obtain ⟨h1,h2⟩:=(fitsC.bnd h).me x hx
 have:=(fitsC.bnd h).mx x.me.toNat (by omega)
 unfold Fp
 rw [List.getElem?_eq_getElem (show x.me.toNat<c.ms.length by omega)]
 exact this.1
theorem Pj {c:CoreX} (h:fitsC c) (d:Int) (m j:Nat):0≤E7 c.ps d m j∧E7 c.ps d m j≤HH c j:=by
 have hp:=Lx (c:=c) j
 unfold HH at *
 unfold E7
 cases e:c.ps[j]? with
 | none=>exact ⟨Int.le_refl _,Int.le_refl _⟩
 | some x =>
  have hx:=List.mem_of_getElem? e
  rw [e] at hp
  simp -implicitDefEqProofs only [] at hp ⊢
  obtain ⟨h1,h2,h3,h4⟩:=L2 h hx (Int.le_refl 0) (O5 h.good hx)
  split <;> omega
theorem AEc {c:CoreX} (h:fitsC c) (d:Int) {m:Nat} (hm:m<c.ms.length) {q:Int} (h0:0≤q) (hq:q≤c.ms[m].mx) (j:Nat) : -HH c j≤F5 c.ps d m q j∧F5 c.ps d m q j≤HH c j:=by
 have hp:=Lx (c:=c) j
 unfold HH at *
 unfold F5
 cases e:c.ps[j]? with
 | none=>exact ⟨Int.le_refl _,Int.le_refl _⟩
 | some x =>
  have hx:=List.mem_of_getElem? e
  rw [e] at hp
  simp -implicitDefEqProofs only [] at hp ⊢
  by_cases hc:x.me=m∧Fg d x.f x.t
  ·rw [if_pos hc]
   have hmx:Fp c.ms x.me=c.ms[m].mx:=by rw [hc.1]; exact Qz hm
   obtain ⟨h1,h2,h3,h4⟩:=L2 h hx (Int.le_refl 0) (O5 h.good hx)
   obtain ⟨g1,g2,g3,g4⟩:=L2 h hx h0 (by rw [hmx]; exact hq)
   omega
  ·rw [if_neg hc]; omega
theorem AIR {c:CoreX} (h:goodC c) (n:Nat):0≤sg (F3 c.ss) n:=Jy fun i _=>OX h i
theorem PA {c:CoreX} (h:fitsC c) {i:Nat} (hi:i≤c.ps.length):0≤sg (HH c) i∧sg (HH c) i≤1152921504606846976:=by
 have h1:=h.tot i hi
 have h2:=AIR h.good c.ss.length
 unfold Fk at h1
 exact ⟨Jy fun i _=>Lx i,by omega⟩
theorem Mm {c:CoreX} (h:goodC c) (d:Int) {i:Nat} (hi:i≤c.ss.length):0≤sg (Gh c.ss d) i∧sg (Gh c.ss d) i≤1000000000000*i:=by
 refine ⟨Jy fun j _=>(Qj h d j).1,?_⟩
 have key:∀n:Nat,n≤c.ss.length→sg (F3 c.ss) n≤1000000000000*n:=by
  intro n
  induction n with
  | zero=>intro _; exact Int.le_refl _
  | succ n ih =>
   intro hn
   have:=ih (by omega)
   have h1:=((fitsC.bnd h).amt _ (List.getElem_mem (show n<c.ss.length by omega))).2
   rw [sg]
   have:F3 c.ss n=c.ss[n].a:=by unfold F3; rw [List.getElem?_eq_getElem (by omega)]
   omega
 have:=KO (n:=i) fun j _=>(Qj h d j).2
 have:=key i hi
 omega
theorem NI {c:CoreX} (h:fitsC c) (d:Int) (m:Nat) {i:Nat} (hi:i≤c.ps.length):0≤sg (E7 c.ps d m) i∧sg (E7 c.ps d m) i≤1152921504606846976:=by
 have:=(PA h hi).2
 have h2:=KO (n:=i) fun j _=>(Pj h d m j).2
 exact ⟨Jy fun j _=>(Pj h d m j).1,by omega⟩
theorem Qd {c:CoreX} (h:fitsC c) (d:Int) {m:Nat} (hm:m<c.ms.length) {q:Int} (h0:0≤q) (hq:q≤c.ms[m].mx) {i:Nat} (hi:i≤c.ps.length) : -1152921504606846976≤sg (F5 c.ps d m q) i∧sg (F5 c.ps d m q) i≤1152921504606846976:=by
 have:=(PA h hi).2
 have h2:=WW (n:=i) fun j _=>AEc h d hm h0 hq j
 omega
theorem OW {c:CoreX} (h:fitsC c) (d:Int):∀k:Nat,0≤sg (FG c d) k∧sg (FG c d) k≤1152921504606846976*k
 | 0=>⟨Int.le_refl _,Int.le_refl _⟩
 | k+1=>by
  have:=OW h d k
  have:=NI h d k (Nat.le_refl c.ps.length)
  unfold FG at *
  rw [sg]; omega
structure Run where
 f:Int
 t:Int
 v:Int
 deriving DecidableEq
def Run.el (r:Run):List D:=[.int .i64 r.f,.int .i64 r.t,.int .i64 r.v]
abbrev Run.av (r:Run):AV:=.agg [i64 r.f,i64 r.t,i64 r.v]
def Ex (l:List Run):List (List D):=l.map Run.el
theorem rowR_len {l:List Run}:(Ex l).length=l.length:=List.length_map ..
theorem AEa {l:List Run} {i:Nat} (h:i<l.length):(Ex l)[i]? = some (Run.el l[i]):=by simp [Ex,h]
theorem XB {l:List Run} {r:Run}:Ex l++[r.el]=Ex (l++[r]):=by simp [Ex]
def GH (l:List Run) (r:Run):List Run:=match l.getLast? with
 | some q=>if q.v=r.v then l.dropLast++[{ q with t:=r.t }] else l++[r]
 | none=>[r]
def LineAt (H:Heap) (b:Nat) (c:Nat) (l:List Run):Prop :=
 l=[]∧H b=some (.box 121 [.nilsl 3])∨l≠[]∧c≠b∧∃cap,H b=some (.box 121 [.own c 3 0 l.length cap])∧H c=some (.row 147 3 cap (Ex l))
abbrev Jl (l:List Run):AV:=.agg [.d (.sl 3 (Ex l))]
theorem Qg {l:List Run}:∀el∈Ex l,∀d∈el,HG d=true:=by
 intro el he d hd
 obtain ⟨r,_,rfl⟩:=List.mem_map.1 he
 simp -implicitDefEqProofs only [Run.el,List.mem_cons,List.not_mem_nil,or_false] at hd
 rcases hd with rfl | rfl | rfl <;> rfl
theorem AIO {H:Heap} {b sz cap cap' len:Nat} {e:TypeId} {xs:List (List D)} (h:H b=some (.row e sz cap' xs)) (hl:len=xs.length) (hs:∀el∈xs,∀d∈el,HG d=true):NewV H (.own b sz 0 len cap) (.d (.sl sz xs)):=by
 subst hl; exact .own b sz cap e cap' xs h hs
theorem LineAt.read {H:Heap} {b c:Nat} {l:List Run} (h:LineAt H b c l):∃v,H b=some (.box 121 [v])∧NewV H v (.d (.sl 3 (Ex l)))∧Ix v=some (i64 l.length):=by
 rcases h with ⟨rfl,h1⟩ | ⟨h0,h3,cap,h1,h2⟩
 ·exact ⟨_,h1,.nilsl _ _,rfl⟩
 ·exact ⟨_,h1,AIO h2 rowR_len.symm Qg,rfl⟩
theorem LineAt.upd {H:Heap} {b c k:Nat} {l:List Run} {x:Option Blk} (h:LineAt H b c l) (hb:¬k=b) (hc:l≠[]→¬k=c):LineAt (upd H k x) b c l:=by
 rcases h with ⟨h0,h1⟩ | ⟨h0,h3,cap,h1,h2⟩
 ·exact .inl ⟨h0,by rw [EH hb]; exact h1⟩
 ·exact .inr ⟨h0,h3,cap,by rw [EH hb]; exact h1,by rw [EH (hc h0)]; exact h2⟩
def GF (from':Int) (l:List Int):Nat→List Run
 | 0=>[]
 | i+1=>GH (GF from' l i) ⟨from'+i,from'+i,l.getD i 0⟩
abbrev EY (from':Int) (l:List Int):List Run:=GF from' l l.length
theorem AKQ {l:List Run} {r:Run}:GH l r≠[]:=by
 unfold GH
 split
 ·split <;> simp
 ·simp
theorem AJv {l:List Run} {r:Run}:(GH l r).length≤l.length+1:=by
 unfold GH
 split
 ·split
  ·simp -implicitDefEqProofs only [List.length_append,List.length_dropLast,List.length_singleton]; omega
  ·simp
 ·simp
theorem KP {from':Int} {l:List Int}:∀i:Nat,(GF from' l i).length≤i
 | 0=>Nat.le_refl _
 | i+1=>by
  have:=@AJv (GF from' l i) ⟨from'+i,from'+i,l.getD i 0⟩
  have:=KP (from':=from') (l:=l) i
  rw [GF]; omega
theorem UK {H:Heap} {x y:AV} (h:NewV H x y):NewV H (.agg [x]) (.agg [y]):=by
 refine .agg _ _ rfl fun j u v h1 h2=>?_
 cases j with
 | zero=>cases h1; cases h2; exact h
 | succ j=>cases h1
abbrev GV (l:List Run):AV:=.d (.sl 3 (Ex l))
theorem Jm {l:List Run} {i:Nat} (h:i<l.length):(Ex l)[((i:Int)).toNat]? = some [.int .i64 l[i].f,.int .i64 l[i].t,.int .i64 l[i].v]:=by
 rw [Int.toNat_natCast]; exact AEa h
def Q3 (l:List Run) (x:Int):Nat:=(l.takeWhile fun r=>decide (r.t<x)).length
def KZ (l:List Run) (x:Int):Option Int:=match l[Q3 l x]? with
 | some r=>if r.f≤x then some r.v else none
 | none=>none
theorem LineAt.fresh {H:Heap} {b c k:Nat} {l:List Run} (h:LineAt H b c l) (hk:H k=none):¬k=b∧(l≠[]→¬k=c):=by
 rcases h with ⟨h0,h1⟩ | ⟨h0,h3,cap,h1,h2⟩
 ·exact ⟨(Ac hk h1).1,fun h=>absurd h0 h⟩
 ·exact ⟨(Ac hk h1).1,fun _=>(Ac hk h2).1⟩
def FwdOK (val:Int→Int) (lo hi:Int):List Run→Prop
 | []=>lo=hi
 | r::R=>r.f=lo∧r.f≤r.t∧(∀x,r.f≤x→x≤r.t→val x=r.v)∧(∀s,R.head? = some s→r.v≠s.v)∧FwdOK val (r.t+1) hi R
theorem FwdOK.le {val:Int→Int}:∀{R:List Run} {lo hi:Int},FwdOK val lo hi R→lo≤hi
 | [],lo,hi,h=>by have:lo=hi:=h; omega
 | r::R,lo,hi,h=>by
  obtain ⟨h1,h2,_,_,h5⟩:=h
  have:=FwdOK.le h5
  omega
theorem PU {r x:Run} {R:List Run} (h:R≠[]):GH (r::R) x=r::GH R x:=by
 obtain ⟨q,hq⟩:∃q,R.getLast? = some q:=by
  cases hh:R.getLast? with
  | none=>exact absurd (List.getLast?_eq_none_iff.1 hh) h
  | some q=>exact ⟨q,rfl⟩
 have h2:(r::R).getLast? = some q:=by
  rw [List.getLast?_cons,hq]; rfl
 unfold GH
 rw [hq,h2]
 simp -implicitDefEqProofs only []
 split
 ·rw [List.dropLast_cons_of_ne_nil h]; rfl
 ·rfl
theorem Za {x s:Run} {R:List Run} {q:Run} (h:(GH (s::R) x).head? = some q):q.v=s.v:=by
 cases R with
 | nil =>
  unfold GH at h
  simp -implicitDefEqProofs only [List.getLast?_singleton] at h
  split at h
  ·simp at h; subst h; rfl
  ·simp at h; subst h; rfl
 | cons t R =>
  rw [PU (by simp)] at h
  simp at h; subst h; rfl
theorem FwdOK.put {val:Int→Int} {hi:Int}:∀{R:List Run} {lo:Int},FwdOK val lo hi R→FwdOK val lo (hi+1) (GH R ⟨hi,hi,val hi⟩)
 | [],lo,h=>by
  have:lo=hi:=h
  subst this
  exact ⟨rfl,Int.le_refl _,fun x h1 h2=>by rw [show x=lo from Int.le_antisymm h2 h1],fun s h=>(by cases h),rfl⟩
 | [r],lo,h=>by
  obtain ⟨h1,h2,h3,h4,h5⟩:=h
  have h5:r.t+1=hi:=h5
  unfold GH
  simp -implicitDefEqProofs only [List.getLast?_singleton]
  split
  ·next hv =>
   refine ⟨h1,by show r.f≤hi; omega,fun x x1 x2=>?_,fun s h=>(by cases h),rfl⟩
   by_cases hx:x=hi
   ·subst hx; exact hv.symm
   ·exact h3 x x1 (by have:x≤hi:=x2; omega)
  ·next hv =>
   refine ⟨h1,h2,h3,fun s h=>?_,⟨h5.symm,Int.le_refl _,fun x x1 x2=>by rw [show x=hi from Int.le_antisymm x2 x1],fun s h=>(by cases h),rfl⟩⟩
   cases h; exact hv
 | r::s::R,lo,h=>by
  obtain ⟨h1,h2,h3,h4,h5⟩:=h
  rw [PU (by simp)]
  refine ⟨h1,h2,h3,fun q hq=>?_,FwdOK.put h5⟩
  rw [Za hq]
  exact h4 s rfl
theorem O1 (from':Int) (l:List Int):∀i:Nat,FwdOK (fun x=>l.getD (x-from').toNat 0) from' (from'+i) (GF from' l i)
 | 0=>by show from'=from'+((0:Nat):Int); omega
 | i+1=>by
  have h:=(O1 from' l i).put
  have e:l.getD (from'+(i:Int)-from').toNat 0=l.getD i 0:=by rw [show (from'+(i:Int)-from').toNat=i by omega]
  try simp -implicitDefEqProofs only [] at h
  rw [e] at h
  rw [GF,show from'+((i+1:Nat):Int)=from'+i+1 by omega]
  exact h
theorem QN {r:Run} {R:List Run} {x:Int}:KZ (r::R) x=if r.t<x then KZ R x else if r.f≤x then some r.v else none:=by
 unfold KZ Q3
 by_cases h:r.t<x
 ·rw [if_pos h,List.takeWhile_cons_of_pos (by simpa using h),List.length_cons,List.getElem?_cons_succ]
 ·rw [if_neg h,List.takeWhile_cons_of_neg (by simpa using h)]
  rfl
theorem FwdOK.at' {val:Int→Int} {hi x:Int}:∀{R:List Run} {lo:Int},FwdOK val lo hi R→lo≤x→x<hi→KZ R x=some (val x)
 | [],lo,h,h1,h2=>by have:lo=hi:=h; omega
 | r::R,lo,h,h1,h2=>by
  obtain ⟨g1,g2,g3,g4,g5⟩:=h
  rw [QN]
  by_cases ht:r.t<x
  ·rw [if_pos ht]; exact FwdOK.at' g5 (by omega) h2
  ·rw [if_neg ht,if_pos (by omega),g3 x (by omega) (by omega)]
def Adj2:List Run→Prop
 | []=>True
 | r::R=>(∀s,R.head? = some s→r.v≠s.v)∧Adj2 R
theorem Adj2.last {S R:List Run} {x q:Run} (h:Adj2 (S++x::R)) (hq:S.getLast? = some q):q.v≠x.v:=by
 induction S with
 | nil=>cases hq
 | cons s S ih =>
  cases S with
  | nil =>
   simp at hq; subst hq
   exact h.1 x rfl
  | cons t S =>
   rw [List.getLast?_cons_cons] at hq
   exact ih h.2 hq
structure Seg (β:Type) where
 f:Int
 t:Int
 v : β
section
variable {β:Type}
def FwdB (val:Int→β) (lo hi:Int):List (Seg β)→Prop
 | []=>lo=hi
 | r::R=>r.f=lo∧r.f≤r.t∧(∀x,r.f≤x→x≤r.t→val x=r.v)∧(∀s,R.head? = some s→r.v≠s.v)∧FwdB val (r.t+1) hi R
theorem FwdB.le {val:Int→β}:∀{R:List (Seg β)} {lo hi:Int},FwdB val lo hi R→lo≤hi
 | [],lo,hi,h=>by have:lo=hi:=h; omega
 | r::R,lo,hi,h=>by
  obtain ⟨h1,h2,_,_,h5⟩:=h
  have:=FwdB.le h5
  omega
theorem FwdB.len {val:Int→β}:∀{R:List (Seg β)} {lo hi:Int},FwdB val lo hi R→(R.length:Int)≤hi-lo
 | [],lo,hi,h=>by have:lo=hi:=h; simp; omega
 | r::R,lo,hi,h=>by
  obtain ⟨h1,h2,_,_,h5⟩:=h
  have:=FwdB.len h5
  simp -implicitDefEqProofs only [List.length_cons]
  omega
theorem FwdB.canon {val:Int→β} {hi:Int}:∀{R S:List (Seg β)} {lo:Int},FwdB val lo hi R→FwdB val lo hi S→R=S
 | [],[],_,_,_=>rfl
 | [],s::S,lo,h,k=>by
  have:lo=hi:=h
  obtain ⟨k1,k2,_,_,k5⟩:=k
  have:=k5.le
  omega
 | r::R,[],lo,h,k=>by
  have:lo=hi:=k
  obtain ⟨k1,k2,_,_,k5⟩:=h
  have:=k5.le
  omega
 | r::R,s::S,lo,h,k=>by
  obtain ⟨h1,h2,h3,h4,h5⟩:=h
  obtain ⟨k1,k2,k3,k4,k5⟩:=k
  have hh:=h5.le
  have kk:=k5.le
  have ev:r.v=s.v:=by rw [←h3 lo (by omega) (by omega),←k3 lo (by omega) (by omega)]
  have key:∀{A:List (Seg β)} {a b:Seg β},FwdB val (a.t+1) hi A→b.t+1≤hi→a.f=lo→b.f=lo→a.f≤a.t→(∀x,b.f≤x→x≤b.t→val x=b.v)→(∀q,A.head? = some q→a.v≠q.v)→a.v=b.v→¬a.t<b.t:=by
   intro A a b hA hb ha hb2 haa hbv hne hab hlt
   cases A with
   | nil=>have:a.t+1=hi:=hA; omega
   | cons q A =>
    obtain ⟨q1,q2,q3,_,_⟩:=hA
    have e1:=q3 q.f (Int.le_refl _) q2
    have e2:=hbv q.f (by omega) (by omega)
    exact hne q rfl (by rw [hab,←e2,e1])
  have et:r.t=s.t:=by
   have n1:=key h5 kk h1 k1 h2 k3 h4 ev
   have n2:=key k5 hh k1 h1 k2 h3 k4 ev.symm
   omega
  have ers:r=s:=by
   obtain ⟨rf,rt,rv⟩:=r
   obtain ⟨sf,st,sv⟩:=s
   simp -implicitDefEqProofs only at h1 k1 et ev
   rw [h1,k1,et,ev]
  rw [ers]
  rw [et] at h5
  exact congrArg _ (FwdB.canon h5 k5)
theorem FwdB.congr {val val':Int→β} {hi:Int}:∀{R:List (Seg β)} {lo:Int},(∀x,lo≤x→x<hi→val x=val' x)→FwdB val lo hi R→FwdB val' lo hi R
 | [],lo,_,h=>h
 | r::R,lo,hv,h=>by
  obtain ⟨h1,h2,h3,h4,h5⟩:=h
  have hl:=h5.le
  exact ⟨h1,h2,fun x a b=>by rw [←hv x (by omega) (by omega)]; exact h3 x a b,h4,FwdB.congr (fun x a b=>hv x (by omega) b) h5⟩
theorem FwdB.nth {val:Int→β} {hi:Int}:∀{R:List (Seg β)} {lo:Int},FwdB val lo hi R→∀(i:Nat) r,R[i]? = some r→lo+i≤r.f∧r.f≤r.t∧r.t<hi∧(∀x,r.f≤x→x≤r.t→val x=r.v)∧(∀s,R[i+1]? = some s→s.f=r.t+1∧r.v≠s.v)∧(R[i+1]? = none→r.t+1=hi)∧(i=0→r.f=lo)
 | [],lo,_,i,r,hr=>by simp at hr
 | q::R,lo,h,0,r,hr=>by
  obtain ⟨h1,h2,h3,h4,h5⟩:=h
  have hl:=h5.le
  simp -implicitDefEqProofs only [List.getElem?_cons_zero,Option.some.injEq] at hr
  subst hr
  refine ⟨by omega,h2,by omega,h3,fun s hs=>?_,fun hs=>?_,fun _=>h1⟩
  ·cases R with
   | nil=>simp at hs
   | cons a R =>
    simp -implicitDefEqProofs only [List.getElem?_cons_succ,List.getElem?_cons_zero,Option.some.injEq] at hs
    subst hs
    exact ⟨h5.1,h4 a rfl⟩
  ·cases R with
   | nil=>exact h5
   | cons a R=>simp at hs
 | q::R,lo,h,i+1,r,hr=>by
  obtain ⟨h1,h2,h3,h4,h5⟩:=h
  have hl:=h5.le
  obtain ⟨g1,g2,g3,g4,g5,g6,g7⟩:=FwdB.nth h5 i r (by simpa using hr)
  exact ⟨by omega,g2,g3,g4,by simpa using g5,by simpa using g6,fun h=>by omega⟩
theorem FwdB.apart {val:Int→β} {hi:Int}:∀{R:List (Seg β)} {lo:Int},FwdB val lo hi R→∀(i j:Nat) r s,i<j→R[i]? = some r→R[j]? = some s→r.t<s.f
 | [],lo,_,i,j,r,s,_,hr,_=>by simp at hr
 | q::R,lo,h,0,0,r,s,hij,_,_=>by omega
 | q::R,lo,h,0,j+1,r,s,_,hr,hs=>by
  obtain ⟨h1,h2,h3,h4,h5⟩:=h
  simp -implicitDefEqProofs only [List.getElem?_cons_zero,Option.some.injEq] at hr
  subst hr
  have:=(FwdB.nth h5 j s (by simpa using hs)).1
  omega
 | q::R,lo,h,i+1,0,r,s,hij,_,_=>by omega
 | q::R,lo,h,i+1,j+1,r,s,hij,hr,hs=>FwdB.apart h.2.2.2.2 i j r s (by omega) (by simpa using hr) (by simpa using hs)
theorem FwdB.setLast {val:Int→β} {hi x:Int} {s:Seg β}:∀{A:List (Seg β)} {lo:Int},FwdB val lo hi (A++[s])→s.f≤x→(∀y,s.f≤y→y≤x→val y=s.v)→FwdB val lo (x+1) (A++[⟨s.f,x,s.v⟩])
 | [],lo,h,h1,h2=>by
  obtain ⟨g1,g2,g3,g4,g5⟩:=h
  exact ⟨g1,h1,h2,fun s hs=>by simp at hs,rfl⟩
 | a::A,lo,h,h1,h2=>by
  obtain ⟨g1,g2,g3,g4,g5⟩:=h
  refine ⟨g1,g2,g3,fun q hq=>?_,FwdB.setLast g5 h1 h2⟩
  cases A with
  | nil =>
   have hq':(⟨s.f,x,s.v⟩:Seg β)=q:=by simpa using hq
   subst hq'
   exact g4 s rfl
  | cons b A=>exact g4 q hq
theorem FwdB.push {val:Int→β} {hi:Int} {r:Seg β}:∀{A:List (Seg β)} {lo:Int},FwdB val lo hi A→r.f=hi→r.f≤r.t→(∀x,r.f≤x→x≤r.t→val x=r.v)→(∀s,A.getLast? = some s→s.v≠r.v)→FwdB val lo (r.t+1) (A++[r])
 | [],lo,h,h1,h2,h3,h4=>by
  have:lo=hi:=h
  exact ⟨by omega,h2,h3,fun s hs=>by simp at hs,rfl⟩
 | a::A,lo,h,h1,h2,h3,h4=>by
  obtain ⟨g1,g2,g3,g4,g5⟩:=h
  refine ⟨g1,g2,g3,fun q hq=>?_,FwdB.push g5 h1 h2 h3 fun s hs=>?_⟩
  ·cases A with
   | nil =>
    have hq':r=q:=by simpa using hq
    subst hq'
    exact h4 a rfl
   | cons b A=>exact g4 q hq
  ·cases A with
   | nil=>simp at hs
   | cons b A=>exact h4 s (by rw [List.getLast?_cons_cons]; exact hs)
open Classical in
noncomputable def IZ (acc:List (Seg β)) (d:Int) (v : β):List (Seg β):=match acc.getLast? with
 | none=>[⟨d,d,v⟩]
 | some s=>if s.v=v then acc.dropLast++[⟨s.f,d-1,s.v⟩] else acc.dropLast++[⟨s.f,d-1,s.v⟩]++[⟨d,d,v⟩]
noncomputable def FZ (val:Int→β) (ds:List Int):Nat→List (Seg β)
 | 0=>[]
 | k+1=>match ds[k]? with
  | some d=>IZ (FZ val ds k) d (val d)
  | none=>FZ val ds k
def Lz (acc:List (Seg β)) (x:Int):List (Seg β):=match acc.getLast? with
 | none=>[]
 | some s=>acc.dropLast++[⟨s.f,x,s.v⟩]
theorem FwdOK.nth2 {val:Int→Int} {hi:Int}:∀{R:List Run} {lo:Int},FwdOK val lo hi R→∀(i:Nat) r,R[i]? = some r→lo≤r.f∧r.f≤r.t∧r.t<hi∧(∀x,r.f≤x→x≤r.t→val x=r.v)∧(∀s,R[i+1]? = some s→s.f=r.t+1)∧(R[i+1]? = none→r.t+1=hi)∧(i=0→r.f=lo)
 | [],lo,_,i,r,hr=>by simp at hr
 | q::R,lo,h,0,r,hr=>by
  obtain ⟨h1,h2,h3,h4,h5⟩:=h
  have hl:=h5.le
  simp -implicitDefEqProofs only [List.getElem?_cons_zero,Option.some.injEq] at hr
  subst hr
  refine ⟨by omega,h2,by omega,h3,fun s hs=>?_,fun hs=>?_,fun _=>h1⟩
  ·cases R with
   | nil=>simp at hs
   | cons a R =>
    simp -implicitDefEqProofs only [List.getElem?_cons_succ,List.getElem?_cons_zero,Option.some.injEq] at hs
    subst hs
    exact h5.1
  ·cases R with
   | nil=>exact h5
   | cons a R=>simp at hs
 | q::R,lo,h,i+1,r,hr=>by
  obtain ⟨h1,h2,h3,h4,h5⟩:=h
  have hl:=h5.le
  obtain ⟨g1,g2,g3,g4,g5,g6,g7⟩:=FwdOK.nth2 h5 i r (by simpa using hr)
  exact ⟨by omega,g2,g3,g4,by simpa using g5,by simpa using g6,fun h=>by omega⟩
theorem Qx {val:Int→β} {sv:Int→Int} {lo hi:Int} {R:List Run} (h:FwdOK sv lo hi R) (hv:∀d e,lo≤d→d<hi→lo≤e→e<hi→sv d=sv e→val d=val e):∀(k:Nat) r,R[k]? = some r→∃A s,FZ val (R.map (·.f)) (k+1)=A++[s]∧s.v=val r.f∧s.f≤r.f∧∀x,r.f≤x→x≤r.t→FwdB val lo (x+1) (A++[⟨s.f,x,s.v⟩])
 | 0,r,hr=>by
  obtain ⟨h1,h2,h3,h4,h5,h6,h7⟩:=h.nth2 0 r hr
  refine ⟨[],⟨r.f,r.f,val r.f⟩,?_,rfl,Int.le_refl _,fun x hx hx2=>⟨h7 rfl,hx,fun y a b=>?_,fun s hs=>by simp at hs,rfl⟩⟩
  ·simp [FZ,hr,IZ]
  ·have a':r.f≤y:=a
   have b':y≤x:=b
   exact hv y r.f (by omega) (by omega) (by omega) (by omega) (by rw [h4 y a' (by omega),h4 r.f (by omega) h2])
 | k+1,r,hr=>by
  obtain ⟨h1,h2,h3,h4,h5,h6,h7⟩:=h.nth2 (k+1) r hr
  have hk:k<R.length:=by
   have:=(List.getElem?_eq_some_iff.1 hr).1
   omega
  obtain ⟨g1,g2,g3,g4,g5,g6,g7⟩:=h.nth2 k R[k] (List.getElem?_eq_getElem hk)
  obtain ⟨A,s,e1,e2,e3,e4⟩:=Qx h hv k R[k] (List.getElem?_eq_getElem hk)
  have hf:=g5 r hr
  have hall:=e4 (r.f-1) (by omega) (by omega)
  rw [show r.f-1+1=r.f by omega] at hall
  have hstep:FZ val (R.map (·.f)) (k+1+1)=IZ (A++[s]) r.f (val r.f):=by
   rw [FZ,List.getElem?_map,hr,←e1]; rfl
  have hconst:∀y,r.f≤y→y≤r.t→val y=val r.f:=fun y a b=>hv y r.f (by omega) (by omega) (by omega) (by omega) (by rw [h4 y a b,h4 r.f (by omega) h2])
  by_cases c:s.v=val r.f
  ·refine ⟨A,⟨s.f,r.f-1,s.v⟩,?_,c,by show s.f≤r.f; omega,fun x hx hx2=>?_⟩
   ·rw [hstep,IZ]
    simp -implicitDefEqProofs only [List.getLast?_append,List.getLast?_singleton,Option.some_or,List.dropLast_concat,if_pos c]
   ·refine FwdB.setLast (s:=⟨s.f,r.f-1,s.v⟩) hall (by show s.f≤x; omega) fun y a b=>?_
    simp -implicitDefEqProofs only at a
    by_cases hy:y<r.f
    ·have hlast:(A++[(⟨s.f,r.f-1,s.v⟩:Seg β)])[A.length]? = some ⟨s.f,r.f-1,s.v⟩:=by simp
     exact (hall.nth _ _ hlast).2.2.2.1 y a (by show y≤r.f-1; omega)
    ·rw [hconst y (by omega) (by omega)]; exact c.symm
  ·refine ⟨A++[⟨s.f,r.f-1,s.v⟩],⟨r.f,r.f,val r.f⟩,?_,rfl,Int.le_refl _,fun x hx hx2=>?_⟩
   ·rw [hstep,IZ]
    simp -implicitDefEqProofs only [List.getLast?_append,List.getLast?_singleton,Option.some_or,List.dropLast_concat,if_neg c]
   ·refine FwdB.push (r:=⟨r.f,x,val r.f⟩) hall rfl hx (fun y a b=>hconst y a (by simp -implicitDefEqProofs only at b; omega)) fun q hq=>?_
    simp -implicitDefEqProofs only [List.getLast?_append,List.getLast?_singleton,Option.some_or,Option.some.injEq] at hq
    subst hq
    exact c
end
abbrev Hm (l:List Run):List (List AV):=l.map fun r=>[r.av]
theorem NH {l:List Run} {i:Nat} (h:i<l.length):(Ex l)[((i:Int)).toNat]? = some [.int .i64 l[i].f,.int .i64 l[i].t,.int .i64 l[i].v]:=Jm h
theorem AKh {b:Nat} {l:List Run} (hl:l.length≤1000000):Jk Try.prog Np [.ptr b 0] [(b,.box 119 [GV l])] (Hm l):=by
 intro y H J X hA hS hY h0
 refine Am ACo (by simp) ?_
 have hb:H b=some (.box 119 [GV l]):=(hA [] H h0).1
 simp -implicitDefEqProofs -proj only [go_sem,seval,hb,rowR_len]
 refine OT (fun x:Nat×Heap=>x.1≤l.length∧J (Hm (l.take x.1)) x.2) (fun x=>⟨16,FH [(0,.yld y),(5,GV l),(6,i64 l.length),(7,i64 x.1)],x.2⟩) (fun x=>l.length-x.1) (0,H) ⟨Nat.zero_le _,h0⟩ (L8 rfl ?_ (fun k=>.inr rfl)) ?_
 ·simp -implicitDefEqProofs -proj only [go_sem,seval,AK]
 rintro ⟨i,H1⟩ ⟨hi,hj⟩
 simp -implicitDefEqProofs only [] at hi hj
 by_cases h:i<l.length
 ·have hel:=NH h
  have hxs:Hm l=Hm (l.take i)++[(l[i]).av]::Hm (l.drop (i+1)):=by
   rw [←List.map_cons (f:=fun r:Run=>[r.av]),←List.map_append,←List.drop_eq_getElem_cons h,List.take_append_drop]
  have htk:Hm (l.take i)++[[(l[i]).av]]=Hm (l.take (i+1)):=by simp -implicitDefEqProofs only [Hm]; rw [List.take_succ_eq_append_getElem h,List.map_append]; rfl
  generalize l[i]=r at *
  simp -implicitDefEqProofs -proj only [go_sem,seval,decide_eq_true (show (i:Int)<l.length by omega)]
  refine EG _ (by omega) hel ?_
  simp -implicitDefEqProofs -proj only [go_sem,seval]
  refine AN (fun b4 hb4=>?_)
  simp -implicitDefEqProofs -proj only [go_sem,seval]
  refine Rp (hY _ _ _ _ hxs (hS _ _ b4 _ hj hb4)) ?_
  rintro v H2 (⟨rfl,hj2⟩ | ⟨rfl,hx⟩)
  ·rw [htk] at hj2
   simp -implicitDefEqProofs -proj only [go_sem,seval]
   refine WI (i+1,H2) ⟨by show i+1≤l.length; omega,hj2⟩ (by show l.length-(i+1)<l.length-i; omega) (L8 rfl ?_ (fun k=>.inr rfl))
   simp -implicitDefEqProofs -proj only [go_sem,seval,AK,Ab (show i<9223372036854775807 by omega)]
  ·simp -implicitDefEqProofs -proj only [go_sem,seval]
   exact .inr hx
 ·have hi':i=l.length:=by omega
  subst hi'
  rw [List.take_length] at hj
  simp -implicitDefEqProofs -proj only [go_sem,seval,decide_eq_false (show ¬(l.length:Int)<l.length by omega)]
  exact .inl hj
theorem R2 {H:Heap} {l:List Run}:CallW Try.prog XQ [GV l] H fun r H'=>∃b,r = .fn Np [.ptr b 0]∧H b=none∧H'=upd H b (some (.box 119 [GV l])):=by
 refine Am AGu (by simp) ?_
 simp -implicitDefEqProofs -proj only [go_sem,seval]
 refine AN (fun b hb=>?_)
 simp -implicitDefEqProofs -proj only [go_sem,seval]
 exact ⟨b,rfl,hb,rfl⟩
theorem S5 {H:Heap} {l:List Run}:CallW Try.prog AKU [Jl l] H fun r H'=>∃b,r = .fn Np [.ptr b 0]∧H b=none∧H' b=some (.box 119 [GV l])∧∀k x,H k=some x→H' k=some x:=by
 refine Am ACF (by simp) ?_
 simp -implicitDefEqProofs -proj only [go_sem,seval]
 refine AN (fun b1 hb1=>?_)
 simp -implicitDefEqProofs -proj only [go_sem,seval]
 refine Fy R2 ?_
 rintro r H' ⟨b,rfl,hb,rfl⟩
 simp -implicitDefEqProofs -proj only [go_sem,seval]
 have hb':upd H b1 (some (.box 121 [GV l])) b=none:=hb
 have hne:¬b1=b:=fun e=>by rw [AL,if_pos e] at hb'; cases hb'
 refine ⟨b,rfl,by rw [EH hne] at hb'; exact hb',by rw [if_pos rfl],fun k x hk=>?_⟩
 rw [EH hne] at hb'
 obtain ⟨n1,n2⟩:=Ac hb1 hk
 obtain ⟨n3,n4⟩:=Ac hb' hk
 simp -implicitDefEqProofs -proj only [go_sem,seval,n1,n3,hk]
def MB:List Run→AV
 | []=>.tup [i64 0,i64 0,bv false]
 | r::R=>.tup [i64 r.f,i64 ((r::R).getLast (by simp)).t,bv true]
theorem AIM {R:List Run} (hl:R.length≤1000000):DataW Try.prog AFp [Jl R] (MB R):=by
 refine Am AKL (by simp) ?_
 simp -implicitDefEqProofs -proj only [go_sem,seval]
 refine AN (fun b hb=>?_)
 by_cases h:R=[]
 ·subst h
  simp -implicitDefEqProofs -proj only [go_sem,seval,rowR_len]
  exact AJ rfl
 ·have hlen:0<R.length:=List.length_pos_iff.2 h
  have hw:IntKind.i64.wrap ((R.length:Int)-1)=((R.length-1:Nat):Int):=by rw [IntKind.wrap_i64]; omega
  have e0:=NH (l:=R) (i:=0) hlen
  have e1:=NH (l:=R) (i:=R.length-1) (by omega)
  simp -implicitDefEqProofs -proj only [go_sem,seval,rowR_len,decide_eq_false (show ¬(R.length:Int)=0 by omega),hw]
  refine EG _ (by omega) e0 ?_
  simp -implicitDefEqProofs -proj only [go_sem,seval,rowR_len,hw]
  refine EG _ (by omega) e1 ?_
  simp -implicitDefEqProofs -proj only [go_sem,seval]
  obtain ⟨r,R',rfl⟩:=List.exists_cons_of_ne_nil h
  refine AJ ?_
  simp [MB,List.getLast_eq_getElem]
theorem AFJ {R:List Run} {r:Run}:∃q,(GH R r).getLast? = some q∧q.v=r.v∧q.t=r.t:=by
 unfold GH
 split
 ·next q hq =>
  split
  ·next hv=>exact ⟨{ q with t:=r.t },by rw [List.getLast?_append]; rfl,hv,rfl⟩
  ·exact ⟨r,by rw [List.getLast?_append]; rfl,rfl,rfl⟩
 ·exact ⟨r,rfl,rfl,rfl⟩
theorem Pe {f:Int} {l:List Int} {i:Nat}:∃q,(GF f l (i+1)).getLast? = some q∧q.v=l.getD i 0∧q.t=f+i:=AFJ
theorem FwdOK.out {val:Int→Int} {hi x:Int}:∀{R:List Run} {lo:Int},FwdOK val lo hi R→(x<lo∨hi≤x)→KZ R x=none
 | [],lo,h,_=>rfl
 | r::R,lo,h,h1=>by
  obtain ⟨g1,g2,g3,g4,g5⟩:=h
  have:=g5.le
  rw [QN]
  by_cases ht:r.t<x
  ·rw [if_pos ht]; exact FwdOK.out g5 (.inr (by omega))
  ·rw [if_neg ht,if_neg (by omega)]
theorem FwdOK.ends {val:Int→Int} {hi:Int}:∀{R:List Run} {lo:Int} (hr:R≠[]),FwdOK val lo hi R→(R.head hr).f=lo∧(R.getLast hr).t=hi-1
 | [r],lo,_,h=>⟨h.1,by have:r.t+1=hi:=h.2.2.2.2; show r.t=hi-1; omega⟩
 | r::s::R,lo,_,h=>⟨h.1,(FwdOK.ends (R:=s::R) (by simp) h.2.2.2.2).2⟩
theorem FwdOK.congr {val val':Int→Int} {hi:Int}:∀{R:List Run} {lo:Int},(∀x,lo≤x→x<hi→val x=val' x)→FwdOK val lo hi R→FwdOK val' lo hi R
 | [],_,_,h=>h
 | r::R,lo,he,h=>by
  obtain ⟨g1,g2,g3,g4,g5⟩:=h
  have:=g5.le
  exact ⟨g1,g2,fun x h1 h2=>by rw [←he x (by omega) (by omega)]; exact g3 x h1 h2,g4,FwdOK.congr (fun x h1 h2=>he x (by omega) h2) g5⟩
theorem FwdOK.canon {val:Int→Int} {hi:Int}:∀{R S:List Run} {lo:Int},FwdOK val lo hi R→FwdOK val lo hi S→R=S
 | [],[],_,_,_=>rfl
 | [],s::S,lo,h,k=>by
  have:lo=hi:=h
  obtain ⟨k1,k2,_,_,k5⟩:=k
  have:=k5.le
  omega
 | r::R,[],lo,h,k=>by
  have:lo=hi:=k
  obtain ⟨k1,k2,_,_,k5⟩:=h
  have:=k5.le
  omega
 | r::R,s::S,lo,h,k=>by
  obtain ⟨h1,h2,h3,h4,h5⟩:=h
  obtain ⟨k1,k2,k3,k4,k5⟩:=k
  have hh:=h5.le
  have kk:=k5.le
  have ev:r.v=s.v:=by rw [←h3 lo (by omega) (by omega),←k3 lo (by omega) (by omega)]
  have key:∀{A:List Run} {a b:Run},FwdOK val (a.t+1) hi A→b.t+1≤hi→a.f=lo→b.f=lo→a.f≤a.t→(∀x,b.f≤x→x≤b.t→val x=b.v)→(∀q,A.head? = some q→a.v≠q.v)→a.v=b.v→¬a.t<b.t:=by
   intro A a b hA hb ha hb2 haa hbv hne hab hlt
   cases A with
   | nil=>have:a.t+1=hi:=hA; omega
   | cons q A =>
    obtain ⟨q1,q2,q3,_,_⟩:=hA
    have e1:=q3 q.f (Int.le_refl _) q2
    have e2:=hbv q.f (by omega) (by omega)
    exact hne q rfl (by rw [hab,←e2,e1])
  have et:r.t=s.t:=by
   have n1:=key h5 kk h1 k1 h2 k3 h4 ev
   have n2:=key k5 hh k1 h1 k2 h3 k4 ev.symm
   omega
  have ers:r=s:=by
   obtain ⟨rf,rt,rv⟩:=r
   obtain ⟨sf,st,sv⟩:=s
   simp -implicitDefEqProofs only at h1 k1 et ev
   subst h1; subst et; subst ev; rw [k1]
  rw [ers]
  rw [et] at h5
  exact congrArg _ (FwdOK.canon h5 k5)
def HO (f:Int) (l:List Int):Int→Int:=fun x=>l.getD (x-f).toNat 0
theorem IY (f:Int) (l:List Int):FwdOK (HO f l) f (f+l.length) (EY f l):=O1 f l l.length
theorem AGy {val:Int→Int} {f:Int} {l:List Int} {R:List Run} (h:FwdOK val f (f+l.length) R) (hv:∀(i:Nat) (hi:i<l.length),val (f+i)=l[i]):R=EY f l:=by
 refine FwdOK.canon (h.congr fun x h1 h2=>?_) (IY f l)
 obtain ⟨i,rfl⟩:∃i:Nat,x=f+i:=⟨(x-f).toNat,by omega⟩
 have hi:i<l.length:=by omega
 rw [hv i hi,HO,show (f+(i:Int)-f).toNat=i by omega]
 simp [hi]
def Kd (R:List Run) (hi:Int) (i:Nat):Int:=match R[i]? with
 | some r=>r.f
 | none=>hi
theorem FwdOK.nth {val:Int→Int} {hi:Int}:∀{R:List Run} {lo:Int},FwdOK val lo hi R→∀(i:Nat) r,R[i]? = some r→r.f=Kd R hi i∧r.f≤r.t∧Kd R hi (i+1)=r.t+1∧r.t+1≤hi∧lo≤r.f∧∀x,r.f≤x→x≤r.t→val x=r.v:=by
 intro R
 induction R with
 | nil=>intro lo _ i r h; simp at h
 | cons q R ih =>
  intro lo h i r hi'
  obtain ⟨g1,g2,g3,g4,g5⟩:=h
  have hle:=g5.le
  cases i with
  | zero =>
   simp -implicitDefEqProofs only [List.getElem?_cons_zero,Option.some.injEq] at hi'
   subst hi'
   refine ⟨rfl,g2,?_,hle,by omega,g3⟩
   unfold Kd
   cases R with
   | nil=>exact g5.symm
   | cons s R=>exact g5.1
  | succ i =>
   obtain ⟨e1,e2,e3,e4,e5,e6⟩:=ih g5 i r (by simpa using hi')
   exact ⟨by rw [e1]; simp [Kd],e2,by rw [←e3]; simp [Kd],e4,by omega,e6⟩
theorem Oo {a:Nat} (h:a<18446744073709551616):(BitVec.ofInt 64 (a:Int)).toNat=a:=by
 rw [BitVec.toNat_ofInt]
 have:(a:Int) % ((2 ^ 64:Nat):Int)=a:=Int.emod_eq_of_lt (by omega) (by simp; omega)
 rw [this,Int.toNat_natCast]
theorem Jp {a b:Nat} (ha:a<18446744073709551616) (hb:b<18446744073709551616):KB .u64 (a:Int) (b:Int)=((a ||| b:Nat):Int):=by
 have h:a ||| b<2 ^ 64:=Nat.or_lt_two_pow (by simpa using ha) (by simpa using hb)
 rw [KB,IntKind.wrap_u64,show IntKind.u64.bits=64 from rfl,BitVec.toNat_or,Oo ha,Oo hb]
 have:a ||| b<18446744073709551616:=by simpa using h
 omega
def L3 (i:Int):Nat:=if 0≤i∧i<8 then 2 ^ i.toNat else 0
def K5 (i:Int):Nat:=if 0≤i∧i<8 then 256*2 ^ i.toNat else 0
theorem FwdOK.len {val:Int→Int} {hi:Int}:∀{R:List Run} {lo:Int},FwdOK val lo hi R→(R.length:Int)≤hi-lo
 | [],lo,h=>by have:lo=hi:=h; simp; omega
 | r::R,lo,⟨g1,g2,g3,g4,g5⟩=>by
  have:=g5.len
  simp -implicitDefEqProofs only [List.length_cons]
  omega
def IO (val:Int→Int) (a b more:Int):Int→Int:=fun x=>KB .u64 (val x) (if a≤x∧x≤b then more else 0)
def Fo (ss:List SumX) (d:Int):Nat→Nat
 | 0=>0
 | i+1=>Fo ss d i ||| (match ss[i]? with | some s=>if s.f≤d∧d≤s.t then 2 ^ i else 0 | none=>0)
def Fr (ss:List SumX) (ps:List PartX) (d:Int):Nat→Nat
 | 0=>Fo ss d ss.length
 | i+1=>Fr ss ps d i ||| (match ps[i]? with | some s=>if s.f≤d∧d≤s.t then 256*2 ^ i else 0 | none=>0)
def F8 (c:CoreX) (d:Int):Nat:=Fr c.ss c.ps d c.ps.length
theorem LZ {ss:List SumX} {d:Int}:∀i:Nat,Fo ss d i<2 ^ i
 | 0=>by simp [Fo]
 | i+1=>by
  have h:=LZ (ss:=ss) (d:=d) i
  have hp:2 ^ i<2 ^ (i+1):=Nat.pow_lt_pow_right (by omega) (by omega)
  rw [Fo]
  refine Nat.or_lt_two_pow (by omega) ?_
  split
  ·split <;> omega
  ·omega
theorem NX {ss:List SumX} {ps:List PartX} {d:Int} (h8:ss.length≤8):∀i:Nat,Fr ss ps d i<2 ^ (8+i)
 | 0=>by
  have h:=LZ (ss:=ss) (d:=d) ss.length
  have:2 ^ ss.length≤2 ^ 8:=Nat.pow_le_pow_right (by omega) h8
  rw [Fr]
  show _<2 ^ 8
  omega
 | i+1=>by
  have h:=NX (ps:=ps) (d:=d) h8 i
  have hp:2 ^ (8+i)<2 ^ (8+i+1):=Nat.pow_lt_pow_right (by omega) (by omega)
  have he:256*2 ^ i=2 ^ (8+i):=by rw [Nat.pow_add]
  rw [Fr]
  refine Nat.or_lt_two_pow (by show _<2 ^ (8+i+1); omega) ?_
  show _<2 ^ (8+i+1)
  split
  ·split
   ·rw [he]; exact hp
   ·exact Nat.two_pow_pos _
  ·exact Nat.two_pow_pos _
theorem LO {i:Nat} (h:i≤8):2 ^ i≤256:=Nat.pow_le_pow_right (n:=2) (by omega) h
theorem N6 {i:Nat} (h:i≤8):2 ^ (8+i)≤65536:=Nat.pow_le_pow_right (show 0<2 by omega) (show 8+i≤16 by omega)
theorem AFC {i:Nat} (h:i<8):IntKind.u64.wrap (1*2 ^ (if i≤64 then i else 64))=((2 ^ i:Nat):Int):=by
 obtain h | h | h | h | h | h | h | h:i=0∨i=1∨i=2∨i=3∨i=4∨i=5∨i=6∨i=7:=by omega
 all_goals subst h; rfl
theorem AGC {i:Nat} (h:i<8):IntKind.u64.wrap (256*2 ^ (if i≤64 then i else 64))=((256*2 ^ i:Nat):Int):=by
 obtain h | h | h | h | h | h | h | h:i=0∨i=1∨i=2∨i=3∨i=4∨i=5∨i=6∨i=7:=by omega
 all_goals subst h; rfl
theorem YQ {i:Nat} (h:i<8):L3 (i:Int)=2 ^ i:=by unfold L3; rw [if_pos (by omega),Int.toNat_natCast]
theorem AKw {i:Nat} (h:i<8):K5 (i:Int)=256*2 ^ i:=by unfold K5; rw [if_pos (by omega),Int.toNat_natCast]
theorem Sl {ss:List SumX} {i:Nat} (h:i<ss.length) (h8:ss.length≤8):(fun d=>((Fo ss d (i+1):Nat):Int))=IO (fun d=>((Fo ss d i:Nat):Int)) ss[i].f ss[i].t ((L3 (i:Int):Nat):Int):=by
 funext d
 have h1:=LZ (ss:=ss) (d:=d) i
 have h2:=LO (i:=i) (by omega)
 rw [IO,Fo,List.getElem?_eq_getElem h,YQ (by omega)]
 simp -implicitDefEqProofs only []
 by_cases hd:ss[i].f≤d∧d≤ss[i].t
 ·rw [if_pos hd,if_pos hd,Jp (by omega) (by omega)]
 ·rw [if_neg hd,if_neg hd,show (0:Int)=((0:Nat):Int) from rfl,Jp (by omega) (by omega)]
theorem Wb {ss:List SumX} {ps:List PartX} {i:Nat} (h:i<ps.length) (h8:ss.length≤8) (h9:ps.length≤8):(fun d=>((Fr ss ps d (i+1):Nat):Int))=IO (fun d=>((Fr ss ps d i:Nat):Int)) ps[i].f ps[i].t ((K5 (i:Int):Nat):Int):=by
 funext d
 have h1:=NX (ps:=ps) (d:=d) h8 i
 have h2:=N6 (i:=i) (by omega)
 have h3:=LO (i:=i) (by omega)
 rw [IO,Fr,List.getElem?_eq_getElem h,AKw (by omega)]
 simp -implicitDefEqProofs only []
 by_cases hd:ps[i].f≤d∧d≤ps[i].t
 ·rw [if_pos hd,if_pos hd,Jp (by omega) (by omega)]
 ·rw [if_neg hd,if_neg hd,show (0:Int)=((0:Nat):Int) from rfl,Jp (by omega) (by omega)]
def IW (c:CoreX):List Int:=(List.range (c.t+1-c.f).toNat).map fun (i:Nat)=>((F8 c (c.f+i):Nat):Int)
def IH (c:CoreX):List Run:=EY c.f (IW c)
theorem M3 {c:CoreX}:(IW c).length=(c.t+1-c.f).toNat:=by simp [IW]
theorem AFM {c:CoreX} {day:Int} (h7:c.ss.length≤8) (h8:c.ps.length≤8):DataW Try.prog TH [Gm c,i64 day] (u64 ((F8 c day:Nat):Int)):=by
 obtain ⟨cur,f,t,ms,ss,ps⟩:=c
 simp -implicitDefEqProofs only [] at h7 h8
 unfold F8
 simp -implicitDefEqProofs only []
 refine Am XW (by simp) ?_
 simp -implicitDefEqProofs -proj only [go_sem,seval]
 refine AN (fun b2 hb2=>?_)
 simp -implicitDefEqProofs -proj only [go_sem,seval,Gl]
 refine EN (fun i:Nat=>i≤ss.length) 59 (fun i=>[(1,i64 day),(2,.ptr b2 0),(5,u64 ((Fo ss day i:Nat):Int)),(11,.d (.sl 3 (Fc ss))),(12,i64 ss.length),(13,i64 i)]) (fun _=>[(b2,Ea ⟨cur,f,t,ms,ss,ps⟩)]) (fun i=>ss.length-i) 0 (Nat.zero_le _) rfl ?_ ?_ ?_
 ·simp -implicitDefEqProofs -proj only [go_sem,seval,AK,Fo]
  try rfl
 ·simp -implicitDefEqProofs -proj only [go_sem,seval,AR]
 ·rintro i hi
  have hk:AR (Ak [(b2,Ea ⟨cur,f,t,ms,ss,ps⟩)]) [(b2,Ea ⟨cur,f,t,ms,ss,ps⟩)]:=EZ (by simp [AP])
  have k2:=hk.1
  by_cases h:i<ss.length
  ·have hel:=Lh h
   have h1:=LZ (ss:=ss) (d:=day) i
   have h2:=LO (i:=i) (by omega)
   have hstep:Fo ss day (i+1)=Fo ss day i ||| (if ss[i].f≤day∧day≤ss[i].t then 2 ^ i else 0):=by rw [Fo,List.getElem?_eq_getElem h]
   have hw1:IntKind.u64.wrap (i:Int)=i:=by rw [IntKind.wrap_u64]; omega
   have hw2:=AFC (i:=i) (by omega)
   have hor:KB .u64 ((Fo ss day i:Nat):Int) ((2 ^ i:Nat):Int)=((Fo ss day i ||| 2 ^ i:Nat):Int):=Jp (by omega) (by omega)
   generalize ss[i]=s at *
   generalize Fo ss day i=A at *
   generalize hpw:2 ^ i=p at *
   simp -implicitDefEqProofs -proj only [go_sem,seval,decide_eq_true (show (i:Int)<ss.length by omega)]
   refine EG _ (by omega) hel ?_
   simp -implicitDefEqProofs -proj only [go_sem,seval]
   refine AN (fun b5 hb5=>?_)
   replace hb5:Ak [(b2,Ea ⟨cur,f,t,ms,ss,ps⟩)] b5=none:=hb5
   obtain ⟨m1,m2⟩:=Ac hb5 k2
   by_cases c1:s.f≤day
   ·by_cases c2:day≤s.t
    ·rw [if_pos ⟨c1,c2⟩] at hstep
     simp -implicitDefEqProofs -proj only [go_sem,seval,m1,m2,decide_eq_true c1,decide_eq_true c2,hw1,Int.toNat_natCast,hw2,hor]
     (repeat' (with_reducible refine Aq ?_ (fun h=>?_); (focus first | decide | omega); clear h; try simp -implicitDefEqProofs -proj only [go_sem,seval,Int.toNat_natCast,hw1,hw2,hor]))
     refine AX (i+1) (by omega) (by show ss.length-(i+1)<ss.length-i; omega) rfl ?_ (Ar hb5 hk)
     simp -implicitDefEqProofs -proj only [go_sem,seval,AK,hstep,Ab (show i<9223372036854775807 by omega)]
    ·rw [if_neg (fun k=>c2 k.2),Nat.or_zero] at hstep
     simp -implicitDefEqProofs -proj only [go_sem,seval,m1,m2,decide_eq_true c1,decide_eq_false c2]
     refine AX (i+1) (by omega) (by show ss.length-(i+1)<ss.length-i; omega) rfl ?_ (Ar hb5 hk)
     simp -implicitDefEqProofs -proj only [go_sem,seval,AK,hstep,Ab (show i<9223372036854775807 by omega)]
   ·rw [if_neg (fun k=>c1 k.1),Nat.or_zero] at hstep
    simp -implicitDefEqProofs -proj only [go_sem,seval,m1,m2,decide_eq_false c1]
    refine AX (i+1) (by omega) (by show ss.length-(i+1)<ss.length-i; omega) rfl ?_ (Ar hb5 hk)
    simp -implicitDefEqProofs -proj only [go_sem,seval,AK,hstep,Ab (show i<9223372036854775807 by omega)]
  ·have hi':i=ss.length:=by omega
   subst hi'
   simp -implicitDefEqProofs -proj only [go_sem,seval,k2,GY,decide_eq_false (show ¬(ss.length:Int)<ss.length by omega)]
   refine EN (fun i:Nat=>i≤ps.length) 59 (fun i=>[(1,i64 day),(5,u64 ((Fr ss ps day i:Nat):Int)),(35,.d (.sl 9 (FQ ps))),(36,i64 ps.length),(37,i64 i)]) (fun _=>[(b2,Ea ⟨cur,f,t,ms,ss,ps⟩)]) (fun i=>ps.length-i) 0 (Nat.zero_le _) rfl ?_ ?_ ?_
   ·simp -implicitDefEqProofs -proj only [go_sem,seval,AK,Fr]
    try rfl
   ·exact hk
   ·rintro i hi
    have k2:=hk.1
    by_cases h:i<ps.length
    ·have hel:=K4 h
     have h1:=NX (ps:=ps) (d:=day) h7 i
     have h2:=N6 (i:=i) (by omega)
     have hstep:Fr ss ps day (i+1)=Fr ss ps day i ||| (if ps[i].f≤day∧day≤ps[i].t then 256*2 ^ i else 0):=by rw [Fr,List.getElem?_eq_getElem h]
     have hw1:IntKind.u64.wrap (i:Int)=i:=by rw [IntKind.wrap_u64]; omega
     have hw2:=AGC (i:=i) (by omega)
     have hp8:=LO (i:=i) (by omega)
     have hor:KB .u64 ((Fr ss ps day i:Nat):Int) ((256*2 ^ i:Nat):Int)=((Fr ss ps day i ||| 256*2 ^ i:Nat):Int):=Jp (by omega) (by omega)
     generalize ps[i]=s at *
     generalize Fr ss ps day i=A at *
     generalize hpw:256*2 ^ i=p at *
     simp -implicitDefEqProofs -proj only [go_sem,seval,decide_eq_true (show (i:Int)<ps.length by omega)]
     refine EG _ (by omega) hel ?_
     simp -implicitDefEqProofs -proj only [go_sem,seval]
     refine AN (fun b5 hb5=>?_)
     replace hb5:Ak [(b2,Ea ⟨cur,f,t,ms,ss,ps⟩)] b5=none:=hb5
     obtain ⟨m1,m2⟩:=Ac hb5 k2
     by_cases c1:s.f≤day
     ·by_cases c2:day≤s.t
      ·rw [if_pos ⟨c1,c2⟩] at hstep
       simp -implicitDefEqProofs -proj only [go_sem,seval,m1,m2,decide_eq_true c1,decide_eq_true c2,hw1,Int.toNat_natCast,hw2,hor]
       (repeat' (with_reducible refine Aq ?_ (fun h=>?_); (focus first | decide | omega); clear h; try simp -implicitDefEqProofs -proj only [go_sem,seval,Int.toNat_natCast,hw1,hw2,hor]))
       refine AX (i+1) (by omega) (by show ps.length-(i+1)<ps.length-i; omega) rfl ?_ (Ar hb5 hk)
       simp -implicitDefEqProofs -proj only [go_sem,seval,AK,hstep,Ab (show i<9223372036854775807 by omega)]
      ·rw [if_neg (fun k=>c2 k.2),Nat.or_zero] at hstep
       simp -implicitDefEqProofs -proj only [go_sem,seval,m1,m2,decide_eq_true c1,decide_eq_false c2]
       refine AX (i+1) (by omega) (by show ps.length-(i+1)<ps.length-i; omega) rfl ?_ (Ar hb5 hk)
       simp -implicitDefEqProofs -proj only [go_sem,seval,AK,hstep,Ab (show i<9223372036854775807 by omega)]
     ·rw [if_neg (fun k=>c1 k.1),Nat.or_zero] at hstep
      simp -implicitDefEqProofs -proj only [go_sem,seval,m1,m2,decide_eq_false c1]
      refine AX (i+1) (by omega) (by show ps.length-(i+1)<ps.length-i; omega) rfl ?_ (Ar hb5 hk)
      simp -implicitDefEqProofs -proj only [go_sem,seval,AK,hstep,Ab (show i<9223372036854775807 by omega)]
    ·have hi':i=ps.length:=by omega
     subst hi'
     simp -implicitDefEqProofs -proj only [go_sem,seval,decide_eq_false (show ¬(ps.length:Int)<ps.length by omega)]
     exact AJ rfl
theorem ABn {c:CoreX} (hft:c.f≤c.t):FwdOK (fun d=>((F8 c d:Nat):Int)) c.f (c.t+1) (IH c):=by
 have h:=IY c.f (IW c)
 rw [M3,show c.f+(((c.t+1-c.f).toNat:Nat):Int)=c.t+1 by omega] at h
 refine h.congr fun x h1 h2=>?_
 unfold HO
 rw [List.getD_eq_getElem?_getD,List.getElem?_eq_getElem (by rw [M3]; omega)]
 simp -implicitDefEqProofs only [IW,List.getElem_map,List.getElem_range,Option.getD_some]
 rw [show c.f+(((x-c.f).toNat:Nat):Int)=x by omega]
def En (val:Int→Int) (f:Int):Nat→List Int
 | 0=>[]
 | i+1=>if val (f+1+i)=val (f+i) then En val f i else En val f i++[f+1+i]
theorem Ol {val val':Int→Int} {f:Int}:∀{n:Nat},(∀i:Nat,i≤n→val (f+i)=val' (f+i))→En val f n=En val' f n
 | 0,_=>rfl
 | n+1,h=>by
  rw [En,En,Ol (n:=n) (fun i hi=>h i (by omega))]
  have h1:=h n (by omega)
  have h2:=h (n+1) (by omega)
  rw [show f+((n+1:Nat):Int)=f+1+n by omega] at h2
  rw [h1,h2]
theorem Qu {f:Int} {l:List Int}:∀{i:Nat},i<l.length→(GF f l (i+1)).map (·.f)=f::En (HO f l) f i
 | 0,h=>by simp [GF,GH,En]
 | i+1,h=>by
  have ih:=Qu (i:=i) (f:=f) (l:=l) (by omega)
  obtain ⟨q,h1,h2,h3⟩:=Pe (f:=f) (l:=l) (i:=i)
  have hne:GF f l (i+1)≠[]:=fun e=>by rw [e] at h1; simp at h1
  have hv:HO f l (f+i)=q.v:=by unfold HO; rw [h2,show (f+(i:Int)-f).toNat=i by omega]
  have hv2:HO f l (f+1+i)=l.getD (i+1) 0:=by unfold HO; rw [show (f+1+(i:Int)-f).toNat=i+1 by omega]
  rw [GF,En,hv,hv2]
  generalize GF f l (i+1)=R at *
  rw [GH,h1]
  simp -implicitDefEqProofs only []
  by_cases he:q.v=l.getD (i+1) 0
  ·rw [if_pos he,if_pos he.symm,←ih]
   obtain ⟨dl,hd⟩:=List.getLast?_eq_some_iff.1 h1
   subst hd
   simp
  ·rw [if_neg he,if_neg (fun e=>he e.symm),List.map_append,ih]
   simp -implicitDefEqProofs only [List.map_cons,List.map_nil,List.cons_append]
   rw [show f+((i+1:Nat):Int)=f+1+i by omega]
theorem Y2 {c:CoreX} (hft:c.f≤c.t):(IH c).map (·.f)=c.f::En (fun d=>((F8 c d:Nat):Int)) c.f (c.t-c.f).toNat:=by
 have hl:=@M3 c
 have h:=Qu (f:=c.f) (l:=IW c) (i:=(c.t-c.f).toNat) (by omega)
 unfold IH EY
 rw [show (IW c).length=(c.t-c.f).toNat+1 by omega,h]
 congr 1
 refine Ol fun i hi=>?_
 unfold HO
 rw [show (c.f+(i:Int)-c.f).toNat=i by omega,List.getD_eq_getElem?_getD,List.getElem?_eq_getElem (by omega)]
 simp [IW]
theorem RA {val:Int→Int} {f a b m:Int}:∀n:Nat,(En (IO val a b m) f n).length≤(En val f n).length+(if a≤f+n then 1 else 0)+(if b<f+n then 1 else 0)
 | 0=>by simp [En]
 | n+1=>by
  have ih:=RA (val:=val) (f:=f) (a:=a) (b:=b) (m:=m) n
  rw [En,En]
  have e:f+((n+1:Nat):Int)=f+1+n:=by omega
  rw [e]
  by_cases h1:IO val a b m (f+1+n)=IO val a b m (f+n)
  ·rw [if_pos h1]
   split <;> (try rw [List.length_append,List.length_singleton]) <;> split <;> split <;> split at ih <;> split at ih <;> omega
  ·rw [if_neg h1,List.length_append,List.length_singleton]
   by_cases h2:val (f+1+n)=val (f+n)
   ·rw [if_pos h2]
    have h3:(if a≤f+1+n∧f+1+n≤b then m else 0)≠(if a≤f+n∧f+n≤b then m else 0):=fun k=>h1 (by unfold IO; rw [h2,k])
    have h4:¬(a≤f+1+n∧f+1+n≤b∧a≤f+n∧f+n≤b):=fun k=>h3 (by rw [if_pos ⟨k.1,k.2.1⟩,if_pos ⟨k.2.2.1,k.2.2.2⟩])
    have h5:¬(¬(a≤f+1+n∧f+1+n≤b)∧¬(a≤f+n∧f+n≤b)):=fun k=>h3 (by rw [if_neg k.1,if_neg k.2])
    split <;> split <;> split at ih <;> split at ih <;> omega
   ·rw [if_neg h2,List.length_append,List.length_singleton]
    split <;> split <;> split at ih <;> split at ih <;> omega
theorem Pc {val:Int→Int} {f a b m:Int} (n:Nat):(En (IO val a b m) f n).length≤(En val f n).length+2:=by
 have:=RA (val:=val) (f:=f) (a:=a) (b:=b) (m:=m) n
 split at this <;> split at this <;> omega
theorem Qf {v f:Int}:∀n:Nat,En (fun _=>v) f n=[]
 | 0=>rfl
 | n+1=>by rw [En,if_pos rfl,Qf]
theorem OG {ss:List SumX} {f:Int} {n:Nat} (h8:ss.length≤8):∀i:Nat,i≤ss.length→(En (fun d=>((Fo ss d i:Nat):Int)) f n).length≤2*i
 | 0,_=>by
  show (En (fun _=>((0:Nat):Int)) f n).length≤0
  rw [Qf]; simp
 | i+1,h=>by
  have ih:=OG (ss:=ss) (f:=f) (n:=n) h8 i (by omega)
  rw [Sl (by omega) h8]
  have:=Pc (val:=fun d=>((Fo ss d i:Nat):Int)) (f:=f) (a:=(ss[i]'(by omega)).f) (b:=(ss[i]'(by omega)).t) (m:=((L3 (i:Int):Nat):Int)) n
  omega
theorem QM {ss:List SumX} {ps:List PartX} {f:Int} {n:Nat} (h8:ss.length≤8) (h9:ps.length≤8):∀i:Nat,i≤ps.length→(En (fun d=>((Fr ss ps d i:Nat):Int)) f n).length≤2*(ss.length+i)
 | 0,_=>OG h8 ss.length (Nat.le_refl _)
 | i+1,h=>by
  have ih:=QM (ss:=ss) (ps:=ps) (f:=f) (n:=n) h8 h9 i (by omega)
  rw [Wb (by omega) h8 h9]
  have:=Pc (val:=fun d=>((Fr ss ps d i:Nat):Int)) (f:=f) (a:=(ps[i]'(by omega)).f) (b:=(ps[i]'(by omega)).t) (m:=((K5 (i:Int):Nat):Int)) n
  omega
theorem AHH {c:CoreX} (h8:c.ss.length≤8) (h9:c.ps.length≤8) (n:Nat):(En (fun d=>((F8 c d:Nat):Int)) c.f n).length≤2*(c.ss.length+c.ps.length):=QM h8 h9 c.ps.length (Nat.le_refl _)
end Go.Proofs.Ytmhmmomnfbfkiaa.Abs
