/- Contracts of the machine and the contracts of one law (joined by kmerge.py). No claim stands here. -/
import Derived.Below
import Derived.Carry
import Derived.ChangeCalls
import Derived.ChangeOld
import Derived.IntWalk
import Derived.KernelRfl
import Derived.Laws.Append
import Derived.Laws.AppendOwn
import Derived.Laws.BytesArg
import Derived.Laws.Cells
import Derived.Laws.CopyRow
import Derived.Laws.Entries
import Derived.Laws.MakeOwn
import Derived.Laws.NewFold
import Derived.Laws.Rows
import Derived.Laws.StructEq
import Derived.OpenShut
import Derived.Orders
import Derived.OrdersIn
import Derived.ProofKit
import Derived.RangeFuncLeaves
import Derived.RangeFuncSeq
import Derived.SizedLaws
import Derived.TacticsIn
import Derived.WalkKit
import Derived.Test.YtlflfciebidddaaMec
set_option maxRecDepth 100000
set_option linter.unusedSimpArgs false
set_option linter.unusedVariables false
namespace Go.Proofs.Ytlflfciebidddaa.Abs
open Go Go.RowKit Go.Proofs
attribute [local go_sem] Dg B8 BZ Bs BW BY DD AZ Ac BF B1 D1 DI DP Bh De BD By Be Df C7 ED B7 Cp CH Cg BK D7 C5 CN C9 D4 BO Cu Cm Cc Bj Ds Bv Cz CV Dd C4 C2 Dj BX Bb Bw CT C0 Dn Cy Dl DE Co Bl EC DT Di D6 Du DB Dm Bt D0 BS Ch Dq BV CO DW A9 Da B3 A2 CA CJ Ax Bn Bi Bc CP C3 Cs C6 Dz DO Dv BQ EB C1 DM BC Bx Bp BH CK D3 Ct DN Bg BG DG D5 Bo A5 Bk A6 Av Dx Cl CZ AF ev Ab AS Ak Az Af DR CG Do Dp Ae Ah Dr CC BU Bz CR Cd DQ D8 Ck CU Ci BL Cj DL BN DJ DC Bf Dt DF Bd Bu A7 AU setSeg nth seg mapD Ai Au AL Aw BE Br Am AY cond_true cond_false A1 A8 A4 Ay BA Db Bm List.cons_append List.nil_append Bool.not_true Bool.not_false Bool.and_true Bool.and_self Nat.lt_add_left_iff_pos Nat.zero_add Nat.add_zero List.drop_succ_cons List.drop_zero List.take_succ_cons List.take_zero beq_self_eq_true Bool.false_eq_true Ce Cr DA BM Cv D2 Ca CE DK Ao and_self and_true true_and Cf CL CM AT Dy DS Dk Dc CB DH CS Ba B0 Bq Dw Cx DZ DV Aj Aq Ap Ad CI BJ CF BI CD CQ D9 CW B9 Dh CY List.length_cons List.length_nil Nat.min_def Int.cast_ofNat_Int Int.natCast_zero Int.natCast_one decide_true decide_false List.getElem?_cons_zero List.getElem?_cons_succ BP Cq Cb DY Cw BT EA Ar As Cn DU B2
def GA (n:Int):AV:=.tup [i64 (if Fit n then n else 0),bv (Fit n)]
theorem Hj {n:Int} (h:Fit n):GA n = .tup [i64 n,bv true]:=by simp [GA,h]
theorem IQ {n:Int} (h:¬Fit n):GA n = .tup [i64 0,bv false]:=by simp [GA,h]
theorem JO {n m:Int} {b:Bool} (h:(b=true∧m=n∧Fit n)∨(b=false∧m=0∧¬Fit n)):AV.tup [i64 m,bv b]=GA n:=by
 rcases h with ⟨rfl,rfl,h⟩ | ⟨rfl,rfl,h⟩
 ·exact (Hj h).symm
 ·exact (IQ h).symm
theorem wI (n:Int):IntKind.i64.wrap n=(n+9223372036854775808) % 18446744073709551616-9223372036854775808:=IntKind.wrap_i64 n
def Ef:Option Int→AV
 | some n=>.tup [i64 n,bv true]
 | none=>.tup [i64 0,bv false]
theorem NY (n:Int):∃s u,GA n = .tup [i64 s,bv u]∧(u=false→s=0):=by
 by_cases h:Fit n
 ·exact ⟨n,true,Hj h,by simp⟩
 ·exact ⟨0,false,IQ h,fun _=>rfl⟩
theorem Nk {a:Int} (h:0≤a∧a<18446744073709551616):(BitVec.ofInt 64 a).toNat=a.toNat:=by
 rw [BitVec.toNat_ofInt]
 have:a % ((2 ^ 64:Nat):Int)=a:=Int.emod_eq_of_lt h.1 (by have:=h.2; simpa using this)
 rw [this]
theorem L5 {a:Int} (h:0≤a∧a<18446744073709551616):MV .u64 a 4294967295=a % 4294967296:=by
 rw [MV,IntKind.wrap_u64,show IntKind.u64.bits=64 from rfl,BitVec.toNat_and,Nk h,Nk (by omega)]
 rw [show (4294967295:Int).toNat=2 ^ 32-1 from rfl,Nat.and_two_pow_sub_one_eq_mod]
 omega
theorem AMn {A b:Int} {s:Nat} (hA:0≤A) (hb:0≤b∧b<2 ^ s) (h:A*2 ^ s+b<18446744073709551616):OC .u64 (A*2 ^ s) b=A*2 ^ s+b:=by
 rw [OC]
 have h0:0≤A*2 ^ s:=Int.mul_nonneg hA (Int.le_of_lt (Int.pow_pos (by omega)))
 rw [IntKind.wrap_u64,show IntKind.u64.bits=64 from rfl,BitVec.toNat_or,Nk ⟨h0,by omega⟩,Nk ⟨hb.1,by omega⟩]
 obtain ⟨n,rfl⟩:=Int.eq_ofNat_of_zero_le hA
 obtain ⟨m,rfl⟩:=Int.eq_ofNat_of_zero_le hb.1
 have e:((n:Int)*2 ^ s).toNat=2 ^ s*n:=by
  have:((n:Int)*2 ^ s)=((2 ^ s*n:Nat):Int):=by rw [Int.natCast_mul,Int.mul_comm]; simp
  rw [this]; rfl
 have hm:m<2 ^ s:=by have:=hb.2; exact_mod_cast this
 rw [e,show ((m:Int)).toNat=m from rfl,←Nat.two_pow_add_eq_or_of_lt hm]
 have e2:(((2 ^ s*n+m:Nat):Int))=(n:Int)*2 ^ s+m:=by rw [Int.natCast_add,Int.natCast_mul,Int.mul_comm]; simp
 rw [e2]
 omega
theorem Tp {U V y1 y0 u1 q r:Int} (hV:V=y1*4294967296+y0) (hq:q*y1+r=U):q*V=(U-r)*4294967296+q*y0:=by
 have e:q*(y1*4294967296+y0)=q*y1*4294967296+q*y0:=by rw [Int.mul_add,Int.mul_assoc]
 rw [hV,e,←hq]; omega
theorem Md {U V y1 y0 u1 q r:Int} (hV:V=y1*4294967296+y0) (hV0:0<V) (hq:q*y1+r=U) (hQ:(U*4294967296+u1) / V≤q) (h:q*y0≤4294967296*r+u1):q=(U*4294967296+u1) / V:=by
 have e:=Tp (u1:=u1) hV hq
 have:q≤(U*4294967296+u1) / V:=by rw [Int.le_ediv_iff_mul_le hV0]; omega
 omega
theorem TI {U V y1 y0 u1 q r:Int} (hV:V=y1*4294967296+y0) (hV0:0<V) (hUV:U<V) (hu1:u1<4294967296) (hq:q*y1+r=U) (h:4294967296≤q∨4294967296*r+u1<q*y0):(U*4294967296+u1) / V≤q-1:=by
 have e:=Tp (u1:=u1) hV hq
 have:(U*4294967296+u1) / V<q:=by
  rw [Int.ediv_lt_iff_lt_mul hV0]
  rcases h with h | h
  ·have:=Int.mul_le_mul_of_nonneg_right h (Int.le_of_lt hV0)
   omega
  ·omega
 omega
theorem Nt {U V y1 y0 u1:Int} (hV:V=y1*4294967296+y0) (hy1:2147483648≤y1) (hy0:0≤y0∧y0<4294967296) (hU:0≤U) (hUV:U<V) (hu1:0≤u1∧u1<4294967296):U / y1*y1+U % y1=U∧0≤U % y1∧U % y1<y1∧(U*4294967296+u1) / V≤U / y1∧U / y1≤4294967297∧0≤U / y1:=by
 have h0:(0:Int)<y1:=by omega
 have hV0:0<V:=by omega
 have e:=Int.emod_add_mul_ediv U y1
 rw [Int.mul_comm] at e
 have h1:=Int.emod_nonneg U (show y1≠0 by omega)
 have h2:=Int.emod_lt_of_pos U h0
 have h3:0≤U / y1:=Int.ediv_nonneg hU (by omega)
 refine ⟨by omega,h1,h2,?_,?_,h3⟩
 ·have:(U*4294967296+u1) / V<U / y1+1:=by
   rw [Int.ediv_lt_iff_lt_mul hV0]
   have e2:(U / y1+1)*V=(U / y1*y1+y1)*4294967296+(U / y1+1)*y0:=by
    rw [hV,Int.mul_add,Int.add_mul,Int.add_mul,Int.add_mul]
    have:U / y1*(y1*4294967296)=U / y1*y1*4294967296:=by rw [Int.mul_assoc]
    omega
   have:=Int.mul_nonneg (show 0≤U / y1+1 by omega) hy0.1
   omega
  omega
 ·have:U / y1<4294967298:=by
   rw [Int.ediv_lt_iff_lt_mul h0]; omega
  omega
def LenP (x:Int) (n:Nat):Prop:=0≤x∧x<2 ^ n∧(x=0∧n=0∨0<n∧2 ^ (n-1)≤x)
theorem MF {n m:Nat} (h:n≤m):(2:Int) ^ n≤2 ^ m:=by
 have:=Nat.pow_le_pow_right (n:=2) (by omega) h
 exact_mod_cast this
theorem KV (n:Nat):(0:Int)<2 ^ n:=Int.pow_pos (by omega)
theorem LenP.unique {x:Int} {n m:Nat} (h1:LenP x n) (h2:LenP x m):n=m:=by
 obtain ⟨a0,a1,a2⟩:=h1
 obtain ⟨_,b1,b2⟩:=h2
 rcases Nat.lt_trichotomy n m with h | h | h
 ·rcases b2 with ⟨_,rfl⟩ | ⟨_,b2⟩
  ·omega
  ·have:=MF (show n≤m-1 by omega); omega
 ·exact h
 ·rcases a2 with ⟨_,rfl⟩ | ⟨_,a2⟩
  ·omega
  ·have:=MF (show m≤n-1 by omega); omega
theorem LenP.shift {x:Int} {k n:Nat} (h0:0≤x) (h1:2 ^ k≤x) (h:LenP (x / 2 ^ k) n):LenP x (k+n):=by
 obtain ⟨a0,a1,a2⟩:=h
 have hk:=KV k
 have e1:x<2 ^ (k+n):=by
  rw [Int.ediv_lt_iff_lt_mul hk] at a1
  rw [Int.pow_add,Int.mul_comm]; exact a1
 have h2:1≤x / 2 ^ k:=by rw [Int.le_ediv_iff_mul_le hk]; omega
 refine ⟨h0,e1,.inr ?_⟩
 rcases a2 with ⟨a2,_⟩ | ⟨a2,a3⟩
 ·omega
 ·refine ⟨by omega,?_⟩
  rw [Int.le_ediv_iff_mul_le hk] at a3
  have:k+n-1=k+(n-1):=by omega
  rw [this,Int.pow_add,Int.mul_comm]; exact a3
def FQ (x:Int):Nat:=if x=0 then 0 else Nat.log2 x.toNat+1
theorem Lz {x:Int} (h:0≤x):LenP x (FQ x):=by
 unfold FQ
 split
 ·next e=>subst e; exact ⟨by omega,by decide,.inl ⟨rfl,rfl⟩⟩
 ·next e =>
  have hx:x.toNat≠0:=by omega
  have h1:=Nat.lt_log2_self (n:=x.toNat)
  have h2:=Nat.log2_self_le hx
  refine ⟨h,?_,.inr ⟨by omega,?_⟩⟩
  ·have:((x.toNat:Nat):Int)<((2 ^ (Nat.log2 x.toNat+1):Nat):Int):=by exact_mod_cast h1
   rw [Int.toNat_of_nonneg h] at this
   simpa using this
  ·have:((2 ^ (Nat.log2 x.toNat):Nat):Int)≤((x.toNat:Nat):Int):=by exact_mod_cast h2
   rw [Int.toNat_of_nonneg h] at this
   rw [show Nat.log2 x.toNat+1-1=Nat.log2 x.toNat by omega]
   simpa using this
theorem ADS {x:Int} {n:Nat} (h:LenP x n):FQ x=n:=(Lz h.1).unique h
theorem S4 {x:Int} (h:0≤x∧x<18446744073709551616):FQ x≤64:=by
 obtain ⟨_,_,a⟩:=Lz h.1
 rcases a with ⟨_,a⟩ | ⟨a,b⟩
 ·omega
 ·refine Nat.le_of_not_lt fun h2=>?_
  have:=MF (show 64≤FQ x-1 by omega)
  omega
set_option maxRecDepth 20000 in
abbrev tab8:ByteArray:=⟨⟨[0,1,2,2,3,3,3,3,4,4,4,4,4,4,4,4,5,5,5,5,5,5,5,5,5,5,5,5,5,5,5,5,6,6,6,6,6,6,6,6,6,6,6,6,6,6,6,6,6,6,6,6,6,6,6,6,6,6,6,6,6,6,6,6,7,7,7,7,7,7,7,7,7,7,7,7,7,7,7,7,7,7,7,7,7,7,7,7,7,7,7,7,7,7,7,7,7,7,7,7,7,7,7,7,7,7,7,7,7,7,7,7,7,7,7,7,7,7,7,7,7,7,7,7,7,7,7,7,8,8,8,8,8,8,8,8,8,8,8,8,8,8,8,8,8,8,8,8,8,8,8,8,8,8,8,8,8,8,8,8,8,8,8,8,8,8,8,8,8,8,8,8,8,8,8,8,8,8,8,8,8,8,8,8,8,8,8,8,8,8,8,8,8,8,8,8,8,8,8,8,8,8,8,8,8,8,8,8,8,8,8,8,8,8,8,8,8,8,8,8,8,8,8,8,8,8,8,8,8,8,8,8,8,8,8,8,8,8,8,8,8,8,8,8,8,8,8,8,8,8,8,8,8,8,8,8]⟩⟩
set_option maxRecDepth 20000 in
theorem ANm:tab8.size=256:=(rfl)
set_option maxRecDepth 20000 in
theorem AFf:∀b:Nat,b<256→EE tab8 b=(FQ b:Nat):=by decide +kernel
theorem Hl {x c:Int} (hc:0≤c):x.fdiv c=x / c:=Int.fdiv_eq_ediv_of_nonneg _ hc
theorem O8 {x:Int} (k:Nat) (h:2 ^ k≤x):(FQ x:Int)=k+FQ (x / 2 ^ k):=by
 have h0:0≤x:=by have:=KV k; omega
 have h2:0≤x / 2 ^ k:=Int.ediv_nonneg h0 (Int.le_of_lt (KV k))
 rw [ADS (LenP.shift h0 h (Lz h2)),Int.natCast_add]
theorem Mf {x:Int} (h:4294967296≤x):(FQ x:Int)=32+FQ (x.fdiv 4294967296):=by rw [Hl (by omega)]; exact O8 32 h
theorem M4 {x:Int} (h:65536≤x):(FQ x:Int)=16+FQ (x.fdiv 65536):=by rw [Hl (by omega)]; exact O8 16 h
theorem NK {x:Int} (h:256≤x):(FQ x:Int)=8+FQ (x.fdiv 256):=by rw [Hl (by omega)]; exact O8 8 h
theorem WA {z:Int} (h:0≤z∧z<256):EE tab8 (IntKind.u8.wrap z).toNat=FQ z:=by
 have e:IntKind.u8.wrap z=z:=by rw [IntKind.wrap_u8]; omega
 rw [e,AFf _ (by omega),Int.toNat_of_nonneg h.1]
theorem Yr {z:Int}:0≤IntKind.u8.wrap z∧IntKind.u8.wrap z<(tab8.size:Int):=by
 rw [ANm,IntKind.wrap_u8]; omega
theorem W2 {z:Int} (h:0≤z∧z<256):FQ z≤8:=by
 obtain ⟨_,_,a⟩:=Lz h.1
 rcases a with ⟨_,a⟩ | ⟨a,b⟩
 ·omega
 ·refine Nat.le_of_not_lt fun h2=>?_
  have:=MF (show 8≤FQ z-1 by omega)
  omega
theorem XJ {c z:Int} (hc:0≤c∧c≤100) (hz:0≤z∧z<256):IntKind.i64.wrap (c+IntKind.i64.wrap (FQ z:Int))=c+FQ z:=by
 have:=W2 hz
 rw [IntKind.wrap_i64,IntKind.wrap_i64]; omega
theorem LQ {x y:Int} (hx:0≤x∧x≤4294967295) (hy:0≤y∧y≤4294967295):0≤x*y∧x*y≤18446744065119617025:=by
 refine ⟨Int.mul_nonneg hx.1 hy.1,?_⟩
 have:=Int.mul_le_mul hx.2 hy.2 hy.1 (by omega)
 omega
theorem ABV (x y:Int):x*y=x / 4294967296*(y / 4294967296)*18446744073709551616+x / 4294967296*(y % 4294967296)*4294967296+x % 4294967296*(y / 4294967296)*4294967296+x % 4294967296*(y % 4294967296):=by
 have hx:=Int.emod_add_mul_ediv x 4294967296
 have hy:=Int.emod_add_mul_ediv y 4294967296
 have e:x*y=(x % 4294967296+4294967296*(x / 4294967296))*(y % 4294967296+4294967296*(y / 4294967296)):=by rw [hx,hy]
 rw [e]
 simp -implicitDefEqProofs only [Int.add_mul,Int.mul_add]
 have e1:∀p q:Int,p*(4294967296*q)=p*q*4294967296:=fun p q=>by rw [Int.mul_left_comm]; omega
 have e2:∀p q:Int,4294967296*p*q=p*q*4294967296:=fun p q=>by rw [Int.mul_assoc]; omega
 have e3:∀p q:Int,4294967296*p*(4294967296*q)=p*q*18446744073709551616:=fun p q=>by rw [e1,e2]; omega
 rw [e1,e2,e3]
 omega
theorem AQk {hi lo y:Int} (h:0≤hi∧hi<y) (hy:y<18446744073709551616) (hl:0≤lo∧lo<18446744073709551616):∃(s r:Nat) (V U T:Int),64-(FQ y:Int)=s∧s≤64∧IntKind.u64.wrap (s:Int)=s∧IntKind.u64.wrap (64-(s:Int))=r∧r≤64 ∧
  IntKind.u64.wrap (y*2 ^ s)=V∧9223372036854775808≤V∧V<18446744073709551616∧OC .u64 (IntKind.u64.wrap (hi*2 ^ s)) (lo.fdiv (2 ^ r))=U∧0≤U∧U<V∧IntKind.u64.wrap (lo*2 ^ s)=T∧0≤T∧T<18446744073709551616∧U*18446744073709551616+T=(hi*18446744073709551616+lo)*2 ^ s∧V=y*2 ^ s:=by
 have hb:=S4 (x:=y) (by omega)
 obtain ⟨_,l1,l2⟩:=Lz (x:=y) (by omega)
 obtain ⟨l3,l4⟩:0<FQ y∧2 ^ (FQ y-1)≤y:=by rcases l2 with l2 | l2; omega; exact l2
 obtain ⟨s,hs⟩:∃s:Nat,FQ y+s=64:=⟨64-FQ y,by omega⟩
 have hP:=KV s
 have hR:=KV (64-s)
 have hPR:(2:Int) ^ (64-s)*2 ^ s=18446744073709551616:=by rw [←Int.pow_add,show 64-s+s=64 by omega]; rfl
 have hV1:9223372036854775808≤y*2 ^ s:=by
  have e:(2:Int) ^ (FQ y-1)*2 ^ s=9223372036854775808:=by rw [←Int.pow_add,show FQ y-1+s=63 by omega]; rfl
  have:=Int.mul_le_mul_of_nonneg_right l4 (Int.le_of_lt hP)
  omega
 have hV2:y*2 ^ s<18446744073709551616:=by
  have e:(2:Int) ^ (FQ y)*2 ^ s=18446744073709551616:=by rw [←Int.pow_add,show FQ y+s=64 by omega]; rfl
  have:=Int.mul_lt_mul_of_pos_right l1 hP
  omega
 have hU0:0≤hi*2 ^ s:=Int.mul_nonneg h.1 (Int.le_of_lt hP)
 have hU1:hi*2 ^ s+2 ^ s≤y*2 ^ s:=by
  have:=Int.mul_le_mul_of_nonneg_right (show hi+1≤y by omega) (Int.le_of_lt hP)
  rw [Int.add_mul] at this; omega
 have hq0:0≤lo / 2 ^ (64-s):=Int.ediv_nonneg hl.1 (Int.le_of_lt hR)
 have hq1:lo / 2 ^ (64-s)<2 ^ s:=by rw [Int.ediv_lt_iff_lt_mul hR,Int.mul_comm,hPR]; exact hl.2
 have hm0:=Int.emod_nonneg lo (show (2:Int) ^ (64-s)≠0 by omega)
 have hm1:=Int.emod_lt_of_pos lo hR
 have hlo:=Int.emod_add_mul_ediv lo (2 ^ (64-s))
 have eT:lo*2 ^ s=lo % 2 ^ (64-s)*2 ^ s+lo / 2 ^ (64-s)*18446744073709551616:=by
  conv=>lhs; rw [←hlo]
  rw [Int.add_mul,←hPR]
  congr 1
  rw [Int.mul_comm ((2:Int) ^ (64-s)) (lo / 2 ^ (64-s)),Int.mul_assoc]
 have hT0:0≤lo % 2 ^ (64-s)*2 ^ s:=Int.mul_nonneg hm0 (Int.le_of_lt hP)
 have hT1:lo % 2 ^ (64-s)*2 ^ s<18446744073709551616:=by
  have:=Int.mul_lt_mul_of_pos_right hm1 hP
  omega
 refine ⟨s,64-s,y*2 ^ s,hi*2 ^ s+lo / 2 ^ (64-s),lo % 2 ^ (64-s)*2 ^ s,by omega,by omega,FA (by omega),by rw [FA (by omega)]; omega,by omega,FA (by omega),hV1,hV2,?_,by omega,by omega,?_,hT0,hT1,?_,rfl⟩
 ·rw [FA (by omega),Hl (Int.le_of_lt hR)]
  exact AMn h.1 ⟨hq0,hq1⟩ (by omega)
 ·rw [IntKind.wrap_u64,eT]; omega
 ·rw [Int.add_mul (hi*18446744073709551616) lo,eT,Int.add_mul]
  have:hi*18446744073709551616*2 ^ s=hi*2 ^ s*18446744073709551616:=by rw [Int.mul_assoc,Int.mul_comm 18446744073709551616,←Int.mul_assoc]
  omega
theorem NA {p c:Int} (hc:0<c):p / c*c+p % c=p∧0≤p % c∧p % c<c:=by
 have e:=Int.emod_add_mul_ediv p c
 rw [Int.mul_comm] at e
 exact ⟨by omega,Int.emod_nonneg _ (by omega),Int.emod_lt_of_pos _ hc⟩
theorem AHg {p c q r:Int} (hc:0<c) (h:q*c+r=p) (h1:0≤r) (h2:r<c):p / c=q∧p % c=r :=
 (Int.ediv_emod_unique hc).2 ⟨by rw [Int.mul_comm] at h; omega,h1,h2⟩
set_option maxRecDepth 20000 in
theorem Tw {x:Int} (h:0≤x∧x<18446744073709551616):DataW Try.prog Ur [u64 x] (i64 (FQ x)):=by
 refine A3 ACt (by simp) ?_
 simp -implicitDefEqProofs -proj only [go_sem,seval]
 (repeat' first
  | ((with_reducible first | refine Ej (fun h=>?_) (fun h=>?_) | refine Eb (fun h=>?_) (fun h=>?_) | refine Er (fun h=>?_) (fun h=>?_)) <;> (simp -implicitDefEqProofs -proj only [go_sem,seval, *]; try (revert h; intro _)))
  | ((with_reducible first | refine Aa (fun _ hb=>?_) | refine EL (fun _ hb=>?_)); simp only [Em,Ep,AY,Heap.none_get,and_true,true_and] at hb; simp -implicitDefEqProofs -proj only [go_sem,seval, *]; try (revert hb; intro _))
  | ((with_reducible first | refine EZ _ rfl (by simp) ?_ | refine Es _ rfl (by simp) ?_); simp -implicitDefEqProofs -proj only [go_sem,seval, *])
  | (with_reducible refine BB ?_ (fun h=>?_); first | ((focus first | decide | omega); try clear h; try simp -implicitDefEqProofs -proj only [go_sem,seval, *]) | (rotate_left; try clear h; try simp -implicitDefEqProofs -proj only [go_sem,seval, *]; rotate_right)))
 all_goals try exact Yr.2
 all_goals
  refine AJ ?_
  simp -implicitDefEqProofs only [decide_eq_true_eq,decide_eq_false_iff_not,Bool.not_eq_true',Bool.not_eq_false',Bool.and_eq_true,Bool.and_eq_false_iff,Bool.or_eq_true,Bool.or_eq_false_iff,beq_iff_eq,beq_eq_false_iff_ne,ne_eq,decide_eq_decide,Bool.not_eq_true,Bool.not_eq_false] at *
  simp -implicitDefEqProofs only [←decide_not,←Bool.decide_and,←Bool.decide_or,Bool.beq_eq_decide_eq,AV.d.injEq,D.bool.injEq,D.int.injEq,D.str.injEq,AV.tup.injEq,AV.agg.injEq,List.cons.injEq,true_and,and_true,decide_eq_decide,true_eq_decide_iff,false_eq_decide_iff,decide_eq_true_eq,decide_eq_false_iff_not,Bool.true_eq,Bool.false_eq]
 all_goals
  first
  | rw [Mf (by assumption),M4 (by assumption),NK (by assumption)]
  | rw [Mf (by assumption),M4 (by assumption)]
  | rw [Mf (by assumption),NK (by assumption)]
  | rw [Mf (by assumption)]
  | rw [M4 (by assumption),NK (by assumption)]
  | rw [M4 (by assumption)]
  | rw [NK (by assumption)]
  | skip
 all_goals
  try simp -implicitDefEqProofs only [Hl (show (0:Int)≤4294967296 by omega),Hl (show (0:Int)≤65536 by omega),Hl (show (0:Int)≤256 by omega)] at *
  rw [WA (by omega),XJ (by decide) (by omega)] <;>
  first | (simp -implicitDefEqProofs only [IntKind.wrap_i64]; done) | (simp -implicitDefEqProofs only [IntKind.wrap_i64]; omega) | omega
theorem APa {x:Int} (h:0≤x∧x<18446744073709551616):DataW Try.prog AOb [u64 x] (i64 (64-FQ x)):=by
 have hb:=S4 h
 refine A3 AKK (by simp) ?_
 simp -implicitDefEqProofs -proj only [go_sem,seval]
 (repeat' first
  | (refine AQ (Tw h) ?_; simp -implicitDefEqProofs -proj only [go_sem,seval, *])
  | (refine E0 (Tw h) ?_; simp -implicitDefEqProofs -proj only [go_sem,seval, *])
  | ((with_reducible first | refine Ej (fun h=>?_) (fun h=>?_) | refine Eb (fun h=>?_) (fun h=>?_) | refine Er (fun h=>?_) (fun h=>?_)) <;> (simp -implicitDefEqProofs -proj only [go_sem,seval, *]; try (revert h; intro _)))
  | ((with_reducible first | refine Aa (fun _ hb=>?_) | refine EL (fun _ hb=>?_)); simp -implicitDefEqProofs only [Em,Ep,AY,Heap.none_get,and_true,true_and] at hb; simp -implicitDefEqProofs -proj only [go_sem,seval, *]; try (revert hb; intro _))
  | ((with_reducible first | refine EZ _ rfl (by simp) ?_ | refine Es _ rfl (by simp) ?_); simp -implicitDefEqProofs -proj only [go_sem,seval, *])
  | (with_reducible refine BB ?_ (fun h=>?_); first | ((focus first | decide | omega); try clear h; try simp -implicitDefEqProofs -proj only [go_sem,seval, *]) | (rotate_left; try clear h; try simp -implicitDefEqProofs -proj only [go_sem,seval, *]; rotate_right)))
 refine AJ ?_
 simp -implicitDefEqProofs only [←decide_not,←Bool.decide_and,←Bool.decide_or,Bool.beq_eq_decide_eq,AV.d.injEq,D.bool.injEq,D.int.injEq,D.str.injEq,AV.tup.injEq,AV.agg.injEq,List.cons.injEq,true_and,and_true,decide_eq_decide,true_eq_decide_iff,false_eq_decide_iff,decide_eq_true_eq,decide_eq_false_iff_not,Bool.true_eq,Bool.false_eq,IntKind.wrap_i64]
 omega
theorem AG5 {x y:Int} (h:0≤x∧x<18446744073709551616) (h':0≤y∧y<18446744073709551616):DataW Try.prog Zp [u64 x,u64 y] (.tup [u64 (x*y / 18446744073709551616),u64 (x*y % 18446744073709551616)]):=by
 refine A3 Wf (by simp) ?_
 simp -implicitDefEqProofs -proj only [go_sem,seval]
 (repeat' first
  | ((with_reducible first | refine Ej (fun h=>?_) (fun h=>?_) | refine Eb (fun h=>?_) (fun h=>?_) | refine Er (fun h=>?_) (fun h=>?_)) <;> (simp -implicitDefEqProofs -proj only [go_sem,seval, *]; try (revert h; intro _)))
  | ((with_reducible first | refine Aa (fun _ hb=>?_) | refine EL (fun _ hb=>?_)); simp only [Em,Ep,AY,Heap.none_get,and_true,true_and] at hb; simp -implicitDefEqProofs -proj only [go_sem,seval, *]; try (revert hb; intro _))
  | ((with_reducible first | refine EZ _ rfl (by simp) ?_ | refine Es _ rfl (by simp) ?_); simp -implicitDefEqProofs -proj only [go_sem,seval, *])
  | (with_reducible refine BB ?_ (fun h=>?_); first | ((focus first | decide | omega); try clear h; try simp -implicitDefEqProofs -proj only [go_sem,seval, *]) | (rotate_left; try clear h; try simp -implicitDefEqProofs -proj only [go_sem,seval, *]; rotate_right)))
 have hp:=ABV x y
 have fx:x.fdiv 4294967296=x / 4294967296:=Hl (by omega)
 have fy:y.fdiv 4294967296=y / 4294967296:=Hl (by omega)
 rw [fx,fy,L5 h,L5 h']
 have a1:0≤x / 4294967296∧x / 4294967296≤4294967295:=by omega
 have a2:0≤x % 4294967296∧x % 4294967296≤4294967295:=by omega
 have b1:0≤y / 4294967296∧y / 4294967296≤4294967295:=by omega
 have b2:0≤y % 4294967296∧y % 4294967296≤4294967295:=by omega
 have p1:=LQ a1 b1
 have p2:=LQ a1 b2
 have p3:=LQ a2 b1
 have p4:=LQ a2 b2
 rw [hp]
 generalize x / 4294967296*(y / 4294967296)=P at *
 generalize x / 4294967296*(y % 4294967296)=q at *
 generalize x % 4294967296*(y / 4294967296)=r at *
 generalize x % 4294967296*(y % 4294967296)=t at *
 clear fx fy a1 a2 b1 b2 hp
 rw [FA (show 0≤t∧t≤18446744073709551615 by omega),FA (show 0≤q∧q≤18446744073709551615 by omega),FA (show 0≤r∧r≤18446744073709551615 by omega),FA (show 0≤P∧P≤18446744073709551615 by omega)]
 simp -implicitDefEqProofs only [Hl (show (0:Int)≤4294967296 by omega)]
 rw [FA (show 0≤q+t / 4294967296∧q+t / 4294967296≤18446744073709551615 by omega),L5 (by omega)]
 refine AJ ?_
 simp -implicitDefEqProofs only [IntKind.wrap_u64,←decide_not,←Bool.decide_and,←Bool.decide_or,Bool.beq_eq_decide_eq,AV.d.injEq,D.bool.injEq,D.int.injEq,D.str.injEq,AV.tup.injEq,AV.agg.injEq,List.cons.injEq,true_and,and_true,decide_eq_decide,true_eq_decide_iff,false_eq_decide_iff,decide_eq_true_eq,decide_eq_false_iff_not,Bool.true_eq,Bool.false_eq]
 omega
set_option maxRecDepth 20000 in
theorem AD1 {V s y1 y0 U w w2:Int} {Q:Out→St→Prop} {k:List Item} {S:St} (hn:135=S.n) (ha:AP S.t [(2,u64 V),(8,u64 s),(9,u64 y1),(10,u64 y0),(11,u64 U),(13,u64 w),(14,u64 w2),(15,u64 (U / y1)),(16,u64 (U % y1))])
  (hV:V=y1*4294967296+y0) (hy1:2147483648≤y1∧y1<4294967296) (hy0:0≤y0∧y0<4294967296) (hU:0≤U) (hUV:U<V) (hw:0≤w∧w<4294967296)
  (after:∀(t:TM) (H:Heap) (r:Int),AP t [(2,u64 V),(8,u64 s),(9,u64 y1),(10,u64 y0),(11,u64 U),(13,u64 w),(14,u64 w2),(15,u64 ((U*4294967296+w) / V)),(16,u64 r)]→E5 Try.prog Q k (.exit 0) ⟨135,t,H⟩):KN Try.prog Q Qd k S:=by
 obtain ⟨i1,i2,i3,i4,i5,i6⟩:=Nt hV hy1.1 hy0 hU hUV hw
 refine EX (fun p:Int×Int=>p.1*y1+p.2=U∧0≤p.2∧p.2<4294967296∧(U*4294967296+w) / V≤p.1∧p.1≤4294967297∧0≤p.1) 135 (fun p=>[(2,u64 V),(8,u64 s),(9,u64 y1),(10,u64 y0),(11,u64 U),(13,u64 w),(14,u64 w2),(15,u64 p.1),(16,u64 p.2)]) (fun _=>[]) (fun p=>p.1.toNat) (U / y1,U % y1) ⟨i1,i2,by simp -implicitDefEqProofs only [Ac]; omega,i4,i5,i6⟩ hn ha trivial ?_
 rintro ⟨q,r⟩ ⟨h1,h2,h3,h4,h5,h6⟩
 simp -implicitDefEqProofs only [AZ,Ac] at h1 h2 h3 h4 h5 h6
 have hm:q<4294967296→0≤q*y0∧q*y0≤18446744065119617025:=fun h=>LQ (by omega) (by omega)
 have hm2:q≤4294967296→q*y0≤4294967296*4294967295:=fun h=>Int.mul_le_mul h (by omega) hy0.1 (by omega)
 have hQ0:0≤(U*4294967296+w) / V:=Int.ediv_nonneg (by omega) (by omega)
 have stop:=Md (u1:=w) hV (by omega) h1 h4
 have go:=TI (u1:=w) hV (by omega) hUV hw.2 h1
 have stop2:∀a b:Int,a=q-1→b=r+y1→4294967296≤b→(U*4294967296+w) / V≤a→a=(U*4294967296+w) / V:=by
  rintro a b rfl rfl hb hc
  refine Md (u1:=w) (q:=q-1) (r:=r+y1) hV (by omega) (by rw [Int.sub_mul]; omega) hc ?_
  have e:(q-1)*y0=q*y0-y0:=by rw [Int.sub_mul]; omega
  have:=Int.mul_le_mul (show q-1≤4294967296 by omega) (show y0≤4294967295 by omega) hy0.1 (by omega)
  omega
 have next:∀a b:Int,a=q-1→b=r+y1→b<4294967296→(U*4294967296+w) / V≤a→a*y1+b=U∧0≤b∧b<4294967296∧(U*4294967296+w) / V≤a∧a≤4294967297∧0≤a:=by
  rintro a b rfl rfl hb hc
  exact ⟨by rw [Int.sub_mul]; omega,by omega,hb,hc,by omega,by omega⟩
 have hwrap1:0<q→IntKind.u64.wrap (q-1)=q-1:=fun h=>FA (by omega)
 have hwrap2:IntKind.u64.wrap (r+y1)=r+y1:=FA (by omega)
 have hwrap3:IntKind.u64.wrap (IntKind.u64.wrap (4294967296*r)+w)=4294967296*r+w:=by rw [FA (show 0≤4294967296*r∧4294967296*r≤18446744073709551615 by omega),FA (by omega)]
 have hwrap4:q<4294967296→IntKind.u64.wrap (q*y0)=q*y0:=fun h=>FA (by have:=hm h; omega)
 generalize hN:(U*4294967296+w) / V=N at *
 have body:N≤q-1→0<q:=by omega
 have cont:∀(h:N≤q-1),0<q:=by omega
 simp -implicitDefEqProofs -proj only [go_sem,seval]
 refine Ej (fun g=>?_) (fun g=>?_)
 ·simp -implicitDefEqProofs only [decide_eq_true_eq,decide_eq_false_iff_not,Bool.not_eq_true',Bool.not_eq_false',Bool.and_eq_true,Bool.and_eq_false_iff,Bool.or_eq_true,Bool.or_eq_false_iff,beq_iff_eq,beq_eq_false_iff_ne,ne_eq,decide_eq_decide,Bool.not_eq_true,Bool.not_eq_false] at g
  have hgo:=go (.inl g)
  have hw1:=hwrap1 (by omega)
  simp -implicitDefEqProofs -proj only [go_sem,seval,decide_eq_true g,hw1,hwrap2]
  refine Eb (fun c=>?_) (fun c=>?_)
  ·simp -implicitDefEqProofs only [decide_eq_true_eq,decide_eq_false_iff_not,Bool.not_eq_true',Bool.not_eq_false',Bool.and_eq_true,Bool.and_eq_false_iff,Bool.or_eq_true,Bool.or_eq_false_iff,beq_iff_eq,beq_eq_false_iff_ne,ne_eq,decide_eq_decide,Bool.not_eq_true,Bool.not_eq_false] at c
   simp -implicitDefEqProofs -proj only [go_sem,seval,decide_eq_true c]
   rw [←stop2 _ _ rfl rfl c hgo] at after
   refine after _ _ (r+y1) ?_
   simp -implicitDefEqProofs -proj only [go_sem,seval,AP]
  ·simp -implicitDefEqProofs only [decide_eq_true_eq,decide_eq_false_iff_not,Bool.not_eq_true',Bool.not_eq_false',Bool.and_eq_true,Bool.and_eq_false_iff,Bool.or_eq_true,Bool.or_eq_false_iff,beq_iff_eq,beq_eq_false_iff_ne,ne_eq,decide_eq_decide,Bool.not_eq_true,Bool.not_eq_false] at c
   simp -implicitDefEqProofs -proj only [go_sem,seval,decide_eq_false c]
   refine EF (q-1,r+y1) (next _ _ rfl rfl (by omega) hgo) (by simp -implicitDefEqProofs only [AZ]; omega) rfl ?_ trivial
   simp -implicitDefEqProofs -proj only [go_sem,seval,AP]
 ·simp -implicitDefEqProofs only [decide_eq_true_eq,decide_eq_false_iff_not,Bool.not_eq_true',Bool.not_eq_false',Bool.and_eq_true,Bool.and_eq_false_iff,Bool.or_eq_true,Bool.or_eq_false_iff,beq_iff_eq,beq_eq_false_iff_ne,ne_eq,decide_eq_decide,Bool.not_eq_true,Bool.not_eq_false] at g
  have hw4:=hwrap4 (by omega)
  have hm':=hm (by omega)
  simp -implicitDefEqProofs -proj only [go_sem,seval,decide_eq_false g,hwrap3,hw4]
  refine Eb (fun g2=>?_) (fun g2=>?_)
  ·simp -implicitDefEqProofs only [decide_eq_true_eq,decide_eq_false_iff_not,Bool.not_eq_true',Bool.not_eq_false',Bool.and_eq_true,Bool.and_eq_false_iff,Bool.or_eq_true,Bool.or_eq_false_iff,beq_iff_eq,beq_eq_false_iff_ne,ne_eq,decide_eq_decide,Bool.not_eq_true,Bool.not_eq_false] at g2
   have hgo:=go (.inr g2)
   have hw1:=hwrap1 (by omega)
   simp -implicitDefEqProofs -proj only [go_sem,seval,decide_eq_true g2,hw1,hwrap2]
   refine Eb (fun c=>?_) (fun c=>?_)
   ·simp -implicitDefEqProofs only [decide_eq_true_eq,decide_eq_false_iff_not,Bool.not_eq_true',Bool.not_eq_false',Bool.and_eq_true,Bool.and_eq_false_iff,Bool.or_eq_true,Bool.or_eq_false_iff,beq_iff_eq,beq_eq_false_iff_ne,ne_eq,decide_eq_decide,Bool.not_eq_true,Bool.not_eq_false] at c
    simp -implicitDefEqProofs -proj only [go_sem,seval,decide_eq_true c]
    rw [←stop2 _ _ rfl rfl c hgo] at after
    refine after _ _ (r+y1) ?_
    simp -implicitDefEqProofs -proj only [go_sem,seval,AP]
   ·simp -implicitDefEqProofs only [decide_eq_true_eq,decide_eq_false_iff_not,Bool.not_eq_true',Bool.not_eq_false',Bool.and_eq_true,Bool.and_eq_false_iff,Bool.or_eq_true,Bool.or_eq_false_iff,beq_iff_eq,beq_eq_false_iff_ne,ne_eq,decide_eq_decide,Bool.not_eq_true,Bool.not_eq_false] at c
    simp -implicitDefEqProofs -proj only [go_sem,seval,decide_eq_false c]
    refine EF (q-1,r+y1) (next _ _ rfl rfl (by omega) hgo) (by simp -implicitDefEqProofs only [AZ]; omega) rfl ?_ trivial
    simp -implicitDefEqProofs -proj only [go_sem,seval,AP]
  ·simp -implicitDefEqProofs only [decide_eq_true_eq,decide_eq_false_iff_not,Bool.not_eq_true',Bool.not_eq_false',Bool.and_eq_true,Bool.and_eq_false_iff,Bool.or_eq_true,Bool.or_eq_false_iff,beq_iff_eq,beq_eq_false_iff_ne,ne_eq,decide_eq_decide,Bool.not_eq_true,Bool.not_eq_false] at g2
   simp -implicitDefEqProofs -proj only [go_sem,seval,decide_eq_false g2]
   rw [←stop (by omega)] at after
   refine after _ _ r ?_
   simp -implicitDefEqProofs -proj only [go_sem,seval,AP]
set_option maxRecDepth 20000 in
theorem AMK {V s y1 y0 w2 q1 W:Int} {Q:Out→St→Prop} {k:List Item} {S:St} (hn:135=S.n) (ha:AP S.t [(2,u64 V),(8,u64 s),(9,u64 y1),(10,u64 y0),(14,u64 w2),(15,u64 q1),(17,u64 W),(18,u64 (W / y1)),(16,u64 (W % y1))])
  (hV:V=y1*4294967296+y0) (hy1:2147483648≤y1∧y1<4294967296) (hy0:0≤y0∧y0<4294967296) (hU:0≤W) (hUV:W<V) (hw:0≤w2∧w2<4294967296)
  (after:∀(t:TM) (H:Heap) (r:Int),AP t [(2,u64 V),(8,u64 s),(9,u64 y1),(10,u64 y0),(14,u64 w2),(15,u64 q1),(17,u64 W),(18,u64 ((W*4294967296+w2) / V)),(16,u64 r)]→E5 Try.prog Q k (.exit 2) ⟨135,t,H⟩):KN Try.prog Q TV k S:=by
 obtain ⟨i1,i2,i3,i4,i5,i6⟩:=Nt hV hy1.1 hy0 hU hUV hw
 refine EX (fun p:Int×Int=>p.1*y1+p.2=W∧0≤p.2∧p.2<4294967296∧(W*4294967296+w2) / V≤p.1∧p.1≤4294967297∧0≤p.1) 135 (fun p=>[(2,u64 V),(8,u64 s),(9,u64 y1),(10,u64 y0),(14,u64 w2),(15,u64 q1),(17,u64 W),(18,u64 p.1),(16,u64 p.2)]) (fun _=>[]) (fun p=>p.1.toNat) (W / y1,W % y1) ⟨i1,i2,by simp -implicitDefEqProofs only [Ac]; omega,i4,i5,i6⟩ hn ha trivial ?_
 rintro ⟨q,r⟩ ⟨h1,h2,h3,h4,h5,h6⟩
 simp -implicitDefEqProofs only [AZ,Ac] at h1 h2 h3 h4 h5 h6
 have hm:q<4294967296→0≤q*y0∧q*y0≤18446744065119617025:=fun h=>LQ (by omega) (by omega)
 have hm2:q≤4294967296→q*y0≤4294967296*4294967295:=fun h=>Int.mul_le_mul h (by omega) hy0.1 (by omega)
 have hQ0:0≤(W*4294967296+w2) / V:=Int.ediv_nonneg (by omega) (by omega)
 have stop:=Md (u1:=w2) hV (by omega) h1 h4
 have go:=TI (u1:=w2) hV (by omega) hUV hw.2 h1
 have stop2:∀a b:Int,a=q-1→b=r+y1→4294967296≤b→(W*4294967296+w2) / V≤a→a=(W*4294967296+w2) / V:=by
  rintro a b rfl rfl hb hc
  refine Md (u1:=w2) (q:=q-1) (r:=r+y1) hV (by omega) (by rw [Int.sub_mul]; omega) hc ?_
  have e:(q-1)*y0=q*y0-y0:=by rw [Int.sub_mul]; omega
  have:=Int.mul_le_mul (show q-1≤4294967296 by omega) (show y0≤4294967295 by omega) hy0.1 (by omega)
  omega
 have next:∀a b:Int,a=q-1→b=r+y1→b<4294967296→(W*4294967296+w2) / V≤a→a*y1+b=W∧0≤b∧b<4294967296∧(W*4294967296+w2) / V≤a∧a≤4294967297∧0≤a:=by
  rintro a b rfl rfl hb hc
  exact ⟨by rw [Int.sub_mul]; omega,by omega,hb,hc,by omega,by omega⟩
 have hwrap1:0<q→IntKind.u64.wrap (q-1)=q-1:=fun h=>FA (by omega)
 have hwrap2:IntKind.u64.wrap (r+y1)=r+y1:=FA (by omega)
 have hwrap3:IntKind.u64.wrap (IntKind.u64.wrap (4294967296*r)+w2)=4294967296*r+w2:=by rw [FA (show 0≤4294967296*r∧4294967296*r≤18446744073709551615 by omega),FA (by omega)]
 have hwrap4:q<4294967296→IntKind.u64.wrap (q*y0)=q*y0:=fun h=>FA (by have:=hm h; omega)
 generalize hN:(W*4294967296+w2) / V=N at *
 have body:N≤q-1→0<q:=by omega
 have cont:∀(h:N≤q-1),0<q:=by omega
 simp -implicitDefEqProofs -proj only [go_sem,seval]
 refine Ej (fun g=>?_) (fun g=>?_)
 ·simp -implicitDefEqProofs only [decide_eq_true_eq,decide_eq_false_iff_not,Bool.not_eq_true',Bool.not_eq_false',Bool.and_eq_true,Bool.and_eq_false_iff,Bool.or_eq_true,Bool.or_eq_false_iff,beq_iff_eq,beq_eq_false_iff_ne,ne_eq,decide_eq_decide,Bool.not_eq_true,Bool.not_eq_false] at g
  have hgo:=go (.inl g)
  have hw1:=hwrap1 (by omega)
  simp -implicitDefEqProofs -proj only [go_sem,seval,decide_eq_true g,hw1,hwrap2]
  refine Eb (fun c=>?_) (fun c=>?_)
  ·simp -implicitDefEqProofs only [decide_eq_true_eq,decide_eq_false_iff_not,Bool.not_eq_true',Bool.not_eq_false',Bool.and_eq_true,Bool.and_eq_false_iff,Bool.or_eq_true,Bool.or_eq_false_iff,beq_iff_eq,beq_eq_false_iff_ne,ne_eq,decide_eq_decide,Bool.not_eq_true,Bool.not_eq_false] at c
   simp -implicitDefEqProofs -proj only [go_sem,seval,decide_eq_true c]
   rw [←stop2 _ _ rfl rfl c hgo] at after
   refine after _ _ (r+y1) ?_
   simp -implicitDefEqProofs -proj only [go_sem,seval,AP]
  ·simp -implicitDefEqProofs only [decide_eq_true_eq,decide_eq_false_iff_not,Bool.not_eq_true',Bool.not_eq_false',Bool.and_eq_true,Bool.and_eq_false_iff,Bool.or_eq_true,Bool.or_eq_false_iff,beq_iff_eq,beq_eq_false_iff_ne,ne_eq,decide_eq_decide,Bool.not_eq_true,Bool.not_eq_false] at c
   simp -implicitDefEqProofs -proj only [go_sem,seval,decide_eq_false c]
   refine EF (q-1,r+y1) (next _ _ rfl rfl (by omega) hgo) (by simp -implicitDefEqProofs only [AZ]; omega) rfl ?_ trivial
   simp -implicitDefEqProofs -proj only [go_sem,seval,AP]
 ·simp -implicitDefEqProofs only [decide_eq_true_eq,decide_eq_false_iff_not,Bool.not_eq_true',Bool.not_eq_false',Bool.and_eq_true,Bool.and_eq_false_iff,Bool.or_eq_true,Bool.or_eq_false_iff,beq_iff_eq,beq_eq_false_iff_ne,ne_eq,decide_eq_decide,Bool.not_eq_true,Bool.not_eq_false] at g
  have hw4:=hwrap4 (by omega)
  have hm':=hm (by omega)
  simp -implicitDefEqProofs -proj only [go_sem,seval,decide_eq_false g,hwrap3,hw4]
  refine Eb (fun g2=>?_) (fun g2=>?_)
  ·simp -implicitDefEqProofs only [decide_eq_true_eq,decide_eq_false_iff_not,Bool.not_eq_true',Bool.not_eq_false',Bool.and_eq_true,Bool.and_eq_false_iff,Bool.or_eq_true,Bool.or_eq_false_iff,beq_iff_eq,beq_eq_false_iff_ne,ne_eq,decide_eq_decide,Bool.not_eq_true,Bool.not_eq_false] at g2
   have hgo:=go (.inr g2)
   have hw1:=hwrap1 (by omega)
   simp -implicitDefEqProofs -proj only [go_sem,seval,decide_eq_true g2,hw1,hwrap2]
   refine Eb (fun c=>?_) (fun c=>?_)
   ·simp -implicitDefEqProofs only [decide_eq_true_eq,decide_eq_false_iff_not,Bool.not_eq_true',Bool.not_eq_false',Bool.and_eq_true,Bool.and_eq_false_iff,Bool.or_eq_true,Bool.or_eq_false_iff,beq_iff_eq,beq_eq_false_iff_ne,ne_eq,decide_eq_decide,Bool.not_eq_true,Bool.not_eq_false] at c
    simp -implicitDefEqProofs -proj only [go_sem,seval,decide_eq_true c]
    rw [←stop2 _ _ rfl rfl c hgo] at after
    refine after _ _ (r+y1) ?_
    simp -implicitDefEqProofs -proj only [go_sem,seval,AP]
   ·simp -implicitDefEqProofs only [decide_eq_true_eq,decide_eq_false_iff_not,Bool.not_eq_true',Bool.not_eq_false',Bool.and_eq_true,Bool.and_eq_false_iff,Bool.or_eq_true,Bool.or_eq_false_iff,beq_iff_eq,beq_eq_false_iff_ne,ne_eq,decide_eq_decide,Bool.not_eq_true,Bool.not_eq_false] at c
    simp -implicitDefEqProofs -proj only [go_sem,seval,decide_eq_false c]
    refine EF (q-1,r+y1) (next _ _ rfl rfl (by omega) hgo) (by simp -implicitDefEqProofs only [AZ]; omega) rfl ?_ trivial
    simp -implicitDefEqProofs -proj only [go_sem,seval,AP]
  ·simp -implicitDefEqProofs only [decide_eq_true_eq,decide_eq_false_iff_not,Bool.not_eq_true',Bool.not_eq_false',Bool.and_eq_true,Bool.and_eq_false_iff,Bool.or_eq_true,Bool.or_eq_false_iff,beq_iff_eq,beq_eq_false_iff_ne,ne_eq,decide_eq_decide,Bool.not_eq_true,Bool.not_eq_false] at g2
   simp -implicitDefEqProofs -proj only [go_sem,seval,decide_eq_false g2]
   rw [←stop (by omega)] at after
   refine after _ _ r ?_
   simp -implicitDefEqProofs -proj only [go_sem,seval,AP]
theorem AHu {hi lo y V U T P w w2:Int} (hU:U*18446744073709551616+T=(hi*18446744073709551616+lo)*P) (hV:V=y*P) (hP:0<P) (hy:0<y) (hT:T=w*4294967296+w2) (hw2:0≤w2∧w2<4294967296) {q1 W q0:Int} (hV0:0<V) (hq1:q1=(U*4294967296+w) / V) (hW:W=U*4294967296+w-q1*V) (hq0:q0=(W*4294967296+w2) / V) :
  q1*4294967296+q0=(hi*18446744073709551616+lo) / y∧(W*4294967296+w2-q0*V) / P=(hi*18446744073709551616+lo) % y:=by
 have f1:=NA (p:=U*4294967296+w) hV0
 have f2:=NA (p:=W*4294967296+w2) hV0
 rw [←hq1] at f1
 rw [←hq0] at f2
 obtain ⟨k1,k2⟩:=AHg (p:=(hi*18446744073709551616+lo)*P) (c:=V) hV0 (q:=q1*4294967296+q0) (r:=W*4294967296+w2-q0*V) (by rw [Int.add_mul,Int.mul_assoc,Int.mul_comm 4294967296 V,←Int.mul_assoc]; omega) (by omega) (by omega)
 rw [hV] at k1 k2
 rw [Int.mul_ediv_mul_of_pos_left _ _ hP] at k1
 rw [Int.mul_comm _ P,Int.mul_comm y P,Int.mul_emod_mul_of_pos _ _ hP,Int.mul_comm P y] at k2
 refine ⟨k1.symm,?_⟩
 rw [hV,←k2,Int.mul_comm P,Int.mul_ediv_cancel _ (by omega)]
set_option maxRecDepth 20000 in
set_option maxHeartbeats 2000000 in
theorem AIf {hi lo y:Int} (h:0≤hi∧hi<y) (hy:y<18446744073709551616) (hl:0≤lo∧lo<18446744073709551616):DataW Try.prog ABn [u64 hi,u64 lo,u64 y] (.tup [u64 ((hi*18446744073709551616+lo) / y),u64 ((hi*18446744073709551616+lo) % y)]):=by
 refine A3 Yo (by simp) ?_
 simp -implicitDefEqProofs -proj only [go_sem,seval,decide_eq_false (show ¬y=0 by omega),decide_eq_false (show ¬y≤hi by omega)]
 refine Eb (fun e=>?_) (fun e=>?_)
 ·simp -implicitDefEqProofs -proj only [go_sem,seval,e]
  simp -implicitDefEqProofs only [decide_eq_true_eq,decide_eq_false_iff_not,Bool.not_eq_true',Bool.not_eq_false',Bool.and_eq_true,Bool.and_eq_false_iff,Bool.or_eq_true,Bool.or_eq_false_iff,beq_iff_eq,beq_eq_false_iff_ne,ne_eq,decide_eq_decide,Bool.not_eq_true,Bool.not_eq_false] at e
  subst e
  have a1:lo.tdiv y=lo / y:=Int.tdiv_eq_ediv_of_nonneg hl.1
  have a2:lo.tmod y=lo % y:=Int.tmod_eq_emod_of_nonneg hl.1
  have a3:IntKind.u64.wrap (lo / y)=lo / y:=FA ⟨Int.ediv_nonneg hl.1 (by omega),by have:=Int.ediv_le_self y hl.1; omega⟩
  refine BB (by omega) (fun _=>?_)
  simp -implicitDefEqProofs -proj only [go_sem,seval,a1,a2,a3]
  (repeat' (with_reducible refine BB ?_ (fun h=>?_); (focus first | decide | omega); clear h; try simp -implicitDefEqProofs -proj only [go_sem,seval,a1,a2,a3]))
  refine AJ ?_
  simp -implicitDefEqProofs only [Int.zero_mul,Int.zero_add]
 ·obtain ⟨s,r,V,U,T,e1,hs,e2,e3,hr,e4,v1,v2,e5,u1,u2,e6,t1,t2,e7,e8⟩:=AQk h hy hl
  have hz:=APa (x:=y) (by omega)
  rw [e1] at hz
  have g1:V.fdiv 4294967296=V / 4294967296:=Hl (by omega)
  have g2:MV .u64 V 4294967295=V % 4294967296:=L5 ⟨by omega,v2⟩
  have g3:T.fdiv 4294967296=T / 4294967296:=Hl (by omega)
  have g4:MV .u64 T 4294967295=T % 4294967296:=L5 ⟨by omega,t2⟩
  have hV:V=V / 4294967296*4294967296+V % 4294967296:=by omega
  have hT:T=T / 4294967296*4294967296+T % 4294967296:=by omega
  have hy1:2147483648≤V / 4294967296∧V / 4294967296<4294967296:=by omega
  have hy0:0≤V % 4294967296∧V % 4294967296<4294967296:=by omega
  have hw:0≤T / 4294967296∧T / 4294967296<4294967296:=by omega
  have hw2:0≤T % 4294967296∧T % 4294967296<4294967296:=by omega
  have hP:=KV s
  simp -implicitDefEqProofs -proj only [go_sem,seval,e]
  refine AQ hz ?_
  simp -implicitDefEqProofs -proj only [go_sem,seval,e2,e3,Int.toNat_natCast,hs,hr,e4,e5,e6,g1,g2,g3,g4]
  (repeat' (with_reducible refine BB ?_ (fun h=>?_); (focus first | decide | omega); clear h; try simp -implicitDefEqProofs -proj only [go_sem,seval,e2,e3,Int.toNat_natCast,hs,hr,e4,e5,e6,g1,g2,g3,g4]))
  generalize V / 4294967296=y1 at *
  generalize V % 4294967296=y0 at *
  generalize T / 4294967296=w at *
  generalize T % 4294967296=w2 at *
  obtain ⟨i1,i2,i3,i4,i5,i6⟩:=Nt hV hy1.1 hy0 u1 u2 hw
  have q1:U.tdiv y1=U / y1:=Int.tdiv_eq_ediv_of_nonneg u1
  have q2:IntKind.u64.wrap (U / y1)=U / y1:=FA (by omega)
  have i7:0≤U / y1*y1:=Int.mul_nonneg i6 (by omega)
  have q3:IntKind.u64.wrap (U / y1*y1)=U / y1*y1:=FA (by omega)
  have q4:IntKind.u64.wrap (U-U / y1*y1)=U % y1:=by rw [FA (by omega)]; omega
  have f1:=NA (p:=U*4294967296+w) (c:=V) (by omega)
  have k1:(U*4294967296+w) / V<4294967296:=by rw [Int.ediv_lt_iff_lt_mul (by omega)]; omega
  have k0:0≤(U*4294967296+w) / V:=Int.ediv_nonneg (by omega) (by omega)
  have hW:U*4294967296+w-(U*4294967296+w) / V*V=(U*4294967296+w) % V:=by omega
  generalize hQ1:(U*4294967296+w) / V=Q1 at *
  generalize hW2:(U*4294967296+w) % V=W at *
  have l1:IntKind.u64.wrap (IntKind.u64.wrap (IntKind.u64.wrap (U*4294967296)+w)-IntKind.u64.wrap (Q1*V))=W:=by simp -implicitDefEqProofs only [IntKind.wrap_u64]; omega
  refine AD1 (V:=V) (s:=s) (y1:=y1) (y0:=y0) (U:=U) (w:=w) (w2:=w2) rfl ?_ hV hy1 hy0 u1 u2 hw ?_
  ·simp -implicitDefEqProofs -proj only [go_sem,seval,AP,e2,e3,Int.toNat_natCast,hs,hr,e4,e5,e6,g1,g2,g3,g4,q1,q2,q3,q4]
  ·intro t H r' ht
   simp -implicitDefEqProofs only [AP] at ht
   obtain ⟨t2,t8,t9,t10,t11,t13,t14,t15,t16,_⟩:=ht
   rw [hQ1] at t15
   obtain ⟨i1',i2',i3',i4',i5',i6'⟩:=Nt (U:=W) hV hy1.1 hy0 (by omega) (by omega) hw2
   have q1':W.tdiv y1=W / y1:=Int.tdiv_eq_ediv_of_nonneg (by omega)
   have q2':IntKind.u64.wrap (W / y1)=W / y1:=FA (by omega)
   have i7':0≤W / y1*y1:=Int.mul_nonneg i6' (by omega)
   have q3':IntKind.u64.wrap (W / y1*y1)=W / y1*y1:=FA (by omega)
   have q4':IntKind.u64.wrap (W-W / y1*y1)=W % y1:=by rw [FA (by omega)]; omega
   simp -implicitDefEqProofs -proj only [go_sem,seval,t2,t8,t9,t10,t11,t13,t14,t15,t16,l1]
   (repeat' (with_reducible refine BB ?_ (fun h=>?_); (focus first | decide | omega); clear h; try simp -implicitDefEqProofs -proj only [go_sem,seval,t2,t8,t9,t10,t11,t13,t14,t15,t16,l1]))
   have dl:=AHu e7 e8 hP (by omega) hT hw2 (q1:=Q1) (W:=W) (q0:=(W*4294967296+w2) / V) (by omega) hQ1.symm hW.symm rfl
   have f2:=NA (p:=W*4294967296+w2) (c:=V) (by omega)
   have k3:(W*4294967296+w2) / V<4294967296:=by rw [Int.ediv_lt_iff_lt_mul (by omega)]; omega
   have k4:0≤(W*4294967296+w2) / V:=Int.ediv_nonneg (by omega) (by omega)
   refine AMK (V:=V) (s:=s) (y1:=y1) (y0:=y0) (w2:=w2) (q1:=Q1) (W:=W) rfl ?_ hV hy1 hy0 (by omega) (by omega) hw2 ?_
   ·simp -implicitDefEqProofs -proj only [go_sem,seval,AP,t2,t8,t9,t10,t11,t13,t14,t15,t16,l1,q1',q2',q3',q4']
   ·intro t H r'' ht
    simp -implicitDefEqProofs only [AP] at ht
    obtain ⟨t2,t8,t9,t10,t14,t15,t17,t18,t16,_⟩:=ht
    generalize (W*4294967296+w2) / V=Q0 at *
    generalize (W*4294967296+w2) % V=Z at *
    have l2:IntKind.u64.wrap (IntKind.u64.wrap (Q1*4294967296)+Q0)=Q1*4294967296+Q0:=by simp -implicitDefEqProofs only [IntKind.wrap_u64]; omega
    have l3:IntKind.u64.wrap (IntKind.u64.wrap (IntKind.u64.wrap (W*4294967296)+w2)-IntKind.u64.wrap (Q0*V))=W*4294967296+w2-Q0*V:=by simp -implicitDefEqProofs only [IntKind.wrap_u64]; omega
    simp -implicitDefEqProofs -proj only [go_sem,seval,t2,t8,t9,t10,t14,t15,t16,t17,t18,l2,l3]
    (repeat' (with_reducible refine BB ?_ (fun h=>?_); (focus first | decide | omega); clear h; try simp -implicitDefEqProofs -proj only [go_sem,seval,t2,t8,t9,t10,t14,t15,t16,t17,t18,l2,l3]))
    refine AJ ?_
    rw [←dl.1,←dl.2]
    simp -implicitDefEqProofs only [Int.toNat_natCast,hs,if_true,Hl (Int.le_of_lt hP)]
def Fd (m q r c:Int):Prop:=m=1∧0<r∨m=2∧c≤2*r∨m=3∧(c<2*r∨c=2*r∧q % 2=1)
instance (m q r c:Int):Decidable (Fd m q r c):=by unfold Fd; exact inferInstance
def ES (p c m:Int):Int:=p / c+if Fd m (p / c) (p % c) c then 1 else 0
def G7 (m:Int) (neg:Bool) (q r c:Int):Prop:=r≠0∧(m=0∧neg=true∨m=1∧neg=false∨m=2∧(r > c-r∨r=c-r∧neg=false)∨m=3∧(r > c-r∨r=c-r∧q % 2=1))
instance (m:Int) (neg:Bool) (q r c:Int):Decidable (G7 m neg q r c):=by unfold G7; exact inferInstance
theorem J6 {p c:Int} (hc:0<c):p / c*c+p % c=p∧0≤p % c∧p % c<c:=by
 have e:=Int.emod_add_mul_ediv p c
 rw [Int.mul_comm] at e
 exact ⟨by omega,Int.emod_nonneg _ (by omega),Int.emod_lt_of_pos _ hc⟩
theorem OZ {p c q r:Int} (hc:0<c) (h:q*c+r=p) (h1:0≤r) (h2:r<c):p / c=q∧p % c=r :=
 (Int.ediv_emod_unique hc).2 ⟨by rw [Int.mul_comm] at h; omega,h1,h2⟩
theorem AMZ {p c m:Int} {neg:Bool} (hc:0<c) (hm:0≤m∧m≤3) (h1:neg=true→p≤0) (h2:neg=false→0≤p) :
  ES p c m=(if neg=true then -1 else 1)*((p.natAbs:Int) / c+if G7 m neg ((p.natAbs:Int) / c) ((p.natAbs:Int) % c) c then 1 else 0):=by
 obtain ⟨e,f,g⟩:=J6 (p:=(p.natAbs:Int)) hc
 have fp:=J6 (p:=p) hc
 generalize (p.natAbs:Int) / c=q at *
 generalize (p.natAbs:Int) % c=r at *
 unfold ES
 cases neg with
 | false =>
  have:=h2 rfl
  obtain ⟨d1,d2⟩:=OZ (p:=p) hc (q:=q) (r:=r) (by omega) f g
  rw [d1,d2]
  have:Fd m q r c↔G7 m false q r c:=by
   unfold Fd G7
   simp -implicitDefEqProofs only [Bool.false_eq_true,and_false,and_true,false_or]
   omega
  simp -implicitDefEqProofs only [this,Bool.false_eq_true,if_false]
  omega
 | true =>
  have:=h1 rfl
  by_cases hr:r=0
  ·subst hr
   obtain ⟨d1,d2⟩:=OZ (p:=p) hc (q:=-q) (r:=0) (by rw [Int.neg_mul]; omega) (by omega) hc
   rw [d1,d2]
   have a1:¬Fd m (-q) 0 c:=by unfold Fd; omega
   have a2:¬G7 m true q 0 c:=by unfold G7; omega
   simp -implicitDefEqProofs only [if_neg a1,if_neg a2,if_true]
   omega
  ·obtain ⟨d1,d2⟩:=OZ (p:=p) hc (q:=-q-1) (r:=c-r) (by rw [Int.sub_mul,Int.neg_mul]; omega) (by omega) (by omega)
   rw [d1,d2]
   by_cases a2:G7 m true q r c
   ·have a1:¬Fd m (-q-1) (c-r) c:=by
     unfold G7 at a2; unfold Fd
     simp -implicitDefEqProofs only [reduceCtorEq,and_false,and_true,false_or,or_false] at a2
     omega
    simp -implicitDefEqProofs only [if_neg a1,if_pos a2,if_true]
    omega
   ·have a1:Fd m (-q-1) (c-r) c:=by
     unfold G7 at a2; unfold Fd
     simp -implicitDefEqProofs only [reduceCtorEq,and_false,and_true,false_or,or_false] at a2
     omega
    simp -implicitDefEqProofs only [if_pos a1,if_neg a2,if_true]
    omega
theorem LZ {p c m:Int} (hc:0<c) (hm:0≤m∧m≤3):∃q r,q*c+r=p∧0≤r∧r<c∧p / c=q∧p % c=r∧(¬Fd m q r c∧ES p c m=q∨Fd m q r c∧ES p c m=q+1):=by
 obtain ⟨e,f,g⟩:=J6 (p:=p) hc
 refine ⟨_,_,e,f,g,rfl,rfl,?_⟩
 unfold ES
 by_cases h:Fd m (p / c) (p % c) c
 ·exact .inr ⟨h,by rw [if_pos h]⟩
 ·exact .inl ⟨h,by rw [if_neg h,Int.add_zero]⟩
theorem LJ {p p' c m:Int} (hc:0<c) (hm:0≤m∧m≤3) (h:p≤p'):ES p c m≤ES p' c m:=by
 obtain ⟨q,r,e,f,g,d1,d2,hh⟩:=LZ (p:=p) hc hm
 obtain ⟨q',r',e',f',g',d1',d2',hh'⟩:=LZ (p:=p') hc hm
 have hq:q≤q':=by rw [←d1,←d1']; exact Int.ediv_le_ediv hc h
 rcases Int.lt_or_eq_of_le hq with h1 | h1
 ·omega
 ·subst h1
  have hr:r≤r':=by omega
  unfold Fd at hh hh'
  omega
theorem AQP {a c m:Int} (hc:0<c) (hm:0≤m∧m≤3) (ha : -9223372036854775808≤a∧a≤9223372036854775807) : -9223372036854775808≤ES a c m∧ES a c m≤9223372036854775807:=by
 have h1:ES (-9223372036854775808) c m≤ES a c m:=LJ hc hm ha.1
 have h2:ES a c m≤ES 9223372036854775807 c m:=LJ hc hm ha.2
 have h3 : -9223372036854775808≤ES (-9223372036854775808) c m:=by
  obtain ⟨q,r,e,f,g,d1,d2,hh⟩:=LZ (p:=-9223372036854775808) hc hm
  have : -9223372036854775808≤q:=by
   rw [←d1,Int.le_ediv_iff_mul_le hc]; omega
  omega
 have h4:ES 9223372036854775807 c m≤9223372036854775807:=by
  obtain ⟨q,r,e,f,g,d1,d2,hh⟩:=LZ (p:=9223372036854775807) hc hm
  by_cases h0:c=1
  ·subst h0
   unfold Fd at hh
   omega
  ·have:q<4611686018427387904:=by
    rw [←d1,Int.ediv_lt_iff_lt_mul hc]; omega
   omega
 omega
def II (p c:Int):Int:=if p / c≤9223372036854775807 then p / c else 9223372036854775807
theorem TW {p c n:Int} (hc:0<c) (hn:n≤9223372036854775807):n≤II p c↔n*c≤p:=by
 unfold II
 rw [←Int.le_ediv_iff_mul_le hc]
 split <;> omega
theorem T7 {m:Int}:DataW Try.prog AHA [i64 m] (bv (decide (0≤m∧m≤3))):=by
 refine A3 ALz (by simp) ?_
 simp -implicitDefEqProofs -proj only [go_sem,seval]
 (repeat' first
  | ((with_reducible first | refine Ej (fun h=>?_) (fun h=>?_) | refine Eb (fun h=>?_) (fun h=>?_) | refine Er (fun h=>?_) (fun h=>?_)) <;> (simp -implicitDefEqProofs -proj only [go_sem,seval, *]; try (revert h; intro _)))
  | ((with_reducible first | refine Aa (fun _ hb=>?_) | refine EL (fun _ hb=>?_)); simp only [Em,Ep,AY,Heap.none_get,and_true,true_and] at hb; simp -implicitDefEqProofs -proj only [go_sem,seval, *]; try (revert hb; intro _))
  | ((with_reducible first | refine EZ _ rfl (by simp) ?_ | refine Es _ rfl (by simp) ?_); simp -implicitDefEqProofs -proj only [go_sem,seval, *])
  | (with_reducible refine BB ?_ (fun h=>?_); first | ((focus first | decide | omega); try clear h; try simp -implicitDefEqProofs -proj only [go_sem,seval, *]) | (rotate_left; try clear h; try simp -implicitDefEqProofs -proj only [go_sem,seval, *]; rotate_right)))
 all_goals
  refine AJ ?_
  simp -implicitDefEqProofs only [decide_eq_true_eq,decide_eq_false_iff_not,Bool.not_eq_true',Bool.not_eq_false',Bool.and_eq_true,Bool.and_eq_false_iff,Bool.or_eq_true,Bool.or_eq_false_iff,beq_iff_eq,beq_eq_false_iff_ne,ne_eq,decide_eq_decide,Bool.not_eq_true,Bool.not_eq_false] at *
  simp -implicitDefEqProofs only [←decide_not,←Bool.decide_and,←Bool.decide_or,Bool.beq_eq_decide_eq,AV.d.injEq,D.bool.injEq,D.int.injEq,D.str.injEq,AV.tup.injEq,AV.agg.injEq,List.cons.injEq,true_and,and_true,decide_eq_decide,true_eq_decide_iff,false_eq_decide_iff,decide_eq_true_eq,decide_eq_false_iff_not,Bool.true_eq,Bool.false_eq]
  omega
theorem Sx {a:Int} (h:Fit a):DataW Try.prog AJf [i64 a] (u64 a.natAbs):=by
 refine A3 ARU (by simp) ?_
 simp -implicitDefEqProofs -proj only [go_sem,seval]
 (repeat' first
  | ((with_reducible first | refine Ej (fun h=>?_) (fun h=>?_) | refine Eb (fun h=>?_) (fun h=>?_) | refine Er (fun h=>?_) (fun h=>?_)) <;> (simp -implicitDefEqProofs -proj only [go_sem,seval, *]; try (revert h; intro _)))
  | ((with_reducible first | refine Aa (fun _ hb=>?_) | refine EL (fun _ hb=>?_)); simp only [Em,Ep,AY,Heap.none_get,and_true,true_and] at hb; simp -implicitDefEqProofs -proj only [go_sem,seval, *]; try (revert hb; intro _))
  | ((with_reducible first | refine EZ _ rfl (by simp) ?_ | refine Es _ rfl (by simp) ?_); simp -implicitDefEqProofs -proj only [go_sem,seval, *])
  | (with_reducible refine BB ?_ (fun h=>?_); first | ((focus first | decide | omega); try clear h; try simp -implicitDefEqProofs -proj only [go_sem,seval, *]) | (rotate_left; try clear h; try simp -implicitDefEqProofs -proj only [go_sem,seval, *]; rotate_right)))
 all_goals
  refine AJ ?_
  simp -implicitDefEqProofs only [decide_eq_true_eq,decide_eq_false_iff_not,Bool.not_eq_true',Bool.not_eq_false',Bool.and_eq_true,Bool.and_eq_false_iff,Bool.or_eq_true,Bool.or_eq_false_iff,beq_iff_eq,beq_eq_false_iff_ne,ne_eq,decide_eq_decide,Bool.not_eq_true,Bool.not_eq_false,IntKind.wrap_u64] at *
  simp -implicitDefEqProofs only [←decide_not,←Bool.decide_and,←Bool.decide_or,Bool.beq_eq_decide_eq,AV.d.injEq,D.bool.injEq,D.int.injEq,D.str.injEq,AV.tup.injEq,AV.agg.injEq,List.cons.injEq,true_and,and_true,decide_eq_decide,true_eq_decide_iff,false_eq_decide_iff,decide_eq_true_eq,decide_eq_false_iff_not,Bool.true_eq,Bool.false_eq]
  unfold Fit at *
  omega
theorem Rq {neg:Bool} {n:Int} (h:0≤n∧n<18446744073709551616):DataW Try.prog AIV [bv neg,u64 n] (GA ((if neg=true then -1 else 1)*n)):=by
 refine A3 APp (by simp) ?_
 cases neg
 all_goals
  simp -implicitDefEqProofs -proj only [go_sem,seval]
  (repeat' first
  | ((with_reducible first | refine Ej (fun h=>?_) (fun h=>?_) | refine Eb (fun h=>?_) (fun h=>?_) | refine Er (fun h=>?_) (fun h=>?_)) <;> (simp -implicitDefEqProofs -proj only [go_sem,seval, *]; try (revert h; intro _)))
  | ((with_reducible first | refine Aa (fun _ hb=>?_) | refine EL (fun _ hb=>?_)); simp only [Em,Ep,AY,Heap.none_get,and_true,true_and] at hb; simp -implicitDefEqProofs -proj only [go_sem,seval, *]; try (revert hb; intro _))
  | ((with_reducible first | refine EZ _ rfl (by simp) ?_ | refine Es _ rfl (by simp) ?_); simp -implicitDefEqProofs -proj only [go_sem,seval, *])
  | (with_reducible refine BB ?_ (fun h=>?_); first | ((focus first | decide | omega); try clear h; try simp -implicitDefEqProofs -proj only [go_sem,seval, *]) | (rotate_left; try clear h; try simp -implicitDefEqProofs -proj only [go_sem,seval, *]; rotate_right)))
 all_goals
  refine AJ (JO ?_)
  simp -implicitDefEqProofs only [decide_eq_true_eq,decide_eq_false_iff_not,Bool.not_eq_true',Bool.not_eq_false',Bool.and_eq_true,Bool.and_eq_false_iff,Bool.or_eq_true,Bool.or_eq_false_iff,beq_iff_eq,beq_eq_false_iff_ne,ne_eq,decide_eq_decide,Bool.not_eq_true,Bool.not_eq_false,IntKind.wrap_u64,IntKind.wrap_i64] at *
  simp -implicitDefEqProofs only [Bool.false_eq_true,reduceCtorEq,true_and,false_and,or_false,false_or,if_true,if_false]
  unfold Fit
  omega
set_option maxRecDepth 20000 in
theorem AQi {m q r c:Int} {neg:Bool} (hm:0≤m∧m≤3) (hq:0≤q∧q<18446744073709551616) (hr:0≤r∧r<c) (hc:c<18446744073709551616):DataW Try.prog AA8 [i64 m,bv neg,u64 q,u64 r,u64 c] (bv (decide (G7 m neg q r c))):=by
 have h1:IntKind.u64.wrap (c-r)=c-r:=FA (by omega)
 have h2:q.tmod 2=q % 2:=Int.tmod_eq_emod_of_nonneg hq.1
 refine A3 Xy (by simp) ?_
 cases neg
 all_goals
  simp -implicitDefEqProofs -proj only [go_sem,seval,h1,h2]
  (repeat' first
  | ((with_reducible first | refine Ej (fun h=>?_) (fun h=>?_) | refine Eb (fun h=>?_) (fun h=>?_) | refine Er (fun h=>?_) (fun h=>?_)) <;> (simp -implicitDefEqProofs -proj only [go_sem,seval, *]; try (revert h; intro _)))
  | ((with_reducible first | refine Aa (fun _ hb=>?_) | refine EL (fun _ hb=>?_)); simp only [Em,Ep,AY,Heap.none_get,and_true,true_and] at hb; simp -implicitDefEqProofs -proj only [go_sem,seval, *]; try (revert hb; intro _))
  | ((with_reducible first | refine EZ _ rfl (by simp) ?_ | refine Es _ rfl (by simp) ?_); simp -implicitDefEqProofs -proj only [go_sem,seval, *])
  | (with_reducible refine BB ?_ (fun h=>?_); first | ((focus first | decide | omega); try clear h; try simp -implicitDefEqProofs -proj only [go_sem,seval, *]) | (rotate_left; try clear h; try simp -implicitDefEqProofs -proj only [go_sem,seval, *]; rotate_right)))
 all_goals
  refine AJ (congrArg (fun b=>AV.d (D.bool b)) ?_)
  simp -implicitDefEqProofs only [decide_eq_true_eq,decide_eq_false_iff_not,Bool.not_eq_true',Bool.not_eq_false',Bool.and_eq_true,Bool.and_eq_false_iff,Bool.or_eq_true,Bool.or_eq_false_iff,beq_iff_eq,beq_eq_false_iff_ne,ne_eq,decide_eq_decide,Bool.not_eq_true,Bool.not_eq_false] at *
  first
  | exact (decide_eq_true (by unfold G7; simp -implicitDefEqProofs only [Bool.false_eq_true,reduceCtorEq,and_false,or_false,false_or,and_true]; omega)).symm
  | exact (decide_eq_false (by unfold G7; simp -implicitDefEqProofs only [Bool.false_eq_true,reduceCtorEq,and_false,or_false,false_or,and_true]; omega)).symm
  | (unfold G7; simp -implicitDefEqProofs only [Bool.false_eq_true,reduceCtorEq,and_false,or_false,false_or,and_true]; omega)
def Iy (p c m:Int):AV:=if 0<c∧0≤m∧m≤3 then GA (ES p c m) else .tup [i64 0,bv false]
theorem M6 {p c m:Int} (hc:0<c) (hm:0≤m∧m≤3):Iy p c m=GA (ES p c m):=by rw [Iy,if_pos ⟨hc,hm⟩]
theorem Me {p c m:Int} (h:¬(0<c∧0≤m∧m≤3)):Iy p c m = .tup [i64 0,bv false]:=by rw [Iy,if_neg h]
theorem Vc {a b:Int} (ha:Fit a) (hb:Fit b):(a.natAbs:Int)*b.natAbs=(a*b).natAbs∧(0:Int)≤a.natAbs∧(a.natAbs:Int)≤9223372036854775808∧(0:Int)≤b.natAbs∧(b.natAbs:Int)≤9223372036854775808:=by
 refine ⟨by rw [Int.natAbs_mul]; rfl,?_⟩
 unfold Fit at ha hb
 omega
theorem AEW (a b:Int):((!decide (a<0) == decide (b<0))=true→a*b≤0)∧((!decide (a<0) == decide (b<0))=false→0≤a*b):=by
 simp -implicitDefEqProofs only [decide_eq_true_eq,decide_eq_false_iff_not,Bool.not_eq_true',Bool.not_eq_false',Bool.and_eq_true,Bool.and_eq_false_iff,Bool.or_eq_true,Bool.or_eq_false_iff,beq_iff_eq,beq_eq_false_iff_ne,ne_eq,decide_eq_decide,Bool.not_eq_true,Bool.not_eq_false]
 refine ⟨fun h=>?_,fun h=>?_⟩
 ·by_cases h1:a<0
  ·exact Int.mul_nonpos_of_nonpos_of_nonneg (by omega) (by omega)
  ·exact Int.mul_nonpos_of_nonneg_of_nonpos (by omega) (by omega)
 ·by_cases h1:a<0
  ·exact Int.mul_nonneg_of_nonpos_of_nonpos (by omega) (by omega)
  ·exact Int.mul_nonneg (by omega) (by omega)
set_option maxRecDepth 20000 in
set_option maxHeartbeats 2000000 in
theorem PK {a b c m:Int} (ha:Fit a) (hb:Fit b) (hc:Fit c):DataW Try.prog AK0 [i64 a,i64 b,i64 c,i64 m] (Iy (a*b) c m):=by
 refine A3 AE3 (by simp) ?_
 by_cases h0:c≤0
 ·rw [Me (by omega)]
  simp -implicitDefEqProofs -proj only [go_sem,seval,decide_eq_true h0]
  exact AJ rfl
 by_cases hm:0≤m∧m≤3
 ·rw [M6 (by omega) hm]
  have hG:=T7 (m:=m)
  rw [decide_eq_true hm] at hG
  obtain ⟨hp,p1,p2,p3,p4⟩:=Vc ha hb
  have hM:=AG5 (x:=a.natAbs) (y:=b.natAbs) (by omega) (by omega)
  rw [hp] at hM
  have hA:=Sx ha
  have hB:=Sx hb
  obtain ⟨g1,g2⟩:=AEW a b
  have hr:=AMZ (p:=a*b) (c:=c) (m:=m) (by omega) hm g1 g2
  have hcw:IntKind.u64.wrap c=c:=FA (by unfold Fit at hc; omega)
  have hc2:c<18446744073709551616:=by unfold Fit at hc; omega
  have hcond:((a*b).natAbs:Int) / c<18446744073709551616↔((a*b).natAbs:Int) / 18446744073709551616<c:=by
   rw [Int.ediv_lt_iff_lt_mul (by omega),Int.ediv_lt_iff_lt_mul (by omega),Int.mul_comm c]
  have hN:(0:Int)≤(a*b).natAbs:=by omega
  have hNd:0≤((a*b).natAbs:Int) / c:=Int.ediv_nonneg hN (by omega)
  generalize ((a*b).natAbs:Int)=N at *
  generalize hneg:(!decide (a<0) == decide (b<0))=neg at *
  generalize a*b=p at *
  clear hp g1 g2
  have hf:=J6 (p:=N) (c:=c) (by omega)
  have hD:=AIf (hi:=N / 18446744073709551616) (lo:=N % 18446744073709551616) (y:=c)
  rw [show N / 18446744073709551616*18446744073709551616+N % 18446744073709551616=N by omega] at hD
  generalize hi0:N / 18446744073709551616=hi at *
  generalize hlo0:N % 18446744073709551616=lo at *
  generalize N / c=q at *
  generalize N % c=r at *
  simp -implicitDefEqProofs -proj only [go_sem,seval,decide_eq_false h0]
  refine AQ hG ?_
  simp -implicitDefEqProofs -proj only [go_sem,seval]
  refine AQ hA ?_
  simp -implicitDefEqProofs -proj only [go_sem,seval]
  refine AQ hB ?_
  simp -implicitDefEqProofs -proj only [go_sem,seval]
  refine AQ hM ?_
  simp -implicitDefEqProofs -proj only [go_sem,seval,hcw,hneg]
  refine Eb (fun g=>?_) (fun g=>?_)
  ·simp -implicitDefEqProofs -proj only [go_sem,seval,g]
   simp -implicitDefEqProofs only [decide_eq_true_eq,decide_eq_false_iff_not,Bool.not_eq_true',Bool.not_eq_false',Bool.and_eq_true,Bool.and_eq_false_iff,Bool.or_eq_true,Bool.or_eq_false_iff,beq_iff_eq,beq_eq_false_iff_ne,ne_eq,decide_eq_decide,Bool.not_eq_true,Bool.not_eq_false] at g
   rw [IQ (by rw [hr]; unfold Fit; cases neg <;> simp -implicitDefEqProofs only [Bool.false_eq_true,if_true,if_false] <;> split <;> omega)]
   exact AJ rfl
  ·simp -implicitDefEqProofs -proj only [go_sem,seval,g,hneg]
   simp -implicitDefEqProofs only [decide_eq_true_eq,decide_eq_false_iff_not,Bool.not_eq_true',Bool.not_eq_false',Bool.and_eq_true,Bool.and_eq_false_iff,Bool.or_eq_true,Bool.or_eq_false_iff,beq_iff_eq,beq_eq_false_iff_ne,ne_eq,decide_eq_decide,Bool.not_eq_true,Bool.not_eq_false] at g
   have hA:=AQi (m:=m) (q:=q) (r:=r) (c:=c) (neg:=neg) hm (by omega) hf.2 hc2
   refine AQ (hD (by omega) hc2 (by omega)) ?_
   simp -implicitDefEqProofs -proj only [go_sem,seval,hneg]
   refine AQ hA ?_
   by_cases hw:G7 m neg q r c
   ·rw [if_pos hw] at hr
    rw [decide_eq_true hw] at *
    by_cases hq:q=18446744073709551615
    ·rw [IQ (by rw [hr]; unfold Fit; cases neg <;> simp -implicitDefEqProofs only [Bool.false_eq_true,if_true,if_false] <;> omega)]
     subst hq
     simp -implicitDefEqProofs -proj only [go_sem,seval,hneg,show IntKind.u64.wrap 18446744073709551616=0 from by decide]
     exact AJ rfl
    ·have hq1:IntKind.u64.wrap (q+1)=q+1:=FA (by omega)
     have hS:=Rq (neg:=neg) (n:=q+1) (by omega)
     rw [←hr] at hS
     simp -implicitDefEqProofs -proj only [go_sem,seval,hneg,hq1,decide_eq_false (show ¬q+1=0 by omega)]
     refine AQ hS ?_
     rcases NY (ES p c m) with ⟨s1,u1,e,_⟩
     rw [e]
     simp -implicitDefEqProofs -proj only [go_sem,seval]
     exact AJ rfl
   ·rw [if_neg hw,Int.add_zero] at hr
    rw [decide_eq_false hw] at *
    have hS:=Rq (neg:=neg) (n:=q) (by omega)
    rw [←hr] at hS
    simp -implicitDefEqProofs -proj only [go_sem,seval,hneg]
    refine AQ hS ?_
    rcases NY (ES p c m) with ⟨s1,u1,e,_⟩
    rw [e]
    simp -implicitDefEqProofs -proj only [go_sem,seval]
    exact AJ rfl
 ·rw [Me (fun h=>hm h.2)]
  have hG:=T7 (m:=m)
  rw [decide_eq_false hm] at hG
  simp -implicitDefEqProofs -proj only [go_sem,seval,decide_eq_false h0]
  refine AQ hG ?_
  simp -implicitDefEqProofs -proj only [go_sem,seval]
  exact AJ rfl
theorem SZ {a c m:Int} (ha:Fit a) (hc:Fit c):DataW Try.prog ANL [i64 a,i64 c,i64 m] (Iy a c m):=by
 have h:=PK (a:=a) (b:=1) (c:=c) (m:=m) ha (by decide) hc
 rw [Int.mul_one] at h
 refine A3 AIJ (by simp) ?_
 simp -implicitDefEqProofs -proj only [go_sem,seval]
 refine AQ h ?_
 unfold Iy GA
 split
 all_goals
  simp -implicitDefEqProofs -proj only [go_sem,seval]
  exact AJ rfl
def Mu (a c:Int):AV:=if 0<c then GA (ES a c 1*c) else .tup [i64 0,bv false]
theorem ZH (p:Int):ES p 1 0=p:=by
 unfold ES Fd
 simp
theorem ARF {a c:Int} (ha:Fit a) (hc:Fit c):DataW Try.prog ALi [i64 a,i64 c] (Mu a c):=by
 refine A3 AHc (by simp) ?_
 simp -implicitDefEqProofs -proj only [go_sem,seval]
 refine AQ (SZ ha hc) ?_
 by_cases h0:0<c
 ·have hf:=AQP h0 (m:=1) (by omega) ha
  have h:=PK (a:=ES a c 1) (b:=c) (c:=1) (m:=0) hf hc (by decide)
  rw [M6 (by decide) (by decide),ZH] at h
  rw [M6 h0 (by decide),Hj hf,Mu,if_pos h0]
  simp -implicitDefEqProofs -proj only [go_sem,seval]
  refine AQ h ?_
  rcases NY (ES a c 1*c) with ⟨s1,u1,e,_⟩
  rw [e]
  simp -implicitDefEqProofs -proj only [go_sem,seval]
  exact AJ rfl
 ·rw [Me (by omega),Mu,if_neg h0]
  simp -implicitDefEqProofs -proj only [go_sem,seval]
  exact AJ rfl
structure Adj where
 k:Int
 n:Int
 m:Int
def Adj.el (a:Adj):List D:=[.int .i64 a.k,.int .i64 a.n,.int .i64 a.m]
def Ex (l:List Adj):List (List D):=l.map Adj.el
theorem GT {l:List Adj}:(Ex l).length=l.length:=List.length_map ..
theorem TJ {l:List Adj} {i:Nat} (h:i<l.length):(Ex l)[((i:Int)).toNat]? = some (Adj.el l[i]):=by
 rw [Int.toNat_natCast]; simp [Ex,h]
abbrev GB (l:List Adj):AV:=.d (.sl 3 (Ex l))
def Adj.Fit (a:Adj):Prop:=Abs.Fit a.k∧Abs.Fit a.n∧Abs.Fit a.m
def Qy (l:List Adj):Prop:=∀(i:Nat) (h:i<l.length),(l[i]).Fit
def Hm (n:Int):Option Int:=if Fit n then some n else none
theorem Q8 (n:Int):GA n=Ef (Hm n):=by
 unfold Hm
 by_cases h:Fit n
 ·rw [Hj h,if_pos h]; rfl
 ·rw [IQ h,if_neg h]; rfl
def Fq (p c m:Int):Option Int:=if 0<c∧0≤m∧m≤3 then Hm (ES p c m) else none
theorem NC (p c m:Int):Iy p c m=Ef (Fq p c m):=by
 unfold Iy Fq
 split
 ·exact Q8 _
 ·rfl
theorem AER {l:List Adj} (h:∀a∈l,Adj.Fit a):Qy l:=fun i hi=>h _ (List.getElem_mem hi)
theorem AAs {n:Nat} {l:List D} (h:Ez Try.prog (n+2) 70 l):∃a:Adj,a.Fit∧l=a.el:=by
 obtain ⟨ls,rfl,h1,_⟩:=Kp (fs:=#[⟨"Kind",3,0,false,"","",0⟩,⟨"N",3,1,false,"","",8⟩,⟨"Mode",3,2,false,"","",16⟩]) h (by kernel_rfl)
 obtain ⟨l0,r0,rfl,t0,h1⟩:=typedL_cons h1
 obtain ⟨l1,r1,rfl,t1,h1⟩:=typedL_cons h1
 obtain ⟨l2,r2,rfl,t2,h1⟩:=typedL_cons h1
 obtain rfl:=typedL_nil h1
 obtain ⟨z0,rfl,f0,_⟩:=typed_int t0 (by kernel_rfl)
 obtain ⟨z1,rfl,f1,_⟩:=typed_int t1 (by kernel_rfl)
 obtain ⟨z2,rfl,f2,_⟩:=typed_int t2 (by kernel_rfl)
 exact ⟨⟨z0,z1,z2⟩,⟨f0,f1,f2⟩,rfl⟩
structure Tier where
 u:Int
 r:Int
def Tier.el (a:Tier):List D:=[.int .i64 a.u,.int .i64 a.r]
def Ee (l:List Tier):List (List D):=l.map Tier.el
theorem FP {l:List Tier}:(Ee l).length=l.length:=List.length_map ..
theorem LR {l:List Tier} {i:Nat} (h:i<l.length):(Ee l)[((i:Int)).toNat]? = some [.int .i64 l[i].u,.int .i64 l[i].r]:=by
 rw [Int.toNat_natCast]; simp [Ee,h,Tier.el]
theorem QN {l:List Adj} {i:Nat} (h:i<l.length):(Ex l)[((i:Int)).toNat]? = some [.int .i64 l[i].k,.int .i64 l[i].n,.int .i64 l[i].m]:=TJ h
abbrev Fb (l:List Tier):AV:=.d (.sl 2 (Ee l))
def Tier.Fit (a:Tier):Prop:=Abs.Fit a.u∧Abs.Fit a.r
structure PartX where
 me:Int
 f:Int
 t:Int
 al:Int
 bl:Int
 ki:Int
 ts:List Tier
 mo:Int
 ad:List Adj
abbrev PartX.el (x:PartX):List D:=[.int .i64 x.me,.int .i64 x.f,.int .i64 x.t,.int .i64 x.al,.int .i64 x.bl,.int .i64 x.ki,.sl 2 (Ee x.ts),.int .i64 x.mo,.sl 3 (Ex x.ad)]
abbrev Jc (x:PartX):AV:=.agg [i64 x.me,i64 x.f,i64 x.t,i64 x.al,i64 x.bl,i64 x.ki,Fb x.ts,i64 x.mo,GB x.ad]
structure PartX.Fit (x:PartX):Prop where
 me:Abs.Fit x.me
 f:Abs.Fit x.f
 t:Abs.Fit x.t
 al:Abs.Fit x.al
 bl:Abs.Fit x.bl
 ki:Abs.Fit x.ki
 ts:∀a∈x.ts,Tier.Fit a
 tn:x.ts.length≤9223372036854775807
 mo:Abs.Fit x.mo
 ad:∀a∈x.ad,Adj.Fit a
 an:x.ad.length≤9223372036854775807
theorem QR {α:Type} {g : α→List D} {F : α→Prop} {n:Nat} {e:TypeId} (hh:∀l,Ez Try.prog n e l→∃a,F a∧l=g a):∀{xs:List (List D)},(∀el∈xs,Ez Try.prog n e el)→∃zs:List α,xs=zs.map g∧∀a∈zs,F a
 | [],_=>⟨[],rfl,fun a h=>by cases h⟩
 | x::xs,h2=>by
  obtain ⟨a,ha,rfl⟩:=hh x (h2 x (List.mem_cons_self ..))
  obtain ⟨zs,rfl,hz⟩:=QR hh (fun el h'=>h2 el (List.mem_cons_of_mem _ h'))
  refine ⟨a::zs,rfl,fun b hb=>?_⟩
  rcases List.mem_cons.1 hb with rfl | hb
  ·exact ha
  ·exact hz b hb
theorem AC2 {n:Nat} {l:List D} (h:Ez Try.prog (n+2) 62 l):∃a:Tier,a.Fit∧l=a.el:=by
 obtain ⟨ls,rfl,h1,_⟩:=Kp (fs:=#[⟨"Upto",3,0,false,"","",0⟩,⟨"Rate",3,1,false,"","",8⟩]) h (by kernel_rfl)
 obtain ⟨l0,r0,rfl,t0,h1⟩:=typedL_cons h1
 obtain ⟨l1,r1,rfl,t1,h1⟩:=typedL_cons h1
 obtain rfl:=typedL_nil h1
 obtain ⟨z0,rfl,f0,_⟩:=typed_int t0 (by kernel_rfl)
 obtain ⟨z1,rfl,f1,_⟩:=typed_int t1 (by kernel_rfl)
 exact ⟨⟨z0,z1⟩,⟨f0,f1⟩,rfl⟩
theorem MD {α:Type} {g : α→List D} {F : α→Prop} {n k:Nat} {t e:TypeId} {l:List D} (hh:∀l,Ez Try.prog n e l→∃a,F a∧l=g a) (ht:Try.prog.underlying t=some (.slice e)) (hc:Try.prog.cellsOf e=k) (h:Ez Try.prog (n+1) t l) :
  ∃zs:List α,l=[.sl k (zs.map g)]∧(∀a∈zs,F a)∧zs.length≤9223372036854775807:=by
 obtain ⟨xs,rfl,h1,h2,_⟩:=QU h ht
 obtain ⟨zs,rfl,hz⟩:=QR hh h2
 exact ⟨zs,by rw [hc],hz,by rw [List.length_map] at h1; exact h1⟩
theorem AQb {n:Nat} {l:List D} (h:Ez Try.prog (n+4) 39 l):∃x:PartX,x.Fit∧l=x.el∧Gl Try.prog 39 l=Jc x:=by
 obtain ⟨ls,rfl,h1,e⟩:=Kp (fs:=#[⟨"Meter",3,0,false,"","",0⟩,⟨"From",3,1,false,"","",8⟩,⟨"To",3,2,false,"","",16⟩,⟨"Allowance",3,3,false,"","",24⟩,⟨"Block",3,4,false,"","",32⟩,⟨"Kind",3,5,false,"","",40⟩,⟨"Tiers",36,6,false,"","",48⟩,⟨"Mode",3,7,false,"","",72⟩,⟨"Adjusts",37,8,false,"","",80⟩]) h (by kernel_rfl)
 obtain ⟨l0,r0,rfl,t0,h1⟩:=typedL_cons h1
 obtain ⟨l1,r1,rfl,t1,h1⟩:=typedL_cons h1
 obtain ⟨l2,r2,rfl,t2,h1⟩:=typedL_cons h1
 obtain ⟨l3,r3,rfl,t3,h1⟩:=typedL_cons h1
 obtain ⟨l4,r4,rfl,t4,h1⟩:=typedL_cons h1
 obtain ⟨l5,r5,rfl,t5,h1⟩:=typedL_cons h1
 obtain ⟨l6,r6,rfl,t6,h1⟩:=typedL_cons h1
 obtain ⟨l7,r7,rfl,t7,h1⟩:=typedL_cons h1
 obtain ⟨l8,r8,rfl,t8,h1⟩:=typedL_cons h1
 obtain rfl:=typedL_nil h1
 obtain ⟨z0,rfl,f0,_⟩:=typed_int t0 (by kernel_rfl)
 obtain ⟨z1,rfl,f1,_⟩:=typed_int t1 (by kernel_rfl)
 obtain ⟨z2,rfl,f2,_⟩:=typed_int t2 (by kernel_rfl)
 obtain ⟨z3,rfl,f3,_⟩:=typed_int t3 (by kernel_rfl)
 obtain ⟨z4,rfl,f4,_⟩:=typed_int t4 (by kernel_rfl)
 obtain ⟨z5,rfl,f5,_⟩:=typed_int t5 (by kernel_rfl)
 obtain ⟨z7,rfl,f7,_⟩:=typed_int t7 (by kernel_rfl)
 obtain ⟨z6,rfl,f6,g6⟩:=MD (k:=2) (e:=62) (fun l h=>AC2 h) (by kernel_rfl) (by kernel_rfl) t6
 obtain ⟨z8,rfl,f8,g8⟩:=MD (k:=3) (e:=70) (fun l h=>AAs h) (by kernel_rfl) (by kernel_rfl) t8
 exact ⟨⟨z0,z1,z2,z3,z4,z5,z6,z7,z8⟩,⟨f0,f1,f2,f3,f4,f5,f6,g6,f7,f8,g8⟩,rfl,e⟩
abbrev Pc (cur:ByteArray) (f t:Int) (ms ss ps:List (List D)):AV:=.agg [.d (.str cur),i64 f,i64 t,.d (.sl 5 ms),.d (.sl 3 ss),.d (.sl 9 ps)]
structure MeterX where
 nm:ByteArray
 un:ByteArray
 mx:Int
 ln:Int
 co:Int
def MeterX.el (a:MeterX):List D:=[.str a.nm,.str a.un,.int .i64 a.mx,.int .i64 a.ln,.int .i64 a.co]
def EI (l:List MeterX):List (List D):=l.map MeterX.el
theorem FL {l:List MeterX}:(EI l).length=l.length:=List.length_map ..
theorem JX {l:List MeterX} {i:Nat} (h:i<l.length):(EI l)[((i:Int)).toNat]? = some [.str l[i].nm,.str l[i].un,.int .i64 l[i].mx,.int .i64 l[i].ln,.int .i64 l[i].co]:=by
 rw [Int.toNat_natCast]; simp [EI,h,MeterX.el]
def MeterX.Fit (a:MeterX):Prop:=Abs.Fit a.mx∧Abs.Fit a.ln∧Abs.Fit a.co
structure SumX where
 a:Int
 f:Int
 t:Int
def SumX.el (a:SumX):List D:=[.int .i64 a.a,.int .i64 a.f,.int .i64 a.t]
def FH (l:List SumX):List (List D):=l.map SumX.el
theorem I7 {l:List SumX}:(FH l).length=l.length:=List.length_map ..
theorem Sf {l:List SumX} {i:Nat} (h:i<l.length):(FH l)[((i:Int)).toNat]? = some [.int .i64 l[i].a,.int .i64 l[i].f,.int .i64 l[i].t]:=by
 rw [Int.toNat_natCast]; simp [FH,h,SumX.el]
def SumX.Fit (a:SumX):Prop:=Abs.Fit a.a∧Abs.Fit a.f∧Abs.Fit a.t
def E1 (l:List PartX):List (List D):=l.map PartX.el
theorem Iz {l:List PartX}:(E1 l).length=l.length:=List.length_map ..
theorem SV {l:List PartX} {i:Nat} (h:i<l.length):(E1 l)[((i:Int)).toNat]? = some [.int .i64 l[i].me,.int .i64 l[i].f,.int .i64 l[i].t,.int .i64 l[i].al,.int .i64 l[i].bl,.int .i64 l[i].ki,.sl 2 (Ee l[i].ts),.int .i64 l[i].mo,.sl 3 (Ex l[i].ad)]:=by
 rw [Int.toNat_natCast]; simp [E1,h,PartX.el]
structure CoreX where
 cur:ByteArray
 f:Int
 t:Int
 ms:List MeterX
 ss:List SumX
 ps:List PartX
abbrev Jj (c:CoreX):AV:=Pc c.cur c.f c.t (EI c.ms) (FH c.ss) (E1 c.ps)
structure CoreX.Fit (c:CoreX):Prop where
 f:Abs.Fit c.f
 t:Abs.Fit c.t
 ms:∀a∈c.ms,a.Fit
 mn:c.ms.length≤9223372036854775807
 ss:∀a∈c.ss,a.Fit
 sn:c.ss.length≤9223372036854775807
 ps:∀a∈c.ps,a.Fit
 pn:c.ps.length≤9223372036854775807
theorem Pj {n:Nat} {t:TypeId} {l:List D} (h:Ez Try.prog (n+1) t l) (ht:Try.prog.underlying t=some .string):∃s,l=[.str s]:=by
 rw [Ez,ht] at h
 obtain ⟨s,rfl,_⟩:=h
 exact ⟨s,rfl⟩
theorem AA9 {n:Nat} {l:List D} (h:Ez Try.prog (n+2) 42 l):∃a:MeterX,a.Fit∧l=a.el:=by
 obtain ⟨ls,rfl,h1,_⟩:=Kp (fs:=#[⟨"Name",9,0,false,"","",0⟩,⟨"Unit",9,1,false,"","",16⟩,⟨"Max",3,2,false,"","",32⟩,⟨"Line",3,3,false,"","",40⟩,⟨"Col",3,4,false,"","",48⟩]) h (by kernel_rfl)
 obtain ⟨l0,r0,rfl,t0,h1⟩:=typedL_cons h1
 obtain ⟨l1,r1,rfl,t1,h1⟩:=typedL_cons h1
 obtain ⟨l2,r2,rfl,t2,h1⟩:=typedL_cons h1
 obtain ⟨l3,r3,rfl,t3,h1⟩:=typedL_cons h1
 obtain ⟨l4,r4,rfl,t4,h1⟩:=typedL_cons h1
 obtain rfl:=typedL_nil h1
 obtain ⟨z0,rfl⟩:=Pj t0 (by kernel_rfl)
 obtain ⟨z1,rfl⟩:=Pj t1 (by kernel_rfl)
 obtain ⟨z2,rfl,f2,_⟩:=typed_int t2 (by kernel_rfl)
 obtain ⟨z3,rfl,f3,_⟩:=typed_int t3 (by kernel_rfl)
 obtain ⟨z4,rfl,f4,_⟩:=typed_int t4 (by kernel_rfl)
 exact ⟨⟨z0,z1,z2,z3,z4⟩,⟨f2,f3,f4⟩,rfl⟩
theorem AKL {n:Nat} {l:List D} (h:Ez Try.prog (n+2) 59 l):∃a:SumX,a.Fit∧l=a.el:=by
 obtain ⟨ls,rfl,h1,_⟩:=Kp (fs:=#[⟨"Amount",3,0,false,"","",0⟩,⟨"From",3,1,false,"","",8⟩,⟨"To",3,2,false,"","",16⟩]) h (by kernel_rfl)
 obtain ⟨l0,r0,rfl,t0,h1⟩:=typedL_cons h1
 obtain ⟨l1,r1,rfl,t1,h1⟩:=typedL_cons h1
 obtain ⟨l2,r2,rfl,t2,h1⟩:=typedL_cons h1
 obtain rfl:=typedL_nil h1
 obtain ⟨z0,rfl,f0,_⟩:=typed_int t0 (by kernel_rfl)
 obtain ⟨z1,rfl,f1,_⟩:=typed_int t1 (by kernel_rfl)
 obtain ⟨z2,rfl,f2,_⟩:=typed_int t2 (by kernel_rfl)
 exact ⟨⟨z0,z1,z2⟩,⟨f0,f1,f2⟩,rfl⟩
theorem typed_core {n:Nat} {l:List D} (h:Ez Try.prog (n+6) 26 l):∃c:CoreX,c.Fit∧l=[.str c.cur,.int .i64 c.f,.int .i64 c.t,.sl 5 (EI c.ms),.sl 3 (FH c.ss),.sl 9 (E1 c.ps)]∧Gl Try.prog 26 l=Jj c:=by
 obtain ⟨ls,rfl,h1,e⟩:=Kp (fs:=#[⟨"Currency",9,0,false,"","",0⟩,⟨"From",3,1,false,"","",16⟩,⟨"To",3,2,false,"","",24⟩,⟨"Meters",22,3,false,"","",32⟩,⟨"Sums",23,4,false,"","",56⟩,⟨"Parts",24,5,false,"","",80⟩]) h (by kernel_rfl)
 obtain ⟨l0,r0,rfl,t0,h1⟩:=typedL_cons h1
 obtain ⟨l1,r1,rfl,t1,h1⟩:=typedL_cons h1
 obtain ⟨l2,r2,rfl,t2,h1⟩:=typedL_cons h1
 obtain ⟨l3,r3,rfl,t3,h1⟩:=typedL_cons h1
 obtain ⟨l4,r4,rfl,t4,h1⟩:=typedL_cons h1
 obtain ⟨l5,r5,rfl,t5,h1⟩:=typedL_cons h1
 obtain rfl:=typedL_nil h1
 obtain ⟨z0,rfl⟩:=Pj t0 (by kernel_rfl)
 obtain ⟨z1,rfl,f1,_⟩:=typed_int t1 (by kernel_rfl)
 obtain ⟨z2,rfl,f2,_⟩:=typed_int t2 (by kernel_rfl)
 obtain ⟨z3,rfl,f3,g3⟩:=MD (k:=5) (e:=42) (fun l h=>AA9 h) (by kernel_rfl) (by kernel_rfl) t3
 obtain ⟨z4,rfl,f4,g4⟩:=MD (k:=3) (e:=59) (fun l h=>AKL h) (by kernel_rfl) (by kernel_rfl) t4
 obtain ⟨z5,rfl,f5,g5⟩:=MD (k:=9) (e:=39) (g:=PartX.el) (F:=PartX.Fit) (fun l h=>by obtain ⟨x,h1,h2,_⟩:=AQb h; exact ⟨x,h1,h2⟩) (by kernel_rfl) (by kernel_rfl) t5
 exact ⟨⟨z0,z1,z2,z3,z4,z5⟩,⟨f1,f2,f3,g3,f4,g4,f5,g5⟩,rfl,e⟩
def ART (m:MeterX):Prop:=200<(m.nm.size:Int)∨200<(m.un.size:Int)
def ABC (x:PartX):Prop:=40<(x.ts.length:Int)∨40<(x.ad.length:Int)
def Si (c:CoreX):Prop:=(20<(c.ms.length:Int)∨40<(c.ss.length:Int)∨40<(c.ps.length:Int)∨200<(c.cur.size:Int))∨(∃m∈c.ms,ART m)∨∃x∈c.ps,ABC x
noncomputable instance (c:CoreX):Decidable (Si c):=Classical.propDecidable _
structure DateX where
 y:Int
 m:Int
 d:Int
abbrev DateX.el (a:DateX):List D:=[.int .i64 a.y,.int .i64 a.m,.int .i64 a.d]
def DateX.Fit (a:DateX):Prop:=Abs.Fit a.y∧Abs.Fit a.m∧Abs.Fit a.d
structure WinX where
 has:Bool
 f:DateX
 t:DateX
abbrev WinX.el (w:WinX):List D:=[.bool w.has,.int .i64 w.f.y,.int .i64 w.f.m,.int .i64 w.f.d,.int .i64 w.t.y,.int .i64 w.t.m,.int .i64 w.t.d]
def WinX.Fit (w:WinX):Prop:=w.f.Fit∧w.t.Fit
structure FeeX where
 am:Int
 w:WinX
 ln:Int
 co:Int
abbrev FeeX.el (x:FeeX):List D:=[.int .i64 x.am,.bool x.w.has,.int .i64 x.w.f.y,.int .i64 x.w.f.m,.int .i64 x.w.f.d,.int .i64 x.w.t.y,.int .i64 x.w.t.m,.int .i64 x.w.t.d,.int .i64 x.ln,.int .i64 x.co]
def FeeX.Fit (x:FeeX):Prop:=Abs.Fit x.am∧x.w.Fit∧Abs.Fit x.ln∧Abs.Fit x.co
def Fy (l:List FeeX):List (List D):=l.map FeeX.el
theorem If {l:List FeeX}:(Fy l).length=l.length:=List.length_map ..
structure ChX where
 me:ByteArray
 w:WinX
 al:Int
 bl:Int
 ki:Int
 ts:List Tier
 mo:Int
 ad:List Adj
 ln:Int
 co:Int
abbrev ChX.el (x:ChX):List D:=[.str x.me,.bool x.w.has,.int .i64 x.w.f.y,.int .i64 x.w.f.m,.int .i64 x.w.f.d,.int .i64 x.w.t.y,.int .i64 x.w.t.m,.int .i64 x.w.t.d,.int .i64 x.al,.int .i64 x.bl,.int .i64 x.ki,.sl 2 (Ee x.ts),.int .i64 x.mo,.sl 3 (Ex x.ad),.int .i64 x.ln,.int .i64 x.co]
structure ChX.Fit (x:ChX):Prop where
 w:x.w.Fit
 al:Abs.Fit x.al
 bl:Abs.Fit x.bl
 ki:Abs.Fit x.ki
 ts:∀a∈x.ts,Tier.Fit a
 tn:x.ts.length≤9223372036854775807
 mo:Abs.Fit x.mo
 ad:∀a∈x.ad,Adj.Fit a
 an:x.ad.length≤9223372036854775807
 ln:Abs.Fit x.ln
 co:Abs.Fit x.co
def Fr (l:List ChX):List (List D):=l.map ChX.el
theorem Ix {l:List ChX}:(Fr l).length=l.length:=List.length_map ..
structure PlanX where
 nm:ByteArray
 cu:ByteArray
 f:DateX
 t:DateX
 ms:List MeterX
 fs:List FeeX
 cs:List ChX
 ln:Int
 co:Int
abbrev ANX (nm cu:ByteArray) (f t:DateX) (m e c:AV) (ln co:Int):List AV:=[.d (.str nm),.d (.str cu),i64 f.y,i64 f.m,i64 f.d,i64 t.y,i64 t.m,i64 t.d,m,e,c,i64 ln,i64 co]
abbrev PlanX.cells (p:PlanX):List AV:=ANX p.nm p.cu p.f p.t (.d (.sl 5 (EI p.ms))) (.d (.sl 10 (Fy p.fs))) (.d (.sl 16 (Fr p.cs))) p.ln p.co
abbrev JN (p:PlanX):AV:=.agg p.cells
structure PlanX.Fit (p:PlanX):Prop where
 f:p.f.Fit
 t:p.t.Fit
 ms:∀a∈p.ms,a.Fit
 mn:p.ms.length≤9223372036854775807
 fs:∀a∈p.fs,a.Fit
 fn:p.fs.length≤9223372036854775807
 cs:∀a∈p.cs,a.Fit
 cn:p.cs.length≤9223372036854775807
 ln:Abs.Fit p.ln
 co:Abs.Fit p.co
def AQq (m:MeterX):Prop:=200<(m.nm.size:Int)∨200<(m.un.size:Int)
def Wr (x:ChX):Prop:=40<(x.ts.length:Int)∨40<(x.ad.length:Int)∨200<(x.me.size:Int)
def AA6 (p:PlanX):Prop:=(20<(p.ms.length:Int)∨40<(p.fs.length:Int)∨40<(p.cs.length:Int)∨200<(p.nm.size:Int)∨200<(p.cu.size:Int))∨(∃m∈p.ms,AQq m)∨∃x∈p.cs,Wr x
noncomputable instance (p:PlanX):Decidable (AA6 p):=Classical.propDecidable _
def GN (y:Int):Prop:=y % 400=0∨¬y % 100=0∧y % 4=0
instance (y:Int):Decidable (GN y):=by unfold GN; exact inferInstance
def LG (m:Int):Int:=if m=2 then 28 else if m=4∨m=6∨m=9∨m=11 then 30 else 31
def HN (y m:Int):Int:=LG m+if m=2∧GN y then 1 else 0
def Fh (d:DateX):Prop:=(1≤d.y∧d.y≤9999)∧(1≤d.m∧d.m≤12)∧1≤d.d∧d.d≤HN d.y d.m
instance (d:DateX):Decidable (Fh d):=by unfold Fh; exact inferInstance
def Fa (y:Int):Nat→Int
 | 0=>0
 | k+1=>Fa y k+HN y (k+1)
def F9:Nat→Int
 | 0=>0
 | k+1=>F9 k+365+if GN (k+1) then 1 else 0
def Ag (d:DateX):Int:=d.d-1+Fa d.y (d.m-1).toNat+F9 (d.y-1).toNat
theorem N5 (y m:Int):28≤HN y m∧HN y m≤31:=by
 unfold HN LG
 split <;> split <;> first | omega | (split <;> omega)
theorem OK (y:Int):∀k:Nat,0≤Fa y k∧Fa y k≤31*k
 | 0=>by simp [Fa]
 | k+1=>by
  have:=OK y k
  have:=N5 y ((k:Int)+1)
  rw [Fa]; omega
theorem R2 (y:Int) {k:Nat}:∀j:Nat,Fa y k≤Fa y (k+j)
 | 0=>Int.le_refl _
 | j+1=>by
  have:=R2 y (k:=k) j
  have:=N5 y (((k+j:Nat):Int)+1)
  rw [←Nat.add_assoc,Fa]; omega
theorem AOq (y:Int):Fa y 12=365+if GN y then 1 else 0:=by
 by_cases h:GN y <;> simp [Fa,HN,LG,h]
theorem Pp:∀k:Nat,F9 k=365*k+(k:Int) / 4-(k:Int) / 100+(k:Int) / 400
 | 0=>by simp [F9]
 | k+1=>by
  rw [F9,Pp k]
  by_cases h:GN ((k:Int)+1)
  ·rw [if_pos h]; unfold GN at h; omega
  ·rw [if_neg h]; unfold GN at h; omega
theorem OI (k:Nat):0≤F9 k∧F9 k≤366*k:=by
 rw [Pp]; omega
theorem NZ {d:DateX} (h:Fh d):0≤Ag d∧Ag d≤3652058:=by
 obtain ⟨⟨y1,y2⟩,⟨m1,m2⟩,d1,d2⟩:=h
 have hy:=OI (d.y-1).toNat
 have hm:=OK d.y (d.m-1).toNat
 unfold Ag
 refine ⟨by omega,?_⟩
 have e1:Fa d.y ((d.m-1).toNat+1)=Fa d.y (d.m-1).toNat+HN d.y d.m:=by
  rw [Fa,show (((d.m-1).toNat:Int)+1)=d.m by omega]
 have e2:=R2 d.y (k:=(d.m-1).toNat+1) (12-((d.m-1).toNat+1))
 rw [show (d.m-1).toNat+1+(12-((d.m-1).toNat+1))=12 by omega,AOq,e1] at e2
 have e3:F9 ((d.y-1).toNat+1)=F9 (d.y-1).toNat+365+if GN d.y then 1 else 0:=by
  rw [F9,show (((d.y-1).toNat:Int)+1)=d.y by omega]
 have e4:=Pp ((d.y-1).toNat+1)
 have:(((d.y-1).toNat+1:Nat):Int)=d.y:=by omega
 rw [this] at e4
 have:365*d.y+d.y / 4-d.y / 100+d.y / 400≤3652059:=by omega
 omega
theorem QJ {P:Program} {f:FuncId} {args:List AV} {H0 H:Heap} {K:AV→Heap→Prop} (h:CallW P f args H0 K) (hs:∀k,H0 k=none∨H0 k=H k) :
  CallW P f args H fun r H'=>∃H1,K r H1∧(∀k x,H1 k=some x→H' k=some x)∧∀k x,H k=some x→H0 k=none→H' k=some x:=by
 classical
 intro F w vs hh hv
 have hsub:∀b x,H0 b=some x→H b=some x:=fun b x hb=>by
  rcases hs b with e | e
  ·rw [e] at hb; cases hb
  ·rw [←e]; exact hb
 have hh0:HRel P F H0 w:=⟨fun b x hb=>hh.at_ b x (hsub b x hb),fun b x hb=>hh.apart b x (hsub b x hb),hh.old⟩
 refine (h F w vs hh0 hv).mono fun e w' hr=>?_
 obtain ⟨r,H1,F',v,rfl,h1,h2,h3,h4⟩:=hr
 have hF0:∀k,F k→H0 k=none:=fun k hk=>by
  cases e:H0 k with
  | none=>rfl
  | some x=>exact absurd hk (hh0.apart k x e)
 have hne:∀k,H0 k≠none→H k≠none:=fun k hk=>by
  cases e:H0 k with
  | none=>exact absurd e hk
  | some x=>rw [hsub k x e]; simp
 have hfr:∀k x,H1 k=some x→¬(H k≠none∧H0 k=none):=fun k x hx hk=>by
  rcases h3.dom k (by rw [hx]; simp) with e | e
  ·exact e hk.2
  ·cases e2:H k with
   | none=>exact hk.1 e2
   | some y=>have:=(hh.at_ k y e2).lt; omega
 refine ⟨r,fun k=>if H k≠none∧H0 k=none then H k else H1 k,F',v,rfl,h1,⟨fun b x hb=>?_,fun b x hb hf=>?_,h2.old⟩,⟨h3.os,h3.tape,h3.output,h3.size,fun k hk e=>h3.keep k hk ?_,fun k hk=>?_,h3.mono,fun k hk=>?_⟩,H1,h4,fun k x hx=>?_,fun k x hx hk=>?_⟩
 ·by_cases e:H b≠none∧H0 b=none
  ·rw [if_pos e] at hb
   exact (hh.at_ b x hb).mono (h3.keep b (hh.at_ b x hb).lt e.2) h3.mono (fun k hk=>h3.keep k (hh.old k hk) (hF0 k hk))
  ·rw [if_neg e] at hb
   exact h2.at_ b x hb
 ·by_cases e:H b≠none∧H0 b=none
  ·rw [if_pos e] at hb
   rcases h3.new b hf with e2 | e2 | e2
   ·exact hh.apart b x hb e2
   ·exact e2 e.2
   ·have:=(hh.at_ b x hb).lt; omega
  ·rw [if_neg e] at hb
   exact h2.apart b x hb hf
 ·rcases hs k with e2 | e2
  ·exact e2
  ·rw [e2,e]
 ·by_cases e:H k≠none∧H0 k=none
  ·exact .inl e.1
  ·rw [if_neg e] at hk
   exact (h3.dom k hk).imp (hne k) id
 ·rcases h3.new k hk with e | e | e
  ·exact .inl e
  ·exact .inr (.inl (hne k e))
  ·exact .inr (.inr e)
 ·show (if H k≠none∧H0 k=none then H k else H1 k)=some x
  rw [if_neg (hfr k x hx)]
  exact hx
 ·show (if H k≠none∧H0 k=none then H k else H1 k)=some x
  rw [if_pos ⟨by rw [hx]; simp,hk⟩]
  exact hx
abbrev K4 (d:DateX):AV:=.agg [i64 d.y,i64 d.m,i64 d.d]
theorem QD {y:Int} (hy:0≤y):DataW Try.prog AHv [i64 y] (bv (decide (GN y))):=by
 have e1:y.tmod 400=y % 400:=Int.tmod_eq_emod_of_nonneg hy
 have e2:y.tmod 100=y % 100:=Int.tmod_eq_emod_of_nonneg hy
 have e3:y.tmod 4=y % 4:=Int.tmod_eq_emod_of_nonneg hy
 refine A3 AC5 (by simp) ?_
 by_cases g1:y % 400=0
 ·simp -implicitDefEqProofs -proj only [go_sem,seval,e1,decide_eq_true g1]
  exact AJ (by rw [decide_eq_true (show GN y from .inl g1)])
 by_cases g2:y % 100=0
 ·simp -implicitDefEqProofs -proj only [go_sem,seval,e1,e2,decide_eq_false g1,decide_eq_true g2]
  exact AJ (by rw [decide_eq_false (show ¬GN y by unfold GN; omega)])
 simp -implicitDefEqProofs -proj only [go_sem,seval,e1,e2,e3,decide_eq_false g1,decide_eq_false g2]
 exact AJ (by rw [show decide (GN y)=decide (y % 4=0) from decide_eq_decide.2 (by unfold GN; omega)])
theorem R3 {y m:Int} (hy:0≤y) (hm:1≤m∧m≤12):DataW Try.prog AK5 [i64 y,i64 m] (i64 (HN y m)):=by
 refine A3 AAC (by simp) ?_
 have hl:=QD hy
 by_cases g:m=2
 ·subst g
  simp -implicitDefEqProofs -proj only [go_sem,seval,decide_true]
  refine AQ hl ?_
  by_cases h:GN y
  ·simp -implicitDefEqProofs -proj only [go_sem,seval,decide_eq_true h]
   exact AJ (by simp [HN,LG,h])
  ·simp -implicitDefEqProofs -proj only [go_sem,seval,decide_eq_false h]
   refine EL (fun b hb=>?_)
   simp -implicitDefEqProofs -proj only [go_sem,seval,AK,show IntKind.i64.wrap 1=1 from FN (by decide)]
   refine EZ [.int .i64 28] rfl Nat.zero_lt_one ?_
   simp -implicitDefEqProofs -proj only [go_sem,seval]
   exact AJ (by simp [HN,LG,h])
 ·simp -implicitDefEqProofs -proj only [go_sem,seval,decide_eq_false (show ¬m<1 by omega),decide_eq_false (show ¬12<m by omega),decide_eq_false g]
  refine EL (fun b hb=>?_)
  have hm':m=1∨m=3∨m=4∨m=5∨m=6∨m=7∨m=8∨m=9∨m=10∨m=11∨m=12:=by omega
  simp -implicitDefEqProofs -proj only [go_sem,seval,AK,FN (show Fit (m-1) by unfold Fit; omega)]
  refine BB (by omega) (fun _=>?_)
  refine EZ [.int .i64 (HN y m)] ?_ Nat.zero_lt_one ?_
  ·rcases hm' with rfl | rfl | rfl | rfl | rfl | rfl | rfl | rfl | rfl | rfl | rfl <;> simp [HN,LG]
  ·simp -implicitDefEqProofs -proj only [go_sem,seval]
   exact AJ rfl
theorem AHl {d:DateX}:DataW Try.prog AKd [K4 d] (bv (decide (Fh d))):=by
 obtain ⟨y,m,d⟩:=d
 refine A3 AK9 (by simp) ?_
 simp -implicitDefEqProofs -proj only [go_sem,seval]
 refine Aa (fun b hb=>?_)
 have no:¬Fh ⟨y,m,d⟩→bv false=bv (decide (Fh ⟨y,m,d⟩)):=fun h=>by rw [decide_eq_false h]
 by_cases g1:1≤y
 rotate_left
 ·simp -implicitDefEqProofs -proj only [go_sem,seval,AK,decide_eq_false g1]
  exact AJ (no fun k=>g1 k.1.1)
 by_cases g2:y≤9999
 rotate_left
 ·simp -implicitDefEqProofs -proj only [go_sem,seval,AK,decide_eq_true g1,decide_eq_false g2]
  exact AJ (no fun k=>g2 k.1.2)
 by_cases g3:1≤m
 rotate_left
 ·simp -implicitDefEqProofs -proj only [go_sem,seval,AK,decide_eq_true g1,decide_eq_true g2,decide_eq_false g3]
  exact AJ (no fun k=>g3 k.2.1.1)
 by_cases g4:m≤12
 rotate_left
 ·simp -implicitDefEqProofs -proj only [go_sem,seval,AK,decide_eq_true g1,decide_eq_true g2,decide_eq_true g3,decide_eq_false g4]
  exact AJ (no fun k=>g4 k.2.1.2)
 by_cases g5:1≤d
 rotate_left
 ·simp -implicitDefEqProofs -proj only [go_sem,seval,AK,decide_eq_true g1,decide_eq_true g2,decide_eq_true g3,decide_eq_true g4,decide_eq_false g5]
  exact AJ (no fun k=>g5 k.2.2.1)
 simp -implicitDefEqProofs -proj only [go_sem,seval,AK,decide_eq_true g1,decide_eq_true g2,decide_eq_true g3,decide_eq_true g4,decide_eq_true g5]
 refine E0 (R3 (by show (0:Int)≤y; omega) ⟨g3,g4⟩) ?_
 simp -implicitDefEqProofs -proj only [go_sem,seval,AK]
 exact AJ (by rw [show decide (Fh ⟨y,m,d⟩)=decide (d≤HN y m) from decide_eq_decide.2 ⟨fun k=>k.2.2.2,fun k=>⟨⟨g1,g2⟩,⟨g3,g4⟩,g5,k⟩⟩])
theorem Ik {d:DateX} (h:Fh d):DataW Try.prog AK6 [K4 d] (i64 (Ag d)):=by
 obtain ⟨y,m,d⟩:=d
 obtain ⟨⟨y1,y2⟩,⟨m1,m2⟩,d1,d2⟩:=h
 simp -implicitDefEqProofs only [] at y1 y2 m1 m2 d1 d2
 have hdd:=N5 y m
 refine A3 APx (by simp) ?_
 simp -implicitDefEqProofs -proj only [go_sem,seval]
 refine Aa (fun b hb=>?_)
 simp -implicitDefEqProofs -proj only [go_sem,seval,AK,FN (show Fit (d-1) by unfold Fit; omega)]
 refine EX (fun k:Nat=>(k:Int)≤m-1) 34 (fun k=>[(1,.ptr b 0),(3,i64 (d-1+Fa y k)),(4,i64 ((k:Int)+1))]) (fun _=>[(b,.box 49 [i64 y,i64 m,i64 d])]) (fun k=>(m-1).toNat-k) 0 (by show ((0:Nat):Int)≤_; omega) rfl ?_ ?_ ?_
 ·simp -implicitDefEqProofs -proj only [go_sem,seval,AP,Fa]
  simp
 ·exact ⟨AK,trivial⟩
 ·intro k hk
  have hH:Al (EH [(b,.box 49 [i64 y,i64 m,i64 d])]) [(b,.box 49 [i64 y,i64 m,i64 d])]:=FV (by simp [EJ])
  have k1:=hH.1
  have hs:=OK y k
  by_cases hlt:(k:Int)+1<m
  ·have hs2:=N5 y ((k:Int)+1)
   simp -implicitDefEqProofs -proj only [go_sem,seval,k1,decide_eq_true hlt]
   refine AQ (R3 (by omega) (by omega)) ?_
   simp -implicitDefEqProofs -proj only [go_sem,seval,k1]
   refine EF (k+1) (by omega) (by show (m-1).toNat-(k+1)<(m-1).toNat-k; omega) rfl ?_ hH
   simp -implicitDefEqProofs -proj only [go_sem,seval,AP,Fa,Ed (show k+1<9223372036854775807 by omega),FN (show Fit (d-1+Fa y k+HN y ((k:Int)+1)) by unfold Fit; omega),FN (show Fit ((k:Int)+1+1) by unfold Fit; omega)]
   simp [Int.add_assoc]
  ·have hk2:k=(m-1).toNat:=by omega
   simp -implicitDefEqProofs -proj only [go_sem,seval,k1,decide_eq_false hlt]
   refine EX (fun j:Nat=>(j:Int)≤y-1) 34 (fun j=>[(1,.ptr b 0),(3,i64 (d-1+Fa y k+F9 j)),(5,i64 ((j:Int)+1))]) (fun _=>[(b,.box 49 [i64 y,i64 m,i64 d])]) (fun j=>(y-1).toNat-j) 0 (by show ((0:Nat):Int)≤_; omega) rfl ?_ ?_ ?_
   ·simp -implicitDefEqProofs -proj only [go_sem,seval,AP,F9]
    simp
   ·exact hH
   ·intro j hj
    have hs3:=OI j
    by_cases hlt2:(j:Int)+1<y
    ·have hgo:∀e:Int,e=(if GN ((j:Int)+1) then 1 else 0)→d-1+Fa y k+F9 j+365+e=d-1+Fa y k+F9 (j+1):=fun e he=>by rw [F9,←he]; omega
     have hu:=OI (j+1)
     have w1:IntKind.i64.wrap (d-1+Fa y k+F9 j+365)=d-1+Fa y k+F9 j+365:=FN (by unfold Fit; omega)
     have w3:IntKind.i64.wrap ((j:Int)+1+1)=((j+1:Nat):Int)+1:=by rw [FN (by unfold Fit; omega)]; omega
     simp -implicitDefEqProofs -proj only [go_sem,seval,k1,decide_eq_true hlt2,w1]
     refine AQ (QD (by omega)) ?_
     by_cases hl:GN ((j:Int)+1)
     ·have w2:IntKind.i64.wrap (d-1+Fa y k+F9 j+365+1)=d-1+Fa y k+F9 (j+1):=by
       rw [FN (by unfold Fit; omega)]; exact hgo 1 (by rw [if_pos hl])
      simp -implicitDefEqProofs -proj only [go_sem,seval,k1,decide_eq_true hl,w2,w3]
      refine EF (j+1) (by omega) (by show (y-1).toNat-(j+1)<(y-1).toNat-j; omega) rfl ?_ hH
      simp -implicitDefEqProofs -proj only [go_sem,seval,AP]
     ·have w2:d-1+Fa y k+F9 j+365=d-1+Fa y k+F9 (j+1):=by
       have:=hgo 0 (by rw [if_neg hl]); omega
      simp -implicitDefEqProofs -proj only [go_sem,seval,k1,decide_eq_false hl,w3]
      refine EF (j+1) (by omega) (by show (y-1).toNat-(j+1)<(y-1).toNat-j; omega) rfl ?_ hH
      simp -implicitDefEqProofs -proj only [go_sem,seval,AP,w2]
    ·simp -implicitDefEqProofs -proj only [go_sem,seval,k1,decide_eq_false hlt2]
     refine AJ ?_
     have hj2:j=(y-1).toNat:=by omega
     rw [hk2,hj2]
     rfl
def Hh (s:ByteArray):Nat→Option Int
 | 0=>some 0
 | i+1=>match Hh s i with
  | none=>none
  | some n=>if i=4∨i=7 then (if EE s i=45 then some n else none) else if 48≤EE s i∧EE s i≤57 then some (IntKind.i64.wrap (IntKind.i64.wrap (10*n)+IntKind.i64.wrap (IntKind.u8.wrap (EE s i-48)))) else none
def Ko (n:Int):DateX:=⟨IntKind.i64.wrap (n.tdiv 10000),(IntKind.i64.wrap (n.tdiv 100)).tmod 100,n.tmod 100⟩
def GU:DateX:=⟨0,0,0⟩
def IE (s:ByteArray):DateX:=match (if s.size=10 then Hh s 10 else none) with
 | some n=>if Fh (Ko n) then Ko n else GU
 | none=>GU
def HC (s:ByteArray):Bool:=match (if s.size=10 then Hh s 10 else none) with
 | some n=>decide (Fh (Ko n))
 | none=>false
theorem ACc {s:ByteArray} (h:HC s=true):Fh (IE s):=by
 unfold HC at h
 unfold IE
 cases e:(if s.size=10 then Hh s 10 else none) with
 | none=>rw [e] at h; cases h
 | some n =>
  rw [e] at h
  have h:=of_decide_eq_true h
  simp -implicitDefEqProofs only []
  rw [if_pos h]
  exact h
theorem QY {s:ByteArray} {i:Nat} (h:Hh s i=none):∀k,Hh s (i+k)=none
 | 0=>h
 | k+1=>by rw [←Nat.add_assoc,Hh,QY h k]
theorem AEy {s:ByteArray} {i:Nat} (h:Hh s (i+1)=none) (hi:i<10):Hh s 10=none:=by
 have:=QY h (10-(i+1))
 rwa [show i+1+(10-(i+1))=10 by omega] at this
theorem RU {s:ByteArray}:DataW Try.prog XR [.d (.str s)] (.tup [K4 (IE s),bv (HC s)]):=by
 refine A3 Yt (by simp) ?_
 simp -implicitDefEqProofs -proj only [go_sem,seval]
 refine Aa (fun b hb=>?_)
 by_cases g1:s.size=10
 rotate_left
 ·simp -implicitDefEqProofs -proj only [go_sem,seval,AK,decide_eq_false (show ¬(s.size:Int)=10 by omega)]
  exact AJ (by simp [IE,HC,g1,GU])
 have zz:Hh s 10=none→AV.tup [K4 GU,bv false] = .tup [K4 (IE s),bv (HC s)]:=fun e=>by simp [IE,HC,g1,e]
 simp -implicitDefEqProofs -proj only [go_sem,seval,AK,decide_eq_true (show (s.size:Int)=10 by omega)]
 refine EX (fun y:Nat×Int=>y.1≤10∧Hh s y.1=some y.2) 58 (fun y=>[(0,.d (.str s)),(2,.ptr b 0),(4,i64 y.2),(5,i64 y.1)]) (fun _=>[(b,.box 49 [i64 0,i64 0,i64 0])]) (fun y=>10-y.1) (0,0) ⟨by decide,rfl⟩ rfl ?_ ?_ ?_
 ·simp -implicitDefEqProofs -proj only [go_sem,seval,AP]
 ·exact ⟨AK,trivial⟩
 ·rintro ⟨i,n⟩ ⟨hi,hn⟩
  simp -implicitDefEqProofs only [AZ,Ac] at hi hn
  have hH:Al (EH [(b,.box 49 [i64 0,i64 0,i64 0])]) [(b,.box 49 [i64 0,i64 0,i64 0])]:=FV (by simp [EJ])
  have k1:=hH.1
  by_cases hlt:(i:Int)<10
  ·have hv:(0:Int)≤(i:Int)∧(i:Int)<s.size:=by omega
   have hstep:Hh s (i+1)=if i=4∨i=7 then (if EE s i=45 then some n else none) else if 48≤EE s i∧EE s i≤57 then some (IntKind.i64.wrap (IntKind.i64.wrap (10*n)+IntKind.i64.wrap (IntKind.u8.wrap (EE s i-48)))) else none:=by rw [Hh,hn]
   have hto:((i:Int)).toNat=i:=Int.toNat_natCast i
   have hz:=fun e=>zz (AEy (i:=i) e (by omega))
   have i1:=Ed (show i<9223372036854775807 by omega)
   by_cases h4:i=4∨i=7
   ·rw [if_pos h4] at hstep
    have c47:(decide ((i:Int)=4)=true)∨(decide ((i:Int)=4)=false∧decide ((i:Int)=7)=true):=by
     rcases h4 with rfl | rfl
     ·exact .inl rfl
     ·exact .inr ⟨rfl,rfl⟩
    by_cases hc:EE s i=45
    ·rw [if_pos hc] at hstep
     rcases c47 with e | ⟨e,e'⟩
     ·simp -implicitDefEqProofs -proj only [go_sem,seval,decide_eq_true hlt,e]
      refine BB hv (fun _=>?_)
      simp -implicitDefEqProofs -proj only [go_sem,seval,hto,decide_eq_true hc,Bool.not_true]
      refine EF (i+1,n) ⟨by rw [AZ]; omega,hstep⟩ (by show 10-(i+1)<10-i; omega) rfl ?_ hH
      simp -implicitDefEqProofs -proj only [go_sem,seval,AP,i1]
     ·simp -implicitDefEqProofs -proj only [go_sem,seval,decide_eq_true hlt,e,e']
      refine BB hv (fun _=>?_)
      simp -implicitDefEqProofs -proj only [go_sem,seval,hto,decide_eq_true hc,Bool.not_true]
      refine EF (i+1,n) ⟨by rw [AZ]; omega,hstep⟩ (by show 10-(i+1)<10-i; omega) rfl ?_ hH
      simp -implicitDefEqProofs -proj only [go_sem,seval,AP,i1]
    ·rw [if_neg hc] at hstep
     rcases c47 with e | ⟨e,e'⟩
     ·simp -implicitDefEqProofs -proj only [go_sem,seval,decide_eq_true hlt,e]
      refine BB hv (fun _=>?_)
      simp -implicitDefEqProofs -proj only [go_sem,seval,hto,decide_eq_false hc,Bool.not_false,k1,AK]
      exact AJ (hz hstep)
     ·simp -implicitDefEqProofs -proj only [go_sem,seval,decide_eq_true hlt,e,e']
      refine BB hv (fun _=>?_)
      simp -implicitDefEqProofs -proj only [go_sem,seval,hto,decide_eq_false hc,Bool.not_false,k1,AK]
      exact AJ (hz hstep)
   ·rw [if_neg h4] at hstep
    have e:decide ((i:Int)=4)=false:=decide_eq_false (by omega)
    have e':decide ((i:Int)=7)=false:=decide_eq_false (by omega)
    by_cases c1:EE s i<48
    ·rw [if_neg (by omega)] at hstep
     simp -implicitDefEqProofs -proj only [go_sem,seval,decide_eq_true hlt,e,e']
     refine BB hv (fun _=>?_)
     simp -implicitDefEqProofs -proj only [go_sem,seval,hto,decide_eq_true c1,k1,AK]
     exact AJ (hz hstep)
    by_cases c2:57<EE s i
    ·rw [if_neg (by omega)] at hstep
     simp -implicitDefEqProofs -proj only [go_sem,seval,decide_eq_true hlt,e,e']
     refine BB hv (fun _=>?_)
     simp -implicitDefEqProofs -proj only [go_sem,seval,hto,decide_eq_false c1]
     refine BB hv (fun _=>?_)
     simp -implicitDefEqProofs -proj only [go_sem,seval,hto,decide_eq_true c2,k1,AK]
     exact AJ (hz hstep)
    rw [if_pos (by omega)] at hstep
    simp -implicitDefEqProofs -proj only [go_sem,seval,decide_eq_true hlt,e,e']
    refine BB hv (fun _=>?_)
    simp -implicitDefEqProofs -proj only [go_sem,seval,hto,decide_eq_false c1]
    refine BB hv (fun _=>?_)
    simp -implicitDefEqProofs -proj only [go_sem,seval,hto,decide_eq_false c2]
    refine BB hv (fun _=>?_)
    refine EF (i+1,IntKind.i64.wrap (IntKind.i64.wrap (10*n)+IntKind.i64.wrap (IntKind.u8.wrap (EE s i-48)))) ⟨by rw [AZ]; omega,hstep⟩ (by show 10-(i+1)<10-i; omega) rfl ?_ hH
    simp -implicitDefEqProofs -proj only [go_sem,seval,AP,i1,hto]
  ·have hi':i=10:=by omega
   subst hi'
   simp -implicitDefEqProofs -proj only [go_sem,seval,decide_eq_false hlt]
   refine Aa (fun b6 hb6=>?_)
   replace hb6:EH [(b,.box 49 [i64 0,i64 0,i64 0])] b6=none:=hb6
   obtain ⟨n1,n2⟩:=EG hb6 k1
   simp -implicitDefEqProofs -proj only [go_sem,seval,n1,n2,k1]
   refine AQ (AHl (d:=Ko n)) ?_
   by_cases hg:Fh (Ko n)
   ·simp -implicitDefEqProofs -proj only [go_sem,seval,n1,n2,k1,decide_eq_true hg,Bool.not_true]
    exact AJ (by rw [show IE s=Ko n by simp [IE,g1,hn,hg],show HC s=true by simp [HC,g1,hn,hg]]; rfl)
   ·simp -implicitDefEqProofs -proj only [go_sem,seval,n1,n2,k1,decide_eq_false hg,Bool.not_false]
    exact AJ (by simp [IE,HC,g1,hn,hg,GU])
section
def Gj (s:Bool) (m:Int):AV:=.agg [bv s,u64 (m / 18446744073709551616),u64 (m % 18446744073709551616)]
def E3 (m:Int):Prop:=0≤m∧m<340282366920938463463374607431768211456
def wide (n:Int):AV:=Gj (n<0) n.natAbs
attribute [local go_sem] Gj wide
theorem wU (n:Int):IntKind.u64.wrap n=n % 18446744073709551616:=IntKind.wrap_u64 n
theorem LF {s:Bool} {m:Int} (h:E3 m):DataW Try.prog AO5 [Gj s m] (bv (m=0)):=by
 refine A3 AH4 (by simp) ?_
 simp -implicitDefEqProofs -proj only [go_sem,seval]
 (repeat' first
  | ((with_reducible first | refine Ej (fun h=>?_) (fun h=>?_) | refine Eb (fun h=>?_) (fun h=>?_) | refine Er (fun h=>?_) (fun h=>?_)) <;> (simp -implicitDefEqProofs -proj only [go_sem,seval, *]; try (revert h; intro _)))
  | ((with_reducible first | refine Aa (fun _ hb=>?_) | refine EL (fun _ hb=>?_)); simp only [Em,Ep,AY,Heap.none_get,and_true,true_and] at hb; simp -implicitDefEqProofs -proj only [go_sem,seval, *]; try (revert hb; intro _))
  | ((with_reducible first | refine EZ _ rfl (by simp) ?_ | refine Es _ rfl (by simp) ?_); simp -implicitDefEqProofs -proj only [go_sem,seval, *])
  | (with_reducible refine BB ?_ (fun h=>?_); first | ((focus first | decide | omega); try clear h; try simp -implicitDefEqProofs -proj only [go_sem,seval, *]) | (rotate_left; try clear h; try simp -implicitDefEqProofs -proj only [go_sem,seval, *]; rotate_right)))
 all_goals
  refine AJ ?_
  simp -implicitDefEqProofs only [decide_eq_true_eq,decide_eq_false_iff_not,Bool.not_eq_true',Bool.not_eq_false',Bool.and_eq_true,Bool.and_eq_false_iff,Bool.or_eq_true,Bool.or_eq_false_iff,beq_iff_eq,beq_eq_false_iff_ne,ne_eq,decide_eq_decide,Bool.not_eq_true,Bool.not_eq_false,wU] at *
  simp -implicitDefEqProofs only [←decide_not,←Bool.decide_and,←Bool.decide_or,Bool.beq_eq_decide_eq,AV.d.injEq,D.bool.injEq,D.int.injEq,D.str.injEq,AV.tup.injEq,AV.agg.injEq,List.cons.injEq,true_and,and_true,decide_eq_decide,true_eq_decide_iff,false_eq_decide_iff,decide_eq_true_eq,decide_eq_false_iff_not,Bool.true_eq,Bool.false_eq]
  unfold E3 at *
  omega
theorem Qv {s s':Bool} {m m':Int} (h:E3 m) (h':E3 m'):DataW Try.prog ALW [Gj s m,Gj s' m'] (bv (m<m')):=by
 refine A3 AFU (by simp) ?_
 simp -implicitDefEqProofs -proj only [go_sem,seval]
 (repeat' first
  | ((with_reducible first | refine Ej (fun h=>?_) (fun h=>?_) | refine Eb (fun h=>?_) (fun h=>?_) | refine Er (fun h=>?_) (fun h=>?_)) <;> (simp -implicitDefEqProofs -proj only [go_sem,seval, *]; try (revert h; intro _)))
  | ((with_reducible first | refine Aa (fun _ hb=>?_) | refine EL (fun _ hb=>?_)); simp only [Em,Ep,AY,Heap.none_get,and_true,true_and] at hb; simp -implicitDefEqProofs -proj only [go_sem,seval, *]; try (revert hb; intro _))
  | ((with_reducible first | refine EZ _ rfl (by simp) ?_ | refine Es _ rfl (by simp) ?_); simp -implicitDefEqProofs -proj only [go_sem,seval, *])
  | (with_reducible refine BB ?_ (fun h=>?_); first | ((focus first | decide | omega); try clear h; try simp -implicitDefEqProofs -proj only [go_sem,seval, *]) | (rotate_left; try clear h; try simp -implicitDefEqProofs -proj only [go_sem,seval, *]; rotate_right)))
 all_goals
  refine AJ ?_
  simp -implicitDefEqProofs only [decide_eq_true_eq,decide_eq_false_iff_not,Bool.not_eq_true',Bool.not_eq_false',Bool.and_eq_true,Bool.and_eq_false_iff,Bool.or_eq_true,Bool.or_eq_false_iff,beq_iff_eq,beq_eq_false_iff_ne,ne_eq,decide_eq_decide,Bool.not_eq_true,Bool.not_eq_false,wU] at *
  simp -implicitDefEqProofs only [←decide_not,←Bool.decide_and,←Bool.decide_or,Bool.beq_eq_decide_eq,AV.d.injEq,D.bool.injEq,D.int.injEq,D.str.injEq,AV.tup.injEq,AV.agg.injEq,List.cons.injEq,true_and,and_true,decide_eq_decide,true_eq_decide_iff,false_eq_decide_iff,decide_eq_true_eq,decide_eq_false_iff_not,Bool.true_eq,Bool.false_eq]
  unfold E3 at *
  omega
theorem OP {s s':Bool} {m m':Int} (h:E3 m) (h':E3 m') (h2:E3 (m+m')):DataW Try.prog R0 [Gj s m,Gj s' m'] (Gj false (m+m')):=by
 refine A3 AGT (by simp) ?_
 simp -implicitDefEqProofs -proj only [go_sem,seval]
 (repeat' first
  | ((with_reducible first | refine Ej (fun h=>?_) (fun h=>?_) | refine Eb (fun h=>?_) (fun h=>?_) | refine Er (fun h=>?_) (fun h=>?_)) <;> (simp -implicitDefEqProofs -proj only [go_sem,seval, *]; try (revert h; intro _)))
  | ((with_reducible first | refine Aa (fun _ hb=>?_) | refine EL (fun _ hb=>?_)); simp only [Em,Ep,AY,Heap.none_get,and_true,true_and] at hb; simp -implicitDefEqProofs -proj only [go_sem,seval, *]; try (revert hb; intro _))
  | ((with_reducible first | refine EZ _ rfl (by simp) ?_ | refine Es _ rfl (by simp) ?_); simp -implicitDefEqProofs -proj only [go_sem,seval, *])
  | (with_reducible refine BB ?_ (fun h=>?_); first | ((focus first | decide | omega); try clear h; try simp -implicitDefEqProofs -proj only [go_sem,seval, *]) | (rotate_left; try clear h; try simp -implicitDefEqProofs -proj only [go_sem,seval, *]; rotate_right)))
 all_goals
  refine AJ ?_
  simp -implicitDefEqProofs only [decide_eq_true_eq,decide_eq_false_iff_not,Bool.not_eq_true',Bool.not_eq_false',Bool.and_eq_true,Bool.and_eq_false_iff,Bool.or_eq_true,Bool.or_eq_false_iff,beq_iff_eq,beq_eq_false_iff_ne,ne_eq,decide_eq_decide,Bool.not_eq_true,Bool.not_eq_false,wU] at *
  simp -implicitDefEqProofs only [←decide_not,←Bool.decide_and,←Bool.decide_or,Bool.beq_eq_decide_eq,AV.d.injEq,D.bool.injEq,D.int.injEq,D.str.injEq,AV.tup.injEq,AV.agg.injEq,List.cons.injEq,true_and,and_true,decide_eq_decide,true_eq_decide_iff,false_eq_decide_iff,decide_eq_true_eq,decide_eq_false_iff_not,Bool.true_eq,Bool.false_eq]
  unfold E3 at *
  omega
theorem My {s s':Bool} {m m':Int} (h:E3 m) (h':E3 m') (h2:m'≤m):DataW Try.prog Zn [Gj s m,Gj s' m'] (Gj false (m-m')):=by
 refine A3 VD (by simp) ?_
 simp -implicitDefEqProofs -proj only [go_sem,seval]
 (repeat' first
  | ((with_reducible first | refine Ej (fun h=>?_) (fun h=>?_) | refine Eb (fun h=>?_) (fun h=>?_) | refine Er (fun h=>?_) (fun h=>?_)) <;> (simp -implicitDefEqProofs -proj only [go_sem,seval, *]; try (revert h; intro _)))
  | ((with_reducible first | refine Aa (fun _ hb=>?_) | refine EL (fun _ hb=>?_)); simp only [Em,Ep,AY,Heap.none_get,and_true,true_and] at hb; simp -implicitDefEqProofs -proj only [go_sem,seval, *]; try (revert hb; intro _))
  | ((with_reducible first | refine EZ _ rfl (by simp) ?_ | refine Es _ rfl (by simp) ?_); simp -implicitDefEqProofs -proj only [go_sem,seval, *])
  | (with_reducible refine BB ?_ (fun h=>?_); first | ((focus first | decide | omega); try clear h; try simp -implicitDefEqProofs -proj only [go_sem,seval, *]) | (rotate_left; try clear h; try simp -implicitDefEqProofs -proj only [go_sem,seval, *]; rotate_right)))
 all_goals
  refine AJ ?_
  simp -implicitDefEqProofs only [decide_eq_true_eq,decide_eq_false_iff_not,Bool.not_eq_true',Bool.not_eq_false',Bool.and_eq_true,Bool.and_eq_false_iff,Bool.or_eq_true,Bool.or_eq_false_iff,beq_iff_eq,beq_eq_false_iff_ne,ne_eq,decide_eq_decide,Bool.not_eq_true,Bool.not_eq_false,wU] at *
  simp -implicitDefEqProofs only [←decide_not,←Bool.decide_and,←Bool.decide_or,Bool.beq_eq_decide_eq,AV.d.injEq,D.bool.injEq,D.int.injEq,D.str.injEq,AV.tup.injEq,AV.agg.injEq,List.cons.injEq,true_and,and_true,decide_eq_decide,true_eq_decide_iff,false_eq_decide_iff,decide_eq_true_eq,decide_eq_false_iff_not,Bool.true_eq,Bool.false_eq]
  unfold E3 at *
  omega
theorem IM {a:Int} (h:Fit a):DataW Try.prog ALs [i64 a] (wide a):=by
 refine A3 ALM (by simp) ?_
 simp -implicitDefEqProofs -proj only [go_sem,seval]
 (repeat' first
  | ((with_reducible first | refine Ej (fun h=>?_) (fun h=>?_) | refine Eb (fun h=>?_) (fun h=>?_) | refine Er (fun h=>?_) (fun h=>?_)) <;> (simp -implicitDefEqProofs -proj only [go_sem,seval, *]; try (revert h; intro _)))
  | ((with_reducible first | refine Aa (fun _ hb=>?_) | refine EL (fun _ hb=>?_)); simp only [Em,Ep,AY,Heap.none_get,and_true,true_and] at hb; simp -implicitDefEqProofs -proj only [go_sem,seval, *]; try (revert hb; intro _))
  | ((with_reducible first | refine EZ _ rfl (by simp) ?_ | refine Es _ rfl (by simp) ?_); simp -implicitDefEqProofs -proj only [go_sem,seval, *])
  | (with_reducible refine BB ?_ (fun h=>?_); first | ((focus first | decide | omega); try clear h; try simp -implicitDefEqProofs -proj only [go_sem,seval, *]) | (rotate_left; try clear h; try simp -implicitDefEqProofs -proj only [go_sem,seval, *]; rotate_right)))
 all_goals
  refine AJ ?_
  simp -implicitDefEqProofs only [decide_eq_true_eq,decide_eq_false_iff_not,Bool.not_eq_true',Bool.not_eq_false',Bool.and_eq_true,Bool.and_eq_false_iff,Bool.or_eq_true,Bool.or_eq_false_iff,beq_iff_eq,beq_eq_false_iff_ne,ne_eq,decide_eq_decide,Bool.not_eq_true,Bool.not_eq_false,wU,wI,wide,Gj] at *
  simp -implicitDefEqProofs only [←decide_not,←Bool.decide_and,←Bool.decide_or,Bool.beq_eq_decide_eq,AV.d.injEq,D.bool.injEq,D.int.injEq,D.str.injEq,AV.tup.injEq,AV.agg.injEq,List.cons.injEq,true_and,and_true,decide_eq_decide,true_eq_decide_iff,false_eq_decide_iff,decide_eq_true_eq,decide_eq_false_iff_not,Bool.true_eq,Bool.false_eq]
  unfold Fit at *
  omega
theorem Sb {n:Int} (h:E3 n.natAbs):DataW Try.prog AP0 [wide n] (GA n):=by
 refine A3 AIh (by simp) ?_
 simp -implicitDefEqProofs -proj only [go_sem,seval]
 (repeat' first
  | ((with_reducible first | refine Ej (fun h=>?_) (fun h=>?_) | refine Eb (fun h=>?_) (fun h=>?_) | refine Er (fun h=>?_) (fun h=>?_)) <;> (simp -implicitDefEqProofs -proj only [go_sem,seval, *]; try (revert h; intro _)))
  | ((with_reducible first | refine Aa (fun _ hb=>?_) | refine EL (fun _ hb=>?_)); simp only [Em,Ep,AY,Heap.none_get,and_true,true_and] at hb; simp -implicitDefEqProofs -proj only [go_sem,seval, *]; try (revert hb; intro _))
  | ((with_reducible first | refine EZ _ rfl (by simp) ?_ | refine Es _ rfl (by simp) ?_); simp -implicitDefEqProofs -proj only [go_sem,seval, *])
  | (with_reducible refine BB ?_ (fun h=>?_); first | ((focus first | decide | omega); try clear h; try simp -implicitDefEqProofs -proj only [go_sem,seval, *]) | (rotate_left; try clear h; try simp -implicitDefEqProofs -proj only [go_sem,seval, *]; rotate_right)))
 all_goals
  refine AJ (JO ?_)
  simp -implicitDefEqProofs only [decide_eq_true_eq,decide_eq_false_iff_not,Bool.not_eq_true',Bool.not_eq_false',Bool.and_eq_true,Bool.and_eq_false_iff,Bool.or_eq_true,Bool.or_eq_false_iff,beq_iff_eq,beq_eq_false_iff_ne,ne_eq,decide_eq_decide,Bool.not_eq_true,Bool.not_eq_false,wU,wI] at *
  simp -implicitDefEqProofs only [Bool.false_eq_true,reduceCtorEq,true_and,false_and,or_false,false_or]
  unfold Fit E3 at *
  omega
theorem Mr {n:Int} (h:E3 n.natAbs):DataW Try.prog AEb [wide n] (wide (-n)):=by
 refine A3 AAX (by simp) ?_
 simp -implicitDefEqProofs -proj only [go_sem,seval]
 (repeat' first
  | (refine AQ (LF h) ?_; simp -implicitDefEqProofs -proj only [go_sem,seval, *])
  | (refine E0 (LF h) ?_; simp -implicitDefEqProofs -proj only [go_sem,seval, *])
  | ((with_reducible first | refine Ej (fun h=>?_) (fun h=>?_) | refine Eb (fun h=>?_) (fun h=>?_) | refine Er (fun h=>?_) (fun h=>?_)) <;> (simp -implicitDefEqProofs -proj only [go_sem,seval, *]; try (revert h; intro _)))
  | ((with_reducible first | refine Aa (fun _ hb=>?_) | refine EL (fun _ hb=>?_)); simp -implicitDefEqProofs only [Em,Ep,AY,Heap.none_get,and_true,true_and] at hb; simp -implicitDefEqProofs -proj only [go_sem,seval, *]; try (revert hb; intro _))
  | ((with_reducible first | refine EZ _ rfl (by simp) ?_ | refine Es _ rfl (by simp) ?_); simp -implicitDefEqProofs -proj only [go_sem,seval, *])
  | (with_reducible refine BB ?_ (fun h=>?_); first | ((focus first | decide | omega); try clear h; try simp -implicitDefEqProofs -proj only [go_sem,seval, *]) | (rotate_left; try clear h; try simp -implicitDefEqProofs -proj only [go_sem,seval, *]; rotate_right)))
 all_goals
  refine AJ ?_
  simp -implicitDefEqProofs only [decide_eq_true_eq,decide_eq_false_iff_not,Bool.not_eq_true',Bool.not_eq_false',Bool.and_eq_true,Bool.and_eq_false_iff,Bool.or_eq_true,Bool.or_eq_false_iff,beq_iff_eq,beq_eq_false_iff_ne,ne_eq,decide_eq_decide,Bool.not_eq_true,Bool.not_eq_false] at *
  simp -implicitDefEqProofs only [←decide_not,←Bool.decide_and,←Bool.decide_or,Bool.beq_eq_decide_eq,AV.d.injEq,D.bool.injEq,D.int.injEq,D.str.injEq,AV.tup.injEq,AV.agg.injEq,List.cons.injEq,true_and,and_true,decide_eq_decide,true_eq_decide_iff,false_eq_decide_iff,decide_eq_true_eq,decide_eq_false_iff_not,Bool.true_eq,Bool.false_eq]
  omega
set_option maxHeartbeats 2000000 in
theorem Kv {a b:Int} (ha:a.natAbs<170141183460469231731687303715884105728) (hb:b.natAbs<170141183460469231731687303715884105728):DataW Try.prog ADL [wide a,wide b] (wide (a+b)):=by
 have h1:E3 a.natAbs:=by unfold E3; omega
 have h2:E3 b.natAbs:=by unfold E3; omega
 have h3:E3 (a.natAbs+b.natAbs):=by unfold E3; omega
 refine A3 AKj (by simp) ?_
 simp -implicitDefEqProofs -proj only [go_sem,seval]
 (repeat' first
  | (refine AQ (OP h1 h2 h3) ?_; simp -implicitDefEqProofs -proj only [go_sem,seval, *])
  | (refine E0 (OP h1 h2 h3) ?_; simp -implicitDefEqProofs -proj only [go_sem,seval, *])
  | (refine AQ (LF (by simp -implicitDefEqProofs only [decide_eq_true_eq,decide_eq_false_iff_not,Bool.not_eq_true',Bool.not_eq_false',Bool.and_eq_true,Bool.and_eq_false_iff,Bool.or_eq_true,Bool.or_eq_false_iff,beq_iff_eq,beq_eq_false_iff_ne,ne_eq,decide_eq_decide,Bool.not_eq_true,Bool.not_eq_false] at *; unfold E3 at *; omega)) ?_; simp -implicitDefEqProofs -proj only [go_sem,seval, *])
  | (refine E0 (LF (by simp -implicitDefEqProofs only [decide_eq_true_eq,decide_eq_false_iff_not,Bool.not_eq_true',Bool.not_eq_false',Bool.and_eq_true,Bool.and_eq_false_iff,Bool.or_eq_true,Bool.or_eq_false_iff,beq_iff_eq,beq_eq_false_iff_ne,ne_eq,decide_eq_decide,Bool.not_eq_true,Bool.not_eq_false] at *; unfold E3 at *; omega)) ?_; simp -implicitDefEqProofs -proj only [go_sem,seval, *])
  | (refine AQ (Qv h1 h2) ?_; simp -implicitDefEqProofs -proj only [go_sem,seval, *])
  | (refine E0 (Qv h1 h2) ?_; simp -implicitDefEqProofs -proj only [go_sem,seval, *])
  | (refine AQ (My h1 h2 (by simp -implicitDefEqProofs only [decide_eq_true_eq,decide_eq_false_iff_not,Bool.not_eq_true',Bool.not_eq_false',Bool.and_eq_true,Bool.and_eq_false_iff,Bool.or_eq_true,Bool.or_eq_false_iff,beq_iff_eq,beq_eq_false_iff_ne,ne_eq,decide_eq_decide,Bool.not_eq_true,Bool.not_eq_false] at *; omega)) ?_; simp -implicitDefEqProofs -proj only [go_sem,seval, *])
  | (refine E0 (My h1 h2 (by simp -implicitDefEqProofs only [decide_eq_true_eq,decide_eq_false_iff_not,Bool.not_eq_true',Bool.not_eq_false',Bool.and_eq_true,Bool.and_eq_false_iff,Bool.or_eq_true,Bool.or_eq_false_iff,beq_iff_eq,beq_eq_false_iff_ne,ne_eq,decide_eq_decide,Bool.not_eq_true,Bool.not_eq_false] at *; omega)) ?_; simp -implicitDefEqProofs -proj only [go_sem,seval, *])
  | (refine AQ (My h2 h1 (by simp -implicitDefEqProofs only [decide_eq_true_eq,decide_eq_false_iff_not,Bool.not_eq_true',Bool.not_eq_false',Bool.and_eq_true,Bool.and_eq_false_iff,Bool.or_eq_true,Bool.or_eq_false_iff,beq_iff_eq,beq_eq_false_iff_ne,ne_eq,decide_eq_decide,Bool.not_eq_true,Bool.not_eq_false] at *; omega)) ?_; simp -implicitDefEqProofs -proj only [go_sem,seval, *])
  | (refine E0 (My h2 h1 (by simp -implicitDefEqProofs only [decide_eq_true_eq,decide_eq_false_iff_not,Bool.not_eq_true',Bool.not_eq_false',Bool.and_eq_true,Bool.and_eq_false_iff,Bool.or_eq_true,Bool.or_eq_false_iff,beq_iff_eq,beq_eq_false_iff_ne,ne_eq,decide_eq_decide,Bool.not_eq_true,Bool.not_eq_false] at *; omega)) ?_; simp -implicitDefEqProofs -proj only [go_sem,seval, *])
  | ((with_reducible first | refine Ej (fun h=>?_) (fun h=>?_) | refine Eb (fun h=>?_) (fun h=>?_) | refine Er (fun h=>?_) (fun h=>?_)) <;> (simp -implicitDefEqProofs -proj only [go_sem,seval, *]; try (revert h; intro _)))
  | ((with_reducible first | refine Aa (fun _ hb=>?_) | refine EL (fun _ hb=>?_)); simp -implicitDefEqProofs only [Em,Ep,AY,Heap.none_get,and_true,true_and] at hb; simp -implicitDefEqProofs -proj only [go_sem,seval, *]; try (revert hb; intro _))
  | ((with_reducible first | refine EZ _ rfl (by simp) ?_ | refine Es _ rfl (by simp) ?_); simp -implicitDefEqProofs -proj only [go_sem,seval, *])
  | (with_reducible refine BB ?_ (fun h=>?_); first | ((focus first | decide | omega); try clear h; try simp -implicitDefEqProofs -proj only [go_sem,seval, *]) | (rotate_left; try clear h; try simp -implicitDefEqProofs -proj only [go_sem,seval, *]; rotate_right)))
 all_goals
  refine AJ ?_
  simp -implicitDefEqProofs only [decide_eq_true_eq,decide_eq_false_iff_not,Bool.not_eq_true',Bool.not_eq_false',Bool.and_eq_true,Bool.and_eq_false_iff,Bool.or_eq_true,Bool.or_eq_false_iff,beq_iff_eq,beq_eq_false_iff_ne,ne_eq,decide_eq_decide,Bool.not_eq_true,Bool.not_eq_false] at *
  simp -implicitDefEqProofs only [←decide_not,←Bool.decide_and,←Bool.decide_or,Bool.beq_eq_decide_eq,AV.d.injEq,D.bool.injEq,D.int.injEq,D.str.injEq,AV.tup.injEq,AV.agg.injEq,List.cons.injEq,true_and,and_true,decide_eq_decide,true_eq_decide_iff,false_eq_decide_iff,decide_eq_true_eq,decide_eq_false_iff_not,Bool.true_eq,Bool.false_eq]
  omega
theorem Nj {x y:Int} (hx:0≤x∧x≤4294967295) (hy:0≤y∧y≤4294967295):0≤x*y∧x*y≤18446744065119617025:=by
 refine ⟨Int.mul_nonneg hx.1 hy.1,?_⟩
 have:=Int.mul_le_mul hx.2 hy.2 hy.1 (by omega)
 omega
theorem Q5 {n:Int}:n.fdiv 4294967296=n / 4294967296:=Int.fdiv_eq_ediv_of_nonneg _ (by omega)
theorem AOZ {n:Int} (h:0≤n):n.tmod 4294967296=n % 4294967296:=Int.tmod_eq_emod_of_nonneg h
def Ow (x y:Int):Nat→Int
 | 0=>x / 4294967296*(y / 4294967296)*18446744073709551616+x % 4294967296*(y % 4294967296)
 | 1=>x / 4294967296*(y / 4294967296)*18446744073709551616+x % 4294967296*(y % 4294967296)+x % 4294967296*(y / 4294967296)*4294967296
 | _=>x / 4294967296*(y / 4294967296)*18446744073709551616+x % 4294967296*(y % 4294967296)+x % 4294967296*(y / 4294967296)*4294967296+x / 4294967296*(y % 4294967296)*4294967296
theorem AIs (x y:Int):Ow x y 2=x*y:=by
 have hx:=Int.emod_add_mul_ediv x 4294967296
 have hy:=Int.emod_add_mul_ediv y 4294967296
 have e:x*y=(x % 4294967296+4294967296*(x / 4294967296))*(y % 4294967296+4294967296*(y / 4294967296)):=by rw [hx,hy]
 rw [e]
 simp -implicitDefEqProofs only [Ow,Int.add_mul,Int.mul_add]
 have e1:∀p q:Int,p*(4294967296*q)=p*q*4294967296:=fun p q=>by rw [Int.mul_left_comm]; omega
 have e2:∀p q:Int,4294967296*p*q=p*q*4294967296:=fun p q=>by rw [Int.mul_assoc]; omega
 have e3:∀p q:Int,4294967296*p*(4294967296*q)=p*q*18446744073709551616:=fun p q=>by rw [e1,e2]; omega
 rw [e1,e2,e3]
 generalize x / 4294967296*(y / 4294967296)=p
 generalize x % 4294967296*(y % 4294967296)=q
 generalize x % 4294967296*(y / 4294967296)=r
 generalize x / 4294967296*(y % 4294967296)=t
 omega
theorem VM (x y:Int):x*y<0↔(¬(x<0↔y<0)∧x*y≠0):=by
 rcases Int.lt_trichotomy x 0 with hx | hx | hx <;> rcases Int.lt_trichotomy y 0 with hy | hy | hy
 ·have:=Int.mul_pos_of_neg_of_neg hx hy; omega
 ·subst hy; simp
 ·have:=Int.mul_neg_of_neg_of_pos hx hy; omega
 ·subst hx; simp
 ·subst hx; simp
 ·subst hx; simp
 ·have:=Int.mul_neg_of_pos_of_neg hx hy; omega
 ·subst hy; simp
 ·have:=Int.mul_pos hx hy; omega
end
section
attribute [local go_sem] Gj wide
def GH (p u v:Int):Nat→Int
 | 0=>p
 | 1=>p+u*4294967296
 | _=>p+u*4294967296+v*4294967296
theorem O2 {p u v:Int}:GH p u v 0=p:=(rfl)
theorem Os {p u v:Int}:GH p u v 1=p+u*4294967296:=(rfl)
theorem LV {p u v:Int}:GH p u v 2=p+u*4294967296+v*4294967296:=(rfl)
theorem Rs {p u v:Int} (hp:0≤p∧p<340282366920938463389587631136930004992) (hu:0≤u∧u≤18446744065119617025) (hv:0≤v∧v≤18446744065119617025) (i:Nat) (h:E3 (GH p u v 2)) (hi:i≤2):E3 (GH p u v i):=by
 have hi:i=0∨i=1∨i=2:=by omega
 unfold E3 at *
 rw [LV] at h
 rcases hi with rfl | rfl | rfl
 ·rw [O2]; omega
 ·rw [Os]; omega
 ·rw [LV]; omega
theorem ACJ {p u v:Int} (hp:0≤p∧p<340282366920938463389587631136930004992) (hu:0≤u∧u≤18446744065119617025) (hv:0≤v∧v≤18446744065119617025) (h2:E3 (GH p u v 2)) {R:Out→St→Prop} {tl:Nat→List (Nat×AV)} {hl:Nat→List (Nat×Blk)} {br b4 b5 b6 b11:Nat} {B4 B5 B6:Blk} (n1:¬b11=br) (n2:¬br=b11) (n3:¬b4=br) (n4:¬b4=b11) (n5:¬b5=br) (n6:¬b5=b11) (n7:¬b6=br) (n8:¬b6=b11)  (m4:¬b11=b4) (m6:¬b11=b5) (m8:¬b11=b6) (n9:¬b5=b4) (n10:¬b6=b4) (n11:¬b6=b5)
  (ht:∀i:Nat,tl i=[(43,.own br 1 0 2 2),(44,i64 2),(45,i64 i),(11,.ptr b11 0),(4,.ptr b4 0),(5,.ptr b5 0),(6,.ptr b6 0)])
  (hh:∀i:Nat,hl i=[(br,.row 120 1 2 [[.int .u64 u],[.int .u64 v]]),(b11,.box 122 [bv false,u64 (GH p u v i / 18446744073709551616),u64 (GH p u v i % 18446744073709551616)]),(b4,B4),(b5,B5),(b6,B6)]) {i:Nat} (hi:i≤1) :
  FX Try.prog (It (fun i=>i≤2) (fun x=>⟨69,FM (tl x),EH (hl x)⟩) (fun i=>2-i) i R) Q4 [] ⟨69,FM (tl i),EH (hl i)⟩:=by
 have key:∀j:Nat,∀w c:Int,j≤1→(w=u∧j=0∨w=v∧j=1)→c=GH p u v (j+1)→DataW Try.prog R0 [.agg [bv false,u64 (GH p u v j / 18446744073709551616),u64 (GH p u v j % 18446744073709551616)],.agg [bv false,u64 (w.fdiv 4294967296),u64 (IntKind.u64.wrap (w*4294967296))]] (.agg [bv false,u64 (c / 18446744073709551616),u64 (c % 18446744073709551616)]):=by
  intro j w c hj hw hc
  have e:E3 w∧E3 (w*4294967296):=by unfold E3; omega
  have e3:c=GH p u v j+w*4294967296:=by
   rcases hw with ⟨rfl,rfl⟩ | ⟨rfl,rfl⟩
   ·rw [hc,Os,O2]
   ·rw [hc,LV,Os]
  have h:=OP (s:=false) (s':=false) (Rs hp hu hv j h2 (by omega)) e.2 (by have:=Rs hp hu hv (j+1) h2 (by omega); rw [←hc,e3] at this; exact this)
  rw [←e3] at h
  have e4:AV.agg [bv false,u64 (w.fdiv 4294967296),u64 (IntKind.u64.wrap (w*4294967296))]=Gj false (w*4294967296):=by
   simp -implicitDefEqProofs only [Gj,wU,Q5,←decide_not,←Bool.decide_and,←Bool.decide_or,Bool.beq_eq_decide_eq,AV.d.injEq,D.bool.injEq,D.int.injEq,D.str.injEq,AV.tup.injEq,AV.agg.injEq,List.cons.injEq,true_and,and_true,decide_eq_decide,true_eq_decide_iff,false_eq_decide_iff,decide_eq_true_eq,decide_eq_false_iff_not,Bool.true_eq,Bool.false_eq]; omega
  rw [e4]; exact h
 have k0:=key 0 u _ (by omega) (.inl ⟨rfl,rfl⟩) rfl
 have k1:=key 1 v _ (by omega) (.inr ⟨rfl,rfl⟩) rfl
 clear key
 have hi:i=0∨i=1:=by omega
 have next:∀(j:Nat) (s:St) ,j≤2→i<j→69=s.n→AP s.t (tl j)→Al s.H (hl j)→It (fun i=>i≤2) (fun x=>⟨69,FM (tl x),EH (hl x)⟩) (fun i=>2-i) i R .normal s:=fun j s a b c d e=>EF j a (by omega) c d e
 generalize (It (fun i=>i≤2) (fun x=>⟨69,FM (tl x),EH (hl x)⟩) (fun i=>2-i) i R)=Q at next ⊢
 rw [ht,hh]
 rcases hi with rfl | rfl
 ·generalize GH p u v 0=m0 at *
  generalize hm:GH p u v (0+1)=m1 at *
  simp -implicitDefEqProofs -proj only [go_sem,seval,n1,n2]
  (repeat' first
  | ((with_reducible first | refine Ej (fun h=>?_) (fun h=>?_) | refine Eb (fun h=>?_) (fun h=>?_) | refine Er (fun h=>?_) (fun h=>?_)) <;> (simp -implicitDefEqProofs -proj only [go_sem,seval, *]; try (revert h; intro _)))
  | ((with_reducible first | refine Aa (fun _ hb=>?_) | refine EL (fun _ hb=>?_)); simp only [Em,Ep,AY,Heap.none_get,and_true,true_and] at hb; simp -implicitDefEqProofs -proj only [go_sem,seval, *]; try (revert hb; intro _))
  | ((with_reducible first | refine EZ _ rfl (by simp) ?_ | refine Es _ rfl (by simp) ?_); simp -implicitDefEqProofs -proj only [go_sem,seval, *])
  | (with_reducible refine BB ?_ (fun h=>?_); first | ((focus first | decide | omega); try clear h; try simp -implicitDefEqProofs -proj only [go_sem,seval, *]) | (rotate_left; try clear h; try simp -implicitDefEqProofs -proj only [go_sem,seval, *]; rotate_right)))
  refine AQ k0 ?_
  simp -implicitDefEqProofs -proj only [go_sem,seval,n1,n2]
  (repeat' first
  | ((with_reducible first | refine Ej (fun h=>?_) (fun h=>?_) | refine Eb (fun h=>?_) (fun h=>?_) | refine Er (fun h=>?_) (fun h=>?_)) <;> (simp -implicitDefEqProofs -proj only [go_sem,seval, *]; try (revert h; intro _)))
  | ((with_reducible first | refine Aa (fun _ hb=>?_) | refine EL (fun _ hb=>?_)); simp only [Em,Ep,AY,Heap.none_get,and_true,true_and] at hb; simp -implicitDefEqProofs -proj only [go_sem,seval, *]; try (revert hb; intro _))
  | ((with_reducible first | refine EZ _ rfl (by simp) ?_ | refine Es _ rfl (by simp) ?_); simp -implicitDefEqProofs -proj only [go_sem,seval, *])
  | (with_reducible refine BB ?_ (fun h=>?_); first | ((focus first | decide | omega); try clear h; try simp -implicitDefEqProofs -proj only [go_sem,seval, *]) | (rotate_left; try clear h; try simp -implicitDefEqProofs -proj only [go_sem,seval, *]; rotate_right)))
  refine next 1 _ (by omega) (by omega) rfl ?_ ?_
  ·rw [ht]; simp -implicitDefEqProofs -proj only [go_sem,seval,AP,IntKind.wrap_i64]; try (simp -implicitDefEqProofs only [←decide_not,←Bool.decide_and,←Bool.decide_or,Bool.beq_eq_decide_eq,AV.d.injEq,D.bool.injEq,D.int.injEq,D.str.injEq,AV.tup.injEq,AV.agg.injEq,List.cons.injEq,true_and,and_true,decide_eq_decide,true_eq_decide_iff,false_eq_decide_iff,decide_eq_true_eq,decide_eq_false_iff_not,Bool.true_eq,Bool.false_eq]; omega)
  ·rw [hh,show GH p u v 1=m1 from hm]; simp -implicitDefEqProofs -proj only [go_sem,seval,Al,n1,n2,n3,n4,n5,n6,n7,n8,n9,n10,n11,m4,m6,m8]
 ·generalize GH p u v 1=m0 at *
  generalize hm:GH p u v (1+1)=m1 at *
  simp -implicitDefEqProofs -proj only [go_sem,seval,n1,n2]
  (repeat' first
  | ((with_reducible first | refine Ej (fun h=>?_) (fun h=>?_) | refine Eb (fun h=>?_) (fun h=>?_) | refine Er (fun h=>?_) (fun h=>?_)) <;> (simp -implicitDefEqProofs -proj only [go_sem,seval, *]; try (revert h; intro _)))
  | ((with_reducible first | refine Aa (fun _ hb=>?_) | refine EL (fun _ hb=>?_)); simp only [Em,Ep,AY,Heap.none_get,and_true,true_and] at hb; simp -implicitDefEqProofs -proj only [go_sem,seval, *]; try (revert hb; intro _))
  | ((with_reducible first | refine EZ _ rfl (by simp) ?_ | refine Es _ rfl (by simp) ?_); simp -implicitDefEqProofs -proj only [go_sem,seval, *])
  | (with_reducible refine BB ?_ (fun h=>?_); first | ((focus first | decide | omega); try clear h; try simp -implicitDefEqProofs -proj only [go_sem,seval, *]) | (rotate_left; try clear h; try simp -implicitDefEqProofs -proj only [go_sem,seval, *]; rotate_right)))
  refine AQ k1 ?_
  simp -implicitDefEqProofs -proj only [go_sem,seval,n1,n2]
  (repeat' first
  | ((with_reducible first | refine Ej (fun h=>?_) (fun h=>?_) | refine Eb (fun h=>?_) (fun h=>?_) | refine Er (fun h=>?_) (fun h=>?_)) <;> (simp -implicitDefEqProofs -proj only [go_sem,seval, *]; try (revert h; intro _)))
  | ((with_reducible first | refine Aa (fun _ hb=>?_) | refine EL (fun _ hb=>?_)); simp only [Em,Ep,AY,Heap.none_get,and_true,true_and] at hb; simp -implicitDefEqProofs -proj only [go_sem,seval, *]; try (revert hb; intro _))
  | ((with_reducible first | refine EZ _ rfl (by simp) ?_ | refine Es _ rfl (by simp) ?_); simp -implicitDefEqProofs -proj only [go_sem,seval, *])
  | (with_reducible refine BB ?_ (fun h=>?_); first | ((focus first | decide | omega); try clear h; try simp -implicitDefEqProofs -proj only [go_sem,seval, *]) | (rotate_left; try clear h; try simp -implicitDefEqProofs -proj only [go_sem,seval, *]; rotate_right)))
  refine next 2 _ (by omega) (by omega) rfl ?_ ?_
  ·rw [ht]; simp -implicitDefEqProofs -proj only [go_sem,seval,AP,IntKind.wrap_i64]; try (simp -implicitDefEqProofs only [←decide_not,←Bool.decide_and,←Bool.decide_or,Bool.beq_eq_decide_eq,AV.d.injEq,D.bool.injEq,D.int.injEq,D.str.injEq,AV.tup.injEq,AV.agg.injEq,List.cons.injEq,true_and,and_true,decide_eq_decide,true_eq_decide_iff,false_eq_decide_iff,decide_eq_true_eq,decide_eq_false_iff_not,Bool.true_eq,Bool.false_eq]; omega)
  ·rw [hh,show GH p u v 2=m1 from hm]; simp -implicitDefEqProofs -proj only [go_sem,seval,Al,n1,n2,n3,n4,n5,n6,n7,n8,n9,n10,n11,m4,m6,m8]
theorem Rd {x y:Int} (hx:Fit x) (hy:Fit y):0≤(x.natAbs:Int)*y.natAbs∧(x.natAbs:Int)*y.natAbs≤85070591730234615865843651857942052864:=by
 refine ⟨Int.mul_nonneg (by omega) (by omega),?_⟩
 have:=Int.mul_le_mul (a:=(x.natAbs:Int)) (c:=9223372036854775808) (b:=(y.natAbs:Int)) (d:=9223372036854775808) (by unfold Fit at hx; omega) (by unfold Fit at hy; omega) (by omega) (by omega)
 omega
theorem LA {x y:Int} (ha:Fit x) (hb:Fit y):DataW Try.prog Zy [i64 x,i64 y] (wide (x*y)):=by
 have hx:((x.natAbs:Int) % 18446744073709551616)=x.natAbs:=by unfold Fit at ha; omega
 have hy:((y.natAbs:Int) % 18446744073709551616)=y.natAbs:=by unfold Fit at hb; omega
 refine A3 AMQ (by simp) ?_
 simp -implicitDefEqProofs -proj only [go_sem,seval]
 (repeat' first
  | (refine AQ (IM ha) ?_; simp -implicitDefEqProofs -proj only [go_sem,seval, *])
  | (refine E0 (IM ha) ?_; simp -implicitDefEqProofs -proj only [go_sem,seval, *])
  | (refine AQ (IM hb) ?_; simp -implicitDefEqProofs -proj only [go_sem,seval, *])
  | (refine E0 (IM hb) ?_; simp -implicitDefEqProofs -proj only [go_sem,seval, *])
  | ((with_reducible first | refine Ej (fun h=>?_) (fun h=>?_) | refine Eb (fun h=>?_) (fun h=>?_) | refine Er (fun h=>?_) (fun h=>?_)) <;> (simp -implicitDefEqProofs -proj only [go_sem,seval, *]; try (revert h; intro _)))
  | ((with_reducible first | refine Aa (fun _ hb=>?_) | refine EL (fun _ hb=>?_)); simp -implicitDefEqProofs only [Em,Ep,AY,Heap.none_get,and_true,true_and] at hb; simp -implicitDefEqProofs -proj only [go_sem,seval, *]; try (revert hb; intro _))
  | ((with_reducible first | refine EZ _ rfl (by simp) ?_ | refine Es _ rfl (by simp) ?_); simp -implicitDefEqProofs -proj only [go_sem,seval, *])
  | (with_reducible refine BB ?_ (fun h=>?_); first | ((focus first | decide | omega); try clear h; try simp -implicitDefEqProofs -proj only [go_sem,seval, *]) | (rotate_left; try clear h; try simp -implicitDefEqProofs -proj only [go_sem,seval, *]; rotate_right)))
 simp -implicitDefEqProofs -proj only [go_sem,seval,hx,hy,Q5,AOZ (Int.natCast_nonneg _), *]
 (repeat' first
  | (refine AQ (IM ha) ?_; simp -implicitDefEqProofs -proj only [go_sem,seval, *])
  | (refine E0 (IM ha) ?_; simp -implicitDefEqProofs -proj only [go_sem,seval, *])
  | (refine AQ (IM hb) ?_; simp -implicitDefEqProofs -proj only [go_sem,seval, *])
  | (refine E0 (IM hb) ?_; simp -implicitDefEqProofs -proj only [go_sem,seval, *])
  | ((with_reducible first | refine Ej (fun h=>?_) (fun h=>?_) | refine Eb (fun h=>?_) (fun h=>?_) | refine Er (fun h=>?_) (fun h=>?_)) <;> (simp -implicitDefEqProofs -proj only [go_sem,seval, *]; try (revert h; intro _)))
  | ((with_reducible first | refine Aa (fun _ hb=>?_) | refine EL (fun _ hb=>?_)); simp -implicitDefEqProofs only [Em,Ep,AY,Heap.none_get,and_true,true_and] at hb; simp -implicitDefEqProofs -proj only [go_sem,seval, *]; try (revert hb; intro _))
  | ((with_reducible first | refine EZ _ rfl (by simp) ?_ | refine Es _ rfl (by simp) ?_); simp -implicitDefEqProofs -proj only [go_sem,seval, *])
  | (with_reducible refine BB ?_ (fun h=>?_); first | ((focus first | decide | omega); try clear h; try simp -implicitDefEqProofs -proj only [go_sem,seval, *]) | (rotate_left; try clear h; try simp -implicitDefEqProofs -proj only [go_sem,seval, *]; rotate_right)))
 next b4 _ b5 hb5 b6 hb6 b11 hb11 br hbr =>
 have hp:=Nj (x:=x.natAbs / 4294967296) (y:=y.natAbs / 4294967296) (by unfold Fit at ha; omega) (by unfold Fit at hb; omega)
 have hq:=Nj (x:=x.natAbs % 4294967296) (y:=y.natAbs % 4294967296) (by unfold Fit at ha; omega) (by unfold Fit at hb; omega)
 have hr:=Nj (x:=x.natAbs % 4294967296) (y:=y.natAbs / 4294967296) (by unfold Fit at ha; omega) (by unfold Fit at hb; omega)
 have ht:=Nj (x:=x.natAbs / 4294967296) (y:=y.natAbs % 4294967296) (by unfold Fit at ha; omega) (by unfold Fit at hb; omega)
 have hm:=AIs x.natAbs y.natAbs
 have hxy:=Rd ha hb
 have hn:(x.natAbs:Int)*y.natAbs=(x*y).natAbs:=by rw [Int.natAbs_mul]; rfl
 have hs:=VM x y
 rw [hn] at hm hxy
 simp -implicitDefEqProofs only [Ow] at hm
 have hz:(x*y).natAbs=0↔x*y=0:=Int.natAbs_eq_zero
 generalize (x*y).natAbs=N at *
 generalize hmn:x*y=mn at *
 generalize x.natAbs / (4294967296:Int)*(y.natAbs / (4294967296:Int))=P at *
 generalize x.natAbs % (4294967296:Int)*(y.natAbs % (4294967296:Int))=q at *
 generalize x.natAbs % (4294967296:Int)*(y.natAbs / (4294967296:Int))=u at *
 generalize x.natAbs / (4294967296:Int)*(y.natAbs % (4294967296:Int))=v at *
 obtain ⟨tl,htl⟩:∃tl:Nat→List (Nat×AV),∀i:Nat,tl i=[(43,.own br 1 0 2 2),(44,i64 2),(45,i64 i),(11,.ptr b11 0),(4,.ptr b4 0),(5,.ptr b5 0),(6,.ptr b6 0)]:=⟨_,fun _=>rfl⟩
 obtain ⟨hl,hhl⟩:∃hl:Nat→List (Nat×Blk),∀i:Nat,hl i=[(br,.row 120 1 2 [[.int .u64 u],[.int .u64 v]]),(b11,.box 122 [bv false,u64 (GH (P*18446744073709551616+q) u v i / 18446744073709551616),u64 (GH (P*18446744073709551616+q) u v i % 18446744073709551616)]),
   (b4,.box 122 [bv false,u64 0,u64 0]),(b5,.box 122 [bv (decide (x<0)),u64 (↑x.natAbs / 18446744073709551616),u64 ↑x.natAbs]),(b6,.box 122 [bv (decide (y<0)),u64 (↑y.natAbs / 18446744073709551616),u64 ↑y.natAbs])]:=⟨_,fun _=>rfl⟩
 refine EX (fun i:Nat=>i≤2) 69 tl hl
  (fun i=>2-i) 0 (by omega) rfl ?_ ?_ ?_
 ·rw [htl]; simp -implicitDefEqProofs -proj only [go_sem,seval,AP]
 ·rw [hhl,O2]; simp -implicitDefEqProofs -proj only [go_sem,seval,Al, *]
  simp -implicitDefEqProofs only [wU,Option.some.injEq,Blk.box.injEq,Blk.row.injEq,←decide_not,←Bool.decide_and,←Bool.decide_or,Bool.beq_eq_decide_eq,AV.d.injEq,D.bool.injEq,D.int.injEq,D.str.injEq,AV.tup.injEq,AV.agg.injEq,List.cons.injEq,true_and,and_true,decide_eq_decide,true_eq_decide_iff,false_eq_decide_iff,decide_eq_true_eq,decide_eq_false_iff_not,Bool.true_eq,Bool.false_eq]
  omega
 ·intro i hi
  by_cases hi2:i≤1
  ·refine ACJ (p:=P*18446744073709551616+q) (by omega) hr ht ?_ ?_ ?_ ?_ ?_ ?_ ?_ ?_ ?_ ?_ ?_ ?_ ?_ ?_ ?_ htl hhl hi2
   ·rw [LV,hm]; unfold E3; omega
   all_goals simp -implicitDefEqProofs only [hb5,hb6,hb11,hbr,not_false_eq_true]
  ·have hi:i=2:=by omega
   subst hi
   rw [htl,hhl,LV,hm]
   simp -implicitDefEqProofs -proj only [go_sem,seval,hb5,hb6,hb11,hbr]
   (repeat' first
  | (refine AQ (LF (m:=N) (by unfold E3; omega)) ?_; simp -implicitDefEqProofs -proj only [go_sem,seval, *])
  | (refine E0 (LF (m:=N) (by unfold E3; omega)) ?_; simp -implicitDefEqProofs -proj only [go_sem,seval, *])
  | ((with_reducible first | refine Ej (fun h=>?_) (fun h=>?_) | refine Eb (fun h=>?_) (fun h=>?_) | refine Er (fun h=>?_) (fun h=>?_)) <;> (simp -implicitDefEqProofs -proj only [go_sem,seval, *]; try (revert h; intro _)))
  | ((with_reducible first | refine Aa (fun _ hb=>?_) | refine EL (fun _ hb=>?_)); simp -implicitDefEqProofs only [Em,Ep,AY,Heap.none_get,and_true,true_and] at hb; simp -implicitDefEqProofs -proj only [go_sem,seval, *]; try (revert hb; intro _))
  | ((with_reducible first | refine EZ _ rfl (by simp) ?_ | refine Es _ rfl (by simp) ?_); simp -implicitDefEqProofs -proj only [go_sem,seval, *])
  | (with_reducible refine BB ?_ (fun h=>?_); first | ((focus first | decide | omega); try clear h; try simp -implicitDefEqProofs -proj only [go_sem,seval, *]) | (rotate_left; try clear h; try simp -implicitDefEqProofs -proj only [go_sem,seval, *]; rotate_right)))
   all_goals
    refine AJ ?_
    simp -implicitDefEqProofs only [decide_eq_true_eq,decide_eq_false_iff_not,Bool.not_eq_true',Bool.not_eq_false',Bool.and_eq_true,Bool.and_eq_false_iff,Bool.or_eq_true,Bool.or_eq_false_iff,beq_iff_eq,beq_eq_false_iff_ne,ne_eq,decide_eq_decide,Bool.not_eq_true,Bool.not_eq_false] at *
    simp -implicitDefEqProofs only [←decide_not,←Bool.decide_and,←Bool.decide_or,Bool.beq_eq_decide_eq,AV.d.injEq,D.bool.injEq,D.int.injEq,D.str.injEq,AV.tup.injEq,AV.agg.injEq,List.cons.injEq,true_and,and_true,decide_eq_decide,true_eq_decide_iff,false_eq_decide_iff,decide_eq_true_eq,decide_eq_false_iff_not,Bool.true_eq,Bool.false_eq]
    first
    | exact ⟨fun h'=>⟨by assumption,by omega⟩,fun h'=>by omega⟩
    | exact fun h'=>h'.1 (by assumption)
    | omega
theorem OA {x y:Int} (hx:Fit x) (hy:Fit y):(x*y).natAbs≤85070591730234615865843651857942052864:=by
 have h:=Rd hx hy
 have:(x.natAbs:Int)*y.natAbs=(x*y).natAbs:=by rw [Int.natAbs_mul]; rfl
 omega
end
theorem Qm {s:ByteArray} (h:(s.toList == (⟨⟨[]⟩⟩:ByteArray).toList)=false):0<s.size:=by
 rcases Nat.eq_zero_or_pos s.size with e | e
 ·obtain ⟨a⟩:=s
  have:a = #[]:=Array.eq_empty_of_size_eq_zero e
  subst this
  simp at h
 ·exact e
def IA (c:Int):Prop:=48≤c∧c≤57
instance (c:Int):Decidable (IA c):=by unfold IA; exact inferInstance
theorem Tv {c:Int}:DataW Try.prog AEB [.d (.int .u8 c)] (bv (decide (IA c))):=by
 refine A3 Vs (by simp) ?_
 by_cases h:48≤c
 ·simp -implicitDefEqProofs -proj only [go_sem,seval,decide_eq_true h]
  exact AJ (by rw [show decide (IA c)=decide (c≤57) from decide_eq_decide.2 (by unfold IA; omega)])
 ·simp -implicitDefEqProofs -proj only [go_sem,seval,decide_eq_false h]
  exact AJ (by rw [decide_eq_false (show ¬IA c by unfold IA; omega)])
def Im (s:ByteArray):Nat→Nat→Int→Option Int
 | 0,_,p=>some p
 | k+1,i,p=>if EE s i=46 then (if 1<p+1∨i+1=s.size then none else Im s k (i+1) (p+1)) else if IA (EE s i) then Im s k (i+1) p else none
def JK (s:ByteArray):Int:=if s.toList == (⟨⟨[]⟩⟩:ByteArray).toList then 0 else if IA (EE s 0) then (match Im s s.size 0 0 with
 | none=>0
 | some p=>if EE s 0=48∧1<s.size∧¬EE s 1=46 then 0 else 1+p) else 0
theorem Uw {s:ByteArray} {i:Nat} {p:Int} (h:i<s.size):Im s (s.size-i) i p=if EE s i=46 then (if 1<p+1∨i+1=s.size then none else Im s (s.size-(i+1)) (i+1) (p+1)) else if IA (EE s i) then Im s (s.size-(i+1)) (i+1) p else none:=by
 rw [show s.size-i=(s.size-(i+1))+1 by omega,Im]
theorem R7 {s:ByteArray} (hs:s.size≤8192):DataW Try.prog Xw [.d (.str s)] (i64 (JK s)):=by
 refine A3 ABZ (by simp) ?_
 unfold JK
 cases e0:(s.toList == (⟨⟨[]⟩⟩:ByteArray).toList) with
 | true =>
  simp -implicitDefEqProofs -proj only [go_sem,seval,HU,e0]
  exact AJ rfl
 | false =>
 have h0:=Qm e0
 rw [if_neg (by decide)]
 simp -implicitDefEqProofs -proj only [go_sem,seval,HU,e0]
 refine BB (by omega) (fun _=>?_)
 refine AQ (Tv (c:=EE s 0)) ?_
 by_cases g0:IA (EE s 0)
 rotate_left
 ·rw [if_neg g0]
  simp -implicitDefEqProofs -proj only [go_sem,seval,decide_eq_false g0,Bool.not_false]
  exact AJ rfl
 rw [if_pos g0]
 simp -implicitDefEqProofs -proj only [go_sem,seval,decide_eq_true g0,Bool.not_true]
 generalize hR:Im s s.size 0 0=R
 refine EX (fun y:Nat×Int=>y.1≤s.size∧(0≤y.2∧y.2≤1)∧Im s (s.size-y.1) y.1 y.2=R) 54 (fun y=>[(0,.d (.str s)),(3,i64 y.2),(4,i64 y.1)]) (fun _=>[]) (fun y=>s.size-y.1) (0,0) ⟨Nat.zero_le _,by decide,hR⟩ rfl ?_ ?_ ?_
 ·simp -implicitDefEqProofs -proj only [go_sem,seval,AP]
 ·trivial
 ·rintro ⟨i,p⟩ ⟨hi,hp,hn⟩
  simp -implicitDefEqProofs only [AZ,Ac] at hi hp hn
  have hto:((i:Int)).toNat=i:=Int.toNat_natCast i
  by_cases hlt:i<s.size
  ·have hv:(0:Int)≤(i:Int)∧(i:Int)<s.size:=by omega
   have i1:=Ed (show i<9223372036854775807 by omega)
   rw [Uw hlt] at hn
   by_cases c1:EE s i=46
   ·rw [if_pos c1] at hn
    have w1:IntKind.i64.wrap (p+1)=p+1:=FN (by unfold Fit; omega)
    have w2:IntKind.i64.wrap ((s.size:Int)-1)=(s.size:Int)-1:=FN (by unfold Fit; omega)
    simp -implicitDefEqProofs -proj only [go_sem,seval,decide_eq_true (show (i:Int)<s.size by omega)]
    refine BB hv (fun _=>?_)
    by_cases c2:1<p+1
    ·rw [if_pos (.inl c2)] at hn
     simp -implicitDefEqProofs -proj only [go_sem,seval,hto,decide_eq_true c1,w1,decide_eq_true c2]
     rw [←hn]
     exact AJ rfl
    by_cases c3:i+1=s.size
    ·rw [if_pos (.inr c3)] at hn
     simp -implicitDefEqProofs -proj only [go_sem,seval,hto,decide_eq_true c1,w1,w2,decide_eq_false c2,decide_eq_true (show (i:Int)=(s.size:Int)-1 by omega)]
     rw [←hn]
     exact AJ rfl
    ·rw [if_neg (by omega)] at hn
     simp -implicitDefEqProofs -proj only [go_sem,seval,hto,decide_eq_true c1,w1,w2,decide_eq_false c2,decide_eq_false (show ¬(i:Int)=(s.size:Int)-1 by omega)]
     refine EF (i+1,p+1) ⟨by rw [AZ]; omega,by rw [Ac]; omega,hn⟩ (by show s.size-(i+1)<s.size-i; omega) rfl ?_ trivial
     simp -implicitDefEqProofs -proj only [go_sem,seval,AP,i1]
   ·rw [if_neg c1] at hn
    simp -implicitDefEqProofs -proj only [go_sem,seval,decide_eq_true (show (i:Int)<s.size by omega)]
    refine BB hv (fun _=>?_)
    simp -implicitDefEqProofs -proj only [go_sem,seval,hto,decide_eq_false c1]
    refine BB hv (fun _=>?_)
    refine AQ Tv ?_
    by_cases c2:IA (EE s i)
    ·rw [if_pos c2] at hn
     simp -implicitDefEqProofs -proj only [go_sem,seval,decide_eq_true c2,Bool.not_true]
     refine EF (i+1,p) ⟨by rw [AZ]; omega,hp,hn⟩ (by show s.size-(i+1)<s.size-i; omega) rfl ?_ trivial
     simp -implicitDefEqProofs -proj only [go_sem,seval,AP,i1]
    ·rw [if_neg c2] at hn
     simp -implicitDefEqProofs -proj only [go_sem,seval,decide_eq_false c2,Bool.not_false]
     rw [←hn]
     exact AJ rfl
  ·have hi':i=s.size:=by omega
   subst hi'
   rw [Nat.sub_self,Im] at hn
   rw [←hn]
   have w1:IntKind.i64.wrap (1+p)=1+p:=FN (by unfold Fit; omega)
   simp -implicitDefEqProofs -proj only [go_sem,seval,decide_eq_false (show ¬(s.size:Int)<s.size by omega)]
   refine BB (by omega) (fun _=>?_)
   by_cases d1:EE s 0=48
   rotate_left
   ·simp -implicitDefEqProofs -proj only [go_sem,seval,Int.toNat_zero,decide_eq_false d1,w1]
    exact AJ (by simp [d1])
   by_cases d2:1<s.size
   rotate_left
   ·simp -implicitDefEqProofs -proj only [go_sem,seval,Int.toNat_zero,decide_eq_true d1,decide_eq_false (show ¬(1:Int)<s.size by omega),w1]
    exact AJ (by simp [d2])
   have d2':(1:Int)<s.size:=by omega
   simp -implicitDefEqProofs -proj only [go_sem,seval,Int.toNat_zero,decide_eq_true d1,decide_eq_true d2']
   refine BB (by omega) (fun _=>?_)
   have t1:(1:Int).toNat=1:=rfl
   by_cases d3:EE s 1=46
   ·simp -implicitDefEqProofs -proj only [go_sem,seval,t1,decide_eq_true d3,Bool.not_true,w1]
    exact AJ (by simp [d3])
   ·simp -implicitDefEqProofs -proj only [go_sem,seval,t1,decide_eq_false d3,Bool.not_false]
    exact AJ (by simp [d1,d2,d3])
def Hz (n d:Int) (ok:Bool):Int×Bool:=if ok=true∧Fit (n*10+d) then (n*10+d,true) else (0,false)
theorem NI {n d:Int} {ok:Bool} (hn:0≤n) (hd:0≤d):0≤(Hz n d ok).1∧Fit (Hz n d ok).1:=by
 unfold Hz
 split
 ·next h=>exact ⟨by show 0≤n*10+d; omega,h.2⟩
 ·exact ⟨Int.le_refl _,by decide⟩
theorem Rh {n d:Int} {ok:Bool} (hn:Fit n) (hd:Fit d):DataW Try.prog AKV [i64 n,i64 d,bv ok] (.tup [i64 (Hz n d ok).1,bv (Hz n d ok).2]):=by
 have h10:(10:Int).natAbs=10:=rfl
 have hb:(n*10).natAbs<170141183460469231731687303715884105728:=by unfold Fit at hn; omega
 have hb2:d.natAbs<170141183460469231731687303715884105728:=by unfold Fit at hd; omega
 refine A3 ZU (by simp) ?_
 simp -implicitDefEqProofs -proj only [go_sem,seval]
 refine AQ (LA hn (by decide)) ?_
 simp -implicitDefEqProofs -proj only [go_sem,seval]
 refine AQ (IM hd) ?_
 simp -implicitDefEqProofs -proj only [go_sem,seval]
 refine AQ (Kv hb hb2) ?_
 simp -implicitDefEqProofs -proj only [go_sem,seval]
 refine AQ (Sb (n:=n*10+d) ⟨by omega,by unfold Fit at hn hd; omega⟩) ?_
 unfold Hz
 cases ok with
 | false =>
  obtain ⟨u,v,e,_⟩:=NY (n*10+d)
  simp -implicitDefEqProofs -proj only [go_sem,seval,e,Bool.not_false]
  exact AJ rfl
 | true =>
  by_cases h:Fit (n*10+d)
  ·simp -implicitDefEqProofs -proj only [go_sem,seval,Hj h,Bool.not_true]
   exact AJ (by simp [h])
  ·simp -implicitDefEqProofs -proj only [go_sem,seval,IQ h,Bool.not_true,Bool.not_false]
   exact AJ (by simp [h])
structure DX where
 i:Nat
 b:Int
 n:Int
 ok:Bool
theorem Fg {i:Nat} {b n:Int} {ok:Bool}:(DX.mk i b n ok).i=i:=(rfl)
theorem Ff {i:Nat} {b n:Int} {ok:Bool}:(DX.mk i b n ok).b=b:=(rfl)
theorem GJ {i:Nat} {b n:Int} {ok:Bool}:(DX.mk i b n ok).n=n:=(rfl)
theorem GK {i:Nat} {b n:Int} {ok:Bool}:(DX.mk i b n ok).ok=ok:=(rfl)
def KY (s:ByteArray) (i:Nat):Int:=IntKind.i64.wrap (IntKind.u8.wrap (EE s i-48))
theorem R8 {s:ByteArray} {i:Nat}:0≤KY s i∧KY s i≤255:=by
 have h:0≤IntKind.u8.wrap (EE s i-48)∧IntKind.u8.wrap (EE s i-48)≤255:=by
  have:IntKind.u8.wrap (EE s i-48)=(EE s i-48) % 256:=by simp [IntKind.wrap,IntKind.signed,IntKind.bits]
  omega
 unfold KY
 rw [FN (by unfold Fit; omega)]
 exact h
def JM (s:ByteArray):Nat→Nat→Int→Int→Bool→DX
 | 0,i,b,n,ok=>⟨i,b,n,ok⟩
 | k+1,i,b,n,ok=>if EE s i=46 then JM s k (i+1) 0 n ok else JM s k (i+1) (if 0≤b then b+1 else b) (Hz n (KY s i) ok).1 (Hz n (KY s i) ok).2
def I4:Nat→Int→Bool→Int×Bool
 | 0,n,ok=>(n,ok)
 | k+1,n,ok=>I4 k (Hz n 0 ok).1 (Hz n 0 ok).2
def MK (pl mo:Int) (x:DX):Int×Int:=if pl<x.b then (0,1) else if (I4 (pl-max x.b 0).toNat x.n x.ok).2=true∧(I4 (pl-max x.b 0).toNat x.n x.ok).1≤mo then ((I4 (pl-max x.b 0).toNat x.n x.ok).1,0) else (0,2)
def Ii (s:ByteArray) (pl mo:Int):Int×Int:=if JK s=0 then (0,1) else MK pl mo (JM s s.size 0 (-1) 0 true)
theorem TL:∀(k:Nat) {n:Int} {ok:Bool},0≤n→0≤(I4 k n ok).1
 | 0,n,ok,h=>h
 | k+1,n,ok,h=>TL k (NI h (Int.le_refl _)).1
theorem Po {s:ByteArray}:∀(k i:Nat) {b n:Int} {ok:Bool},0≤n→0≤(JM s k i b n ok).n
 | 0,i,b,n,ok,h=>h
 | k+1,i,b,n,ok,h=>by
  rw [JM]
  split
  ·exact Po k (i+1) h
  ·exact Po k (i+1) (NI h R8.1).1
theorem ADd {s:ByteArray} {pl mo:Int} (hm:0≤mo):0≤(Ii s pl mo).1∧(Ii s pl mo).1≤mo:=by
 unfold Ii MK
 split
 ·exact ⟨Int.le_refl _,hm⟩
 ·split
  ·exact ⟨Int.le_refl _,hm⟩
  ·split
   ·next h=>exact ⟨TL _ (Po _ _ (Int.le_refl _)),h.2⟩
   ·exact ⟨Int.le_refl _,hm⟩
theorem Wm {s:ByteArray} {pl mo:Int} (hs:s.size≤8192) (hp:0≤pl∧pl≤9):DataW Try.prog UV [.d (.str s),i64 pl,i64 mo] (.tup [i64 (Ii s pl mo).1,i64 (Ii s pl mo).2]):=by
 refine A3 ANS (by simp) ?_
 simp -implicitDefEqProofs -proj only [go_sem,seval]
 refine AQ (R7 hs) ?_
 unfold Ii
 by_cases g:JK s=0
 ·simp -implicitDefEqProofs -proj only [go_sem,seval,decide_eq_true g]
  exact AJ (by simp [g])
 rw [if_neg g]
 simp -implicitDefEqProofs -proj only [go_sem,seval,decide_eq_false g,decide_eq_false (show ¬pl<0 by omega),decide_eq_false (show ¬9<pl by omega)]
 generalize hR:MK pl mo (JM s s.size 0 (-1) 0 true)=R
 refine EX (fun y:DX=>y.i≤s.size∧(-1≤y.b∧y.b≤y.i)∧(0≤y.n∧Fit y.n)∧MK pl mo (JM s (s.size-y.i) y.i y.b y.n y.ok)=R) 73 (fun y=>[(0,.d (.str s)),(1,i64 pl),(2,i64 mo),(8,i64 y.b),(9,i64 y.n),(10,bv y.ok),(11,i64 y.i)]) (fun _=>[]) (fun y=>s.size-y.i) ⟨0,-1,0,true⟩ ⟨Nat.zero_le _,by decide,by decide,hR⟩ rfl ?_ ?_ ?_
 ·simp -implicitDefEqProofs -proj only [go_sem,seval,AP,Fg,Ff,GJ,GK]
 ·trivial
 ·rintro ⟨i,b,n,ok⟩ ⟨hi,hb,hn,hr⟩
  simp -implicitDefEqProofs only [Fg,Ff,GJ,GK] at hi hb hn hr
  have hto:((i:Int)).toNat=i:=Int.toNat_natCast i
  by_cases hlt:i<s.size
  ·have hv:(0:Int)≤(i:Int)∧(i:Int)<s.size:=by omega
   have i1:=Ed (show i<9223372036854775807 by omega)
   rw [show s.size-i=(s.size-(i+1))+1 by omega,JM] at hr
   simp -implicitDefEqProofs -proj only [go_sem,seval,Fg,Ff,GJ,GK,decide_eq_true (show (i:Int)<s.size by omega)]
   refine BB hv (fun _=>?_)
   by_cases c1:EE s i=46
   ·rw [if_pos c1] at hr
    simp -implicitDefEqProofs -proj only [go_sem,seval,Fg,Ff,GJ,GK,hto,decide_eq_true c1]
    refine EF ⟨i+1,0,n,ok⟩ ⟨by rw [Fg]; omega,by rw [Ff,Fg]; omega,hn,hr⟩ (by show s.size-(i+1)<s.size-i; omega) rfl ?_ trivial
    simp -implicitDefEqProofs -proj only [go_sem,seval,AP,Fg,Ff,GJ,GK,i1]
   ·rw [if_neg c1] at hr
    have hd:=R8 (s:=s) (i:=i)
    have hm:=NI (ok:=ok) hn.1 hd.1
    have hcall:=Rh (ok:=ok) hn.2 (show Fit (KY s i) by unfold Fit; omega)
    generalize Hz n (KY s i) ok=m at hm hcall hr
    obtain ⟨m1,m2⟩:=m
    by_cases c2:0≤b
    ·rw [if_pos c2] at hr
     have w1:IntKind.i64.wrap (b+1)=b+1:=FN (by unfold Fit; omega)
     simp -implicitDefEqProofs -proj only [go_sem,seval,Fg,Ff,GJ,GK,hto,decide_eq_false c1,decide_eq_true c2,w1]
     refine BB hv (fun _=>?_)
     refine TH hcall rfl ?_
     simp -implicitDefEqProofs -proj only [go_sem,seval]
     refine EF ⟨i+1,b+1,m1,m2⟩ ⟨by rw [Fg]; omega,by rw [Ff,Fg]; omega,hm,hr⟩ (by show s.size-(i+1)<s.size-i; omega) rfl ?_ trivial
     simp -implicitDefEqProofs -proj only [go_sem,seval,AP,Fg,Ff,GJ,GK,i1]
    ·rw [if_neg c2] at hr
     simp -implicitDefEqProofs -proj only [go_sem,seval,Fg,Ff,GJ,GK,hto,decide_eq_false c1,decide_eq_false c2]
     refine BB hv (fun _=>?_)
     refine TH hcall rfl ?_
     simp -implicitDefEqProofs -proj only [go_sem,seval]
     refine EF ⟨i+1,b,m1,m2⟩ ⟨by rw [Fg]; omega,by rw [Ff,Fg]; omega,hm,hr⟩ (by show s.size-(i+1)<s.size-i; omega) rfl ?_ trivial
     simp -implicitDefEqProofs -proj only [go_sem,seval,AP,Fg,Ff,GJ,GK,i1]
  ·have hi':i=s.size:=by omega
   subst hi'
   rw [Nat.sub_self,JM,MK] at hr
   simp -implicitDefEqProofs only [Fg,Ff,GJ,GK] at hr
   by_cases c1:pl<b
   ·rw [if_pos c1] at hr
    subst hr
    simp -implicitDefEqProofs -proj only [go_sem,seval,Fg,Ff,GJ,GK,decide_eq_false (show ¬(s.size:Int)<s.size by omega),decide_eq_true c1]
    exact AJ rfl
   rw [if_neg c1] at hr
   simp -implicitDefEqProofs -proj only [go_sem,seval,Fg,Ff,GJ,GK,decide_eq_false (show ¬(s.size:Int)<s.size by omega),decide_eq_false c1]
   refine EX (fun y:DX=>y.b≤pl∧0≤y.b∧(0≤y.n∧Fit y.n)∧(if (I4 (pl-y.b).toNat y.n y.ok).2=true∧(I4 (pl-y.b).toNat y.n y.ok).1≤mo then ((I4 (pl-y.b).toNat y.n y.ok).1,(0:Int)) else (0,2))=R) 73 (fun y=>[(1,i64 pl),(2,i64 mo),(9,i64 y.n),(10,bv y.ok),(12,i64 y.b)]) (fun _=>[]) (fun y=>(pl-y.b).toNat) ⟨0,max b 0,n,ok⟩ ⟨by rw [Ff]; omega,by rw [Ff]; omega,hn,hr⟩ rfl ?_ ?_ ?_
   ·simp -implicitDefEqProofs -proj only [go_sem,seval,AP,Fg,Ff,GJ,GK]
    try (simp; omega)
   ·trivial
   ·rintro ⟨i,b,n,ok⟩ ⟨hi,hb,hn,hr⟩
    simp -implicitDefEqProofs only [Fg,Ff,GJ,GK] at hi hb hn hr
    by_cases hlt:b<pl
    ·have hm:=NI (ok:=ok) hn.1 (Int.le_refl 0)
     have hcall:=Rh (ok:=ok) hn.2 (show Fit 0 by decide)
     have w1:IntKind.i64.wrap (b+1)=b+1:=FN (by unfold Fit; omega)
     rw [show (pl-b).toNat=(pl-(b+1)).toNat+1 by omega,I4] at hr
     generalize Hz n 0 ok=m at hm hcall hr
     obtain ⟨m1,m2⟩:=m
     simp -implicitDefEqProofs -proj only [go_sem,seval,Fg,Ff,GJ,GK,decide_eq_true hlt]
     refine AQ hcall ?_
     simp -implicitDefEqProofs -proj only [go_sem,seval,w1]
     refine EF ⟨0,b+1,m1,m2⟩ ⟨by rw [Ff]; omega,by rw [Ff]; omega,hm,hr⟩ (by show (pl-(b+1)).toNat<(pl-b).toNat; omega) rfl ?_ trivial
     simp -implicitDefEqProofs -proj only [go_sem,seval,AP,Fg,Ff,GJ,GK]
    ·rw [show (pl-b).toNat=0 by omega,I4] at hr
     simp -implicitDefEqProofs only [AZ,Ac] at hr
     cases ok with
     | false =>
      rw [if_neg (fun k=>Bool.noConfusion k.1)] at hr
      subst hr
      simp -implicitDefEqProofs -proj only [go_sem,seval,Fg,Ff,GJ,GK,decide_eq_false hlt,Bool.not_false]
      exact AJ rfl
     | true =>
      by_cases c2:mo<n
      ·rw [if_neg (by omega)] at hr
       subst hr
       simp -implicitDefEqProofs -proj only [go_sem,seval,Fg,Ff,GJ,GK,decide_eq_false hlt,Bool.not_true,decide_eq_true c2]
       exact AJ rfl
      ·rw [if_pos ⟨rfl,by omega⟩] at hr
       subst hr
       simp -implicitDefEqProofs -proj only [go_sem,seval,Fg,Ff,GJ,GK,decide_eq_false hlt,Bool.not_true,decide_eq_false c2]
       exact AJ rfl
def F5 (c:Int):Prop:=c=95∨c=46∨c=45∨(48≤c∧c≤57)∨(97≤c∧c≤122)∨(65≤c∧c≤90)
instance (c:Int):Decidable (F5 c):=by unfold F5; exact inferInstance
theorem N1 {c:Int}:DataW Try.prog ABB [.d (.int .u8 c)] (bv (decide (F5 c))):=by
 refine A3 XC (by simp) ?_
 have yes:F5 c→bv true=bv (decide (F5 c)):=fun h=>by rw [decide_eq_true h]
 by_cases h1:c=95
 ·simp -implicitDefEqProofs -proj only [go_sem,seval,decide_eq_true h1]
  exact AJ (yes (.inl h1))
 by_cases h2:c=46
 ·simp -implicitDefEqProofs -proj only [go_sem,seval,decide_eq_false h1,decide_eq_true h2]
  exact AJ (yes (.inr (.inl h2)))
 by_cases h3:c=45
 ·simp -implicitDefEqProofs -proj only [go_sem,seval,decide_eq_false h1,decide_eq_false h2,decide_eq_true h3]
  exact AJ (yes (.inr (.inr (.inl h3))))
 by_cases h4:48≤c∧c≤57
 ·simp -implicitDefEqProofs -proj only [go_sem,seval,decide_eq_false h1,decide_eq_false h2,decide_eq_false h3,decide_eq_true h4.1,decide_eq_true h4.2]
  exact AJ (yes (.inr (.inr (.inr (.inl h4)))))
 have e4:(bif decide (48≤c) then decide (c≤57) else false)=false:=by
  by_cases q:48≤c
  ·rw [decide_eq_true q,decide_eq_false (show ¬c≤57 by omega)]; rfl
  ·rw [decide_eq_false q]; rfl
 have fin:∀b:Bool,(b=true↔(97≤c∧c≤122)∨(65≤c∧c≤90))→bv b=bv (decide (F5 c)):=fun b hb=>by
  have:b=decide (F5 c):=by
   rw [Bool.eq_iff_iff,hb,decide_eq_true_eq]
   unfold F5; omega
  rw [this]
 by_cases q4:48≤c
 ·have q4':¬c≤57:=by omega
  by_cases q5:97≤c
  ·by_cases q6:c≤122
   ·simp -implicitDefEqProofs -proj only [go_sem,seval,decide_eq_false h1,decide_eq_false h2,decide_eq_false h3,decide_eq_true q4,decide_eq_false q4',decide_eq_true q5,decide_eq_true q6]
    exact AJ (fin _ (by simp; omega))
   ·simp -implicitDefEqProofs -proj only [go_sem,seval,decide_eq_false h1,decide_eq_false h2,decide_eq_false h3,decide_eq_true q4,decide_eq_false q4',decide_eq_true q5,decide_eq_false q6,decide_eq_true (show 65≤c by omega)]
    exact AJ (fin _ (by simp; omega))
  ·by_cases q6:65≤c
   ·simp -implicitDefEqProofs -proj only [go_sem,seval,decide_eq_false h1,decide_eq_false h2,decide_eq_false h3,decide_eq_true q4,decide_eq_false q4',decide_eq_false q5,decide_eq_true q6]
    exact AJ (fin _ (by simp; omega))
   ·simp -implicitDefEqProofs -proj only [go_sem,seval,decide_eq_false h1,decide_eq_false h2,decide_eq_false h3,decide_eq_true q4,decide_eq_false q4',decide_eq_false q5,decide_eq_false q6]
    exact AJ (fin _ (by simp; omega))
 ·simp -implicitDefEqProofs -proj only [go_sem,seval,decide_eq_false h1,decide_eq_false h2,decide_eq_false h3,decide_eq_false q4,decide_eq_false (show ¬97≤c by omega),decide_eq_false (show ¬65≤c by omega)]
  exact AJ (fin _ (by simp; omega))
def Jo (l:List ByteArray):List (List D):=l.map fun w=>[.str w]
theorem Se {l:List ByteArray}:(Jo l).length=l.length:=List.length_map ..
theorem TN {l:List ByteArray} {i:Nat} (h:i<l.length):(Jo l)[((i:Int)).toNat]? = some [.str l[i]]:=by
 rw [Int.toNat_natCast]; simp [Jo,h]
def wordsL:List ByteArray:=[⟨⟨[112,108,97,110]⟩⟩,⟨⟨[99,117,114,114,101,110,99,121]⟩⟩,⟨⟨[104,111,114,105,122,111,110]⟩⟩,⟨⟨[109,101,116,101,114]⟩⟩,⟨⟨[117,110,105,116]⟩⟩,⟨⟨[109,97,120]⟩⟩,⟨⟨[102,101,101]⟩⟩,⟨⟨[99,104,97,114,103,101]⟩⟩,⟨⟨[102,114,111,109]⟩⟩,⟨⟨[116,111]⟩⟩,⟨⟨[97,108,108,111,119,97,110,99,101]⟩⟩,⟨⟨[98,108,111,99,107]⟩⟩,⟨⟨[103,114,97,100,117,97,116,101,100]⟩⟩,⟨⟨[118,111,108,117,109,101]⟩⟩,⟨⟨[117,112,116,111]⟩⟩,⟨⟨[114,97,116,101]⟩⟩,⟨⟨[114,101,115,116]⟩⟩,⟨⟨[114,111,117,110,100]⟩⟩,⟨⟨[102,108,111,111,114]⟩⟩,⟨⟨[99,101,105,108]⟩⟩,⟨⟨[104,97,108,102,117,112]⟩⟩,⟨⟨[104,97,108,102,101,118,101,110]⟩⟩,⟨⟨[112,101,114,99,101,110,116]⟩⟩,⟨⟨[99,97,112]⟩⟩,⟨⟨[109,105,110,105,109,117,109]⟩⟩,⟨⟨[97,100,100]⟩⟩]
theorem VH:DataW Try.prog ADD [] (.d (.sl 1 (Jo wordsL))):=by
 refine A3 ABi (by simp) ?_
 simp -implicitDefEqProofs -proj only [go_sem,seval]
 refine EL (fun b hb=>?_)
 simp -implicitDefEqProofs -proj only [go_sem,seval]
 exact LendV.own b 1 26 9 26 (Jo wordsL) AK
def Ky (s:ByteArray):Nat→Nat→Bool→Option Bool
 | 0,_,p=>some p
 | k+1,i,p=>if F5 (EE s i) then Ky s k (i+1) (p&&(!decide (EE s i=46)&&!decide (EE s i=45))) else none
def MR (s:ByteArray) (l:List ByteArray):Bool:=l.any fun w=>w.toList == s.toList
def F3 (s:ByteArray):Int :=
 if (s.toList == (⟨⟨[123]⟩⟩:ByteArray).toList)||((s.toList == (⟨⟨[125]⟩⟩:ByteArray).toList)||(s.toList == (⟨⟨[59]⟩⟩:ByteArray).toList)) then 5
 else if s.toList == (⟨⟨[]⟩⟩:ByteArray).toList then 0
 else match Ky s s.size 0 true with
  | none=>0
  | some p=>if MR s wordsL then 2 else if p=true∧(EE s 0<48∨57<EE s 0) then 1 else if 0<JK s then 3 else if HC s then 4 else 0
theorem ARb {s:ByteArray}:0≤F3 s∧F3 s≤5∧(F3 s=4→Fh (IE s)):=by
 unfold F3
 split
 ·exact ⟨by decide,by decide,fun h=>absurd h (by decide)⟩
 split
 ·exact ⟨by decide,by decide,fun h=>absurd h (by decide)⟩
 split
 ·exact ⟨by decide,by decide,fun h=>absurd h (by decide)⟩
 split
 ·exact ⟨by decide,by decide,fun h=>absurd h (by decide)⟩
 split
 ·exact ⟨by decide,by decide,fun h=>absurd h (by decide)⟩
 split
 ·exact ⟨by decide,by decide,fun h=>absurd h (by decide)⟩
 split
 ·next h=>exact ⟨by decide,by decide,fun _=>ACc h⟩
 ·exact ⟨by decide,by decide,fun h=>absurd h (by decide)⟩
theorem AQy {s:ByteArray} {wl:List ByteArray} {j:Nat} (h:j<wl.length):MR s (wl.drop j)=((wl[j].toList == s.toList)||MR s (wl.drop (j+1))):=by
 rw [List.drop_eq_getElem_cons h]; rfl
set_option maxHeartbeats 1000000 in
theorem AGe {s:ByteArray} (hs:s.size≤8192):DataW Try.prog AHE [.d (.str s)] (i64 (F3 s)):=by
 refine A3 XX (by simp) ?_
 unfold F3
 cases e1:(s.toList == (⟨⟨[123]⟩⟩:ByteArray).toList) with
 | true =>
  simp -implicitDefEqProofs -proj only [go_sem,seval,HU,e1]
  exact AJ rfl
 | false =>
 cases e2:(s.toList == (⟨⟨[125]⟩⟩:ByteArray).toList) with
 | true =>
  simp -implicitDefEqProofs -proj only [go_sem,seval,HU,e1,e2]
  exact AJ rfl
 | false =>
 cases e3:(s.toList == (⟨⟨[59]⟩⟩:ByteArray).toList) with
 | true =>
  simp -implicitDefEqProofs -proj only [go_sem,seval,HU,e1,e2,e3]
  exact AJ rfl
 | false =>
 rw [if_neg (by decide)]
 cases e0:(s.toList == (⟨⟨[]⟩⟩:ByteArray).toList) with
 | true =>
  simp -implicitDefEqProofs -proj only [go_sem,seval,HU,e1,e2,e3,e0]
  exact AJ rfl
 | false =>
 have h0:=Qm e0
 rw [if_neg (by decide)]
 simp -implicitDefEqProofs -proj only [go_sem,seval,HU,e1,e2,e3,e0]
 generalize hR:Ky s s.size 0 true=R
 refine EX (fun y:Nat×Bool=>y.1≤s.size∧Ky s (s.size-y.1) y.1 y.2=R) 75 (fun y=>[(0,.d (.str s)),(3,bv y.2),(4,i64 y.1)]) (fun _=>[]) (fun y=>s.size-y.1) (0,true) ⟨Nat.zero_le _,hR⟩ rfl ?_ ?_ ?_
 ·simp -implicitDefEqProofs -proj only [go_sem,seval,AP]
 ·trivial
 ·rintro ⟨i,p⟩ ⟨hi,hn⟩
  simp -implicitDefEqProofs only [AZ,Ac] at hi hn
  have hto:((i:Int)).toNat=i:=Int.toNat_natCast i
  by_cases hlt:i<s.size
  ·have hv:(0:Int)≤(i:Int)∧(i:Int)<s.size:=by omega
   have i1:=Ed (show i<9223372036854775807 by omega)
   rw [show s.size-i=(s.size-(i+1))+1 by omega,Ky] at hn
   simp -implicitDefEqProofs -proj only [go_sem,seval,decide_eq_true (show (i:Int)<s.size by omega)]
   refine BB hv (fun _=>?_)
   refine AQ (N1 (c:=EE s i)) ?_
   by_cases c1:F5 (EE s i)
   rotate_left
   ·rw [if_neg c1] at hn
    simp -implicitDefEqProofs -proj only [go_sem,seval,decide_eq_false c1,Bool.not_false]
    rw [←hn]
    exact AJ rfl
   rw [if_pos c1] at hn
   cases p with
   | false =>
    simp -implicitDefEqProofs -proj only [go_sem,seval,decide_eq_true c1,Bool.not_true]
    refine EF (i+1,false) ⟨by rw [AZ]; omega,hn⟩ (by show s.size-(i+1)<s.size-i; omega) rfl ?_ trivial
    simp -implicitDefEqProofs -proj only [go_sem,seval,AP,i1]
   | true =>
    simp -implicitDefEqProofs -proj only [go_sem,seval,decide_eq_true c1,Bool.not_true]
    refine BB hv (fun _=>?_)
    by_cases c2:EE s i=46
    ·rw [decide_eq_true c2] at hn
     simp -implicitDefEqProofs -proj only [go_sem,seval,hto,decide_eq_true c2,Bool.not_true]
     refine EF (i+1,false) ⟨by rw [AZ]; omega,hn⟩ (by show s.size-(i+1)<s.size-i; omega) rfl ?_ trivial
     simp -implicitDefEqProofs -proj only [go_sem,seval,AP,i1]
    ·rw [decide_eq_false c2] at hn
     simp -implicitDefEqProofs -proj only [go_sem,seval,hto,decide_eq_false c2,Bool.not_false]
     refine BB hv (fun _=>?_)
     refine EF (i+1,!decide (EE s i=45)) ⟨by rw [AZ]; omega,hn⟩ (by show s.size-(i+1)<s.size-i; omega) rfl ?_ trivial
     simp -implicitDefEqProofs -proj only [go_sem,seval,AP,i1,hto]
  ·have hi':i=s.size:=by omega
   subst hi'
   rw [Nat.sub_self,Ky] at hn
   rw [←hn]
   simp -implicitDefEqProofs only []
   simp -implicitDefEqProofs -proj only [go_sem,seval,decide_eq_false (show ¬(s.size:Int)<s.size by omega)]
   refine AQ VH ?_
   have hwl:wordsL.length=26:=rfl
   generalize wordsL=wl at hwl
   have hwl':(Jo wl).length=26:=by rw [Se]; exact hwl
   simp -implicitDefEqProofs -proj only [go_sem,seval,Se,hwl,show ((26:Nat):Int)=26 from rfl]
   generalize hW:MR s wl=W
   refine EX (fun j:Nat=>j≤26∧MR s (wl.drop j)=W) 75 (fun j=>[(0,.d (.str s)),(3,bv p),(45,.d (.sl 1 (Jo wl))),(46,i64 26),(47,i64 j)]) (fun _=>[]) (fun j=>26-j) 0 ⟨by decide,hW⟩ rfl ?_ ?_ ?_
   ·simp -implicitDefEqProofs -proj only [go_sem,seval,AP]
   ·trivial
   ·rintro j ⟨hj,hjw⟩
    have htj:((j:Int)).toNat=j:=Int.toNat_natCast j
    by_cases hlt:j<26
    ·have j1:=Ed (show j<9223372036854775807 by omega)
     have hjl:j<wl.length:=by omega
     have hel:=TN hjl
     rw [AQy hjl] at hjw
     generalize wl[j]=w at hel hjw
     simp -implicitDefEqProofs -proj only [go_sem,seval,decide_eq_true (show (j:Int)<26 by omega)]
     refine Eh _ (by omega) hel ?_
     cases ew:(w.toList == s.toList) with
     | true =>
      rw [ew,Bool.true_or] at hjw
      simp -implicitDefEqProofs -proj only [go_sem,seval,HU,ew]
      rw [←hjw]
      exact AJ rfl
     | false =>
      rw [ew,Bool.false_or] at hjw
      simp -implicitDefEqProofs -proj only [go_sem,seval,HU,ew]
      refine EF (j+1) ⟨by omega,hjw⟩ (by show 26-(j+1)<26-j; omega) rfl ?_ trivial
      simp -implicitDefEqProofs -proj only [go_sem,seval,AP,j1]
    ·have hj':j=26:=by omega
     subst hj'
     rw [List.drop_eq_nil_of_le (by omega)] at hjw
     have hW0:W=false:=hjw.symm
     subst hW0
     simp -implicitDefEqProofs -proj only [go_sem,seval,decide_eq_false (show ¬((26:Nat):Int)<26 by decide)]
     have fin:∀q:Int,(if 0<JK s then (3:Int) else if HC s then 4 else 0)=q→(if p=true∧(EE s 0<48∨57<EE s 0) then (1:Int) else if 0<JK s then 3 else if HC s then 4 else 0)=if p=true∧(EE s 0<48∨57<EE s 0) then 1 else q:=fun q e=>by rw [e]
     have hof:=R7 hs
     have hdp:=RU (s:=s)
     have ht0:(0:Int).toNat=0:=rfl
     cases p with
     | false =>
      simp -implicitDefEqProofs -proj only [go_sem,seval]
      refine AQ hof ?_
      by_cases f1:0<JK s
      ·simp -implicitDefEqProofs -proj only [go_sem,seval,decide_eq_true f1]
       exact AJ (by simp [f1])
      simp -implicitDefEqProofs -proj only [go_sem,seval,decide_eq_false f1]
      refine AQ hdp ?_
      simp -implicitDefEqProofs -proj only [go_sem,seval]
      refine Aa (fun b hb=>?_)
      cases HC s with
      | true=>simp -implicitDefEqProofs -proj only [go_sem,seval,AK]; exact AJ (by simp [f1])
      | false=>simp -implicitDefEqProofs -proj only [go_sem,seval,AK]; exact AJ (by simp [f1])
     | true =>
      simp -implicitDefEqProofs -proj only [go_sem,seval]
      refine BB (by omega) (fun _=>?_)
      by_cases d1:EE s 0<48
      ·simp -implicitDefEqProofs -proj only [go_sem,seval,ht0,decide_eq_true d1]
       exact AJ (by simp [d1])
      simp -implicitDefEqProofs -proj only [go_sem,seval,ht0,decide_eq_false d1]
      refine BB (by omega) (fun _=>?_)
      by_cases d2:57<EE s 0
      ·simp -implicitDefEqProofs -proj only [go_sem,seval,ht0,decide_eq_true d2]
       exact AJ (by simp [d2])
      simp -implicitDefEqProofs -proj only [go_sem,seval,ht0,decide_eq_false d2]
      refine AQ hof ?_
      by_cases f1:0<JK s
      ·simp -implicitDefEqProofs -proj only [go_sem,seval,decide_eq_true f1]
       exact AJ (by simp [f1,d1,d2])
      simp -implicitDefEqProofs -proj only [go_sem,seval,decide_eq_false f1]
      refine AQ hdp ?_
      simp -implicitDefEqProofs -proj only [go_sem,seval]
      refine Aa (fun b hb=>?_)
      cases HC s with
      | true=>simp -implicitDefEqProofs -proj only [go_sem,seval,AK]; exact AJ (by simp [f1,d1,d2])
      | false=>simp -implicitDefEqProofs -proj only [go_sem,seval,AK]; exact AJ (by simp [f1,d1,d2])
structure Tok where
 k:Int
 tx:ByteArray
 ln:Int
 co:Int
abbrev J1 (t:Tok):List D:=[.int .i64 t.k,.str t.tx,.int .i64 t.ln,.int .i64 t.co]
def Fe (l:List Tok):List (List D):=l.map J1
theorem Gh {l:List Tok}:(Fe l).length=l.length:=List.length_map ..
theorem NW {l:List Tok} {t:Tok}:Fe l++[J1 t]=Fe (l++[t]):=by simp [Fe]
abbrev SR (l:List Tok):AV:=.d (.sl 4 (Fe l))
def I3 (s:ByteArray):Nat→Nat→Nat
 | 0,i=>i
 | k+1,i=>if EE s i=10 then i else I3 s k (i+1)
def Ib (s:ByteArray):Nat→Nat→Nat
 | 0,i=>i
 | k+1,i=>if F5 (EE s i) then Ib s k (i+1) else i
theorem Ov {s:ByteArray}:∀(k i:Nat),i≤I3 s k i∧I3 s k i≤i+k
 | 0,i=>⟨Nat.le_refl _,Nat.le_refl _⟩
 | k+1,i=>by
  rw [I3]
  split
  ·omega
  ·have:=Ov (s:=s) k (i+1); omega
theorem TP {s:ByteArray}:∀(k i:Nat),i≤Ib s k i∧Ib s k i≤i+k
 | 0,i=>⟨Nat.le_refl _,Nat.le_refl _⟩
 | k+1,i=>by
  rw [Ib]
  split
  ·have:=TP (s:=s) k (i+1); omega
  ·omega
def ID (s:ByteArray) (i:Nat):Nat:=if F5 (EE s i) then Ib s (s.size-(i+1)) (i+1) else i+1
theorem Qs {s:ByteArray} {i:Nat} (h:i<s.size):i+1≤ID s i∧ID s i≤s.size:=by
 unfold ID
 split
 ·have:=TP (s:=s) (s.size-(i+1)) (i+1); omega
 ·omega
def GO (co:Int) (e i:Nat):Int:=IntKind.i64.wrap (IntKind.i64.wrap (co+e)-i)
structure LexR where
 l:List Tok
 er:Int
 ln:Int
 co:Int
def Hi (s:ByteArray):Nat→Nat→Int→Int→List Tok→LexR
 | 0,_,ln,co,out=>⟨out++[⟨0,⟨⟨[]⟩⟩,ln,co⟩],0,0,0⟩
 | k+1,i,ln,co,out =>
  if i<s.size then
   if EE s i=35 then Hi s k (I3 s (s.size-(i+1)) (i+1)) ln (GO co (I3 s (s.size-(i+1)) (i+1)) i) out
   else if EE s i=10 then Hi s k (i+1) (IntKind.i64.wrap (ln+1)) 1 out
   else if EE s i=32∨EE s i=9∨EE s i=13 then Hi s k (i+1) ln (GO co (i+1) i) out
   else if F3 (s.extract i (ID s i))=0 then ⟨[],3,ln,co⟩
   else Hi s k (ID s i) ln (GO co (ID s i) i) (out++[⟨F3 (s.extract i (ID s i)),s.extract i (ID s i),ln,co⟩])
  else ⟨out++[⟨0,⟨⟨[]⟩⟩,ln,co⟩],0,0,0⟩
def G0 (s:ByteArray):LexR:=if 8192<s.size then ⟨[],6,1,1⟩ else Hi s (s.size+1) 0 1 1 []
def Ps (t:Tok):Prop:=(1≤t.k∧t.k≤5)∧(t.k=4→Fh (IE t.tx))∧t.tx.size≤8192
structure TokOK (l:List Tok):Prop where
 ln:l.length≤8193
 ex:∃m t,l=m++[t]∧t.k=0∧∀x∈m,Ps x
theorem MU {s:ByteArray} (hs:s.size≤8192):∀(k i:Nat) {ln co:Int} {out:List Tok},i≤s.size→out.length≤i→(∀x∈out,Ps x)→(Hi s k i ln co out).er=0→TokOK (Hi s k i ln co out).l
 | 0,i,ln,co,out,hi,hl,h,_=>⟨by simp [Hi]; omega,out,_,rfl,rfl,h⟩
 | k+1,i,ln,co,out,hi,hl,h,he=>by
  rw [Hi] at he ⊢
  split
  ·next hlt =>
   rw [if_pos hlt] at he
   split
   ·next c1 =>
    rw [if_pos c1] at he
    have:=Ov (s:=s) (s.size-(i+1)) (i+1)
    exact MU hs k _ (by omega) (by omega) h he
   ·next c1 =>
    rw [if_neg c1] at he
    split
    ·next c2 =>
     rw [if_pos c2] at he
     exact MU hs k _ (by omega) (by omega) h he
    ·next c2 =>
     rw [if_neg c2] at he
     split
     ·next c3 =>
      rw [if_pos c3] at he
      exact MU hs k _ (by omega) (by omega) h he
     ·next c3 =>
      rw [if_neg c3] at he
      have ht:=Qs hlt
      split
      ·next c4=>rw [if_pos c4] at he; exact absurd (show (3:Int)=0 from he) (by decide)
      ·next c4 =>
       rw [if_neg c4] at he
       refine MU hs k _ (by omega) (by rw [List.length_append,List.length_singleton]; omega) (fun x hx=>?_) he
       rcases List.mem_append.1 hx with hx | hx
       ·exact h x hx
       ·rw [List.mem_singleton.1 hx]
        obtain ⟨q1,q2,q3⟩:=ARb (s:=s.extract i (ID s i))
        exact ⟨⟨by show 1≤F3 _; omega,q2⟩,q3,by show (s.extract i (ID s i)).size≤8192; rw [ByteArray.size_extract]; omega⟩
  ·exact ⟨by simp; omega,out,_,rfl,rfl,h⟩
theorem OX {s:ByteArray} (h:(G0 s).er=0):TokOK (G0 s).l:=by
 unfold G0 at h ⊢
 split
 ·next hs=>rw [if_pos hs] at h; exact absurd h (by decide)
 ·next hs =>
  rw [if_neg hs] at h
  exact MU (by omega) _ _ (Nat.zero_le _) (Nat.zero_le _) (fun x hx=>by cases hx) h
structure LX where
 i:Nat
 ln:Int
 co:Int
 c:Nat
 cap:Nat
 l:List Tok
theorem Gv {i c cap:Nat} {ln co:Int} {l:List Tok}:(LX.mk i ln co c cap l).i=i:=(rfl)
theorem HY {i c cap:Nat} {ln co:Int} {l:List Tok}:(LX.mk i ln co c cap l).ln=ln:=(rfl)
theorem HV {i c cap:Nat} {ln co:Int} {l:List Tok}:(LX.mk i ln co c cap l).co=co:=(rfl)
theorem Gk {i c cap:Nat} {ln co:Int} {l:List Tok}:(LX.mk i ln co c cap l).c=c:=(rfl)
theorem Gx {i c cap:Nat} {ln co:Int} {l:List Tok}:(LX.mk i ln co c cap l).cap=cap:=(rfl)
theorem GM {i c cap:Nat} {ln co:Int} {l:List Tok}:(LX.mk i ln co c cap l).l=l:=(rfl)
def T1 (r:LexR):AV:=.tup [SR r.l,i64 r.er,i64 r.ln,i64 r.co]
def Ia (y:LX):List (Nat×Blk):=E2 83 4 y.c y.cap (Fe y.l)
theorem Gq {y:LX} {c cap:Nat} {l:List Tok} (h1:y.c=c) (h2:y.cap=cap) (h3:y.l=l):Ia y=E2 83 4 c cap (Fe l):=by unfold Ia; rw [h1,h2,h3]
theorem KE {c cap:Nat} {l:List Tok}:(EJ (E2 83 4 c cap (Fe l))).Nodup:=by
 cases l <;> simp [Fe,E2,EJ]
set_option maxHeartbeats 4000000 in
theorem AI8 {s:ByteArray}:DataW Try.prog AI0 [.d (.str s)] (T1 (G0 s)):=by
 refine A3 AHs (by simp) ?_
 unfold G0
 by_cases g0:8192<s.size
 ·rw [if_pos g0]
  simp -implicitDefEqProofs -proj only [go_sem,seval,decide_eq_true (show (8192:Int)<s.size by omega)]
  exact LendV.tupL (EK (.nilsl _ _) (EK (.refl _) (EK (.refl _) (EK (.refl _) G9))))
 rw [if_neg g0]
 have hs:s.size≤8192:=by omega
 simp -implicitDefEqProofs -proj only [go_sem,seval,decide_eq_false (show ¬(8192:Int)<s.size by omega)]
 generalize hR:Hi s (s.size+1) 0 1 1 []=R
 refine EX (fun y:LX=>y.i≤s.size∧y.l.length≤y.i∧∃k,s.size-y.i<k∧Hi s k y.i y.ln y.co y.l=R) 105 (fun y=>[(0,.d (.str s)),(6,EM 0 4 y.c y.cap (Fe y.l)),(7,i64 y.ln),(8,i64 y.co),(9,i64 y.i)]) Ia (fun y=>s.size-y.i) ⟨0,1,1,0,0,[]⟩ ⟨Nat.zero_le _,Nat.le_refl _,s.size+1,Nat.lt_succ_self _,hR⟩ rfl ?_ ?_ ?_
 ·simp -implicitDefEqProofs -proj only [go_sem,seval,AP,Gv,HY,HV,Gk,Gx,GM]
  try rfl
 ·trivial
 ·rintro ⟨i,ln,co,c1,cap,l⟩ ⟨hi,hl,k,hk,hr⟩
  simp -implicitDefEqProofs only [Gv,HY,HV,Gk,Gx,GM] at hi hl hk hr
  have hall:=FV (l:=Ia ⟨i,ln,co,c1,cap,l⟩) KE
  obtain ⟨H,hH⟩:∃H,EH (Ia ⟨i,ln,co,c1,cap,l⟩)=H:=⟨_,rfl⟩
  rw [hH,Gq rfl rfl rfl] at hall
  simp -implicitDefEqProofs only [Gk,Gx,GM] at hall
  have hto:((i:Int)).toNat=i:=Int.toNat_natCast i
  obtain ⟨k,rfl⟩:∃j,k=j+1:=⟨k-1,by omega⟩
  by_cases hlt:i<s.size
  rotate_left
  ·rw [Hi,if_neg hlt] at hr
   subst hr
   simp -implicitDefEqProofs -proj only [go_sem,seval,Gv,HY,HV,Gk,Gx,GM,hH,decide_eq_false (show ¬(i:Int)<s.size by omega)]
   refine EL (fun bs hbs=>?_)
   replace hbs:H bs=none:=hbs
   simp -implicitDefEqProofs -proj only [go_sem,seval]
   refine Gg (xs:=Fe l) (y:=J1 ⟨0,⟨⟨[]⟩⟩,ln,co⟩) (t:=83) (capc:=1) [] rfl (by rw [List.append_nil]; exact Eq hbs hall) (by rw [List.append_nil]; exact KE) (by simp -implicitDefEqProofs -proj only [go_sem,seval]; try rfl) (by rw [Gh]; omega) (by rw [Gh]; omega) (fun H' c2 cap2 ha _=>?_)
   rw [NW,List.append_nil] at ha
   have hne:Fe (l++[⟨0,⟨⟨[]⟩⟩,ln,co⟩])≠[]:=by simp [Fe]
   rw [Hn hne] at ha
   simp -implicitDefEqProofs -proj only [go_sem,seval,Gh]
   refine LendV.tupL (EK (JE ha.1 (by rw [Gh,List.length_append,List.length_singleton])) (EK (.refl _) (EK (.refl _) (EK (.refl _) G9))))
  have hv:(0:Int)≤(i:Int)∧(i:Int)<s.size:=by omega
  have i1:=Ed (show i<9223372036854775807 by omega)
  rw [Hi,if_pos hlt] at hr
  simp -implicitDefEqProofs -proj only [go_sem,seval,Gv,HY,HV,Gk,Gx,GM,hH,decide_eq_true (show (i:Int)<s.size by omega)]
  refine BB hv (fun _=>?_)
  by_cases c35:EE s i=35
  ·rw [if_pos c35] at hr
   have he:=Ov (s:=s) (s.size-(i+1)) (i+1)
   simp -implicitDefEqProofs -proj only [go_sem,seval,hto,decide_eq_true c35,i1]
   generalize hE:I3 s (s.size-(i+1)) (i+1)=E at *
   refine EX (fun j:Nat=>(i+1≤j∧j≤s.size)∧I3 s (s.size-j) j=E) 105 (fun j=>[(0,.d (.str s)),(6,EM 0 4 c1 cap (Fe l)),(7,i64 ln),(8,i64 co),(9,i64 i),(10,.d (.int .u8 (EE s i))),(11,i64 j)]) (fun j=>Ia ⟨j,ln,co,c1,cap,l⟩) (fun j=>s.size-j) (i+1) ⟨by omega,hE⟩ rfl ?_ (by rw [Gq rfl rfl rfl]; exact hall) ?_
   ·simp -implicitDefEqProofs -proj only [go_sem,seval,AP,hto]
   ·rintro j ⟨hj,hje⟩
    have hall2:=FV (l:=Ia ⟨j,ln,co,c1,cap,l⟩) KE
    obtain ⟨H2,hH2⟩:∃H,EH (Ia ⟨j,ln,co,c1,cap,l⟩)=H:=⟨_,rfl⟩
    rw [hH2,Gq rfl rfl rfl] at hall2
    simp -implicitDefEqProofs only [Gk,Gx,GM] at hall2
    have htj:((j:Int)).toNat=j:=Int.toNat_natCast j
    by_cases hj1:j<s.size
    ·have hvj:(0:Int)≤(j:Int)∧(j:Int)<s.size:=by omega
     have j1:=Ed (show j<9223372036854775807 by omega)
     rw [show s.size-j=(s.size-(j+1))+1 by omega,I3] at hje
     simp -implicitDefEqProofs -proj only [go_sem,seval,hH2,decide_eq_true (show (j:Int)<s.size by omega)]
     refine BB hvj (fun _=>?_)
     by_cases c10:EE s j=10
     ·rw [if_pos c10] at hje
      subst hje
      simp -implicitDefEqProofs -proj only [go_sem,seval,htj,decide_eq_true c10,Bool.not_true,c35,decide_eq_false (show ¬(35:Int)=10 by decide)]
      refine EF ⟨j,ln,GO co j i,c1,cap,l⟩ ⟨hj.2,by show l.length≤j; omega,k,by show s.size-j<k; omega,hr⟩ (by show s.size-j<s.size-i; omega) rfl ?_ (by rw [Gq rfl rfl rfl]; exact hall2)
      simp -implicitDefEqProofs -proj only [go_sem,seval,AP,Gv,HY,HV,Gk,Gx,GM,GO]
     ·rw [if_neg c10] at hje
      simp -implicitDefEqProofs -proj only [go_sem,seval,htj,decide_eq_false c10,Bool.not_false]
      refine EF (j+1) (And.intro (by omega) hje) (by show s.size-(j+1)<s.size-j; omega) rfl ?_ (by rw [Gq rfl rfl rfl]; exact hall2)
      simp -implicitDefEqProofs -proj only [go_sem,seval,AP,j1]
    ·have hj':j=s.size:=by omega
     rw [hj',Nat.sub_self,I3] at hje
     have hjE:j=E:=by omega
     subst hjE
     simp -implicitDefEqProofs -proj only [go_sem,seval,hH2,decide_eq_false (show ¬(j:Int)<s.size by omega),c35,decide_eq_false (show ¬(35:Int)=10 by decide)]
     refine EF ⟨j,ln,GO co j i,c1,cap,l⟩ ⟨hj.2,by show l.length≤j; omega,k,by show s.size-j<k; omega,hr⟩ (by show s.size-j<s.size-i; omega) rfl ?_ (by rw [Gq rfl rfl rfl]; exact hall2)
     simp -implicitDefEqProofs -proj only [go_sem,seval,AP,Gv,HY,HV,Gk,Gx,GM,GO]
  rw [if_neg c35] at hr
  have hc1:((i+1:Nat):Int)=(i:Int)+1:=by omega
  by_cases c10:EE s i=10
  ·rw [if_pos c10] at hr
   simp -implicitDefEqProofs -proj only [go_sem,seval,hto,c10,decide_eq_false (show ¬(10:Int)=35 by decide),decide_eq_false (show ¬(10:Int)=32 by decide),decide_eq_false (show ¬(10:Int)=9 by decide),decide_eq_true (show (10:Int)=10 from rfl),Bool.not_true,Bool.not_false]
   refine EF ⟨i+1,IntKind.i64.wrap (ln+1),1,c1,cap,l⟩ ⟨by show i+1≤s.size; omega,by show l.length≤i+1; omega,k,by show s.size-(i+1)<k; omega,hr⟩ (by show s.size-(i+1)<s.size-i; omega) rfl ?_ (by rw [Gq rfl rfl rfl]; exact hall)
   simp -implicitDefEqProofs -proj only [go_sem,seval,AP,Gv,HY,HV,Gk,Gx,GM,i1]
  rw [if_neg c10] at hr
  by_cases cw:EE s i=32∨EE s i=9∨EE s i=13
  ·rw [if_pos cw] at hr
   rcases cw with e | e | e
   ·simp -implicitDefEqProofs -proj only [go_sem,seval,hto,e,decide_eq_false (show ¬(32:Int)=35 by decide),decide_eq_true (show (32:Int)=32 from rfl),decide_eq_false (show ¬(32:Int)=10 by decide),Bool.not_true,Bool.not_false]
    refine EF ⟨i+1,ln,GO co (i+1) i,c1,cap,l⟩ ⟨by show i+1≤s.size; omega,by show l.length≤i+1; omega,k,by show s.size-(i+1)<k; omega,hr⟩ (by show s.size-(i+1)<s.size-i; omega) rfl ?_ (by rw [Gq rfl rfl rfl]; exact hall)
    simp -implicitDefEqProofs -proj only [go_sem,seval,AP,Gv,HY,HV,Gk,Gx,GM,i1,GO]
   ·simp -implicitDefEqProofs -proj only [go_sem,seval,hto,e,decide_eq_false (show ¬(9:Int)=35 by decide),decide_eq_false (show ¬(9:Int)=32 by decide),decide_eq_true (show (9:Int)=9 from rfl),decide_eq_false (show ¬(9:Int)=10 by decide),Bool.not_true,Bool.not_false]
    refine EF ⟨i+1,ln,GO co (i+1) i,c1,cap,l⟩ ⟨by show i+1≤s.size; omega,by show l.length≤i+1; omega,k,by show s.size-(i+1)<k; omega,hr⟩ (by show s.size-(i+1)<s.size-i; omega) rfl ?_ (by rw [Gq rfl rfl rfl]; exact hall)
    simp -implicitDefEqProofs -proj only [go_sem,seval,AP,Gv,HY,HV,Gk,Gx,GM,i1,GO]
   ·simp -implicitDefEqProofs -proj only [go_sem,seval,hto,e,decide_eq_false (show ¬(13:Int)=35 by decide),decide_eq_false (show ¬(13:Int)=32 by decide),decide_eq_false (show ¬(13:Int)=9 by decide),decide_eq_true (show (13:Int)=13 from rfl),decide_eq_false (show ¬(13:Int)=10 by decide),Bool.not_true,Bool.not_false]
    refine EF ⟨i+1,ln,GO co (i+1) i,c1,cap,l⟩ ⟨by show i+1≤s.size; omega,by show l.length≤i+1; omega,k,by show s.size-(i+1)<k; omega,hr⟩ (by show s.size-(i+1)<s.size-i; omega) rfl ?_ (by rw [Gq rfl rfl rfl]; exact hall)
    simp -implicitDefEqProofs -proj only [go_sem,seval,AP,Gv,HY,HV,Gk,Gx,GM,i1,GO]
  rw [if_neg cw] at hr
  have n32:¬EE s i=32:=fun e=>cw (.inl e)
  have n9:¬EE s i=9:=fun e=>cw (.inr (.inl e))
  have n13:¬EE s i=13:=fun e=>cw (.inr (.inr e))
  have he:=Qs hlt
  simp -implicitDefEqProofs -proj only [go_sem,seval,hto,decide_eq_false c35,decide_eq_false n32,decide_eq_false n9,decide_eq_false c10,decide_eq_false n13,Bool.not_false,i1]
  generalize hE:ID s i=E at *
  unfold ID at hE
  refine EX (fun j:Nat=>(i+1≤j∧j≤s.size)∧(if F5 (EE s i) then Ib s (s.size-j) j else j)=E) 105 (fun j=>[(0,.d (.str s)),(6,EM 0 4 c1 cap (Fe l)),(7,i64 ln),(8,i64 co),(9,i64 i),(10,.d (.int .u8 (EE s i))),(11,i64 j)]) (fun j=>Ia ⟨j,ln,co,c1,cap,l⟩) (fun j=>s.size-j) (i+1) ⟨by omega,hE⟩ rfl ?_ (by rw [Gq rfl rfl rfl]; exact hall) ?_
  ·simp -implicitDefEqProofs -proj only [go_sem,seval,AP,hto]
  ·rintro j ⟨hj,hje⟩
   have hall2:=FV (l:=Ia ⟨j,ln,co,c1,cap,l⟩) KE
   obtain ⟨H2,hH2⟩:∃H,EH (Ia ⟨j,ln,co,c1,cap,l⟩)=H:=⟨_,rfl⟩
   rw [hH2,Gq rfl rfl rfl] at hall2
   simp -implicitDefEqProofs only [Gk,Gx,GM] at hall2
   have htj:((j:Int)).toNat=j:=Int.toNat_natCast j
   have hkind:=AGe (s:=s.extract i E) (by rw [ByteArray.size_extract]; omega)
   have hsl:(0:Int)≤(i:Int)∧(i:Int)≤(E:Int)∧(E:Int)≤s.size:=by omega
   have htE:((E:Int)).toNat=E:=Int.toNat_natCast E
   simp -implicitDefEqProofs -proj only [go_sem,seval,hH2]
   refine AQ (N1 (c:=EE s i)) ?_
   have hcase:j=E∨(F5 (EE s i)∧j<s.size∧F5 (EE s j)∧Ib s (s.size-(j+1)) (j+1)=E):=by
    by_cases q1:F5 (EE s i)
    ·rw [if_pos q1] at hje
     by_cases q2:j<s.size
     ·rw [show s.size-j=(s.size-(j+1))+1 by omega,Ib] at hje
      by_cases q3:F5 (EE s j)
      ·rw [if_pos q3] at hje; exact .inr ⟨q1,q2,q3,hje⟩
      ·rw [if_neg q3] at hje; exact .inl hje
     ·have:j=s.size:=by omega
      rw [this,Nat.sub_self,Ib] at hje
      exact .inl (by omega)
    ·rw [if_neg q1] at hje; exact .inl hje
   by_cases go:F5 (EE s i)∧j<s.size∧F5 (EE s j)
   ·obtain ⟨q1,q2,q3⟩:=go
    have hje2:Ib s (s.size-(j+1)) (j+1)=E:=by
     rw [if_pos q1,show s.size-j=(s.size-(j+1))+1 by omega,Ib,if_pos q3] at hje
     exact hje
    have j1:=Ed (show j<9223372036854775807 by omega)
    simp -implicitDefEqProofs -proj only [go_sem,seval,decide_eq_true q1,decide_eq_true (show (j:Int)<s.size by omega)]
    refine BB (by omega) (fun _=>?_)
    refine AQ (N1 (c:=EE s j)) ?_
    simp -implicitDefEqProofs -proj only [go_sem,seval,decide_eq_true q3]
    refine EF (j+1) (And.intro (by omega) (by rw [if_pos q1]; exact hje2)) (by show s.size-(j+1)<s.size-j; omega) rfl ?_ (by rw [Gq rfl rfl rfl]; exact hall2)
    simp -implicitDefEqProofs -proj only [go_sem,seval,AP,j1]
   ·have hjE:j=E:=by
     rcases hcase with e | ⟨q1,q2,q3,_⟩
     ·exact e
     ·exact absurd ⟨q1,q2,q3⟩ go
    subst hjE
    by_cases q1:F5 (EE s i)
    ·by_cases q2:j<s.size
     ·have q3:¬F5 (EE s j):=fun q3=>go ⟨q1,q2,q3⟩
      simp -implicitDefEqProofs -proj only [go_sem,seval,decide_eq_true q1,decide_eq_true (show (j:Int)<s.size by omega)]
      refine BB (by omega) (fun _=>?_)
      refine AQ (N1 (c:=EE s j)) ?_
      simp -implicitDefEqProofs -proj only [go_sem,seval,decide_eq_false q3,Ar,AS,EV,As,Option.getD_some,hto,htE]
      refine BB hsl (fun _=>?_)
      refine AQ hkind ?_
      by_cases ck:F3 (s.extract i j)=0
      ·rw [if_pos ck] at hr
       subst hr
       simp -implicitDefEqProofs -proj only [go_sem,seval,decide_eq_true ck]
       exact LendV.tupL (EK (.nilsl _ _) (EK (.refl _) (EK (.refl _) (EK (.refl _) G9))))
      rw [if_neg ck] at hr
      simp -implicitDefEqProofs -proj only [go_sem,seval,decide_eq_false ck,Ar,AS,EV,As,Option.getD_some,hto,htE]
      refine BB hsl (fun _=>?_)
      try simp -implicitDefEqProofs -proj only [go_sem,seval,Ar,AS,EV,As,Option.getD_some,hto,htE]
      refine EL (fun bs hbs=>?_)
      replace hbs:H2 bs=none:=hbs
      simp -implicitDefEqProofs -proj only [go_sem,seval]
      refine Gg (xs:=Fe l) (y:=J1 ⟨F3 (s.extract i j),s.extract i j,ln,co⟩) (t:=83) (capc:=1) [] rfl (by rw [List.append_nil]; exact Eq hbs hall2) (by rw [List.append_nil]; exact KE) (by simp -implicitDefEqProofs -proj only [go_sem,seval]; try rfl) (by rw [Gh]; omega) (by rw [Gh]; omega) (fun H' c2 cap2 ha _=>?_)
      rw [NW,List.append_nil] at ha
      have hne:Fe (l++[⟨F3 (s.extract i j),s.extract i j,ln,co⟩])≠[]:=by simp [Fe]
      simp -implicitDefEqProofs -proj only [go_sem,seval,Gh,decide_eq_false c10]
      refine EF ⟨j,ln,GO co j i,c2,cap2,l++[⟨F3 (s.extract i j),s.extract i j,ln,co⟩]⟩ ⟨hj.2,by rw [GM,Gv,List.length_append,List.length_singleton]; omega,k,by show s.size-j<k; omega,hr⟩ (by show s.size-j<s.size-i; omega) rfl ?_ (by rw [Gq rfl rfl rfl]; exact ha)
      simp -implicitDefEqProofs -proj only [go_sem,seval,AP,Gv,HY,HV,Gk,Gx,GM,GO,Fv hne,Gh,List.length_append]
     ·simp -implicitDefEqProofs -proj only [go_sem,seval,decide_eq_true q1,decide_eq_false (show ¬(j:Int)<s.size by omega),Ar,AS,EV,As,Option.getD_some,hto,htE]
      refine BB hsl (fun _=>?_)
      refine AQ hkind ?_
      by_cases ck:F3 (s.extract i j)=0
      ·rw [if_pos ck] at hr
       subst hr
       simp -implicitDefEqProofs -proj only [go_sem,seval,decide_eq_true ck]
       exact LendV.tupL (EK (.nilsl _ _) (EK (.refl _) (EK (.refl _) (EK (.refl _) G9))))
      rw [if_neg ck] at hr
      simp -implicitDefEqProofs -proj only [go_sem,seval,decide_eq_false ck,Ar,AS,EV,As,Option.getD_some,hto,htE]
      refine BB hsl (fun _=>?_)
      try simp -implicitDefEqProofs -proj only [go_sem,seval,Ar,AS,EV,As,Option.getD_some,hto,htE]
      refine EL (fun bs hbs=>?_)
      replace hbs:H2 bs=none:=hbs
      simp -implicitDefEqProofs -proj only [go_sem,seval]
      refine Gg (xs:=Fe l) (y:=J1 ⟨F3 (s.extract i j),s.extract i j,ln,co⟩) (t:=83) (capc:=1) [] rfl (by rw [List.append_nil]; exact Eq hbs hall2) (by rw [List.append_nil]; exact KE) (by simp -implicitDefEqProofs -proj only [go_sem,seval]; try rfl) (by rw [Gh]; omega) (by rw [Gh]; omega) (fun H' c2 cap2 ha _=>?_)
      rw [NW,List.append_nil] at ha
      have hne:Fe (l++[⟨F3 (s.extract i j),s.extract i j,ln,co⟩])≠[]:=by simp [Fe]
      simp -implicitDefEqProofs -proj only [go_sem,seval,Gh,decide_eq_false c10]
      refine EF ⟨j,ln,GO co j i,c2,cap2,l++[⟨F3 (s.extract i j),s.extract i j,ln,co⟩]⟩ ⟨hj.2,by rw [GM,Gv,List.length_append,List.length_singleton]; omega,k,by show s.size-j<k; omega,hr⟩ (by show s.size-j<s.size-i; omega) rfl ?_ (by rw [Gq rfl rfl rfl]; exact ha)
      simp -implicitDefEqProofs -proj only [go_sem,seval,AP,Gv,HY,HV,Gk,Gx,GM,GO,Fv hne,Gh,List.length_append]
    ·simp -implicitDefEqProofs -proj only [go_sem,seval,decide_eq_false q1,Ar,AS,EV,As,Option.getD_some,hto,htE]
     refine BB hsl (fun _=>?_)
     refine AQ hkind ?_
     by_cases ck:F3 (s.extract i j)=0
     ·rw [if_pos ck] at hr
      subst hr
      simp -implicitDefEqProofs -proj only [go_sem,seval,decide_eq_true ck]
      exact LendV.tupL (EK (.nilsl _ _) (EK (.refl _) (EK (.refl _) (EK (.refl _) G9))))
     rw [if_neg ck] at hr
     simp -implicitDefEqProofs -proj only [go_sem,seval,decide_eq_false ck,Ar,AS,EV,As,Option.getD_some,hto,htE]
     refine BB hsl (fun _=>?_)
     try simp -implicitDefEqProofs -proj only [go_sem,seval,Ar,AS,EV,As,Option.getD_some,hto,htE]
     refine EL (fun bs hbs=>?_)
     replace hbs:H2 bs=none:=hbs
     simp -implicitDefEqProofs -proj only [go_sem,seval]
     refine Gg (xs:=Fe l) (y:=J1 ⟨F3 (s.extract i j),s.extract i j,ln,co⟩) (t:=83) (capc:=1) [] rfl (by rw [List.append_nil]; exact Eq hbs hall2) (by rw [List.append_nil]; exact KE) (by simp -implicitDefEqProofs -proj only [go_sem,seval]; try rfl) (by rw [Gh]; omega) (by rw [Gh]; omega) (fun H' c2 cap2 ha _=>?_)
     rw [NW,List.append_nil] at ha
     have hne:Fe (l++[⟨F3 (s.extract i j),s.extract i j,ln,co⟩])≠[]:=by simp [Fe]
     simp -implicitDefEqProofs -proj only [go_sem,seval,Gh,decide_eq_false c10]
     refine EF ⟨j,ln,GO co j i,c2,cap2,l++[⟨F3 (s.extract i j),s.extract i j,ln,co⟩]⟩ ⟨hj.2,by rw [GM,Gv,List.length_append,List.length_singleton]; omega,k,by show s.size-j<k; omega,hr⟩ (by show s.size-j<s.size-i; omega) rfl ?_ (by rw [Gq rfl rfl rfl]; exact ha)
     simp -implicitDefEqProofs -proj only [go_sem,seval,AP,Gv,HY,HV,Gk,Gx,GM,GO,Fv hne,Gh,List.length_append]
structure PS where
 l:List Tok
 ix:Nat
 er:Int
 ln:Int
 co:Int
abbrev ER (p:PS):Blk:=.box 81 [SR p.l,i64 p.ix,i64 p.er,i64 p.ln,i64 p.co]
def L9:Tok:=⟨0,⟨⟨[]⟩⟩,0,0⟩
def EU (p:PS):Tok:=p.l.getD p.ix L9
structure PS.ok (p:PS):Prop where
 lt:p.ix<p.l.length
 tk:TokOK p.l
def PS.next (p:PS):PS:={ p with ix:=p.ix+1 }
theorem Kw {p:PS} (h:p.ok):(Fe p.l)[((p.ix:Int)).toNat]? = some (J1 (EU p)):=by
 rw [Int.toNat_natCast]
 have:=h.lt
 simp [Fe,EU,this]
theorem Ms {p:PS} (h:p.ok):(EU p).k=0∨Ps (EU p)∧p.next.ok:=by
 obtain ⟨m,t,e,h0,hm⟩:=h.tk.ex
 have hlt:=h.lt
 have hl:p.l.length=m.length+1:=by rw [e,List.length_append,List.length_singleton]
 rcases Nat.lt_or_ge p.ix m.length with hi | hi
 ·have e2:EU p=m[p.ix]:=by
   unfold EU
   rw [e]
   simp [List.getElem?_append_left hi,hi]
  exact .inr ⟨by rw [e2]; exact hm _ (List.getElem_mem hi),⟨by show p.ix+1<p.l.length; omega,h.tk⟩⟩
 ·have e3:p.ix=m.length:=by omega
  have e2:EU p=t:=by
   unfold EU
   rw [e,e3]
   simp
  exact .inl (by rw [e2]; exact h0)
theorem O9 {p:PS} (h:p.ok) (hk:¬(EU p).k=0):p.next.ok:=((Ms h).resolve_left hk).2
theorem Pk {p:PS} (h:p.ok):IntKind.i64.wrap ((p.ix:Int)+1)=((p.ix+1:Nat):Int):=by
 have:=h.lt
 have:=h.tk.ln
 exact Ed (by omega)
def Hu (f:FuncId) (b:Nat) (p:PS) (args:List AV) (v:AV) (p':PS):Prop:=∀H:Heap,H b=some (ER p)→CallW Try.prog f (.ptr b 0::args) H fun r H'=>r=v∧H' b=some (ER p')∧∀k x,¬k=b→H k=some x→H' k=some x
theorem Ij {f:FuncId} {b:Nat} {p p':PS} {args:List AV} {v:AV} (h:CallW Try.prog f (.ptr b 0::args) (EH [(b,ER p)]) fun r H'=>r=v∧H' b=some (ER p')):Hu f b p args v p':=by
 intro H hb
 refine CallW.mono (QJ h (H:=H) (fun k=>?_)) ?_
 ·rw [Am]
  by_cases e:k=b
  ·subst e; rw [if_pos rfl]; exact .inr hb.symm
  ·rw [if_neg e]; exact .inl rfl
 ·rintro r H' ⟨H1,⟨e,h1⟩,h2,h3⟩
  refine ⟨e,h2 b _ h1,fun k x hk hx=>h3 k x hx ?_⟩
  rw [Am,if_neg hk]
  rfl
theorem El {b:Nat} {x:Blk}:EH [(b,x)] b=some x:=by rw [Am,if_pos rfl]
def Fp (e:Int) (p:PS):PS:=if p.er=0 then { p with er:=e,ln:=(EU p).ln,co:=(EU p).co } else p
def Fu (s:ByteArray) (p:PS):Bool:=decide (p.er=0)&&((decide ((EU p).k=2)||decide ((EU p).k=5))&&((EU p).tx.toList == s.toList))
def JF (s:ByteArray) (p:PS):PS:=if Fu s p then p.next else p
def EP (s:ByteArray) (p:PS):PS:=if Fu s p then p.next else Fp 4 p
def Fm (k:Int) (p:PS):ByteArray×PS:=if ¬p.er=0∨¬(EU p).k=k then (⟨⟨[]⟩⟩,Fp 4 p) else ((EU p).tx,p.next)
def E7 (pl mo:Int) (p:PS):Int×PS:=if ¬p.er=0∨¬(EU p).k=3 then (0,Fp 4 p) else ((Ii (EU p).tx pl mo).1,(if (Ii (EU p).tx pl mo).2=1 then Fp 4 p else if (Ii (EU p).tx pl mo).2=2 then Fp 6 p else p).next)
def GY (p:PS):DateX×PS:=(IE (Fm 4 p).1,(Fm 4 p).2)
def EO (p:PS):Nat→List ByteArray→Int×PS
 | _,[]=>(-1,p)
 | i,s::l=>if Fu s p then (i,p.next) else EO p (i+1) l
structure Ext (p p':PS):Prop where
 l:p'.l=p.l
 ix:p.ix≤p'.ix
 er:p'.er=0→p.er=0
 ok:p.ok→p'.ok
theorem Ext.rfl' {p:PS}:Ext p p:=⟨rfl,Nat.le_refl _,id,id⟩
theorem Ext.trans {p q r:PS} (h:Ext p q) (k:Ext q r):Ext p r:=⟨k.l.trans h.l,Nat.le_trans h.ix k.ix,fun e=>h.er (k.er e),fun e=>k.ok (h.ok e)⟩
theorem GW {e:Int} {p:PS} (he:¬e=0):Ext p (Fp e p)∧¬(Fp e p).er=0:=by
 unfold Fp
 split
 ·next h=>exact ⟨⟨rfl,Nat.le_refl _,fun k=>absurd k he,fun k=>⟨k.lt,k.tk⟩⟩,he⟩
 ·next h=>exact ⟨.rfl',h⟩
theorem Jk {e:Int} {p:PS}:(Fp e p).ix=p.ix∧(Fp e p).l=p.l:=by
 unfold Fp
 split <;> exact ⟨rfl,rfl⟩
theorem Ty {e:Int} {p:PS}:EU (Fp e p)=EU p:=by
 unfold EU; rw [Jk.1,Jk.2]
theorem RL {s:ByteArray} {p:PS} (h:Fu s p=true):p.er=0∧¬(EU p).k=0:=by
 unfold Fu at h
 simp -implicitDefEqProofs only [Bool.and_eq_true,Bool.or_eq_true,decide_eq_true_eq] at h
 exact ⟨h.1,by omega⟩
theorem IL {s:ByteArray} {p:PS} (h:Fu s p=true):Ext p p.next:=⟨rfl,Nat.le_succ _,id,fun k=>O9 k (RL h).2⟩
theorem want_ext {s:ByteArray} {p:PS}:Ext p (EP s p):=by
 unfold EP
 split
 ·next h=>exact IL h
 ·exact (GW (by decide)).1
theorem HI {k:Int} {p:PS} (hk:¬k=0):Ext p (Fm k p).2:=by
 unfold Fm
 split
 ·exact (GW (by decide)).1
 ·next h=>exact ⟨rfl,Nat.le_succ _,id,fun o=>O9 o (by omega)⟩
theorem number_ext {pl mo:Int} {p:PS}:Ext p (E7 pl mo p).2:=by
 unfold E7
 split
 ·exact (GW (by decide)).1
 ·next h =>
  have ex:∀q:PS,Ext p q→q.ix=p.ix→EU q=EU p→Ext p q.next:=fun q e hx ht=>⟨e.l,by show p.ix≤q.ix+1; omega,e.er,fun o=>O9 (e.ok o) (by rw [ht]; omega)⟩
  split
  ·exact ex _ (GW (by decide)).1 Jk.1 Ty
  ·split
   ·exact ex _ (GW (by decide)).1 Jk.1 Ty
   ·exact ex _ .rfl' rfl rfl
theorem Jb {pl mo:Int} {p:PS} (hm:0≤mo):0≤(E7 pl mo p).1∧(E7 pl mo p).1≤mo:=by
 unfold E7
 split
 ·exact ⟨Int.le_refl _,hm⟩
 ·exact ADd hm
theorem day_ext {p:PS}:Ext p (GY p).2:=HI (by decide)
theorem NT {p:PS} (ho:p.ok) (h:(GY p).2.er=0):Fh (GY p).1:=by
 unfold GY Fm at h ⊢
 by_cases g:¬p.er=0∨¬(EU p).k=4
 ·rw [if_pos g] at h; exact absurd h (GW (by decide)).2
 ·rw [if_neg g]
  have h4:(EU p).k=4:=by omega
  rcases Ms ho with e | e
  ·rw [e] at h4; exact absurd h4 (by decide)
  ·exact e.1.2.1 h4
theorem HP {p:PS}:∀(l:List ByteArray) (i:Nat),Ext p (EO p i l).2∧(-1≤(EO p i l).1∧(EO p i l).1<i+l.length)∧((EO p i l).1<i→(EO p i l).1 = -1∧(EO p i l).2=p)∧(0≤(EO p i l).1→(EO p i l).2=p.next∧p.er=0)
 | [],i=>by
  simp -implicitDefEqProofs only [EO,List.length_nil]
  exact ⟨.rfl',by omega,fun _=>by trivial,fun h=>absurd h (by decide)⟩
 | s::l,i=>by
  rw [EO]
  split
  ·next h =>
   simp -implicitDefEqProofs only [List.length_cons]
   exact ⟨IL h,by omega,fun k=>by omega,fun _=>⟨by trivial,(RL h).1⟩⟩
  ·obtain ⟨h1,h2,h3,h4⟩:=HP (p:=p) l (i+1)
   simp -implicitDefEqProofs only [List.length_cons]
   exact ⟨h1,by omega,fun k=>h3 (by omega),h4⟩
theorem Iq {b:Nat} {p:PS} {e:Int} (h:p.ok):Hu ACC b p [i64 e] (.tup []) (Fp e p):=by
 refine Ij (A3 V2 (by simp) ?_)
 have hel:=Kw h
 obtain ⟨l,ix,er,ln,co⟩:=p
 unfold Fp
 simp -implicitDefEqProofs only [] at hel ⊢
 generalize EU ⟨l,ix,er,ln,co⟩=t at hel ⊢
 obtain ⟨tk,tx,tl,tc⟩:=t
 by_cases g:er=0
 ·rw [if_pos g]
  simp -implicitDefEqProofs -proj only [go_sem,seval,El,decide_eq_true g]
  refine Eh _ (by omega) hel ?_
  simp -implicitDefEqProofs -proj only [go_sem,seval,El,AK]
  refine Eh _ (by omega) hel ?_
  simp -implicitDefEqProofs -proj only [go_sem,seval,El,AK]
 ·rw [if_neg g]
  simp -implicitDefEqProofs -proj only [go_sem,seval,El,decide_eq_false g]
abbrev Ey (s:ByteArray):AV:=.d (.str s)
theorem Xs {b:Nat} {p:PS} {s:ByteArray} (h:p.ok):Hu ALu b p [Ey s] (bv (Fu s p)) p:=by
 refine Ij (A3 AKs (by simp) ?_)
 have hel:=Kw h
 unfold Fu
 generalize EU p=t at hel ⊢
 obtain ⟨tk,tx,tl,tc⟩:=t
 simp -implicitDefEqProofs -proj only [go_sem,seval,El]
 refine Eh _ (by omega) hel ?_
 simp -implicitDefEqProofs -proj only [go_sem,seval,El,AK]
 refine Aa (fun b5 hb5=>?_)
 replace hb5:EH [(b,ER p)] b5=none:=hb5
 obtain ⟨n1,n2⟩:=EG hb5 El
 by_cases g1:p.er=0
 rotate_left
 ·simp -implicitDefEqProofs -proj only [go_sem,seval,El,AK,n1,n2,decide_eq_false g1]
  first | done | rfl | exact ⟨rfl,El⟩
 by_cases g2:tk=2
 ·simp -implicitDefEqProofs -proj only [go_sem,seval,El,AK,n1,n2,decide_eq_true g1,decide_eq_true g2,HU]
  first | done | rfl | exact ⟨rfl,El⟩
 by_cases g3:tk=5
 ·simp -implicitDefEqProofs -proj only [go_sem,seval,El,AK,n1,n2,decide_eq_true g1,decide_eq_false g2,decide_eq_true g3,HU]
  first | done | rfl | exact ⟨rfl,El⟩
 ·simp -implicitDefEqProofs -proj only [go_sem,seval,El,AK,n1,n2,decide_eq_true g1,decide_eq_false g2,decide_eq_false g3,HU]
  first | done | rfl | exact ⟨rfl,El⟩
theorem KH {b:Nat} {p:PS} {s:ByteArray} (h:p.ok):Hu AFc b p [Ey s] (bv (Fu s p)) (JF s p):=by
 refine Ij (A3 ALj (by simp) ?_)
 have hon:=Xs (b:=b) (s:=s) h
 have hx:=Pk h
 unfold JF
 simp -implicitDefEqProofs -proj only [go_sem,seval]
 refine C8 (hon _ El) ?_
 rintro r H1 ⟨rfl,k1,_⟩
 cases Fu s p with
 | true =>
  simp -implicitDefEqProofs -proj only [go_sem,seval,k1,hx]
  first | done | exact AK | rfl | exact ⟨by trivial,AK⟩
 | false =>
  simp -implicitDefEqProofs -proj only [go_sem,seval,k1]
  first | done | exact k1 | rfl | exact ⟨by trivial,k1⟩
theorem FC {b:Nat} {p:PS} {s:ByteArray} (h:p.ok):Hu ANV b p [Ey s] (.tup []) (EP s p):=by
 refine Ij (A3 AAm (by simp) ?_)
 have hon:=KH (b:=b) (s:=s) h
 have hw:=Iq (b:=b) (e:=4) h
 unfold JF at hon
 unfold EP
 simp -implicitDefEqProofs -proj only [go_sem,seval]
 refine C8 (hon _ El) ?_
 rintro r H1 ⟨rfl,k1,_⟩
 cases e:Fu s p with
 | true =>
  rw [e] at k1
  simp -implicitDefEqProofs -proj only [go_sem,seval,Bool.not_true]
  first | done | exact k1 | rfl | exact ⟨by trivial,k1⟩
 | false =>
  rw [e] at k1
  simp -implicitDefEqProofs -proj only [go_sem,seval,Bool.not_false]
  refine C8 (hw _ k1) ?_
  rintro r H2 ⟨rfl,k2,_⟩
  simp -implicitDefEqProofs -proj only [go_sem,seval]
  first | done | exact k2 | rfl | exact ⟨by trivial,k2⟩
theorem Ks {b:Nat} {p:PS} {k:Int} (h:p.ok):Hu AHq b p [i64 k] (Ey (Fm k p).1) (Fm k p).2:=by
 refine Ij (A3 AMF (by simp) ?_)
 have hel:=Kw h
 have hx:=Pk h
 have hw:=Iq (b:=b) (e:=4) h
 unfold Fm
 generalize EU p=t at hel ⊢
 obtain ⟨tk,tx,tl,tc⟩:=t
 simp -implicitDefEqProofs -proj only [go_sem,seval,El]
 refine Eh _ (by omega) hel ?_
 simp -implicitDefEqProofs -proj only [go_sem,seval,El,AK]
 refine Aa (fun b5 hb5=>?_)
 replace hb5:EH [(b,ER p)] b5=none:=hb5
 obtain ⟨n1,n2⟩:=EG hb5 El
 have kq:AI (AI (EH [(b,ER p)]) b5 (some (.box 83 [i64 0,Ey ⟨⟨[]⟩⟩,i64 0,i64 0]))) b5 (some (.box 83 [i64 tk,Ey tx,i64 tl,i64 tc])) b=some (ER p):=by rw [EN n1,EN n1]; exact El
 by_cases g1:p.er=0
 rotate_left
 ·rw [if_pos (.inl g1)]
  simp -implicitDefEqProofs -proj only [go_sem,seval,El,AK,n1,n2,decide_eq_false g1,Bool.not_false]
  refine C8 (hw _ (by simpa only [AT] using kq)) ?_
  rintro r H2 ⟨rfl,k2,_⟩
  simp -implicitDefEqProofs -proj only [go_sem,seval]
  first | done | exact k2 | rfl | exact ⟨by trivial,k2⟩
 by_cases g2:tk=k
 rotate_left
 ·rw [if_pos (.inr g2)]
  simp -implicitDefEqProofs -proj only [go_sem,seval,El,AK,n1,n2,decide_eq_true g1,Bool.not_true,decide_eq_false g2,Bool.not_false]
  refine C8 (hw _ (by simpa only [AT] using kq)) ?_
  rintro r H2 ⟨rfl,k2,_⟩
  simp -implicitDefEqProofs -proj only [go_sem,seval]
  first | done | exact k2 | rfl | exact ⟨by trivial,k2⟩
 ·rw [if_neg (fun q=>q.elim (fun q=>q g1) (fun q=>q g2))]
  simp -implicitDefEqProofs -proj only [go_sem,seval,El,AK,n1,n2,decide_eq_true g1,Bool.not_true,decide_eq_true g2,hx]
  first | done | exact AK | rfl | exact ⟨by trivial,AK⟩
theorem Is {b:Nat} {p:PS} {pl mo:Int} (h:p.ok) (hp:0≤pl∧pl≤9):Hu AJ4 b p [i64 pl,i64 mo] (i64 (E7 pl mo p).1) (E7 pl mo p).2:=by
 refine Ij (A3 ZO (by simp) ?_)
 have hel:=Kw h
 have hx:=Pk h
 have hx4:=(Jk (e:=4) (p:=p)).1
 have hx6:=(Jk (e:=6) (p:=p)).1
 have hw:=Iq (b:=b) (e:=4) h
 have hw6:=Iq (b:=b) (e:=6) h
 have htc:=Ms h
 unfold E7
 generalize EU p=t at hel htc ⊢
 obtain ⟨tk,tx,tl,tc⟩:=t
 simp -implicitDefEqProofs -proj only [go_sem,seval,El]
 refine Eh _ (by omega) hel ?_
 simp -implicitDefEqProofs -proj only [go_sem,seval,El,AK]
 refine Aa (fun b5 hb5=>?_)
 replace hb5:EH [(b,ER p)] b5=none:=hb5
 obtain ⟨n1,n2⟩:=EG hb5 El
 have kq:AI (AI (EH [(b,ER p)]) b5 (some (.box 83 [i64 0,Ey ⟨⟨[]⟩⟩,i64 0,i64 0]))) b5 (some (.box 83 [i64 tk,Ey tx,i64 tl,i64 tc])) b=some (ER p):=by rw [EN n1,EN n1]; exact El
 by_cases g1:p.er=0
 rotate_left
 ·rw [if_pos (.inl g1)]
  simp -implicitDefEqProofs -proj only [go_sem,seval,El,AK,n1,n2,decide_eq_false g1,Bool.not_false]
  refine C8 (hw _ (by simpa only [AT] using kq)) ?_
  rintro r H2 ⟨rfl,k2,_⟩
  simp -implicitDefEqProofs -proj only [go_sem,seval]
  first | done | exact k2 | rfl | exact ⟨by trivial,k2⟩
 by_cases g2:tk=3
 rotate_left
 ·rw [if_pos (.inr g2)]
  simp -implicitDefEqProofs -proj only [go_sem,seval,El,AK,n1,n2,decide_eq_true g1,Bool.not_true,decide_eq_false g2,Bool.not_false]
  refine C8 (hw _ (by simpa only [AT] using kq)) ?_
  rintro r H2 ⟨rfl,k2,_⟩
  simp -implicitDefEqProofs -proj only [go_sem,seval]
  first | done | exact k2 | rfl | exact ⟨by trivial,k2⟩
 rw [if_neg (fun q=>q.elim (fun q=>q g1) (fun q=>q g2))]
 have hsz:tx.size≤8192:=(htc.resolve_left (by show ¬tk=0; omega)).1.2.2
 simp -implicitDefEqProofs -proj only [go_sem,seval,El,AK,n1,n2,decide_eq_true g1,Bool.not_true,decide_eq_true g2]
 refine AQ (Wm (mo:=mo) hsz hp) ?_
 generalize Ii tx pl mo=v
 obtain ⟨v1,v2⟩:=v
 by_cases g3:v2=1
 ·simp -implicitDefEqProofs only [if_pos g3]
  simp -implicitDefEqProofs -proj only [go_sem,seval,El,AK,n1,n2,decide_eq_true g3]
  refine C8 (hw _ (by simpa only [AT] using kq)) ?_
  rintro r H2 ⟨rfl,k2,_⟩
  simp -implicitDefEqProofs -proj only [go_sem,seval,decide_eq_false (show ¬v2=2 by omega),k2,hx4,hx]
  first | done | (simp -implicitDefEqProofs only [PS.next,hx4])
 by_cases g4:v2=2
 ·simp -implicitDefEqProofs only [if_neg g3,if_pos g4]
  simp -implicitDefEqProofs -proj only [go_sem,seval,El,AK,n1,n2,decide_eq_false g3,decide_eq_true g4]
  refine C8 (hw6 _ (by simpa only [AT] using kq)) ?_
  rintro r H2 ⟨rfl,k2,_⟩
  simp -implicitDefEqProofs -proj only [go_sem,seval,k2,hx6,hx]
  first | done | (simp -implicitDefEqProofs only [PS.next,hx6])
 ·simp -implicitDefEqProofs only [if_neg g3,if_neg g4]
  simp -implicitDefEqProofs -proj only [go_sem,seval,El,AK,n1,n2,decide_eq_false g3,decide_eq_false g4,hx]
  first | done | exact AK | rfl | exact ⟨by trivial,AK⟩
theorem NV {b:Nat} {p:PS} (h:p.ok):Hu ARJ b p [] (K4 (GY p).1) (GY p).2:=by
 refine Ij (A3 ADH (by simp) ?_)
 have ht:=Ks (b:=b) (k:=4) h
 unfold GY
 simp -implicitDefEqProofs -proj only [go_sem,seval]
 refine Aa (fun b2 hb2=>?_)
 replace hb2:EH [(b,ER p)] b2=none:=hb2
 obtain ⟨n1,n2⟩:=EG hb2 El
 simp -implicitDefEqProofs -proj only [go_sem,seval]
 refine C8 (ht (AI (EH [(b,ER p)]) b2 (some (.box 49 [i64 0,i64 0,i64 0]))) (by rw [EN n1]; exact El)) ?_
 rintro r H1 ⟨rfl,k1,hk⟩
 have k2:=hk b2 _ n1 AK
 simp -implicitDefEqProofs -proj only [go_sem,seval]
 refine AQ RU ?_
 simp -implicitDefEqProofs -proj only [go_sem,seval]
 refine Aa (fun b3 hb3=>?_)
 replace hb3:H1 b3=none:=hb3
 obtain ⟨m1,m2⟩:=EG hb3 k1
 obtain ⟨q1,q2⟩:=EG hb3 k2
 simp -implicitDefEqProofs -proj only [go_sem,seval,k1,k2,m1,m2,q1,q2,n1,n2,AK]
 first | done | rfl | exact k1
def IK (l:List ByteArray):Blk:=.row 9 1 l.length (Jo l)
theorem TG {b c:Nat} {p:PS} {l:List ByteArray} (h:p.ok) (hl:l.length≤1000) {H:Heap} (hb:H b=some (ER p)) (hc:H c=some (IK l)) (hn:¬c=b) :
  CallW Try.prog PJ [.ptr b 0,.own c 1 0 l.length l.length] H fun r H'=>r=i64 (EO p 0 l).1∧H' b=some (ER (EO p 0 l).2)∧∀k x,¬k=b→H k=some x→H' k=some x:=by
 have hn':¬b=c:=fun e=>hn e.symm
 have base:CallW Try.prog PJ [.ptr b 0,.own c 1 0 l.length l.length] (EH [(b,ER p),(c,IK l)]) fun r H'=>r=i64 (EO p 0 l).1∧H' b=some (ER (EO p 0 l).2)∧H' c=some (IK l):=by
  have hb':EH [(b,ER p),(c,IK l)] b=some (ER p):=by rw [Am,if_pos rfl]
  have hc':EH [(b,ER p),(c,IK l)] c=some (IK l):=by rw [Am,if_neg hn,Am,if_pos rfl]
  refine A3 YF (by simp) ?_
  generalize hR:EO p 0 l=R
  simp -implicitDefEqProofs -proj only [go_sem,seval]
  refine EX (fun j:Nat=>j≤l.length∧EO p j (l.drop j)=R) 19 (fun j=>[(0,.ptr b 0),(7,.own c 1 0 l.length l.length),(8,i64 l.length),(9,i64 j)]) (fun _=>[(b,ER p),(c,IK l)]) (fun j=>l.length-j) 0 ⟨Nat.zero_le _,hR⟩ rfl ?_ ⟨hb',hc',trivial⟩ ?_
  ·simp -implicitDefEqProofs -proj only [go_sem,seval,AP]
  ·rintro j ⟨hj,hje⟩
   have htj:((j:Int)).toNat=j:=Int.toNat_natCast j
   by_cases hlt:j<l.length
   ·have hel:=TN hlt
    rw [htj] at hel
    rw [List.drop_eq_getElem_cons hlt,EO] at hje
    have ht:=KH (b:=b) (s:=l[j]) h
    have j1:=Ed (show j<9223372036854775807 by omega)
    unfold JF at ht
    generalize hw:l[j]=w at *
    simp -implicitDefEqProofs -proj only [go_sem,seval,decide_eq_true (show (j:Int)<l.length by omega)]
    try refine BB (by omega) (fun _=>?_)
    simp -implicitDefEqProofs -proj only [go_sem,seval,hn,hc',IK,htj,Nat.zero_add]
    refine EZ _ hel Nat.zero_lt_one ?_
    simp -implicitDefEqProofs -proj only [go_sem,seval]
    refine C8 (ht _ hb') ?_
    rintro r H1 ⟨rfl,k1,hk⟩
    cases e:Fu w p with
    | true =>
     rw [e] at k1
     rw [e,if_pos rfl] at hje
     subst hje
     simp -implicitDefEqProofs -proj only [go_sem,seval]
     first | done | exact ⟨k1,hk c _ hn hc'⟩ | exact ⟨by trivial,k1,hk c _ hn hc'⟩
    | false =>
     rw [e] at k1
     rw [e,if_neg (by decide)] at hje
     simp -implicitDefEqProofs -proj only [go_sem,seval]
     refine EF (j+1) (And.intro (by omega) hje) (by show l.length-(j+1)<l.length-j; omega) rfl ?_ ⟨k1,hk c _ hn hc',trivial⟩
     simp -implicitDefEqProofs -proj only [go_sem,seval,AP,j1]
   ·have hj':j=l.length:=by omega
    rw [List.drop_eq_nil_of_le (by omega),EO] at hje
    subst hje
    simp -implicitDefEqProofs -proj only [go_sem,seval,hn,IK,decide_eq_false (show ¬(j:Int)<l.length by omega)]
    first | done | trivial | exact ⟨hb',hc'⟩ | exact ⟨by trivial,hb',hc'⟩
 refine CallW.mono (QJ base (H:=H) (fun k=>?_)) ?_
 ·rw [Am,Am]
  by_cases e:k=b
  ·subst e; rw [if_pos rfl]; exact .inr hb.symm
  ·rw [if_neg e]
   by_cases e2:k=c
   ·subst e2; rw [if_pos rfl]; exact .inr hc.symm
   ·rw [if_neg e2]; exact .inl rfl
 ·rintro r H' ⟨H1,⟨e,h1,h1c⟩,h2,h3⟩
  refine ⟨e,h2 b _ h1,fun k x hk hx=>?_⟩
  by_cases e2:k=c
  ·subst e2
   rw [hc] at hx; cases hx
   exact h2 k _ h1c
  ·refine h3 k x hx ?_
   rw [Am,if_neg hk,Am,if_neg e2]
   rfl
def modesL:List ByteArray:=[⟨⟨[102,108,111,111,114]⟩⟩,⟨⟨[99,101,105,108]⟩⟩,⟨⟨[104,97,108,102,117,112]⟩⟩,⟨⟨[104,97,108,102,101,118,101,110]⟩⟩]
def IG (p:PS):Int×PS:=if (EO p 0 modesL).1<0 then (0,Fp 4 (EO p 0 modesL).2) else EO p 0 modesL
theorem LT {p:PS}:Ext p (IG p).2∧(0≤(IG p).1∧(IG p).1≤3):=by
 obtain ⟨h1,h2,h3,h4⟩:=HP (p:=p) modesL 0
 have hl:modesL.length=4:=rfl
 unfold IG
 split
 ·exact ⟨h1.trans (GW (by decide)).1,(by show (0:Int)≤0∧(0:Int)≤3; decide)⟩
 ·exact ⟨h1,by omega⟩
theorem RV {b:Nat} {p:PS} (h:p.ok):Hu ALZ b p [] (i64 (IG p).1) (IG p).2:=by
 refine Ij (A3 AKr (by simp) ?_)
 simp -implicitDefEqProofs -proj only [go_sem,seval]
 refine EL (fun c hc=>?_)
 replace hc:EH [(b,ER p)] c=none:=hc
 obtain ⟨n1,n2⟩:=EG hc El
 simp -implicitDefEqProofs -proj only [go_sem,seval]
 have ho:=TG (b:=b) (c:=c) (l:=modesL) h (by decide) (H:=AI (EH [(b,ER p)]) c (some (IK modesL))) (by rw [EN n1]; exact El) AK n1
 obtain ⟨h1,h2,h3,h4⟩:=HP (p:=p) modesL 0
 have hok:=h1.ok h
 unfold IG
 generalize EO p 0 modesL=q at *
 obtain ⟨m,q⟩:=q
 simp -implicitDefEqProofs only [] at h1 h2 h3 h4 hok ho
 refine C8 ho ?_
 rintro r H1 ⟨rfl,k1,hk⟩
 by_cases g:m<0
 ·have hw:=Iq (b:=b) (e:=4) hok
  have hm:m = -1:=by omega
  subst hm
  simp -implicitDefEqProofs -proj only [go_sem,seval,decide_eq_true g]
  refine C8 (hw H1 k1) ?_
  rintro r H2 ⟨rfl,k2,_⟩
  simp -implicitDefEqProofs -proj only [go_sem,seval]
  first | done | exact ⟨by trivial,k2⟩ | exact k2
 ·simp -implicitDefEqProofs -proj only [go_sem,seval,decide_eq_false g]
  first | done | exact ⟨by (simp [g]; omega),by simpa [g] using k1⟩ | (simp [g]; exact k1)
def Og:ByteArray:=⟨⟨[102,114,111,109]⟩⟩
def K0:ByteArray:=⟨⟨[116,111]⟩⟩
def Jx:WinX:=⟨false,GU,GU⟩
abbrev ON (w:WinX):AV:=.agg [bv w.has,i64 w.f.y,i64 w.f.m,i64 w.f.d,i64 w.t.y,i64 w.t.m,i64 w.t.d]
def HJ (p:PS):WinX×PS:=if Fu Og p then (⟨true,(GY p.next).1,(GY (EP K0 (GY p.next).2)).1⟩,(GY (EP K0 (GY p.next).2)).2) else (Jx,p)
theorem window_ext {p:PS}:Ext p (HJ p).2:=by
 unfold HJ
 split
 ·next h=>exact (IL h).trans (day_ext.trans (want_ext.trans day_ext))
 ·exact .rfl'
def KZ (w:WinX):Prop:=(w.has=true→Fh w.f∧Fh w.t)∧(w.has=false→w.f=GU∧w.t=GU)
theorem So {p:PS} (ho:p.ok) (h:(HJ p).2.er=0):KZ (HJ p).1:=by
 unfold HJ at h ⊢
 split
 ·next g =>
  rw [if_pos g] at h
  have o1:=(IL g).ok ho
  have o2:=(day_ext (p:=p.next)).ok o1
  have o3:=(want_ext (s:=K0)).ok o2
  exact ⟨fun _=>⟨NT o1 (want_ext.er (day_ext.er h)),NT o3 h⟩,fun e=>(by cases e)⟩
 ·exact ⟨fun e=>(by cases e),fun _=>⟨rfl,rfl⟩⟩
theorem Q6 {b:Nat} {p:PS} (h:p.ok):Hu ALY b p [] (ON (HJ p).1) (HJ p).2:=by
 refine Ij (A3 VN (by simp) ?_)
 have ht:=KH (b:=b) (s:=Og) h
 unfold JF at ht
 unfold HJ
 simp -implicitDefEqProofs -proj only [go_sem,seval]
 refine Aa (fun b2 hb2=>?_)
 replace hb2:EH [(b,ER p)] b2=none:=hb2
 obtain ⟨n1,n2⟩:=EG hb2 El
 simp -implicitDefEqProofs -proj only [go_sem,seval]
 refine C8 (ht (AI (EH [(b,ER p)]) b2 (some (.box 91 [bv false,i64 0,i64 0,i64 0,i64 0,i64 0,i64 0]))) (by rw [EN n1]; exact El)) ?_
 rintro r H1 ⟨rfl,k1,hk⟩
 have k2:=hk b2 _ n1 AK
 cases e:Fu Og p with
 | false =>
  rw [e] at k1
  simp -implicitDefEqProofs -proj only [go_sem,seval,Bool.not_false,k2,AK]
  first | done | exact ⟨by trivial,by rw [EN n1]; exact k1⟩ | (rw [EN n1]; exact k1) | (simp [n1,n2,Jx,GU]; exact k1)
 | true =>
  rw [e,if_pos rfl] at k1
  have o1:=(IL e).ok h
  have hd1:=NV (b:=b) o1
  have o2:=(day_ext (p:=p.next)).ok o1
  generalize GY p.next=d1 at *
  obtain ⟨x1,p1⟩:=d1
  simp -implicitDefEqProofs only [] at hd1 o2
  have hw:=FC (b:=b) (s:=K0) o2
  have o3:=(want_ext (s:=K0)).ok o2
  generalize EP K0 p1=p2 at *
  have hd2:=NV (b:=b) o3
  generalize GY p2=d2 at *
  obtain ⟨x2,p3⟩:=d2
  simp -implicitDefEqProofs only [] at hd2
  simp -implicitDefEqProofs -proj only [go_sem,seval,Bool.not_true]
  refine C8 (hd1 H1 k1) ?_
  rintro r H2 ⟨rfl,k1,hk⟩
  have k2:=hk b2 _ n1 k2
  simp -implicitDefEqProofs -proj only [go_sem,seval]
  refine Aa (fun b3 hb3=>?_)
  replace hb3:H2 b3=none:=hb3
  obtain ⟨m1,m2⟩:=EG hb3 k1
  obtain ⟨q1,q2⟩:=EG hb3 k2
  simp -implicitDefEqProofs -proj only [go_sem,seval,k1,k2,m1,m2,q1,q2,AK,AT]
  refine C8 (hw (AI H2 b3 (some (.box 49 [i64 x1.y,i64 x1.m,i64 x1.d]))) (by rw [EN m1]; exact k1)) ?_
  rintro r H3 ⟨rfl,k1',hk⟩
  have k2':=hk b2 _ n1 (by rw [EN q1]; exact k2)
  have k3':=hk b3 _ m1 AK
  simp -implicitDefEqProofs -proj only [go_sem,seval,k3']
  refine LD (hd2 H3 k1') ?_
  rintro r H4 ⟨rfl,k1,hk4⟩
  refine ⟨fun d hd k off hk2 e' cells hc=>?_,?_⟩
  ·rw [List.mem_singleton.1 hd] at hk2
   have e3:k=b3:=by
    simp -implicitDefEqProofs only [go_sem,seval] at hk2
    first | exact (AV.ptr.inj hk2).1.symm | (cases hk2; rfl) | simp_all
   subst e3
   exact hk4 k _ m1 hc
  ·have k2:=hk4 b2 _ n1 k2'
   simp -implicitDefEqProofs -proj only [go_sem,seval,k2,AK]
   first | done | exact ⟨by trivial,by rw [EN n1]; exact k1⟩ | (rw [EN n1]; exact k1) | (simp [n1,n2]; exact k1)
def HK (T:List Tier) (i:Nat):Int:=if i+1=T.length then 0 else match T[i-1]? with
 | some p=>if 0<i∧1≤p.u then min p.u 1000000+1 else 1
 | none=>1
def Iu (T:List Tier) (i:Nat):Int:=if i+1=T.length then 0 else 1000000
def HX (T:List Tier) (i:Nat) (t:Tier):Prop:=(0≤t.r∧t.r≤1000000000000)∧(HK T i≤t.u∧t.u≤Iu T i)
instance (T:List Tier) (i:Nat) (t:Tier):Decidable (HX T i t):=by unfold HX; exact inferInstance
def FY (a:Adj):Prop:=a.k=1∧(0≤a.n∧a.n≤100000000)∧(0≤a.m∧a.m≤3)∨(a.k=2∨a.k=3∨a.k=4)∧(0≤a.n∧a.n≤1000000000000)∧a.m=0
instance (a:Adj):Decidable (FY a):=by unfold FY; exact inferInstance
def Jt (f t:Int) (nm:Nat) (x:PartX):Prop:=0≤x.me∧x.me<nm∧(f≤x.f∧x.f≤x.t∧x.t≤t)∧(0≤x.al∧x.al≤1000000)∧(1≤x.bl∧x.bl≤1000000)∧(x.ki=1∨x.ki=2)∧(0≤x.mo∧x.mo≤3)∧1≤x.ts.length∧x.ts.length≤8∧x.ad.length≤6
instance (f t:Int) (nm:Nat) (x:PartX):Decidable (Jt f t nm x):=by unfold Jt; exact inferInstance
def JG (T:List Tier):Prop:=∀(i:Nat) (h:i<T.length),HX T i T[i]
def LU (l:List Adj):Prop:=∀a∈l,FY a
noncomputable instance (T:List Tier):Decidable (JG T):=Classical.propDecidable _
noncomputable instance (l:List Adj):Decidable (LU l):=Classical.propDecidable _
def IU (f t:Int) (nm:Nat) (x:PartX):Prop:=Jt f t nm x∧JG x.ts∧LU x.ad
noncomputable instance (f t:Int) (nm:Nat) (x:PartX):Decidable (IU f t nm x):=by unfold IU; exact inferInstance
theorem S5 {T:List Tier} {i:Nat} (h:i+1=T.length):HK T i=0∧Iu T i=0:=⟨if_pos h,if_pos h⟩
theorem PO {T:List Tier} (h:¬0+1=T.length):HK T 0=1∧Iu T 0=1000000:=by
 refine ⟨?_,if_neg h⟩
 unfold HK
 rw [if_neg h]
 split
 ·rw [if_neg (by omega)]
 ·rfl
theorem NO {T:List Tier} {i:Nat} (h0:0<i) (hi:i-1<T.length) (h:¬i+1=T.length) (hu:1≤T[i-1].u):HK T i=min T[i-1].u 1000000+1∧Iu T i=1000000:=by
 refine ⟨?_,if_neg h⟩
 unfold HK
 rw [if_neg h,List.getElem?_eq_getElem hi]
 exact if_pos ⟨h0,hu⟩
theorem Vz {T:List Tier} {i:Nat} (h0:0<i) (hi:i-1<T.length) (h:¬i+1=T.length) (hu:¬1≤T[i-1].u):HK T i=1∧Iu T i=1000000:=by
 refine ⟨?_,if_neg h⟩
 unfold HK
 rw [if_neg h,List.getElem?_eq_getElem hi]
 exact if_neg (fun h=>hu h.2)
def FU:ByteArray:=⟨⟨[123]⟩⟩
def Id:ByteArray:=⟨⟨[125]⟩⟩
def En:ByteArray:=⟨⟨[59]⟩⟩
def Km:ByteArray:=⟨⟨[97,108,108,111,119,97,110,99,101]⟩⟩
def Jq:ByteArray:=⟨⟨[98,108,111,99,107]⟩⟩
def Lg:ByteArray:=⟨⟨[117,112,116,111]⟩⟩
def Jy:ByteArray:=⟨⟨[114,97,116,101]⟩⟩
def Lm:ByteArray:=⟨⟨[114,101,115,116]⟩⟩
def OE:ByteArray:=⟨⟨[114,111,117,110,100]⟩⟩
def kindsL:List ByteArray:=[⟨⟨[103,114,97,100,117,97,116,101,100]⟩⟩,⟨⟨[118,111,108,117,109,101]⟩⟩]
def adjsL:List ByteArray:=[⟨⟨[112,101,114,99,101,110,116]⟩⟩,⟨⟨[99,97,112]⟩⟩,⟨⟨[109,105,110,105,109,117,109]⟩⟩,⟨⟨[97,100,100]⟩⟩]
def HG (s:ByteArray) (d:Int) (p:PS):Int×PS:=if Fu s p then ((E7 0 1000000 p.next).1,EP En (E7 0 1000000 p.next).2) else (d,p)
theorem Nn {s:ByteArray} {d:Int} {p:PS} (hd:0≤d∧d≤1000000):Ext p (HG s d p).2∧(0≤(HG s d p).1∧(HG s d p).1≤1000000):=by
 unfold HG
 split
 ·next h=>exact ⟨(IL h).trans (number_ext.trans want_ext),Jb (by decide)⟩
 ·exact ⟨.rfl',hd⟩
def Pb (p:PS):PS:=EP Jy (E7 0 1000000 p.next).2
def Kk (p:PS):PS:=EP En (E7 6 1000000000000 (Pb p)).2
def N3 (p:PS):Tier:=⟨(E7 0 1000000 p.next).1,(E7 6 1000000000000 (Pb p)).1⟩
def HW:Nat→List Tier→PS→List Tier×PS
 | 0,ts,p=>(ts,p)
 | f+1,ts,p=>if Fu Lg p then HW f (ts++[N3 p]) (Kk p) else (ts,p)
def K7 (t:Tier):Prop:=(0≤t.u∧t.u≤1000000)∧0≤t.r∧t.r≤1000000000000
theorem Oz {p:PS} (h:Fu Lg p=true):Ext p (Kk p)∧p.ix+1≤(Kk p).ix:=by
 have h2:Ext p.next (Kk p):=number_ext.trans (want_ext.trans (number_ext.trans want_ext))
 exact ⟨(IL h).trans h2,h2.ix⟩
theorem ABg {p:PS}:K7 (N3 p):=⟨Jb (by decide),Jb (by decide)⟩
theorem OM:∀(f:Nat) {ts:List Tier} {p:PS},(∀t∈ts,K7 t)→Ext p (HW f ts p).2∧∀t∈(HW f ts p).1,K7 t
 | 0,ts,p,h=>⟨.rfl',h⟩
 | f+1,ts,p,h=>by
  rw [HW]
  split
  ·next g =>
   obtain ⟨h1,h2⟩:=OM f (ts:=ts++[N3 p]) (p:=Kk p) (fun t ht=>by
    rcases List.mem_append.1 ht with ht | ht
    ·exact h t ht
    ·rw [List.mem_singleton.1 ht]; exact ABg)
   exact ⟨(Oz g).1.trans h1,h2⟩
  ·exact ⟨.rfl',h⟩
def Jv (k:Int) (q:PS):Adj×PS:=if k=1 then (⟨k,(E7 3 100000000 q).1,(IG (E7 3 100000000 q).2).1⟩,EP En (IG (E7 3 100000000 q).2).2) else (⟨k,(E7 0 1000000000000 q).1,0⟩,EP En (E7 0 1000000000000 q).2)
def G4:Nat→List Adj→PS→List Adj×PS
 | 0,l,p=>(l,p)
 | f+1,l,p=>if (EO p 0 adjsL).1<0 then (l,p) else G4 f (l++[(Jv (1+(EO p 0 adjsL).1) (EO p 0 adjsL).2).1]) (Jv (1+(EO p 0 adjsL).1) (EO p 0 adjsL).2).2
theorem Ph {k:Int} {q:PS} (hk:1≤k∧k≤4):Ext q (Jv k q).2∧FY (Jv k q).1:=by
 unfold Jv
 split
 ·next e=>exact ⟨number_ext.trans (LT.1.trans want_ext),.inl ⟨e,Jb (by decide),LT.2⟩⟩
 ·next e=>exact ⟨number_ext.trans want_ext,.inr ⟨by show k=2∨k=3∨k=4; omega,Jb (by decide),rfl⟩⟩
theorem OT {p:PS} (h:¬(EO p 0 adjsL).1<0):Ext p (EO p 0 adjsL).2∧(1≤1+(EO p 0 adjsL).1∧1+(EO p 0 adjsL).1≤4)∧(EO p 0 adjsL).2=p.next:=by
 obtain ⟨h1,h2,h3,h4⟩:=HP (p:=p) adjsL 0
 have hl:adjsL.length=4:=rfl
 rw [hl] at h2
 exact ⟨h1,by omega,(h4 (by omega)).1⟩
theorem ND:∀(f:Nat) {l:List Adj} {p:PS},(∀t∈l,FY t)→Ext p (G4 f l p).2∧∀t∈(G4 f l p).1,FY t
 | 0,l,p,h=>⟨.rfl',h⟩
 | f+1,l,p,h=>by
  rw [G4]
  split
  ·exact ⟨.rfl',h⟩
  ·next g =>
   obtain ⟨g1,g2,g3⟩:=OT g
   obtain ⟨a1,a2⟩:=Ph (q:=(EO p 0 adjsL).2) g2
   obtain ⟨h1,h2⟩:=ND f (l:=l++[(Jv (1+(EO p 0 adjsL).1) (EO p 0 adjsL).2).1]) (p:=(Jv (1+(EO p 0 adjsL).1) (EO p 0 adjsL).2).2) (fun t ht=>by
    rcases List.mem_append.1 ht with ht | ht
    ·exact h t ht
    ·rw [List.mem_singleton.1 ht]; exact a2)
   exact ⟨g1.trans (a1.trans h1),h2⟩
def Q7 (p:PS):PS:=EP Jy (EP Lm p)
def Mj (p:PS):Int×PS:=E7 6 1000000000000 (Q7 p)
def Tn (p:PS):PS:=EP OE (EP Id (EP En (Mj p).2))
def Pd (p:PS):Int×PS:=IG (Tn p)
def GG (p:PS):PS:=EP En (Pd p).2
theorem restE_ext {p:PS}:Ext p (GG p):=want_ext.trans (want_ext.trans (number_ext.trans (want_ext.trans (want_ext.trans (want_ext.trans (LT.1.trans want_ext))))))
def PG (x:ChX) (r:List Adj×PS):ChX×PS:=({ x with ad:=r.1 },EP Id r.2)
def PU (x:ChX) (t:List Tier×PS):ChX×PS:=PG { x with ts:=t.1++[⟨0,(Mj t.2).1⟩],mo:=(Pd t.2).1 } (G4 ((GG t.2).l.length-(GG t.2).ix) [] (GG t.2))
def Oo (me:ByteArray) (w:WinX) (al bl ki ln co:Int):ChX:=⟨me,w,al,bl,ki,[],0,[],ln,co⟩
def JS (p:PS):PS:=EP FU (if (EO p 0 kindsL).1<0 then Fp 4 (EO p 0 kindsL).2 else (EO p 0 kindsL).2)
def Lk (p:PS):PS:=EP FU (HJ (Fm 1 p).2).2
def MI (p:PS):PS:=(HG Km 0 (Lk p)).2
def Lf (p:PS):PS:=(HG Jq 1 (MI p)).2
def Gm (p:PS):PS:=JS (Lf p)
def GD (ln co:Int) (p:PS):ChX×PS:=PU (Oo (Fm 1 p).1 (HJ (Fm 1 p).2).1 (HG Km 0 (Lk p)).1 (HG Jq 1 (MI p)).1 (1+(EO (Lf p) 0 kindsL).1) ln co) (HW ((Gm p).l.length-(Gm p).ix) [] (Gm p))
structure GoodCh (x:ChX):Prop where
 w:KZ x.w
 al:0≤x.al∧x.al≤1000000
 bl:0≤x.bl∧x.bl≤1000000
 ki:x.ki=1∨x.ki=2
 mo:0≤x.mo∧x.mo≤3
 ts:∃m r,x.ts=m++[⟨0,r⟩]∧(0≤r∧r≤1000000000000)∧∀t∈m,K7 t
 ad:∀a∈x.ad,FY a
theorem QF {p:PS}:Ext p (JS p)∧((JS p).er=0→1+(EO p 0 kindsL).1=1∨1+(EO p 0 kindsL).1=2):=by
 obtain ⟨h1,h2,h3,h4⟩:=HP (p:=p) kindsL 0
 have hl:kindsL.length=2:=rfl
 rw [hl] at h2
 unfold JS
 split
 ·next g=>exact ⟨h1.trans ((GW (by decide)).1.trans want_ext),fun e=>absurd (want_ext.er e) (GW (by decide)).2⟩
 ·next g=>exact ⟨h1.trans want_ext,fun _=>by omega⟩
theorem charge_ext {ln co:Int} {p:PS}:Ext p (GD ln co p).2:=by
 have e1:Ext p (Fm 1 p).2:=HI (by decide)
 have e4:=(Nn (s:=Km) (d:=0) (p:=Lk p) (by decide)).1
 have e5:=(Nn (s:=Jq) (d:=1) (p:=MI p) (by decide)).1
 have e8:=(QF (p:=Lf p)).1
 have e9:=(OM ((Gm p).l.length-(Gm p).ix) (ts:=[]) (p:=Gm p) (fun t h=>by cases h)).1
 refine e1.trans (window_ext.trans (want_ext.trans (e4.trans (e5.trans (e8.trans (e9.trans (restE_ext.trans ?_)))))))
 exact (ND _ (fun t h=>by cases h)).1.trans want_ext
theorem AGl {ln co:Int} {p:PS} (ho:p.ok) (h:(GD ln co p).2.er=0):GoodCh (GD ln co p).1:=by
 have e1:Ext p (Fm 1 p).2:=HI (by decide)
 have e4:=Nn (s:=Km) (d:=0) (p:=Lk p) (by decide)
 have e5:=Nn (s:=Jq) (d:=1) (p:=MI p) (by decide)
 have e8:=QF (p:=Lf p)
 have e9:=OM ((Gm p).l.length-(Gm p).ix) (ts:=[]) (p:=Gm p) (fun t h=>by cases h)
 have ea:=fun (q:PS) f=>ND f (l:=[]) (p:=q) (fun t h=>by cases h)
 have h18:=(want_ext (s:=Id)).er h
 have h17:=(ea _ _).1.er h18
 have h9:=restE_ext.er h17
 have h8:=e9.1.er h9
 have h5:=e8.1.er h8
 have h2:=want_ext.er (e4.1.er (e5.1.er h5))
 exact ⟨So (e1.ok ho) h2,e4.2,e5.2,e8.2 h8,LT.2,⟨_,_,rfl,Jb (by decide),e9.2⟩,(ea _ _).2⟩
theorem EQ {f:FuncId} {b:Nat} {p p':PS} {args:List AV} {v:AV} (hm:Hu f b p args v p') {H:Heap} {A:List (Nat×Blk)} (ha:Al H ((b,ER p)::A)) (hn:(b::EJ A).Nodup) :
  CallW Try.prog f (.ptr b 0::args) H fun r H'=>r=v∧Al H' ((b,ER p')::A):=by
 refine CallW.mono (hm H ha.1) ?_
 rintro r H' ⟨e,h1,h2⟩
 refine ⟨e,h1,Gw.2 fun q hq=>h2 _ _ (fun e=>?_) (Gw.1 ha.2 q hq)⟩
 exact (List.nodup_cons.1 hn).1 (e▸List.mem_map_of_mem hq)
theorem Kt {b c:Nat} {p:PS} {l:List ByteArray} (h:p.ok) (hl:l.length≤1000) {H:Heap} {A:List (Nat×Blk)} (ha:Al H ((b,ER p)::A)) (hc:H c=some (IK l)) (hcb:¬c=b) (hn:(b::EJ A).Nodup) :
  CallW Try.prog PJ [.ptr b 0,.own c 1 0 l.length l.length] H fun r H'=>r=i64 (EO p 0 l).1∧Al H' ((b,ER (EO p 0 l).2)::A):=by
 refine CallW.mono (TG h hl ha.1 hc hcb) ?_
 rintro r H' ⟨e,h1,h2⟩
 refine ⟨e,h1,Gw.2 fun q hq=>h2 _ _ (fun e=>?_) (Gw.1 ha.2 q hq)⟩
 exact (List.nodup_cons.1 hn).1 (e▸List.mem_map_of_mem hq)
theorem FI {H:Heap} {b c:Nat} {y x x':Blk} {l:List (Nat×Blk)} (h:Al H ((b,y)::(c,x)::l)) (hn:(b::c::EJ l).Nodup):Al (AI H c (some x')) ((b,y)::(c,x')::l):=by
 have h1:=List.nodup_cons.1 hn
 have hbc:¬c=b:=fun e=>h1.1 (by rw [e]; exact List.mem_cons_self ..)
 exact ⟨by rw [EN hbc]; exact h.1,T6 (x:=x) h.2 h1.2⟩
theorem Jd {H:Heap} {A B:List (Nat×Blk)} (h:Al H (A++B)):Al H (B++A):=Ec.2 ⟨(Ec.1 h).2,(Ec.1 h).1⟩
theorem Jh {A B:List (Nat×Blk)} (h:(EJ (A++B)).Nodup):(EJ (B++A)).Nodup:=by
 unfold EJ at *
 rw [List.map_append] at *
 exact (List.perm_append_comm).nodup_iff.1 h
theorem Kb {b c:Nat} {y:Blk} {l:List (Nat×Blk)} (h:(b::EJ l).Nodup) (hc:c∉EJ ((b,y)::l)):(b::c::EJ l).Nodup:=by
 have h1:=List.nodup_cons.1 h
 have hcb:¬c=b:=fun e=>hc (by rw [e]; exact List.mem_cons_self ..)
 have hcl:c∉EJ l:=fun m=>hc (List.mem_cons_of_mem _ m)
 refine List.nodup_cons.2 ⟨fun m=>?_,List.nodup_cons.2 ⟨hcl,h1.2⟩⟩
 rcases List.mem_cons.1 m with e | m
 ·exact hcb e.symm
 ·exact h1.1 m
theorem JP {H:Heap} {b c:Nat} {x y:Blk} {l:List (Nat×Blk)} (h:Al H ((c,x)::(b,y)::l)):Al H ((b,y)::(c,x)::l):=⟨h.2.1,h.1,h.2.2⟩
theorem NL {t:TM} {H H':Heap} {d k:Nat} {x:Blk} (h1:H k=some x) (h2:H' k=some x) (e:t d = .ptr k 0):Hy t H H' [d]:=by
 intro d' hd j off hj e' cells hc
 rw [List.mem_singleton.1 hd,e] at hj
 cases hj
 rw [h2,←h1]; exact hc
theorem RJ {t:TM} {H H':Heap} {d k:Nat} {x:Blk} (h1:H k=some x) (h2:H' k=some x) (e:t d = .ptr k 0):Hy t H H' [d,d]:=by
 intro d' hd
 refine NL h1 h2 e d' ?_
 simpa using hd
theorem ABH {l:List (Nat×Blk)} {k:Nat} (h:k∉EJ l):EH l k = .none:=by
 induction l with
 | nil=>rfl
 | cons q l ih =>
  obtain ⟨c,x⟩:=q
  rw [Am,if_neg (fun e=>h (by rw [e]; exact List.mem_cons_self ..))]
  exact ih (fun m=>h (List.mem_cons_of_mem _ m))
theorem Su {H:Heap} {k:Nat} {x:Blk} {l:List (Nat×Blk)} (h:Al H l) (hn:k∉EJ l):Al (AI H k (some x)) l:=LW h hn
def NS (H:Heap) (xs ys:List AV):Prop:=xs.length=ys.length∧∀(j:Nat) x y,xs[j]? = some x→ys[j]? = some y→NewV H x y
theorem ALC {H:Heap}:NS H [] []:=⟨rfl,fun j x y h _=>by simp at h⟩
theorem Gr {H:Heap} {x y:AV} {xs ys:List AV} (h:NewV H x y) (t:NS H xs ys):NS H (x::xs) (y::ys):=by
 refine ⟨by simp [t.1],fun j a b h1 h2=>?_⟩
 cases j with
 | zero=>simp at h1 h2; subst h1; subst h2; exact h
 | succ j=>exact t.2 j a b (by simpa using h1) (by simpa using h2)
theorem AJb {H:Heap} {xs ys:List AV} (h:NS H xs ys):NewV H (.agg xs) (.agg ys):=.agg xs ys h.1 h.2
structure CX where
 al:Int
 bl:Int
 ki:Int
 ts:List Tier
 p:PS
 c:Nat
 cap:Nat
structure AX where
 ad:List Adj
 p:PS
 c:Nat
 cap:Nat
abbrev Fw (me:ByteArray) (w:WinX) (al bl ki:Int) (tv:AV) (mo:Int) (av:AV) (ln co:Int):Blk:=.box 96 [Ey me,bv w.has,i64 w.f.y,i64 w.f.m,i64 w.f.d,i64 w.t.y,i64 w.t.m,i64 w.t.d,i64 al,i64 bl,i64 ki,tv,i64 mo,av,i64 ln,i64 co]
abbrev Ge:Blk:=.box 96 [Ey ⟨⟨[]⟩⟩,bv false,i64 0,i64 0,i64 0,i64 0,i64 0,i64 0,i64 0,i64 0,i64 0,.nilsl 2,i64 0,.nilsl 3,i64 0,i64 0]
def L1 (b b6 b7:Nat) (me:ByteArray) (w:WinX) (ln co:Int) (y:CX):List (Nat×Blk):=(b,ER y.p)::(b7,Fw me w y.al y.bl y.ki (EM 2 2 y.c y.cap (Ee y.ts)) 0 (.nilsl 3) ln co)::(b6,Ge)::E2 62 2 y.c y.cap (Ee y.ts)
theorem Pz {b b6 b7:Nat} {me:ByteArray} {w:WinX} {ln co al bl ki:Int} {ts:List Tier} {p:PS} {c cap:Nat}:L1 b b6 b7 me w ln co ⟨al,bl,ki,ts,p,c,cap⟩=(b,ER p)::(b7,Fw me w al bl ki (EM 2 2 c cap (Ee ts)) 0 (.nilsl 3) ln co)::(b6,Ge)::E2 62 2 c cap (Ee ts):=rfl
def I1 (b b6 b7:Nat) (me:ByteArray) (w:WinX) (ln co:Int) (R:ChX×PS) (y:CX):Prop:=y.p.ok∧(EJ (L1 b b6 b7 me w ln co y)).Nodup∧y.ts.length≤y.p.ix∧∃f,y.p.l.length-y.p.ix≤f∧PU (Oo me w y.al y.bl y.ki ln co) (HW f y.ts y.p)=R
def L2 (b b6 b7:Nat) (me:ByteArray) (w:WinX) (al bl ki:Int) (tv:AV) (mo ln co:Int) (rows:List (Nat×Blk)) (y:AX):List (Nat×Blk):=(b,ER y.p)::(b7,Fw me w al bl ki tv mo (EM 3 3 y.c y.cap (Ex y.ad)) ln co)::(b6,Ge)::(rows++E2 70 3 y.c y.cap (Ex y.ad))
theorem Mn {b b6 b7:Nat} {me:ByteArray} {w:WinX} {al bl ki:Int} {tv:AV} {mo ln co:Int} {rows:List (Nat×Blk)} {ad:List Adj} {p:PS} {c cap:Nat}:L2 b b6 b7 me w al bl ki tv mo ln co rows ⟨ad,p,c,cap⟩=(b,ER p)::(b7,Fw me w al bl ki tv mo (EM 3 3 c cap (Ex ad)) ln co)::(b6,Ge)::(rows++E2 70 3 c cap (Ex ad)):=rfl
def I2 (b b6 b7:Nat) (me:ByteArray) (w:WinX) (al bl ki:Int) (tv:AV) (mo ln co:Int) (rows:List (Nat×Blk)) (x:ChX) (R:ChX×PS) (y:AX):Prop:=y.p.ok∧(EJ (L2 b b6 b7 me w al bl ki tv mo ln co rows y)).Nodup∧y.ad.length≤y.p.ix∧∃f,y.p.l.length-y.p.ix≤f∧PG x (G4 f y.ad y.p)=R
def K6 (x:ChX):AV:=.agg [Ey x.me,bv x.w.has,i64 x.w.f.y,i64 x.w.f.m,i64 x.w.f.d,i64 x.w.t.y,i64 x.w.t.m,i64 x.w.t.d,i64 x.al,i64 x.bl,i64 x.ki,Fb x.ts,i64 x.mo,GB x.ad,i64 x.ln,i64 x.co]
theorem ARP {f:Nat} {ts:List Tier} {p:PS} (h:Fu Lg p=false):HW f ts p=(ts,p):=by
 cases f with
 | zero=>rfl
 | succ f=>rw [HW,if_neg (by rw [h]; decide)]
theorem ADf {f:Nat} {l:List Adj} {p:PS} (h:(EO p 0 adjsL).1<0):G4 f l p=(l,p):=by
 cases f with
 | zero=>rfl
 | succ f=>rw [G4,if_pos h]
theorem QZ {l:List Tier} {u r:Int}:Ee l++[[.int .i64 u,.int .i64 r]]=Ee (l++[⟨u,r⟩]):=by simp [Ee,Tier.el]
theorem Qj {l:List Adj} {k n m:Int}:Ex l++[[.int .i64 k,.int .i64 n,.int .i64 m]]=Ex (l++[⟨k,n,m⟩]):=by simp [Ex,Adj.el]
theorem ADZ {l:List Tier}:∀el∈Ee l,∀d∈el,Iv d=true:=by
 intro el h d hd
 obtain ⟨t,_,rfl⟩:=List.mem_map.1 h
 simp -implicitDefEqProofs only [Tier.el,List.mem_cons,List.not_mem_nil,or_false] at hd
 rcases hd with rfl | rfl <;> rfl
theorem ARB {l:List Adj}:∀el∈Ex l,∀d∈el,Iv d=true:=by
 intro el h d hd
 obtain ⟨t,_,rfl⟩:=List.mem_map.1 h
 simp -implicitDefEqProofs only [Adj.el,List.mem_cons,List.not_mem_nil,or_false] at hd
 rcases hd with rfl | rfl | rfl <;> rfl
theorem AEq {T G:Prop} (w:T→G) (h:T):G:=w h
set_option maxHeartbeats 4000000 in
theorem AMJ {b:Nat} {p:PS} {ln co:Int} (h:p.ok):Hu AJx b p [i64 ln,i64 co] (K6 (GD ln co p).1) (GD ln co p).2:=by
 refine Ij (CallW.froze (K:=fun H'=>H' b=some (ER (GD ln co p).2)) ?_)
 generalize hR:GD ln co p=R
 simp -implicitDefEqProofs only [GD,Gm,Lf,MI,Lk] at hR
 have o1:=(HI (k:=1) (p:=p) (by decide)).ok h
 have c1:=Ks (b:=b) (k:=1) h
 generalize Fm 1 p=t1 at o1 c1 hR
 obtain ⟨me,p1⟩:=t1
 simp -implicitDefEqProofs only [] at o1 c1 hR
 have o2:=(window_ext (p:=p1)).ok o1
 have c2:=Q6 (b:=b) o1
 generalize HJ p1=t2 at o2 c2 hR
 obtain ⟨w,p2⟩:=t2
 simp -implicitDefEqProofs only [] at o2 c2 hR
 have o3:=(want_ext (s:=FU)).ok o2
 have c3:=FC (b:=b) (s:=FU) o2
 generalize EP FU p2=p3 at o3 c3 hR
 have c4:=KH (b:=b) (s:=Km) o3
 refine A3 Wd (by simp) ?_
 simp -implicitDefEqProofs -proj only [go_sem,seval]
 refine Aa (fun b6 hb6=>?_)
 replace hb6:EH [(b,ER p)] b6=none:=hb6
 obtain ⟨n6,n6'⟩:=EG hb6 El
 simp -implicitDefEqProofs -proj only [go_sem,seval]
 refine Aa (fun b7 hb7=>?_)
 replace hb7:AI (EH [(b,ER p)]) b6 (some Ge) b7=none:=hb7
 obtain ⟨n76,n67⟩:=EG hb7 AK
 have hb7':EH [(b,ER p)] b7=none:=by rw [EN n67] at hb7; exact hb7
 obtain ⟨n7,n7'⟩:=EG hb7' El
 have hn:(b::b7::b6::[]).Nodup:=by simp [n6',n7',n76]
 have ha:Al (AI (AI (EH [(b,ER p)]) b6 (some Ge)) b7 (some (Fw ⟨⟨[]⟩⟩ Jx 0 1 0 (.nilsl 2) 0 (.nilsl 3) ln co))) [(b,ER p),(b7,Fw ⟨⟨[]⟩⟩ Jx 0 1 0 (.nilsl 2) 0 (.nilsl 3) ln co),(b6,Ge)] :=
  ⟨by rw [EN n7,EN n6]; exact El,AK,by rw [EN n76]; exact AK,trivial⟩
 simp -implicitDefEqProofs -proj only [go_sem,seval,AK,AT]
 refine C8 (EQ c1 ha hn) ?_
 rintro r H ⟨rfl,ha⟩
 have k7:=ha.2.1
 simp -implicitDefEqProofs -proj only [go_sem,seval,k7]
 refine C8 (EQ c2 (FI ha hn) hn) ?_
 rintro r H ⟨rfl,ha⟩
 have k7:=ha.2.1
 simp -implicitDefEqProofs -proj only [go_sem,seval,k7]
 refine C8 (EQ c3 (FI ha hn) hn) ?_
 rintro r H ⟨rfl,ha⟩
 have k7:=ha.2.1
 simp -implicitDefEqProofs -proj only [go_sem,seval,k7]
 refine AEq (T:=∀x:CX,I1 b b6 b7 me w ln co R x→FX Try.prog (It (I1 b b6 b7 me w ln co R) (fun x=>⟨118,FM [(0,.ptr b 0),(6,.ptr b6 0),(7,.ptr b7 0)],EH (L1 b b6 b7 me w ln co x)⟩) (fun y=>y.p.l.length-y.p.ix) x (E5 Try.prog (A8 [.cell 6 (some 16)] fun r H'=>∃Hr Hk:Heap,(∀k:Nat,Hr k=none∨Hr k=H' k)∧(∀k:Nat,Hk k=none∨Hk k=H' k∧Hr k=none)∧NewV Hr r (K6 R.1)∧Hk b=some (ER R.2)) [.blk 0,.code (.seq (.ops Qt) (.seq (.ops Tq) (.seq (.dops RK) (.seq (.ops Qf) (.seq (.ops Sw) (.seq (.ops QI) (.seq (.ops TK) (.seq (.ops QG) (.seq (.block 2 (.loop SN)) (.seq (.ops SF) (.seq (.ops TY) .ret)))))))))))])) Tx [] ⟨118,FM [(0,.ptr b 0),(6,.ptr b6 0),(7,.ptr b7 0)],EH (L1 b b6 b7 me w ln co x)⟩) (fun hb=>?walk) ?tail
 case walk =>
  have o_p3:=o3
  unfold JF at c4
  cases eallowS:Fu Km p3 with
  | true =>
   simp -implicitDefEqProofs only [HG,eallowS,if_true] at hR
   rw [eallowS,if_pos rfl] at c4
   have oa:=(IL eallowS).ok o_p3
   have ca:=Is (b:=b) (pl:=0) (mo:=1000000) oa (by decide)
   have ob:=(number_ext (pl:=0) (mo:=1000000)).ok oa
   generalize E7 0 1000000 p3.next=tn at ca ob hR
   obtain ⟨al,pn⟩:=tn
   simp -implicitDefEqProofs only [] at ca ob hR
   have cb:=FC (b:=b) (s:=En) ob
   have o_p4:=(want_ext (s:=En)).ok ob
   generalize EP En pn=p4 at cb o_p4 hR
   refine C8 (EQ c4 ha hn) ?_
   rintro r H ⟨rfl,ha⟩
   have k7:=ha.2.1
   simp -implicitDefEqProofs -proj only [go_sem,seval,k7]
   refine C8 (EQ ca ha hn) ?_
   rintro r H ⟨rfl,ha⟩
   have k7:=ha.2.1
   simp -implicitDefEqProofs -proj only [go_sem,seval,k7]
   refine C8 (EQ cb (FI ha hn) hn) ?_
   rintro r H ⟨rfl,ha⟩
   have k7:=ha.2.1
   simp -implicitDefEqProofs -proj only [go_sem,seval,k7]
   have c5:=KH (b:=b) (s:=Jq) o_p4
   unfold JF at c5
   cases eblockS:Fu Jq p4 with
   | true =>
    simp -implicitDefEqProofs only [HG,eblockS,if_true] at hR
    rw [eblockS,if_pos rfl] at c5
    have oa:=(IL eblockS).ok o_p4
    have ca:=Is (b:=b) (pl:=0) (mo:=1000000) oa (by decide)
    have ob:=(number_ext (pl:=0) (mo:=1000000)).ok oa
    generalize E7 0 1000000 p4.next=tn at ca ob hR
    obtain ⟨bl,pn⟩:=tn
    simp -implicitDefEqProofs only [] at ca ob hR
    have cb:=FC (b:=b) (s:=En) ob
    have o_p5:=(want_ext (s:=En)).ok ob
    generalize EP En pn=p5 at cb o_p5 hR
    refine C8 (EQ c5 ha hn) ?_
    rintro r H ⟨rfl,ha⟩
    have k7:=ha.2.1
    simp -implicitDefEqProofs -proj only [go_sem,seval,k7]
    refine C8 (EQ ca ha hn) ?_
    rintro r H ⟨rfl,ha⟩
    have k7:=ha.2.1
    simp -implicitDefEqProofs -proj only [go_sem,seval,k7]
    refine C8 (EQ cb (FI ha hn) hn) ?_
    rintro r H ⟨rfl,ha⟩
    have k7:=ha.2.1
    simp -implicitDefEqProofs -proj only [go_sem,seval,k7]
    have hp:=HP (p:=p5) kindsL 0
    obtain ⟨h1,h2,h3,h4⟩:=hp
    have hkl:kindsL.length=2:=rfl
    rw [hkl] at h2
    have o6:=h1.ok o_p5
    refine EL (fun cs hcs=>?_)
    replace hcs:H cs=none:=hcs
    obtain ⟨ncs,_⟩:=EG hcs ha.1
    have c6:=Kt (l:=kindsL) (c:=cs) o_p5 (by decide) (Eq hcs ha) AK ncs hn
    simp -implicitDefEqProofs only [JS] at hR
    generalize EO p5 0 kindsL=t6 at h1 h2 h3 h4 o6 c6 hR
    obtain ⟨k,p6⟩:=t6
    simp -implicitDefEqProofs only [] at h1 h2 h3 h4 o6 c6 hR
    simp -implicitDefEqProofs -proj only [go_sem,seval]
    refine C8 c6 ?_
    rintro r H ⟨rfl,ha⟩
    have k7:=ha.2.1
    have wk:IntKind.i64.wrap (1+k)=1+k:=FN (by unfold Fit; omega)
    by_cases gk:k<0
    ·rw [if_pos gk] at hR
     have c7:=Iq (b:=b) (e:=4) o6
     have o7:=(GW (e:=4) (p:=p6) (by decide)).1.ok o6
     generalize Fp 4 p6=p7 at c7 o7 hR
     have c8:=FC (b:=b) (s:=FU) o7
     have o8:=(want_ext (s:=FU)).ok o7
     generalize EP FU p7=p8 at c8 o8 hR
     simp -implicitDefEqProofs -proj only [go_sem,seval,k7,wk,AK,decide_eq_true (show 1+k=0 by omega)]
     refine C8 (EQ c7 (FI ha hn) hn) ?_
     rintro r H ⟨rfl,ha⟩
     simp -implicitDefEqProofs -proj only [go_sem,seval]
     refine C8 (EQ c8 ha hn) ?_
     rintro r H ⟨rfl,ha⟩
     simp -implicitDefEqProofs -proj only [go_sem,seval]
     refine EX (I1 b b6 b7 me w ln co R) 118 (fun _=>[(0,.ptr b 0),(6,.ptr b6 0),(7,.ptr b7 0)]) (L1 b b6 b7 me w ln co) (fun y=>y.p.l.length-y.p.ix) ⟨al,bl,1+k,[],p8,0,0⟩ ⟨o8,hn,Nat.zero_le _,_,Nat.le_refl _,hR⟩ rfl ?_ ha ?_
     ·simp -implicitDefEqProofs -proj only [go_sem,seval,AP]
     ·exact hb
    ·rw [if_neg gk] at hR
     have c8:=FC (b:=b) (s:=FU) o6
     have o8:=(want_ext (s:=FU)).ok o6
     generalize EP FU p6=p8 at c8 o8 hR
     simp -implicitDefEqProofs -proj only [go_sem,seval,k7,wk,AK,decide_eq_false (show ¬1+k=0 by omega)]
     refine C8 (EQ c8 (FI ha hn) hn) ?_
     rintro r H ⟨rfl,ha⟩
     simp -implicitDefEqProofs -proj only [go_sem,seval]
     refine EX (I1 b b6 b7 me w ln co R) 118 (fun _=>[(0,.ptr b 0),(6,.ptr b6 0),(7,.ptr b7 0)]) (L1 b b6 b7 me w ln co) (fun y=>y.p.l.length-y.p.ix) ⟨al,bl,1+k,[],p8,0,0⟩ ⟨o8,hn,Nat.zero_le _,_,Nat.le_refl _,hR⟩ rfl ?_ ha ?_
     ·simp -implicitDefEqProofs -proj only [go_sem,seval,AP]
     ·exact hb
   | false =>
    simp -implicitDefEqProofs only [HG,eblockS,Bool.false_eq_true,if_false] at hR
    rw [eblockS,if_neg (by decide)] at c5
    refine C8 (EQ c5 ha hn) ?_
    rintro r H ⟨rfl,ha⟩
    have k7:=ha.2.1
    have o_p5:=o_p4
    simp -implicitDefEqProofs -proj only [go_sem,seval,k7]
    have hp:=HP (p:=p4) kindsL 0
    obtain ⟨h1,h2,h3,h4⟩:=hp
    have hkl:kindsL.length=2:=rfl
    rw [hkl] at h2
    have o6:=h1.ok o_p5
    refine EL (fun cs hcs=>?_)
    replace hcs:H cs=none:=hcs
    obtain ⟨ncs,_⟩:=EG hcs ha.1
    have c6:=Kt (l:=kindsL) (c:=cs) o_p5 (by decide) (Eq hcs ha) AK ncs hn
    simp -implicitDefEqProofs only [JS] at hR
    generalize EO p4 0 kindsL=t6 at h1 h2 h3 h4 o6 c6 hR
    obtain ⟨k,p6⟩:=t6
    simp -implicitDefEqProofs only [] at h1 h2 h3 h4 o6 c6 hR
    simp -implicitDefEqProofs -proj only [go_sem,seval]
    refine C8 c6 ?_
    rintro r H ⟨rfl,ha⟩
    have k7:=ha.2.1
    have wk:IntKind.i64.wrap (1+k)=1+k:=FN (by unfold Fit; omega)
    by_cases gk:k<0
    ·rw [if_pos gk] at hR
     have c7:=Iq (b:=b) (e:=4) o6
     have o7:=(GW (e:=4) (p:=p6) (by decide)).1.ok o6
     generalize Fp 4 p6=p7 at c7 o7 hR
     have c8:=FC (b:=b) (s:=FU) o7
     have o8:=(want_ext (s:=FU)).ok o7
     generalize EP FU p7=p8 at c8 o8 hR
     simp -implicitDefEqProofs -proj only [go_sem,seval,k7,wk,AK,decide_eq_true (show 1+k=0 by omega)]
     refine C8 (EQ c7 (FI ha hn) hn) ?_
     rintro r H ⟨rfl,ha⟩
     simp -implicitDefEqProofs -proj only [go_sem,seval]
     refine C8 (EQ c8 ha hn) ?_
     rintro r H ⟨rfl,ha⟩
     simp -implicitDefEqProofs -proj only [go_sem,seval]
     refine EX (I1 b b6 b7 me w ln co R) 118 (fun _=>[(0,.ptr b 0),(6,.ptr b6 0),(7,.ptr b7 0)]) (L1 b b6 b7 me w ln co) (fun y=>y.p.l.length-y.p.ix) ⟨al,1,1+k,[],p8,0,0⟩ ⟨o8,hn,Nat.zero_le _,_,Nat.le_refl _,hR⟩ rfl ?_ ha ?_
     ·simp -implicitDefEqProofs -proj only [go_sem,seval,AP]
     ·exact hb
    ·rw [if_neg gk] at hR
     have c8:=FC (b:=b) (s:=FU) o6
     have o8:=(want_ext (s:=FU)).ok o6
     generalize EP FU p6=p8 at c8 o8 hR
     simp -implicitDefEqProofs -proj only [go_sem,seval,k7,wk,AK,decide_eq_false (show ¬1+k=0 by omega)]
     refine C8 (EQ c8 (FI ha hn) hn) ?_
     rintro r H ⟨rfl,ha⟩
     simp -implicitDefEqProofs -proj only [go_sem,seval]
     refine EX (I1 b b6 b7 me w ln co R) 118 (fun _=>[(0,.ptr b 0),(6,.ptr b6 0),(7,.ptr b7 0)]) (L1 b b6 b7 me w ln co) (fun y=>y.p.l.length-y.p.ix) ⟨al,1,1+k,[],p8,0,0⟩ ⟨o8,hn,Nat.zero_le _,_,Nat.le_refl _,hR⟩ rfl ?_ ha ?_
     ·simp -implicitDefEqProofs -proj only [go_sem,seval,AP]
     ·exact hb
  | false =>
   simp -implicitDefEqProofs only [HG,eallowS,Bool.false_eq_true,if_false] at hR
   rw [eallowS,if_neg (by decide)] at c4
   refine C8 (EQ c4 ha hn) ?_
   rintro r H ⟨rfl,ha⟩
   have k7:=ha.2.1
   have o_p4:=o_p3
   simp -implicitDefEqProofs -proj only [go_sem,seval,k7]
   have o_p3:=o_p4
   have c5:=KH (b:=b) (s:=Jq) o_p4
   unfold JF at c5
   cases eblockS:Fu Jq p3 with
   | true =>
    simp -implicitDefEqProofs only [HG,eblockS,if_true] at hR
    rw [eblockS,if_pos rfl] at c5
    have oa:=(IL eblockS).ok o_p3
    have ca:=Is (b:=b) (pl:=0) (mo:=1000000) oa (by decide)
    have ob:=(number_ext (pl:=0) (mo:=1000000)).ok oa
    generalize E7 0 1000000 p3.next=tn at ca ob hR
    obtain ⟨bl,pn⟩:=tn
    simp -implicitDefEqProofs only [] at ca ob hR
    have cb:=FC (b:=b) (s:=En) ob
    have o_p5:=(want_ext (s:=En)).ok ob
    generalize EP En pn=p5 at cb o_p5 hR
    refine C8 (EQ c5 ha hn) ?_
    rintro r H ⟨rfl,ha⟩
    have k7:=ha.2.1
    simp -implicitDefEqProofs -proj only [go_sem,seval,k7]
    refine C8 (EQ ca ha hn) ?_
    rintro r H ⟨rfl,ha⟩
    have k7:=ha.2.1
    simp -implicitDefEqProofs -proj only [go_sem,seval,k7]
    refine C8 (EQ cb (FI ha hn) hn) ?_
    rintro r H ⟨rfl,ha⟩
    have k7:=ha.2.1
    simp -implicitDefEqProofs -proj only [go_sem,seval,k7]
    have hp:=HP (p:=p5) kindsL 0
    obtain ⟨h1,h2,h3,h4⟩:=hp
    have hkl:kindsL.length=2:=rfl
    rw [hkl] at h2
    have o6:=h1.ok o_p5
    refine EL (fun cs hcs=>?_)
    replace hcs:H cs=none:=hcs
    obtain ⟨ncs,_⟩:=EG hcs ha.1
    have c6:=Kt (l:=kindsL) (c:=cs) o_p5 (by decide) (Eq hcs ha) AK ncs hn
    simp -implicitDefEqProofs only [JS] at hR
    generalize EO p5 0 kindsL=t6 at h1 h2 h3 h4 o6 c6 hR
    obtain ⟨k,p6⟩:=t6
    simp -implicitDefEqProofs only [] at h1 h2 h3 h4 o6 c6 hR
    simp -implicitDefEqProofs -proj only [go_sem,seval]
    refine C8 c6 ?_
    rintro r H ⟨rfl,ha⟩
    have k7:=ha.2.1
    have wk:IntKind.i64.wrap (1+k)=1+k:=FN (by unfold Fit; omega)
    by_cases gk:k<0
    ·rw [if_pos gk] at hR
     have c7:=Iq (b:=b) (e:=4) o6
     have o7:=(GW (e:=4) (p:=p6) (by decide)).1.ok o6
     generalize Fp 4 p6=p7 at c7 o7 hR
     have c8:=FC (b:=b) (s:=FU) o7
     have o8:=(want_ext (s:=FU)).ok o7
     generalize EP FU p7=p8 at c8 o8 hR
     simp -implicitDefEqProofs -proj only [go_sem,seval,k7,wk,AK,decide_eq_true (show 1+k=0 by omega)]
     refine C8 (EQ c7 (FI ha hn) hn) ?_
     rintro r H ⟨rfl,ha⟩
     simp -implicitDefEqProofs -proj only [go_sem,seval]
     refine C8 (EQ c8 ha hn) ?_
     rintro r H ⟨rfl,ha⟩
     simp -implicitDefEqProofs -proj only [go_sem,seval]
     refine EX (I1 b b6 b7 me w ln co R) 118 (fun _=>[(0,.ptr b 0),(6,.ptr b6 0),(7,.ptr b7 0)]) (L1 b b6 b7 me w ln co) (fun y=>y.p.l.length-y.p.ix) ⟨0,bl,1+k,[],p8,0,0⟩ ⟨o8,hn,Nat.zero_le _,_,Nat.le_refl _,hR⟩ rfl ?_ ha ?_
     ·simp -implicitDefEqProofs -proj only [go_sem,seval,AP]
     ·exact hb
    ·rw [if_neg gk] at hR
     have c8:=FC (b:=b) (s:=FU) o6
     have o8:=(want_ext (s:=FU)).ok o6
     generalize EP FU p6=p8 at c8 o8 hR
     simp -implicitDefEqProofs -proj only [go_sem,seval,k7,wk,AK,decide_eq_false (show ¬1+k=0 by omega)]
     refine C8 (EQ c8 (FI ha hn) hn) ?_
     rintro r H ⟨rfl,ha⟩
     simp -implicitDefEqProofs -proj only [go_sem,seval]
     refine EX (I1 b b6 b7 me w ln co R) 118 (fun _=>[(0,.ptr b 0),(6,.ptr b6 0),(7,.ptr b7 0)]) (L1 b b6 b7 me w ln co) (fun y=>y.p.l.length-y.p.ix) ⟨0,bl,1+k,[],p8,0,0⟩ ⟨o8,hn,Nat.zero_le _,_,Nat.le_refl _,hR⟩ rfl ?_ ha ?_
     ·simp -implicitDefEqProofs -proj only [go_sem,seval,AP]
     ·exact hb
   | false =>
    simp -implicitDefEqProofs only [HG,eblockS,Bool.false_eq_true,if_false] at hR
    rw [eblockS,if_neg (by decide)] at c5
    refine C8 (EQ c5 ha hn) ?_
    rintro r H ⟨rfl,ha⟩
    have k7:=ha.2.1
    have o_p5:=o_p3
    simp -implicitDefEqProofs -proj only [go_sem,seval,k7]
    have hp:=HP (p:=p3) kindsL 0
    obtain ⟨h1,h2,h3,h4⟩:=hp
    have hkl:kindsL.length=2:=rfl
    rw [hkl] at h2
    have o6:=h1.ok o_p5
    refine EL (fun cs hcs=>?_)
    replace hcs:H cs=none:=hcs
    obtain ⟨ncs,_⟩:=EG hcs ha.1
    have c6:=Kt (l:=kindsL) (c:=cs) o_p5 (by decide) (Eq hcs ha) AK ncs hn
    simp -implicitDefEqProofs only [JS] at hR
    generalize EO p3 0 kindsL=t6 at h1 h2 h3 h4 o6 c6 hR
    obtain ⟨k,p6⟩:=t6
    simp -implicitDefEqProofs only [] at h1 h2 h3 h4 o6 c6 hR
    simp -implicitDefEqProofs -proj only [go_sem,seval]
    refine C8 c6 ?_
    rintro r H ⟨rfl,ha⟩
    have k7:=ha.2.1
    have wk:IntKind.i64.wrap (1+k)=1+k:=FN (by unfold Fit; omega)
    by_cases gk:k<0
    ·rw [if_pos gk] at hR
     have c7:=Iq (b:=b) (e:=4) o6
     have o7:=(GW (e:=4) (p:=p6) (by decide)).1.ok o6
     generalize Fp 4 p6=p7 at c7 o7 hR
     have c8:=FC (b:=b) (s:=FU) o7
     have o8:=(want_ext (s:=FU)).ok o7
     generalize EP FU p7=p8 at c8 o8 hR
     simp -implicitDefEqProofs -proj only [go_sem,seval,k7,wk,AK,decide_eq_true (show 1+k=0 by omega)]
     refine C8 (EQ c7 (FI ha hn) hn) ?_
     rintro r H ⟨rfl,ha⟩
     simp -implicitDefEqProofs -proj only [go_sem,seval]
     refine C8 (EQ c8 ha hn) ?_
     rintro r H ⟨rfl,ha⟩
     simp -implicitDefEqProofs -proj only [go_sem,seval]
     refine EX (I1 b b6 b7 me w ln co R) 118 (fun _=>[(0,.ptr b 0),(6,.ptr b6 0),(7,.ptr b7 0)]) (L1 b b6 b7 me w ln co) (fun y=>y.p.l.length-y.p.ix) ⟨0,1,1+k,[],p8,0,0⟩ ⟨o8,hn,Nat.zero_le _,_,Nat.le_refl _,hR⟩ rfl ?_ ha ?_
     ·simp -implicitDefEqProofs -proj only [go_sem,seval,AP]
     ·exact hb
    ·rw [if_neg gk] at hR
     have c8:=FC (b:=b) (s:=FU) o6
     have o8:=(want_ext (s:=FU)).ok o6
     generalize EP FU p6=p8 at c8 o8 hR
     simp -implicitDefEqProofs -proj only [go_sem,seval,k7,wk,AK,decide_eq_false (show ¬1+k=0 by omega)]
     refine C8 (EQ c8 (FI ha hn) hn) ?_
     rintro r H ⟨rfl,ha⟩
     simp -implicitDefEqProofs -proj only [go_sem,seval]
     refine EX (I1 b b6 b7 me w ln co R) 118 (fun _=>[(0,.ptr b 0),(6,.ptr b6 0),(7,.ptr b7 0)]) (L1 b b6 b7 me w ln co) (fun y=>y.p.l.length-y.p.ix) ⟨0,1,1+k,[],p8,0,0⟩ ⟨o8,hn,Nat.zero_le _,_,Nat.le_refl _,hR⟩ rfl ?_ ha ?_
     ·simp -implicitDefEqProofs -proj only [go_sem,seval,AP]
     ·exact hb
 case tail =>
  rintro ⟨al,bl,ki,ts,q,c,cap⟩ ⟨ho,hn,hts,f,hf,hr⟩
  simp -implicitDefEqProofs only [Pz] at hn
  simp -implicitDefEqProofs only [] at ho hts hf hr
  have hall:=FV (l:=L1 b b6 b7 me w ln co ⟨al,bl,ki,ts,q,c,cap⟩) hn
  obtain ⟨H,hH⟩:∃H,EH (L1 b b6 b7 me w ln co ⟨al,bl,ki,ts,q,c,cap⟩)=H:=⟨_,rfl⟩
  rw [hH,Pz] at hall
  have hlt:=ho.lt
  have hlen:=ho.tk.ln
  have cu:=KH (b:=b) (s:=Lg) ho
  unfold JF at cu
  clear hR
  simp -implicitDefEqProofs -proj only [go_sem,seval,hH]
  cases e:Fu Lg q with
  | true =>
   obtain ⟨f,rfl⟩:∃g,f=g+1:=⟨f-1,by omega⟩
   rw [HW,if_pos e] at hr
   rw [e,if_pos rfl] at cu
   have hx:=Oz e
   have hxl:=hx.1.l
   have oa:=(IL e).ok ho
   have ca:=Is (b:=b) (pl:=0) (mo:=1000000) oa (by decide)
   have ob:=(number_ext (pl:=0) (mo:=1000000)).ok oa
   simp -implicitDefEqProofs only [N3,Kk,Pb] at hr hx hxl
   generalize E7 0 1000000 q.next=t1 at ca ob hr hx hxl
   obtain ⟨u,q1⟩:=t1
   simp -implicitDefEqProofs only [] at ca ob hr hx hxl
   have cb:=FC (b:=b) (s:=Jy) ob
   have oc:=(want_ext (s:=Jy)).ok ob
   generalize EP Jy q1=q2 at cb oc hr hx hxl
   have cc:=Is (b:=b) (pl:=6) (mo:=1000000000000) oc (by decide)
   have od:=(number_ext (pl:=6) (mo:=1000000000000)).ok oc
   generalize E7 6 1000000000000 q2=t3 at cc od hr hx hxl
   obtain ⟨r3,q3⟩:=t3
   simp -implicitDefEqProofs only [] at cc od hr hx hxl
   have cd:=FC (b:=b) (s:=En) od
   have oe:=(want_ext (s:=En)).ok od
   generalize EP En q3=q4 at cd oe hr hx hxl
   refine C8 (EQ cu hall hn) ?_
   rintro r H ⟨rfl,ha⟩
   simp -implicitDefEqProofs -proj only [go_sem,seval]
   refine C8 (EQ ca ha hn) ?_
   rintro r H ⟨rfl,ha⟩
   simp -implicitDefEqProofs -proj only [go_sem,seval]
   refine C8 (EQ cb ha hn) ?_
   rintro r H ⟨rfl,ha⟩
   have k7:=ha.2.1
   simp -implicitDefEqProofs -proj only [go_sem,seval,k7]
   refine LD (EQ cc ha hn) ?_
   rintro r H ⟨rfl,ha'⟩
   refine ⟨NL ha.2.1 ha'.2.1 rfl,?_⟩
   simp -implicitDefEqProofs -proj only [go_sem,seval]
   refine J8 (ds:=[.int .i64 u,.int .i64 r3]) rfl (fun bs hbs=>?_)
   replace hbs:H bs=none:=hbs
   simp -implicitDefEqProofs -proj only [go_sem,seval]
   refine Gg (xs:=Ee ts) (y:=[.int .i64 u,.int .i64 r3]) (t:=62) (capc:=1) [(b,ER q3),(b7,Fw me w al bl ki (EM 2 2 c cap (Ee ts)) 0 (.nilsl 3) ln co),(b6,Ge)] rfl (Eq hbs (Jd (A:=[_,_,_]) ha')) (Jh (A:=[(b,ER q3),(b7,Fw me w al bl ki (EM 2 2 c cap (Ee ts)) 0 (.nilsl 3) ln co),(b6,Ge)]) hn) (by simp -implicitDefEqProofs -proj only [go_sem,seval]; try rfl) (by rw [FP]; omega) (by rw [FP]; omega) (fun H' c2 cap2 ha2 hn2=>?_)
   rw [QZ] at ha2 hn2
   have hne:Ee (ts++[⟨u,r3⟩])≠[]:=by simp [Ee]
   have ha:=Jd ha2
   have hn:=Jh hn2
   have k7:=ha.2.1
   simp -implicitDefEqProofs -proj only [go_sem,seval,k7,FP]
   refine C8 (EQ cd (FI ha hn) hn) ?_
   rintro r H ⟨rfl,ha⟩
   simp -implicitDefEqProofs -proj only [go_sem,seval]
   refine EF ⟨al,bl,ki,ts++[(⟨u,r3⟩:Tier)],q4,c2,cap2⟩ ⟨oe,hn,by show (ts++[(⟨u,r3⟩:Tier)]).length≤q4.ix; rw [List.length_append,List.length_singleton]; omega,f,by show q4.l.length-q4.ix≤f; rw [hxl]; omega,hr⟩ (by show q4.l.length-q4.ix<q.l.length-q.ix; rw [hxl]; omega) rfl ?_ (by rw [Pz,Fv hne,FP,List.length_append,List.length_singleton]; exact ha)
   simp -implicitDefEqProofs -proj only [go_sem,seval,AP]
  | false =>
   rw [ARP e] at hr
   rw [e,if_neg (by decide)] at cu
   simp -implicitDefEqProofs only [PU,GG,Pd,Tn,Mj,Q7,Oo] at hr
   have ca:=FC (b:=b) (s:=Lm) ho
   have oa:=(want_ext (s:=Lm)).ok ho
   have xa:=(want_ext (s:=Lm) (p:=q)).ix
   generalize EP Lm q=q1 at ca oa xa hr
   have cb:=FC (b:=b) (s:=Jy) oa
   have ob:=(want_ext (s:=Jy)).ok oa
   generalize EP Jy q1=q2 at cb ob hr
   have cc:=Is (b:=b) (pl:=6) (mo:=1000000000000) ob (by decide)
   have oc:=(number_ext (pl:=6) (mo:=1000000000000)).ok ob
   generalize E7 6 1000000000000 q2=t3 at cc oc hr
   obtain ⟨r3,q3⟩:=t3
   simp -implicitDefEqProofs only [] at cc oc hr
   have cd:=FC (b:=b) (s:=En) oc
   have od:=(want_ext (s:=En)).ok oc
   generalize EP En q3=q4 at cd od hr
   have ce:=FC (b:=b) (s:=Id) od
   have oe:=(want_ext (s:=Id)).ok od
   generalize EP Id q4=q5 at ce oe hr
   have cf:=FC (b:=b) (s:=OE) oe
   have of:=(want_ext (s:=OE)).ok oe
   generalize EP OE q5=q6 at cf of hr
   have cg:=RV (b:=b) of
   have og:=(LT (p:=q6)).1.ok of
   generalize IG q6=t7 at cg og hr
   obtain ⟨mo,q7⟩:=t7
   simp -implicitDefEqProofs only [] at cg og hr
   have ch:=FC (b:=b) (s:=En) og
   have oh:=(want_ext (s:=En)).ok og
   generalize EP En q7=q8 at ch oh hr
   refine C8 (EQ cu hall hn) ?_
   rintro r H ⟨rfl,ha⟩
   simp -implicitDefEqProofs -proj only [go_sem,seval]
   refine C8 (EQ ca ha hn) ?_
   rintro r H ⟨rfl,ha⟩
   simp -implicitDefEqProofs -proj only [go_sem,seval]
   refine C8 (EQ cb ha hn) ?_
   rintro r H ⟨rfl,ha⟩
   have k7:=ha.2.1
   simp -implicitDefEqProofs -proj only [go_sem,seval,k7]
   refine LD (EQ cc ha hn) ?_
   rintro r H ⟨rfl,ha'⟩
   refine ⟨NL ha.2.1 ha'.2.1 rfl,?_⟩
   simp -implicitDefEqProofs -proj only [go_sem,seval]
   refine J8 (ds:=[.int .i64 0,.int .i64 r3]) rfl (fun bs hbs=>?_)
   replace hbs:H bs=none:=hbs
   simp -implicitDefEqProofs -proj only [go_sem,seval]
   refine Gg (xs:=Ee ts) (y:=[.int .i64 0,.int .i64 r3]) (t:=62) (capc:=1) [(b,ER q3),(b7,Fw me w al bl ki (EM 2 2 c cap (Ee ts)) 0 (.nilsl 3) ln co),(b6,Ge)] rfl (Eq hbs (Jd (A:=[_,_,_]) ha')) (Jh (A:=[(b,ER q3),(b7,Fw me w al bl ki (EM 2 2 c cap (Ee ts)) 0 (.nilsl 3) ln co),(b6,Ge)]) hn) (by simp -implicitDefEqProofs -proj only [go_sem,seval]; try rfl) (by rw [FP]; omega) (by rw [FP]; omega) (fun H' c2 cap2 ha2 hn2=>?_)
   rw [QZ] at ha2 hn2
   have hne:Ee (ts++[⟨0,r3⟩])≠[]:=by simp [Ee]
   have ha:=Jd ha2
   have hn:=Jh hn2
   have k7:=ha.2.1
   simp -implicitDefEqProofs -proj only [go_sem,seval,k7,FP]
   refine C8 (EQ cd (FI ha hn) hn) ?_
   rintro r H ⟨rfl,ha⟩
   simp -implicitDefEqProofs -proj only [go_sem,seval]
   refine C8 (EQ ce ha hn) ?_
   rintro r H ⟨rfl,ha⟩
   simp -implicitDefEqProofs -proj only [go_sem,seval]
   refine C8 (EQ cf ha hn) ?_
   rintro r H ⟨rfl,ha⟩
   simp -implicitDefEqProofs -proj only [go_sem,seval]
   refine C8 (EQ cg ha hn) ?_
   rintro r H ⟨rfl,ha⟩
   have k7:=ha.2.1
   simp -implicitDefEqProofs -proj only [go_sem,seval,k7]
   refine C8 (EQ ch (FI ha hn) hn) ?_
   rintro r H ⟨rfl,ha⟩
   simp -implicitDefEqProofs -proj only [go_sem,seval]
   generalize hT:ts++[⟨0,r3⟩]=T at *
   have hTl:ts.length+1=T.length:=by rw [←hT,List.length_append,List.length_singleton]
   rw [hTl] at ha
   have hrow:E2 62 2 c2 cap2 (Ee T)=[(c2,.row 62 2 cap2 (Ee T))]:=Hn hne
   rw [hrow] at ha hn
   have hx8:q8.l.length-q8.ix≤q8.l.length-q8.ix:=Nat.le_refl _
   refine EX (I2 b b6 b7 me w al bl ki (.own c2 2 0 T.length cap2) mo ln co [(c2,.row 62 2 cap2 (Ee T))] ⟨me,w,al,bl,ki,T,mo,[],ln,co⟩ R) 118 (fun _=>[(0,.ptr b 0),(6,.ptr b6 0),(7,.ptr b7 0)]) (L2 b b6 b7 me w al bl ki (.own c2 2 0 T.length cap2) mo ln co [(c2,.row 62 2 cap2 (Ee T))]) (fun y=>y.p.l.length-y.p.ix) ⟨[],q8,0,0⟩ ⟨oh,hn,Nat.zero_le _,_,hx8,hr⟩ rfl ?_ ha ?_
   ·simp -implicitDefEqProofs -proj only [go_sem,seval,AP]
   ·clear ha hx8 cu ca cb cc cd ce cf cg ch hall hH hr hn ha2 hn2
    rintro ⟨ad,g,c,cap⟩ ⟨ho,hn,had,f,hf,hr⟩
    simp -implicitDefEqProofs only [Mn] at hn
    simp -implicitDefEqProofs only [] at ho had hf hr
    obtain ⟨H0,hH⟩:∃H,EH (L2 b b6 b7 me w al bl ki (.own c2 2 0 T.length cap2) mo ln co [(c2,.row 62 2 cap2 (Ee T))] ⟨ad,g,c,cap⟩)=H:=⟨_,rfl⟩
    have ha:=FV (l:=L2 b b6 b7 me w al bl ki (.own c2 2 0 T.length cap2) mo ln co [(c2,.row 62 2 cap2 (Ee T))] ⟨ad,g,c,cap⟩) hn
    rw [hH,Mn] at ha
    have hlt:=ho.lt
    have hlen:=ho.tk.ln
    have hp:=HP (p:=g) adjsL 0
    obtain ⟨h1,h2,h3,h4⟩:=hp
    have hkl:adjsL.length=4:=rfl
    rw [hkl] at h2
    have o6:=h1.ok ho
    simp -implicitDefEqProofs -proj only [go_sem,seval,hH]
    refine EL (fun cs hcs=>?_)
    replace hcs:H0 cs=none:=hcs
    obtain ⟨ncs,_⟩:=EG hcs ha.1
    have c6:=Kt (l:=adjsL) (c:=cs) ho (by decide) (Eq hcs ha) AK ncs hn
    by_cases gk:(EO g 0 adjsL).1<0
    ·rw [ADf gk] at hr
     have hk1:=(h3 gk)
     generalize EO g 0 adjsL=t6 at c6 hk1
     obtain ⟨k,p6⟩:=t6
     simp -implicitDefEqProofs only [] at c6 hk1
     obtain ⟨rfl,rfl⟩:=hk1
     have cz:=FC (b:=b) (s:=Id) ho
     simp -implicitDefEqProofs only [PG] at hr
     generalize EP Id p6=g1 at cz hr
     simp -implicitDefEqProofs -proj only [go_sem,seval]
     refine C8 c6 ?_
     rintro r H ⟨rfl,ha⟩
     simp -implicitDefEqProofs -proj only [go_sem,seval,show IntKind.i64.wrap (1 + -1)=0 from FN (by decide),show IntKind.i64.wrap 0=0 from FN (by decide),decide_eq_true (show (0:Int)=0 from rfl)]
     refine C8 (EQ cz ha hn) ?_
     rintro r H ⟨rfl,ha⟩
     obtain ⟨kb,k7,k6,hrows⟩:=id ha
     simp -implicitDefEqProofs -proj only [go_sem,seval,k7,k6,AK]
     subst hr
     have hnr:b∉EJ ([(c2,.row 62 2 cap2 (Ee T))]++E2 70 3 c cap (Ex ad))∧b6∉EJ ([(c2,.row 62 2 cap2 (Ee T))]++E2 70 3 c cap (Ex ad))∧(EJ ([(c2,.row 62 2 cap2 (Ee T))]++E2 70 3 c cap (Ex ad))).Nodup:=by
      have h1:=List.nodup_cons.1 hn
      have h2:=List.nodup_cons.1 h1.2
      have h3:=List.nodup_cons.1 h2.2
      exact ⟨fun m=>h1.1 (List.mem_cons_of_mem _ (List.mem_cons_of_mem _ m)),h3.1,h3.2⟩
     have hrk:=FV hnr.2.2
     have hru:=Su (x:=Fw me w al bl ki (.own c2 2 0 T.length cap2) mo (EM 3 3 c cap (Ex ad)) ln co) hrows hnr.2.1
     refine ⟨EH ([(c2,.row 62 2 cap2 (Ee T))]++E2 70 3 c cap (Ex ad)),EH [(b,ER g1)],fun k=>NU hru k,fun k=>?_,?_,El⟩
     ·rw [Am]
      by_cases e:k=b
      ·subst e
       rw [if_pos rfl]
       exact .inr ⟨by rw [if_neg n6]; exact kb.symm,ABH hnr.1⟩
      ·rw [if_neg e]; exact .inl rfl
     ·refine AJb (Gr (.scal _ rfl) (Gr (.scal _ rfl) (Gr (.scal _ rfl) (Gr (.scal _ rfl) (Gr (.scal _ rfl) (Gr (.scal _ rfl) (Gr (.scal _ rfl) (Gr (.scal _ rfl) (Gr (.scal _ rfl) (Gr (.scal _ rfl) (Gr (.scal _ rfl) (Gr ?_ (Gr (.scal _ rfl) (Gr ?_ (Gr (.scal _ rfl) (Gr (.scal _ rfl) ALC))))))))))))))))
      ·have:Ee T≠[]:=hne
       rw [←FP (l:=T)]
       exact .own c2 2 cap2 62 cap2 (Ee T) hrk.1 ADZ
      ·exact SO hrk.2 ARB
    ·obtain ⟨e1,e2,e3⟩:=OT gk
     obtain ⟨f,rfl⟩:∃g,f=g+1:=⟨f-1,by omega⟩
     rw [G4,if_neg gk] at hr
     have hx:=Ph (q:=(EO g 0 adjsL).2) e2
     have hxl:=hx.1.l
     have hxi:=hx.1.ix
     have hxo:=hx.1.ok o6
     generalize EO g 0 adjsL=t6 at c6 e1 e2 e3 hr hx hxl hxi hxo o6
     obtain ⟨k,p6⟩:=t6
     simp -implicitDefEqProofs only [] at c6 e1 e2 e3 hr hx hxl hxi hxo o6
     have wk:IntKind.i64.wrap (1+k)=1+k:=FN (by unfold Fit; omega)
     generalize hK:1+k=K at *
     have hl6:p6.l.length=g.l.length:=by rw [e1.l]
     have hi6:p6.ix=g.ix+1:=by rw [e3]; rfl
     simp -implicitDefEqProofs -proj only [go_sem,seval]
     refine C8 c6 ?_
     rintro r H ⟨rfl,ha⟩
     simp -implicitDefEqProofs -proj only [go_sem,seval,hK,wk,decide_eq_false (show ¬K=0 by omega)]
     refine Aa (fun b10 hb10=>?_)
     replace hb10:H b10=none:=hb10
     obtain ⟨m10,m10'⟩:=EG hb10 ha.1
     have hnk:=Ih hb10 ha
     have hn10:(b::b10::EJ ((b7,Fw me w al bl ki (.own c2 2 0 T.length cap2) mo (EM 3 3 c cap (Ex ad)) ln co)::(b6,Ge)::([(c2,.row 62 2 cap2 (Ee T))]++E2 70 3 c cap (Ex ad)))).Nodup:=Kb hn hnk
     have ha10:Al (AI H b10 (some (.box 70 [i64 K,i64 0,i64 0]))) ((b,ER p6)::(b10,.box 70 [i64 K,i64 0,i64 0])::(b7,Fw me w al bl ki (.own c2 2 0 T.length cap2) mo (EM 3 3 c cap (Ex ad)) ln co)::(b6,Ge)::([(c2,.row 62 2 cap2 (Ee T))]++E2 70 3 c cap (Ex ad))):=JP (G8 hb10 ha)
     unfold Jv at hr hxl hxi hxo
     by_cases g1:K=1
     ·rw [if_pos g1] at hr hxl hxi hxo
      have ca:=Is (b:=b) (pl:=3) (mo:=100000000) o6 (by decide)
      have oa:=(number_ext (pl:=3) (mo:=100000000)).ok o6
      generalize E7 3 100000000 p6=t1 at ca oa hr hxl hxi hxo
      obtain ⟨n,q1⟩:=t1
      simp -implicitDefEqProofs only [] at ca oa hr hxl hxi hxo
      have cb:=RV (b:=b) oa
      have ob:=(LT (p:=q1)).1.ok oa
      generalize IG q1=t2 at cb ob hr hxl hxi hxo
      obtain ⟨m,q2⟩:=t2
      simp -implicitDefEqProofs only [] at cb ob hr hxl hxi hxo
      have cc:=FC (b:=b) (s:=En) ob
      generalize EP En q2=q3 at cc hr hxl hxi hxo
      simp -implicitDefEqProofs -proj only [go_sem,seval,AK,AT,decide_eq_true g1]
      refine C8 (EQ ca ha10 hn10) ?_
      rintro r H ⟨rfl,ha⟩
      have k10:=ha.2.1
      simp -implicitDefEqProofs -proj only [go_sem,seval,k10]
      refine C8 (EQ cb (FI ha hn10) hn10) ?_
      rintro r H ⟨rfl,ha⟩
      have k10:=ha.2.1
      simp -implicitDefEqProofs -proj only [go_sem,seval,k10]
      refine C8 (EQ cc (FI ha hn10) hn10) ?_
      rintro r H ⟨rfl,ha⟩
      obtain ⟨kb,k10,k7,k6,hrows⟩:=id ha
      simp -implicitDefEqProofs -proj only [go_sem,seval,k10,k7]
      refine EL (fun bs hbs=>?_)
      replace hbs:H bs=none:=hbs
      simp -implicitDefEqProofs -proj only [go_sem,seval]
      refine Gg (xs:=Ex ad) (y:=[.int .i64 K,.int .i64 n,.int .i64 m]) (t:=70) (capc:=1) [(b,ER q3),(b7,Fw me w al bl ki (.own c2 2 0 T.length cap2) mo (EM 3 3 c cap (Ex ad)) ln co),(b6,Ge),(c2,.row 62 2 cap2 (Ee T))] rfl (Eq hbs (Jd (A:=[_,_,_,_]) ⟨kb,k7,k6,hrows⟩)) (Jh (A:=[(b,ER q3),(b7,Fw me w al bl ki (.own c2 2 0 T.length cap2) mo (EM 3 3 c cap (Ex ad)) ln co),(b6,Ge),(c2,.row 62 2 cap2 (Ee T))]) hn) (by simp -implicitDefEqProofs -proj only [go_sem,seval]; try rfl) (by rw [GT]; omega) (by rw [GT]; omega) (fun H' c3 cap3 ha2 hn2=>?_)
      rw [Qj] at ha2 hn2
      have hne2:Ex (ad++[⟨K,n,m⟩])≠[]:=by simp [Ex]
      have ha:=Jd ha2
      have hn:=Jh hn2
      have k7:=ha.2.1
      simp -implicitDefEqProofs -proj only [go_sem,seval,k7,GT]
      refine EF ⟨ad++[(⟨K,n,m⟩:Adj)],q3,c3,cap3⟩ ⟨hxo,hn,by show (ad++[(⟨K,n,m⟩:Adj)]).length≤q3.ix; rw [List.length_append,List.length_singleton]; omega,f,by show q3.l.length-q3.ix≤f; rw [hxl]; omega,hr⟩ (by show q3.l.length-q3.ix<g.l.length-g.ix; rw [hxl]; omega) rfl ?_ (by rw [Mn,Fv hne2,GT,List.length_append,List.length_singleton]; exact FI ha hn)
      simp -implicitDefEqProofs -proj only [go_sem,seval,AP]
     ·rw [if_neg g1] at hr hxl hxi hxo
      have ca:=Is (b:=b) (pl:=0) (mo:=1000000000000) o6 (by decide)
      have oa:=(number_ext (pl:=0) (mo:=1000000000000)).ok o6
      generalize E7 0 1000000000000 p6=t1 at ca oa hr hxl hxi hxo
      obtain ⟨n,q1⟩:=t1
      simp -implicitDefEqProofs only [] at ca oa hr hxl hxi hxo
      have cc:=FC (b:=b) (s:=En) oa
      generalize EP En q1=q3 at cc hr hxl hxi hxo
      simp -implicitDefEqProofs -proj only [go_sem,seval,AK,AT,decide_eq_false g1]
      refine C8 (EQ ca ha10 hn10) ?_
      rintro r H ⟨rfl,ha⟩
      have k10:=ha.2.1
      simp -implicitDefEqProofs -proj only [go_sem,seval,k10]
      refine C8 (EQ cc (FI ha hn10) hn10) ?_
      rintro r H ⟨rfl,ha⟩
      obtain ⟨kb,k10,k7,k6,hrows⟩:=id ha
      simp -implicitDefEqProofs -proj only [go_sem,seval,k10,k7]
      refine EL (fun bs hbs=>?_)
      replace hbs:H bs=none:=hbs
      simp -implicitDefEqProofs -proj only [go_sem,seval]
      refine Gg (xs:=Ex ad) (y:=[.int .i64 K,.int .i64 n,.int .i64 0]) (t:=70) (capc:=1) [(b,ER q3),(b7,Fw me w al bl ki (.own c2 2 0 T.length cap2) mo (EM 3 3 c cap (Ex ad)) ln co),(b6,Ge),(c2,.row 62 2 cap2 (Ee T))] rfl (Eq hbs (Jd (A:=[_,_,_,_]) ⟨kb,k7,k6,hrows⟩)) (Jh (A:=[(b,ER q3),(b7,Fw me w al bl ki (.own c2 2 0 T.length cap2) mo (EM 3 3 c cap (Ex ad)) ln co),(b6,Ge),(c2,.row 62 2 cap2 (Ee T))]) hn) (by simp -implicitDefEqProofs -proj only [go_sem,seval]; try rfl) (by rw [GT]; omega) (by rw [GT]; omega) (fun H' c3 cap3 ha2 hn2=>?_)
      rw [Qj] at ha2 hn2
      have hne2:Ex (ad++[⟨K,n,0⟩])≠[]:=by simp [Ex]
      have ha:=Jd ha2
      have hn:=Jh hn2
      have k7:=ha.2.1
      simp -implicitDefEqProofs -proj only [go_sem,seval,k7,GT]
      refine EF ⟨ad++[(⟨K,n,0⟩:Adj)],q3,c3,cap3⟩ ⟨hxo,hn,by show (ad++[(⟨K,n,0⟩:Adj)]).length≤q3.ix; rw [List.length_append,List.length_singleton]; omega,f,by show q3.l.length-q3.ix≤f; rw [hxl]; omega,hr⟩ (by show q3.l.length-q3.ix<g.l.length-g.ix; rw [hxl]; omega) rfl ?_ (by rw [Mn,Fv hne2,GT,List.length_append,List.length_singleton]; exact FI ha hn)
      simp -implicitDefEqProofs -proj only [go_sem,seval,AP]
def Nw:ByteArray:=⟨⟨[112,108,97,110]⟩⟩
def M8:ByteArray:=⟨⟨[99,117,114,114,101,110,99,121]⟩⟩
def Kq:ByteArray:=⟨⟨[104,111,114,105,122,111,110]⟩⟩
def Nr:ByteArray:=⟨⟨[117,110,105,116]⟩⟩
def N8:ByteArray:=⟨⟨[109,97,120]⟩⟩
def itemsL:List ByteArray:=[⟨⟨[109,101,116,101,114]⟩⟩,⟨⟨[102,101,101]⟩⟩,⟨⟨[99,104,97,114,103,101]⟩⟩]
def Ox (p:PS):PS:=EP Nr (Fm 1 p).2
def Px (p:PS):PS:=EP N8 (Fm 1 (Ox p)).2
def Kd (ln co:Int) (p:PS):MeterX×PS:=(⟨(Fm 1 p).1,(Fm 1 (Ox p)).1,(E7 0 2000 (Px p)).1,ln,co⟩,EP En (E7 0 2000 (Px p)).2)
def KL (ln co:Int) (p:PS):FeeX×PS:=(⟨(E7 0 1000000000000 p).1,(HJ (E7 0 1000000000000 p).2).1,ln,co⟩,EP En (HJ (E7 0 1000000000000 p).2).2)
structure PL where
 ms:List MeterX
 fs:List FeeX
 cs:List ChX
 p:PS
def F6:Nat→List MeterX→List FeeX→List ChX→PS→PL
 | 0,ms,fs,cs,p=>⟨ms,fs,cs,p⟩
 | f+1,ms,fs,cs,p =>
  if p.er=0∧¬(EU p).k=0 then
   if (EO p 0 itemsL).1=0 then F6 f (ms++[(Kd (EU p).ln (EU p).co (EO p 0 itemsL).2).1]) fs cs (Kd (EU p).ln (EU p).co (EO p 0 itemsL).2).2
   else if (EO p 0 itemsL).1=1 then F6 f ms (fs++[(KL (EU p).ln (EU p).co (EO p 0 itemsL).2).1]) cs (KL (EU p).ln (EU p).co (EO p 0 itemsL).2).2
   else if (EO p 0 itemsL).1=2 then F6 f ms fs (cs++[(GD (EU p).ln (EU p).co (EO p 0 itemsL).2).1]) (GD (EU p).ln (EU p).co (EO p 0 itemsL).2).2
   else F6 f ms fs cs (Fp 4 (EO p 0 itemsL).2)
  else ⟨ms,fs,cs,p⟩
theorem QO {f:Nat} {ms:List MeterX} {fs:List FeeX} {cs:List ChX} {p:PS} (h:¬(p.er=0∧¬(EU p).k=0)):F6 f ms fs cs p=⟨ms,fs,cs,p⟩:=by
 cases f with
 | zero=>rfl
 | succ f=>rw [F6,if_neg h]
def GI (p:PS):Nat:=p.l.length-p.ix+if p.er=0 then 1 else 0
theorem met_ext {ln co:Int} {p:PS}:Ext p (Kd ln co p).2:=(HI (by decide)).trans (want_ext.trans ((HI (by decide)).trans (want_ext.trans (number_ext.trans want_ext))))
theorem fee_ext {ln co:Int} {p:PS}:Ext p (KL ln co p).2:=number_ext.trans (window_ext.trans want_ext)
theorem AEQ {ln co:Int} {p:PS}:0≤(Kd ln co p).1.mx∧(Kd ln co p).1.mx≤2000:=Jb (by decide)
def OH (x:FeeX):Prop:=(0≤x.am∧x.am≤1000000000000)∧KZ x.w
theorem AFQ {ln co:Int} {p:PS} (ho:p.ok) (h:(KL ln co p).2.er=0):OH (KL ln co p).1:=⟨Jb (by decide),So (number_ext.ok ho) (want_ext.er h)⟩
structure GoodPL (x:PL):Prop where
 ms:∀m∈x.ms,0≤m.mx∧m.mx≤2000
 fs:∀f∈x.fs,OH f
 cs:∀c∈x.cs,GoodCh c
theorem Ln {α:Type} {P : α→Prop} {l:List α} {x : α} (h:∀y∈l,P y) (hx:P x):∀y∈l++[x],P y:=fun y hy=>by
 rcases List.mem_append.1 hy with hy | hy
 ·exact h y hy
 ·rw [List.mem_singleton.1 hy]; exact hx
theorem Jf:∀(f:Nat) {ms:List MeterX} {fs:List FeeX} {cs:List ChX} {p:PS},Ext p (F6 f ms fs cs p).p
 | 0,ms,fs,cs,p=>.rfl'
 | f+1,ms,fs,cs,p=>by
  have hp:=(HP (p:=p) itemsL 0).1
  rw [F6]
  split
  ·split
   ·exact hp.trans (met_ext.trans (Jf f))
   ·split
    ·exact hp.trans (fee_ext.trans (Jf f))
    ·split
     ·exact hp.trans (charge_ext.trans (Jf f))
     ·exact hp.trans ((GW (by decide)).1.trans (Jf f))
  ·exact .rfl'
theorem MY:∀(f:Nat) {ms:List MeterX} {fs:List FeeX} {cs:List ChX} {p:PS},p.ok→GoodPL ⟨ms,fs,cs,p⟩→(F6 f ms fs cs p).p.er=0→GoodPL (F6 f ms fs cs p)
 | 0,ms,fs,cs,p,ho,h,_=>h
 | f+1,ms,fs,cs,p,ho,h,he=>by
  have hp:=(HP (p:=p) itemsL 0).1.ok ho
  rw [F6] at he ⊢
  split
  ·next g =>
   rw [if_pos g] at he
   split
   ·next g1 =>
    rw [if_pos g1] at he
    exact MY f (met_ext.ok hp) ⟨Ln h.ms AEQ,h.fs,h.cs⟩ he
   ·next g1 =>
    rw [if_neg g1] at he
    split
    ·next g2 =>
     rw [if_pos g2] at he
     exact MY f (fee_ext.ok hp) ⟨h.ms,Ln h.fs (AFQ hp ((Jf f).er he)),h.cs⟩ he
    ·next g2 =>
     rw [if_neg g2] at he
     split
     ·next g3 =>
      rw [if_pos g3] at he
      exact MY f (charge_ext.ok hp) ⟨h.ms,h.fs,Ln h.cs (AGl hp ((Jf f).er he))⟩ he
     ·next g3 =>
      rw [if_neg g3] at he
      exact MY f ((GW (by decide)).1.ok hp) ⟨h.ms,h.fs,h.cs⟩ he
  ·next g=>exact ⟨h.ms,h.fs,h.cs⟩
def Mx (l:List Tok):PS:=EP Nw ⟨l,0,0,0,0⟩
def Lv (l:List Tok):ByteArray×PS:=Fm 1 (Mx l)
def J2 (l:List Tok):ByteArray×PS:=Fm 1 (EP M8 (Lv l).2)
def LE (l:List Tok):DateX×PS:=GY (EP Kq (EP En (J2 l).2))
def Nh (l:List Tok):DateX×PS:=GY (LE l).2
def HS (l:List Tok):PS:=EP En (Nh l).2
def JQ (l:List Tok):PL:=F6 (GI (HS l)) [] [] [] (HS l)
def NN:PlanX:=⟨⟨⟨[]⟩⟩,⟨⟨[]⟩⟩,GU,GU,[],[],[],0,0⟩
structure ParR where
 p:PlanX
 er:Int
 ln:Int
 co:Int
def NM (l:List Tok) (x:PL):ParR:=if x.p.er=0 then ⟨⟨(Lv l).1,(J2 l).1,(LE l).1,(Nh l).1,x.ms,x.fs,x.cs,(l.getD 0 L9).ln,(l.getD 0 L9).co⟩,0,0,0⟩ else ⟨NN,x.p.er,x.p.ln,x.p.co⟩
def FR (s:ByteArray):ParR:=if (G0 s).er=0 then NM (G0 s).l (JQ (G0 s).l) else ⟨NN,(G0 s).er,(G0 s).ln,(G0 s).co⟩
structure GoodPl (p:PlanX):Prop where
 f:Fh p.f
 t:Fh p.t
 ms:∀m∈p.ms,0≤m.mx∧m.mx≤2000
 fs:∀f∈p.fs,OH f
 cs:∀c∈p.cs,GoodCh c
theorem P6 {l:List Tok} (h:TokOK l):PS.ok ⟨l,0,0,0,0⟩:=by
 refine ⟨?_,h⟩
 obtain ⟨m,t,e,_⟩:=h.ex
 show 0<l.length
 rw [e,List.length_append,List.length_singleton]; omega
theorem S2 {s:ByteArray} (h:(FR s).er=0):GoodPl (FR s).p:=by
 unfold FR at h ⊢
 by_cases g:(G0 s).er=0
 rotate_left
 ·rw [if_neg g] at h; exact absurd h g
 rw [if_pos g] at h ⊢
 have htk:=OX g
 generalize (G0 s).l=l at h htk ⊢
 have o0:=P6 htk
 unfold NM at h ⊢
 by_cases g2:(JQ l).p.er=0
 rotate_left
 ·rw [if_neg g2] at h; exact absurd h g2
 rw [if_pos g2]
 have o1:(Mx l).ok:=want_ext.ok o0
 have o2:(Lv l).2.ok:=(HI (by decide)).ok o1
 have o3:(J2 l).2.ok:=(HI (by decide)).ok (want_ext.ok o2)
 have o4:(EP Kq (EP En (J2 l).2)).ok:=want_ext.ok (want_ext.ok o3)
 have o5:(LE l).2.ok:=day_ext.ok o4
 have o6:(HS l).ok:=want_ext.ok (day_ext.ok o5)
 have e6:(HS l).er=0:=(Jf (GI (HS l)) (ms:=[]) (fs:=[]) (cs:=[]) (p:=HS l)).er g2
 have e5:(Nh l).2.er=0:=want_ext.er e6
 have e4:(LE l).2.er=0:=day_ext.er e5
 have hb:=MY (GI (HS l)) (ms:=[]) (fs:=[]) (cs:=[]) o6 ⟨fun m h=>(by cases h),fun m h=>(by cases h),fun m h=>(by cases h)⟩ g2
 exact ⟨NT o4 e4,NT o5 e5,hb.ms,hb.fs,hb.cs⟩
theorem AFb {p p':PS} (ho:p.ok) (he:p.er=0) (hx:Ext p.next p'):GI p'<GI p:=by
 have h1:=hx.l
 have h2:=hx.ix
 have h3:=ho.lt
 have h4:p.next.ix=p.ix+1:=rfl
 have h5:p.next.l=p.l:=rfl
 unfold GI
 rw [h1,h5,if_pos he]
 split <;> omega
theorem AGg {p:PS} (ho:p.ok) (he:p.er=0):GI (Fp 4 p)<GI p:=by
 have h1:=Jk (e:=4) (p:=p)
 have h3:=ho.lt
 have h4:=(GW (e:=4) (p:=p) (by decide)).2
 unfold GI
 rw [h1.1,h1.2,if_pos he,if_neg h4]
 omega
theorem RQ {H:Heap} {A M X:List (Nat×Blk)} (h:Al H (A++(M++X))):Al H (M++(A++X)):=by
 obtain ⟨h1,h2⟩:=Ec.1 h
 obtain ⟨h3,h4⟩:=Ec.1 h2
 exact Ec.2 ⟨h3,Ec.2 ⟨h1,h4⟩⟩
theorem AGP {H:Heap} {A M F C:List (Nat×Blk)} (h:Al H (A++(M++(F++C)))):Al H (F++(A++(M++C))):=by
 obtain ⟨h1,h2⟩:=Ec.1 h
 obtain ⟨h3,h4⟩:=Ec.1 h2
 obtain ⟨h5,h6⟩:=Ec.1 h4
 exact Ec.2 ⟨h5,Ec.2 ⟨h1,Ec.2 ⟨h3,h6⟩⟩⟩
theorem AK3 {H:Heap} {A M F C:List (Nat×Blk)} (h:Al H (F++(A++(M++C)))):Al H (A++(M++(F++C))):=by
 obtain ⟨h1,h2⟩:=Ec.1 h
 obtain ⟨h3,h4⟩:=Ec.1 h2
 obtain ⟨h5,h6⟩:=Ec.1 h4
 exact Ec.2 ⟨h3,Ec.2 ⟨h5,Ec.2 ⟨h1,h6⟩⟩⟩
theorem AMp {H:Heap} {A M F C:List (Nat×Blk)} (h:Al H (A++(M++(F++C)))):Al H (C++(A++(M++F))):=by
 obtain ⟨h1,h2⟩:=Ec.1 h
 obtain ⟨h3,h4⟩:=Ec.1 h2
 obtain ⟨h5,h6⟩:=Ec.1 h4
 exact Ec.2 ⟨h6,Ec.2 ⟨h1,Ec.2 ⟨h3,h5⟩⟩⟩
theorem AEu {H:Heap} {A M F C:List (Nat×Blk)} (h:Al H (C++(A++(M++F)))):Al H (A++(M++(F++C))):=by
 obtain ⟨h1,h2⟩:=Ec.1 h
 obtain ⟨h3,h4⟩:=Ec.1 h2
 obtain ⟨h5,h6⟩:=Ec.1 h4
 exact Ec.2 ⟨h3,Ec.2 ⟨h5,Ec.2 ⟨h6,h1⟩⟩⟩
theorem Nu {A B:List (Nat×Blk)}:EJ (A++B)=EJ A++EJ B:=by unfold EJ; exact List.map_append ..
theorem PT {A M X:List (Nat×Blk)}:(EJ (A++(M++X))).Nodup↔(EJ (M++(A++X))).Nodup:=by
 simp -implicitDefEqProofs only [Nu]
 exact (List.perm_append_comm_assoc _ _ _).nodup_iff
theorem PE {A M F C:List (Nat×Blk)}:(EJ (A++(M++(F++C)))).Nodup↔(EJ (F++(A++(M++C)))).Nodup:=by
 rw [←PT (A:=A) (M:=F)]
 simp -implicitDefEqProofs only [Nu]
 exact (List.Perm.append_left _ (List.perm_append_comm_assoc _ _ _)).nodup_iff
theorem Tm {A M F C:List (Nat×Blk)}:(EJ (A++(M++(F++C)))).Nodup↔(EJ (C++(A++(M++F)))).Nodup:=by
 rw [←PE (M:=M) (F:=C) (C:=F)]
 simp -implicitDefEqProofs only [Nu]
 exact (List.Perm.append_left _ (List.Perm.append_left _ List.perm_append_comm)).nodup_iff
theorem ABq {l:List MeterX} {x:MeterX}:EI l++[[.str x.nm,.str x.un,.int .i64 x.mx,.int .i64 x.ln,.int .i64 x.co]]=EI (l++[x]):=by simp [EI,MeterX.el]
theorem AGM {l:List FeeX} {x:FeeX}:Fy l++[x.el]=Fy (l++[x]):=by simp [Fy]
theorem ADK {l:List ChX} {x:ChX}:Fr l++[x.el]=Fr (l++[x]):=by simp [Fr]
structure MX where
 ms:List MeterX
 fs:List FeeX
 cs:List ChX
 p:PS
 c1:Nat
 k1:Nat
 c2:Nat
 k2:Nat
 c3:Nat
 k3:Nat
abbrev IJ (nm cu:ByteArray) (f t:DateX) (m e c:AV) (ln co:Int):Blk:=.box 53 [Ey nm,Ey cu,i64 f.y,i64 f.m,i64 f.d,i64 t.y,i64 t.m,i64 t.d,m,e,c,i64 ln,i64 co]
abbrev HZ:Blk:=IJ ⟨⟨[]⟩⟩ ⟨⟨[]⟩⟩ GU GU (.nilsl 5) (.nilsl 10) (.nilsl 16) 0 0
abbrev G1 (c k:Nat) (l:List MeterX):List (Nat×Blk):=E2 42 5 c k (EI l)
abbrev MZ (c k:Nat) (l:List FeeX):List (Nat×Blk):=E2 93 10 c k (Fy l)
abbrev MA (c k:Nat) (l:List ChX):List (Nat×Blk):=E2 96 16 c k (Fr l)
def LP (b b11 b2:Nat) (nm cu:ByteArray) (f t:DateX) (ln co:Int) (y:MX):List (Nat×Blk):=(b,ER y.p)::(b11,IJ nm cu f t (EM 5 5 y.c1 y.k1 (EI y.ms)) (EM 10 10 y.c2 y.k2 (Fy y.fs)) (EM 16 16 y.c3 y.k3 (Fr y.cs)) ln co)::(b2,HZ)::(G1 y.c1 y.k1 y.ms++(MZ y.c2 y.k2 y.fs++MA y.c3 y.k3 y.cs))
theorem Kg {b b11 b2:Nat} {nm cu:ByteArray} {f t:DateX} {ln co:Int} {ms:List MeterX} {fs:List FeeX} {cs:List ChX} {p:PS} {c1 k1 c2 k2 c3 k3:Nat}:LP b b11 b2 nm cu f t ln co ⟨ms,fs,cs,p,c1,k1,c2,k2,c3,k3⟩=(b,ER p)::(b11,IJ nm cu f t (EM 5 5 c1 k1 (EI ms)) (EM 10 10 c2 k2 (Fy fs)) (EM 16 16 c3 k3 (Fr cs)) ln co)::(b2,HZ)::(G1 c1 k1 ms++(MZ c2 k2 fs++MA c3 k3 cs)):=rfl
def P2 (nm cu:ByteArray) (f t:DateX) (ln co:Int) (x:PL):ParR:=if x.p.er=0 then ⟨⟨nm,cu,f,t,x.ms,x.fs,x.cs,ln,co⟩,0,0,0⟩ else ⟨NN,x.p.er,x.p.ln,x.p.co⟩
def IP (b b11 b2:Nat) (nm cu:ByteArray) (f t:DateX) (ln co:Int) (R:ParR) (y:MX):Prop:=y.p.ok∧(EJ (LP b b11 b2 nm cu f t ln co y)).Nodup∧y.ms.length+y.fs.length+y.cs.length≤y.p.ix∧∃g,GI y.p≤g∧P2 nm cu f t ln co (F6 g y.ms y.fs y.cs y.p)=R
def Pq (r:ParR):AV:=.tup [JN r.p,i64 r.er,i64 r.ln,i64 r.co]
theorem S9 {H:Heap}:LendV H (.agg [Ey ⟨⟨[]⟩⟩,Ey ⟨⟨[]⟩⟩,i64 0,i64 0,i64 0,i64 0,i64 0,i64 0,.nilsl 5,.nilsl 10,.nilsl 16,i64 0,i64 0]) (JN NN) :=
 LendV.aggL (EK (.refl _) (EK (.refl _) (EK (.refl _) (EK (.refl _) (EK (.refl _) (EK (.refl _) (EK (.refl _) (EK (.refl _) (EK (.nilsl _ _) (EK (.nilsl _ _) (EK (.nilsl _ _) (EK (.refl _) (EK (.refl _) G9)))))))))))))
set_option maxHeartbeats 4000000 in
theorem RO {s:ByteArray}:DataW Try.prog AAZ [Ey s] (Pq (FR s)):=by
 have hl:=AI8 (s:=s)
 have hok:=OX (s:=s)
 generalize hR:FR s=R
 unfold FR at hR
 unfold T1 at hl
 generalize G0 s=L at hl hR hok
 obtain ⟨l,er,ln,co⟩:=L
 simp -implicitDefEqProofs only [] at hl hR hok
 refine A3 AGn (by simp) ?_
 simp -implicitDefEqProofs -proj only [go_sem,seval]
 refine Aa (fun b2 hb2=>?_)
 simp -implicitDefEqProofs -proj only [go_sem,seval]
 refine AQ hl ?_
 by_cases g:er=0
 rotate_left
 ·rw [if_neg g] at hR
  subst hR
  simp -implicitDefEqProofs -proj only [go_sem,seval,decide_eq_false g,Bool.not_false,AK]
  exact LendV.tupL (EK S9 (EK (.refl _) (EK (.refl _) (EK (.refl _) G9))))
 rw [if_pos g] at hR
 have htk:=hok g
 have o0:=P6 htk
 have hel:=Kw o0
 have htz:EU ⟨l,0,0,0,0⟩=l.getD 0 L9:=rfl
 rw [htz] at hel
 unfold JQ NM HS Nh LE J2 Lv Mx at hR
 generalize l.getD 0 L9=t0 at hel hR
 obtain ⟨z1,z2,ln0,co0⟩:=t0
 simp -implicitDefEqProofs only [] at hel hR
 simp -implicitDefEqProofs -proj only [go_sem,seval,decide_eq_true g,Bool.not_true]
 refine Aa (fun b hb=>?_)
 replace hb:AI Heap.none b2 (some HZ) b=none:=hb
 obtain ⟨n2,n2'⟩:=EG hb AK
 simp -implicitDefEqProofs -proj only [go_sem,seval]
 refine Eh _ (by decide) hel ?_
 simp -implicitDefEqProofs -proj only [go_sem,seval]
 refine Eh _ (by decide) hel ?_
 simp -implicitDefEqProofs -proj only [go_sem,seval]
 refine Aa (fun b11 hb11=>?_)
 replace hb11:AI (AI Heap.none b2 (some HZ)) b (some (ER ⟨l,0,0,0,0⟩)) b11=none:=hb11
 obtain ⟨n11,n11'⟩:=EG hb11 AK
 obtain ⟨m11,m11'⟩:=EG (x:=HZ) (b:=b2) hb11 (by rw [EN n2]; exact AK)
 have hn:(b::b11::b2::[]).Nodup:=by simp [n11',n2,m11]
 have ha:Al (AI (AI (AI Heap.none b2 (some HZ)) b (some (ER ⟨l,0,0,0,0⟩))) b11 (some (IJ ⟨⟨[]⟩⟩ ⟨⟨[]⟩⟩ GU GU (.nilsl 5) (.nilsl 10) (.nilsl 16) ln0 co0))) [(b,ER ⟨l,0,0,0,0⟩),(b11,IJ ⟨⟨[]⟩⟩ ⟨⟨[]⟩⟩ GU GU (.nilsl 5) (.nilsl 10) (.nilsl 16) ln0 co0),(b2,HZ)] :=
  ⟨by rw [EN n11]; exact AK,AK,by rw [EN m11,EN n2]; exact AK,trivial⟩
 have q1:=FC (b:=b) (s:=Nw) o0
 have o1:=(want_ext (s:=Nw)).ok o0
 generalize EP Nw ⟨l,0,0,0,0⟩=p1 at q1 o1 hR
 have q2:=Ks (b:=b) (k:=1) o1
 have o2:=(HI (k:=1) (p:=p1) (by decide)).ok o1
 generalize Fm 1 p1=t2 at q2 o2 hR
 obtain ⟨nm,p2⟩:=t2
 simp -implicitDefEqProofs only [] at q2 o2 hR
 have q3:=FC (b:=b) (s:=M8) o2
 have o3:=(want_ext (s:=M8)).ok o2
 generalize EP M8 p2=p3 at q3 o3 hR
 have q4:=Ks (b:=b) (k:=1) o3
 have o4:=(HI (k:=1) (p:=p3) (by decide)).ok o3
 generalize Fm 1 p3=t4 at q4 o4 hR
 obtain ⟨cu,p4⟩:=t4
 simp -implicitDefEqProofs only [] at q4 o4 hR
 have q5:=FC (b:=b) (s:=En) o4
 have o5:=(want_ext (s:=En)).ok o4
 generalize EP En p4=p5 at q5 o5 hR
 have q6:=FC (b:=b) (s:=Kq) o5
 have o6:=(want_ext (s:=Kq)).ok o5
 generalize EP Kq p5=p6 at q6 o6 hR
 have q7:=NV (b:=b) o6
 have o7:=(day_ext (p:=p6)).ok o6
 generalize GY p6=t7 at q7 o7 hR
 obtain ⟨df,p7⟩:=t7
 simp -implicitDefEqProofs only [] at q7 o7 hR
 have q8:=NV (b:=b) o7
 have o8:=(day_ext (p:=p7)).ok o7
 generalize GY p7=t8 at q8 o8 hR
 obtain ⟨dt,p8⟩:=t8
 simp -implicitDefEqProofs only [] at q8 o8 hR
 have q9:=FC (b:=b) (s:=En) o8
 have o9:=(want_ext (s:=En)).ok o8
 generalize EP En p8=p9 at q9 o9 hR
 simp -implicitDefEqProofs -proj only [go_sem,seval,AK,AT]
 refine C8 (EQ q1 ha hn) ?_
 rintro r H ⟨rfl,ha⟩
 simp -implicitDefEqProofs -proj only [go_sem,seval]
 refine C8 (EQ q2 ha hn) ?_
 rintro r H ⟨rfl,ha⟩
 have k11:=ha.2.1
 simp -implicitDefEqProofs -proj only [go_sem,seval,k11]
 refine C8 (EQ q3 (FI ha hn) hn) ?_
 rintro r H ⟨rfl,ha⟩
 have k11:=ha.2.1
 simp -implicitDefEqProofs -proj only [go_sem,seval,k11]
 refine C8 (EQ q4 ha hn) ?_
 rintro r H ⟨rfl,ha⟩
 have k11:=ha.2.1
 simp -implicitDefEqProofs -proj only [go_sem,seval,k11]
 refine C8 (EQ q5 (FI ha hn) hn) ?_
 rintro r H ⟨rfl,ha⟩
 have k11:=ha.2.1
 simp -implicitDefEqProofs -proj only [go_sem,seval,k11]
 refine C8 (EQ q6 ha hn) ?_
 rintro r H ⟨rfl,ha⟩
 have k11:=ha.2.1
 simp -implicitDefEqProofs -proj only [go_sem,seval,k11]
 refine C8 (EQ q7 ha hn) ?_
 rintro r H ⟨rfl,ha⟩
 have k11:=ha.2.1
 simp -implicitDefEqProofs -proj only [go_sem,seval,k11]
 refine C8 (EQ q8 (FI ha hn) hn) ?_
 rintro r H ⟨rfl,ha⟩
 have k11:=ha.2.1
 simp -implicitDefEqProofs -proj only [go_sem,seval,k11]
 refine C8 (EQ q9 (FI ha hn) hn) ?_
 rintro r H ⟨rfl,ha⟩
 have k11:=ha.2.1
 simp -implicitDefEqProofs -proj only [go_sem,seval,k11]
 refine EX (IP b b11 b2 nm cu df dt ln0 co0 R) 177 (fun _=>[(2,.ptr b2 0),(10,.ptr b 0),(11,.ptr b11 0)]) (LP b b11 b2 nm cu df dt ln0 co0) (fun y=>GI y.p) ⟨[],[],[],p9,0,0,0,0,0,0⟩ ⟨o9,hn,Nat.zero_le _,_,Nat.le_refl _,hR⟩ rfl ?_ ha ?_
 ·simp -implicitDefEqProofs -proj only [go_sem,seval,AP]
 clear hR q1 q2 q3 q4 q5 q6 q7 q8 q9 o1 o2 o3 o4 o5 o6 o7 o8 o9 ha hn k11
 rintro ⟨ms,fs,cs,p,c1,k1,c2,k2,c3,k3⟩ ⟨ho,hn,hcnt,f,hf,hr⟩
 simp -implicitDefEqProofs only [Kg] at hn
 simp -implicitDefEqProofs only [] at ho hcnt hf hr
 obtain ⟨H0,hH⟩:∃H,EH (LP b b11 b2 nm cu df dt ln0 co0 ⟨ms,fs,cs,p,c1,k1,c2,k2,c3,k3⟩)=H:=⟨_,rfl⟩
 have ha:=FV (l:=LP b b11 b2 nm cu df dt ln0 co0 ⟨ms,fs,cs,p,c1,k1,c2,k2,c3,k3⟩) hn
 rw [hH,Kg] at ha
 obtain ⟨kb,k11,k2b,hrows⟩:=id ha
 have hlt:=ho.lt
 have hlen:=ho.tk.ln
 have hel:=Kw ho
 have htc:=Ms ho
 by_cases ge:p.er=0
 rotate_left
 ·rw [QO (fun k=>ge k.1),P2,if_neg ge] at hr
  subst hr
  simp -implicitDefEqProofs -proj only [go_sem,seval,hH,kb,n2,n2',not_false_eq_true,A1,decide_eq_false ge,Bool.not_false,k2b,AK]
  exact LendV.tupL (EK S9 (EK (.refl _) (EK (.refl _) (EK (.refl _) G9))))
 by_cases gk:(EU p).k=0
 ·rw [QO (fun k=>k.2 gk),P2,if_pos ge] at hr
  subst hr
  generalize EU p=t at hel gk
  obtain ⟨tk,tx,tl,tc⟩:=t
  simp -implicitDefEqProofs -proj only [go_sem,seval,hH,kb,decide_eq_true ge]
  refine Eh _ (by omega) hel ?_
  simp -implicitDefEqProofs -proj only [go_sem,seval,kb,k11,k2b,n2,n2',not_false_eq_true,A1,AK,decide_eq_true (show tk=0 from gk),decide_eq_true ge,Bool.not_true]
  have hrk:∀{X:Option Blk},Al (AI H0 b2 X) (G1 c1 k1 ms++(MZ c2 k2 fs++MA c3 k3 cs)):=fun {X}=>LW hrows (List.nodup_cons.1 (List.nodup_cons.1 (List.nodup_cons.1 hn).2).2).1
  refine LendV.tupL (EK (LendV.aggL (EK (.refl _) (EK (.refl _) (EK (.refl _) (EK (.refl _) (EK (.refl _) (EK (.refl _) (EK (.refl _) (EK (.refl _) (EK (Ki (Ec.1 hrk).1) (EK (Ki (Ec.1 (Ec.1 hrk).2).1) (EK (Ki (Ec.1 (Ec.1 hrk).2).2) (EK (.refl _) (EK (.refl _) G9)))))))))))))) (EK (.refl _) (EK (.refl _) (EK (.refl _) G9))))
 have hmu:1≤GI p:=by unfold GI; rw [if_pos ge]; omega
 obtain ⟨f,rfl⟩:∃g,f=g+1:=⟨f-1,by omega⟩
 rw [F6,if_pos (show p.er=0∧¬(EU p).k=0 from ⟨ge,gk⟩)] at hr
 have hmw:=AGg ho ge
 have hml:=fun p' h=>AFb (p':=p') ho ge h
 generalize EU p=t at hel gk htc hr
 obtain ⟨tk,tx,tl,tc⟩:=t
 simp -implicitDefEqProofs only [] at gk hr
 have gk':¬tk=0:=gk
 simp -implicitDefEqProofs -proj only [go_sem,seval,hH,kb,decide_eq_true ge]
 refine Eh _ (by omega) hel ?_
 simp -implicitDefEqProofs -proj only [go_sem,seval,kb,decide_eq_false gk',Bool.not_false]
 refine Eh _ (by omega) hel ?_
 simp -implicitDefEqProofs -proj only [go_sem,seval,kb]
 refine Aa (fun b12 hb12=>?_)
 replace hb12:H0 b12=none:=hb12
 have hn12:=Kb hn (Ih hb12 ha)
 have ha:=JP (G8 (x:=.box 83 [i64 tk,Ey tx,i64 tl,i64 tc]) hb12 ha)
 simp -implicitDefEqProofs -proj only [go_sem,seval,AK,AT]
 refine EL (fun cs0 hcs=>?_)
 replace hcs:AI H0 b12 (some (.box 83 [i64 tk,Ey tx,i64 tl,i64 tc])) cs0=none:=hcs
 obtain ⟨ncs,_⟩:=EG hcs ha.1
 have c6:=Kt (l:=itemsL) (c:=cs0) ho (by decide) (Eq hcs ha) AK ncs hn12
 obtain ⟨h1,h2,h3,h4⟩:=HP (p:=p) itemsL 0
 have hkl:itemsL.length=3:=rfl
 rw [hkl] at h2
 have o6:=h1.ok ho
 generalize EO p 0 itemsL=t6 at h1 h2 h3 h4 o6 c6 hr
 obtain ⟨k,p6⟩:=t6
 simp -implicitDefEqProofs only [] at h1 h2 h3 h4 o6 c6 hr
 simp -implicitDefEqProofs -proj only [go_sem,seval]
 refine C8 c6 ?_
 rintro r H ⟨rfl,haW⟩
 have k12:=haW.2.1
 have k11:=haW.2.2.1
 by_cases gA:k=0
 ·rw [if_pos gA] at hr
  have hx:=met_ext (ln:=tl) (co:=tc) (p:=p6)
  have hmx:=hml (Kd tl tc p6).2 (by rw [←(h4 (by omega)).1]; exact hx)
  have hxl:=hx.l
  have hxi:=hx.ix
  have hxo:=hx.ok o6
  have hl6:=h1.l
  have hi6:p6.ix=p.ix+1:=by rw [(h4 (by omega)).1]; rfl
  simp -implicitDefEqProofs only [Kd,Ox,Px] at hr hx hmx hxl hxi hxo
  have ca:=Ks (b:=b) (k:=1) o6
  have oa:=(HI (k:=1) (p:=p6) (by decide)).ok o6
  generalize Fm 1 p6=t1 at ca oa hr hx hmx hxl hxi hxo
  obtain ⟨mn,q1⟩:=t1
  simp -implicitDefEqProofs only [] at ca oa hr hx hmx hxl hxi hxo
  have cb:=FC (b:=b) (s:=Nr) oa
  have ob:=(want_ext (s:=Nr)).ok oa
  generalize EP Nr q1=q2 at cb ob hr hx hmx hxl hxi hxo
  have cc:=Ks (b:=b) (k:=1) ob
  have oc:=(HI (k:=1) (p:=q2) (by decide)).ok ob
  generalize Fm 1 q2=t3 at cc oc hr hx hmx hxl hxi hxo
  obtain ⟨un,q3⟩:=t3
  simp -implicitDefEqProofs only [] at cc oc hr hx hmx hxl hxi hxo
  have cd:=FC (b:=b) (s:=N8) oc
  have od:=(want_ext (s:=N8)).ok oc
  generalize EP N8 q3=q4 at cd od hr hx hmx hxl hxi hxo
  have ce:=Is (b:=b) (pl:=0) (mo:=2000) od (by decide)
  have oe:=(number_ext (pl:=0) (mo:=2000)).ok od
  generalize E7 0 2000 q4=t5 at ce oe hr hx hmx hxl hxi hxo
  obtain ⟨mx,q5⟩:=t5
  simp -implicitDefEqProofs only [] at ce oe hr hx hmx hxl hxi hxo
  have cf:=FC (b:=b) (s:=En) oe
  generalize EP En q5=q6 at cf hr hx hmx hxl hxi hxo
  simp -implicitDefEqProofs -proj only [go_sem,seval,k12,k11,decide_eq_true gA]
  refine LD (EQ ca haW hn12) ?_
  rintro r H ⟨rfl,ha'⟩
  refine ⟨RJ haW.2.1 ha'.2.1 rfl,?_⟩
  have ha:=ha'
  simp -implicitDefEqProofs -proj only [go_sem,seval]
  refine Aa (fun b14 hb14=>?_)
  replace hb14:H b14=none:=hb14
  have hn14:=Kb hn12 (Ih hb14 ha)
  have ha:=JP (G8 (x:=.box 42 [Ey mn,Ey ⟨⟨[]⟩⟩,i64 0,i64 tl,i64 tc]) hb14 ha)
  simp -implicitDefEqProofs -proj only [go_sem,seval,AK,AT]
  refine C8 (EQ cb ha hn14) ?_
  rintro r H ⟨rfl,ha⟩
  simp -implicitDefEqProofs -proj only [go_sem,seval]
  refine C8 (EQ cc ha hn14) ?_
  rintro r H ⟨rfl,ha⟩
  have k14:=ha.2.1
  simp -implicitDefEqProofs -proj only [go_sem,seval,k14]
  refine C8 (EQ cd (FI ha hn14) hn14) ?_
  rintro r H ⟨rfl,ha⟩
  simp -implicitDefEqProofs -proj only [go_sem,seval]
  refine C8 (EQ ce ha hn14) ?_
  rintro r H ⟨rfl,ha⟩
  have k14:=ha.2.1
  simp -implicitDefEqProofs -proj only [go_sem,seval,k14]
  refine C8 (EQ cf (FI ha hn14) hn14) ?_
  rintro r H ⟨rfl,ha⟩
  obtain ⟨kb,k14,k12,k11,k2b,hrows⟩:=id ha
  simp -implicitDefEqProofs -proj only [go_sem,seval,k14,k11]
  refine EL (fun bs hbs=>?_)
  replace hbs:H bs=none:=hbs
  simp -implicitDefEqProofs -proj only [go_sem,seval]
  refine Gg (xs:=EI ms) (y:=[.str mn,.str un,.int .i64 mx,.int .i64 tl,.int .i64 tc]) (t:=42) (capc:=1) ([(b,ER q6),(b11,IJ nm cu df dt (EM 5 5 c1 k1 (EI ms)) (EM 10 10 c2 k2 (Fy fs)) (EM 16 16 c3 k3 (Fr cs)) ln0 co0),(b2,HZ)]++(MZ c2 k2 fs++MA c3 k3 cs)) rfl (Eq hbs (RQ (A:=[_,_,_]) ⟨kb,k11,k2b,hrows⟩)) ((PT (A:=[(b,ER q6),(b11,IJ nm cu df dt (EM 5 5 c1 k1 (EI ms)) (EM 10 10 c2 k2 (Fy fs)) (EM 16 16 c3 k3 (Fr cs)) ln0 co0),(b2,HZ)])).1 hn) (by simp -implicitDefEqProofs -proj only [go_sem,seval]; try rfl) (by rw [FL]; omega) (by rw [FL]; omega) (fun H' c4 k4 ha2 hn2=>?_)
  rw [ABq (x:=⟨mn,un,mx,tl,tc⟩)] at ha2 hn2
  have hne:EI (ms++[⟨mn,un,mx,tl,tc⟩])≠[]:=by simp [EI]
  have ha:=RQ ha2
  have hn:=PT.1 hn2
  have k11:=ha.2.1
  simp -implicitDefEqProofs -proj only [go_sem,seval,k11,FL]
  refine EF ⟨ms++[(⟨mn,un,mx,tl,tc⟩:MeterX)],fs,cs,q6,c4,k4,c2,k2,c3,k3⟩ ⟨hxo,hn,by show (ms++[(⟨mn,un,mx,tl,tc⟩:MeterX)]).length+fs.length+cs.length≤q6.ix; rw [List.length_append,List.length_singleton]; omega,f,by show GI q6≤f; omega,hr⟩ hmx rfl ?_ (by rw [Kg,Fv hne,FL,List.length_append,List.length_singleton]; exact FI ha hn)
  simp -implicitDefEqProofs -proj only [go_sem,seval,AP]
 rw [if_neg gA] at hr
 by_cases gB:k=1
 ·rw [if_pos gB] at hr
  have hx:=fee_ext (ln:=tl) (co:=tc) (p:=p6)
  have hmx:=hml (KL tl tc p6).2 (by rw [←(h4 (by omega)).1]; exact hx)
  have hxl:=hx.l
  have hxi:=hx.ix
  have hxo:=hx.ok o6
  have hl6:=h1.l
  have hi6:p6.ix=p.ix+1:=by rw [(h4 (by omega)).1]; rfl
  simp -implicitDefEqProofs only [KL] at hr hx hmx hxl hxi hxo
  have ca:=Is (b:=b) (pl:=0) (mo:=1000000000000) o6 (by decide)
  have oa:=(number_ext (pl:=0) (mo:=1000000000000)).ok o6
  generalize E7 0 1000000000000 p6=t1 at ca oa hr hx hmx hxl hxi hxo
  obtain ⟨am,q1⟩:=t1
  simp -implicitDefEqProofs only [] at ca oa hr hx hmx hxl hxi hxo
  have cb:=Q6 (b:=b) oa
  have ob:=(window_ext (p:=q1)).ok oa
  generalize HJ q1=t2 at cb ob hr hx hmx hxl hxi hxo
  obtain ⟨w,q2⟩:=t2
  simp -implicitDefEqProofs only [] at cb ob hr hx hmx hxl hxi hxo
  have cc:=FC (b:=b) (s:=En) ob
  generalize EP En q2=q3 at cc hr hx hmx hxl hxi hxo
  simp -implicitDefEqProofs -proj only [go_sem,seval,k12,k11,decide_eq_false gA,decide_eq_true gB]
  refine LD (EQ ca haW hn12) ?_
  rintro r H ⟨rfl,ha'⟩
  refine ⟨RJ haW.2.1 ha'.2.1 rfl,?_⟩
  have ha:=ha'
  simp -implicitDefEqProofs -proj only [go_sem,seval]
  refine Aa (fun b15 hb15=>?_)
  replace hb15:H b15=none:=hb15
  have hn15:=Kb hn12 (Ih hb15 ha)
  have ha:=JP (G8 (x:=.box 93 [i64 am,bv false,i64 0,i64 0,i64 0,i64 0,i64 0,i64 0,i64 tl,i64 tc]) hb15 ha)
  simp -implicitDefEqProofs -proj only [go_sem,seval,AK,AT]
  refine C8 (EQ cb ha hn15) ?_
  rintro r H ⟨rfl,ha⟩
  have k15:=ha.2.1
  simp -implicitDefEqProofs -proj only [go_sem,seval,k15]
  refine C8 (EQ cc (FI ha hn15) hn15) ?_
  rintro r H ⟨rfl,ha⟩
  obtain ⟨kb,k15,k12,k11,k2b,hrows⟩:=id ha
  simp -implicitDefEqProofs -proj only [go_sem,seval,k15,k11]
  refine EL (fun bs hbs=>?_)
  replace hbs:H bs=none:=hbs
  simp -implicitDefEqProofs -proj only [go_sem,seval]
  refine Gg (xs:=Fy fs) (y:=FeeX.el ⟨am,w,tl,tc⟩) (t:=93) (capc:=1) ([(b,ER q3),(b11,IJ nm cu df dt (EM 5 5 c1 k1 (EI ms)) (EM 10 10 c2 k2 (Fy fs)) (EM 16 16 c3 k3 (Fr cs)) ln0 co0),(b2,HZ)]++(G1 c1 k1 ms++MA c3 k3 cs)) rfl (Eq hbs (AGP (A:=[_,_,_]) ⟨kb,k11,k2b,hrows⟩)) ((PE (A:=[(b,ER q3),(b11,IJ nm cu df dt (EM 5 5 c1 k1 (EI ms)) (EM 10 10 c2 k2 (Fy fs)) (EM 16 16 c3 k3 (Fr cs)) ln0 co0),(b2,HZ)])).1 hn) (by simp -implicitDefEqProofs -proj only [go_sem,seval]; try rfl) (by rw [If]; omega) (by rw [If]; omega) (fun H' c4 k4 ha2 hn2=>?_)
  rw [AGM] at ha2 hn2
  have hne:Fy (fs++[⟨am,w,tl,tc⟩])≠[]:=by simp [Fy]
  have ha:=AK3 ha2
  have hn:=PE.2 hn2
  have k11:=ha.2.1
  simp -implicitDefEqProofs -proj only [go_sem,seval,k11,If]
  refine EF ⟨ms,fs++[(⟨am,w,tl,tc⟩:FeeX)],cs,q3,c1,k1,c4,k4,c3,k3⟩ ⟨hxo,hn,by show ms.length+(fs++[(⟨am,w,tl,tc⟩:FeeX)]).length+cs.length≤q3.ix; rw [List.length_append,List.length_singleton]; omega,f,by show GI q3≤f; omega,hr⟩ hmx rfl ?_ (by rw [Kg,Fv hne,If,List.length_append,List.length_singleton]; exact FI ha hn)
  simp -implicitDefEqProofs -proj only [go_sem,seval,AP]
 rw [if_neg gB] at hr
 by_cases gC:k=2
 ·rw [if_pos gC] at hr
  have hx:=charge_ext (ln:=tl) (co:=tc) (p:=p6)
  have hmx:=hml (GD tl tc p6).2 (by rw [←(h4 (by omega)).1]; exact hx)
  have hxl:=hx.l
  have hxi:=hx.ix
  have hxo:=hx.ok o6
  have hl6:=h1.l
  have hi6:p6.ix=p.ix+1:=by rw [(h4 (by omega)).1]; rfl
  have ca:=AMJ (b:=b) (ln:=tl) (co:=tc) o6
  generalize GD tl tc p6=t1 at ca hr hx hmx hxl hxi hxo
  obtain ⟨x,q3⟩:=t1
  simp -implicitDefEqProofs only [] at ca hr hx hmx hxl hxi hxo
  unfold K6 at ca
  simp -implicitDefEqProofs -proj only [go_sem,seval,k12,k11,decide_eq_false gA,decide_eq_false gB,decide_eq_true gC]
  refine LD (EQ ca haW hn12) ?_
  rintro r H ⟨rfl,ha'⟩
  refine ⟨NL haW.2.2.1 ha'.2.2.1 rfl,?_⟩
  have ha:=ha'
  obtain ⟨kb,k12,k11,k2b,hrows⟩:=id ha
  simp -implicitDefEqProofs -proj only [go_sem,seval]
  refine J8 (ds:=x.el) rfl (fun bs hbs=>?_)
  replace hbs:H bs=none:=hbs
  simp -implicitDefEqProofs -proj only [go_sem,seval]
  refine Gg (xs:=Fr cs) (y:=x.el) (t:=96) (capc:=1) ([(b,ER q3),(b11,IJ nm cu df dt (EM 5 5 c1 k1 (EI ms)) (EM 10 10 c2 k2 (Fy fs)) (EM 16 16 c3 k3 (Fr cs)) ln0 co0),(b2,HZ)]++(G1 c1 k1 ms++MZ c2 k2 fs)) rfl (Eq hbs (AMp (A:=[_,_,_]) ⟨kb,k11,k2b,hrows⟩)) ((Tm (A:=[(b,ER q3),(b11,IJ nm cu df dt (EM 5 5 c1 k1 (EI ms)) (EM 10 10 c2 k2 (Fy fs)) (EM 16 16 c3 k3 (Fr cs)) ln0 co0),(b2,HZ)])).1 hn) (by simp -implicitDefEqProofs -proj only [go_sem,seval]; try rfl) (by rw [Ix]; omega) (by rw [Ix]; omega) (fun H' c4 k4 ha2 hn2=>?_)
  rw [ADK] at ha2 hn2
  have hne:Fr (cs++[x])≠[]:=by simp [Fr]
  have ha:=AEu ha2
  have hn:=Tm.2 hn2
  have k11:=ha.2.1
  simp -implicitDefEqProofs -proj only [go_sem,seval,k11,Ix]
  refine EF ⟨ms,fs,cs++[x],q3,c1,k1,c2,k2,c4,k4⟩ ⟨hxo,hn,by show ms.length+fs.length+(cs++[x]).length≤q3.ix; rw [List.length_append,List.length_singleton]; omega,f,by show GI q3≤f; omega,hr⟩ hmx rfl ?_ (by rw [Kg,Fv hne,Ix,List.length_append,List.length_singleton]; exact FI ha hn)
  simp -implicitDefEqProofs -proj only [go_sem,seval,AP]
 rw [if_neg gC] at hr
 have hkn:=h3 (by omega)
 obtain ⟨rfl,rfl⟩:=hkn
 have cw:=Iq (b:=b) (e:=4) ho
 have hwx:=(GW (e:=4) (p:=p6) (by decide)).1
 have hwo:=hwx.ok ho
 have hwi:=hwx.ix
 generalize Fp 4 p6=q at cw hwx hwo hwi hmw hr
 simp -implicitDefEqProofs -proj only [go_sem,seval,decide_eq_false gA,decide_eq_false gB,decide_eq_false gC]
 refine C8 (EQ cw haW hn12) ?_
 rintro r H ⟨rfl,ha⟩
 obtain ⟨kb,k12,k11,k2b,hrows⟩:=id ha
 simp -implicitDefEqProofs -proj only [go_sem,seval]
 refine EF ⟨ms,fs,cs,q,c1,k1,c2,k2,c3,k3⟩ ⟨hwo,hn,by show ms.length+fs.length+cs.length≤q.ix; omega,f,by show GI q≤f; omega,hr⟩ hmw rfl ?_ (by rw [Kg]; exact ⟨kb,k11,k2b,hrows⟩)
 simp -implicitDefEqProofs -proj only [go_sem,seval,AP]
def Fo (a b:ByteArray):Bool:=Op.bytesLess a.toList b.toList
def KM (ms:List MeterX) (i:Nat) (m:MeterX):Prop:=(0≤m.mx∧m.mx≤2000)∧m.ln=0∧m.co=0∧∀p,ms[i-1]? = some p→0<i→Fo p.nm m.nm=true
def Jn (f t:Int) (s:SumX):Prop:=(0≤s.a∧s.a≤1000000000000)∧(f≤s.f∧s.f≤s.t∧s.t≤t)
def Lb (c:CoreX):Prop:=(0≤c.f∧c.f≤3652058)∧(c.f≤c.t∧c.t≤3652058)∧c.t-c.f≤3999∧c.ms.length≤4∧c.ss.length≤8∧c.ps.length≤8
def AFx (ms:List MeterX):Prop:=∀(i:Nat) (h:i<ms.length),KM ms i ms[i]
structure goodC (c:CoreX):Prop where
 hd:Lb c
 ms:AFx c.ms
 ss:∀s∈c.ss,Jn c.f c.t s
 ps:∀x∈c.ps,IU c.f c.t c.ms.length x
noncomputable instance (c:CoreX):Decidable (goodC c):=Classical.propDecidable _
theorem L4 {α:Type} {l:List α} {P:Nat→α→Prop} {i:Nat} {x : α} (hi:l[i]? = some x) (hs:∀(j:Nat) (h:j<l.length),j<i→P j l[j]) (hx:P i x):∀(j:Nat) (h:j<l.length),j<i+1→P j l[j]:=by
 intro j h1 h2
 by_cases hj:j=i
 ·subst hj
  rw [List.getElem?_eq_getElem h1] at hi
  cases hi
  exact hx
 ·exact hs j h1 (by omega)
end Go.Proofs.Ytlflfciebidddaa.Abs
