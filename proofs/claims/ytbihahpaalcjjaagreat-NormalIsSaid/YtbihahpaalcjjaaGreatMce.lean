/- Contracts of the machine and the contracts of one law (joined by kmerge.py). No claim stands here. -/
import Derived.Below
import Derived.Carry
import Derived.ChangeCalls
import Derived.ChangeOld
import Derived.IntWalk
import Derived.KernelRfl
import Derived.Laws.Append
import Derived.Laws.AppendOwn
import Derived.Laws.Cells
import Derived.Laws.CopyRow
import Derived.Laws.Entries
import Derived.Laws.MakeOwn
import Derived.Laws.NewFold
import Derived.Laws.Rows
import Derived.Laws.StructEq
import Derived.OpenShut
import Derived.Orders
import Derived.OrdersIn
import Derived.ProofKit
import Derived.RangeFuncLeaves
import Derived.RangeFuncSeq
import Derived.SizedLaws
import Derived.TacticsIn
import Derived.WalkKit
import Derived.Test.YtbihahpaalcjjaaGreatMcd
set_option maxRecDepth 100000
set_option linter.unusedSimpArgs false
set_option linter.unusedVariables false
namespace Go.Proofs.YtbihahpaalcjjaaGreat.Abs
open Go Go.RowKit Go.Proofs
attribute [local go_sem] Dk CB DN DR Cb EC B3 Am Az Dg ED DP CI Bk Dn EK BX B1 Be C7 Bh Dy CK EA CE Cd Bj Dr Ds DD DV Bf CF DE Dq EL C5 Bx Bn C1 Cl CR C6 Bz Ct CM Bt Ck Ce DA DL Dz Cj EE DU Df Bu DT B8 De Cf DX DM Ci DZ C0 D5 Bo D2 Ca Bq BO Bc Cw BS Cy Bb BK D6 Db CX DH DB Da B2 Cz DC DS CH DW Cr Do Dv CD CJ CQ BQ CL BP BH Dm Bm C4 AM ev An A9 A7 BT BF D8 EF Dj CY Au Aw Cc Co Di By C2 Dt D3 Cv CG DK Cq Bp EG EJ Dw CP D4 Dd CZ D9 Bd Cn CN Ak setSeg nth seg mapD Ax BI AX BL Cp EH Av Ag cond_true cond_false B7 BN BU BM BY B0 CT List.cons_append List.nil_append Bool.not_true Bool.not_false Bool.and_true Bool.and_self Nat.lt_add_left_iff_pos Nat.zero_add Nat.add_zero List.drop_succ_cons List.drop_zero List.take_succ_cons List.take_zero beq_self_eq_true Bool.false_eq_true Cu Dx CO Cm Bi D0 DQ EB DI BA and_self and_true true_and Dh CU CA Bs DJ DG C8 DO Dp EI Cs Dl Br Bl Bv Du D1 A6 BD BE Ap Bw C3 Dc B9 BZ C9 List.length_cons List.length_nil Nat.min_def Int.cast_ofNat_Int Int.natCast_zero Int.natCast_one decide_true decide_false List.getElem?_cons_zero List.getElem?_cons_succ DF Bg Ch Cx CV D7
set_option maxRecDepth 20000 in
set_option maxHeartbeats 4000000 in
theorem AKn {cur:ByteArray} {f t:Int} {ms ss ps:List (List D)} {x:PartX} (hh:Hq f t ms.length x):DataW Tryz.prog QA [Kq cur f t ms ss ps,GK x] (bv (decide (Hb x.ts∧IS x.ad))):=by
 refine AZ UL (by simp) ?_
 simp -implicitDefEqProofs -proj only [go_sem,seval]
 refine AI (fun b2 hb2=>?_)
 simp -implicitDefEqProofs -proj only [go_sem,seval]
 refine AI (fun b3 hb3=>?_)
 replace hb3:upd Heap.none b2 _ b3=none:=hb3
 obtain ⟨n1,n2⟩:=AG hb3 AP
 obtain ⟨g1,g2,g3,g4,g5,g6,g7,g8,g9,g10⟩:=hh
 simp -implicitDefEqProofs -proj only [go_sem,seval,n1,n2,decide_eq_false (show ¬x.me<0 by omega),decide_eq_false (show ¬(ms.length:Int)≤x.me by omega)]
 refine AK Qf ?_
 simp -implicitDefEqProofs -proj only [go_sem,seval,n1,n2,decide_eq_true g3]
 refine AK (Ef g4) ?_
 simp -implicitDefEqProofs -proj only [go_sem,seval,n1,n2]
 refine AK (Ef g5) ?_
 have e1:=decide_eq_false (show ¬(x.ts.length:Int)<1 by omega)
 have e2:=decide_eq_false (show ¬8<(x.ts.length:Int) by omega)
 have e3:=decide_eq_false (show ¬6<(x.ad.length:Int) by omega)
 rcases g6 with g6 | g6
 ·simp -implicitDefEqProofs -proj only [go_sem,seval,n1,n2,decide_eq_true g6]
  refine AK (Ef g7) ?_
  simp -implicitDefEqProofs -proj only [go_sem,seval,n1,n2,E6,He,e1,e2,e3]
  refine BJ (fun i:Nat=>i≤x.ts.length∧∀(j:Nat) (h:j<x.ts.length),j<i→Gc x.ts j x.ts[j]) 160 (fun i=>[(78,EZ x.ts),(79,i64 x.ts.length),(80,i64 i),(3,.ptr b3 0)]) (fun _=>[(b3,.box 40 [i64 x.me,i64 x.f,i64 x.t,i64 x.al,i64 x.bl,i64 x.ki,EZ x.ts,i64 x.mo,Ec x.ad])]) (fun i=>x.ts.length-i) 0 ⟨Nat.zero_le _,fun j _ h=>absurd h (Nat.not_lt_zero _)⟩ rfl ?_ ?_ ?_
  ·simp -implicitDefEqProofs -proj only [go_sem,seval,AL]
  ·simp -implicitDefEqProofs -proj only [go_sem,seval,AS]
  ·rintro i ⟨hi,hs⟩
   have hk3:AS (Ad [(b3,.box 40 [i64 x.me,i64 x.f,i64 x.t,i64 x.al,i64 x.bl,i64 x.ki,EZ x.ts,i64 x.mo,Ec x.ad])]) [(b3,.box 40 [i64 x.me,i64 x.f,i64 x.t,i64 x.al,i64 x.bl,i64 x.ki,EZ x.ts,i64 x.mo,Ec x.ad])]:=EQ (by simp [AN])
   have h3:=hk3.1
   by_cases h:i<x.ts.length
   ·have hel:=JK h
    have hgo:Gc x.ts i x.ts[i]→∀(j:Nat) (h:j<x.ts.length),j<i+1→Gc x.ts j x.ts[j]:=by
     intro e j h1 h2
     by_cases hj:j=i
     ·subst hj; exact e
     ·exact hs j h1 (by omega)
    have hno:¬Gc x.ts i x.ts[i]→¬Hb x.ts:=fun e k=>e (k i h)
    have hlast:i+1=x.ts.length→FV x.ts i=0∧Fq x.ts i=0:=QU
    have hwl:IntKind.i64.wrap ((x.ts.length:Int)-1)=(x.ts.length:Int)-1:=by rw [IntKind.wrap_i64]; omega
    generalize hq:x.ts[i]=q at *
    simp -implicitDefEqProofs -proj only [go_sem,seval,decide_eq_true (show (i:Int)<x.ts.length by omega)]
    refine Ai _ (by omega) hel ?_
    simp -implicitDefEqProofs -proj only [go_sem,seval]
    refine AI (fun b6 hb6=>?_)
    have hb6':=hb6
    replace hb6:Ad [(b3,Blk.box 40 [i64 x.me,i64 x.f,i64 x.t,i64 x.al,i64 x.bl,i64 x.ki,EZ x.ts,i64 x.mo,Ec x.ad])] b6=none:=hb6
    obtain ⟨m1,m2⟩:=AG hb6 h3
    by_cases h0:i=0
    ·by_cases hl:i+1=x.ts.length
     ·have hlow:=hlast hl
      simp -implicitDefEqProofs -proj only [go_sem,seval,m1,m2,E6,hwl,decide_eq_false (show ¬0<(i:Int) by omega),decide_eq_true (show (i:Int)=(x.ts.length:Int)-1 by omega)]
      by_cases hr:0≤q.r∧q.r≤1000000000000
      rotate_left
      ·refine AK (Ej hr) ?_
       simp -implicitDefEqProofs -proj only [go_sem,seval]
       exact AJ (by rw [decide_eq_false (fun h=>hno (fun k=>hr k.1) h.1)])
      refine AK (Ef hr) ?_
      simp -implicitDefEqProofs -proj only [go_sem,seval,m1,m2]
      by_cases hu:FV x.ts i≤q.u∧q.u≤Fq x.ts i
      rotate_left
      ·refine AK (Ej (by rw [hlow.1,hlow.2] at hu; exact hu)) ?_
       simp -implicitDefEqProofs -proj only [go_sem,seval]
       exact AJ (by rw [decide_eq_false (fun h=>hno (fun k=>hu k.2) h.1)])
      refine AK (Ef (by rw [hlow.1,hlow.2] at hu; exact hu)) ?_
      simp -implicitDefEqProofs -proj only [go_sem,seval]
      refine Ac (i+1) ⟨by omega,hgo ⟨hr,hu⟩⟩ (by omega) rfl ?_ (Aj hb6' hk3)
      simp -implicitDefEqProofs -proj only [go_sem,seval,AL,AR (show i<9223372036854775807 by omega)]
     ·have hlow:FV x.ts i=1∧Fq x.ts i=1000000:=by subst h0; exact Mr hl
      simp -implicitDefEqProofs -proj only [go_sem,seval,m1,m2,E6,hwl,decide_eq_false (show ¬0<(i:Int) by omega),decide_eq_false (show ¬(i:Int)=(x.ts.length:Int)-1 by omega)]
      by_cases hr:0≤q.r∧q.r≤1000000000000
      rotate_left
      ·refine AK (Ej hr) ?_
       simp -implicitDefEqProofs -proj only [go_sem,seval]
       exact AJ (by rw [decide_eq_false (fun h=>hno (fun k=>hr k.1) h.1)])
      refine AK (Ef hr) ?_
      simp -implicitDefEqProofs -proj only [go_sem,seval,m1,m2]
      by_cases hu:FV x.ts i≤q.u∧q.u≤Fq x.ts i
      rotate_left
      ·refine AK (Ej (by rw [hlow.1,hlow.2] at hu; exact hu)) ?_
       simp -implicitDefEqProofs -proj only [go_sem,seval]
       exact AJ (by rw [decide_eq_false (fun h=>hno (fun k=>hu k.2) h.1)])
      refine AK (Ef (by rw [hlow.1,hlow.2] at hu; exact hu)) ?_
      simp -implicitDefEqProofs -proj only [go_sem,seval]
      refine Ac (i+1) ⟨by omega,hgo ⟨hr,hu⟩⟩ (by omega) rfl ?_ (Aj hb6' hk3)
      simp -implicitDefEqProofs -proj only [go_sem,seval,AL,AR (show i<9223372036854775807 by omega)]
    ·have wi:IntKind.i64.wrap ((i:Int)-1)=((i-1:Nat):Int):=by rw [IntKind.wrap_i64]; omega
     have hep:=JK (l:=x.ts) (i:=i-1) (by omega)
     have hm1:=@ME x.ts i (by omega) (by omega)
     have hm0:=@Py x.ts i (by omega) (by omega)
     obtain ⟨p,hp⟩:∃p,x.ts[i-1]'(by omega)=p:=⟨_,rfl⟩
     rw [hp] at hep hm1 hm0
     clear hp
     by_cases hu1:1≤p.u
     ·have wp:IntKind.i64.wrap (min p.u 1000000+1)=min p.u 1000000+1:=by rw [IntKind.wrap_i64]; omega
      simp -implicitDefEqProofs -proj only [go_sem,seval,m1,m2,decide_eq_true (show 0<(i:Int) by omega),wi]
      (repeat' (with_reducible refine Aa ?_ (fun h=>?_); (focus first | decide | omega); clear h; try simp -implicitDefEqProofs -proj only [go_sem,seval,wi]))
      refine Ai _ (by omega) hep ?_
      simp -implicitDefEqProofs -proj only [go_sem,seval,m1,m2,wi]
      simp -implicitDefEqProofs -proj only [go_sem,seval,m1,m2,wi,decide_eq_true hu1]
      (repeat' (with_reducible refine Aa ?_ (fun h=>?_); (focus first | decide | omega); clear h; try simp -implicitDefEqProofs -proj only [go_sem,seval,wi]))
      refine Ai _ (by omega) hep ?_
      by_cases hl:i+1=x.ts.length
      ·have hlow:=hlast hl
       simp -implicitDefEqProofs -proj only [go_sem,seval,m1,m2,E6,wi,hwl,wp,decide_eq_true (show (i:Int)=(x.ts.length:Int)-1 by omega)]
       by_cases hr:0≤q.r∧q.r≤1000000000000
       rotate_left
       ·refine AK (Ej hr) ?_
        simp -implicitDefEqProofs -proj only [go_sem,seval]
        exact AJ (by rw [decide_eq_false (fun h=>hno (fun k=>hr k.1) h.1)])
       refine AK (Ef hr) ?_
       simp -implicitDefEqProofs -proj only [go_sem,seval,m1,m2]
       by_cases hu:FV x.ts i≤q.u∧q.u≤Fq x.ts i
       rotate_left
       ·refine AK (Ej (by rw [hlow.1,hlow.2] at hu; exact hu)) ?_
        simp -implicitDefEqProofs -proj only [go_sem,seval]
        exact AJ (by rw [decide_eq_false (fun h=>hno (fun k=>hu k.2) h.1)])
       refine AK (Ef (by rw [hlow.1,hlow.2] at hu; exact hu)) ?_
       simp -implicitDefEqProofs -proj only [go_sem,seval]
       refine Ac (i+1) ⟨by omega,hgo ⟨hr,hu⟩⟩ (by omega) rfl ?_ (Aj hb6' hk3)
       simp -implicitDefEqProofs -proj only [go_sem,seval,AL,AR (show i<9223372036854775807 by omega)]
      ·have hlow:=hm1 hl hu1
       simp -implicitDefEqProofs -proj only [go_sem,seval,m1,m2,E6,wi,hwl,wp,decide_eq_false (show ¬(i:Int)=(x.ts.length:Int)-1 by omega)]
       by_cases hr:0≤q.r∧q.r≤1000000000000
       rotate_left
       ·refine AK (Ej hr) ?_
        simp -implicitDefEqProofs -proj only [go_sem,seval]
        exact AJ (by rw [decide_eq_false (fun h=>hno (fun k=>hr k.1) h.1)])
       refine AK (Ef hr) ?_
       simp -implicitDefEqProofs -proj only [go_sem,seval,m1,m2]
       by_cases hu:FV x.ts i≤q.u∧q.u≤Fq x.ts i
       rotate_left
       ·refine AK (Ej (by rw [hlow.1,hlow.2] at hu; exact hu)) ?_
        simp -implicitDefEqProofs -proj only [go_sem,seval]
        exact AJ (by rw [decide_eq_false (fun h=>hno (fun k=>hu k.2) h.1)])
       refine AK (Ef (by rw [hlow.1,hlow.2] at hu; exact hu)) ?_
       simp -implicitDefEqProofs -proj only [go_sem,seval]
       refine Ac (i+1) ⟨by omega,hgo ⟨hr,hu⟩⟩ (by omega) rfl ?_ (Aj hb6' hk3)
       simp -implicitDefEqProofs -proj only [go_sem,seval,AL,AR (show i<9223372036854775807 by omega)]
     ·simp -implicitDefEqProofs -proj only [go_sem,seval,m1,m2,decide_eq_true (show 0<(i:Int) by omega),wi]
      (repeat' (with_reducible refine Aa ?_ (fun h=>?_); (focus first | decide | omega); clear h; try simp -implicitDefEqProofs -proj only [go_sem,seval,wi]))
      refine Ai _ (by omega) hep ?_
      simp -implicitDefEqProofs -proj only [go_sem,seval,m1,m2,wi]
      by_cases hl:i+1=x.ts.length
      ·have hlow:=hlast hl
       simp -implicitDefEqProofs -proj only [go_sem,seval,m1,m2,E6,wi,hwl,decide_eq_false hu1,decide_eq_true (show (i:Int)=(x.ts.length:Int)-1 by omega)]
       by_cases hr:0≤q.r∧q.r≤1000000000000
       rotate_left
       ·refine AK (Ej hr) ?_
        simp -implicitDefEqProofs -proj only [go_sem,seval]
        exact AJ (by rw [decide_eq_false (fun h=>hno (fun k=>hr k.1) h.1)])
       refine AK (Ef hr) ?_
       simp -implicitDefEqProofs -proj only [go_sem,seval,m1,m2]
       by_cases hu:FV x.ts i≤q.u∧q.u≤Fq x.ts i
       rotate_left
       ·refine AK (Ej (by rw [hlow.1,hlow.2] at hu; exact hu)) ?_
        simp -implicitDefEqProofs -proj only [go_sem,seval]
        exact AJ (by rw [decide_eq_false (fun h=>hno (fun k=>hu k.2) h.1)])
       refine AK (Ef (by rw [hlow.1,hlow.2] at hu; exact hu)) ?_
       simp -implicitDefEqProofs -proj only [go_sem,seval]
       refine Ac (i+1) ⟨by omega,hgo ⟨hr,hu⟩⟩ (by omega) rfl ?_ (Aj hb6' hk3)
       simp -implicitDefEqProofs -proj only [go_sem,seval,AL,AR (show i<9223372036854775807 by omega)]
      ·have hlow:=hm0 hl hu1
       simp -implicitDefEqProofs -proj only [go_sem,seval,m1,m2,E6,wi,hwl,decide_eq_false hu1,decide_eq_false (show ¬(i:Int)=(x.ts.length:Int)-1 by omega)]
       by_cases hr:0≤q.r∧q.r≤1000000000000
       rotate_left
       ·refine AK (Ej hr) ?_
        simp -implicitDefEqProofs -proj only [go_sem,seval]
        exact AJ (by rw [decide_eq_false (fun h=>hno (fun k=>hr k.1) h.1)])
       refine AK (Ef hr) ?_
       simp -implicitDefEqProofs -proj only [go_sem,seval,m1,m2]
       by_cases hu:FV x.ts i≤q.u∧q.u≤Fq x.ts i
       rotate_left
       ·refine AK (Ej (by rw [hlow.1,hlow.2] at hu; exact hu)) ?_
        simp -implicitDefEqProofs -proj only [go_sem,seval]
        exact AJ (by rw [decide_eq_false (fun h=>hno (fun k=>hu k.2) h.1)])
       refine AK (Ef (by rw [hlow.1,hlow.2] at hu; exact hu)) ?_
       simp -implicitDefEqProofs -proj only [go_sem,seval]
       refine Ac (i+1) ⟨by omega,hgo ⟨hr,hu⟩⟩ (by omega) rfl ?_ (Aj hb6' hk3)
       simp -implicitDefEqProofs -proj only [go_sem,seval,AL,AR (show i<9223372036854775807 by omega)]
   ·have hi':i=x.ts.length:=by omega
    subst hi'
    have hT:Hb x.ts:=fun j h1=>hs j h1 h1
    simp -implicitDefEqProofs -proj only [go_sem,seval,decide_eq_false (show ¬(x.ts.length:Int)<x.ts.length by omega),He]
    refine BJ (fun i:Nat=>i≤x.ad.length∧∀(j:Nat) (h:j<x.ad.length),j<i→Fs x.ad[j]) 160 (fun i=>[(126,Ec x.ad),(127,i64 x.ad.length),(128,i64 i)]) (fun _=>[]) (fun i=>x.ad.length-i) 0 ⟨Nat.zero_le _,fun j _ h=>absurd h (Nat.not_lt_zero _)⟩ rfl ?_ ?_ ?_
    ·simp -implicitDefEqProofs -proj only [go_sem,seval,AL]
    ·simp -implicitDefEqProofs -proj only [go_sem,seval,AS]
    ·rintro i ⟨hi,hs⟩
     by_cases h:i<x.ad.length
     ·have hel:=Nm h
      have hgo:Fs x.ad[i]→∀(j:Nat) (h:j<x.ad.length),j<i+1→Fs x.ad[j]:=by
       intro e j h1 h2
       by_cases hj:j=i
       ·subst hj; exact e
       ·exact hs j h1 (by omega)
      have hno:¬Fs x.ad[i]→¬IS x.ad:=fun e k=>e (k _ (List.getElem_mem h))
      generalize hq:x.ad[i]=q at *
      unfold Fs at hgo hno
      simp -implicitDefEqProofs -proj only [go_sem,seval,decide_eq_true (show (i:Int)<x.ad.length by omega)]
      refine Ai _ (by omega) hel ?_
      simp -implicitDefEqProofs -proj only [go_sem,seval]
      refine AI (fun b10 hb10=>?_)
      by_cases k1:q.k=1
      ·simp -implicitDefEqProofs -proj only [go_sem,seval,decide_eq_true k1]
       by_cases hn:0≤q.n∧q.n≤100000000
       rotate_left
       ·refine AK (Ej hn) ?_
        simp -implicitDefEqProofs -proj only [go_sem,seval]
        exact AJ (by rw [decide_eq_false (fun h=>hno (by omega) h.2)])
       refine AK (Ef hn) ?_
       simp -implicitDefEqProofs -proj only [go_sem,seval]
       by_cases hm:0≤q.m∧q.m≤3
       rotate_left
       ·refine AK (Ej hm) ?_
        simp -implicitDefEqProofs -proj only [go_sem,seval]
        exact AJ (by rw [decide_eq_false (fun h=>hno (by omega) h.2)])
       refine AK (Ef hm) ?_
       simp -implicitDefEqProofs -proj only [go_sem,seval]
       refine Ac (i+1) ⟨by omega,hgo (by omega)⟩ (by omega) rfl ?_ trivial
       simp -implicitDefEqProofs -proj only [go_sem,seval,AL,AR (show i<9223372036854775807 by omega)]
      ·by_cases k2:q.k=2
       ·simp -implicitDefEqProofs -proj only [go_sem,seval,decide_eq_false k1,decide_eq_true k2]
        by_cases hn:0≤q.n∧q.n≤1000000000000
        rotate_left
        ·refine AK (Ej hn) ?_
         simp -implicitDefEqProofs -proj only [go_sem,seval]
         exact AJ (by rw [decide_eq_false (fun h=>hno (by omega) h.2)])
        refine AK (Ef hn) ?_
        by_cases hm:q.m=0
        rotate_left
        ·simp -implicitDefEqProofs -proj only [go_sem,seval,decide_eq_false hm]
         exact AJ (by rw [decide_eq_false (fun h=>hno (by omega) h.2)])
        simp -implicitDefEqProofs -proj only [go_sem,seval,decide_eq_true hm]
        refine Ac (i+1) ⟨by omega,hgo (by omega)⟩ (by omega) rfl ?_ trivial
        simp -implicitDefEqProofs -proj only [go_sem,seval,AL,AR (show i<9223372036854775807 by omega)]
       ·by_cases k3:q.k=3
        ·simp -implicitDefEqProofs -proj only [go_sem,seval,decide_eq_false k1,decide_eq_false k2,decide_eq_true k3]
         by_cases hn:0≤q.n∧q.n≤1000000000000
         rotate_left
         ·refine AK (Ej hn) ?_
          simp -implicitDefEqProofs -proj only [go_sem,seval]
          exact AJ (by rw [decide_eq_false (fun h=>hno (by omega) h.2)])
         refine AK (Ef hn) ?_
         by_cases hm:q.m=0
         rotate_left
         ·simp -implicitDefEqProofs -proj only [go_sem,seval,decide_eq_false hm]
          exact AJ (by rw [decide_eq_false (fun h=>hno (by omega) h.2)])
         simp -implicitDefEqProofs -proj only [go_sem,seval,decide_eq_true hm]
         refine Ac (i+1) ⟨by omega,hgo (by omega)⟩ (by omega) rfl ?_ trivial
         simp -implicitDefEqProofs -proj only [go_sem,seval,AL,AR (show i<9223372036854775807 by omega)]
        ·by_cases k4:q.k=4
         ·simp -implicitDefEqProofs -proj only [go_sem,seval,decide_eq_false k1,decide_eq_false k2,decide_eq_false k3,decide_eq_true k4]
          by_cases hn:0≤q.n∧q.n≤1000000000000
          rotate_left
          ·refine AK (Ej hn) ?_
           simp -implicitDefEqProofs -proj only [go_sem,seval]
           exact AJ (by rw [decide_eq_false (fun h=>hno (by omega) h.2)])
          refine AK (Ef hn) ?_
          by_cases hm:q.m=0
          rotate_left
          ·simp -implicitDefEqProofs -proj only [go_sem,seval,decide_eq_false hm]
           exact AJ (by rw [decide_eq_false (fun h=>hno (by omega) h.2)])
          simp -implicitDefEqProofs -proj only [go_sem,seval,decide_eq_true hm]
          refine Ac (i+1) ⟨by omega,hgo (by omega)⟩ (by omega) rfl ?_ trivial
          simp -implicitDefEqProofs -proj only [go_sem,seval,AL,AR (show i<9223372036854775807 by omega)]
         ·simp -implicitDefEqProofs -proj only [go_sem,seval,decide_eq_false k1,decide_eq_false k2,decide_eq_false k3,decide_eq_false k4]
          exact AJ (by rw [decide_eq_false (fun h=>hno (by omega) h.2)])
     ·have hi':i=x.ad.length:=by omega
      subst hi'
      have hA:IS x.ad:=fun a ha=>by obtain ⟨j,h1,rfl⟩:=List.getElem_of_mem ha; exact hs j h1 h1
      simp -implicitDefEqProofs -proj only [go_sem,seval,decide_eq_false (show ¬(x.ad.length:Int)<x.ad.length by omega)]
      exact AJ (by rw [decide_eq_true ⟨hT,hA⟩])
 ·simp -implicitDefEqProofs -proj only [go_sem,seval,n1,n2,decide_eq_false (show ¬x.ki=1 by omega),decide_eq_true g6]
  refine AK (Ef g7) ?_
  simp -implicitDefEqProofs -proj only [go_sem,seval,n1,n2,E6,He,e1,e2,e3]
  refine BJ (fun i:Nat=>i≤x.ts.length∧∀(j:Nat) (h:j<x.ts.length),j<i→Gc x.ts j x.ts[j]) 160 (fun i=>[(78,EZ x.ts),(79,i64 x.ts.length),(80,i64 i),(3,.ptr b3 0)]) (fun _=>[(b3,.box 40 [i64 x.me,i64 x.f,i64 x.t,i64 x.al,i64 x.bl,i64 x.ki,EZ x.ts,i64 x.mo,Ec x.ad])]) (fun i=>x.ts.length-i) 0 ⟨Nat.zero_le _,fun j _ h=>absurd h (Nat.not_lt_zero _)⟩ rfl ?_ ?_ ?_
  ·simp -implicitDefEqProofs -proj only [go_sem,seval,AL]
  ·simp -implicitDefEqProofs -proj only [go_sem,seval,AS]
  ·rintro i ⟨hi,hs⟩
   have hk3:AS (Ad [(b3,.box 40 [i64 x.me,i64 x.f,i64 x.t,i64 x.al,i64 x.bl,i64 x.ki,EZ x.ts,i64 x.mo,Ec x.ad])]) [(b3,.box 40 [i64 x.me,i64 x.f,i64 x.t,i64 x.al,i64 x.bl,i64 x.ki,EZ x.ts,i64 x.mo,Ec x.ad])]:=EQ (by simp [AN])
   have h3:=hk3.1
   by_cases h:i<x.ts.length
   ·have hel:=JK h
    have hgo:Gc x.ts i x.ts[i]→∀(j:Nat) (h:j<x.ts.length),j<i+1→Gc x.ts j x.ts[j]:=by
     intro e j h1 h2
     by_cases hj:j=i
     ·subst hj; exact e
     ·exact hs j h1 (by omega)
    have hno:¬Gc x.ts i x.ts[i]→¬Hb x.ts:=fun e k=>e (k i h)
    have hlast:i+1=x.ts.length→FV x.ts i=0∧Fq x.ts i=0:=QU
    have hwl:IntKind.i64.wrap ((x.ts.length:Int)-1)=(x.ts.length:Int)-1:=by rw [IntKind.wrap_i64]; omega
    generalize hq:x.ts[i]=q at *
    simp -implicitDefEqProofs -proj only [go_sem,seval,decide_eq_true (show (i:Int)<x.ts.length by omega)]
    refine Ai _ (by omega) hel ?_
    simp -implicitDefEqProofs -proj only [go_sem,seval]
    refine AI (fun b6 hb6=>?_)
    have hb6':=hb6
    replace hb6:Ad [(b3,Blk.box 40 [i64 x.me,i64 x.f,i64 x.t,i64 x.al,i64 x.bl,i64 x.ki,EZ x.ts,i64 x.mo,Ec x.ad])] b6=none:=hb6
    obtain ⟨m1,m2⟩:=AG hb6 h3
    by_cases h0:i=0
    ·by_cases hl:i+1=x.ts.length
     ·have hlow:=hlast hl
      simp -implicitDefEqProofs -proj only [go_sem,seval,m1,m2,E6,hwl,decide_eq_false (show ¬0<(i:Int) by omega),decide_eq_true (show (i:Int)=(x.ts.length:Int)-1 by omega)]
      by_cases hr:0≤q.r∧q.r≤1000000000000
      rotate_left
      ·refine AK (Ej hr) ?_
       simp -implicitDefEqProofs -proj only [go_sem,seval]
       exact AJ (by rw [decide_eq_false (fun h=>hno (fun k=>hr k.1) h.1)])
      refine AK (Ef hr) ?_
      simp -implicitDefEqProofs -proj only [go_sem,seval,m1,m2]
      by_cases hu:FV x.ts i≤q.u∧q.u≤Fq x.ts i
      rotate_left
      ·refine AK (Ej (by rw [hlow.1,hlow.2] at hu; exact hu)) ?_
       simp -implicitDefEqProofs -proj only [go_sem,seval]
       exact AJ (by rw [decide_eq_false (fun h=>hno (fun k=>hu k.2) h.1)])
      refine AK (Ef (by rw [hlow.1,hlow.2] at hu; exact hu)) ?_
      simp -implicitDefEqProofs -proj only [go_sem,seval]
      refine Ac (i+1) ⟨by omega,hgo ⟨hr,hu⟩⟩ (by omega) rfl ?_ (Aj hb6' hk3)
      simp -implicitDefEqProofs -proj only [go_sem,seval,AL,AR (show i<9223372036854775807 by omega)]
     ·have hlow:FV x.ts i=1∧Fq x.ts i=1000000:=by subst h0; exact Mr hl
      simp -implicitDefEqProofs -proj only [go_sem,seval,m1,m2,E6,hwl,decide_eq_false (show ¬0<(i:Int) by omega),decide_eq_false (show ¬(i:Int)=(x.ts.length:Int)-1 by omega)]
      by_cases hr:0≤q.r∧q.r≤1000000000000
      rotate_left
      ·refine AK (Ej hr) ?_
       simp -implicitDefEqProofs -proj only [go_sem,seval]
       exact AJ (by rw [decide_eq_false (fun h=>hno (fun k=>hr k.1) h.1)])
      refine AK (Ef hr) ?_
      simp -implicitDefEqProofs -proj only [go_sem,seval,m1,m2]
      by_cases hu:FV x.ts i≤q.u∧q.u≤Fq x.ts i
      rotate_left
      ·refine AK (Ej (by rw [hlow.1,hlow.2] at hu; exact hu)) ?_
       simp -implicitDefEqProofs -proj only [go_sem,seval]
       exact AJ (by rw [decide_eq_false (fun h=>hno (fun k=>hu k.2) h.1)])
      refine AK (Ef (by rw [hlow.1,hlow.2] at hu; exact hu)) ?_
      simp -implicitDefEqProofs -proj only [go_sem,seval]
      refine Ac (i+1) ⟨by omega,hgo ⟨hr,hu⟩⟩ (by omega) rfl ?_ (Aj hb6' hk3)
      simp -implicitDefEqProofs -proj only [go_sem,seval,AL,AR (show i<9223372036854775807 by omega)]
    ·have wi:IntKind.i64.wrap ((i:Int)-1)=((i-1:Nat):Int):=by rw [IntKind.wrap_i64]; omega
     have hep:=JK (l:=x.ts) (i:=i-1) (by omega)
     have hm1:=@ME x.ts i (by omega) (by omega)
     have hm0:=@Py x.ts i (by omega) (by omega)
     obtain ⟨p,hp⟩:∃p,x.ts[i-1]'(by omega)=p:=⟨_,rfl⟩
     rw [hp] at hep hm1 hm0
     clear hp
     by_cases hu1:1≤p.u
     ·have wp:IntKind.i64.wrap (min p.u 1000000+1)=min p.u 1000000+1:=by rw [IntKind.wrap_i64]; omega
      simp -implicitDefEqProofs -proj only [go_sem,seval,m1,m2,decide_eq_true (show 0<(i:Int) by omega),wi]
      (repeat' (with_reducible refine Aa ?_ (fun h=>?_); (focus first | decide | omega); clear h; try simp -implicitDefEqProofs -proj only [go_sem,seval,wi]))
      refine Ai _ (by omega) hep ?_
      simp -implicitDefEqProofs -proj only [go_sem,seval,m1,m2,wi]
      simp -implicitDefEqProofs -proj only [go_sem,seval,m1,m2,wi,decide_eq_true hu1]
      (repeat' (with_reducible refine Aa ?_ (fun h=>?_); (focus first | decide | omega); clear h; try simp -implicitDefEqProofs -proj only [go_sem,seval,wi]))
      refine Ai _ (by omega) hep ?_
      by_cases hl:i+1=x.ts.length
      ·have hlow:=hlast hl
       simp -implicitDefEqProofs -proj only [go_sem,seval,m1,m2,E6,wi,hwl,wp,decide_eq_true (show (i:Int)=(x.ts.length:Int)-1 by omega)]
       by_cases hr:0≤q.r∧q.r≤1000000000000
       rotate_left
       ·refine AK (Ej hr) ?_
        simp -implicitDefEqProofs -proj only [go_sem,seval]
        exact AJ (by rw [decide_eq_false (fun h=>hno (fun k=>hr k.1) h.1)])
       refine AK (Ef hr) ?_
       simp -implicitDefEqProofs -proj only [go_sem,seval,m1,m2]
       by_cases hu:FV x.ts i≤q.u∧q.u≤Fq x.ts i
       rotate_left
       ·refine AK (Ej (by rw [hlow.1,hlow.2] at hu; exact hu)) ?_
        simp -implicitDefEqProofs -proj only [go_sem,seval]
        exact AJ (by rw [decide_eq_false (fun h=>hno (fun k=>hu k.2) h.1)])
       refine AK (Ef (by rw [hlow.1,hlow.2] at hu; exact hu)) ?_
       simp -implicitDefEqProofs -proj only [go_sem,seval]
       refine Ac (i+1) ⟨by omega,hgo ⟨hr,hu⟩⟩ (by omega) rfl ?_ (Aj hb6' hk3)
       simp -implicitDefEqProofs -proj only [go_sem,seval,AL,AR (show i<9223372036854775807 by omega)]
      ·have hlow:=hm1 hl hu1
       simp -implicitDefEqProofs -proj only [go_sem,seval,m1,m2,E6,wi,hwl,wp,decide_eq_false (show ¬(i:Int)=(x.ts.length:Int)-1 by omega)]
       by_cases hr:0≤q.r∧q.r≤1000000000000
       rotate_left
       ·refine AK (Ej hr) ?_
        simp -implicitDefEqProofs -proj only [go_sem,seval]
        exact AJ (by rw [decide_eq_false (fun h=>hno (fun k=>hr k.1) h.1)])
       refine AK (Ef hr) ?_
       simp -implicitDefEqProofs -proj only [go_sem,seval,m1,m2]
       by_cases hu:FV x.ts i≤q.u∧q.u≤Fq x.ts i
       rotate_left
       ·refine AK (Ej (by rw [hlow.1,hlow.2] at hu; exact hu)) ?_
        simp -implicitDefEqProofs -proj only [go_sem,seval]
        exact AJ (by rw [decide_eq_false (fun h=>hno (fun k=>hu k.2) h.1)])
       refine AK (Ef (by rw [hlow.1,hlow.2] at hu; exact hu)) ?_
       simp -implicitDefEqProofs -proj only [go_sem,seval]
       refine Ac (i+1) ⟨by omega,hgo ⟨hr,hu⟩⟩ (by omega) rfl ?_ (Aj hb6' hk3)
       simp -implicitDefEqProofs -proj only [go_sem,seval,AL,AR (show i<9223372036854775807 by omega)]
     ·simp -implicitDefEqProofs -proj only [go_sem,seval,m1,m2,decide_eq_true (show 0<(i:Int) by omega),wi]
      (repeat' (with_reducible refine Aa ?_ (fun h=>?_); (focus first | decide | omega); clear h; try simp -implicitDefEqProofs -proj only [go_sem,seval,wi]))
      refine Ai _ (by omega) hep ?_
      simp -implicitDefEqProofs -proj only [go_sem,seval,m1,m2,wi]
      by_cases hl:i+1=x.ts.length
      ·have hlow:=hlast hl
       simp -implicitDefEqProofs -proj only [go_sem,seval,m1,m2,E6,wi,hwl,decide_eq_false hu1,decide_eq_true (show (i:Int)=(x.ts.length:Int)-1 by omega)]
       by_cases hr:0≤q.r∧q.r≤1000000000000
       rotate_left
       ·refine AK (Ej hr) ?_
        simp -implicitDefEqProofs -proj only [go_sem,seval]
        exact AJ (by rw [decide_eq_false (fun h=>hno (fun k=>hr k.1) h.1)])
       refine AK (Ef hr) ?_
       simp -implicitDefEqProofs -proj only [go_sem,seval,m1,m2]
       by_cases hu:FV x.ts i≤q.u∧q.u≤Fq x.ts i
       rotate_left
       ·refine AK (Ej (by rw [hlow.1,hlow.2] at hu; exact hu)) ?_
        simp -implicitDefEqProofs -proj only [go_sem,seval]
        exact AJ (by rw [decide_eq_false (fun h=>hno (fun k=>hu k.2) h.1)])
       refine AK (Ef (by rw [hlow.1,hlow.2] at hu; exact hu)) ?_
       simp -implicitDefEqProofs -proj only [go_sem,seval]
       refine Ac (i+1) ⟨by omega,hgo ⟨hr,hu⟩⟩ (by omega) rfl ?_ (Aj hb6' hk3)
       simp -implicitDefEqProofs -proj only [go_sem,seval,AL,AR (show i<9223372036854775807 by omega)]
      ·have hlow:=hm0 hl hu1
       simp -implicitDefEqProofs -proj only [go_sem,seval,m1,m2,E6,wi,hwl,decide_eq_false hu1,decide_eq_false (show ¬(i:Int)=(x.ts.length:Int)-1 by omega)]
       by_cases hr:0≤q.r∧q.r≤1000000000000
       rotate_left
       ·refine AK (Ej hr) ?_
        simp -implicitDefEqProofs -proj only [go_sem,seval]
        exact AJ (by rw [decide_eq_false (fun h=>hno (fun k=>hr k.1) h.1)])
       refine AK (Ef hr) ?_
       simp -implicitDefEqProofs -proj only [go_sem,seval,m1,m2]
       by_cases hu:FV x.ts i≤q.u∧q.u≤Fq x.ts i
       rotate_left
       ·refine AK (Ej (by rw [hlow.1,hlow.2] at hu; exact hu)) ?_
        simp -implicitDefEqProofs -proj only [go_sem,seval]
        exact AJ (by rw [decide_eq_false (fun h=>hno (fun k=>hu k.2) h.1)])
       refine AK (Ef (by rw [hlow.1,hlow.2] at hu; exact hu)) ?_
       simp -implicitDefEqProofs -proj only [go_sem,seval]
       refine Ac (i+1) ⟨by omega,hgo ⟨hr,hu⟩⟩ (by omega) rfl ?_ (Aj hb6' hk3)
       simp -implicitDefEqProofs -proj only [go_sem,seval,AL,AR (show i<9223372036854775807 by omega)]
   ·have hi':i=x.ts.length:=by omega
    subst hi'
    have hT:Hb x.ts:=fun j h1=>hs j h1 h1
    simp -implicitDefEqProofs -proj only [go_sem,seval,decide_eq_false (show ¬(x.ts.length:Int)<x.ts.length by omega),He]
    refine BJ (fun i:Nat=>i≤x.ad.length∧∀(j:Nat) (h:j<x.ad.length),j<i→Fs x.ad[j]) 160 (fun i=>[(126,Ec x.ad),(127,i64 x.ad.length),(128,i64 i)]) (fun _=>[]) (fun i=>x.ad.length-i) 0 ⟨Nat.zero_le _,fun j _ h=>absurd h (Nat.not_lt_zero _)⟩ rfl ?_ ?_ ?_
    ·simp -implicitDefEqProofs -proj only [go_sem,seval,AL]
    ·simp -implicitDefEqProofs -proj only [go_sem,seval,AS]
    ·rintro i ⟨hi,hs⟩
     by_cases h:i<x.ad.length
     ·have hel:=Nm h
      have hgo:Fs x.ad[i]→∀(j:Nat) (h:j<x.ad.length),j<i+1→Fs x.ad[j]:=by
       intro e j h1 h2
       by_cases hj:j=i
       ·subst hj; exact e
       ·exact hs j h1 (by omega)
      have hno:¬Fs x.ad[i]→¬IS x.ad:=fun e k=>e (k _ (List.getElem_mem h))
      generalize hq:x.ad[i]=q at *
      unfold Fs at hgo hno
      simp -implicitDefEqProofs -proj only [go_sem,seval,decide_eq_true (show (i:Int)<x.ad.length by omega)]
      refine Ai _ (by omega) hel ?_
      simp -implicitDefEqProofs -proj only [go_sem,seval]
      refine AI (fun b10 hb10=>?_)
      by_cases k1:q.k=1
      ·simp -implicitDefEqProofs -proj only [go_sem,seval,decide_eq_true k1]
       by_cases hn:0≤q.n∧q.n≤100000000
       rotate_left
       ·refine AK (Ej hn) ?_
        simp -implicitDefEqProofs -proj only [go_sem,seval]
        exact AJ (by rw [decide_eq_false (fun h=>hno (by omega) h.2)])
       refine AK (Ef hn) ?_
       simp -implicitDefEqProofs -proj only [go_sem,seval]
       by_cases hm:0≤q.m∧q.m≤3
       rotate_left
       ·refine AK (Ej hm) ?_
        simp -implicitDefEqProofs -proj only [go_sem,seval]
        exact AJ (by rw [decide_eq_false (fun h=>hno (by omega) h.2)])
       refine AK (Ef hm) ?_
       simp -implicitDefEqProofs -proj only [go_sem,seval]
       refine Ac (i+1) ⟨by omega,hgo (by omega)⟩ (by omega) rfl ?_ trivial
       simp -implicitDefEqProofs -proj only [go_sem,seval,AL,AR (show i<9223372036854775807 by omega)]
      ·by_cases k2:q.k=2
       ·simp -implicitDefEqProofs -proj only [go_sem,seval,decide_eq_false k1,decide_eq_true k2]
        by_cases hn:0≤q.n∧q.n≤1000000000000
        rotate_left
        ·refine AK (Ej hn) ?_
         simp -implicitDefEqProofs -proj only [go_sem,seval]
         exact AJ (by rw [decide_eq_false (fun h=>hno (by omega) h.2)])
        refine AK (Ef hn) ?_
        by_cases hm:q.m=0
        rotate_left
        ·simp -implicitDefEqProofs -proj only [go_sem,seval,decide_eq_false hm]
         exact AJ (by rw [decide_eq_false (fun h=>hno (by omega) h.2)])
        simp -implicitDefEqProofs -proj only [go_sem,seval,decide_eq_true hm]
        refine Ac (i+1) ⟨by omega,hgo (by omega)⟩ (by omega) rfl ?_ trivial
        simp -implicitDefEqProofs -proj only [go_sem,seval,AL,AR (show i<9223372036854775807 by omega)]
       ·by_cases k3:q.k=3
        ·simp -implicitDefEqProofs -proj only [go_sem,seval,decide_eq_false k1,decide_eq_false k2,decide_eq_true k3]
         by_cases hn:0≤q.n∧q.n≤1000000000000
         rotate_left
         ·refine AK (Ej hn) ?_
          simp -implicitDefEqProofs -proj only [go_sem,seval]
          exact AJ (by rw [decide_eq_false (fun h=>hno (by omega) h.2)])
         refine AK (Ef hn) ?_
         by_cases hm:q.m=0
         rotate_left
         ·simp -implicitDefEqProofs -proj only [go_sem,seval,decide_eq_false hm]
          exact AJ (by rw [decide_eq_false (fun h=>hno (by omega) h.2)])
         simp -implicitDefEqProofs -proj only [go_sem,seval,decide_eq_true hm]
         refine Ac (i+1) ⟨by omega,hgo (by omega)⟩ (by omega) rfl ?_ trivial
         simp -implicitDefEqProofs -proj only [go_sem,seval,AL,AR (show i<9223372036854775807 by omega)]
        ·by_cases k4:q.k=4
         ·simp -implicitDefEqProofs -proj only [go_sem,seval,decide_eq_false k1,decide_eq_false k2,decide_eq_false k3,decide_eq_true k4]
          by_cases hn:0≤q.n∧q.n≤1000000000000
          rotate_left
          ·refine AK (Ej hn) ?_
           simp -implicitDefEqProofs -proj only [go_sem,seval]
           exact AJ (by rw [decide_eq_false (fun h=>hno (by omega) h.2)])
          refine AK (Ef hn) ?_
          by_cases hm:q.m=0
          rotate_left
          ·simp -implicitDefEqProofs -proj only [go_sem,seval,decide_eq_false hm]
           exact AJ (by rw [decide_eq_false (fun h=>hno (by omega) h.2)])
          simp -implicitDefEqProofs -proj only [go_sem,seval,decide_eq_true hm]
          refine Ac (i+1) ⟨by omega,hgo (by omega)⟩ (by omega) rfl ?_ trivial
          simp -implicitDefEqProofs -proj only [go_sem,seval,AL,AR (show i<9223372036854775807 by omega)]
         ·simp -implicitDefEqProofs -proj only [go_sem,seval,decide_eq_false k1,decide_eq_false k2,decide_eq_false k3,decide_eq_false k4]
          exact AJ (by rw [decide_eq_false (fun h=>hno (by omega) h.2)])
     ·have hi':i=x.ad.length:=by omega
      subst hi'
      have hA:IS x.ad:=fun a ha=>by obtain ⟨j,h1,rfl⟩:=List.getElem_of_mem ha; exact hs j h1 h1
      simp -implicitDefEqProofs -proj only [go_sem,seval,decide_eq_false (show ¬(x.ad.length:Int)<x.ad.length by omega)]
      exact AJ (by rw [decide_eq_true ⟨hT,hA⟩])
def L7 (a b:ByteArray):Bool:=Op.bytesLess a.toList b.toList
def Ie (ms:List MeterX) (i:Nat) (m:MeterX):Prop:=(0≤m.mx∧m.mx≤2000)∧m.ln=0∧m.co=0∧∀p,ms[i-1]? = some p→0<i→L7 p.nm m.nm=true
def Ht (f t:Int) (s:SumX):Prop:=(0≤s.a∧s.a≤1000000000000)∧(f≤s.f∧s.f≤s.t∧s.t≤t)
def KI (c:CoreX):Prop:=(0≤c.f∧c.f≤3652058)∧(c.f≤c.t∧c.t≤3652058)∧c.t-c.f≤3999∧c.ms.length≤4∧c.ss.length≤8∧c.ps.length≤8
def ABu (ms:List MeterX):Prop:=∀(i:Nat) (h:i<ms.length),Ie ms i ms[i]
structure goodC (c:CoreX):Prop where
 hd:KI c
 ms:ABu c.ms
 ss:∀s∈c.ss,Ht c.f c.t s
 ps:∀x∈c.ps,GW c.f c.t c.ms.length x
noncomputable instance (c:CoreX):Decidable (goodC c):=Classical.propDecidable _
theorem AFQ {cur:ByteArray} {f t:Int} {ms ss ps:List (List D)} {x:PartX}:DataW Tryz.prog QA [Kq cur f t ms ss ps,GK x] (bv (decide (GW f t ms.length x))):=by
 by_cases h:Hq f t ms.length x
 ·have:=AKn (cur:=cur) (ss:=ss) (ps:=ps) h
  rwa [show decide (Hb x.ts∧IS x.ad)=decide (GW f t ms.length x) from decide_eq_decide.2 ⟨fun k=>⟨h,k⟩,fun k=>k.2⟩] at this
 ·have:=AAj (cur:=cur) (ss:=ss) (ps:=ps) h
  rwa [show false=decide (GW f t ms.length x) from (decide_eq_false (fun k=>h k.1)).symm] at this
theorem IZ {α:Type} {l:List α} {P:Nat→α→Prop} {i:Nat} {x : α} (hi:l[i]? = some x) (hs:∀(j:Nat) (h:j<l.length),j<i→P j l[j]) (hx:P i x):∀(j:Nat) (h:j<l.length),j<i+1→P j l[j]:=by
 intro j h1 h2
 by_cases hj:j=i
 ·subst hj
  rw [List.getElem?_eq_getElem h1] at hi
  cases hi
  exact hx
 ·exact hs j h1 (by omega)
set_option maxRecDepth 20000 in
theorem RO {c:CoreX} (hc:c.Fit):DataW Tryz.prog ATj [Gz c] (bv (decide (goodC c))):=by
 obtain ⟨cur,f,t,ms,ss,ps⟩:=c
 obtain ⟨hff,hft,_,hmn,_,hsn,_,hpn⟩:=hc
 simp -implicitDefEqProofs only [] at hff hft hmn hsn hpn
 have hno:¬KI ⟨cur,f,t,ms,ss,ps⟩→decide (goodC ⟨cur,f,t,ms,ss,ps⟩)=false:=fun h=>decide_eq_false (fun k=>h k.hd)
 unfold KI at hno
 simp -implicitDefEqProofs only [] at hno
 refine AZ AL4 (by simp) ?_
 simp -implicitDefEqProofs -proj only [go_sem,seval]
 refine AI (fun b1 hb1=>?_)
 simp -implicitDefEqProofs -proj only [go_sem,seval]
 by_cases g1:0≤f∧f≤3652058
 rotate_left
 ·refine AK (Ej g1) ?_
  simp -implicitDefEqProofs -proj only [go_sem,seval]
  exact AJ (by rw [hno (fun k=>g1 k.1)])
 refine AK (Ef g1) ?_
 simp -implicitDefEqProofs -proj only [go_sem,seval]
 by_cases g2:f≤t∧t≤3652058
 rotate_left
 ·refine AK (Ej g2) ?_
  simp -implicitDefEqProofs -proj only [go_sem,seval]
  exact AJ (by rw [hno (fun k=>g2 k.2.1)])
 refine AK (Ef g2) ?_
 have w1:IntKind.i64.wrap (t-f)=t-f:=by rw [IntKind.wrap_i64]; omega
 by_cases g3:3999<t-f
 ·simp -implicitDefEqProofs -proj only [go_sem,seval,w1,decide_eq_true g3]
  exact AJ (by rw [hno (fun k=>by omega)])
 by_cases g4:4<(ms.length:Int)
 ·simp -implicitDefEqProofs -proj only [go_sem,seval,w1,FO,Fr,FR,decide_eq_false g3,decide_eq_true g4]
  exact AJ (by rw [hno (fun k=>by omega)])
 by_cases g5:8<(ss.length:Int)
 ·simp -implicitDefEqProofs -proj only [go_sem,seval,w1,FO,Fr,FR,decide_eq_false g3,decide_eq_false g4,decide_eq_true g5]
  exact AJ (by rw [hno (fun k=>by omega)])
 by_cases g6:8<(ps.length:Int)
 ·simp -implicitDefEqProofs -proj only [go_sem,seval,w1,FO,Fr,FR,decide_eq_false g3,decide_eq_false g4,decide_eq_false g5,decide_eq_true g6]
  exact AJ (by rw [hno (fun k=>by omega)])
 have hhd:KI ⟨cur,f,t,ms,ss,ps⟩:=⟨g1,g2,show t-f≤3999 by omega,show ms.length≤4 by omega,show ss.length≤8 by omega,show ps.length≤8 by omega⟩
 clear hno
 simp -implicitDefEqProofs -proj only [go_sem,seval,w1,FO,Fr,FR,decide_eq_false g3,decide_eq_false g4,decide_eq_false g5,decide_eq_false g6]
 refine BJ (fun i:Nat=>i≤ms.length∧∀(j:Nat) (h:j<ms.length),j<i→Ie ms j ms[j]) 120 (fun i=>[(1,.ptr b1 0),(48,.d (.sl 5 (BV ms))),(49,i64 ms.length),(50,i64 i)]) (fun _=>[(b1,.box 26 [.d (.str cur),i64 f,i64 t,.d (.sl 5 (BV ms)),.d (.sl 3 (Ey ss)),.d (.sl 9 (Ea ps))])]) (fun i=>ms.length-i) 0 ⟨Nat.zero_le _,fun j _ h=>absurd h (Nat.not_lt_zero _)⟩ rfl ?_ ?_ ?_
 ·simp -implicitDefEqProofs -proj only [go_sem,seval,AL]
 ·simp -implicitDefEqProofs -proj only [go_sem,seval,AS]
 ·rintro i ⟨hi,hs⟩
  have hk:AS (Ad [(b1,.box 26 [.d (.str cur),i64 f,i64 t,.d (.sl 5 (BV ms)),.d (.sl 3 (Ey ss)),.d (.sl 9 (Ea ps))])]) [(b1,.box 26 [.d (.str cur),i64 f,i64 t,.d (.sl 5 (BV ms)),.d (.sl 3 (Ey ss)),.d (.sl 9 (Ea ps))])]:=EQ (by simp [AN])
  have k1:=hk.1
  by_cases h:i<ms.length
  ·have hel:=G8 h
   have hno:¬Ie ms i ms[i]→decide (goodC ⟨cur,f,t,ms,ss,ps⟩)=false:=fun e=>decide_eq_false fun k=>e (k.ms i h)
   have hgo:Ie ms i ms[i]→∀(j:Nat) (h:j<ms.length),j<i+1→Ie ms j ms[j]:=IZ (List.getElem?_eq_getElem h) hs
   generalize ms[i]=m at *
   unfold Ie at hno hgo
   simp -implicitDefEqProofs -proj only [go_sem,seval,decide_eq_true (show (i:Int)<ms.length by omega)]
   refine Ai _ (by omega) hel ?_
   simp -implicitDefEqProofs -proj only [go_sem,seval]
   refine AI (fun b4 hb4=>?_)
   replace hb4:Ad [(b1,Blk.box 26 [.d (.str cur),i64 f,i64 t,.d (.sl 5 (BV ms)),.d (.sl 3 (Ey ss)),.d (.sl 9 (Ea ps))])] b4=none:=hb4
   obtain ⟨n1,n2⟩:=AG hb4 k1
   simp -implicitDefEqProofs -proj only [go_sem,seval,n1,n2]
   by_cases c1:0≤m.mx∧m.mx≤2000
   rotate_left
   ·refine AK (Ej c1) ?_
    simp -implicitDefEqProofs -proj only [go_sem,seval]
    exact AJ (by rw [hno (fun k=>c1 k.1)])
   refine AK (Ef c1) ?_
   by_cases c2:m.ln=0
   rotate_left
   ·simp -implicitDefEqProofs -proj only [go_sem,seval,n1,n2,decide_eq_false c2]
    exact AJ (by rw [hno (fun k=>c2 k.2.1)])
   by_cases c3:m.co=0
   rotate_left
   ·simp -implicitDefEqProofs -proj only [go_sem,seval,n1,n2,decide_eq_true c2,decide_eq_false c3]
    exact AJ (by rw [hno (fun k=>c3 k.2.2.1)])
   by_cases c4:i=0
   ·simp -implicitDefEqProofs -proj only [go_sem,seval,n1,n2,decide_eq_true c2,decide_eq_true c3,decide_eq_false (show ¬0<(i:Int) by omega)]
    refine Ac (i+1) ⟨by omega,hgo ⟨c1,c2,c3,fun p _ h=>absurd h (by omega)⟩⟩ (by show ms.length-(i+1)<ms.length-i; omega) rfl ?_ (Aj hb4 hk)
    simp -implicitDefEqProofs -proj only [go_sem,seval,AL,AR (show i<9223372036854775807 by omega)]
   ·have hw:IntKind.i64.wrap ((i:Int)-1)=((i-1:Nat):Int):=by rw [IntKind.wrap_i64]; omega
    have hip:i-1<ms.length:=by omega
    have hel2:=G8 hip
    have hpe:ms[i-1]? = some ms[i-1]:=List.getElem?_eq_getElem hip
    generalize ms[i-1]=p at *
    simp -implicitDefEqProofs -proj only [go_sem,seval,n1,n2,k1,hw,decide_eq_true c2,decide_eq_true c3,decide_eq_true (show 0<(i:Int) by omega)]
    refine Ai _ (by omega) hel2 ?_
    by_cases c5:L7 p.nm m.nm=true
    ·have c5':Op.bytesLess p.nm.toList m.nm.toList=true:=c5
     simp -implicitDefEqProofs -proj only [go_sem,seval,n1,n2,S4,c5']
     refine Ac (i+1) ⟨by omega,hgo ⟨c1,c2,c3,fun q hq _=>by rw [hpe] at hq; cases hq; exact c5⟩⟩ (by show ms.length-(i+1)<ms.length-i; omega) rfl ?_ (Aj hb4 hk)
     simp -implicitDefEqProofs -proj only [go_sem,seval,AL,AR (show i<9223372036854775807 by omega)]
    ·have c5':Op.bytesLess p.nm.toList m.nm.toList=false:=by simpa [L7] using c5
     simp -implicitDefEqProofs -proj only [go_sem,seval,n1,n2,S4,c5']
     exact AJ (by rw [hno (fun k=>c5 (k.2.2.2 p hpe (by omega)))])
  ·have hi':i=ms.length:=by omega
   subst hi'
   simp -implicitDefEqProofs -proj only [go_sem,seval,k1,Fr,decide_eq_false (show ¬(ms.length:Int)<ms.length by omega)]
   refine BJ (fun i:Nat=>i≤ss.length∧∀(j:Nat) (h:j<ss.length),j<i→Ht f t ss[j]) 120 (fun i=>[(1,.ptr b1 0),(88,.d (.sl 3 (Ey ss))),(89,i64 ss.length),(90,i64 i)]) (fun _=>[(b1,.box 26 [.d (.str cur),i64 f,i64 t,.d (.sl 5 (BV ms)),.d (.sl 3 (Ey ss)),.d (.sl 9 (Ea ps))])]) (fun i=>ss.length-i) 0 ⟨Nat.zero_le _,fun j _ h=>absurd h (Nat.not_lt_zero _)⟩ rfl ?_ ?_ ?_
   ·simp -implicitDefEqProofs -proj only [go_sem,seval,AL]
   ·exact hk
   ·rintro i ⟨hi2,hs2⟩
    by_cases h2:i<ss.length
    ·have hel:=KM h2
     have hno:¬Ht f t ss[i]→decide (goodC ⟨cur,f,t,ms,ss,ps⟩)=false:=fun e=>decide_eq_false fun k=>e (k.ss _ (List.getElem_mem h2))
     have hgo:Ht f t ss[i]→∀(j:Nat) (h:j<ss.length),j<i+1→Ht f t ss[j]:=IZ (P:=fun _ x=>Ht f t x) (List.getElem?_eq_getElem h2) hs2
     generalize ss[i]=x at *
     unfold Ht at hno hgo
     simp -implicitDefEqProofs -proj only [go_sem,seval,decide_eq_true (show (i:Int)<ss.length by omega)]
     refine Ai _ (by omega) hel ?_
     simp -implicitDefEqProofs -proj only [go_sem,seval]
     refine AI (fun b4 hb4=>?_)
     replace hb4:Ad [(b1,Blk.box 26 [.d (.str cur),i64 f,i64 t,.d (.sl 5 (BV ms)),.d (.sl 3 (Ey ss)),.d (.sl 9 (Ea ps))])] b4=none:=hb4
     obtain ⟨n1,n2⟩:=AG hb4 k1
     simp -implicitDefEqProofs -proj only [go_sem,seval,n1,n2]
     by_cases c1:0≤x.a∧x.a≤1000000000000
     rotate_left
     ·refine AK (Ej c1) ?_
      simp -implicitDefEqProofs -proj only [go_sem,seval]
      exact AJ (by rw [hno (fun k=>c1 k.1)])
     refine AK (Ef c1) ?_
     simp -implicitDefEqProofs -proj only [go_sem,seval,n1,n2,k1]
     refine AK Qf ?_
     by_cases c2:f≤x.f∧x.f≤x.t∧x.t≤t
     rotate_left
     ·simp -implicitDefEqProofs -proj only [go_sem,seval,n1,n2,decide_eq_false c2]
      exact AJ (by rw [hno (fun k=>c2 k.2)])
     simp -implicitDefEqProofs -proj only [go_sem,seval,n1,n2,decide_eq_true c2]
     refine Ac (i+1) ⟨by omega,hgo ⟨c1,c2⟩⟩ (by show ss.length-(i+1)<ss.length-i; omega) rfl ?_ (Aj hb4 hk)
     simp -implicitDefEqProofs -proj only [go_sem,seval,AL,AR (show i<9223372036854775807 by omega)]
    ·have hi3:i=ss.length:=by omega
     subst hi3
     simp -implicitDefEqProofs -proj only [go_sem,seval,k1,FR,decide_eq_false (show ¬(ss.length:Int)<ss.length by omega)]
     refine BJ (fun i:Nat=>i≤ps.length∧∀(j:Nat) (h:j<ps.length),j<i→GW f t ms.length ps[j]) 120 (fun i=>[(1,.ptr b1 0),(109,.d (.sl 9 (Ea ps))),(110,i64 ps.length),(111,i64 i)]) (fun _=>[(b1,.box 26 [.d (.str cur),i64 f,i64 t,.d (.sl 5 (BV ms)),.d (.sl 3 (Ey ss)),.d (.sl 9 (Ea ps))])]) (fun i=>ps.length-i) 0 ⟨Nat.zero_le _,fun j _ h=>absurd h (Nat.not_lt_zero _)⟩ rfl ?_ ?_ ?_
     ·simp -implicitDefEqProofs -proj only [go_sem,seval,AL]
     ·exact hk
     ·rintro i ⟨hi4,hs4⟩
      by_cases h4:i<ps.length
      ·have hel:=IV h4
       have hno:¬GW f t ms.length ps[i]→decide (goodC ⟨cur,f,t,ms,ss,ps⟩)=false:=fun e=>decide_eq_false fun k=>e (k.ps _ (List.getElem_mem h4))
       have hgo:GW f t ms.length ps[i]→∀(j:Nat) (h:j<ps.length),j<i+1→GW f t ms.length ps[j]:=IZ (P:=fun _ x=>GW f t ms.length x) (List.getElem?_eq_getElem h4) hs4
       generalize ps[i]=x at *
       have hcall:=AFQ (cur:=cur) (f:=f) (t:=t) (ms:=BV ms) (ss:=Ey ss) (ps:=Ea ps) (x:=x)
       rw [FO] at hcall
       simp -implicitDefEqProofs -proj only [go_sem,seval,decide_eq_true (show (i:Int)<ps.length by omega)]
       refine Ai _ (by omega) hel ?_
       simp -implicitDefEqProofs -proj only [go_sem,seval]
       refine AI (fun b4 hb4=>?_)
       replace hb4:Ad [(b1,Blk.box 26 [.d (.str cur),i64 f,i64 t,.d (.sl 5 (BV ms)),.d (.sl 3 (Ey ss)),.d (.sl 9 (Ea ps))])] b4=none:=hb4
       obtain ⟨n1,n2⟩:=AG hb4 k1
       simp -implicitDefEqProofs -proj only [go_sem,seval,n1,n2,k1]
       refine AK hcall ?_
       by_cases c1:GW f t ms.length x
       rotate_left
       ·simp -implicitDefEqProofs -proj only [go_sem,seval,decide_eq_false c1]
        exact AJ (by rw [hno c1])
       simp -implicitDefEqProofs -proj only [go_sem,seval,n1,n2,decide_eq_true c1]
       refine Ac (i+1) ⟨by omega,hgo c1⟩ (by show ps.length-(i+1)<ps.length-i; omega) rfl ?_ (Aj hb4 hk)
       simp -implicitDefEqProofs -proj only [go_sem,seval,AL,AR (show i<9223372036854775807 by omega)]
      ·have hi5:i=ps.length:=by omega
       subst hi5
       have hfin:goodC ⟨cur,f,t,ms,ss,ps⟩:=⟨hhd,fun j h=>hs j h h,fun s hm=>by obtain ⟨j,hj,rfl⟩:=List.getElem_of_mem hm; exact hs2 j hj hj,fun s hm=>by obtain ⟨j,hj,rfl⟩:=List.getElem_of_mem hm; exact hs4 j hj hj⟩
       simp -implicitDefEqProofs -proj only [go_sem,seval,decide_eq_false (show ¬(ps.length:Int)<ps.length by omega)]
       exact AJ (by rw [decide_eq_true hfin])
structure TStep where
 f:Int
 t:Int
 r:Int
abbrev TStep.av (s:TStep):AV:=.agg [i64 s.f,i64 s.t,i64 s.r]
def TStep.el (s:TStep):List D:=[.int .i64 s.f,.int .i64 s.t,.int .i64 s.r]
def EO (l:List TStep):List (List D):=l.map TStep.el
theorem Hv {l:List TStep}:(EO l).length=l.length:=List.length_map ..
abbrev T4 (l:List TStep):AV:=.d (.sl 3 (EO l))
abbrev Ft (l:List TStep):List (List AV):=l.map fun s=>[s.av]
def KE (T:List Tier) (q:Int) (i:Nat) (t:Tier):Int:=if i+1<T.length then min q t.u else q
def FG (T:List Tier) (q:Int):Nat→Int×List TStep
 | 0=>(0,[])
 | i+1=>match T[i]? with
  | some t=>(max (FG T q i).1 (KE T q i t),if (FG T q i).1<KE T q i t then (FG T q i).2++[⟨(FG T q i).1,KE T q i t,t.r⟩] else (FG T q i).2)
  | none=>FG T q i
def KZ (T:List Tier) (q:Int):List TStep:=(FG T q T.length).2
theorem T8 {T:List Tier} {q:Int}:∀(n i:Nat),∃rest,(FG T q (i+n)).2=(FG T q i).2++rest
 | 0,i=>⟨[],by simp⟩
 | n+1,i=>by
  obtain ⟨rest,h⟩:=T8 (T:=T) (q:=q) n i
  rw [←Nat.add_assoc,FG]
  split
  ·simp -implicitDefEqProofs only []
   split
   ·exact ⟨rest++[_],by rw [h,List.append_assoc]⟩
   ·exact ⟨rest,h⟩
  ·exact ⟨rest,h⟩
theorem ADd {T:List Tier} {q:Int} {i:Nat} (h:i≤T.length):∃rest,KZ T q=(FG T q i).2++rest:=by
 obtain ⟨rest,hr⟩:=T8 (T:=T) (q:=q) (T.length-i) i
 exact ⟨rest,by rw [←hr,KZ]; congr 2; omega⟩
theorem AFA {x:PartX} {q:Int} (hx:x.Fit) (hq:Fit q) (ha:0≤x.al) (hb:1≤x.bl):DataW Tryz.prog AO4 [GK x,i64 q] (if q<0 then .tup [i64 0,bv false] else Fo (Eq (max (q-x.al) 0) x.bl 1*x.bl)):=by
 refine AZ AMh (by simp) ?_
 simp -implicitDefEqProofs -proj only [go_sem,seval]
 refine AI (fun b2 hb2=>?_)
 by_cases h:q<0
 ·rw [if_pos h]
  simp -implicitDefEqProofs -proj only [go_sem,seval,decide_eq_true h]
  exact AJ rfl
 ·rw [if_neg h]
  have hal:=hx.al
  unfold Fit at hal hq
  have hw:IntKind.i64.wrap (q-x.al)=q-x.al:=by rw [IntKind.wrap_i64]; omega
  have hup:=AV6 (a:=max (q-x.al) 0) (c:=x.bl) (by unfold Fit; omega) hx.bl
  rw [Np,if_pos (by omega)] at hup
  simp -implicitDefEqProofs -proj only [go_sem,seval,decide_eq_false h,decide_eq_false (show ¬x.al<0 by omega),decide_eq_false (show ¬x.bl<1 by omega),hw]
  refine AK hup ?_
  unfold Fo
  simp -implicitDefEqProofs -proj only [go_sem,seval]
  exact AJ rfl
theorem ADR {b2 b3:Nat} {T:List Tier} {q:Int} (hl:T.length≤1000000):I8 Tryz.prog R3 [.ptr b2 0,.ptr b3 0] [(b2,.box 37 [EZ T]),(b3,.box 3 [i64 q])] (Ft (KZ T q)):=by
 intro y H J X hA hS hY h0
 refine AZ ANh (by simp) ?_
 have hb:=(hA [] H h0).1
 simp -implicitDefEqProofs -proj only [go_sem,seval,hb,E6]
 refine L9 (fun x:Nat×Heap=>x.1≤T.length∧J (Ft (FG T q x.1).2) x.2) (fun x=>⟨42,E8 [(0,.yld y),(1,.ptr b2 0),(2,.ptr b3 0),(8,EZ T),(9,i64 T.length),(10,i64 x.1),(4,i64 (FG T q x.1).1)],x.2⟩) (fun x=>T.length-x.1) (0,H) ⟨Nat.zero_le _,h0⟩ (IJ rfl ?_ (fun k=>.inr rfl)) ?_
 ·simp -implicitDefEqProofs -proj only [go_sem,seval,AL,FG]
 rintro ⟨i,H1⟩ ⟨hi,hj⟩
 simp -implicitDefEqProofs only [] at hi hj
 obtain ⟨h2,h3,_⟩:=hA _ _ hj
 by_cases h:i<T.length
 ·have hel:=JK h
  have hg:FG T q (i+1)=(max (FG T q i).1 (KE T q i T[i]),if (FG T q i).1<KE T q i T[i] then (FG T q i).2++[⟨(FG T q i).1,KE T q i T[i],T[i].r⟩] else (FG T q i).2):=by rw [FG,List.getElem?_eq_getElem h]
  obtain ⟨rest,hrest⟩:=ADd (q:=q) (show i+1≤T.length by omega)
  have hwl:IntKind.i64.wrap ((T.length:Int)-1)=(T.length:Int)-1:=by rw [IntKind.wrap_i64]; omega
  generalize hN:FG T q (i+1)=N at *
  generalize FG T q i=Gi at *
  obtain ⟨fr,out⟩:=Gi
  simp -implicitDefEqProofs only [] at hg hj
  generalize T[i]=t at *
  have htt:KE T q i t=if i+1<T.length then min q t.u else q:=rfl
  simp -implicitDefEqProofs -proj only [go_sem,seval,decide_eq_true (show (i:Int)<T.length by omega)]
  refine Ai _ (by omega) hel ?_
  simp -implicitDefEqProofs -proj only [go_sem,seval]
  refine AI (fun b6 hb6=>?_)
  replace hb6:H1 b6=none:=hb6
  obtain ⟨m1,m2⟩:=AG hb6 h2
  obtain ⟨m3,m4⟩:=AG hb6 h3
  have hj':=fun v=>hS _ _ b6 v hj hb6
  by_cases hm:i+1<T.length
  ·rw [if_pos hm] at htt
   rw [htt] at hg
   simp -implicitDefEqProofs -proj only [go_sem,seval,m1,m3,h2,h3,E6,hwl,decide_eq_true (show (i:Int)<(T.length:Int)-1 by omega)]
   by_cases hto:fr<min q t.u
   ·rw [if_pos hto] at hg
    subst hg
    have hxs:Ft (KZ T q)=Ft out++[(TStep.mk fr (min q t.u) t.r).av]::Ft rest:=by rw [hrest]; simp [Ft]
    simp -implicitDefEqProofs -proj only [go_sem,seval,m1,m3,h2,h3,decide_eq_true hto]
    refine LE (hY _ _ _ _ hxs (hj' _)) ?_
    rintro v H2 (⟨rfl,hj2⟩ | ⟨rfl,hx⟩)
    ·simp -implicitDefEqProofs -proj only [go_sem,seval]
     refine KT (i+1,H2) ⟨by show i+1≤T.length; omega,?_⟩ (by show T.length-(i+1)<T.length-i; omega) (IJ rfl ?_ (fun k=>.inr rfl))
     ·show J (Ft (FG T q (i+1)).2) H2
      rw [hN]
      simpa [Ft] using hj2
     ·simp -implicitDefEqProofs -proj only [go_sem,seval,AL,AR (show i<9223372036854775807 by omega),hN]
    ·simp -implicitDefEqProofs -proj only [go_sem,seval]
     exact .inr hx
   ·rw [if_neg hto] at hg
    subst hg
    simp -implicitDefEqProofs -proj only [go_sem,seval,m1,m3,h2,h3,decide_eq_false hto]
    refine KT (i+1,_) ⟨by show i+1≤T.length; omega,?_⟩ (by show T.length-(i+1)<T.length-i; omega) (IJ rfl ?_ (fun k=>.inr rfl))
    ·show J (Ft (FG T q (i+1)).2) _
     rw [hN]
     exact hj' _
    ·simp -implicitDefEqProofs -proj only [go_sem,seval,AL,AR (show i<9223372036854775807 by omega),hN]
  ·rw [if_neg hm] at htt
   rw [htt] at hg
   simp -implicitDefEqProofs -proj only [go_sem,seval,m1,m3,h2,h3,E6,hwl,decide_eq_false (show ¬(i:Int)<(T.length:Int)-1 by omega)]
   by_cases hto:fr<q
   ·rw [if_pos hto] at hg
    subst hg
    have hxs:Ft (KZ T q)=Ft out++[(TStep.mk fr q t.r).av]::Ft rest:=by rw [hrest]; simp [Ft]
    simp -implicitDefEqProofs -proj only [go_sem,seval,m1,m3,h2,h3,decide_eq_true hto]
    refine LE (hY _ _ _ _ hxs (hj' _)) ?_
    rintro v H2 (⟨rfl,hj2⟩ | ⟨rfl,hx⟩)
    ·simp -implicitDefEqProofs -proj only [go_sem,seval]
     refine KT (i+1,H2) ⟨by show i+1≤T.length; omega,?_⟩ (by show T.length-(i+1)<T.length-i; omega) (IJ rfl ?_ (fun k=>.inr rfl))
     ·show J (Ft (FG T q (i+1)).2) H2
      rw [hN]
      simpa [Ft] using hj2
     ·simp -implicitDefEqProofs -proj only [go_sem,seval,AL,AR (show i<9223372036854775807 by omega),hN]
    ·simp -implicitDefEqProofs -proj only [go_sem,seval]
     exact .inr hx
   ·rw [if_neg hto] at hg
    subst hg
    simp -implicitDefEqProofs -proj only [go_sem,seval,m1,m3,h2,h3,decide_eq_false hto]
    refine KT (i+1,_) ⟨by show i+1≤T.length; omega,?_⟩ (by show T.length-(i+1)<T.length-i; omega) (IJ rfl ?_ (fun k=>.inr rfl))
    ·show J (Ft (FG T q (i+1)).2) _
     rw [hN]
     exact hj' _
    ·simp -implicitDefEqProofs -proj only [go_sem,seval,AL,AR (show i<9223372036854775807 by omega),hN]
 ·have hi':i=T.length:=by omega
  subst hi'
  simp -implicitDefEqProofs -proj only [go_sem,seval,decide_eq_false (show ¬(T.length:Int)<T.length by omega)]
  exact .inl hj
def HR (T:List Tier) (q:Int):Nat→List TStep
 | 0=>[]
 | n+1=>match T[T.length-(n+1)]? with
  | some t=>if n=0∨q≤t.u then (if 0<q then [⟨0,q,t.r⟩] else []) else HR T q n
  | none=>[]
def Ip (T:List Tier) (q:Int):List TStep:=HR T q T.length
theorem AME {b2 b3:Nat} {T:List Tier} {q:Int} (hl:T.length≤1000000):I8 Tryz.prog Tl [.ptr b2 0,.ptr b3 0] [(b2,.box 37 [EZ T]),(b3,.box 3 [i64 q])] (Ft (Ip T q)):=by
 intro y H J X hA hS hY h0
 refine AZ ARz (by simp) ?_
 have hb:=(hA [] H h0).1
 simp -implicitDefEqProofs -proj only [go_sem,seval,hb,E6]
 refine L9 (fun x:Nat×Heap=>x.1≤T.length∧Ip T q=HR T q (T.length-x.1)∧J [] x.2) (fun x=>⟨33,E8 [(0,.yld y),(1,.ptr b2 0),(2,.ptr b3 0),(6,EZ T),(7,i64 T.length),(8,i64 x.1)],x.2⟩) (fun x=>T.length-x.1) (0,H) ⟨Nat.zero_le _,rfl,h0⟩ (IJ rfl ?_ (fun k=>.inr rfl)) ?_
 ·simp -implicitDefEqProofs -proj only [go_sem,seval,AL]
 rintro ⟨i,H1⟩ ⟨hi,hv,hj⟩
 simp -implicitDefEqProofs only [] at hi hj hv
 obtain ⟨h2,h3,_⟩:=hA _ _ hj
 by_cases h:i<T.length
 ·have hel:=JK h
  obtain ⟨n,hn⟩:∃n,T.length-i=n+1:=⟨T.length-i-1,by omega⟩
  have hg:HR T q (n+1)=if n=0∨q≤T[i].u then (if 0<q then [⟨0,q,T[i].r⟩] else []) else HR T q n:=by
   rw [HR,show T.length-(n+1)=i by omega,List.getElem?_eq_getElem h]
  rw [hn,hg] at hv
  have hwl:IntKind.i64.wrap ((T.length:Int)-1)=(T.length:Int)-1:=by rw [IntKind.wrap_i64]; omega
  generalize T[i]=t at *
  simp -implicitDefEqProofs -proj only [go_sem,seval,decide_eq_true (show (i:Int)<T.length by omega)]
  refine Ai _ (by omega) hel ?_
  simp -implicitDefEqProofs -proj only [go_sem,seval]
  refine AI (fun b5 hb5=>?_)
  replace hb5:H1 b5=none:=hb5
  obtain ⟨m1,m2⟩:=AG hb5 h2
  obtain ⟨m3,m4⟩:=AG hb5 h3
  have hj':=fun v=>hS _ _ b5 v hj hb5
  by_cases hn0:n=0
  ·rw [if_pos (.inl hn0)] at hv
   simp -implicitDefEqProofs -proj only [go_sem,seval,m1,m3,h2,h3,E6,hwl,decide_eq_true (show (i:Int)=(T.length:Int)-1 by omega)]
   by_cases hq:0<q
   ·rw [if_pos hq] at hv
    have hxs:Ft (Ip T q)=[]++[(TStep.mk 0 q t.r).av]::[]:=by rw [hv]; rfl
    simp -implicitDefEqProofs -proj only [go_sem,seval,m1,m3,h2,h3,decide_eq_true hq]
    refine LE (hY _ _ _ _ hxs (hj' _)) ?_
    rintro v H2 (⟨rfl,hj2⟩ | ⟨rfl,hx⟩)
    ·simp -implicitDefEqProofs -proj only [go_sem,seval]
     rw [hxs]
     exact .inl hj2
    ·simp -implicitDefEqProofs -proj only [go_sem,seval]
     exact .inr hx
   ·rw [if_neg hq] at hv
    simp -implicitDefEqProofs -proj only [go_sem,seval,m1,m3,h2,h3,decide_eq_false hq]
    rw [show Ft (Ip T q)=[] by rw [hv]; rfl]
    exact .inl (hj' _)
  ·by_cases hu:q≤t.u
   ·rw [if_pos (.inr hu)] at hv
    simp -implicitDefEqProofs -proj only [go_sem,seval,m1,m3,h2,h3,E6,hwl,decide_eq_false (show ¬(i:Int)=(T.length:Int)-1 by omega),decide_eq_true hu]
    by_cases hq:0<q
    ·rw [if_pos hq] at hv
     have hxs:Ft (Ip T q)=[]++[(TStep.mk 0 q t.r).av]::[]:=by rw [hv]; rfl
     simp -implicitDefEqProofs -proj only [go_sem,seval,m1,m3,h2,h3,decide_eq_true hq]
     refine LE (hY _ _ _ _ hxs (hj' _)) ?_
     rintro v H2 (⟨rfl,hj2⟩ | ⟨rfl,hx⟩)
     ·simp -implicitDefEqProofs -proj only [go_sem,seval]
      rw [hxs]
      exact .inl hj2
     ·simp -implicitDefEqProofs -proj only [go_sem,seval]
      exact .inr hx
    ·rw [if_neg hq] at hv
     simp -implicitDefEqProofs -proj only [go_sem,seval,m1,m3,h2,h3,decide_eq_false hq]
     rw [show Ft (Ip T q)=[] by rw [hv]; rfl]
     exact .inl (hj' _)
   ·rw [if_neg (by omega)] at hv
    simp -implicitDefEqProofs -proj only [go_sem,seval,m1,m3,h2,h3,E6,hwl,decide_eq_false (show ¬(i:Int)=(T.length:Int)-1 by omega),decide_eq_false hu]
    refine KT (i+1,_) ⟨by show i+1≤T.length; omega,by rw [hv]; congr 1; show n=T.length-(i+1); omega,hj' _⟩ (by show T.length-(i+1)<T.length-i; omega) (IJ rfl ?_ (fun k=>.inr rfl))
    simp -implicitDefEqProofs -proj only [go_sem,seval,AL,AR (show i<9223372036854775807 by omega)]
 ·have hi':i=T.length:=by omega
  subst hi'
  rw [Nat.sub_self] at hv
  simp -implicitDefEqProofs -proj only [go_sem,seval,decide_eq_false (show ¬(T.length:Int)<T.length by omega)]
  rw [show Ft (Ip T q)=[] by rw [hv]; rfl]
  exact .inl hj
def HU (x:PartX) (q:Int):List TStep:=if x.ki=2 then Ip x.ts q else KZ x.ts q
def ML (b2 b3:Nat) (T:List Tier) (q:Int):List (Nat×Blk):=[(b2,.box 37 [EZ T]),(b3,.box 3 [i64 q])]
theorem AEY {H:Heap} {T:List Tier} {q:Int}:CallW Tryz.prog AIB [EZ T,i64 q] H fun r H'=>∃b2 b3,r = .fn Tl [.ptr b2 0,.ptr b3 0]∧AS H' (ML b2 b3 T q)∧(∀k v,H k=some v→H' k=some v)∧(H b2=none∧H b3=none∧¬b2=b3):=by
 refine AZ WI (by simp) ?_
 simp -implicitDefEqProofs -proj only [go_sem,seval]
 refine AI (fun b2 hb2=>?_)
 simp -implicitDefEqProofs -proj only [go_sem,seval]
 refine AI (fun b3 hb3=>?_)
 replace hb2:H b2=none:=hb2
 replace hb3:upd H b2 _ b3=none:=hb3
 obtain ⟨n1,n2⟩:=AG hb3 AP
 have hb3':H b3=none:=by rw [AD n2] at hb3; exact hb3
 simp -implicitDefEqProofs -proj only [go_sem,seval,n1,n2]
 refine ⟨b2,b3,rfl,⟨by rw [AD n1,AP],AP,trivial⟩,fun k v hk=>?_,hb2,hb3',n2⟩
 rw [if_neg (AG hb3' hk).1,if_neg (AG hb2 hk).1,hk]
theorem AOJ {H:Heap} {T:List Tier} {q:Int}:CallW Tryz.prog AV0 [EZ T,i64 q] H fun r H'=>∃b2 b3,r = .fn R3 [.ptr b2 0,.ptr b3 0]∧AS H' (ML b2 b3 T q)∧(∀k v,H k=some v→H' k=some v)∧(H b2=none∧H b3=none∧¬b2=b3):=by
 refine AZ AHB (by simp) ?_
 simp -implicitDefEqProofs -proj only [go_sem,seval]
 refine AI (fun b2 hb2=>?_)
 simp -implicitDefEqProofs -proj only [go_sem,seval]
 refine AI (fun b3 hb3=>?_)
 replace hb2:H b2=none:=hb2
 replace hb3:upd H b2 _ b3=none:=hb3
 obtain ⟨n1,n2⟩:=AG hb3 AP
 have hb3':H b3=none:=by rw [AD n2] at hb3; exact hb3
 simp -implicitDefEqProofs -proj only [go_sem,seval,n1,n2]
 refine ⟨b2,b3,rfl,⟨by rw [AD n1,AP],AP,trivial⟩,fun k v hk=>?_,hb2,hb3',n2⟩
 rw [if_neg (AG hb3' hk).1,if_neg (AG hb2 hk).1,hk]
theorem ANO {H:Heap} {x:PartX} {q:Int} (hl:x.ts.length≤1000000):CallW Tryz.prog AXL [GK x,i64 q] H fun r H'=>∃f b2 b3,r = .fn f [.ptr b2 0,.ptr b3 0]∧I8 Tryz.prog f [.ptr b2 0,.ptr b3 0] (ML b2 b3 x.ts q) (Ft (HU x q))∧AS H' (ML b2 b3 x.ts q)∧(∀k v,H k=some v→H' k=some v)∧(H b2=none∧H b3=none∧¬b2=b3):=by
 have up:∀{b0 b:Nat} {v:Blk},upd H b0 (some v) b=none→H b=none:=fun {b0 b v} h=>by
  rw [AX] at h
  split at h
  ·cases h
  ·exact h
 refine AZ AE7 (by simp) ?_
 simp -implicitDefEqProofs -proj only [go_sem,seval]
 refine AI (fun b0 hb0=>?_)
 replace hb0:H b0=none:=hb0
 by_cases hk:x.ki=2
 ·simp -implicitDefEqProofs -proj only [go_sem,seval,decide_eq_true hk]
  refine Ek AEY ?_
  rintro r H' ⟨b2,b3,rfl,h1,h2,h3,h4,h5⟩
  simp -implicitDefEqProofs -proj only [go_sem,seval]
  refine ⟨_,b2,b3,rfl,?_,h1,fun k v hk=>h2 k v ((AD (AG hb0 hk).1).trans hk),up h3,up h4,h5⟩
  rw [HU,if_pos hk]
  exact AME hl
 ·simp -implicitDefEqProofs -proj only [go_sem,seval,decide_eq_false hk]
  refine Ek AOJ ?_
  rintro r H' ⟨b2,b3,rfl,h1,h2,h3,h4,h5⟩
  simp -implicitDefEqProofs -proj only [go_sem,seval]
  refine ⟨_,b2,b3,rfl,?_,h1,fun k v hk=>h2 k v ((AD (AG hb0 hk).1).trans hk),up h3,up h4,h5⟩
  rw [HU,if_neg hk]
  exact ADR hl
def KQ (s:TStep) (a:Int):Option Int:=if Fit (s.r*(s.t-s.f))∧Fit (a+s.r*(s.t-s.f)) then some (a+s.r*(s.t-s.f)) else none
def Gj:List TStep→Int→Option Int
 | [],a=>some a
 | s::l,a=>match KQ s a with
  | some b=>Gj l b
  | none=>none
def OF (s:TStep):Prop:=Fit s.f∧Fit s.t∧Fit s.r∧Fit (s.t-s.f)
structure MicX where
 a:Int
theorem LW {a:Int}:(MicX.mk a).a=a:=(rfl)
theorem Ti {l r:List TStep} {a b:Int} (h:Gj l a=some b):Gj (l++r) a=Gj r b:=by
 induction l generalizing a with
 | nil=>cases h; rfl
 | cons s l ih =>
  simp -implicitDefEqProofs only [List.cons_append,Gj] at h ⊢
  cases hs:KQ s a with
  | none=>rw [hs] at h; cases h
  | some c=>rw [hs] at h; exact ih h
theorem TO {l:List TStep} {a b:Int} (h:Gj l a=some b) (ha:Fit a):Fit b:=by
 induction l generalizing a with
 | nil=>cases h; exact ha
 | cons s l ih =>
  simp -implicitDefEqProofs only [Gj] at h
  cases hs:KQ s a with
  | none=>rw [hs] at h; cases h
  | some c =>
   rw [hs] at h
   refine ih h ?_
   unfold KQ at hs
   split at hs
   ·next hc=>cases hs; exact hc.2
   ·cases hs
def KJ (b4 b5 b8 c2 c3:Nat) (T:List Tier) (L:Int) (y:MicX):List (Nat×Blk):=[(b4,.box 3 [i64 0]),(b5,.box 4 [bv false]),(b8,.box 3 [i64 y.a]),(c2,.box 37 [EZ T]),(c3,.box 3 [i64 L])]
def Jm (x:PartX) (q:Int):Option Int:=if q<0 then none else if Fit (Eq (max (q-x.al) 0) x.bl 1*x.bl) then Gj (HU x (Eq (max (q-x.al) 0) x.bl 1*x.bl)) 0 else none
set_option maxRecDepth 20000 in
theorem AMy {x:PartX} {q:Int} (hx:x.Fit) (hq:Fit q) (ha:0≤x.al) (hb:1≤x.bl) (hl:x.ts.length≤1000000) (hs:∀n,Fit n→∀s∈HU x n,OF s):DataW Tryz.prog ALt [GK x,i64 q] (EN (Jm x q)):=by
 have hquant:=AFA hx hq ha hb
 unfold Jm
 generalize hL:Eq (max (q-x.al) 0) x.bl 1*x.bl=L at *
 refine AZ W3 (by simp) ?_
 simp -implicitDefEqProofs -proj only [go_sem,seval]
 refine AI (fun b2 hb2=>?_)
 simp -implicitDefEqProofs -proj only [go_sem,seval]
 refine AI (fun b4 hb4=>?_)
 replace hb4:upd Heap.none b2 _ b4=none:=hb4
 obtain ⟨n1,n2⟩:=AG hb4 AP
 simp -implicitDefEqProofs -proj only [go_sem,seval]
 refine AI (fun b5 hb5=>?_)
 replace hb5:upd (upd Heap.none b2 _) b4 _ b5=none:=hb5
 obtain ⟨n3,n4⟩:=AG hb5 AP
 obtain ⟨n5,n6⟩:=AG hb5 (by rw [AD n1]; exact AP)
 simp -implicitDefEqProofs -proj only [go_sem,seval,n1,n2,n3,n4,n5,n6]
 refine AK hquant ?_
 by_cases h:q<0
 ·rw [if_pos h,if_pos h]
  simp -implicitDefEqProofs -proj only [go_sem,seval,n1,n2,n3,n4,n5,n6]
  exact AJ rfl
 rw [if_neg h,if_neg h]
 by_cases hf:Fit L
 rotate_left
 ·rw [if_neg hf,IC hf]
  simp -implicitDefEqProofs -proj only [go_sem,seval,n1,n2,n3,n4,n5,n6]
  exact AJ rfl
 rw [if_pos hf,Gl hf]
 have hst:=hs L hf
 simp -implicitDefEqProofs -proj only [go_sem,seval,n1,n2,n3,n4,n5,n6]
 refine AI (fun b8 hb8=>?_)
 replace hb8:upd (upd (upd Heap.none b2 _) b4 _) b5 _ b8=none:=hb8
 obtain ⟨n7,n8⟩:=AG hb8 AP
 obtain ⟨n9,n10⟩:=AG hb8 (by rw [AD n3]; exact AP)
 obtain ⟨n11,n12⟩:=AG hb8 (by rw [AD n5,AD n1]; exact AP)
 simp -implicitDefEqProofs -proj only [go_sem,seval,n1,n2,n3,n4,n5,n6,n7,n8,n9,n10,n11,n12]
 refine Ek (ANO hl) ?_
 rintro r H6 ⟨f,c2,c3,rfl,hit,hbl,hkeep,hc2,hc3,hc23⟩
 obtain ⟨H5,hH5⟩:∃H5,upd (upd (upd (upd Heap.none b2 (some (.box 40 [i64 x.me,i64 x.f,i64 x.t,i64 x.al,i64 x.bl,i64 x.ki,EZ x.ts,i64 x.mo,Ec x.ad]))) b4 (some (.box 3 [i64 0]))) b5 (some (.box 4 [bv false]))) b8 (some (.box 3 [i64 0]))=H5:=⟨_,rfl⟩
 have k4:H5 b4=some (.box 3 [i64 0]):=by rw [←hH5,AD n9,AD n3,AP]
 have k5:H5 b5=some (.box 4 [bv false]):=by rw [←hH5,AD n7,AP]
 have k8:H5 b8=some (.box 3 [i64 0]):=by rw [←hH5,AP]
 replace hkeep:∀k v,H5 k=some v→H6 k=some v:=by rw [←hH5]; exact hkeep
 replace hc2:H5 c2=none:=by rw [←hH5]; exact hc2
 replace hc3:H5 c3=none:=by rw [←hH5]; exact hc3
 have d1:=(AG hc2 k4).2
 have d2:=(AG hc2 k5).2
 have d3:=(AG hc2 k8).2
 have d4:=(AG hc3 k4).2
 have d5:=(AG hc3 k5).2
 have d6:=(AG hc3 k8).2
 have hnd:∀y,(AN (KJ b4 b5 b8 c2 c3 x.ts L y)).Nodup:=by
  intro y
  simp [AN,KJ,d1,d2,d3,d4,d5,d6,n4,n8,n10,hc23]
 have hall0:AS H6 (KJ b4 b5 b8 c2 c3 x.ts L ⟨0⟩):=⟨hkeep _ _ k4,hkeep _ _ k5,hkeep _ _ k8,hbl.1,hbl.2.1,trivial⟩
 obtain ⟨S,hS⟩:∃S,HU x L=S:=⟨_,rfl⟩
 rw [hS] at hst hit ⊢
 simp -implicitDefEqProofs -proj only [go_sem,seval]
 refine NE [(4,.ptr b4 0),(5,.ptr b5 0),(8,.ptr b8 0)] (fun pre y=>Gj (S.take pre.length) 0=some y.a) (KJ b4 b5 b8 c2 c3 x.ts L) ⟨0⟩ hit (by simp -implicitDefEqProofs -proj only [go_sem,seval]) rfl (by simp) (by simp -implicitDefEqProofs -proj only [go_sem,seval,AL]) ?_ (by simp [Gj]) hall0 ?_ ?_
 ·intro pre y _ p hp
  simp -implicitDefEqProofs only [ML,List.mem_cons,List.not_mem_nil,or_false] at hp
  rcases hp with rfl | rfl <;> simp [KJ]
 ·rintro pre v post ⟨a⟩ hxs hI
  simp -implicitDefEqProofs only [LW] at hI
  obtain ⟨hlt,rfl,hpre⟩:=Nb hxs
  have hall:=EQ (hnd ⟨a⟩)
  obtain ⟨h4,h5,h8,h9,h10,_⟩:=id hall
  obtain ⟨f1,f2,f3,f4⟩:=hst _ (List.getElem_mem hlt)
  have hfa:Fit a:=TO hI (by decide)
  have hstep:S.take (pre.length+1)=S.take pre.length++[S[pre.length]]:=List.take_succ_eq_append_getElem hlt
  have hsp:S=S.take pre.length++(S[pre.length]::S.drop (pre.length+1)):=by rw [←List.drop_eq_getElem_cons hlt,List.take_append_drop]
  generalize S[pre.length]=s at *
  have hnone:KQ s a=none→Gj S 0=none:=fun e=>by rw [hsp,Ti hI,Gj,e]
  have hsome:∀b,KQ s a=some b→Gj (S.take (pre.length+1)) 0=some b:=fun b e=>by rw [hstep,Ti hI,Gj,e]; rfl
  have hw:IntKind.i64.wrap (s.t-s.f)=s.t-s.f:=by unfold Fit at f4; rw [IntKind.wrap_i64]; omega
  clear hstep hsp hxs hpre
  have hmul:=Wi f3 f4
  obtain ⟨H,hH⟩:∃H,Ad (KJ b4 b5 b8 c2 c3 x.ts L ⟨a⟩)=H:=⟨_,rfl⟩
  rw [hH] at hall h4 h5 h8 h9 h10
  simp -implicitDefEqProofs only [LW] at h8
  simp -implicitDefEqProofs -proj only [go_sem,seval,hH]
  refine AI (fun b9 hb9=>?_)
  replace hb9:H b9=none:=hb9
  obtain ⟨p1,p2⟩:=AG hb9 h4
  obtain ⟨p3,p4⟩:=AG hb9 h5
  obtain ⟨p5,p6⟩:=AG hb9 h8
  simp -implicitDefEqProofs -proj only [go_sem,seval,p1,p3,p5,h4,h5,h8,hw]
  refine AK hmul ?_
  by_cases c1:Fit (s.r*(s.t-s.f))
  ·rw [Gl c1]
   have hadd:=KX hfa c1
   simp -implicitDefEqProofs -proj only [go_sem,seval,p1,p3,p5,h4,h5,h8,hw]
   refine AK hadd ?_
   by_cases c2':Fit (a+s.r*(s.t-s.f))
   ·rw [Gl c2']
    simp -implicitDefEqProofs -proj only [go_sem,seval,p1,p3,p5,h4,h5,h8,hw]
    refine J9 ⟨a+s.r*(s.t-s.f)⟩ (by simp -implicitDefEqProofs only [LW,List.length_append,List.length_singleton]; exact hsome _ (if_pos ⟨c1,c2'⟩)) ?_
    obtain ⟨p7,p8⟩:=AG hb9 h9
    obtain ⟨p9,p10⟩:=AG hb9 h10
    simp -implicitDefEqProofs -proj only [go_sem,seval,AS,KJ,LW,p1,p3,p5,p7,p9,n7,n8,n9,n10,d3,d6,h4,h5,h8,h9,h10]
   ·rw [IC c2']
    simp -implicitDefEqProofs -proj only [go_sem,seval,p1,p3,p5,n3,n4,n7,n8,n9,n10,h4,h5,h8,hw]
    rw [hnone (if_neg (fun h=>c2' h.2))]
    exact AJ rfl
  ·rw [IC c1]
   have hadd:=KX (b:=0) hfa (by decide)
   simp -implicitDefEqProofs -proj only [go_sem,seval,p1,p3,p5,h4,h5,h8,hw]
   refine AK hadd ?_
   rw [Gl (by rw [Int.add_zero]; exact hfa)]
   simp -implicitDefEqProofs -proj only [go_sem,seval,p1,p3,p5,n3,n4,n7,n8,n9,n10,h4,h5,h8,hw]
   rw [hnone (if_neg (fun h=>c1 h.1))]
   exact AJ rfl
 ·rintro ⟨a⟩ hI
  simp -implicitDefEqProofs only [LW] at hI
  rw [List.length_map,List.take_length] at hI
  have hall:=EQ (hnd ⟨a⟩)
  obtain ⟨h4,h5,h8,h9,h10,_⟩:=id hall
  obtain ⟨H,hH⟩:∃H,Ad (KJ b4 b5 b8 c2 c3 x.ts L ⟨a⟩)=H:=⟨_,rfl⟩
  rw [hH] at hall h4 h5 h8 h9 h10
  simp -implicitDefEqProofs only [LW] at h8
  rw [hI]
  simp -implicitDefEqProofs -proj only [go_sem,seval,hH,h4,h5,h8,n3,n4]
  exact AJ rfl
theorem TP {x:PartX} {q n:Int} (h:Jm x q=some n):Fit n:=by
 unfold Jm at h
 split at h
 ·cases h
 ·split at h
  ·exact TO h (by decide)
  ·cases h
def JL (x:PartX) (q:Int):Option Int:=match Jm x q with
 | some n=>Ir n 1000000 x.mo
 | none=>none
theorem AGD {x:PartX} {q:Int} (hx:x.Fit) (hq:Fit q) (ha:0≤x.al) (hb:1≤x.bl) (hl:x.ts.length≤1000000) (hs:∀n,Fit n→∀s∈HU x n,OF s):DataW Tryz.prog AVx [GK x,i64 q] (EN (JL x q)):=by
 have hm:=AMy hx hq ha hb hl hs
 have hf:=fun n=>@TP x q n
 unfold JL
 generalize Jm x q=m at *
 refine AZ ABz (by simp) ?_
 simp -implicitDefEqProofs -proj only [go_sem,seval]
 refine AI (fun b2 hb2=>?_)
 simp -implicitDefEqProofs -proj only [go_sem,seval]
 refine AK hm ?_
 cases m with
 | none =>
  simp -implicitDefEqProofs -proj only [go_sem,seval,EN]
  exact AJ rfl
 | some n =>
  have hd:=TD (m:=x.mo) (hf n rfl) (show Fit 1000000 by decide)
  rw [N3] at hd
  simp -implicitDefEqProofs -proj only [go_sem,seval,EN]
  refine AK hd ?_
  generalize Ir n 1000000 x.mo=o
  cases o <;> simp -implicitDefEqProofs only [EN]
  ·simp -implicitDefEqProofs -proj only [go_sem,seval]
   exact AJ rfl
  ·simp -implicitDefEqProofs -proj only [go_sem,seval]
   exact AJ rfl
def G5 (T:List Tier) (i:Nat):Int:=match T[i]? with
 | some t=>t.u
 | none=>0
def Jy (T:List Tier) (i:Nat):Int:=match T[i]? with
 | some t=>t.r
 | none=>0
theorem K6 {T:List Tier} {i:Nat} (h:i<T.length):G5 T i=T[i].u:=by simp [G5,h]
theorem NZ {T:List Tier} {i:Nat} (h:i<T.length):Jy T i=T[i].r:=by simp [Jy,h]
def Gv (T:List Tier) (i:Nat):Int:=if i=0 then 0 else G5 T (i-1)
def Kl (T:List Tier) (q:Int) (i:Nat):Int:=if i+1<T.length∧G5 T i<q then G5 T i else q
def refN (T:List Tier) (q:Int):Nat→List TStep
 | 0=>[]
 | i+1=>if Gv T i<Kl T q i then refN T q i++[⟨Gv T i,Kl T q i,Jy T i⟩] else refN T q i
def Qa (T:List Tier) (q:Int):List TStep:=refN T q T.length
structure Srt (T:List Tier):Prop where
 up:∀i,i+1<T.length→Gv T i<G5 T i∧G5 T i≤1000000
 low:∀i,i<T.length→0≤Gv T i∧Gv T i≤1000000
 rate:∀i,i<T.length→0≤Jy T i∧Jy T i≤1000000000000
theorem Lp {T:List Tier} (h:Hb T):Srt T:=by
 have h1:∀i,i+1<T.length→1≤G5 T i∧G5 T i≤1000000:=by
  intro i hi
  have hh:=(h i (by omega)).2
  have hne:¬i+1=T.length:=by omega
  rw [K6 (by omega)]
  have h2:Fq T i=1000000:=if_neg hne
  have h3:1≤FV T i:=by
   unfold FV
   rw [if_neg hne]
   split
   ·split <;> omega
   ·omega
  omega
 have h2:∀i,i<T.length→0≤Gv T i∧Gv T i≤1000000:=by
  intro i hi
  unfold Gv
  split
  ·omega
  ·have:=h1 (i-1) (by omega)
   omega
 refine ⟨fun i hi=>⟨?_,(h1 i hi).2⟩,h2,fun i hi=>?_⟩
 ·unfold Gv
  split
  ·have:=h1 i hi; omega
  ·next h0 =>
   have g1:=h1 (i-1) (by omega)
   have hh:=(h i (by omega)).2.1
   rw [K6 (by omega)] at g1
   obtain ⟨e1,e2⟩:=ME (T:=T) (i:=i) (by omega) (by omega) (by omega) g1.1
   rw [e1] at hh
   rw [K6 (by omega),K6 (by omega)]
   omega
 ·have:=(h i hi).1
  rw [NZ hi]
  exact this
theorem SS {T:List Tier} {q:Int} (hS:Srt T):∀i,i≤T.length→(FG T q i).2=refN T q i∧(i<T.length→(FG T q i).1=max 0 (min q (Gv T i)))∧(i=T.length→0<i→(FG T q i).1=max 0 q)
 | 0,_=>⟨rfl,fun _=>by simp [FG,Gv]; omega,fun _ h=>absurd h (Nat.lt_irrefl _)⟩
 | i+1,hi=>by
  obtain ⟨g1,g2,_⟩:=SS hS i (by omega) (q:=q)
  have hlt:i<T.length:=by omega
  have hf:=g2 hlt
  have hl:=hS.low i hlt
  have ht:KE T q i T[i]=if i+1<T.length then min q (G5 T i) else q:=by rw [K6 hlt]; rfl
  have hlow:Gv T (i+1)=G5 T i:=by simp [Gv]
  rw [FG,List.getElem?_eq_getElem hlt,refN,NZ hlt]
  simp -implicitDefEqProofs only []
  rw [hf,ht,g1,hlow]
  unfold Kl
  by_cases h:i+1<T.length
  ·obtain ⟨u1,u2⟩:=hS.up i h
   rw [if_pos h]
   refine ⟨?_,fun _=>by omega,fun e=>by omega⟩
   by_cases hq:Gv T i<q
   ·rw [if_pos (by omega),if_pos (by split <;> omega)]
    congr 3
    ·omega
    ·split <;> omega
   ·rw [if_neg (by omega),if_neg (by split <;> omega)]
  ·rw [if_neg h]
   refine ⟨?_,fun e=>absurd e h,fun _ _=>by omega⟩
   by_cases hq:Gv T i<q
   ·rw [if_pos (by omega),if_pos (by split <;> omega)]
    congr 3
    ·omega
    ·split <;> omega
   ·rw [if_neg (by omega),if_neg (by split <;> omega)]
theorem PP {T:List Tier} {q:Int} (hS:Srt T):KZ T q=Qa T q:=(SS hS T.length (Nat.le_refl _)).1
def tot:List TStep→Int
 | []=>0
 | s::l=>s.r*(s.t-s.f)+tot l
theorem Qd {T:List Tier} {q:Int} (hS:Srt T):∀i,i≤T.length→∀s∈refN T q i,0≤s.r∧s.r≤1000000000000∧0≤s.f∧s.f<s.t∧s.t≤q
 | 0,_,s,h=>by cases h
 | i+1,hi,s,h=>by
  rw [refN] at h
  split at h
  ·next hc =>
   rcases List.mem_append.1 h with h | h
   ·exact Qd hS i (by omega) s h
   ·simp -implicitDefEqProofs only [List.mem_singleton] at h
    subst h
    have h1:=hS.rate i (by omega)
    have h2:=hS.low i (by omega)
    refine ⟨h1.1,h1.2,h2.1,hc,?_⟩
    show Kl T q i≤q
    unfold Kl
    split <;> omega
  ·exact Qd hS i (by omega) s h
theorem UG {T:List Tier} {q:Int} (hr:∀i,i<T.length→0≤Jy T i∧Jy T i≤1000000000000):∀n,n≤T.length→∀s∈HR T q n,0≤s.r∧s.r≤1000000000000∧s.f=0∧0<s.t∧s.t=q
 | 0,_,s,h=>by cases h
 | n+1,hn,s,h=>by
  have hlt:T.length-(n+1)<T.length:=by omega
  rw [HR,List.getElem?_eq_getElem hlt] at h
  simp -implicitDefEqProofs only [] at h
  split at h
  ·split at h
   ·next hq =>
    simp -implicitDefEqProofs only [List.mem_singleton] at h
    subst h
    have:=hr _ hlt
    rw [NZ hlt] at this
    exact ⟨this.1,this.2,rfl,hq,rfl⟩
   ·cases h
  ·exact UG hr n (by omega) s h
structure GoodX (x:PartX):Prop where
 al:0≤x.al∧x.al≤1000000
 bl:1≤x.bl∧x.bl≤1000000
 ki:x.ki=1∨x.ki=2
 mo:0≤x.mo∧x.mo≤3
 tn:1≤x.ts.length∧x.ts.length≤8
 an:x.ad.length≤6
 ts:Hb x.ts
 ad:IS x.ad
theorem AMr {x:PartX} {q:Int} (h:Srt x.ts):∀s∈HU x q,0≤s.r∧s.r≤1000000000000∧0≤s.f∧s.f<s.t∧s.t≤q:=by
 intro s hs
 unfold HU at hs
 split at hs
 ·obtain ⟨h1,h2,h3,h4,h5⟩:=UG (h.rate) _ (Nat.le_refl _) s hs
  exact ⟨h1,h2,by omega,by omega,by omega⟩
 ·rw [PP h] at hs
  exact Qd h _ (Nat.le_refl _) s hs
theorem Sf {x:PartX} {n:Int} (h:Srt x.ts) (hn:Fit n):∀s∈HU x n,OF s:=by
 intro s hs
 have:=AMr h s hs
 unfold Fit at hn
 unfold OF Fit
 omega
def J3 (x:PartX) (q:Int):Int:=Eq (max (q-x.al) 0) x.bl 1*x.bl
section
def HC (s:Bool) (m:Int):AV:=.agg [bv s,u64 (m / 18446744073709551616),u64 (m % 18446744073709551616)]
def Ex (m:Int):Prop:=0≤m∧m<340282366920938463463374607431768211456
def wide (n:Int):AV:=HC (n<0) n.natAbs
attribute [local go_sem] HC wide
theorem wU (n:Int):IntKind.u64.wrap n=n % 18446744073709551616:=IntKind.wrap_u64 n
theorem LL {s:Bool} {m:Int} (h:Ex m):DataW Tryz.prog AEf [HC s m] (bv (m=0)):=by
 refine AZ AMY (by simp) ?_
 simp -implicitDefEqProofs -proj only [go_sem,seval]
 (repeat' first
  | ((with_reducible first | refine EP (fun h=>?_) (fun h=>?_) | refine Ba (fun h=>?_) (fun h=>?_) | refine ET (fun h=>?_) (fun h=>?_)) <;> (simp -implicitDefEqProofs -proj only [go_sem,seval, *]; try (revert h; intro _)))
  | ((with_reducible first | refine AI (fun _ hb=>?_) | refine Ao (fun _ hb=>?_)); simp only [ES,EU,Ag,Heap.none_get,and_true,true_and] at hb; simp -implicitDefEqProofs -proj only [go_sem,seval, *]; try (revert hb; intro _))
  | ((with_reducible first | refine BC _ rfl (by simp) ?_ | refine Cg _ rfl (by simp) ?_); simp -implicitDefEqProofs -proj only [go_sem,seval, *])
  | (with_reducible refine Aa ?_ (fun h=>?_); first | ((focus first | decide | omega); try clear h; try simp -implicitDefEqProofs -proj only [go_sem,seval, *]) | (rotate_left; try clear h; try simp -implicitDefEqProofs -proj only [go_sem,seval, *]; rotate_right)))
 all_goals
  refine AJ ?_
  simp -implicitDefEqProofs only [decide_eq_true_eq,decide_eq_false_iff_not,Bool.not_eq_true',Bool.not_eq_false',Bool.and_eq_true,Bool.and_eq_false_iff,Bool.or_eq_true,Bool.or_eq_false_iff,beq_iff_eq,beq_eq_false_iff_ne,ne_eq,decide_eq_decide,Bool.not_eq_true,Bool.not_eq_false,wU] at *
  simp -implicitDefEqProofs only [←decide_not,←Bool.decide_and,←Bool.decide_or,Bool.beq_eq_decide_eq,AV.d.injEq,D.bool.injEq,D.int.injEq,D.str.injEq,AV.tup.injEq,AV.agg.injEq,List.cons.injEq,true_and,and_true,decide_eq_decide,true_eq_decide_iff,false_eq_decide_iff,decide_eq_true_eq,decide_eq_false_iff_not,Bool.true_eq,Bool.false_eq]
  unfold Ex at *
  omega
theorem Ro {s s':Bool} {m m':Int} (h:Ex m) (h':Ex m'):DataW Tryz.prog AAw [HC s m,HC s' m'] (bv (m<m')):=by
 refine AZ AUH (by simp) ?_
 simp -implicitDefEqProofs -proj only [go_sem,seval]
 (repeat' first
  | ((with_reducible first | refine EP (fun h=>?_) (fun h=>?_) | refine Ba (fun h=>?_) (fun h=>?_) | refine ET (fun h=>?_) (fun h=>?_)) <;> (simp -implicitDefEqProofs -proj only [go_sem,seval, *]; try (revert h; intro _)))
  | ((with_reducible first | refine AI (fun _ hb=>?_) | refine Ao (fun _ hb=>?_)); simp only [ES,EU,Ag,Heap.none_get,and_true,true_and] at hb; simp -implicitDefEqProofs -proj only [go_sem,seval, *]; try (revert hb; intro _))
  | ((with_reducible first | refine BC _ rfl (by simp) ?_ | refine Cg _ rfl (by simp) ?_); simp -implicitDefEqProofs -proj only [go_sem,seval, *])
  | (with_reducible refine Aa ?_ (fun h=>?_); first | ((focus first | decide | omega); try clear h; try simp -implicitDefEqProofs -proj only [go_sem,seval, *]) | (rotate_left; try clear h; try simp -implicitDefEqProofs -proj only [go_sem,seval, *]; rotate_right)))
 all_goals
  refine AJ ?_
  simp -implicitDefEqProofs only [decide_eq_true_eq,decide_eq_false_iff_not,Bool.not_eq_true',Bool.not_eq_false',Bool.and_eq_true,Bool.and_eq_false_iff,Bool.or_eq_true,Bool.or_eq_false_iff,beq_iff_eq,beq_eq_false_iff_ne,ne_eq,decide_eq_decide,Bool.not_eq_true,Bool.not_eq_false,wU] at *
  simp -implicitDefEqProofs only [←decide_not,←Bool.decide_and,←Bool.decide_or,Bool.beq_eq_decide_eq,AV.d.injEq,D.bool.injEq,D.int.injEq,D.str.injEq,AV.tup.injEq,AV.agg.injEq,List.cons.injEq,true_and,and_true,decide_eq_decide,true_eq_decide_iff,false_eq_decide_iff,decide_eq_true_eq,decide_eq_false_iff_not,Bool.true_eq,Bool.false_eq]
  unfold Ex at *
  omega
theorem PY {s s':Bool} {m m':Int} (h:Ex m) (h':Ex m') (h2:Ex (m+m')):DataW Tryz.prog Ru [HC s m,HC s' m'] (HC false (m+m')):=by
 refine AZ YX (by simp) ?_
 simp -implicitDefEqProofs -proj only [go_sem,seval]
 (repeat' first
  | ((with_reducible first | refine EP (fun h=>?_) (fun h=>?_) | refine Ba (fun h=>?_) (fun h=>?_) | refine ET (fun h=>?_) (fun h=>?_)) <;> (simp -implicitDefEqProofs -proj only [go_sem,seval, *]; try (revert h; intro _)))
  | ((with_reducible first | refine AI (fun _ hb=>?_) | refine Ao (fun _ hb=>?_)); simp only [ES,EU,Ag,Heap.none_get,and_true,true_and] at hb; simp -implicitDefEqProofs -proj only [go_sem,seval, *]; try (revert hb; intro _))
  | ((with_reducible first | refine BC _ rfl (by simp) ?_ | refine Cg _ rfl (by simp) ?_); simp -implicitDefEqProofs -proj only [go_sem,seval, *])
  | (with_reducible refine Aa ?_ (fun h=>?_); first | ((focus first | decide | omega); try clear h; try simp -implicitDefEqProofs -proj only [go_sem,seval, *]) | (rotate_left; try clear h; try simp -implicitDefEqProofs -proj only [go_sem,seval, *]; rotate_right)))
 all_goals
  refine AJ ?_
  simp -implicitDefEqProofs only [decide_eq_true_eq,decide_eq_false_iff_not,Bool.not_eq_true',Bool.not_eq_false',Bool.and_eq_true,Bool.and_eq_false_iff,Bool.or_eq_true,Bool.or_eq_false_iff,beq_iff_eq,beq_eq_false_iff_ne,ne_eq,decide_eq_decide,Bool.not_eq_true,Bool.not_eq_false,wU] at *
  simp -implicitDefEqProofs only [←decide_not,←Bool.decide_and,←Bool.decide_or,Bool.beq_eq_decide_eq,AV.d.injEq,D.bool.injEq,D.int.injEq,D.str.injEq,AV.tup.injEq,AV.agg.injEq,List.cons.injEq,true_and,and_true,decide_eq_decide,true_eq_decide_iff,false_eq_decide_iff,decide_eq_true_eq,decide_eq_false_iff_not,Bool.true_eq,Bool.false_eq]
  unfold Ex at *
  omega
theorem NO {s s':Bool} {m m':Int} (h:Ex m) (h':Ex m') (h2:m'≤m):DataW Tryz.prog AKJ [HC s m,HC s' m'] (HC false (m-m')):=by
 refine AZ AIn (by simp) ?_
 simp -implicitDefEqProofs -proj only [go_sem,seval]
 (repeat' first
  | ((with_reducible first | refine EP (fun h=>?_) (fun h=>?_) | refine Ba (fun h=>?_) (fun h=>?_) | refine ET (fun h=>?_) (fun h=>?_)) <;> (simp -implicitDefEqProofs -proj only [go_sem,seval, *]; try (revert h; intro _)))
  | ((with_reducible first | refine AI (fun _ hb=>?_) | refine Ao (fun _ hb=>?_)); simp only [ES,EU,Ag,Heap.none_get,and_true,true_and] at hb; simp -implicitDefEqProofs -proj only [go_sem,seval, *]; try (revert hb; intro _))
  | ((with_reducible first | refine BC _ rfl (by simp) ?_ | refine Cg _ rfl (by simp) ?_); simp -implicitDefEqProofs -proj only [go_sem,seval, *])
  | (with_reducible refine Aa ?_ (fun h=>?_); first | ((focus first | decide | omega); try clear h; try simp -implicitDefEqProofs -proj only [go_sem,seval, *]) | (rotate_left; try clear h; try simp -implicitDefEqProofs -proj only [go_sem,seval, *]; rotate_right)))
 all_goals
  refine AJ ?_
  simp -implicitDefEqProofs only [decide_eq_true_eq,decide_eq_false_iff_not,Bool.not_eq_true',Bool.not_eq_false',Bool.and_eq_true,Bool.and_eq_false_iff,Bool.or_eq_true,Bool.or_eq_false_iff,beq_iff_eq,beq_eq_false_iff_ne,ne_eq,decide_eq_decide,Bool.not_eq_true,Bool.not_eq_false,wU] at *
  simp -implicitDefEqProofs only [←decide_not,←Bool.decide_and,←Bool.decide_or,Bool.beq_eq_decide_eq,AV.d.injEq,D.bool.injEq,D.int.injEq,D.str.injEq,AV.tup.injEq,AV.agg.injEq,List.cons.injEq,true_and,and_true,decide_eq_decide,true_eq_decide_iff,false_eq_decide_iff,decide_eq_true_eq,decide_eq_false_iff_not,Bool.true_eq,Bool.false_eq]
  unfold Ex at *
  omega
theorem Hx {a:Int} (h:Fit a):DataW Tryz.prog AUE [i64 a] (wide a):=by
 refine AZ AQf (by simp) ?_
 simp -implicitDefEqProofs -proj only [go_sem,seval]
 (repeat' first
  | ((with_reducible first | refine EP (fun h=>?_) (fun h=>?_) | refine Ba (fun h=>?_) (fun h=>?_) | refine ET (fun h=>?_) (fun h=>?_)) <;> (simp -implicitDefEqProofs -proj only [go_sem,seval, *]; try (revert h; intro _)))
  | ((with_reducible first | refine AI (fun _ hb=>?_) | refine Ao (fun _ hb=>?_)); simp only [ES,EU,Ag,Heap.none_get,and_true,true_and] at hb; simp -implicitDefEqProofs -proj only [go_sem,seval, *]; try (revert hb; intro _))
  | ((with_reducible first | refine BC _ rfl (by simp) ?_ | refine Cg _ rfl (by simp) ?_); simp -implicitDefEqProofs -proj only [go_sem,seval, *])
  | (with_reducible refine Aa ?_ (fun h=>?_); first | ((focus first | decide | omega); try clear h; try simp -implicitDefEqProofs -proj only [go_sem,seval, *]) | (rotate_left; try clear h; try simp -implicitDefEqProofs -proj only [go_sem,seval, *]; rotate_right)))
 all_goals
  refine AJ ?_
  simp -implicitDefEqProofs only [decide_eq_true_eq,decide_eq_false_iff_not,Bool.not_eq_true',Bool.not_eq_false',Bool.and_eq_true,Bool.and_eq_false_iff,Bool.or_eq_true,Bool.or_eq_false_iff,beq_iff_eq,beq_eq_false_iff_ne,ne_eq,decide_eq_decide,Bool.not_eq_true,Bool.not_eq_false,wU,wI,wide,HC] at *
  simp -implicitDefEqProofs only [←decide_not,←Bool.decide_and,←Bool.decide_or,Bool.beq_eq_decide_eq,AV.d.injEq,D.bool.injEq,D.int.injEq,D.str.injEq,AV.tup.injEq,AV.agg.injEq,List.cons.injEq,true_and,and_true,decide_eq_decide,true_eq_decide_iff,false_eq_decide_iff,decide_eq_true_eq,decide_eq_false_iff_not,Bool.true_eq,Bool.false_eq]
  unfold Fit at *
  omega
theorem MM {n:Int} (h:Ex n.natAbs):DataW Tryz.prog AW2 [wide n] (Fo n):=by
 refine AZ AGM (by simp) ?_
 simp -implicitDefEqProofs -proj only [go_sem,seval]
 (repeat' first
  | ((with_reducible first | refine EP (fun h=>?_) (fun h=>?_) | refine Ba (fun h=>?_) (fun h=>?_) | refine ET (fun h=>?_) (fun h=>?_)) <;> (simp -implicitDefEqProofs -proj only [go_sem,seval, *]; try (revert h; intro _)))
  | ((with_reducible first | refine AI (fun _ hb=>?_) | refine Ao (fun _ hb=>?_)); simp only [ES,EU,Ag,Heap.none_get,and_true,true_and] at hb; simp -implicitDefEqProofs -proj only [go_sem,seval, *]; try (revert hb; intro _))
  | ((with_reducible first | refine BC _ rfl (by simp) ?_ | refine Cg _ rfl (by simp) ?_); simp -implicitDefEqProofs -proj only [go_sem,seval, *])
  | (with_reducible refine Aa ?_ (fun h=>?_); first | ((focus first | decide | omega); try clear h; try simp -implicitDefEqProofs -proj only [go_sem,seval, *]) | (rotate_left; try clear h; try simp -implicitDefEqProofs -proj only [go_sem,seval, *]; rotate_right)))
 all_goals
  refine AJ (Jn ?_)
  simp -implicitDefEqProofs only [decide_eq_true_eq,decide_eq_false_iff_not,Bool.not_eq_true',Bool.not_eq_false',Bool.and_eq_true,Bool.and_eq_false_iff,Bool.or_eq_true,Bool.or_eq_false_iff,beq_iff_eq,beq_eq_false_iff_ne,ne_eq,decide_eq_decide,Bool.not_eq_true,Bool.not_eq_false,wU,wI] at *
  simp -implicitDefEqProofs only [Bool.false_eq_true,reduceCtorEq,true_and,false_and,or_false,false_or]
  unfold Fit Ex at *
  omega
theorem NM {n:Int} (h:Ex n.natAbs):DataW Tryz.prog AQx [wide n] (wide (-n)):=by
 refine AZ AD6 (by simp) ?_
 simp -implicitDefEqProofs -proj only [go_sem,seval]
 (repeat' first
  | (refine AK (LL h) ?_; simp -implicitDefEqProofs -proj only [go_sem,seval, *])
  | (refine Eb (LL h) ?_; simp -implicitDefEqProofs -proj only [go_sem,seval, *])
  | ((with_reducible first | refine EP (fun h=>?_) (fun h=>?_) | refine Ba (fun h=>?_) (fun h=>?_) | refine ET (fun h=>?_) (fun h=>?_)) <;> (simp -implicitDefEqProofs -proj only [go_sem,seval, *]; try (revert h; intro _)))
  | ((with_reducible first | refine AI (fun _ hb=>?_) | refine Ao (fun _ hb=>?_)); simp -implicitDefEqProofs only [ES,EU,Ag,Heap.none_get,and_true,true_and] at hb; simp -implicitDefEqProofs -proj only [go_sem,seval, *]; try (revert hb; intro _))
  | ((with_reducible first | refine BC _ rfl (by simp) ?_ | refine Cg _ rfl (by simp) ?_); simp -implicitDefEqProofs -proj only [go_sem,seval, *])
  | (with_reducible refine Aa ?_ (fun h=>?_); first | ((focus first | decide | omega); try clear h; try simp -implicitDefEqProofs -proj only [go_sem,seval, *]) | (rotate_left; try clear h; try simp -implicitDefEqProofs -proj only [go_sem,seval, *]; rotate_right)))
 all_goals
  refine AJ ?_
  simp -implicitDefEqProofs only [decide_eq_true_eq,decide_eq_false_iff_not,Bool.not_eq_true',Bool.not_eq_false',Bool.and_eq_true,Bool.and_eq_false_iff,Bool.or_eq_true,Bool.or_eq_false_iff,beq_iff_eq,beq_eq_false_iff_ne,ne_eq,decide_eq_decide,Bool.not_eq_true,Bool.not_eq_false] at *
  simp -implicitDefEqProofs only [←decide_not,←Bool.decide_and,←Bool.decide_or,Bool.beq_eq_decide_eq,AV.d.injEq,D.bool.injEq,D.int.injEq,D.str.injEq,AV.tup.injEq,AV.agg.injEq,List.cons.injEq,true_and,and_true,decide_eq_decide,true_eq_decide_iff,false_eq_decide_iff,decide_eq_true_eq,decide_eq_false_iff_not,Bool.true_eq,Bool.false_eq]
  omega
set_option maxHeartbeats 2000000 in
theorem K3 {a b:Int} (ha:a.natAbs<170141183460469231731687303715884105728) (hb:b.natAbs<170141183460469231731687303715884105728):DataW Tryz.prog ASD [wide a,wide b] (wide (a+b)):=by
 have h1:Ex a.natAbs:=by unfold Ex; omega
 have h2:Ex b.natAbs:=by unfold Ex; omega
 have h3:Ex (a.natAbs+b.natAbs):=by unfold Ex; omega
 refine AZ AN3 (by simp) ?_
 simp -implicitDefEqProofs -proj only [go_sem,seval]
 (repeat' first
  | (refine AK (PY h1 h2 h3) ?_; simp -implicitDefEqProofs -proj only [go_sem,seval, *])
  | (refine Eb (PY h1 h2 h3) ?_; simp -implicitDefEqProofs -proj only [go_sem,seval, *])
  | (refine AK (LL (by simp -implicitDefEqProofs only [decide_eq_true_eq,decide_eq_false_iff_not,Bool.not_eq_true',Bool.not_eq_false',Bool.and_eq_true,Bool.and_eq_false_iff,Bool.or_eq_true,Bool.or_eq_false_iff,beq_iff_eq,beq_eq_false_iff_ne,ne_eq,decide_eq_decide,Bool.not_eq_true,Bool.not_eq_false] at *; unfold Ex at *; omega)) ?_; simp -implicitDefEqProofs -proj only [go_sem,seval, *])
  | (refine Eb (LL (by simp -implicitDefEqProofs only [decide_eq_true_eq,decide_eq_false_iff_not,Bool.not_eq_true',Bool.not_eq_false',Bool.and_eq_true,Bool.and_eq_false_iff,Bool.or_eq_true,Bool.or_eq_false_iff,beq_iff_eq,beq_eq_false_iff_ne,ne_eq,decide_eq_decide,Bool.not_eq_true,Bool.not_eq_false] at *; unfold Ex at *; omega)) ?_; simp -implicitDefEqProofs -proj only [go_sem,seval, *])
  | (refine AK (Ro h1 h2) ?_; simp -implicitDefEqProofs -proj only [go_sem,seval, *])
  | (refine Eb (Ro h1 h2) ?_; simp -implicitDefEqProofs -proj only [go_sem,seval, *])
  | (refine AK (NO h1 h2 (by simp -implicitDefEqProofs only [decide_eq_true_eq,decide_eq_false_iff_not,Bool.not_eq_true',Bool.not_eq_false',Bool.and_eq_true,Bool.and_eq_false_iff,Bool.or_eq_true,Bool.or_eq_false_iff,beq_iff_eq,beq_eq_false_iff_ne,ne_eq,decide_eq_decide,Bool.not_eq_true,Bool.not_eq_false] at *; omega)) ?_; simp -implicitDefEqProofs -proj only [go_sem,seval, *])
  | (refine Eb (NO h1 h2 (by simp -implicitDefEqProofs only [decide_eq_true_eq,decide_eq_false_iff_not,Bool.not_eq_true',Bool.not_eq_false',Bool.and_eq_true,Bool.and_eq_false_iff,Bool.or_eq_true,Bool.or_eq_false_iff,beq_iff_eq,beq_eq_false_iff_ne,ne_eq,decide_eq_decide,Bool.not_eq_true,Bool.not_eq_false] at *; omega)) ?_; simp -implicitDefEqProofs -proj only [go_sem,seval, *])
  | (refine AK (NO h2 h1 (by simp -implicitDefEqProofs only [decide_eq_true_eq,decide_eq_false_iff_not,Bool.not_eq_true',Bool.not_eq_false',Bool.and_eq_true,Bool.and_eq_false_iff,Bool.or_eq_true,Bool.or_eq_false_iff,beq_iff_eq,beq_eq_false_iff_ne,ne_eq,decide_eq_decide,Bool.not_eq_true,Bool.not_eq_false] at *; omega)) ?_; simp -implicitDefEqProofs -proj only [go_sem,seval, *])
  | (refine Eb (NO h2 h1 (by simp -implicitDefEqProofs only [decide_eq_true_eq,decide_eq_false_iff_not,Bool.not_eq_true',Bool.not_eq_false',Bool.and_eq_true,Bool.and_eq_false_iff,Bool.or_eq_true,Bool.or_eq_false_iff,beq_iff_eq,beq_eq_false_iff_ne,ne_eq,decide_eq_decide,Bool.not_eq_true,Bool.not_eq_false] at *; omega)) ?_; simp -implicitDefEqProofs -proj only [go_sem,seval, *])
  | ((with_reducible first | refine EP (fun h=>?_) (fun h=>?_) | refine Ba (fun h=>?_) (fun h=>?_) | refine ET (fun h=>?_) (fun h=>?_)) <;> (simp -implicitDefEqProofs -proj only [go_sem,seval, *]; try (revert h; intro _)))
  | ((with_reducible first | refine AI (fun _ hb=>?_) | refine Ao (fun _ hb=>?_)); simp -implicitDefEqProofs only [ES,EU,Ag,Heap.none_get,and_true,true_and] at hb; simp -implicitDefEqProofs -proj only [go_sem,seval, *]; try (revert hb; intro _))
  | ((with_reducible first | refine BC _ rfl (by simp) ?_ | refine Cg _ rfl (by simp) ?_); simp -implicitDefEqProofs -proj only [go_sem,seval, *])
  | (with_reducible refine Aa ?_ (fun h=>?_); first | ((focus first | decide | omega); try clear h; try simp -implicitDefEqProofs -proj only [go_sem,seval, *]) | (rotate_left; try clear h; try simp -implicitDefEqProofs -proj only [go_sem,seval, *]; rotate_right)))
 all_goals
  refine AJ ?_
  simp -implicitDefEqProofs only [decide_eq_true_eq,decide_eq_false_iff_not,Bool.not_eq_true',Bool.not_eq_false',Bool.and_eq_true,Bool.and_eq_false_iff,Bool.or_eq_true,Bool.or_eq_false_iff,beq_iff_eq,beq_eq_false_iff_ne,ne_eq,decide_eq_decide,Bool.not_eq_true,Bool.not_eq_false] at *
  simp -implicitDefEqProofs only [←decide_not,←Bool.decide_and,←Bool.decide_or,Bool.beq_eq_decide_eq,AV.d.injEq,D.bool.injEq,D.int.injEq,D.str.injEq,AV.tup.injEq,AV.agg.injEq,List.cons.injEq,true_and,and_true,decide_eq_decide,true_eq_decide_iff,false_eq_decide_iff,decide_eq_true_eq,decide_eq_false_iff_not,Bool.true_eq,Bool.false_eq]
  omega
theorem NF {x y:Int} (hx:0≤x∧x≤4294967295) (hy:0≤y∧y≤4294967295):0≤x*y∧x*y≤18446744065119617025:=by
 refine ⟨Int.mul_nonneg hx.1 hy.1,?_⟩
 have:=Int.mul_le_mul hx.2 hy.2 hy.1 (by omega)
 omega
theorem UV {n:Int}:n.fdiv 4294967296=n / 4294967296:=Int.fdiv_eq_ediv_of_nonneg _ (by omega)
theorem ANA {n:Int} (h:0≤n):n.tmod 4294967296=n % 4294967296:=Int.tmod_eq_emod_of_nonneg h
def O0 (x y:Int):Nat→Int
 | 0=>x / 4294967296*(y / 4294967296)*18446744073709551616+x % 4294967296*(y % 4294967296)
 | 1=>x / 4294967296*(y / 4294967296)*18446744073709551616+x % 4294967296*(y % 4294967296)+x % 4294967296*(y / 4294967296)*4294967296
 | _=>x / 4294967296*(y / 4294967296)*18446744073709551616+x % 4294967296*(y % 4294967296)+x % 4294967296*(y / 4294967296)*4294967296+x / 4294967296*(y % 4294967296)*4294967296
theorem ABR (x y:Int):O0 x y 2=x*y:=by
 have hx:=Int.emod_add_mul_ediv x 4294967296
 have hy:=Int.emod_add_mul_ediv y 4294967296
 have e:x*y=(x % 4294967296+4294967296*(x / 4294967296))*(y % 4294967296+4294967296*(y / 4294967296)):=by rw [hx,hy]
 rw [e]
 simp -implicitDefEqProofs only [O0,Int.add_mul,Int.mul_add]
 have e1:∀p q:Int,p*(4294967296*q)=p*q*4294967296:=fun p q=>by rw [Int.mul_left_comm]; omega
 have e2:∀p q:Int,4294967296*p*q=p*q*4294967296:=fun p q=>by rw [Int.mul_assoc]; omega
 have e3:∀p q:Int,4294967296*p*(4294967296*q)=p*q*18446744073709551616:=fun p q=>by rw [e1,e2]; omega
 rw [e1,e2,e3]
 generalize x / 4294967296*(y / 4294967296)=p
 generalize x % 4294967296*(y % 4294967296)=q
 generalize x % 4294967296*(y / 4294967296)=r
 generalize x / 4294967296*(y % 4294967296)=t
 omega
theorem We (x y:Int):x*y<0↔(¬(x<0↔y<0)∧x*y≠0):=by
 rcases Int.lt_trichotomy x 0 with hx | hx | hx <;> rcases Int.lt_trichotomy y 0 with hy | hy | hy
 ·have:=Int.mul_pos_of_neg_of_neg hx hy; omega
 ·subst hy; simp
 ·have:=Int.mul_neg_of_neg_of_pos hx hy; omega
 ·subst hx; simp
 ·subst hx; simp
 ·subst hx; simp
 ·have:=Int.mul_neg_of_pos_of_neg hx hy; omega
 ·subst hy; simp
 ·have:=Int.mul_pos hx hy; omega
end
section
attribute [local go_sem] HC wide
def GH (p u v:Int):Nat→Int
 | 0=>p
 | 1=>p+u*4294967296
 | _=>p+u*4294967296+v*4294967296
theorem Qh {p u v:Int}:GH p u v 0=p:=(rfl)
theorem O3 {p u v:Int}:GH p u v 1=p+u*4294967296:=(rfl)
theorem L0 {p u v:Int}:GH p u v 2=p+u*4294967296+v*4294967296:=(rfl)
theorem T6 {p u v:Int} (hp:0≤p∧p<340282366920938463389587631136930004992) (hu:0≤u∧u≤18446744065119617025) (hv:0≤v∧v≤18446744065119617025) (i:Nat) (h:Ex (GH p u v 2)) (hi:i≤2):Ex (GH p u v i):=by
 have hi:i=0∨i=1∨i=2:=by omega
 unfold Ex at *
 rw [L0] at h
 rcases hi with rfl | rfl | rfl
 ·rw [Qh]; omega
 ·rw [O3]; omega
 ·rw [L0]; omega
theorem AIN {p u v:Int} (hp:0≤p∧p<340282366920938463389587631136930004992) (hu:0≤u∧u≤18446744065119617025) (hv:0≤v∧v≤18446744065119617025) (h2:Ex (GH p u v 2)) {R:Out→St→Prop} {tl:Nat→List (Nat×AV)} {hl:Nat→List (Nat×Blk)} {br b4 b5 b6 b11:Nat} {B4 B5 B6:Blk} (n1:¬b11=br) (n2:¬br=b11) (n3:¬b4=br) (n4:¬b4=b11) (n5:¬b5=br) (n6:¬b5=b11) (n7:¬b6=br) (n8:¬b6=b11)  (m4:¬b11=b4) (m6:¬b11=b5) (m8:¬b11=b6) (n9:¬b5=b4) (n10:¬b6=b4) (n11:¬b6=b5)
  (ht:∀i:Nat,tl i=[(43,.own br 1 0 2 2),(44,i64 2),(45,i64 i),(11,.ptr b11 0),(4,.ptr b4 0),(5,.ptr b5 0),(6,.ptr b6 0)])
  (hh:∀i:Nat,hl i=[(br,.row 79 1 2 [[.int .u64 u],[.int .u64 v]]),(b11,.box 124 [bv false,u64 (GH p u v i / 18446744073709551616),u64 (GH p u v i % 18446744073709551616)]),(b4,B4),(b5,B5),(b6,B6)]) {i:Nat} (hi:i≤1) :
  FS Tryz.prog (Ik (fun i=>i≤2) (fun x=>⟨69,E8 (tl x),Ad (hl x)⟩) (fun i=>2-i) i R) RB [] ⟨69,E8 (tl i),Ad (hl i)⟩:=by
 have key:∀j:Nat,∀w c:Int,j≤1→(w=u∧j=0∨w=v∧j=1)→c=GH p u v (j+1)→DataW Tryz.prog Ru [.agg [bv false,u64 (GH p u v j / 18446744073709551616),u64 (GH p u v j % 18446744073709551616)],.agg [bv false,u64 (w.fdiv 4294967296),u64 (IntKind.u64.wrap (w*4294967296))]] (.agg [bv false,u64 (c / 18446744073709551616),u64 (c % 18446744073709551616)]):=by
  intro j w c hj hw hc
  have e:Ex w∧Ex (w*4294967296):=by unfold Ex; omega
  have e3:c=GH p u v j+w*4294967296:=by
   rcases hw with ⟨rfl,rfl⟩ | ⟨rfl,rfl⟩
   ·rw [hc,O3,Qh]
   ·rw [hc,L0,O3]
  have h:=PY (s:=false) (s':=false) (T6 hp hu hv j h2 (by omega)) e.2 (by have:=T6 hp hu hv (j+1) h2 (by omega); rw [←hc,e3] at this; exact this)
  rw [←e3] at h
  have e4:AV.agg [bv false,u64 (w.fdiv 4294967296),u64 (IntKind.u64.wrap (w*4294967296))]=HC false (w*4294967296):=by
   simp -implicitDefEqProofs only [HC,wU,UV,←decide_not,←Bool.decide_and,←Bool.decide_or,Bool.beq_eq_decide_eq,AV.d.injEq,D.bool.injEq,D.int.injEq,D.str.injEq,AV.tup.injEq,AV.agg.injEq,List.cons.injEq,true_and,and_true,decide_eq_decide,true_eq_decide_iff,false_eq_decide_iff,decide_eq_true_eq,decide_eq_false_iff_not,Bool.true_eq,Bool.false_eq]; omega
  rw [e4]; exact h
 have k0:=key 0 u _ (by omega) (.inl ⟨rfl,rfl⟩) rfl
 have k1:=key 1 v _ (by omega) (.inr ⟨rfl,rfl⟩) rfl
 clear key
 have hi:i=0∨i=1:=by omega
 have next:∀(j:Nat) (s:St) ,j≤2→i<j→69=s.n→AL s.t (tl j)→AS s.H (hl j)→Ik (fun i=>i≤2) (fun x=>⟨69,E8 (tl x),Ad (hl x)⟩) (fun i=>2-i) i R .normal s:=fun j s a b c d e=>Ac j a (by omega) c d e
 generalize (Ik (fun i=>i≤2) (fun x=>⟨69,E8 (tl x),Ad (hl x)⟩) (fun i=>2-i) i R)=Q at next ⊢
 rw [ht,hh]
 rcases hi with rfl | rfl
 ·generalize GH p u v 0=m0 at *
  generalize hm:GH p u v (0+1)=m1 at *
  simp -implicitDefEqProofs -proj only [go_sem,seval,n1,n2]
  (repeat' first
  | ((with_reducible first | refine EP (fun h=>?_) (fun h=>?_) | refine Ba (fun h=>?_) (fun h=>?_) | refine ET (fun h=>?_) (fun h=>?_)) <;> (simp -implicitDefEqProofs -proj only [go_sem,seval, *]; try (revert h; intro _)))
  | ((with_reducible first | refine AI (fun _ hb=>?_) | refine Ao (fun _ hb=>?_)); simp only [ES,EU,Ag,Heap.none_get,and_true,true_and] at hb; simp -implicitDefEqProofs -proj only [go_sem,seval, *]; try (revert hb; intro _))
  | ((with_reducible first | refine BC _ rfl (by simp) ?_ | refine Cg _ rfl (by simp) ?_); simp -implicitDefEqProofs -proj only [go_sem,seval, *])
  | (with_reducible refine Aa ?_ (fun h=>?_); first | ((focus first | decide | omega); try clear h; try simp -implicitDefEqProofs -proj only [go_sem,seval, *]) | (rotate_left; try clear h; try simp -implicitDefEqProofs -proj only [go_sem,seval, *]; rotate_right)))
  refine AK k0 ?_
  simp -implicitDefEqProofs -proj only [go_sem,seval,n1,n2]
  (repeat' first
  | ((with_reducible first | refine EP (fun h=>?_) (fun h=>?_) | refine Ba (fun h=>?_) (fun h=>?_) | refine ET (fun h=>?_) (fun h=>?_)) <;> (simp -implicitDefEqProofs -proj only [go_sem,seval, *]; try (revert h; intro _)))
  | ((with_reducible first | refine AI (fun _ hb=>?_) | refine Ao (fun _ hb=>?_)); simp only [ES,EU,Ag,Heap.none_get,and_true,true_and] at hb; simp -implicitDefEqProofs -proj only [go_sem,seval, *]; try (revert hb; intro _))
  | ((with_reducible first | refine BC _ rfl (by simp) ?_ | refine Cg _ rfl (by simp) ?_); simp -implicitDefEqProofs -proj only [go_sem,seval, *])
  | (with_reducible refine Aa ?_ (fun h=>?_); first | ((focus first | decide | omega); try clear h; try simp -implicitDefEqProofs -proj only [go_sem,seval, *]) | (rotate_left; try clear h; try simp -implicitDefEqProofs -proj only [go_sem,seval, *]; rotate_right)))
  refine next 1 _ (by omega) (by omega) rfl ?_ ?_
  ·rw [ht]; simp -implicitDefEqProofs -proj only [go_sem,seval,AL,IntKind.wrap_i64]; try (simp -implicitDefEqProofs only [←decide_not,←Bool.decide_and,←Bool.decide_or,Bool.beq_eq_decide_eq,AV.d.injEq,D.bool.injEq,D.int.injEq,D.str.injEq,AV.tup.injEq,AV.agg.injEq,List.cons.injEq,true_and,and_true,decide_eq_decide,true_eq_decide_iff,false_eq_decide_iff,decide_eq_true_eq,decide_eq_false_iff_not,Bool.true_eq,Bool.false_eq]; omega)
  ·rw [hh,show GH p u v 1=m1 from hm]; simp -implicitDefEqProofs -proj only [go_sem,seval,AS,n1,n2,n3,n4,n5,n6,n7,n8,n9,n10,n11,m4,m6,m8]
 ·generalize GH p u v 1=m0 at *
  generalize hm:GH p u v (1+1)=m1 at *
  simp -implicitDefEqProofs -proj only [go_sem,seval,n1,n2]
  (repeat' first
  | ((with_reducible first | refine EP (fun h=>?_) (fun h=>?_) | refine Ba (fun h=>?_) (fun h=>?_) | refine ET (fun h=>?_) (fun h=>?_)) <;> (simp -implicitDefEqProofs -proj only [go_sem,seval, *]; try (revert h; intro _)))
  | ((with_reducible first | refine AI (fun _ hb=>?_) | refine Ao (fun _ hb=>?_)); simp only [ES,EU,Ag,Heap.none_get,and_true,true_and] at hb; simp -implicitDefEqProofs -proj only [go_sem,seval, *]; try (revert hb; intro _))
  | ((with_reducible first | refine BC _ rfl (by simp) ?_ | refine Cg _ rfl (by simp) ?_); simp -implicitDefEqProofs -proj only [go_sem,seval, *])
  | (with_reducible refine Aa ?_ (fun h=>?_); first | ((focus first | decide | omega); try clear h; try simp -implicitDefEqProofs -proj only [go_sem,seval, *]) | (rotate_left; try clear h; try simp -implicitDefEqProofs -proj only [go_sem,seval, *]; rotate_right)))
  refine AK k1 ?_
  simp -implicitDefEqProofs -proj only [go_sem,seval,n1,n2]
  (repeat' first
  | ((with_reducible first | refine EP (fun h=>?_) (fun h=>?_) | refine Ba (fun h=>?_) (fun h=>?_) | refine ET (fun h=>?_) (fun h=>?_)) <;> (simp -implicitDefEqProofs -proj only [go_sem,seval, *]; try (revert h; intro _)))
  | ((with_reducible first | refine AI (fun _ hb=>?_) | refine Ao (fun _ hb=>?_)); simp only [ES,EU,Ag,Heap.none_get,and_true,true_and] at hb; simp -implicitDefEqProofs -proj only [go_sem,seval, *]; try (revert hb; intro _))
  | ((with_reducible first | refine BC _ rfl (by simp) ?_ | refine Cg _ rfl (by simp) ?_); simp -implicitDefEqProofs -proj only [go_sem,seval, *])
  | (with_reducible refine Aa ?_ (fun h=>?_); first | ((focus first | decide | omega); try clear h; try simp -implicitDefEqProofs -proj only [go_sem,seval, *]) | (rotate_left; try clear h; try simp -implicitDefEqProofs -proj only [go_sem,seval, *]; rotate_right)))
  refine next 2 _ (by omega) (by omega) rfl ?_ ?_
  ·rw [ht]; simp -implicitDefEqProofs -proj only [go_sem,seval,AL,IntKind.wrap_i64]; try (simp -implicitDefEqProofs only [←decide_not,←Bool.decide_and,←Bool.decide_or,Bool.beq_eq_decide_eq,AV.d.injEq,D.bool.injEq,D.int.injEq,D.str.injEq,AV.tup.injEq,AV.agg.injEq,List.cons.injEq,true_and,and_true,decide_eq_decide,true_eq_decide_iff,false_eq_decide_iff,decide_eq_true_eq,decide_eq_false_iff_not,Bool.true_eq,Bool.false_eq]; omega)
  ·rw [hh,show GH p u v 2=m1 from hm]; simp -implicitDefEqProofs -proj only [go_sem,seval,AS,n1,n2,n3,n4,n5,n6,n7,n8,n9,n10,n11,m4,m6,m8]
theorem Ty {x y:Int} (hx:Fit x) (hy:Fit y):0≤(x.natAbs:Int)*y.natAbs∧(x.natAbs:Int)*y.natAbs≤85070591730234615865843651857942052864:=by
 refine ⟨Int.mul_nonneg (by omega) (by omega),?_⟩
 have:=Int.mul_le_mul (a:=(x.natAbs:Int)) (c:=9223372036854775808) (b:=(y.natAbs:Int)) (d:=9223372036854775808) (by unfold Fit at hx; omega) (by unfold Fit at hy; omega) (by omega) (by omega)
 omega
theorem LA {x y:Int} (ha:Fit x) (hb:Fit y):DataW Tryz.prog APt [i64 x,i64 y] (wide (x*y)):=by
 have hx:((x.natAbs:Int) % 18446744073709551616)=x.natAbs:=by unfold Fit at ha; omega
 have hy:((y.natAbs:Int) % 18446744073709551616)=y.natAbs:=by unfold Fit at hb; omega
 refine AZ AUe (by simp) ?_
 simp -implicitDefEqProofs -proj only [go_sem,seval]
 (repeat' first
  | (refine AK (Hx ha) ?_; simp -implicitDefEqProofs -proj only [go_sem,seval, *])
  | (refine Eb (Hx ha) ?_; simp -implicitDefEqProofs -proj only [go_sem,seval, *])
  | (refine AK (Hx hb) ?_; simp -implicitDefEqProofs -proj only [go_sem,seval, *])
  | (refine Eb (Hx hb) ?_; simp -implicitDefEqProofs -proj only [go_sem,seval, *])
  | ((with_reducible first | refine EP (fun h=>?_) (fun h=>?_) | refine Ba (fun h=>?_) (fun h=>?_) | refine ET (fun h=>?_) (fun h=>?_)) <;> (simp -implicitDefEqProofs -proj only [go_sem,seval, *]; try (revert h; intro _)))
  | ((with_reducible first | refine AI (fun _ hb=>?_) | refine Ao (fun _ hb=>?_)); simp -implicitDefEqProofs only [ES,EU,Ag,Heap.none_get,and_true,true_and] at hb; simp -implicitDefEqProofs -proj only [go_sem,seval, *]; try (revert hb; intro _))
  | ((with_reducible first | refine BC _ rfl (by simp) ?_ | refine Cg _ rfl (by simp) ?_); simp -implicitDefEqProofs -proj only [go_sem,seval, *])
  | (with_reducible refine Aa ?_ (fun h=>?_); first | ((focus first | decide | omega); try clear h; try simp -implicitDefEqProofs -proj only [go_sem,seval, *]) | (rotate_left; try clear h; try simp -implicitDefEqProofs -proj only [go_sem,seval, *]; rotate_right)))
 simp -implicitDefEqProofs -proj only [go_sem,seval,hx,hy,UV,ANA (Int.natCast_nonneg _), *]
 (repeat' first
  | (refine AK (Hx ha) ?_; simp -implicitDefEqProofs -proj only [go_sem,seval, *])
  | (refine Eb (Hx ha) ?_; simp -implicitDefEqProofs -proj only [go_sem,seval, *])
  | (refine AK (Hx hb) ?_; simp -implicitDefEqProofs -proj only [go_sem,seval, *])
  | (refine Eb (Hx hb) ?_; simp -implicitDefEqProofs -proj only [go_sem,seval, *])
  | ((with_reducible first | refine EP (fun h=>?_) (fun h=>?_) | refine Ba (fun h=>?_) (fun h=>?_) | refine ET (fun h=>?_) (fun h=>?_)) <;> (simp -implicitDefEqProofs -proj only [go_sem,seval, *]; try (revert h; intro _)))
  | ((with_reducible first | refine AI (fun _ hb=>?_) | refine Ao (fun _ hb=>?_)); simp -implicitDefEqProofs only [ES,EU,Ag,Heap.none_get,and_true,true_and] at hb; simp -implicitDefEqProofs -proj only [go_sem,seval, *]; try (revert hb; intro _))
  | ((with_reducible first | refine BC _ rfl (by simp) ?_ | refine Cg _ rfl (by simp) ?_); simp -implicitDefEqProofs -proj only [go_sem,seval, *])
  | (with_reducible refine Aa ?_ (fun h=>?_); first | ((focus first | decide | omega); try clear h; try simp -implicitDefEqProofs -proj only [go_sem,seval, *]) | (rotate_left; try clear h; try simp -implicitDefEqProofs -proj only [go_sem,seval, *]; rotate_right)))
 next b4 _ b5 hb5 b6 hb6 b11 hb11 br hbr =>
 have hp:=NF (x:=x.natAbs / 4294967296) (y:=y.natAbs / 4294967296) (by unfold Fit at ha; omega) (by unfold Fit at hb; omega)
 have hq:=NF (x:=x.natAbs % 4294967296) (y:=y.natAbs % 4294967296) (by unfold Fit at ha; omega) (by unfold Fit at hb; omega)
 have hr:=NF (x:=x.natAbs % 4294967296) (y:=y.natAbs / 4294967296) (by unfold Fit at ha; omega) (by unfold Fit at hb; omega)
 have ht:=NF (x:=x.natAbs / 4294967296) (y:=y.natAbs % 4294967296) (by unfold Fit at ha; omega) (by unfold Fit at hb; omega)
 have hm:=ABR x.natAbs y.natAbs
 have hxy:=Ty ha hb
 have hn:(x.natAbs:Int)*y.natAbs=(x*y).natAbs:=by rw [Int.natAbs_mul]; rfl
 have hs:=We x y
 rw [hn] at hm hxy
 simp -implicitDefEqProofs only [O0] at hm
 have hz:(x*y).natAbs=0↔x*y=0:=Int.natAbs_eq_zero
 generalize (x*y).natAbs=N at *
 generalize hmn:x*y=mn at *
 generalize x.natAbs / (4294967296:Int)*(y.natAbs / (4294967296:Int))=P at *
 generalize x.natAbs % (4294967296:Int)*(y.natAbs % (4294967296:Int))=q at *
 generalize x.natAbs % (4294967296:Int)*(y.natAbs / (4294967296:Int))=u at *
 generalize x.natAbs / (4294967296:Int)*(y.natAbs % (4294967296:Int))=v at *
 obtain ⟨tl,htl⟩:∃tl:Nat→List (Nat×AV),∀i:Nat,tl i=[(43,.own br 1 0 2 2),(44,i64 2),(45,i64 i),(11,.ptr b11 0),(4,.ptr b4 0),(5,.ptr b5 0),(6,.ptr b6 0)]:=⟨_,fun _=>rfl⟩
 obtain ⟨hl,hhl⟩:∃hl:Nat→List (Nat×Blk),∀i:Nat,hl i=[(br,.row 79 1 2 [[.int .u64 u],[.int .u64 v]]),(b11,.box 124 [bv false,u64 (GH (P*18446744073709551616+q) u v i / 18446744073709551616),u64 (GH (P*18446744073709551616+q) u v i % 18446744073709551616)]),
   (b4,.box 124 [bv false,u64 0,u64 0]),(b5,.box 124 [bv (decide (x<0)),u64 (↑x.natAbs / 18446744073709551616),u64 ↑x.natAbs]),(b6,.box 124 [bv (decide (y<0)),u64 (↑y.natAbs / 18446744073709551616),u64 ↑y.natAbs])]:=⟨_,fun _=>rfl⟩
 refine BJ (fun i:Nat=>i≤2) 69 tl hl
  (fun i=>2-i) 0 (by omega) rfl ?_ ?_ ?_
 ·rw [htl]; simp -implicitDefEqProofs -proj only [go_sem,seval,AL]
 ·rw [hhl,Qh]; simp -implicitDefEqProofs -proj only [go_sem,seval,AS, *]
  simp -implicitDefEqProofs only [wU,Option.some.injEq,Blk.box.injEq,Blk.row.injEq,←decide_not,←Bool.decide_and,←Bool.decide_or,Bool.beq_eq_decide_eq,AV.d.injEq,D.bool.injEq,D.int.injEq,D.str.injEq,AV.tup.injEq,AV.agg.injEq,List.cons.injEq,true_and,and_true,decide_eq_decide,true_eq_decide_iff,false_eq_decide_iff,decide_eq_true_eq,decide_eq_false_iff_not,Bool.true_eq,Bool.false_eq]
  omega
 ·intro i hi
  by_cases hi2:i≤1
  ·refine AIN (p:=P*18446744073709551616+q) (by omega) hr ht ?_ ?_ ?_ ?_ ?_ ?_ ?_ ?_ ?_ ?_ ?_ ?_ ?_ ?_ ?_ htl hhl hi2
   ·rw [L0,hm]; unfold Ex; omega
   all_goals simp -implicitDefEqProofs only [hb5,hb6,hb11,hbr,not_false_eq_true]
  ·have hi:i=2:=by omega
   subst hi
   rw [htl,hhl,L0,hm]
   simp -implicitDefEqProofs -proj only [go_sem,seval,hb5,hb6,hb11,hbr]
   (repeat' first
  | (refine AK (LL (m:=N) (by unfold Ex; omega)) ?_; simp -implicitDefEqProofs -proj only [go_sem,seval, *])
  | (refine Eb (LL (m:=N) (by unfold Ex; omega)) ?_; simp -implicitDefEqProofs -proj only [go_sem,seval, *])
  | ((with_reducible first | refine EP (fun h=>?_) (fun h=>?_) | refine Ba (fun h=>?_) (fun h=>?_) | refine ET (fun h=>?_) (fun h=>?_)) <;> (simp -implicitDefEqProofs -proj only [go_sem,seval, *]; try (revert h; intro _)))
  | ((with_reducible first | refine AI (fun _ hb=>?_) | refine Ao (fun _ hb=>?_)); simp -implicitDefEqProofs only [ES,EU,Ag,Heap.none_get,and_true,true_and] at hb; simp -implicitDefEqProofs -proj only [go_sem,seval, *]; try (revert hb; intro _))
  | ((with_reducible first | refine BC _ rfl (by simp) ?_ | refine Cg _ rfl (by simp) ?_); simp -implicitDefEqProofs -proj only [go_sem,seval, *])
  | (with_reducible refine Aa ?_ (fun h=>?_); first | ((focus first | decide | omega); try clear h; try simp -implicitDefEqProofs -proj only [go_sem,seval, *]) | (rotate_left; try clear h; try simp -implicitDefEqProofs -proj only [go_sem,seval, *]; rotate_right)))
   all_goals
    refine AJ ?_
    simp -implicitDefEqProofs only [decide_eq_true_eq,decide_eq_false_iff_not,Bool.not_eq_true',Bool.not_eq_false',Bool.and_eq_true,Bool.and_eq_false_iff,Bool.or_eq_true,Bool.or_eq_false_iff,beq_iff_eq,beq_eq_false_iff_ne,ne_eq,decide_eq_decide,Bool.not_eq_true,Bool.not_eq_false] at *
    simp -implicitDefEqProofs only [←decide_not,←Bool.decide_and,←Bool.decide_or,Bool.beq_eq_decide_eq,AV.d.injEq,D.bool.injEq,D.int.injEq,D.str.injEq,AV.tup.injEq,AV.agg.injEq,List.cons.injEq,true_and,and_true,decide_eq_decide,true_eq_decide_iff,false_eq_decide_iff,decide_eq_true_eq,decide_eq_false_iff_not,Bool.true_eq,Bool.false_eq]
    first
    | exact ⟨fun h'=>⟨by assumption,by omega⟩,fun h'=>by omega⟩
    | exact fun h'=>h'.1 (by assumption)
    | omega
theorem LX {x y:Int} (hx:Fit x) (hy:Fit y):(x*y).natAbs≤85070591730234615865843651857942052864:=by
 have h:=Ty hx hy
 have:(x.natAbs:Int)*y.natAbs=(x*y).natAbs:=by rw [Int.natAbs_mul]; rfl
 omega
end
section
attribute [local go_sem] HC wide
theorem AER {x y:Int} (hx:x.natAbs≤85070591730234615865843651857942052864) (hy:y.natAbs≤85070591730234615865843651857942052864):DataW Tryz.prog XQ [wide x,wide y] (bv (decide (x<y))):=by
 have h1:=NM (n:=y) (by unfold Ex; omega)
 have h2:=K3 (a:=x) (b:=-y) (by omega) (by omega)
 refine AZ AGQ (by simp) ?_
 simp -implicitDefEqProofs -proj only [go_sem,seval]
 (repeat' first
  | ((with_reducible first | refine EP (fun h=>?_) (fun h=>?_) | refine Ba (fun h=>?_) (fun h=>?_) | refine ET (fun h=>?_) (fun h=>?_)) <;> (simp -implicitDefEqProofs -proj only [go_sem,seval, *]; try (revert h; intro _)))
  | ((with_reducible first | refine AI (fun _ hb=>?_) | refine Ao (fun _ hb=>?_)); simp only [ES,EU,Ag,Heap.none_get,and_true,true_and] at hb; simp -implicitDefEqProofs -proj only [go_sem,seval, *]; try (revert hb; intro _))
  | ((with_reducible first | refine BC _ rfl (by simp) ?_ | refine Cg _ rfl (by simp) ?_); simp -implicitDefEqProofs -proj only [go_sem,seval, *])
  | (with_reducible refine Aa ?_ (fun h=>?_); first | ((focus first | decide | omega); try clear h; try simp -implicitDefEqProofs -proj only [go_sem,seval, *]) | (rotate_left; try clear h; try simp -implicitDefEqProofs -proj only [go_sem,seval, *]; rotate_right)))
 refine Eb h1 ?_
 simp -implicitDefEqProofs -proj only [go_sem,seval, *]
 (repeat' first
  | ((with_reducible first | refine EP (fun h=>?_) (fun h=>?_) | refine Ba (fun h=>?_) (fun h=>?_) | refine ET (fun h=>?_) (fun h=>?_)) <;> (simp -implicitDefEqProofs -proj only [go_sem,seval, *]; try (revert h; intro _)))
  | ((with_reducible first | refine AI (fun _ hb=>?_) | refine Ao (fun _ hb=>?_)); simp only [ES,EU,Ag,Heap.none_get,and_true,true_and] at hb; simp -implicitDefEqProofs -proj only [go_sem,seval, *]; try (revert hb; intro _))
  | ((with_reducible first | refine BC _ rfl (by simp) ?_ | refine Cg _ rfl (by simp) ?_); simp -implicitDefEqProofs -proj only [go_sem,seval, *])
  | (with_reducible refine Aa ?_ (fun h=>?_); first | ((focus first | decide | omega); try clear h; try simp -implicitDefEqProofs -proj only [go_sem,seval, *]) | (rotate_left; try clear h; try simp -implicitDefEqProofs -proj only [go_sem,seval, *]; rotate_right)))
 refine Eb h2 ?_
 simp -implicitDefEqProofs -proj only [go_sem,seval, *]
 (repeat' first
  | ((with_reducible first | refine EP (fun h=>?_) (fun h=>?_) | refine Ba (fun h=>?_) (fun h=>?_) | refine ET (fun h=>?_) (fun h=>?_)) <;> (simp -implicitDefEqProofs -proj only [go_sem,seval, *]; try (revert h; intro _)))
  | ((with_reducible first | refine AI (fun _ hb=>?_) | refine Ao (fun _ hb=>?_)); simp only [ES,EU,Ag,Heap.none_get,and_true,true_and] at hb; simp -implicitDefEqProofs -proj only [go_sem,seval, *]; try (revert hb; intro _))
  | ((with_reducible first | refine BC _ rfl (by simp) ?_ | refine Cg _ rfl (by simp) ?_); simp -implicitDefEqProofs -proj only [go_sem,seval, *])
  | (with_reducible refine Aa ?_ (fun h=>?_); first | ((focus first | decide | omega); try clear h; try simp -implicitDefEqProofs -proj only [go_sem,seval, *]) | (rotate_left; try clear h; try simp -implicitDefEqProofs -proj only [go_sem,seval, *]; rotate_right)))
 refine AJ ?_
 simp -implicitDefEqProofs only [←decide_not,←Bool.decide_and,←Bool.decide_or,Bool.beq_eq_decide_eq,AV.d.injEq,D.bool.injEq,D.int.injEq,D.str.injEq,AV.tup.injEq,AV.agg.injEq,List.cons.injEq,true_and,and_true,decide_eq_decide,true_eq_decide_iff,false_eq_decide_iff,decide_eq_true_eq,decide_eq_false_iff_not,Bool.true_eq,Bool.false_eq]
 omega
theorem Rf {n c p:Int} (hn:Fit n) (hc:Fit c) (hp:p.natAbs≤85070591730234615865843651857942052864):DataW Tryz.prog AHX [i64 n,i64 c,wide p] (bv (decide (n*c≤p))):=by
 have h1:=LA hn hc
 have hq:=LX hn hc
 have h2:=AER hp hq
 generalize n*c=z at *
 refine AZ AQq (by simp) ?_
 simp -implicitDefEqProofs -proj only [go_sem,seval]
 (repeat' first
  | ((with_reducible first | refine EP (fun h=>?_) (fun h=>?_) | refine Ba (fun h=>?_) (fun h=>?_) | refine ET (fun h=>?_) (fun h=>?_)) <;> (simp -implicitDefEqProofs -proj only [go_sem,seval, *]; try (revert h; intro _)))
  | ((with_reducible first | refine AI (fun _ hb=>?_) | refine Ao (fun _ hb=>?_)); simp only [ES,EU,Ag,Heap.none_get,and_true,true_and] at hb; simp -implicitDefEqProofs -proj only [go_sem,seval, *]; try (revert hb; intro _))
  | ((with_reducible first | refine BC _ rfl (by simp) ?_ | refine Cg _ rfl (by simp) ?_); simp -implicitDefEqProofs -proj only [go_sem,seval, *])
  | (with_reducible refine Aa ?_ (fun h=>?_); first | ((focus first | decide | omega); try clear h; try simp -implicitDefEqProofs -proj only [go_sem,seval, *]) | (rotate_left; try clear h; try simp -implicitDefEqProofs -proj only [go_sem,seval, *]; rotate_right)))
 refine Eb h1 ?_
 simp -implicitDefEqProofs -proj only [go_sem,seval, *]
 (repeat' first
  | (refine AK (h2) ?_; simp -implicitDefEqProofs -proj only [go_sem,seval, *])
  | (refine Eb (h2) ?_; simp -implicitDefEqProofs -proj only [go_sem,seval, *])
  | ((with_reducible first | refine EP (fun h=>?_) (fun h=>?_) | refine Ba (fun h=>?_) (fun h=>?_) | refine ET (fun h=>?_) (fun h=>?_)) <;> (simp -implicitDefEqProofs -proj only [go_sem,seval, *]; try (revert h; intro _)))
  | ((with_reducible first | refine AI (fun _ hb=>?_) | refine Ao (fun _ hb=>?_)); simp -implicitDefEqProofs only [ES,EU,Ag,Heap.none_get,and_true,true_and] at hb; simp -implicitDefEqProofs -proj only [go_sem,seval, *]; try (revert hb; intro _))
  | ((with_reducible first | refine BC _ rfl (by simp) ?_ | refine Cg _ rfl (by simp) ?_); simp -implicitDefEqProofs -proj only [go_sem,seval, *])
  | (with_reducible refine Aa ?_ (fun h=>?_); first | ((focus first | decide | omega); try clear h; try simp -implicitDefEqProofs -proj only [go_sem,seval, *]) | (rotate_left; try clear h; try simp -implicitDefEqProofs -proj only [go_sem,seval, *]; rotate_right)))
 refine AJ ?_
 simp -implicitDefEqProofs only [←decide_not,←Bool.decide_and,←Bool.decide_or,Bool.beq_eq_decide_eq,AV.d.injEq,D.bool.injEq,D.int.injEq,D.str.injEq,AV.tup.injEq,AV.agg.injEq,List.cons.injEq,true_and,and_true,decide_eq_decide,true_eq_decide_iff,false_eq_decide_iff,decide_eq_true_eq,decide_eq_false_iff_not,Bool.true_eq,Bool.false_eq]
 omega
def MA (p c:Int):AV:=if -9223372036854775808*c≤p then .tup [i64 (Iq p c),bv true] else .tup [i64 0,bv false]
theorem UZ {p c:Int} (hc:0<c) (h : -9223372036854775808*c≤p):Fit (Iq p c):=by
 have h1:=(SE (p:=p) (n:=-9223372036854775808) hc (by omega)).2 h
 unfold Fit
 refine ⟨h1,?_⟩
 unfold Iq
 split <;> omega
theorem AQs {low P nx:Int} (h:nx=IntKind.i64.wrap (IntKind.u64.wrap (IntKind.u64.wrap low+P))) (hl:Fit low) (hP:1≤P∧P≤9223372036854775808):(low+P≤9223372036854775807→nx=low+P)∧(9223372036854775807<low+P→nx<low):=by
 rw [IntKind.wrap_i64,IntKind.wrap_u64,IntKind.wrap_u64] at h
 unfold Fit at hl
 omega
theorem AP5 (j:Nat) (h:0<j) (h2:j≤64):∃P:Int,(2:Int) ^ (j-1)=P∧(2:Int) ^ j=2*P∧1≤P∧P≤9223372036854775808:=by
 refine ⟨_,rfl,?_,?_,?_⟩
 ·conv=>lhs; rw [show j=j-1+1 by omega,Int.pow_succ,Int.mul_comm]
 ·have:=KU (j-1); omega
 ·have:=MY (show j-1≤63 by omega)
  have e:(2:Int) ^ 63=9223372036854775808:=rfl
  omega
set_option maxRecDepth 20000 in
set_option maxHeartbeats 2000000 in
theorem WK {p c:Int} (hc0:0<c) (hc:Fit c) (hp:p.natAbs≤85070591730234615865843651857942052864):DataW Tryz.prog ANK [wide p,i64 c] (MA p c):=by
 have h1:=Rf (n:=-9223372036854775808) (c:=c) (p:=p) (by decide) hc hp
 refine AZ ATR (by simp) ?_
 by_cases h : -9223372036854775808*c≤p
 ·rw [MA,if_pos h]
  rw [decide_eq_true h] at h1
  simp -implicitDefEqProofs -proj only [go_sem,seval]
  refine AI (fun b hb=>?_)
  simp -implicitDefEqProofs -proj only [go_sem,seval]
  refine AK h1 ?_
  simp -implicitDefEqProofs -proj only [go_sem,seval]
  have hf:=UZ hc0 h
  have hle:=fun n hn=>SE (p:=p) (c:=c) (n:=n) hc0 hn
  clear h1 h
  generalize Iq p c=T at *
  refine BJ (fun x:Nat×Int=>x.1≤64∧Fit x.2∧x.2≤T∧T<x.2+2 ^ x.1) 39 (fun x=>[(2,.ptr b 0),(1,i64 c),(6,i64 x.2),(7,i64 ((x.1:Int)-1))])
   (fun _=>[(b,.box 124 [bv (decide (p<0)),u64 ((p.natAbs:Int) / 18446744073709551616),u64 ((p.natAbs:Int) % 18446744073709551616)])]) (fun x=>x.1) (64,-9223372036854775808) ⟨by simp -implicitDefEqProofs only [Am]; omega,by decide,by unfold Fit at hf; simp -implicitDefEqProofs only [Az]; omega,by unfold Fit at hf; simp -implicitDefEqProofs only [Az,Am]; omega⟩ rfl ?_ ?_ ?_
  ·simp -implicitDefEqProofs -proj only [go_sem,seval,AL]
  ·simp -implicitDefEqProofs -proj only [go_sem,seval,AS]
  ·rintro ⟨j,low⟩ ⟨i1,i2,i3,i4⟩
   simp -implicitDefEqProofs only [Am,Az] at i1 i2 i3 i4
   by_cases hj:0<j
   ·obtain ⟨P,e1,e2,e3,e4⟩:=AP5 j hj i1
    have w1:IntKind.u64.wrap ((j:Int)-1)=((j-1:Nat):Int):=by rw [FD (by omega)]; omega
    have w2:IntKind.u64.wrap P=P:=FD (by omega)
    have w3:IntKind.i64.wrap ((j:Int)-1-1)=((j-1:Nat):Int)-1:=by rw [IntKind.wrap_i64]; omega
    have hk:j-1≤64:=by omega
    obtain ⟨nx,hnx⟩:∃nx,nx=IntKind.i64.wrap (IntKind.u64.wrap (IntKind.u64.wrap low+P)):=⟨_,rfl⟩
    obtain ⟨n1,n2⟩:=AQs hnx i2 ⟨e3,e4⟩
    have hle2:=hle nx
    simp -implicitDefEqProofs -proj only [go_sem,seval,decide_eq_true (show 0≤(j:Int)-1 by omega),w1,w2,w3,Int.toNat_natCast,hk,e1,Int.one_mul]
    (repeat' (with_reducible refine Aa ?_ (fun h=>?_); (focus first | decide | omega); clear h; try simp -implicitDefEqProofs -proj only [go_sem,seval,w1,w2,w3,Int.toNat_natCast,hk,e1,Int.one_mul,←hnx]))
    by_cases hb2:low+P≤9223372036854775807
    ·have hn:=n1 hb2
     have hu:=Rf (n:=nx) (c:=c) (p:=p) (by unfold Fit at *; omega) hc hp
     simp -implicitDefEqProofs -proj only [go_sem,seval,←hnx,decide_eq_true (show low<nx by omega)]
     refine AK hu ?_
     by_cases hv:nx*c≤p
     ·have:=(hle2 (by omega)).2 hv
      simp -implicitDefEqProofs -proj only [go_sem,seval,←hnx,decide_eq_true hv]
      refine Ac (j-1,nx) ⟨by simp -implicitDefEqProofs only [Am]; omega,by unfold Fit at *; simp -implicitDefEqProofs only [Az]; omega,by simp -implicitDefEqProofs only [Az]; omega,by simp -implicitDefEqProofs only [Am,Az]; rw [e1]; omega⟩ (by simp -implicitDefEqProofs only [Am]; omega) rfl ?_ ?_
      ·simp -implicitDefEqProofs -proj only [go_sem,seval,AL,w3]
      ·simp -implicitDefEqProofs -proj only [go_sem,seval,AS]
     ·have:¬nx≤T:=fun h=>hv ((hle2 (by omega)).1 h)
      simp -implicitDefEqProofs -proj only [go_sem,seval,←hnx,decide_eq_false hv]
      refine Ac (j-1,low) ⟨by simp -implicitDefEqProofs only [Am]; omega,i2,i3,by simp -implicitDefEqProofs only [Am,Az]; rw [e1]; omega⟩ (by simp -implicitDefEqProofs only [Am]; omega) rfl ?_ ?_
      ·simp -implicitDefEqProofs -proj only [go_sem,seval,AL,w3]
      ·simp -implicitDefEqProofs -proj only [go_sem,seval,AS]
    ·have hn:=n2 (by omega)
     simp -implicitDefEqProofs -proj only [go_sem,seval,←hnx,decide_eq_false (show ¬low<nx by omega)]
     refine Ac (j-1,low) ⟨by simp -implicitDefEqProofs only [Am]; omega,i2,i3,by unfold Fit at hf; simp -implicitDefEqProofs only [Am,Az]; rw [e1]; omega⟩ (by simp -implicitDefEqProofs only [Am]; omega) rfl ?_ ?_
     ·simp -implicitDefEqProofs -proj only [go_sem,seval,AL,w3]
     ·simp -implicitDefEqProofs -proj only [go_sem,seval,AS]
   ·have hj0:j=0:=by omega
    subst hj0
    have hT:low=T:=by
     have:(2:Int) ^ 0=1:=rfl
     omega
    simp -implicitDefEqProofs -proj only [go_sem,seval]
    exact AJ (by rw [hT])
 ·rw [MA,if_neg h]
  rw [decide_eq_false h] at h1
  simp -implicitDefEqProofs -proj only [go_sem,seval]
  refine AI (fun b hb=>?_)
  simp -implicitDefEqProofs -proj only [go_sem,seval]
  refine AK h1 ?_
  simp -implicitDefEqProofs -proj only [go_sem,seval]
  exact AJ rfl
def KN (d c m:Int):AV:=if 0≤d∧d<c∧(m=1∨1<m∧2*d≤c) then .tup [i64 (-9223372036854775808),bv true] else .tup [i64 0,bv false]
theorem QF {d c m n:Int} {u:Bool} (h:(u=true∧n = -9223372036854775808∧(0≤d∧d<c∧(m=1∨1<m∧2*d≤c)))∨(u=false∧n=0∧¬(0≤d∧d<c∧(m=1∨1<m∧2*d≤c)))):AV.tup [i64 n,bv u]=KN d c m:=by
 unfold KN
 rcases h with ⟨rfl,rfl,h⟩ | ⟨rfl,rfl,h⟩
 ·rw [if_pos h]
 ·rw [if_neg h]
set_option maxRecDepth 20000 in
theorem AMz {p c m:Int} (hc0:0<c) (hc:Fit c) (hp:p.natAbs≤85070591730234615865843651857942052864):DataW Tryz.prog Wx [wide p,i64 c,i64 m] (KN (-9223372036854775808*c-p) c m):=by
 have h1:=LA (x:=-9223372036854775808) (y:=c) (by decide) hc
 have hq:=LX (x:=-9223372036854775808) (y:=c) (by decide) hc
 have h2:=NM (n:=p) (by unfold Ex; omega)
 have h3:=K3 (a:=-9223372036854775808*c) (b:=-p) (by omega) (by omega)
 obtain ⟨d,hd⟩:∃d,-9223372036854775808*c + -p=d:=⟨_,rfl⟩
 have hd2 : -9223372036854775808*c-p=d:=by omega
 rw [hd] at h3
 rw [hd2]
 have hd3:d.natAbs<340282366920938463463374607431768211456:=by omega
 have hcw:IntKind.u64.wrap c=c:=FD (by unfold Fit at hc; omega)
 generalize -9223372036854775808*c=z at *
 clear hd hd2 hq
 refine AZ Yy (by simp) ?_
 simp -implicitDefEqProofs -proj only [go_sem,seval]
 (repeat' first
  | ((with_reducible first | refine EP (fun h=>?_) (fun h=>?_) | refine Ba (fun h=>?_) (fun h=>?_) | refine ET (fun h=>?_) (fun h=>?_)) <;> (simp -implicitDefEqProofs -proj only [go_sem,seval, *]; try (revert h; intro _)))
  | ((with_reducible first | refine AI (fun _ hb=>?_) | refine Ao (fun _ hb=>?_)); simp only [ES,EU,Ag,Heap.none_get,and_true,true_and] at hb; simp -implicitDefEqProofs -proj only [go_sem,seval, *]; try (revert hb; intro _))
  | ((with_reducible first | refine BC _ rfl (by simp) ?_ | refine Cg _ rfl (by simp) ?_); simp -implicitDefEqProofs -proj only [go_sem,seval, *])
  | (with_reducible refine Aa ?_ (fun h=>?_); first | ((focus first | decide | omega); try clear h; try simp -implicitDefEqProofs -proj only [go_sem,seval, *]) | (rotate_left; try clear h; try simp -implicitDefEqProofs -proj only [go_sem,seval, *]; rotate_right)))
 refine Eb h1 ?_
 simp -implicitDefEqProofs -proj only [go_sem,seval, *]
 (repeat' first
  | ((with_reducible first | refine EP (fun h=>?_) (fun h=>?_) | refine Ba (fun h=>?_) (fun h=>?_) | refine ET (fun h=>?_) (fun h=>?_)) <;> (simp -implicitDefEqProofs -proj only [go_sem,seval, *]; try (revert h; intro _)))
  | ((with_reducible first | refine AI (fun _ hb=>?_) | refine Ao (fun _ hb=>?_)); simp only [ES,EU,Ag,Heap.none_get,and_true,true_and] at hb; simp -implicitDefEqProofs -proj only [go_sem,seval, *]; try (revert hb; intro _))
  | ((with_reducible first | refine BC _ rfl (by simp) ?_ | refine Cg _ rfl (by simp) ?_); simp -implicitDefEqProofs -proj only [go_sem,seval, *])
  | (with_reducible refine Aa ?_ (fun h=>?_); first | ((focus first | decide | omega); try clear h; try simp -implicitDefEqProofs -proj only [go_sem,seval, *]) | (rotate_left; try clear h; try simp -implicitDefEqProofs -proj only [go_sem,seval, *]; rotate_right)))
 refine Eb h2 ?_
 simp -implicitDefEqProofs -proj only [go_sem,seval, *]
 (repeat' first
  | ((with_reducible first | refine EP (fun h=>?_) (fun h=>?_) | refine Ba (fun h=>?_) (fun h=>?_) | refine ET (fun h=>?_) (fun h=>?_)) <;> (simp -implicitDefEqProofs -proj only [go_sem,seval, *]; try (revert h; intro _)))
  | ((with_reducible first | refine AI (fun _ hb=>?_) | refine Ao (fun _ hb=>?_)); simp only [ES,EU,Ag,Heap.none_get,and_true,true_and] at hb; simp -implicitDefEqProofs -proj only [go_sem,seval, *]; try (revert hb; intro _))
  | ((with_reducible first | refine BC _ rfl (by simp) ?_ | refine Cg _ rfl (by simp) ?_); simp -implicitDefEqProofs -proj only [go_sem,seval, *])
  | (with_reducible refine Aa ?_ (fun h=>?_); first | ((focus first | decide | omega); try clear h; try simp -implicitDefEqProofs -proj only [go_sem,seval, *]) | (rotate_left; try clear h; try simp -implicitDefEqProofs -proj only [go_sem,seval, *]; rotate_right)))
 refine Eb h3 ?_
 simp -implicitDefEqProofs -proj only [go_sem,seval, *]
 (repeat' first
  | ((with_reducible first | refine EP (fun h=>?_) (fun h=>?_) | refine Ba (fun h=>?_) (fun h=>?_) | refine ET (fun h=>?_) (fun h=>?_)) <;> (simp -implicitDefEqProofs -proj only [go_sem,seval, *]; try (revert h; intro _)))
  | ((with_reducible first | refine AI (fun _ hb=>?_) | refine Ao (fun _ hb=>?_)); simp only [ES,EU,Ag,Heap.none_get,and_true,true_and] at hb; simp -implicitDefEqProofs -proj only [go_sem,seval, *]; try (revert hb; intro _))
  | ((with_reducible first | refine BC _ rfl (by simp) ?_ | refine Cg _ rfl (by simp) ?_); simp -implicitDefEqProofs -proj only [go_sem,seval, *])
  | (with_reducible refine Aa ?_ (fun h=>?_); first | ((focus first | decide | omega); try clear h; try simp -implicitDefEqProofs -proj only [go_sem,seval, *]) | (rotate_left; try clear h; try simp -implicitDefEqProofs -proj only [go_sem,seval, *]; rotate_right)))
 all_goals
  refine AJ (QF ?_)
  clear h1 h2 h3
  try simp -implicitDefEqProofs only [decide_eq_true_eq,decide_eq_false_iff_not,Bool.not_eq_true',Bool.not_eq_false',Bool.and_eq_true,Bool.and_eq_false_iff,Bool.or_eq_true,Bool.or_eq_false_iff,beq_iff_eq,beq_eq_false_iff_ne,ne_eq,decide_eq_decide,Bool.not_eq_true,Bool.not_eq_false,IntKind.wrap_u64] at *
  try simp -implicitDefEqProofs only [←decide_not,←Bool.decide_and,←Bool.decide_or,Bool.beq_eq_decide_eq,AV.d.injEq,D.bool.injEq,D.int.injEq,D.str.injEq,AV.tup.injEq,AV.agg.injEq,List.cons.injEq,true_and,and_true,decide_eq_decide,true_eq_decide_iff,false_eq_decide_iff,decide_eq_true_eq,decide_eq_false_iff_not,Bool.false_eq_true,Bool.true_eq_false,reduceCtorEq,false_and,true_and,or_false,false_or]
  unfold Fit at hc
  try omega
set_option maxRecDepth 20000 in
set_option maxHeartbeats 2000000 in
theorem QN {a b c m:Int} (ha:Fit a) (hb:Fit b) (hc:Fit c):DataW Tryz.prog Xs [i64 a,i64 b,i64 c,i64 m] (I5 (a*b) c m):=by
 by_cases hh:0<c∧0≤m∧m≤3
 ·obtain ⟨hc0,hm⟩:=hh
  have h1:=LA ha hb
  have hp:=LX ha hb
  have h2:=WK (p:=a*b) hc0 hc hp
  obtain ⟨q,r,d1,d2,d3,d4,d5,hr⟩:=Me (p:=a*b) (c:=c) (m:=m) hc0 hm
  rw [MU hc0 hm]
  have c1:decide (c≤0)=false:=decide_eq_false (by omega)
  have c2:decide (m<0)=false:=decide_eq_false (by omega)
  have c3:decide (3<m)=false:=decide_eq_false (by omega)
  have hcw:IntKind.u64.wrap c=c:=FD (by unfold Fit at hc; omega)
  have hE:=AMz (p:=a*b) (c:=c) (m:=m) hc0 hc hp
  generalize a*b=p at *
  refine AZ UW (by simp) ?_
  by_cases hf : -9223372036854775808*c≤p
  ·have hcf:=UZ hc0 hf
   rw [MA,if_pos hf] at h2
   have h3:=LA hcf hc
   have hq:=LX hcf hc
   have h4:=NM (n:=Iq p c*c) (by unfold Ex; omega)
   have h5:=K3 (a:=p) (b:=-(Iq p c*c)) (by omega) (by omega)
   have hn:Iq p c=if q≤9223372036854775807 then q else 9223372036854775807:=by rw [Iq,d4]
   obtain ⟨n,hn2⟩:∃n,Iq p c=n:=⟨_,rfl⟩
   rw [hn2] at hn h2 h3 h4 h5 hcf
   obtain ⟨d,hd⟩:∃d,p + -(n*c)=d:=⟨_,rfl⟩
   rw [hd] at h5
   have hd3:d.natAbs<340282366920938463463374607431768211456:=by rw [hn2] at hq; omega
   have key:n=q∧d=r∨n=9223372036854775807∧9223372036854775807<q∧c≤d:=by
    by_cases hqm:q≤9223372036854775807
    ·rw [if_pos hqm] at hn
     subst hn
     left; omega
    ·rw [if_neg hqm] at hn
     right
     refine ⟨hn,by omega,?_⟩
     have:=Int.mul_le_mul_of_nonneg_right (show 9223372036854775807+1≤q by omega) (Int.le_of_lt hc0)
     rw [Int.add_mul,←hn] at this
     omega
   generalize n*c=z at *
   clear hn hd hq hE d1 hf hn2
   clear d4 d5 hp
   simp -implicitDefEqProofs -proj only [go_sem,seval,c1,c2,c3]
   (repeat' first
  | (refine AK (h1) ?_; simp -implicitDefEqProofs -proj only [go_sem,seval, *])
  | (refine Eb (h1) ?_; simp -implicitDefEqProofs -proj only [go_sem,seval, *])
  | (refine AK (h2) ?_; simp -implicitDefEqProofs -proj only [go_sem,seval, *])
  | (refine Eb (h2) ?_; simp -implicitDefEqProofs -proj only [go_sem,seval, *])
  | (refine AK (h3) ?_; simp -implicitDefEqProofs -proj only [go_sem,seval, *])
  | (refine Eb (h3) ?_; simp -implicitDefEqProofs -proj only [go_sem,seval, *])
  | (refine AK (h4) ?_; simp -implicitDefEqProofs -proj only [go_sem,seval, *])
  | (refine Eb (h4) ?_; simp -implicitDefEqProofs -proj only [go_sem,seval, *])
  | (refine AK (h5) ?_; simp -implicitDefEqProofs -proj only [go_sem,seval, *])
  | (refine Eb (h5) ?_; simp -implicitDefEqProofs -proj only [go_sem,seval, *])
  | ((with_reducible first | refine EP (fun h=>?_) (fun h=>?_) | refine Ba (fun h=>?_) (fun h=>?_) | refine ET (fun h=>?_) (fun h=>?_)) <;> (simp -implicitDefEqProofs -proj only [go_sem,seval, *]; try (revert h; intro _)))
  | ((with_reducible first | refine AI (fun _ hb=>?_) | refine Ao (fun _ hb=>?_)); simp -implicitDefEqProofs only [ES,EU,Ag,Heap.none_get,and_true,true_and] at hb; simp -implicitDefEqProofs -proj only [go_sem,seval, *]; try (revert hb; intro _))
  | ((with_reducible first | refine BC _ rfl (by simp) ?_ | refine Cg _ rfl (by simp) ?_); simp -implicitDefEqProofs -proj only [go_sem,seval, *])
  | (with_reducible refine Aa ?_ (fun h=>?_); first | ((focus first | decide | omega); try clear h; try simp -implicitDefEqProofs -proj only [go_sem,seval, *]) | (rotate_left; try clear h; try simp -implicitDefEqProofs -proj only [go_sem,seval, *]; rotate_right)))
   all_goals
    refine AJ (Jn ?_)
    clear h1 h2 h3 h4 h5
    have ht:n.tmod 2=0↔n % 2=0:=⟨fun h=>Int.emod_eq_zero_of_dvd (Int.dvd_of_tmod_eq_zero h),fun h=>Int.tmod_eq_zero_of_dvd (Int.dvd_of_emod_eq_zero h)⟩
    simp -implicitDefEqProofs only [decide_eq_true_eq,decide_eq_false_iff_not,Bool.not_eq_true',Bool.not_eq_false',Bool.and_eq_true,Bool.and_eq_false_iff,Bool.or_eq_true,Bool.or_eq_false_iff,beq_iff_eq,beq_eq_false_iff_ne,ne_eq,decide_eq_decide,Bool.not_eq_true,Bool.not_eq_false,IntKind.wrap_u64,IntKind.wrap_i64] at *
    simp -implicitDefEqProofs only [Bool.false_eq_true,reduceCtorEq,true_and,false_and,or_false,false_or]
    unfold GS at hr
    unfold Fit at *
    generalize Eq p c m=R at *
    omega
  ·rw [MA,if_neg hf] at h2
   have h3:=LA (x:=0) (y:=c) (by decide) hc
   have h4:=NM (n:=0) (by unfold Ex; decide)
   have h5:=K3 (a:=p) (b:=0) (by omega) (by decide)
   rw [Int.zero_mul] at h3
   rw [Int.neg_zero] at h4
   rw [Int.add_zero] at h5
   have hq1:q < -9223372036854775808:=by
    rw [←d4,Int.ediv_lt_iff_lt_mul hc0]; omega
   have hd : -9223372036854775808*c-p=(-9223372036854775808-q)*c-r:=by rw [Int.sub_mul]; omega
   obtain ⟨d,hd2⟩:∃d,-9223372036854775808*c-p=d:=⟨_,rfl⟩
   rw [hd2] at hd hE
   have key:q = -9223372036854775809∧d=c-r∨q < -9223372036854775809∧c<d:=by
    by_cases hqm:q = -9223372036854775809
    ·left; subst hqm; exact ⟨rfl,by omega⟩
    ·right
     have:=Int.mul_le_mul_of_nonneg_right (show 2≤-9223372036854775808-q by omega) (Int.le_of_lt hc0)
     omega
   have res:Fo (Eq p c m)=KN d c m:=by
    symm
    by_cases hf:Fit (Eq p c m)
    ·rw [Gl hf]
     symm
     refine QF ?_
     unfold Fit at hf
     unfold GS at hr
     generalize Eq p c m=R at *
     simp -implicitDefEqProofs only [Bool.true_eq_false,Bool.false_eq_true,reduceCtorEq,true_and,false_and,or_false,false_or]
     omega
    ·rw [IC hf]
     symm
     refine QF ?_
     unfold Fit at hf
     unfold GS at hr
     generalize Eq p c m=R at *
     simp -implicitDefEqProofs only [Bool.true_eq_false,Bool.false_eq_true,reduceCtorEq,true_and,false_and,or_false,false_or]
     omega
   rw [res]
   have ee:KN d c m = .tup [i64 (-9223372036854775808),bv true]∨KN d c m = .tup [i64 0,bv false]:=by
    unfold KN; split
    ·exact .inl rfl
    ·exact .inr rfl
   generalize KN d c m=R at *
   clear key hd hd2 res d1 d4 d5 hr hf hp
   rcases ee with rfl | rfl
   all_goals
    simp -implicitDefEqProofs -proj only [go_sem,seval,c1,c2,c3]
    (repeat' first
  | (refine AK (h1) ?_; simp -implicitDefEqProofs -proj only [go_sem,seval, *])
  | (refine Eb (h1) ?_; simp -implicitDefEqProofs -proj only [go_sem,seval, *])
  | (refine AK (h2) ?_; simp -implicitDefEqProofs -proj only [go_sem,seval, *])
  | (refine Eb (h2) ?_; simp -implicitDefEqProofs -proj only [go_sem,seval, *])
  | (refine AK (h3) ?_; simp -implicitDefEqProofs -proj only [go_sem,seval, *])
  | (refine Eb (h3) ?_; simp -implicitDefEqProofs -proj only [go_sem,seval, *])
  | (refine AK (h4) ?_; simp -implicitDefEqProofs -proj only [go_sem,seval, *])
  | (refine Eb (h4) ?_; simp -implicitDefEqProofs -proj only [go_sem,seval, *])
  | (refine AK (h5) ?_; simp -implicitDefEqProofs -proj only [go_sem,seval, *])
  | (refine Eb (h5) ?_; simp -implicitDefEqProofs -proj only [go_sem,seval, *])
  | (refine AK (hE) ?_; simp -implicitDefEqProofs -proj only [go_sem,seval, *])
  | (refine Eb (hE) ?_; simp -implicitDefEqProofs -proj only [go_sem,seval, *])
  | ((with_reducible first | refine EP (fun h=>?_) (fun h=>?_) | refine Ba (fun h=>?_) (fun h=>?_) | refine ET (fun h=>?_) (fun h=>?_)) <;> (simp -implicitDefEqProofs -proj only [go_sem,seval, *]; try (revert h; intro _)))
  | ((with_reducible first | refine AI (fun _ hb=>?_) | refine Ao (fun _ hb=>?_)); simp -implicitDefEqProofs only [ES,EU,Ag,Heap.none_get,and_true,true_and] at hb; simp -implicitDefEqProofs -proj only [go_sem,seval, *]; try (revert hb; intro _))
  | ((with_reducible first | refine BC _ rfl (by simp) ?_ | refine Cg _ rfl (by simp) ?_); simp -implicitDefEqProofs -proj only [go_sem,seval, *])
  | (with_reducible refine Aa ?_ (fun h=>?_); first | ((focus first | decide | omega); try clear h; try simp -implicitDefEqProofs -proj only [go_sem,seval, *]) | (rotate_left; try clear h; try simp -implicitDefEqProofs -proj only [go_sem,seval, *]; rotate_right)))
    all_goals exact AJ rfl
 ·rw [OM hh]
  refine AZ UW (by simp) ?_
  simp -implicitDefEqProofs -proj only [go_sem,seval]
  (repeat' first
  | ((with_reducible first | refine EP (fun h=>?_) (fun h=>?_) | refine Ba (fun h=>?_) (fun h=>?_) | refine ET (fun h=>?_) (fun h=>?_)) <;> (simp -implicitDefEqProofs -proj only [go_sem,seval, *]; try (revert h; intro _)))
  | ((with_reducible first | refine AI (fun _ hb=>?_) | refine Ao (fun _ hb=>?_)); simp only [ES,EU,Ag,Heap.none_get,and_true,true_and] at hb; simp -implicitDefEqProofs -proj only [go_sem,seval, *]; try (revert hb; intro _))
  | ((with_reducible first | refine BC _ rfl (by simp) ?_ | refine Cg _ rfl (by simp) ?_); simp -implicitDefEqProofs -proj only [go_sem,seval, *])
  | (with_reducible refine Aa ?_ (fun h=>?_); first | ((focus first | decide | omega); try clear h; try simp -implicitDefEqProofs -proj only [go_sem,seval, *]) | (rotate_left; try clear h; try simp -implicitDefEqProofs -proj only [go_sem,seval, *]; rotate_right)))
  all_goals first | exact AJ rfl | (exfalso; simp -implicitDefEqProofs only [decide_eq_true_eq,decide_eq_false_iff_not,Bool.not_eq_true',Bool.not_eq_false',Bool.and_eq_true,Bool.and_eq_false_iff,Bool.or_eq_true,Bool.or_eq_false_iff,beq_iff_eq,beq_eq_false_iff_ne,ne_eq,decide_eq_decide,Bool.not_eq_true,Bool.not_eq_false] at *; omega)
end
theorem AKG {x:PartX} {q:Int} (hx:x.Fit) (hq:Fit q) (ha:0≤x.al) (hb:1≤x.bl):DataW Tryz.prog ABD [GK x,i64 q] (if q<0 then .tup [i64 0,bv false] else Fo (J3 x q)):=by
 refine AZ Zs (by simp) ?_
 simp -implicitDefEqProofs -proj only [go_sem,seval]
 refine AI (fun b2 hb2=>?_)
 by_cases h:q<0
 ·rw [if_pos h]
  simp -implicitDefEqProofs -proj only [go_sem,seval,decide_eq_true h]
  exact AJ rfl
 ·rw [if_neg h]
  have hal:=hx.al
  have hbl:=hx.bl
  unfold Fit at hal hq
  have hw:IntKind.i64.wrap (q-x.al)=q-x.al:=by rw [IntKind.wrap_i64]; omega
  have hf:Fit (Eq (max (q-x.al) 0) x.bl 1):=by
   have:=Q4 (a:=max (q-x.al) 0) (c:=x.bl) (m:=1) (by omega) (by decide) (by omega)
   unfold Fit
   omega
  have h1:=QN (a:=max (q-x.al) 0) (b:=1) (c:=x.bl) (m:=1) (by unfold Fit; omega) (by decide) hbl
  rw [Int.mul_one,MU (by omega) (by decide),Gl hf] at h1
  have h2:=LA hf hbl
  have h3:=MM (n:=Eq (max (q-x.al) 0) x.bl 1*x.bl) (by have:=LX hf hbl; unfold Ex; omega)
  unfold J3
  generalize Eq (max (q-x.al) 0) x.bl 1=k at *
  simp -implicitDefEqProofs -proj only [go_sem,seval,decide_eq_false h,hw]
  refine AK h1 ?_
  simp -implicitDefEqProofs -proj only [go_sem,seval]
  refine AK h2 ?_
  simp -implicitDefEqProofs -proj only [go_sem,seval]
  refine AK h3 ?_
  unfold Fo
  simp -implicitDefEqProofs -proj only [go_sem,seval]
  exact AJ rfl
theorem P3 {l:List TStep}:∀el∈EO l,∀d∈el,HA d=true:=by
 intro el he d hd
 obtain ⟨r,_,rfl⟩:=List.mem_map.1 he
 simp -implicitDefEqProofs only [TStep.el,List.mem_cons,List.not_mem_nil,or_false] at hd
 rcases hd with rfl | rfl | rfl <;> rfl
theorem ANV {l:List TStep} {i:Nat} (h:i<l.length):(EO l)[((i:Int)).toNat]? = some [.int .i64 l[i].f,.int .i64 l[i].t,.int .i64 l[i].r]:=by
 rw [Int.toNat_natCast]; simp [EO,h,TStep.el]
structure RsX where
 i:Nat
 c:Nat
 cap:Nat
theorem Er {i c cap:Nat}:(RsX.mk i c cap).i=i:=(rfl)
theorem Ew {i c cap:Nat}:(RsX.mk i c cap).c=c:=(rfl)
theorem Ev {i c cap:Nat}:(RsX.mk i c cap).cap=cap:=(rfl)
theorem Mp {T:List Tier} {q:Int}:∀i,(refN T q i).length≤i
 | 0=>Nat.le_refl _
 | i+1=>by
  have:=Mp (T:=T) (q:=q) i
  rw [refN]
  split
  ·simp -implicitDefEqProofs only [List.length_append,List.length_singleton]; omega
  ·omega
def FU (b2:Nat) (x:PartX) (q:Int) (y:RsX):List (Nat×Blk):=Ah 157 3 y.c y.cap (EO (refN x.ts q y.i))++[(b2,.box 40 [i64 x.me,i64 x.f,i64 x.t,i64 x.al,i64 x.bl,i64 x.ki,EZ x.ts,i64 x.mo,Ec x.ad])]
set_option maxRecDepth 20000 in
theorem AQU {x:PartX} {q:Int} (hl:x.ts.length≤1000000) (hn0:1≤x.ts.length):NewW Tryz.prog AGa [GK x,i64 q] (T4 (if x.ki=2 then Ip x.ts q else Qa x.ts q)):=by
 have hwl:IntKind.i64.wrap ((x.ts.length:Int)-1)=(x.ts.length:Int)-1:=by rw [IntKind.wrap_i64]; omega
 refine AZ ASp (by simp) ?_
 simp -implicitDefEqProofs -proj only [go_sem,seval]
 refine AI (fun b2 hb2=>?_)
 have c2:=GE (x:=.box 40 [i64 x.me,i64 x.f,i64 x.t,i64 x.al,i64 x.bl,i64 x.ki,EZ x.ts,i64 x.mo,Ec x.ad]) hb2 (l:=[]) trivial
 have n2:=GR (x:=.box 40 [i64 x.me,i64 x.f,i64 x.t,i64 x.al,i64 x.bl,i64 x.ki,EZ x.ts,i64 x.mo,Ec x.ad]) hb2 (l:=[]) trivial List.nodup_nil
 by_cases hk:x.ki=2
 ·rw [if_pos hk]
  simp -implicitDefEqProofs -proj only [go_sem,seval,E6,hwl,decide_eq_true hk]
  refine BJ (fun i:Nat=>i≤x.ts.length∧Ip x.ts q=HR x.ts q (x.ts.length-i)) 91 (fun i=>[(21,EZ x.ts),(22,i64 x.ts.length),(23,i64 i),(6,i64 ((x.ts.length:Int)-1)),(1,i64 q),(5,.nilsl 0)]) (fun _=>[]) (fun i=>x.ts.length-i) 0 ⟨Nat.zero_le _,rfl⟩ rfl ?_ ?_ ?_
  ·simp -implicitDefEqProofs -proj only [go_sem,seval,AL]
  ·trivial
  ·rintro i ⟨hi,hv⟩
   by_cases h:i<x.ts.length
   ·have hel:=JK h
    obtain ⟨n,hn⟩:∃n,x.ts.length-i=n+1:=⟨x.ts.length-i-1,by omega⟩
    have hg:HR x.ts q (n+1)=if n=0∨q≤x.ts[i].u then (if 0<q then [⟨0,q,x.ts[i].r⟩] else []) else HR x.ts q n:=by
     rw [HR,show x.ts.length-(n+1)=i by omega,List.getElem?_eq_getElem h]
    rw [hn,hg] at hv
    generalize x.ts[i]=t at *
    simp -implicitDefEqProofs -proj only [go_sem,seval,decide_eq_true (show (i:Int)<x.ts.length by omega)]
    refine Ai _ (by omega) hel ?_
    simp -implicitDefEqProofs -proj only [go_sem,seval]
    refine AI (fun b8 hb8=>?_)
    replace hb8:Ad [] b8=none:=hb8
    by_cases hn0:n=0
    ·rw [if_pos (show n=0∨q≤t.u from .inl hn0)] at hv
     simp -implicitDefEqProofs -proj only [go_sem,seval,decide_eq_true (show (i:Int)=(x.ts.length:Int)-1 by omega)]
     by_cases hq:0<q
     ·rw [if_pos hq] at hv
      simp -implicitDefEqProofs -proj only [go_sem,seval,decide_eq_true hq]
      refine Ao (fun bs hs=>?_)
      simp -implicitDefEqProofs -proj only [go_sem,seval]
      refine FB (xs:=[]) (y:=[.int .i64 0,.int .i64 q,.int .i64 t.r]) (t:=157) (e:=157) (c:=0) (cap:=0) (z0:=0) (capc:=1) [] rfl trivial List.nodup_nil (by simp -implicitDefEqProofs -proj only [go_sem,seval]) (by decide) (by decide) (fun H' c' cap' ha hk=>?_)
      simp -implicitDefEqProofs -proj only [go_sem,seval]
      rw [hv]
      exact Ki (z:=3) (xs:=EO [⟨0,q,t.r⟩]) (Ar.1 ha).1 P3
     ·rw [if_neg hq] at hv
      simp -implicitDefEqProofs -proj only [go_sem,seval,decide_eq_false hq]
      rw [hv]
      exact .nilsl _ _
    ·by_cases hu:q≤t.u
     ·rw [if_pos (show n=0∨q≤t.u from .inr hu)] at hv
      simp -implicitDefEqProofs -proj only [go_sem,seval,decide_eq_false (show ¬(i:Int)=(x.ts.length:Int)-1 by omega),decide_eq_true hu]
      by_cases hq:0<q
      ·rw [if_pos hq] at hv
       simp -implicitDefEqProofs -proj only [go_sem,seval,decide_eq_true hq]
       refine Ao (fun bs hs=>?_)
       simp -implicitDefEqProofs -proj only [go_sem,seval]
       refine FB (xs:=[]) (y:=[.int .i64 0,.int .i64 q,.int .i64 t.r]) (t:=157) (e:=157) (c:=0) (cap:=0) (z0:=0) (capc:=1) [] rfl trivial List.nodup_nil (by simp -implicitDefEqProofs -proj only [go_sem,seval]) (by decide) (by decide) (fun H' c' cap' ha hk=>?_)
       simp -implicitDefEqProofs -proj only [go_sem,seval]
       rw [hv]
       exact Ki (z:=3) (xs:=EO [⟨0,q,t.r⟩]) (Ar.1 ha).1 P3
      ·rw [if_neg hq] at hv
       simp -implicitDefEqProofs -proj only [go_sem,seval,decide_eq_false hq]
       rw [hv]
       exact .nilsl _ _
     ·rw [if_neg (show ¬(n=0∨q≤t.u) by omega)] at hv
      simp -implicitDefEqProofs -proj only [go_sem,seval,decide_eq_false (show ¬(i:Int)=(x.ts.length:Int)-1 by omega),decide_eq_false hu]
      refine Ac (i+1) ⟨by omega,by rw [hv]; congr 1; omega⟩ (by omega) rfl ?_ trivial
      simp -implicitDefEqProofs -proj only [go_sem,seval,AL,AR (show i<9223372036854775807 by omega)]
   ·have hi':i=x.ts.length:=by omega
    subst hi'
    rw [Nat.sub_self] at hv
    simp -implicitDefEqProofs -proj only [go_sem,seval,decide_eq_false (show ¬(x.ts.length:Int)<x.ts.length by omega)]
    rw [hv]
    exact .nilsl _ _
 ·rw [if_neg hk]
  simp -implicitDefEqProofs -proj only [go_sem,seval,E6,hwl,decide_eq_false hk]
  refine BJ (fun y:RsX=>y.i≤x.ts.length∧(AN (FU b2 x q y)).Nodup) 91 (fun y=>[(50,EZ x.ts),(51,i64 x.ts.length),(52,i64 y.i),(6,i64 ((x.ts.length:Int)-1)),(1,i64 q),(2,.ptr b2 0),(5,As 0 3 y.c y.cap (EO (refN x.ts q y.i)))]) (FU b2 x q) (fun y=>x.ts.length-y.i) ⟨0,0,0⟩ ⟨Nat.zero_le _,n2⟩ rfl ?_ ?_ ?_
  ·simp -implicitDefEqProofs -proj only [go_sem,seval,AL,Er,Ew,Ev]
   rfl
  ·simp -implicitDefEqProofs -proj only [go_sem,seval]
   exact c2
  ·rintro ⟨i,c,cap⟩ ⟨hi,hn⟩
   simp -implicitDefEqProofs only [Er] at hi
   have hall:=EQ hn
   obtain ⟨H,hH⟩:∃H,Ad (FU b2 x q ⟨i,c,cap⟩)=H:=⟨_,rfl⟩
   rw [hH] at hall
   simp -implicitDefEqProofs only [FU,Er,Ew,Ev] at hall hn
   obtain ⟨hrow,h2,_⟩:=Ar.1 hall
   simp -implicitDefEqProofs -proj only [go_sem,seval,Er,Ew,Ev,hH]
   by_cases h:i<x.ts.length
   ·have hel:=JK h
    have hN:=refN.eq_2 x.ts q i
    have hlen:=Mp (T:=x.ts) (q:=q) i
    have hlen1:=Mp (T:=x.ts) (q:=q) (i+1)
    have hu:=K6 h
    have hr:=NZ h
    rw [←hu,←hr] at hel
    clear hu hr
    generalize hR:refN x.ts q i=R at *
    generalize hR1:refN x.ts q (i+1)=R1 at *
    have hhi:Kl x.ts q i=if i+1<x.ts.length∧G5 x.ts i<q then G5 x.ts i else q:=rfl
    generalize Kl x.ts q i=hi' at *
    generalize G5 x.ts i=u at *
    generalize Jy x.ts i=r at *
    simp -implicitDefEqProofs -proj only [go_sem,seval,decide_eq_true (show (i:Int)<x.ts.length by omega)]
    refine Ai _ (by omega) hel ?_
    simp -implicitDefEqProofs -proj only [go_sem,seval]
    refine AI (fun b10 hb10=>?_)
    replace hb10:H b10=none:=hb10
    obtain ⟨m1,m2⟩:=AG hb10 h2
    by_cases h0:i=0
    ·have hlow:Gv x.ts i=0:=if_pos h0
     rw [hlow] at hN
     simp -implicitDefEqProofs -proj only [go_sem,seval,m1,h2,decide_eq_false (show ¬0<(i:Int) by omega)]
     by_cases g1:i+1<x.ts.length
     ·by_cases g2:u<q
      ·rw [if_pos ⟨g1,g2⟩] at hhi
       rw [hhi] at hN
       simp -implicitDefEqProofs -proj only [go_sem,seval,m1,h2,decide_eq_true (show (i:Int)<(x.ts.length:Int)-1 by omega),decide_eq_true g2]
       by_cases hem:0<u
       ·rw [if_pos hem] at hN
        simp -implicitDefEqProofs -proj only [go_sem,seval,m1,h2,decide_eq_true hem]
        refine Ao (fun bs hs=>?_)
        replace hs:upd H b10 _ bs=none:=hs
        simp -implicitDefEqProofs -proj only [go_sem,seval]
        refine FB (xs:=EO R) (y:=[.int .i64 0,.int .i64 u,.int .i64 r]) (t:=157) (capc:=1) [(b2,.box 40 [i64 x.me,i64 x.f,i64 x.t,i64 x.al,i64 x.bl,i64 x.ki,EZ x.ts,i64 x.mo,Ec x.ad])] rfl (Aj hs (Aj hb10 hall)) hn (by simp -implicitDefEqProofs -proj only [go_sem,seval]) (by rw [Hv]; omega) (by rw [Hv]; omega) (fun H' c' cap' ha hk=>?_)
        rw [show EO R++[[.int .i64 0,.int .i64 u,.int .i64 r]]=EO R1 by rw [hN]; simp [EO,TStep.el]] at ha hk
        have hne:EO R1≠[]:=by rw [hN]; simp [EO]
        have hl1:(EO R1).length=(EO R).length+1:=by rw [hN]; simp [EO]
        simp -implicitDefEqProofs -proj only [go_sem,seval]
        refine Ac ⟨i+1,c',cap'⟩ ⟨by show i+1≤x.ts.length; omega,by simp -implicitDefEqProofs only [FU,Er,Ew,Ev,hR1]; exact hk⟩ (by show x.ts.length-(i+1)<x.ts.length-i; omega) rfl ?_ (by simp -implicitDefEqProofs only [FU,Er,Ew,Ev,hR1]; exact ha)
        simp -implicitDefEqProofs -proj only [go_sem,seval,AL,Er,Ew,Ev,AR (show i<9223372036854775807 by omega),hR1,EM hne,hl1]
       ·rw [if_neg hem] at hN
        simp -implicitDefEqProofs -proj only [go_sem,seval,m1,h2,decide_eq_false hem]
        refine Ac ⟨i+1,c,cap⟩ ⟨by show i+1≤x.ts.length; omega,by simp -implicitDefEqProofs only [FU,Er,Ew,Ev,hR1,hN]; exact hn⟩ (by show x.ts.length-(i+1)<x.ts.length-i; omega) rfl ?_ (by simp -implicitDefEqProofs only [FU,Er,Ew,Ev,hR1,hN]; exact Aj hb10 hall)
        simp -implicitDefEqProofs -proj only [go_sem,seval,AL,Er,Ew,Ev,AR (show i<9223372036854775807 by omega),hR1,hN]
      ·rw [if_neg (fun h=>g2 h.2)] at hhi
       rw [hhi] at hN
       simp -implicitDefEqProofs -proj only [go_sem,seval,m1,h2,decide_eq_true (show (i:Int)<(x.ts.length:Int)-1 by omega),decide_eq_false g2]
       by_cases hem:0<q
       ·rw [if_pos hem] at hN
        simp -implicitDefEqProofs -proj only [go_sem,seval,m1,h2,decide_eq_true hem]
        refine Ao (fun bs hs=>?_)
        replace hs:upd H b10 _ bs=none:=hs
        simp -implicitDefEqProofs -proj only [go_sem,seval]
        refine FB (xs:=EO R) (y:=[.int .i64 0,.int .i64 q,.int .i64 r]) (t:=157) (capc:=1) [(b2,.box 40 [i64 x.me,i64 x.f,i64 x.t,i64 x.al,i64 x.bl,i64 x.ki,EZ x.ts,i64 x.mo,Ec x.ad])] rfl (Aj hs (Aj hb10 hall)) hn (by simp -implicitDefEqProofs -proj only [go_sem,seval]) (by rw [Hv]; omega) (by rw [Hv]; omega) (fun H' c' cap' ha hk=>?_)
        rw [show EO R++[[.int .i64 0,.int .i64 q,.int .i64 r]]=EO R1 by rw [hN]; simp [EO,TStep.el]] at ha hk
        have hne:EO R1≠[]:=by rw [hN]; simp [EO]
        have hl1:(EO R1).length=(EO R).length+1:=by rw [hN]; simp [EO]
        simp -implicitDefEqProofs -proj only [go_sem,seval]
        refine Ac ⟨i+1,c',cap'⟩ ⟨by show i+1≤x.ts.length; omega,by simp -implicitDefEqProofs only [FU,Er,Ew,Ev,hR1]; exact hk⟩ (by show x.ts.length-(i+1)<x.ts.length-i; omega) rfl ?_ (by simp -implicitDefEqProofs only [FU,Er,Ew,Ev,hR1]; exact ha)
        simp -implicitDefEqProofs -proj only [go_sem,seval,AL,Er,Ew,Ev,AR (show i<9223372036854775807 by omega),hR1,EM hne,hl1]
       ·rw [if_neg hem] at hN
        simp -implicitDefEqProofs -proj only [go_sem,seval,m1,h2,decide_eq_false hem]
        refine Ac ⟨i+1,c,cap⟩ ⟨by show i+1≤x.ts.length; omega,by simp -implicitDefEqProofs only [FU,Er,Ew,Ev,hR1,hN]; exact hn⟩ (by show x.ts.length-(i+1)<x.ts.length-i; omega) rfl ?_ (by simp -implicitDefEqProofs only [FU,Er,Ew,Ev,hR1,hN]; exact Aj hb10 hall)
        simp -implicitDefEqProofs -proj only [go_sem,seval,AL,Er,Ew,Ev,AR (show i<9223372036854775807 by omega),hR1,hN]
     ·rw [if_neg (fun h=>g1 h.1)] at hhi
      rw [hhi] at hN
      simp -implicitDefEqProofs -proj only [go_sem,seval,m1,h2,decide_eq_false (show ¬(i:Int)<(x.ts.length:Int)-1 by omega)]
      by_cases hem:0<q
      ·rw [if_pos hem] at hN
       simp -implicitDefEqProofs -proj only [go_sem,seval,m1,h2,decide_eq_true hem]
       refine Ao (fun bs hs=>?_)
       replace hs:upd H b10 _ bs=none:=hs
       simp -implicitDefEqProofs -proj only [go_sem,seval]
       refine FB (xs:=EO R) (y:=[.int .i64 0,.int .i64 q,.int .i64 r]) (t:=157) (capc:=1) [(b2,.box 40 [i64 x.me,i64 x.f,i64 x.t,i64 x.al,i64 x.bl,i64 x.ki,EZ x.ts,i64 x.mo,Ec x.ad])] rfl (Aj hs (Aj hb10 hall)) hn (by simp -implicitDefEqProofs -proj only [go_sem,seval]) (by rw [Hv]; omega) (by rw [Hv]; omega) (fun H' c' cap' ha hk=>?_)
       rw [show EO R++[[.int .i64 0,.int .i64 q,.int .i64 r]]=EO R1 by rw [hN]; simp [EO,TStep.el]] at ha hk
       have hne:EO R1≠[]:=by rw [hN]; simp [EO]
       have hl1:(EO R1).length=(EO R).length+1:=by rw [hN]; simp [EO]
       simp -implicitDefEqProofs -proj only [go_sem,seval]
       refine Ac ⟨i+1,c',cap'⟩ ⟨by show i+1≤x.ts.length; omega,by simp -implicitDefEqProofs only [FU,Er,Ew,Ev,hR1]; exact hk⟩ (by show x.ts.length-(i+1)<x.ts.length-i; omega) rfl ?_ (by simp -implicitDefEqProofs only [FU,Er,Ew,Ev,hR1]; exact ha)
       simp -implicitDefEqProofs -proj only [go_sem,seval,AL,Er,Ew,Ev,AR (show i<9223372036854775807 by omega),hR1,EM hne,hl1]
      ·rw [if_neg hem] at hN
       simp -implicitDefEqProofs -proj only [go_sem,seval,m1,h2,decide_eq_false hem]
       refine Ac ⟨i+1,c,cap⟩ ⟨by show i+1≤x.ts.length; omega,by simp -implicitDefEqProofs only [FU,Er,Ew,Ev,hR1,hN]; exact hn⟩ (by show x.ts.length-(i+1)<x.ts.length-i; omega) rfl ?_ (by simp -implicitDefEqProofs only [FU,Er,Ew,Ev,hR1,hN]; exact Aj hb10 hall)
       simp -implicitDefEqProofs -proj only [go_sem,seval,AL,Er,Ew,Ev,AR (show i<9223372036854775807 by omega),hR1,hN]
    ·have hep:=JK (l:=x.ts) (i:=i-1) (by omega)
     have wi:IntKind.i64.wrap ((i:Int)-1)=((i-1:Nat):Int):=by rw [IntKind.wrap_i64]; omega
     have hlow:Gv x.ts i=G5 x.ts (i-1):=if_neg h0
     rw [←K6 (show i-1<x.ts.length by omega)] at hep
     rw [hlow] at hN
     generalize G5 x.ts (i-1)=lo at *
     simp -implicitDefEqProofs -proj only [go_sem,seval,m1,h2,decide_eq_true (show 0<(i:Int) by omega),wi]
     (repeat' (with_reducible refine Aa ?_ (fun h=>?_); (focus first | decide | omega); clear h; try simp -implicitDefEqProofs -proj only [go_sem,seval,wi]))
     refine Ai _ (by omega) hep ?_
     simp -implicitDefEqProofs -proj only [go_sem,seval,m1,h2]
     by_cases g1:i+1<x.ts.length
     ·by_cases g2:u<q
      ·rw [if_pos ⟨g1,g2⟩] at hhi
       rw [hhi] at hN
       simp -implicitDefEqProofs -proj only [go_sem,seval,m1,h2,decide_eq_true (show (i:Int)<(x.ts.length:Int)-1 by omega),decide_eq_true g2]
       by_cases hem:lo<u
       ·rw [if_pos hem] at hN
        simp -implicitDefEqProofs -proj only [go_sem,seval,m1,h2,decide_eq_true hem]
        refine Ao (fun bs hs=>?_)
        replace hs:upd H b10 _ bs=none:=hs
        simp -implicitDefEqProofs -proj only [go_sem,seval]
        refine FB (xs:=EO R) (y:=[.int .i64 lo,.int .i64 u,.int .i64 r]) (t:=157) (capc:=1) [(b2,.box 40 [i64 x.me,i64 x.f,i64 x.t,i64 x.al,i64 x.bl,i64 x.ki,EZ x.ts,i64 x.mo,Ec x.ad])] rfl (Aj hs (Aj hb10 hall)) hn (by simp -implicitDefEqProofs -proj only [go_sem,seval]) (by rw [Hv]; omega) (by rw [Hv]; omega) (fun H' c' cap' ha hk=>?_)
        rw [show EO R++[[.int .i64 lo,.int .i64 u,.int .i64 r]]=EO R1 by rw [hN]; simp [EO,TStep.el]] at ha hk
        have hne:EO R1≠[]:=by rw [hN]; simp [EO]
        have hl1:(EO R1).length=(EO R).length+1:=by rw [hN]; simp [EO]
        simp -implicitDefEqProofs -proj only [go_sem,seval]
        refine Ac ⟨i+1,c',cap'⟩ ⟨by show i+1≤x.ts.length; omega,by simp -implicitDefEqProofs only [FU,Er,Ew,Ev,hR1]; exact hk⟩ (by show x.ts.length-(i+1)<x.ts.length-i; omega) rfl ?_ (by simp -implicitDefEqProofs only [FU,Er,Ew,Ev,hR1]; exact ha)
        simp -implicitDefEqProofs -proj only [go_sem,seval,AL,Er,Ew,Ev,AR (show i<9223372036854775807 by omega),hR1,EM hne,hl1]
       ·rw [if_neg hem] at hN
        simp -implicitDefEqProofs -proj only [go_sem,seval,m1,h2,decide_eq_false hem]
        refine Ac ⟨i+1,c,cap⟩ ⟨by show i+1≤x.ts.length; omega,by simp -implicitDefEqProofs only [FU,Er,Ew,Ev,hR1,hN]; exact hn⟩ (by show x.ts.length-(i+1)<x.ts.length-i; omega) rfl ?_ (by simp -implicitDefEqProofs only [FU,Er,Ew,Ev,hR1,hN]; exact Aj hb10 hall)
        simp -implicitDefEqProofs -proj only [go_sem,seval,AL,Er,Ew,Ev,AR (show i<9223372036854775807 by omega),hR1,hN]
      ·rw [if_neg (fun h=>g2 h.2)] at hhi
       rw [hhi] at hN
       simp -implicitDefEqProofs -proj only [go_sem,seval,m1,h2,decide_eq_true (show (i:Int)<(x.ts.length:Int)-1 by omega),decide_eq_false g2]
       by_cases hem:lo<q
       ·rw [if_pos hem] at hN
        simp -implicitDefEqProofs -proj only [go_sem,seval,m1,h2,decide_eq_true hem]
        refine Ao (fun bs hs=>?_)
        replace hs:upd H b10 _ bs=none:=hs
        simp -implicitDefEqProofs -proj only [go_sem,seval]
        refine FB (xs:=EO R) (y:=[.int .i64 lo,.int .i64 q,.int .i64 r]) (t:=157) (capc:=1) [(b2,.box 40 [i64 x.me,i64 x.f,i64 x.t,i64 x.al,i64 x.bl,i64 x.ki,EZ x.ts,i64 x.mo,Ec x.ad])] rfl (Aj hs (Aj hb10 hall)) hn (by simp -implicitDefEqProofs -proj only [go_sem,seval]) (by rw [Hv]; omega) (by rw [Hv]; omega) (fun H' c' cap' ha hk=>?_)
        rw [show EO R++[[.int .i64 lo,.int .i64 q,.int .i64 r]]=EO R1 by rw [hN]; simp [EO,TStep.el]] at ha hk
        have hne:EO R1≠[]:=by rw [hN]; simp [EO]
        have hl1:(EO R1).length=(EO R).length+1:=by rw [hN]; simp [EO]
        simp -implicitDefEqProofs -proj only [go_sem,seval]
        refine Ac ⟨i+1,c',cap'⟩ ⟨by show i+1≤x.ts.length; omega,by simp -implicitDefEqProofs only [FU,Er,Ew,Ev,hR1]; exact hk⟩ (by show x.ts.length-(i+1)<x.ts.length-i; omega) rfl ?_ (by simp -implicitDefEqProofs only [FU,Er,Ew,Ev,hR1]; exact ha)
        simp -implicitDefEqProofs -proj only [go_sem,seval,AL,Er,Ew,Ev,AR (show i<9223372036854775807 by omega),hR1,EM hne,hl1]
       ·rw [if_neg hem] at hN
        simp -implicitDefEqProofs -proj only [go_sem,seval,m1,h2,decide_eq_false hem]
        refine Ac ⟨i+1,c,cap⟩ ⟨by show i+1≤x.ts.length; omega,by simp -implicitDefEqProofs only [FU,Er,Ew,Ev,hR1,hN]; exact hn⟩ (by show x.ts.length-(i+1)<x.ts.length-i; omega) rfl ?_ (by simp -implicitDefEqProofs only [FU,Er,Ew,Ev,hR1,hN]; exact Aj hb10 hall)
        simp -implicitDefEqProofs -proj only [go_sem,seval,AL,Er,Ew,Ev,AR (show i<9223372036854775807 by omega),hR1,hN]
     ·rw [if_neg (fun h=>g1 h.1)] at hhi
      rw [hhi] at hN
      simp -implicitDefEqProofs -proj only [go_sem,seval,m1,h2,decide_eq_false (show ¬(i:Int)<(x.ts.length:Int)-1 by omega)]
      by_cases hem:lo<q
      ·rw [if_pos hem] at hN
       simp -implicitDefEqProofs -proj only [go_sem,seval,m1,h2,decide_eq_true hem]
       refine Ao (fun bs hs=>?_)
       replace hs:upd H b10 _ bs=none:=hs
       simp -implicitDefEqProofs -proj only [go_sem,seval]
       refine FB (xs:=EO R) (y:=[.int .i64 lo,.int .i64 q,.int .i64 r]) (t:=157) (capc:=1) [(b2,.box 40 [i64 x.me,i64 x.f,i64 x.t,i64 x.al,i64 x.bl,i64 x.ki,EZ x.ts,i64 x.mo,Ec x.ad])] rfl (Aj hs (Aj hb10 hall)) hn (by simp -implicitDefEqProofs -proj only [go_sem,seval]) (by rw [Hv]; omega) (by rw [Hv]; omega) (fun H' c' cap' ha hk=>?_)
       rw [show EO R++[[.int .i64 lo,.int .i64 q,.int .i64 r]]=EO R1 by rw [hN]; simp [EO,TStep.el]] at ha hk
       have hne:EO R1≠[]:=by rw [hN]; simp [EO]
       have hl1:(EO R1).length=(EO R).length+1:=by rw [hN]; simp [EO]
       simp -implicitDefEqProofs -proj only [go_sem,seval]
       refine Ac ⟨i+1,c',cap'⟩ ⟨by show i+1≤x.ts.length; omega,by simp -implicitDefEqProofs only [FU,Er,Ew,Ev,hR1]; exact hk⟩ (by show x.ts.length-(i+1)<x.ts.length-i; omega) rfl ?_ (by simp -implicitDefEqProofs only [FU,Er,Ew,Ev,hR1]; exact ha)
       simp -implicitDefEqProofs -proj only [go_sem,seval,AL,Er,Ew,Ev,AR (show i<9223372036854775807 by omega),hR1,EM hne,hl1]
      ·rw [if_neg hem] at hN
       simp -implicitDefEqProofs -proj only [go_sem,seval,m1,h2,decide_eq_false hem]
       refine Ac ⟨i+1,c,cap⟩ ⟨by show i+1≤x.ts.length; omega,by simp -implicitDefEqProofs only [FU,Er,Ew,Ev,hR1,hN]; exact hn⟩ (by show x.ts.length-(i+1)<x.ts.length-i; omega) rfl ?_ (by simp -implicitDefEqProofs only [FU,Er,Ew,Ev,hR1,hN]; exact Aj hb10 hall)
       simp -implicitDefEqProofs -proj only [go_sem,seval,AL,Er,Ew,Ev,AR (show i<9223372036854775807 by omega),hR1,hN]
   ·have hi':i=x.ts.length:=by omega
    subst hi'
    simp -implicitDefEqProofs -proj only [go_sem,seval,decide_eq_false (show ¬(x.ts.length:Int)<x.ts.length by omega)]
    exact Ki hrow P3
def HT (a:Adj) (x:Int):Option Int :=
 if a.k=1 then Ir (x*a.n) 100000 a.m
 else if a.k=2 then some (min x a.n)
 else if a.k=3 then some (max x a.n)
 else if a.k=4 then JU (x+a.n)
 else none
def HH:Int→List Adj→Option Int
 | x,[]=>some x
 | x,a::l=>match HT a x with
  | some y=>HH y l
  | none=>none
theorem Oq {n y:Int} (h:JU n=some y):Fit y∧y=n:=by
 unfold JU at h; split at h
 ·next hf=>cases h; exact ⟨hf,rfl⟩
 ·cases h
theorem UH {p c m y:Int} (h:Ir p c m=some y):Fit y∧y=Eq p c m∧0<c∧0≤m∧m≤3:=by
 unfold Ir at h; split at h
 ·next hh=>exact ⟨(Oq h).1,(Oq h).2,hh⟩
 ·cases h
theorem Pc {a:Adj} {x y:Int} (ha:a.Fit) (hx:Fit x) (h:HT a x=some y):Fit y:=by
 unfold HT at h
 obtain ⟨_,hn,_⟩:=ha
 split at h
 ·exact (UH h).1
 split at h
 ·cases h; unfold Fit at *; omega
 split at h
 ·cases h; unfold Fit at *; omega
 split at h
 ·exact (Oq h).1
 ·cases h
theorem Sa (o:Option Int):∃n u,EN o = .tup [i64 n,bv u]:=by cases o <;> exact ⟨_,_,rfl⟩
theorem AJo {a:Adj} {x:Int} (ha:a.Fit) (hx:Fit x):DataW Tryz.prog ARs [.agg [i64 a.k,i64 a.n,i64 a.m],i64 x] (EN (HT a x)):=by
 obtain ⟨k,n,m⟩:=a
 obtain ⟨hk,hn,hm⟩:=ha
 have h1:=QL (a:=x) (b:=n) (c:=100000) (m:=m) hx hn (by decide)
 have h2:=KX hx hn
 rw [N3] at h1
 rw [OU] at h2
 obtain ⟨n1,u1,e1⟩:=Sa (Ir (x*n) 100000 m)
 obtain ⟨n2,u2,e2⟩:=Sa (JU (x+n))
 rw [e1] at h1
 rw [e2] at h2
 refine AZ V2 (by simp) ?_
 by_cases k1:k=1
 ·subst k1
  rw [show HT ⟨1,n,m⟩ x=Ir (x*n) 100000 m from rfl,e1]
  simp -implicitDefEqProofs -proj only [go_sem,seval,eq_self]
  (repeat' first
  | (refine AK (h1) ?_; simp -implicitDefEqProofs -proj only [go_sem,seval, *])
  | (refine Eb (h1) ?_; simp -implicitDefEqProofs -proj only [go_sem,seval, *])
  | ((with_reducible first | refine EP (fun h=>?_) (fun h=>?_) | refine Ba (fun h=>?_) (fun h=>?_) | refine ET (fun h=>?_) (fun h=>?_)) <;> (simp -implicitDefEqProofs -proj only [go_sem,seval, *]; try (revert h; intro _)))
  | ((with_reducible first | refine AI (fun _ hb=>?_) | refine Ao (fun _ hb=>?_)); simp -implicitDefEqProofs only [ES,EU,Ag,Heap.none_get,and_true,true_and] at hb; simp -implicitDefEqProofs -proj only [go_sem,seval, *]; try (revert hb; intro _))
  | ((with_reducible first | refine BC _ rfl (by simp) ?_ | refine Cg _ rfl (by simp) ?_); simp -implicitDefEqProofs -proj only [go_sem,seval, *])
  | (with_reducible refine Aa ?_ (fun h=>?_); first | ((focus first | decide | omega); try clear h; try simp -implicitDefEqProofs -proj only [go_sem,seval, *]) | (rotate_left; try clear h; try simp -implicitDefEqProofs -proj only [go_sem,seval, *]; rotate_right)))
  exact AJ rfl
 by_cases k2:k=2
 ·subst k2
  rw [show HT ⟨2,n,m⟩ x=some (min x n) from rfl,EN]
  simp -implicitDefEqProofs -proj only [go_sem,seval,eq_self]
  (repeat' first
  | ((with_reducible first | refine EP (fun h=>?_) (fun h=>?_) | refine Ba (fun h=>?_) (fun h=>?_) | refine ET (fun h=>?_) (fun h=>?_)) <;> (simp -implicitDefEqProofs -proj only [go_sem,seval, *]; try (revert h; intro _)))
  | ((with_reducible first | refine AI (fun _ hb=>?_) | refine Ao (fun _ hb=>?_)); simp only [ES,EU,Ag,Heap.none_get,and_true,true_and] at hb; simp -implicitDefEqProofs -proj only [go_sem,seval, *]; try (revert hb; intro _))
  | ((with_reducible first | refine BC _ rfl (by simp) ?_ | refine Cg _ rfl (by simp) ?_); simp -implicitDefEqProofs -proj only [go_sem,seval, *])
  | (with_reducible refine Aa ?_ (fun h=>?_); first | ((focus first | decide | omega); try clear h; try simp -implicitDefEqProofs -proj only [go_sem,seval, *]) | (rotate_left; try clear h; try simp -implicitDefEqProofs -proj only [go_sem,seval, *]; rotate_right)))
  exact AJ rfl
 by_cases k3:k=3
 ·subst k3
  rw [show HT ⟨3,n,m⟩ x=some (max x n) from rfl,EN]
  simp -implicitDefEqProofs -proj only [go_sem,seval,eq_self]
  (repeat' first
  | ((with_reducible first | refine EP (fun h=>?_) (fun h=>?_) | refine Ba (fun h=>?_) (fun h=>?_) | refine ET (fun h=>?_) (fun h=>?_)) <;> (simp -implicitDefEqProofs -proj only [go_sem,seval, *]; try (revert h; intro _)))
  | ((with_reducible first | refine AI (fun _ hb=>?_) | refine Ao (fun _ hb=>?_)); simp only [ES,EU,Ag,Heap.none_get,and_true,true_and] at hb; simp -implicitDefEqProofs -proj only [go_sem,seval, *]; try (revert hb; intro _))
  | ((with_reducible first | refine BC _ rfl (by simp) ?_ | refine Cg _ rfl (by simp) ?_); simp -implicitDefEqProofs -proj only [go_sem,seval, *])
  | (with_reducible refine Aa ?_ (fun h=>?_); first | ((focus first | decide | omega); try clear h; try simp -implicitDefEqProofs -proj only [go_sem,seval, *]) | (rotate_left; try clear h; try simp -implicitDefEqProofs -proj only [go_sem,seval, *]; rotate_right)))
  exact AJ rfl
 by_cases k4:k=4
 ·subst k4
  rw [show HT ⟨4,n,m⟩ x=JU (x+n) from rfl,e2]
  simp -implicitDefEqProofs -proj only [go_sem,seval,eq_self]
  (repeat' first
  | (refine AK (h2) ?_; simp -implicitDefEqProofs -proj only [go_sem,seval, *])
  | (refine Eb (h2) ?_; simp -implicitDefEqProofs -proj only [go_sem,seval, *])
  | ((with_reducible first | refine EP (fun h=>?_) (fun h=>?_) | refine Ba (fun h=>?_) (fun h=>?_) | refine ET (fun h=>?_) (fun h=>?_)) <;> (simp -implicitDefEqProofs -proj only [go_sem,seval, *]; try (revert h; intro _)))
  | ((with_reducible first | refine AI (fun _ hb=>?_) | refine Ao (fun _ hb=>?_)); simp -implicitDefEqProofs only [ES,EU,Ag,Heap.none_get,and_true,true_and] at hb; simp -implicitDefEqProofs -proj only [go_sem,seval, *]; try (revert hb; intro _))
  | ((with_reducible first | refine BC _ rfl (by simp) ?_ | refine Cg _ rfl (by simp) ?_); simp -implicitDefEqProofs -proj only [go_sem,seval, *])
  | (with_reducible refine Aa ?_ (fun h=>?_); first | ((focus first | decide | omega); try clear h; try simp -implicitDefEqProofs -proj only [go_sem,seval, *]) | (rotate_left; try clear h; try simp -implicitDefEqProofs -proj only [go_sem,seval, *]; rotate_right)))
  exact AJ rfl
 ·have hno:HT ⟨k,n,m⟩ x=none:=by simp [HT,k1,k2,k3,k4]
  rw [hno,EN]
  simp -implicitDefEqProofs -proj only [go_sem,seval,k1,k2,k3,k4]
  (repeat' first
  | ((with_reducible first | refine EP (fun h=>?_) (fun h=>?_) | refine Ba (fun h=>?_) (fun h=>?_) | refine ET (fun h=>?_) (fun h=>?_)) <;> (simp -implicitDefEqProofs -proj only [go_sem,seval, *]; try (revert h; intro _)))
  | ((with_reducible first | refine AI (fun _ hb=>?_) | refine Ao (fun _ hb=>?_)); simp only [ES,EU,Ag,Heap.none_get,and_true,true_and] at hb; simp -implicitDefEqProofs -proj only [go_sem,seval, *]; try (revert hb; intro _))
  | ((with_reducible first | refine BC _ rfl (by simp) ?_ | refine Cg _ rfl (by simp) ?_); simp -implicitDefEqProofs -proj only [go_sem,seval, *])
  | (with_reducible refine Aa ?_ (fun h=>?_); first | ((focus first | decide | omega); try clear h; try simp -implicitDefEqProofs -proj only [go_sem,seval, *]) | (rotate_left; try clear h; try simp -implicitDefEqProofs -proj only [go_sem,seval, *]; rotate_right)))
  exact AJ rfl
theorem ALq {l:List Adj} {x:Int} (hl:Sv l) (hx:Fit x) (hn:l.length≤4611686018427387904):DataW Tryz.prog AGL [i64 x,Ec l] (EN (HH x l)):=by
 refine AZ APz (by simp) ?_
 simp -implicitDefEqProofs -proj only [go_sem,seval,He]
 refine BJ (fun p:Nat×Int=>p.1≤l.length∧Fit p.2∧HH p.2 (l.drop p.1)=HH x l) 25 (fun p=>[(9,Ec l),(10,i64 l.length),(11,i64 p.1),(0,i64 p.2)]) (fun _=>[]) (fun p=>l.length-p.1) (0,x) ⟨by simp -implicitDefEqProofs only [Am]; omega,hx,by simp -implicitDefEqProofs only [Am,Az,List.drop_zero]⟩ rfl ?_ ?_ ?_
 ·simp -implicitDefEqProofs -proj only [go_sem,seval,AL]
 ·trivial
 ·rintro ⟨i,n⟩ ⟨hi,hf,hs⟩
  simp -implicitDefEqProofs only [Am,Az] at hi hf hs
  by_cases h:i<l.length
  ·have ha:=hl i h
   have hc:=Qu h
   rw [List.drop_eq_getElem_cons h] at hs
   generalize l[i]=a at *
   have h1:=AJo ha hf
   rw [Adj.el] at hc
   simp -implicitDefEqProofs -proj only [go_sem,seval,decide_eq_true (show (i:Int)<l.length by omega)]
   refine Ai _ (by omega) hc ?_
   simp -implicitDefEqProofs -proj only [go_sem,seval,hc]
   (repeat' first
  | ((with_reducible first | refine EP (fun h=>?_) (fun h=>?_) | refine Ba (fun h=>?_) (fun h=>?_) | refine ET (fun h=>?_) (fun h=>?_)) <;> (simp -implicitDefEqProofs -proj only [go_sem,seval, *]; try (revert h; intro _)))
  | ((with_reducible first | refine AI (fun _ hb=>?_) | refine Ao (fun _ hb=>?_)); simp only [ES,EU,Ag,Heap.none_get,and_true,true_and] at hb; simp -implicitDefEqProofs -proj only [go_sem,seval, *]; try (revert hb; intro _))
  | ((with_reducible first | refine BC _ rfl (by simp) ?_ | refine Cg _ rfl (by simp) ?_); simp -implicitDefEqProofs -proj only [go_sem,seval, *])
  | (with_reducible refine Aa ?_ (fun h=>?_); first | ((focus first | decide | omega); try clear h; try simp -implicitDefEqProofs -proj only [go_sem,seval, *]) | (rotate_left; try clear h; try simp -implicitDefEqProofs -proj only [go_sem,seval, *]; rotate_right)))
   refine AK h1 ?_
   rw [HH] at hs
   cases ho:HT a n with
   | some y =>
    rw [ho] at hs
    have hy:=Pc ha hf ho
    simp -implicitDefEqProofs only [] at hs
    rw [EN]
    simp -implicitDefEqProofs -proj only [go_sem,seval]
    refine Ac (i+1,y) ⟨by simp -implicitDefEqProofs only [Am]; omega,hy,by simp -implicitDefEqProofs only [Am,Az]; exact hs⟩ (by simp -implicitDefEqProofs only [Am]; omega) rfl ?_ trivial
    simp -implicitDefEqProofs -proj only [go_sem,seval,AL,AR (show i<9223372036854775807 by omega)]
   | none =>
    rw [ho] at hs
    simp -implicitDefEqProofs only [] at hs
    rw [EN]
    simp -implicitDefEqProofs -proj only [go_sem,seval,←hs,EN]
    exact AJ rfl
  ·have hi':i=l.length:=by omega
   subst hi'
   rw [List.drop_length] at hs
   simp -implicitDefEqProofs -proj only [go_sem,seval,decide_eq_false (show ¬(l.length:Int)<l.length by omega)]
   rw [←hs,HH,EN]
   exact AJ rfl
theorem Mz {n:Int} (h:n.natAbs≤85070591730234615865843651857942052864):Ex n.natAbs:=⟨by omega,by omega⟩
theorem AMa {s:TStep} {a:Int} (h1:Fit (s.r*(s.t-s.f))) (h2:Fit (a+s.r*(s.t-s.f))):KQ s a=some (a+s.r*(s.t-s.f)):=if_pos ⟨h1,h2⟩
theorem SJ {s:TStep} {a:Int} (h:¬(Fit (s.r*(s.t-s.f))∧Fit (a+s.r*(s.t-s.f)))):KQ s a=none:=if_neg h
theorem Z9 {x:PartX} {n:Int} (S:Srt x.ts):(if x.ki=2 then Ip x.ts n else Qa x.ts n)=HU x n:=by
 unfold HU
 split
 ·rfl
 ·exact (PP S).symm
theorem TW {T:List Tier} {q:Int}:∀i,(HR T q i).length≤1
 | 0=>by simp [HR]
 | i+1=>by
  have:=TW (T:=T) (q:=q) i
  rw [HR]
  repeat' split
  all_goals first | omega | simp
theorem ALk {x:PartX} {n:Int} (S:Srt x.ts) (h:1≤x.ts.length):(HU x n).length≤x.ts.length:=by
 unfold HU
 split
 ·have:=TW (T:=x.ts) (q:=n) x.ts.length
  exact Nat.le_trans this h
 ·rw [PP S]
  exact Mp x.ts.length
theorem AUB {x:PartX} {q:Int} (hx:x.Fit) (hq:Fit q) (G:GoodX x) (S:Srt x.ts):DataW Tryz.prog AKY [GK x,i64 q] (EN (Jm x q)):=by
 have hleft:=AKG hx hq G.al.1 G.bl.1
 have htn:=G.tn
 unfold Jm
 rw [show Eq (max (q-x.al) 0) x.bl 1*x.bl=J3 x q from rfl]
 refine AZ ARK (by simp) ?_
 simp -implicitDefEqProofs -proj only [go_sem,seval]
 refine AI (fun b2 hb2=>?_)
 simp -implicitDefEqProofs -proj only [go_sem,seval]
 refine AK hleft ?_
 by_cases h0:q<0
 ·rw [if_pos h0,if_pos h0,EN]
  simp -implicitDefEqProofs -proj only [go_sem,seval]
  exact AJ rfl
 rw [if_neg h0,if_neg h0]
 by_cases hf:Fit (J3 x q)
 rotate_left
 ·rw [IC hf,if_neg hf,EN]
  simp -implicitDefEqProofs -proj only [go_sem,seval]
  exact AJ rfl
 rw [Gl hf,if_pos hf]
 have hst:=(AQU (x:=x) (q:=J3 x q) (by omega) htn.1).data
 rw [Z9 S] at hst
 have hln:=ALk (n:=J3 x q) S htn.1
 have hsf:=Sf (n:=J3 x q) S hf
 generalize HU x (J3 x q)=L at *
 simp -implicitDefEqProofs -proj only [go_sem,seval]
 refine AK hst ?_
 simp -implicitDefEqProofs -proj only [go_sem,seval,Hv]
 refine BJ (fun p:Nat×Int=>p.1≤L.length∧Fit p.2∧Gj (L.drop p.1) p.2=Gj L 0) 61 (fun p=>[(8,i64 p.2),(25,T4 L),(26,i64 L.length),(27,i64 p.1)]) (fun _=>[]) (fun p=>L.length-p.1) (0,0) ⟨Nat.zero_le _,by decide,rfl⟩ rfl ?_ ?_ ?_
 ·simp -implicitDefEqProofs -proj only [go_sem,seval,AL]
 ·trivial
 ·rintro ⟨i,a⟩ ⟨hi,ha,hs⟩
  rw [Am] at hi; rw [Az] at ha; rw [Am,Az] at hs
  by_cases h:i<L.length
  ·have hel:=ANV h
   obtain ⟨f1,f2,f3,f4⟩:=hsf _ (List.getElem_mem h)
   rw [List.drop_eq_getElem_cons h,Gj] at hs
   generalize L[i]=s at *
   have w1:IntKind.i64.wrap (s.t-s.f)=s.t-s.f:=by unfold Fit at f4; rw [IntKind.wrap_i64]; omega
   have hmul:=LA f3 f4
   have hps:=LX f3 f4
   have hint:=MM (n:=s.r*(s.t-s.f)) (Mz hps)
   have hofa:=Hx ha
   simp -implicitDefEqProofs -proj only [go_sem,seval,decide_eq_true (show (i:Int)<L.length by omega)]
   refine Ai _ (by omega) hel ?_
   simp -implicitDefEqProofs -proj only [go_sem,seval]
   refine AI (fun b10 hb10=>?_)
   simp -implicitDefEqProofs -proj only [go_sem,seval,w1]
   refine AK hmul ?_
   simp -implicitDefEqProofs -proj only [go_sem,seval]
   refine AK hint ?_
   by_cases c1:Fit (s.r*(s.t-s.f))
   ·have hofp:=Hx c1
    have hadd:=K3 (a:=a) (b:=s.r*(s.t-s.f)) (by unfold Fit at ha; omega) (by omega)
    have hint2:=MM (n:=a+s.r*(s.t-s.f)) (Mz (by unfold Fit at ha c1; omega))
    rw [Gl c1]
    simp -implicitDefEqProofs -proj only [go_sem,seval]
    refine AK hofa ?_
    simp -implicitDefEqProofs -proj only [go_sem,seval]
    refine AK hofp ?_
    simp -implicitDefEqProofs -proj only [go_sem,seval]
    refine AK hadd ?_
    simp -implicitDefEqProofs -proj only [go_sem,seval]
    refine AK hint2 ?_
    by_cases c2:Fit (a+s.r*(s.t-s.f))
    ·rw [AMa c1 c2] at hs
     simp -implicitDefEqProofs only [] at hs
     rw [Gl c2]
     simp -implicitDefEqProofs -proj only [go_sem,seval]
     refine Ac (i+1,a+s.r*(s.t-s.f)) ⟨by rw [Am]; omega,c2,hs⟩ (by rw [Am,Am]; omega) rfl ?_ trivial
     simp -implicitDefEqProofs -proj only [go_sem,seval,AL,AR (show i<9223372036854775807 by omega)]
    ·rw [SJ (fun k=>c2 k.2)] at hs
     simp -implicitDefEqProofs only [] at hs
     rw [IC c2,←hs,EN]
     simp -implicitDefEqProofs -proj only [go_sem,seval]
     exact AJ rfl
   ·have hofp:=Hx (a:=0) (by decide)
    have hadd:=K3 (a:=a) (b:=0) (by unfold Fit at ha; omega) (by decide)
    rw [Int.add_zero] at hadd
    have hint2:=MM (n:=a) (Mz (by unfold Fit at ha; omega))
    rw [Gl ha] at hint2
    rw [SJ (fun k=>c1 k.1)] at hs
    simp -implicitDefEqProofs only [] at hs
    rw [IC c1,←hs,EN]
    simp -implicitDefEqProofs -proj only [go_sem,seval]
    refine AK hofa ?_
    simp -implicitDefEqProofs -proj only [go_sem,seval]
    refine AK hofp ?_
    simp -implicitDefEqProofs -proj only [go_sem,seval]
    refine AK hadd ?_
    simp -implicitDefEqProofs -proj only [go_sem,seval]
    refine AK hint2 ?_
    simp -implicitDefEqProofs -proj only [go_sem,seval]
    exact AJ rfl
  ·have hi':i=L.length:=by omega
   subst hi'
   rw [List.drop_length] at hs
   simp -implicitDefEqProofs -proj only [go_sem,seval,decide_eq_false (show ¬(L.length:Int)<L.length by omega)]
   rw [←hs,Gj,EN]
   exact AJ rfl
theorem AMA {x:PartX} {q:Int} (hx:x.Fit) (hq:Fit q) (G:GoodX x) (S:Srt x.ts):DataW Tryz.prog ALd [GK x,i64 q] (EN (JL x q)):=by
 have hm:=AUB hx hq G S
 have hf:=fun n=>@TP x q n
 unfold JL
 refine AZ ANJ (by simp) ?_
 simp -implicitDefEqProofs -proj only [go_sem,seval]
 refine AI (fun b2 hb2=>?_)
 simp -implicitDefEqProofs -proj only [go_sem,seval]
 refine AK hm ?_
 cases e:Jm x q with
 | none =>
  simp -implicitDefEqProofs -proj only [go_sem,seval,EN]
  exact AJ rfl
 | some n =>
  have hd:=QN (a:=n) (b:=1) (c:=1000000) (m:=x.mo) (hf n e) (by decide) (by decide)
  rw [Int.mul_one,N3] at hd
  simp -implicitDefEqProofs only []
  simp -implicitDefEqProofs -proj only [go_sem,seval,EN]
  refine AK hd ?_
  cases Ir n 1000000 x.mo with
  | none=>simp -implicitDefEqProofs -proj only [go_sem,seval,EN]; exact AJ rfl
  | some m=>simp -implicitDefEqProofs -proj only [go_sem,seval,EN]; exact AJ rfl
theorem AHI {a:Adj} {x:Int} (ha:a.Fit) (hx:Fit x):DataW Tryz.prog ANw [.agg [i64 a.k,i64 a.n,i64 a.m],i64 x] (EN (HT a x)):=by
 obtain ⟨k,n,m⟩:=a
 obtain ⟨hk,hn,hm⟩:=ha
 simp -implicitDefEqProofs only [] at hk hn hm
 have h1:=QN (a:=x) (b:=n) (c:=100000) (m:=m) hx hn (by decide)
 rw [N3] at h1
 have hofx:=Hx hx
 have hofn:=Hx hn
 have hadd:=K3 (a:=x) (b:=n) (by unfold Fit at hx; omega) (by unfold Fit at hn; omega)
 have hint:=MM (n:=x+n) (Mz (by unfold Fit at hx hn; omega))
 rw [OU] at hint
 unfold HT
 simp -implicitDefEqProofs only []
 refine AZ AKi (by simp) ?_
 simp -implicitDefEqProofs -proj only [go_sem,seval]
 refine AI (fun b2 hb2=>?_)
 by_cases c1:k=1
 ·rw [if_pos c1]
  simp -implicitDefEqProofs -proj only [go_sem,seval,decide_eq_true c1]
  refine AK h1 ?_
  cases Ir (x*n) 100000 m with
  | none=>simp -implicitDefEqProofs -proj only [go_sem,seval,EN]; exact AJ rfl
  | some m=>simp -implicitDefEqProofs -proj only [go_sem,seval,EN]; exact AJ rfl
 rw [if_neg c1]
 by_cases c2:k=2
 ·rw [if_pos c2,EN]
  by_cases d:n<x
  ·rw [show min x n=n by omega]
   simp -implicitDefEqProofs -proj only [go_sem,seval,decide_eq_false c1,decide_eq_true c2,decide_eq_true d]
   exact AJ rfl
  ·rw [show min x n=x by omega]
   simp -implicitDefEqProofs -proj only [go_sem,seval,decide_eq_false c1,decide_eq_true c2,decide_eq_false d,show (false == true)=false from rfl]
   exact AJ rfl
 rw [if_neg c2]
 by_cases c3:k=3
 ·rw [if_pos c3,EN]
  by_cases d:n<x
  ·rw [show max x n=x by omega]
   simp -implicitDefEqProofs -proj only [go_sem,seval,decide_eq_false c1,decide_eq_false c2,decide_eq_true c3,decide_eq_true d,show (true == false)=false from rfl]
   exact AJ rfl
  ·rw [show max x n=n by omega]
   simp -implicitDefEqProofs -proj only [go_sem,seval,decide_eq_false c1,decide_eq_false c2,decide_eq_true c3,decide_eq_false d]
   exact AJ rfl
 rw [if_neg c3]
 by_cases c4:k=4
 ·rw [if_pos c4]
  simp -implicitDefEqProofs -proj only [go_sem,seval,decide_eq_false c1,decide_eq_false c2,decide_eq_false c3,decide_eq_true c4]
  refine Eb hofx ?_
  simp -implicitDefEqProofs -proj only [go_sem,seval]
  refine AK hofn ?_
  simp -implicitDefEqProofs -proj only [go_sem,seval]
  refine AK hadd ?_
  simp -implicitDefEqProofs -proj only [go_sem,seval]
  refine AK hint ?_
  cases JU (x+n) with
  | none=>simp -implicitDefEqProofs -proj only [go_sem,seval,EN]; exact AJ rfl
  | some m=>simp -implicitDefEqProofs -proj only [go_sem,seval,EN]; exact AJ rfl
 rw [if_neg c4,EN]
 simp -implicitDefEqProofs -proj only [go_sem,seval,decide_eq_false c1,decide_eq_false c2,decide_eq_false c3,decide_eq_false c4]
 exact AJ rfl
theorem ALr {l:List Adj} {x:Int} (hl:∀a∈l,Adj.Fit a) (hx:Fit x) (hn:l.length≤4611686018427387904):DataW Tryz.prog Zo [i64 x,Ec l] (EN (HH x l)):=by
 refine AZ Ut (by simp) ?_
 simp -implicitDefEqProofs -proj only [go_sem,seval,He]
 refine BJ (fun p:Nat×Int=>p.1≤l.length∧Fit p.2∧HH p.2 (l.drop p.1)=HH x l) 27 (fun p=>[(0,i64 p.2),(10,Ec l),(11,i64 l.length),(12,i64 p.1)]) (fun _=>[]) (fun p=>l.length-p.1) (0,x) ⟨Nat.zero_le _,hx,rfl⟩ rfl ?_ ?_ ?_
 ·simp -implicitDefEqProofs -proj only [go_sem,seval,AL]
 ·trivial
 ·rintro ⟨i,a⟩ ⟨hi,ha,hs⟩
  rw [Am] at hi; rw [Az] at ha; rw [Am,Az] at hs
  by_cases h:i<l.length
  ·have hel:=Nm h
   have hfit:=hl _ (List.getElem_mem h)
   rw [List.drop_eq_getElem_cons h,HH] at hs
   generalize l[i]=s at *
   have hone:=AHI hfit ha
   simp -implicitDefEqProofs -proj only [go_sem,seval,decide_eq_true (show (i:Int)<l.length by omega)]
   refine Ai _ (by omega) hel ?_
   simp -implicitDefEqProofs -proj only [go_sem,seval]
   refine AI (fun b7 hb7=>?_)
   simp -implicitDefEqProofs -proj only [go_sem,seval]
   refine AK hone ?_
   cases e:HT s a with
   | none =>
    rw [e] at hs
    simp -implicitDefEqProofs only [] at hs
    rw [←hs,EN]
    simp -implicitDefEqProofs -proj only [go_sem,seval,EN]
    exact AJ rfl
   | some y =>
    rw [e] at hs
    simp -implicitDefEqProofs only [] at hs
    simp -implicitDefEqProofs -proj only [go_sem,seval,EN]
    refine Ac (i+1,y) ⟨by rw [Am]; omega,Pc hfit ha e,hs⟩ (by rw [Am,Am]; omega) rfl ?_ trivial
    simp -implicitDefEqProofs -proj only [go_sem,seval,AL,AR (show i<9223372036854775807 by omega)]
  ·have hi':i=l.length:=by omega
   subst hi'
   rw [List.drop_length] at hs
   simp -implicitDefEqProofs -proj only [go_sem,seval,decide_eq_false (show ¬(l.length:Int)<l.length by omega)]
   rw [←hs,HH,EN]
   exact AJ rfl
def FI (x:PartX) (q:Int):Option Int:=match JL x q with
 | some n=>HH n x.ad
 | none=>none
theorem Ok {x:PartX} {q n:Int} (h:JL x q=some n):Fit n:=by
 unfold JL at h
 split at h
 ·exact (UH h).1
 ·cases h
theorem Su {x:PartX} {q:Int} (hx:x.Fit) (hq:Fit q) (G:GoodX x) (S:Srt x.ts):DataW Tryz.prog PX [GK x,i64 q] (EN (FI x q)):=by
 have hc:=AGD hx hq G.al.1 G.bl.1 (by have:=G.tn; omega) (fun n hn=>Sf S hn)
 unfold FI
 refine AZ AMk (by simp) ?_
 simp -implicitDefEqProofs -proj only [go_sem,seval]
 refine AI (fun b2 hb2=>?_)
 simp -implicitDefEqProofs -proj only [go_sem,seval]
 refine AK hc ?_
 cases e:JL x q with
 | none =>
  simp -implicitDefEqProofs -proj only [go_sem,seval,EN]
  exact AJ rfl
 | some n =>
  have ha:=ALq (l:=x.ad) (x:=n) (Ye hx.ad) (Ok e) (by have:=G.an; omega)
  simp -implicitDefEqProofs only []
  simp -implicitDefEqProofs -proj only [go_sem,seval,EN]
  refine AK ha ?_
  cases HH n x.ad with
  | none=>simp -implicitDefEqProofs -proj only [go_sem,seval,EN]; exact AJ rfl
  | some m=>simp -implicitDefEqProofs -proj only [go_sem,seval,EN]; exact AJ rfl
theorem NY {x:PartX} {q:Int} (hx:x.Fit) (hq:Fit q) (G:GoodX x) (S:Srt x.ts):DataW Tryz.prog ATs [GK x,i64 q] (EN (FI x q)):=by
 have hc:=AMA hx hq G S
 unfold FI
 refine AZ AV2 (by simp) ?_
 simp -implicitDefEqProofs -proj only [go_sem,seval]
 refine AI (fun b2 hb2=>?_)
 simp -implicitDefEqProofs -proj only [go_sem,seval]
 refine AK hc ?_
 cases e:JL x q with
 | none =>
  simp -implicitDefEqProofs -proj only [go_sem,seval,EN]
  exact AJ rfl
 | some n =>
  have ha:=ALr (l:=x.ad) (x:=n) hx.ad (Ok e) (by have:=G.an; omega)
  simp -implicitDefEqProofs only []
  simp -implicitDefEqProofs -proj only [go_sem,seval,EN]
  refine AK ha ?_
  cases HH n x.ad with
  | none=>simp -implicitDefEqProofs -proj only [go_sem,seval,EN]; exact AJ rfl
  | some m=>simp -implicitDefEqProofs -proj only [go_sem,seval,EN]; exact AJ rfl
theorem Sr {P:Program} {Q:Out→St→Prop} {d:Option Nat} {l:List AO} {k:List Item} {s:St} {a b:ByteArray}:E0 P Q .geq (.d (.str a)) (.d (.str b)) d l k s=AY P Q l k (AM s d (.d (.bool (!Op.bytesLess a.toList b.toList))) s.H):=rfl
theorem QE {n lo hi:Int}:DataW Tryz.prog Ol [i64 n,i64 lo,i64 hi] (bv (decide (lo≤n∧n≤hi))):=by
 refine AZ AJY (by simp) ?_
 by_cases h1:lo≤n
 ·by_cases h2:n≤hi
  ·simp -implicitDefEqProofs -proj only [go_sem,seval,decide_eq_true h1,decide_eq_true h2]
   exact AJ (by rw [decide_eq_true ⟨h1,h2⟩])
  ·simp -implicitDefEqProofs -proj only [go_sem,seval,decide_eq_true h1,decide_eq_false h2]
   exact AJ (by rw [decide_eq_false (fun h=>h2 h.2)])
 ·simp -implicitDefEqProofs -proj only [go_sem,seval,decide_eq_false h1]
  exact AJ (by rw [decide_eq_false (fun h=>h1 h.1)])
theorem Hf {n lo hi:Int} (h:lo≤n∧n≤hi):DataW Tryz.prog Ol [i64 n,i64 lo,i64 hi] (bv true):=by
 have:=@QE n lo hi; rwa [decide_eq_true h] at this
theorem Hg {n lo hi:Int} (h:¬(lo≤n∧n≤hi)):DataW Tryz.prog Ol [i64 n,i64 lo,i64 hi] (bv false):=by
 have:=@QE n lo hi; rwa [decide_eq_false h] at this
abbrev OK (a:Adj):AV:=.agg [i64 a.k,i64 a.n,i64 a.m]
theorem AUk {a:Adj}:DataW Tryz.prog AEq [OK a] (bv (decide (Fs a))):=by
 refine AZ ZI (by simp) ?_
 simp -implicitDefEqProofs -proj only [go_sem,seval]
 refine AI (fun b1 hb1=>?_)
 by_cases h1:a.k=1
 ·simp -implicitDefEqProofs -proj only [go_sem,seval,decide_eq_true h1]
  by_cases h2:0≤a.n∧a.n≤100000000
  rotate_left
  ·refine AK (Hg h2) ?_
   simp -implicitDefEqProofs -proj only [go_sem,seval]
   exact AJ (by rw [decide_eq_false]; unfold Fs; omega)
  refine AK (Hf h2) ?_
  simp -implicitDefEqProofs -proj only [go_sem,seval]
  by_cases h3:0≤a.m∧a.m≤3
  rotate_left
  ·refine AK (Hg h3) ?_
   simp -implicitDefEqProofs -proj only [go_sem,seval]
   exact AJ (by rw [decide_eq_false]; unfold Fs; omega)
  refine AK (Hf h3) ?_
  simp -implicitDefEqProofs -proj only [go_sem,seval]
  exact AJ (by rw [decide_eq_true]; unfold Fs; omega)
 ·simp -implicitDefEqProofs -proj only [go_sem,seval,decide_eq_false h1]
  by_cases h2:2≤a.k∧a.k≤4
  rotate_left
  ·refine AK (Hg h2) ?_
   simp -implicitDefEqProofs -proj only [go_sem,seval]
   exact AJ (by rw [decide_eq_false]; unfold Fs; omega)
  refine AK (Hf h2) ?_
  simp -implicitDefEqProofs -proj only [go_sem,seval]
  by_cases h3:0≤a.n∧a.n≤1000000000000
  rotate_left
  ·refine AK (Hg h3) ?_
   simp -implicitDefEqProofs -proj only [go_sem,seval]
   exact AJ (by rw [decide_eq_false]; unfold Fs; omega)
  refine AK (Hf h3) ?_
  by_cases h4:a.m=0
  ·simp -implicitDefEqProofs -proj only [go_sem,seval,decide_eq_true h4]
   exact AJ (by rw [decide_eq_true]; unfold Fs; omega)
  ·simp -implicitDefEqProofs -proj only [go_sem,seval,decide_eq_false h4]
   exact AJ (by rw [decide_eq_false]; unfold Fs; omega)
theorem ADq {a:Adj}:DataW Tryz.prog ARc [OK a] (bv (!decide (Fs a))):=by
 refine AZ AK4 (by simp) ?_
 simp -implicitDefEqProofs -proj only [go_sem,seval]
 refine AI (fun b1 hb1=>?_)
 simp -implicitDefEqProofs -proj only [go_sem,seval]
 refine AK AUk ?_
 simp -implicitDefEqProofs -proj only [go_sem,seval]
 exact AJ rfl
def I6 {α:Type} (p : α→Bool) (l:List α):Int:=match l.findIdx? p with
 | some i=>i
 | none=>-1
theorem RL {α:Type} {p : α→Bool} {l:List α} {i:Nat} (h:i<l.length) (hp:p l[i]=true) (hs:∀(j:Nat) (h:j<l.length),j<i→p l[j]=false):I6 p l=i:=by
 unfold I6
 rw [List.findIdx?_eq_some_iff_getElem.2 ⟨h,hp,fun j hj=>by rw [hs j (by omega) hj]; simp⟩]
theorem Sj {α:Type} {p : α→Bool} {l:List α} (hs:∀(j:Nat) (h:j<l.length),p l[j]=false):I6 p l = -1:=by
 unfold I6
 rw [List.findIdx?_eq_none_iff.2 fun x hx=>by obtain ⟨j,hj,rfl⟩:=List.getElem_of_mem hx; exact hs j hj]
theorem RK {α:Type} {p : α→Bool} {l:List α}:decide (0≤I6 p l)=l.any p:=by
 unfold I6
 cases h:l.findIdx? p with
 | some i =>
  obtain ⟨h1,h2,_⟩:=List.findIdx?_eq_some_iff_getElem.1 h
  rw [List.any_eq_true.2 ⟨_,List.getElem_mem h1,h2⟩]
  exact decide_eq_true (show (0:Int)≤(i:Int) by omega)
 | none =>
  have:=List.findIdx?_eq_none_iff.1 h
  rw [List.any_eq_false.2 (fun x hx=>by rw [this x hx]; simp)]
  exact decide_eq_false (show ¬(0:Int)≤-1 by omega)
theorem Yg {l:List Adj} {f:FuncId} {p:Adj→Bool} (hf:∀a,DataW Tryz.prog f [OK a] (bv (p a))) (hl:l.length≤9223372036854775807):DataW Tryz.prog AH8 [Ec l,.fn f []] (i64 (I6 p l)):=by
 refine AZ AWq (by simp) ?_
 simp -implicitDefEqProofs -proj only [go_sem,seval,He]
 refine BJ (fun i:Nat=>i≤l.length∧∀(j:Nat) (h:j<l.length),j<i→p l[j]=false) 19 (fun i=>[(0,Ec l),(1,.fn f []),(6,Ec l),(7,i64 l.length),(8,i64 i)]) (fun _=>[]) (fun i=>l.length-i) 0 ⟨Nat.zero_le _,fun j _ h=>absurd h (Nat.not_lt_zero _)⟩ rfl ?_ ?_ ?_
 ·simp -implicitDefEqProofs -proj only [go_sem,seval,AL]
 ·trivial
 ·rintro i ⟨hi,hs⟩
  by_cases h:i<l.length
  ·have hel:=Nm h
   have hcall:=hf l[i]
   have hgo:p l[i]=false→∀(j:Nat) (h:j<l.length),j<i+1→p l[j]=false:=IZ (P:=fun _ x=>p x=false) (List.getElem?_eq_getElem h) hs
   have hyes:p l[i]=true→I6 p l=i:=fun e=>RL h e hs
   generalize l[i]=a at *
   simp -implicitDefEqProofs -proj only [go_sem,seval,decide_eq_true (show (i:Int)<l.length by omega)]
   refine Ai _ (by omega) hel ?_
   simp -implicitDefEqProofs -proj only [go_sem,seval]
   refine AK hcall ?_
   cases hp:p a
   ·simp -implicitDefEqProofs -proj only [go_sem,seval]
    refine Ac (i+1) ⟨by omega,hgo hp⟩ (by show l.length-(i+1)<l.length-i; omega) rfl ?_ trivial
    simp -implicitDefEqProofs -proj only [go_sem,seval,AL,AR (show i<9223372036854775807 by omega)]
   ·simp -implicitDefEqProofs -proj only [go_sem,seval]
    rw [hyes hp]
    exact AJ rfl
  ·have hi':i=l.length:=by omega
   subst hi'
   simp -implicitDefEqProofs -proj only [go_sem,seval,decide_eq_false (show ¬(l.length:Int)<l.length by omega)]
   rw [Sj fun j h=>hs j h h]
   exact AJ rfl
theorem AIC {l:List Adj} {f:FuncId} {p:Adj→Bool} (hf:∀a,DataW Tryz.prog f [OK a] (bv (p a))) (hl:l.length≤9223372036854775807):DataW Tryz.prog AIl [Ec l,.fn f []] (bv (l.any p)):=by
 refine AZ APf (by simp) ?_
 simp -implicitDefEqProofs -proj only [go_sem,seval]
 refine AK (Yg hf hl) ?_
 simp -implicitDefEqProofs -proj only [go_sem,seval]
 rw [RK]
 exact AJ rfl
def Hh (T:List Tier) (i:Nat):Int:=match i with
 | 0=>0
 | j+1=>match T[j]? with
  | some p=>p.u
  | none=>0
theorem AKT {T:List Tier} {i:Nat} (hi:i<T.length) (h:¬i+1=T.length):1≤FV T i:=by
 by_cases h0:i=0
 ·subst h0; rw [(Mr h).1]; omega
 ·by_cases hu:1≤T[i-1].u
  ·rw [(ME (by omega) (by omega) h hu).1]; omega
  ·rw [(Py (by omega) (by omega) h hu).1]; omega
theorem AAI {T:List Tier} {i:Nat} (hi:i<T.length) (h:¬i+1=T.length) (hs:∀(j:Nat) (h:j<T.length),j<i→Gc T j T[j]):FV T i=Hh T i+1∧Fq T i=1000000∧0≤Hh T i∧Hh T i≤1000000:=by
 match i with
 | 0 =>
  obtain ⟨h1,h2⟩:=Mr h
  exact ⟨h1,h2,by simp [Hh],by simp [Hh]⟩
 | j+1 =>
  have hj:j<T.length:=by omega
  have hok:=hs j hj (by omega)
  have hne:¬j+1=T.length:=by omega
  have hlo:=AKT hj hne
  have hhi:Fq T j=1000000:=if_neg hne
  obtain ⟨_,h2,h3⟩:=hok
  rw [hhi] at h3
  have hl:Hh T (j+1)=T[j].u:=by simp [Hh,List.getElem?_eq_getElem hj]
  obtain ⟨e1,e2⟩:=ME (T:=T) (i:=j+1) (by omega) hj h (by show 1≤T[j].u; omega)
  rw [hl,e1,e2]
  refine ⟨?_,rfl,by omega,h3⟩
  show min T[j].u 1000000+1=_
  omega
theorem ACp {T:List Tier} (hn:T.length≤9223372036854775807):DataW Tryz.prog ADs [EZ T] (bv (decide (Hb T∧1≤T.length∧T.length≤8))):=by
 refine AZ AGP (by simp) ?_
 simp -implicitDefEqProofs -proj only [go_sem,seval,E6]
 refine BJ (fun i:Nat=>i≤T.length∧∀(j:Nat) (h:j<T.length),j<i→Gc T j T[j]) 49 (fun i=>[(0,EZ T),(3,i64 (Hh T i)),(7,EZ T),(8,i64 T.length),(9,i64 i)]) (fun _=>[]) (fun i=>T.length-i) 0 ⟨Nat.zero_le _,fun j _ h=>absurd h (Nat.not_lt_zero _)⟩ rfl ?_ ?_ ?_
 ·simp -implicitDefEqProofs -proj only [go_sem,seval,AL,Hh]
 ·trivial
 ·rintro i ⟨hi,hs⟩
  by_cases h:i<T.length
  ·have hel:=JK h
   have hlast:=@QU T i
   have hmid:=fun k=>AAI h k hs
   have hno:¬Gc T i T[i]→decide (Hb T∧1≤T.length∧T.length≤8)=false:=fun e=>decide_eq_false fun k=>e (k.1 i h)
   have hgo:Gc T i T[i]→∀(j:Nat) (h:j<T.length),j<i+1→Gc T j T[j]:=IZ (List.getElem?_eq_getElem h) hs
   have hnx:Hh T (i+1)=T[i].u:=by simp [Hh,List.getElem?_eq_getElem h]
   have hwl:IntKind.i64.wrap ((T.length:Int)-1)=(T.length:Int)-1:=by rw [IntKind.wrap_i64]; omega
   generalize T[i]=q at *
   unfold Gc at hno hgo
   simp -implicitDefEqProofs -proj only [go_sem,seval,decide_eq_true (show (i:Int)<T.length by omega)]
   refine Ai _ (by omega) hel ?_
   simp -implicitDefEqProofs -proj only [go_sem,seval]
   refine AI (fun b5 hb5=>?_)
   by_cases hl:i+1=T.length
   ·obtain ⟨e1,e2⟩:=hlast hl
    simp -implicitDefEqProofs -proj only [go_sem,seval,E6,hwl,decide_eq_true (show (i:Int)=(T.length:Int)-1 by omega)]
    by_cases c1:0≤q.r∧q.r≤1000000000000
    rotate_left
    ·refine AK (Hg c1) ?_
     simp -implicitDefEqProofs -proj only [go_sem,seval]
     exact AJ (by rw [hno (fun k=>c1 k.1)])
    refine AK (Hf c1) ?_
    by_cases c2:q.u=0
    rotate_left
    ·simp -implicitDefEqProofs -proj only [go_sem,seval,decide_eq_false c2]
     exact AJ (by rw [hno (fun k=>by omega)])
    simp -implicitDefEqProofs -proj only [go_sem,seval,decide_eq_true c2]
    refine Ac (i+1) ⟨by omega,hgo ⟨c1,by omega⟩⟩ (by show T.length-(i+1)<T.length-i; omega) rfl ?_ trivial
    simp -implicitDefEqProofs -proj only [go_sem,seval,AL,hnx,c2,AR (show i<9223372036854775807 by omega)]
   ·obtain ⟨e1,e2,e3,e4⟩:=hmid hl
    have hw:IntKind.i64.wrap (Hh T i+1)=Hh T i+1:=by rw [IntKind.wrap_i64]; omega
    simp -implicitDefEqProofs -proj only [go_sem,seval,E6,hwl,decide_eq_false (show ¬(i:Int)=(T.length:Int)-1 by omega)]
    by_cases c1:0≤q.r∧q.r≤1000000000000
    rotate_left
    ·refine AK (Hg c1) ?_
     simp -implicitDefEqProofs -proj only [go_sem,seval]
     exact AJ (by rw [hno (fun k=>c1 k.1)])
    refine AK (Hf c1) ?_
    simp -implicitDefEqProofs -proj only [go_sem,seval,hw]
    by_cases c2:Hh T i+1≤q.u∧q.u≤1000000
    rotate_left
    ·refine AK (Hg c2) ?_
     simp -implicitDefEqProofs -proj only [go_sem,seval]
     exact AJ (by rw [hno (fun k=>by omega)])
    refine AK (Hf c2) ?_
    simp -implicitDefEqProofs -proj only [go_sem,seval]
    refine Ac (i+1) ⟨by omega,hgo ⟨c1,by omega⟩⟩ (by show T.length-(i+1)<T.length-i; omega) rfl ?_ trivial
    simp -implicitDefEqProofs -proj only [go_sem,seval,AL,hnx,AR (show i<9223372036854775807 by omega)]
  ·have hi':i=T.length:=by omega
   subst hi'
   simp -implicitDefEqProofs -proj only [go_sem,seval,E6,decide_eq_false (show ¬(T.length:Int)<T.length by omega)]
   refine AK QE ?_
   simp -implicitDefEqProofs -proj only [go_sem,seval]
   refine AJ (congrArg (fun b=>AV.d (.bool b)) (decide_eq_decide.2 ⟨fun k=>⟨fun j h=>hs j h h,by omega,by omega⟩,fun k=>by omega⟩))
theorem ADV {cur:ByteArray} {f t:Int} {ms ss ps:List (List D)} {x:PartX} (hm:ms.length≤9223372036854775807) (htn:x.ts.length≤9223372036854775807) (han:x.ad.length≤9223372036854775807):DataW Tryz.prog ADS [Kq cur f t ms ss ps,GK x] (bv (decide (GW f t ms.length x))):=by
 have hno:¬Hq f t ms.length x→decide (GW f t ms.length x)=false:=fun e=>decide_eq_false fun k=>e k.1
 have hpd:GW f t ms.length x↔Hq f t ms.length x∧Hb x.ts∧IS x.ad:=Iff.rfl
 unfold Hq at hno hpd
 have hwl:IntKind.i64.wrap ((ms.length:Int)-1)=(ms.length:Int)-1:=by rw [IntKind.wrap_i64]; omega
 refine AZ WA (by simp) ?_
 simp -implicitDefEqProofs -proj only [go_sem,seval]
 refine AI (fun b2 hb2=>?_)
 simp -implicitDefEqProofs -proj only [go_sem,seval]
 refine AI (fun b3 hb3=>?_)
 replace hb3:upd Heap.none b2 _ b3=none:=hb3
 obtain ⟨n1,n2⟩:=AG hb3 AP
 simp -implicitDefEqProofs -proj only [go_sem,seval,n1,n2,hwl]
 by_cases g1:0≤x.me∧x.me≤(ms.length:Int)-1
 rotate_left
 ·refine AK (Hg g1) ?_
  simp -implicitDefEqProofs -proj only [go_sem,seval]
  exact AJ (by rw [hno (fun k=>by omega)])
 refine AK (Hf g1) ?_
 by_cases g2:x.t<x.f
 ·simp -implicitDefEqProofs -proj only [go_sem,seval,n1,n2,decide_eq_true g2]
  exact AJ (by rw [hno (fun k=>by omega)])
 by_cases g3:x.f<f
 ·simp -implicitDefEqProofs -proj only [go_sem,seval,n1,n2,decide_eq_false g2,decide_eq_true g3]
  exact AJ (by rw [hno (fun k=>by omega)])
 by_cases g4:t<x.t
 ·simp -implicitDefEqProofs -proj only [go_sem,seval,n1,n2,decide_eq_false g2,decide_eq_false g3,decide_eq_true g4]
  exact AJ (by rw [hno (fun k=>by omega)])
 simp -implicitDefEqProofs -proj only [go_sem,seval,n1,n2,decide_eq_false g2,decide_eq_false g3,decide_eq_false g4]
 by_cases g5:0≤x.al∧x.al≤1000000
 rotate_left
 ·refine AK (Hg g5) ?_
  simp -implicitDefEqProofs -proj only [go_sem,seval]
  exact AJ (by rw [hno (fun k=>g5 k.2.2.2.1)])
 refine AK (Hf g5) ?_
 simp -implicitDefEqProofs -proj only [go_sem,seval,n1,n2]
 by_cases g6:1≤x.bl∧x.bl≤1000000
 rotate_left
 ·refine AK (Hg g6) ?_
  simp -implicitDefEqProofs -proj only [go_sem,seval]
  exact AJ (by rw [hno (fun k=>g6 k.2.2.2.2.1)])
 refine AK (Hf g6) ?_
 simp -implicitDefEqProofs -proj only [go_sem,seval,n1,n2]
 by_cases g7:1≤x.ki∧x.ki≤2
 rotate_left
 ·refine AK (Hg g7) ?_
  simp -implicitDefEqProofs -proj only [go_sem,seval]
  exact AJ (by rw [hno (fun k=>by omega)])
 refine AK (Hf g7) ?_
 simp -implicitDefEqProofs -proj only [go_sem,seval,n1,n2]
 by_cases g8:0≤x.mo∧x.mo≤3
 rotate_left
 ·refine AK (Hg g8) ?_
  simp -implicitDefEqProofs -proj only [go_sem,seval]
  exact AJ (by rw [hno (fun k=>by omega)])
 refine AK (Hf g8) ?_
 by_cases g9:6<(x.ad.length:Int)
 ·simp -implicitDefEqProofs -proj only [go_sem,seval,n1,n2,He,decide_eq_true g9]
  exact AJ (by rw [hno (fun k=>by omega)])
 simp -implicitDefEqProofs -proj only [go_sem,seval,n1,n2,He,decide_eq_false g9]
 refine AK (ACp htn) ?_
 by_cases g10:Hb x.ts∧1≤x.ts.length∧x.ts.length≤8
 rotate_left
 ·simp -implicitDefEqProofs -proj only [go_sem,seval,n1,n2,decide_eq_false g10]
  exact AJ (by rw [decide_eq_false (fun k=>g10 ⟨k.2.1,by have:=k.1; unfold Hq at this; omega⟩)])
 simp -implicitDefEqProofs -proj only [go_sem,seval,n1,n2,decide_eq_true g10]
 refine AK (AIC (fun a=>ADq) han) ?_
 simp -implicitDefEqProofs -proj only [go_sem,seval]
 refine AJ (congrArg (fun b=>AV.d (.bool b)) ?_)
 have hiff:(x.ad.any fun a=>!decide (Fs a))=false↔IS x.ad:=by
  rw [List.any_eq_false]
  exact ⟨fun h a ha=>by have:=h a ha; simpa using this,fun h a ha=>by simpa using h a ha⟩
 by_cases g11:IS x.ad
 ·rw [hiff.2 g11,decide_eq_true (hpd.2 ⟨by omega,g10.1,g11⟩)]
  rfl
 ·rw [decide_eq_false (fun k=>g11 (hpd.1 k).2.2)]
  cases e:x.ad.any fun a=>!decide (Fs a)
  ·exact absurd (hiff.1 e) g11
  ·rfl
abbrev CS (c:CoreX):Blk:=.box 26 [.d (.str c.cur),i64 c.f,i64 c.t,.d (.sl 5 (BV c.ms)),.d (.sl 3 (Ey c.ss)),.d (.sl 9 (Ea c.ps))]
noncomputable def Hp (c:CoreX) (x:PartX):Bool:=!decide (GW c.f c.t c.ms.length x)
theorem AMB {c:CoreX} {H:Heap} {b:Nat} {x:PartX} (hb:H b=some (CS c)) (hm:c.ms.length≤9223372036854775807) (htn:x.ts.length≤9223372036854775807) (han:x.ad.length≤9223372036854775807):CallW Tryz.prog Nd [GK x,.ptr b 0] H fun r H'=>r=bv (Hp c x)∧H' b=some (CS c):=by
 have hcall:=ADV (cur:=c.cur) (f:=c.f) (t:=c.t) (ms:=BV c.ms) (ss:=Ey c.ss) (ps:=Ea c.ps) (x:=x) (by rw [FO]; exact hm) htn han
 rw [FO] at hcall
 refine AZ AF2 (by simp) ?_
 simp -implicitDefEqProofs -proj only [go_sem,seval]
 refine AI (fun b2 hb2=>?_)
 replace hb2:H b2=none:=hb2
 obtain ⟨n1,n2⟩:=AG hb2 hb
 simp -implicitDefEqProofs -proj only [go_sem,seval,n1,n2,hb]
 refine AK hcall ?_
 simp -implicitDefEqProofs -proj only [go_sem,seval,n1,n2,hb]
 try first | exact ⟨rfl,rfl⟩ | exact rfl
theorem VW {c:CoreX} {H:Heap} {b:Nat} {l:List PartX} (hb:H b=some (CS c)) (hm:c.ms.length≤9223372036854775807) (hp:∀x∈l,x.ts.length≤9223372036854775807∧x.ad.length≤9223372036854775807) (hl:l.length≤9223372036854775807):CallW Tryz.prog ACD [.d (.sl 9 (Ea l)),.fn Nd [.ptr b 0]] H fun r H'=>r=i64 (I6 (Hp c) l)∧H' b=some (CS c):=by
 refine AZ AJN (by simp) ?_
 simp -implicitDefEqProofs -proj only [go_sem,seval,FR]
 refine BJ (fun i:Nat=>i≤l.length∧∀(j:Nat) (h:j<l.length),j<i→Hp c l[j]=false) 19 (fun i=>[(0,.d (.sl 9 (Ea l))),(1,.fn Nd [.ptr b 0]),(6,.d (.sl 9 (Ea l))),(7,i64 l.length),(8,i64 i)]) (fun _=>[(b,CS c)]) (fun i=>l.length-i) 0 ⟨Nat.zero_le _,fun j _ h=>absurd h (Nat.not_lt_zero _)⟩ rfl ?_ ?_ ?_
 ·simp -implicitDefEqProofs -proj only [go_sem,seval,AL]
 ·exact ⟨hb,trivial⟩
 ·rintro i ⟨hi,hs⟩
  have hk:AS (Ad [(b,CS c)]) [(b,CS c)]:=EQ (by simp [AN])
  by_cases h:i<l.length
  ·have hel:=IV h
   have hpi:=hp _ (List.getElem_mem h)
   have hgo:Hp c l[i]=false→∀(j:Nat) (h:j<l.length),j<i+1→Hp c l[j]=false:=IZ (P:=fun _ x=>Hp c x=false) (List.getElem?_eq_getElem h) hs
   have hyes:Hp c l[i]=true→I6 (Hp c) l=i:=fun e=>RL h e hs
   generalize l[i]=x at *
   have hcall:=AMB (x:=x) hk.1 hm hpi.1 hpi.2
   simp -implicitDefEqProofs -proj only [go_sem,seval,decide_eq_true (show (i:Int)<l.length by omega)]
   refine Ai _ (by omega) hel ?_
   simp -implicitDefEqProofs -proj only [go_sem,seval]
   refine Ek hcall (fun r H' hr=>?_)
   obtain ⟨rfl,hr⟩:=hr
   cases hpx:Hp c x
   ·simp -implicitDefEqProofs -proj only [go_sem,seval]
    refine Ac (i+1) ⟨by omega,hgo hpx⟩ (by show l.length-(i+1)<l.length-i; omega) rfl ?_ ⟨hr,trivial⟩
    simp -implicitDefEqProofs -proj only [go_sem,seval,AL,AR (show i<9223372036854775807 by omega)]
   ·simp -implicitDefEqProofs -proj only [go_sem,seval]
    rw [hyes hpx]
    try first | exact ⟨rfl,hr⟩ | exact rfl | rfl
  ·have hi':i=l.length:=by omega
   subst hi'
   simp -implicitDefEqProofs -proj only [go_sem,seval,decide_eq_false (show ¬(l.length:Int)<l.length by omega)]
   rw [Sj fun j h=>hs j h h]
   try first | exact ⟨rfl,hk.1⟩ | exact rfl
theorem AJ9 {c:CoreX} {H:Heap} {b:Nat} {l:List PartX} (hb:H b=some (CS c)) (hm:c.ms.length≤9223372036854775807) (hp:∀x∈l,x.ts.length≤9223372036854775807∧x.ad.length≤9223372036854775807) (hl:l.length≤9223372036854775807):CallW Tryz.prog Zk [.d (.sl 9 (Ea l)),.fn Nd [.ptr b 0]] H fun r H'=>r=bv (l.any (Hp c))∧H' b=some (CS c):=by
 refine AZ AJM (by simp) ?_
 simp -implicitDefEqProofs -proj only [go_sem,seval]
 refine Ek (VW hb hm hp hl) (fun r H' hr=>?_)
 obtain ⟨rfl,hr⟩:=hr
 simp -implicitDefEqProofs -proj only [go_sem,seval]
 rw [RK]
 try first | exact ⟨rfl,hr⟩ | exact rfl
set_option maxRecDepth 20000 in
theorem NC {c:CoreX} (hc:c.Fit):DataW Tryz.prog ABB [Gz c] (bv (decide (goodC c))):=by
 obtain ⟨cur,f,t,ms,ss,ps⟩:=c
 obtain ⟨hff,hft,_,hmn,_,hsn,hps,hpn⟩:=hc
 simp -implicitDefEqProofs only [] at hff hft hmn hsn hps hpn
 have hno:¬KI ⟨cur,f,t,ms,ss,ps⟩→decide (goodC ⟨cur,f,t,ms,ss,ps⟩)=false:=fun h=>decide_eq_false (fun k=>h k.hd)
 unfold KI at hno
 simp -implicitDefEqProofs only [] at hno
 refine AZ ATG (by simp) ?_
 simp -implicitDefEqProofs -proj only [go_sem,seval]
 refine AI (fun b1 hb1=>?_)
 simp -implicitDefEqProofs -proj only [go_sem,seval]
 by_cases g1:f<0
 ·simp -implicitDefEqProofs -proj only [go_sem,seval,decide_eq_true g1]
  exact AJ (by rw [hno (fun k=>by omega)])
 by_cases g2:t<f
 ·simp -implicitDefEqProofs -proj only [go_sem,seval,decide_eq_false g1,decide_eq_true g2]
  exact AJ (by rw [hno (fun k=>by omega)])
 by_cases g2b:3652059≤t
 ·simp -implicitDefEqProofs -proj only [go_sem,seval,decide_eq_false g1,decide_eq_false g2,decide_eq_true g2b]
  exact AJ (by rw [hno (fun k=>by omega)])
 have w1:IntKind.i64.wrap (t-f)=t-f:=by rw [IntKind.wrap_i64]; omega
 by_cases g3:4000≤t-f
 ·simp -implicitDefEqProofs -proj only [go_sem,seval,w1,FO,Fr,FR,decide_eq_false g1,decide_eq_false g2,decide_eq_false g2b,decide_eq_true g3]
  exact AJ (by rw [hno (fun k=>by omega)])
 by_cases g4:4<(ms.length:Int)
 ·simp -implicitDefEqProofs -proj only [go_sem,seval,w1,FO,Fr,FR,decide_eq_false g1,decide_eq_false g2,decide_eq_false g2b,decide_eq_false g3,decide_eq_true g4]
  exact AJ (by rw [hno (fun k=>by omega)])
 by_cases g5:8<(ss.length:Int)
 ·simp -implicitDefEqProofs -proj only [go_sem,seval,w1,FO,Fr,FR,decide_eq_false g1,decide_eq_false g2,decide_eq_false g2b,decide_eq_false g3,decide_eq_false g4,decide_eq_true g5]
  exact AJ (by rw [hno (fun k=>by omega)])
 by_cases g6:8<(ps.length:Int)
 ·simp -implicitDefEqProofs -proj only [go_sem,seval,w1,FO,Fr,FR,decide_eq_false g1,decide_eq_false g2,decide_eq_false g2b,decide_eq_false g3,decide_eq_false g4,decide_eq_false g5,decide_eq_true g6]
  exact AJ (by rw [hno (fun k=>by omega)])
 have hhd:KI ⟨cur,f,t,ms,ss,ps⟩  :=⟨⟨by show 0≤f; omega,by show f≤3652058; omega⟩,⟨by show f≤t; omega,by show t≤3652058; omega⟩,show t-f≤3999 by omega,show ms.length≤4 by omega,show ss.length≤8 by omega,show ps.length≤8 by omega⟩
 clear hno
 simp -implicitDefEqProofs -proj only [go_sem,seval,w1,FO,Fr,FR,decide_eq_false g1,decide_eq_false g2,decide_eq_false g2b,decide_eq_false g3,decide_eq_false g4,decide_eq_false g5,decide_eq_false g6]
 refine BJ (fun i:Nat=>i≤ms.length∧∀(j:Nat) (h:j<ms.length),j<i→Ie ms j ms[j]) 125 (fun i=>[(1,.ptr b1 0),(49,.d (.sl 5 (BV ms))),(50,i64 ms.length),(51,i64 i)]) (fun _=>[(b1,.box 26 [.d (.str cur),i64 f,i64 t,.d (.sl 5 (BV ms)),.d (.sl 3 (Ey ss)),.d (.sl 9 (Ea ps))])]) (fun i=>ms.length-i) 0 ⟨Nat.zero_le _,fun j _ h=>absurd h (Nat.not_lt_zero _)⟩ rfl ?_ ?_ ?_
 ·simp -implicitDefEqProofs -proj only [go_sem,seval,AL]
 ·simp -implicitDefEqProofs -proj only [go_sem,seval,AS]
 ·rintro i ⟨hi,hs⟩
  have hk:AS (Ad [(b1,.box 26 [.d (.str cur),i64 f,i64 t,.d (.sl 5 (BV ms)),.d (.sl 3 (Ey ss)),.d (.sl 9 (Ea ps))])]) [(b1,.box 26 [.d (.str cur),i64 f,i64 t,.d (.sl 5 (BV ms)),.d (.sl 3 (Ey ss)),.d (.sl 9 (Ea ps))])]:=EQ (by simp [AN])
  have k1:=hk.1
  by_cases h:i<ms.length
  ·have hel:=G8 h
   have hno:¬Ie ms i ms[i]→decide (goodC ⟨cur,f,t,ms,ss,ps⟩)=false:=fun e=>decide_eq_false fun k=>e (k.ms i h)
   have hgo:Ie ms i ms[i]→∀(j:Nat) (h:j<ms.length),j<i+1→Ie ms j ms[j]:=IZ (List.getElem?_eq_getElem h) hs
   generalize ms[i]=m at *
   unfold Ie at hno hgo
   simp -implicitDefEqProofs -proj only [go_sem,seval,decide_eq_true (show (i:Int)<ms.length by omega)]
   refine Ai _ (by omega) hel ?_
   simp -implicitDefEqProofs -proj only [go_sem,seval]
   refine AI (fun b4 hb4=>?_)
   replace hb4:Ad [(b1,Blk.box 26 [.d (.str cur),i64 f,i64 t,.d (.sl 5 (BV ms)),.d (.sl 3 (Ey ss)),.d (.sl 9 (Ea ps))])] b4=none:=hb4
   obtain ⟨n1,n2⟩:=AG hb4 k1
   simp -implicitDefEqProofs -proj only [go_sem,seval,n1,n2]
   by_cases c1:0≤m.mx∧m.mx≤2000
   rotate_left
   ·refine AK (Hg c1) ?_
    simp -implicitDefEqProofs -proj only [go_sem,seval]
    exact AJ (by rw [hno (fun k=>c1 k.1)])
   refine AK (Hf c1) ?_
   by_cases c2:m.ln=0
   rotate_left
   ·simp -implicitDefEqProofs -proj only [go_sem,seval,n1,n2,decide_eq_false c2]
    exact AJ (by rw [hno (fun k=>c2 k.2.1)])
   by_cases c3:m.co=0
   rotate_left
   ·simp -implicitDefEqProofs -proj only [go_sem,seval,n1,n2,decide_eq_true c2,decide_eq_false c3]
    exact AJ (by rw [hno (fun k=>c3 k.2.2.1)])
   by_cases c4:i=0
   ·simp -implicitDefEqProofs -proj only [go_sem,seval,n1,n2,decide_eq_true c2,decide_eq_true c3,decide_eq_false (show ¬0<(i:Int) by omega)]
    refine Ac (i+1) ⟨by omega,hgo ⟨c1,c2,c3,fun p _ h=>absurd h (by omega)⟩⟩ (by show ms.length-(i+1)<ms.length-i; omega) rfl ?_ (Aj hb4 hk)
    simp -implicitDefEqProofs -proj only [go_sem,seval,AL,AR (show i<9223372036854775807 by omega)]
   ·have hw:IntKind.i64.wrap ((i:Int)-1)=((i-1:Nat):Int):=by rw [IntKind.wrap_i64]; omega
    have hip:i-1<ms.length:=by omega
    have hel2:=G8 hip
    have hpe:ms[i-1]? = some ms[i-1]:=List.getElem?_eq_getElem hip
    generalize ms[i-1]=p at *
    simp -implicitDefEqProofs -proj only [go_sem,seval,n1,n2,k1,hw,decide_eq_true c2,decide_eq_true c3,decide_eq_true (show 0<(i:Int) by omega)]
    refine Ai _ (by omega) hel2 ?_
    by_cases c5:L7 p.nm m.nm=true
    ·have c5':Op.bytesLess p.nm.toList m.nm.toList=true:=c5
     simp -implicitDefEqProofs -proj only [go_sem,seval,n1,n2,Sr,c5']
     refine Ac (i+1) ⟨by omega,hgo ⟨c1,c2,c3,fun q hq _=>by rw [hpe] at hq; cases hq; exact c5⟩⟩ (by show ms.length-(i+1)<ms.length-i; omega) rfl ?_ (Aj hb4 hk)
     simp -implicitDefEqProofs -proj only [go_sem,seval,AL,AR (show i<9223372036854775807 by omega)]
    ·have c5':Op.bytesLess p.nm.toList m.nm.toList=false:=by simpa [L7] using c5
     simp -implicitDefEqProofs -proj only [go_sem,seval,n1,n2,Sr,c5']
     exact AJ (by rw [hno (fun k=>c5 (k.2.2.2 p hpe (by omega)))])
  ·have hi':i=ms.length:=by omega
   subst hi'
   simp -implicitDefEqProofs -proj only [go_sem,seval,k1,Fr,decide_eq_false (show ¬(ms.length:Int)<ms.length by omega)]
   refine BJ (fun i:Nat=>i≤ss.length∧∀(j:Nat) (h:j<ss.length),j<i→Ht f t ss[j]) 125 (fun i=>[(1,.ptr b1 0),(88,.d (.sl 3 (Ey ss))),(89,i64 ss.length),(90,i64 i)]) (fun _=>[(b1,.box 26 [.d (.str cur),i64 f,i64 t,.d (.sl 5 (BV ms)),.d (.sl 3 (Ey ss)),.d (.sl 9 (Ea ps))])]) (fun i=>ss.length-i) 0 ⟨Nat.zero_le _,fun j _ h=>absurd h (Nat.not_lt_zero _)⟩ rfl ?_ ?_ ?_
   ·simp -implicitDefEqProofs -proj only [go_sem,seval,AL]
   ·exact hk
   ·rintro i ⟨hi2,hs2⟩
    by_cases h2:i<ss.length
    ·have hel:=KM h2
     have hno:¬Ht f t ss[i]→decide (goodC ⟨cur,f,t,ms,ss,ps⟩)=false:=fun e=>decide_eq_false fun k=>e (k.ss _ (List.getElem_mem h2))
     have hgo:Ht f t ss[i]→∀(j:Nat) (h:j<ss.length),j<i+1→Ht f t ss[j]:=IZ (P:=fun _ x=>Ht f t x) (List.getElem?_eq_getElem h2) hs2
     generalize ss[i]=x at *
     unfold Ht at hno hgo
     simp -implicitDefEqProofs -proj only [go_sem,seval,decide_eq_true (show (i:Int)<ss.length by omega)]
     refine Ai _ (by omega) hel ?_
     simp -implicitDefEqProofs -proj only [go_sem,seval]
     refine AI (fun b4 hb4=>?_)
     replace hb4:Ad [(b1,Blk.box 26 [.d (.str cur),i64 f,i64 t,.d (.sl 5 (BV ms)),.d (.sl 3 (Ey ss)),.d (.sl 9 (Ea ps))])] b4=none:=hb4
     obtain ⟨n1,n2⟩:=AG hb4 k1
     simp -implicitDefEqProofs -proj only [go_sem,seval,n1,n2]
     by_cases c1:0≤x.a∧x.a≤1000000000000
     rotate_left
     ·refine AK (Hg c1) ?_
      simp -implicitDefEqProofs -proj only [go_sem,seval]
      exact AJ (by rw [hno (fun k=>c1 k.1)])
     refine AK (Hf c1) ?_
     by_cases c2:x.t<x.f
     ·simp -implicitDefEqProofs -proj only [go_sem,seval,n1,n2,k1,decide_eq_true c2]
      exact AJ (by rw [hno (fun k=>by omega)])
     by_cases c3:x.f<f
     ·simp -implicitDefEqProofs -proj only [go_sem,seval,n1,n2,k1,decide_eq_false c2,decide_eq_true c3]
      exact AJ (by rw [hno (fun k=>by omega)])
     by_cases c4:t<x.t
     ·simp -implicitDefEqProofs -proj only [go_sem,seval,n1,n2,k1,decide_eq_false c2,decide_eq_false c3,decide_eq_true c4]
      exact AJ (by rw [hno (fun k=>by omega)])
     simp -implicitDefEqProofs -proj only [go_sem,seval,n1,n2,k1,decide_eq_false c2,decide_eq_false c3,decide_eq_false c4]
     refine Ac (i+1) ⟨by omega,hgo ⟨c1,by omega⟩⟩ (by show ss.length-(i+1)<ss.length-i; omega) rfl ?_ (Aj hb4 hk)
     simp -implicitDefEqProofs -proj only [go_sem,seval,AL,AR (show i<9223372036854775807 by omega)]
    ·have hi3:i=ss.length:=by omega
     subst hi3
     have hcont:=AJ9 (c:=⟨cur,f,t,ms,ss,ps⟩) (l:=ps) k1 hmn (fun x hx=>⟨(hps x hx).tn,(hps x hx).an⟩) hpn
     simp -implicitDefEqProofs -proj only [go_sem,seval,k1,FR,decide_eq_false (show ¬(ss.length:Int)<ss.length by omega)]
     refine Ek hcont (fun r H' hr=>?_)
     obtain ⟨rfl,hr⟩:=hr
     simp -implicitDefEqProofs -proj only [go_sem,seval]
     refine AJ (congrArg (fun b=>AV.d (.bool b)) ?_)
     have hiff:(ps.any (Hp ⟨cur,f,t,ms,ss,ps⟩))=false↔∀x∈ps,GW f t ms.length x:=by
      rw [List.any_eq_false]
      exact ⟨fun h a ha=>by have:=h a ha; unfold Hp at this; simpa using this,fun h a ha=>by unfold Hp; simpa using h a ha⟩
     by_cases g11:∀x∈ps,GW f t ms.length x
     ·rw [hiff.2 g11,decide_eq_true (show goodC ⟨cur,f,t,ms,ss,ps⟩ from ⟨hhd,fun j h=>hs j h h,fun s hm=>by obtain ⟨j,hj,rfl⟩:=List.getElem_of_mem hm; exact hs2 j hj hj,g11⟩)]
      rfl
     ·rw [decide_eq_false (fun k:goodC ⟨cur,f,t,ms,ss,ps⟩=>g11 k.ps)]
      cases e:ps.any (Hp ⟨cur,f,t,ms,ss,ps⟩)
      ·exact absurd (hiff.1 e) g11
      ·rfl
theorem MP {f t:Int} {n:Nat} {x:PartX} (h:GW f t n x):GoodX x:=by
 obtain ⟨⟨g1,g2,g3,g4,g5,g6,g7,g8,g9,g10⟩,h2,h3⟩:=h
 exact ⟨g4,g5,g6,g7,⟨g8,g9⟩,g10,h2,h3⟩
def Eu (d f t:Int):Prop:=f≤d∧d≤t
instance (d f t:Int):Decidable (Eu d f t):=by unfold Eu; exact inferInstance
def bq (b:List Int) (m:Int):Int:=b.getD m.toNat 0
def Om (c:CoreX) (b:List Int):Prop:=b.length=c.ms.length∧∀(i:Nat) (h:i<b.length) (h2:i<c.ms.length),0≤b[i]∧b[i]≤(c.ms[i]).mx
noncomputable instance (c:CoreX) (b:List Int):Decidable (Om c b):=Classical.propDecidable _
theorem AMJ {l:List Adj}:∀{x n:Int},(∀a∈l,a.Fit)→Fit x→HH x l=some n→Fit n:=by
 induction l with
 | nil=>intro x n _ hx h; cases h; exact hx
 | cons a l ih =>
  intro x n hl hx h
  rw [HH] at h
  cases e:HT a x with
  | none=>rw [e] at h; cases h
  | some y =>
   rw [e] at h
   exact ih (fun b hb=>hl b (List.mem_cons_of_mem _ hb)) (Pc (hl a (List.mem_cons_self ..)) hx e) h
theorem ADu {x:PartX} {q n:Int} (hx:x.Fit) (h:FI x q=some n):Fit n:=by
 unfold FI at h
 cases e:JL x q with
 | none=>rw [e] at h; cases h
 | some m =>
  rw [e] at h
  exact AMJ hx.ad (Ok e) h
def sg (g:Nat→Int):Nat→Int
 | 0=>0
 | n+1=>sg g n+g n
theorem JG {g h:Nat→Int}:∀{n:Nat},(∀i,i<n→g i=h i)→sg g n=sg h n
 | 0,_=>rfl
 | n+1,k=>by rw [sg,sg,JG (fun i hi=>k i (by omega)),k n (by omega)]
theorem LI {g h:Nat→Int}:∀{n:Nat},(∀i,i<n→g i≤h i)→sg g n≤sg h n
 | 0,_=>Int.le_refl _
 | n+1,k=>by
  have:=LI (n:=n) (fun i hi=>k i (by omega))
  have:=k n (by omega)
  rw [sg,sg]; omega
theorem Ua {g:Nat→Int}:∀n:Nat,sg (fun i=>- g i) n = - sg g n
 | 0=>rfl
 | n+1=>by rw [sg,sg,Ua n]; omega
theorem K5 {g:Nat→Int}:∀{n:Nat},(∀i,i<n→0≤g i)→0≤sg g n
 | 0,_=>Int.le_refl _
 | n+1,k=>by
  have:=K5 (n:=n) (fun i hi=>k i (by omega))
  have:=k n (by omega)
  rw [sg]; omega
theorem VE {g h:Nat→Int} {n:Nat} (k:∀i,i<n→-h i≤g i∧g i≤h i) : -sg h n≤sg g n∧sg g n≤sg h n:=by
 refine ⟨?_,LI fun i hi=>(k i hi).2⟩
 rw [←Ua]
 exact LI fun i hi=>(k i hi).1
theorem Mk {g h:Nat→Int}:∀n:Nat,sg (fun i=>g i+h i) n=sg g n+sg h n
 | 0=>rfl
 | n+1=>by rw [sg,sg,sg,Mk n]; omega
theorem L1:∀n:Nat,sg (fun _=>0) n=0
 | 0=>rfl
 | n+1=>by rw [sg,L1 n]; rfl
theorem O6 {g:Nat→Nat→Int} {n:Nat}:∀m:Nat,sg (fun i=>sg (g i) m) n=sg (fun j=>sg (fun i=>g i j) n) m
 | 0=>by simp -implicitDefEqProofs only [sg,L1]
 | m+1=>by
  have:sg (fun i=>sg (g i) (m+1)) n=sg (fun i=>sg (g i) m+g i m) n:=JG fun i _=>by rw [sg]
  rw [this,Mk,O6 m,sg]
theorem SH {v:Int} {k:Nat}:∀{n:Nat},sg (fun i=>if i=k then v else 0) n=if k<n then v else 0
 | 0=>rfl
 | n+1=>by
  rw [sg,SH]
  by_cases h:k<n
  ·rw [if_pos h,if_neg (by omega),if_pos (by omega)]; omega
  ·rw [if_neg h]
   by_cases e:n=k
   ·rw [if_pos e,if_pos (by omega)]; omega
   ·rw [if_neg e,if_neg (by omega)]; omega
def pv (x:PartX) (q:Int):Int:=(FI x q).getD 0
def Fk (ss:List SumX) (d:Int) (j:Nat):Int:=match ss[j]? with
 | some s=>if Eu d s.f s.t then s.a else 0
 | none=>0
def E9 (ps:List PartX) (d:Int) (m j:Nat):Int:=match ps[j]? with
 | some x=>if x.me=m∧Eu d x.f x.t then pv x 0 else 0
 | none=>0
def FQ (ps:List PartX) (d:Int) (m:Nat) (q:Int) (j:Nat):Int:=match ps[j]? with
 | some x=>if x.me=m∧Eu d x.f x.t then pv x q-pv x 0 else 0
 | none=>0
def FZ (c:CoreX) (d:Int):Int:=sg (Fk c.ss d) c.ss.length
def FP (c:CoreX) (d:Int) (m:Nat):Int:=sg (E9 c.ps d m) c.ps.length
def JM (c:CoreX) (d:Int):Int:=FZ c d+sg (FP c d) c.ms.length
def Ii (c:CoreX) (d:Int) (m:Nat) (q:Int):Int:=sg (FQ c.ps d m q) c.ps.length
def IX (c:CoreX) (d:Int) (m:Nat) (mx:Int):List Int:=(List.range (mx+1).toNat).map fun (q:Nat)=>Ii c d m q
def Eh (c:CoreX) (d:Int) (k:Nat):List (List Int):=(List.range k).map fun m=>IX c d m (match c.ms[m]? with | some x=>x.mx | none=>0)
abbrev Ei:Type:=Int×List (List Int)
def En (c:CoreX) (d:Int):Ei:=(JM c d,Eh c d c.ms.length)
def G9 (x:PartX):Nat→Int
 | 0=>0
 | n+1=>max (G9 x n) (pv x n)
theorem TS {x:PartX}:∀n,0≤G9 x n
 | 0=>Int.le_refl _
 | n+1=>by have:=TS (x:=x) n; rw [G9]; omega
theorem Uh {x:PartX}:∀{n k:Nat},k<n→pv x k≤G9 x n
 | 0,k,h=>by omega
 | n+1,k,h=>by
  rw [G9]
  by_cases e:k=n
  ·subst e; omega
  ·have:=Uh (x:=x) (show k<n by omega); omega
def EX (ms:List MeterX) (m:Int):Int:=match ms[m.toNat]? with
 | some x=>x.mx
 | none=>0
def HP (c:CoreX) (j:Nat):Int:=match c.ps[j]? with
 | some x=>G9 x (EX c.ms x.me+1).toNat
 | none=>0
theorem MG {c:CoreX} (j:Nat):0≤HP c j:=by
 unfold HP; split
 ·exact TS _
 ·exact Int.le_refl _
def Ga (ss:List SumX) (j:Nat):Int:=match ss[j]? with
 | some s=>s.a
 | none=>0
def F9 (c:CoreX) (i:Nat):Int:=sg (Ga c.ss) c.ss.length+sg (HP c) i
def KK (x:PartX) (q:Int):Prop:=∃n,FI x q=some n∧0≤n∧n≤1152921504606846976
structure fitsC (c:CoreX):Prop where
 great:¬JV c
 good:goodC c
 parts:∀x∈c.ps,∀q:Nat,q<(EX c.ms x.me+1).toNat→KK x q
 tot:∀i,i≤c.ps.length→F9 c i≤1152921504606846976
noncomputable instance (c:CoreX):Decidable (fitsC c):=Classical.propDecidable _
theorem ARg {x:PartX} {q:Int} (h:KK x q):FI x q=some (pv x q)∧0≤pv x q∧pv x q≤1152921504606846976:=by
 obtain ⟨n,h1,h2,h3⟩:=h
 unfold pv
 rw [h1]
 exact ⟨rfl,h2,h3⟩
structure BndC (c:CoreX):Prop where
 mx:∀(m:Nat) (h:m<c.ms.length),0≤c.ms[m].mx∧c.ms[m].mx≤2000
 me:∀x∈c.ps,0≤x.me∧x.me<(c.ms.length:Int)
 amt:∀s∈c.ss,0≤s.a∧s.a≤1000000000000
theorem fitsC.bnd {c:CoreX} (h:goodC c):BndC c :=
 ⟨fun m hm=>(h.ms m hm).1,fun x hx=>⟨(h.ps x hx).1.1,(h.ps x hx).1.2.1⟩,fun s hs=>(h.ss s hs).1⟩
theorem Px {ms:List MeterX} {m:Nat} (h:m<ms.length):EX ms m=ms[m].mx:=by
 unfold EX; rw [Int.toNat_natCast,List.getElem?_eq_getElem h]
theorem UO {c:CoreX} (h:goodC c) (j:Nat):0≤Ga c.ss j:=by
 unfold Ga
 cases e:c.ss[j]? with
 | none=>exact Int.le_refl _
 | some s=>exact ((fitsC.bnd h).amt s (List.mem_of_getElem? e)).1
theorem UQ {c:CoreX} (h:goodC c) (d:Int) (j:Nat):0≤Fk c.ss d j∧Fk c.ss d j≤Ga c.ss j:=by
 have hp:=UO h j
 unfold Ga at *
 unfold Fk
 cases e:c.ss[j]? with
 | none=>exact ⟨Int.le_refl _,Int.le_refl _⟩
 | some s =>
  rw [e] at hp
  simp -implicitDefEqProofs only [] at hp ⊢
  split <;> omega
theorem JD {c:CoreX} (h:fitsC c) {x:PartX} (hx:x∈c.ps) {q:Int} (h0:0≤q) (hq:q≤EX c.ms x.me):FI x q=some (pv x q)∧0≤pv x q∧pv x q≤G9 x (EX c.ms x.me+1).toNat∧pv x q≤1152921504606846976:=by
 have hk:=h.parts x hx q.toNat (by omega)
 rw [Int.toNat_of_nonneg h0] at hk
 obtain ⟨h1,h2,h3⟩:=ARg hk
 have hb:=Uh (x:=x) (show q.toNat<(EX c.ms x.me+1).toNat by omega)
 rw [Int.toNat_of_nonneg h0] at hb
 exact ⟨h1,h2,hb,h3⟩
theorem Ma {c:CoreX} (h:goodC c) {x:PartX} (hx:x∈c.ps):0≤EX c.ms x.me:=by
 obtain ⟨h1,h2⟩:=(fitsC.bnd h).me x hx
 have:=(fitsC.bnd h).mx x.me.toNat (by omega)
 unfold EX
 rw [List.getElem?_eq_getElem (show x.me.toNat<c.ms.length by omega)]
 exact this.1
theorem Tx {c:CoreX} (h:fitsC c) (d:Int) (m j:Nat):0≤E9 c.ps d m j∧E9 c.ps d m j≤HP c j:=by
 have hp:=MG (c:=c) j
 unfold HP at *
 unfold E9
 cases e:c.ps[j]? with
 | none=>exact ⟨Int.le_refl _,Int.le_refl _⟩
 | some x =>
  have hx:=List.mem_of_getElem? e
  rw [e] at hp
  simp -implicitDefEqProofs only [] at hp ⊢
  obtain ⟨h1,h2,h3,h4⟩:=JD h hx (Int.le_refl 0) (Ma h.good hx)
  split <;> omega
theorem AK2 {c:CoreX} (h:fitsC c) (d:Int) {m:Nat} (hm:m<c.ms.length) {q:Int} (h0:0≤q) (hq:q≤c.ms[m].mx) (j:Nat) : -HP c j≤FQ c.ps d m q j∧FQ c.ps d m q j≤HP c j:=by
 have hp:=MG (c:=c) j
 unfold HP at *
 unfold FQ
 cases e:c.ps[j]? with
 | none=>exact ⟨Int.le_refl _,Int.le_refl _⟩
 | some x =>
  have hx:=List.mem_of_getElem? e
  rw [e] at hp
  simp -implicitDefEqProofs only [] at hp ⊢
  by_cases hc:x.me=m∧Eu d x.f x.t
  ·rw [if_pos hc]
   have hmx:EX c.ms x.me=c.ms[m].mx:=by rw [hc.1]; exact Px hm
   obtain ⟨h1,h2,h3,h4⟩:=JD h hx (Int.le_refl 0) (Ma h.good hx)
   obtain ⟨g1,g2,g3,g4⟩:=JD h hx h0 (by rw [hmx]; exact hq)
   omega
  ·rw [if_neg hc]; omega
theorem YQ {c:CoreX} (h:goodC c) (n:Nat):0≤sg (Ga c.ss) n:=K5 fun i _=>UO h i
theorem P4 {c:CoreX} (h:fitsC c) {i:Nat} (hi:i≤c.ps.length):0≤sg (HP c) i∧sg (HP c) i≤1152921504606846976:=by
 have h1:=h.tot i hi
 have h2:=YQ h.good c.ss.length
 unfold F9 at h1
 exact ⟨K5 fun i _=>MG i,by omega⟩
theorem LK {c:CoreX} (h:goodC c) (d:Int) {i:Nat} (hi:i≤c.ss.length):0≤sg (Fk c.ss d) i∧sg (Fk c.ss d) i≤1000000000000*i:=by
 refine ⟨K5 fun j _=>(UQ h d j).1,?_⟩
 have key:∀n:Nat,n≤c.ss.length→sg (Ga c.ss) n≤1000000000000*n:=by
  intro n
  induction n with
  | zero=>intro _; exact Int.le_refl _
  | succ n ih =>
   intro hn
   have:=ih (by omega)
   have h1:=((fitsC.bnd h).amt _ (List.getElem_mem (show n<c.ss.length by omega))).2
   rw [sg]
   have:Ga c.ss n=c.ss[n].a:=by unfold Ga; rw [List.getElem?_eq_getElem (by omega)]
   omega
 have:=LI (n:=i) fun j _=>(UQ h d j).2
 have:=key i hi
 omega
theorem Oi {c:CoreX} (h:fitsC c) (d:Int) (m:Nat) {i:Nat} (hi:i≤c.ps.length):0≤sg (E9 c.ps d m) i∧sg (E9 c.ps d m) i≤1152921504606846976:=by
 have:=(P4 h hi).2
 have h2:=LI (n:=i) fun j _=>(Tx h d m j).2
 exact ⟨K5 fun j _=>(Tx h d m j).1,by omega⟩
theorem Qe {c:CoreX} (h:fitsC c) (d:Int) {m:Nat} (hm:m<c.ms.length) {q:Int} (h0:0≤q) (hq:q≤c.ms[m].mx) {i:Nat} (hi:i≤c.ps.length) : -1152921504606846976≤sg (FQ c.ps d m q) i∧sg (FQ c.ps d m q) i≤1152921504606846976:=by
 have:=(P4 h hi).2
 have h2:=VE (n:=i) fun j _=>AK2 h d hm h0 hq j
 omega
theorem Qx {c:CoreX} (h:fitsC c) (d:Int):∀k:Nat,0≤sg (FP c d) k∧sg (FP c d) k≤1152921504606846976*k
 | 0=>⟨Int.le_refl _,Int.le_refl _⟩
 | k+1=>by
  have:=Qx h d k
  have:=Oi h d k (Nat.le_refl c.ps.length)
  unfold FP at *
  rw [sg]; omega
structure Seg (β:Type) where
 f:Int
 t:Int
 v : β
section
variable {β:Type}
def FwdB (val:Int→β) (lo hi:Int):List (Seg β)→Prop
 | []=>lo=hi
 | r::R=>r.f=lo∧r.f≤r.t∧(∀x,r.f≤x→x≤r.t→val x=r.v)∧(∀s,R.head? = some s→r.v≠s.v)∧FwdB val (r.t+1) hi R
theorem FwdB.le {val:Int→β}:∀{R:List (Seg β)} {lo hi:Int},FwdB val lo hi R→lo≤hi
 | [],lo,hi,h=>by have:lo=hi:=h; omega
 | r::R,lo,hi,h=>by
  obtain ⟨h1,h2,_,_,h5⟩:=h
  have:=FwdB.le h5
  omega
theorem FwdB.len {val:Int→β}:∀{R:List (Seg β)} {lo hi:Int},FwdB val lo hi R→(R.length:Int)≤hi-lo
 | [],lo,hi,h=>by have:lo=hi:=h; simp; omega
 | r::R,lo,hi,h=>by
  obtain ⟨h1,h2,_,_,h5⟩:=h
  have:=FwdB.len h5
  simp -implicitDefEqProofs only [List.length_cons]
  omega
theorem FwdB.canon {val:Int→β} {hi:Int}:∀{R S:List (Seg β)} {lo:Int},FwdB val lo hi R→FwdB val lo hi S→R=S
 | [],[],_,_,_=>rfl
 | [],s::S,lo,h,k=>by
  have:lo=hi:=h
  obtain ⟨k1,k2,_,_,k5⟩:=k
  have:=k5.le
  omega
 | r::R,[],lo,h,k=>by
  have:lo=hi:=k
  obtain ⟨k1,k2,_,_,k5⟩:=h
  have:=k5.le
  omega
 | r::R,s::S,lo,h,k=>by
  obtain ⟨h1,h2,h3,h4,h5⟩:=h
  obtain ⟨k1,k2,k3,k4,k5⟩:=k
  have hh:=h5.le
  have kk:=k5.le
  have ev:r.v=s.v:=by rw [←h3 lo (by omega) (by omega),←k3 lo (by omega) (by omega)]
  have key:∀{A:List (Seg β)} {a b:Seg β},FwdB val (a.t+1) hi A→b.t+1≤hi→a.f=lo→b.f=lo→a.f≤a.t→(∀x,b.f≤x→x≤b.t→val x=b.v)→(∀q,A.head? = some q→a.v≠q.v)→a.v=b.v→¬a.t<b.t:=by
   intro A a b hA hb ha hb2 haa hbv hne hab hlt
   cases A with
   | nil=>have:a.t+1=hi:=hA; omega
   | cons q A =>
    obtain ⟨q1,q2,q3,_,_⟩:=hA
    have e1:=q3 q.f (Int.le_refl _) q2
    have e2:=hbv q.f (by omega) (by omega)
    exact hne q rfl (by rw [hab,←e2,e1])
  have et:r.t=s.t:=by
   have n1:=key h5 kk h1 k1 h2 k3 h4 ev
   have n2:=key k5 hh k1 h1 k2 h3 k4 ev.symm
   omega
  have ers:r=s:=by
   obtain ⟨rf,rt,rv⟩:=r
   obtain ⟨sf,st,sv⟩:=s
   simp -implicitDefEqProofs only at h1 k1 et ev
   rw [h1,k1,et,ev]
  rw [ers]
  rw [et] at h5
  exact congrArg _ (FwdB.canon h5 k5)
theorem FwdB.congr {val val':Int→β} {hi:Int}:∀{R:List (Seg β)} {lo:Int},(∀x,lo≤x→x<hi→val x=val' x)→FwdB val lo hi R→FwdB val' lo hi R
 | [],lo,_,h=>h
 | r::R,lo,hv,h=>by
  obtain ⟨h1,h2,h3,h4,h5⟩:=h
  have hl:=h5.le
  exact ⟨h1,h2,fun x a b=>by rw [←hv x (by omega) (by omega)]; exact h3 x a b,h4,FwdB.congr (fun x a b=>hv x (by omega) b) h5⟩
theorem FwdB.nth {val:Int→β} {hi:Int}:∀{R:List (Seg β)} {lo:Int},FwdB val lo hi R→∀(i:Nat) r,R[i]? = some r→lo+i≤r.f∧r.f≤r.t∧r.t<hi∧(∀x,r.f≤x→x≤r.t→val x=r.v)∧(∀s,R[i+1]? = some s→s.f=r.t+1∧r.v≠s.v)∧(R[i+1]? = none→r.t+1=hi)∧(i=0→r.f=lo)
 | [],lo,_,i,r,hr=>by simp at hr
 | q::R,lo,h,0,r,hr=>by
  obtain ⟨h1,h2,h3,h4,h5⟩:=h
  have hl:=h5.le
  simp -implicitDefEqProofs only [List.getElem?_cons_zero,Option.some.injEq] at hr
  subst hr
  refine ⟨by omega,h2,by omega,h3,fun s hs=>?_,fun hs=>?_,fun _=>h1⟩
  ·cases R with
   | nil=>simp at hs
   | cons a R =>
    simp -implicitDefEqProofs only [List.getElem?_cons_succ,List.getElem?_cons_zero,Option.some.injEq] at hs
    subst hs
    exact ⟨h5.1,h4 a rfl⟩
  ·cases R with
   | nil=>exact h5
   | cons a R=>simp at hs
 | q::R,lo,h,i+1,r,hr=>by
  obtain ⟨h1,h2,h3,h4,h5⟩:=h
  have hl:=h5.le
  obtain ⟨g1,g2,g3,g4,g5,g6,g7⟩:=FwdB.nth h5 i r (by simpa using hr)
  exact ⟨by omega,g2,g3,g4,by simpa using g5,by simpa using g6,fun h=>by omega⟩
theorem FwdB.apart {val:Int→β} {hi:Int}:∀{R:List (Seg β)} {lo:Int},FwdB val lo hi R→∀(i j:Nat) r s,i<j→R[i]? = some r→R[j]? = some s→r.t<s.f
 | [],lo,_,i,j,r,s,_,hr,_=>by simp at hr
 | q::R,lo,h,0,0,r,s,hij,_,_=>by omega
 | q::R,lo,h,0,j+1,r,s,_,hr,hs=>by
  obtain ⟨h1,h2,h3,h4,h5⟩:=h
  simp -implicitDefEqProofs only [List.getElem?_cons_zero,Option.some.injEq] at hr
  subst hr
  have:=(FwdB.nth h5 j s (by simpa using hs)).1
  omega
 | q::R,lo,h,i+1,0,r,s,hij,_,_=>by omega
 | q::R,lo,h,i+1,j+1,r,s,hij,hr,hs=>FwdB.apart h.2.2.2.2 i j r s (by omega) (by simpa using hr) (by simpa using hs)
theorem FwdB.setLast {val:Int→β} {hi x:Int} {s:Seg β}:∀{A:List (Seg β)} {lo:Int},FwdB val lo hi (A++[s])→s.f≤x→(∀y,s.f≤y→y≤x→val y=s.v)→FwdB val lo (x+1) (A++[⟨s.f,x,s.v⟩])
 | [],lo,h,h1,h2=>by
  obtain ⟨g1,g2,g3,g4,g5⟩:=h
  exact ⟨g1,h1,h2,fun s hs=>by simp at hs,rfl⟩
 | a::A,lo,h,h1,h2=>by
  obtain ⟨g1,g2,g3,g4,g5⟩:=h
  refine ⟨g1,g2,g3,fun q hq=>?_,FwdB.setLast g5 h1 h2⟩
  cases A with
  | nil =>
   have hq':(⟨s.f,x,s.v⟩:Seg β)=q:=by simpa using hq
   subst hq'
   exact g4 s rfl
  | cons b A=>exact g4 q hq
theorem FwdB.push {val:Int→β} {hi:Int} {r:Seg β}:∀{A:List (Seg β)} {lo:Int},FwdB val lo hi A→r.f=hi→r.f≤r.t→(∀x,r.f≤x→x≤r.t→val x=r.v)→(∀s,A.getLast? = some s→s.v≠r.v)→FwdB val lo (r.t+1) (A++[r])
 | [],lo,h,h1,h2,h3,h4=>by
  have:lo=hi:=h
  exact ⟨by omega,h2,h3,fun s hs=>by simp at hs,rfl⟩
 | a::A,lo,h,h1,h2,h3,h4=>by
  obtain ⟨g1,g2,g3,g4,g5⟩:=h
  refine ⟨g1,g2,g3,fun q hq=>?_,FwdB.push g5 h1 h2 h3 fun s hs=>?_⟩
  ·cases A with
   | nil =>
    have hq':r=q:=by simpa using hq
    subst hq'
    exact h4 a rfl
   | cons b A=>exact g4 q hq
  ·cases A with
   | nil=>simp at hs
   | cons b A=>exact h4 s (by rw [List.getLast?_cons_cons]; exact hs)
open Classical in
noncomputable def KD (acc:List (Seg β)) (d:Int) (v : β):List (Seg β):=match acc.getLast? with
 | none=>[⟨d,d,v⟩]
 | some s=>if s.v=v then acc.dropLast++[⟨s.f,d-1,s.v⟩] else acc.dropLast++[⟨s.f,d-1,s.v⟩]++[⟨d,d,v⟩]
noncomputable def Fe (val:Int→β) (ds:List Int):Nat→List (Seg β)
 | 0=>[]
 | k+1=>match ds[k]? with
  | some d=>KD (Fe val ds k) d (val d)
  | none=>Fe val ds k
def LP (acc:List (Seg β)) (x:Int):List (Seg β):=match acc.getLast? with
 | none=>[]
 | some s=>acc.dropLast++[⟨s.f,x,s.v⟩]
theorem FwdOK.nth2 {val:Int→Int} {hi:Int}:∀{R:List Run} {lo:Int},FwdOK val lo hi R→∀(i:Nat) r,R[i]? = some r→lo≤r.f∧r.f≤r.t∧r.t<hi∧(∀x,r.f≤x→x≤r.t→val x=r.v)∧(∀s,R[i+1]? = some s→s.f=r.t+1)∧(R[i+1]? = none→r.t+1=hi)∧(i=0→r.f=lo)
 | [],lo,_,i,r,hr=>by simp at hr
 | q::R,lo,h,0,r,hr=>by
  obtain ⟨h1,h2,h3,h4,h5⟩:=h
  have hl:=h5.le
  simp -implicitDefEqProofs only [List.getElem?_cons_zero,Option.some.injEq] at hr
  subst hr
  refine ⟨by omega,h2,by omega,h3,fun s hs=>?_,fun hs=>?_,fun _=>h1⟩
  ·cases R with
   | nil=>simp at hs
   | cons a R =>
    simp -implicitDefEqProofs only [List.getElem?_cons_succ,List.getElem?_cons_zero,Option.some.injEq] at hs
    subst hs
    exact h5.1
  ·cases R with
   | nil=>exact h5
   | cons a R=>simp at hs
 | q::R,lo,h,i+1,r,hr=>by
  obtain ⟨h1,h2,h3,h4,h5⟩:=h
  have hl:=h5.le
  obtain ⟨g1,g2,g3,g4,g5,g6,g7⟩:=FwdOK.nth2 h5 i r (by simpa using hr)
  exact ⟨by omega,g2,g3,g4,by simpa using g5,by simpa using g6,fun h=>by omega⟩
theorem Pd {val:Int→β} {sv:Int→Int} {lo hi:Int} {R:List Run} (h:FwdOK sv lo hi R) (hv:∀d e,lo≤d→d<hi→lo≤e→e<hi→sv d=sv e→val d=val e):∀(k:Nat) r,R[k]? = some r→∃A s,Fe val (R.map (·.f)) (k+1)=A++[s]∧s.v=val r.f∧s.f≤r.f∧∀x,r.f≤x→x≤r.t→FwdB val lo (x+1) (A++[⟨s.f,x,s.v⟩])
 | 0,r,hr=>by
  obtain ⟨h1,h2,h3,h4,h5,h6,h7⟩:=h.nth2 0 r hr
  refine ⟨[],⟨r.f,r.f,val r.f⟩,?_,rfl,Int.le_refl _,fun x hx hx2=>⟨h7 rfl,hx,fun y a b=>?_,fun s hs=>by simp at hs,rfl⟩⟩
  ·simp [Fe,hr,KD]
  ·have a':r.f≤y:=a
   have b':y≤x:=b
   exact hv y r.f (by omega) (by omega) (by omega) (by omega) (by rw [h4 y a' (by omega),h4 r.f (by omega) h2])
 | k+1,r,hr=>by
  obtain ⟨h1,h2,h3,h4,h5,h6,h7⟩:=h.nth2 (k+1) r hr
  have hk:k<R.length:=by
   have:=(List.getElem?_eq_some_iff.1 hr).1
   omega
  obtain ⟨g1,g2,g3,g4,g5,g6,g7⟩:=h.nth2 k R[k] (List.getElem?_eq_getElem hk)
  obtain ⟨A,s,e1,e2,e3,e4⟩:=Pd h hv k R[k] (List.getElem?_eq_getElem hk)
  have hf:=g5 r hr
  have hall:=e4 (r.f-1) (by omega) (by omega)
  rw [show r.f-1+1=r.f by omega] at hall
  have hstep:Fe val (R.map (·.f)) (k+1+1)=KD (A++[s]) r.f (val r.f):=by
   rw [Fe,List.getElem?_map,hr,←e1]; rfl
  have hconst:∀y,r.f≤y→y≤r.t→val y=val r.f:=fun y a b=>hv y r.f (by omega) (by omega) (by omega) (by omega) (by rw [h4 y a b,h4 r.f (by omega) h2])
  by_cases c:s.v=val r.f
  ·refine ⟨A,⟨s.f,r.f-1,s.v⟩,?_,c,by show s.f≤r.f; omega,fun x hx hx2=>?_⟩
   ·rw [hstep,KD]
    simp -implicitDefEqProofs only [List.getLast?_append,List.getLast?_singleton,Option.some_or,List.dropLast_concat,if_pos c]
   ·refine FwdB.setLast (s:=⟨s.f,r.f-1,s.v⟩) hall (by show s.f≤x; omega) fun y a b=>?_
    simp -implicitDefEqProofs only at a
    by_cases hy:y<r.f
    ·have hlast:(A++[(⟨s.f,r.f-1,s.v⟩:Seg β)])[A.length]? = some ⟨s.f,r.f-1,s.v⟩:=by simp
     exact (hall.nth _ _ hlast).2.2.2.1 y a (by show y≤r.f-1; omega)
    ·rw [hconst y (by omega) (by omega)]; exact c.symm
  ·refine ⟨A++[⟨s.f,r.f-1,s.v⟩],⟨r.f,r.f,val r.f⟩,?_,rfl,Int.le_refl _,fun x hx hx2=>?_⟩
   ·rw [hstep,KD]
    simp -implicitDefEqProofs only [List.getLast?_append,List.getLast?_singleton,Option.some_or,List.dropLast_concat,if_neg c]
   ·refine FwdB.push (r:=⟨r.f,x,val r.f⟩) hall rfl hx (fun y a b=>hconst y a (by simp -implicitDefEqProofs only at b; omega)) fun q hq=>?_
    simp -implicitDefEqProofs only [List.getLast?_append,List.getLast?_singleton,Option.some_or,Option.some.injEq] at hq
    subst hq
    exact c
theorem YH {val:Int→β} {sv:Int→Int} {lo hi:Int} {R:List Run} (h:FwdOK sv lo hi R) (hlt:lo<hi) (hv:∀d e,lo≤d→d<hi→lo≤e→e<hi→sv d=sv e→val d=val e):FwdB val lo hi (LP (Fe val (R.map (·.f)) R.length) (hi-1)):=by
 cases hR:R with
 | nil=>rw [hR] at h; have:lo=hi:=h; omega
 | cons a S =>
  rw [←hR]
  have hk:R.length-1<R.length:=by rw [hR]; simp
  obtain ⟨A,s,e1,e2,e3,e4⟩:=Pd h hv (R.length-1) _ (List.getElem?_eq_getElem hk)
  obtain ⟨h1,h2,h3,h4,h5,h6,h7⟩:=h.nth2 (R.length-1) _ (List.getElem?_eq_getElem hk)
  rw [show R.length-1+1=R.length by omega] at e1 h6
  have h6:=h6 (List.getElem?_eq_none (Nat.le_refl _))
  rw [e1,LP]
  simp -implicitDefEqProofs only [List.getLast?_append,List.getLast?_singleton,Option.some_or,List.dropLast_concat]
  have:=e4 (hi-1) (by omega) (by omega)
  rwa [show hi-1+1=hi by omega] at this
open Classical in
noncomputable def KY (acc:List (Seg β)) (r:Seg β):List (Seg β):=match acc.getLast? with
 | none=>[r]
 | some s=>if s.v=r.v then acc.dropLast++[⟨s.f,r.t,s.v⟩] else acc++[r]
noncomputable def GN (val:Int→β) (R:List Run):Nat→List (Seg β)
 | 0=>[]
 | k+1=>match R[k]? with
  | some r=>KY (GN val R k) ⟨r.f,r.t,val r.f⟩
  | none=>GN val R k
theorem Pt {val:Int→β} {sv:Int→Int} {lo hi:Int} {R:List Run} (h:FwdOK sv lo hi R) (hv:∀d e,lo≤d→d<hi→lo≤e→e<hi→sv d=sv e→val d=val e):∀(k:Nat) r,R[k]? = some r→∃A s,GN val R (k+1)=A++[s]∧s.v=val r.f∧s.t=r.t∧FwdB val lo (r.t+1) (A++[s])
 | 0,r,hr=>by
  obtain ⟨h1,h2,h3,h4,h5,h6,h7⟩:=h.nth2 0 r hr
  refine ⟨[],⟨r.f,r.t,val r.f⟩,?_,rfl,rfl,⟨h7 rfl,h2,fun y a b=>?_,fun s hs=>by simp at hs,rfl⟩⟩
  ·simp [GN,hr,KY]
  ·simp -implicitDefEqProofs only at a b
   exact hv y r.f (by omega) (by omega) (by omega) (by omega) (by rw [h4 y a b,h4 r.f (by omega) h2])
 | k+1,r,hr=>by
  obtain ⟨h1,h2,h3,h4,h5,h6,h7⟩:=h.nth2 (k+1) r hr
  have hk:k<R.length:=by
   have:=(List.getElem?_eq_some_iff.1 hr).1
   omega
  obtain ⟨g1,g2,g3,g4,g5,g6,g7⟩:=h.nth2 k R[k] (List.getElem?_eq_getElem hk)
  obtain ⟨A,s,e1,e2,e3,e4⟩:=Pt h hv k R[k] (List.getElem?_eq_getElem hk)
  have hf:=g5 r hr
  have hstep:GN val R (k+1+1)=KY (A++[s]) ⟨r.f,r.t,val r.f⟩:=by
   rw [GN,hr,←e1]
  have hconst:∀y,r.f≤y→y≤r.t→val y=val r.f:=fun y a b=>hv y r.f (by omega) (by omega) (by omega) (by omega) (by rw [h4 y a b,h4 r.f (by omega) h2])
  have hlast:(A++[s])[A.length]? = some s:=by simp
  have hs:=e4.nth _ _ hlast
  by_cases c:s.v=val r.f
  ·refine ⟨A,⟨s.f,r.t,s.v⟩,?_,c,rfl,?_⟩
   ·rw [hstep,KY]
    simp -implicitDefEqProofs only [List.getLast?_append,List.getLast?_singleton,Option.some_or,List.dropLast_concat,if_pos c]
   ·refine FwdB.setLast e4 (by have:=hs.2.1; omega) fun y a b=>?_
    by_cases hy:y<r.f
    ·exact hs.2.2.2.1 y a (by omega)
    ·rw [hconst y (by omega) (by omega)]; exact c.symm
  ·refine ⟨A++[s],⟨r.f,r.t,val r.f⟩,?_,rfl,rfl,?_⟩
   ·rw [hstep,KY]
    simp -implicitDefEqProofs only [List.getLast?_append,List.getLast?_singleton,Option.some_or,if_neg c]
   ·refine FwdB.push (r:=⟨r.f,r.t,val r.f⟩) e4 hf h2 hconst fun q hq=>?_
    simp -implicitDefEqProofs only [List.getLast?_append,List.getLast?_singleton,Option.some_or,Option.some.injEq] at hq
    subst hq
    exact c
theorem ADM {val:Int→β} {sv:Int→Int} {lo hi:Int} {R:List Run} (h:FwdOK sv lo hi R) (hlt:lo<hi) (hv:∀d e,lo≤d→d<hi→lo≤e→e<hi→sv d=sv e→val d=val e):FwdB val lo hi (GN val R R.length):=by
 cases hR:R with
 | nil=>rw [hR] at h; have:lo=hi:=h; omega
 | cons a S =>
  rw [←hR]
  have hk:R.length-1<R.length:=by rw [hR]; simp
  obtain ⟨A,s,e1,e2,e3,e4⟩:=Pt h hv (R.length-1) _ (List.getElem?_eq_getElem hk)
  obtain ⟨h1,h2,h3,h4,h5,h6,h7⟩:=h.nth2 (R.length-1) _ (List.getElem?_eq_getElem hk)
  rw [show R.length-1+1=R.length by omega] at e1 h6
  have h6:=h6 (List.getElem?_eq_none (Nat.le_refl _))
  rw [e1]
  rwa [h6] at e4
end
end Go.Proofs.YtbihahpaalcjjaaGreat.Abs
