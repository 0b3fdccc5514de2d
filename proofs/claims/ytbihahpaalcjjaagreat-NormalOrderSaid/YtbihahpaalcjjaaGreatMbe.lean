/- Contracts of the machine and the contracts of one law (joined by kmerge.py). No claim stands here. -/
import Derived.Below
import Derived.Carry
import Derived.ChangeCalls
import Derived.ChangeOld
import Derived.IntWalk
import Derived.KernelRfl
import Derived.Laws.Append
import Derived.Laws.AppendOwn
import Derived.Laws.Cells
import Derived.Laws.CopyRow
import Derived.Laws.Entries
import Derived.Laws.MakeOwn
import Derived.Laws.NewFold
import Derived.Laws.Rows
import Derived.Laws.StructEq
import Derived.OpenShut
import Derived.Orders
import Derived.OrdersIn
import Derived.ProofKit
import Derived.RangeFuncLeaves
import Derived.RangeFuncSeq
import Derived.SizedLaws
import Derived.TacticsIn
import Derived.WalkKit
import Derived.Test.YtbihahpaalcjjaaGreatMbd
set_option maxRecDepth 100000
set_option linter.unusedSimpArgs false
set_option linter.unusedVariables false
namespace Go.Proofs.YtbihahpaalcjjaaGreat.Abs
open Go Go.RowKit Go.Proofs
attribute [local go_sem] CL Ce Bo BN D0 CV BP Ag Ao Bn Bf DE Cq Cv B2 Bi BK Cn BV DN Dv De DV Do D2 Dm DC Cy DZ Cf BM Ca Be Bh DG Dl Cb CR By Dp CQ Df Bz CA Dc Di Cr CO Bx BY Bb Bm Dj CD C9 CM Dd DT Bg DD Bu CB CU Bt BO DM Bd Cz C3 Bl Cg BF CW CH BH Ck Bp A8 B7 Ci B8 Cu CF Dn Dy Dw BU Bq Cs DH Cj Cl C5 DJ Bv Br BD Cp BE A5 Cx DO CJ AL ev Aj Ax Av BC A3 DW CX D1 Bk Am Aq Ds CC DB CI CG Cc DI Dz Du Db C6 Cm CY BW CT B9 Cw DS Cd C1 Ba B1 Dr Af setSeg nth seg mapD Ar A4 AR A7 Dg CS Ap Aa cond_true cond_false DY A9 BB BA BI C4 DU List.cons_append List.nil_append Bool.not_true Bool.not_false Bool.and_true Bool.and_self Nat.lt_add_left_iff_pos Nat.zero_add Nat.add_zero List.drop_succ_cons List.drop_zero List.take_succ_cons List.take_zero beq_self_eq_true Bool.false_eq_true Da B3 CN Bs DX BS C8 Co Dq Ay and_self and_true true_and BX CZ Dx Dh CP Bc DK DL Bj Dt Ch BT DF Dk C0 DQ B0 Aw A1 A2 Al D3 Ct C2 C7 BL Bw List.length_cons List.length_nil Nat.min_def Int.cast_ofNat_Int Int.natCast_zero Int.natCast_one decide_true decide_false List.getElem?_cons_zero List.getElem?_cons_succ BZ BQ CK DP CE DA
set_option maxRecDepth 20000 in
set_option maxHeartbeats 4000000 in
theorem ATf {cur:ByteArray} {f t:Int} {ms ss ps:List (List D)} {x:PartX} (hh:HW f t ms.length x):DataW Tryz.prog OJ [KK cur f t ms ss ps,GA x] (bv (decide (HB x.ts∧Hh x.ad))):=by
 refine AX QP (by simp) ?_
 simp -implicitDefEqProofs -proj only [go_sem,seval]
 refine AK (fun b2 hb2=>?_)
 simp -implicitDefEqProofs -proj only [go_sem,seval]
 refine AK (fun b3 hb3=>?_)
 replace hb3:upd Heap.none b2 _ b3=none:=hb3
 obtain ⟨n1,n2⟩:=AI hb3 upd_eq
 obtain ⟨g1,g2,g3,g4,g5,g6,g7,g8,g9,g10⟩:=hh
 simp -implicitDefEqProofs -proj only [go_sem,seval,n1,n2,decide_eq_false (show ¬x.me<0 by omega),decide_eq_false (show ¬(ms.length:Int)≤x.me by omega)]
 refine AJ Og ?_
 simp -implicitDefEqProofs -proj only [go_sem,seval,n1,n2,decide_eq_true g3]
 refine AJ (EP g4) ?_
 simp -implicitDefEqProofs -proj only [go_sem,seval,n1,n2]
 refine AJ (EP g5) ?_
 have e1:=decide_eq_false (show ¬(x.ts.length:Int)<1 by omega)
 have e2:=decide_eq_false (show ¬8<(x.ts.length:Int) by omega)
 have e3:=decide_eq_false (show ¬6<(x.ad.length:Int) by omega)
 rcases g6 with g6 | g6
 ·simp -implicitDefEqProofs -proj only [go_sem,seval,n1,n2,decide_eq_true g6]
  refine AJ (EP g7) ?_
  simp -implicitDefEqProofs -proj only [go_sem,seval,n1,n2,Ep,HJ,e1,e2,e3]
  refine D9 (fun i:Nat=>i≤x.ts.length∧∀(j:Nat) (h:j<x.ts.length),j<i→F8 x.ts j x.ts[j]) 160 (fun i=>[(78,EM x.ts),(79,i64 x.ts.length),(80,i64 i),(3,.ptr b3 0)]) (fun _=>[(b3,.box 40 [i64 x.me,i64 x.f,i64 x.t,i64 x.al,i64 x.bl,i64 x.ki,EM x.ts,i64 x.mo,ET x.ad])]) (fun i=>x.ts.length-i) 0 ⟨Nat.zero_le _,fun j _ h=>absurd h (Nat.not_lt_zero _)⟩ rfl ?_ ?_ ?_
  ·simp -implicitDefEqProofs -proj only [go_sem,seval,AM]
  ·simp -implicitDefEqProofs -proj only [go_sem,seval,AS]
  ·rintro i ⟨hi,hs⟩
   have hk3:AS (Ab [(b3,.box 40 [i64 x.me,i64 x.f,i64 x.t,i64 x.al,i64 x.bl,i64 x.ki,EM x.ts,i64 x.mo,ET x.ad])]) [(b3,.box 40 [i64 x.me,i64 x.f,i64 x.t,i64 x.al,i64 x.bl,i64 x.ki,EM x.ts,i64 x.mo,ET x.ad])]:=EQ (by simp [AT])
   have h3:=hk3.1
   by_cases h:i<x.ts.length
   ·have hel:=IU h
    have hgo:F8 x.ts i x.ts[i]→∀(j:Nat) (h:j<x.ts.length),j<i+1→F8 x.ts j x.ts[j]:=by
     intro e j h1 h2
     by_cases hj:j=i
     ·subst hj; exact e
     ·exact hs j h1 (by omega)
    have hno:¬F8 x.ts i x.ts[i]→¬HB x.ts:=fun e k=>e (k i h)
    have hlast:i+1=x.ts.length→FG x.ts i=0∧FV x.ts i=0:=PK
    have hwl:IntKind.i64.wrap ((x.ts.length:Int)-1)=(x.ts.length:Int)-1:=by rw [IntKind.wrap_i64]; omega
    generalize hq:x.ts[i]=q at *
    simp -implicitDefEqProofs -proj only [go_sem,seval,decide_eq_true (show (i:Int)<x.ts.length by omega)]
    refine Ah _ (by omega) hel ?_
    simp -implicitDefEqProofs -proj only [go_sem,seval]
    refine AK (fun b6 hb6=>?_)
    have hb6':=hb6
    replace hb6:Ab [(b3,Blk.box 40 [i64 x.me,i64 x.f,i64 x.t,i64 x.al,i64 x.bl,i64 x.ki,EM x.ts,i64 x.mo,ET x.ad])] b6=none:=hb6
    obtain ⟨m1,m2⟩:=AI hb6 h3
    by_cases h0:i=0
    ·by_cases hl:i+1=x.ts.length
     ·have hlow:=hlast hl
      simp -implicitDefEqProofs -proj only [go_sem,seval,m1,m2,Ep,hwl,decide_eq_false (show ¬0<(i:Int) by omega),decide_eq_true (show (i:Int)=(x.ts.length:Int)-1 by omega)]
      by_cases hr:0≤q.r∧q.r≤1000000000000
      rotate_left
      ·refine AJ (EW hr) ?_
       simp -implicitDefEqProofs -proj only [go_sem,seval]
       exact AH (by rw [decide_eq_false (fun h=>hno (fun k=>hr k.1) h.1)])
      refine AJ (EP hr) ?_
      simp -implicitDefEqProofs -proj only [go_sem,seval,m1,m2]
      by_cases hu:FG x.ts i≤q.u∧q.u≤FV x.ts i
      rotate_left
      ·refine AJ (EW (by rw [hlow.1,hlow.2] at hu; exact hu)) ?_
       simp -implicitDefEqProofs -proj only [go_sem,seval]
       exact AH (by rw [decide_eq_false (fun h=>hno (fun k=>hu k.2) h.1)])
      refine AJ (EP (by rw [hlow.1,hlow.2] at hu; exact hu)) ?_
      simp -implicitDefEqProofs -proj only [go_sem,seval]
      refine Ad (i+1) ⟨by omega,hgo ⟨hr,hu⟩⟩ (by omega) rfl ?_ (An hb6' hk3)
      simp -implicitDefEqProofs -proj only [go_sem,seval,AM,AP (show i<9223372036854775807 by omega)]
     ·have hlow:FG x.ts i=1∧FV x.ts i=1000000:=by subst h0; exact M0 hl
      simp -implicitDefEqProofs -proj only [go_sem,seval,m1,m2,Ep,hwl,decide_eq_false (show ¬0<(i:Int) by omega),decide_eq_false (show ¬(i:Int)=(x.ts.length:Int)-1 by omega)]
      by_cases hr:0≤q.r∧q.r≤1000000000000
      rotate_left
      ·refine AJ (EW hr) ?_
       simp -implicitDefEqProofs -proj only [go_sem,seval]
       exact AH (by rw [decide_eq_false (fun h=>hno (fun k=>hr k.1) h.1)])
      refine AJ (EP hr) ?_
      simp -implicitDefEqProofs -proj only [go_sem,seval,m1,m2]
      by_cases hu:FG x.ts i≤q.u∧q.u≤FV x.ts i
      rotate_left
      ·refine AJ (EW (by rw [hlow.1,hlow.2] at hu; exact hu)) ?_
       simp -implicitDefEqProofs -proj only [go_sem,seval]
       exact AH (by rw [decide_eq_false (fun h=>hno (fun k=>hu k.2) h.1)])
      refine AJ (EP (by rw [hlow.1,hlow.2] at hu; exact hu)) ?_
      simp -implicitDefEqProofs -proj only [go_sem,seval]
      refine Ad (i+1) ⟨by omega,hgo ⟨hr,hu⟩⟩ (by omega) rfl ?_ (An hb6' hk3)
      simp -implicitDefEqProofs -proj only [go_sem,seval,AM,AP (show i<9223372036854775807 by omega)]
    ·have wi:IntKind.i64.wrap ((i:Int)-1)=((i-1:Nat):Int):=by rw [IntKind.wrap_i64]; omega
     have hep:=IU (l:=x.ts) (i:=i-1) (by omega)
     have hm1:=@Ld x.ts i (by omega) (by omega)
     have hm0:=@PT x.ts i (by omega) (by omega)
     obtain ⟨p,hp⟩:∃p,x.ts[i-1]'(by omega)=p:=⟨_,rfl⟩
     rw [hp] at hep hm1 hm0
     clear hp
     by_cases hu1:1≤p.u
     ·have wp:IntKind.i64.wrap (min p.u 1000000+1)=min p.u 1000000+1:=by rw [IntKind.wrap_i64]; omega
      simp -implicitDefEqProofs -proj only [go_sem,seval,m1,m2,decide_eq_true (show 0<(i:Int) by omega),wi]
      (repeat' (with_reducible refine Ae ?_ (fun h=>?_); (focus first | decide | omega); clear h; try simp -implicitDefEqProofs -proj only [go_sem,seval,wi]))
      refine Ah _ (by omega) hep ?_
      simp -implicitDefEqProofs -proj only [go_sem,seval,m1,m2,wi]
      simp -implicitDefEqProofs -proj only [go_sem,seval,m1,m2,wi,decide_eq_true hu1]
      (repeat' (with_reducible refine Ae ?_ (fun h=>?_); (focus first | decide | omega); clear h; try simp -implicitDefEqProofs -proj only [go_sem,seval,wi]))
      refine Ah _ (by omega) hep ?_
      by_cases hl:i+1=x.ts.length
      ·have hlow:=hlast hl
       simp -implicitDefEqProofs -proj only [go_sem,seval,m1,m2,Ep,wi,hwl,wp,decide_eq_true (show (i:Int)=(x.ts.length:Int)-1 by omega)]
       by_cases hr:0≤q.r∧q.r≤1000000000000
       rotate_left
       ·refine AJ (EW hr) ?_
        simp -implicitDefEqProofs -proj only [go_sem,seval]
        exact AH (by rw [decide_eq_false (fun h=>hno (fun k=>hr k.1) h.1)])
       refine AJ (EP hr) ?_
       simp -implicitDefEqProofs -proj only [go_sem,seval,m1,m2]
       by_cases hu:FG x.ts i≤q.u∧q.u≤FV x.ts i
       rotate_left
       ·refine AJ (EW (by rw [hlow.1,hlow.2] at hu; exact hu)) ?_
        simp -implicitDefEqProofs -proj only [go_sem,seval]
        exact AH (by rw [decide_eq_false (fun h=>hno (fun k=>hu k.2) h.1)])
       refine AJ (EP (by rw [hlow.1,hlow.2] at hu; exact hu)) ?_
       simp -implicitDefEqProofs -proj only [go_sem,seval]
       refine Ad (i+1) ⟨by omega,hgo ⟨hr,hu⟩⟩ (by omega) rfl ?_ (An hb6' hk3)
       simp -implicitDefEqProofs -proj only [go_sem,seval,AM,AP (show i<9223372036854775807 by omega)]
      ·have hlow:=hm1 hl hu1
       simp -implicitDefEqProofs -proj only [go_sem,seval,m1,m2,Ep,wi,hwl,wp,decide_eq_false (show ¬(i:Int)=(x.ts.length:Int)-1 by omega)]
       by_cases hr:0≤q.r∧q.r≤1000000000000
       rotate_left
       ·refine AJ (EW hr) ?_
        simp -implicitDefEqProofs -proj only [go_sem,seval]
        exact AH (by rw [decide_eq_false (fun h=>hno (fun k=>hr k.1) h.1)])
       refine AJ (EP hr) ?_
       simp -implicitDefEqProofs -proj only [go_sem,seval,m1,m2]
       by_cases hu:FG x.ts i≤q.u∧q.u≤FV x.ts i
       rotate_left
       ·refine AJ (EW (by rw [hlow.1,hlow.2] at hu; exact hu)) ?_
        simp -implicitDefEqProofs -proj only [go_sem,seval]
        exact AH (by rw [decide_eq_false (fun h=>hno (fun k=>hu k.2) h.1)])
       refine AJ (EP (by rw [hlow.1,hlow.2] at hu; exact hu)) ?_
       simp -implicitDefEqProofs -proj only [go_sem,seval]
       refine Ad (i+1) ⟨by omega,hgo ⟨hr,hu⟩⟩ (by omega) rfl ?_ (An hb6' hk3)
       simp -implicitDefEqProofs -proj only [go_sem,seval,AM,AP (show i<9223372036854775807 by omega)]
     ·simp -implicitDefEqProofs -proj only [go_sem,seval,m1,m2,decide_eq_true (show 0<(i:Int) by omega),wi]
      (repeat' (with_reducible refine Ae ?_ (fun h=>?_); (focus first | decide | omega); clear h; try simp -implicitDefEqProofs -proj only [go_sem,seval,wi]))
      refine Ah _ (by omega) hep ?_
      simp -implicitDefEqProofs -proj only [go_sem,seval,m1,m2,wi]
      by_cases hl:i+1=x.ts.length
      ·have hlow:=hlast hl
       simp -implicitDefEqProofs -proj only [go_sem,seval,m1,m2,Ep,wi,hwl,decide_eq_false hu1,decide_eq_true (show (i:Int)=(x.ts.length:Int)-1 by omega)]
       by_cases hr:0≤q.r∧q.r≤1000000000000
       rotate_left
       ·refine AJ (EW hr) ?_
        simp -implicitDefEqProofs -proj only [go_sem,seval]
        exact AH (by rw [decide_eq_false (fun h=>hno (fun k=>hr k.1) h.1)])
       refine AJ (EP hr) ?_
       simp -implicitDefEqProofs -proj only [go_sem,seval,m1,m2]
       by_cases hu:FG x.ts i≤q.u∧q.u≤FV x.ts i
       rotate_left
       ·refine AJ (EW (by rw [hlow.1,hlow.2] at hu; exact hu)) ?_
        simp -implicitDefEqProofs -proj only [go_sem,seval]
        exact AH (by rw [decide_eq_false (fun h=>hno (fun k=>hu k.2) h.1)])
       refine AJ (EP (by rw [hlow.1,hlow.2] at hu; exact hu)) ?_
       simp -implicitDefEqProofs -proj only [go_sem,seval]
       refine Ad (i+1) ⟨by omega,hgo ⟨hr,hu⟩⟩ (by omega) rfl ?_ (An hb6' hk3)
       simp -implicitDefEqProofs -proj only [go_sem,seval,AM,AP (show i<9223372036854775807 by omega)]
      ·have hlow:=hm0 hl hu1
       simp -implicitDefEqProofs -proj only [go_sem,seval,m1,m2,Ep,wi,hwl,decide_eq_false hu1,decide_eq_false (show ¬(i:Int)=(x.ts.length:Int)-1 by omega)]
       by_cases hr:0≤q.r∧q.r≤1000000000000
       rotate_left
       ·refine AJ (EW hr) ?_
        simp -implicitDefEqProofs -proj only [go_sem,seval]
        exact AH (by rw [decide_eq_false (fun h=>hno (fun k=>hr k.1) h.1)])
       refine AJ (EP hr) ?_
       simp -implicitDefEqProofs -proj only [go_sem,seval,m1,m2]
       by_cases hu:FG x.ts i≤q.u∧q.u≤FV x.ts i
       rotate_left
       ·refine AJ (EW (by rw [hlow.1,hlow.2] at hu; exact hu)) ?_
        simp -implicitDefEqProofs -proj only [go_sem,seval]
        exact AH (by rw [decide_eq_false (fun h=>hno (fun k=>hu k.2) h.1)])
       refine AJ (EP (by rw [hlow.1,hlow.2] at hu; exact hu)) ?_
       simp -implicitDefEqProofs -proj only [go_sem,seval]
       refine Ad (i+1) ⟨by omega,hgo ⟨hr,hu⟩⟩ (by omega) rfl ?_ (An hb6' hk3)
       simp -implicitDefEqProofs -proj only [go_sem,seval,AM,AP (show i<9223372036854775807 by omega)]
   ·have hi':i=x.ts.length:=by omega
    subst hi'
    have hT:HB x.ts:=fun j h1=>hs j h1 h1
    simp -implicitDefEqProofs -proj only [go_sem,seval,decide_eq_false (show ¬(x.ts.length:Int)<x.ts.length by omega),HJ]
    refine D9 (fun i:Nat=>i≤x.ad.length∧∀(j:Nat) (h:j<x.ad.length),j<i→FS x.ad[j]) 160 (fun i=>[(126,ET x.ad),(127,i64 x.ad.length),(128,i64 i)]) (fun _=>[]) (fun i=>x.ad.length-i) 0 ⟨Nat.zero_le _,fun j _ h=>absurd h (Nat.not_lt_zero _)⟩ rfl ?_ ?_ ?_
    ·simp -implicitDefEqProofs -proj only [go_sem,seval,AM]
    ·simp -implicitDefEqProofs -proj only [go_sem,seval,AS]
    ·rintro i ⟨hi,hs⟩
     by_cases h:i<x.ad.length
     ·have hel:=MI h
      have hgo:FS x.ad[i]→∀(j:Nat) (h:j<x.ad.length),j<i+1→FS x.ad[j]:=by
       intro e j h1 h2
       by_cases hj:j=i
       ·subst hj; exact e
       ·exact hs j h1 (by omega)
      have hno:¬FS x.ad[i]→¬Hh x.ad:=fun e k=>e (k _ (List.getElem_mem h))
      generalize hq:x.ad[i]=q at *
      unfold FS at hgo hno
      simp -implicitDefEqProofs -proj only [go_sem,seval,decide_eq_true (show (i:Int)<x.ad.length by omega)]
      refine Ah _ (by omega) hel ?_
      simp -implicitDefEqProofs -proj only [go_sem,seval]
      refine AK (fun b10 hb10=>?_)
      by_cases k1:q.k=1
      ·simp -implicitDefEqProofs -proj only [go_sem,seval,decide_eq_true k1]
       by_cases hn:0≤q.n∧q.n≤100000000
       rotate_left
       ·refine AJ (EW hn) ?_
        simp -implicitDefEqProofs -proj only [go_sem,seval]
        exact AH (by rw [decide_eq_false (fun h=>hno (by omega) h.2)])
       refine AJ (EP hn) ?_
       simp -implicitDefEqProofs -proj only [go_sem,seval]
       by_cases hm:0≤q.m∧q.m≤3
       rotate_left
       ·refine AJ (EW hm) ?_
        simp -implicitDefEqProofs -proj only [go_sem,seval]
        exact AH (by rw [decide_eq_false (fun h=>hno (by omega) h.2)])
       refine AJ (EP hm) ?_
       simp -implicitDefEqProofs -proj only [go_sem,seval]
       refine Ad (i+1) ⟨by omega,hgo (by omega)⟩ (by omega) rfl ?_ trivial
       simp -implicitDefEqProofs -proj only [go_sem,seval,AM,AP (show i<9223372036854775807 by omega)]
      ·by_cases k2:q.k=2
       ·simp -implicitDefEqProofs -proj only [go_sem,seval,decide_eq_false k1,decide_eq_true k2]
        by_cases hn:0≤q.n∧q.n≤1000000000000
        rotate_left
        ·refine AJ (EW hn) ?_
         simp -implicitDefEqProofs -proj only [go_sem,seval]
         exact AH (by rw [decide_eq_false (fun h=>hno (by omega) h.2)])
        refine AJ (EP hn) ?_
        by_cases hm:q.m=0
        rotate_left
        ·simp -implicitDefEqProofs -proj only [go_sem,seval,decide_eq_false hm]
         exact AH (by rw [decide_eq_false (fun h=>hno (by omega) h.2)])
        simp -implicitDefEqProofs -proj only [go_sem,seval,decide_eq_true hm]
        refine Ad (i+1) ⟨by omega,hgo (by omega)⟩ (by omega) rfl ?_ trivial
        simp -implicitDefEqProofs -proj only [go_sem,seval,AM,AP (show i<9223372036854775807 by omega)]
       ·by_cases k3:q.k=3
        ·simp -implicitDefEqProofs -proj only [go_sem,seval,decide_eq_false k1,decide_eq_false k2,decide_eq_true k3]
         by_cases hn:0≤q.n∧q.n≤1000000000000
         rotate_left
         ·refine AJ (EW hn) ?_
          simp -implicitDefEqProofs -proj only [go_sem,seval]
          exact AH (by rw [decide_eq_false (fun h=>hno (by omega) h.2)])
         refine AJ (EP hn) ?_
         by_cases hm:q.m=0
         rotate_left
         ·simp -implicitDefEqProofs -proj only [go_sem,seval,decide_eq_false hm]
          exact AH (by rw [decide_eq_false (fun h=>hno (by omega) h.2)])
         simp -implicitDefEqProofs -proj only [go_sem,seval,decide_eq_true hm]
         refine Ad (i+1) ⟨by omega,hgo (by omega)⟩ (by omega) rfl ?_ trivial
         simp -implicitDefEqProofs -proj only [go_sem,seval,AM,AP (show i<9223372036854775807 by omega)]
        ·by_cases k4:q.k=4
         ·simp -implicitDefEqProofs -proj only [go_sem,seval,decide_eq_false k1,decide_eq_false k2,decide_eq_false k3,decide_eq_true k4]
          by_cases hn:0≤q.n∧q.n≤1000000000000
          rotate_left
          ·refine AJ (EW hn) ?_
           simp -implicitDefEqProofs -proj only [go_sem,seval]
           exact AH (by rw [decide_eq_false (fun h=>hno (by omega) h.2)])
          refine AJ (EP hn) ?_
          by_cases hm:q.m=0
          rotate_left
          ·simp -implicitDefEqProofs -proj only [go_sem,seval,decide_eq_false hm]
           exact AH (by rw [decide_eq_false (fun h=>hno (by omega) h.2)])
          simp -implicitDefEqProofs -proj only [go_sem,seval,decide_eq_true hm]
          refine Ad (i+1) ⟨by omega,hgo (by omega)⟩ (by omega) rfl ?_ trivial
          simp -implicitDefEqProofs -proj only [go_sem,seval,AM,AP (show i<9223372036854775807 by omega)]
         ·simp -implicitDefEqProofs -proj only [go_sem,seval,decide_eq_false k1,decide_eq_false k2,decide_eq_false k3,decide_eq_false k4]
          exact AH (by rw [decide_eq_false (fun h=>hno (by omega) h.2)])
     ·have hi':i=x.ad.length:=by omega
      subst hi'
      have hA:Hh x.ad:=fun a ha=>by obtain ⟨j,h1,rfl⟩:=List.getElem_of_mem ha; exact hs j h1 h1
      simp -implicitDefEqProofs -proj only [go_sem,seval,decide_eq_false (show ¬(x.ad.length:Int)<x.ad.length by omega)]
      exact AH (by rw [decide_eq_true ⟨hT,hA⟩])
 ·simp -implicitDefEqProofs -proj only [go_sem,seval,n1,n2,decide_eq_false (show ¬x.ki=1 by omega),decide_eq_true g6]
  refine AJ (EP g7) ?_
  simp -implicitDefEqProofs -proj only [go_sem,seval,n1,n2,Ep,HJ,e1,e2,e3]
  refine D9 (fun i:Nat=>i≤x.ts.length∧∀(j:Nat) (h:j<x.ts.length),j<i→F8 x.ts j x.ts[j]) 160 (fun i=>[(78,EM x.ts),(79,i64 x.ts.length),(80,i64 i),(3,.ptr b3 0)]) (fun _=>[(b3,.box 40 [i64 x.me,i64 x.f,i64 x.t,i64 x.al,i64 x.bl,i64 x.ki,EM x.ts,i64 x.mo,ET x.ad])]) (fun i=>x.ts.length-i) 0 ⟨Nat.zero_le _,fun j _ h=>absurd h (Nat.not_lt_zero _)⟩ rfl ?_ ?_ ?_
  ·simp -implicitDefEqProofs -proj only [go_sem,seval,AM]
  ·simp -implicitDefEqProofs -proj only [go_sem,seval,AS]
  ·rintro i ⟨hi,hs⟩
   have hk3:AS (Ab [(b3,.box 40 [i64 x.me,i64 x.f,i64 x.t,i64 x.al,i64 x.bl,i64 x.ki,EM x.ts,i64 x.mo,ET x.ad])]) [(b3,.box 40 [i64 x.me,i64 x.f,i64 x.t,i64 x.al,i64 x.bl,i64 x.ki,EM x.ts,i64 x.mo,ET x.ad])]:=EQ (by simp [AT])
   have h3:=hk3.1
   by_cases h:i<x.ts.length
   ·have hel:=IU h
    have hgo:F8 x.ts i x.ts[i]→∀(j:Nat) (h:j<x.ts.length),j<i+1→F8 x.ts j x.ts[j]:=by
     intro e j h1 h2
     by_cases hj:j=i
     ·subst hj; exact e
     ·exact hs j h1 (by omega)
    have hno:¬F8 x.ts i x.ts[i]→¬HB x.ts:=fun e k=>e (k i h)
    have hlast:i+1=x.ts.length→FG x.ts i=0∧FV x.ts i=0:=PK
    have hwl:IntKind.i64.wrap ((x.ts.length:Int)-1)=(x.ts.length:Int)-1:=by rw [IntKind.wrap_i64]; omega
    generalize hq:x.ts[i]=q at *
    simp -implicitDefEqProofs -proj only [go_sem,seval,decide_eq_true (show (i:Int)<x.ts.length by omega)]
    refine Ah _ (by omega) hel ?_
    simp -implicitDefEqProofs -proj only [go_sem,seval]
    refine AK (fun b6 hb6=>?_)
    have hb6':=hb6
    replace hb6:Ab [(b3,Blk.box 40 [i64 x.me,i64 x.f,i64 x.t,i64 x.al,i64 x.bl,i64 x.ki,EM x.ts,i64 x.mo,ET x.ad])] b6=none:=hb6
    obtain ⟨m1,m2⟩:=AI hb6 h3
    by_cases h0:i=0
    ·by_cases hl:i+1=x.ts.length
     ·have hlow:=hlast hl
      simp -implicitDefEqProofs -proj only [go_sem,seval,m1,m2,Ep,hwl,decide_eq_false (show ¬0<(i:Int) by omega),decide_eq_true (show (i:Int)=(x.ts.length:Int)-1 by omega)]
      by_cases hr:0≤q.r∧q.r≤1000000000000
      rotate_left
      ·refine AJ (EW hr) ?_
       simp -implicitDefEqProofs -proj only [go_sem,seval]
       exact AH (by rw [decide_eq_false (fun h=>hno (fun k=>hr k.1) h.1)])
      refine AJ (EP hr) ?_
      simp -implicitDefEqProofs -proj only [go_sem,seval,m1,m2]
      by_cases hu:FG x.ts i≤q.u∧q.u≤FV x.ts i
      rotate_left
      ·refine AJ (EW (by rw [hlow.1,hlow.2] at hu; exact hu)) ?_
       simp -implicitDefEqProofs -proj only [go_sem,seval]
       exact AH (by rw [decide_eq_false (fun h=>hno (fun k=>hu k.2) h.1)])
      refine AJ (EP (by rw [hlow.1,hlow.2] at hu; exact hu)) ?_
      simp -implicitDefEqProofs -proj only [go_sem,seval]
      refine Ad (i+1) ⟨by omega,hgo ⟨hr,hu⟩⟩ (by omega) rfl ?_ (An hb6' hk3)
      simp -implicitDefEqProofs -proj only [go_sem,seval,AM,AP (show i<9223372036854775807 by omega)]
     ·have hlow:FG x.ts i=1∧FV x.ts i=1000000:=by subst h0; exact M0 hl
      simp -implicitDefEqProofs -proj only [go_sem,seval,m1,m2,Ep,hwl,decide_eq_false (show ¬0<(i:Int) by omega),decide_eq_false (show ¬(i:Int)=(x.ts.length:Int)-1 by omega)]
      by_cases hr:0≤q.r∧q.r≤1000000000000
      rotate_left
      ·refine AJ (EW hr) ?_
       simp -implicitDefEqProofs -proj only [go_sem,seval]
       exact AH (by rw [decide_eq_false (fun h=>hno (fun k=>hr k.1) h.1)])
      refine AJ (EP hr) ?_
      simp -implicitDefEqProofs -proj only [go_sem,seval,m1,m2]
      by_cases hu:FG x.ts i≤q.u∧q.u≤FV x.ts i
      rotate_left
      ·refine AJ (EW (by rw [hlow.1,hlow.2] at hu; exact hu)) ?_
       simp -implicitDefEqProofs -proj only [go_sem,seval]
       exact AH (by rw [decide_eq_false (fun h=>hno (fun k=>hu k.2) h.1)])
      refine AJ (EP (by rw [hlow.1,hlow.2] at hu; exact hu)) ?_
      simp -implicitDefEqProofs -proj only [go_sem,seval]
      refine Ad (i+1) ⟨by omega,hgo ⟨hr,hu⟩⟩ (by omega) rfl ?_ (An hb6' hk3)
      simp -implicitDefEqProofs -proj only [go_sem,seval,AM,AP (show i<9223372036854775807 by omega)]
    ·have wi:IntKind.i64.wrap ((i:Int)-1)=((i-1:Nat):Int):=by rw [IntKind.wrap_i64]; omega
     have hep:=IU (l:=x.ts) (i:=i-1) (by omega)
     have hm1:=@Ld x.ts i (by omega) (by omega)
     have hm0:=@PT x.ts i (by omega) (by omega)
     obtain ⟨p,hp⟩:∃p,x.ts[i-1]'(by omega)=p:=⟨_,rfl⟩
     rw [hp] at hep hm1 hm0
     clear hp
     by_cases hu1:1≤p.u
     ·have wp:IntKind.i64.wrap (min p.u 1000000+1)=min p.u 1000000+1:=by rw [IntKind.wrap_i64]; omega
      simp -implicitDefEqProofs -proj only [go_sem,seval,m1,m2,decide_eq_true (show 0<(i:Int) by omega),wi]
      (repeat' (with_reducible refine Ae ?_ (fun h=>?_); (focus first | decide | omega); clear h; try simp -implicitDefEqProofs -proj only [go_sem,seval,wi]))
      refine Ah _ (by omega) hep ?_
      simp -implicitDefEqProofs -proj only [go_sem,seval,m1,m2,wi]
      simp -implicitDefEqProofs -proj only [go_sem,seval,m1,m2,wi,decide_eq_true hu1]
      (repeat' (with_reducible refine Ae ?_ (fun h=>?_); (focus first | decide | omega); clear h; try simp -implicitDefEqProofs -proj only [go_sem,seval,wi]))
      refine Ah _ (by omega) hep ?_
      by_cases hl:i+1=x.ts.length
      ·have hlow:=hlast hl
       simp -implicitDefEqProofs -proj only [go_sem,seval,m1,m2,Ep,wi,hwl,wp,decide_eq_true (show (i:Int)=(x.ts.length:Int)-1 by omega)]
       by_cases hr:0≤q.r∧q.r≤1000000000000
       rotate_left
       ·refine AJ (EW hr) ?_
        simp -implicitDefEqProofs -proj only [go_sem,seval]
        exact AH (by rw [decide_eq_false (fun h=>hno (fun k=>hr k.1) h.1)])
       refine AJ (EP hr) ?_
       simp -implicitDefEqProofs -proj only [go_sem,seval,m1,m2]
       by_cases hu:FG x.ts i≤q.u∧q.u≤FV x.ts i
       rotate_left
       ·refine AJ (EW (by rw [hlow.1,hlow.2] at hu; exact hu)) ?_
        simp -implicitDefEqProofs -proj only [go_sem,seval]
        exact AH (by rw [decide_eq_false (fun h=>hno (fun k=>hu k.2) h.1)])
       refine AJ (EP (by rw [hlow.1,hlow.2] at hu; exact hu)) ?_
       simp -implicitDefEqProofs -proj only [go_sem,seval]
       refine Ad (i+1) ⟨by omega,hgo ⟨hr,hu⟩⟩ (by omega) rfl ?_ (An hb6' hk3)
       simp -implicitDefEqProofs -proj only [go_sem,seval,AM,AP (show i<9223372036854775807 by omega)]
      ·have hlow:=hm1 hl hu1
       simp -implicitDefEqProofs -proj only [go_sem,seval,m1,m2,Ep,wi,hwl,wp,decide_eq_false (show ¬(i:Int)=(x.ts.length:Int)-1 by omega)]
       by_cases hr:0≤q.r∧q.r≤1000000000000
       rotate_left
       ·refine AJ (EW hr) ?_
        simp -implicitDefEqProofs -proj only [go_sem,seval]
        exact AH (by rw [decide_eq_false (fun h=>hno (fun k=>hr k.1) h.1)])
       refine AJ (EP hr) ?_
       simp -implicitDefEqProofs -proj only [go_sem,seval,m1,m2]
       by_cases hu:FG x.ts i≤q.u∧q.u≤FV x.ts i
       rotate_left
       ·refine AJ (EW (by rw [hlow.1,hlow.2] at hu; exact hu)) ?_
        simp -implicitDefEqProofs -proj only [go_sem,seval]
        exact AH (by rw [decide_eq_false (fun h=>hno (fun k=>hu k.2) h.1)])
       refine AJ (EP (by rw [hlow.1,hlow.2] at hu; exact hu)) ?_
       simp -implicitDefEqProofs -proj only [go_sem,seval]
       refine Ad (i+1) ⟨by omega,hgo ⟨hr,hu⟩⟩ (by omega) rfl ?_ (An hb6' hk3)
       simp -implicitDefEqProofs -proj only [go_sem,seval,AM,AP (show i<9223372036854775807 by omega)]
     ·simp -implicitDefEqProofs -proj only [go_sem,seval,m1,m2,decide_eq_true (show 0<(i:Int) by omega),wi]
      (repeat' (with_reducible refine Ae ?_ (fun h=>?_); (focus first | decide | omega); clear h; try simp -implicitDefEqProofs -proj only [go_sem,seval,wi]))
      refine Ah _ (by omega) hep ?_
      simp -implicitDefEqProofs -proj only [go_sem,seval,m1,m2,wi]
      by_cases hl:i+1=x.ts.length
      ·have hlow:=hlast hl
       simp -implicitDefEqProofs -proj only [go_sem,seval,m1,m2,Ep,wi,hwl,decide_eq_false hu1,decide_eq_true (show (i:Int)=(x.ts.length:Int)-1 by omega)]
       by_cases hr:0≤q.r∧q.r≤1000000000000
       rotate_left
       ·refine AJ (EW hr) ?_
        simp -implicitDefEqProofs -proj only [go_sem,seval]
        exact AH (by rw [decide_eq_false (fun h=>hno (fun k=>hr k.1) h.1)])
       refine AJ (EP hr) ?_
       simp -implicitDefEqProofs -proj only [go_sem,seval,m1,m2]
       by_cases hu:FG x.ts i≤q.u∧q.u≤FV x.ts i
       rotate_left
       ·refine AJ (EW (by rw [hlow.1,hlow.2] at hu; exact hu)) ?_
        simp -implicitDefEqProofs -proj only [go_sem,seval]
        exact AH (by rw [decide_eq_false (fun h=>hno (fun k=>hu k.2) h.1)])
       refine AJ (EP (by rw [hlow.1,hlow.2] at hu; exact hu)) ?_
       simp -implicitDefEqProofs -proj only [go_sem,seval]
       refine Ad (i+1) ⟨by omega,hgo ⟨hr,hu⟩⟩ (by omega) rfl ?_ (An hb6' hk3)
       simp -implicitDefEqProofs -proj only [go_sem,seval,AM,AP (show i<9223372036854775807 by omega)]
      ·have hlow:=hm0 hl hu1
       simp -implicitDefEqProofs -proj only [go_sem,seval,m1,m2,Ep,wi,hwl,decide_eq_false hu1,decide_eq_false (show ¬(i:Int)=(x.ts.length:Int)-1 by omega)]
       by_cases hr:0≤q.r∧q.r≤1000000000000
       rotate_left
       ·refine AJ (EW hr) ?_
        simp -implicitDefEqProofs -proj only [go_sem,seval]
        exact AH (by rw [decide_eq_false (fun h=>hno (fun k=>hr k.1) h.1)])
       refine AJ (EP hr) ?_
       simp -implicitDefEqProofs -proj only [go_sem,seval,m1,m2]
       by_cases hu:FG x.ts i≤q.u∧q.u≤FV x.ts i
       rotate_left
       ·refine AJ (EW (by rw [hlow.1,hlow.2] at hu; exact hu)) ?_
        simp -implicitDefEqProofs -proj only [go_sem,seval]
        exact AH (by rw [decide_eq_false (fun h=>hno (fun k=>hu k.2) h.1)])
       refine AJ (EP (by rw [hlow.1,hlow.2] at hu; exact hu)) ?_
       simp -implicitDefEqProofs -proj only [go_sem,seval]
       refine Ad (i+1) ⟨by omega,hgo ⟨hr,hu⟩⟩ (by omega) rfl ?_ (An hb6' hk3)
       simp -implicitDefEqProofs -proj only [go_sem,seval,AM,AP (show i<9223372036854775807 by omega)]
   ·have hi':i=x.ts.length:=by omega
    subst hi'
    have hT:HB x.ts:=fun j h1=>hs j h1 h1
    simp -implicitDefEqProofs -proj only [go_sem,seval,decide_eq_false (show ¬(x.ts.length:Int)<x.ts.length by omega),HJ]
    refine D9 (fun i:Nat=>i≤x.ad.length∧∀(j:Nat) (h:j<x.ad.length),j<i→FS x.ad[j]) 160 (fun i=>[(126,ET x.ad),(127,i64 x.ad.length),(128,i64 i)]) (fun _=>[]) (fun i=>x.ad.length-i) 0 ⟨Nat.zero_le _,fun j _ h=>absurd h (Nat.not_lt_zero _)⟩ rfl ?_ ?_ ?_
    ·simp -implicitDefEqProofs -proj only [go_sem,seval,AM]
    ·simp -implicitDefEqProofs -proj only [go_sem,seval,AS]
    ·rintro i ⟨hi,hs⟩
     by_cases h:i<x.ad.length
     ·have hel:=MI h
      have hgo:FS x.ad[i]→∀(j:Nat) (h:j<x.ad.length),j<i+1→FS x.ad[j]:=by
       intro e j h1 h2
       by_cases hj:j=i
       ·subst hj; exact e
       ·exact hs j h1 (by omega)
      have hno:¬FS x.ad[i]→¬Hh x.ad:=fun e k=>e (k _ (List.getElem_mem h))
      generalize hq:x.ad[i]=q at *
      unfold FS at hgo hno
      simp -implicitDefEqProofs -proj only [go_sem,seval,decide_eq_true (show (i:Int)<x.ad.length by omega)]
      refine Ah _ (by omega) hel ?_
      simp -implicitDefEqProofs -proj only [go_sem,seval]
      refine AK (fun b10 hb10=>?_)
      by_cases k1:q.k=1
      ·simp -implicitDefEqProofs -proj only [go_sem,seval,decide_eq_true k1]
       by_cases hn:0≤q.n∧q.n≤100000000
       rotate_left
       ·refine AJ (EW hn) ?_
        simp -implicitDefEqProofs -proj only [go_sem,seval]
        exact AH (by rw [decide_eq_false (fun h=>hno (by omega) h.2)])
       refine AJ (EP hn) ?_
       simp -implicitDefEqProofs -proj only [go_sem,seval]
       by_cases hm:0≤q.m∧q.m≤3
       rotate_left
       ·refine AJ (EW hm) ?_
        simp -implicitDefEqProofs -proj only [go_sem,seval]
        exact AH (by rw [decide_eq_false (fun h=>hno (by omega) h.2)])
       refine AJ (EP hm) ?_
       simp -implicitDefEqProofs -proj only [go_sem,seval]
       refine Ad (i+1) ⟨by omega,hgo (by omega)⟩ (by omega) rfl ?_ trivial
       simp -implicitDefEqProofs -proj only [go_sem,seval,AM,AP (show i<9223372036854775807 by omega)]
      ·by_cases k2:q.k=2
       ·simp -implicitDefEqProofs -proj only [go_sem,seval,decide_eq_false k1,decide_eq_true k2]
        by_cases hn:0≤q.n∧q.n≤1000000000000
        rotate_left
        ·refine AJ (EW hn) ?_
         simp -implicitDefEqProofs -proj only [go_sem,seval]
         exact AH (by rw [decide_eq_false (fun h=>hno (by omega) h.2)])
        refine AJ (EP hn) ?_
        by_cases hm:q.m=0
        rotate_left
        ·simp -implicitDefEqProofs -proj only [go_sem,seval,decide_eq_false hm]
         exact AH (by rw [decide_eq_false (fun h=>hno (by omega) h.2)])
        simp -implicitDefEqProofs -proj only [go_sem,seval,decide_eq_true hm]
        refine Ad (i+1) ⟨by omega,hgo (by omega)⟩ (by omega) rfl ?_ trivial
        simp -implicitDefEqProofs -proj only [go_sem,seval,AM,AP (show i<9223372036854775807 by omega)]
       ·by_cases k3:q.k=3
        ·simp -implicitDefEqProofs -proj only [go_sem,seval,decide_eq_false k1,decide_eq_false k2,decide_eq_true k3]
         by_cases hn:0≤q.n∧q.n≤1000000000000
         rotate_left
         ·refine AJ (EW hn) ?_
          simp -implicitDefEqProofs -proj only [go_sem,seval]
          exact AH (by rw [decide_eq_false (fun h=>hno (by omega) h.2)])
         refine AJ (EP hn) ?_
         by_cases hm:q.m=0
         rotate_left
         ·simp -implicitDefEqProofs -proj only [go_sem,seval,decide_eq_false hm]
          exact AH (by rw [decide_eq_false (fun h=>hno (by omega) h.2)])
         simp -implicitDefEqProofs -proj only [go_sem,seval,decide_eq_true hm]
         refine Ad (i+1) ⟨by omega,hgo (by omega)⟩ (by omega) rfl ?_ trivial
         simp -implicitDefEqProofs -proj only [go_sem,seval,AM,AP (show i<9223372036854775807 by omega)]
        ·by_cases k4:q.k=4
         ·simp -implicitDefEqProofs -proj only [go_sem,seval,decide_eq_false k1,decide_eq_false k2,decide_eq_false k3,decide_eq_true k4]
          by_cases hn:0≤q.n∧q.n≤1000000000000
          rotate_left
          ·refine AJ (EW hn) ?_
           simp -implicitDefEqProofs -proj only [go_sem,seval]
           exact AH (by rw [decide_eq_false (fun h=>hno (by omega) h.2)])
          refine AJ (EP hn) ?_
          by_cases hm:q.m=0
          rotate_left
          ·simp -implicitDefEqProofs -proj only [go_sem,seval,decide_eq_false hm]
           exact AH (by rw [decide_eq_false (fun h=>hno (by omega) h.2)])
          simp -implicitDefEqProofs -proj only [go_sem,seval,decide_eq_true hm]
          refine Ad (i+1) ⟨by omega,hgo (by omega)⟩ (by omega) rfl ?_ trivial
          simp -implicitDefEqProofs -proj only [go_sem,seval,AM,AP (show i<9223372036854775807 by omega)]
         ·simp -implicitDefEqProofs -proj only [go_sem,seval,decide_eq_false k1,decide_eq_false k2,decide_eq_false k3,decide_eq_false k4]
          exact AH (by rw [decide_eq_false (fun h=>hno (by omega) h.2)])
     ·have hi':i=x.ad.length:=by omega
      subst hi'
      have hA:Hh x.ad:=fun a ha=>by obtain ⟨j,h1,rfl⟩:=List.getElem_of_mem ha; exact hs j h1 h1
      simp -implicitDefEqProofs -proj only [go_sem,seval,decide_eq_false (show ¬(x.ad.length:Int)<x.ad.length by omega)]
      exact AH (by rw [decide_eq_true ⟨hT,hA⟩])
def Lm (a b:ByteArray):Bool:=Op.bytesLess a.toList b.toList
def Hw (ms:List MeterX) (i:Nat) (m:MeterX):Prop:=(0≤m.mx∧m.mx≤2000)∧m.ln=0∧m.co=0∧∀p,ms[i-1]? = some p→0<i→Lm p.nm m.nm=true
def HQ (f t:Int) (s:SumX):Prop:=(0≤s.a∧s.a≤1000000000000)∧(f≤s.f∧s.f≤s.t∧s.t≤t)
def JB (c:CoreX):Prop:=(0≤c.f∧c.f≤3652058)∧(c.f≤c.t∧c.t≤3652058)∧c.t-c.f≤3999∧c.ms.length≤4∧c.ss.length≤8∧c.ps.length≤8
def T8 (ms:List MeterX):Prop:=∀(i:Nat) (h:i<ms.length),Hw ms i ms[i]
structure goodC (c:CoreX):Prop where
 hd:JB c
 ms:T8 c.ms
 ss:∀s∈c.ss,HQ c.f c.t s
 ps:∀x∈c.ps,F6 c.f c.t c.ms.length x
noncomputable instance (c:CoreX):Decidable (goodC c):=Classical.propDecidable _
theorem ANM {cur:ByteArray} {f t:Int} {ms ss ps:List (List D)} {x:PartX}:DataW Tryz.prog OJ [KK cur f t ms ss ps,GA x] (bv (decide (F6 f t ms.length x))):=by
 by_cases h:HW f t ms.length x
 ·have:=ATf (cur:=cur) (ss:=ss) (ps:=ps) h
  rwa [show decide (HB x.ts∧Hh x.ad)=decide (F6 f t ms.length x) from decide_eq_decide.2 ⟨fun k=>⟨h,k⟩,fun k=>k.2⟩] at this
 ·have:=AG8 (cur:=cur) (ss:=ss) (ps:=ps) h
  rwa [show false=decide (F6 f t ms.length x) from (decide_eq_false (fun k=>h k.1)).symm] at this
theorem HL {α:Type} {l:List α} {P:Nat→α→Prop} {i:Nat} {x : α} (hi:l[i]? = some x) (hs:∀(j:Nat) (h:j<l.length),j<i→P j l[j]) (hx:P i x):∀(j:Nat) (h:j<l.length),j<i+1→P j l[j]:=by
 intro j h1 h2
 by_cases hj:j=i
 ·subst hj
  rw [List.getElem?_eq_getElem h1] at hi
  cases hi
  exact hx
 ·exact hs j h1 (by omega)
set_option maxRecDepth 20000 in
theorem ASR {c:CoreX} (hc:c.Fit):DataW Tryz.prog Ul [Fl c] (bv (decide (goodC c))):=by
 obtain ⟨cur,f,t,ms,ss,ps⟩:=c
 obtain ⟨hff,hft,_,hmn,_,hsn,_,hpn⟩:=hc
 simp -implicitDefEqProofs only [] at hff hft hmn hsn hpn
 have hno:¬JB ⟨cur,f,t,ms,ss,ps⟩→decide (goodC ⟨cur,f,t,ms,ss,ps⟩)=false:=fun h=>decide_eq_false (fun k=>h k.hd)
 unfold JB at hno
 simp -implicitDefEqProofs only [] at hno
 refine AX ANm (by simp) ?_
 simp -implicitDefEqProofs -proj only [go_sem,seval]
 refine AK (fun b1 hb1=>?_)
 simp -implicitDefEqProofs -proj only [go_sem,seval]
 by_cases g1:0≤f∧f≤3652058
 rotate_left
 ·refine AJ (EW g1) ?_
  simp -implicitDefEqProofs -proj only [go_sem,seval]
  exact AH (by rw [hno (fun k=>g1 k.1)])
 refine AJ (EP g1) ?_
 simp -implicitDefEqProofs -proj only [go_sem,seval]
 by_cases g2:f≤t∧t≤3652058
 rotate_left
 ·refine AJ (EW g2) ?_
  simp -implicitDefEqProofs -proj only [go_sem,seval]
  exact AH (by rw [hno (fun k=>g2 k.2.1)])
 refine AJ (EP g2) ?_
 have w1:IntKind.i64.wrap (t-f)=t-f:=by rw [IntKind.wrap_i64]; omega
 by_cases g3:3999<t-f
 ·simp -implicitDefEqProofs -proj only [go_sem,seval,w1,decide_eq_true g3]
  exact AH (by rw [hno (fun k=>by omega)])
 by_cases g4:4<(ms.length:Int)
 ·simp -implicitDefEqProofs -proj only [go_sem,seval,w1,E2,E9,El,decide_eq_false g3,decide_eq_true g4]
  exact AH (by rw [hno (fun k=>by omega)])
 by_cases g5:8<(ss.length:Int)
 ·simp -implicitDefEqProofs -proj only [go_sem,seval,w1,E2,E9,El,decide_eq_false g3,decide_eq_false g4,decide_eq_true g5]
  exact AH (by rw [hno (fun k=>by omega)])
 by_cases g6:8<(ps.length:Int)
 ·simp -implicitDefEqProofs -proj only [go_sem,seval,w1,E2,E9,El,decide_eq_false g3,decide_eq_false g4,decide_eq_false g5,decide_eq_true g6]
  exact AH (by rw [hno (fun k=>by omega)])
 have hhd:JB ⟨cur,f,t,ms,ss,ps⟩:=⟨g1,g2,show t-f≤3999 by omega,show ms.length≤4 by omega,show ss.length≤8 by omega,show ps.length≤8 by omega⟩
 clear hno
 simp -implicitDefEqProofs -proj only [go_sem,seval,w1,E2,E9,El,decide_eq_false g3,decide_eq_false g4,decide_eq_false g5,decide_eq_false g6]
 refine D9 (fun i:Nat=>i≤ms.length∧∀(j:Nat) (h:j<ms.length),j<i→Hw ms j ms[j]) 120 (fun i=>[(1,.ptr b1 0),(48,.d (.sl 5 (EK ms))),(49,i64 ms.length),(50,i64 i)]) (fun _=>[(b1,.box 26 [.d (.str cur),i64 f,i64 t,.d (.sl 5 (EK ms)),.d (.sl 3 (EL ss)),.d (.sl 9 (Ak ps))])]) (fun i=>ms.length-i) 0 ⟨Nat.zero_le _,fun j _ h=>absurd h (Nat.not_lt_zero _)⟩ rfl ?_ ?_ ?_
 ·simp -implicitDefEqProofs -proj only [go_sem,seval,AM]
 ·simp -implicitDefEqProofs -proj only [go_sem,seval,AS]
 ·rintro i ⟨hi,hs⟩
  have hk:AS (Ab [(b1,.box 26 [.d (.str cur),i64 f,i64 t,.d (.sl 5 (EK ms)),.d (.sl 3 (EL ss)),.d (.sl 9 (Ak ps))])]) [(b1,.box 26 [.d (.str cur),i64 f,i64 t,.d (.sl 5 (EK ms)),.d (.sl 3 (EL ss)),.d (.sl 9 (Ak ps))])]:=EQ (by simp [AT])
  have k1:=hk.1
  by_cases h:i<ms.length
  ·have hel:=Gl h
   have hno:¬Hw ms i ms[i]→decide (goodC ⟨cur,f,t,ms,ss,ps⟩)=false:=fun e=>decide_eq_false fun k=>e (k.ms i h)
   have hgo:Hw ms i ms[i]→∀(j:Nat) (h:j<ms.length),j<i+1→Hw ms j ms[j]:=HL (List.getElem?_eq_getElem h) hs
   generalize ms[i]=m at *
   unfold Hw at hno hgo
   simp -implicitDefEqProofs -proj only [go_sem,seval,decide_eq_true (show (i:Int)<ms.length by omega)]
   refine Ah _ (by omega) hel ?_
   simp -implicitDefEqProofs -proj only [go_sem,seval]
   refine AK (fun b4 hb4=>?_)
   replace hb4:Ab [(b1,Blk.box 26 [.d (.str cur),i64 f,i64 t,.d (.sl 5 (EK ms)),.d (.sl 3 (EL ss)),.d (.sl 9 (Ak ps))])] b4=none:=hb4
   obtain ⟨n1,n2⟩:=AI hb4 k1
   simp -implicitDefEqProofs -proj only [go_sem,seval,n1,n2]
   by_cases c1:0≤m.mx∧m.mx≤2000
   rotate_left
   ·refine AJ (EW c1) ?_
    simp -implicitDefEqProofs -proj only [go_sem,seval]
    exact AH (by rw [hno (fun k=>c1 k.1)])
   refine AJ (EP c1) ?_
   by_cases c2:m.ln=0
   rotate_left
   ·simp -implicitDefEqProofs -proj only [go_sem,seval,n1,n2,decide_eq_false c2]
    exact AH (by rw [hno (fun k=>c2 k.2.1)])
   by_cases c3:m.co=0
   rotate_left
   ·simp -implicitDefEqProofs -proj only [go_sem,seval,n1,n2,decide_eq_true c2,decide_eq_false c3]
    exact AH (by rw [hno (fun k=>c3 k.2.2.1)])
   by_cases c4:i=0
   ·simp -implicitDefEqProofs -proj only [go_sem,seval,n1,n2,decide_eq_true c2,decide_eq_true c3,decide_eq_false (show ¬0<(i:Int) by omega)]
    refine Ad (i+1) ⟨by omega,hgo ⟨c1,c2,c3,fun p _ h=>absurd h (by omega)⟩⟩ (by show ms.length-(i+1)<ms.length-i; omega) rfl ?_ (An hb4 hk)
    simp -implicitDefEqProofs -proj only [go_sem,seval,AM,AP (show i<9223372036854775807 by omega)]
   ·have hw:IntKind.i64.wrap ((i:Int)-1)=((i-1:Nat):Int):=by rw [IntKind.wrap_i64]; omega
    have hip:i-1<ms.length:=by omega
    have hel2:=Gl hip
    have hpe:ms[i-1]? = some ms[i-1]:=List.getElem?_eq_getElem hip
    generalize ms[i-1]=p at *
    simp -implicitDefEqProofs -proj only [go_sem,seval,n1,n2,k1,hw,decide_eq_true c2,decide_eq_true c3,decide_eq_true (show 0<(i:Int) by omega)]
    refine Ah _ (by omega) hel2 ?_
    by_cases c5:Lm p.nm m.nm=true
    ·have c5':Op.bytesLess p.nm.toList m.nm.toList=true:=c5
     simp -implicitDefEqProofs -proj only [go_sem,seval,n1,n2,QI,c5']
     refine Ad (i+1) ⟨by omega,hgo ⟨c1,c2,c3,fun q hq _=>by rw [hpe] at hq; cases hq; exact c5⟩⟩ (by show ms.length-(i+1)<ms.length-i; omega) rfl ?_ (An hb4 hk)
     simp -implicitDefEqProofs -proj only [go_sem,seval,AM,AP (show i<9223372036854775807 by omega)]
    ·have c5':Op.bytesLess p.nm.toList m.nm.toList=false:=by simpa [Lm] using c5
     simp -implicitDefEqProofs -proj only [go_sem,seval,n1,n2,QI,c5']
     exact AH (by rw [hno (fun k=>c5 (k.2.2.2 p hpe (by omega)))])
  ·have hi':i=ms.length:=by omega
   subst hi'
   simp -implicitDefEqProofs -proj only [go_sem,seval,k1,E9,decide_eq_false (show ¬(ms.length:Int)<ms.length by omega)]
   refine D9 (fun i:Nat=>i≤ss.length∧∀(j:Nat) (h:j<ss.length),j<i→HQ f t ss[j]) 120 (fun i=>[(1,.ptr b1 0),(88,.d (.sl 3 (EL ss))),(89,i64 ss.length),(90,i64 i)]) (fun _=>[(b1,.box 26 [.d (.str cur),i64 f,i64 t,.d (.sl 5 (EK ms)),.d (.sl 3 (EL ss)),.d (.sl 9 (Ak ps))])]) (fun i=>ss.length-i) 0 ⟨Nat.zero_le _,fun j _ h=>absurd h (Nat.not_lt_zero _)⟩ rfl ?_ ?_ ?_
   ·simp -implicitDefEqProofs -proj only [go_sem,seval,AM]
   ·exact hk
   ·rintro i ⟨hi2,hs2⟩
    by_cases h2:i<ss.length
    ·have hel:=JT h2
     have hno:¬HQ f t ss[i]→decide (goodC ⟨cur,f,t,ms,ss,ps⟩)=false:=fun e=>decide_eq_false fun k=>e (k.ss _ (List.getElem_mem h2))
     have hgo:HQ f t ss[i]→∀(j:Nat) (h:j<ss.length),j<i+1→HQ f t ss[j]:=HL (P:=fun _ x=>HQ f t x) (List.getElem?_eq_getElem h2) hs2
     generalize ss[i]=x at *
     unfold HQ at hno hgo
     simp -implicitDefEqProofs -proj only [go_sem,seval,decide_eq_true (show (i:Int)<ss.length by omega)]
     refine Ah _ (by omega) hel ?_
     simp -implicitDefEqProofs -proj only [go_sem,seval]
     refine AK (fun b4 hb4=>?_)
     replace hb4:Ab [(b1,Blk.box 26 [.d (.str cur),i64 f,i64 t,.d (.sl 5 (EK ms)),.d (.sl 3 (EL ss)),.d (.sl 9 (Ak ps))])] b4=none:=hb4
     obtain ⟨n1,n2⟩:=AI hb4 k1
     simp -implicitDefEqProofs -proj only [go_sem,seval,n1,n2]
     by_cases c1:0≤x.a∧x.a≤1000000000000
     rotate_left
     ·refine AJ (EW c1) ?_
      simp -implicitDefEqProofs -proj only [go_sem,seval]
      exact AH (by rw [hno (fun k=>c1 k.1)])
     refine AJ (EP c1) ?_
     simp -implicitDefEqProofs -proj only [go_sem,seval,n1,n2,k1]
     refine AJ Og ?_
     by_cases c2:f≤x.f∧x.f≤x.t∧x.t≤t
     rotate_left
     ·simp -implicitDefEqProofs -proj only [go_sem,seval,n1,n2,decide_eq_false c2]
      exact AH (by rw [hno (fun k=>c2 k.2)])
     simp -implicitDefEqProofs -proj only [go_sem,seval,n1,n2,decide_eq_true c2]
     refine Ad (i+1) ⟨by omega,hgo ⟨c1,c2⟩⟩ (by show ss.length-(i+1)<ss.length-i; omega) rfl ?_ (An hb4 hk)
     simp -implicitDefEqProofs -proj only [go_sem,seval,AM,AP (show i<9223372036854775807 by omega)]
    ·have hi3:i=ss.length:=by omega
     subst hi3
     simp -implicitDefEqProofs -proj only [go_sem,seval,k1,El,decide_eq_false (show ¬(ss.length:Int)<ss.length by omega)]
     refine D9 (fun i:Nat=>i≤ps.length∧∀(j:Nat) (h:j<ps.length),j<i→F6 f t ms.length ps[j]) 120 (fun i=>[(1,.ptr b1 0),(109,.d (.sl 9 (Ak ps))),(110,i64 ps.length),(111,i64 i)]) (fun _=>[(b1,.box 26 [.d (.str cur),i64 f,i64 t,.d (.sl 5 (EK ms)),.d (.sl 3 (EL ss)),.d (.sl 9 (Ak ps))])]) (fun i=>ps.length-i) 0 ⟨Nat.zero_le _,fun j _ h=>absurd h (Nat.not_lt_zero _)⟩ rfl ?_ ?_ ?_
     ·simp -implicitDefEqProofs -proj only [go_sem,seval,AM]
     ·exact hk
     ·rintro i ⟨hi4,hs4⟩
      by_cases h4:i<ps.length
      ·have hel:=IW h4
       have hno:¬F6 f t ms.length ps[i]→decide (goodC ⟨cur,f,t,ms,ss,ps⟩)=false:=fun e=>decide_eq_false fun k=>e (k.ps _ (List.getElem_mem h4))
       have hgo:F6 f t ms.length ps[i]→∀(j:Nat) (h:j<ps.length),j<i+1→F6 f t ms.length ps[j]:=HL (P:=fun _ x=>F6 f t ms.length x) (List.getElem?_eq_getElem h4) hs4
       generalize ps[i]=x at *
       have hcall:=ANM (cur:=cur) (f:=f) (t:=t) (ms:=EK ms) (ss:=EL ss) (ps:=Ak ps) (x:=x)
       rw [E2] at hcall
       simp -implicitDefEqProofs -proj only [go_sem,seval,decide_eq_true (show (i:Int)<ps.length by omega)]
       refine Ah _ (by omega) hel ?_
       simp -implicitDefEqProofs -proj only [go_sem,seval]
       refine AK (fun b4 hb4=>?_)
       replace hb4:Ab [(b1,Blk.box 26 [.d (.str cur),i64 f,i64 t,.d (.sl 5 (EK ms)),.d (.sl 3 (EL ss)),.d (.sl 9 (Ak ps))])] b4=none:=hb4
       obtain ⟨n1,n2⟩:=AI hb4 k1
       simp -implicitDefEqProofs -proj only [go_sem,seval,n1,n2,k1]
       refine AJ hcall ?_
       by_cases c1:F6 f t ms.length x
       rotate_left
       ·simp -implicitDefEqProofs -proj only [go_sem,seval,decide_eq_false c1]
        exact AH (by rw [hno c1])
       simp -implicitDefEqProofs -proj only [go_sem,seval,n1,n2,decide_eq_true c1]
       refine Ad (i+1) ⟨by omega,hgo c1⟩ (by show ps.length-(i+1)<ps.length-i; omega) rfl ?_ (An hb4 hk)
       simp -implicitDefEqProofs -proj only [go_sem,seval,AM,AP (show i<9223372036854775807 by omega)]
      ·have hi5:i=ps.length:=by omega
       subst hi5
       have hfin:goodC ⟨cur,f,t,ms,ss,ps⟩:=⟨hhd,fun j h=>hs j h h,fun s hm=>by obtain ⟨j,hj,rfl⟩:=List.getElem_of_mem hm; exact hs2 j hj hj,fun s hm=>by obtain ⟨j,hj,rfl⟩:=List.getElem_of_mem hm; exact hs4 j hj hj⟩
       simp -implicitDefEqProofs -proj only [go_sem,seval,decide_eq_false (show ¬(ps.length:Int)<ps.length by omega)]
       exact AH (by rw [decide_eq_true hfin])
structure TStep where
 f:Int
 t:Int
 r:Int
abbrev TStep.av (s:TStep):AV:=.agg [i64 s.f,i64 s.t,i64 s.r]
def TStep.el (s:TStep):List D:=[.int .i64 s.f,.int .i64 s.t,.int .i64 s.r]
def D6 (l:List TStep):List (List D):=l.map TStep.el
theorem HY {l:List TStep}:(D6 l).length=l.length:=List.length_map ..
abbrev QU (l:List TStep):AV:=.d (.sl 3 (D6 l))
abbrev Fa (l:List TStep):List (List AV):=l.map fun s=>[s.av]
def JE (T:List Tier) (q:Int) (i:Nat) (t:Tier):Int:=if i+1<T.length then min q t.u else q
def E1 (T:List Tier) (q:Int):Nat→Int×List TStep
 | 0=>(0,[])
 | i+1=>match T[i]? with
  | some t=>(max (E1 T q i).1 (JE T q i t),if (E1 T q i).1<JE T q i t then (E1 T q i).2++[⟨(E1 T q i).1,JE T q i t,t.r⟩] else (E1 T q i).2)
  | none=>E1 T q i
def Jh (T:List Tier) (q:Int):List TStep:=(E1 T q T.length).2
theorem TH {T:List Tier} {q:Int}:∀(n i:Nat),∃rest,(E1 T q (i+n)).2=(E1 T q i).2++rest
 | 0,i=>⟨[],by simp⟩
 | n+1,i=>by
  obtain ⟨rest,h⟩:=TH (T:=T) (q:=q) n i
  rw [←Nat.add_assoc,E1]
  split
  ·simp -implicitDefEqProofs only []
   split
   ·exact ⟨rest++[_],by rw [h,List.append_assoc]⟩
   ·exact ⟨rest,h⟩
  ·exact ⟨rest,h⟩
theorem AJV {T:List Tier} {q:Int} {i:Nat} (h:i≤T.length):∃rest,Jh T q=(E1 T q i).2++rest:=by
 obtain ⟨rest,hr⟩:=TH (T:=T) (q:=q) (T.length-i) i
 exact ⟨rest,by rw [←hr,Jh]; congr 2; omega⟩
theorem WV {x:PartX} {q:Int} (hx:x.Fit) (hq:Fit q) (ha:0≤x.al) (hb:1≤x.bl):DataW Tryz.prog ANY [GA x,i64 q] (if q<0 then .tup [i64 0,bv false] else FX (Ed (max (q-x.al) 0) x.bl 1*x.bl)):=by
 refine AX ACR (by simp) ?_
 simp -implicitDefEqProofs -proj only [go_sem,seval]
 refine AK (fun b2 hb2=>?_)
 by_cases h:q<0
 ·rw [if_pos h]
  simp -implicitDefEqProofs -proj only [go_sem,seval,decide_eq_true h]
  exact AH rfl
 ·rw [if_neg h]
  have hal:=hx.al
  unfold Fit at hal hq
  have hw:IntKind.i64.wrap (q-x.al)=q-x.al:=by rw [IntKind.wrap_i64]; omega
  have hup:=AOM (a:=max (q-x.al) 0) (c:=x.bl) (by unfold Fit; omega) hx.bl
  rw [NS,if_pos (by omega)] at hup
  simp -implicitDefEqProofs -proj only [go_sem,seval,decide_eq_false h,decide_eq_false (show ¬x.al<0 by omega),decide_eq_false (show ¬x.bl<1 by omega),hw]
  refine AJ hup ?_
  unfold FX
  simp -implicitDefEqProofs -proj only [go_sem,seval]
  exact AH rfl
theorem ADt {b2 b3:Nat} {T:List Tier} {q:Int} (hl:T.length≤1000000):Ii Tryz.prog Ta [.ptr b2 0,.ptr b3 0] [(b2,.box 37 [EM T]),(b3,.box 3 [i64 q])] (Fa (Jh T q)):=by
 intro y H J X hA hS hY h0
 refine AX AR3 (by simp) ?_
 have hb:=(hA [] H h0).1
 simp -implicitDefEqProofs -proj only [go_sem,seval,hb,Ep]
 refine LM (fun x:Nat×Heap=>x.1≤T.length∧J (Fa (E1 T q x.1).2) x.2) (fun x=>⟨42,Et [(0,.yld y),(1,.ptr b2 0),(2,.ptr b3 0),(8,EM T),(9,i64 T.length),(10,i64 x.1),(4,i64 (E1 T q x.1).1)],x.2⟩) (fun x=>T.length-x.1) (0,H) ⟨Nat.zero_le _,h0⟩ (HS rfl ?_ (fun k=>.inr rfl)) ?_
 ·simp -implicitDefEqProofs -proj only [go_sem,seval,AM,E1]
 rintro ⟨i,H1⟩ ⟨hi,hj⟩
 simp -implicitDefEqProofs only [] at hi hj
 obtain ⟨h2,h3,_⟩:=hA _ _ hj
 by_cases h:i<T.length
 ·have hel:=IU h
  have hg:E1 T q (i+1)=(max (E1 T q i).1 (JE T q i T[i]),if (E1 T q i).1<JE T q i T[i] then (E1 T q i).2++[⟨(E1 T q i).1,JE T q i T[i],T[i].r⟩] else (E1 T q i).2):=by rw [E1,List.getElem?_eq_getElem h]
  obtain ⟨rest,hrest⟩:=AJV (q:=q) (show i+1≤T.length by omega)
  have hwl:IntKind.i64.wrap ((T.length:Int)-1)=(T.length:Int)-1:=by rw [IntKind.wrap_i64]; omega
  generalize hN:E1 T q (i+1)=N at *
  generalize E1 T q i=Gi at *
  obtain ⟨fr,out⟩:=Gi
  simp -implicitDefEqProofs only [] at hg hj
  generalize T[i]=t at *
  have htt:JE T q i t=if i+1<T.length then min q t.u else q:=rfl
  simp -implicitDefEqProofs -proj only [go_sem,seval,decide_eq_true (show (i:Int)<T.length by omega)]
  refine Ah _ (by omega) hel ?_
  simp -implicitDefEqProofs -proj only [go_sem,seval]
  refine AK (fun b6 hb6=>?_)
  replace hb6:H1 b6=none:=hb6
  obtain ⟨m1,m2⟩:=AI hb6 h2
  obtain ⟨m3,m4⟩:=AI hb6 h3
  have hj':=fun v=>hS _ _ b6 v hj hb6
  by_cases hm:i+1<T.length
  ·rw [if_pos hm] at htt
   rw [htt] at hg
   simp -implicitDefEqProofs -proj only [go_sem,seval,m1,m3,h2,h3,Ep,hwl,decide_eq_true (show (i:Int)<(T.length:Int)-1 by omega)]
   by_cases hto:fr<min q t.u
   ·rw [if_pos hto] at hg
    subst hg
    have hxs:Fa (Jh T q)=Fa out++[(TStep.mk fr (min q t.u) t.r).av]::Fa rest:=by rw [hrest]; simp [Fa]
    simp -implicitDefEqProofs -proj only [go_sem,seval,m1,m3,h2,h3,decide_eq_true hto]
    refine KS (hY _ _ _ _ hxs (hj' _)) ?_
    rintro v H2 (⟨rfl,hj2⟩ | ⟨rfl,hx⟩)
    ·simp -implicitDefEqProofs -proj only [go_sem,seval]
     refine KO (i+1,H2) ⟨by show i+1≤T.length; omega,?_⟩ (by show T.length-(i+1)<T.length-i; omega) (HS rfl ?_ (fun k=>.inr rfl))
     ·show J (Fa (E1 T q (i+1)).2) H2
      rw [hN]
      simpa [Fa] using hj2
     ·simp -implicitDefEqProofs -proj only [go_sem,seval,AM,AP (show i<9223372036854775807 by omega),hN]
    ·simp -implicitDefEqProofs -proj only [go_sem,seval]
     exact .inr hx
   ·rw [if_neg hto] at hg
    subst hg
    simp -implicitDefEqProofs -proj only [go_sem,seval,m1,m3,h2,h3,decide_eq_false hto]
    refine KO (i+1,_) ⟨by show i+1≤T.length; omega,?_⟩ (by show T.length-(i+1)<T.length-i; omega) (HS rfl ?_ (fun k=>.inr rfl))
    ·show J (Fa (E1 T q (i+1)).2) _
     rw [hN]
     exact hj' _
    ·simp -implicitDefEqProofs -proj only [go_sem,seval,AM,AP (show i<9223372036854775807 by omega),hN]
  ·rw [if_neg hm] at htt
   rw [htt] at hg
   simp -implicitDefEqProofs -proj only [go_sem,seval,m1,m3,h2,h3,Ep,hwl,decide_eq_false (show ¬(i:Int)<(T.length:Int)-1 by omega)]
   by_cases hto:fr<q
   ·rw [if_pos hto] at hg
    subst hg
    have hxs:Fa (Jh T q)=Fa out++[(TStep.mk fr q t.r).av]::Fa rest:=by rw [hrest]; simp [Fa]
    simp -implicitDefEqProofs -proj only [go_sem,seval,m1,m3,h2,h3,decide_eq_true hto]
    refine KS (hY _ _ _ _ hxs (hj' _)) ?_
    rintro v H2 (⟨rfl,hj2⟩ | ⟨rfl,hx⟩)
    ·simp -implicitDefEqProofs -proj only [go_sem,seval]
     refine KO (i+1,H2) ⟨by show i+1≤T.length; omega,?_⟩ (by show T.length-(i+1)<T.length-i; omega) (HS rfl ?_ (fun k=>.inr rfl))
     ·show J (Fa (E1 T q (i+1)).2) H2
      rw [hN]
      simpa [Fa] using hj2
     ·simp -implicitDefEqProofs -proj only [go_sem,seval,AM,AP (show i<9223372036854775807 by omega),hN]
    ·simp -implicitDefEqProofs -proj only [go_sem,seval]
     exact .inr hx
   ·rw [if_neg hto] at hg
    subst hg
    simp -implicitDefEqProofs -proj only [go_sem,seval,m1,m3,h2,h3,decide_eq_false hto]
    refine KO (i+1,_) ⟨by show i+1≤T.length; omega,?_⟩ (by show T.length-(i+1)<T.length-i; omega) (HS rfl ?_ (fun k=>.inr rfl))
    ·show J (Fa (E1 T q (i+1)).2) _
     rw [hN]
     exact hj' _
    ·simp -implicitDefEqProofs -proj only [go_sem,seval,AM,AP (show i<9223372036854775807 by omega),hN]
 ·have hi':i=T.length:=by omega
  subst hi'
  simp -implicitDefEqProofs -proj only [go_sem,seval,decide_eq_false (show ¬(T.length:Int)<T.length by omega)]
  exact .inl hj
def Gv (T:List Tier) (q:Int):Nat→List TStep
 | 0=>[]
 | n+1=>match T[T.length-(n+1)]? with
  | some t=>if n=0∨q≤t.u then (if 0<q then [⟨0,q,t.r⟩] else []) else Gv T q n
  | none=>[]
def IG (T:List Tier) (q:Int):List TStep:=Gv T q T.length
theorem AMx {b2 b3:Nat} {T:List Tier} {q:Int} (hl:T.length≤1000000):Ii Tryz.prog QW [.ptr b2 0,.ptr b3 0] [(b2,.box 37 [EM T]),(b3,.box 3 [i64 q])] (Fa (IG T q)):=by
 intro y H J X hA hS hY h0
 refine AX AUz (by simp) ?_
 have hb:=(hA [] H h0).1
 simp -implicitDefEqProofs -proj only [go_sem,seval,hb,Ep]
 refine LM (fun x:Nat×Heap=>x.1≤T.length∧IG T q=Gv T q (T.length-x.1)∧J [] x.2) (fun x=>⟨33,Et [(0,.yld y),(1,.ptr b2 0),(2,.ptr b3 0),(6,EM T),(7,i64 T.length),(8,i64 x.1)],x.2⟩) (fun x=>T.length-x.1) (0,H) ⟨Nat.zero_le _,rfl,h0⟩ (HS rfl ?_ (fun k=>.inr rfl)) ?_
 ·simp -implicitDefEqProofs -proj only [go_sem,seval,AM]
 rintro ⟨i,H1⟩ ⟨hi,hv,hj⟩
 simp -implicitDefEqProofs only [] at hi hj hv
 obtain ⟨h2,h3,_⟩:=hA _ _ hj
 by_cases h:i<T.length
 ·have hel:=IU h
  obtain ⟨n,hn⟩:∃n,T.length-i=n+1:=⟨T.length-i-1,by omega⟩
  have hg:Gv T q (n+1)=if n=0∨q≤T[i].u then (if 0<q then [⟨0,q,T[i].r⟩] else []) else Gv T q n:=by
   rw [Gv,show T.length-(n+1)=i by omega,List.getElem?_eq_getElem h]
  rw [hn,hg] at hv
  have hwl:IntKind.i64.wrap ((T.length:Int)-1)=(T.length:Int)-1:=by rw [IntKind.wrap_i64]; omega
  generalize T[i]=t at *
  simp -implicitDefEqProofs -proj only [go_sem,seval,decide_eq_true (show (i:Int)<T.length by omega)]
  refine Ah _ (by omega) hel ?_
  simp -implicitDefEqProofs -proj only [go_sem,seval]
  refine AK (fun b5 hb5=>?_)
  replace hb5:H1 b5=none:=hb5
  obtain ⟨m1,m2⟩:=AI hb5 h2
  obtain ⟨m3,m4⟩:=AI hb5 h3
  have hj':=fun v=>hS _ _ b5 v hj hb5
  by_cases hn0:n=0
  ·rw [if_pos (.inl hn0)] at hv
   simp -implicitDefEqProofs -proj only [go_sem,seval,m1,m3,h2,h3,Ep,hwl,decide_eq_true (show (i:Int)=(T.length:Int)-1 by omega)]
   by_cases hq:0<q
   ·rw [if_pos hq] at hv
    have hxs:Fa (IG T q)=[]++[(TStep.mk 0 q t.r).av]::[]:=by rw [hv]; rfl
    simp -implicitDefEqProofs -proj only [go_sem,seval,m1,m3,h2,h3,decide_eq_true hq]
    refine KS (hY _ _ _ _ hxs (hj' _)) ?_
    rintro v H2 (⟨rfl,hj2⟩ | ⟨rfl,hx⟩)
    ·simp -implicitDefEqProofs -proj only [go_sem,seval]
     rw [hxs]
     exact .inl hj2
    ·simp -implicitDefEqProofs -proj only [go_sem,seval]
     exact .inr hx
   ·rw [if_neg hq] at hv
    simp -implicitDefEqProofs -proj only [go_sem,seval,m1,m3,h2,h3,decide_eq_false hq]
    rw [show Fa (IG T q)=[] by rw [hv]; rfl]
    exact .inl (hj' _)
  ·by_cases hu:q≤t.u
   ·rw [if_pos (.inr hu)] at hv
    simp -implicitDefEqProofs -proj only [go_sem,seval,m1,m3,h2,h3,Ep,hwl,decide_eq_false (show ¬(i:Int)=(T.length:Int)-1 by omega),decide_eq_true hu]
    by_cases hq:0<q
    ·rw [if_pos hq] at hv
     have hxs:Fa (IG T q)=[]++[(TStep.mk 0 q t.r).av]::[]:=by rw [hv]; rfl
     simp -implicitDefEqProofs -proj only [go_sem,seval,m1,m3,h2,h3,decide_eq_true hq]
     refine KS (hY _ _ _ _ hxs (hj' _)) ?_
     rintro v H2 (⟨rfl,hj2⟩ | ⟨rfl,hx⟩)
     ·simp -implicitDefEqProofs -proj only [go_sem,seval]
      rw [hxs]
      exact .inl hj2
     ·simp -implicitDefEqProofs -proj only [go_sem,seval]
      exact .inr hx
    ·rw [if_neg hq] at hv
     simp -implicitDefEqProofs -proj only [go_sem,seval,m1,m3,h2,h3,decide_eq_false hq]
     rw [show Fa (IG T q)=[] by rw [hv]; rfl]
     exact .inl (hj' _)
   ·rw [if_neg (by omega)] at hv
    simp -implicitDefEqProofs -proj only [go_sem,seval,m1,m3,h2,h3,Ep,hwl,decide_eq_false (show ¬(i:Int)=(T.length:Int)-1 by omega),decide_eq_false hu]
    refine KO (i+1,_) ⟨by show i+1≤T.length; omega,by rw [hv]; congr 1; show n=T.length-(i+1); omega,hj' _⟩ (by show T.length-(i+1)<T.length-i; omega) (HS rfl ?_ (fun k=>.inr rfl))
    simp -implicitDefEqProofs -proj only [go_sem,seval,AM,AP (show i<9223372036854775807 by omega)]
 ·have hi':i=T.length:=by omega
  subst hi'
  rw [Nat.sub_self] at hv
  simp -implicitDefEqProofs -proj only [go_sem,seval,decide_eq_false (show ¬(T.length:Int)<T.length by omega)]
  rw [show Fa (IG T q)=[] by rw [hv]; rfl]
  exact .inl hj
def Gu (x:PartX) (q:Int):List TStep:=if x.ki=2 then IG x.ts q else Jh x.ts q
def LI (b2 b3:Nat) (T:List Tier) (q:Int):List (Nat×Blk):=[(b2,.box 37 [EM T]),(b3,.box 3 [i64 q])]
theorem ADu {H:Heap} {T:List Tier} {q:Int}:CallW Tryz.prog AKM [EM T,i64 q] H fun r H'=>∃b2 b3,r = .fn QW [.ptr b2 0,.ptr b3 0]∧AS H' (LI b2 b3 T q)∧(∀k v,H k=some v→H' k=some v)∧(H b2=none∧H b3=none∧¬b2=b3):=by
 refine AX ACP (by simp) ?_
 simp -implicitDefEqProofs -proj only [go_sem,seval]
 refine AK (fun b2 hb2=>?_)
 simp -implicitDefEqProofs -proj only [go_sem,seval]
 refine AK (fun b3 hb3=>?_)
 replace hb2:H b2=none:=hb2
 replace hb3:upd H b2 _ b3=none:=hb3
 obtain ⟨n1,n2⟩:=AI hb3 upd_eq
 have hb3':H b3=none:=by rw [AE n2] at hb3; exact hb3
 simp -implicitDefEqProofs -proj only [go_sem,seval,n1,n2]
 refine ⟨b2,b3,rfl,⟨by rw [AE n1,upd_eq],upd_eq,trivial⟩,fun k v hk=>?_,hb2,hb3',n2⟩
 rw [if_neg (AI hb3' hk).1,if_neg (AI hb2 hk).1,hk]
theorem AQW {H:Heap} {T:List Tier} {q:Int}:CallW Tryz.prog AJk [EM T,i64 q] H fun r H'=>∃b2 b3,r = .fn Ta [.ptr b2 0,.ptr b3 0]∧AS H' (LI b2 b3 T q)∧(∀k v,H k=some v→H' k=some v)∧(H b2=none∧H b3=none∧¬b2=b3):=by
 refine AX AEX (by simp) ?_
 simp -implicitDefEqProofs -proj only [go_sem,seval]
 refine AK (fun b2 hb2=>?_)
 simp -implicitDefEqProofs -proj only [go_sem,seval]
 refine AK (fun b3 hb3=>?_)
 replace hb2:H b2=none:=hb2
 replace hb3:upd H b2 _ b3=none:=hb3
 obtain ⟨n1,n2⟩:=AI hb3 upd_eq
 have hb3':H b3=none:=by rw [AE n2] at hb3; exact hb3
 simp -implicitDefEqProofs -proj only [go_sem,seval,n1,n2]
 refine ⟨b2,b3,rfl,⟨by rw [AE n1,upd_eq],upd_eq,trivial⟩,fun k v hk=>?_,hb2,hb3',n2⟩
 rw [if_neg (AI hb3' hk).1,if_neg (AI hb2 hk).1,hk]
theorem AM4 {H:Heap} {x:PartX} {q:Int} (hl:x.ts.length≤1000000):CallW Tryz.prog Yp [GA x,i64 q] H fun r H'=>∃f b2 b3,r = .fn f [.ptr b2 0,.ptr b3 0]∧Ii Tryz.prog f [.ptr b2 0,.ptr b3 0] (LI b2 b3 x.ts q) (Fa (Gu x q))∧AS H' (LI b2 b3 x.ts q)∧(∀k v,H k=some v→H' k=some v)∧(H b2=none∧H b3=none∧¬b2=b3):=by
 have up:∀{b0 b:Nat} {v:Blk},upd H b0 (some v) b=none→H b=none:=fun {b0 b v} h=>by
  rw [AR] at h
  split at h
  ·cases h
  ·exact h
 refine AX AHE (by simp) ?_
 simp -implicitDefEqProofs -proj only [go_sem,seval]
 refine AK (fun b0 hb0=>?_)
 replace hb0:H b0=none:=hb0
 by_cases hk:x.ki=2
 ·simp -implicitDefEqProofs -proj only [go_sem,seval,decide_eq_true hk]
  refine En ADu ?_
  rintro r H' ⟨b2,b3,rfl,h1,h2,h3,h4,h5⟩
  simp -implicitDefEqProofs -proj only [go_sem,seval]
  refine ⟨_,b2,b3,rfl,?_,h1,fun k v hk=>h2 k v ((AE (AI hb0 hk).1).trans hk),up h3,up h4,h5⟩
  rw [Gu,if_pos hk]
  exact AMx hl
 ·simp -implicitDefEqProofs -proj only [go_sem,seval,decide_eq_false hk]
  refine En AQW ?_
  rintro r H' ⟨b2,b3,rfl,h1,h2,h3,h4,h5⟩
  simp -implicitDefEqProofs -proj only [go_sem,seval]
  refine ⟨_,b2,b3,rfl,?_,h1,fun k v hk=>h2 k v ((AE (AI hb0 hk).1).trans hk),up h3,up h4,h5⟩
  rw [Gu,if_neg hk]
  exact ADt hl
def JV (s:TStep) (a:Int):Option Int:=if Fit (s.r*(s.t-s.f))∧Fit (a+s.r*(s.t-s.f)) then some (a+s.r*(s.t-s.f)) else none
def GF:List TStep→Int→Option Int
 | [],a=>some a
 | s::l,a=>match JV s a with
  | some b=>GF l b
  | none=>none
def L8 (s:TStep):Prop:=Fit s.f∧Fit s.t∧Fit s.r∧Fit (s.t-s.f)
structure MicX where
 a:Int
theorem KR {a:Int}:(MicX.mk a).a=a:=(rfl)
theorem R9 {l r:List TStep} {a b:Int} (h:GF l a=some b):GF (l++r) a=GF r b:=by
 induction l generalizing a with
 | nil=>cases h; rfl
 | cons s l ih =>
  simp -implicitDefEqProofs only [List.cons_append,GF] at h ⊢
  cases hs:JV s a with
  | none=>rw [hs] at h; cases h
  | some c=>rw [hs] at h; exact ih h
theorem SX {l:List TStep} {a b:Int} (h:GF l a=some b) (ha:Fit a):Fit b:=by
 induction l generalizing a with
 | nil=>cases h; exact ha
 | cons s l ih =>
  simp -implicitDefEqProofs only [GF] at h
  cases hs:JV s a with
  | none=>rw [hs] at h; cases h
  | some c =>
   rw [hs] at h
   refine ih h ?_
   unfold JV at hs
   split at hs
   ·next hc=>cases hs; exact hc.2
   ·cases hs
def JW (b4 b5 b8 c2 c3:Nat) (T:List Tier) (L:Int) (y:MicX):List (Nat×Blk):=[(b4,.box 3 [i64 0]),(b5,.box 4 [bv false]),(b8,.box 3 [i64 y.a]),(c2,.box 37 [EM T]),(c3,.box 3 [i64 L])]
def Iv (x:PartX) (q:Int):Option Int:=if q<0 then none else if Fit (Ed (max (q-x.al) 0) x.bl 1*x.bl) then GF (Gu x (Ed (max (q-x.al) 0) x.bl 1*x.bl)) 0 else none
set_option maxRecDepth 20000 in
theorem ABr {x:PartX} {q:Int} (hx:x.Fit) (hq:Fit q) (ha:0≤x.al) (hb:1≤x.bl) (hl:x.ts.length≤1000000) (hs:∀n,Fit n→∀s∈Gu x n,L8 s):DataW Tryz.prog AFi [GA x,i64 q] (D7 (Iv x q)):=by
 have hquant:=WV hx hq ha hb
 unfold Iv
 generalize hL:Ed (max (q-x.al) 0) x.bl 1*x.bl=L at *
 refine AX AEM (by simp) ?_
 simp -implicitDefEqProofs -proj only [go_sem,seval]
 refine AK (fun b2 hb2=>?_)
 simp -implicitDefEqProofs -proj only [go_sem,seval]
 refine AK (fun b4 hb4=>?_)
 replace hb4:upd Heap.none b2 _ b4=none:=hb4
 obtain ⟨n1,n2⟩:=AI hb4 upd_eq
 simp -implicitDefEqProofs -proj only [go_sem,seval]
 refine AK (fun b5 hb5=>?_)
 replace hb5:upd (upd Heap.none b2 _) b4 _ b5=none:=hb5
 obtain ⟨n3,n4⟩:=AI hb5 upd_eq
 obtain ⟨n5,n6⟩:=AI hb5 (by rw [AE n1]; exact upd_eq)
 simp -implicitDefEqProofs -proj only [go_sem,seval,n1,n2,n3,n4,n5,n6]
 refine AJ hquant ?_
 by_cases h:q<0
 ·rw [if_pos h,if_pos h]
  simp -implicitDefEqProofs -proj only [go_sem,seval,n1,n2,n3,n4,n5,n6]
  exact AH rfl
 rw [if_neg h,if_neg h]
 by_cases hf:Fit L
 rotate_left
 ·rw [if_neg hf,HN hf]
  simp -implicitDefEqProofs -proj only [go_sem,seval,n1,n2,n3,n4,n5,n6]
  exact AH rfl
 rw [if_pos hf,GI hf]
 have hst:=hs L hf
 simp -implicitDefEqProofs -proj only [go_sem,seval,n1,n2,n3,n4,n5,n6]
 refine AK (fun b8 hb8=>?_)
 replace hb8:upd (upd (upd Heap.none b2 _) b4 _) b5 _ b8=none:=hb8
 obtain ⟨n7,n8⟩:=AI hb8 upd_eq
 obtain ⟨n9,n10⟩:=AI hb8 (by rw [AE n3]; exact upd_eq)
 obtain ⟨n11,n12⟩:=AI hb8 (by rw [AE n5,AE n1]; exact upd_eq)
 simp -implicitDefEqProofs -proj only [go_sem,seval,n1,n2,n3,n4,n5,n6,n7,n8,n9,n10,n11,n12]
 refine En (AM4 hl) ?_
 rintro r H6 ⟨f,c2,c3,rfl,hit,hbl,hkeep,hc2,hc3,hc23⟩
 obtain ⟨H5,hH5⟩:∃H5,upd (upd (upd (upd Heap.none b2 (some (.box 40 [i64 x.me,i64 x.f,i64 x.t,i64 x.al,i64 x.bl,i64 x.ki,EM x.ts,i64 x.mo,ET x.ad]))) b4 (some (.box 3 [i64 0]))) b5 (some (.box 4 [bv false]))) b8 (some (.box 3 [i64 0]))=H5:=⟨_,rfl⟩
 have k4:H5 b4=some (.box 3 [i64 0]):=by rw [←hH5,AE n9,AE n3,upd_eq]
 have k5:H5 b5=some (.box 4 [bv false]):=by rw [←hH5,AE n7,upd_eq]
 have k8:H5 b8=some (.box 3 [i64 0]):=by rw [←hH5,upd_eq]
 replace hkeep:∀k v,H5 k=some v→H6 k=some v:=by rw [←hH5]; exact hkeep
 replace hc2:H5 c2=none:=by rw [←hH5]; exact hc2
 replace hc3:H5 c3=none:=by rw [←hH5]; exact hc3
 have d1:=(AI hc2 k4).2
 have d2:=(AI hc2 k5).2
 have d3:=(AI hc2 k8).2
 have d4:=(AI hc3 k4).2
 have d5:=(AI hc3 k5).2
 have d6:=(AI hc3 k8).2
 have hnd:∀y,(AT (JW b4 b5 b8 c2 c3 x.ts L y)).Nodup:=by
  intro y
  simp [AT,JW,d1,d2,d3,d4,d5,d6,n4,n8,n10,hc23]
 have hall0:AS H6 (JW b4 b5 b8 c2 c3 x.ts L ⟨0⟩):=⟨hkeep _ _ k4,hkeep _ _ k5,hkeep _ _ k8,hbl.1,hbl.2.1,trivial⟩
 obtain ⟨S,hS⟩:∃S,Gu x L=S:=⟨_,rfl⟩
 rw [hS] at hst hit ⊢
 simp -implicitDefEqProofs -proj only [go_sem,seval]
 refine O2 [(4,.ptr b4 0),(5,.ptr b5 0),(8,.ptr b8 0)] (fun pre y=>GF (S.take pre.length) 0=some y.a) (JW b4 b5 b8 c2 c3 x.ts L) ⟨0⟩ hit (by simp -implicitDefEqProofs -proj only [go_sem,seval]) rfl (by simp) (by simp -implicitDefEqProofs -proj only [go_sem,seval,AM]) ?_ (by simp [GF]) hall0 ?_ ?_
 ·intro pre y _ p hp
  simp -implicitDefEqProofs only [LI,List.mem_cons,List.not_mem_nil,or_false] at hp
  rcases hp with rfl | rfl <;> simp [JW]
 ·rintro pre v post ⟨a⟩ hxs hI
  simp -implicitDefEqProofs only [KR] at hI
  obtain ⟨hlt,rfl,hpre⟩:=OV hxs
  have hall:=EQ (hnd ⟨a⟩)
  obtain ⟨h4,h5,h8,h9,h10,_⟩:=id hall
  obtain ⟨f1,f2,f3,f4⟩:=hst _ (List.getElem_mem hlt)
  have hfa:Fit a:=SX hI (by decide)
  have hstep:S.take (pre.length+1)=S.take pre.length++[S[pre.length]]:=List.take_succ_eq_append_getElem hlt
  have hsp:S=S.take pre.length++(S[pre.length]::S.drop (pre.length+1)):=by rw [←List.drop_eq_getElem_cons hlt,List.take_append_drop]
  generalize S[pre.length]=s at *
  have hnone:JV s a=none→GF S 0=none:=fun e=>by rw [hsp,R9 hI,GF,e]
  have hsome:∀b,JV s a=some b→GF (S.take (pre.length+1)) 0=some b:=fun b e=>by rw [hstep,R9 hI,GF,e]; rfl
  have hw:IntKind.i64.wrap (s.t-s.f)=s.t-s.f:=by unfold Fit at f4; rw [IntKind.wrap_i64]; omega
  clear hstep hsp hxs hpre
  have hmul:=ADp f3 f4
  obtain ⟨H,hH⟩:∃H,Ab (JW b4 b5 b8 c2 c3 x.ts L ⟨a⟩)=H:=⟨_,rfl⟩
  rw [hH] at hall h4 h5 h8 h9 h10
  simp -implicitDefEqProofs only [KR] at h8
  simp -implicitDefEqProofs -proj only [go_sem,seval,hH]
  refine AK (fun b9 hb9=>?_)
  replace hb9:H b9=none:=hb9
  obtain ⟨p1,p2⟩:=AI hb9 h4
  obtain ⟨p3,p4⟩:=AI hb9 h5
  obtain ⟨p5,p6⟩:=AI hb9 h8
  simp -implicitDefEqProofs -proj only [go_sem,seval,p1,p3,p5,h4,h5,h8,hw]
  refine AJ hmul ?_
  by_cases c1:Fit (s.r*(s.t-s.f))
  ·rw [GI c1]
   have hadd:=Kr hfa c1
   simp -implicitDefEqProofs -proj only [go_sem,seval,p1,p3,p5,h4,h5,h8,hw]
   refine AJ hadd ?_
   by_cases c2':Fit (a+s.r*(s.t-s.f))
   ·rw [GI c2']
    simp -implicitDefEqProofs -proj only [go_sem,seval,p1,p3,p5,h4,h5,h8,hw]
    refine K3 ⟨a+s.r*(s.t-s.f)⟩ (by simp -implicitDefEqProofs only [KR,List.length_append,List.length_singleton]; exact hsome _ (if_pos ⟨c1,c2'⟩)) ?_
    obtain ⟨p7,p8⟩:=AI hb9 h9
    obtain ⟨p9,p10⟩:=AI hb9 h10
    simp -implicitDefEqProofs -proj only [go_sem,seval,AS,JW,KR,p1,p3,p5,p7,p9,n7,n8,n9,n10,d3,d6,h4,h5,h8,h9,h10]
   ·rw [HN c2']
    simp -implicitDefEqProofs -proj only [go_sem,seval,p1,p3,p5,n3,n4,n7,n8,n9,n10,h4,h5,h8,hw]
    rw [hnone (if_neg (fun h=>c2' h.2))]
    exact AH rfl
  ·rw [HN c1]
   have hadd:=Kr (b:=0) hfa (by decide)
   simp -implicitDefEqProofs -proj only [go_sem,seval,p1,p3,p5,h4,h5,h8,hw]
   refine AJ hadd ?_
   rw [GI (by rw [Int.add_zero]; exact hfa)]
   simp -implicitDefEqProofs -proj only [go_sem,seval,p1,p3,p5,n3,n4,n7,n8,n9,n10,h4,h5,h8,hw]
   rw [hnone (if_neg (fun h=>c1 h.1))]
   exact AH rfl
 ·rintro ⟨a⟩ hI
  simp -implicitDefEqProofs only [KR] at hI
  rw [List.length_map,List.take_length] at hI
  have hall:=EQ (hnd ⟨a⟩)
  obtain ⟨h4,h5,h8,h9,h10,_⟩:=id hall
  obtain ⟨H,hH⟩:∃H,Ab (JW b4 b5 b8 c2 c3 x.ts L ⟨a⟩)=H:=⟨_,rfl⟩
  rw [hH] at hall h4 h5 h8 h9 h10
  simp -implicitDefEqProofs only [KR] at h8
  rw [hI]
  simp -implicitDefEqProofs -proj only [go_sem,seval,hH,h4,h5,h8,n3,n4]
  exact AH rfl
theorem Sx {x:PartX} {q n:Int} (h:Iv x q=some n):Fit n:=by
 unfold Iv at h
 split at h
 ·cases h
 ·split at h
  ·exact SX h (by decide)
  ·cases h
def Ih (x:PartX) (q:Int):Option Int:=match Iv x q with
 | some n=>ID n 1000000 x.mo
 | none=>none
theorem ADR {x:PartX} {q:Int} (hx:x.Fit) (hq:Fit q) (ha:0≤x.al) (hb:1≤x.bl) (hl:x.ts.length≤1000000) (hs:∀n,Fit n→∀s∈Gu x n,L8 s):DataW Tryz.prog AQv [GA x,i64 q] (D7 (Ih x q)):=by
 have hm:=ABr hx hq ha hb hl hs
 have hf:=fun n=>@Sx x q n
 unfold Ih
 generalize Iv x q=m at *
 refine AX ATh (by simp) ?_
 simp -implicitDefEqProofs -proj only [go_sem,seval]
 refine AK (fun b2 hb2=>?_)
 simp -implicitDefEqProofs -proj only [go_sem,seval]
 refine AJ hm ?_
 cases m with
 | none =>
  simp -implicitDefEqProofs -proj only [go_sem,seval,D7]
  exact AH rfl
 | some n =>
  have hd:=SJ (m:=x.mo) (hf n rfl) (show Fit 1000000 by decide)
  rw [Mu] at hd
  simp -implicitDefEqProofs -proj only [go_sem,seval,D7]
  refine AJ hd ?_
  generalize ID n 1000000 x.mo=o
  cases o <;> simp -implicitDefEqProofs only [D7]
  ·simp -implicitDefEqProofs -proj only [go_sem,seval]
   exact AH rfl
  ·simp -implicitDefEqProofs -proj only [go_sem,seval]
   exact AH rfl
def Gg (T:List Tier) (i:Nat):Int:=match T[i]? with
 | some t=>t.u
 | none=>0
def I9 (T:List Tier) (i:Nat):Int:=match T[i]? with
 | some t=>t.r
 | none=>0
theorem KH {T:List Tier} {i:Nat} (h:i<T.length):Gg T i=T[i].u:=by simp [Gg,h]
theorem MJ {T:List Tier} {i:Nat} (h:i<T.length):I9 T i=T[i].r:=by simp [I9,h]
def GK (T:List Tier) (i:Nat):Int:=if i=0 then 0 else Gg T (i-1)
def J3 (T:List Tier) (q:Int) (i:Nat):Int:=if i+1<T.length∧Gg T i<q then Gg T i else q
def refN (T:List Tier) (q:Int):Nat→List TStep
 | 0=>[]
 | i+1=>if GK T i<J3 T q i then refN T q i++[⟨GK T i,J3 T q i,I9 T i⟩] else refN T q i
def Nr (T:List Tier) (q:Int):List TStep:=refN T q T.length
structure Srt (T:List Tier):Prop where
 up:∀i,i+1<T.length→GK T i<Gg T i∧Gg T i≤1000000
 low:∀i,i<T.length→0≤GK T i∧GK T i≤1000000
 rate:∀i,i<T.length→0≤I9 T i∧I9 T i≤1000000000000
theorem N1 {T:List Tier} (h:HB T):Srt T:=by
 have h1:∀i,i+1<T.length→1≤Gg T i∧Gg T i≤1000000:=by
  intro i hi
  have hh:=(h i (by omega)).2
  have hne:¬i+1=T.length:=by omega
  rw [KH (by omega)]
  have h2:FV T i=1000000:=if_neg hne
  have h3:1≤FG T i:=by
   unfold FG
   rw [if_neg hne]
   split
   ·split <;> omega
   ·omega
  omega
 have h2:∀i,i<T.length→0≤GK T i∧GK T i≤1000000:=by
  intro i hi
  unfold GK
  split
  ·omega
  ·have:=h1 (i-1) (by omega)
   omega
 refine ⟨fun i hi=>⟨?_,(h1 i hi).2⟩,h2,fun i hi=>?_⟩
 ·unfold GK
  split
  ·have:=h1 i hi; omega
  ·next h0 =>
   have g1:=h1 (i-1) (by omega)
   have hh:=(h i (by omega)).2.1
   rw [KH (by omega)] at g1
   obtain ⟨e1,e2⟩:=Ld (T:=T) (i:=i) (by omega) (by omega) (by omega) g1.1
   rw [e1] at hh
   rw [KH (by omega),KH (by omega)]
   omega
 ·have:=(h i hi).1
  rw [MJ hi]
  exact this
theorem QO {T:List Tier} {q:Int} (hS:Srt T):∀i,i≤T.length→(E1 T q i).2=refN T q i∧(i<T.length→(E1 T q i).1=max 0 (min q (GK T i)))∧(i=T.length→0<i→(E1 T q i).1=max 0 q)
 | 0,_=>⟨rfl,fun _=>by simp [E1,GK]; omega,fun _ h=>absurd h (Nat.lt_irrefl _)⟩
 | i+1,hi=>by
  obtain ⟨g1,g2,_⟩:=QO hS i (by omega) (q:=q)
  have hlt:i<T.length:=by omega
  have hf:=g2 hlt
  have hl:=hS.low i hlt
  have ht:JE T q i T[i]=if i+1<T.length then min q (Gg T i) else q:=by rw [KH hlt]; rfl
  have hlow:GK T (i+1)=Gg T i:=by simp [GK]
  rw [E1,List.getElem?_eq_getElem hlt,refN,MJ hlt]
  simp -implicitDefEqProofs only []
  rw [hf,ht,g1,hlow]
  unfold J3
  by_cases h:i+1<T.length
  ·obtain ⟨u1,u2⟩:=hS.up i h
   rw [if_pos h]
   refine ⟨?_,fun _=>by omega,fun e=>by omega⟩
   by_cases hq:GK T i<q
   ·rw [if_pos (by omega),if_pos (by split <;> omega)]
    congr 3
    ·omega
    ·split <;> omega
   ·rw [if_neg (by omega),if_neg (by split <;> omega)]
  ·rw [if_neg h]
   refine ⟨?_,fun e=>absurd e h,fun _ _=>by omega⟩
   by_cases hq:GK T i<q
   ·rw [if_pos (by omega),if_pos (by split <;> omega)]
    congr 3
    ·omega
    ·split <;> omega
   ·rw [if_neg (by omega),if_neg (by split <;> omega)]
theorem OI {T:List Tier} {q:Int} (hS:Srt T):Jh T q=Nr T q:=(QO hS T.length (Nat.le_refl _)).1
def tot:List TStep→Int
 | []=>0
 | s::l=>s.r*(s.t-s.f)+tot l
theorem Nt {T:List Tier} {q:Int} (hS:Srt T):∀i,i≤T.length→∀s∈refN T q i,0≤s.r∧s.r≤1000000000000∧0≤s.f∧s.f<s.t∧s.t≤q
 | 0,_,s,h=>by cases h
 | i+1,hi,s,h=>by
  rw [refN] at h
  split at h
  ·next hc =>
   rcases List.mem_append.1 h with h | h
   ·exact Nt hS i (by omega) s h
   ·simp -implicitDefEqProofs only [List.mem_singleton] at h
    subst h
    have h1:=hS.rate i (by omega)
    have h2:=hS.low i (by omega)
    refine ⟨h1.1,h1.2,h2.1,hc,?_⟩
    show J3 T q i≤q
    unfold J3
    split <;> omega
  ·exact Nt hS i (by omega) s h
theorem R4 {T:List Tier} {q:Int} (hr:∀i,i<T.length→0≤I9 T i∧I9 T i≤1000000000000):∀n,n≤T.length→∀s∈Gv T q n,0≤s.r∧s.r≤1000000000000∧s.f=0∧0<s.t∧s.t=q
 | 0,_,s,h=>by cases h
 | n+1,hn,s,h=>by
  have hlt:T.length-(n+1)<T.length:=by omega
  rw [Gv,List.getElem?_eq_getElem hlt] at h
  simp -implicitDefEqProofs only [] at h
  split at h
  ·split at h
   ·next hq =>
    simp -implicitDefEqProofs only [List.mem_singleton] at h
    subst h
    have:=hr _ hlt
    rw [MJ hlt] at this
    exact ⟨this.1,this.2,rfl,hq,rfl⟩
   ·cases h
  ·exact R4 hr n (by omega) s h
structure GoodX (x:PartX):Prop where
 al:0≤x.al∧x.al≤1000000
 bl:1≤x.bl∧x.bl≤1000000
 ki:x.ki=1∨x.ki=2
 mo:0≤x.mo∧x.mo≤3
 tn:1≤x.ts.length∧x.ts.length≤8
 an:x.ad.length≤6
 ts:HB x.ts
 ad:Hh x.ad
theorem AVV {x:PartX} {q:Int} (h:Srt x.ts):∀s∈Gu x q,0≤s.r∧s.r≤1000000000000∧0≤s.f∧s.f<s.t∧s.t≤q:=by
 intro s hs
 unfold Gu at hs
 split at hs
 ·obtain ⟨h1,h2,h3,h4,h5⟩:=R4 (h.rate) _ (Nat.le_refl _) s hs
  exact ⟨h1,h2,by omega,by omega,by omega⟩
 ·rw [OI h] at hs
  exact Nt h _ (Nat.le_refl _) s hs
theorem TR {x:PartX} {n:Int} (h:Srt x.ts) (hn:Fit n):∀s∈Gu x n,L8 s:=by
 intro s hs
 have:=AVV h s hs
 unfold Fit at hn
 unfold L8 Fit
 omega
def JU (x:PartX) (q:Int):Int:=Ed (max (q-x.al) 0) x.bl 1*x.bl
section
def Gf (s:Bool) (m:Int):AV:=.agg [bv s,u64 (m / 18446744073709551616),u64 (m % 18446744073709551616)]
def Ee (m:Int):Prop:=0≤m∧m<340282366920938463463374607431768211456
def wide (n:Int):AV:=Gf (n<0) n.natAbs
attribute [local go_sem] Gf wide
theorem wU (n:Int):IntKind.u64.wrap n=n % 18446744073709551616:=IntKind.wrap_u64 n
theorem KQ {s:Bool} {m:Int} (h:Ee m):DataW Tryz.prog AVi [Gf s m] (bv (m=0)):=by
 refine AX AES (by simp) ?_
 simp -implicitDefEqProofs -proj only [go_sem,seval]
 (repeat' first
  | ((with_reducible first | refine EA (fun h=>?_) (fun h=>?_) | refine BJ (fun h=>?_) (fun h=>?_) | refine EC (fun h=>?_) (fun h=>?_)) <;> (simp -implicitDefEqProofs -proj only [go_sem,seval, *]; try (revert h; intro _)))
  | ((with_reducible first | refine AK (fun _ hb=>?_) | refine As (fun _ hb=>?_)); simp only [EB,ED,Aa,Heap.none_get,and_true,true_and] at hb; simp -implicitDefEqProofs -proj only [go_sem,seval, *]; try (revert hb; intro _))
  | ((with_reducible first | refine D5 _ rfl (by simp) ?_ | refine D8 _ rfl (by simp) ?_); simp -implicitDefEqProofs -proj only [go_sem,seval, *])
  | (with_reducible refine Ae ?_ (fun h=>?_); first | ((focus first | decide | omega); try clear h; try simp -implicitDefEqProofs -proj only [go_sem,seval, *]) | (rotate_left; try clear h; try simp -implicitDefEqProofs -proj only [go_sem,seval, *]; rotate_right)))
 all_goals
  refine AH ?_
  simp -implicitDefEqProofs only [decide_eq_true_eq,decide_eq_false_iff_not,Bool.not_eq_true',Bool.not_eq_false',Bool.and_eq_true,Bool.and_eq_false_iff,Bool.or_eq_true,Bool.or_eq_false_iff,beq_iff_eq,beq_eq_false_iff_ne,ne_eq,decide_eq_decide,Bool.not_eq_true,Bool.not_eq_false,wU] at *
  simp -implicitDefEqProofs only [←decide_not,←Bool.decide_and,←Bool.decide_or,Bool.beq_eq_decide_eq,AV.d.injEq,D.bool.injEq,D.int.injEq,D.str.injEq,AV.tup.injEq,AV.agg.injEq,List.cons.injEq,true_and,and_true,decide_eq_decide,true_eq_decide_iff,false_eq_decide_iff,decide_eq_true_eq,decide_eq_false_iff_not,Bool.true_eq,Bool.false_eq]
  unfold Ee at *
  omega
theorem Rt {s s':Bool} {m m':Int} (h:Ee m) (h':Ee m'):DataW Tryz.prog AGy [Gf s m,Gf s' m'] (bv (m<m')):=by
 refine AX V4 (by simp) ?_
 simp -implicitDefEqProofs -proj only [go_sem,seval]
 (repeat' first
  | ((with_reducible first | refine EA (fun h=>?_) (fun h=>?_) | refine BJ (fun h=>?_) (fun h=>?_) | refine EC (fun h=>?_) (fun h=>?_)) <;> (simp -implicitDefEqProofs -proj only [go_sem,seval, *]; try (revert h; intro _)))
  | ((with_reducible first | refine AK (fun _ hb=>?_) | refine As (fun _ hb=>?_)); simp only [EB,ED,Aa,Heap.none_get,and_true,true_and] at hb; simp -implicitDefEqProofs -proj only [go_sem,seval, *]; try (revert hb; intro _))
  | ((with_reducible first | refine D5 _ rfl (by simp) ?_ | refine D8 _ rfl (by simp) ?_); simp -implicitDefEqProofs -proj only [go_sem,seval, *])
  | (with_reducible refine Ae ?_ (fun h=>?_); first | ((focus first | decide | omega); try clear h; try simp -implicitDefEqProofs -proj only [go_sem,seval, *]) | (rotate_left; try clear h; try simp -implicitDefEqProofs -proj only [go_sem,seval, *]; rotate_right)))
 all_goals
  refine AH ?_
  simp -implicitDefEqProofs only [decide_eq_true_eq,decide_eq_false_iff_not,Bool.not_eq_true',Bool.not_eq_false',Bool.and_eq_true,Bool.and_eq_false_iff,Bool.or_eq_true,Bool.or_eq_false_iff,beq_iff_eq,beq_eq_false_iff_ne,ne_eq,decide_eq_decide,Bool.not_eq_true,Bool.not_eq_false,wU] at *
  simp -implicitDefEqProofs only [←decide_not,←Bool.decide_and,←Bool.decide_or,Bool.beq_eq_decide_eq,AV.d.injEq,D.bool.injEq,D.int.injEq,D.str.injEq,AV.tup.injEq,AV.agg.injEq,List.cons.injEq,true_and,and_true,decide_eq_decide,true_eq_decide_iff,false_eq_decide_iff,decide_eq_true_eq,decide_eq_false_iff_not,Bool.true_eq,Bool.false_eq]
  unfold Ee at *
  omega
theorem Ov {s s':Bool} {m m':Int} (h:Ee m) (h':Ee m') (h2:Ee (m+m')):DataW Tryz.prog RB [Gf s m,Gf s' m'] (Gf false (m+m')):=by
 refine AX AET (by simp) ?_
 simp -implicitDefEqProofs -proj only [go_sem,seval]
 (repeat' first
  | ((with_reducible first | refine EA (fun h=>?_) (fun h=>?_) | refine BJ (fun h=>?_) (fun h=>?_) | refine EC (fun h=>?_) (fun h=>?_)) <;> (simp -implicitDefEqProofs -proj only [go_sem,seval, *]; try (revert h; intro _)))
  | ((with_reducible first | refine AK (fun _ hb=>?_) | refine As (fun _ hb=>?_)); simp only [EB,ED,Aa,Heap.none_get,and_true,true_and] at hb; simp -implicitDefEqProofs -proj only [go_sem,seval, *]; try (revert hb; intro _))
  | ((with_reducible first | refine D5 _ rfl (by simp) ?_ | refine D8 _ rfl (by simp) ?_); simp -implicitDefEqProofs -proj only [go_sem,seval, *])
  | (with_reducible refine Ae ?_ (fun h=>?_); first | ((focus first | decide | omega); try clear h; try simp -implicitDefEqProofs -proj only [go_sem,seval, *]) | (rotate_left; try clear h; try simp -implicitDefEqProofs -proj only [go_sem,seval, *]; rotate_right)))
 all_goals
  refine AH ?_
  simp -implicitDefEqProofs only [decide_eq_true_eq,decide_eq_false_iff_not,Bool.not_eq_true',Bool.not_eq_false',Bool.and_eq_true,Bool.and_eq_false_iff,Bool.or_eq_true,Bool.or_eq_false_iff,beq_iff_eq,beq_eq_false_iff_ne,ne_eq,decide_eq_decide,Bool.not_eq_true,Bool.not_eq_false,wU] at *
  simp -implicitDefEqProofs only [←decide_not,←Bool.decide_and,←Bool.decide_or,Bool.beq_eq_decide_eq,AV.d.injEq,D.bool.injEq,D.int.injEq,D.str.injEq,AV.tup.injEq,AV.agg.injEq,List.cons.injEq,true_and,and_true,decide_eq_decide,true_eq_decide_iff,false_eq_decide_iff,decide_eq_true_eq,decide_eq_false_iff_not,Bool.true_eq,Bool.false_eq]
  unfold Ee at *
  omega
theorem Mt {s s':Bool} {m m':Int} (h:Ee m) (h':Ee m') (h2:m'≤m):DataW Tryz.prog AKW [Gf s m,Gf s' m'] (Gf false (m-m')):=by
 refine AX AQm (by simp) ?_
 simp -implicitDefEqProofs -proj only [go_sem,seval]
 (repeat' first
  | ((with_reducible first | refine EA (fun h=>?_) (fun h=>?_) | refine BJ (fun h=>?_) (fun h=>?_) | refine EC (fun h=>?_) (fun h=>?_)) <;> (simp -implicitDefEqProofs -proj only [go_sem,seval, *]; try (revert h; intro _)))
  | ((with_reducible first | refine AK (fun _ hb=>?_) | refine As (fun _ hb=>?_)); simp only [EB,ED,Aa,Heap.none_get,and_true,true_and] at hb; simp -implicitDefEqProofs -proj only [go_sem,seval, *]; try (revert hb; intro _))
  | ((with_reducible first | refine D5 _ rfl (by simp) ?_ | refine D8 _ rfl (by simp) ?_); simp -implicitDefEqProofs -proj only [go_sem,seval, *])
  | (with_reducible refine Ae ?_ (fun h=>?_); first | ((focus first | decide | omega); try clear h; try simp -implicitDefEqProofs -proj only [go_sem,seval, *]) | (rotate_left; try clear h; try simp -implicitDefEqProofs -proj only [go_sem,seval, *]; rotate_right)))
 all_goals
  refine AH ?_
  simp -implicitDefEqProofs only [decide_eq_true_eq,decide_eq_false_iff_not,Bool.not_eq_true',Bool.not_eq_false',Bool.and_eq_true,Bool.and_eq_false_iff,Bool.or_eq_true,Bool.or_eq_false_iff,beq_iff_eq,beq_eq_false_iff_ne,ne_eq,decide_eq_decide,Bool.not_eq_true,Bool.not_eq_false,wU] at *
  simp -implicitDefEqProofs only [←decide_not,←Bool.decide_and,←Bool.decide_or,Bool.beq_eq_decide_eq,AV.d.injEq,D.bool.injEq,D.int.injEq,D.str.injEq,AV.tup.injEq,AV.agg.injEq,List.cons.injEq,true_and,and_true,decide_eq_decide,true_eq_decide_iff,false_eq_decide_iff,decide_eq_true_eq,decide_eq_false_iff_not,Bool.true_eq,Bool.false_eq]
  unfold Ee at *
  omega
theorem Gm {a:Int} (h:Fit a):DataW Tryz.prog AAp [i64 a] (wide a):=by
 refine AX Uy (by simp) ?_
 simp -implicitDefEqProofs -proj only [go_sem,seval]
 (repeat' first
  | ((with_reducible first | refine EA (fun h=>?_) (fun h=>?_) | refine BJ (fun h=>?_) (fun h=>?_) | refine EC (fun h=>?_) (fun h=>?_)) <;> (simp -implicitDefEqProofs -proj only [go_sem,seval, *]; try (revert h; intro _)))
  | ((with_reducible first | refine AK (fun _ hb=>?_) | refine As (fun _ hb=>?_)); simp only [EB,ED,Aa,Heap.none_get,and_true,true_and] at hb; simp -implicitDefEqProofs -proj only [go_sem,seval, *]; try (revert hb; intro _))
  | ((with_reducible first | refine D5 _ rfl (by simp) ?_ | refine D8 _ rfl (by simp) ?_); simp -implicitDefEqProofs -proj only [go_sem,seval, *])
  | (with_reducible refine Ae ?_ (fun h=>?_); first | ((focus first | decide | omega); try clear h; try simp -implicitDefEqProofs -proj only [go_sem,seval, *]) | (rotate_left; try clear h; try simp -implicitDefEqProofs -proj only [go_sem,seval, *]; rotate_right)))
 all_goals
  refine AH ?_
  simp -implicitDefEqProofs only [decide_eq_true_eq,decide_eq_false_iff_not,Bool.not_eq_true',Bool.not_eq_false',Bool.and_eq_true,Bool.and_eq_false_iff,Bool.or_eq_true,Bool.or_eq_false_iff,beq_iff_eq,beq_eq_false_iff_ne,ne_eq,decide_eq_decide,Bool.not_eq_true,Bool.not_eq_false,wU,wI,wide,Gf] at *
  simp -implicitDefEqProofs only [←decide_not,←Bool.decide_and,←Bool.decide_or,Bool.beq_eq_decide_eq,AV.d.injEq,D.bool.injEq,D.int.injEq,D.str.injEq,AV.tup.injEq,AV.agg.injEq,List.cons.injEq,true_and,and_true,decide_eq_decide,true_eq_decide_iff,false_eq_decide_iff,decide_eq_true_eq,decide_eq_false_iff_not,Bool.true_eq,Bool.false_eq]
  unfold Fit at *
  omega
theorem KT {n:Int} (h:Ee n.natAbs):DataW Tryz.prog ASY [wide n] (FX n):=by
 refine AX Zt (by simp) ?_
 simp -implicitDefEqProofs -proj only [go_sem,seval]
 (repeat' first
  | ((with_reducible first | refine EA (fun h=>?_) (fun h=>?_) | refine BJ (fun h=>?_) (fun h=>?_) | refine EC (fun h=>?_) (fun h=>?_)) <;> (simp -implicitDefEqProofs -proj only [go_sem,seval, *]; try (revert h; intro _)))
  | ((with_reducible first | refine AK (fun _ hb=>?_) | refine As (fun _ hb=>?_)); simp only [EB,ED,Aa,Heap.none_get,and_true,true_and] at hb; simp -implicitDefEqProofs -proj only [go_sem,seval, *]; try (revert hb; intro _))
  | ((with_reducible first | refine D5 _ rfl (by simp) ?_ | refine D8 _ rfl (by simp) ?_); simp -implicitDefEqProofs -proj only [go_sem,seval, *])
  | (with_reducible refine Ae ?_ (fun h=>?_); first | ((focus first | decide | omega); try clear h; try simp -implicitDefEqProofs -proj only [go_sem,seval, *]) | (rotate_left; try clear h; try simp -implicitDefEqProofs -proj only [go_sem,seval, *]; rotate_right)))
 all_goals
  refine AH (Ir ?_)
  simp -implicitDefEqProofs only [decide_eq_true_eq,decide_eq_false_iff_not,Bool.not_eq_true',Bool.not_eq_false',Bool.and_eq_true,Bool.and_eq_false_iff,Bool.or_eq_true,Bool.or_eq_false_iff,beq_iff_eq,beq_eq_false_iff_ne,ne_eq,decide_eq_decide,Bool.not_eq_true,Bool.not_eq_false,wU,wI] at *
  simp -implicitDefEqProofs only [Bool.false_eq_true,reduceCtorEq,true_and,false_and,or_false,false_or]
  unfold Fit Ee at *
  omega
theorem NN {n:Int} (h:Ee n.natAbs):DataW Tryz.prog AIr [wide n] (wide (-n)):=by
 refine AX YA (by simp) ?_
 simp -implicitDefEqProofs -proj only [go_sem,seval]
 (repeat' first
  | (refine AJ (KQ h) ?_; simp -implicitDefEqProofs -proj only [go_sem,seval, *])
  | (refine Eb (KQ h) ?_; simp -implicitDefEqProofs -proj only [go_sem,seval, *])
  | ((with_reducible first | refine EA (fun h=>?_) (fun h=>?_) | refine BJ (fun h=>?_) (fun h=>?_) | refine EC (fun h=>?_) (fun h=>?_)) <;> (simp -implicitDefEqProofs -proj only [go_sem,seval, *]; try (revert h; intro _)))
  | ((with_reducible first | refine AK (fun _ hb=>?_) | refine As (fun _ hb=>?_)); simp -implicitDefEqProofs only [EB,ED,Aa,Heap.none_get,and_true,true_and] at hb; simp -implicitDefEqProofs -proj only [go_sem,seval, *]; try (revert hb; intro _))
  | ((with_reducible first | refine D5 _ rfl (by simp) ?_ | refine D8 _ rfl (by simp) ?_); simp -implicitDefEqProofs -proj only [go_sem,seval, *])
  | (with_reducible refine Ae ?_ (fun h=>?_); first | ((focus first | decide | omega); try clear h; try simp -implicitDefEqProofs -proj only [go_sem,seval, *]) | (rotate_left; try clear h; try simp -implicitDefEqProofs -proj only [go_sem,seval, *]; rotate_right)))
 all_goals
  refine AH ?_
  simp -implicitDefEqProofs only [decide_eq_true_eq,decide_eq_false_iff_not,Bool.not_eq_true',Bool.not_eq_false',Bool.and_eq_true,Bool.and_eq_false_iff,Bool.or_eq_true,Bool.or_eq_false_iff,beq_iff_eq,beq_eq_false_iff_ne,ne_eq,decide_eq_decide,Bool.not_eq_true,Bool.not_eq_false] at *
  simp -implicitDefEqProofs only [←decide_not,←Bool.decide_and,←Bool.decide_or,Bool.beq_eq_decide_eq,AV.d.injEq,D.bool.injEq,D.int.injEq,D.str.injEq,AV.tup.injEq,AV.agg.injEq,List.cons.injEq,true_and,and_true,decide_eq_decide,true_eq_decide_iff,false_eq_decide_iff,decide_eq_true_eq,decide_eq_false_iff_not,Bool.true_eq,Bool.false_eq]
  omega
set_option maxHeartbeats 2000000 in
theorem JR {a b:Int} (ha:a.natAbs<170141183460469231731687303715884105728) (hb:b.natAbs<170141183460469231731687303715884105728):DataW Tryz.prog U3 [wide a,wide b] (wide (a+b)):=by
 have h1:Ee a.natAbs:=by unfold Ee; omega
 have h2:Ee b.natAbs:=by unfold Ee; omega
 have h3:Ee (a.natAbs+b.natAbs):=by unfold Ee; omega
 refine AX Ve (by simp) ?_
 simp -implicitDefEqProofs -proj only [go_sem,seval]
 (repeat' first
  | (refine AJ (Ov h1 h2 h3) ?_; simp -implicitDefEqProofs -proj only [go_sem,seval, *])
  | (refine Eb (Ov h1 h2 h3) ?_; simp -implicitDefEqProofs -proj only [go_sem,seval, *])
  | (refine AJ (KQ (by simp -implicitDefEqProofs only [decide_eq_true_eq,decide_eq_false_iff_not,Bool.not_eq_true',Bool.not_eq_false',Bool.and_eq_true,Bool.and_eq_false_iff,Bool.or_eq_true,Bool.or_eq_false_iff,beq_iff_eq,beq_eq_false_iff_ne,ne_eq,decide_eq_decide,Bool.not_eq_true,Bool.not_eq_false] at *; unfold Ee at *; omega)) ?_; simp -implicitDefEqProofs -proj only [go_sem,seval, *])
  | (refine Eb (KQ (by simp -implicitDefEqProofs only [decide_eq_true_eq,decide_eq_false_iff_not,Bool.not_eq_true',Bool.not_eq_false',Bool.and_eq_true,Bool.and_eq_false_iff,Bool.or_eq_true,Bool.or_eq_false_iff,beq_iff_eq,beq_eq_false_iff_ne,ne_eq,decide_eq_decide,Bool.not_eq_true,Bool.not_eq_false] at *; unfold Ee at *; omega)) ?_; simp -implicitDefEqProofs -proj only [go_sem,seval, *])
  | (refine AJ (Rt h1 h2) ?_; simp -implicitDefEqProofs -proj only [go_sem,seval, *])
  | (refine Eb (Rt h1 h2) ?_; simp -implicitDefEqProofs -proj only [go_sem,seval, *])
  | (refine AJ (Mt h1 h2 (by simp -implicitDefEqProofs only [decide_eq_true_eq,decide_eq_false_iff_not,Bool.not_eq_true',Bool.not_eq_false',Bool.and_eq_true,Bool.and_eq_false_iff,Bool.or_eq_true,Bool.or_eq_false_iff,beq_iff_eq,beq_eq_false_iff_ne,ne_eq,decide_eq_decide,Bool.not_eq_true,Bool.not_eq_false] at *; omega)) ?_; simp -implicitDefEqProofs -proj only [go_sem,seval, *])
  | (refine Eb (Mt h1 h2 (by simp -implicitDefEqProofs only [decide_eq_true_eq,decide_eq_false_iff_not,Bool.not_eq_true',Bool.not_eq_false',Bool.and_eq_true,Bool.and_eq_false_iff,Bool.or_eq_true,Bool.or_eq_false_iff,beq_iff_eq,beq_eq_false_iff_ne,ne_eq,decide_eq_decide,Bool.not_eq_true,Bool.not_eq_false] at *; omega)) ?_; simp -implicitDefEqProofs -proj only [go_sem,seval, *])
  | (refine AJ (Mt h2 h1 (by simp -implicitDefEqProofs only [decide_eq_true_eq,decide_eq_false_iff_not,Bool.not_eq_true',Bool.not_eq_false',Bool.and_eq_true,Bool.and_eq_false_iff,Bool.or_eq_true,Bool.or_eq_false_iff,beq_iff_eq,beq_eq_false_iff_ne,ne_eq,decide_eq_decide,Bool.not_eq_true,Bool.not_eq_false] at *; omega)) ?_; simp -implicitDefEqProofs -proj only [go_sem,seval, *])
  | (refine Eb (Mt h2 h1 (by simp -implicitDefEqProofs only [decide_eq_true_eq,decide_eq_false_iff_not,Bool.not_eq_true',Bool.not_eq_false',Bool.and_eq_true,Bool.and_eq_false_iff,Bool.or_eq_true,Bool.or_eq_false_iff,beq_iff_eq,beq_eq_false_iff_ne,ne_eq,decide_eq_decide,Bool.not_eq_true,Bool.not_eq_false] at *; omega)) ?_; simp -implicitDefEqProofs -proj only [go_sem,seval, *])
  | ((with_reducible first | refine EA (fun h=>?_) (fun h=>?_) | refine BJ (fun h=>?_) (fun h=>?_) | refine EC (fun h=>?_) (fun h=>?_)) <;> (simp -implicitDefEqProofs -proj only [go_sem,seval, *]; try (revert h; intro _)))
  | ((with_reducible first | refine AK (fun _ hb=>?_) | refine As (fun _ hb=>?_)); simp -implicitDefEqProofs only [EB,ED,Aa,Heap.none_get,and_true,true_and] at hb; simp -implicitDefEqProofs -proj only [go_sem,seval, *]; try (revert hb; intro _))
  | ((with_reducible first | refine D5 _ rfl (by simp) ?_ | refine D8 _ rfl (by simp) ?_); simp -implicitDefEqProofs -proj only [go_sem,seval, *])
  | (with_reducible refine Ae ?_ (fun h=>?_); first | ((focus first | decide | omega); try clear h; try simp -implicitDefEqProofs -proj only [go_sem,seval, *]) | (rotate_left; try clear h; try simp -implicitDefEqProofs -proj only [go_sem,seval, *]; rotate_right)))
 all_goals
  refine AH ?_
  simp -implicitDefEqProofs only [decide_eq_true_eq,decide_eq_false_iff_not,Bool.not_eq_true',Bool.not_eq_false',Bool.and_eq_true,Bool.and_eq_false_iff,Bool.or_eq_true,Bool.or_eq_false_iff,beq_iff_eq,beq_eq_false_iff_ne,ne_eq,decide_eq_decide,Bool.not_eq_true,Bool.not_eq_false] at *
  simp -implicitDefEqProofs only [←decide_not,←Bool.decide_and,←Bool.decide_or,Bool.beq_eq_decide_eq,AV.d.injEq,D.bool.injEq,D.int.injEq,D.str.injEq,AV.tup.injEq,AV.agg.injEq,List.cons.injEq,true_and,and_true,decide_eq_decide,true_eq_decide_iff,false_eq_decide_iff,decide_eq_true_eq,decide_eq_false_iff_not,Bool.true_eq,Bool.false_eq]
  omega
theorem NT {x y:Int} (hx:0≤x∧x≤4294967295) (hy:0≤y∧y≤4294967295):0≤x*y∧x*y≤18446744065119617025:=by
 refine ⟨Int.mul_nonneg hx.1 hy.1,?_⟩
 have:=Int.mul_le_mul hx.2 hy.2 hy.1 (by omega)
 omega
theorem QG {n:Int}:n.fdiv 4294967296=n / 4294967296:=Int.fdiv_eq_ediv_of_nonneg _ (by omega)
theorem VF {n:Int} (h:0≤n):n.tmod 4294967296=n % 4294967296:=Int.tmod_eq_emod_of_nonneg h
def OP (x y:Int):Nat→Int
 | 0=>x / 4294967296*(y / 4294967296)*18446744073709551616+x % 4294967296*(y % 4294967296)
 | 1=>x / 4294967296*(y / 4294967296)*18446744073709551616+x % 4294967296*(y % 4294967296)+x % 4294967296*(y / 4294967296)*4294967296
 | _=>x / 4294967296*(y / 4294967296)*18446744073709551616+x % 4294967296*(y % 4294967296)+x % 4294967296*(y / 4294967296)*4294967296+x / 4294967296*(y % 4294967296)*4294967296
theorem Wt (x y:Int):OP x y 2=x*y:=by
 have hx:=Int.emod_add_mul_ediv x 4294967296
 have hy:=Int.emod_add_mul_ediv y 4294967296
 have e:x*y=(x % 4294967296+4294967296*(x / 4294967296))*(y % 4294967296+4294967296*(y / 4294967296)):=by rw [hx,hy]
 rw [e]
 simp -implicitDefEqProofs only [OP,Int.add_mul,Int.mul_add]
 have e1:∀p q:Int,p*(4294967296*q)=p*q*4294967296:=fun p q=>by rw [Int.mul_left_comm]; omega
 have e2:∀p q:Int,4294967296*p*q=p*q*4294967296:=fun p q=>by rw [Int.mul_assoc]; omega
 have e3:∀p q:Int,4294967296*p*(4294967296*q)=p*q*18446744073709551616:=fun p q=>by rw [e1,e2]; omega
 rw [e1,e2,e3]
 generalize x / 4294967296*(y / 4294967296)=p
 generalize x % 4294967296*(y % 4294967296)=q
 generalize x % 4294967296*(y / 4294967296)=r
 generalize x / 4294967296*(y % 4294967296)=t
 omega
theorem Yn (x y:Int):x*y<0↔(¬(x<0↔y<0)∧x*y≠0):=by
 rcases Int.lt_trichotomy x 0 with hx | hx | hx <;> rcases Int.lt_trichotomy y 0 with hy | hy | hy
 ·have:=Int.mul_pos_of_neg_of_neg hx hy; omega
 ·subst hy; simp
 ·have:=Int.mul_neg_of_neg_of_pos hx hy; omega
 ·subst hx; simp
 ·subst hx; simp
 ·subst hx; simp
 ·have:=Int.mul_neg_of_pos_of_neg hx hy; omega
 ·subst hy; simp
 ·have:=Int.mul_pos hx hy; omega
end
section
attribute [local go_sem] Gf wide
def Fq (p u v:Int):Nat→Int
 | 0=>p
 | 1=>p+u*4294967296
 | _=>p+u*4294967296+v*4294967296
theorem O8 {p u v:Int}:Fq p u v 0=p:=(rfl)
theorem PZ {p u v:Int}:Fq p u v 1=p+u*4294967296:=(rfl)
theorem LL {p u v:Int}:Fq p u v 2=p+u*4294967296+v*4294967296:=(rfl)
theorem Qe {p u v:Int} (hp:0≤p∧p<340282366920938463389587631136930004992) (hu:0≤u∧u≤18446744065119617025) (hv:0≤v∧v≤18446744065119617025) (i:Nat) (h:Ee (Fq p u v 2)) (hi:i≤2):Ee (Fq p u v i):=by
 have hi:i=0∨i=1∨i=2:=by omega
 unfold Ee at *
 rw [LL] at h
 rcases hi with rfl | rfl | rfl
 ·rw [O8]; omega
 ·rw [PZ]; omega
 ·rw [LL]; omega
theorem Zn {p u v:Int} (hp:0≤p∧p<340282366920938463389587631136930004992) (hu:0≤u∧u≤18446744065119617025) (hv:0≤v∧v≤18446744065119617025) (h2:Ee (Fq p u v 2)) {R:Out→St→Prop} {tl:Nat→List (Nat×AV)} {hl:Nat→List (Nat×Blk)} {br b4 b5 b6 b11:Nat} {B4 B5 B6:Blk} (n1:¬b11=br) (n2:¬br=b11) (n3:¬b4=br) (n4:¬b4=b11) (n5:¬b5=br) (n6:¬b5=b11) (n7:¬b6=br) (n8:¬b6=b11)  (m4:¬b11=b4) (m6:¬b11=b5) (m8:¬b11=b6) (n9:¬b5=b4) (n10:¬b6=b4) (n11:¬b6=b5)
  (ht:∀i:Nat,tl i=[(43,.own br 1 0 2 2),(44,i64 2),(45,i64 i),(11,.ptr b11 0),(4,.ptr b4 0),(5,.ptr b5 0),(6,.ptr b6 0)])
  (hh:∀i:Nat,hl i=[(br,.row 79 1 2 [[.int .u64 u],[.int .u64 v]]),(b11,.box 124 [bv false,u64 (Fq p u v i / 18446744073709551616),u64 (Fq p u v i % 18446744073709551616)]),(b4,B4),(b5,B5),(b6,B6)]) {i:Nat} (hi:i≤1) :
  FD Tryz.prog (Ho (fun i=>i≤2) (fun x=>⟨69,Et (tl x),Ab (hl x)⟩) (fun i=>2-i) i R) Qb [] ⟨69,Et (tl i),Ab (hl i)⟩:=by
 have key:∀j:Nat,∀w c:Int,j≤1→(w=u∧j=0∨w=v∧j=1)→c=Fq p u v (j+1)→DataW Tryz.prog RB [.agg [bv false,u64 (Fq p u v j / 18446744073709551616),u64 (Fq p u v j % 18446744073709551616)],.agg [bv false,u64 (w.fdiv 4294967296),u64 (IntKind.u64.wrap (w*4294967296))]] (.agg [bv false,u64 (c / 18446744073709551616),u64 (c % 18446744073709551616)]):=by
  intro j w c hj hw hc
  have e:Ee w∧Ee (w*4294967296):=by unfold Ee; omega
  have e3:c=Fq p u v j+w*4294967296:=by
   rcases hw with ⟨rfl,rfl⟩ | ⟨rfl,rfl⟩
   ·rw [hc,PZ,O8]
   ·rw [hc,LL,PZ]
  have h:=Ov (s:=false) (s':=false) (Qe hp hu hv j h2 (by omega)) e.2 (by have:=Qe hp hu hv (j+1) h2 (by omega); rw [←hc,e3] at this; exact this)
  rw [←e3] at h
  have e4:AV.agg [bv false,u64 (w.fdiv 4294967296),u64 (IntKind.u64.wrap (w*4294967296))]=Gf false (w*4294967296):=by
   simp -implicitDefEqProofs only [Gf,wU,QG,←decide_not,←Bool.decide_and,←Bool.decide_or,Bool.beq_eq_decide_eq,AV.d.injEq,D.bool.injEq,D.int.injEq,D.str.injEq,AV.tup.injEq,AV.agg.injEq,List.cons.injEq,true_and,and_true,decide_eq_decide,true_eq_decide_iff,false_eq_decide_iff,decide_eq_true_eq,decide_eq_false_iff_not,Bool.true_eq,Bool.false_eq]; omega
  rw [e4]; exact h
 have k0:=key 0 u _ (by omega) (.inl ⟨rfl,rfl⟩) rfl
 have k1:=key 1 v _ (by omega) (.inr ⟨rfl,rfl⟩) rfl
 clear key
 have hi:i=0∨i=1:=by omega
 have next:∀(j:Nat) (s:St) ,j≤2→i<j→69=s.n→AM s.t (tl j)→AS s.H (hl j)→Ho (fun i=>i≤2) (fun x=>⟨69,Et (tl x),Ab (hl x)⟩) (fun i=>2-i) i R .normal s:=fun j s a b c d e=>Ad j a (by omega) c d e
 generalize (Ho (fun i=>i≤2) (fun x=>⟨69,Et (tl x),Ab (hl x)⟩) (fun i=>2-i) i R)=Q at next ⊢
 rw [ht,hh]
 rcases hi with rfl | rfl
 ·generalize Fq p u v 0=m0 at *
  generalize hm:Fq p u v (0+1)=m1 at *
  simp -implicitDefEqProofs -proj only [go_sem,seval,n1,n2]
  (repeat' first
  | ((with_reducible first | refine EA (fun h=>?_) (fun h=>?_) | refine BJ (fun h=>?_) (fun h=>?_) | refine EC (fun h=>?_) (fun h=>?_)) <;> (simp -implicitDefEqProofs -proj only [go_sem,seval, *]; try (revert h; intro _)))
  | ((with_reducible first | refine AK (fun _ hb=>?_) | refine As (fun _ hb=>?_)); simp only [EB,ED,Aa,Heap.none_get,and_true,true_and] at hb; simp -implicitDefEqProofs -proj only [go_sem,seval, *]; try (revert hb; intro _))
  | ((with_reducible first | refine D5 _ rfl (by simp) ?_ | refine D8 _ rfl (by simp) ?_); simp -implicitDefEqProofs -proj only [go_sem,seval, *])
  | (with_reducible refine Ae ?_ (fun h=>?_); first | ((focus first | decide | omega); try clear h; try simp -implicitDefEqProofs -proj only [go_sem,seval, *]) | (rotate_left; try clear h; try simp -implicitDefEqProofs -proj only [go_sem,seval, *]; rotate_right)))
  refine AJ k0 ?_
  simp -implicitDefEqProofs -proj only [go_sem,seval,n1,n2]
  (repeat' first
  | ((with_reducible first | refine EA (fun h=>?_) (fun h=>?_) | refine BJ (fun h=>?_) (fun h=>?_) | refine EC (fun h=>?_) (fun h=>?_)) <;> (simp -implicitDefEqProofs -proj only [go_sem,seval, *]; try (revert h; intro _)))
  | ((with_reducible first | refine AK (fun _ hb=>?_) | refine As (fun _ hb=>?_)); simp only [EB,ED,Aa,Heap.none_get,and_true,true_and] at hb; simp -implicitDefEqProofs -proj only [go_sem,seval, *]; try (revert hb; intro _))
  | ((with_reducible first | refine D5 _ rfl (by simp) ?_ | refine D8 _ rfl (by simp) ?_); simp -implicitDefEqProofs -proj only [go_sem,seval, *])
  | (with_reducible refine Ae ?_ (fun h=>?_); first | ((focus first | decide | omega); try clear h; try simp -implicitDefEqProofs -proj only [go_sem,seval, *]) | (rotate_left; try clear h; try simp -implicitDefEqProofs -proj only [go_sem,seval, *]; rotate_right)))
  refine next 1 _ (by omega) (by omega) rfl ?_ ?_
  ·rw [ht]; simp -implicitDefEqProofs -proj only [go_sem,seval,AM,IntKind.wrap_i64]; try (simp -implicitDefEqProofs only [←decide_not,←Bool.decide_and,←Bool.decide_or,Bool.beq_eq_decide_eq,AV.d.injEq,D.bool.injEq,D.int.injEq,D.str.injEq,AV.tup.injEq,AV.agg.injEq,List.cons.injEq,true_and,and_true,decide_eq_decide,true_eq_decide_iff,false_eq_decide_iff,decide_eq_true_eq,decide_eq_false_iff_not,Bool.true_eq,Bool.false_eq]; omega)
  ·rw [hh,show Fq p u v 1=m1 from hm]; simp -implicitDefEqProofs -proj only [go_sem,seval,AS,n1,n2,n3,n4,n5,n6,n7,n8,n9,n10,n11,m4,m6,m8]
 ·generalize Fq p u v 1=m0 at *
  generalize hm:Fq p u v (1+1)=m1 at *
  simp -implicitDefEqProofs -proj only [go_sem,seval,n1,n2]
  (repeat' first
  | ((with_reducible first | refine EA (fun h=>?_) (fun h=>?_) | refine BJ (fun h=>?_) (fun h=>?_) | refine EC (fun h=>?_) (fun h=>?_)) <;> (simp -implicitDefEqProofs -proj only [go_sem,seval, *]; try (revert h; intro _)))
  | ((with_reducible first | refine AK (fun _ hb=>?_) | refine As (fun _ hb=>?_)); simp only [EB,ED,Aa,Heap.none_get,and_true,true_and] at hb; simp -implicitDefEqProofs -proj only [go_sem,seval, *]; try (revert hb; intro _))
  | ((with_reducible first | refine D5 _ rfl (by simp) ?_ | refine D8 _ rfl (by simp) ?_); simp -implicitDefEqProofs -proj only [go_sem,seval, *])
  | (with_reducible refine Ae ?_ (fun h=>?_); first | ((focus first | decide | omega); try clear h; try simp -implicitDefEqProofs -proj only [go_sem,seval, *]) | (rotate_left; try clear h; try simp -implicitDefEqProofs -proj only [go_sem,seval, *]; rotate_right)))
  refine AJ k1 ?_
  simp -implicitDefEqProofs -proj only [go_sem,seval,n1,n2]
  (repeat' first
  | ((with_reducible first | refine EA (fun h=>?_) (fun h=>?_) | refine BJ (fun h=>?_) (fun h=>?_) | refine EC (fun h=>?_) (fun h=>?_)) <;> (simp -implicitDefEqProofs -proj only [go_sem,seval, *]; try (revert h; intro _)))
  | ((with_reducible first | refine AK (fun _ hb=>?_) | refine As (fun _ hb=>?_)); simp only [EB,ED,Aa,Heap.none_get,and_true,true_and] at hb; simp -implicitDefEqProofs -proj only [go_sem,seval, *]; try (revert hb; intro _))
  | ((with_reducible first | refine D5 _ rfl (by simp) ?_ | refine D8 _ rfl (by simp) ?_); simp -implicitDefEqProofs -proj only [go_sem,seval, *])
  | (with_reducible refine Ae ?_ (fun h=>?_); first | ((focus first | decide | omega); try clear h; try simp -implicitDefEqProofs -proj only [go_sem,seval, *]) | (rotate_left; try clear h; try simp -implicitDefEqProofs -proj only [go_sem,seval, *]; rotate_right)))
  refine next 2 _ (by omega) (by omega) rfl ?_ ?_
  ·rw [ht]; simp -implicitDefEqProofs -proj only [go_sem,seval,AM,IntKind.wrap_i64]; try (simp -implicitDefEqProofs only [←decide_not,←Bool.decide_and,←Bool.decide_or,Bool.beq_eq_decide_eq,AV.d.injEq,D.bool.injEq,D.int.injEq,D.str.injEq,AV.tup.injEq,AV.agg.injEq,List.cons.injEq,true_and,and_true,decide_eq_decide,true_eq_decide_iff,false_eq_decide_iff,decide_eq_true_eq,decide_eq_false_iff_not,Bool.true_eq,Bool.false_eq]; omega)
  ·rw [hh,show Fq p u v 2=m1 from hm]; simp -implicitDefEqProofs -proj only [go_sem,seval,AS,n1,n2,n3,n4,n5,n6,n7,n8,n9,n10,n11,m4,m6,m8]
theorem Rk {x y:Int} (hx:Fit x) (hy:Fit y):0≤(x.natAbs:Int)*y.natAbs∧(x.natAbs:Int)*y.natAbs≤85070591730234615865843651857942052864:=by
 refine ⟨Int.mul_nonneg (by omega) (by omega),?_⟩
 have:=Int.mul_le_mul (a:=(x.natAbs:Int)) (c:=9223372036854775808) (b:=(y.natAbs:Int)) (d:=9223372036854775808) (by unfold Fit at hx; omega) (by unfold Fit at hy; omega) (by omega) (by omega)
 omega
theorem Jf {x y:Int} (ha:Fit x) (hb:Fit y):DataW Tryz.prog Zh [i64 x,i64 y] (wide (x*y)):=by
 have hx:((x.natAbs:Int) % 18446744073709551616)=x.natAbs:=by unfold Fit at ha; omega
 have hy:((y.natAbs:Int) % 18446744073709551616)=y.natAbs:=by unfold Fit at hb; omega
 refine AX ADm (by simp) ?_
 simp -implicitDefEqProofs -proj only [go_sem,seval]
 (repeat' first
  | (refine AJ (Gm ha) ?_; simp -implicitDefEqProofs -proj only [go_sem,seval, *])
  | (refine Eb (Gm ha) ?_; simp -implicitDefEqProofs -proj only [go_sem,seval, *])
  | (refine AJ (Gm hb) ?_; simp -implicitDefEqProofs -proj only [go_sem,seval, *])
  | (refine Eb (Gm hb) ?_; simp -implicitDefEqProofs -proj only [go_sem,seval, *])
  | ((with_reducible first | refine EA (fun h=>?_) (fun h=>?_) | refine BJ (fun h=>?_) (fun h=>?_) | refine EC (fun h=>?_) (fun h=>?_)) <;> (simp -implicitDefEqProofs -proj only [go_sem,seval, *]; try (revert h; intro _)))
  | ((with_reducible first | refine AK (fun _ hb=>?_) | refine As (fun _ hb=>?_)); simp -implicitDefEqProofs only [EB,ED,Aa,Heap.none_get,and_true,true_and] at hb; simp -implicitDefEqProofs -proj only [go_sem,seval, *]; try (revert hb; intro _))
  | ((with_reducible first | refine D5 _ rfl (by simp) ?_ | refine D8 _ rfl (by simp) ?_); simp -implicitDefEqProofs -proj only [go_sem,seval, *])
  | (with_reducible refine Ae ?_ (fun h=>?_); first | ((focus first | decide | omega); try clear h; try simp -implicitDefEqProofs -proj only [go_sem,seval, *]) | (rotate_left; try clear h; try simp -implicitDefEqProofs -proj only [go_sem,seval, *]; rotate_right)))
 simp -implicitDefEqProofs -proj only [go_sem,seval,hx,hy,QG,VF (Int.natCast_nonneg _), *]
 (repeat' first
  | (refine AJ (Gm ha) ?_; simp -implicitDefEqProofs -proj only [go_sem,seval, *])
  | (refine Eb (Gm ha) ?_; simp -implicitDefEqProofs -proj only [go_sem,seval, *])
  | (refine AJ (Gm hb) ?_; simp -implicitDefEqProofs -proj only [go_sem,seval, *])
  | (refine Eb (Gm hb) ?_; simp -implicitDefEqProofs -proj only [go_sem,seval, *])
  | ((with_reducible first | refine EA (fun h=>?_) (fun h=>?_) | refine BJ (fun h=>?_) (fun h=>?_) | refine EC (fun h=>?_) (fun h=>?_)) <;> (simp -implicitDefEqProofs -proj only [go_sem,seval, *]; try (revert h; intro _)))
  | ((with_reducible first | refine AK (fun _ hb=>?_) | refine As (fun _ hb=>?_)); simp -implicitDefEqProofs only [EB,ED,Aa,Heap.none_get,and_true,true_and] at hb; simp -implicitDefEqProofs -proj only [go_sem,seval, *]; try (revert hb; intro _))
  | ((with_reducible first | refine D5 _ rfl (by simp) ?_ | refine D8 _ rfl (by simp) ?_); simp -implicitDefEqProofs -proj only [go_sem,seval, *])
  | (with_reducible refine Ae ?_ (fun h=>?_); first | ((focus first | decide | omega); try clear h; try simp -implicitDefEqProofs -proj only [go_sem,seval, *]) | (rotate_left; try clear h; try simp -implicitDefEqProofs -proj only [go_sem,seval, *]; rotate_right)))
 next b4 _ b5 hb5 b6 hb6 b11 hb11 br hbr =>
 have hp:=NT (x:=x.natAbs / 4294967296) (y:=y.natAbs / 4294967296) (by unfold Fit at ha; omega) (by unfold Fit at hb; omega)
 have hq:=NT (x:=x.natAbs % 4294967296) (y:=y.natAbs % 4294967296) (by unfold Fit at ha; omega) (by unfold Fit at hb; omega)
 have hr:=NT (x:=x.natAbs % 4294967296) (y:=y.natAbs / 4294967296) (by unfold Fit at ha; omega) (by unfold Fit at hb; omega)
 have ht:=NT (x:=x.natAbs / 4294967296) (y:=y.natAbs % 4294967296) (by unfold Fit at ha; omega) (by unfold Fit at hb; omega)
 have hm:=Wt x.natAbs y.natAbs
 have hxy:=Rk ha hb
 have hn:(x.natAbs:Int)*y.natAbs=(x*y).natAbs:=by rw [Int.natAbs_mul]; rfl
 have hs:=Yn x y
 rw [hn] at hm hxy
 simp -implicitDefEqProofs only [OP] at hm
 have hz:(x*y).natAbs=0↔x*y=0:=Int.natAbs_eq_zero
 generalize (x*y).natAbs=N at *
 generalize hmn:x*y=mn at *
 generalize x.natAbs / (4294967296:Int)*(y.natAbs / (4294967296:Int))=P at *
 generalize x.natAbs % (4294967296:Int)*(y.natAbs % (4294967296:Int))=q at *
 generalize x.natAbs % (4294967296:Int)*(y.natAbs / (4294967296:Int))=u at *
 generalize x.natAbs / (4294967296:Int)*(y.natAbs % (4294967296:Int))=v at *
 obtain ⟨tl,htl⟩:∃tl:Nat→List (Nat×AV),∀i:Nat,tl i=[(43,.own br 1 0 2 2),(44,i64 2),(45,i64 i),(11,.ptr b11 0),(4,.ptr b4 0),(5,.ptr b5 0),(6,.ptr b6 0)]:=⟨_,fun _=>rfl⟩
 obtain ⟨hl,hhl⟩:∃hl:Nat→List (Nat×Blk),∀i:Nat,hl i=[(br,.row 79 1 2 [[.int .u64 u],[.int .u64 v]]),(b11,.box 124 [bv false,u64 (Fq (P*18446744073709551616+q) u v i / 18446744073709551616),u64 (Fq (P*18446744073709551616+q) u v i % 18446744073709551616)]),
   (b4,.box 124 [bv false,u64 0,u64 0]),(b5,.box 124 [bv (decide (x<0)),u64 (↑x.natAbs / 18446744073709551616),u64 ↑x.natAbs]),(b6,.box 124 [bv (decide (y<0)),u64 (↑y.natAbs / 18446744073709551616),u64 ↑y.natAbs])]:=⟨_,fun _=>rfl⟩
 refine D9 (fun i:Nat=>i≤2) 69 tl hl
  (fun i=>2-i) 0 (by omega) rfl ?_ ?_ ?_
 ·rw [htl]; simp -implicitDefEqProofs -proj only [go_sem,seval,AM]
 ·rw [hhl,O8]; simp -implicitDefEqProofs -proj only [go_sem,seval,AS, *]
  simp -implicitDefEqProofs only [wU,Option.some.injEq,Blk.box.injEq,Blk.row.injEq,←decide_not,←Bool.decide_and,←Bool.decide_or,Bool.beq_eq_decide_eq,AV.d.injEq,D.bool.injEq,D.int.injEq,D.str.injEq,AV.tup.injEq,AV.agg.injEq,List.cons.injEq,true_and,and_true,decide_eq_decide,true_eq_decide_iff,false_eq_decide_iff,decide_eq_true_eq,decide_eq_false_iff_not,Bool.true_eq,Bool.false_eq]
  omega
 ·intro i hi
  by_cases hi2:i≤1
  ·refine Zn (p:=P*18446744073709551616+q) (by omega) hr ht ?_ ?_ ?_ ?_ ?_ ?_ ?_ ?_ ?_ ?_ ?_ ?_ ?_ ?_ ?_ htl hhl hi2
   ·rw [LL,hm]; unfold Ee; omega
   all_goals simp -implicitDefEqProofs only [hb5,hb6,hb11,hbr,not_false_eq_true]
  ·have hi:i=2:=by omega
   subst hi
   rw [htl,hhl,LL,hm]
   simp -implicitDefEqProofs -proj only [go_sem,seval,hb5,hb6,hb11,hbr]
   (repeat' first
  | (refine AJ (KQ (m:=N) (by unfold Ee; omega)) ?_; simp -implicitDefEqProofs -proj only [go_sem,seval, *])
  | (refine Eb (KQ (m:=N) (by unfold Ee; omega)) ?_; simp -implicitDefEqProofs -proj only [go_sem,seval, *])
  | ((with_reducible first | refine EA (fun h=>?_) (fun h=>?_) | refine BJ (fun h=>?_) (fun h=>?_) | refine EC (fun h=>?_) (fun h=>?_)) <;> (simp -implicitDefEqProofs -proj only [go_sem,seval, *]; try (revert h; intro _)))
  | ((with_reducible first | refine AK (fun _ hb=>?_) | refine As (fun _ hb=>?_)); simp -implicitDefEqProofs only [EB,ED,Aa,Heap.none_get,and_true,true_and] at hb; simp -implicitDefEqProofs -proj only [go_sem,seval, *]; try (revert hb; intro _))
  | ((with_reducible first | refine D5 _ rfl (by simp) ?_ | refine D8 _ rfl (by simp) ?_); simp -implicitDefEqProofs -proj only [go_sem,seval, *])
  | (with_reducible refine Ae ?_ (fun h=>?_); first | ((focus first | decide | omega); try clear h; try simp -implicitDefEqProofs -proj only [go_sem,seval, *]) | (rotate_left; try clear h; try simp -implicitDefEqProofs -proj only [go_sem,seval, *]; rotate_right)))
   all_goals
    refine AH ?_
    simp -implicitDefEqProofs only [decide_eq_true_eq,decide_eq_false_iff_not,Bool.not_eq_true',Bool.not_eq_false',Bool.and_eq_true,Bool.and_eq_false_iff,Bool.or_eq_true,Bool.or_eq_false_iff,beq_iff_eq,beq_eq_false_iff_ne,ne_eq,decide_eq_decide,Bool.not_eq_true,Bool.not_eq_false] at *
    simp -implicitDefEqProofs only [←decide_not,←Bool.decide_and,←Bool.decide_or,Bool.beq_eq_decide_eq,AV.d.injEq,D.bool.injEq,D.int.injEq,D.str.injEq,AV.tup.injEq,AV.agg.injEq,List.cons.injEq,true_and,and_true,decide_eq_decide,true_eq_decide_iff,false_eq_decide_iff,decide_eq_true_eq,decide_eq_false_iff_not,Bool.true_eq,Bool.false_eq]
    first
    | exact ⟨fun h'=>⟨by assumption,by omega⟩,fun h'=>by omega⟩
    | exact fun h'=>h'.1 (by assumption)
    | omega
theorem Kx {x y:Int} (hx:Fit x) (hy:Fit y):(x*y).natAbs≤85070591730234615865843651857942052864:=by
 have h:=Rk hx hy
 have:(x.natAbs:Int)*y.natAbs=(x*y).natAbs:=by rw [Int.natAbs_mul]; rfl
 omega
end
section
attribute [local go_sem] Gf wide
theorem Yg {x y:Int} (hx:x.natAbs≤85070591730234615865843651857942052864) (hy:y.natAbs≤85070591730234615865843651857942052864):DataW Tryz.prog AFh [wide x,wide y] (bv (decide (x<y))):=by
 have h1:=NN (n:=y) (by unfold Ee; omega)
 have h2:=JR (a:=x) (b:=-y) (by omega) (by omega)
 refine AX AOZ (by simp) ?_
 simp -implicitDefEqProofs -proj only [go_sem,seval]
 (repeat' first
  | ((with_reducible first | refine EA (fun h=>?_) (fun h=>?_) | refine BJ (fun h=>?_) (fun h=>?_) | refine EC (fun h=>?_) (fun h=>?_)) <;> (simp -implicitDefEqProofs -proj only [go_sem,seval, *]; try (revert h; intro _)))
  | ((with_reducible first | refine AK (fun _ hb=>?_) | refine As (fun _ hb=>?_)); simp only [EB,ED,Aa,Heap.none_get,and_true,true_and] at hb; simp -implicitDefEqProofs -proj only [go_sem,seval, *]; try (revert hb; intro _))
  | ((with_reducible first | refine D5 _ rfl (by simp) ?_ | refine D8 _ rfl (by simp) ?_); simp -implicitDefEqProofs -proj only [go_sem,seval, *])
  | (with_reducible refine Ae ?_ (fun h=>?_); first | ((focus first | decide | omega); try clear h; try simp -implicitDefEqProofs -proj only [go_sem,seval, *]) | (rotate_left; try clear h; try simp -implicitDefEqProofs -proj only [go_sem,seval, *]; rotate_right)))
 refine Eb h1 ?_
 simp -implicitDefEqProofs -proj only [go_sem,seval, *]
 (repeat' first
  | ((with_reducible first | refine EA (fun h=>?_) (fun h=>?_) | refine BJ (fun h=>?_) (fun h=>?_) | refine EC (fun h=>?_) (fun h=>?_)) <;> (simp -implicitDefEqProofs -proj only [go_sem,seval, *]; try (revert h; intro _)))
  | ((with_reducible first | refine AK (fun _ hb=>?_) | refine As (fun _ hb=>?_)); simp only [EB,ED,Aa,Heap.none_get,and_true,true_and] at hb; simp -implicitDefEqProofs -proj only [go_sem,seval, *]; try (revert hb; intro _))
  | ((with_reducible first | refine D5 _ rfl (by simp) ?_ | refine D8 _ rfl (by simp) ?_); simp -implicitDefEqProofs -proj only [go_sem,seval, *])
  | (with_reducible refine Ae ?_ (fun h=>?_); first | ((focus first | decide | omega); try clear h; try simp -implicitDefEqProofs -proj only [go_sem,seval, *]) | (rotate_left; try clear h; try simp -implicitDefEqProofs -proj only [go_sem,seval, *]; rotate_right)))
 refine Eb h2 ?_
 simp -implicitDefEqProofs -proj only [go_sem,seval, *]
 (repeat' first
  | ((with_reducible first | refine EA (fun h=>?_) (fun h=>?_) | refine BJ (fun h=>?_) (fun h=>?_) | refine EC (fun h=>?_) (fun h=>?_)) <;> (simp -implicitDefEqProofs -proj only [go_sem,seval, *]; try (revert h; intro _)))
  | ((with_reducible first | refine AK (fun _ hb=>?_) | refine As (fun _ hb=>?_)); simp only [EB,ED,Aa,Heap.none_get,and_true,true_and] at hb; simp -implicitDefEqProofs -proj only [go_sem,seval, *]; try (revert hb; intro _))
  | ((with_reducible first | refine D5 _ rfl (by simp) ?_ | refine D8 _ rfl (by simp) ?_); simp -implicitDefEqProofs -proj only [go_sem,seval, *])
  | (with_reducible refine Ae ?_ (fun h=>?_); first | ((focus first | decide | omega); try clear h; try simp -implicitDefEqProofs -proj only [go_sem,seval, *]) | (rotate_left; try clear h; try simp -implicitDefEqProofs -proj only [go_sem,seval, *]; rotate_right)))
 refine AH ?_
 simp -implicitDefEqProofs only [←decide_not,←Bool.decide_and,←Bool.decide_or,Bool.beq_eq_decide_eq,AV.d.injEq,D.bool.injEq,D.int.injEq,D.str.injEq,AV.tup.injEq,AV.agg.injEq,List.cons.injEq,true_and,and_true,decide_eq_decide,true_eq_decide_iff,false_eq_decide_iff,decide_eq_true_eq,decide_eq_false_iff_not,Bool.true_eq,Bool.false_eq]
 omega
theorem Sd {n c p:Int} (hn:Fit n) (hc:Fit c) (hp:p.natAbs≤85070591730234615865843651857942052864):DataW Tryz.prog ASI [i64 n,i64 c,wide p] (bv (decide (n*c≤p))):=by
 have h1:=Jf hn hc
 have hq:=Kx hn hc
 have h2:=Yg hp hq
 generalize n*c=z at *
 refine AX ADT (by simp) ?_
 simp -implicitDefEqProofs -proj only [go_sem,seval]
 (repeat' first
  | ((with_reducible first | refine EA (fun h=>?_) (fun h=>?_) | refine BJ (fun h=>?_) (fun h=>?_) | refine EC (fun h=>?_) (fun h=>?_)) <;> (simp -implicitDefEqProofs -proj only [go_sem,seval, *]; try (revert h; intro _)))
  | ((with_reducible first | refine AK (fun _ hb=>?_) | refine As (fun _ hb=>?_)); simp only [EB,ED,Aa,Heap.none_get,and_true,true_and] at hb; simp -implicitDefEqProofs -proj only [go_sem,seval, *]; try (revert hb; intro _))
  | ((with_reducible first | refine D5 _ rfl (by simp) ?_ | refine D8 _ rfl (by simp) ?_); simp -implicitDefEqProofs -proj only [go_sem,seval, *])
  | (with_reducible refine Ae ?_ (fun h=>?_); first | ((focus first | decide | omega); try clear h; try simp -implicitDefEqProofs -proj only [go_sem,seval, *]) | (rotate_left; try clear h; try simp -implicitDefEqProofs -proj only [go_sem,seval, *]; rotate_right)))
 refine Eb h1 ?_
 simp -implicitDefEqProofs -proj only [go_sem,seval, *]
 (repeat' first
  | (refine AJ (h2) ?_; simp -implicitDefEqProofs -proj only [go_sem,seval, *])
  | (refine Eb (h2) ?_; simp -implicitDefEqProofs -proj only [go_sem,seval, *])
  | ((with_reducible first | refine EA (fun h=>?_) (fun h=>?_) | refine BJ (fun h=>?_) (fun h=>?_) | refine EC (fun h=>?_) (fun h=>?_)) <;> (simp -implicitDefEqProofs -proj only [go_sem,seval, *]; try (revert h; intro _)))
  | ((with_reducible first | refine AK (fun _ hb=>?_) | refine As (fun _ hb=>?_)); simp -implicitDefEqProofs only [EB,ED,Aa,Heap.none_get,and_true,true_and] at hb; simp -implicitDefEqProofs -proj only [go_sem,seval, *]; try (revert hb; intro _))
  | ((with_reducible first | refine D5 _ rfl (by simp) ?_ | refine D8 _ rfl (by simp) ?_); simp -implicitDefEqProofs -proj only [go_sem,seval, *])
  | (with_reducible refine Ae ?_ (fun h=>?_); first | ((focus first | decide | omega); try clear h; try simp -implicitDefEqProofs -proj only [go_sem,seval, *]) | (rotate_left; try clear h; try simp -implicitDefEqProofs -proj only [go_sem,seval, *]; rotate_right)))
 refine AH ?_
 simp -implicitDefEqProofs only [←decide_not,←Bool.decide_and,←Bool.decide_or,Bool.beq_eq_decide_eq,AV.d.injEq,D.bool.injEq,D.int.injEq,D.str.injEq,AV.tup.injEq,AV.agg.injEq,List.cons.injEq,true_and,and_true,decide_eq_decide,true_eq_decide_iff,false_eq_decide_iff,decide_eq_true_eq,decide_eq_false_iff_not,Bool.true_eq,Bool.false_eq]
 omega
def Lh (p c:Int):AV:=if -9223372036854775808*c≤p then .tup [i64 (Hu p c),bv true] else .tup [i64 0,bv false]
theorem RM {p c:Int} (hc:0<c) (h : -9223372036854775808*c≤p):Fit (Hu p c):=by
 have h1:=(S2 (p:=p) (n:=-9223372036854775808) hc (by omega)).2 h
 unfold Fit
 refine ⟨h1,?_⟩
 unfold Hu
 split <;> omega
theorem ANj {low P nx:Int} (h:nx=IntKind.i64.wrap (IntKind.u64.wrap (IntKind.u64.wrap low+P))) (hl:Fit low) (hP:1≤P∧P≤9223372036854775808):(low+P≤9223372036854775807→nx=low+P)∧(9223372036854775807<low+P→nx<low):=by
 rw [IntKind.wrap_i64,IntKind.wrap_u64,IntKind.wrap_u64] at h
 unfold Fit at hl
 omega
theorem YS (j:Nat) (h:0<j) (h2:j≤64):∃P:Int,(2:Int) ^ (j-1)=P∧(2:Int) ^ j=2*P∧1≤P∧P≤9223372036854775808:=by
 refine ⟨_,rfl,?_,?_,?_⟩
 ·conv=>lhs; rw [show j=j-1+1 by omega,Int.pow_succ,Int.mul_comm]
 ·have:=Jv (j-1); omega
 ·have:=K7 (show j-1≤63 by omega)
  have e:(2:Int) ^ 63=9223372036854775808:=rfl
  omega
set_option maxRecDepth 20000 in
set_option maxHeartbeats 2000000 in
theorem ALF {p c:Int} (hc0:0<c) (hc:Fit c) (hp:p.natAbs≤85070591730234615865843651857942052864):DataW Tryz.prog ALa [wide p,i64 c] (Lh p c):=by
 have h1:=Sd (n:=-9223372036854775808) (c:=c) (p:=p) (by decide) hc hp
 refine AX ABa (by simp) ?_
 by_cases h : -9223372036854775808*c≤p
 ·rw [Lh,if_pos h]
  rw [decide_eq_true h] at h1
  simp -implicitDefEqProofs -proj only [go_sem,seval]
  refine AK (fun b hb=>?_)
  simp -implicitDefEqProofs -proj only [go_sem,seval]
  refine AJ h1 ?_
  simp -implicitDefEqProofs -proj only [go_sem,seval]
  have hf:=RM hc0 h
  have hle:=fun n hn=>S2 (p:=p) (c:=c) (n:=n) hc0 hn
  clear h1 h
  generalize Hu p c=T at *
  refine D9 (fun x:Nat×Int=>x.1≤64∧Fit x.2∧x.2≤T∧T<x.2+2 ^ x.1) 39 (fun x=>[(2,.ptr b 0),(1,i64 c),(6,i64 x.2),(7,i64 ((x.1:Int)-1))])
   (fun _=>[(b,.box 124 [bv (decide (p<0)),u64 ((p.natAbs:Int) / 18446744073709551616),u64 ((p.natAbs:Int) % 18446744073709551616)])]) (fun x=>x.1) (64,-9223372036854775808) ⟨by simp -implicitDefEqProofs only [Ag]; omega,by decide,by unfold Fit at hf; simp -implicitDefEqProofs only [Ao]; omega,by unfold Fit at hf; simp -implicitDefEqProofs only [Ao,Ag]; omega⟩ rfl ?_ ?_ ?_
  ·simp -implicitDefEqProofs -proj only [go_sem,seval,AM]
  ·simp -implicitDefEqProofs -proj only [go_sem,seval,AS]
  ·rintro ⟨j,low⟩ ⟨i1,i2,i3,i4⟩
   simp -implicitDefEqProofs only [Ag,Ao] at i1 i2 i3 i4
   by_cases hj:0<j
   ·obtain ⟨P,e1,e2,e3,e4⟩:=YS j hj i1
    have w1:IntKind.u64.wrap ((j:Int)-1)=((j-1:Nat):Int):=by rw [Ey (by omega)]; omega
    have w2:IntKind.u64.wrap P=P:=Ey (by omega)
    have w3:IntKind.i64.wrap ((j:Int)-1-1)=((j-1:Nat):Int)-1:=by rw [IntKind.wrap_i64]; omega
    have hk:j-1≤64:=by omega
    obtain ⟨nx,hnx⟩:∃nx,nx=IntKind.i64.wrap (IntKind.u64.wrap (IntKind.u64.wrap low+P)):=⟨_,rfl⟩
    obtain ⟨n1,n2⟩:=ANj hnx i2 ⟨e3,e4⟩
    have hle2:=hle nx
    simp -implicitDefEqProofs -proj only [go_sem,seval,decide_eq_true (show 0≤(j:Int)-1 by omega),w1,w2,w3,Int.toNat_natCast,hk,e1,Int.one_mul]
    (repeat' (with_reducible refine Ae ?_ (fun h=>?_); (focus first | decide | omega); clear h; try simp -implicitDefEqProofs -proj only [go_sem,seval,w1,w2,w3,Int.toNat_natCast,hk,e1,Int.one_mul,←hnx]))
    by_cases hb2:low+P≤9223372036854775807
    ·have hn:=n1 hb2
     have hu:=Sd (n:=nx) (c:=c) (p:=p) (by unfold Fit at *; omega) hc hp
     simp -implicitDefEqProofs -proj only [go_sem,seval,←hnx,decide_eq_true (show low<nx by omega)]
     refine AJ hu ?_
     by_cases hv:nx*c≤p
     ·have:=(hle2 (by omega)).2 hv
      simp -implicitDefEqProofs -proj only [go_sem,seval,←hnx,decide_eq_true hv]
      refine Ad (j-1,nx) ⟨by simp -implicitDefEqProofs only [Ag]; omega,by unfold Fit at *; simp -implicitDefEqProofs only [Ao]; omega,by simp -implicitDefEqProofs only [Ao]; omega,by simp -implicitDefEqProofs only [Ag,Ao]; rw [e1]; omega⟩ (by simp -implicitDefEqProofs only [Ag]; omega) rfl ?_ ?_
      ·simp -implicitDefEqProofs -proj only [go_sem,seval,AM,w3]
      ·simp -implicitDefEqProofs -proj only [go_sem,seval,AS]
     ·have:¬nx≤T:=fun h=>hv ((hle2 (by omega)).1 h)
      simp -implicitDefEqProofs -proj only [go_sem,seval,←hnx,decide_eq_false hv]
      refine Ad (j-1,low) ⟨by simp -implicitDefEqProofs only [Ag]; omega,i2,i3,by simp -implicitDefEqProofs only [Ag,Ao]; rw [e1]; omega⟩ (by simp -implicitDefEqProofs only [Ag]; omega) rfl ?_ ?_
      ·simp -implicitDefEqProofs -proj only [go_sem,seval,AM,w3]
      ·simp -implicitDefEqProofs -proj only [go_sem,seval,AS]
    ·have hn:=n2 (by omega)
     simp -implicitDefEqProofs -proj only [go_sem,seval,←hnx,decide_eq_false (show ¬low<nx by omega)]
     refine Ad (j-1,low) ⟨by simp -implicitDefEqProofs only [Ag]; omega,i2,i3,by unfold Fit at hf; simp -implicitDefEqProofs only [Ag,Ao]; rw [e1]; omega⟩ (by simp -implicitDefEqProofs only [Ag]; omega) rfl ?_ ?_
     ·simp -implicitDefEqProofs -proj only [go_sem,seval,AM,w3]
     ·simp -implicitDefEqProofs -proj only [go_sem,seval,AS]
   ·have hj0:j=0:=by omega
    subst hj0
    have hT:low=T:=by
     have:(2:Int) ^ 0=1:=rfl
     omega
    simp -implicitDefEqProofs -proj only [go_sem,seval]
    exact AH (by rw [hT])
 ·rw [Lh,if_neg h]
  rw [decide_eq_false h] at h1
  simp -implicitDefEqProofs -proj only [go_sem,seval]
  refine AK (fun b hb=>?_)
  simp -implicitDefEqProofs -proj only [go_sem,seval]
  refine AJ h1 ?_
  simp -implicitDefEqProofs -proj only [go_sem,seval]
  exact AH rfl
def Jc (d c m:Int):AV:=if 0≤d∧d<c∧(m=1∨1<m∧2*d≤c) then .tup [i64 (-9223372036854775808),bv true] else .tup [i64 0,bv false]
theorem OX {d c m n:Int} {u:Bool} (h:(u=true∧n = -9223372036854775808∧(0≤d∧d<c∧(m=1∨1<m∧2*d≤c)))∨(u=false∧n=0∧¬(0≤d∧d<c∧(m=1∨1<m∧2*d≤c)))):AV.tup [i64 n,bv u]=Jc d c m:=by
 unfold Jc
 rcases h with ⟨rfl,rfl,h⟩ | ⟨rfl,rfl,h⟩
 ·rw [if_pos h]
 ·rw [if_neg h]
set_option maxRecDepth 20000 in
theorem AEy {p c m:Int} (hc0:0<c) (hc:Fit c) (hp:p.natAbs≤85070591730234615865843651857942052864):DataW Tryz.prog Yu [wide p,i64 c,i64 m] (Jc (-9223372036854775808*c-p) c m):=by
 have h1:=Jf (x:=-9223372036854775808) (y:=c) (by decide) hc
 have hq:=Kx (x:=-9223372036854775808) (y:=c) (by decide) hc
 have h2:=NN (n:=p) (by unfold Ee; omega)
 have h3:=JR (a:=-9223372036854775808*c) (b:=-p) (by omega) (by omega)
 obtain ⟨d,hd⟩:∃d,-9223372036854775808*c + -p=d:=⟨_,rfl⟩
 have hd2 : -9223372036854775808*c-p=d:=by omega
 rw [hd] at h3
 rw [hd2]
 have hd3:d.natAbs<340282366920938463463374607431768211456:=by omega
 have hcw:IntKind.u64.wrap c=c:=Ey (by unfold Fit at hc; omega)
 generalize -9223372036854775808*c=z at *
 clear hd hd2 hq
 refine AX ABb (by simp) ?_
 simp -implicitDefEqProofs -proj only [go_sem,seval]
 (repeat' first
  | ((with_reducible first | refine EA (fun h=>?_) (fun h=>?_) | refine BJ (fun h=>?_) (fun h=>?_) | refine EC (fun h=>?_) (fun h=>?_)) <;> (simp -implicitDefEqProofs -proj only [go_sem,seval, *]; try (revert h; intro _)))
  | ((with_reducible first | refine AK (fun _ hb=>?_) | refine As (fun _ hb=>?_)); simp only [EB,ED,Aa,Heap.none_get,and_true,true_and] at hb; simp -implicitDefEqProofs -proj only [go_sem,seval, *]; try (revert hb; intro _))
  | ((with_reducible first | refine D5 _ rfl (by simp) ?_ | refine D8 _ rfl (by simp) ?_); simp -implicitDefEqProofs -proj only [go_sem,seval, *])
  | (with_reducible refine Ae ?_ (fun h=>?_); first | ((focus first | decide | omega); try clear h; try simp -implicitDefEqProofs -proj only [go_sem,seval, *]) | (rotate_left; try clear h; try simp -implicitDefEqProofs -proj only [go_sem,seval, *]; rotate_right)))
 refine Eb h1 ?_
 simp -implicitDefEqProofs -proj only [go_sem,seval, *]
 (repeat' first
  | ((with_reducible first | refine EA (fun h=>?_) (fun h=>?_) | refine BJ (fun h=>?_) (fun h=>?_) | refine EC (fun h=>?_) (fun h=>?_)) <;> (simp -implicitDefEqProofs -proj only [go_sem,seval, *]; try (revert h; intro _)))
  | ((with_reducible first | refine AK (fun _ hb=>?_) | refine As (fun _ hb=>?_)); simp only [EB,ED,Aa,Heap.none_get,and_true,true_and] at hb; simp -implicitDefEqProofs -proj only [go_sem,seval, *]; try (revert hb; intro _))
  | ((with_reducible first | refine D5 _ rfl (by simp) ?_ | refine D8 _ rfl (by simp) ?_); simp -implicitDefEqProofs -proj only [go_sem,seval, *])
  | (with_reducible refine Ae ?_ (fun h=>?_); first | ((focus first | decide | omega); try clear h; try simp -implicitDefEqProofs -proj only [go_sem,seval, *]) | (rotate_left; try clear h; try simp -implicitDefEqProofs -proj only [go_sem,seval, *]; rotate_right)))
 refine Eb h2 ?_
 simp -implicitDefEqProofs -proj only [go_sem,seval, *]
 (repeat' first
  | ((with_reducible first | refine EA (fun h=>?_) (fun h=>?_) | refine BJ (fun h=>?_) (fun h=>?_) | refine EC (fun h=>?_) (fun h=>?_)) <;> (simp -implicitDefEqProofs -proj only [go_sem,seval, *]; try (revert h; intro _)))
  | ((with_reducible first | refine AK (fun _ hb=>?_) | refine As (fun _ hb=>?_)); simp only [EB,ED,Aa,Heap.none_get,and_true,true_and] at hb; simp -implicitDefEqProofs -proj only [go_sem,seval, *]; try (revert hb; intro _))
  | ((with_reducible first | refine D5 _ rfl (by simp) ?_ | refine D8 _ rfl (by simp) ?_); simp -implicitDefEqProofs -proj only [go_sem,seval, *])
  | (with_reducible refine Ae ?_ (fun h=>?_); first | ((focus first | decide | omega); try clear h; try simp -implicitDefEqProofs -proj only [go_sem,seval, *]) | (rotate_left; try clear h; try simp -implicitDefEqProofs -proj only [go_sem,seval, *]; rotate_right)))
 refine Eb h3 ?_
 simp -implicitDefEqProofs -proj only [go_sem,seval, *]
 (repeat' first
  | ((with_reducible first | refine EA (fun h=>?_) (fun h=>?_) | refine BJ (fun h=>?_) (fun h=>?_) | refine EC (fun h=>?_) (fun h=>?_)) <;> (simp -implicitDefEqProofs -proj only [go_sem,seval, *]; try (revert h; intro _)))
  | ((with_reducible first | refine AK (fun _ hb=>?_) | refine As (fun _ hb=>?_)); simp only [EB,ED,Aa,Heap.none_get,and_true,true_and] at hb; simp -implicitDefEqProofs -proj only [go_sem,seval, *]; try (revert hb; intro _))
  | ((with_reducible first | refine D5 _ rfl (by simp) ?_ | refine D8 _ rfl (by simp) ?_); simp -implicitDefEqProofs -proj only [go_sem,seval, *])
  | (with_reducible refine Ae ?_ (fun h=>?_); first | ((focus first | decide | omega); try clear h; try simp -implicitDefEqProofs -proj only [go_sem,seval, *]) | (rotate_left; try clear h; try simp -implicitDefEqProofs -proj only [go_sem,seval, *]; rotate_right)))
 all_goals
  refine AH (OX ?_)
  clear h1 h2 h3
  try simp -implicitDefEqProofs only [decide_eq_true_eq,decide_eq_false_iff_not,Bool.not_eq_true',Bool.not_eq_false',Bool.and_eq_true,Bool.and_eq_false_iff,Bool.or_eq_true,Bool.or_eq_false_iff,beq_iff_eq,beq_eq_false_iff_ne,ne_eq,decide_eq_decide,Bool.not_eq_true,Bool.not_eq_false,IntKind.wrap_u64] at *
  try simp -implicitDefEqProofs only [←decide_not,←Bool.decide_and,←Bool.decide_or,Bool.beq_eq_decide_eq,AV.d.injEq,D.bool.injEq,D.int.injEq,D.str.injEq,AV.tup.injEq,AV.agg.injEq,List.cons.injEq,true_and,and_true,decide_eq_decide,true_eq_decide_iff,false_eq_decide_iff,decide_eq_true_eq,decide_eq_false_iff_not,Bool.false_eq_true,Bool.true_eq_false,reduceCtorEq,false_and,true_and,or_false,false_or]
  unfold Fit at hc
  try omega
set_option maxRecDepth 20000 in
set_option maxHeartbeats 2000000 in
theorem Na {a b c m:Int} (ha:Fit a) (hb:Fit b) (hc:Fit c):DataW Tryz.prog AVt [i64 a,i64 b,i64 c,i64 m] (If (a*b) c m):=by
 by_cases hh:0<c∧0≤m∧m≤3
 ·obtain ⟨hc0,hm⟩:=hh
  have h1:=Jf ha hb
  have hp:=Kx ha hb
  have h2:=ALF (p:=a*b) hc0 hc hp
  obtain ⟨q,r,d1,d2,d3,d4,d5,hr⟩:=LD (p:=a*b) (c:=c) (m:=m) hc0 hm
  rw [K4 hc0 hm]
  have c1:decide (c≤0)=false:=decide_eq_false (by omega)
  have c2:decide (m<0)=false:=decide_eq_false (by omega)
  have c3:decide (3<m)=false:=decide_eq_false (by omega)
  have hcw:IntKind.u64.wrap c=c:=Ey (by unfold Fit at hc; omega)
  have hE:=AEy (p:=a*b) (c:=c) (m:=m) hc0 hc hp
  generalize a*b=p at *
  refine AX Q3 (by simp) ?_
  by_cases hf : -9223372036854775808*c≤p
  ·have hcf:=RM hc0 hf
   rw [Lh,if_pos hf] at h2
   have h3:=Jf hcf hc
   have hq:=Kx hcf hc
   have h4:=NN (n:=Hu p c*c) (by unfold Ee; omega)
   have h5:=JR (a:=p) (b:=-(Hu p c*c)) (by omega) (by omega)
   have hn:Hu p c=if q≤9223372036854775807 then q else 9223372036854775807:=by rw [Hu,d4]
   obtain ⟨n,hn2⟩:∃n,Hu p c=n:=⟨_,rfl⟩
   rw [hn2] at hn h2 h3 h4 h5 hcf
   obtain ⟨d,hd⟩:∃d,p + -(n*c)=d:=⟨_,rfl⟩
   rw [hd] at h5
   have hd3:d.natAbs<340282366920938463463374607431768211456:=by rw [hn2] at hq; omega
   have key:n=q∧d=r∨n=9223372036854775807∧9223372036854775807<q∧c≤d:=by
    by_cases hqm:q≤9223372036854775807
    ·rw [if_pos hqm] at hn
     subst hn
     left; omega
    ·rw [if_neg hqm] at hn
     right
     refine ⟨hn,by omega,?_⟩
     have:=Int.mul_le_mul_of_nonneg_right (show 9223372036854775807+1≤q by omega) (Int.le_of_lt hc0)
     rw [Int.add_mul,←hn] at this
     omega
   generalize n*c=z at *
   clear hn hd hq hE d1 hf hn2
   clear d4 d5 hp
   simp -implicitDefEqProofs -proj only [go_sem,seval,c1,c2,c3]
   (repeat' first
  | (refine AJ (h1) ?_; simp -implicitDefEqProofs -proj only [go_sem,seval, *])
  | (refine Eb (h1) ?_; simp -implicitDefEqProofs -proj only [go_sem,seval, *])
  | (refine AJ (h2) ?_; simp -implicitDefEqProofs -proj only [go_sem,seval, *])
  | (refine Eb (h2) ?_; simp -implicitDefEqProofs -proj only [go_sem,seval, *])
  | (refine AJ (h3) ?_; simp -implicitDefEqProofs -proj only [go_sem,seval, *])
  | (refine Eb (h3) ?_; simp -implicitDefEqProofs -proj only [go_sem,seval, *])
  | (refine AJ (h4) ?_; simp -implicitDefEqProofs -proj only [go_sem,seval, *])
  | (refine Eb (h4) ?_; simp -implicitDefEqProofs -proj only [go_sem,seval, *])
  | (refine AJ (h5) ?_; simp -implicitDefEqProofs -proj only [go_sem,seval, *])
  | (refine Eb (h5) ?_; simp -implicitDefEqProofs -proj only [go_sem,seval, *])
  | ((with_reducible first | refine EA (fun h=>?_) (fun h=>?_) | refine BJ (fun h=>?_) (fun h=>?_) | refine EC (fun h=>?_) (fun h=>?_)) <;> (simp -implicitDefEqProofs -proj only [go_sem,seval, *]; try (revert h; intro _)))
  | ((with_reducible first | refine AK (fun _ hb=>?_) | refine As (fun _ hb=>?_)); simp -implicitDefEqProofs only [EB,ED,Aa,Heap.none_get,and_true,true_and] at hb; simp -implicitDefEqProofs -proj only [go_sem,seval, *]; try (revert hb; intro _))
  | ((with_reducible first | refine D5 _ rfl (by simp) ?_ | refine D8 _ rfl (by simp) ?_); simp -implicitDefEqProofs -proj only [go_sem,seval, *])
  | (with_reducible refine Ae ?_ (fun h=>?_); first | ((focus first | decide | omega); try clear h; try simp -implicitDefEqProofs -proj only [go_sem,seval, *]) | (rotate_left; try clear h; try simp -implicitDefEqProofs -proj only [go_sem,seval, *]; rotate_right)))
   all_goals
    refine AH (Ir ?_)
    clear h1 h2 h3 h4 h5
    have ht:n.tmod 2=0↔n % 2=0:=⟨fun h=>Int.emod_eq_zero_of_dvd (Int.dvd_of_tmod_eq_zero h),fun h=>Int.tmod_eq_zero_of_dvd (Int.dvd_of_emod_eq_zero h)⟩
    simp -implicitDefEqProofs only [decide_eq_true_eq,decide_eq_false_iff_not,Bool.not_eq_true',Bool.not_eq_false',Bool.and_eq_true,Bool.and_eq_false_iff,Bool.or_eq_true,Bool.or_eq_false_iff,beq_iff_eq,beq_eq_false_iff_ne,ne_eq,decide_eq_decide,Bool.not_eq_true,Bool.not_eq_false,IntKind.wrap_u64,IntKind.wrap_i64] at *
    simp -implicitDefEqProofs only [Bool.false_eq_true,reduceCtorEq,true_and,false_and,or_false,false_or]
    unfold Fs at hr
    unfold Fit at *
    generalize Ed p c m=R at *
    omega
  ·rw [Lh,if_neg hf] at h2
   have h3:=Jf (x:=0) (y:=c) (by decide) hc
   have h4:=NN (n:=0) (by unfold Ee; decide)
   have h5:=JR (a:=p) (b:=0) (by omega) (by decide)
   rw [Int.zero_mul] at h3
   rw [Int.neg_zero] at h4
   rw [Int.add_zero] at h5
   have hq1:q < -9223372036854775808:=by
    rw [←d4,Int.ediv_lt_iff_lt_mul hc0]; omega
   have hd : -9223372036854775808*c-p=(-9223372036854775808-q)*c-r:=by rw [Int.sub_mul]; omega
   obtain ⟨d,hd2⟩:∃d,-9223372036854775808*c-p=d:=⟨_,rfl⟩
   rw [hd2] at hd hE
   have key:q = -9223372036854775809∧d=c-r∨q < -9223372036854775809∧c<d:=by
    by_cases hqm:q = -9223372036854775809
    ·left; subst hqm; exact ⟨rfl,by omega⟩
    ·right
     have:=Int.mul_le_mul_of_nonneg_right (show 2≤-9223372036854775808-q by omega) (Int.le_of_lt hc0)
     omega
   have res:FX (Ed p c m)=Jc d c m:=by
    symm
    by_cases hf:Fit (Ed p c m)
    ·rw [GI hf]
     symm
     refine OX ?_
     unfold Fit at hf
     unfold Fs at hr
     generalize Ed p c m=R at *
     simp -implicitDefEqProofs only [Bool.true_eq_false,Bool.false_eq_true,reduceCtorEq,true_and,false_and,or_false,false_or]
     omega
    ·rw [HN hf]
     symm
     refine OX ?_
     unfold Fit at hf
     unfold Fs at hr
     generalize Ed p c m=R at *
     simp -implicitDefEqProofs only [Bool.true_eq_false,Bool.false_eq_true,reduceCtorEq,true_and,false_and,or_false,false_or]
     omega
   rw [res]
   have ee:Jc d c m = .tup [i64 (-9223372036854775808),bv true]∨Jc d c m = .tup [i64 0,bv false]:=by
    unfold Jc; split
    ·exact .inl rfl
    ·exact .inr rfl
   generalize Jc d c m=R at *
   clear key hd hd2 res d1 d4 d5 hr hf hp
   rcases ee with rfl | rfl
   all_goals
    simp -implicitDefEqProofs -proj only [go_sem,seval,c1,c2,c3]
    (repeat' first
  | (refine AJ (h1) ?_; simp -implicitDefEqProofs -proj only [go_sem,seval, *])
  | (refine Eb (h1) ?_; simp -implicitDefEqProofs -proj only [go_sem,seval, *])
  | (refine AJ (h2) ?_; simp -implicitDefEqProofs -proj only [go_sem,seval, *])
  | (refine Eb (h2) ?_; simp -implicitDefEqProofs -proj only [go_sem,seval, *])
  | (refine AJ (h3) ?_; simp -implicitDefEqProofs -proj only [go_sem,seval, *])
  | (refine Eb (h3) ?_; simp -implicitDefEqProofs -proj only [go_sem,seval, *])
  | (refine AJ (h4) ?_; simp -implicitDefEqProofs -proj only [go_sem,seval, *])
  | (refine Eb (h4) ?_; simp -implicitDefEqProofs -proj only [go_sem,seval, *])
  | (refine AJ (h5) ?_; simp -implicitDefEqProofs -proj only [go_sem,seval, *])
  | (refine Eb (h5) ?_; simp -implicitDefEqProofs -proj only [go_sem,seval, *])
  | (refine AJ (hE) ?_; simp -implicitDefEqProofs -proj only [go_sem,seval, *])
  | (refine Eb (hE) ?_; simp -implicitDefEqProofs -proj only [go_sem,seval, *])
  | ((with_reducible first | refine EA (fun h=>?_) (fun h=>?_) | refine BJ (fun h=>?_) (fun h=>?_) | refine EC (fun h=>?_) (fun h=>?_)) <;> (simp -implicitDefEqProofs -proj only [go_sem,seval, *]; try (revert h; intro _)))
  | ((with_reducible first | refine AK (fun _ hb=>?_) | refine As (fun _ hb=>?_)); simp -implicitDefEqProofs only [EB,ED,Aa,Heap.none_get,and_true,true_and] at hb; simp -implicitDefEqProofs -proj only [go_sem,seval, *]; try (revert hb; intro _))
  | ((with_reducible first | refine D5 _ rfl (by simp) ?_ | refine D8 _ rfl (by simp) ?_); simp -implicitDefEqProofs -proj only [go_sem,seval, *])
  | (with_reducible refine Ae ?_ (fun h=>?_); first | ((focus first | decide | omega); try clear h; try simp -implicitDefEqProofs -proj only [go_sem,seval, *]) | (rotate_left; try clear h; try simp -implicitDefEqProofs -proj only [go_sem,seval, *]; rotate_right)))
    all_goals exact AH rfl
 ·rw [NH hh]
  refine AX Q3 (by simp) ?_
  simp -implicitDefEqProofs -proj only [go_sem,seval]
  (repeat' first
  | ((with_reducible first | refine EA (fun h=>?_) (fun h=>?_) | refine BJ (fun h=>?_) (fun h=>?_) | refine EC (fun h=>?_) (fun h=>?_)) <;> (simp -implicitDefEqProofs -proj only [go_sem,seval, *]; try (revert h; intro _)))
  | ((with_reducible first | refine AK (fun _ hb=>?_) | refine As (fun _ hb=>?_)); simp only [EB,ED,Aa,Heap.none_get,and_true,true_and] at hb; simp -implicitDefEqProofs -proj only [go_sem,seval, *]; try (revert hb; intro _))
  | ((with_reducible first | refine D5 _ rfl (by simp) ?_ | refine D8 _ rfl (by simp) ?_); simp -implicitDefEqProofs -proj only [go_sem,seval, *])
  | (with_reducible refine Ae ?_ (fun h=>?_); first | ((focus first | decide | omega); try clear h; try simp -implicitDefEqProofs -proj only [go_sem,seval, *]) | (rotate_left; try clear h; try simp -implicitDefEqProofs -proj only [go_sem,seval, *]; rotate_right)))
  all_goals first | exact AH rfl | (exfalso; simp -implicitDefEqProofs only [decide_eq_true_eq,decide_eq_false_iff_not,Bool.not_eq_true',Bool.not_eq_false',Bool.and_eq_true,Bool.and_eq_false_iff,Bool.or_eq_true,Bool.or_eq_false_iff,beq_iff_eq,beq_eq_false_iff_ne,ne_eq,decide_eq_decide,Bool.not_eq_true,Bool.not_eq_false] at *; omega)
end
theorem Vk {x:PartX} {q:Int} (hx:x.Fit) (hq:Fit q) (ha:0≤x.al) (hb:1≤x.bl):DataW Tryz.prog Vy [GA x,i64 q] (if q<0 then .tup [i64 0,bv false] else FX (JU x q)):=by
 refine AX Uj (by simp) ?_
 simp -implicitDefEqProofs -proj only [go_sem,seval]
 refine AK (fun b2 hb2=>?_)
 by_cases h:q<0
 ·rw [if_pos h]
  simp -implicitDefEqProofs -proj only [go_sem,seval,decide_eq_true h]
  exact AH rfl
 ·rw [if_neg h]
  have hal:=hx.al
  have hbl:=hx.bl
  unfold Fit at hal hq
  have hw:IntKind.i64.wrap (q-x.al)=q-x.al:=by rw [IntKind.wrap_i64]; omega
  have hf:Fit (Ed (max (q-x.al) 0) x.bl 1):=by
   have:=Pt (a:=max (q-x.al) 0) (c:=x.bl) (m:=1) (by omega) (by decide) (by omega)
   unfold Fit
   omega
  have h1:=Na (a:=max (q-x.al) 0) (b:=1) (c:=x.bl) (m:=1) (by unfold Fit; omega) (by decide) hbl
  rw [Int.mul_one,K4 (by omega) (by decide),GI hf] at h1
  have h2:=Jf hf hbl
  have h3:=KT (n:=Ed (max (q-x.al) 0) x.bl 1*x.bl) (by have:=Kx hf hbl; unfold Ee; omega)
  unfold JU
  generalize Ed (max (q-x.al) 0) x.bl 1=k at *
  simp -implicitDefEqProofs -proj only [go_sem,seval,decide_eq_false h,hw]
  refine AJ h1 ?_
  simp -implicitDefEqProofs -proj only [go_sem,seval]
  refine AJ h2 ?_
  simp -implicitDefEqProofs -proj only [go_sem,seval]
  refine AJ h3 ?_
  unfold FX
  simp -implicitDefEqProofs -proj only [go_sem,seval]
  exact AH rfl
theorem Nm {l:List TStep}:∀el∈D6 l,∀d∈el,Gr d=true:=by
 intro el he d hd
 obtain ⟨r,_,rfl⟩:=List.mem_map.1 he
 simp -implicitDefEqProofs only [TStep.el,List.mem_cons,List.not_mem_nil,or_false] at hd
 rcases hd with rfl | rfl | rfl <;> rfl
theorem YO {l:List TStep} {i:Nat} (h:i<l.length):(D6 l)[((i:Int)).toNat]? = some [.int .i64 l[i].f,.int .i64 l[i].t,.int .i64 l[i].r]:=by
 rw [Int.toNat_natCast]; simp [D6,h,TStep.el]
structure RsX where
 i:Nat
 c:Nat
 cap:Nat
theorem Ea {i c cap:Nat}:(RsX.mk i c cap).i=i:=(rfl)
theorem Eh {i c cap:Nat}:(RsX.mk i c cap).c=c:=(rfl)
theorem Ef {i c cap:Nat}:(RsX.mk i c cap).cap=cap:=(rfl)
theorem L5 {T:List Tier} {q:Int}:∀i,(refN T q i).length≤i
 | 0=>Nat.le_refl _
 | i+1=>by
  have:=L5 (T:=T) (q:=q) i
  rw [refN]
  split
  ·simp -implicitDefEqProofs only [List.length_append,List.length_singleton]; omega
  ·omega
def FF (b2:Nat) (x:PartX) (q:Int) (y:RsX):List (Nat×Blk):=Ai 157 3 y.c y.cap (D6 (refN x.ts q y.i))++[(b2,.box 40 [i64 x.me,i64 x.f,i64 x.t,i64 x.al,i64 x.bl,i64 x.ki,EM x.ts,i64 x.mo,ET x.ad])]
set_option maxRecDepth 20000 in
theorem WD {x:PartX} {q:Int} (hl:x.ts.length≤1000000) (hn0:1≤x.ts.length):NewW Tryz.prog AFI [GA x,i64 q] (QU (if x.ki=2 then IG x.ts q else Nr x.ts q)):=by
 have hwl:IntKind.i64.wrap ((x.ts.length:Int)-1)=(x.ts.length:Int)-1:=by rw [IntKind.wrap_i64]; omega
 refine AX AKU (by simp) ?_
 simp -implicitDefEqProofs -proj only [go_sem,seval]
 refine AK (fun b2 hb2=>?_)
 have c2:=HK (x:=.box 40 [i64 x.me,i64 x.f,i64 x.t,i64 x.al,i64 x.bl,i64 x.ki,EM x.ts,i64 x.mo,ET x.ad]) hb2 (l:=[]) trivial
 have n2:=IB (x:=.box 40 [i64 x.me,i64 x.f,i64 x.t,i64 x.al,i64 x.bl,i64 x.ki,EM x.ts,i64 x.mo,ET x.ad]) hb2 (l:=[]) trivial List.nodup_nil
 by_cases hk:x.ki=2
 ·rw [if_pos hk]
  simp -implicitDefEqProofs -proj only [go_sem,seval,Ep,hwl,decide_eq_true hk]
  refine D9 (fun i:Nat=>i≤x.ts.length∧IG x.ts q=Gv x.ts q (x.ts.length-i)) 91 (fun i=>[(21,EM x.ts),(22,i64 x.ts.length),(23,i64 i),(6,i64 ((x.ts.length:Int)-1)),(1,i64 q),(5,.nilsl 0)]) (fun _=>[]) (fun i=>x.ts.length-i) 0 ⟨Nat.zero_le _,rfl⟩ rfl ?_ ?_ ?_
  ·simp -implicitDefEqProofs -proj only [go_sem,seval,AM]
  ·trivial
  ·rintro i ⟨hi,hv⟩
   by_cases h:i<x.ts.length
   ·have hel:=IU h
    obtain ⟨n,hn⟩:∃n,x.ts.length-i=n+1:=⟨x.ts.length-i-1,by omega⟩
    have hg:Gv x.ts q (n+1)=if n=0∨q≤x.ts[i].u then (if 0<q then [⟨0,q,x.ts[i].r⟩] else []) else Gv x.ts q n:=by
     rw [Gv,show x.ts.length-(n+1)=i by omega,List.getElem?_eq_getElem h]
    rw [hn,hg] at hv
    generalize x.ts[i]=t at *
    simp -implicitDefEqProofs -proj only [go_sem,seval,decide_eq_true (show (i:Int)<x.ts.length by omega)]
    refine Ah _ (by omega) hel ?_
    simp -implicitDefEqProofs -proj only [go_sem,seval]
    refine AK (fun b8 hb8=>?_)
    replace hb8:Ab [] b8=none:=hb8
    by_cases hn0:n=0
    ·rw [if_pos (show n=0∨q≤t.u from .inl hn0)] at hv
     simp -implicitDefEqProofs -proj only [go_sem,seval,decide_eq_true (show (i:Int)=(x.ts.length:Int)-1 by omega)]
     by_cases hq:0<q
     ·rw [if_pos hq] at hv
      simp -implicitDefEqProofs -proj only [go_sem,seval,decide_eq_true hq]
      refine As (fun bs hs=>?_)
      simp -implicitDefEqProofs -proj only [go_sem,seval]
      refine Ff (xs:=[]) (y:=[.int .i64 0,.int .i64 q,.int .i64 t.r]) (t:=157) (e:=157) (c:=0) (cap:=0) (z0:=0) (capc:=1) [] rfl trivial List.nodup_nil (by simp -implicitDefEqProofs -proj only [go_sem,seval]) (by decide) (by decide) (fun H' c' cap' ha hk=>?_)
      simp -implicitDefEqProofs -proj only [go_sem,seval]
      rw [hv]
      exact LZ (z:=3) (xs:=D6 [⟨0,q,t.r⟩]) (EF.1 ha).1 Nm
     ·rw [if_neg hq] at hv
      simp -implicitDefEqProofs -proj only [go_sem,seval,decide_eq_false hq]
      rw [hv]
      exact .nilsl _ _
    ·by_cases hu:q≤t.u
     ·rw [if_pos (show n=0∨q≤t.u from .inr hu)] at hv
      simp -implicitDefEqProofs -proj only [go_sem,seval,decide_eq_false (show ¬(i:Int)=(x.ts.length:Int)-1 by omega),decide_eq_true hu]
      by_cases hq:0<q
      ·rw [if_pos hq] at hv
       simp -implicitDefEqProofs -proj only [go_sem,seval,decide_eq_true hq]
       refine As (fun bs hs=>?_)
       simp -implicitDefEqProofs -proj only [go_sem,seval]
       refine Ff (xs:=[]) (y:=[.int .i64 0,.int .i64 q,.int .i64 t.r]) (t:=157) (e:=157) (c:=0) (cap:=0) (z0:=0) (capc:=1) [] rfl trivial List.nodup_nil (by simp -implicitDefEqProofs -proj only [go_sem,seval]) (by decide) (by decide) (fun H' c' cap' ha hk=>?_)
       simp -implicitDefEqProofs -proj only [go_sem,seval]
       rw [hv]
       exact LZ (z:=3) (xs:=D6 [⟨0,q,t.r⟩]) (EF.1 ha).1 Nm
      ·rw [if_neg hq] at hv
       simp -implicitDefEqProofs -proj only [go_sem,seval,decide_eq_false hq]
       rw [hv]
       exact .nilsl _ _
     ·rw [if_neg (show ¬(n=0∨q≤t.u) by omega)] at hv
      simp -implicitDefEqProofs -proj only [go_sem,seval,decide_eq_false (show ¬(i:Int)=(x.ts.length:Int)-1 by omega),decide_eq_false hu]
      refine Ad (i+1) ⟨by omega,by rw [hv]; congr 1; omega⟩ (by omega) rfl ?_ trivial
      simp -implicitDefEqProofs -proj only [go_sem,seval,AM,AP (show i<9223372036854775807 by omega)]
   ·have hi':i=x.ts.length:=by omega
    subst hi'
    rw [Nat.sub_self] at hv
    simp -implicitDefEqProofs -proj only [go_sem,seval,decide_eq_false (show ¬(x.ts.length:Int)<x.ts.length by omega)]
    rw [hv]
    exact .nilsl _ _
 ·rw [if_neg hk]
  simp -implicitDefEqProofs -proj only [go_sem,seval,Ep,hwl,decide_eq_false hk]
  refine D9 (fun y:RsX=>y.i≤x.ts.length∧(AT (FF b2 x q y)).Nodup) 91 (fun y=>[(50,EM x.ts),(51,i64 x.ts.length),(52,i64 y.i),(6,i64 ((x.ts.length:Int)-1)),(1,i64 q),(2,.ptr b2 0),(5,A0 0 3 y.c y.cap (D6 (refN x.ts q y.i)))]) (FF b2 x q) (fun y=>x.ts.length-y.i) ⟨0,0,0⟩ ⟨Nat.zero_le _,n2⟩ rfl ?_ ?_ ?_
  ·simp -implicitDefEqProofs -proj only [go_sem,seval,AM,Ea,Eh,Ef]
   rfl
  ·simp -implicitDefEqProofs -proj only [go_sem,seval]
   exact c2
  ·rintro ⟨i,c,cap⟩ ⟨hi,hn⟩
   simp -implicitDefEqProofs only [Ea] at hi
   have hall:=EQ hn
   obtain ⟨H,hH⟩:∃H,Ab (FF b2 x q ⟨i,c,cap⟩)=H:=⟨_,rfl⟩
   rw [hH] at hall
   simp -implicitDefEqProofs only [FF,Ea,Eh,Ef] at hall hn
   obtain ⟨hrow,h2,_⟩:=EF.1 hall
   simp -implicitDefEqProofs -proj only [go_sem,seval,Ea,Eh,Ef,hH]
   by_cases h:i<x.ts.length
   ·have hel:=IU h
    have hN:=refN.eq_2 x.ts q i
    have hlen:=L5 (T:=x.ts) (q:=q) i
    have hlen1:=L5 (T:=x.ts) (q:=q) (i+1)
    have hu:=KH h
    have hr:=MJ h
    rw [←hu,←hr] at hel
    clear hu hr
    generalize hR:refN x.ts q i=R at *
    generalize hR1:refN x.ts q (i+1)=R1 at *
    have hhi:J3 x.ts q i=if i+1<x.ts.length∧Gg x.ts i<q then Gg x.ts i else q:=rfl
    generalize J3 x.ts q i=hi' at *
    generalize Gg x.ts i=u at *
    generalize I9 x.ts i=r at *
    simp -implicitDefEqProofs -proj only [go_sem,seval,decide_eq_true (show (i:Int)<x.ts.length by omega)]
    refine Ah _ (by omega) hel ?_
    simp -implicitDefEqProofs -proj only [go_sem,seval]
    refine AK (fun b10 hb10=>?_)
    replace hb10:H b10=none:=hb10
    obtain ⟨m1,m2⟩:=AI hb10 h2
    by_cases h0:i=0
    ·have hlow:GK x.ts i=0:=if_pos h0
     rw [hlow] at hN
     simp -implicitDefEqProofs -proj only [go_sem,seval,m1,h2,decide_eq_false (show ¬0<(i:Int) by omega)]
     by_cases g1:i+1<x.ts.length
     ·by_cases g2:u<q
      ·rw [if_pos ⟨g1,g2⟩] at hhi
       rw [hhi] at hN
       simp -implicitDefEqProofs -proj only [go_sem,seval,m1,h2,decide_eq_true (show (i:Int)<(x.ts.length:Int)-1 by omega),decide_eq_true g2]
       by_cases hem:0<u
       ·rw [if_pos hem] at hN
        simp -implicitDefEqProofs -proj only [go_sem,seval,m1,h2,decide_eq_true hem]
        refine As (fun bs hs=>?_)
        replace hs:upd H b10 _ bs=none:=hs
        simp -implicitDefEqProofs -proj only [go_sem,seval]
        refine Ff (xs:=D6 R) (y:=[.int .i64 0,.int .i64 u,.int .i64 r]) (t:=157) (capc:=1) [(b2,.box 40 [i64 x.me,i64 x.f,i64 x.t,i64 x.al,i64 x.bl,i64 x.ki,EM x.ts,i64 x.mo,ET x.ad])] rfl (An hs (An hb10 hall)) hn (by simp -implicitDefEqProofs -proj only [go_sem,seval]) (by rw [HY]; omega) (by rw [HY]; omega) (fun H' c' cap' ha hk=>?_)
        rw [show D6 R++[[.int .i64 0,.int .i64 u,.int .i64 r]]=D6 R1 by rw [hN]; simp [D6,TStep.el]] at ha hk
        have hne:D6 R1≠[]:=by rw [hN]; simp [D6]
        have hl1:(D6 R1).length=(D6 R).length+1:=by rw [hN]; simp [D6]
        simp -implicitDefEqProofs -proj only [go_sem,seval]
        refine Ad ⟨i+1,c',cap'⟩ ⟨by show i+1≤x.ts.length; omega,by simp -implicitDefEqProofs only [FF,Ea,Eh,Ef,hR1]; exact hk⟩ (by show x.ts.length-(i+1)<x.ts.length-i; omega) rfl ?_ (by simp -implicitDefEqProofs only [FF,Ea,Eh,Ef,hR1]; exact ha)
        simp -implicitDefEqProofs -proj only [go_sem,seval,AM,Ea,Eh,Ef,AP (show i<9223372036854775807 by omega),hR1,Ex hne,hl1]
       ·rw [if_neg hem] at hN
        simp -implicitDefEqProofs -proj only [go_sem,seval,m1,h2,decide_eq_false hem]
        refine Ad ⟨i+1,c,cap⟩ ⟨by show i+1≤x.ts.length; omega,by simp -implicitDefEqProofs only [FF,Ea,Eh,Ef,hR1,hN]; exact hn⟩ (by show x.ts.length-(i+1)<x.ts.length-i; omega) rfl ?_ (by simp -implicitDefEqProofs only [FF,Ea,Eh,Ef,hR1,hN]; exact An hb10 hall)
        simp -implicitDefEqProofs -proj only [go_sem,seval,AM,Ea,Eh,Ef,AP (show i<9223372036854775807 by omega),hR1,hN]
      ·rw [if_neg (fun h=>g2 h.2)] at hhi
       rw [hhi] at hN
       simp -implicitDefEqProofs -proj only [go_sem,seval,m1,h2,decide_eq_true (show (i:Int)<(x.ts.length:Int)-1 by omega),decide_eq_false g2]
       by_cases hem:0<q
       ·rw [if_pos hem] at hN
        simp -implicitDefEqProofs -proj only [go_sem,seval,m1,h2,decide_eq_true hem]
        refine As (fun bs hs=>?_)
        replace hs:upd H b10 _ bs=none:=hs
        simp -implicitDefEqProofs -proj only [go_sem,seval]
        refine Ff (xs:=D6 R) (y:=[.int .i64 0,.int .i64 q,.int .i64 r]) (t:=157) (capc:=1) [(b2,.box 40 [i64 x.me,i64 x.f,i64 x.t,i64 x.al,i64 x.bl,i64 x.ki,EM x.ts,i64 x.mo,ET x.ad])] rfl (An hs (An hb10 hall)) hn (by simp -implicitDefEqProofs -proj only [go_sem,seval]) (by rw [HY]; omega) (by rw [HY]; omega) (fun H' c' cap' ha hk=>?_)
        rw [show D6 R++[[.int .i64 0,.int .i64 q,.int .i64 r]]=D6 R1 by rw [hN]; simp [D6,TStep.el]] at ha hk
        have hne:D6 R1≠[]:=by rw [hN]; simp [D6]
        have hl1:(D6 R1).length=(D6 R).length+1:=by rw [hN]; simp [D6]
        simp -implicitDefEqProofs -proj only [go_sem,seval]
        refine Ad ⟨i+1,c',cap'⟩ ⟨by show i+1≤x.ts.length; omega,by simp -implicitDefEqProofs only [FF,Ea,Eh,Ef,hR1]; exact hk⟩ (by show x.ts.length-(i+1)<x.ts.length-i; omega) rfl ?_ (by simp -implicitDefEqProofs only [FF,Ea,Eh,Ef,hR1]; exact ha)
        simp -implicitDefEqProofs -proj only [go_sem,seval,AM,Ea,Eh,Ef,AP (show i<9223372036854775807 by omega),hR1,Ex hne,hl1]
       ·rw [if_neg hem] at hN
        simp -implicitDefEqProofs -proj only [go_sem,seval,m1,h2,decide_eq_false hem]
        refine Ad ⟨i+1,c,cap⟩ ⟨by show i+1≤x.ts.length; omega,by simp -implicitDefEqProofs only [FF,Ea,Eh,Ef,hR1,hN]; exact hn⟩ (by show x.ts.length-(i+1)<x.ts.length-i; omega) rfl ?_ (by simp -implicitDefEqProofs only [FF,Ea,Eh,Ef,hR1,hN]; exact An hb10 hall)
        simp -implicitDefEqProofs -proj only [go_sem,seval,AM,Ea,Eh,Ef,AP (show i<9223372036854775807 by omega),hR1,hN]
     ·rw [if_neg (fun h=>g1 h.1)] at hhi
      rw [hhi] at hN
      simp -implicitDefEqProofs -proj only [go_sem,seval,m1,h2,decide_eq_false (show ¬(i:Int)<(x.ts.length:Int)-1 by omega)]
      by_cases hem:0<q
      ·rw [if_pos hem] at hN
       simp -implicitDefEqProofs -proj only [go_sem,seval,m1,h2,decide_eq_true hem]
       refine As (fun bs hs=>?_)
       replace hs:upd H b10 _ bs=none:=hs
       simp -implicitDefEqProofs -proj only [go_sem,seval]
       refine Ff (xs:=D6 R) (y:=[.int .i64 0,.int .i64 q,.int .i64 r]) (t:=157) (capc:=1) [(b2,.box 40 [i64 x.me,i64 x.f,i64 x.t,i64 x.al,i64 x.bl,i64 x.ki,EM x.ts,i64 x.mo,ET x.ad])] rfl (An hs (An hb10 hall)) hn (by simp -implicitDefEqProofs -proj only [go_sem,seval]) (by rw [HY]; omega) (by rw [HY]; omega) (fun H' c' cap' ha hk=>?_)
       rw [show D6 R++[[.int .i64 0,.int .i64 q,.int .i64 r]]=D6 R1 by rw [hN]; simp [D6,TStep.el]] at ha hk
       have hne:D6 R1≠[]:=by rw [hN]; simp [D6]
       have hl1:(D6 R1).length=(D6 R).length+1:=by rw [hN]; simp [D6]
       simp -implicitDefEqProofs -proj only [go_sem,seval]
       refine Ad ⟨i+1,c',cap'⟩ ⟨by show i+1≤x.ts.length; omega,by simp -implicitDefEqProofs only [FF,Ea,Eh,Ef,hR1]; exact hk⟩ (by show x.ts.length-(i+1)<x.ts.length-i; omega) rfl ?_ (by simp -implicitDefEqProofs only [FF,Ea,Eh,Ef,hR1]; exact ha)
       simp -implicitDefEqProofs -proj only [go_sem,seval,AM,Ea,Eh,Ef,AP (show i<9223372036854775807 by omega),hR1,Ex hne,hl1]
      ·rw [if_neg hem] at hN
       simp -implicitDefEqProofs -proj only [go_sem,seval,m1,h2,decide_eq_false hem]
       refine Ad ⟨i+1,c,cap⟩ ⟨by show i+1≤x.ts.length; omega,by simp -implicitDefEqProofs only [FF,Ea,Eh,Ef,hR1,hN]; exact hn⟩ (by show x.ts.length-(i+1)<x.ts.length-i; omega) rfl ?_ (by simp -implicitDefEqProofs only [FF,Ea,Eh,Ef,hR1,hN]; exact An hb10 hall)
       simp -implicitDefEqProofs -proj only [go_sem,seval,AM,Ea,Eh,Ef,AP (show i<9223372036854775807 by omega),hR1,hN]
    ·have hep:=IU (l:=x.ts) (i:=i-1) (by omega)
     have wi:IntKind.i64.wrap ((i:Int)-1)=((i-1:Nat):Int):=by rw [IntKind.wrap_i64]; omega
     have hlow:GK x.ts i=Gg x.ts (i-1):=if_neg h0
     rw [←KH (show i-1<x.ts.length by omega)] at hep
     rw [hlow] at hN
     generalize Gg x.ts (i-1)=lo at *
     simp -implicitDefEqProofs -proj only [go_sem,seval,m1,h2,decide_eq_true (show 0<(i:Int) by omega),wi]
     (repeat' (with_reducible refine Ae ?_ (fun h=>?_); (focus first | decide | omega); clear h; try simp -implicitDefEqProofs -proj only [go_sem,seval,wi]))
     refine Ah _ (by omega) hep ?_
     simp -implicitDefEqProofs -proj only [go_sem,seval,m1,h2]
     by_cases g1:i+1<x.ts.length
     ·by_cases g2:u<q
      ·rw [if_pos ⟨g1,g2⟩] at hhi
       rw [hhi] at hN
       simp -implicitDefEqProofs -proj only [go_sem,seval,m1,h2,decide_eq_true (show (i:Int)<(x.ts.length:Int)-1 by omega),decide_eq_true g2]
       by_cases hem:lo<u
       ·rw [if_pos hem] at hN
        simp -implicitDefEqProofs -proj only [go_sem,seval,m1,h2,decide_eq_true hem]
        refine As (fun bs hs=>?_)
        replace hs:upd H b10 _ bs=none:=hs
        simp -implicitDefEqProofs -proj only [go_sem,seval]
        refine Ff (xs:=D6 R) (y:=[.int .i64 lo,.int .i64 u,.int .i64 r]) (t:=157) (capc:=1) [(b2,.box 40 [i64 x.me,i64 x.f,i64 x.t,i64 x.al,i64 x.bl,i64 x.ki,EM x.ts,i64 x.mo,ET x.ad])] rfl (An hs (An hb10 hall)) hn (by simp -implicitDefEqProofs -proj only [go_sem,seval]) (by rw [HY]; omega) (by rw [HY]; omega) (fun H' c' cap' ha hk=>?_)
        rw [show D6 R++[[.int .i64 lo,.int .i64 u,.int .i64 r]]=D6 R1 by rw [hN]; simp [D6,TStep.el]] at ha hk
        have hne:D6 R1≠[]:=by rw [hN]; simp [D6]
        have hl1:(D6 R1).length=(D6 R).length+1:=by rw [hN]; simp [D6]
        simp -implicitDefEqProofs -proj only [go_sem,seval]
        refine Ad ⟨i+1,c',cap'⟩ ⟨by show i+1≤x.ts.length; omega,by simp -implicitDefEqProofs only [FF,Ea,Eh,Ef,hR1]; exact hk⟩ (by show x.ts.length-(i+1)<x.ts.length-i; omega) rfl ?_ (by simp -implicitDefEqProofs only [FF,Ea,Eh,Ef,hR1]; exact ha)
        simp -implicitDefEqProofs -proj only [go_sem,seval,AM,Ea,Eh,Ef,AP (show i<9223372036854775807 by omega),hR1,Ex hne,hl1]
       ·rw [if_neg hem] at hN
        simp -implicitDefEqProofs -proj only [go_sem,seval,m1,h2,decide_eq_false hem]
        refine Ad ⟨i+1,c,cap⟩ ⟨by show i+1≤x.ts.length; omega,by simp -implicitDefEqProofs only [FF,Ea,Eh,Ef,hR1,hN]; exact hn⟩ (by show x.ts.length-(i+1)<x.ts.length-i; omega) rfl ?_ (by simp -implicitDefEqProofs only [FF,Ea,Eh,Ef,hR1,hN]; exact An hb10 hall)
        simp -implicitDefEqProofs -proj only [go_sem,seval,AM,Ea,Eh,Ef,AP (show i<9223372036854775807 by omega),hR1,hN]
      ·rw [if_neg (fun h=>g2 h.2)] at hhi
       rw [hhi] at hN
       simp -implicitDefEqProofs -proj only [go_sem,seval,m1,h2,decide_eq_true (show (i:Int)<(x.ts.length:Int)-1 by omega),decide_eq_false g2]
       by_cases hem:lo<q
       ·rw [if_pos hem] at hN
        simp -implicitDefEqProofs -proj only [go_sem,seval,m1,h2,decide_eq_true hem]
        refine As (fun bs hs=>?_)
        replace hs:upd H b10 _ bs=none:=hs
        simp -implicitDefEqProofs -proj only [go_sem,seval]
        refine Ff (xs:=D6 R) (y:=[.int .i64 lo,.int .i64 q,.int .i64 r]) (t:=157) (capc:=1) [(b2,.box 40 [i64 x.me,i64 x.f,i64 x.t,i64 x.al,i64 x.bl,i64 x.ki,EM x.ts,i64 x.mo,ET x.ad])] rfl (An hs (An hb10 hall)) hn (by simp -implicitDefEqProofs -proj only [go_sem,seval]) (by rw [HY]; omega) (by rw [HY]; omega) (fun H' c' cap' ha hk=>?_)
        rw [show D6 R++[[.int .i64 lo,.int .i64 q,.int .i64 r]]=D6 R1 by rw [hN]; simp [D6,TStep.el]] at ha hk
        have hne:D6 R1≠[]:=by rw [hN]; simp [D6]
        have hl1:(D6 R1).length=(D6 R).length+1:=by rw [hN]; simp [D6]
        simp -implicitDefEqProofs -proj only [go_sem,seval]
        refine Ad ⟨i+1,c',cap'⟩ ⟨by show i+1≤x.ts.length; omega,by simp -implicitDefEqProofs only [FF,Ea,Eh,Ef,hR1]; exact hk⟩ (by show x.ts.length-(i+1)<x.ts.length-i; omega) rfl ?_ (by simp -implicitDefEqProofs only [FF,Ea,Eh,Ef,hR1]; exact ha)
        simp -implicitDefEqProofs -proj only [go_sem,seval,AM,Ea,Eh,Ef,AP (show i<9223372036854775807 by omega),hR1,Ex hne,hl1]
       ·rw [if_neg hem] at hN
        simp -implicitDefEqProofs -proj only [go_sem,seval,m1,h2,decide_eq_false hem]
        refine Ad ⟨i+1,c,cap⟩ ⟨by show i+1≤x.ts.length; omega,by simp -implicitDefEqProofs only [FF,Ea,Eh,Ef,hR1,hN]; exact hn⟩ (by show x.ts.length-(i+1)<x.ts.length-i; omega) rfl ?_ (by simp -implicitDefEqProofs only [FF,Ea,Eh,Ef,hR1,hN]; exact An hb10 hall)
        simp -implicitDefEqProofs -proj only [go_sem,seval,AM,Ea,Eh,Ef,AP (show i<9223372036854775807 by omega),hR1,hN]
     ·rw [if_neg (fun h=>g1 h.1)] at hhi
      rw [hhi] at hN
      simp -implicitDefEqProofs -proj only [go_sem,seval,m1,h2,decide_eq_false (show ¬(i:Int)<(x.ts.length:Int)-1 by omega)]
      by_cases hem:lo<q
      ·rw [if_pos hem] at hN
       simp -implicitDefEqProofs -proj only [go_sem,seval,m1,h2,decide_eq_true hem]
       refine As (fun bs hs=>?_)
       replace hs:upd H b10 _ bs=none:=hs
       simp -implicitDefEqProofs -proj only [go_sem,seval]
       refine Ff (xs:=D6 R) (y:=[.int .i64 lo,.int .i64 q,.int .i64 r]) (t:=157) (capc:=1) [(b2,.box 40 [i64 x.me,i64 x.f,i64 x.t,i64 x.al,i64 x.bl,i64 x.ki,EM x.ts,i64 x.mo,ET x.ad])] rfl (An hs (An hb10 hall)) hn (by simp -implicitDefEqProofs -proj only [go_sem,seval]) (by rw [HY]; omega) (by rw [HY]; omega) (fun H' c' cap' ha hk=>?_)
       rw [show D6 R++[[.int .i64 lo,.int .i64 q,.int .i64 r]]=D6 R1 by rw [hN]; simp [D6,TStep.el]] at ha hk
       have hne:D6 R1≠[]:=by rw [hN]; simp [D6]
       have hl1:(D6 R1).length=(D6 R).length+1:=by rw [hN]; simp [D6]
       simp -implicitDefEqProofs -proj only [go_sem,seval]
       refine Ad ⟨i+1,c',cap'⟩ ⟨by show i+1≤x.ts.length; omega,by simp -implicitDefEqProofs only [FF,Ea,Eh,Ef,hR1]; exact hk⟩ (by show x.ts.length-(i+1)<x.ts.length-i; omega) rfl ?_ (by simp -implicitDefEqProofs only [FF,Ea,Eh,Ef,hR1]; exact ha)
       simp -implicitDefEqProofs -proj only [go_sem,seval,AM,Ea,Eh,Ef,AP (show i<9223372036854775807 by omega),hR1,Ex hne,hl1]
      ·rw [if_neg hem] at hN
       simp -implicitDefEqProofs -proj only [go_sem,seval,m1,h2,decide_eq_false hem]
       refine Ad ⟨i+1,c,cap⟩ ⟨by show i+1≤x.ts.length; omega,by simp -implicitDefEqProofs only [FF,Ea,Eh,Ef,hR1,hN]; exact hn⟩ (by show x.ts.length-(i+1)<x.ts.length-i; omega) rfl ?_ (by simp -implicitDefEqProofs only [FF,Ea,Eh,Ef,hR1,hN]; exact An hb10 hall)
       simp -implicitDefEqProofs -proj only [go_sem,seval,AM,Ea,Eh,Ef,AP (show i<9223372036854775807 by omega),hR1,hN]
   ·have hi':i=x.ts.length:=by omega
    subst hi'
    simp -implicitDefEqProofs -proj only [go_sem,seval,decide_eq_false (show ¬(x.ts.length:Int)<x.ts.length by omega)]
    exact LZ hrow Nm
def Gs (a:Adj) (x:Int):Option Int :=
 if a.k=1 then ID (x*a.n) 100000 a.m
 else if a.k=2 then some (min x a.n)
 else if a.k=3 then some (max x a.n)
 else if a.k=4 then I0 (x+a.n)
 else none
def Ga:Int→List Adj→Option Int
 | x,[]=>some x
 | x,a::l=>match Gs a x with
  | some y=>Ga y l
  | none=>none
theorem OZ {n y:Int} (h:I0 n=some y):Fit y∧y=n:=by
 unfold I0 at h; split at h
 ·next hf=>cases h; exact ⟨hf,rfl⟩
 ·cases h
theorem Pj {p c m y:Int} (h:ID p c m=some y):Fit y∧y=Ed p c m∧0<c∧0≤m∧m≤3:=by
 unfold ID at h; split at h
 ·next hh=>exact ⟨(OZ h).1,(OZ h).2,hh⟩
 ·cases h
theorem O3 {a:Adj} {x y:Int} (ha:a.Fit) (hx:Fit x) (h:Gs a x=some y):Fit y:=by
 unfold Gs at h
 obtain ⟨_,hn,_⟩:=ha
 split at h
 ·exact (Pj h).1
 split at h
 ·cases h; unfold Fit at *; omega
 split at h
 ·cases h; unfold Fit at *; omega
 split at h
 ·exact (OZ h).1
 ·cases h
theorem S1 (o:Option Int):∃n u,D7 o = .tup [i64 n,bv u]:=by cases o <;> exact ⟨_,_,rfl⟩
theorem ZP {a:Adj} {x:Int} (ha:a.Fit) (hx:Fit x):DataW Tryz.prog WC [.agg [i64 a.k,i64 a.n,i64 a.m],i64 x] (D7 (Gs a x)):=by
 obtain ⟨k,n,m⟩:=a
 obtain ⟨hk,hn,hm⟩:=ha
 have h1:=NZ (a:=x) (b:=n) (c:=100000) (m:=m) hx hn (by decide)
 have h2:=Kr hx hn
 rw [Mu] at h1
 rw [PJ] at h2
 obtain ⟨n1,u1,e1⟩:=S1 (ID (x*n) 100000 m)
 obtain ⟨n2,u2,e2⟩:=S1 (I0 (x+n))
 rw [e1] at h1
 rw [e2] at h2
 refine AX ATe (by simp) ?_
 by_cases k1:k=1
 ·subst k1
  rw [show Gs ⟨1,n,m⟩ x=ID (x*n) 100000 m from rfl,e1]
  simp -implicitDefEqProofs -proj only [go_sem,seval,eq_self]
  (repeat' first
  | (refine AJ (h1) ?_; simp -implicitDefEqProofs -proj only [go_sem,seval, *])
  | (refine Eb (h1) ?_; simp -implicitDefEqProofs -proj only [go_sem,seval, *])
  | ((with_reducible first | refine EA (fun h=>?_) (fun h=>?_) | refine BJ (fun h=>?_) (fun h=>?_) | refine EC (fun h=>?_) (fun h=>?_)) <;> (simp -implicitDefEqProofs -proj only [go_sem,seval, *]; try (revert h; intro _)))
  | ((with_reducible first | refine AK (fun _ hb=>?_) | refine As (fun _ hb=>?_)); simp -implicitDefEqProofs only [EB,ED,Aa,Heap.none_get,and_true,true_and] at hb; simp -implicitDefEqProofs -proj only [go_sem,seval, *]; try (revert hb; intro _))
  | ((with_reducible first | refine D5 _ rfl (by simp) ?_ | refine D8 _ rfl (by simp) ?_); simp -implicitDefEqProofs -proj only [go_sem,seval, *])
  | (with_reducible refine Ae ?_ (fun h=>?_); first | ((focus first | decide | omega); try clear h; try simp -implicitDefEqProofs -proj only [go_sem,seval, *]) | (rotate_left; try clear h; try simp -implicitDefEqProofs -proj only [go_sem,seval, *]; rotate_right)))
  exact AH rfl
 by_cases k2:k=2
 ·subst k2
  rw [show Gs ⟨2,n,m⟩ x=some (min x n) from rfl,D7]
  simp -implicitDefEqProofs -proj only [go_sem,seval,eq_self]
  (repeat' first
  | ((with_reducible first | refine EA (fun h=>?_) (fun h=>?_) | refine BJ (fun h=>?_) (fun h=>?_) | refine EC (fun h=>?_) (fun h=>?_)) <;> (simp -implicitDefEqProofs -proj only [go_sem,seval, *]; try (revert h; intro _)))
  | ((with_reducible first | refine AK (fun _ hb=>?_) | refine As (fun _ hb=>?_)); simp only [EB,ED,Aa,Heap.none_get,and_true,true_and] at hb; simp -implicitDefEqProofs -proj only [go_sem,seval, *]; try (revert hb; intro _))
  | ((with_reducible first | refine D5 _ rfl (by simp) ?_ | refine D8 _ rfl (by simp) ?_); simp -implicitDefEqProofs -proj only [go_sem,seval, *])
  | (with_reducible refine Ae ?_ (fun h=>?_); first | ((focus first | decide | omega); try clear h; try simp -implicitDefEqProofs -proj only [go_sem,seval, *]) | (rotate_left; try clear h; try simp -implicitDefEqProofs -proj only [go_sem,seval, *]; rotate_right)))
  exact AH rfl
 by_cases k3:k=3
 ·subst k3
  rw [show Gs ⟨3,n,m⟩ x=some (max x n) from rfl,D7]
  simp -implicitDefEqProofs -proj only [go_sem,seval,eq_self]
  (repeat' first
  | ((with_reducible first | refine EA (fun h=>?_) (fun h=>?_) | refine BJ (fun h=>?_) (fun h=>?_) | refine EC (fun h=>?_) (fun h=>?_)) <;> (simp -implicitDefEqProofs -proj only [go_sem,seval, *]; try (revert h; intro _)))
  | ((with_reducible first | refine AK (fun _ hb=>?_) | refine As (fun _ hb=>?_)); simp only [EB,ED,Aa,Heap.none_get,and_true,true_and] at hb; simp -implicitDefEqProofs -proj only [go_sem,seval, *]; try (revert hb; intro _))
  | ((with_reducible first | refine D5 _ rfl (by simp) ?_ | refine D8 _ rfl (by simp) ?_); simp -implicitDefEqProofs -proj only [go_sem,seval, *])
  | (with_reducible refine Ae ?_ (fun h=>?_); first | ((focus first | decide | omega); try clear h; try simp -implicitDefEqProofs -proj only [go_sem,seval, *]) | (rotate_left; try clear h; try simp -implicitDefEqProofs -proj only [go_sem,seval, *]; rotate_right)))
  exact AH rfl
 by_cases k4:k=4
 ·subst k4
  rw [show Gs ⟨4,n,m⟩ x=I0 (x+n) from rfl,e2]
  simp -implicitDefEqProofs -proj only [go_sem,seval,eq_self]
  (repeat' first
  | (refine AJ (h2) ?_; simp -implicitDefEqProofs -proj only [go_sem,seval, *])
  | (refine Eb (h2) ?_; simp -implicitDefEqProofs -proj only [go_sem,seval, *])
  | ((with_reducible first | refine EA (fun h=>?_) (fun h=>?_) | refine BJ (fun h=>?_) (fun h=>?_) | refine EC (fun h=>?_) (fun h=>?_)) <;> (simp -implicitDefEqProofs -proj only [go_sem,seval, *]; try (revert h; intro _)))
  | ((with_reducible first | refine AK (fun _ hb=>?_) | refine As (fun _ hb=>?_)); simp -implicitDefEqProofs only [EB,ED,Aa,Heap.none_get,and_true,true_and] at hb; simp -implicitDefEqProofs -proj only [go_sem,seval, *]; try (revert hb; intro _))
  | ((with_reducible first | refine D5 _ rfl (by simp) ?_ | refine D8 _ rfl (by simp) ?_); simp -implicitDefEqProofs -proj only [go_sem,seval, *])
  | (with_reducible refine Ae ?_ (fun h=>?_); first | ((focus first | decide | omega); try clear h; try simp -implicitDefEqProofs -proj only [go_sem,seval, *]) | (rotate_left; try clear h; try simp -implicitDefEqProofs -proj only [go_sem,seval, *]; rotate_right)))
  exact AH rfl
 ·have hno:Gs ⟨k,n,m⟩ x=none:=by simp [Gs,k1,k2,k3,k4]
  rw [hno,D7]
  simp -implicitDefEqProofs -proj only [go_sem,seval,k1,k2,k3,k4]
  (repeat' first
  | ((with_reducible first | refine EA (fun h=>?_) (fun h=>?_) | refine BJ (fun h=>?_) (fun h=>?_) | refine EC (fun h=>?_) (fun h=>?_)) <;> (simp -implicitDefEqProofs -proj only [go_sem,seval, *]; try (revert h; intro _)))
  | ((with_reducible first | refine AK (fun _ hb=>?_) | refine As (fun _ hb=>?_)); simp only [EB,ED,Aa,Heap.none_get,and_true,true_and] at hb; simp -implicitDefEqProofs -proj only [go_sem,seval, *]; try (revert hb; intro _))
  | ((with_reducible first | refine D5 _ rfl (by simp) ?_ | refine D8 _ rfl (by simp) ?_); simp -implicitDefEqProofs -proj only [go_sem,seval, *])
  | (with_reducible refine Ae ?_ (fun h=>?_); first | ((focus first | decide | omega); try clear h; try simp -implicitDefEqProofs -proj only [go_sem,seval, *]) | (rotate_left; try clear h; try simp -implicitDefEqProofs -proj only [go_sem,seval, *]; rotate_right)))
  exact AH rfl
theorem VY {l:List Adj} {x:Int} (hl:SI l) (hx:Fit x) (hn:l.length≤4611686018427387904):DataW Tryz.prog AAD [i64 x,ET l] (D7 (Ga x l)):=by
 refine AX AFb (by simp) ?_
 simp -implicitDefEqProofs -proj only [go_sem,seval,HJ]
 refine D9 (fun p:Nat×Int=>p.1≤l.length∧Fit p.2∧Ga p.2 (l.drop p.1)=Ga x l) 25 (fun p=>[(9,ET l),(10,i64 l.length),(11,i64 p.1),(0,i64 p.2)]) (fun _=>[]) (fun p=>l.length-p.1) (0,x) ⟨by simp -implicitDefEqProofs only [Ag]; omega,hx,by simp -implicitDefEqProofs only [Ag,Ao,List.drop_zero]⟩ rfl ?_ ?_ ?_
 ·simp -implicitDefEqProofs -proj only [go_sem,seval,AM]
 ·trivial
 ·rintro ⟨i,n⟩ ⟨hi,hf,hs⟩
  simp -implicitDefEqProofs only [Ag,Ao] at hi hf hs
  by_cases h:i<l.length
  ·have ha:=hl i h
   have hc:=Q9 h
   rw [List.drop_eq_getElem_cons h] at hs
   generalize l[i]=a at *
   have h1:=ZP ha hf
   rw [Adj.el] at hc
   simp -implicitDefEqProofs -proj only [go_sem,seval,decide_eq_true (show (i:Int)<l.length by omega)]
   refine Ah _ (by omega) hc ?_
   simp -implicitDefEqProofs -proj only [go_sem,seval,hc]
   (repeat' first
  | ((with_reducible first | refine EA (fun h=>?_) (fun h=>?_) | refine BJ (fun h=>?_) (fun h=>?_) | refine EC (fun h=>?_) (fun h=>?_)) <;> (simp -implicitDefEqProofs -proj only [go_sem,seval, *]; try (revert h; intro _)))
  | ((with_reducible first | refine AK (fun _ hb=>?_) | refine As (fun _ hb=>?_)); simp only [EB,ED,Aa,Heap.none_get,and_true,true_and] at hb; simp -implicitDefEqProofs -proj only [go_sem,seval, *]; try (revert hb; intro _))
  | ((with_reducible first | refine D5 _ rfl (by simp) ?_ | refine D8 _ rfl (by simp) ?_); simp -implicitDefEqProofs -proj only [go_sem,seval, *])
  | (with_reducible refine Ae ?_ (fun h=>?_); first | ((focus first | decide | omega); try clear h; try simp -implicitDefEqProofs -proj only [go_sem,seval, *]) | (rotate_left; try clear h; try simp -implicitDefEqProofs -proj only [go_sem,seval, *]; rotate_right)))
   refine AJ h1 ?_
   rw [Ga] at hs
   cases ho:Gs a n with
   | some y =>
    rw [ho] at hs
    have hy:=O3 ha hf ho
    simp -implicitDefEqProofs only [] at hs
    rw [D7]
    simp -implicitDefEqProofs -proj only [go_sem,seval]
    refine Ad (i+1,y) ⟨by simp -implicitDefEqProofs only [Ag]; omega,hy,by simp -implicitDefEqProofs only [Ag,Ao]; exact hs⟩ (by simp -implicitDefEqProofs only [Ag]; omega) rfl ?_ trivial
    simp -implicitDefEqProofs -proj only [go_sem,seval,AM,AP (show i<9223372036854775807 by omega)]
   | none =>
    rw [ho] at hs
    simp -implicitDefEqProofs only [] at hs
    rw [D7]
    simp -implicitDefEqProofs -proj only [go_sem,seval,←hs,D7]
    exact AH rfl
  ·have hi':i=l.length:=by omega
   subst hi'
   rw [List.drop_length] at hs
   simp -implicitDefEqProofs -proj only [go_sem,seval,decide_eq_false (show ¬(l.length:Int)<l.length by omega)]
   rw [←hs,Ga,D7]
   exact AH rfl
theorem NI {n:Int} (h:n.natAbs≤85070591730234615865843651857942052864):Ee n.natAbs:=⟨by omega,by omega⟩
theorem T1 {s:TStep} {a:Int} (h1:Fit (s.r*(s.t-s.f))) (h2:Fit (a+s.r*(s.t-s.f))):JV s a=some (a+s.r*(s.t-s.f)):=if_pos ⟨h1,h2⟩
theorem Sh {s:TStep} {a:Int} (h:¬(Fit (s.r*(s.t-s.f))∧Fit (a+s.r*(s.t-s.f)))):JV s a=none:=if_neg h
theorem ATL {x:PartX} {n:Int} (S:Srt x.ts):(if x.ki=2 then IG x.ts n else Nr x.ts n)=Gu x n:=by
 unfold Gu
 split
 ·rfl
 ·exact (OI S).symm
theorem Qi {T:List Tier} {q:Int}:∀i,(Gv T q i).length≤1
 | 0=>by simp [Gv]
 | i+1=>by
  have:=Qi (T:=T) (q:=q) i
  rw [Gv]
  repeat' split
  all_goals first | omega | simp
theorem UD {x:PartX} {n:Int} (S:Srt x.ts) (h:1≤x.ts.length):(Gu x n).length≤x.ts.length:=by
 unfold Gu
 split
 ·have:=Qi (T:=x.ts) (q:=n) x.ts.length
  exact Nat.le_trans this h
 ·rw [OI S]
  exact L5 x.ts.length
theorem WU {x:PartX} {q:Int} (hx:x.Fit) (hq:Fit q) (G:GoodX x) (S:Srt x.ts):DataW Tryz.prog Vh [GA x,i64 q] (D7 (Iv x q)):=by
 have hleft:=Vk hx hq G.al.1 G.bl.1
 have htn:=G.tn
 unfold Iv
 rw [show Ed (max (q-x.al) 0) x.bl 1*x.bl=JU x q from rfl]
 refine AX AKC (by simp) ?_
 simp -implicitDefEqProofs -proj only [go_sem,seval]
 refine AK (fun b2 hb2=>?_)
 simp -implicitDefEqProofs -proj only [go_sem,seval]
 refine AJ hleft ?_
 by_cases h0:q<0
 ·rw [if_pos h0,if_pos h0,D7]
  simp -implicitDefEqProofs -proj only [go_sem,seval]
  exact AH rfl
 rw [if_neg h0,if_neg h0]
 by_cases hf:Fit (JU x q)
 rotate_left
 ·rw [HN hf,if_neg hf,D7]
  simp -implicitDefEqProofs -proj only [go_sem,seval]
  exact AH rfl
 rw [GI hf,if_pos hf]
 have hst:=(WD (x:=x) (q:=JU x q) (by omega) htn.1).data
 rw [ATL S] at hst
 have hln:=UD (n:=JU x q) S htn.1
 have hsf:=TR (n:=JU x q) S hf
 generalize Gu x (JU x q)=L at *
 simp -implicitDefEqProofs -proj only [go_sem,seval]
 refine AJ hst ?_
 simp -implicitDefEqProofs -proj only [go_sem,seval,HY]
 refine D9 (fun p:Nat×Int=>p.1≤L.length∧Fit p.2∧GF (L.drop p.1) p.2=GF L 0) 61 (fun p=>[(8,i64 p.2),(25,QU L),(26,i64 L.length),(27,i64 p.1)]) (fun _=>[]) (fun p=>L.length-p.1) (0,0) ⟨Nat.zero_le _,by decide,rfl⟩ rfl ?_ ?_ ?_
 ·simp -implicitDefEqProofs -proj only [go_sem,seval,AM]
 ·trivial
 ·rintro ⟨i,a⟩ ⟨hi,ha,hs⟩
  rw [Ag] at hi; rw [Ao] at ha; rw [Ag,Ao] at hs
  by_cases h:i<L.length
  ·have hel:=YO h
   obtain ⟨f1,f2,f3,f4⟩:=hsf _ (List.getElem_mem h)
   rw [List.drop_eq_getElem_cons h,GF] at hs
   generalize L[i]=s at *
   have w1:IntKind.i64.wrap (s.t-s.f)=s.t-s.f:=by unfold Fit at f4; rw [IntKind.wrap_i64]; omega
   have hmul:=Jf f3 f4
   have hps:=Kx f3 f4
   have hint:=KT (n:=s.r*(s.t-s.f)) (NI hps)
   have hofa:=Gm ha
   simp -implicitDefEqProofs -proj only [go_sem,seval,decide_eq_true (show (i:Int)<L.length by omega)]
   refine Ah _ (by omega) hel ?_
   simp -implicitDefEqProofs -proj only [go_sem,seval]
   refine AK (fun b10 hb10=>?_)
   simp -implicitDefEqProofs -proj only [go_sem,seval,w1]
   refine AJ hmul ?_
   simp -implicitDefEqProofs -proj only [go_sem,seval]
   refine AJ hint ?_
   by_cases c1:Fit (s.r*(s.t-s.f))
   ·have hofp:=Gm c1
    have hadd:=JR (a:=a) (b:=s.r*(s.t-s.f)) (by unfold Fit at ha; omega) (by omega)
    have hint2:=KT (n:=a+s.r*(s.t-s.f)) (NI (by unfold Fit at ha c1; omega))
    rw [GI c1]
    simp -implicitDefEqProofs -proj only [go_sem,seval]
    refine AJ hofa ?_
    simp -implicitDefEqProofs -proj only [go_sem,seval]
    refine AJ hofp ?_
    simp -implicitDefEqProofs -proj only [go_sem,seval]
    refine AJ hadd ?_
    simp -implicitDefEqProofs -proj only [go_sem,seval]
    refine AJ hint2 ?_
    by_cases c2:Fit (a+s.r*(s.t-s.f))
    ·rw [T1 c1 c2] at hs
     simp -implicitDefEqProofs only [] at hs
     rw [GI c2]
     simp -implicitDefEqProofs -proj only [go_sem,seval]
     refine Ad (i+1,a+s.r*(s.t-s.f)) ⟨by rw [Ag]; omega,c2,hs⟩ (by rw [Ag,Ag]; omega) rfl ?_ trivial
     simp -implicitDefEqProofs -proj only [go_sem,seval,AM,AP (show i<9223372036854775807 by omega)]
    ·rw [Sh (fun k=>c2 k.2)] at hs
     simp -implicitDefEqProofs only [] at hs
     rw [HN c2,←hs,D7]
     simp -implicitDefEqProofs -proj only [go_sem,seval]
     exact AH rfl
   ·have hofp:=Gm (a:=0) (by decide)
    have hadd:=JR (a:=a) (b:=0) (by unfold Fit at ha; omega) (by decide)
    rw [Int.add_zero] at hadd
    have hint2:=KT (n:=a) (NI (by unfold Fit at ha; omega))
    rw [GI ha] at hint2
    rw [Sh (fun k=>c1 k.1)] at hs
    simp -implicitDefEqProofs only [] at hs
    rw [HN c1,←hs,D7]
    simp -implicitDefEqProofs -proj only [go_sem,seval]
    refine AJ hofa ?_
    simp -implicitDefEqProofs -proj only [go_sem,seval]
    refine AJ hofp ?_
    simp -implicitDefEqProofs -proj only [go_sem,seval]
    refine AJ hadd ?_
    simp -implicitDefEqProofs -proj only [go_sem,seval]
    refine AJ hint2 ?_
    simp -implicitDefEqProofs -proj only [go_sem,seval]
    exact AH rfl
  ·have hi':i=L.length:=by omega
   subst hi'
   rw [List.drop_length] at hs
   simp -implicitDefEqProofs -proj only [go_sem,seval,decide_eq_false (show ¬(L.length:Int)<L.length by omega)]
   rw [←hs,GF,D7]
   exact AH rfl
theorem ASo {x:PartX} {q:Int} (hx:x.Fit) (hq:Fit q) (G:GoodX x) (S:Srt x.ts):DataW Tryz.prog ABl [GA x,i64 q] (D7 (Ih x q)):=by
 have hm:=WU hx hq G S
 have hf:=fun n=>@Sx x q n
 unfold Ih
 refine AX AB4 (by simp) ?_
 simp -implicitDefEqProofs -proj only [go_sem,seval]
 refine AK (fun b2 hb2=>?_)
 simp -implicitDefEqProofs -proj only [go_sem,seval]
 refine AJ hm ?_
 cases e:Iv x q with
 | none =>
  simp -implicitDefEqProofs -proj only [go_sem,seval,D7]
  exact AH rfl
 | some n =>
  have hd:=Na (a:=n) (b:=1) (c:=1000000) (m:=x.mo) (hf n e) (by decide) (by decide)
  rw [Int.mul_one,Mu] at hd
  simp -implicitDefEqProofs only []
  simp -implicitDefEqProofs -proj only [go_sem,seval,D7]
  refine AJ hd ?_
  cases ID n 1000000 x.mo with
  | none=>simp -implicitDefEqProofs -proj only [go_sem,seval,D7]; exact AH rfl
  | some m=>simp -implicitDefEqProofs -proj only [go_sem,seval,D7]; exact AH rfl
theorem AA8 {a:Adj} {x:Int} (ha:a.Fit) (hx:Fit x):DataW Tryz.prog ANZ [.agg [i64 a.k,i64 a.n,i64 a.m],i64 x] (D7 (Gs a x)):=by
 obtain ⟨k,n,m⟩:=a
 obtain ⟨hk,hn,hm⟩:=ha
 simp -implicitDefEqProofs only [] at hk hn hm
 have h1:=Na (a:=x) (b:=n) (c:=100000) (m:=m) hx hn (by decide)
 rw [Mu] at h1
 have hofx:=Gm hx
 have hofn:=Gm hn
 have hadd:=JR (a:=x) (b:=n) (by unfold Fit at hx; omega) (by unfold Fit at hn; omega)
 have hint:=KT (n:=x+n) (NI (by unfold Fit at hx hn; omega))
 rw [PJ] at hint
 unfold Gs
 simp -implicitDefEqProofs only []
 refine AX AGZ (by simp) ?_
 simp -implicitDefEqProofs -proj only [go_sem,seval]
 refine AK (fun b2 hb2=>?_)
 by_cases c1:k=1
 ·rw [if_pos c1]
  simp -implicitDefEqProofs -proj only [go_sem,seval,decide_eq_true c1]
  refine AJ h1 ?_
  cases ID (x*n) 100000 m with
  | none=>simp -implicitDefEqProofs -proj only [go_sem,seval,D7]; exact AH rfl
  | some m=>simp -implicitDefEqProofs -proj only [go_sem,seval,D7]; exact AH rfl
 rw [if_neg c1]
 by_cases c2:k=2
 ·rw [if_pos c2,D7]
  by_cases d:n<x
  ·rw [show min x n=n by omega]
   simp -implicitDefEqProofs -proj only [go_sem,seval,decide_eq_false c1,decide_eq_true c2,decide_eq_true d]
   exact AH rfl
  ·rw [show min x n=x by omega]
   simp -implicitDefEqProofs -proj only [go_sem,seval,decide_eq_false c1,decide_eq_true c2,decide_eq_false d,show (false == true)=false from rfl]
   exact AH rfl
 rw [if_neg c2]
 by_cases c3:k=3
 ·rw [if_pos c3,D7]
  by_cases d:n<x
  ·rw [show max x n=x by omega]
   simp -implicitDefEqProofs -proj only [go_sem,seval,decide_eq_false c1,decide_eq_false c2,decide_eq_true c3,decide_eq_true d,show (true == false)=false from rfl]
   exact AH rfl
  ·rw [show max x n=n by omega]
   simp -implicitDefEqProofs -proj only [go_sem,seval,decide_eq_false c1,decide_eq_false c2,decide_eq_true c3,decide_eq_false d]
   exact AH rfl
 rw [if_neg c3]
 by_cases c4:k=4
 ·rw [if_pos c4]
  simp -implicitDefEqProofs -proj only [go_sem,seval,decide_eq_false c1,decide_eq_false c2,decide_eq_false c3,decide_eq_true c4]
  refine Eb hofx ?_
  simp -implicitDefEqProofs -proj only [go_sem,seval]
  refine AJ hofn ?_
  simp -implicitDefEqProofs -proj only [go_sem,seval]
  refine AJ hadd ?_
  simp -implicitDefEqProofs -proj only [go_sem,seval]
  refine AJ hint ?_
  cases I0 (x+n) with
  | none=>simp -implicitDefEqProofs -proj only [go_sem,seval,D7]; exact AH rfl
  | some m=>simp -implicitDefEqProofs -proj only [go_sem,seval,D7]; exact AH rfl
 rw [if_neg c4,D7]
 simp -implicitDefEqProofs -proj only [go_sem,seval,decide_eq_false c1,decide_eq_false c2,decide_eq_false c3,decide_eq_false c4]
 exact AH rfl
theorem ABn {l:List Adj} {x:Int} (hl:∀a∈l,Adj.Fit a) (hx:Fit x) (hn:l.length≤4611686018427387904):DataW Tryz.prog AFG [i64 x,ET l] (D7 (Ga x l)):=by
 refine AX AAa (by simp) ?_
 simp -implicitDefEqProofs -proj only [go_sem,seval,HJ]
 refine D9 (fun p:Nat×Int=>p.1≤l.length∧Fit p.2∧Ga p.2 (l.drop p.1)=Ga x l) 27 (fun p=>[(0,i64 p.2),(10,ET l),(11,i64 l.length),(12,i64 p.1)]) (fun _=>[]) (fun p=>l.length-p.1) (0,x) ⟨Nat.zero_le _,hx,rfl⟩ rfl ?_ ?_ ?_
 ·simp -implicitDefEqProofs -proj only [go_sem,seval,AM]
 ·trivial
 ·rintro ⟨i,a⟩ ⟨hi,ha,hs⟩
  rw [Ag] at hi; rw [Ao] at ha; rw [Ag,Ao] at hs
  by_cases h:i<l.length
  ·have hel:=MI h
   have hfit:=hl _ (List.getElem_mem h)
   rw [List.drop_eq_getElem_cons h,Ga] at hs
   generalize l[i]=s at *
   have hone:=AA8 hfit ha
   simp -implicitDefEqProofs -proj only [go_sem,seval,decide_eq_true (show (i:Int)<l.length by omega)]
   refine Ah _ (by omega) hel ?_
   simp -implicitDefEqProofs -proj only [go_sem,seval]
   refine AK (fun b7 hb7=>?_)
   simp -implicitDefEqProofs -proj only [go_sem,seval]
   refine AJ hone ?_
   cases e:Gs s a with
   | none =>
    rw [e] at hs
    simp -implicitDefEqProofs only [] at hs
    rw [←hs,D7]
    simp -implicitDefEqProofs -proj only [go_sem,seval,D7]
    exact AH rfl
   | some y =>
    rw [e] at hs
    simp -implicitDefEqProofs only [] at hs
    simp -implicitDefEqProofs -proj only [go_sem,seval,D7]
    refine Ad (i+1,y) ⟨by rw [Ag]; omega,O3 hfit ha e,hs⟩ (by rw [Ag,Ag]; omega) rfl ?_ trivial
    simp -implicitDefEqProofs -proj only [go_sem,seval,AM,AP (show i<9223372036854775807 by omega)]
  ·have hi':i=l.length:=by omega
   subst hi'
   rw [List.drop_length] at hs
   simp -implicitDefEqProofs -proj only [go_sem,seval,decide_eq_false (show ¬(l.length:Int)<l.length by omega)]
   rw [←hs,Ga,D7]
   exact AH rfl
def GG (x:PartX) (q:Int):Option Int:=match Ih x q with
 | some n=>Ga n x.ad
 | none=>none
theorem O5 {x:PartX} {q n:Int} (h:Ih x q=some n):Fit n:=by
 unfold Ih at h
 split at h
 ·exact (Pj h).1
 ·cases h
theorem ATs {x:PartX} {q:Int} (hx:x.Fit) (hq:Fit q) (G:GoodX x) (S:Srt x.ts):DataW Tryz.prog SL [GA x,i64 q] (D7 (GG x q)):=by
 have hc:=ADR hx hq G.al.1 G.bl.1 (by have:=G.tn; omega) (fun n hn=>TR S hn)
 unfold GG
 refine AX AAt (by simp) ?_
 simp -implicitDefEqProofs -proj only [go_sem,seval]
 refine AK (fun b2 hb2=>?_)
 simp -implicitDefEqProofs -proj only [go_sem,seval]
 refine AJ hc ?_
 cases e:Ih x q with
 | none =>
  simp -implicitDefEqProofs -proj only [go_sem,seval,D7]
  exact AH rfl
 | some n =>
  have ha:=VY (l:=x.ad) (x:=n) (AHk hx.ad) (O5 e) (by have:=G.an; omega)
  simp -implicitDefEqProofs only []
  simp -implicitDefEqProofs -proj only [go_sem,seval,D7]
  refine AJ ha ?_
  cases Ga n x.ad with
  | none=>simp -implicitDefEqProofs -proj only [go_sem,seval,D7]; exact AH rfl
  | some m=>simp -implicitDefEqProofs -proj only [go_sem,seval,D7]; exact AH rfl
theorem Rq {x:PartX} {q:Int} (hx:x.Fit) (hq:Fit q) (G:GoodX x) (S:Srt x.ts):DataW Tryz.prog APy [GA x,i64 q] (D7 (GG x q)):=by
 have hc:=ASo hx hq G S
 unfold GG
 refine AX ANk (by simp) ?_
 simp -implicitDefEqProofs -proj only [go_sem,seval]
 refine AK (fun b2 hb2=>?_)
 simp -implicitDefEqProofs -proj only [go_sem,seval]
 refine AJ hc ?_
 cases e:Ih x q with
 | none =>
  simp -implicitDefEqProofs -proj only [go_sem,seval,D7]
  exact AH rfl
 | some n =>
  have ha:=ABn (l:=x.ad) (x:=n) hx.ad (O5 e) (by have:=G.an; omega)
  simp -implicitDefEqProofs only []
  simp -implicitDefEqProofs -proj only [go_sem,seval,D7]
  refine AJ ha ?_
  cases Ga n x.ad with
  | none=>simp -implicitDefEqProofs -proj only [go_sem,seval,D7]; exact AH rfl
  | some m=>simp -implicitDefEqProofs -proj only [go_sem,seval,D7]; exact AH rfl
theorem Rm {P:Program} {Q:Out→St→Prop} {d:Option Nat} {l:List AO} {k:List Item} {s:St} {a b:ByteArray}:Ei P Q .geq (.d (.str a)) (.d (.str b)) d l k s=AQ P Q l k (AL s d (.d (.bool (!Op.bytesLess a.toList b.toList))) s.H):=rfl
theorem Pf {n lo hi:Int}:DataW Tryz.prog ON [i64 n,i64 lo,i64 hi] (bv (decide (lo≤n∧n≤hi))):=by
 refine AX APc (by simp) ?_
 by_cases h1:lo≤n
 ·by_cases h2:n≤hi
  ·simp -implicitDefEqProofs -proj only [go_sem,seval,decide_eq_true h1,decide_eq_true h2]
   exact AH (by rw [decide_eq_true ⟨h1,h2⟩])
  ·simp -implicitDefEqProofs -proj only [go_sem,seval,decide_eq_true h1,decide_eq_false h2]
   exact AH (by rw [decide_eq_false (fun h=>h2 h.2)])
 ·simp -implicitDefEqProofs -proj only [go_sem,seval,decide_eq_false h1]
  exact AH (by rw [decide_eq_false (fun h=>h1 h.1)])
theorem HG {n lo hi:Int} (h:lo≤n∧n≤hi):DataW Tryz.prog ON [i64 n,i64 lo,i64 hi] (bv true):=by
 have:=@Pf n lo hi; rwa [decide_eq_true h] at this
theorem G1 {n lo hi:Int} (h:¬(lo≤n∧n≤hi)):DataW Tryz.prog ON [i64 n,i64 lo,i64 hi] (bv false):=by
 have:=@Pf n lo hi; rwa [decide_eq_false h] at this
abbrev L0 (a:Adj):AV:=.agg [i64 a.k,i64 a.n,i64 a.m]
theorem ADa {a:Adj}:DataW Tryz.prog ANu [L0 a] (bv (decide (FS a))):=by
 refine AX AJQ (by simp) ?_
 simp -implicitDefEqProofs -proj only [go_sem,seval]
 refine AK (fun b1 hb1=>?_)
 by_cases h1:a.k=1
 ·simp -implicitDefEqProofs -proj only [go_sem,seval,decide_eq_true h1]
  by_cases h2:0≤a.n∧a.n≤100000000
  rotate_left
  ·refine AJ (G1 h2) ?_
   simp -implicitDefEqProofs -proj only [go_sem,seval]
   exact AH (by rw [decide_eq_false]; unfold FS; omega)
  refine AJ (HG h2) ?_
  simp -implicitDefEqProofs -proj only [go_sem,seval]
  by_cases h3:0≤a.m∧a.m≤3
  rotate_left
  ·refine AJ (G1 h3) ?_
   simp -implicitDefEqProofs -proj only [go_sem,seval]
   exact AH (by rw [decide_eq_false]; unfold FS; omega)
  refine AJ (HG h3) ?_
  simp -implicitDefEqProofs -proj only [go_sem,seval]
  exact AH (by rw [decide_eq_true]; unfold FS; omega)
 ·simp -implicitDefEqProofs -proj only [go_sem,seval,decide_eq_false h1]
  by_cases h2:2≤a.k∧a.k≤4
  rotate_left
  ·refine AJ (G1 h2) ?_
   simp -implicitDefEqProofs -proj only [go_sem,seval]
   exact AH (by rw [decide_eq_false]; unfold FS; omega)
  refine AJ (HG h2) ?_
  simp -implicitDefEqProofs -proj only [go_sem,seval]
  by_cases h3:0≤a.n∧a.n≤1000000000000
  rotate_left
  ·refine AJ (G1 h3) ?_
   simp -implicitDefEqProofs -proj only [go_sem,seval]
   exact AH (by rw [decide_eq_false]; unfold FS; omega)
  refine AJ (HG h3) ?_
  by_cases h4:a.m=0
  ·simp -implicitDefEqProofs -proj only [go_sem,seval,decide_eq_true h4]
   exact AH (by rw [decide_eq_true]; unfold FS; omega)
  ·simp -implicitDefEqProofs -proj only [go_sem,seval,decide_eq_false h4]
   exact AH (by rw [decide_eq_false]; unfold FS; omega)
theorem ATa {a:Adj}:DataW Tryz.prog AP6 [L0 a] (bv (!decide (FS a))):=by
 refine AX Zz (by simp) ?_
 simp -implicitDefEqProofs -proj only [go_sem,seval]
 refine AK (fun b1 hb1=>?_)
 simp -implicitDefEqProofs -proj only [go_sem,seval]
 refine AJ ADa ?_
 simp -implicitDefEqProofs -proj only [go_sem,seval]
 exact AH rfl
def Ic {α:Type} (p : α→Bool) (l:List α):Int:=match l.findIdx? p with
 | some i=>i
 | none=>-1
theorem RG {α:Type} {p : α→Bool} {l:List α} {i:Nat} (h:i<l.length) (hp:p l[i]=true) (hs:∀(j:Nat) (h:j<l.length),j<i→p l[j]=false):Ic p l=i:=by
 unfold Ic
 rw [List.findIdx?_eq_some_iff_getElem.2 ⟨h,hp,fun j hj=>by rw [hs j (by omega) hj]; simp⟩]
theorem RJ {α:Type} {p : α→Bool} {l:List α} (hs:∀(j:Nat) (h:j<l.length),p l[j]=false):Ic p l = -1:=by
 unfold Ic
 rw [List.findIdx?_eq_none_iff.2 fun x hx=>by obtain ⟨j,hj,rfl⟩:=List.getElem_of_mem hx; exact hs j hj]
theorem Rn {α:Type} {p : α→Bool} {l:List α}:decide (0≤Ic p l)=l.any p:=by
 unfold Ic
 cases h:l.findIdx? p with
 | some i =>
  obtain ⟨h1,h2,_⟩:=List.findIdx?_eq_some_iff_getElem.1 h
  rw [List.any_eq_true.2 ⟨_,List.getElem_mem h1,h2⟩]
  exact decide_eq_true (show (0:Int)≤(i:Int) by omega)
 | none =>
  have:=List.findIdx?_eq_none_iff.1 h
  rw [List.any_eq_false.2 (fun x hx=>by rw [this x hx]; simp)]
  exact decide_eq_false (show ¬(0:Int)≤-1 by omega)
theorem ADk {l:List Adj} {f:FuncId} {p:Adj→Bool} (hf:∀a,DataW Tryz.prog f [L0 a] (bv (p a))) (hl:l.length≤9223372036854775807):DataW Tryz.prog Zf [ET l,.fn f []] (i64 (Ic p l)):=by
 refine AX Xc (by simp) ?_
 simp -implicitDefEqProofs -proj only [go_sem,seval,HJ]
 refine D9 (fun i:Nat=>i≤l.length∧∀(j:Nat) (h:j<l.length),j<i→p l[j]=false) 19 (fun i=>[(0,ET l),(1,.fn f []),(6,ET l),(7,i64 l.length),(8,i64 i)]) (fun _=>[]) (fun i=>l.length-i) 0 ⟨Nat.zero_le _,fun j _ h=>absurd h (Nat.not_lt_zero _)⟩ rfl ?_ ?_ ?_
 ·simp -implicitDefEqProofs -proj only [go_sem,seval,AM]
 ·trivial
 ·rintro i ⟨hi,hs⟩
  by_cases h:i<l.length
  ·have hel:=MI h
   have hcall:=hf l[i]
   have hgo:p l[i]=false→∀(j:Nat) (h:j<l.length),j<i+1→p l[j]=false:=HL (P:=fun _ x=>p x=false) (List.getElem?_eq_getElem h) hs
   have hyes:p l[i]=true→Ic p l=i:=fun e=>RG h e hs
   generalize l[i]=a at *
   simp -implicitDefEqProofs -proj only [go_sem,seval,decide_eq_true (show (i:Int)<l.length by omega)]
   refine Ah _ (by omega) hel ?_
   simp -implicitDefEqProofs -proj only [go_sem,seval]
   refine AJ hcall ?_
   cases hp:p a
   ·simp -implicitDefEqProofs -proj only [go_sem,seval]
    refine Ad (i+1) ⟨by omega,hgo hp⟩ (by show l.length-(i+1)<l.length-i; omega) rfl ?_ trivial
    simp -implicitDefEqProofs -proj only [go_sem,seval,AM,AP (show i<9223372036854775807 by omega)]
   ·simp -implicitDefEqProofs -proj only [go_sem,seval]
    rw [hyes hp]
    exact AH rfl
  ·have hi':i=l.length:=by omega
   subst hi'
   simp -implicitDefEqProofs -proj only [go_sem,seval,decide_eq_false (show ¬(l.length:Int)<l.length by omega)]
   rw [RJ fun j h=>hs j h h]
   exact AH rfl
theorem AMp {l:List Adj} {f:FuncId} {p:Adj→Bool} (hf:∀a,DataW Tryz.prog f [L0 a] (bv (p a))) (hl:l.length≤9223372036854775807):DataW Tryz.prog ALM [ET l,.fn f []] (bv (l.any p)):=by
 refine AX AQO (by simp) ?_
 simp -implicitDefEqProofs -proj only [go_sem,seval]
 refine AJ (ADk hf hl) ?_
 simp -implicitDefEqProofs -proj only [go_sem,seval]
 rw [Rn]
 exact AH rfl
def G7 (T:List Tier) (i:Nat):Int:=match i with
 | 0=>0
 | j+1=>match T[j]? with
  | some p=>p.u
  | none=>0
theorem VV {T:List Tier} {i:Nat} (hi:i<T.length) (h:¬i+1=T.length):1≤FG T i:=by
 by_cases h0:i=0
 ·subst h0; rw [(M0 h).1]; omega
 ·by_cases hu:1≤T[i-1].u
  ·rw [(Ld (by omega) (by omega) h hu).1]; omega
  ·rw [(PT (by omega) (by omega) h hu).1]; omega
theorem U5 {T:List Tier} {i:Nat} (hi:i<T.length) (h:¬i+1=T.length) (hs:∀(j:Nat) (h:j<T.length),j<i→F8 T j T[j]):FG T i=G7 T i+1∧FV T i=1000000∧0≤G7 T i∧G7 T i≤1000000:=by
 match i with
 | 0 =>
  obtain ⟨h1,h2⟩:=M0 h
  exact ⟨h1,h2,by simp [G7],by simp [G7]⟩
 | j+1 =>
  have hj:j<T.length:=by omega
  have hok:=hs j hj (by omega)
  have hne:¬j+1=T.length:=by omega
  have hlo:=VV hj hne
  have hhi:FV T j=1000000:=if_neg hne
  obtain ⟨_,h2,h3⟩:=hok
  rw [hhi] at h3
  have hl:G7 T (j+1)=T[j].u:=by simp [G7,List.getElem?_eq_getElem hj]
  obtain ⟨e1,e2⟩:=Ld (T:=T) (i:=j+1) (by omega) hj h (by show 1≤T[j].u; omega)
  rw [hl,e1,e2]
  refine ⟨?_,rfl,by omega,h3⟩
  show min T[j].u 1000000+1=_
  omega
theorem AVS {T:List Tier} (hn:T.length≤9223372036854775807):DataW Tryz.prog Y7 [EM T] (bv (decide (HB T∧1≤T.length∧T.length≤8))):=by
 refine AX AJP (by simp) ?_
 simp -implicitDefEqProofs -proj only [go_sem,seval,Ep]
 refine D9 (fun i:Nat=>i≤T.length∧∀(j:Nat) (h:j<T.length),j<i→F8 T j T[j]) 49 (fun i=>[(0,EM T),(3,i64 (G7 T i)),(7,EM T),(8,i64 T.length),(9,i64 i)]) (fun _=>[]) (fun i=>T.length-i) 0 ⟨Nat.zero_le _,fun j _ h=>absurd h (Nat.not_lt_zero _)⟩ rfl ?_ ?_ ?_
 ·simp -implicitDefEqProofs -proj only [go_sem,seval,AM,G7]
 ·trivial
 ·rintro i ⟨hi,hs⟩
  by_cases h:i<T.length
  ·have hel:=IU h
   have hlast:=@PK T i
   have hmid:=fun k=>U5 h k hs
   have hno:¬F8 T i T[i]→decide (HB T∧1≤T.length∧T.length≤8)=false:=fun e=>decide_eq_false fun k=>e (k.1 i h)
   have hgo:F8 T i T[i]→∀(j:Nat) (h:j<T.length),j<i+1→F8 T j T[j]:=HL (List.getElem?_eq_getElem h) hs
   have hnx:G7 T (i+1)=T[i].u:=by simp [G7,List.getElem?_eq_getElem h]
   have hwl:IntKind.i64.wrap ((T.length:Int)-1)=(T.length:Int)-1:=by rw [IntKind.wrap_i64]; omega
   generalize T[i]=q at *
   unfold F8 at hno hgo
   simp -implicitDefEqProofs -proj only [go_sem,seval,decide_eq_true (show (i:Int)<T.length by omega)]
   refine Ah _ (by omega) hel ?_
   simp -implicitDefEqProofs -proj only [go_sem,seval]
   refine AK (fun b5 hb5=>?_)
   by_cases hl:i+1=T.length
   ·obtain ⟨e1,e2⟩:=hlast hl
    simp -implicitDefEqProofs -proj only [go_sem,seval,Ep,hwl,decide_eq_true (show (i:Int)=(T.length:Int)-1 by omega)]
    by_cases c1:0≤q.r∧q.r≤1000000000000
    rotate_left
    ·refine AJ (G1 c1) ?_
     simp -implicitDefEqProofs -proj only [go_sem,seval]
     exact AH (by rw [hno (fun k=>c1 k.1)])
    refine AJ (HG c1) ?_
    by_cases c2:q.u=0
    rotate_left
    ·simp -implicitDefEqProofs -proj only [go_sem,seval,decide_eq_false c2]
     exact AH (by rw [hno (fun k=>by omega)])
    simp -implicitDefEqProofs -proj only [go_sem,seval,decide_eq_true c2]
    refine Ad (i+1) ⟨by omega,hgo ⟨c1,by omega⟩⟩ (by show T.length-(i+1)<T.length-i; omega) rfl ?_ trivial
    simp -implicitDefEqProofs -proj only [go_sem,seval,AM,hnx,c2,AP (show i<9223372036854775807 by omega)]
   ·obtain ⟨e1,e2,e3,e4⟩:=hmid hl
    have hw:IntKind.i64.wrap (G7 T i+1)=G7 T i+1:=by rw [IntKind.wrap_i64]; omega
    simp -implicitDefEqProofs -proj only [go_sem,seval,Ep,hwl,decide_eq_false (show ¬(i:Int)=(T.length:Int)-1 by omega)]
    by_cases c1:0≤q.r∧q.r≤1000000000000
    rotate_left
    ·refine AJ (G1 c1) ?_
     simp -implicitDefEqProofs -proj only [go_sem,seval]
     exact AH (by rw [hno (fun k=>c1 k.1)])
    refine AJ (HG c1) ?_
    simp -implicitDefEqProofs -proj only [go_sem,seval,hw]
    by_cases c2:G7 T i+1≤q.u∧q.u≤1000000
    rotate_left
    ·refine AJ (G1 c2) ?_
     simp -implicitDefEqProofs -proj only [go_sem,seval]
     exact AH (by rw [hno (fun k=>by omega)])
    refine AJ (HG c2) ?_
    simp -implicitDefEqProofs -proj only [go_sem,seval]
    refine Ad (i+1) ⟨by omega,hgo ⟨c1,by omega⟩⟩ (by show T.length-(i+1)<T.length-i; omega) rfl ?_ trivial
    simp -implicitDefEqProofs -proj only [go_sem,seval,AM,hnx,AP (show i<9223372036854775807 by omega)]
  ·have hi':i=T.length:=by omega
   subst hi'
   simp -implicitDefEqProofs -proj only [go_sem,seval,Ep,decide_eq_false (show ¬(T.length:Int)<T.length by omega)]
   refine AJ Pf ?_
   simp -implicitDefEqProofs -proj only [go_sem,seval]
   refine AH (congrArg (fun b=>AV.d (.bool b)) (decide_eq_decide.2 ⟨fun k=>⟨fun j h=>hs j h h,by omega,by omega⟩,fun k=>by omega⟩))
theorem AGU {cur:ByteArray} {f t:Int} {ms ss ps:List (List D)} {x:PartX} (hm:ms.length≤9223372036854775807) (htn:x.ts.length≤9223372036854775807) (han:x.ad.length≤9223372036854775807):DataW Tryz.prog XF [KK cur f t ms ss ps,GA x] (bv (decide (F6 f t ms.length x))):=by
 have hno:¬HW f t ms.length x→decide (F6 f t ms.length x)=false:=fun e=>decide_eq_false fun k=>e k.1
 have hpd:F6 f t ms.length x↔HW f t ms.length x∧HB x.ts∧Hh x.ad:=Iff.rfl
 unfold HW at hno hpd
 have hwl:IntKind.i64.wrap ((ms.length:Int)-1)=(ms.length:Int)-1:=by rw [IntKind.wrap_i64]; omega
 refine AX AGj (by simp) ?_
 simp -implicitDefEqProofs -proj only [go_sem,seval]
 refine AK (fun b2 hb2=>?_)
 simp -implicitDefEqProofs -proj only [go_sem,seval]
 refine AK (fun b3 hb3=>?_)
 replace hb3:upd Heap.none b2 _ b3=none:=hb3
 obtain ⟨n1,n2⟩:=AI hb3 upd_eq
 simp -implicitDefEqProofs -proj only [go_sem,seval,n1,n2,hwl]
 by_cases g1:0≤x.me∧x.me≤(ms.length:Int)-1
 rotate_left
 ·refine AJ (G1 g1) ?_
  simp -implicitDefEqProofs -proj only [go_sem,seval]
  exact AH (by rw [hno (fun k=>by omega)])
 refine AJ (HG g1) ?_
 by_cases g2:x.t<x.f
 ·simp -implicitDefEqProofs -proj only [go_sem,seval,n1,n2,decide_eq_true g2]
  exact AH (by rw [hno (fun k=>by omega)])
 by_cases g3:x.f<f
 ·simp -implicitDefEqProofs -proj only [go_sem,seval,n1,n2,decide_eq_false g2,decide_eq_true g3]
  exact AH (by rw [hno (fun k=>by omega)])
 by_cases g4:t<x.t
 ·simp -implicitDefEqProofs -proj only [go_sem,seval,n1,n2,decide_eq_false g2,decide_eq_false g3,decide_eq_true g4]
  exact AH (by rw [hno (fun k=>by omega)])
 simp -implicitDefEqProofs -proj only [go_sem,seval,n1,n2,decide_eq_false g2,decide_eq_false g3,decide_eq_false g4]
 by_cases g5:0≤x.al∧x.al≤1000000
 rotate_left
 ·refine AJ (G1 g5) ?_
  simp -implicitDefEqProofs -proj only [go_sem,seval]
  exact AH (by rw [hno (fun k=>g5 k.2.2.2.1)])
 refine AJ (HG g5) ?_
 simp -implicitDefEqProofs -proj only [go_sem,seval,n1,n2]
 by_cases g6:1≤x.bl∧x.bl≤1000000
 rotate_left
 ·refine AJ (G1 g6) ?_
  simp -implicitDefEqProofs -proj only [go_sem,seval]
  exact AH (by rw [hno (fun k=>g6 k.2.2.2.2.1)])
 refine AJ (HG g6) ?_
 simp -implicitDefEqProofs -proj only [go_sem,seval,n1,n2]
 by_cases g7:1≤x.ki∧x.ki≤2
 rotate_left
 ·refine AJ (G1 g7) ?_
  simp -implicitDefEqProofs -proj only [go_sem,seval]
  exact AH (by rw [hno (fun k=>by omega)])
 refine AJ (HG g7) ?_
 simp -implicitDefEqProofs -proj only [go_sem,seval,n1,n2]
 by_cases g8:0≤x.mo∧x.mo≤3
 rotate_left
 ·refine AJ (G1 g8) ?_
  simp -implicitDefEqProofs -proj only [go_sem,seval]
  exact AH (by rw [hno (fun k=>by omega)])
 refine AJ (HG g8) ?_
 by_cases g9:6<(x.ad.length:Int)
 ·simp -implicitDefEqProofs -proj only [go_sem,seval,n1,n2,HJ,decide_eq_true g9]
  exact AH (by rw [hno (fun k=>by omega)])
 simp -implicitDefEqProofs -proj only [go_sem,seval,n1,n2,HJ,decide_eq_false g9]
 refine AJ (AVS htn) ?_
 by_cases g10:HB x.ts∧1≤x.ts.length∧x.ts.length≤8
 rotate_left
 ·simp -implicitDefEqProofs -proj only [go_sem,seval,n1,n2,decide_eq_false g10]
  exact AH (by rw [decide_eq_false (fun k=>g10 ⟨k.2.1,by have:=k.1; unfold HW at this; omega⟩)])
 simp -implicitDefEqProofs -proj only [go_sem,seval,n1,n2,decide_eq_true g10]
 refine AJ (AMp (fun a=>ATa) han) ?_
 simp -implicitDefEqProofs -proj only [go_sem,seval]
 refine AH (congrArg (fun b=>AV.d (.bool b)) ?_)
 have hiff:(x.ad.any fun a=>!decide (FS a))=false↔Hh x.ad:=by
  rw [List.any_eq_false]
  exact ⟨fun h a ha=>by have:=h a ha; simpa using this,fun h a ha=>by simpa using h a ha⟩
 by_cases g11:Hh x.ad
 ·rw [hiff.2 g11,decide_eq_true (hpd.2 ⟨by omega,g10.1,g11⟩)]
  rfl
 ·rw [decide_eq_false (fun k=>g11 (hpd.1 k).2.2)]
  cases e:x.ad.any fun a=>!decide (FS a)
  ·exact absurd (hiff.1 e) g11
  ·rfl
abbrev EI (c:CoreX):Blk:=.box 26 [.d (.str c.cur),i64 c.f,i64 c.t,.d (.sl 5 (EK c.ms)),.d (.sl 3 (EL c.ss)),.d (.sl 9 (Ak c.ps))]
noncomputable def G5 (c:CoreX) (x:PartX):Bool:=!decide (F6 c.f c.t c.ms.length x)
theorem ATb {c:CoreX} {H:Heap} {b:Nat} {x:PartX} (hb:H b=some (EI c)) (hm:c.ms.length≤9223372036854775807) (htn:x.ts.length≤9223372036854775807) (han:x.ad.length≤9223372036854775807):CallW Tryz.prog MM [GA x,.ptr b 0] H fun r H'=>r=bv (G5 c x)∧H' b=some (EI c):=by
 have hcall:=AGU (cur:=c.cur) (f:=c.f) (t:=c.t) (ms:=EK c.ms) (ss:=EL c.ss) (ps:=Ak c.ps) (x:=x) (by rw [E2]; exact hm) htn han
 rw [E2] at hcall
 refine AX AAI (by simp) ?_
 simp -implicitDefEqProofs -proj only [go_sem,seval]
 refine AK (fun b2 hb2=>?_)
 replace hb2:H b2=none:=hb2
 obtain ⟨n1,n2⟩:=AI hb2 hb
 simp -implicitDefEqProofs -proj only [go_sem,seval,n1,n2,hb]
 refine AJ hcall ?_
 simp -implicitDefEqProofs -proj only [go_sem,seval,n1,n2,hb]
 try first | exact ⟨rfl,rfl⟩ | exact rfl
theorem AB3 {c:CoreX} {H:Heap} {b:Nat} {l:List PartX} (hb:H b=some (EI c)) (hm:c.ms.length≤9223372036854775807) (hp:∀x∈l,x.ts.length≤9223372036854775807∧x.ad.length≤9223372036854775807) (hl:l.length≤9223372036854775807):CallW Tryz.prog WS [.d (.sl 9 (Ak l)),.fn MM [.ptr b 0]] H fun r H'=>r=i64 (Ic (G5 c) l)∧H' b=some (EI c):=by
 refine AX ABh (by simp) ?_
 simp -implicitDefEqProofs -proj only [go_sem,seval,El]
 refine D9 (fun i:Nat=>i≤l.length∧∀(j:Nat) (h:j<l.length),j<i→G5 c l[j]=false) 19 (fun i=>[(0,.d (.sl 9 (Ak l))),(1,.fn MM [.ptr b 0]),(6,.d (.sl 9 (Ak l))),(7,i64 l.length),(8,i64 i)]) (fun _=>[(b,EI c)]) (fun i=>l.length-i) 0 ⟨Nat.zero_le _,fun j _ h=>absurd h (Nat.not_lt_zero _)⟩ rfl ?_ ?_ ?_
 ·simp -implicitDefEqProofs -proj only [go_sem,seval,AM]
 ·exact ⟨hb,trivial⟩
 ·rintro i ⟨hi,hs⟩
  have hk:AS (Ab [(b,EI c)]) [(b,EI c)]:=EQ (by simp [AT])
  by_cases h:i<l.length
  ·have hel:=IW h
   have hpi:=hp _ (List.getElem_mem h)
   have hgo:G5 c l[i]=false→∀(j:Nat) (h:j<l.length),j<i+1→G5 c l[j]=false:=HL (P:=fun _ x=>G5 c x=false) (List.getElem?_eq_getElem h) hs
   have hyes:G5 c l[i]=true→Ic (G5 c) l=i:=fun e=>RG h e hs
   generalize l[i]=x at *
   have hcall:=ATb (x:=x) hk.1 hm hpi.1 hpi.2
   simp -implicitDefEqProofs -proj only [go_sem,seval,decide_eq_true (show (i:Int)<l.length by omega)]
   refine Ah _ (by omega) hel ?_
   simp -implicitDefEqProofs -proj only [go_sem,seval]
   refine En hcall (fun r H' hr=>?_)
   obtain ⟨rfl,hr⟩:=hr
   cases hpx:G5 c x
   ·simp -implicitDefEqProofs -proj only [go_sem,seval]
    refine Ad (i+1) ⟨by omega,hgo hpx⟩ (by show l.length-(i+1)<l.length-i; omega) rfl ?_ ⟨hr,trivial⟩
    simp -implicitDefEqProofs -proj only [go_sem,seval,AM,AP (show i<9223372036854775807 by omega)]
   ·simp -implicitDefEqProofs -proj only [go_sem,seval]
    rw [hyes hpx]
    try first | exact ⟨rfl,hr⟩ | exact rfl | rfl
  ·have hi':i=l.length:=by omega
   subst hi'
   simp -implicitDefEqProofs -proj only [go_sem,seval,decide_eq_false (show ¬(l.length:Int)<l.length by omega)]
   rw [RJ fun j h=>hs j h h]
   try first | exact ⟨rfl,hk.1⟩ | exact rfl
theorem ABs {c:CoreX} {H:Heap} {b:Nat} {l:List PartX} (hb:H b=some (EI c)) (hm:c.ms.length≤9223372036854775807) (hp:∀x∈l,x.ts.length≤9223372036854775807∧x.ad.length≤9223372036854775807) (hl:l.length≤9223372036854775807):CallW Tryz.prog ATF [.d (.sl 9 (Ak l)),.fn MM [.ptr b 0]] H fun r H'=>r=bv (l.any (G5 c))∧H' b=some (EI c):=by
 refine AX AM2 (by simp) ?_
 simp -implicitDefEqProofs -proj only [go_sem,seval]
 refine En (AB3 hb hm hp hl) (fun r H' hr=>?_)
 obtain ⟨rfl,hr⟩:=hr
 simp -implicitDefEqProofs -proj only [go_sem,seval]
 rw [Rn]
 try first | exact ⟨rfl,hr⟩ | exact rfl
set_option maxRecDepth 20000 in
theorem Px {c:CoreX} (hc:c.Fit):DataW Tryz.prog AKQ [Fl c] (bv (decide (goodC c))):=by
 obtain ⟨cur,f,t,ms,ss,ps⟩:=c
 obtain ⟨hff,hft,_,hmn,_,hsn,hps,hpn⟩:=hc
 simp -implicitDefEqProofs only [] at hff hft hmn hsn hps hpn
 have hno:¬JB ⟨cur,f,t,ms,ss,ps⟩→decide (goodC ⟨cur,f,t,ms,ss,ps⟩)=false:=fun h=>decide_eq_false (fun k=>h k.hd)
 unfold JB at hno
 simp -implicitDefEqProofs only [] at hno
 refine AX AUW (by simp) ?_
 simp -implicitDefEqProofs -proj only [go_sem,seval]
 refine AK (fun b1 hb1=>?_)
 simp -implicitDefEqProofs -proj only [go_sem,seval]
 by_cases g1:f<0
 ·simp -implicitDefEqProofs -proj only [go_sem,seval,decide_eq_true g1]
  exact AH (by rw [hno (fun k=>by omega)])
 by_cases g2:t<f
 ·simp -implicitDefEqProofs -proj only [go_sem,seval,decide_eq_false g1,decide_eq_true g2]
  exact AH (by rw [hno (fun k=>by omega)])
 by_cases g2b:3652059≤t
 ·simp -implicitDefEqProofs -proj only [go_sem,seval,decide_eq_false g1,decide_eq_false g2,decide_eq_true g2b]
  exact AH (by rw [hno (fun k=>by omega)])
 have w1:IntKind.i64.wrap (t-f)=t-f:=by rw [IntKind.wrap_i64]; omega
 by_cases g3:4000≤t-f
 ·simp -implicitDefEqProofs -proj only [go_sem,seval,w1,E2,E9,El,decide_eq_false g1,decide_eq_false g2,decide_eq_false g2b,decide_eq_true g3]
  exact AH (by rw [hno (fun k=>by omega)])
 by_cases g4:4<(ms.length:Int)
 ·simp -implicitDefEqProofs -proj only [go_sem,seval,w1,E2,E9,El,decide_eq_false g1,decide_eq_false g2,decide_eq_false g2b,decide_eq_false g3,decide_eq_true g4]
  exact AH (by rw [hno (fun k=>by omega)])
 by_cases g5:8<(ss.length:Int)
 ·simp -implicitDefEqProofs -proj only [go_sem,seval,w1,E2,E9,El,decide_eq_false g1,decide_eq_false g2,decide_eq_false g2b,decide_eq_false g3,decide_eq_false g4,decide_eq_true g5]
  exact AH (by rw [hno (fun k=>by omega)])
 by_cases g6:8<(ps.length:Int)
 ·simp -implicitDefEqProofs -proj only [go_sem,seval,w1,E2,E9,El,decide_eq_false g1,decide_eq_false g2,decide_eq_false g2b,decide_eq_false g3,decide_eq_false g4,decide_eq_false g5,decide_eq_true g6]
  exact AH (by rw [hno (fun k=>by omega)])
 have hhd:JB ⟨cur,f,t,ms,ss,ps⟩  :=⟨⟨by show 0≤f; omega,by show f≤3652058; omega⟩,⟨by show f≤t; omega,by show t≤3652058; omega⟩,show t-f≤3999 by omega,show ms.length≤4 by omega,show ss.length≤8 by omega,show ps.length≤8 by omega⟩
 clear hno
 simp -implicitDefEqProofs -proj only [go_sem,seval,w1,E2,E9,El,decide_eq_false g1,decide_eq_false g2,decide_eq_false g2b,decide_eq_false g3,decide_eq_false g4,decide_eq_false g5,decide_eq_false g6]
 refine D9 (fun i:Nat=>i≤ms.length∧∀(j:Nat) (h:j<ms.length),j<i→Hw ms j ms[j]) 125 (fun i=>[(1,.ptr b1 0),(49,.d (.sl 5 (EK ms))),(50,i64 ms.length),(51,i64 i)]) (fun _=>[(b1,.box 26 [.d (.str cur),i64 f,i64 t,.d (.sl 5 (EK ms)),.d (.sl 3 (EL ss)),.d (.sl 9 (Ak ps))])]) (fun i=>ms.length-i) 0 ⟨Nat.zero_le _,fun j _ h=>absurd h (Nat.not_lt_zero _)⟩ rfl ?_ ?_ ?_
 ·simp -implicitDefEqProofs -proj only [go_sem,seval,AM]
 ·simp -implicitDefEqProofs -proj only [go_sem,seval,AS]
 ·rintro i ⟨hi,hs⟩
  have hk:AS (Ab [(b1,.box 26 [.d (.str cur),i64 f,i64 t,.d (.sl 5 (EK ms)),.d (.sl 3 (EL ss)),.d (.sl 9 (Ak ps))])]) [(b1,.box 26 [.d (.str cur),i64 f,i64 t,.d (.sl 5 (EK ms)),.d (.sl 3 (EL ss)),.d (.sl 9 (Ak ps))])]:=EQ (by simp [AT])
  have k1:=hk.1
  by_cases h:i<ms.length
  ·have hel:=Gl h
   have hno:¬Hw ms i ms[i]→decide (goodC ⟨cur,f,t,ms,ss,ps⟩)=false:=fun e=>decide_eq_false fun k=>e (k.ms i h)
   have hgo:Hw ms i ms[i]→∀(j:Nat) (h:j<ms.length),j<i+1→Hw ms j ms[j]:=HL (List.getElem?_eq_getElem h) hs
   generalize ms[i]=m at *
   unfold Hw at hno hgo
   simp -implicitDefEqProofs -proj only [go_sem,seval,decide_eq_true (show (i:Int)<ms.length by omega)]
   refine Ah _ (by omega) hel ?_
   simp -implicitDefEqProofs -proj only [go_sem,seval]
   refine AK (fun b4 hb4=>?_)
   replace hb4:Ab [(b1,Blk.box 26 [.d (.str cur),i64 f,i64 t,.d (.sl 5 (EK ms)),.d (.sl 3 (EL ss)),.d (.sl 9 (Ak ps))])] b4=none:=hb4
   obtain ⟨n1,n2⟩:=AI hb4 k1
   simp -implicitDefEqProofs -proj only [go_sem,seval,n1,n2]
   by_cases c1:0≤m.mx∧m.mx≤2000
   rotate_left
   ·refine AJ (G1 c1) ?_
    simp -implicitDefEqProofs -proj only [go_sem,seval]
    exact AH (by rw [hno (fun k=>c1 k.1)])
   refine AJ (HG c1) ?_
   by_cases c2:m.ln=0
   rotate_left
   ·simp -implicitDefEqProofs -proj only [go_sem,seval,n1,n2,decide_eq_false c2]
    exact AH (by rw [hno (fun k=>c2 k.2.1)])
   by_cases c3:m.co=0
   rotate_left
   ·simp -implicitDefEqProofs -proj only [go_sem,seval,n1,n2,decide_eq_true c2,decide_eq_false c3]
    exact AH (by rw [hno (fun k=>c3 k.2.2.1)])
   by_cases c4:i=0
   ·simp -implicitDefEqProofs -proj only [go_sem,seval,n1,n2,decide_eq_true c2,decide_eq_true c3,decide_eq_false (show ¬0<(i:Int) by omega)]
    refine Ad (i+1) ⟨by omega,hgo ⟨c1,c2,c3,fun p _ h=>absurd h (by omega)⟩⟩ (by show ms.length-(i+1)<ms.length-i; omega) rfl ?_ (An hb4 hk)
    simp -implicitDefEqProofs -proj only [go_sem,seval,AM,AP (show i<9223372036854775807 by omega)]
   ·have hw:IntKind.i64.wrap ((i:Int)-1)=((i-1:Nat):Int):=by rw [IntKind.wrap_i64]; omega
    have hip:i-1<ms.length:=by omega
    have hel2:=Gl hip
    have hpe:ms[i-1]? = some ms[i-1]:=List.getElem?_eq_getElem hip
    generalize ms[i-1]=p at *
    simp -implicitDefEqProofs -proj only [go_sem,seval,n1,n2,k1,hw,decide_eq_true c2,decide_eq_true c3,decide_eq_true (show 0<(i:Int) by omega)]
    refine Ah _ (by omega) hel2 ?_
    by_cases c5:Lm p.nm m.nm=true
    ·have c5':Op.bytesLess p.nm.toList m.nm.toList=true:=c5
     simp -implicitDefEqProofs -proj only [go_sem,seval,n1,n2,Rm,c5']
     refine Ad (i+1) ⟨by omega,hgo ⟨c1,c2,c3,fun q hq _=>by rw [hpe] at hq; cases hq; exact c5⟩⟩ (by show ms.length-(i+1)<ms.length-i; omega) rfl ?_ (An hb4 hk)
     simp -implicitDefEqProofs -proj only [go_sem,seval,AM,AP (show i<9223372036854775807 by omega)]
    ·have c5':Op.bytesLess p.nm.toList m.nm.toList=false:=by simpa [Lm] using c5
     simp -implicitDefEqProofs -proj only [go_sem,seval,n1,n2,Rm,c5']
     exact AH (by rw [hno (fun k=>c5 (k.2.2.2 p hpe (by omega)))])
  ·have hi':i=ms.length:=by omega
   subst hi'
   simp -implicitDefEqProofs -proj only [go_sem,seval,k1,E9,decide_eq_false (show ¬(ms.length:Int)<ms.length by omega)]
   refine D9 (fun i:Nat=>i≤ss.length∧∀(j:Nat) (h:j<ss.length),j<i→HQ f t ss[j]) 125 (fun i=>[(1,.ptr b1 0),(88,.d (.sl 3 (EL ss))),(89,i64 ss.length),(90,i64 i)]) (fun _=>[(b1,.box 26 [.d (.str cur),i64 f,i64 t,.d (.sl 5 (EK ms)),.d (.sl 3 (EL ss)),.d (.sl 9 (Ak ps))])]) (fun i=>ss.length-i) 0 ⟨Nat.zero_le _,fun j _ h=>absurd h (Nat.not_lt_zero _)⟩ rfl ?_ ?_ ?_
   ·simp -implicitDefEqProofs -proj only [go_sem,seval,AM]
   ·exact hk
   ·rintro i ⟨hi2,hs2⟩
    by_cases h2:i<ss.length
    ·have hel:=JT h2
     have hno:¬HQ f t ss[i]→decide (goodC ⟨cur,f,t,ms,ss,ps⟩)=false:=fun e=>decide_eq_false fun k=>e (k.ss _ (List.getElem_mem h2))
     have hgo:HQ f t ss[i]→∀(j:Nat) (h:j<ss.length),j<i+1→HQ f t ss[j]:=HL (P:=fun _ x=>HQ f t x) (List.getElem?_eq_getElem h2) hs2
     generalize ss[i]=x at *
     unfold HQ at hno hgo
     simp -implicitDefEqProofs -proj only [go_sem,seval,decide_eq_true (show (i:Int)<ss.length by omega)]
     refine Ah _ (by omega) hel ?_
     simp -implicitDefEqProofs -proj only [go_sem,seval]
     refine AK (fun b4 hb4=>?_)
     replace hb4:Ab [(b1,Blk.box 26 [.d (.str cur),i64 f,i64 t,.d (.sl 5 (EK ms)),.d (.sl 3 (EL ss)),.d (.sl 9 (Ak ps))])] b4=none:=hb4
     obtain ⟨n1,n2⟩:=AI hb4 k1
     simp -implicitDefEqProofs -proj only [go_sem,seval,n1,n2]
     by_cases c1:0≤x.a∧x.a≤1000000000000
     rotate_left
     ·refine AJ (G1 c1) ?_
      simp -implicitDefEqProofs -proj only [go_sem,seval]
      exact AH (by rw [hno (fun k=>c1 k.1)])
     refine AJ (HG c1) ?_
     by_cases c2:x.t<x.f
     ·simp -implicitDefEqProofs -proj only [go_sem,seval,n1,n2,k1,decide_eq_true c2]
      exact AH (by rw [hno (fun k=>by omega)])
     by_cases c3:x.f<f
     ·simp -implicitDefEqProofs -proj only [go_sem,seval,n1,n2,k1,decide_eq_false c2,decide_eq_true c3]
      exact AH (by rw [hno (fun k=>by omega)])
     by_cases c4:t<x.t
     ·simp -implicitDefEqProofs -proj only [go_sem,seval,n1,n2,k1,decide_eq_false c2,decide_eq_false c3,decide_eq_true c4]
      exact AH (by rw [hno (fun k=>by omega)])
     simp -implicitDefEqProofs -proj only [go_sem,seval,n1,n2,k1,decide_eq_false c2,decide_eq_false c3,decide_eq_false c4]
     refine Ad (i+1) ⟨by omega,hgo ⟨c1,by omega⟩⟩ (by show ss.length-(i+1)<ss.length-i; omega) rfl ?_ (An hb4 hk)
     simp -implicitDefEqProofs -proj only [go_sem,seval,AM,AP (show i<9223372036854775807 by omega)]
    ·have hi3:i=ss.length:=by omega
     subst hi3
     have hcont:=ABs (c:=⟨cur,f,t,ms,ss,ps⟩) (l:=ps) k1 hmn (fun x hx=>⟨(hps x hx).tn,(hps x hx).an⟩) hpn
     simp -implicitDefEqProofs -proj only [go_sem,seval,k1,El,decide_eq_false (show ¬(ss.length:Int)<ss.length by omega)]
     refine En hcont (fun r H' hr=>?_)
     obtain ⟨rfl,hr⟩:=hr
     simp -implicitDefEqProofs -proj only [go_sem,seval]
     refine AH (congrArg (fun b=>AV.d (.bool b)) ?_)
     have hiff:(ps.any (G5 ⟨cur,f,t,ms,ss,ps⟩))=false↔∀x∈ps,F6 f t ms.length x:=by
      rw [List.any_eq_false]
      exact ⟨fun h a ha=>by have:=h a ha; unfold G5 at this; simpa using this,fun h a ha=>by unfold G5; simpa using h a ha⟩
     by_cases g11:∀x∈ps,F6 f t ms.length x
     ·rw [hiff.2 g11,decide_eq_true (show goodC ⟨cur,f,t,ms,ss,ps⟩ from ⟨hhd,fun j h=>hs j h h,fun s hm=>by obtain ⟨j,hj,rfl⟩:=List.getElem_of_mem hm; exact hs2 j hj hj,g11⟩)]
      rfl
     ·rw [decide_eq_false (fun k:goodC ⟨cur,f,t,ms,ss,ps⟩=>g11 k.ps)]
      cases e:ps.any (G5 ⟨cur,f,t,ms,ss,ps⟩)
      ·exact absurd (hiff.1 e) g11
      ·rfl
def Hq (n:Int):List Int→Option Int
 | []=>some n
 | x::l=>if Fit (n+x) then Hq (n+x) l else none
theorem AEK {l:List Int} (hl:M2 l) (hn:l.length≤4611686018427387904):DataW Tryz.prog AFX [HE l] (D7 (Hq 0 l)):=by
 refine AX ACc (by simp) ?_
 simp -implicitDefEqProofs -proj only [go_sem,seval,rowI_len]
 refine D9 (fun p:Nat×Int=>p.1≤l.length∧Fit p.2∧Hq p.2 (l.drop p.1)=Hq 0 l) 29 (fun p=>[(9,HE l),(10,i64 l.length),(11,i64 p.1),(4,i64 p.2)]) (fun _=>[]) (fun p=>l.length-p.1) (0,0) ⟨by omega,by decide,by rw [List.drop_zero]⟩ rfl ?_ ?_ ?_
 ·simp -implicitDefEqProofs -proj only [go_sem,seval,AM]
 ·trivial
 ·rintro ⟨i,n⟩ ⟨hi,hf,hs⟩
  rw [Ag] at hi; rw [Ao] at hf; rw [Ag,Ao] at hs
  by_cases h:i<l.length
  ·have hx:=hl i h
   have hc:=QE h
   rw [List.drop_eq_getElem_cons h] at hs
   generalize l[i]=x at *
   simp -implicitDefEqProofs -proj only [go_sem,seval,decide_eq_true (show (i:Int)<l.length by omega)]
   refine Ah _ (by omega) hc ?_
   simp -implicitDefEqProofs -proj only [go_sem,seval,hc]
   refine AJ (Gm hf) ?_
   simp -implicitDefEqProofs -proj only [go_sem,seval]
   refine AJ (Gm hx) ?_
   simp -implicitDefEqProofs -proj only [go_sem,seval]
   refine AJ (JR (by unfold Fit at hf; omega) (by unfold Fit at hx; omega)) ?_
   simp -implicitDefEqProofs -proj only [go_sem,seval]
   refine AJ (KT (by unfold Ee; unfold Fit at hf hx; omega)) ?_
   rw [Hq] at hs
   by_cases hf2:Fit (n+x)
   ·rw [if_pos hf2] at hs; rw [GI hf2]
    simp -implicitDefEqProofs -proj only [go_sem,seval]
    refine Ad (i+1,n+x) ⟨by rw [Ag]; omega,hf2,by rw [Ag,Ao]; exact hs⟩ (by rw [Ag,Ag]; omega) rfl ?_ trivial
    simp -implicitDefEqProofs -proj only [go_sem,seval,AM,AP (show i<9223372036854775807 by omega)]
   ·rw [if_neg hf2] at hs; rw [HN hf2]
    simp -implicitDefEqProofs -proj only [go_sem,seval,←hs,D7]
    exact AH rfl
  ·have hi':i=l.length:=by omega
   subst hi'
   rw [List.drop_length] at hs
   simp -implicitDefEqProofs -proj only [go_sem,seval,decide_eq_false (show ¬(l.length:Int)<l.length by omega)]
   rw [←hs,Hq,D7]
   exact AH rfl
theorem Nn {f t:Int} {n:Nat} {x:PartX} (h:F6 f t n x):GoodX x:=by
 obtain ⟨⟨g1,g2,g3,g4,g5,g6,g7,g8,g9,g10⟩,h2,h3⟩:=h
 exact ⟨g4,g5,g6,g7,⟨g8,g9⟩,g10,h2,h3⟩
def EO (d f t:Int):Prop:=f≤d∧d≤t
instance (d f t:Int):Decidable (EO d f t):=by unfold EO; exact inferInstance
def GW (ss:List SumX) (d:Int):Nat→List Int
 | 0=>[]
 | i+1=>match ss[i]? with
  | some s=>if EO d s.f s.t then GW ss d i++[s.a] else GW ss d i
  | none=>GW ss d i
def bq (b:List Int) (m:Int):Int:=b.getD m.toNat 0
def FQ (ss:List SumX) (ps:List PartX) (d:Int) (b:List Int):Nat→Option (List Int)
 | 0=>some (GW ss d ss.length)
 | i+1=>match FQ ss ps d b i,ps[i]? with
  | some l,some x=>if EO d x.f x.t then (match GG x (bq b x.me) with
   | some n=>some (l++[n])
   | none=>none) else some l
  | some l,none=>some l
  | none,_=>none
def L7 (c:CoreX) (d:Int) (b:List Int):Option (List Int):=FQ c.ss c.ps d b c.ps.length
def Ik (c:CoreX) (b:List Int):Prop:=b.length=c.ms.length∧∀(i:Nat) (h:i<b.length) (h2:i<c.ms.length),0≤b[i]∧b[i]≤(c.ms[i]).mx
noncomputable instance (c:CoreX) (b:List Int):Decidable (Ik c b):=Classical.propDecidable _
structure IX where
 i:Nat
 c:Nat
 cap:Nat
 l:List Int
theorem Fh {i c cap:Nat} {l:List Int}:(IX.mk i c cap l).i=i:=(rfl)
theorem FJ {i c cap:Nat} {l:List Int}:(IX.mk i c cap l).c=c:=(rfl)
theorem FL {i c cap:Nat} {l:List Int}:(IX.mk i c cap l).cap=cap:=(rfl)
theorem E4 {i c cap:Nat} {l:List Int}:(IX.mk i c cap l).l=l:=(rfl)
def Fe (b3:Nat) (x:CoreX) (y:IX):List (Nat×Blk):=Ai 3 1 y.c y.cap (Az y.l)++[(b3,EI x)]
theorem Su {l:List Int} {x:Int}:Az l++[[.int .i64 x]]=Az (l++[x]):=by simp [Az]
theorem Nj {ss:List SumX} {d:Int}:∀i,(GW ss d i).length≤i
 | 0=>by simp [GW]
 | i+1=>by
  have:=Nj (ss:=ss) (d:=d) i
  rw [GW]
  split
  ·split
   ·rw [List.length_append,List.length_singleton]; omega
   ·omega
  ·omega
theorem SQ {ss:List SumX} {ps:List PartX} {d:Int} {b:List Int}:∀i l,FQ ss ps d b i=some l→l.length≤ss.length+i
 | 0,l,h=>by
  have:=Nj (ss:=ss) (d:=d) ss.length
  rw [FQ] at h
  cases h
  omega
 | i+1,l,h=>by
  rw [FQ] at h
  cases e:FQ ss ps d b i with
  | none=>rw [e] at h; cases h
  | some m =>
   have:=SQ i m e
   rw [e] at h
   cases e2:ps[i]? with
   | none=>rw [e2] at h; cases h; omega
   | some x =>
    rw [e2] at h
    simp -implicitDefEqProofs only [] at h
    split at h
    ·split at h
     ·cases h; rw [List.length_append,List.length_singleton]; omega
     ·cases h
    ·cases h; omega
theorem Qt {ss:List SumX} {ps:List PartX} {d:Int} {b:List Int} {i:Nat} (h:FQ ss ps d b i=none):∀k,FQ ss ps d b (i+k)=none
 | 0=>h
 | k+1=>by
  rw [←Nat.add_assoc,FQ,Qt h k]
theorem YQ {ss:List SumX} {ps:List PartX} {d:Int} {b:List Int} {i:Nat} (hi:i<ps.length) (h:FQ ss ps d b (i+1)=none):FQ ss ps d b ps.length=none:=by
 have:=Qt h (ps.length-(i+1))
 rwa [show i+1+(ps.length-(i+1))=ps.length by omega] at this
theorem ASj {l:List Int} (h:∀v∈l,Fit v):M2 l:=fun i hi=>h _ (List.getElem_mem hi)
theorem Vt {l:List Adj}:∀{x n:Int},(∀a∈l,a.Fit)→Fit x→Ga x l=some n→Fit n:=by
 induction l with
 | nil=>intro x n _ hx h; cases h; exact hx
 | cons a l ih =>
  intro x n hl hx h
  rw [Ga] at h
  cases e:Gs a x with
  | none=>rw [e] at h; cases h
  | some y =>
   rw [e] at h
   exact ih (fun b hb=>hl b (List.mem_cons_of_mem _ hb)) (O3 (hl a (List.mem_cons_self ..)) hx e) h
theorem AT6 {x:PartX} {q n:Int} (hx:x.Fit) (h:GG x q=some n):Fit n:=by
 unfold GG at h
 cases e:Ih x q with
 | none=>rw [e] at h; cases h
 | some m =>
  rw [e] at h
  exact Vt hx.ad (O5 e) h
theorem NG {ss:List SumX} {d:Int} (hs:∀s∈ss,s.Fit):∀i,∀v∈GW ss d i,Fit v
 | 0,v,h=>by cases h
 | i+1,v,h=>by
  rw [GW] at h
  cases e:ss[i]? with
  | none=>rw [e] at h; exact NG hs i v h
  | some s =>
   rw [e] at h
   simp -implicitDefEqProofs only [] at h
   split at h
   ·rcases List.mem_append.1 h with h | h
    ·exact NG hs i v h
    ·rw [List.mem_singleton] at h
     subst h
     exact (hs s (List.mem_of_getElem? e)).1
   ·exact NG hs i v h
theorem QB {ss:List SumX} {ps:List PartX} {d:Int} {b:List Int} (hs:∀s∈ss,s.Fit) (hp:∀x∈ps,x.Fit):∀i l,FQ ss ps d b i=some l→∀v∈l,Fit v
 | 0,l,h,v,hv=>by
  rw [FQ] at h
  cases h
  exact NG hs _ v hv
 | i+1,l,h,v,hv=>by
  rw [FQ] at h
  cases e:FQ ss ps d b i with
  | none=>rw [e] at h; cases h
  | some m =>
   have ih:=QB hs hp i m e
   rw [e] at h
   cases e2:ps[i]? with
   | none=>rw [e2] at h; cases h; exact ih v hv
   | some x =>
    rw [e2] at h
    simp -implicitDefEqProofs only [] at h
    split at h
    ·cases e3:GG x (bq b x.me) with
     | none=>rw [e3] at h; cases h
     | some n =>
      rw [e3] at h
      cases h
      rcases List.mem_append.1 hv with h | h
      ·exact ih v h
      ·rw [List.mem_singleton] at h
       subst h
       exact AT6 (hp x (List.mem_of_getElem? e2)) e3
    ·cases h; exact ih v hv
theorem ABJ {c:CoreX} {d:Int} {b l:List Int} (hc:c.Fit) (hg:goodC c) (h:L7 c d b=some l):∀v∈l,Fit v:=QB hc.ss hc.ps _ l h
set_option maxRecDepth 20000 in
theorem QF {c:CoreX} {d:Int} {b:List Int} (hc:c.Fit) (hg:goodC c) (hb:Ik c b):DataW Tryz.prog J8 [Fl c,i64 d,HE b] (match L7 c d b with | some l=>(match Hq 0 l with | some n=>.tup [i64 n,i64 0] | none=>.tup [i64 0,i64 2]) | none=>.tup [i64 0,i64 2]):=by
 obtain ⟨⟨a1,a2⟩,⟨a3,a4⟩,a5,a6,a7,a8⟩:=hg.hd
 have hmx:=hg.ms
 have hfit:=fun l h=>ABJ (b:=b) (d:=d) (l:=l) hc hg h
 have hps:=hg.ps
 have hfp:=hc.ps
 obtain ⟨hb1,hb2⟩:=hb
 obtain ⟨cur,f,t,ms,ss,ps⟩:=c
 simp -implicitDefEqProofs only [] at a1 a2 a3 a4 a5 a6 a7 a8 hmx hps hfp hb1 hb2
 unfold L7 at hfit ⊢
 simp -implicitDefEqProofs only [] at hfit ⊢
 refine AX AKq (by simp) ?_
 simp -implicitDefEqProofs -proj only [go_sem,seval]
 refine AK (fun b3 hb3=>?_)
 simp -implicitDefEqProofs -proj only [go_sem,seval,E9]
 refine D9 (fun y:IX=>y.i≤ss.length∧y.l=GW ss d y.i∧(AT (Fe b3 ⟨cur,f,t,ms,ss,ps⟩ y)).Nodup) 82 (fun y=>[(1,i64 d),(2,HE b),(3,.ptr b3 0),(8,A0 0 1 y.c y.cap (Az y.l)),(18,.d (.sl 3 (EL ss))),(19,i64 ss.length),(20,i64 y.i)]) (Fe b3 ⟨cur,f,t,ms,ss,ps⟩) (fun y=>ss.length-y.i) ⟨0,0,0,[]⟩ ⟨Nat.zero_le _,rfl,by simp [AT,Fe,E4,Az,Ai]⟩ rfl ?_ ?_ ?_
 ·simp -implicitDefEqProofs -proj only [go_sem,seval,AM,Fh,E4]
  try rfl
 ·simp -implicitDefEqProofs only [Fe,E4,Az,List.map_nil,Kg,List.nil_append]
  exact ⟨upd_eq,trivial⟩
 ·rintro ⟨i,c1,cap,l⟩ ⟨hi,hl,hn⟩
  simp -implicitDefEqProofs only [Fh,E4] at hi hl
  have hall:=EQ hn
  obtain ⟨H,hH⟩:∃H,Ab (Fe b3 ⟨cur,f,t,ms,ss,ps⟩ ⟨i,c1,cap,l⟩)=H:=⟨_,rfl⟩
  rw [hH] at hall
  simp -implicitDefEqProofs only [Fe,FJ,FL,E4] at hall hn
  obtain ⟨hrow,k3,_⟩:=EF.1 hall
  have hll:l.length≤i:=by rw [hl]; exact Nj i
  by_cases h:i<ss.length
  ·have hel:=JT h
   have hstep:GW ss d (i+1)=if EO d ss[i].f ss[i].t then l++[ss[i].a] else l:=by rw [GW,List.getElem?_eq_getElem h,←hl]
   generalize ss[i]=s at *
   simp -implicitDefEqProofs -proj only [go_sem,seval,Fh,FJ,FL,E4,hH,decide_eq_true (show (i:Int)<ss.length by omega)]
   refine Ah _ (by omega) hel ?_
   simp -implicitDefEqProofs -proj only [go_sem,seval]
   refine AK (fun b10 hb10=>?_)
   replace hb10:H b10=none:=hb10
   obtain ⟨p1,p2⟩:=AI hb10 k3
   by_cases c2:EO d s.f s.t
   ·rw [if_pos c2] at hstep
    simp -implicitDefEqProofs -proj only [go_sem,seval,decide_eq_true c2.1,decide_eq_true c2.2]
    refine As (fun bs hs=>?_)
    replace hs:upd H b10 _ bs=none:=hs
    simp -implicitDefEqProofs -proj only [go_sem,seval]
    refine Ff (xs:=Az l) (y:=[.int .i64 s.a]) (t:=3) (capc:=1) [(b3,EI ⟨cur,f,t,ms,ss,ps⟩)] rfl (An hs (An hb10 hall)) hn (by simp -implicitDefEqProofs -proj only [go_sem,seval]; try rfl) (by rw [rowI_len]; omega) (by rw [rowI_len]; omega) (fun H' c2 cap2 ha hk=>?_)
    rw [Su] at ha hk
    have hne:Az (l++[s.a])≠[]:=by simp [Az]
    simp -implicitDefEqProofs -proj only [go_sem,seval,rowI_len]
    refine Ad ⟨i+1,c2,cap2,l++[s.a]⟩ ⟨by rw [Fh]; omega,hstep.symm,by simpa only [Fe,FJ,FL,E4] using hk⟩ (by show ss.length-(i+1)<ss.length-i; omega) rfl ?_ (by simpa only [Fe,FJ,FL,E4] using ha)
    simp -implicitDefEqProofs -proj only [go_sem,seval,AM,Fh,FJ,FL,E4,Ex hne,rowI_len,List.length_append,AP (show i<9223372036854775807 by omega)]
   ·rw [if_neg c2] at hstep
    by_cases w1:s.f≤d
    rotate_left
    ·simp -implicitDefEqProofs -proj only [go_sem,seval,decide_eq_false w1]
     refine Ad ⟨i+1,c1,cap,l⟩ ⟨by rw [Fh]; omega,hstep.symm,by simpa only [Fe,FJ,FL,E4] using hn⟩ (by show ss.length-(i+1)<ss.length-i; omega) rfl ?_ (by simpa only [Fe,FJ,FL,E4] using An hb10 hall)
     simp -implicitDefEqProofs -proj only [go_sem,seval,AM,Fh,FJ,FL,E4,AP (show i<9223372036854775807 by omega)]
    ·simp -implicitDefEqProofs -proj only [go_sem,seval,decide_eq_true w1,decide_eq_false (fun k=>c2 ⟨w1,k⟩)]
     refine Ad ⟨i+1,c1,cap,l⟩ ⟨by rw [Fh]; omega,hstep.symm,by simpa only [Fe,FJ,FL,E4] using hn⟩ (by show ss.length-(i+1)<ss.length-i; omega) rfl ?_ (by simpa only [Fe,FJ,FL,E4] using An hb10 hall)
     simp -implicitDefEqProofs -proj only [go_sem,seval,AM,Fh,FJ,FL,E4,AP (show i<9223372036854775807 by omega)]
  ·have hi':i=ss.length:=by omega
   subst hi'
   simp -implicitDefEqProofs -proj only [go_sem,seval,Fh,FJ,FL,E4,hH,k3,El,decide_eq_false (show ¬(ss.length:Int)<ss.length by omega)]
   refine D9 (fun y:IX=>y.i≤ps.length∧FQ ss ps d b y.i=some y.l∧(AT (Fe b3 ⟨cur,f,t,ms,ss,ps⟩ y)).Nodup) 82 (fun y=>[(1,i64 d),(2,HE b),(8,A0 0 1 y.c y.cap (Az y.l)),(41,.d (.sl 9 (Ak ps))),(42,i64 ps.length),(43,i64 y.i)]) (Fe b3 ⟨cur,f,t,ms,ss,ps⟩) (fun y=>ps.length-y.i) ⟨0,c1,cap,l⟩ ⟨Nat.zero_le _,by rw [FQ]; exact congrArg some hl.symm,hn⟩ rfl ?_ ?_ ?_
   ·simp -implicitDefEqProofs -proj only [go_sem,seval,AM,Fh,FJ,FL,E4]
   ·exact hall
   ·rintro ⟨i,c1,cap,l⟩ ⟨hi,hl,hn⟩
    simp -implicitDefEqProofs only [Fh,E4] at hi hl
    have hall:=EQ hn
    obtain ⟨H,hH⟩:∃H,Ab (Fe b3 ⟨cur,f,t,ms,ss,ps⟩ ⟨i,c1,cap,l⟩)=H:=⟨_,rfl⟩
    rw [hH] at hall
    simp -implicitDefEqProofs only [Fe,FJ,FL,E4] at hall hn
    obtain ⟨hrow,k3,_⟩:=EF.1 hall
    have hll:=SQ i l hl
    by_cases h:i<ps.length
    ·have hel:=IW h
     have hok:=hps _ (List.getElem_mem h)
     have hfx:=hfp _ (List.getElem_mem h)
     have hstep:FQ ss ps d b (i+1)=if EO d ps[i].f ps[i].t then (match GG ps[i] (bq b ps[i].me) with | some n=>some (l++[n]) | none=>none) else some l:=by (rw [FQ,hl,List.getElem?_eq_getElem h]; try rfl)
     have hfail:=fun e=>YQ (ss:=ss) (ps:=ps) (d:=d) (b:=b) h e
     obtain ⟨m1,m2⟩:=(show 0≤ps[i].me∧ps[i].me<(ms.length:Int) from ⟨hok.1.1,hok.1.2.1⟩)
     have hqb:(ps[i].me).toNat<b.length:=by omega
     have hq:bq b ps[i].me=b[(ps[i].me).toNat]:=by unfold bq; rw [List.getD_eq_getElem?_getD,List.getElem?_eq_getElem hqb,Option.getD_some]
     have hq2:=hb2 _ hqb (by omega)
     have hmxx:=hmx (ps[i].me).toNat (by omega)
     have helq:(Az b)[(ps[i].me).toNat]? = some [.int .i64 (bq b ps[i].me)]:=by rw [hq]; exact Ly (List.getElem?_eq_getElem hqb)
     have hfq:Fit (bq b ps[i].me):=by rw [hq]; have:=hmxx.1; unfold Fit; omega
     have G:=Nn hok
     have hcall:=Rq hfx hfq G (N1 G.ts)
     clear hq hq2 hmxx hok G
     generalize bq b ps[i].me=qq at *
     generalize ps[i]=x at *
     simp -implicitDefEqProofs -proj only [go_sem,seval,Fh,FJ,FL,E4,hH,decide_eq_true (show (i:Int)<ps.length by omega)]
     refine Ah _ (by omega) hel ?_
     simp -implicitDefEqProofs -proj only [go_sem,seval]
     refine AK (fun b12 hb12=>?_)
     replace hb12:H b12=none:=hb12
     obtain ⟨p1,p2⟩:=AI hb12 k3
     by_cases c2:EO d x.f x.t
     rotate_left
     ·rw [if_neg c2] at hstep
      by_cases w1:x.f≤d
      rotate_left
      ·simp -implicitDefEqProofs -proj only [go_sem,seval,decide_eq_false w1]
       refine Ad ⟨i+1,c1,cap,l⟩ ⟨by rw [Fh]; omega,hstep,by simpa only [Fe,FJ,FL,E4] using hn⟩ (by show ps.length-(i+1)<ps.length-i; omega) rfl ?_ (by simpa only [Fe,FJ,FL,E4] using An hb12 hall)
       simp -implicitDefEqProofs -proj only [go_sem,seval,AM,Fh,FJ,FL,E4,AP (show i<9223372036854775807 by omega)]
      ·simp -implicitDefEqProofs -proj only [go_sem,seval,decide_eq_true w1,decide_eq_false (fun k=>c2 ⟨w1,k⟩)]
       refine Ad ⟨i+1,c1,cap,l⟩ ⟨by rw [Fh]; omega,hstep,by simpa only [Fe,FJ,FL,E4] using hn⟩ (by show ps.length-(i+1)<ps.length-i; omega) rfl ?_ (by simpa only [Fe,FJ,FL,E4] using An hb12 hall)
       simp -implicitDefEqProofs -proj only [go_sem,seval,AM,Fh,FJ,FL,E4,AP (show i<9223372036854775807 by omega)]
     rw [if_pos c2] at hstep
     simp -implicitDefEqProofs -proj only [go_sem,seval,decide_eq_true c2.1,decide_eq_true c2.2]
     refine Ah _ m1 helq ?_
     simp -implicitDefEqProofs -proj only [go_sem,seval]
     refine AJ hcall ?_
     cases e:GG x qq with
     | none =>
      rw [e] at hstep
      simp -implicitDefEqProofs only [] at hstep
      rw [hfail hstep]
      simp -implicitDefEqProofs -proj only [go_sem,seval,D7]
      exact AH rfl
     | some n =>
      rw [e] at hstep
      simp -implicitDefEqProofs only [] at hstep
      simp -implicitDefEqProofs -proj only [go_sem,seval,D7]
      refine As (fun bs hs=>?_)
      replace hs:upd H b12 _ bs=none:=hs
      simp -implicitDefEqProofs -proj only [go_sem,seval]
      refine Ff (xs:=Az l) (y:=[.int .i64 n]) (t:=3) (capc:=1) [(b3,EI ⟨cur,f,t,ms,ss,ps⟩)] rfl (An hs (An hb12 hall)) hn (by simp -implicitDefEqProofs -proj only [go_sem,seval]; try rfl) (by rw [rowI_len]; omega) (by rw [rowI_len]; omega) (fun H' c2 cap2 ha hk=>?_)
      rw [Su] at ha hk
      have hne:Az (l++[n])≠[]:=by simp [Az]
      simp -implicitDefEqProofs -proj only [go_sem,seval,rowI_len]
      refine Ad ⟨i+1,c2,cap2,l++[n]⟩ ⟨by rw [Fh]; omega,hstep,by simpa only [Fe,FJ,FL,E4] using hk⟩ (by show ps.length-(i+1)<ps.length-i; omega) rfl ?_ (by simpa only [Fe,FJ,FL,E4] using ha)
      simp -implicitDefEqProofs -proj only [go_sem,seval,AM,Fh,FJ,FL,E4,Ex hne,rowI_len,List.length_append,AP (show i<9223372036854775807 by omega)]
    ·have hi':i=ps.length:=by omega
     subst hi'
     rw [hl]
     have hsum:=AEK (l:=l) (ASj (hfit l hl)) (by omega)
     rw [←hH] at hrow
     cases e:Hq 0 l with
     | none =>
      rw [e,D7] at hsum
      simp -implicitDefEqProofs only [e]
      simp -implicitDefEqProofs -proj only [go_sem,seval,Fh,FJ,FL,E4,decide_eq_false (show ¬(ps.length:Int)<ps.length by omega)]
      refine JN hsum (FE (Jz hrow) GY) rfl ?_
      simp -implicitDefEqProofs -proj only [go_sem,seval]
      exact AH rfl
     | some n =>
      rw [e,D7] at hsum
      simp -implicitDefEqProofs only [e]
      simp -implicitDefEqProofs -proj only [go_sem,seval,Fh,FJ,FL,E4,decide_eq_false (show ¬(ps.length:Int)<ps.length by omega)]
      refine JN hsum (FE (Jz hrow) GY) rfl ?_
      simp -implicitDefEqProofs -proj only [go_sem,seval]
      exact AH rfl
def sg (g:Nat→Int):Nat→Int
 | 0=>0
 | n+1=>sg g n+g n
theorem GT {g h:Nat→Int}:∀{n:Nat},(∀i,i<n→g i=h i)→sg g n=sg h n
 | 0,_=>rfl
 | n+1,k=>by rw [sg,sg,GT (fun i hi=>k i (by omega)),k n (by omega)]
theorem KF {g h:Nat→Int}:∀{n:Nat},(∀i,i<n→g i≤h i)→sg g n≤sg h n
 | 0,_=>Int.le_refl _
 | n+1,k=>by
  have:=KF (n:=n) (fun i hi=>k i (by omega))
  have:=k n (by omega)
  rw [sg,sg]; omega
theorem QX {g:Nat→Int}:∀n:Nat,sg (fun i=>- g i) n = - sg g n
 | 0=>rfl
 | n+1=>by rw [sg,sg,QX n]; omega
theorem I5 {g:Nat→Int}:∀{n:Nat},(∀i,i<n→0≤g i)→0≤sg g n
 | 0,_=>Int.le_refl _
 | n+1,k=>by
  have:=I5 (n:=n) (fun i hi=>k i (by omega))
  have:=k n (by omega)
  rw [sg]; omega
theorem AL1 {g h:Nat→Int} {n:Nat} (k:∀i,i<n→-h i≤g i∧g i≤h i) : -sg h n≤sg g n∧sg g n≤sg h n:=by
 refine ⟨?_,KF fun i hi=>(k i hi).2⟩
 rw [←QX]
 exact KF fun i hi=>(k i hi).1
theorem NV {g h:Nat→Int}:∀n:Nat,sg (fun i=>g i+h i) n=sg g n+sg h n
 | 0=>rfl
 | n+1=>by rw [sg,sg,sg,NV n]; omega
theorem LP:∀n:Nat,sg (fun _=>0) n=0
 | 0=>rfl
 | n+1=>by rw [sg,LP n]; rfl
theorem N9 {g:Nat→Nat→Int} {n:Nat}:∀m:Nat,sg (fun i=>sg (g i) m) n=sg (fun j=>sg (fun i=>g i j) n) m
 | 0=>by simp -implicitDefEqProofs only [sg,LP]
 | m+1=>by
  have:sg (fun i=>sg (g i) (m+1)) n=sg (fun i=>sg (g i) m+g i m) n:=GT fun i _=>by rw [sg]
  rw [this,NV,N9 m,sg]
theorem OF {v:Int} {k:Nat}:∀{n:Nat},sg (fun i=>if i=k then v else 0) n=if k<n then v else 0
 | 0=>rfl
 | n+1=>by
  rw [sg,OF]
  by_cases h:k<n
  ·rw [if_pos h,if_neg (by omega),if_pos (by omega)]; omega
  ·rw [if_neg h]
   by_cases e:n=k
   ·rw [if_pos e,if_pos (by omega)]; omega
   ·rw [if_neg e,if_neg (by omega)]; omega
def pv (x:PartX) (q:Int):Int:=(GG x q).getD 0
def Fj (ss:List SumX) (d:Int) (j:Nat):Int:=match ss[j]? with
 | some s=>if EO d s.f s.t then s.a else 0
 | none=>0
def J5 (ps:List PartX) (d:Int) (m j:Nat):Int:=match ps[j]? with
 | some x=>if x.me=m∧EO d x.f x.t then pv x 0 else 0
 | none=>0
def GB (ps:List PartX) (d:Int) (m:Nat) (q:Int) (j:Nat):Int:=match ps[j]? with
 | some x=>if x.me=m∧EO d x.f x.t then pv x q-pv x 0 else 0
 | none=>0
def Hl (c:CoreX) (d:Int):Int:=sg (Fj c.ss d) c.ss.length
def Hv (c:CoreX) (d:Int) (m:Nat):Int:=sg (J5 c.ps d m) c.ps.length
def ES (c:CoreX) (d:Int):Int:=Hl c d+sg (Hv c d) c.ms.length
def FC (c:CoreX) (d:Int) (m:Nat) (q:Int):Int:=sg (GB c.ps d m q) c.ps.length
def Ht (c:CoreX) (d:Int) (m:Nat) (mx:Int):List Int:=(List.range (mx+1).toNat).map fun (q:Nat)=>FC c d m q
def Em (c:CoreX) (d:Int) (k:Nat):List (List Int):=(List.range k).map fun m=>Ht c d m (match c.ms[m]? with | some x=>x.mx | none=>0)
abbrev Ek:Type:=Int×List (List Int)
def Ew (c:CoreX) (d:Int):Ek:=(ES c d,Em c d c.ms.length)
def Gh (x:PartX):Nat→Int
 | 0=>0
 | n+1=>max (Gh x n) (pv x n)
theorem TB {x:PartX}:∀n,0≤Gh x n
 | 0=>Int.le_refl _
 | n+1=>by have:=TB (x:=x) n; rw [Gh]; omega
theorem Po {x:PartX}:∀{n k:Nat},k<n→pv x k≤Gh x n
 | 0,k,h=>by omega
 | n+1,k,h=>by
  rw [Gh]
  by_cases e:k=n
  ·subst e; omega
  ·have:=Po (x:=x) (show k<n by omega); omega
def EZ (ms:List MeterX) (m:Int):Int:=match ms[m.toNat]? with
 | some x=>x.mx
 | none=>0
def HP (c:CoreX) (j:Nat):Int:=match c.ps[j]? with
 | some x=>Gh x (EZ c.ms x.me+1).toNat
 | none=>0
theorem Lu {c:CoreX} (j:Nat):0≤HP c j:=by
 unfold HP; split
 ·exact TB _
 ·exact Int.le_refl _
def F4 (ss:List SumX) (j:Nat):Int:=match ss[j]? with
 | some s=>s.a
 | none=>0
def FY (c:CoreX) (i:Nat):Int:=sg (F4 c.ss) c.ss.length+sg (HP c) i
def JZ (x:PartX) (q:Int):Prop:=∃n,GG x q=some n∧0≤n∧n≤1152921504606846976
structure fitsC (c:CoreX):Prop where
 great:¬JX c
 good:goodC c
 parts:∀x∈c.ps,∀q:Nat,q<(EZ c.ms x.me+1).toNat→JZ x q
 tot:∀i,i≤c.ps.length→FY c i≤1152921504606846976
noncomputable instance (c:CoreX):Decidable (fitsC c):=Classical.propDecidable _
theorem AH0 {x:PartX} {q:Int} (h:JZ x q):GG x q=some (pv x q)∧0≤pv x q∧pv x q≤1152921504606846976:=by
 obtain ⟨n,h1,h2,h3⟩:=h
 unfold pv
 rw [h1]
 exact ⟨rfl,h2,h3⟩
structure BndC (c:CoreX):Prop where
 mx:∀(m:Nat) (h:m<c.ms.length),0≤c.ms[m].mx∧c.ms[m].mx≤2000
 me:∀x∈c.ps,0≤x.me∧x.me<(c.ms.length:Int)
 amt:∀s∈c.ss,0≤s.a∧s.a≤1000000000000
theorem fitsC.bnd {c:CoreX} (h:goodC c):BndC c :=
 ⟨fun m hm=>(h.ms m hm).1,fun x hx=>⟨(h.ps x hx).1.1,(h.ps x hx).1.2.1⟩,fun s hs=>(h.ss s hs).1⟩
theorem SO {ms:List MeterX} {m:Nat} (h:m<ms.length):EZ ms m=ms[m].mx:=by
 unfold EZ; rw [Int.toNat_natCast,List.getElem?_eq_getElem h]
theorem SR {c:CoreX} (h:goodC c) (j:Nat):0≤F4 c.ss j:=by
 unfold F4
 cases e:c.ss[j]? with
 | none=>exact Int.le_refl _
 | some s=>exact ((fitsC.bnd h).amt s (List.mem_of_getElem? e)).1
theorem NA {c:CoreX} (h:goodC c) (d:Int) (j:Nat):0≤Fj c.ss d j∧Fj c.ss d j≤F4 c.ss j:=by
 have hp:=SR h j
 unfold F4 at *
 unfold Fj
 cases e:c.ss[j]? with
 | none=>exact ⟨Int.le_refl _,Int.le_refl _⟩
 | some s =>
  rw [e] at hp
  simp -implicitDefEqProofs only [] at hp ⊢
  split <;> omega
theorem Ip {c:CoreX} (h:fitsC c) {x:PartX} (hx:x∈c.ps) {q:Int} (h0:0≤q) (hq:q≤EZ c.ms x.me):GG x q=some (pv x q)∧0≤pv x q∧pv x q≤Gh x (EZ c.ms x.me+1).toNat∧pv x q≤1152921504606846976:=by
 have hk:=h.parts x hx q.toNat (by omega)
 rw [Int.toNat_of_nonneg h0] at hk
 obtain ⟨h1,h2,h3⟩:=AH0 hk
 have hb:=Po (x:=x) (show q.toNat<(EZ c.ms x.me+1).toNat by omega)
 rw [Int.toNat_of_nonneg h0] at hb
 exact ⟨h1,h2,hb,h3⟩
theorem MK {c:CoreX} (h:goodC c) {x:PartX} (hx:x∈c.ps):0≤EZ c.ms x.me:=by
 obtain ⟨h1,h2⟩:=(fitsC.bnd h).me x hx
 have:=(fitsC.bnd h).mx x.me.toNat (by omega)
 unfold EZ
 rw [List.getElem?_eq_getElem (show x.me.toNat<c.ms.length by omega)]
 exact this.1
theorem ZN {c:CoreX} (h:fitsC c) (d:Int) {m:Nat} (hm:m<c.ms.length) {q:Int} (h0:0≤q) (hq:q≤c.ms[m].mx) (j:Nat) : -HP c j≤GB c.ps d m q j∧GB c.ps d m q j≤HP c j:=by
 have hp:=Lu (c:=c) j
 unfold HP at *
 unfold GB
 cases e:c.ps[j]? with
 | none=>exact ⟨Int.le_refl _,Int.le_refl _⟩
 | some x =>
  have hx:=List.mem_of_getElem? e
  rw [e] at hp
  simp -implicitDefEqProofs only [] at hp ⊢
  by_cases hc:x.me=m∧EO d x.f x.t
  ·rw [if_pos hc]
   have hmx:EZ c.ms x.me=c.ms[m].mx:=by rw [hc.1]; exact SO hm
   obtain ⟨h1,h2,h3,h4⟩:=Ip h hx (Int.le_refl 0) (MK h.good hx)
   obtain ⟨g1,g2,g3,g4⟩:=Ip h hx h0 (by rw [hmx]; exact hq)
   omega
  ·rw [if_neg hc]; omega
theorem AJH {c:CoreX} (h:goodC c) (n:Nat):0≤sg (F4 c.ss) n:=I5 fun i _=>SR h i
theorem Pl {c:CoreX} (h:fitsC c) {i:Nat} (hi:i≤c.ps.length):0≤sg (HP c) i∧sg (HP c) i≤1152921504606846976:=by
 have h1:=h.tot i hi
 have h2:=AJH h.good c.ss.length
 unfold FY at h1
 exact ⟨I5 fun i _=>Lu i,by omega⟩
theorem O1 {c:CoreX} (h:goodC c) (d:Int) {i:Nat} (hi:i≤c.ss.length):0≤sg (Fj c.ss d) i∧sg (Fj c.ss d) i≤1000000000000*i:=by
 refine ⟨I5 fun j _=>(NA h d j).1,?_⟩
 have key:∀n:Nat,n≤c.ss.length→sg (F4 c.ss) n≤1000000000000*n:=by
  intro n
  induction n with
  | zero=>intro _; exact Int.le_refl _
  | succ n ih =>
   intro hn
   have:=ih (by omega)
   have h1:=((fitsC.bnd h).amt _ (List.getElem_mem (show n<c.ss.length by omega))).2
   rw [sg]
   have:F4 c.ss n=c.ss[n].a:=by unfold F4; rw [List.getElem?_eq_getElem (by omega)]
   omega
 have:=KF (n:=i) fun j _=>(NA h d j).2
 have:=key i hi
 omega
theorem P7 {c:CoreX} (h:fitsC c) (d:Int) {m:Nat} (hm:m<c.ms.length) {q:Int} (h0:0≤q) (hq:q≤c.ms[m].mx) {i:Nat} (hi:i≤c.ps.length) : -1152921504606846976≤sg (GB c.ps d m q) i∧sg (GB c.ps d m q) i≤1152921504606846976:=by
 have:=(Pl h hi).2
 have h2:=AL1 (n:=i) fun j _=>ZN h d hm h0 hq j
 omega
structure Seg (β:Type) where
 f:Int
 t:Int
 v : β
section
variable {β:Type}
def FwdB (val:Int→β) (lo hi:Int):List (Seg β)→Prop
 | []=>lo=hi
 | r::R=>r.f=lo∧r.f≤r.t∧(∀x,r.f≤x→x≤r.t→val x=r.v)∧(∀s,R.head? = some s→r.v≠s.v)∧FwdB val (r.t+1) hi R
theorem FwdB.le {val:Int→β}:∀{R:List (Seg β)} {lo hi:Int},FwdB val lo hi R→lo≤hi
 | [],lo,hi,h=>by have:lo=hi:=h; omega
 | r::R,lo,hi,h=>by
  obtain ⟨h1,h2,_,_,h5⟩:=h
  have:=FwdB.le h5
  omega
theorem FwdB.len {val:Int→β}:∀{R:List (Seg β)} {lo hi:Int},FwdB val lo hi R→(R.length:Int)≤hi-lo
 | [],lo,hi,h=>by have:lo=hi:=h; simp; omega
 | r::R,lo,hi,h=>by
  obtain ⟨h1,h2,_,_,h5⟩:=h
  have:=FwdB.len h5
  simp -implicitDefEqProofs only [List.length_cons]
  omega
theorem FwdB.canon {val:Int→β} {hi:Int}:∀{R S:List (Seg β)} {lo:Int},FwdB val lo hi R→FwdB val lo hi S→R=S
 | [],[],_,_,_=>rfl
 | [],s::S,lo,h,k=>by
  have:lo=hi:=h
  obtain ⟨k1,k2,_,_,k5⟩:=k
  have:=k5.le
  omega
 | r::R,[],lo,h,k=>by
  have:lo=hi:=k
  obtain ⟨k1,k2,_,_,k5⟩:=h
  have:=k5.le
  omega
 | r::R,s::S,lo,h,k=>by
  obtain ⟨h1,h2,h3,h4,h5⟩:=h
  obtain ⟨k1,k2,k3,k4,k5⟩:=k
  have hh:=h5.le
  have kk:=k5.le
  have ev:r.v=s.v:=by rw [←h3 lo (by omega) (by omega),←k3 lo (by omega) (by omega)]
  have key:∀{A:List (Seg β)} {a b:Seg β},FwdB val (a.t+1) hi A→b.t+1≤hi→a.f=lo→b.f=lo→a.f≤a.t→(∀x,b.f≤x→x≤b.t→val x=b.v)→(∀q,A.head? = some q→a.v≠q.v)→a.v=b.v→¬a.t<b.t:=by
   intro A a b hA hb ha hb2 haa hbv hne hab hlt
   cases A with
   | nil=>have:a.t+1=hi:=hA; omega
   | cons q A =>
    obtain ⟨q1,q2,q3,_,_⟩:=hA
    have e1:=q3 q.f (Int.le_refl _) q2
    have e2:=hbv q.f (by omega) (by omega)
    exact hne q rfl (by rw [hab,←e2,e1])
  have et:r.t=s.t:=by
   have n1:=key h5 kk h1 k1 h2 k3 h4 ev
   have n2:=key k5 hh k1 h1 k2 h3 k4 ev.symm
   omega
  have ers:r=s:=by
   obtain ⟨rf,rt,rv⟩:=r
   obtain ⟨sf,st,sv⟩:=s
   simp -implicitDefEqProofs only at h1 k1 et ev
   rw [h1,k1,et,ev]
  rw [ers]
  rw [et] at h5
  exact congrArg _ (FwdB.canon h5 k5)
theorem FwdB.congr {val val':Int→β} {hi:Int}:∀{R:List (Seg β)} {lo:Int},(∀x,lo≤x→x<hi→val x=val' x)→FwdB val lo hi R→FwdB val' lo hi R
 | [],lo,_,h=>h
 | r::R,lo,hv,h=>by
  obtain ⟨h1,h2,h3,h4,h5⟩:=h
  have hl:=h5.le
  exact ⟨h1,h2,fun x a b=>by rw [←hv x (by omega) (by omega)]; exact h3 x a b,h4,FwdB.congr (fun x a b=>hv x (by omega) b) h5⟩
theorem FwdB.nth {val:Int→β} {hi:Int}:∀{R:List (Seg β)} {lo:Int},FwdB val lo hi R→∀(i:Nat) r,R[i]? = some r→lo+i≤r.f∧r.f≤r.t∧r.t<hi∧(∀x,r.f≤x→x≤r.t→val x=r.v)∧(∀s,R[i+1]? = some s→s.f=r.t+1∧r.v≠s.v)∧(R[i+1]? = none→r.t+1=hi)∧(i=0→r.f=lo)
 | [],lo,_,i,r,hr=>by simp at hr
 | q::R,lo,h,0,r,hr=>by
  obtain ⟨h1,h2,h3,h4,h5⟩:=h
  have hl:=h5.le
  simp -implicitDefEqProofs only [List.getElem?_cons_zero,Option.some.injEq] at hr
  subst hr
  refine ⟨by omega,h2,by omega,h3,fun s hs=>?_,fun hs=>?_,fun _=>h1⟩
  ·cases R with
   | nil=>simp at hs
   | cons a R =>
    simp -implicitDefEqProofs only [List.getElem?_cons_succ,List.getElem?_cons_zero,Option.some.injEq] at hs
    subst hs
    exact ⟨h5.1,h4 a rfl⟩
  ·cases R with
   | nil=>exact h5
   | cons a R=>simp at hs
 | q::R,lo,h,i+1,r,hr=>by
  obtain ⟨h1,h2,h3,h4,h5⟩:=h
  have hl:=h5.le
  obtain ⟨g1,g2,g3,g4,g5,g6,g7⟩:=FwdB.nth h5 i r (by simpa using hr)
  exact ⟨by omega,g2,g3,g4,by simpa using g5,by simpa using g6,fun h=>by omega⟩
theorem FwdB.apart {val:Int→β} {hi:Int}:∀{R:List (Seg β)} {lo:Int},FwdB val lo hi R→∀(i j:Nat) r s,i<j→R[i]? = some r→R[j]? = some s→r.t<s.f
 | [],lo,_,i,j,r,s,_,hr,_=>by simp at hr
 | q::R,lo,h,0,0,r,s,hij,_,_=>by omega
 | q::R,lo,h,0,j+1,r,s,_,hr,hs=>by
  obtain ⟨h1,h2,h3,h4,h5⟩:=h
  simp -implicitDefEqProofs only [List.getElem?_cons_zero,Option.some.injEq] at hr
  subst hr
  have:=(FwdB.nth h5 j s (by simpa using hs)).1
  omega
 | q::R,lo,h,i+1,0,r,s,hij,_,_=>by omega
 | q::R,lo,h,i+1,j+1,r,s,hij,hr,hs=>FwdB.apart h.2.2.2.2 i j r s (by omega) (by simpa using hr) (by simpa using hs)
theorem FwdB.find {val:Int→β} {hi d:Int}:∀{R:List (Seg β)} {lo:Int},FwdB val lo hi R→lo≤d→d<hi→∃(i:Nat) (r:Seg β),R[i]? = some r∧r.f≤d∧d≤r.t
 | [],lo,h,h1,h2=>by have:lo=hi:=h; omega
 | q::R,lo,h,h1,h2=>by
  obtain ⟨g1,g2,g3,g4,g5⟩:=h
  by_cases c:d≤q.t
  ·exact ⟨0,q,rfl,by omega,c⟩
  ·obtain ⟨i,r,k1,k2,k3⟩:=FwdB.find g5 (by omega) h2
   exact ⟨i+1,r,by simpa using k1,k2,k3⟩
theorem FwdB.setLast {val:Int→β} {hi x:Int} {s:Seg β}:∀{A:List (Seg β)} {lo:Int},FwdB val lo hi (A++[s])→s.f≤x→(∀y,s.f≤y→y≤x→val y=s.v)→FwdB val lo (x+1) (A++[⟨s.f,x,s.v⟩])
 | [],lo,h,h1,h2=>by
  obtain ⟨g1,g2,g3,g4,g5⟩:=h
  exact ⟨g1,h1,h2,fun s hs=>by simp at hs,rfl⟩
 | a::A,lo,h,h1,h2=>by
  obtain ⟨g1,g2,g3,g4,g5⟩:=h
  refine ⟨g1,g2,g3,fun q hq=>?_,FwdB.setLast g5 h1 h2⟩
  cases A with
  | nil =>
   have hq':(⟨s.f,x,s.v⟩:Seg β)=q:=by simpa using hq
   subst hq'
   exact g4 s rfl
  | cons b A=>exact g4 q hq
theorem FwdB.push {val:Int→β} {hi:Int} {r:Seg β}:∀{A:List (Seg β)} {lo:Int},FwdB val lo hi A→r.f=hi→r.f≤r.t→(∀x,r.f≤x→x≤r.t→val x=r.v)→(∀s,A.getLast? = some s→s.v≠r.v)→FwdB val lo (r.t+1) (A++[r])
 | [],lo,h,h1,h2,h3,h4=>by
  have:lo=hi:=h
  exact ⟨by omega,h2,h3,fun s hs=>by simp at hs,rfl⟩
 | a::A,lo,h,h1,h2,h3,h4=>by
  obtain ⟨g1,g2,g3,g4,g5⟩:=h
  refine ⟨g1,g2,g3,fun q hq=>?_,FwdB.push g5 h1 h2 h3 fun s hs=>?_⟩
  ·cases A with
   | nil =>
    have hq':r=q:=by simpa using hq
    subst hq'
    exact h4 a rfl
   | cons b A=>exact g4 q hq
  ·cases A with
   | nil=>simp at hs
   | cons b A=>exact h4 s (by rw [List.getLast?_cons_cons]; exact hs)
open Classical in
noncomputable def LF (acc:List (Seg β)) (d:Int) (v : β):List (Seg β):=match acc.getLast? with
 | none=>[⟨d,d,v⟩]
 | some s=>if s.v=v then acc.dropLast++[⟨s.f,d-1,s.v⟩] else acc.dropLast++[⟨s.f,d-1,s.v⟩]++[⟨d,d,v⟩]
noncomputable def JC (val:Int→β) (ds:List Int):Nat→List (Seg β)
 | 0=>[]
 | k+1=>match ds[k]? with
  | some d=>LF (JC val ds k) d (val d)
  | none=>JC val ds k
def Ns (acc:List (Seg β)) (x:Int):List (Seg β):=match acc.getLast? with
 | none=>[]
 | some s=>acc.dropLast++[⟨s.f,x,s.v⟩]
theorem FwdOK.nth2 {val:Int→Int} {hi:Int}:∀{R:List Run} {lo:Int},FwdOK val lo hi R→∀(i:Nat) r,R[i]? = some r→lo≤r.f∧r.f≤r.t∧r.t<hi∧(∀x,r.f≤x→x≤r.t→val x=r.v)∧(∀s,R[i+1]? = some s→s.f=r.t+1)∧(R[i+1]? = none→r.t+1=hi)∧(i=0→r.f=lo)
 | [],lo,_,i,r,hr=>by simp at hr
 | q::R,lo,h,0,r,hr=>by
  obtain ⟨h1,h2,h3,h4,h5⟩:=h
  have hl:=h5.le
  simp -implicitDefEqProofs only [List.getElem?_cons_zero,Option.some.injEq] at hr
  subst hr
  refine ⟨by omega,h2,by omega,h3,fun s hs=>?_,fun hs=>?_,fun _=>h1⟩
  ·cases R with
   | nil=>simp at hs
   | cons a R =>
    simp -implicitDefEqProofs only [List.getElem?_cons_succ,List.getElem?_cons_zero,Option.some.injEq] at hs
    subst hs
    exact h5.1
  ·cases R with
   | nil=>exact h5
   | cons a R=>simp at hs
 | q::R,lo,h,i+1,r,hr=>by
  obtain ⟨h1,h2,h3,h4,h5⟩:=h
  have hl:=h5.le
  obtain ⟨g1,g2,g3,g4,g5,g6,g7⟩:=FwdOK.nth2 h5 i r (by simpa using hr)
  exact ⟨by omega,g2,g3,g4,by simpa using g5,by simpa using g6,fun h=>by omega⟩
theorem P4 {val:Int→β} {sv:Int→Int} {lo hi:Int} {R:List Run} (h:FwdOK sv lo hi R) (hv:∀d e,lo≤d→d<hi→lo≤e→e<hi→sv d=sv e→val d=val e):∀(k:Nat) r,R[k]? = some r→∃A s,JC val (R.map (·.f)) (k+1)=A++[s]∧s.v=val r.f∧s.f≤r.f∧∀x,r.f≤x→x≤r.t→FwdB val lo (x+1) (A++[⟨s.f,x,s.v⟩])
 | 0,r,hr=>by
  obtain ⟨h1,h2,h3,h4,h5,h6,h7⟩:=h.nth2 0 r hr
  refine ⟨[],⟨r.f,r.f,val r.f⟩,?_,rfl,Int.le_refl _,fun x hx hx2=>⟨h7 rfl,hx,fun y a b=>?_,fun s hs=>by simp at hs,rfl⟩⟩
  ·simp [JC,hr,LF]
  ·have a':r.f≤y:=a
   have b':y≤x:=b
   exact hv y r.f (by omega) (by omega) (by omega) (by omega) (by rw [h4 y a' (by omega),h4 r.f (by omega) h2])
 | k+1,r,hr=>by
  obtain ⟨h1,h2,h3,h4,h5,h6,h7⟩:=h.nth2 (k+1) r hr
  have hk:k<R.length:=by
   have:=(List.getElem?_eq_some_iff.1 hr).1
   omega
  obtain ⟨g1,g2,g3,g4,g5,g6,g7⟩:=h.nth2 k R[k] (List.getElem?_eq_getElem hk)
  obtain ⟨A,s,e1,e2,e3,e4⟩:=P4 h hv k R[k] (List.getElem?_eq_getElem hk)
  have hf:=g5 r hr
  have hall:=e4 (r.f-1) (by omega) (by omega)
  rw [show r.f-1+1=r.f by omega] at hall
  have hstep:JC val (R.map (·.f)) (k+1+1)=LF (A++[s]) r.f (val r.f):=by
   rw [JC,List.getElem?_map,hr,←e1]; rfl
  have hconst:∀y,r.f≤y→y≤r.t→val y=val r.f:=fun y a b=>hv y r.f (by omega) (by omega) (by omega) (by omega) (by rw [h4 y a b,h4 r.f (by omega) h2])
  by_cases c:s.v=val r.f
  ·refine ⟨A,⟨s.f,r.f-1,s.v⟩,?_,c,by show s.f≤r.f; omega,fun x hx hx2=>?_⟩
   ·rw [hstep,LF]
    simp -implicitDefEqProofs only [List.getLast?_append,List.getLast?_singleton,Option.some_or,List.dropLast_concat,if_pos c]
   ·refine FwdB.setLast (s:=⟨s.f,r.f-1,s.v⟩) hall (by show s.f≤x; omega) fun y a b=>?_
    simp -implicitDefEqProofs only at a
    by_cases hy:y<r.f
    ·have hlast:(A++[(⟨s.f,r.f-1,s.v⟩:Seg β)])[A.length]? = some ⟨s.f,r.f-1,s.v⟩:=by simp
     exact (hall.nth _ _ hlast).2.2.2.1 y a (by show y≤r.f-1; omega)
    ·rw [hconst y (by omega) (by omega)]; exact c.symm
  ·refine ⟨A++[⟨s.f,r.f-1,s.v⟩],⟨r.f,r.f,val r.f⟩,?_,rfl,Int.le_refl _,fun x hx hx2=>?_⟩
   ·rw [hstep,LF]
    simp -implicitDefEqProofs only [List.getLast?_append,List.getLast?_singleton,Option.some_or,List.dropLast_concat,if_neg c]
   ·refine FwdB.push (r:=⟨r.f,x,val r.f⟩) hall rfl hx (fun y a b=>hconst y a (by simp -implicitDefEqProofs only at b; omega)) fun q hq=>?_
    simp -implicitDefEqProofs only [List.getLast?_append,List.getLast?_singleton,Option.some_or,Option.some.injEq] at hq
    subst hq
    exact c
theorem AK9 {val:Int→β} {sv:Int→Int} {lo hi:Int} {R:List Run} (h:FwdOK sv lo hi R) (hlt:lo<hi) (hv:∀d e,lo≤d→d<hi→lo≤e→e<hi→sv d=sv e→val d=val e):FwdB val lo hi (Ns (JC val (R.map (·.f)) R.length) (hi-1)):=by
 cases hR:R with
 | nil=>rw [hR] at h; have:lo=hi:=h; omega
 | cons a S =>
  rw [←hR]
  have hk:R.length-1<R.length:=by rw [hR]; simp
  obtain ⟨A,s,e1,e2,e3,e4⟩:=P4 h hv (R.length-1) _ (List.getElem?_eq_getElem hk)
  obtain ⟨h1,h2,h3,h4,h5,h6,h7⟩:=h.nth2 (R.length-1) _ (List.getElem?_eq_getElem hk)
  rw [show R.length-1+1=R.length by omega] at e1 h6
  have h6:=h6 (List.getElem?_eq_none (Nat.le_refl _))
  rw [e1,Ns]
  simp -implicitDefEqProofs only [List.getLast?_append,List.getLast?_singleton,Option.some_or,List.dropLast_concat]
  have:=e4 (hi-1) (by omega) (by omega)
  rwa [show hi-1+1=hi by omega] at this
open Classical in
noncomputable def KE (acc:List (Seg β)) (r:Seg β):List (Seg β):=match acc.getLast? with
 | none=>[r]
 | some s=>if s.v=r.v then acc.dropLast++[⟨s.f,r.t,s.v⟩] else acc++[r]
noncomputable def Fo (val:Int→β) (R:List Run):Nat→List (Seg β)
 | 0=>[]
 | k+1=>match R[k]? with
  | some r=>KE (Fo val R k) ⟨r.f,r.t,val r.f⟩
  | none=>Fo val R k
theorem OM {val:Int→β} {sv:Int→Int} {lo hi:Int} {R:List Run} (h:FwdOK sv lo hi R) (hv:∀d e,lo≤d→d<hi→lo≤e→e<hi→sv d=sv e→val d=val e):∀(k:Nat) r,R[k]? = some r→∃A s,Fo val R (k+1)=A++[s]∧s.v=val r.f∧s.t=r.t∧FwdB val lo (r.t+1) (A++[s])
 | 0,r,hr=>by
  obtain ⟨h1,h2,h3,h4,h5,h6,h7⟩:=h.nth2 0 r hr
  refine ⟨[],⟨r.f,r.t,val r.f⟩,?_,rfl,rfl,⟨h7 rfl,h2,fun y a b=>?_,fun s hs=>by simp at hs,rfl⟩⟩
  ·simp [Fo,hr,KE]
  ·simp -implicitDefEqProofs only at a b
   exact hv y r.f (by omega) (by omega) (by omega) (by omega) (by rw [h4 y a b,h4 r.f (by omega) h2])
 | k+1,r,hr=>by
  obtain ⟨h1,h2,h3,h4,h5,h6,h7⟩:=h.nth2 (k+1) r hr
  have hk:k<R.length:=by
   have:=(List.getElem?_eq_some_iff.1 hr).1
   omega
  obtain ⟨g1,g2,g3,g4,g5,g6,g7⟩:=h.nth2 k R[k] (List.getElem?_eq_getElem hk)
  obtain ⟨A,s,e1,e2,e3,e4⟩:=OM h hv k R[k] (List.getElem?_eq_getElem hk)
  have hf:=g5 r hr
  have hstep:Fo val R (k+1+1)=KE (A++[s]) ⟨r.f,r.t,val r.f⟩:=by
   rw [Fo,hr,←e1]
  have hconst:∀y,r.f≤y→y≤r.t→val y=val r.f:=fun y a b=>hv y r.f (by omega) (by omega) (by omega) (by omega) (by rw [h4 y a b,h4 r.f (by omega) h2])
  have hlast:(A++[s])[A.length]? = some s:=by simp
  have hs:=e4.nth _ _ hlast
  by_cases c:s.v=val r.f
  ·refine ⟨A,⟨s.f,r.t,s.v⟩,?_,c,rfl,?_⟩
   ·rw [hstep,KE]
    simp -implicitDefEqProofs only [List.getLast?_append,List.getLast?_singleton,Option.some_or,List.dropLast_concat,if_pos c]
   ·refine FwdB.setLast e4 (by have:=hs.2.1; omega) fun y a b=>?_
    by_cases hy:y<r.f
    ·exact hs.2.2.2.1 y a (by omega)
    ·rw [hconst y (by omega) (by omega)]; exact c.symm
  ·refine ⟨A++[s],⟨r.f,r.t,val r.f⟩,?_,rfl,rfl,?_⟩
   ·rw [hstep,KE]
    simp -implicitDefEqProofs only [List.getLast?_append,List.getLast?_singleton,Option.some_or,if_neg c]
   ·refine FwdB.push (r:=⟨r.f,r.t,val r.f⟩) e4 hf h2 hconst fun q hq=>?_
    simp -implicitDefEqProofs only [List.getLast?_append,List.getLast?_singleton,Option.some_or,Option.some.injEq] at hq
    subst hq
    exact c
theorem Va {val:Int→β} {sv:Int→Int} {lo hi:Int} {R:List Run} (h:FwdOK sv lo hi R) (hlt:lo<hi) (hv:∀d e,lo≤d→d<hi→lo≤e→e<hi→sv d=sv e→val d=val e):FwdB val lo hi (Fo val R R.length):=by
 cases hR:R with
 | nil=>rw [hR] at h; have:lo=hi:=h; omega
 | cons a S =>
  rw [←hR]
  have hk:R.length-1<R.length:=by rw [hR]; simp
  obtain ⟨A,s,e1,e2,e3,e4⟩:=OM h hv (R.length-1) _ (List.getElem?_eq_getElem hk)
  obtain ⟨h1,h2,h3,h4,h5,h6,h7⟩:=h.nth2 (R.length-1) _ (List.getElem?_eq_getElem hk)
  rw [show R.length-1+1=R.length by omega] at e1 h6
  have h6:=h6 (List.getElem?_eq_none (Nat.le_refl _))
  rw [e1]
  rwa [h6] at e4
end
end Go.Proofs.YtbihahpaalcjjaaGreat.Abs
