/- Contracts of the machine and the contracts of one law (joined by kmerge.py). No claim stands here. -/
import Derived.Below
import Derived.Carry
import Derived.ChangeCalls
import Derived.ChangeOld
import Derived.IntWalk
import Derived.KernelRfl
import Derived.Laws.Append
import Derived.Laws.AppendOwn
import Derived.Laws.Cells
import Derived.Laws.CopyRow
import Derived.Laws.Entries
import Derived.Laws.MakeOwn
import Derived.Laws.NewFold
import Derived.Laws.Rows
import Derived.Laws.StructEq
import Derived.OpenShut
import Derived.Orders
import Derived.OrdersIn
import Derived.ProofKit
import Derived.RangeFuncLeaves
import Derived.RangeFuncSeq
import Derived.SizedLaws
import Derived.TacticsIn
import Derived.WalkKit
import Derived.Test.YtbihahpaalcjjaaGreatMbc
set_option maxRecDepth 100000
set_option linter.unusedSimpArgs false
set_option linter.unusedVariables false
namespace Go.Proofs.YtbihahpaalcjjaaGreat.Abs
open Go Go.RowKit Go.Proofs
attribute [local go_sem] CL Ce Bo BN D0 CV BP Ag Ao Bn Bf DE Cq Cv B2 Bi BK Cn BV DN Dv De DV Do D2 Dm DC Cy DZ Cf BM Ca Be Bh DG Dl Cb CR By Dp CQ Df Bz CA Dc Di Cr CO Bx BY Bb Bm Dj CD C9 CM Dd DT Bg DD Bu CB CU Bt BO DM Bd Cz C3 Bl Cg BF CW CH BH Ck Bp A8 B7 Ci B8 Cu CF Dn Dy Dw BU Bq Cs DH Cj Cl C5 DJ Bv Br BD Cp BE A5 Cx DO CJ AL ev Aj Ax Av BC A3 DW CX D1 Bk Am Aq Ds CC DB CI CG Cc DI Dz Du Db C6 Cm CY BW CT B9 Cw DS Cd C1 Ba B1 Dr Af setSeg nth seg mapD Ar A4 AR A7 Dg CS Ap Aa cond_true cond_false DY A9 BB BA BI C4 DU List.cons_append List.nil_append Bool.not_true Bool.not_false Bool.and_true Bool.and_self Nat.lt_add_left_iff_pos Nat.zero_add Nat.add_zero List.drop_succ_cons List.drop_zero List.take_succ_cons List.take_zero beq_self_eq_true Bool.false_eq_true Da B3 CN Bs DX BS C8 Co Dq Ay and_self and_true true_and BX CZ Dx Dh CP Bc DK DL Bj Dt Ch BT DF Dk C0 DQ B0 Aw A1 A2 Al D3 Ct C2 C7 BL Bw List.length_cons List.length_nil Nat.min_def Int.cast_ofNat_Int Int.natCast_zero Int.natCast_one decide_true decide_false List.getElem?_cons_zero List.getElem?_cons_succ BZ BQ CK DP CE DA
def FX (n:Int):AV:=.tup [i64 (if Fit n then n else 0),bv (Fit n)]
theorem GI {n:Int} (h:Fit n):FX n = .tup [i64 n,bv true]:=by simp [FX,h]
theorem HN {n:Int} (h:¬Fit n):FX n = .tup [i64 0,bv false]:=by simp [FX,h]
theorem Ir {n m:Int} {b:Bool} (h:(b=true∧m=n∧Fit n)∨(b=false∧m=0∧¬Fit n)):AV.tup [i64 m,bv b]=FX n:=by
 rcases h with ⟨rfl,rfl,h⟩ | ⟨rfl,rfl,h⟩
 ·exact (GI h).symm
 ·exact (HN h).symm
theorem wI (n:Int):IntKind.i64.wrap n=(n+9223372036854775808) % 18446744073709551616-9223372036854775808:=IntKind.wrap_i64 n
def D7:Option Int→AV
 | some n=>.tup [i64 n,bv true]
 | none=>.tup [i64 0,bv false]
theorem Mg (n:Int):∃s u,FX n = .tup [i64 s,bv u]∧(u=false→s=0):=by
 by_cases h:Fit n
 ·exact ⟨n,true,GI h,by simp⟩
 ·exact ⟨0,false,HN h,fun _=>rfl⟩
structure Run where
 f:Int
 t:Int
 v:Int
 deriving DecidableEq
def Run.el (r:Run):List D:=[.int .i64 r.f,.int .i64 r.t,.int .i64 r.v]
abbrev Run.av (r:Run):AV:=.agg [i64 r.f,i64 r.t,i64 r.v]
def ER (l:List Run):List (List D):=l.map Run.el
theorem rowR_len {l:List Run}:(ER l).length=l.length:=List.length_map ..
theorem AS5 {l:List Run} {i:Nat} (h:i<l.length):(ER l)[i]? = some (Run.el l[i]):=by simp [ER,h]
theorem AUB {l:List Run} {i:Nat} {r:Run}:(ER l).set i r.el=ER (l.set i r):=by simp [ER,List.map_set]
theorem TP {l:List Run} {r:Run}:ER l++[r.el]=ER (l++[r]):=by simp [ER]
def A6 (l:List Run) (r:Run):List Run:=match l.getLast? with
 | some q=>if q.v=r.v then l.dropLast++[{ q with t:=r.t }] else l++[r]
 | none=>[r]
theorem Qo {l:List Run} {x:Run} (h:l≠[]):l.set (l.length-1) x=l.dropLast++[x]:=by
 rcases List.eq_nil_or_concat l with rfl | ⟨dl,q,rfl⟩
 ·exact absurd rfl h
 ·simp
def LineAt (H:Heap) (b:Nat) (c:Nat) (l:List Run):Prop :=
 l=[]∧H b=some (.box 104 [.nilsl 3])∨l≠[]∧c≠b∧∃cap,H b=some (.box 104 [.own c 3 0 l.length cap])∧H c=some (.row 136 3 cap (ER l))
def ACX (b c:Nat) (l0 l:List Run) (H:Heap) (H':Heap):Prop:=∃c',LineAt H' b c' l∧(∀k x,k≠b→(l0≠[]→k≠c)→H k=some x→H' k=some x∧k≠c')
theorem M3 {H:Heap} {b c:Nat} {l:List Run} {r:Run} (h:LineAt H b c l) (hl:l.length≤1000000):CallW Tryz.prog AJT [.ptr b 0,r.av] H fun _ H'=>ACX b c l (A6 l r) H H':=by
 rcases h with ⟨rfl,h1⟩ | ⟨h0,h3,cap,h1,h2⟩
 ·refine AX RX (by simp) ?_
  simp -implicitDefEqProofs -proj only [go_sem,seval,h1]
  refine AK (fun b3 hb=>?_)
  replace hb:H b3=none:=hb
  obtain ⟨n1,n2⟩:=AI hb h1
  simp -implicitDefEqProofs -proj only [go_sem,seval,h1,n1,n2]
  (repeat' first
  | ((with_reducible first | refine EA (fun h=>?_) (fun h=>?_) | refine BJ (fun h=>?_) (fun h=>?_) | refine EC (fun h=>?_) (fun h=>?_)) <;> (simp -implicitDefEqProofs -proj only [go_sem,seval,h,h1,n1,n2]; try (revert h; intro _)))
  | ((with_reducible first | refine AK (fun _ hb=>?_) | refine As (fun _ hb=>?_)); simp -implicitDefEqProofs only [EB,ED,Aa,Heap.none_get,and_true,true_and] at hb; simp -implicitDefEqProofs -proj only [go_sem,seval,h1,n1,n2]; try (revert hb; intro _))
  | ((with_reducible first | refine D5 _ rfl (by simp) ?_ | refine D8 _ rfl (by simp) ?_); simp -implicitDefEqProofs -proj only [go_sem,seval,h1,n1,n2])
  | (with_reducible refine Ae ?_ (fun h=>?_); first | ((focus first | decide | omega); try clear h; try simp -implicitDefEqProofs -proj only [go_sem,seval,h1,n1,n2]) | (rotate_left; try clear h; try simp -implicitDefEqProofs -proj only [go_sem,seval,h1,n1,n2]; rotate_right)))
  refine Jy (ds:=r.el) rfl (fun bs hs=>?_)
  replace hs:upd H b3 _ bs=none:=hs
  rw [show Al 3 1 r.el=[r.el] from rfl]
  obtain ⟨m1,m2⟩:=AI hs (by rw [AE n1]; exact h1)
  simp -implicitDefEqProofs -proj only [go_sem,seval,h1,n1,n2,m1,m2]
  refine N4 (ys:=[r.el]) (t:=136) (capc:=1) (by simp -implicitDefEqProofs -proj only [go_sem,seval]) rfl (by simp) rfl (by simp [maxLen]) (fun c' hc' cap=>?_)
  replace hc':upd (upd H b3 _) bs _ c'=none:=hc'
  obtain ⟨k1,k2⟩:=AI hc' (by rw [AE m1,AE n1]; exact h1)
  simp -implicitDefEqProofs -proj only [go_sem,seval,h1,n1,n2,m1,m2,k1,k2]
  (repeat' first
  | ((with_reducible first | refine EA (fun h=>?_) (fun h=>?_) | refine BJ (fun h=>?_) (fun h=>?_) | refine EC (fun h=>?_) (fun h=>?_)) <;> (simp -implicitDefEqProofs -proj only [go_sem,seval,h,h1,n1,n2,m1,m2,k1,k2]; try (revert h; intro _)))
  | ((with_reducible first | refine AK (fun _ hb=>?_) | refine As (fun _ hb=>?_)); simp -implicitDefEqProofs only [EB,ED,Aa,Heap.none_get,and_true,true_and] at hb; simp -implicitDefEqProofs -proj only [go_sem,seval,h1,n1,n2,m1,m2,k1,k2]; try (revert hb; intro _))
  | ((with_reducible first | refine D5 _ rfl (by simp) ?_ | refine D8 _ rfl (by simp) ?_); simp -implicitDefEqProofs -proj only [go_sem,seval,h1,n1,n2,m1,m2,k1,k2])
  | (with_reducible refine Ae ?_ (fun h=>?_); first | ((focus first | decide | omega); try clear h; try simp -implicitDefEqProofs -proj only [go_sem,seval,h1,n1,n2,m1,m2,k1,k2]) | (rotate_left; try clear h; try simp -implicitDefEqProofs -proj only [go_sem,seval,h1,n1,n2,m1,m2,k1,k2]; rotate_right)))
  refine ⟨c',.inr ⟨by simp [A6],k1,cap,?_,?_⟩,fun k x hk1 hk2 hk=>?_⟩
  ·simp -implicitDefEqProofs -proj only [go_sem,seval,A6]
   rfl
  ·simp -implicitDefEqProofs -proj only [go_sem,seval,k2]
   rfl
  ·obtain ⟨p1,p2⟩:=AI hb hk
   obtain ⟨q1,q2⟩:=AI hs (by rw [AE p1]; exact hk)
   obtain ⟨r1,r2⟩:=AI hc' (by rw [AE q1,AE p1]; exact hk)
   refine ⟨?_,r2⟩
   have hk3:¬b=k:=fun e=>hk1 e.symm
   simp -implicitDefEqProofs -proj only [go_sem,seval,p1,q1,r1,hk,hk3]
 ·obtain ⟨q,hq⟩:∃q,l.getLast? = some q:=by
   cases hh:l.getLast? with
   | none=>exact absurd (List.getLast?_eq_none_iff.1 hh) h0
   | some q=>exact ⟨q,rfl⟩
  have hlen:0<l.length:=List.length_pos_iff.2 h0
  have hq2:l[l.length-1]? = some q:=by rw [←List.getLast?_eq_getElem?]; exact hq
  have hw:IntKind.i64.wrap ((l.length:Int)-1)=((l.length-1:Nat):Int):=by rw [IntKind.wrap_i64]; omega
  have hrow:(ER l)[l.length-1]? = some [.int .i64 q.f,.int .i64 q.t,.int .i64 q.v]:=by simp [ER,hq2,Run.el]
  have h3':¬b=c:=fun e=>h3 e.symm
  refine AX RX (by simp) ?_
  simp -implicitDefEqProofs -proj only [go_sem,seval,h1]
  refine AK (fun b3 hb=>?_)
  replace hb:H b3=none:=hb
  obtain ⟨n1,n2⟩:=AI hb h1
  obtain ⟨n3,n4⟩:=AI hb h2
  have c0:decide (0<(l.length:Int))=true:=decide_eq_true (by omega)
  simp -implicitDefEqProofs -proj only [go_sem,seval,h1,h2,h3,h3',n1,n2,n3,n4,c0,hw]
  (repeat' first
  | ((with_reducible first | refine EA (fun h=>?_) (fun h=>?_) | refine BJ (fun h=>?_) (fun h=>?_) | refine EC (fun h=>?_) (fun h=>?_)) <;> (simp -implicitDefEqProofs -proj only [go_sem,seval,h,h1,h2,h3,h3',n1,n2,n3,n4,c0,hw]; try (revert h; intro _)))
  | ((with_reducible first | refine AK (fun _ hb=>?_) | refine As (fun _ hb=>?_)); simp -implicitDefEqProofs only [EB,ED,Aa,Heap.none_get,and_true,true_and] at hb; simp -implicitDefEqProofs -proj only [go_sem,seval,h1,h2,h3,h3',n1,n2,n3,n4,c0,hw]; try (revert hb; intro _))
  | ((with_reducible first | refine D5 _ rfl (by simp) ?_ | refine D8 _ rfl (by simp) ?_); simp -implicitDefEqProofs -proj only [go_sem,seval,h1,h2,h3,h3',n1,n2,n3,n4,c0,hw])
  | (with_reducible refine Ae ?_ (fun h=>?_); first | ((focus first | decide | omega); try clear h; try simp -implicitDefEqProofs -proj only [go_sem,seval,h1,h2,h3,h3',n1,n2,n3,n4,c0,hw]) | (rotate_left; try clear h; try simp -implicitDefEqProofs -proj only [go_sem,seval,h1,h2,h3,h3',n1,n2,n3,n4,c0,hw]; rotate_right)))
  refine D5 _ (by rw [Int.toNat_natCast]; exact hrow) (by simp) ?_
  simp -implicitDefEqProofs -proj only [go_sem,seval,h1,h2,h3,h3',n1,n2,n3,n4,c0,hw]
  by_cases hv:q.v=r.v
  ·have hp:A6 l r=l.dropLast++[{ q with t:=r.t }]:=by rw [A6,hq]; exact if_pos hv
   simp -implicitDefEqProofs -proj only [go_sem,seval,h1,h2,h3,h3',n1,n2,n3,n4,c0,hw,decide_eq_true hv,Int.toNat_natCast]
   (repeat' first
  | ((with_reducible first | refine EA (fun h=>?_) (fun h=>?_) | refine BJ (fun h=>?_) (fun h=>?_) | refine EC (fun h=>?_) (fun h=>?_)) <;> (simp -implicitDefEqProofs -proj only [go_sem,seval,h,h1,h2,h3,h3',n1,n2,n3,n4,c0,hw,Int.toNat_natCast]; try (revert h; intro _)))
  | ((with_reducible first | refine AK (fun _ hb=>?_) | refine As (fun _ hb=>?_)); simp -implicitDefEqProofs only [EB,ED,Aa,Heap.none_get,and_true,true_and] at hb; simp -implicitDefEqProofs -proj only [go_sem,seval,h1,h2,h3,h3',n1,n2,n3,n4,c0,hw,Int.toNat_natCast]; try (revert hb; intro _))
  | ((with_reducible first | refine D5 _ rfl (by simp) ?_ | refine D8 _ rfl (by simp) ?_); simp -implicitDefEqProofs -proj only [go_sem,seval,h1,h2,h3,h3',n1,n2,n3,n4,c0,hw,Int.toNat_natCast])
  | (with_reducible refine Ae ?_ (fun h=>?_); first | ((focus first | decide | omega); try clear h; try simp -implicitDefEqProofs -proj only [go_sem,seval,h1,h2,h3,h3',n1,n2,n3,n4,c0,hw,Int.toNat_natCast]) | (rotate_left; try clear h; try simp -implicitDefEqProofs -proj only [go_sem,seval,h1,h2,h3,h3',n1,n2,n3,n4,c0,hw,Int.toNat_natCast]; rotate_right)))
   refine NO (xs:=ER l) (t:=136) (cap:=cap) (by simp -implicitDefEqProofs -proj only [go_sem,seval,n3,h2]) hrow (by simp) ?_
   have hset:(ER l).set (l.length-1) (Gc [.int .i64 q.f,.int .i64 q.t,.int .i64 q.v] 1 [.int .i64 r.t])=ER (A6 l r):=by
    rw [hp,←Qo h0,←AUB]; rfl
   have hlp:(A6 l r).length=l.length:=by rw [hp,List.length_append,List.length_dropLast,List.length_singleton]; omega
   rw [hset]
   simp -implicitDefEqProofs -proj only [go_sem,seval,h1,h2,h3,h3',n1,n2,n3,n4,c0,hw]
   refine ⟨c,.inr ⟨by rw [hp]; simp,h3,cap,?_,?_⟩,fun k x hk1 hk2 hk=>?_⟩
   ·simp -implicitDefEqProofs -proj only [go_sem,seval,n1,h3,h1,hlp]
   ·simp -implicitDefEqProofs -proj only [go_sem,seval]
   ·obtain ⟨p1,p2⟩:=AI hb hk
    have hk3:¬c=k:=fun e=>hk2 h0 e.symm
    refine ⟨?_,hk2 h0⟩
    simp -implicitDefEqProofs -proj only [go_sem,seval,p1,hk3,hk]
  ·have hp:A6 l r=l++[r]:=by rw [A6,hq]; exact if_neg hv
   simp -implicitDefEqProofs -proj only [go_sem,seval,h1,h2,h3,h3',n1,n2,n3,n4,c0,hw,decide_eq_false hv]
   (repeat' first
  | ((with_reducible first | refine EA (fun h=>?_) (fun h=>?_) | refine BJ (fun h=>?_) (fun h=>?_) | refine EC (fun h=>?_) (fun h=>?_)) <;> (simp -implicitDefEqProofs -proj only [go_sem,seval,h,h1,h2,h3,h3',n1,n2,n3,n4,c0,hw]; try (revert h; intro _)))
  | ((with_reducible first | refine AK (fun _ hb=>?_) | refine As (fun _ hb=>?_)); simp -implicitDefEqProofs only [EB,ED,Aa,Heap.none_get,and_true,true_and] at hb; simp -implicitDefEqProofs -proj only [go_sem,seval,h1,h2,h3,h3',n1,n2,n3,n4,c0,hw]; try (revert hb; intro _))
  | ((with_reducible first | refine D5 _ rfl (by simp) ?_ | refine D8 _ rfl (by simp) ?_); simp -implicitDefEqProofs -proj only [go_sem,seval,h1,h2,h3,h3',n1,n2,n3,n4,c0,hw])
  | (with_reducible refine Ae ?_ (fun h=>?_); first | ((focus first | decide | omega); try clear h; try simp -implicitDefEqProofs -proj only [go_sem,seval,h1,h2,h3,h3',n1,n2,n3,n4,c0,hw]) | (rotate_left; try clear h; try simp -implicitDefEqProofs -proj only [go_sem,seval,h1,h2,h3,h3',n1,n2,n3,n4,c0,hw]; rotate_right)))
   refine Jy (ds:=r.el) rfl (fun bs hs=>?_)
   replace hs:upd H b3 _ bs=none:=hs
   rw [show Al 3 1 r.el=[r.el] from rfl]
   obtain ⟨m1,m2⟩:=AI hs (by rw [AE n1]; exact h1)
   obtain ⟨m3,m4⟩:=AI hs (by rw [AE n3]; exact h2)
   simp -implicitDefEqProofs -proj only [go_sem,seval,h1,h2,h3,h3',n1,n2,n3,n4,c0,hw,m1,m2,m3,m4]
   refine PG (xs:=ER l) (ys:=[r.el]) (t:=136) (capc:=1) (by simp -implicitDefEqProofs -proj only [go_sem,seval,m3,n3,h2]) (by simp -implicitDefEqProofs -proj only [go_sem,seval]) rowR_len.symm rfl (by simp) rfl (by simp -implicitDefEqProofs only [rowR_len,List.length_singleton,maxLen]; omega) (fun c' cap' hc'=>?_)
   replace hc':upd (upd (upd H b3 _) bs _) c none c'=none:=hc'
   obtain ⟨k1,k2⟩:=AI hc' (by rw [AE h3,AE m1,AE n1]; exact h1)
   rw [TP,List.length_singleton]
   simp -implicitDefEqProofs -proj only [go_sem,seval,h1,h2,h3,h3',n1,n2,n3,n4,c0,hw,m1,m2,m3,m4,k1,k2]
   (repeat' first
  | ((with_reducible first | refine EA (fun h=>?_) (fun h=>?_) | refine BJ (fun h=>?_) (fun h=>?_) | refine EC (fun h=>?_) (fun h=>?_)) <;> (simp -implicitDefEqProofs -proj only [go_sem,seval,h,h1,h2,h3,h3',n1,n2,n3,n4,c0,hw,m1,m2,m3,m4,k1,k2]; try (revert h; intro _)))
  | ((with_reducible first | refine AK (fun _ hb=>?_) | refine As (fun _ hb=>?_)); simp -implicitDefEqProofs only [EB,ED,Aa,Heap.none_get,and_true,true_and] at hb; simp -implicitDefEqProofs -proj only [go_sem,seval,h1,h2,h3,h3',n1,n2,n3,n4,c0,hw,m1,m2,m3,m4,k1,k2]; try (revert hb; intro _))
  | ((with_reducible first | refine D5 _ rfl (by simp) ?_ | refine D8 _ rfl (by simp) ?_); simp -implicitDefEqProofs -proj only [go_sem,seval,h1,h2,h3,h3',n1,n2,n3,n4,c0,hw,m1,m2,m3,m4,k1,k2])
  | (with_reducible refine Ae ?_ (fun h=>?_); first | ((focus first | decide | omega); try clear h; try simp -implicitDefEqProofs -proj only [go_sem,seval,h1,h2,h3,h3',n1,n2,n3,n4,c0,hw,m1,m2,m3,m4,k1,k2]) | (rotate_left; try clear h; try simp -implicitDefEqProofs -proj only [go_sem,seval,h1,h2,h3,h3',n1,n2,n3,n4,c0,hw,m1,m2,m3,m4,k1,k2]; rotate_right)))
   refine ⟨c',.inr ⟨by rw [hp]; simp,k1,cap',?_,?_⟩,fun k x hk1 hk2 hk=>?_⟩
   ·simp -implicitDefEqProofs -proj only [go_sem,seval,hp,List.length_append]
   ·simp -implicitDefEqProofs -proj only [go_sem,seval,k2,hp]
   ·obtain ⟨p1,p2⟩:=AI hb hk
    obtain ⟨q1,q2⟩:=AI hs (by rw [AE p1]; exact hk)
    have hk3:¬c=k:=fun e=>hk2 h0 e.symm
    have hk4:¬b=k:=fun e=>hk1 e.symm
    obtain ⟨r1,r2⟩:=AI hc' (by rw [AE hk3,AE q1,AE p1]; exact hk)
    refine ⟨?_,r2⟩
    simp -implicitDefEqProofs -proj only [go_sem,seval,p1,q1,r1,hk3,hk4,hk]
def LH (b c cap:Nat) (l:List Run):List (Nat×Blk):=if l=[] then [(b,.box 104 [.nilsl 3])] else [(b,.box 104 [.own c 3 0 l.length cap]),(c,.row 136 3 cap (ER l))]
theorem FK {H:Heap} {xs ys:List (Nat×Blk)}:AS H (xs++ys)↔AS H xs∧AS H ys:=by
 induction xs with
 | nil=>simp [AS]
 | cons p xs ih=>obtain ⟨b,x⟩:=p; simp -implicitDefEqProofs only [List.cons_append,AS,ih,and_assoc]
theorem Ss {b c cap:Nat} {l:List Run} {rest:List (Nat×Blk)} (hc:l≠[]→c≠b):LineAt (Ab (LH b c cap l++rest)) b c l:=by
 unfold LH
 by_cases h:l=[]
 ·rw [if_pos h]
  exact .inl ⟨h,by rw [List.cons_append,Ap,if_pos rfl]⟩
 ·rw [if_neg h]
  refine .inr ⟨h,hc h,cap,?_,?_⟩
  ·rw [List.cons_append,Ap,if_pos rfl]
  ·rw [List.cons_append,Ap,if_neg (hc h),List.cons_append,Ap,if_pos rfl]
theorem I7 {b c cap k:Nat} {l:List Run} {rest:List (Nat×Blk)} (hb:k≠b) (hc:l≠[]→k≠c):Ab (LH b c cap l++rest) k=Ab rest k:=by
 unfold LH
 by_cases h:l=[]
 ·rw [if_pos h,List.cons_append,Ap,if_neg hb,List.nil_append]
 ·rw [if_neg h,List.cons_append,Ap,if_neg hb,List.cons_append,Ap,if_neg (hc h),List.nil_append]
theorem Ji {H:Heap} {b c:Nat} {l:List Run} (h:LineAt H b c l):∃cap,AS H (LH b c cap l)∧(l≠[]→c≠b):=by
 rcases h with ⟨rfl,h1⟩ | ⟨h0,h3,cap,h1,h2⟩
 ·exact ⟨0,⟨h1,trivial⟩,fun h=>absurd rfl h⟩
 ·refine ⟨cap,?_,fun _=>h3⟩
  unfold LH
  rw [if_neg h0]
  exact ⟨h1,h2,trivial⟩
abbrev Gn (l:List Run):AV:=.agg [.d (.sl 3 (ER l))]
theorem QT {l:List Run}:∀el∈ER l,∀d∈el,Gr d=true:=by
 intro el he d hd
 obtain ⟨r,_,rfl⟩:=List.mem_map.1 he
 simp -implicitDefEqProofs only [Run.el,List.mem_cons,List.not_mem_nil,or_false] at hd
 rcases hd with rfl | rfl | rfl <;> rfl
theorem AOt {H:Heap} {b sz cap cap' len:Nat} {e:TypeId} {xs:List (List D)} (h:H b=some (.row e sz cap' xs)) (hl:len=xs.length) (hs:∀el∈xs,∀d∈el,Gr d=true):NewV H (.own b sz 0 len cap) (.d (.sl sz xs)):=by
 subst hl; exact .own b sz cap e cap' xs h hs
theorem LineAt.read {H:Heap} {b c:Nat} {l:List Run} (h:LineAt H b c l):∃v,H b=some (.box 104 [v])∧NewV H v (.d (.sl 3 (ER l)))∧Jb v=some (i64 l.length):=by
 rcases h with ⟨rfl,h1⟩ | ⟨h0,h3,cap,h1,h2⟩
 ·exact ⟨_,h1,.nilsl _ _,rfl⟩
 ·exact ⟨_,h1,AOt h2 rowR_len.symm QT,rfl⟩
theorem LineAt.upd {H:Heap} {b c k:Nat} {l:List Run} {x:Option Blk} (h:LineAt H b c l) (hb:¬k=b) (hc:l≠[]→¬k=c):LineAt (upd H k x) b c l:=by
 rcases h with ⟨h0,h1⟩ | ⟨h0,h3,cap,h1,h2⟩
 ·exact .inl ⟨h0,by rw [AE hb]; exact h1⟩
 ·exact .inr ⟨h0,h3,cap,by rw [AE hb]; exact h1,by rw [AE (hc h0)]; exact h2⟩
def Hy (from':Int) (l:List Int):Nat→List Run
 | 0=>[]
 | i+1=>A6 (Hy from' l i) ⟨from'+i,from'+i,l.getD i 0⟩
abbrev BG (from':Int) (l:List Int):List Run:=Hy from' l l.length
theorem Kw {l:List Run} {r:Run}:A6 l r≠[]:=by
 unfold A6
 split
 ·split <;> simp
 ·simp
theorem GV {l:List Run} {r:Run}:(A6 l r).length≤l.length+1:=by
 unfold A6
 split
 ·split
  ·simp -implicitDefEqProofs only [List.length_append,List.length_dropLast,List.length_singleton]; omega
  ·simp
 ·simp
theorem LN {from':Int} {l:List Int}:∀i:Nat,(Hy from' l i).length≤i
 | 0=>Nat.le_refl _
 | i+1=>by
  have:=@GV (Hy from' l i) ⟨from'+i,from'+i,l.getD i 0⟩
  have:=LN (from':=from') (l:=l) i
  rw [Hy]; omega
theorem L3 {H:Heap} {x y:AV} (h:NewV H x y):NewV H (.agg [x]) (.agg [y]):=by
 refine .agg _ _ rfl fun j u v h1 h2=>?_
 cases j with
 | zero=>cases h1; cases h2; exact h
 | succ j=>cases h1
structure LoopX where
 i:Nat
 c:Nat
 cap:Nat
 l:List Run
theorem Sa {from':Int} {l:List Int} (hf : -1099511627776≤from'∧from'≤1099511627776) (hn:l.length≤999999):NewW Tryz.prog WQ [i64 from',HE l] (Gn (BG from' l)):=by
 refine AX Tl (by simp) ?_
 simp -implicitDefEqProofs -proj only [go_sem,seval,rowI_len]
 refine AK (fun b4 hb=>?_)
 simp -implicitDefEqProofs -proj only [go_sem,seval,rowI_len]
 refine AK (fun b5 hb5=>?_)
 replace hb5:upd Heap.none b4 _ b5=none:=hb5
 obtain ⟨n1,n2⟩:=AI hb5 upd_eq
 simp -implicitDefEqProofs -proj only [go_sem,seval,rowI_len,n1,n2]
 refine D9 (fun x:LoopX=>x.i≤l.length∧x.l=Hy from' l x.i∧(x.l≠[]→x.c≠b5∧x.c≠b4)) 26 (fun x=>[(8,HE l),(9,i64 l.length),(10,i64 x.i),(5,.ptr b5 0),(4,.ptr b4 0),(0,i64 from')]) (fun x=>LH b5 x.c x.cap x.l++[(b4,.box 104 [.nilsl 3])]) (fun x=>l.length-x.i) ⟨0,0,0,[]⟩ ⟨Nat.zero_le _,rfl,fun h=>absurd rfl h⟩ rfl ?_ ?_ ?_
 ·simp -implicitDefEqProofs -proj only [go_sem,seval,AM]
 ·simp -implicitDefEqProofs -proj only [go_sem,seval,AS,FK,LH,n1,n2]
 ·rintro ⟨i,c,cap,R⟩ ⟨hi,hR,hc⟩
  simp -implicitDefEqProofs only [] at hi hR hc
  have hat:=Ss (b:=b5) (c:=c) (cap:=cap) (l:=R) (rest:=[(b4,.box 104 [.nilsl 3])]) (fun h=>(hc h).1)
  have h4:Ab (LH b5 c cap R++[(b4,.box 104 [.nilsl 3])]) b4=some (.box 104 [.nilsl 3]):=by
   rw [I7 n2 (fun h e=>(hc h).2 e.symm),Ap,if_pos rfl]
  generalize hH:Ab (LH b5 c cap R++[(b4,.box 104 [.nilsl 3])])=H at *
  by_cases h:i<l.length
  ·have hel:=QE h
   have hx:l.getD i 0=l[i]:=by simp [h]
   generalize l[i]=x at *
   have hw:IntKind.i64.wrap (from'+i)=from'+i:=by rw [IntKind.wrap_i64]; omega
   simp -implicitDefEqProofs -proj only [go_sem,seval,decide_eq_true (show (i:Int)<l.length by omega)]
   refine Ah _ (by omega) hel ?_
   simp -implicitDefEqProofs -proj only [go_sem,seval,hel,hw]
   have hput:=M3 (r:=⟨from'+i,from'+i,x⟩) hat (by have:=LN (from':=from') (l:=l) i; rw [←hR] at this; omega)
   refine En hput (fun r H' hk=>?_)
   obtain ⟨c',hat',hfr⟩:=hk
   obtain ⟨g1,g2⟩:=hfr b4 _ n2 (fun h e=>(hc h).2 e.symm) h4
   obtain ⟨cap',ha,hc'⟩:=Ji hat'
   have hR':A6 R ⟨from'+i,from'+i,x⟩=Hy from' l (i+1):=by rw [Hy,hx,hR]
   simp -implicitDefEqProofs -proj only [go_sem,seval]
   refine Ad ⟨i+1,c',cap',A6 R ⟨from'+i,from'+i,x⟩⟩ ⟨by show i+1≤l.length; omega,hR',fun h=>⟨hc' h,fun e=>g2 e.symm⟩⟩ (by show l.length-(i+1)<l.length-i; omega) rfl ?_ ?_
   ·simp -implicitDefEqProofs -proj only [go_sem,seval,AM,AP (show i<9223372036854775807 by omega)]
   ·rw [FK]
    exact ⟨ha,g1,trivial⟩
  ·have hi':i=l.length:=by omega
   subst hi'
   obtain ⟨v,hv,hl,_⟩:=hat.read
   simp -implicitDefEqProofs -proj only [go_sem,seval,decide_eq_false (show ¬(l.length:Int)<l.length by omega),hv,h4]
   obtain ⟨v2,hv2,hl2,_⟩:=(hat.upd (k:=b4) (x:=some (.box 104 [v])) n2 (fun h e=>(hc h).2 e.symm)).read
   rw [AE n2,hv] at hv2
   cases hv2
   rw [show BG from' l=R from hR.symm]
   exact L3 hl2
abbrev Fw (l:List Run):AV:=.d (.sl 3 (ER l))
theorem JA {l:List Run} {i:Nat} (h:i<l.length):(ER l)[((i:Int)).toNat]? = some [.int .i64 l[i].f,.int .i64 l[i].t,.int .i64 l[i].v]:=by
 rw [Int.toNat_natCast]; exact AS5 h
def TI (l:List Run) (x:Int):Nat:=(l.takeWhile fun r=>decide (r.t<x)).length
def Li (l:List Run) (x:Int):Option Int:=match l[TI l x]? with
 | some r=>if r.f≤x then some r.v else none
 | none=>none
abbrev Ig (l:List Run):List (List AV):=l.map fun r=>[r.av]
theorem Nl {l:List Run} {i:Nat} (h:i<l.length):(ER l)[((i:Int)).toNat]? = some [.int .i64 l[i].f,.int .i64 l[i].t,.int .i64 l[i].v]:=JA h
theorem APx {b:Nat} {l:List Run} (hl:l.length≤1000000):Ii Tryz.prog Ou [.ptr b 0] [(b,.box 102 [Fw l])] (Ig l):=by
 intro y H J X hA hS hY h0
 refine AX AIp (by simp) ?_
 have hb:H b=some (.box 102 [Fw l]):=(hA [] H h0).1
 simp -implicitDefEqProofs -proj only [go_sem,seval,hb,rowR_len]
 refine LM (fun x:Nat×Heap=>x.1≤l.length∧J (Ig (l.take x.1)) x.2) (fun x=>⟨16,Et [(0,.yld y),(5,Fw l),(6,i64 l.length),(7,i64 x.1)],x.2⟩) (fun x=>l.length-x.1) (0,H) ⟨Nat.zero_le _,h0⟩ (HS rfl ?_ (fun k=>.inr rfl)) ?_
 ·simp -implicitDefEqProofs -proj only [go_sem,seval,AM]
 rintro ⟨i,H1⟩ ⟨hi,hj⟩
 simp -implicitDefEqProofs only [] at hi hj
 by_cases h:i<l.length
 ·have hel:=Nl h
  have hxs:Ig l=Ig (l.take i)++[(l[i]).av]::Ig (l.drop (i+1)):=by
   rw [←List.map_cons (f:=fun r:Run=>[r.av]),←List.map_append,←List.drop_eq_getElem_cons h,List.take_append_drop]
  have htk:Ig (l.take i)++[[(l[i]).av]]=Ig (l.take (i+1)):=by simp -implicitDefEqProofs only [Ig]; rw [List.take_succ_eq_append_getElem h,List.map_append]; rfl
  generalize l[i]=r at *
  simp -implicitDefEqProofs -proj only [go_sem,seval,decide_eq_true (show (i:Int)<l.length by omega)]
  refine Ah _ (by omega) hel ?_
  simp -implicitDefEqProofs -proj only [go_sem,seval]
  refine AK (fun b4 hb4=>?_)
  simp -implicitDefEqProofs -proj only [go_sem,seval]
  refine KS (hY _ _ _ _ hxs (hS _ _ b4 _ hj hb4)) ?_
  rintro v H2 (⟨rfl,hj2⟩ | ⟨rfl,hx⟩)
  ·rw [htk] at hj2
   simp -implicitDefEqProofs -proj only [go_sem,seval]
   refine KO (i+1,H2) ⟨by show i+1≤l.length; omega,hj2⟩ (by show l.length-(i+1)<l.length-i; omega) (HS rfl ?_ (fun k=>.inr rfl))
   simp -implicitDefEqProofs -proj only [go_sem,seval,AM,AP (show i<9223372036854775807 by omega)]
  ·simp -implicitDefEqProofs -proj only [go_sem,seval]
   exact .inr hx
 ·have hi':i=l.length:=by omega
  subst hi'
  rw [List.take_length] at hj
  simp -implicitDefEqProofs -proj only [go_sem,seval,decide_eq_false (show ¬(l.length:Int)<l.length by omega)]
  exact .inl hj
theorem AGk {H:Heap} {l:List Run}:CallW Tryz.prog ABV [Fw l] H fun r H'=>∃b,r = .fn Ou [.ptr b 0]∧H b=none∧H'=upd H b (some (.box 102 [Fw l])):=by
 refine AX Xm (by simp) ?_
 simp -implicitDefEqProofs -proj only [go_sem,seval]
 refine AK (fun b hb=>?_)
 simp -implicitDefEqProofs -proj only [go_sem,seval]
 exact ⟨b,rfl,hb,rfl⟩
theorem AF5 {H:Heap} {l:List Run}:CallW Tryz.prog ATy [Gn l] H fun r H'=>∃b,r = .fn Ou [.ptr b 0]∧H b=none∧H' b=some (.box 102 [Fw l])∧∀k x,H k=some x→H' k=some x:=by
 refine AX AL9 (by simp) ?_
 simp -implicitDefEqProofs -proj only [go_sem,seval]
 refine AK (fun b1 hb1=>?_)
 simp -implicitDefEqProofs -proj only [go_sem,seval]
 refine En AGk ?_
 rintro r H' ⟨b,rfl,hb,rfl⟩
 simp -implicitDefEqProofs -proj only [go_sem,seval]
 have hb':upd H b1 (some (.box 104 [Fw l])) b=none:=hb
 have hne:¬b1=b:=fun e=>by rw [AR,if_pos e] at hb'; cases hb'
 refine ⟨b,rfl,by rw [AE hne] at hb'; exact hb',by rw [if_pos rfl],fun k x hk=>?_⟩
 rw [AE hne] at hb'
 obtain ⟨n1,n2⟩:=AI hb1 hk
 obtain ⟨n3,n4⟩:=AI hb' hk
 simp -implicitDefEqProofs -proj only [go_sem,seval,n1,n3,hk]
theorem LineAt.fresh {H:Heap} {b c k:Nat} {l:List Run} (h:LineAt H b c l) (hk:H k=none):¬k=b∧(l≠[]→¬k=c):=by
 rcases h with ⟨h0,h1⟩ | ⟨h0,h3,cap,h1,h2⟩
 ·exact ⟨(AI hk h1).1,fun h=>absurd h0 h⟩
 ·exact ⟨(AI hk h1).1,fun _=>(AI hk h2).1⟩
def Er (g:Int→Int→Int) (a b:List Run):Nat→Nat→Nat→List Run→List Run
 | 0,_,_,R=>R
 | n+1,i,k,R=>match a[i]?,b[k]? with
  | some x,some y =>
   Er g a b n (if x.t≤y.t then i+1 else i) (if y.t≤x.t then k+1 else k) (if max x.f y.f≤min x.t y.t then A6 R ⟨max x.f y.f,min x.t y.t,g x.v y.v⟩ else R)
  | _,_=>R
theorem Hd {g:Int→Int→Int} {a b:List Run}:∀(n i k:Nat) (R:List Run),a.length+b.length≤n+i+k→Er g a b (n+1) i k R=Er g a b n i k R
 | 0,i,k,R,h=>by
  rw [Er,Er]
  by_cases h1:i<a.length
  ·have h2:¬k<b.length:=by omega
   rw [List.getElem?_eq_none (l:=b) (by omega)]
   split <;> first | rfl | simp_all
  ·rw [List.getElem?_eq_none (l:=a) (by omega)]
 | n+1,i,k,R,h=>by
  rw [Er,Er]
  split
  ·next x y _ _ =>
   refine Hd n _ _ _ ?_
   split <;> split <;> omega
  ·rfl
structure ZipX where
 i:Nat
 k:Nat
 c:Nat
 cap:Nat
 l:List Run
theorem GX {i k c cap:Nat} {l:List Run}:(ZipX.mk i k c cap l).i=i:=(rfl)
theorem GS {i k c cap:Nat} {l:List Run}:(ZipX.mk i k c cap l).k=k:=(rfl)
def FwdOK (val:Int→Int) (lo hi:Int):List Run→Prop
 | []=>lo=hi
 | r::R=>r.f=lo∧r.f≤r.t∧(∀x,r.f≤x→x≤r.t→val x=r.v)∧(∀s,R.head? = some s→r.v≠s.v)∧FwdOK val (r.t+1) hi R
theorem FwdOK.le {val:Int→Int}:∀{R:List Run} {lo hi:Int},FwdOK val lo hi R→lo≤hi
 | [],lo,hi,h=>by have:lo=hi:=h; omega
 | r::R,lo,hi,h=>by
  obtain ⟨h1,h2,_,_,h5⟩:=h
  have:=FwdOK.le h5
  omega
theorem PY {r x:Run} {R:List Run} (h:R≠[]):A6 (r::R) x=r::A6 R x:=by
 obtain ⟨q,hq⟩:∃q,R.getLast? = some q:=by
  cases hh:R.getLast? with
  | none=>exact absurd (List.getLast?_eq_none_iff.1 hh) h
  | some q=>exact ⟨q,rfl⟩
 have h2:(r::R).getLast? = some q:=by
  rw [List.getLast?_cons,hq]; rfl
 unfold A6
 rw [hq,h2]
 simp -implicitDefEqProofs only []
 split
 ·rw [List.dropLast_cons_of_ne_nil h]; rfl
 ·rfl
theorem TT {x s:Run} {R:List Run} {q:Run} (h:(A6 (s::R) x).head? = some q):q.v=s.v:=by
 cases R with
 | nil =>
  unfold A6 at h
  simp -implicitDefEqProofs only [List.getLast?_singleton] at h
  split at h
  ·simp at h; subst h; rfl
  ·simp at h; subst h; rfl
 | cons t R =>
  rw [PY (by simp)] at h
  simp at h; subst h; rfl
theorem FwdOK.put {val:Int→Int} {hi:Int}:∀{R:List Run} {lo:Int},FwdOK val lo hi R→FwdOK val lo (hi+1) (A6 R ⟨hi,hi,val hi⟩)
 | [],lo,h=>by
  have:lo=hi:=h
  subst this
  exact ⟨rfl,Int.le_refl _,fun x h1 h2=>by rw [show x=lo from Int.le_antisymm h2 h1],fun s h=>(by cases h),rfl⟩
 | [r],lo,h=>by
  obtain ⟨h1,h2,h3,h4,h5⟩:=h
  have h5:r.t+1=hi:=h5
  unfold A6
  simp -implicitDefEqProofs only [List.getLast?_singleton]
  split
  ·next hv =>
   refine ⟨h1,by show r.f≤hi; omega,fun x x1 x2=>?_,fun s h=>(by cases h),rfl⟩
   by_cases hx:x=hi
   ·subst hx; exact hv.symm
   ·exact h3 x x1 (by have:x≤hi:=x2; omega)
  ·next hv =>
   refine ⟨h1,h2,h3,fun s h=>?_,⟨h5.symm,Int.le_refl _,fun x x1 x2=>by rw [show x=hi from Int.le_antisymm x2 x1],fun s h=>(by cases h),rfl⟩⟩
   cases h; exact hv
 | r::s::R,lo,h=>by
  obtain ⟨h1,h2,h3,h4,h5⟩:=h
  rw [PY (by simp)]
  refine ⟨h1,h2,h3,fun q hq=>?_,FwdOK.put h5⟩
  rw [TT hq]
  exact h4 s rfl
theorem Sf (from':Int) (l:List Int):∀i:Nat,FwdOK (fun x=>l.getD (x-from').toNat 0) from' (from'+i) (Hy from' l i)
 | 0=>by show from'=from'+((0:Nat):Int); omega
 | i+1=>by
  have h:=(Sf from' l i).put
  have e:l.getD (from'+(i:Int)-from').toNat 0=l.getD i 0:=by rw [show (from'+(i:Int)-from').toNat=i by omega]
  try simp -implicitDefEqProofs only [] at h
  rw [e] at h
  rw [Hy,show from'+((i+1:Nat):Int)=from'+i+1 by omega]
  exact h
theorem Qq {r:Run} {R:List Run} {x:Int}:Li (r::R) x=if r.t<x then Li R x else if r.f≤x then some r.v else none:=by
 unfold Li TI
 by_cases h:r.t<x
 ·rw [if_pos h,List.takeWhile_cons_of_pos (by simpa using h),List.length_cons,List.getElem?_cons_succ]
 ·rw [if_neg h,List.takeWhile_cons_of_neg (by simpa using h)]
  rfl
theorem FwdOK.at' {val:Int→Int} {hi x:Int}:∀{R:List Run} {lo:Int},FwdOK val lo hi R→lo≤x→x<hi→Li R x=some (val x)
 | [],lo,h,h1,h2=>by have:lo=hi:=h; omega
 | r::R,lo,h,h1,h2=>by
  obtain ⟨g1,g2,g3,g4,g5⟩:=h
  rw [Qq]
  by_cases ht:r.t<x
  ·rw [if_pos ht]; exact FwdOK.at' g5 (by omega) h2
  ·rw [if_neg ht,if_pos (by omega),g3 x (by omega) (by omega)]
def Adj2:List Run→Prop
 | []=>True
 | r::R=>(∀s,R.head? = some s→r.v≠s.v)∧Adj2 R
theorem Adj2.last {S R:List Run} {x q:Run} (h:Adj2 (S++x::R)) (hq:S.getLast? = some q):q.v≠x.v:=by
 induction S with
 | nil=>cases hq
 | cons s S ih =>
  cases S with
  | nil =>
   simp at hq; subst hq
   exact h.1 x rfl
  | cons t S =>
   rw [List.getLast?_cons_cons] at hq
   exact ih h.2 hq
def Mi:List Run→AV
 | []=>.tup [i64 0,i64 0,bv false]
 | r::R=>.tup [i64 r.f,i64 ((r::R).getLast (by simp)).t,bv true]
theorem U0 {R:List Run} (hl:R.length≤1000000):DataW Tryz.prog AKE [Gn R] (Mi R):=by
 refine AX Ur (by simp) ?_
 simp -implicitDefEqProofs -proj only [go_sem,seval]
 refine AK (fun b hb=>?_)
 by_cases h:R=[]
 ·subst h
  simp -implicitDefEqProofs -proj only [go_sem,seval,rowR_len]
  exact AH rfl
 ·have hlen:0<R.length:=List.length_pos_iff.2 h
  have hw:IntKind.i64.wrap ((R.length:Int)-1)=((R.length-1:Nat):Int):=by rw [IntKind.wrap_i64]; omega
  have e0:=Nl (l:=R) (i:=0) hlen
  have e1:=Nl (l:=R) (i:=R.length-1) (by omega)
  simp -implicitDefEqProofs -proj only [go_sem,seval,rowR_len,decide_eq_false (show ¬(R.length:Int)=0 by omega),hw]
  refine Ah _ (by omega) e0 ?_
  simp -implicitDefEqProofs -proj only [go_sem,seval,rowR_len,hw]
  refine Ah _ (by omega) e1 ?_
  simp -implicitDefEqProofs -proj only [go_sem,seval]
  obtain ⟨r,R',rfl⟩:=List.exists_cons_of_ne_nil h
  refine AH ?_
  simp [Mi,List.getLast_eq_getElem]
theorem FwdOK.out {val:Int→Int} {hi x:Int}:∀{R:List Run} {lo:Int},FwdOK val lo hi R→(x<lo∨hi≤x)→Li R x=none
 | [],lo,h,_=>rfl
 | r::R,lo,h,h1=>by
  obtain ⟨g1,g2,g3,g4,g5⟩:=h
  have:=g5.le
  rw [Qq]
  by_cases ht:r.t<x
  ·rw [if_pos ht]; exact FwdOK.out g5 (.inr (by omega))
  ·rw [if_neg ht,if_neg (by omega)]
theorem FwdOK.ends {val:Int→Int} {hi:Int}:∀{R:List Run} {lo:Int} (hr:R≠[]),FwdOK val lo hi R→(R.head hr).f=lo∧(R.getLast hr).t=hi-1
 | [r],lo,_,h=>⟨h.1,by have:r.t+1=hi:=h.2.2.2.2; show r.t=hi-1; omega⟩
 | r::s::R,lo,_,h=>⟨h.1,(FwdOK.ends (R:=s::R) (by simp) h.2.2.2.2).2⟩
theorem FwdOK.congr {val val':Int→Int} {hi:Int}:∀{R:List Run} {lo:Int},(∀x,lo≤x→x<hi→val x=val' x)→FwdOK val lo hi R→FwdOK val' lo hi R
 | [],_,_,h=>h
 | r::R,lo,he,h=>by
  obtain ⟨g1,g2,g3,g4,g5⟩:=h
  have:=g5.le
  exact ⟨g1,g2,fun x h1 h2=>by rw [←he x (by omega) (by omega)]; exact g3 x h1 h2,g4,FwdOK.congr (fun x h1 h2=>he x (by omega) h2) g5⟩
theorem FwdOK.putRun {val:Int→Int} {hi t v:Int} (ht:hi≤t) (hv:∀x,hi≤x→x≤t→val x=v):∀{R:List Run} {lo:Int},FwdOK val lo hi R→FwdOK val lo (t+1) (A6 R ⟨hi,t,v⟩)
 | [],lo,h=>by
  have:lo=hi:=h
  subst this
  exact ⟨rfl,ht,hv,fun s h=>(by cases h),rfl⟩
 | [r],lo,h=>by
  obtain ⟨h1,h2,h3,h4,h5⟩:=h
  have h5:r.t+1=hi:=h5
  unfold A6
  simp -implicitDefEqProofs only [List.getLast?_singleton]
  split
  ·next he =>
   refine ⟨h1,by show r.f≤t; omega,fun x x1 x2=>?_,fun s h=>(by cases h),rfl⟩
   by_cases hx:hi≤x
   ·rw [hv x hx x2]; exact he.symm
   ·exact h3 x x1 (by omega)
  ·next he =>
   refine ⟨h1,h2,h3,fun s h=>?_,⟨h5.symm,ht,hv,fun s h=>(by cases h),rfl⟩⟩
   cases h; exact he
 | r::s::R,lo,h=>by
  obtain ⟨h1,h2,h3,h4,h5⟩:=h
  rw [PY (by simp)]
  refine ⟨h1,h2,h3,fun q hq=>?_,FwdOK.putRun ht hv h5⟩
  rw [TT hq]
  exact h4 s rfl
theorem FwdOK.canon {val:Int→Int} {hi:Int}:∀{R S:List Run} {lo:Int},FwdOK val lo hi R→FwdOK val lo hi S→R=S
 | [],[],_,_,_=>rfl
 | [],s::S,lo,h,k=>by
  have:lo=hi:=h
  obtain ⟨k1,k2,_,_,k5⟩:=k
  have:=k5.le
  omega
 | r::R,[],lo,h,k=>by
  have:lo=hi:=k
  obtain ⟨k1,k2,_,_,k5⟩:=h
  have:=k5.le
  omega
 | r::R,s::S,lo,h,k=>by
  obtain ⟨h1,h2,h3,h4,h5⟩:=h
  obtain ⟨k1,k2,k3,k4,k5⟩:=k
  have hh:=h5.le
  have kk:=k5.le
  have ev:r.v=s.v:=by rw [←h3 lo (by omega) (by omega),←k3 lo (by omega) (by omega)]
  have key:∀{A:List Run} {a b:Run},FwdOK val (a.t+1) hi A→b.t+1≤hi→a.f=lo→b.f=lo→a.f≤a.t→(∀x,b.f≤x→x≤b.t→val x=b.v)→(∀q,A.head? = some q→a.v≠q.v)→a.v=b.v→¬a.t<b.t:=by
   intro A a b hA hb ha hb2 haa hbv hne hab hlt
   cases A with
   | nil=>have:a.t+1=hi:=hA; omega
   | cons q A =>
    obtain ⟨q1,q2,q3,_,_⟩:=hA
    have e1:=q3 q.f (Int.le_refl _) q2
    have e2:=hbv q.f (by omega) (by omega)
    exact hne q rfl (by rw [hab,←e2,e1])
  have et:r.t=s.t:=by
   have n1:=key h5 kk h1 k1 h2 k3 h4 ev
   have n2:=key k5 hh k1 h1 k2 h3 k4 ev.symm
   omega
  have ers:r=s:=by
   obtain ⟨rf,rt,rv⟩:=r
   obtain ⟨sf,st,sv⟩:=s
   simp -implicitDefEqProofs only at h1 k1 et ev
   subst h1; subst et; subst ev; rw [k1]
  rw [ers]
  rw [et] at h5
  exact congrArg _ (FwdOK.canon h5 k5)
def Iw (f:Int) (l:List Int):Int→Int:=fun x=>l.getD (x-f).toNat 0
theorem IR (f:Int) (l:List Int):FwdOK (Iw f l) f (f+l.length) (BG f l):=Sf f l l.length
theorem Oa {val:Int→Int} {f:Int} {l:List Int} {R:List Run} (h:FwdOK val f (f+l.length) R) (hv:∀(i:Nat) (hi:i<l.length),val (f+i)=l[i]):R=BG f l:=by
 refine FwdOK.canon (h.congr fun x h1 h2=>?_) (IR f l)
 obtain ⟨i,rfl⟩:∃i:Nat,x=f+i:=⟨(x-f).toNat,by omega⟩
 have hi:i<l.length:=by omega
 rw [hv i hi,Iw,show (f+(i:Int)-f).toNat=i by omega]
 simp [hi]
structure Grp where
 f:Int
 v:Int
 w:Int
 r:Int
 c:Int
 deriving DecidableEq
def FT (w r:Int) (a:Run):List Run→Nat
 | []=>0
 | b::l=>if b.f-a.f=w∧b.v-a.v=r then FT w r b l+1 else 0
theorem Rg {w r:Int}:∀{l:List Run} {a:Run},FT w r a l≤l.length
 | [],a=>Nat.le_refl _
 | b::l,a=>by
  rw [FT]
  split
  ·have:=@Rg w r l b
   simp -implicitDefEqProofs only [List.length_cons]; omega
  ·omega
def EJ (a:Run):List Run→Grp×Nat
 | []=>(⟨a.f,a.v,0,0,1⟩,1)
 | b::l=>(⟨a.f,a.v,b.f-a.f,b.v-a.v,((FT (b.f-a.f) (b.v-a.v) a (b::l)+1:Nat):Int)⟩,FT (b.f-a.f) (b.v-a.v) a (b::l)+1)
theorem Jg {a:Run} {l:List Run}:1≤(EJ a l).2∧(EJ a l).2≤l.length+1∧(EJ a l).1.c=(EJ a l).2:=by
 cases l with
 | nil=>exact ⟨Nat.le_refl _,Nat.le_refl _,rfl⟩
 | cons b l =>
  have:=@Rg (b.f-a.f) (b.v-a.v) (b::l) a
  exact ⟨by show 1≤FT _ _ _ _+1; omega,by show FT _ _ _ _+1≤_; omega,rfl⟩
def KB:Nat→List Run→List Grp
 | 0,_=>[]
 | _+1,[]=>[]
 | n+1,a::l=>(EJ a l).1::KB n ((a::l).drop (EJ a l).2)
def GO (R:List Run):List Grp:=KB R.length R
theorem Pb:∀{n:Nat} {R:List Run},R.length≤n→KB n R=KB R.length R
 | 0,[],_=>rfl
 | n+1,[],_=>rfl
 | n+1,a::l,h=>by
  obtain ⟨h1,h2,_⟩:=@Jg a l
  have hl:((a::l).drop (EJ a l).2).length≤l.length:=by rw [List.length_drop]; simp -implicitDefEqProofs only [List.length_cons]; omega
  simp -implicitDefEqProofs only [List.length_cons] at h
  rw [List.length_cons,KB,KB,Pb (n:=n) (by omega),Pb (n:=l.length) hl]
theorem LE {a:Run} {l:List Run}:GO (a::l)=(EJ a l).1::GO ((a::l).drop (EJ a l).2):=by
 obtain ⟨h1,h2,_⟩:=@Jg a l
 have hl:((a::l).drop (EJ a l).2).length≤l.length:=by rw [List.length_drop]; simp -implicitDefEqProofs only [List.length_cons]; omega
 unfold GO
 rw [List.length_cons,KB,Pb (n:=l.length) hl]
theorem Tv:GO []=[]:=rfl
theorem Tb:∀{n:Nat} {R:List Run},R.length≤n→(GO R).length≤R.length
 | _,[],_=>Nat.le_refl _
 | 0,a::l,h=>absurd h (by simp)
 | n+1,a::l,h=>by
  obtain ⟨h1,h2,_⟩:=@Jg a l
  simp -implicitDefEqProofs only [List.length_cons] at h
  have hl:((a::l).drop (EJ a l).2).length≤l.length:=by rw [List.length_drop]; simp -implicitDefEqProofs only [List.length_cons]; omega
  have:=Tb (n:=n) (R:=(a::l).drop (EJ a l).2) (by omega)
  rw [LE]
  simp -implicitDefEqProofs only [List.length_cons]
  omega
def Mv (g:Grp) (q:Int):Int:=if g.w<1 then g.v else g.v+min ((q-g.f).tdiv g.w) (g.c-1)*g.r
def GD:List Grp→Int→Option Int
 | [],_=>none
 | g::G,q=>match GD G q with
  | some v=>some v
  | none=>if g.f≤q then some (Mv g q) else none
theorem RE {w r:Int}:∀{l:List Run} {a:Run} (j:Nat),j<FT w r a l→∃h:j<l.length,l[j].f=a.f+(j+1)*w∧l[j].v=a.v+(j+1)*r
 | [],a,j,h=>absurd h (Nat.not_lt_zero _)
 | b::l,a,j,h=>by
  rw [FT] at h
  split at h
  ·next hc =>
   cases j with
   | zero=>exact ⟨by simp,by simp -implicitDefEqProofs only [List.getElem_cons_zero]; omega,by simp -implicitDefEqProofs only [List.getElem_cons_zero]; omega⟩
   | succ j =>
    obtain ⟨g1,g2,g3⟩:=RE (w:=w) (r:=r) (l:=l) (a:=b) j (by omega)
    refine ⟨by simpa using g1,?_,?_⟩
    ·simp -implicitDefEqProofs only [List.getElem_cons_succ]
     rw [g2,show (((j+1:Nat):Int)+1)*w=((j:Int)+1)*w+w by rw [Int.add_mul ((j+1:Nat):Int),Int.one_mul]; rfl]
     omega
    ·simp -implicitDefEqProofs only [List.getElem_cons_succ]
     rw [g3,show (((j+1:Nat):Int)+1)*r=((j:Int)+1)*r+r by rw [Int.add_mul ((j+1:Nat):Int),Int.one_mul]; rfl]
     omega
  ·omega
theorem Np {a:Run} {l:List Run} (j:Nat) (hj:j<(EJ a l).2):∃h:j<(a::l).length,(a::l)[j].f=(EJ a l).1.f+j*(EJ a l).1.w∧(a::l)[j].v=(EJ a l).1.v+j*(EJ a l).1.r:=by
 cases l with
 | nil =>
  have:j=0:=by simp -implicitDefEqProofs only [EJ] at hj; omega
  subst this
  exact ⟨by simp,by simp [EJ],by simp [EJ]⟩
 | cons b l =>
  cases j with
  | zero=>exact ⟨by simp,by simp [EJ],by simp [EJ]⟩
  | succ j =>
   simp -implicitDefEqProofs only [EJ] at hj
   obtain ⟨g1,g2,g3⟩:=RE (w:=b.f-a.f) (r:=b.v-a.v) (l:=b::l) (a:=a) j (by omega)
   exact ⟨by simpa using g1,by simpa [EJ] using g2,by simpa [EJ] using g3⟩
theorem RN {val:Int→Int} {lo hi:Int} {a:Run} {l:List Run} (h:FwdOK val lo hi (a::l)):(l=[]∧(EJ a l).1.w=0∧(EJ a l).1.r=0∧(EJ a l).2=1)∨(l≠[]∧1≤(EJ a l).1.w∧(EJ a l).1.r≠0∧2≤(EJ a l).2):=by
 cases l with
 | nil=>exact .inl ⟨rfl,rfl,rfl,rfl⟩
 | cons b l =>
  obtain ⟨g1,g2,g3,g4,g5⟩:=h
  refine .inr ⟨by simp,?_,?_,?_⟩
  ·show 1≤b.f-a.f
   have:=g5.1
   omega
  ·show b.v-a.v≠0
   have:=g4 b (by simp)
   omega
  ·show 2≤FT _ _ _ _+1
   rw [FT,if_pos ⟨rfl,rfl⟩]
   omega
theorem FwdOK.drop {val:Int→Int} {hi:Int}:∀{R:List Run} {lo:Int} (k:Nat),FwdOK val lo hi R→k≤R.length→∃m,FwdOK val m hi (R.drop k)∧lo+k≤m∧(∀q,lo≤q→q<m→∃(j:Nat) (h:j<R.length),j<k∧R[j].f≤q∧q≤R[j].t∧val q=R[j].v∧(∀(h2:j+1<R.length),q<R[j+1].f))
 | R,lo,0,h,_=>⟨lo,h,by omega,fun q h1 h2=>by omega⟩
 | [],lo,k+1,h,hk=>absurd hk (by simp)
 | a::R,lo,k+1,⟨g1,g2,g3,g4,g5⟩,hk=>by
  obtain ⟨m,k1,k2,k3⟩:=FwdOK.drop k g5 (by simpa using hk)
  refine ⟨m,k1,by omega,fun q h1 h2=>?_⟩
  by_cases hq:q≤a.t
  ·refine ⟨0,by simp,by omega,by simpa using (by omega),by simpa using hq,by simpa using g3 q (by omega) hq,fun h3=>?_⟩
   cases R with
   | nil=>simp at h3
   | cons b R =>
    have:=g5.1
    simp -implicitDefEqProofs only [List.getElem_cons_succ,List.getElem_cons_zero]
    omega
  ·obtain ⟨j,j1,j2,j3,j4,j5,j6⟩:=k3 q (by omega) h2
   exact ⟨j+1,by simpa using j1,by omega,by simpa using j3,by simpa using j4,by simpa using j5,fun h3=>by simpa using j6 (by simpa using h3)⟩
theorem AFQ {x w:Int} {j:Nat} (hw:1≤w) (h0:(j:Int)*w≤x):(j:Int)≤x.tdiv w∧(x<(j+1)*w→x.tdiv w=j):=by
 have hx:0≤x:=Int.le_trans (Int.mul_nonneg (by omega) (by omega)) h0
 rw [Int.tdiv_eq_ediv_of_nonneg hx]
 refine ⟨Int.le_ediv_of_mul_le (by omega) h0,fun h1=>?_⟩
 have h2:=Int.le_ediv_of_mul_le (show 0<w by omega) h0
 have h3:=Int.ediv_lt_of_lt_mul (show 0<w by omega) h1
 omega
theorem S3 {val:Int→Int} {hi:Int}:∀(n:Nat) {R:List Run} {lo:Int},R.length≤n→FwdOK val lo hi R→∀q,(q<lo→GD (GO R) q=none)∧(lo≤q→q<hi→GD (GO R) q=some (val q))
 | _,[],lo,_,h,q=>⟨fun _=>rfl,fun h1 h2=>by have:lo=hi:=h; omega⟩
 | 0,a::l,lo,hn,h,q=>absurd hn (by simp)
 | n+1,a::l,lo,hn,h,q=>by
  obtain ⟨h1,h2,hc⟩:=@Jg a l
  simp -implicitDefEqProofs only [List.length_cons] at hn
  obtain ⟨m,k1,k2,k3⟩:=FwdOK.drop (EJ a l).2 h (by simp -implicitDefEqProofs only [List.length_cons]; omega)
  have hl:((a::l).drop (EJ a l).2).length≤n:=by rw [List.length_drop]; simp -implicitDefEqProofs only [List.length_cons]; omega
  obtain ⟨i1,i2⟩:=S3 n hl k1 q
  have hgf:(EJ a l).1.f=lo:=by
   have:=h.1
   cases l <;> exact this
  have hgv:(EJ a l).1.v=a.v:=by cases l <;> rfl
  rw [LE,GD,hgf]
  refine ⟨fun hq=>?_,fun hq hq2=>?_⟩
  ·rw [i1 (by omega)]
   simp -implicitDefEqProofs only []
   rw [if_neg (by omega)]
  ·by_cases hm:m≤q
   ·rw [i2 hm hq2]
   ·rw [i1 (by omega)]
    simp -implicitDefEqProofs only []
    rw [if_pos hq]
    congr 1
    obtain ⟨j,j1,j2,j3,j4,j5,j6⟩:=k3 q hq (by omega)
    obtain ⟨e1,e2,e3⟩:=Np (a:=a) (l:=l) j j2
    rw [j5,e3]
    unfold Mv
    rcases RN h with ⟨w0,w1,w2,w3⟩ | ⟨w0,w1,w2,w3⟩
    ·rw [if_pos (by omega),w2,Int.mul_zero,Int.add_zero]
    ·rw [if_neg (by omega),hc,hgf]
     rw [hgf] at e2
     congr 2
     obtain ⟨d1,d2⟩:=AFQ (x:=q-lo) (w:=(EJ a l).1.w) (j:=j) w1 (by omega)
     by_cases hj:j+1<(EJ a l).2
     ·obtain ⟨f1,f2,f3⟩:=Np (a:=a) (l:=l) (j+1) hj
      have:=j6 (by omega)
      rw [f2,hgf,show (((j+1:Nat):Int))=(j:Int)+1 from rfl] at this
      rw [d2 (by omega)]
      omega
     ·omega
def HT (r:Run):Prop:=r.v < -2305843009213693952∨2305843009213693952<r.v
instance (r:Run):Decidable (HT r):=by unfold HT; exact inferInstance
theorem AIv (r:Run):DataW Tryz.prog Xj [r.av] (bv (decide (HT r))):=by
 refine AX AVX (by simp) ?_
 simp -implicitDefEqProofs -proj only [go_sem,seval]
 refine AK (fun b hb=>?_)
 by_cases h1:r.v < -2305843009213693952
 ·simp -implicitDefEqProofs -proj only [go_sem,seval,decide_eq_true h1]
  exact AH (by rw [decide_eq_true (show HT r from .inl h1)])
 ·by_cases h2:2305843009213693952<r.v
  ·simp -implicitDefEqProofs -proj only [go_sem,seval,decide_eq_false h1,decide_eq_true h2]
   exact AH (by rw [decide_eq_true (show HT r from .inr h2)])
  ·simp -implicitDefEqProofs -proj only [go_sem,seval,decide_eq_false h1,decide_eq_false h2]
   exact AH (by rw [decide_eq_false (show ¬HT r by unfold HT; omega)])
def Jm (p:Run→Bool) (l:List Run):Int:=match l.findIdx? p with
 | some i=>i
 | none=>-1
theorem ACg {l:List Run} {f:FuncId} {p:Run→Bool} (hf:∀r:Run,DataW Tryz.prog f [r.av] (bv (p r))) (hl:l.length≤1000000):DataW Tryz.prog AQ2 [Fw l,.fn f []] (i64 (Jm p l)):=by
 refine AX AFs (by simp) ?_
 simp -implicitDefEqProofs -proj only [go_sem,seval,rowR_len]
 refine D9 (fun i:Nat=>i≤l.length∧∀(j:Nat) (h:j<l.length),j<i→p l[j]=false) 19 (fun i=>[(0,Fw l),(1,.fn f []),(7,i64 l.length),(8,i64 i)]) (fun _=>[]) (fun i=>l.length-i) 0 ⟨Nat.zero_le _,fun j _ h=>absurd h (Nat.not_lt_zero _)⟩ rfl ?_ ?_ ?_
 ·simp -implicitDefEqProofs -proj only [go_sem,seval,AM]
 ·trivial
 ·rintro i ⟨hi,hs⟩
  by_cases h:i<l.length
  ·have hel:=JA h
   have hff:=hf l[i]
   have hstep:p l[i]=false→∀(j:Nat) (h:j<l.length),j<i+1→p l[j]=false:=by
    intro e j h1 h2
    by_cases hj:j=i
    ·subst hj; exact e
    ·exact hs j h1 (by omega)
   have hfound:p l[i]=true→Jm p l=i:=by
    intro e
    unfold Jm
    rw [List.findIdx?_eq_some_iff_getElem.2 ⟨h,e,fun j hj=>by simpa using hs j (by omega) hj⟩]
   generalize l[i]=r at *
   simp -implicitDefEqProofs -proj only [go_sem,seval,decide_eq_true (show (i:Int)<l.length by omega)]
   refine Ah _ (by omega) hel ?_
   simp -implicitDefEqProofs -proj only [go_sem,seval]
   refine AJ hff ?_
   cases hp:p r
   ·simp -implicitDefEqProofs -proj only [go_sem,seval]
    refine Ad (i+1) ⟨by omega,hstep hp⟩ (by omega) rfl ?_ trivial
    simp -implicitDefEqProofs -proj only [go_sem,seval,AM,AP (show i<9223372036854775807 by omega)]
   ·simp -implicitDefEqProofs -proj only [go_sem,seval]
    exact AH (by rw [hfound hp])
  ·have hi':i=l.length:=by omega
   subst hi'
   simp -implicitDefEqProofs -proj only [go_sem,seval,decide_eq_false (show ¬(l.length:Int)<l.length by omega)]
   have:Jm p l = -1:=by
    unfold Jm
    rw [List.findIdx?_eq_none_iff.2 fun x hx=>?_]
    obtain ⟨j,hj,rfl⟩:=List.getElem_of_mem hx
    exact hs j hj hj
   exact AH (by rw [this])
theorem AG6 {l:List Run} {f:FuncId} {p:Run→Bool} (hf:∀r:Run,DataW Tryz.prog f [r.av] (bv (p r))) (hl:l.length≤1000000):DataW Tryz.prog AGh [Fw l,.fn f []] (bv (l.any p)):=by
 refine AX AUc (by simp) ?_
 have h:=ACg hf hl
 simp -implicitDefEqProofs -proj only [go_sem,seval]
 refine AJ h ?_
 have hd:decide (0≤Jm p l)=l.any p:=by
  unfold Jm
  cases hh:l.findIdx? p with
  | none =>
   have:=List.findIdx?_eq_none_iff.1 hh
   simp -implicitDefEqProofs only []
   rw [show l.any p=false from List.any_eq_false.2 fun x hx=>by rw [this x hx]; simp]
   decide
  | some i =>
   obtain ⟨h1,h2,_⟩:=List.findIdx?_eq_some_iff_getElem.1 hh
   rw [show l.any p=true from List.any_eq_true.2 ⟨_,List.getElem_mem h1,h2⟩]
   simp
 simp -implicitDefEqProofs -proj only [go_sem,seval,hd]
 exact AH rfl
structure SeqX where
 c:Nat
 cap:Nat
 R:List Run
theorem NW {c cap:Nat} {R:List Run}:(SeqX.mk c cap R).c=c:=(rfl)
theorem Mo {c cap:Nat} {R:List Run}:(SeqX.mk c cap R).cap=cap:=(rfl)
theorem KI {c cap:Nat} {R:List Run}:(SeqX.mk c cap R).R=R:=(rfl)
def KN (b2:Nat) (rest:List (Nat×Blk)) (y:SeqX):List (Nat×Blk):=Ai 136 3 y.c y.cap (ER y.R)++((b2,.box 102 [A0 0 3 y.c y.cap (ER y.R)])::rest)
theorem ATc {H:Heap} {f:FuncId} {caps:List AV} {bl:List (Nat×Blk)} {l:List Run} (hit:Ii Tryz.prog f caps bl (Ig l)) (rest:List (Nat×Blk)) (hbl:∀p∈bl,p∈rest) (hrest:AS H rest) (hnd:(AT rest).Nodup) (hl:l.length≤1000000) :
  CallW Tryz.prog AOk [.nilsl 0,.fn f caps] H fun r H'=>∃c cap,r=A0 0 3 c cap (ER l)∧AS H' (Ai 136 3 c cap (ER l)++rest)∧(AT (Ai 136 3 c cap (ER l)++rest)).Nodup:=by
 refine AX ABZ (by simp) ?_
 simp -implicitDefEqProofs -proj only [go_sem,seval]
 refine AK (fun b2 hb2=>?_)
 have a2:=HK (x:=.box 102 [.nilsl 0]) hb2 hrest
 have n2:=IB (x:=.box 102 [.nilsl 0]) hb2 hrest hnd
 simp -implicitDefEqProofs -proj only [go_sem,seval]
 refine O2 [(2,.ptr b2 0)] (fun pre y=>y.R=l.take pre.length∧(AT (KN b2 rest y)).Nodup) (KN b2 rest) ⟨0,0,[]⟩ hit (by simp -implicitDefEqProofs -proj only [go_sem,seval]) rfl (by simp) (by simp -implicitDefEqProofs -proj only [go_sem,seval,AM]) ?_ ⟨by simp,n2⟩ a2 ?_ ?_
 ·intro pre y _ p hp
  exact List.mem_append.2 (.inr (List.mem_cons_of_mem _ (hbl p hp)))
 ·rintro pre v post ⟨c,cap,R⟩ hxs ⟨hR,hn⟩
  obtain ⟨hlt,rfl,hpre⟩:=OV hxs
  have hall:=EQ hn
  simp -implicitDefEqProofs only [KI] at hR
  have hRl:R.length=pre.length:=by rw [hR,List.length_take]; omega
  obtain ⟨H1,hH⟩:∃H1,Ab (KN b2 rest ⟨c,cap,R⟩)=H1:=⟨_,rfl⟩
  rw [hH] at hall ⊢
  simp -implicitDefEqProofs only [KN,NW,Mo,KI] at hall hn
  obtain ⟨hrow,h2,_⟩:=EF.1 hall
  have htk:l.take (pre.length+1)=R++[l[pre.length]]:=by rw [List.take_succ_eq_append_getElem hlt,hR]
  generalize l[pre.length]=r at *
  simp -implicitDefEqProofs -proj only [go_sem,seval]
  refine AK (fun b6 hb6=>?_)
  replace hb6:H1 b6=none:=hb6
  obtain ⟨p1,p2⟩:=AI hb6 h2
  simp -implicitDefEqProofs -proj only [go_sem,seval,p1,h2]
  refine As (fun bs hs'=>?_)
  replace hs':upd H1 b6 _ bs=none:=hs'
  simp -implicitDefEqProofs -proj only [go_sem,seval]
  refine Ff (xs:=ER R) (y:=r.el) (t:=136) (capc:=1) ((b2,.box 102 [A0 0 3 c cap (ER R)])::rest) rfl (An hs' (An hb6 hall)) hn (by simp -implicitDefEqProofs -proj only [go_sem,seval]; rfl) (by rw [rowR_len]; omega) (by rw [rowR_len]; omega) (fun H' c' cap' ha hk=>?_)
  obtain ⟨hrow',hbox⟩:=EF.1 ha
  simp -implicitDefEqProofs -proj only [go_sem,seval,hbox.1]
  rw [TP] at hrow' hk ha
  refine K3 ⟨c',cap',R++[r]⟩ ⟨by simp -implicitDefEqProofs only [KI,List.length_append,List.length_singleton]; exact htk.symm,?_⟩ ?_
  ·simpa only [AT,KN,NW,Mo,KI,List.map_append,List.map_cons,List.map_nil] using hk
  ·have hne:ER (R++[r])≠[]:=by simp [ER]
   refine EF.2 ⟨?_,?_⟩
   ·refine J7 hrow' ?_
    simp -implicitDefEqProofs only [AT,List.map_append,List.nodup_append,List.map_cons,List.map_nil,List.mem_cons] at hk
    exact fun hm=>hk.2.2 _ hm _ (.inl rfl) rfl
   ·have:=N6 (x':=.box 102 [.own c' 3 0 ((ER R).length+1) cap']) hbox (by simp -implicitDefEqProofs only [AT,List.map_append,List.nodup_append] at hk ⊢; exact hk.2.1)
    simp -implicitDefEqProofs only [NW,Mo,KI,Ex hne,show (ER (R++[r])).length=(ER R).length+1 by simp [ER]]
    exact this
 ·rintro ⟨c,cap,R⟩ ⟨hR,hn⟩
  have hall:=EQ hn
  simp -implicitDefEqProofs only [KI] at hR
  obtain ⟨H1,hH⟩:∃H1,Ab (KN b2 rest ⟨c,cap,R⟩)=H1:=⟨_,rfl⟩
  rw [hH] at hall ⊢
  simp -implicitDefEqProofs only [KN,NW,Mo,KI] at hall hn
  obtain ⟨hrow,h2,hr2⟩:=EF.1 hall
  rw [List.length_map,List.take_length] at hR
  subst hR
  simp -implicitDefEqProofs -proj only [go_sem,seval,h2]
  refine ⟨c,cap,rfl,EF.2 ⟨hrow,hr2⟩,?_⟩
  simp -implicitDefEqProofs only [AT,List.map_append,List.nodup_append,List.map_cons,List.nodup_cons,List.mem_cons] at hn ⊢
  exact ⟨hn.1,hn.2.1.2,fun a ha b hb=>hn.2.2 a ha b (.inr hb)⟩
theorem L6 {k:Nat}:∀{l:List (Nat×Blk)},Ab l k≠none→k∈AT l
 | [],h=>absurd rfl h
 | (b,x)::l,h=>by
  rw [Ap] at h
  by_cases e:k=b
  ·exact List.mem_cons.2 (.inl e)
  ·rw [if_neg e] at h
   exact List.mem_cons_of_mem _ (L6 h)
theorem Z5 {H:Heap} {f:FuncId} {caps:List AV} {bl:List (Nat×Blk)} {l:List Run} (hit:Ii Tryz.prog f caps bl (Ig l)) (rest:List (Nat×Blk)) (hbl:∀p∈bl,p∈rest) (hrest:AS H rest) (hnd:(AT rest).Nodup) (hl:l.length≤1000000) :
  CallW Tryz.prog AEp [.fn f caps] H fun r H'=>r=Fw l∧AS H' rest:=by
 have hA:=CallW.froze (v:=Fw l) (K:=fun H'=>AS H' rest) (CallW.mono (ATc hit rest hbl hrest hnd hl) fun r H' ⟨c,cap,hr,ha,hk⟩=>by
  subst hr
  have hk1:(AT (Ai 136 3 c cap (ER l))).Nodup:=by simp -implicitDefEqProofs only [AT,List.map_append,List.nodup_append] at hk; exact hk.1
  refine ⟨Ab (Ai 136 3 c cap (ER l)),Ab rest,JD (EF.1 ha).1,fun k=>?_,LZ (EQ hk1) QT,EQ hnd⟩
  rcases JD (EF.1 ha).2 k with e | e
  ·exact .inl e
  ·by_cases hr:Ab rest k=none
   ·exact .inl hr
   ·refine .inr ⟨e,?_⟩
    by_cases e1:Ab (Ai 136 3 c cap (ER l)) k=none
    ·exact e1
    ·simp -implicitDefEqProofs only [AT,List.map_append,List.nodup_append] at hk
     exact absurd rfl (hk.2.2 k (L6 e1) k (L6 hr)))
 refine AX ASy (by simp) ?_
 simp -implicitDefEqProofs -proj only [go_sem,seval]
 refine En hA ?_
 rintro r H' ⟨rfl,h⟩
 simp -implicitDefEqProofs -proj only [go_sem,seval]
 exact h
def Grp.el (g:Grp):List D:=[.int .i64 g.f,.int .i64 g.v,.int .i64 g.w,.int .i64 g.r,.int .i64 g.c]
abbrev Grp.av (g:Grp):AV:=.agg [i64 g.f,i64 g.v,i64 g.w,i64 g.r,i64 g.c]
def Ix (r:Run):Prop:=(0≤r.f∧r.f≤3000)∧(-2305843009213693952≤r.v∧r.v≤2305843009213693952)
theorem AHJ {w r:Int} {S:List Run} {c:Nat} (h0:0<c) (h:c<S.length):FT w r (S[c-1]'(by omega)) (S.drop c)=if S[c].f-(S[c-1]'(by omega)).f=w∧S[c].v-(S[c-1]'(by omega)).v=r then FT w r S[c] (S.drop (c+1))+1 else 0:=by
 rw [List.drop_eq_getElem_cons h,FT]
theorem AUO {S:List Run} (h:1<S.length):EJ (S[0]'(by omega)) (S.drop 1)=(⟨(S[0]'(by omega)).f,(S[0]'(by omega)).v,S[1].f-(S[0]'(by omega)).f,S[1].v-(S[0]'(by omega)).v,((FT (S[1].f-(S[0]'(by omega)).f) (S[1].v-(S[0]'(by omega)).v) (S[0]'(by omega)) (S.drop 1)+1:Nat):Int)⟩,FT (S[1].f-(S[0]'(by omega)).f) (S[1].v-(S[0]'(by omega)).v) (S[0]'(by omega)) (S.drop 1)+1):=by
 match S,h with
 | a::b::l,_=>rfl
set_option maxRecDepth 20000 in
theorem AQG {S:List Run} (h0:0<S.length) (hb:∀r∈S,Ix r) (hl:S.length≤3000):DataW Tryz.prog Vw [Fw S] (.tup [(EJ S[0] (S.drop 1)).1.av,i64 (EJ S[0] (S.drop 1)).2]):=by
 refine AX Xz (by simp) ?_
 have e0:=JA h0
 have b0:=hb _ (List.getElem_mem h0)
 by_cases h1:S.length=1
 ·have hg:EJ S[0] (S.drop 1)=(⟨S[0].f,S[0].v,0,0,1⟩,1):=by rw [List.drop_eq_nil_of_le (by omega)]; rfl
  rw [hg]
  generalize S[0]=a at *
  simp -implicitDefEqProofs -proj only [go_sem,seval]
  refine AK (fun b2 hb2=>?_)
  simp -implicitDefEqProofs -proj only [go_sem,seval]
  refine Ah _ (by omega) (i:=0) e0 ?_
  simp -implicitDefEqProofs -proj only [go_sem,seval]
  refine Ah _ (by omega) (i:=0) e0 ?_
  simp -implicitDefEqProofs -proj only [go_sem,seval]
  refine AK (fun b4 hb4=>?_)
  replace hb4:upd Heap.none b2 _ b4=none:=hb4
  obtain ⟨n1,n2⟩:=AI hb4 upd_eq
  simp -implicitDefEqProofs -proj only [go_sem,seval,n1,n2,rowR_len,decide_eq_true (show (S.length:Int)=1 by omega)]
  exact AH rfl
 ·have h1':1<S.length:=by omega
  have e1:=JA h1'
  have b1:=hb _ (List.getElem_mem h1')
  have hg:=AUO h1'
  obtain ⟨n,hn⟩:∃n,(EJ S[0] (S.drop 1)).2=n:=⟨_,rfl⟩
  have hn1:FT (S[1].f-S[0].f) (S[1].v-S[0].v) S[0] (S.drop 1)+1=n:=by rw [←hn,hg]
  have hg1:(EJ S[0] (S.drop 1)).1=⟨S[0].f,S[0].v,S[1].f-S[0].f,S[1].v-S[0].v,(n:Int)⟩:=by rw [hg,hn1]
  rw [hn,hg1]
  obtain ⟨w,hw⟩:∃w,S[1].f-S[0].f=w:=⟨_,rfl⟩
  obtain ⟨r,hr⟩:∃r,S[1].v-S[0].v=r:=⟨_,rfl⟩
  have ww:IntKind.i64.wrap (S[1].f-S[0].f)=w:=by unfold Ix at b0 b1; rw [IntKind.wrap_i64]; omega
  have wr:IntKind.i64.wrap (S[1].v-S[0].v)=r:=by unfold Ix at b0 b1; rw [IntKind.wrap_i64]; omega
  rw [hw,hr] at hn1 ⊢
  obtain ⟨a,ha⟩:∃a,S[0]=a:=⟨_,rfl⟩
  obtain ⟨b,hbb⟩:∃b,S[1]=b:=⟨_,rfl⟩
  have hn1':FT w r (S[1-1]'(by omega)) (S.drop 1)+1=n:=hn1
  rw [ha] at e0 ww wr ⊢
  rw [hbb] at e1 ww wr
  clear hg hg1 hw hr hn b0 b1
  simp -implicitDefEqProofs -proj only [go_sem,seval]
  refine AK (fun b2 hb2=>?_)
  simp -implicitDefEqProofs -proj only [go_sem,seval]
  refine Ah _ (by omega) (i:=0) e0 ?_
  simp -implicitDefEqProofs -proj only [go_sem,seval]
  refine Ah _ (by omega) (i:=0) e0 ?_
  simp -implicitDefEqProofs -proj only [go_sem,seval]
  refine AK (fun b4 hb4=>?_)
  replace hb4:upd Heap.none b2 _ b4=none:=hb4
  obtain ⟨n1,n2⟩:=AI hb4 upd_eq
  simp -implicitDefEqProofs -proj only [go_sem,seval,n1,n2,rowR_len,decide_eq_false (show ¬(S.length:Int)=1 by omega)]
  refine Ah _ (by omega) (i:=1) e1 ?_
  simp -implicitDefEqProofs -proj only [go_sem,seval]
  refine Ah _ (by omega) (i:=0) e0 ?_
  simp -implicitDefEqProofs -proj only [go_sem,seval]
  refine Ah _ (by omega) (i:=1) e1 ?_
  simp -implicitDefEqProofs -proj only [go_sem,seval]
  refine Ah _ (by omega) (i:=0) e0 ?_
  simp -implicitDefEqProofs -proj only [go_sem,seval,n1,n2,ww,wr]
  refine D9 (fun c:Nat=>1≤c∧∃h:c≤S.length,c+FT w r (S[c-1]'(by omega)) (S.drop c)=n) 81 (fun _=>[(0,Fw S),(2,.ptr b2 0),(4,.ptr b4 0)]) (fun c=>[(b4,.box 65 [i64 a.f,i64 a.v,i64 w,i64 r,i64 c]),(b2,.box 65 [i64 0,i64 0,i64 0,i64 0,i64 0])]) (fun c=>S.length-c) 1 ⟨Nat.le_refl _,by omega,by omega⟩ rfl ?_ ?_ ?_
  ·simp -implicitDefEqProofs -proj only [go_sem,seval,AM]
  ·simp -implicitDefEqProofs -proj only [go_sem,seval,AS,n1,n2]
  ·rintro c ⟨hc1,hc2,hcn⟩
   have hk:AS (Ab [(b4,.box 65 [i64 a.f,i64 a.v,i64 w,i64 r,i64 c]),(b2,.box 65 [i64 0,i64 0,i64 0,i64 0,i64 0])]) [(b4,.box 65 [i64 a.f,i64 a.v,i64 w,i64 r,i64 c]),(b2,.box 65 [i64 0,i64 0,i64 0,i64 0,i64 0])]:=EQ (by simp [AT,n1])
   obtain ⟨H,hH⟩:∃H,Ab [(b4,.box 65 [i64 a.f,i64 a.v,i64 w,i64 r,i64 c]),(b2,.box 65 [i64 0,i64 0,i64 0,i64 0,i64 0])]=H:=⟨_,rfl⟩
   rw [hH] at hk
   obtain ⟨k4,k2,_⟩:=id hk
   rw [hH]
   by_cases hc:c<S.length
   ·have ep:=JA (l:=S) (i:=c-1) (by omega)
    have es:=JA hc
    have hstep:=AHJ (w:=w) (r:=r) (S:=S) (by omega) hc
    have bp:=hb _ (List.getElem_mem (show c-1<S.length by omega))
    have bs:=hb _ (List.getElem_mem hc)
    have wc:IntKind.i64.wrap ((c:Int)-1)=((c-1:Nat):Int):=by rw [IntKind.wrap_i64]; omega
    have hnext:∀(m:Nat),m=c+1→(S[m-1]? = some S[c]):=fun m hm=>by subst hm; simp [hc]
    rw [hstep] at hcn
    have hS:∀(h:c+1≤S.length),S[c+1-1]'(by omega)=S[c]:=fun _=>rfl
    have hin:∀x,FT w r S[c] (S.drop (c+1))=x→c+1+x=n→(1≤c+1∧∃h:c+1≤S.length,c+1+FT w r (S[c+1-1]'(by omega)) (S.drop (c+1))=n):=fun x hx hxn=>⟨by omega,by omega,by show c+1+FT w r S[c] (S.drop (c+1))=n; rw [hx]; exact hxn⟩
    generalize FT w r S[c] (S.drop (c+1))=x at *
    unfold Ix at bp bs
    have w1:IntKind.i64.wrap (S[c].f-S[c-1].f)=S[c].f-S[c-1].f:=by rw [IntKind.wrap_i64]; omega
    have w2:IntKind.i64.wrap (S[c].v-S[c-1].v)=S[c].v-S[c-1].v:=by rw [IntKind.wrap_i64]; omega
    clear bp bs hnext hS hstep
    generalize S[c]=s at *
    generalize S[c-1]=p at *
    simp -implicitDefEqProofs -proj only [go_sem,seval,k4,k2,rowR_len,decide_eq_true (show (c:Int)<S.length by omega),wc]
    refine Ah _ (by omega) ep ?_
    simp -implicitDefEqProofs -proj only [go_sem,seval,k4,k2]
    refine Ah _ (by omega) es ?_
    simp -implicitDefEqProofs -proj only [go_sem,seval]
    refine AK (fun b5 hb5=>?_)
    replace hb5:H b5=none:=hb5
    obtain ⟨m1,m2⟩:=AI hb5 k4
    obtain ⟨m3,m4⟩:=AI hb5 k2
    simp -implicitDefEqProofs -proj only [go_sem,seval]
    refine AK (fun b6 hb6=>?_)
    replace hb6:upd H b5 _ b6=none:=hb6
    obtain ⟨m5,m6⟩:=AI hb6 upd_eq
    have hb6':H b6=none:=by rw [AE m6] at hb6; exact hb6
    obtain ⟨m7,m8⟩:=AI hb6' k4
    obtain ⟨m9,m10⟩:=AI hb6' k2
    by_cases c1:s.f-p.f=w
    ·by_cases c2:s.v-p.v=r
     ·rw [if_pos ⟨c1,c2⟩] at hcn
      simp -implicitDefEqProofs -proj only [go_sem,seval,k4,k2,m1,m3,m5,m6,m7,m9,w1,w2,decide_eq_true c1,decide_eq_true c2]
      refine Ad (c+1) (hin _ rfl (by omega)) (by omega) rfl ?_ ?_
      ·simp -implicitDefEqProofs -proj only [go_sem,seval,AM]
      ·simp -implicitDefEqProofs -proj only [go_sem,seval,AS,AP (show c<9223372036854775807 by omega),k2,n1,n2,m3,m9]
     ·rw [if_neg (fun h=>c2 h.2)] at hcn
      simp -implicitDefEqProofs -proj only [go_sem,seval,k4,k2,m1,m3,m5,m6,m7,m9,w1,w2,decide_eq_true c1,decide_eq_false c2]
      obtain rfl:c=n:=by omega
      simp -implicitDefEqProofs -proj only [go_sem,seval,if_neg (show ¬(0:Nat)=1 by decide),k4,k2,m1,m3,m5,m6,m7,m9,n1,n2,upd_eq,not_false_eq_true]
      exact AH rfl
    ·rw [if_neg (fun h=>c1 h.1)] at hcn
     simp -implicitDefEqProofs -proj only [go_sem,seval,k4,k2,m1,m3,m5,m6,m7,m9,w1,w2,decide_eq_false c1]
     obtain rfl:c=n:=by omega
     simp -implicitDefEqProofs -proj only [go_sem,seval,if_neg (show ¬(0:Nat)=1 by decide),k4,k2,m1,m3,m5,m6,m7,m9,n1,n2,upd_eq,not_false_eq_true]
     exact AH rfl
   ·have:S.drop c=[]:=List.drop_eq_nil_of_le (by omega)
    rw [this] at hcn
    rw [show FT w r (S[c-1]'(by omega)) []=0 from rfl] at hcn
    simp -implicitDefEqProofs -proj only [go_sem,seval,k4,k2,rowR_len,decide_eq_false (show ¬(c:Int)<S.length by omega),n1,n2,not_false_eq_true]
    obtain rfl:c=n:=by omega
    exact AH rfl
def FW (l:List Grp):List (List D):=l.map Grp.el
theorem Ia {l:List Grp}:(FW l).length=l.length:=List.length_map ..
theorem Km {l:List Grp} {i:Nat} (h:i<l.length):(FW l)[((i:Int)).toNat]? = some [.int .i64 l[i].f,.int .i64 l[i].v,.int .i64 l[i].w,.int .i64 l[i].r,.int .i64 l[i].c]:=by
 rw [Int.toNat_natCast]; simp [FW,h,Grp.el]
theorem AJs {l:List Grp}:∀el∈FW l,∀d∈el,Gr d=true:=by
 intro el he d hd
 obtain ⟨r,_,rfl⟩:=List.mem_map.1 he
 simp -implicitDefEqProofs only [Grp.el,List.mem_cons,List.not_mem_nil,or_false] at hd
 rcases hd with rfl | rfl | rfl | rfl | rfl <;> rfl
theorem UC {l:List Grp} {g:Grp}:FW l++[g.el]=FW (l++[g]):=by simp [FW]
abbrev Fp (l:List Grp):AV:=.d (.sl 5 (FW l))
abbrev Ez (m:Int) (G:List Grp):AV:=.agg [i64 m,Fp G]
theorem AD1 {l:List Run} {n:Nat}:(ER l).drop n=ER (l.drop n):=List.map_drop.symm
def IN (R:List Run):Prop:=∃h:R≠[],(R.head h).f=0∧(R.getLast h).t≤2000∧∀r∈R,¬HT r
noncomputable instance (R:List Run):Decidable (IN R):=Classical.propDecidable _
def PW:List Run→Int
 | []=>0
 | r::R=>((r::R).getLast (by simp)).t
noncomputable def JL (R:List Run):AV:=if IN R then .tup [Ez (PW R) (GO R),bv true] else .tup [Ez 0 [],bv false]
theorem AKH {S:List Run} (h:0<S.length):GO S=(EJ S[0] (S.drop 1)).1::GO (S.drop (EJ S[0] (S.drop 1)).2):=by
 match S,h with
 | a::l,_=>exact LE
theorem LV {H:Heap} {m:Int} {G:List Grp} {v:AV} (h:NewV H v (Fp G)):NewV H (.agg [i64 m,v]) (Ez m G):=by
 refine .agg _ _ rfl fun j x y h1 h2=>?_
 match j with
 | 0=>cases h1; cases h2; exact .scal _ rfl
 | 1=>cases h1; cases h2; exact h
 | j+2=>cases h1
theorem Lt {H:Heap} {x y:AV} {b:Bool} (h:NewV H x y):NewV H (.tup [x,bv b]) (.tup [y,bv b]):=by
 refine .tup _ _ rfl fun j u v h1 h2=>?_
 match j with
 | 0=>cases h1; cases h2; exact h
 | 1=>cases h1; cases h2; exact .scal _ rfl
 | j+2=>cases h1
structure OfX where
 S:List Run
 c:Nat
 cap:Nat
 G:List Grp
theorem Hz {S:List Run} {c cap:Nat} {G:List Grp}:(OfX.mk S c cap G).S=S:=(rfl)
theorem KP {S:List Run} {c cap:Nat} {G:List Grp}:(OfX.mk S c cap G).c=c:=(rfl)
theorem Kv {S:List Run} {c cap:Nat} {G:List Grp}:(OfX.mk S c cap G).cap=cap:=(rfl)
theorem Ie {S:List Run} {c cap:Nat} {G:List Grp}:(OfX.mk S c cap G).G=G:=(rfl)
def Je (b8 b2:Nat) (m:Int) (y:OfX):List (Nat×Blk):=Ai 65 5 y.c y.cap (FW y.G)++[(b8,.box 51 [i64 m,A0 5 5 y.c y.cap (FW y.G)]),(b2,.box 51 [i64 0,.nilsl 5])]
set_option maxRecDepth 20000 in
theorem AFq {R:List Run} (hlR:R.length≤1000000) (hok:IN R→(∀r∈R,Ix r)∧R.length≤3000):NewW Tryz.prog QH [Gn R] (JL R):=by
 have hspan:=U0 hlR
 refine AX AFW (by simp) ?_
 simp -implicitDefEqProofs -proj only [go_sem,seval]
 refine AK (fun b1 hb1=>?_)
 simp -implicitDefEqProofs -proj only [go_sem,seval]
 refine AK (fun b2 hb2=>?_)
 replace hb2:upd Heap.none b1 _ b2=none:=hb2
 obtain ⟨n1,n2⟩:=AI hb2 upd_eq
 simp -implicitDefEqProofs -proj only [go_sem,seval,n1,n2]
 refine AJ hspan ?_
 cases hRe:R with
 | nil =>
  have:¬IN []:=fun ⟨h,_⟩=>h rfl
  rw [JL,if_neg this]
  simp -implicitDefEqProofs -proj only [go_sem,seval,Mi,n1,n2]
  exact Lt (LV (.nilsl _ _))
 | cons a l =>
  rw [←hRe]
  have hne:R≠[]:=by rw [hRe]; simp
  have hsv:Mi R = .tup [i64 (R.head hne).f,i64 (R.getLast hne).t,bv true]:=by subst hRe; rfl
  have hlt:PW R=(R.getLast hne).t:=by subst hRe; rfl
  rw [hsv]
  by_cases h0:(R.head hne).f=0
  rotate_left
  ·have:¬IN R:=fun ⟨_,h,_⟩=>h0 h
   rw [JL,if_neg this]
   simp -implicitDefEqProofs -proj only [go_sem,seval,n1,n2,decide_eq_false h0]
   exact Lt (LV (.nilsl _ _))
  by_cases h1:2000<(R.getLast hne).t
  ·have:¬IN R:=fun ⟨_,_,h,_⟩=>by omega
   rw [JL,if_neg this]
   simp -implicitDefEqProofs -proj only [go_sem,seval,n1,n2,decide_eq_true h0,decide_eq_true h1]
   exact Lt (LV (.nilsl _ _))
  simp -implicitDefEqProofs -proj only [go_sem,seval,n1,n2,decide_eq_true h0,decide_eq_false h1]
  refine En AF5 ?_
  rintro r H6 ⟨bv',rfl,hbv,hv,hkeep⟩
  have k2:H6 b2=some (.box 51 [i64 0,.nilsl 5]):=hkeep _ _ upd_eq
  have hnb:¬bv'=b2:=fun e=>by subst e; rw [k2] at hv; cases hv
  simp -implicitDefEqProofs -proj only [go_sem,seval]
  refine En (Z5 (APx (b:=bv') hlR) [(bv',.box 102 [Fw R]),(b2,.box 51 [i64 0,.nilsl 5])] (by simp) ⟨hv,k2,trivial⟩ (by simp [AT,hnb]) hlR) ?_
  rintro r H7 ⟨rfl,hr⟩
  obtain ⟨_,k2',_⟩:=hr
  simp -implicitDefEqProofs -proj only [go_sem,seval]
  refine AJ (AG6 (fun r=>AIv r) hlR) ?_
  by_cases hany:(R.any fun r=>decide (HT r))=true
  ·have:¬IN R:=fun ⟨_,_,_,h⟩=>by
    obtain ⟨r,hr,hb⟩:=List.any_eq_true.1 hany
    exact h r hr (by simpa using hb)
   rw [JL,if_neg this,hany]
   simp -implicitDefEqProofs -proj only [go_sem,seval,k2']
   exact Lt (LV (.nilsl _ _))
  ·have hokR:IN R:=⟨hne,h0,by omega,fun r hr hb=>hany (List.any_eq_true.2 ⟨r,hr,by simpa using hb⟩)⟩
   obtain ⟨hro,hl3⟩:=hok hokR
   rw [JL,if_pos hokR,hlt,show (R.any fun r=>decide (HT r))=false by simpa using hany]
   generalize (R.getLast hne).t=m at *
   simp -implicitDefEqProofs -proj only [go_sem,seval,k2']
   refine AK (fun b8 hb8=>?_)
   replace hb8:H7 b8=none:=hb8
   obtain ⟨m1,m2⟩:=AI hb8 k2'
   simp -implicitDefEqProofs -proj only [go_sem,seval,m1,m2,k2']
   refine D9 (fun y:OfX=>GO R=y.G++GO y.S∧(∀r∈y.S,Ix r)∧y.S.length≤3000∧y.G.length+y.S.length≤3000∧(AT (Je b8 b2 m y)).Nodup) 54 (fun y=>[(2,.ptr b2 0),(8,.ptr b8 0),(7,Fw y.S)]) (Je b8 b2 m) (fun y=>y.S.length) ⟨R,0,0,[]⟩ ⟨rfl,hro,hl3,by simpa using hl3,by simp [AT,Je,Ie,FW,Kg,m1]⟩ rfl ?_ ?_ ?_
   ·simp -implicitDefEqProofs -proj only [go_sem,seval,AM,Hz]
   ·simp -implicitDefEqProofs -proj only [go_sem,seval,AS,Je,Ie,KP,Kv,FW,List.map_nil,Kg,K9,m1,k2']
   ·rintro ⟨S,c,cap,G⟩ ⟨hG,hSo,hSl,hGl,hn⟩
    simp -implicitDefEqProofs only [Hz,Ie] at hG hSo hSl hGl
    have hall:=EQ hn
    obtain ⟨H,hH⟩:∃H,Ab (Je b8 b2 m ⟨S,c,cap,G⟩)=H:=⟨_,rfl⟩
    rw [hH] at hall
    simp -implicitDefEqProofs only [Je,Hz,KP,Kv,Ie] at hall hn
    obtain ⟨hrow,h8,h2,_⟩:=EF.1 hall
    by_cases hS:0<S.length
    ·have hgrp:=AQG hS hSo hSl
     have hstep:=AKH hS
     obtain ⟨q1,q2,q3⟩:=@Jg S[0] (S.drop 1)
     rw [List.length_drop] at q2
     generalize (EJ S[0] (S.drop 1)).2=n at *
     generalize (EJ S[0] (S.drop 1)).1=g at *
     simp -implicitDefEqProofs -proj only [go_sem,seval,Hz,KP,Kv,Ie,hH,rowR_len,decide_eq_true (show 0<(S.length:Int) by omega)]
     refine AJ hgrp ?_
     simp -implicitDefEqProofs -proj only [go_sem,seval]
     refine AK (fun b9 hb9=>?_)
     replace hb9:H b9=none:=hb9
     obtain ⟨p1,p2⟩:=AI hb9 h8
     obtain ⟨p3,p4⟩:=AI hb9 h2
     simp -implicitDefEqProofs -proj only [go_sem,seval,p1,p3,h8,h2]
     refine As (fun bs hs'=>?_)
     replace hs':upd H b9 _ bs=none:=hs'
     simp -implicitDefEqProofs -proj only [go_sem,seval]
     refine Ff (xs:=FW G) (y:=g.el) (t:=65) (capc:=1) [(b8,.box 51 [i64 m,A0 5 5 c cap (FW G)]),(b2,.box 51 [i64 0,.nilsl 5])] rfl (An hs' (An hb9 hall)) hn (by simp -implicitDefEqProofs -proj only [go_sem,seval]; rfl) (by rw [Ia]; omega) (by rw [Ia]; omega) (fun H' c' cap' ha hk=>?_)
     obtain ⟨hrow',hbox⟩:=EF.1 ha
     simp -implicitDefEqProofs -proj only [go_sem,seval,hbox.1,BL,rowR_len,Ax,Gp,Option.getD_none,Option.getD_some,Int.toNat_natCast]
     refine Ae (by omega) (fun _=>?_)
     rw [UC] at hrow' hk ha
     rw [show (ER S).take S.length=ER S from List.take_of_length_le (by rw [rowR_len]; omega),AD1]
     refine Ad ⟨S.drop n,c',cap',G++[g]⟩ ⟨by simp -implicitDefEqProofs only [Hz,Ie]; rw [hG,hstep]; simp,fun r hr=>hSo r (List.mem_of_mem_drop hr),by simp -implicitDefEqProofs only [Hz,List.length_drop]; omega,by simp -implicitDefEqProofs only [Hz,Ie,List.length_drop,List.length_append,List.length_singleton]; omega,?_⟩ (by show (S.drop n).length<S.length; rw [List.length_drop]; omega) rfl ?_ ?_
     ·simpa only [AT,Je,Hz,KP,Kv,Ie,List.map_append,List.map_cons,List.map_nil] using hk
     ·simp -implicitDefEqProofs -proj only [go_sem,seval,AM,Hz]
     ·have hne2:FW (G++[g])≠[]:=by simp [FW]
      refine EF.2 ⟨?_,?_⟩
      ·refine J7 hrow' ?_
       simp -implicitDefEqProofs only [AT,List.map_append,List.nodup_append,List.map_cons,List.map_nil,List.mem_cons] at hk
       exact fun hm=>hk.2.2 _ hm _ (.inl rfl) rfl
      ·have:=N6 (x':=.box 51 [i64 m,.own c' 5 0 ((FW G).length+1) cap']) hbox (by simp -implicitDefEqProofs only [AT,List.map_append,List.nodup_append] at hk ⊢; exact hk.2.1)
       simp -implicitDefEqProofs only [Hz,KP,Kv,Ie,Ex hne2,show (FW (G++[g])).length=(FW G).length+1 by simp [FW]]
       exact this
    ·have hS0:S=[]:=List.length_eq_zero_iff.1 (by omega)
     subst hS0
     rw [Tv,List.append_nil] at hG
     obtain ⟨x1,x2⟩:¬b8=b2∧¬b2=b8:=⟨m1,m2⟩
     simp -implicitDefEqProofs -proj only [go_sem,seval,Hz,KP,Kv,Ie,hH,rowR_len,decide_eq_false (show ¬0<((([]:List Run).length:Nat):Int) by simp),h8,h2,m1,m2]
     rw [hG]
     refine Lt (LV (LZ (J7 hrow ?_) AJs))
     simp -implicitDefEqProofs only [AT,List.map_append,List.nodup_append,List.map_cons,List.map_nil,List.mem_cons] at hn
     exact fun hm=>hn.2.2 _ hm _ (.inr (.inl rfl)) rfl
structure GrpOK (g:Grp):Prop where
 f:0≤g.f∧g.f≤3000
 w:0≤g.w∧g.w≤3000
 c:1≤g.c∧g.c≤3001
 v : -2305843009213693952≤g.v∧g.v≤2305843009213693952
 r:∀j:Int,0≤j→j≤g.c-1→-4611686018427387904≤j*g.r∧j*g.r≤4611686018427387904
theorem AKx {val:Int→Int} {lo hi:Int} {a:Run} {l:List Run} (h:FwdOK val lo hi (a::l)) (hb:∀r∈a::l,Ix r) (hl:l.length≤3000):GrpOK (EJ a l).1:=by
 obtain ⟨h1,h2,h3⟩:=@Jg a l
 have ha:=hb a (List.mem_cons_self ..)
 refine ⟨?_,?_,by omega,?_,?_⟩
 ·have:(EJ a l).1.f=a.f:=by cases l <;> rfl
  rw [this]; exact ha.1
 ·rcases RN h with ⟨w0,w1,w2,w3⟩ | ⟨w0,w1,w2,w3⟩
  ·omega
  ·refine ⟨by omega,?_⟩
   cases l with
   | nil=>exact absurd rfl w0
   | cons b l =>
    have hbb:=(hb b (by simp)).1
    show b.f-a.f≤3000
    have:=ha.1
    omega
 ·have:(EJ a l).1.v=a.v:=by cases l <;> rfl
  rw [this]; exact ha.2
 ·intro j hj0 hj
  obtain ⟨n,rfl⟩:=Int.eq_ofNat_of_zero_le hj0
  obtain ⟨g1,g2,g3⟩:=Np (a:=a) (l:=l) n (by omega)
  have hbn:=(hb _ (List.getElem_mem g1)).2
  have:(EJ a l).1.v=a.v:=by cases l <;> rfl
  rw [g3,this] at hbn
  have:=ha.2
  omega
theorem SF {val:Int→Int} {hi:Int}:∀(n:Nat) {R:List Run} {lo:Int},R.length≤n→FwdOK val lo hi R→(∀r∈R,Ix r)→R.length≤3000→∀g∈GO R,GrpOK g
 | _,[],lo,_,h,hb,hl,g,hg=>by cases hg
 | 0,a::l,lo,hn,h,hb,hl,g,hg=>absurd hn (by simp)
 | n+1,a::l,lo,hn,h,hb,hl,g,hg=>by
  obtain ⟨h1,h2,hc⟩:=@Jg a l
  simp -implicitDefEqProofs only [List.length_cons] at hn hl
  obtain ⟨m,k1,k2,k3⟩:=FwdOK.drop (EJ a l).2 h (by simp -implicitDefEqProofs only [List.length_cons]; omega)
  have hl':((a::l).drop (EJ a l).2).length≤l.length:=by rw [List.length_drop]; simp -implicitDefEqProofs only [List.length_cons]; omega
  rw [LE] at hg
  rcases List.mem_cons.1 hg with rfl | hg
  ·exact AKx h hb (by omega)
  ·exact SF n (by omega) k1 (fun r hr=>hb r (List.mem_of_mem_drop hr)) (by omega) g hg
theorem Tc {q:Int}:∀{L M:List Grp},GD (L++M) q=match GD M q with
  | some v=>some v
  | none=>GD L q
 | [],M=>by simp -implicitDefEqProofs only [List.nil_append,GD]; cases GD M q <;> rfl
 | g::L,M=>by
  rw [List.cons_append,GD,Tc]
  cases GD M q <;> rfl
theorem AVs {q:Int} {L:List Grp} {g:Grp}:GD (L++[g]) q=if g.f≤q then some (Mv g q) else GD L q:=by
 rw [Tc]
 simp -implicitDefEqProofs only [GD]
 by_cases h:g.f≤q
 ·rw [if_pos h,if_pos h]
 ·rw [if_neg h,if_neg h]
theorem VT {g:Grp} {q:Int} (h:GrpOK g) (hw:¬g.w<1) (hq:g.f≤q):0≤(q-g.f).tdiv g.w∧(q-g.f).tdiv g.w≤q-g.f:=by
 have:=h.w
 rw [Int.tdiv_eq_ediv_of_nonneg (by omega)]
 exact ⟨Int.ediv_nonneg (by omega) (by omega),Int.ediv_le_self _ (by omega)⟩
set_option maxRecDepth 20000 in
theorem AT8 {m q:Int} {G:List Grp} (hG:∀g∈G,GrpOK g) (hl:G.length≤3001) (hq:Fit q) (hm:m≤3000):DataW Tryz.prog QK [Ez m G,i64 q] (D7 (if q<0∨m<q then none else GD G q)):=by
 refine AX AKF (by simp) ?_
 simp -implicitDefEqProofs -proj only [go_sem,seval]
 refine AK (fun b2 hb2=>?_)
 by_cases h1:q<0
 ·rw [if_pos (.inl h1)]
  simp -implicitDefEqProofs -proj only [go_sem,seval,decide_eq_true h1]
  exact AH rfl
 by_cases h2:m<q
 ·rw [if_pos (.inr h2)]
  simp -implicitDefEqProofs -proj only [go_sem,seval,decide_eq_false h1,decide_eq_true h2]
  exact AH rfl
 rw [if_neg (by omega)]
 have hwl:IntKind.i64.wrap ((G.length:Int)-1)=(G.length:Int)-1:=by rw [IntKind.wrap_i64]; omega
 simp -implicitDefEqProofs -proj only [go_sem,seval,decide_eq_false h1,decide_eq_false h2,Ia,hwl]
 refine D9 (fun n:Nat=>n≤G.length∧GD G q=GD (G.take n) q) 63 (fun n=>[(1,i64 q),(2,.ptr b2 0),(6,i64 ((n:Int)-1))]) (fun _=>[(b2,.box 51 [i64 m,Fp G])]) (fun n=>n) G.length ⟨Nat.le_refl _,by rw [List.take_length]⟩ rfl ?_ ?_ ?_
 ·simp -implicitDefEqProofs -proj only [go_sem,seval,AM]
 ·simp -implicitDefEqProofs -proj only [go_sem,seval,AS]
 ·rintro n ⟨hn,hat⟩
  have hk:AS (Ab [(b2,.box 51 [i64 m,Fp G])]) [(b2,.box 51 [i64 m,Fp G])]:=EQ (by simp [AT])
  have k2:=hk.1
  by_cases h0:n=0
  ·subst h0
   rw [List.take_zero] at hat
   rw [hat]
   simp -implicitDefEqProofs -proj only [go_sem,seval,k2,decide_eq_false (show ¬(0:Int)≤0-1 by omega),decide_eq_true (show (0:Int)-1<0 by omega)]
   exact AH rfl
  ·obtain ⟨j,rfl⟩:∃j,n=j+1:=⟨n-1,by omega⟩
   have hj:j<G.length:=by omega
   have hel:=Km hj
   have hgok:=hG _ (List.getElem_mem hj)
   have hts:G.take (j+1)=G.take j++[G[j]]:=List.take_succ_eq_append_getElem hj
   rw [hts,AVs] at hat
   generalize G[j]=g at *
   have e1:(((j+1:Nat):Int))-1=j:=by omega
   have w1:IntKind.i64.wrap ((j:Int)-1)=(j:Int)-1:=by rw [IntKind.wrap_i64]; omega
   simp -implicitDefEqProofs -proj only [go_sem,seval,k2,e1,decide_eq_true (show (0:Int)≤j by omega)]
   refine Ah _ (by omega) hel ?_
   by_cases hf:q<g.f
   ·rw [if_neg (by omega)] at hat
    simp -implicitDefEqProofs -proj only [go_sem,seval,decide_eq_true hf,w1]
    refine Ad j ⟨by omega,hat⟩ (by omega) rfl ?_ hk
    simp -implicitDefEqProofs -proj only [go_sem,seval,AM]
   ·rw [if_pos (by omega)] at hat
    rw [hat]
    simp -implicitDefEqProofs -proj only [go_sem,seval,k2,decide_eq_false hf,decide_eq_false (show ¬(j:Int)<0 by omega)]
    refine Ah _ (by omega) hel ?_
    simp -implicitDefEqProofs -proj only [go_sem,seval]
    refine AK (fun b7 hb7=>?_)
    unfold Mv
    by_cases hw:g.w<1
    ·rw [if_pos hw]
     simp -implicitDefEqProofs -proj only [go_sem,seval,decide_eq_true hw]
     exact AH rfl
    ·rw [if_neg hw]
     obtain ⟨q1,q2⟩:=VT (q:=q) hgok hw (by omega)
     have gf:=hgok.f
     have gw:=hgok.w
     have gc:=hgok.c
     have gv:=hgok.v
     have gr:=hgok.r (min ((q-g.f).tdiv g.w) (g.c-1)) (by omega) (by omega)
     unfold Fit at hq
     have w2:IntKind.i64.wrap (q-g.f)=q-g.f:=by rw [IntKind.wrap_i64]; omega
     have w3:IntKind.i64.wrap (g.c-1)=g.c-1:=by rw [IntKind.wrap_i64]; omega
     have w4:IntKind.i64.wrap ((q-g.f).tdiv g.w)=(q-g.f).tdiv g.w:=by rw [IntKind.wrap_i64]; omega
     have w5:IntKind.i64.wrap (min ((q-g.f).tdiv g.w) (g.c-1)*g.r)=min ((q-g.f).tdiv g.w) (g.c-1)*g.r:=by rw [IntKind.wrap_i64]; omega
     have w6:IntKind.i64.wrap (g.v+min ((q-g.f).tdiv g.w) (g.c-1)*g.r)=g.v+min ((q-g.f).tdiv g.w) (g.c-1)*g.r:=by rw [IntKind.wrap_i64]; omega
     simp -implicitDefEqProofs -proj only [go_sem,seval,decide_eq_false hw,w2,w3,w4,w5,w6]
     refine Ae (by omega) (fun _=>?_)
     exact AH rfl
theorem Qs (p q:Grp):(decide (p.f=q.f)&&(decide (p.v=q.v)&&(decide (p.w=q.w)&&(decide (p.r=q.r)&&decide (p.c=q.c)))))=decide (p=q):=by
 obtain ⟨a,b,c,d,e⟩:=p
 obtain ⟨a',b',c',d',e'⟩:=q
 simp -implicitDefEqProofs only [Grp.mk.injEq]
 rw [←Bool.decide_and,←Bool.decide_and,←Bool.decide_and,←Bool.decide_and]
theorem AAz {a b:List Grp} (ha:a.length≤1000000) (hb:b.length≤1000000):DataW Tryz.prog ADZ [Fp a,Fp b] (bv (decide (a=b))):=by
 refine AX ASL (by simp) ?_
 by_cases hl:a.length=b.length
 ·simp -implicitDefEqProofs -proj only [go_sem,seval,Ia,decide_eq_true (show (a.length:Int)=b.length by omega)]
  refine D9 (fun i:Nat=>i≤a.length∧∀(j:Nat) (h:j<a.length) (h':j<b.length),j<i→a[j]=b[j]) 26 (fun i=>[(0,Fp a),(1,Fp b),(12,i64 a.length),(13,i64 i)]) (fun _=>[]) (fun i=>a.length-i) 0 ⟨Nat.zero_le _,fun j _ _ h=>absurd h (Nat.not_lt_zero _)⟩ rfl ?_ ?_ ?_
  ·simp -implicitDefEqProofs -proj only [go_sem,seval,AM,Ia]
  ·trivial
  ·rintro i ⟨hi,hs⟩
   by_cases h:i<a.length
   ·have h':i<b.length:=by omega
    have e1:=Km h
    have e2:=Km h'
    have hd:=Qs a[i] b[i]
    have hgo:a[i]=b[i]→∀(j:Nat) (h:j<a.length) (h':j<b.length),j<i+1→a[j]=b[j]:=by
     intro e j h1 h2 h3
     by_cases hj:j=i
     ·subst hj; exact e
     ·exact hs j h1 h2 (by omega)
    have hno:a[i]≠b[i]→a≠b:=fun hne e=>hne (by subst e; rfl)
    generalize a[i]=p at *
    generalize b[i]=q at *
    simp -implicitDefEqProofs -proj only [go_sem,seval,decide_eq_true (show (i:Int)<a.length by omega)]
    refine Ah _ (by omega) e1 ?_
    simp -implicitDefEqProofs -proj only [go_sem,seval]
    refine Ah _ (by omega) e2 ?_
    by_cases hpq:p=q
    ·rw [decide_eq_true hpq] at hd
     simp -implicitDefEqProofs -proj only [go_sem,seval,hd]
     (repeat' first
  | ((with_reducible first | refine EA (fun h=>?_) (fun h=>?_) | refine BJ (fun h=>?_) (fun h=>?_) | refine EC (fun h=>?_) (fun h=>?_)) <;> (simp -implicitDefEqProofs -proj only [go_sem,seval,h,hd]; try (revert h; intro _)))
  | ((with_reducible first | refine AK (fun _ hb=>?_) | refine As (fun _ hb=>?_)); simp -implicitDefEqProofs only [EB,ED,Aa,Heap.none_get,and_true,true_and] at hb; simp -implicitDefEqProofs -proj only [go_sem,seval,hd]; try (revert hb; intro _))
  | ((with_reducible first | refine D5 _ rfl (by simp) ?_ | refine D8 _ rfl (by simp) ?_); simp -implicitDefEqProofs -proj only [go_sem,seval,hd])
  | (with_reducible refine Ae ?_ (fun h=>?_); first | ((focus first | decide | omega); try clear h; try simp -implicitDefEqProofs -proj only [go_sem,seval,hd]) | (rotate_left; try clear h; try simp -implicitDefEqProofs -proj only [go_sem,seval,hd]; rotate_right)))
     refine Ad (i+1) ⟨by omega,hgo hpq⟩ (by omega) rfl ?_ trivial
     simp -implicitDefEqProofs -proj only [go_sem,seval,AM,AP (show i<9223372036854775807 by omega)]
    ·rw [decide_eq_false hpq] at hd
     simp -implicitDefEqProofs -proj only [go_sem,seval,hd]
     (repeat' first
  | ((with_reducible first | refine EA (fun h=>?_) (fun h=>?_) | refine BJ (fun h=>?_) (fun h=>?_) | refine EC (fun h=>?_) (fun h=>?_)) <;> (simp -implicitDefEqProofs -proj only [go_sem,seval,h,hd]; try (revert h; intro _)))
  | ((with_reducible first | refine AK (fun _ hb=>?_) | refine As (fun _ hb=>?_)); simp -implicitDefEqProofs only [EB,ED,Aa,Heap.none_get,and_true,true_and] at hb; simp -implicitDefEqProofs -proj only [go_sem,seval,hd]; try (revert hb; intro _))
  | ((with_reducible first | refine D5 _ rfl (by simp) ?_ | refine D8 _ rfl (by simp) ?_); simp -implicitDefEqProofs -proj only [go_sem,seval,hd])
  | (with_reducible refine Ae ?_ (fun h=>?_); first | ((focus first | decide | omega); try clear h; try simp -implicitDefEqProofs -proj only [go_sem,seval,hd]) | (rotate_left; try clear h; try simp -implicitDefEqProofs -proj only [go_sem,seval,hd]; rotate_right)))
     exact AH (by rw [decide_eq_false (hno hpq)])
   ·have hi':i=a.length:=by omega
    subst hi'
    have heq:a=b:=List.ext_getElem hl fun j h1 h2=>hs j h1 h2 h1
    simp -implicitDefEqProofs -proj only [go_sem,seval,decide_eq_false (show ¬(a.length:Int)<a.length by omega)]
    exact AH (by rw [decide_eq_true heq])
 ·simp -implicitDefEqProofs -proj only [go_sem,seval,Ia,decide_eq_false (show ¬(a.length:Int)=b.length by omega)]
  exact AH (by rw [decide_eq_false (fun e=>hl (by rw [e]))])
theorem SE {m n:Int} {a b:List Grp} (ha:a.length≤1000000) (hb:b.length≤1000000):DataW Tryz.prog PS [Ez m a,Ez n b] (bv (decide (m=n∧a=b))):=by
 refine AX ALR (by simp) ?_
 simp -implicitDefEqProofs -proj only [go_sem,seval]
 refine AK (fun b2 hb2=>?_)
 simp -implicitDefEqProofs -proj only [go_sem,seval]
 refine AK (fun b3 hb3=>?_)
 replace hb3:upd Heap.none b2 _ b3=none:=hb3
 obtain ⟨n1,n2⟩:=AI hb3 upd_eq
 by_cases h:m=n
 ·simp -implicitDefEqProofs -proj only [go_sem,seval,n1,n2,decide_eq_true h]
  refine AJ (AAz ha hb) ?_
  simp -implicitDefEqProofs -proj only [go_sem,seval]
  exact AH (congrArg bv (decide_eq_decide.2 ⟨fun e=>⟨h,e⟩,fun e=>e.2⟩))
 ·simp -implicitDefEqProofs -proj only [go_sem,seval,n1,n2,decide_eq_false h]
  exact AH (by rw [decide_eq_false (fun e=>h e.1)])
theorem UE {m n:Int} {a b:List Grp} (ha:a.length≤1000000) (hb:b.length≤1000000):DataW Tryz.prog ATP [Ez m a,Ez n b] (bv (decide (m=n∧a=b))):=by
 refine AX AU1 (by simp) ?_
 simp -implicitDefEqProofs -proj only [go_sem,seval]
 refine AK (fun b2 hb2=>?_)
 simp -implicitDefEqProofs -proj only [go_sem,seval]
 refine AK (fun b3 hb3=>?_)
 replace hb3:upd Heap.none b2 _ b3=none:=hb3
 obtain ⟨n1,n2⟩:=AI hb3 upd_eq
 by_cases hm:m=n
 rotate_left
 ·simp -implicitDefEqProofs -proj only [go_sem,seval,n1,n2,decide_eq_false hm]
  exact AH (by rw [decide_eq_false (fun e=>hm e.1)])
 by_cases hl:a.length=b.length
 rotate_left
 ·simp -implicitDefEqProofs -proj only [go_sem,seval,n1,n2,decide_eq_true hm,Ia,decide_eq_false (show ¬(a.length:Int)=b.length by omega)]
  exact AH (by rw [decide_eq_false (fun e=>hl (by rw [e.2]))])
 simp -implicitDefEqProofs -proj only [go_sem,seval,n1,n2,decide_eq_true hm,Ia,decide_eq_true (show (a.length:Int)=b.length by omega)]
 refine D9 (fun i:Nat=>i≤a.length∧∀(j:Nat) (h:j<a.length) (h':j<b.length),j<i→a[j]=b[j]) 38 (fun i=>[(2,.ptr b2 0),(3,.ptr b3 0),(22,i64 a.length),(23,i64 i)]) (fun _=>[(b3,.box 51 [i64 n,Fp b]),(b2,.box 51 [i64 m,Fp a])]) (fun i=>a.length-i) 0 ⟨Nat.zero_le _,fun j _ _ h=>absurd h (Nat.not_lt_zero _)⟩ rfl ?_ ?_ ?_
 ·simp -implicitDefEqProofs -proj only [go_sem,seval,AM,Ia]
 ·simp -implicitDefEqProofs -proj only [go_sem,seval,AS,n1,n2]
 ·rintro i ⟨hi,hs⟩
  have hk:AS (Ab [(b3,.box 51 [i64 n,Fp b]),(b2,.box 51 [i64 m,Fp a])]) [(b3,.box 51 [i64 n,Fp b]),(b2,.box 51 [i64 m,Fp a])]:=EQ (by simp [AT,n1])
  obtain ⟨k3,k2,_⟩:=id hk
  by_cases h:i<a.length
  ·have h':i<b.length:=by omega
   have e1:=Km h
   have e2:=Km h'
   have hd:=Qs a[i] b[i]
   have hgo:a[i]=b[i]→∀(j:Nat) (h:j<a.length) (h':j<b.length),j<i+1→a[j]=b[j]:=by
    intro e j h1 h2 h3
    by_cases hj:j=i
    ·subst hj; exact e
    ·exact hs j h1 h2 (by omega)
   have hno:a[i]≠b[i]→a≠b:=fun hne e=>hne (by subst e; rfl)
   generalize a[i]=p at *
   generalize b[i]=q at *
   simp -implicitDefEqProofs -proj only [go_sem,seval,k3,k2,n2,decide_eq_true (show (i:Int)<a.length by omega)]
   refine Ah _ (by omega) e1 ?_
   simp -implicitDefEqProofs -proj only [go_sem,seval,k3,k2,n1,n2]
   refine Ah _ (by omega) e2 ?_
   by_cases hpq:p=q
   ·rw [decide_eq_true hpq] at hd
    simp -implicitDefEqProofs -proj only [go_sem,seval,hd]
    (repeat' first
  | ((with_reducible first | refine EA (fun h=>?_) (fun h=>?_) | refine BJ (fun h=>?_) (fun h=>?_) | refine EC (fun h=>?_) (fun h=>?_)) <;> (simp -implicitDefEqProofs -proj only [go_sem,seval,h,hd]; try (revert h; intro _)))
  | ((with_reducible first | refine AK (fun _ hb=>?_) | refine As (fun _ hb=>?_)); simp -implicitDefEqProofs only [EB,ED,Aa,Heap.none_get,and_true,true_and] at hb; simp -implicitDefEqProofs -proj only [go_sem,seval,hd]; try (revert hb; intro _))
  | ((with_reducible first | refine D5 _ rfl (by simp) ?_ | refine D8 _ rfl (by simp) ?_); simp -implicitDefEqProofs -proj only [go_sem,seval,hd])
  | (with_reducible refine Ae ?_ (fun h=>?_); first | ((focus first | decide | omega); try clear h; try simp -implicitDefEqProofs -proj only [go_sem,seval,hd]) | (rotate_left; try clear h; try simp -implicitDefEqProofs -proj only [go_sem,seval,hd]; rotate_right)))
    refine Ad (i+1) ⟨by omega,hgo hpq⟩ (by omega) rfl ?_ hk
    simp -implicitDefEqProofs -proj only [go_sem,seval,AM,AP (show i<9223372036854775807 by omega)]
   ·rw [decide_eq_false hpq] at hd
    simp -implicitDefEqProofs -proj only [go_sem,seval,hd]
    (repeat' first
  | ((with_reducible first | refine EA (fun h=>?_) (fun h=>?_) | refine BJ (fun h=>?_) (fun h=>?_) | refine EC (fun h=>?_) (fun h=>?_)) <;> (simp -implicitDefEqProofs -proj only [go_sem,seval,h,hd]; try (revert h; intro _)))
  | ((with_reducible first | refine AK (fun _ hb=>?_) | refine As (fun _ hb=>?_)); simp -implicitDefEqProofs only [EB,ED,Aa,Heap.none_get,and_true,true_and] at hb; simp -implicitDefEqProofs -proj only [go_sem,seval,hd]; try (revert hb; intro _))
  | ((with_reducible first | refine D5 _ rfl (by simp) ?_ | refine D8 _ rfl (by simp) ?_); simp -implicitDefEqProofs -proj only [go_sem,seval,hd])
  | (with_reducible refine Ae ?_ (fun h=>?_); first | ((focus first | decide | omega); try clear h; try simp -implicitDefEqProofs -proj only [go_sem,seval,hd]) | (rotate_left; try clear h; try simp -implicitDefEqProofs -proj only [go_sem,seval,hd]; rotate_right)))
    exact AH (by rw [decide_eq_false (fun e=>hno hpq e.2)])
  ·have hi':i=a.length:=by omega
   subst hi'
   have heq:a=b:=List.ext_getElem hl fun j h1 h2=>hs j h1 h2 h1
   simp -implicitDefEqProofs -proj only [go_sem,seval,decide_eq_false (show ¬(a.length:Int)<a.length by omega)]
   exact AH (by rw [decide_eq_true ⟨hm,heq⟩])
theorem FwdOK.mem_val {val:Int→Int} {hi:Int}:∀{R:List Run} {lo:Int},FwdOK val lo hi R→∀r∈R,lo≤r.f∧r.f≤r.t∧r.t<hi∧val r.f=r.v
 | a::R,lo,⟨g1,g2,g3,g4,g5⟩,r,hr=>by
  have hle:=g5.le
  rcases List.mem_cons.1 hr with rfl | hr
  ·exact ⟨by omega,g2,by omega,g3 _ (by omega) g2⟩
  ·obtain ⟨h1,h2,h3,h4⟩:=FwdOK.mem_val g5 r hr
   exact ⟨by omega,h2,h3,h4⟩
theorem FwdOK.val_mem {val:Int→Int} {lo hi:Int} {R:List Run} (h:FwdOK val lo hi R) {x:Int} (h1:lo≤x) (h2:x<hi):∃r∈R,r.v=val x:=by
 obtain ⟨m,k1,k2,k3⟩:=FwdOK.drop R.length h (Nat.le_refl _)
 rw [List.drop_length] at k1
 have:m=hi:=k1
 obtain ⟨j,j1,j2,j3,j4,j5,j6⟩:=k3 x h1 (by omega)
 exact ⟨_,List.getElem_mem j1,j5.symm⟩
def FB (v:Int):Prop:=-2305843009213693952≤v∧v≤2305843009213693952
instance (v:Int):Decidable (FB v):=by unfold FB; exact inferInstance
theorem Lo {f:Int} {l:List Int} {i:Nat} (h:i<l.length):Iw f l (f+(i:Int))=l[i]:=by
 unfold Iw
 rw [show (f+(i:Int)-f).toNat=i by omega]
 simp [h]
theorem Ml {f:Int} {l:List Int}:BG f l=[]↔l=[]:=by
 constructor
 ·intro h
  have:=IR f l
  rw [h] at this
  have e:f=f+l.length:=this
  exact List.length_eq_zero_iff.1 (by omega)
 ·rintro rfl; rfl
theorem M9 {f:Int} {l:List Int} (h:BG f l≠[]):((BG f l).head h).f=f∧((BG f l).getLast h).t=f+l.length-1:=(IR f l).ends h
theorem ADo {f:Int} {l:List Int} (h:l≠[]):PW (BG f l)=f+l.length-1:=by
 have hne:BG f l≠[]:=fun e=>h (Ml.1 e)
 have:=(M9 hne).2
 rw [←this]
 generalize BG f l=R at *
 cases R with
 | nil=>exact absurd rfl hne
 | cons a R=>rfl
theorem Sy {f:Int} {l:List Int}:IN (BG f l)↔l≠[]∧f=0∧f+l.length-1≤2000∧∀v∈l,FB v:=by
 have hF:=IR f l
 constructor
 ·rintro ⟨h,h1,h2,h3⟩
  obtain ⟨e1,e2⟩:=M9 h
  refine ⟨fun e=>h (Ml.2 e),by omega,by omega,fun v hv=>?_⟩
  obtain ⟨i,hi,rfl⟩:=List.getElem_of_mem hv
  obtain ⟨r,hr,hrv⟩:=hF.val_mem (x:=f+i) (by omega) (by omega)
  rw [Lo hi] at hrv
  have:=h3 r hr
  unfold HT at this
  unfold FB
  omega
 ·rintro ⟨h,h1,h2,h3⟩
  have hne:BG f l≠[]:=fun e=>h (Ml.1 e)
  obtain ⟨e1,e2⟩:=M9 hne
  refine ⟨hne,by omega,by omega,fun r hr=>?_⟩
  obtain ⟨g1,g2,g3,g4⟩:=hF.mem_val r hr
  have:r.v∈l:=by
   rw [←g4]
   have hi:(r.f-f).toNat<l.length:=by omega
   have:=Lo (f:=f) hi
   rw [show f+(((r.f-f).toNat:Nat):Int)=r.f by omega] at this
   rw [this]
   exact List.getElem_mem hi
  have:=h3 _ this
  unfold FB at this
  unfold HT
  omega
theorem Kb {l:List Int} (h:IN (BG 0 l)):(∀r∈BG 0 l,Ix r)∧(BG 0 l).length≤3000:=by
 obtain ⟨h1,h2,h3,h4⟩:=Sy.1 h
 have hF:=IR 0 l
 refine ⟨fun r hr=>?_,?_⟩
 ·obtain ⟨g1,g2,g3,g4⟩:=hF.mem_val r hr
  obtain ⟨_,_,_,hb⟩:=h
  have:=hb r hr
  unfold HT at this
  exact ⟨by omega,by omega⟩
 ·have:=LN (from':=0) (l:=l) l.length
  show (Hy 0 l l.length).length≤3000
  omega
def EG (l:List Int):Prop:=l≠[]∧l.length≤2001∧∀v∈l,FB v
noncomputable instance (l:List Int):Decidable (EG l):=Classical.propDecidable _
theorem Jk {l:List Int}:IN (BG 0 l)↔EG l:=by
 rw [Sy]
 constructor
 ·rintro ⟨h1,h2,h3,h4⟩; exact ⟨h1,by omega,h4⟩
 ·rintro ⟨h1,h2,h3⟩; exact ⟨h1,rfl,by omega,h3⟩
abbrev EX (l:List Int):List Grp:=GO (BG 0 l)
theorem OB {l:List Int} {i:Nat} (h:i<l.length):GD (EX l) i=some l[i]:=by
 have:=(S3 _ (Nat.le_refl _) (IR 0 l) (i:Int)).2 (by omega) (by omega)
 rw [←Lo (f:=0) h,Int.zero_add]
 exact this
theorem ARo {l:List Int} (h:EG l):∀g∈EX l,GrpOK g:=by
 obtain ⟨h1,h2⟩:=Kb (Jk.2 h)
 exact SF _ (Nat.le_refl _) (IR 0 l) h1 h2
theorem J0 {l:List Int}:(EX l).length≤l.length:=Nat.le_trans (Tb (Nat.le_refl _)) (LN l.length)
theorem AFl {l:List Int} (h:l≠[]):∃hh:0<(EX l).length,(EX l)[0].f=0:=by
 have hne:BG 0 l≠[]:=fun e=>h (Ml.1 e)
 have he:=(M9 hne).1
 unfold EX
 generalize BG 0 l=R at *
 cases R with
 | nil=>exact absurd rfl hne
 | cons a R =>
  rw [LE]
  refine ⟨by simp,?_⟩
  simp -implicitDefEqProofs only [List.getElem_cons_zero]
  have:(EJ a R).1.f=a.f:=by cases R <;> rfl
  rw [this]
  exact he
abbrev Ev (l:List Int):AV:=Ez ((l.length:Int)-1) (EX l)
theorem ALq {l:List Int}:JL (BG 0 l)=if EG l then .tup [Ev l,bv true] else .tup [Ez 0 [],bv false]:=by
 unfold JL
 by_cases h:EG l
 ·rw [if_pos h,if_pos (Jk.2 h),ADo h.1,Int.zero_add]
 ·rw [if_neg h,if_neg (fun e=>h (Jk.1 e))]
theorem Mn {l:List Int} (hl:l.length≤999999):NewW Tryz.prog QH [Gn (BG 0 l)] (if EG l then .tup [Ev l,bv true] else .tup [Ez 0 [],bv false]):=by
 have:=AFq (R:=BG 0 l) (Nat.le_trans (LN l.length) (by omega)) Kb
 rwa [ALq] at this
theorem AMf {l:List Int} (h:EG l) {i:Nat} (hi:i<l.length):DataW Tryz.prog QK [Ev l,i64 i] (.tup [i64 l[i],bv true]):=by
 have h1:=h.2.1
 have:=AT8 (m:=(l.length:Int)-1) (q:=(i:Int)) (ARo h) (Nat.le_trans J0 (by omega)) (by unfold Fit; omega) (by omega)
 rwa [if_neg (by omega),OB hi] at this
structure BackY where
 i:Nat
 c:Nat
 cap:Nat
theorem HO {i c cap:Nat}:(BackY.mk i c cap).i=i:=(rfl)
theorem IP {i c cap:Nat}:(BackY.mk i c cap).c=c:=(rfl)
theorem IJ {i c cap:Nat}:(BackY.mk i c cap).cap=cap:=(rfl)
def MU (b1 b2:Nat) (l:List Int) (y:BackY):List (Nat×Blk):=Ai 3 1 y.c y.cap (Az (l.take y.i))++[(b2,.box 104 [.nilsl 3]),(b1,.box 51 [i64 ((l.length:Int)-1),Fp (EX l)])]
set_option maxRecDepth 20000 in
theorem Oc {l:List Int} (h:EG l):DataW Tryz.prog AL7 [Ev l] (.tup [Gn (BG 0 l),bv true]):=by
 obtain ⟨hne,h1,h2⟩:=id h
 have hn0:0<l.length:=List.length_pos_iff.2 hne
 have hgl:=J0 (l:=l)
 obtain ⟨hg0,hgf⟩:=AFl hne
 have hel0:=Km hg0
 rw [hgf] at hel0
 have hof:=Sa (from':=0) (l:=l) (by omega) (by omega)
 have hwl:IntKind.i64.wrap ((l.length:Int)-1+1)=(l.length:Int):=by rw [IntKind.wrap_i64]; omega
 refine AX ALI (by simp) ?_
 simp -implicitDefEqProofs -proj only [go_sem,seval]
 refine AK (fun b1 hb1=>?_)
 simp -implicitDefEqProofs -proj only [go_sem,seval]
 refine AK (fun b2 hb2=>?_)
 have a1:=HK (x:=.box 51 [i64 ((l.length:Int)-1),Fp (EX l)]) hb1 (l:=[]) trivial
 have k1:=IB (x:=.box 51 [i64 ((l.length:Int)-1),Fp (EX l)]) hb1 (l:=[]) trivial List.nodup_nil
 have a2:=HK (x:=.box 104 [.nilsl 3]) hb2 a1
 have k2:=IB (x:=.box 104 [.nilsl 3]) hb2 a1 k1
 replace hb2:upd Heap.none b1 _ b2=none:=hb2
 obtain ⟨n1,n2⟩:=AI hb2 upd_eq
 simp -implicitDefEqProofs -proj only [go_sem,seval,n1,n2,Ia,decide_eq_false (show ¬(l.length:Int)-1<0 by omega),decide_eq_false (show ¬2000<(l.length:Int)-1 by omega),decide_eq_false (show ¬((EX l).length:Int)=0 by omega),hwl,decide_eq_false (show ¬(l.length:Int)<(EX l).length by omega)]
 refine Ah _ (by omega) (i:=0) hel0 ?_
 simp -implicitDefEqProofs -proj only [go_sem,seval,n1,n2,hwl,decide_eq_true (rfl:(0:Int)=0)]
 refine D9 (fun y:BackY=>y.i≤l.length∧(AT (MU b1 b2 l y)).Nodup) 59 (fun y=>[(1,.ptr b1 0),(2,.ptr b2 0),(4,A0 0 1 y.c y.cap (Az (l.take y.i))),(42,i64 l.length),(43,i64 y.i)]) (MU b1 b2 l) (fun y=>l.length-y.i) ⟨0,0,0⟩ ⟨Nat.zero_le _,k2⟩ rfl ?_ ?_ ?_
 ·simp -implicitDefEqProofs -proj only [go_sem,seval,AM,HO,IP,IJ]
  rfl
 ·simp -implicitDefEqProofs -proj only [go_sem,seval]
  exact a2
 ·rintro ⟨i,c,cap⟩ ⟨hi,hn⟩
  simp -implicitDefEqProofs only [HO] at hi
  have hall:=EQ hn
  obtain ⟨H,hH⟩:∃H,Ab (MU b1 b2 l ⟨i,c,cap⟩)=H:=⟨_,rfl⟩
  rw [hH] at hall
  simp -implicitDefEqProofs only [MU,HO,IP,IJ] at hall hn
  obtain ⟨hrow,e2,e1,_⟩:=EF.1 hall
  by_cases hlt:i<l.length
  ·have hat:=AMf h hlt
   have htk:l.take (i+1)=l.take i++[l[i]]:=List.take_succ_eq_append_getElem hlt
   have hl1:(Az (l.take i)).length=i:=by rw [rowI_len,List.length_take]; omega
   have hl2:(Az (l.take (i+1))).length=i+1:=by rw [rowI_len,List.length_take]; omega
   have hne2:Az (l.take (i+1))≠[]:=by intro e; rw [e] at hl2; simp at hl2
   generalize l[i]=v at *
   simp -implicitDefEqProofs -proj only [go_sem,seval,HO,IP,IJ,hH,e1,decide_eq_true (show (i:Int)<l.length by omega)]
   refine AJ hat ?_
   simp -implicitDefEqProofs -proj only [go_sem,seval]
   refine As (fun bs hs'=>?_)
   replace hs':H bs=none:=hs'
   simp -implicitDefEqProofs -proj only [go_sem,seval]
   refine Ff (xs:=Az (l.take i)) (y:=[.int .i64 v]) (t:=3) (capc:=1) [(b2,.box 104 [.nilsl 3]),(b1,.box 51 [i64 ((l.length:Int)-1),Fp (EX l)])] rfl (An hs' hall) hn (by simp -implicitDefEqProofs -proj only [go_sem,seval]) (by rw [hl1]; omega) (by rw [hl1]; omega) (fun H' c' cap' ha hk=>?_)
   rw [show Az (l.take i)++[[.int .i64 v]]=Az (l.take (i+1)) by rw [htk]; simp [Az]] at ha hk
   simp -implicitDefEqProofs -proj only [go_sem,seval]
   refine Ad ⟨i+1,c',cap'⟩ ⟨by show i+1≤l.length; omega,hk⟩ (by show l.length-(i+1)<l.length-i; omega) rfl ?_ ha
   simp -implicitDefEqProofs -proj only [go_sem,seval,AM,HO,IP,IJ,AP (show i<9223372036854775807 by omega),Ex hne2,hl1,hl2]
  ·have hi':i=l.length:=by omega
   subst hi'
   rw [List.take_length] at hrow
   simp -implicitDefEqProofs -proj only [go_sem,seval,HO,IP,IJ,hH,decide_eq_false (show ¬(l.length:Int)<l.length by omega),List.take_length]
   refine Lw hof (FE (.refl _) (FE (Jz hrow) GY)) ?_
   simp -implicitDefEqProofs -proj only [go_sem,seval,e2]
   exact AH rfl
theorem RP {l:List Int} (h:EG l):DataW Tryz.prog AFD [Ev l] (bv true):=by
 have h1:=Oc h
 have h2:=(Mn (l:=l) (by have:=h.2.1; omega)).data
 rw [if_pos h] at h2
 have hgl:=J0 (l:=l)
 have h3:=SE (m:=(l.length:Int)-1) (n:=(l.length:Int)-1) (a:=EX l) (b:=EX l) (by have:=h.2.1; omega) (by have:=h.2.1; omega)
 rw [decide_eq_true ⟨rfl,rfl⟩] at h3
 generalize BG 0 l=R at *
 refine AX APw (by simp) ?_
 simp -implicitDefEqProofs -proj only [go_sem,seval]
 refine AK (fun b1 hb1=>?_)
 simp -implicitDefEqProofs -proj only [go_sem,seval]
 refine AJ h1 ?_
 simp -implicitDefEqProofs -proj only [go_sem,seval]
 refine AK (fun b3 hb3=>?_)
 replace hb3:upd Heap.none b1 _ b3=none:=hb3
 obtain ⟨n1,n2⟩:=AI hb3 upd_eq
 simp -implicitDefEqProofs -proj only [go_sem,seval,n1,n2]
 refine AJ h2 ?_
 simp -implicitDefEqProofs -proj only [go_sem,seval,n1,n2]
 refine AK (fun b5 hb5=>?_)
 replace hb5:upd (upd Heap.none b1 _) b3 _ b5=none:=hb5
 obtain ⟨n3,n4⟩:=AI hb5 upd_eq
 obtain ⟨n5,n6⟩:=AI hb5 (by rw [AE n1]; exact upd_eq)
 simp -implicitDefEqProofs -proj only [go_sem,seval,n1,n2,n3,n4,n5,n6]
 refine AJ h3 ?_
 simp -implicitDefEqProofs -proj only [go_sem,seval]
 exact AH rfl
def E6 (R:List Run) (hi:Int) (i:Nat):Int:=match R[i]? with
 | some r=>r.f
 | none=>hi
theorem FwdOK.nth {val:Int→Int} {hi:Int}:∀{R:List Run} {lo:Int},FwdOK val lo hi R→∀(i:Nat) r,R[i]? = some r→r.f=E6 R hi i∧r.f≤r.t∧E6 R hi (i+1)=r.t+1∧r.t+1≤hi∧lo≤r.f∧∀x,r.f≤x→x≤r.t→val x=r.v:=by
 intro R
 induction R with
 | nil=>intro lo _ i r h; simp at h
 | cons q R ih =>
  intro lo h i r hi'
  obtain ⟨g1,g2,g3,g4,g5⟩:=h
  have hle:=g5.le
  cases i with
  | zero =>
   simp -implicitDefEqProofs only [List.getElem?_cons_zero,Option.some.injEq] at hi'
   subst hi'
   refine ⟨rfl,g2,?_,hle,by omega,g3⟩
   unfold E6
   cases R with
   | nil=>exact g5.symm
   | cons s R=>exact g5.1
  | succ i =>
   obtain ⟨e1,e2,e3,e4,e5,e6⟩:=ih g5 i r (by simpa using hi')
   exact ⟨by rw [e1]; simp [E6],e2,by rw [←e3]; simp [E6],e4,by omega,e6⟩
theorem Il {val:Int→Int} {hi:Int} {R:List Run} {lo:Int} (h:FwdOK val lo hi R):E6 R hi 0=lo:=by
 cases R with
 | nil=>exact h.symm
 | cons r R=>exact h.1
theorem Os {R:List Run} {hi:Int} {i:Nat} (h:R[i]? = none):E6 R hi i=hi:=by unfold E6; rw [h]
theorem RA {va vb:Int→Int} {fa ha fb hb:Int} {A B:List Run} (hA:FwdOK va fa ha A) (hB:FwdOK vb fb hb B) (g:Int→Int→Int):∀(n i k:Nat) (R:List Run),A.length+B.length≤n+i+k →
  FwdOK (fun x=>g (va x) (vb x)) (max fa fb) (max (E6 A ha i) (E6 B hb k)) R→(max (E6 A ha i) (E6 B hb k)=max fa fb∨(max (E6 A ha i) (E6 B hb k)≤ha∧max (E6 A ha i) (E6 B hb k)≤hb)) →
  FwdOK (fun x=>g (va x) (vb x)) (max fa fb) (max (max fa fb) (min ha hb)) (Er g A B n i k R):=by
 have fin:∀(i k:Nat) (R:List Run),(A[i]? = none∨B[k]? = none)→FwdOK (fun x=>g (va x) (vb x)) (max fa fb) (max (E6 A ha i) (E6 B hb k)) R →
   (max (E6 A ha i) (E6 B hb k)=max fa fb∨(max (E6 A ha i) (E6 B hb k)≤ha∧max (E6 A ha i) (E6 B hb k)≤hb))→FwdOK (fun x=>g (va x) (vb x)) (max fa fb) (max (max fa fb) (min ha hb)) R:=by
  intro i k R h hR hm
  have hle:=hR.le
  have:max (max fa fb) (min ha hb)=max (E6 A ha i) (E6 B hb k):=by
   rcases h with h | h
   ·have:=Os (hi:=ha) h; omega
   ·have:=Os (hi:=hb) h; omega
  rw [this]
  exact hR
 intro n
 induction n with
 | zero =>
  intro i k R hn hR hm
  rw [Er]
  refine fin i k R ?_ hR hm
  by_cases h:A.length≤i
  ·exact .inl (List.getElem?_eq_none h)
  ·exact .inr (List.getElem?_eq_none (by omega))
 | succ n ih =>
  intro i k R hn hR hm
  rw [Er]
  split
  ·next x y hx hy =>
   obtain ⟨a1,a2,a3,a4,a5,a6⟩:=hA.nth i x hx
   obtain ⟨b1,b2,b3,b4,b5,b6⟩:=hB.nth k y hy
   have hf:max x.f y.f=max (E6 A ha i) (E6 B hb k):=by rw [a1,b1]
   have ei:E6 A ha (if x.t≤y.t then i+1 else i)=if x.t≤y.t then x.t+1 else x.f:=by split <;> simp [a3,a1]
   have ek:E6 B hb (if y.t≤x.t then k+1 else k)=if y.t≤x.t then y.t+1 else y.f:=by split <;> simp [b3,b1]
   refine ih _ _ _ (by split <;> split <;> omega) ?_ ?_
   ·rw [ei,ek]
    by_cases hft:max x.f y.f≤min x.t y.t
    ·rw [if_pos hft]
     have e:max (if x.t≤y.t then x.t+1 else x.f) (if y.t≤x.t then y.t+1 else y.f)=min x.t y.t+1:=by split <;> split <;> omega
     rw [e]
     rw [←hf] at hR
     exact FwdOK.putRun (val:=fun x=>g (va x) (vb x)) (v:=g x.v y.v) hft (fun z h1 h2=>by show g (va z) (vb z)=_; rw [a6 z (by omega) (by omega),b6 z (by omega) (by omega)]) hR
    ·rw [if_neg hft]
     have e:max (if x.t≤y.t then x.t+1 else x.f) (if y.t≤x.t then y.t+1 else y.f)=max x.f y.f:=by split <;> split <;> omega
     rw [e,hf]
     exact hR
   ·rw [ei,ek]
    by_cases hft:max x.f y.f≤min x.t y.t
    ·right
     constructor <;> split <;> split <;> omega
    ·have e:max (if x.t≤y.t then x.t+1 else x.f) (if y.t≤x.t then y.t+1 else y.f)=max x.f y.f:=by split <;> split <;> omega
     rw [e,hf]
     exact hm
  ·next h =>
   refine fin i k R ?_ hR hm
   cases hx:A[i]? with
   | none=>exact .inl rfl
   | some x =>
    cases hy:B[k]? with
    | none=>exact .inr rfl
    | some y=>exact absurd hy (h x y hx)
def GR (lo hi v:Int) (R:List Run) (r:Run):List Run :=
 let low:=max r.f lo
 let high:=min r.t hi
 if low > high then A6 R r else
  let R1:=if r.f<low then A6 R ⟨r.f,low-1,r.v⟩ else R
  let R2:=A6 R1 ⟨low,high,v⟩
  if high<r.t then A6 R2 ⟨high+1,r.t,r.v⟩ else R2
def Fv (lo hi v:Int) (l:List Run):Nat→List Run
 | 0=>[]
 | i+1=>match l[i]? with
  | some r=>GR lo hi v (Fv lo hi v l i) r
  | none=>Fv lo hi v l i
theorem ADn {lo hi v:Int} {R:List Run} {r:Run}:(GR lo hi v R r).length≤R.length+3:=by
 unfold GR
 simp -implicitDefEqProofs only []
 have k1:=@GV R r
 have k2:=@GV R ⟨r.f,max r.f lo-1,r.v⟩
 have k3:=@GV (A6 R ⟨r.f,max r.f lo-1,r.v⟩) ⟨max r.f lo,min r.t hi,v⟩
 have k4:=@GV R ⟨max r.f lo,min r.t hi,v⟩
 have k5:=@GV (A6 (A6 R ⟨r.f,max r.f lo-1,r.v⟩) ⟨max r.f lo,min r.t hi,v⟩) ⟨min r.t hi+1,r.t,r.v⟩
 have k6:=@GV (A6 R ⟨max r.f lo,min r.t hi,v⟩) ⟨min r.t hi+1,r.t,r.v⟩
 split
 ·omega
 ·split <;> split <;> omega
theorem PB {lo hi v:Int} {l:List Run}:∀i:Nat,(Fv lo hi v l i).length≤3*i
 | 0=>Nat.le_refl _
 | i+1=>by
  have h:=PB (lo:=lo) (hi:=hi) (v:=v) (l:=l) i
  rw [Fv]
  split
  ·next r hr =>
   have:=@ADn lo hi v (Fv lo hi v l i) r
   omega
  ·omega
theorem Rh {val:Int→Int} {lo hi v f e:Int} {L:List Run} (hL:FwdOK val f e L):∀i:Nat,i≤L.length→FwdOK (fun x=>if lo≤x∧x≤hi then v else val x) f (E6 L e i) (Fv lo hi v L i)
 | 0,_=>by rw [Il hL]; rfl
 | i+1,hi'=>by
  have h:=Rh hL i (by omega) (lo:=lo) (hi:=hi) (v:=v)
  obtain ⟨r,hr⟩:∃r,L[i]? = some r:=⟨_,List.getElem?_eq_getElem (by omega)⟩
  obtain ⟨a1,a2,a3,a4,a5,a6⟩:=hL.nth i r hr
  rw [Fv,hr,a3]
  simp -implicitDefEqProofs only []
  rw [←a1] at h
  generalize Fv lo hi v L i=R at *
  unfold GR
  simp -implicitDefEqProofs only []
  split
  ·next hc =>
   exact FwdOK.putRun (v:=r.v) a2 (fun x h1 h2=>by rw [if_neg (by omega)]; exact a6 x h1 h2) h
  ·next hc =>
   have h1:FwdOK (fun x=>if lo≤x∧x≤hi then v else val x) f (max r.f lo) (if r.f<max r.f lo then A6 R ⟨r.f,max r.f lo-1,r.v⟩ else R):=by
    split
    ·next hc2 =>
     have:=FwdOK.putRun (t:=max r.f lo-1) (v:=r.v) (by omega) (fun x h1 h2=>by show (if lo≤x∧x≤hi then v else val x)=_; rw [if_neg (by omega)]; exact a6 x h1 (by omega)) h
     rwa [show max r.f lo-1+1=max r.f lo by omega] at this
    ·next hc2=>rwa [show max r.f lo=r.f by omega]
   have h2:=FwdOK.putRun (t:=min r.t hi) (v:=v) (by omega) (fun x h1 h2=>by show (if lo≤x∧x≤hi then v else val x)=_; rw [if_pos (by omega)]) h1
   split
   ·next hc3=>exact FwdOK.putRun (t:=r.t) (v:=r.v) (by omega) (fun x h1 h2=>by show (if lo≤x∧x≤hi then v else val x)=_; rw [if_neg (by omega)]; exact a6 x (by omega) h2) h2
   ·next hc3 =>
    have e:min r.t hi=r.t:=by omega
    rw [e] at h2 ⊢
    exact h2
theorem Pc {P:Program} {f:FuncId} {args:List AV} {H0 H:Heap} {K:AV→Heap→Prop} (h:CallW P f args H0 K) (hs:∀k,H0 k=none∨H0 k=H k) :
  CallW P f args H fun r H'=>∃H1,K r H1∧(∀k x,H1 k=some x→H' k=some x)∧∀k x,H k=some x→H0 k=none→H' k=some x:=by
 classical
 intro F w vs hh hv
 have hsub:∀b x,H0 b=some x→H b=some x:=fun b x hb=>by
  rcases hs b with e | e
  ·rw [e] at hb; cases hb
  ·rw [←e]; exact hb
 have hh0:HRel P F H0 w:=⟨fun b x hb=>hh.at_ b x (hsub b x hb),fun b x hb=>hh.apart b x (hsub b x hb),hh.old⟩
 refine (h F w vs hh0 hv).mono fun e w' hr=>?_
 obtain ⟨r,H1,F',v,rfl,h1,h2,h3,h4⟩:=hr
 have hF0:∀k,F k→H0 k=none:=fun k hk=>by
  cases e:H0 k with
  | none=>rfl
  | some x=>exact absurd hk (hh0.apart k x e)
 have hne:∀k,H0 k≠none→H k≠none:=fun k hk=>by
  cases e:H0 k with
  | none=>exact absurd e hk
  | some x=>rw [hsub k x e]; simp
 have hfr:∀k x,H1 k=some x→¬(H k≠none∧H0 k=none):=fun k x hx hk=>by
  rcases h3.dom k (by rw [hx]; simp) with e | e
  ·exact e hk.2
  ·cases e2:H k with
   | none=>exact hk.1 e2
   | some y=>have:=(hh.at_ k y e2).lt; omega
 refine ⟨r,fun k=>if H k≠none∧H0 k=none then H k else H1 k,F',v,rfl,h1,⟨fun b x hb=>?_,fun b x hb hf=>?_,h2.old⟩,⟨h3.os,h3.tape,h3.output,h3.size,fun k hk e=>h3.keep k hk ?_,fun k hk=>?_,h3.mono,fun k hk=>?_⟩,H1,h4,fun k x hx=>?_,fun k x hx hk=>?_⟩
 ·by_cases e:H b≠none∧H0 b=none
  ·rw [if_pos e] at hb
   exact (hh.at_ b x hb).mono (h3.keep b (hh.at_ b x hb).lt e.2) h3.mono (fun k hk=>h3.keep k (hh.old k hk) (hF0 k hk))
  ·rw [if_neg e] at hb
   exact h2.at_ b x hb
 ·by_cases e:H b≠none∧H0 b=none
  ·rw [if_pos e] at hb
   rcases h3.new b hf with e2 | e2 | e2
   ·exact hh.apart b x hb e2
   ·exact e2 e.2
   ·have:=(hh.at_ b x hb).lt; omega
  ·rw [if_neg e] at hb
   exact h2.apart b x hb hf
 ·rcases hs k with e2 | e2
  ·exact e2
  ·rw [e2,e]
 ·by_cases e:H k≠none∧H0 k=none
  ·exact .inl e.1
  ·rw [if_neg e] at hk
   exact (h3.dom k hk).imp (hne k) id
 ·rcases h3.new k hk with e | e | e
  ·exact .inl e
  ·exact .inr (.inl (hne k e))
  ·exact .inr (.inr e)
 ·show (if H k≠none∧H0 k=none then H k else H1 k)=some x
  rw [if_neg (hfr k x hx)]
  exact hx
 ·show (if H k≠none∧H0 k=none then H k else H1 k)=some x
  rw [if_pos ⟨by rw [hx]; simp,hk⟩]
  exact hx
def FM (bad:Int→Int→Bool) (a b:List Run):Nat→Nat→Nat→Bool→Bool
 | 0,_,_,x=>x
 | n+1,i,k,w=>match a[i]?,b[k]? with
  | some x,some y =>
   FM bad a b n (if x.t≤y.t then i+1 else i) (if y.t≤x.t then k+1 else k) (if max x.f y.f≤min x.t y.t then w||bad x.v y.v else w)
  | _,_=>w
theorem Jn {bad:Int→Int→Bool} {a b:List Run}:∀(n i k:Nat) (w:Bool),a.length+b.length≤n+i+k→FM bad a b (n+1) i k w=FM bad a b n i k w
 | 0,i,k,w,h=>by
  rw [FM,FM]
  by_cases h1:i<a.length
  ·have h2:¬k<b.length:=by omega
   rw [List.getElem?_eq_none (l:=b) (by omega)]
   split <;> first | rfl | simp_all
  ·rw [List.getElem?_eq_none (l:=a) (by omega)]
 | n+1,i,k,w,h=>by
  rw [FM,FM]
  split
  ·next x y _ _ =>
   refine Jn n _ _ _ ?_
   split <;> split <;> omega
  ·rfl
structure ZipF where
 i:Nat
 k:Nat
 c:Nat
 cap:Nat
 l:List Run
 w:Bool
theorem Gj {i k c cap:Nat} {l:List Run} {w:Bool}:(ZipF.mk i k c cap l w).i=i:=(rfl)
theorem Gd {i k c cap:Nat} {l:List Run} {w:Bool}:(ZipF.mk i k c cap l w).k=k:=(rfl)
abbrev IA (w:Bool):Blk:=.box 175 [bv w]
abbrev J1 (bf:Nat):Blk:=.box 173 [.ptr bf 0]
abbrev Kk (f:FuncId) (caps:List AV):Blk:=.box 111 [.fn f caps]
theorem He {H:Heap}:∀{l:List (Nat×Blk)},AS H l↔∀p∈l,H p.1=some p.2
 | []=>by simp [AS]
 | (b,x)::l=>by
  simp -implicitDefEqProofs only [AS,He (l:=l),List.mem_cons,forall_eq_or_imp]
theorem MY {k:Nat}:∀{l m:List (Nat×Blk)},(∀p∈l,¬k=p.1)→Ab (l++m) k=Ab m k
 | [],_,_=>rfl
 | (b,x)::l,m,h=>by
  rw [List.cons_append,Ap,if_neg (h (b,x) (List.mem_cons_self ..)),MY (fun p hp=>h p (List.mem_cons_of_mem _ hp))]
def QJ (f:FuncId) (bf bp bo:Nat) (of:FuncId) (caps:List AV) (more:List (Nat×Blk)) (g:Int→Int→Int) (bad:Int→Int→Bool) (u v:Int):Prop:=∀(w:Bool) (H:Heap),H bf=some (IA w)→H bp=some (J1 bf)→H bo=some (Kk of caps)→(∀p∈more,H p.1=some p.2) →
 CallW Tryz.prog f [i64 u,i64 v,.ptr bp 0,.ptr bo 0] H fun r H'=>r=i64 (g u v)∧H'=upd H bf (some (IA (w||bad u v)))
set_option maxHeartbeats 4000000 in
theorem AEU {a b:List Run} {f of:FuncId} {caps:List AV} {more:List (Nat×Blk)} {bf bp bo:Nat} {g:Int→Int→Int} {bad:Int→Int→Bool} (d1:¬bf=bp) (d2:¬bf=bo) (d3:¬bp=bo) (hmd:(AT more).Nodup) (hmx:∀p∈more,¬p.1=bf∧¬p.1=bp∧¬p.1=bo) (hg:∀x∈a,∀y∈b,QJ f bf bp bo of caps more g bad x.v y.v) (ha:a.length≤400000) (hb:b.length≤400000):CallW Tryz.prog Ue [Gn a,Gn b,.fn f [.ptr bp 0,.ptr bo 0]] (Ab ([(bf,IA false),(bp,J1 bf),(bo,Kk of caps)]++more)) fun r H'=>NewV H' r (Gn (Er g a b (a.length+b.length) 0 0 []))∧H' bf=some (IA (FM bad a b (a.length+b.length) 0 0 false))∧H' bp=some (J1 bf):=by
 have s1:¬bp=bf:=fun e=>d1 e.symm
 have s2:¬bo=bf:=fun e=>d2 e.symm
 have s3:¬bo=bp:=fun e=>d3 e.symm
 obtain ⟨H0,hH0⟩:∃H0,Ab ([(bf,IA false),(bp,J1 bf),(bo,Kk of caps)]++more)=H0:=⟨_,rfl⟩
 have zf:H0 bf=some (IA false):=by rw [←hH0]; simp -implicitDefEqProofs -proj only [go_sem,seval]
 have zp:H0 bp=some (J1 bf):=by rw [←hH0]; simp -implicitDefEqProofs -proj only [go_sem,seval,d1,s1]
 have zo:H0 bo=some (Kk of caps):=by rw [←hH0]; simp -implicitDefEqProofs -proj only [go_sem,seval,d2,s2,d3,s3]
 have zm:∀p∈more,H0 p.1=some p.2:=fun p hp=>by
  obtain ⟨x1,x2,x3⟩:=hmx p hp
  rw [←hH0,MY (fun q hq=>by simp -implicitDefEqProofs only [List.mem_cons,List.not_mem_nil,or_false] at hq; rcases hq with rfl | rfl | rfl <;> first | exact x1 | exact x2 | exact x3)]
  exact He.1 (EQ hmd) p hp
 rw [hH0]
 refine AX AQ8 (by simp) ?_
 simp -implicitDefEqProofs -proj only [go_sem,seval]
 refine AK (fun b3 hb3=>?_)
 replace hb3:H0 b3=none:=hb3
 obtain ⟨f1,_⟩:=AI hb3 zf
 obtain ⟨f2,_⟩:=AI hb3 zp
 obtain ⟨f3,_⟩:=AI hb3 zo
 have m3:∀p∈more,¬b3=p.1:=fun p hp=>(AI hb3 (zm p hp)).1
 simp -implicitDefEqProofs -proj only [go_sem,seval]
 refine AK (fun b4 hb4=>?_)
 replace hb4:upd H0 b3 _ b4=none:=hb4
 obtain ⟨n1,n2⟩:=AI hb4 upd_eq
 obtain ⟨f4,_⟩:=AI hb4 (by rw [AE f1]; exact zf)
 obtain ⟨f5,_⟩:=AI hb4 (by rw [AE f2]; exact zp)
 obtain ⟨f6,_⟩:=AI hb4 (by rw [AE f3]; exact zo)
 have m4:∀p∈more,¬b4=p.1:=fun p hp=>(AI hb4 (by rw [AE (m3 p hp)]; exact zm p hp)).1
 simp -implicitDefEqProofs -proj only [go_sem,seval,n1,n2]
 refine AK (fun b6 hb6=>?_)
 replace hb6:upd (upd H0 b3 _) b4 _ b6=none:=hb6
 obtain ⟨n3,n4⟩:=AI hb6 upd_eq
 obtain ⟨n5,n6⟩:=AI hb6 (by rw [AE n1]; exact upd_eq)
 obtain ⟨f7,_⟩:=AI hb6 (by rw [AE f4,AE f1]; exact zf)
 obtain ⟨f8,_⟩:=AI hb6 (by rw [AE f5,AE f2]; exact zp)
 obtain ⟨f9,_⟩:=AI hb6 (by rw [AE f6,AE f3]; exact zo)
 have m6:∀p∈more,¬b6=p.1:=fun p hp=>(AI hb6 (by rw [AE (m4 p hp),AE (m3 p hp)]; exact zm p hp)).1
 simp -implicitDefEqProofs -proj only [go_sem,seval,n1,n2,n3,n4,n5,n6,rowR_len]
 refine AK (fun b7 hb7=>?_)
 replace hb7:upd (upd (upd H0 b3 _) b4 _) b6 _ b7=none:=hb7
 obtain ⟨n7,n8⟩:=AI hb7 upd_eq
 obtain ⟨p1,p2⟩:=AI hb7 (by rw [AE n3]; exact upd_eq)
 obtain ⟨p3,p4⟩:=AI hb7 (by rw [AE n5,AE n1]; exact upd_eq)
 obtain ⟨fa,fa'⟩:=AI hb7 (by rw [AE f7,AE f4,AE f1]; exact zf)
 obtain ⟨fb,fb'⟩:=AI hb7 (by rw [AE f8,AE f5,AE f2]; exact zp)
 obtain ⟨fc,fc'⟩:=AI hb7 (by rw [AE f9,AE f6,AE f3]; exact zo)
 have m7:∀p∈more,¬b7=p.1:=fun p hp=>(AI hb7 (by rw [AE (m6 p hp),AE (m4 p hp),AE (m3 p hp)]; exact zm p hp)).1
 have m7':∀p∈more,¬p.1=b7:=fun p hp e=>m7 p hp e.symm
 simp -implicitDefEqProofs -proj only [go_sem,seval,n1,n2,n3,n4,n5,n6,n7,n8,p1,p2,p3,p4,rowR_len]
 have c1:¬bf=b3:=fun e=>f1 e.symm
 have c2:¬bp=b3:=fun e=>f2 e.symm
 have c3:¬bo=b3:=fun e=>f3 e.symm
 have c4:¬bf=b4:=fun e=>f4 e.symm
 have c5:¬bp=b4:=fun e=>f5 e.symm
 have c6:¬bo=b4:=fun e=>f6 e.symm
 have c7:¬bf=b6:=fun e=>f7 e.symm
 have c8:¬bp=b6:=fun e=>f8 e.symm
 have c9:¬bo=b6:=fun e=>f9 e.symm
 obtain ⟨rest,hrest⟩:∃rest:Bool→List (Nat×Blk),rest=fun w=>[(b6,.box 104 [.nilsl 3]),(b3,.box 104 [Fw a]),(b4,.box 104 [Fw b]),(bf,IA w),(bp,J1 bf),(bo,Kk of caps)]++more:=⟨_,rfl⟩
 refine D9 (fun x:ZipF=>x.i≤a.length∧x.k≤b.length∧x.l.length≤x.i+x.k∧Er g a b (a.length+b.length-x.i-x.k) x.i x.k x.l=Er g a b (a.length+b.length) 0 0 []∧FM bad a b (a.length+b.length-x.i-x.k) x.i x.k x.w=FM bad a b (a.length+b.length) 0 0 false∧(x.l≠[]→x.c≠b7∧x.c≠b6∧x.c≠b3∧x.c≠b4∧x.c≠bf∧x.c≠bp∧x.c≠bo∧∀p∈more,x.c≠p.1)) 74 (fun x=>[(8,i64 x.i),(9,i64 x.k),(3,.ptr b3 0),(4,.ptr b4 0),(6,.ptr b6 0),(7,.ptr b7 0),(2,.fn f [.ptr bp 0,.ptr bo 0])]) (fun x=>LH b7 x.c x.cap x.l++rest x.w) (fun x=>a.length+b.length-x.i-x.k) ⟨0,0,0,0,[],false⟩ ⟨Nat.zero_le _,Nat.zero_le _,Nat.zero_le _,rfl,rfl,fun h=>absurd rfl h⟩ rfl ?_ ?_ ?_
 ·simp -implicitDefEqProofs -proj only [go_sem,seval,AM]
 ·rw [FK,hrest]
  simp -implicitDefEqProofs only [FK]
  refine ⟨?_,?_,He.2 fun p hp=>by simp -implicitDefEqProofs -proj only [go_sem,seval,m3 p hp,m4 p hp,m6 p hp,m7 p hp,zm p hp]⟩
  all_goals simp -implicitDefEqProofs -proj only [go_sem,seval,AS,LH,n1,n2,n3,n4,n5,n6,n7,n8,p1,p2,p3,p4,f1,f2,f3,f4,f5,f6,f7,f8,f9,fa,fb,fc,zf,zp,zo]
 ·rintro ⟨i,k,c,cap,R,w⟩ ⟨hi,hk,hlen,hR,hW,hc⟩
  simp -implicitDefEqProofs only [] at hi hk hlen hR hW hc
  have hat:=Ss (b:=b7) (c:=c) (cap:=cap) (l:=R) (rest:=rest w) (fun h=>(hc h).1)
  have h6:Ab (LH b7 c cap R++rest w) b6=some (.box 104 [.nilsl 3]):=by
   rw [I7 n8 (fun h e=>(hc h).2.1 e.symm),hrest]; simp -implicitDefEqProofs -proj only [go_sem,seval]
  have h3:Ab (LH b7 c cap R++rest w) b3=some (.box 104 [Fw a]):=by
   rw [I7 p4 (fun h e=>(hc h).2.2.1 e.symm),hrest]; simp -implicitDefEqProofs -proj only [go_sem,seval,n6]
  have h4:Ab (LH b7 c cap R++rest w) b4=some (.box 104 [Fw b]):=by
   rw [I7 p2 (fun h e=>(hc h).2.2.2.1 e.symm),hrest]; simp -implicitDefEqProofs -proj only [go_sem,seval,n4,n1]
  have hf:Ab (LH b7 c cap R++rest w) bf=some (IA w):=by
   rw [I7 fa' (fun h e=>(hc h).2.2.2.2.1 e.symm),hrest]; simp -implicitDefEqProofs -proj only [go_sem,seval,c7,c1,c4]
  have hp:Ab (LH b7 c cap R++rest w) bp=some (J1 bf):=by
   rw [I7 fb' (fun h e=>(hc h).2.2.2.2.2.1 e.symm),hrest]; simp -implicitDefEqProofs -proj only [go_sem,seval,c8,c2,c5,s1]
  have ho:Ab (LH b7 c cap R++rest w) bo=some (Kk of caps):=by
   rw [I7 fc' (fun h e=>(hc h).2.2.2.2.2.2.1 e.symm),hrest]; simp -implicitDefEqProofs -proj only [go_sem,seval,c9,c3,c6,s2,s3]
  have hm:∀p∈more,Ab (LH b7 c cap R++rest w) p.1=some p.2:=fun p hp=>by
   obtain ⟨x1,x2,x3⟩:=hmx p hp
   rw [I7 (m7' p hp) (fun h e=>(hc h).2.2.2.2.2.2.2 p hp e.symm),hrest,MY (fun q hq=>by simp -implicitDefEqProofs only [List.mem_cons,List.not_mem_nil,or_false] at hq; rcases hq with rfl | rfl | rfl | rfl | rfl | rfl <;> first | exact fun e=>m6 p hp e.symm | exact fun e=>m3 p hp e.symm | exact fun e=>m4 p hp e.symm | exact x1 | exact x2 | exact x3)]
   exact He.1 (EQ hmd) p hp
  generalize hH:Ab (LH b7 c cap R++rest w)=H at *
  by_cases hin:i<a.length∧k<b.length
  ·obtain ⟨h,h'⟩:=hin
   have e1:=JA h
   have e2:=JA h'
   have hx:a[i]? = some a[i]:=List.getElem?_eq_getElem h
   have hy:b[k]? = some b[k]:=List.getElem?_eq_getElem h'
   have hgg:=hg _ (List.getElem_mem h) _ (List.getElem_mem h')
   generalize a[i]=x at *
   generalize b[k]=y at *
   rw [show a.length+b.length-i-k=(a.length+b.length-i-k-1)+1 by omega,Er,hx,hy] at hR
   rw [show a.length+b.length-i-k=(a.length+b.length-i-k-1)+1 by omega,FM,hx,hy] at hW
   simp -implicitDefEqProofs only [] at hR hW
   simp -implicitDefEqProofs -proj only [go_sem,seval,Gj,Gd,h3,h4,rowR_len,decide_eq_true (show (i:Int)<a.length by omega),decide_eq_true (show (k:Int)<b.length by omega)]
   (repeat' (with_reducible refine Ae ?_ (fun h=>?_); (focus first | decide | omega); clear h; try simp -implicitDefEqProofs -proj only [go_sem,seval,eq_self,Gj,Gd,h3,h4,rowR_len,decide_eq_true (show (i:Int)<a.length by omega),decide_eq_true (show (k:Int)<b.length by omega)]))
   refine Ah _ (by omega) e1 ?_
   simp -implicitDefEqProofs -proj only [go_sem,seval,Gj,Gd,h3,h4,rowR_len,decide_eq_true (show (i:Int)<a.length by omega),decide_eq_true (show (k:Int)<b.length by omega)]
   (repeat' (with_reducible refine Ae ?_ (fun h=>?_); (focus first | decide | omega); clear h; try simp -implicitDefEqProofs -proj only [go_sem,seval,eq_self,Gj,Gd,h3,h4,rowR_len,decide_eq_true (show (i:Int)<a.length by omega),decide_eq_true (show (k:Int)<b.length by omega)]))
   refine Ah _ (by omega) e2 ?_
   simp -implicitDefEqProofs -proj only [go_sem,seval,Gj,Gd,h3,h4,rowR_len,decide_eq_true (show (i:Int)<a.length by omega),decide_eq_true (show (k:Int)<b.length by omega)]
   (repeat' (with_reducible refine Ae ?_ (fun h=>?_); (focus first | decide | omega); clear h; try simp -implicitDefEqProofs -proj only [go_sem,seval,eq_self,Gj,Gd,h3,h4,rowR_len,decide_eq_true (show (i:Int)<a.length by omega),decide_eq_true (show (k:Int)<b.length by omega)]))
   refine AK (fun b10 hb10=>?_)
   replace hb10:H b10=none:=hb10
   obtain ⟨q1,q3⟩:=hat.fresh hb10
   have t6:=(AI hb10 h6).1
   have t3:=(AI hb10 h3).1
   have t4:=(AI hb10 h4).1
   have tf:=(AI hb10 hf).1
   have tp:=(AI hb10 hp).1
   have to':=(AI hb10 ho).1
   have tm:=fun p hp'=>(AI hb10 (hm p hp')).1
   simp -implicitDefEqProofs -proj only [go_sem,seval]
   refine AK (fun b11 hb11=>?_)
   replace hb11:upd H b10 _ b11=none:=hb11
   obtain ⟨r3,r4⟩:=AI hb11 upd_eq
   have hb11':H b11=none:=by rw [AE r4] at hb11; exact hb11
   obtain ⟨r1,r3'⟩:=hat.fresh hb11'
   have u6:=(AI hb11' h6).1
   have u3:=(AI hb11' h3).1
   have u4:=(AI hb11' h4).1
   have uf:=(AI hb11' hf).1
   have up:=(AI hb11' hp).1
   have uo:=(AI hb11' ho).1
   have um:=fun p hp'=>(AI hb11' (hm p hp')).1
   have vf:¬bf=b10:=fun e=>tf e.symm
   have wf:¬bf=b11:=fun e=>uf e.symm
   have q2:¬b7=b10:=fun e=>q1 e.symm
   have r2:¬b7=b11:=fun e=>r1 e.symm
   by_cases hA:x.t≤y.t
   ·by_cases hB:y.t≤x.t
    ·by_cases hM:max x.f y.f≤min x.t y.t
     ·rw [if_pos hA,if_pos hB,if_pos hM] at hR hW
      have dM:=decide_eq_true hM
      have dA:=decide_eq_true hA
      have dB:=decide_eq_true hB
      simp -implicitDefEqProofs -proj only [go_sem,seval,h3,h4,rowR_len,q1,q2,r1,r2,r3,r4,dM,dA,dB,AP (show i<9223372036854775807 by omega),AP (show k<9223372036854775807 by omega)]
      (repeat' (with_reducible refine Ae ?_ (fun h=>?_); (focus first | decide | omega); clear h; try simp -implicitDefEqProofs -proj only [go_sem,seval,eq_self,h3,h4,rowR_len,q1,q2,r1,r2,r3,r4,dM,dA,dB,AP (show i<9223372036854775807 by omega),AP (show k<9223372036854775807 by omega)]))
      have hnote:=fun z1 z2 z zz=>hgg w (upd (upd (upd (upd H b10 z1) b11 z2) b10 z) b11 zz) (by rw [AE uf,AE tf,AE uf,AE tf]; exact hf) (by rw [AE up,AE tp,AE up,AE tp]; exact hp) (by rw [AE uo,AE to',AE uo,AE to']; exact ho) (fun p hp'=>by rw [AE (um p hp'),AE (tm p hp'),AE (um p hp'),AE (tm p hp')]; exact hm p hp')
      refine En (hnote _ _ _ _) (fun rr H' hk=>?_)
      obtain ⟨rfl,rfl⟩:=hk
      simp -implicitDefEqProofs -proj only [go_sem,seval,h3,h4,rowR_len,q1,q2,r1,r2,r3,r4,dM,dA,dB,AP (show i<9223372036854775807 by omega),AP (show k<9223372036854775807 by omega),vf,wf]
      have hput:=fun z1 z2 z ww zz=>M3 (r:=⟨max x.f y.f,min x.t y.t,g x.v y.v⟩) (((((hat.upd (k:=b10) (x:=z1) q1 q3).upd (k:=b11) (x:=z2) r1 r3').upd (k:=b10) (x:=z) q1 q3).upd (k:=b11) (x:=ww) r1 r3').upd (k:=bf) (x:=zz) fa' (fun h e=>(hc h).2.2.2.2.1 e.symm)) (by omega)
      refine En (hput _ _ _ _ _) (fun rr H' hk=>?_)
      obtain ⟨c',hat',hfr⟩:=hk
      have g6:=hfr b6 _ n8 (fun h e=>(hc h).2.1 e.symm) (by rw [AE c7,AE u6,AE t6,AE u6,AE t6]; exact h6)
      have g3:=hfr b3 _ p4 (fun h e=>(hc h).2.2.1 e.symm) (by rw [AE c1,AE u3,AE t3,AE u3,AE t3]; exact h3)
      have g4:=hfr b4 _ p2 (fun h e=>(hc h).2.2.2.1 e.symm) (by rw [AE c4,AE u4,AE t4,AE u4,AE t4]; exact h4)
      have gf:=hfr bf _ fa' (fun h e=>(hc h).2.2.2.2.1 e.symm) upd_eq
      have gp:=hfr bp _ fb' (fun h e=>(hc h).2.2.2.2.2.1 e.symm) (by rw [AE d1,AE up,AE tp,AE up,AE tp]; exact hp)
      have go:=hfr bo _ fc' (fun h e=>(hc h).2.2.2.2.2.2.1 e.symm) (by rw [AE d2,AE uo,AE to',AE uo,AE to']; exact ho)
      have gm:=fun p hp'=>hfr p.1 _ (m7' p hp') (fun h e=>(hc h).2.2.2.2.2.2.2 p hp' e.symm) (by rw [AE (fun e=>(hmx p hp').1 e.symm),AE (um p hp'),AE (tm p hp'),AE (um p hp'),AE (tm p hp')]; exact hm p hp')
      have g10:=hfr b10 _ q1 q3 (by rw [AE vf,AE r3,upd_eq])
      have g11:=hfr b11 _ r1 r3' (by rw [AE wf,upd_eq])
      obtain ⟨cap',hah,hc'⟩:=Ji hat'
      simp -implicitDefEqProofs -proj only [go_sem,seval,h3,h4,rowR_len,q1,q2,r1,r2,r3,r4,dM,dA,dB,AP (show i<9223372036854775807 by omega),AP (show k<9223372036854775807 by omega),g10.1,g11.1,eq_self]
      have hRR:A6 R ⟨max x.f y.f,min x.t y.t,g x.v y.v⟩≠[]:=Kw
      have hll:=@GV R ⟨max x.f y.f,min x.t y.t,g x.v y.v⟩
      refine Ad ⟨i+1,k+1,c',cap',A6 R ⟨max x.f y.f,min x.t y.t,g x.v y.v⟩,(w||bad x.v y.v)⟩ ⟨by show i+1≤a.length; omega,by show k+1≤b.length; omega,by show (A6 R _).length≤i+1+(k+1); omega,?_,?_,fun h=>⟨hc' h,fun e=>g6.2 e.symm,fun e=>g3.2 e.symm,fun e=>g4.2 e.symm,fun e=>gf.2 e.symm,fun e=>gp.2 e.symm,fun e=>go.2 e.symm,fun p hp' e=>(gm p hp').2 e.symm⟩⟩ (by show a.length+b.length-(i+1)-(k+1)<a.length+b.length-i-k; omega) rfl ?_ ?_
      ·show Er g a b (a.length+b.length-(i+1)-(k+1)) (i+1) (k+1) _=_
       rw [←hR]
       try rw [show a.length+b.length-i-k-1=a.length+b.length-(i+1)-(k+1) by omega]
       try (rw [show a.length+b.length-i-k-1=(a.length+b.length-(i+1)-(k+1))+1 by omega,Hd _ _ _ _ (by omega)])
      ·show FM bad a b (a.length+b.length-(i+1)-(k+1)) (i+1) (k+1) _=_
       rw [←hW]
       try rw [show a.length+b.length-i-k-1=a.length+b.length-(i+1)-(k+1) by omega]
       try (rw [show a.length+b.length-i-k-1=(a.length+b.length-(i+1)-(k+1))+1 by omega,Jn _ _ _ _ (by omega)])
      ·simp -implicitDefEqProofs -proj only [go_sem,seval,AM,Gj,Gd]
      ·rw [FK,hrest]
       simp -implicitDefEqProofs only [FK]
       exact ⟨hah,⟨g6.1,g3.1,g4.1,gf.1,gp.1,go.1,trivial⟩,He.2 fun p hp'=>(gm p hp').1⟩
     ·rw [if_pos hA,if_pos hB,if_neg hM] at hR hW
      have dM:=decide_eq_false hM
      have dA:=decide_eq_true hA
      have dB:=decide_eq_true hB
      simp -implicitDefEqProofs -proj only [go_sem,seval,h3,h4,rowR_len,q1,q2,r1,r2,r3,r4,dM,dA,dB,AP (show i<9223372036854775807 by omega),AP (show k<9223372036854775807 by omega)]
      (repeat' (with_reducible refine Ae ?_ (fun h=>?_); (focus first | decide | omega); clear h; try simp -implicitDefEqProofs -proj only [go_sem,seval,eq_self,h3,h4,rowR_len,q1,q2,r1,r2,r3,r4,dM,dA,dB,AP (show i<9223372036854775807 by omega),AP (show k<9223372036854775807 by omega)]))
      obtain ⟨cap',hah,hc'⟩:=Ji ((((hat.upd (k:=b10) (x:=some (.box 136 [.d (.int .i64 0),.d (.int .i64 0),.d (.int .i64 0)])) q1 q3).upd (k:=b11) (x:=some (.box 136 [.d (.int .i64 0),.d (.int .i64 0),.d (.int .i64 0)])) r1 r3').upd (k:=b10) (x:=some (.box 136 [.d (.int .i64 x.f),.d (.int .i64 x.t),.d (.int .i64 x.v)])) q1 q3).upd (k:=b11) (x:=some (.box 136 [.d (.int .i64 y.f),.d (.int .i64 y.t),.d (.int .i64 y.v)])) r1 r3')
      refine Ad ⟨i+1,k+1,c,cap',R,w⟩ ⟨by show i+1≤a.length; omega,by show k+1≤b.length; omega,by show R.length≤i+1+(k+1); omega,?_,?_,hc⟩ (by show a.length+b.length-(i+1)-(k+1)<a.length+b.length-i-k; omega) rfl ?_ ?_
      ·show Er g a b (a.length+b.length-(i+1)-(k+1)) (i+1) (k+1) _=_
       rw [←hR]
       try rw [show a.length+b.length-i-k-1=a.length+b.length-(i+1)-(k+1) by omega]
       try (rw [show a.length+b.length-i-k-1=(a.length+b.length-(i+1)-(k+1))+1 by omega,Hd _ _ _ _ (by omega)])
      ·show FM bad a b (a.length+b.length-(i+1)-(k+1)) (i+1) (k+1) _=_
       rw [←hW]
       try rw [show a.length+b.length-i-k-1=a.length+b.length-(i+1)-(k+1) by omega]
       try (rw [show a.length+b.length-i-k-1=(a.length+b.length-(i+1)-(k+1))+1 by omega,Jn _ _ _ _ (by omega)])
      ·simp -implicitDefEqProofs -proj only [go_sem,seval,AM,Gj,Gd]
      ·rw [FK,hrest]
       simp -implicitDefEqProofs only [FK]
       exact ⟨hah,⟨((AE u6).trans ((AE t6).trans ((AE u6).trans ((AE t6).trans h6)))),((AE u3).trans ((AE t3).trans ((AE u3).trans ((AE t3).trans h3)))),((AE u4).trans ((AE t4).trans ((AE u4).trans ((AE t4).trans h4)))),((AE uf).trans ((AE tf).trans ((AE uf).trans ((AE tf).trans hf)))),((AE up).trans ((AE tp).trans ((AE up).trans ((AE tp).trans hp)))),((AE uo).trans ((AE to').trans ((AE uo).trans ((AE to').trans ho)))),trivial⟩,He.2 fun p hp'=>(AE (um p hp')).trans ((AE (tm p hp')).trans ((AE (um p hp')).trans ((AE (tm p hp')).trans (hm p hp'))))⟩
    ·by_cases hM:max x.f y.f≤min x.t y.t
     ·rw [if_pos hA,if_neg hB,if_pos hM] at hR hW
      have dM:=decide_eq_true hM
      have dA:=decide_eq_true hA
      have dB:=decide_eq_false hB
      simp -implicitDefEqProofs -proj only [go_sem,seval,h3,h4,rowR_len,q1,q2,r1,r2,r3,r4,dM,dA,dB,AP (show i<9223372036854775807 by omega),AP (show k<9223372036854775807 by omega)]
      (repeat' (with_reducible refine Ae ?_ (fun h=>?_); (focus first | decide | omega); clear h; try simp -implicitDefEqProofs -proj only [go_sem,seval,eq_self,h3,h4,rowR_len,q1,q2,r1,r2,r3,r4,dM,dA,dB,AP (show i<9223372036854775807 by omega),AP (show k<9223372036854775807 by omega)]))
      have hnote:=fun z1 z2 z zz=>hgg w (upd (upd (upd (upd H b10 z1) b11 z2) b10 z) b11 zz) (by rw [AE uf,AE tf,AE uf,AE tf]; exact hf) (by rw [AE up,AE tp,AE up,AE tp]; exact hp) (by rw [AE uo,AE to',AE uo,AE to']; exact ho) (fun p hp'=>by rw [AE (um p hp'),AE (tm p hp'),AE (um p hp'),AE (tm p hp')]; exact hm p hp')
      refine En (hnote _ _ _ _) (fun rr H' hk=>?_)
      obtain ⟨rfl,rfl⟩:=hk
      simp -implicitDefEqProofs -proj only [go_sem,seval,h3,h4,rowR_len,q1,q2,r1,r2,r3,r4,dM,dA,dB,AP (show i<9223372036854775807 by omega),AP (show k<9223372036854775807 by omega),vf,wf]
      have hput:=fun z1 z2 z ww zz=>M3 (r:=⟨max x.f y.f,min x.t y.t,g x.v y.v⟩) (((((hat.upd (k:=b10) (x:=z1) q1 q3).upd (k:=b11) (x:=z2) r1 r3').upd (k:=b10) (x:=z) q1 q3).upd (k:=b11) (x:=ww) r1 r3').upd (k:=bf) (x:=zz) fa' (fun h e=>(hc h).2.2.2.2.1 e.symm)) (by omega)
      refine En (hput _ _ _ _ _) (fun rr H' hk=>?_)
      obtain ⟨c',hat',hfr⟩:=hk
      have g6:=hfr b6 _ n8 (fun h e=>(hc h).2.1 e.symm) (by rw [AE c7,AE u6,AE t6,AE u6,AE t6]; exact h6)
      have g3:=hfr b3 _ p4 (fun h e=>(hc h).2.2.1 e.symm) (by rw [AE c1,AE u3,AE t3,AE u3,AE t3]; exact h3)
      have g4:=hfr b4 _ p2 (fun h e=>(hc h).2.2.2.1 e.symm) (by rw [AE c4,AE u4,AE t4,AE u4,AE t4]; exact h4)
      have gf:=hfr bf _ fa' (fun h e=>(hc h).2.2.2.2.1 e.symm) upd_eq
      have gp:=hfr bp _ fb' (fun h e=>(hc h).2.2.2.2.2.1 e.symm) (by rw [AE d1,AE up,AE tp,AE up,AE tp]; exact hp)
      have go:=hfr bo _ fc' (fun h e=>(hc h).2.2.2.2.2.2.1 e.symm) (by rw [AE d2,AE uo,AE to',AE uo,AE to']; exact ho)
      have gm:=fun p hp'=>hfr p.1 _ (m7' p hp') (fun h e=>(hc h).2.2.2.2.2.2.2 p hp' e.symm) (by rw [AE (fun e=>(hmx p hp').1 e.symm),AE (um p hp'),AE (tm p hp'),AE (um p hp'),AE (tm p hp')]; exact hm p hp')
      have g10:=hfr b10 _ q1 q3 (by rw [AE vf,AE r3,upd_eq])
      have g11:=hfr b11 _ r1 r3' (by rw [AE wf,upd_eq])
      obtain ⟨cap',hah,hc'⟩:=Ji hat'
      simp -implicitDefEqProofs -proj only [go_sem,seval,h3,h4,rowR_len,q1,q2,r1,r2,r3,r4,dM,dA,dB,AP (show i<9223372036854775807 by omega),AP (show k<9223372036854775807 by omega),g10.1,g11.1,eq_self]
      have hRR:A6 R ⟨max x.f y.f,min x.t y.t,g x.v y.v⟩≠[]:=Kw
      have hll:=@GV R ⟨max x.f y.f,min x.t y.t,g x.v y.v⟩
      refine Ad ⟨i+1,k,c',cap',A6 R ⟨max x.f y.f,min x.t y.t,g x.v y.v⟩,(w||bad x.v y.v)⟩ ⟨by show i+1≤a.length; omega,by show k≤b.length; omega,by show (A6 R _).length≤i+1+(k); omega,?_,?_,fun h=>⟨hc' h,fun e=>g6.2 e.symm,fun e=>g3.2 e.symm,fun e=>g4.2 e.symm,fun e=>gf.2 e.symm,fun e=>gp.2 e.symm,fun e=>go.2 e.symm,fun p hp' e=>(gm p hp').2 e.symm⟩⟩ (by show a.length+b.length-(i+1)-(k)<a.length+b.length-i-k; omega) rfl ?_ ?_
      ·show Er g a b (a.length+b.length-(i+1)-(k)) (i+1) (k) _=_
       rw [←hR]
       try rw [show a.length+b.length-i-k-1=a.length+b.length-(i+1)-(k) by omega]
       try (rw [show a.length+b.length-i-k-1=(a.length+b.length-(i+1)-(k+1))+1 by omega,Hd _ _ _ _ (by omega)])
      ·show FM bad a b (a.length+b.length-(i+1)-(k)) (i+1) (k) _=_
       rw [←hW]
       try rw [show a.length+b.length-i-k-1=a.length+b.length-(i+1)-(k) by omega]
       try (rw [show a.length+b.length-i-k-1=(a.length+b.length-(i+1)-(k+1))+1 by omega,Jn _ _ _ _ (by omega)])
      ·simp -implicitDefEqProofs -proj only [go_sem,seval,AM,Gj,Gd]
      ·rw [FK,hrest]
       simp -implicitDefEqProofs only [FK]
       exact ⟨hah,⟨g6.1,g3.1,g4.1,gf.1,gp.1,go.1,trivial⟩,He.2 fun p hp'=>(gm p hp').1⟩
     ·rw [if_pos hA,if_neg hB,if_neg hM] at hR hW
      have dM:=decide_eq_false hM
      have dA:=decide_eq_true hA
      have dB:=decide_eq_false hB
      simp -implicitDefEqProofs -proj only [go_sem,seval,h3,h4,rowR_len,q1,q2,r1,r2,r3,r4,dM,dA,dB,AP (show i<9223372036854775807 by omega),AP (show k<9223372036854775807 by omega)]
      (repeat' (with_reducible refine Ae ?_ (fun h=>?_); (focus first | decide | omega); clear h; try simp -implicitDefEqProofs -proj only [go_sem,seval,eq_self,h3,h4,rowR_len,q1,q2,r1,r2,r3,r4,dM,dA,dB,AP (show i<9223372036854775807 by omega),AP (show k<9223372036854775807 by omega)]))
      obtain ⟨cap',hah,hc'⟩:=Ji ((((hat.upd (k:=b10) (x:=some (.box 136 [.d (.int .i64 0),.d (.int .i64 0),.d (.int .i64 0)])) q1 q3).upd (k:=b11) (x:=some (.box 136 [.d (.int .i64 0),.d (.int .i64 0),.d (.int .i64 0)])) r1 r3').upd (k:=b10) (x:=some (.box 136 [.d (.int .i64 x.f),.d (.int .i64 x.t),.d (.int .i64 x.v)])) q1 q3).upd (k:=b11) (x:=some (.box 136 [.d (.int .i64 y.f),.d (.int .i64 y.t),.d (.int .i64 y.v)])) r1 r3')
      refine Ad ⟨i+1,k,c,cap',R,w⟩ ⟨by show i+1≤a.length; omega,by show k≤b.length; omega,by show R.length≤i+1+(k); omega,?_,?_,hc⟩ (by show a.length+b.length-(i+1)-(k)<a.length+b.length-i-k; omega) rfl ?_ ?_
      ·show Er g a b (a.length+b.length-(i+1)-(k)) (i+1) (k) _=_
       rw [←hR]
       try rw [show a.length+b.length-i-k-1=a.length+b.length-(i+1)-(k) by omega]
       try (rw [show a.length+b.length-i-k-1=(a.length+b.length-(i+1)-(k+1))+1 by omega,Hd _ _ _ _ (by omega)])
      ·show FM bad a b (a.length+b.length-(i+1)-(k)) (i+1) (k) _=_
       rw [←hW]
       try rw [show a.length+b.length-i-k-1=a.length+b.length-(i+1)-(k) by omega]
       try (rw [show a.length+b.length-i-k-1=(a.length+b.length-(i+1)-(k+1))+1 by omega,Jn _ _ _ _ (by omega)])
      ·simp -implicitDefEqProofs -proj only [go_sem,seval,AM,Gj,Gd]
      ·rw [FK,hrest]
       simp -implicitDefEqProofs only [FK]
       exact ⟨hah,⟨((AE u6).trans ((AE t6).trans ((AE u6).trans ((AE t6).trans h6)))),((AE u3).trans ((AE t3).trans ((AE u3).trans ((AE t3).trans h3)))),((AE u4).trans ((AE t4).trans ((AE u4).trans ((AE t4).trans h4)))),((AE uf).trans ((AE tf).trans ((AE uf).trans ((AE tf).trans hf)))),((AE up).trans ((AE tp).trans ((AE up).trans ((AE tp).trans hp)))),((AE uo).trans ((AE to').trans ((AE uo).trans ((AE to').trans ho)))),trivial⟩,He.2 fun p hp'=>(AE (um p hp')).trans ((AE (tm p hp')).trans ((AE (um p hp')).trans ((AE (tm p hp')).trans (hm p hp'))))⟩
   ·have hB:y.t≤x.t:=by omega
    by_cases hM:max x.f y.f≤min x.t y.t
    ·rw [if_neg hA,if_pos hB,if_pos hM] at hR hW
     have dM:=decide_eq_true hM
     have dA:=decide_eq_false hA
     have dB:=decide_eq_true hB
     simp -implicitDefEqProofs -proj only [go_sem,seval,h3,h4,rowR_len,q1,q2,r1,r2,r3,r4,dM,dA,dB,AP (show i<9223372036854775807 by omega),AP (show k<9223372036854775807 by omega)]
     (repeat' (with_reducible refine Ae ?_ (fun h=>?_); (focus first | decide | omega); clear h; try simp -implicitDefEqProofs -proj only [go_sem,seval,eq_self,h3,h4,rowR_len,q1,q2,r1,r2,r3,r4,dM,dA,dB,AP (show i<9223372036854775807 by omega),AP (show k<9223372036854775807 by omega)]))
     have hnote:=fun z1 z2 z zz=>hgg w (upd (upd (upd (upd H b10 z1) b11 z2) b10 z) b11 zz) (by rw [AE uf,AE tf,AE uf,AE tf]; exact hf) (by rw [AE up,AE tp,AE up,AE tp]; exact hp) (by rw [AE uo,AE to',AE uo,AE to']; exact ho) (fun p hp'=>by rw [AE (um p hp'),AE (tm p hp'),AE (um p hp'),AE (tm p hp')]; exact hm p hp')
     refine En (hnote _ _ _ _) (fun rr H' hk=>?_)
     obtain ⟨rfl,rfl⟩:=hk
     simp -implicitDefEqProofs -proj only [go_sem,seval,h3,h4,rowR_len,q1,q2,r1,r2,r3,r4,dM,dA,dB,AP (show i<9223372036854775807 by omega),AP (show k<9223372036854775807 by omega),vf,wf]
     have hput:=fun z1 z2 z ww zz=>M3 (r:=⟨max x.f y.f,min x.t y.t,g x.v y.v⟩) (((((hat.upd (k:=b10) (x:=z1) q1 q3).upd (k:=b11) (x:=z2) r1 r3').upd (k:=b10) (x:=z) q1 q3).upd (k:=b11) (x:=ww) r1 r3').upd (k:=bf) (x:=zz) fa' (fun h e=>(hc h).2.2.2.2.1 e.symm)) (by omega)
     refine En (hput _ _ _ _ _) (fun rr H' hk=>?_)
     obtain ⟨c',hat',hfr⟩:=hk
     have g6:=hfr b6 _ n8 (fun h e=>(hc h).2.1 e.symm) (by rw [AE c7,AE u6,AE t6,AE u6,AE t6]; exact h6)
     have g3:=hfr b3 _ p4 (fun h e=>(hc h).2.2.1 e.symm) (by rw [AE c1,AE u3,AE t3,AE u3,AE t3]; exact h3)
     have g4:=hfr b4 _ p2 (fun h e=>(hc h).2.2.2.1 e.symm) (by rw [AE c4,AE u4,AE t4,AE u4,AE t4]; exact h4)
     have gf:=hfr bf _ fa' (fun h e=>(hc h).2.2.2.2.1 e.symm) upd_eq
     have gp:=hfr bp _ fb' (fun h e=>(hc h).2.2.2.2.2.1 e.symm) (by rw [AE d1,AE up,AE tp,AE up,AE tp]; exact hp)
     have go:=hfr bo _ fc' (fun h e=>(hc h).2.2.2.2.2.2.1 e.symm) (by rw [AE d2,AE uo,AE to',AE uo,AE to']; exact ho)
     have gm:=fun p hp'=>hfr p.1 _ (m7' p hp') (fun h e=>(hc h).2.2.2.2.2.2.2 p hp' e.symm) (by rw [AE (fun e=>(hmx p hp').1 e.symm),AE (um p hp'),AE (tm p hp'),AE (um p hp'),AE (tm p hp')]; exact hm p hp')
     have g10:=hfr b10 _ q1 q3 (by rw [AE vf,AE r3,upd_eq])
     have g11:=hfr b11 _ r1 r3' (by rw [AE wf,upd_eq])
     obtain ⟨cap',hah,hc'⟩:=Ji hat'
     simp -implicitDefEqProofs -proj only [go_sem,seval,h3,h4,rowR_len,q1,q2,r1,r2,r3,r4,dM,dA,dB,AP (show i<9223372036854775807 by omega),AP (show k<9223372036854775807 by omega),g10.1,g11.1,eq_self]
     have hRR:A6 R ⟨max x.f y.f,min x.t y.t,g x.v y.v⟩≠[]:=Kw
     have hll:=@GV R ⟨max x.f y.f,min x.t y.t,g x.v y.v⟩
     refine Ad ⟨i,k+1,c',cap',A6 R ⟨max x.f y.f,min x.t y.t,g x.v y.v⟩,(w||bad x.v y.v)⟩ ⟨by show i≤a.length; omega,by show k+1≤b.length; omega,by show (A6 R _).length≤i+(k+1); omega,?_,?_,fun h=>⟨hc' h,fun e=>g6.2 e.symm,fun e=>g3.2 e.symm,fun e=>g4.2 e.symm,fun e=>gf.2 e.symm,fun e=>gp.2 e.symm,fun e=>go.2 e.symm,fun p hp' e=>(gm p hp').2 e.symm⟩⟩ (by show a.length+b.length-(i)-(k+1)<a.length+b.length-i-k; omega) rfl ?_ ?_
     ·show Er g a b (a.length+b.length-(i)-(k+1)) (i) (k+1) _=_
      rw [←hR]
      try rw [show a.length+b.length-i-k-1=a.length+b.length-(i)-(k+1) by omega]
      try (rw [show a.length+b.length-i-k-1=(a.length+b.length-(i+1)-(k+1))+1 by omega,Hd _ _ _ _ (by omega)])
     ·show FM bad a b (a.length+b.length-(i)-(k+1)) (i) (k+1) _=_
      rw [←hW]
      try rw [show a.length+b.length-i-k-1=a.length+b.length-(i)-(k+1) by omega]
      try (rw [show a.length+b.length-i-k-1=(a.length+b.length-(i+1)-(k+1))+1 by omega,Jn _ _ _ _ (by omega)])
     ·simp -implicitDefEqProofs -proj only [go_sem,seval,AM,Gj,Gd]
     ·rw [FK,hrest]
      simp -implicitDefEqProofs only [FK]
      exact ⟨hah,⟨g6.1,g3.1,g4.1,gf.1,gp.1,go.1,trivial⟩,He.2 fun p hp'=>(gm p hp').1⟩
    ·rw [if_neg hA,if_pos hB,if_neg hM] at hR hW
     have dM:=decide_eq_false hM
     have dA:=decide_eq_false hA
     have dB:=decide_eq_true hB
     simp -implicitDefEqProofs -proj only [go_sem,seval,h3,h4,rowR_len,q1,q2,r1,r2,r3,r4,dM,dA,dB,AP (show i<9223372036854775807 by omega),AP (show k<9223372036854775807 by omega)]
     (repeat' (with_reducible refine Ae ?_ (fun h=>?_); (focus first | decide | omega); clear h; try simp -implicitDefEqProofs -proj only [go_sem,seval,eq_self,h3,h4,rowR_len,q1,q2,r1,r2,r3,r4,dM,dA,dB,AP (show i<9223372036854775807 by omega),AP (show k<9223372036854775807 by omega)]))
     obtain ⟨cap',hah,hc'⟩:=Ji ((((hat.upd (k:=b10) (x:=some (.box 136 [.d (.int .i64 0),.d (.int .i64 0),.d (.int .i64 0)])) q1 q3).upd (k:=b11) (x:=some (.box 136 [.d (.int .i64 0),.d (.int .i64 0),.d (.int .i64 0)])) r1 r3').upd (k:=b10) (x:=some (.box 136 [.d (.int .i64 x.f),.d (.int .i64 x.t),.d (.int .i64 x.v)])) q1 q3).upd (k:=b11) (x:=some (.box 136 [.d (.int .i64 y.f),.d (.int .i64 y.t),.d (.int .i64 y.v)])) r1 r3')
     refine Ad ⟨i,k+1,c,cap',R,w⟩ ⟨by show i≤a.length; omega,by show k+1≤b.length; omega,by show R.length≤i+(k+1); omega,?_,?_,hc⟩ (by show a.length+b.length-(i)-(k+1)<a.length+b.length-i-k; omega) rfl ?_ ?_
     ·show Er g a b (a.length+b.length-(i)-(k+1)) (i) (k+1) _=_
      rw [←hR]
      try rw [show a.length+b.length-i-k-1=a.length+b.length-(i)-(k+1) by omega]
      try (rw [show a.length+b.length-i-k-1=(a.length+b.length-(i+1)-(k+1))+1 by omega,Hd _ _ _ _ (by omega)])
     ·show FM bad a b (a.length+b.length-(i)-(k+1)) (i) (k+1) _=_
      rw [←hW]
      try rw [show a.length+b.length-i-k-1=a.length+b.length-(i)-(k+1) by omega]
      try (rw [show a.length+b.length-i-k-1=(a.length+b.length-(i+1)-(k+1))+1 by omega,Jn _ _ _ _ (by omega)])
     ·simp -implicitDefEqProofs -proj only [go_sem,seval,AM,Gj,Gd]
     ·rw [FK,hrest]
      simp -implicitDefEqProofs only [FK]
      exact ⟨hah,⟨((AE u6).trans ((AE t6).trans ((AE u6).trans ((AE t6).trans h6)))),((AE u3).trans ((AE t3).trans ((AE u3).trans ((AE t3).trans h3)))),((AE u4).trans ((AE t4).trans ((AE u4).trans ((AE t4).trans h4)))),((AE uf).trans ((AE tf).trans ((AE uf).trans ((AE tf).trans hf)))),((AE up).trans ((AE tp).trans ((AE up).trans ((AE tp).trans hp)))),((AE uo).trans ((AE to').trans ((AE uo).trans ((AE to').trans ho)))),trivial⟩,He.2 fun p hp'=>(AE (um p hp')).trans ((AE (tm p hp')).trans ((AE (um p hp')).trans ((AE (tm p hp')).trans (hm p hp'))))⟩
  ·have hz:Er g a b (a.length+b.length-i-k) i k R=R:=by
    generalize a.length+b.length-i-k=n
    cases n with
    | zero=>rfl
    | succ n =>
     rw [Er]
     by_cases h1:i<a.length
     ·rw [List.getElem?_eq_none (l:=b) (by omega)]
      split <;> first | rfl | simp_all
     ·rw [List.getElem?_eq_none (l:=a) (by omega)]
   have hz2:FM bad a b (a.length+b.length-i-k) i k w=w:=by
    generalize a.length+b.length-i-k=n
    cases n with
    | zero=>rfl
    | succ n =>
     rw [FM]
     by_cases h1:i<a.length
     ·rw [List.getElem?_eq_none (l:=b) (by omega)]
      split <;> first | rfl | simp_all
     ·rw [List.getElem?_eq_none (l:=a) (by omega)]
   obtain ⟨v,hv,hl,_⟩:=hat.read
   obtain ⟨v2,hv2,hl2,_⟩:=(hat.upd (k:=b6) (x:=some (.box 104 [v])) n8 (fun h e=>(hc h).2.1 e.symm)).read
   rw [AE n8,hv] at hv2
   cases hv2
   rw [←hR,hz,←hW,hz2]
   by_cases h1:i<a.length
   ·have h2:¬(k:Int)<b.length:=by omega
    simp -implicitDefEqProofs -proj only [go_sem,seval,Gj,Gd,h3,h4,h6,hv,rowR_len,decide_eq_true (show (i:Int)<a.length by omega),decide_eq_false h2]
    (repeat' (with_reducible refine Ae ?_ (fun h=>?_); (focus first | decide | omega); clear h; try simp -implicitDefEqProofs -proj only [go_sem,seval,eq_self,Gj,Gd,h3,h4,h6,hv,rowR_len,decide_eq_true (show (i:Int)<a.length by omega),decide_eq_false h2]))
    exact ⟨L3 hl2,(AE f7).trans hf,(AE f8).trans hp⟩
   ·simp -implicitDefEqProofs -proj only [go_sem,seval,Gj,Gd,h3,h4,h6,hv,rowR_len,decide_eq_false (show ¬(i:Int)<a.length by omega)]
    (repeat' (with_reducible refine Ae ?_ (fun h=>?_); (focus first | decide | omega); clear h; try simp -implicitDefEqProofs -proj only [go_sem,seval,eq_self,Gj,Gd,h3,h4,h6,hv,rowR_len,decide_eq_false (show ¬(i:Int)<a.length by omega)]))
    exact ⟨L3 hl2,(AE f7).trans hf,(AE f8).trans hp⟩
def Jj (f t:Int) (a b:List Int):Nat:=(min (f+a.length) (t+b.length)-max f t).toNat
def G6 (g:Int→Int→Int) (f t:Int) (a b:List Int):List Int:=(List.range (Jj f t a b)).map fun (i:Nat)=>g (Iw f a (max f t+(i:Int))) (Iw t b (max f t+(i:Int)))
theorem Mx {g:Int→Int→Int} {f t:Int} {a b:List Int}:(G6 g f t a b).length=Jj f t a b:=by simp [G6]
theorem AJx {g:Int→Int→Int} {f t:Int} {a b:List Int}:Er g (BG f a) (BG t b) ((BG f a).length+(BG t b).length) 0 0 []=BG (max f t) (G6 g f t a b):=by
 have hA:=IR f a
 have hB:=IR t b
 have h:=RA hA hB g ((BG f a).length+(BG t b).length) 0 0 [] (by omega) (by rw [Il hA,Il hB]; rfl) (by rw [Il hA,Il hB]; exact .inl rfl)
 refine Oa (val:=fun x=>g (Iw f a x) (Iw t b x)) ?_ fun i hi=>?_
 ·rw [Mx,show max f t+(Jj f t a b:Int)=max (max f t) (min (f+a.length) (t+b.length)) by unfold Jj; omega]
  exact h
 ·simp [G6]
theorem Kr {a b:Int} (ha:Fit a) (hb:Fit b):DataW Tryz.prog Lv [i64 a,i64 b] (FX (a+b)):=by
 refine AX Yo (by simp) ?_
 simp -implicitDefEqProofs -proj only [go_sem,seval]
 (repeat' first
  | ((with_reducible first | refine EA (fun h=>?_) (fun h=>?_) | refine BJ (fun h=>?_) (fun h=>?_) | refine EC (fun h=>?_) (fun h=>?_)) <;> (simp -implicitDefEqProofs -proj only [go_sem,seval, *]; try (revert h; intro _)))
  | ((with_reducible first | refine AK (fun _ hb=>?_) | refine As (fun _ hb=>?_)); simp only [EB,ED,Aa,Heap.none_get,and_true,true_and] at hb; simp -implicitDefEqProofs -proj only [go_sem,seval, *]; try (revert hb; intro _))
  | ((with_reducible first | refine D5 _ rfl (by simp) ?_ | refine D8 _ rfl (by simp) ?_); simp -implicitDefEqProofs -proj only [go_sem,seval, *])
  | (with_reducible refine Ae ?_ (fun h=>?_); first | ((focus first | decide | omega); try clear h; try simp -implicitDefEqProofs -proj only [go_sem,seval, *]) | (rotate_left; try clear h; try simp -implicitDefEqProofs -proj only [go_sem,seval, *]; rotate_right)))
 all_goals
  simp -implicitDefEqProofs only [decide_eq_true_eq,decide_eq_false_iff_not,IntKind.wrap_i64] at *
  refine AH (Ir ?_)
  simp -implicitDefEqProofs only [Bool.false_eq_true,reduceCtorEq,true_and,false_and,or_false,false_or]
  unfold Fit at *
  omega
theorem QD {a b:Int} (ha:Fit a) (hb:Fit b):DataW Tryz.prog AGF [i64 a,i64 b] (FX (a-b)):=by
 refine AX UX (by simp) ?_
 simp -implicitDefEqProofs -proj only [go_sem,seval]
 (repeat' first
  | ((with_reducible first | refine EA (fun h=>?_) (fun h=>?_) | refine BJ (fun h=>?_) (fun h=>?_) | refine EC (fun h=>?_) (fun h=>?_)) <;> (simp -implicitDefEqProofs -proj only [go_sem,seval, *]; try (revert h; intro _)))
  | ((with_reducible first | refine AK (fun _ hb=>?_) | refine As (fun _ hb=>?_)); simp only [EB,ED,Aa,Heap.none_get,and_true,true_and] at hb; simp -implicitDefEqProofs -proj only [go_sem,seval, *]; try (revert hb; intro _))
  | ((with_reducible first | refine D5 _ rfl (by simp) ?_ | refine D8 _ rfl (by simp) ?_); simp -implicitDefEqProofs -proj only [go_sem,seval, *])
  | (with_reducible refine Ae ?_ (fun h=>?_); first | ((focus first | decide | omega); try clear h; try simp -implicitDefEqProofs -proj only [go_sem,seval, *]) | (rotate_left; try clear h; try simp -implicitDefEqProofs -proj only [go_sem,seval, *]; rotate_right)))
 all_goals
  simp -implicitDefEqProofs only [decide_eq_true_eq,decide_eq_false_iff_not,IntKind.wrap_i64] at *
  refine AH (Ir ?_)
  simp -implicitDefEqProofs only [Bool.false_eq_true,reduceCtorEq,true_and,false_and,or_false,false_or]
  unfold Fit at *
  omega
theorem SC {a b:Int} (_ha:Fit a) (hb:Fit b) (h0:b≠0) (h1:b≠-1):IntKind.i64.wrap (Int.tdiv (IntKind.i64.wrap (a*b)) b)=a↔Fit (a*b):=by
 have hp:Fit (IntKind.i64.wrap (a*b)):=by rw [wI]; unfold Fit; omega
 have hpe:Fit (a*b)→IntKind.i64.wrap (a*b)=a*b:=Pe
 have hpn:∃c:Int,IntKind.i64.wrap (a*b)=a*b+c*18446744073709551616:=⟨-((a*b+9223372036854775808) / 18446744073709551616),by rw [wI]; omega⟩
 generalize IntKind.i64.wrap (a*b)=p at *
 have hm:Int.natAbs (Int.tmod p b)<Int.natAbs b:=by
  rw [Int.natAbs_tmod]; exact Nat.mod_lt _ (by omega)
 have hd:=Int.mul_tdiv_add_tmod p b
 have hq:Fit (Int.tdiv p b):=by
  unfold Fit at *
  by_cases e1:b=1
  ·subst e1; rw [Int.tdiv_one]; exact hp
  have h3:Int.natAbs (Int.tdiv p b)≤p.natAbs / 2:=by
   rw [Int.natAbs_tdiv]; exact Nat.div_le_div_left (by omega) (by omega)
  omega
 rw [Pe hq]
 constructor
 ·intro e
  rw [e,Int.mul_comm b a] at hd
  unfold Fit at *
  generalize Int.tmod p b=t at *
  generalize a*b=m at *
  omega
 ·intro f
  rw [hpe f]; exact Int.mul_tdiv_cancel a h0
theorem ADp {a b:Int} (ha:Fit a) (hb:Fit b):DataW Tryz.prog AJI [i64 a,i64 b] (FX (a*b)):=by
 have f0:Fit 0:=by decide
 refine AX ZJ (by simp) ?_
 simp -implicitDefEqProofs -proj only [go_sem,seval]
 (repeat' first
  | ((with_reducible first | refine EA (fun h=>?_) (fun h=>?_) | refine BJ (fun h=>?_) (fun h=>?_) | refine EC (fun h=>?_) (fun h=>?_)) <;> (simp -implicitDefEqProofs -proj only [go_sem,seval, *]; try (revert h; intro _)))
  | ((with_reducible first | refine AK (fun _ hb=>?_) | refine As (fun _ hb=>?_)); simp only [EB,ED,Aa,Heap.none_get,and_true,true_and] at hb; simp -implicitDefEqProofs -proj only [go_sem,seval, *]; try (revert hb; intro _))
  | ((with_reducible first | refine D5 _ rfl (by simp) ?_ | refine D8 _ rfl (by simp) ?_); simp -implicitDefEqProofs -proj only [go_sem,seval, *])
  | (with_reducible refine Ae ?_ (fun h=>?_); first | ((focus first | decide | omega); try clear h; try simp -implicitDefEqProofs -proj only [go_sem,seval, *]) | (rotate_left; try clear h; try simp -implicitDefEqProofs -proj only [go_sem,seval, *]; rotate_right)))
 all_goals simp -implicitDefEqProofs only [decide_eq_true_eq,decide_eq_false_iff_not] at *
 ·next h=>subst h; exact AH (Ir (.inl ⟨rfl,by simp,by simpa using f0⟩))
 ·next h=>subst h; exact AH (Ir (.inl ⟨rfl,by simp,by simpa using f0⟩))
 ·next h =>
  subst h
  refine AJ (QD f0 hb) ?_
  simp -implicitDefEqProofs -proj only [go_sem,seval,FX]
  exact AH (by rw [show (0:Int)-b = -1*b by omega])
 ·next h =>
  subst h
  refine AJ (QD f0 ha) ?_
  simp -implicitDefEqProofs -proj only [go_sem,seval,FX]
  exact AH (by rw [show (0:Int)-a=a * -1 by omega])
 ·next h1 h2 h3 h4 h =>
  rw [SC ha hb h2 h4] at h
  exact AH (Ir (.inl ⟨rfl,Pe h,h⟩))
 ·next h1 h2 h3 h4 h =>
  rw [SC ha hb h2 h4] at h
  exact AH (Ir (.inr ⟨rfl,rfl,h⟩))
 ·assumption
theorem ASW {H:Heap} {bf:Nat} {w ok:Bool} {n:Int} (hf:H bf=some (IA w)):CallW Tryz.prog APX [.ptr bf 0,i64 n,bv ok] H fun r H'=>r=i64 n∧H'=upd H bf (some (IA (w||!ok))):=by
 refine AX VO (by simp) ?_
 cases w
 ·simp -implicitDefEqProofs -proj only [go_sem,seval,hf]
  first | rfl | simp | exact ⟨rfl,by simp⟩
 ·simp -implicitDefEqProofs -proj only [go_sem,seval,hf]
  first | rfl | simp | exact ⟨rfl,by simp⟩
def MF (of:FuncId) (caps:List AV) (more:List (Nat×Blk)) (u v:Int) (r:AV):Prop:=∀H:Heap,(∀p∈more,H p.1=some p.2)→CallW Tryz.prog of ([i64 u,i64 v]++caps) H fun r' H'=>r'=r∧H'=H
theorem AIq {of:FuncId} {more:List (Nat×Blk)} {u v:Int} {r:AV} (h:DataW Tryz.prog of [i64 u,i64 v] r):MF of [] more u v r:=fun H _=>OK h (LendL.refl _) ⟨rfl,rfl⟩
theorem ANR {of:FuncId} {caps:List AV} {more:List (Nat×Blk)} {bf bp bo:Nat} {g:Int→Int→Int} {bad:Int→Int→Bool} {u v:Int} (hof:MF of caps more u v (.tup [i64 (g u v),bv (!bad u v)])):QJ QM bf bp bo of caps more g bad u v:=by
 intro w H hf hp ho hm
 refine AX AMv (by simp) ?_
 simp -implicitDefEqProofs -proj only [go_sem,seval,hp,ho]
 refine Qa (hof H hm) (fun r H' hk=>?_)
 obtain ⟨rfl,rfl⟩:=hk
 refine ⟨fun _ _ _ _ _ _ _ h=>h,?_⟩
 simp -implicitDefEqProofs -proj only [go_sem,seval]
 refine En (ASW hf) (fun r H' hk=>?_)
 obtain ⟨rfl,rfl⟩:=hk
 simp -implicitDefEqProofs -proj only [go_sem,seval]
 first | rfl | simp | exact ⟨rfl,by simp⟩
def LineX (H:Heap) (x:AV) (R:List Run):Prop:=(∃sz,x = .nilsl sz∧R=[])∨∃c cap cap' t,x = .own c 3 0 R.length cap∧H c=some (.row t 3 cap' (ER R))
theorem AGR {H:Heap} {r:AV} {R:List Run} (h:NewV H r (Gn R)):∃x,r = .agg [x]∧LineX H x R:=by
 obtain ⟨y,hy⟩:∃y,Gn R=y:=⟨_,rfl⟩
 rw [hy] at h
 cases h with
 | scal _ hs=>rw [←hy] at hs; simp [JI,scal,Gr] at hs
 | nilsl=>cases hy
 | own=>cases hy
 | tup=>cases hy
 | agg xs ys hl h =>
  cases hy
  match xs,hl with
  | [x],_ =>
   refine ⟨x,rfl,?_⟩
   have h0:=h 0 x _ rfl rfl
   obtain ⟨z,hz⟩:∃z,AV.d (D.sl 3 (ER R))=z:=⟨_,rfl⟩
   rw [hz] at h0
   cases h0 with
   | scal _ hs=>rw [←hz] at hs; simp [JI,scal,Gr] at hs
   | nilsl sz sz' =>
    refine .inl ⟨sz,rfl,?_⟩
    simp -implicitDefEqProofs only [AV.d.injEq,D.sl.injEq] at hz
    exact List.map_eq_nil_iff.1 hz.2
   | own b sz cap t cap' xs hb hs =>
    simp -implicitDefEqProofs only [AV.d.injEq,D.sl.injEq] at hz
    obtain ⟨rfl,rfl⟩:=hz
    exact .inr ⟨b,cap,cap',t,by rw [rowR_len],hb⟩
   | agg=>cases hz
   | tup=>cases hz
theorem LineX.mono {H H':Heap} {x:AV} {R:List Run} (h:LineX H x R) (hs:∀k y,H k=some y→H' k=some y):LineX H' x R:=by
 rcases h with h | ⟨c,cap,cap',t,h1,h2⟩
 ·exact .inl h
 ·exact .inr ⟨c,cap,cap',t,h1,hs c _ h2⟩
theorem LineX.lend {H:Heap} {x:AV} {R:List Run} (h:LineX H x R):LendV H (.agg [x]) (Gn R):=by
 refine .aggL (FE ?_ GY)
 rcases h with ⟨sz,rfl,rfl⟩ | ⟨c,cap,cap',t,rfl,h2⟩
 ·exact .nilsl _ _
 ·rw [←rowR_len]
  exact .own _ _ _ _ _ _ h2
def K1:AV:=.tup [.agg [i64 0,.nilsl 5],bv false]
open Classical in
theorem APf {H:Heap} {bf:Nat} {w:Bool} {x:AV} {l:List Int} (hf:H bf=some (IA w)) (hx:LineX H x (BG 0 l)) (hl:l.length≤999999):CallW Tryz.prog ASi [.ptr bf 0,.agg [x]] H fun r H'=>(r=if w=true then K1 else if EG l then .tup [Ev l,bv true] else .tup [Ez 0 [],bv false])∧∀k y,H k=some y→H' k=some y:=by
 have h2:=Mn (l:=l) hl
 obtain ⟨m,G,u,hu⟩:∃(m:Int) (G:List Grp) (u:Bool),(if EG l then AV.tup [Ev l,bv true] else .tup [Ez 0 [],bv false]) = .tup [Ez m G,bv u]:=by
  by_cases h:EG l
  ·rw [if_pos h]; exact ⟨_,_,_,rfl⟩
  ·rw [if_neg h]; exact ⟨_,_,_,rfl⟩
 rw [hu] at h2 ⊢
 generalize BG 0 l=R at *
 rcases hx with ⟨sz,rfl,rfl⟩ | ⟨c,cap,cap',t,rfl,hc⟩
 ·refine AX Sb (by simp) ?_
  simp -implicitDefEqProofs -proj only [go_sem,seval]
  refine AK (fun b3 hb3=>?_)
  replace hb3:H b3=none:=hb3
  obtain ⟨n1,n2⟩:=AI hb3 hf
  simp -implicitDefEqProofs -proj only [go_sem,seval]
  refine AK (fun b4 hb4=>?_)
  replace hb4:upd H b3 _ b4=none:=hb4
  obtain ⟨n3,n4⟩:=AI hb4 upd_eq
  obtain ⟨n5,n6⟩:=AI hb4 (by rw [AE n1]; exact hf)
  have hfr:∀k y,H k=some y→(¬b3=k)∧¬b4=k:=fun k y hk=>by
   have e:=AI hb3 hk
   exact ⟨e.1,(AI hb4 (by rw [AE e.1]; exact hk)).1⟩
  cases w
  ·simp -implicitDefEqProofs -proj only [go_sem,seval,n1,n2,n3,n4,n5,n6,hf]
   refine Lw h2 (FE (LineX.lend (.inl ⟨_,rfl,rfl⟩)) GY) ?_
   simp -implicitDefEqProofs -proj only [go_sem,seval,n1,n2,n3,n4,n5,n6]
   try refine ⟨rfl,?_⟩
   refine fun k y hk=>?_
   obtain ⟨e1,e2⟩:=hfr k y hk
   simp -implicitDefEqProofs only [AR,e1,e2,↓reduceIte]
   exact hk
  ·simp -implicitDefEqProofs -proj only [go_sem,seval,n1,n2,n3,n4,n5,n6,hf]
   try refine ⟨rfl,?_⟩
   refine fun k y hk=>?_
   obtain ⟨e1,e2⟩:=hfr k y hk
   simp -implicitDefEqProofs only [AR,e1,e2,↓reduceIte]
   exact hk
 ·refine AX Sb (by simp) ?_
  simp -implicitDefEqProofs -proj only [go_sem,seval]
  refine AK (fun b3 hb3=>?_)
  replace hb3:H b3=none:=hb3
  obtain ⟨n1,n2⟩:=AI hb3 hf
  simp -implicitDefEqProofs -proj only [go_sem,seval]
  refine AK (fun b4 hb4=>?_)
  replace hb4:upd H b3 _ b4=none:=hb4
  obtain ⟨n3,n4⟩:=AI hb4 upd_eq
  obtain ⟨n5,n6⟩:=AI hb4 (by rw [AE n1]; exact hf)
  have hfr:∀k y,H k=some y→(¬b3=k)∧¬b4=k:=fun k y hk=>by
   have e:=AI hb3 hk
   exact ⟨e.1,(AI hb4 (by rw [AE e.1]; exact hk)).1⟩
  obtain ⟨q1,q2⟩:=hfr c _ hc
  cases w
  ·simp -implicitDefEqProofs -proj only [go_sem,seval,n1,n2,n3,n4,n5,n6,hf]
   refine Lw h2 (FE (LineX.lend (.inr ⟨c,cap,cap',t,rfl,?_⟩)) GY) ?_
   ·show upd (upd H b3 _) b4 _ c=_
    rw [AE q2,AE q1]
    exact hc
   simp -implicitDefEqProofs -proj only [go_sem,seval,n1,n2,n3,n4,n5,n6]
   try refine ⟨rfl,?_⟩
   refine fun k y hk=>?_
   obtain ⟨e1,e2⟩:=hfr k y hk
   simp -implicitDefEqProofs only [AR,e1,e2,↓reduceIte]
   exact hk
  ·simp -implicitDefEqProofs -proj only [go_sem,seval,n1,n2,n3,n4,n5,n6,hf]
   try refine ⟨rfl,?_⟩
   refine fun k y hk=>?_
   obtain ⟨e1,e2⟩:=hfr k y hk
   simp -implicitDefEqProofs only [AR,e1,e2,↓reduceIte]
   exact hk
theorem AJe {la lb:List Int} (ha:EG la) (hb:EG lb) (hlen:la.length=lb.length):DataW Tryz.prog ACM [Ev la,Ev lb] (.tup [Gn (BG 0 la),Gn (BG 0 lb),bv true]):=by
 have g1:=RP ha
 have g2:=RP hb
 have l1:=Oc ha
 have l2:=Oc hb
 have ea:Ev la=Ez ((la.length:Int)-1) (EX la):=rfl
 have eb:Ev lb=Ez ((la.length:Int)-1) (EX lb):=by rw [hlen]
 rw [ea] at g1 l1 ⊢
 rw [eb] at g2 l2 ⊢
 clear ea eb
 generalize EX la=A at *
 generalize EX lb=B at *
 generalize BG 0 la=Ra at *
 generalize BG 0 lb=Rb at *
 generalize (la.length:Int)-1=m at *
 refine AX AMO (by simp) ?_
 simp -implicitDefEqProofs -proj only [go_sem,seval]
 refine AK (fun b2 hb2=>?_)
 simp -implicitDefEqProofs -proj only [go_sem,seval]
 refine AK (fun b3 hb3=>?_)
 replace hb3:upd Heap.none b2 _ b3=none:=hb3
 obtain ⟨n1,n2⟩:=AI hb3 upd_eq
 simp -implicitDefEqProofs -proj only [go_sem,seval,n1,n2]
 refine AK (fun b4 hb4=>?_)
 replace hb4:upd (upd Heap.none b2 _) b3 _ b4=none:=hb4
 obtain ⟨n3,n4⟩:=AI hb4 upd_eq
 obtain ⟨n5,n6⟩:=AI hb4 (by rw [AE n1]; exact upd_eq)
 simp -implicitDefEqProofs -proj only [go_sem,seval,n1,n2,n3,n4,n5,n6]
 refine AK (fun b5 hb5=>?_)
 replace hb5:upd (upd (upd Heap.none b2 _) b3 _) b4 _ b5=none:=hb5
 obtain ⟨n7,n8⟩:=AI hb5 upd_eq
 obtain ⟨n9,n10⟩:=AI hb5 (by rw [AE n3]; exact upd_eq)
 obtain ⟨n11,n12⟩:=AI hb5 (by rw [AE n5,AE n1]; exact upd_eq)
 simp -implicitDefEqProofs -proj only [go_sem,seval,n1,n2,n3,n4,n5,n6,n7,n8,n9,n10,n11,n12,decide_eq_true (rfl:m=m),ne_eq,not_true_eq_false,not_false_eq_true]
 refine AJ g1 ?_
 simp -implicitDefEqProofs -proj only [go_sem,seval,n1,n2,n3,n4,n5,n6,n7,n8,n9,n10,n11,n12]
 refine AJ g2 ?_
 simp -implicitDefEqProofs -proj only [go_sem,seval,n1,n2,n3,n4,n5,n6,n7,n8,n9,n10,n11,n12]
 refine AJ l1 ?_
 simp -implicitDefEqProofs -proj only [go_sem,seval,n1,n2,n3,n4,n5,n6,n7,n8,n9,n10,n11,n12]
 refine AK (fun b7 hb7=>?_)
 replace hb7:upd (upd (upd (upd Heap.none b2 _) b3 _) b4 _) b5 _ b7=none:=hb7
 obtain ⟨p1,p2⟩:=AI hb7 upd_eq
 obtain ⟨p3,p4⟩:=AI hb7 (by rw [AE n7]; exact upd_eq)
 obtain ⟨p5,p6⟩:=AI hb7 (by rw [AE n9,AE n3]; exact upd_eq)
 obtain ⟨p7,p8⟩:=AI hb7 (by rw [AE n11,AE n5,AE n1]; exact upd_eq)
 simp -implicitDefEqProofs -proj only [go_sem,seval,n1,n2,n3,n4,n5,n6,n7,n8,n9,n10,n11,n12,p1,p2,p3,p4,p5,p6,p7,p8]
 refine AJ l2 ?_
 simp -implicitDefEqProofs -proj only [go_sem,seval,n1,n2,n3,n4,n5,n6,n7,n8,n9,n10,n11,n12,p1,p2,p3,p4,p5,p6,p7,p8]
 refine AK (fun b9 hb9=>?_)
 simp -implicitDefEqProofs only [AR,n1,n2,n3,n4,n5,n6,n7,n8,n9,n10,n11,n12,p1,p2,p3,p4,p5,p6,p7,p8,↓reduceIte] at hb9
 have q2:¬b7=b9:=fun e=>by subst e; simp [n1,n2,n3,n4,n5,n6,n7,n8,n9,n10,n11,n12,p1,p2,p3,p4,p5,p6,p7,p8] at hb9
 have q1:¬b9=b7:=fun e=>q2 e.symm
 have q4:¬b5=b9:=fun e=>by subst e; simp [n1,n2,n3,n4,n5,n6,n7,n8,n9,n10,n11,n12,p1,p2,p3,p4,p5,p6,p7,p8] at hb9
 have q3:¬b9=b5:=fun e=>q4 e.symm
 have q6:¬b4=b9:=fun e=>by subst e; simp [n1,n2,n3,n4,n5,n6,n7,n8,n9,n10,n11,n12,p1,p2,p3,p4,p5,p6,p7,p8] at hb9
 have q5:¬b9=b4:=fun e=>q6 e.symm
 simp -implicitDefEqProofs -proj only [go_sem,seval,n1,n2,n3,n4,n5,n6,n7,n8,n9,n10,n11,n12,p1,p2,p3,p4,p5,p6,p7,p8,q1,q2,q3,q4,q5,q6]
 (repeat' (with_reducible refine Ae ?_ (fun h=>?_); (focus first | decide | omega); clear h; try simp -implicitDefEqProofs -proj only [go_sem,seval,eq_self,n1,n2,n3,n4,n5,n6,n7,n8,n9,n10,n11,n12,p1,p2,p3,p4,p5,p6,p7,p8,q1,q2,q3,q4,q5,q6]))
 exact AH rfl
theorem O7 {H:Heap}:∀{l:List (Nat×Blk)},AS H l→∀k,Ab l k=none∨Ab l k=H k
 | [],_,_=>.inl rfl
 | (b,x)::l,h,k=>by
  rw [Ap]
  by_cases e:k=b
  ·rw [if_pos e]
   subst e
   exact .inr h.1.symm
  ·rw [if_neg e]
   exact O7 h.2 k
open Classical in
noncomputable def LR (la lb:List Int) (g:Int→Int→Int) (bad:Int→Int→Bool):AV:=if FM bad (BG 0 la) (BG 0 lb) ((BG 0 la).length+(BG 0 lb).length) 0 0 false=true then K1 else if EG (G6 g 0 0 la lb) then .tup [Ev (G6 g 0 0 la lb),bv true] else .tup [Ez 0 [],bv false]
set_option maxHeartbeats 4000000 in
open Classical in
theorem S9 {la lb:List Int} {of:FuncId} {caps:List AV} {more:List (Nat×Blk)} {g:Int→Int→Int} {bad:Int→Int→Bool} (hmd:(AT more).Nodup) (ha:EG la) (hb:EG lb) (hlen:la.length=lb.length) (hof:∀u v,FB u→FB v→MF of caps more u v (.tup [i64 (g u v),bv (!bad u v)])):CallW Tryz.prog MW [Ev la,Ev lb,.fn of caps] (Ab more) fun r' H'=>r'=LR la lb g bad:=by
 have hl:=AJe ha hb hlen
 have hA:=(Kb (Jk.2 ha)).2
 have hB:=(Kb (Jk.2 hb)).2
 have hsA:=(Kb (Jk.2 ha)).1
 have hsB:=(Kb (Jk.2 hb)).1
 have hZ:(G6 g 0 0 la lb).length≤999999:=by rw [Mx]; unfold Jj; have:=ha.2.1; have:=hb.2.1; omega
 have hzip:=fun bf bp bo d1 d2 d3 hmx=>AEU (a:=BG 0 la) (b:=BG 0 lb) (f:=QM) (of:=of) (caps:=caps) (more:=more) (bf:=bf) (bp:=bp) (bo:=bo) (g:=g) (bad:=bad) d1 d2 d3 hmd hmx (fun x hx y hy=>ANR (hof _ _ (hsA x hx).2 (hsB y hy).2)) (by omega) (by omega)
 rw [AJx] at hzip
 rw [show max (0:Int) 0=0 from rfl] at hzip
 have hback:=fun H bf x h1 h2=>APf (H:=H) (bf:=bf) (w:=FM bad (BG 0 la) (BG 0 lb) ((BG 0 la).length+(BG 0 lb).length) 0 0 false) (x:=x) (l:=G6 g 0 0 la lb) h1 h2 hZ
 unfold LR
 generalize FM bad (BG 0 la) (BG 0 lb) ((BG 0 la).length+(BG 0 lb).length) 0 0 false=z at *
 obtain ⟨RR,hRR⟩:∃RR,(if z=true then K1 else if EG (G6 g 0 0 la lb) then AV.tup [Ev (G6 g 0 0 la lb),bv true] else .tup [Ez 0 [],bv false])=RR:=⟨_,rfl⟩
 have hsh:RR=K1∨∃m G u,RR = .tup [Ez m G,bv u]:=by
  rw [←hRR]
  by_cases h1:z=true
  ·rw [if_pos h1]; exact .inl rfl
  ·rw [if_neg h1]
   by_cases h:EG (G6 g 0 0 la lb)
   ·rw [if_pos h]; exact .inr ⟨_,_,_,rfl⟩
   ·rw [if_neg h]; exact .inr ⟨_,_,_,rfl⟩
 simp -implicitDefEqProofs only [hRR] at hback
 rw [hRR]
 generalize BG 0 (G6 g 0 0 la lb)=ZZ at *
 generalize EX la=A at *
 generalize EX lb=B at *
 generalize BG 0 la=Ra at *
 generalize BG 0 lb=Rb at *
 generalize (la.length:Int)-1=m at *
 generalize (lb.length:Int)-1=n at *
 have hm0:∀p∈more,Ab more p.1=some p.2:=He.1 (EQ hmd)
 generalize Ab more=H0 at hm0 ⊢
 refine AX AB0 (by simp) ?_
 simp -implicitDefEqProofs -proj only [go_sem,seval]
 refine AK (fun b3 hb3=>?_)
 replace hb3:H0 b3=none:=hb3
 have m3:∀p∈more,¬b3=p.1:=fun p hp=>(AI hb3 (hm0 p hp)).1
 simp -implicitDefEqProofs -proj only [go_sem,seval]
 refine AK (fun b4 hb4=>?_)
 replace hb4:upd H0 b3 _ b4=none:=hb4
 obtain ⟨n1,n2⟩:=AI hb4 upd_eq
 have m4:∀p∈more,¬b4=p.1:=fun p hp=>(AI hb4 (by rw [AE (m3 p hp)]; exact hm0 p hp)).1
 simp -implicitDefEqProofs -proj only [go_sem,seval,n1,n2]
 refine AK (fun b5 hb5=>?_)
 replace hb5:upd (upd H0 b3 _) b4 _ b5=none:=hb5
 obtain ⟨n3,n4⟩:=AI hb5 upd_eq
 have m5:∀p∈more,¬b5=p.1:=fun p hp=>(AI hb5 (by rw [AE (m4 p hp),AE (m3 p hp)]; exact hm0 p hp)).1
 obtain ⟨n5,n6⟩:=AI hb5 (by rw [AE n1]; exact upd_eq)
 simp -implicitDefEqProofs -proj only [go_sem,seval,n1,n2,n3,n4,n5,n6]
 refine AK (fun b6 hb6=>?_)
 replace hb6:upd (upd (upd H0 b3 _) b4 _) b5 _ b6=none:=hb6
 obtain ⟨n7,n8⟩:=AI hb6 upd_eq
 have m6:∀p∈more,¬b6=p.1:=fun p hp=>(AI hb6 (by rw [AE (m5 p hp),AE (m4 p hp),AE (m3 p hp)]; exact hm0 p hp)).1
 obtain ⟨n9,n10⟩:=AI hb6 (by rw [AE n3]; exact upd_eq)
 obtain ⟨n11,n12⟩:=AI hb6 (by rw [AE n5,AE n1]; exact upd_eq)
 simp -implicitDefEqProofs -proj only [go_sem,seval,n1,n2,n3,n4,n5,n6,n7,n8,n9,n10,n11,n12]
 refine AJ hl ?_
 simp -implicitDefEqProofs -proj only [go_sem,seval,n1,n2,n3,n4,n5,n6,n7,n8,n9,n10,n11,n12]
 refine AK (fun b8 hb8=>?_)
 replace hb8:upd (upd (upd (upd H0 b3 _) b4 _) b5 _) b6 _ b8=none:=hb8
 obtain ⟨p1,p2⟩:=AI hb8 upd_eq
 have m8:∀p∈more,¬b8=p.1:=fun p hp=>(AI hb8 (by rw [AE (m6 p hp),AE (m5 p hp),AE (m4 p hp),AE (m3 p hp)]; exact hm0 p hp)).1
 obtain ⟨p3,p4⟩:=AI hb8 (by rw [AE n7]; exact upd_eq)
 simp -implicitDefEqProofs -proj only [go_sem,seval,n1,n2,n3,n4,n5,n6,n7,n8,n9,n10,n11,n12,p1,p2,p3,p4]
 refine AK (fun b9 hb9=>?_)
 replace hb9:upd (upd (upd (upd (upd H0 b3 _) b4 _) b5 _) b6 _) b8 _ b9=none:=hb9
 obtain ⟨q1,q2⟩:=AI hb9 upd_eq
 have m9:∀p∈more,¬b9=p.1:=fun p hp=>(AI hb9 (by rw [AE (m8 p hp),AE (m6 p hp),AE (m5 p hp),AE (m4 p hp),AE (m3 p hp)]; exact hm0 p hp)).1
 obtain ⟨q3,q4⟩:=AI hb9 (by rw [AE p1]; exact upd_eq)
 obtain ⟨q5,q6⟩:=AI hb9 (by rw [AE p3,AE n7]; exact upd_eq)
 simp -implicitDefEqProofs -proj only [go_sem,seval,n1,n2,n3,n4,n5,n6,n7,n8,n9,n10,n11,n12,p1,p2,p3,p4,q1,q2,q3,q4,q5,q6]
 refine AK (fun bf hbf=>?_)
 simp -implicitDefEqProofs only [AR,n1,n2,n3,n4,n5,n6,n7,n8,n9,n10,n11,n12,p1,p2,p3,p4,q1,q2,q3,q4,q5,q6,↓reduceIte] at hbf
 have mf:∀p∈more,¬bf=p.1:=fun p hp e=>by
  rw [e] at hbf
  simp [m3 p hp,m4 p hp,m5 p hp,m6 p hp,m8 p hp,m9 p hp,hm0 p hp] at hbf
 have r5:¬b5=bf:=fun e=>by subst e; simp [n1,n2,n3,n4,n5,n6,n7,n8,n9,n10,n11,n12,p1,p2,p3,p4,q1,q2,q3,q4,q5,q6] at hbf
 have r6:¬b6=bf:=fun e=>by subst e; simp [n1,n2,n3,n4,n5,n6,n7,n8,n9,n10,n11,n12,p1,p2,p3,p4,q1,q2,q3,q4,q5,q6] at hbf
 have r8:¬b8=bf:=fun e=>by subst e; simp [n1,n2,n3,n4,n5,n6,n7,n8,n9,n10,n11,n12,p1,p2,p3,p4,q1,q2,q3,q4,q5,q6] at hbf
 have r9:¬b9=bf:=fun e=>by subst e; simp [n1,n2,n3,n4,n5,n6,n7,n8,n9,n10,n11,n12,p1,p2,p3,p4,q1,q2,q3,q4,q5,q6] at hbf
 have r5':¬bf=b5:=fun e=>r5 e.symm
 have r6':¬bf=b6:=fun e=>r6 e.symm
 have r8':¬bf=b8:=fun e=>r8 e.symm
 have r9':¬bf=b9:=fun e=>r9 e.symm
 simp -implicitDefEqProofs -proj only [go_sem,seval,n1,n2,n3,n4,n5,n6,n7,n8,n9,n10,n11,n12,p1,p2,p3,p4,q1,q2,q3,q4,q5,q6,r5,r6,r8,r9,r5',r6',r8',r9']
 refine AK (fun bp hbp=>?_)
 simp -implicitDefEqProofs only [AR,n1,n2,n3,n4,n5,n6,n7,n8,n9,n10,n11,n12,p1,p2,p3,p4,q1,q2,q3,q4,q5,q6,r5,r6,r8,r9,r5',r6',r8',r9',↓reduceIte] at hbp
 have mp:∀p∈more,¬bp=p.1:=fun p hp e=>by
  rw [e] at hbp
  simp [mf p hp,m3 p hp,m4 p hp,m5 p hp,m6 p hp,m8 p hp,m9 p hp,hm0 p hp] at hbp
 have s5:¬b5=bp:=fun e=>by subst e; simp [n1,n2,n3,n4,n5,n6,n7,n8,n9,n10,n11,n12,p1,p2,p3,p4,q1,q2,q3,q4,q5,q6,r5,r6,r8,r9,r5',r6',r8',r9'] at hbp
 have s6:¬b6=bp:=fun e=>by subst e; simp [n1,n2,n3,n4,n5,n6,n7,n8,n9,n10,n11,n12,p1,p2,p3,p4,q1,q2,q3,q4,q5,q6,r5,r6,r8,r9,r5',r6',r8',r9'] at hbp
 have s8:¬b8=bp:=fun e=>by subst e; simp [n1,n2,n3,n4,n5,n6,n7,n8,n9,n10,n11,n12,p1,p2,p3,p4,q1,q2,q3,q4,q5,q6,r5,r6,r8,r9,r5',r6',r8',r9'] at hbp
 have s9:¬b9=bp:=fun e=>by subst e; simp [n1,n2,n3,n4,n5,n6,n7,n8,n9,n10,n11,n12,p1,p2,p3,p4,q1,q2,q3,q4,q5,q6,r5,r6,r8,r9,r5',r6',r8',r9'] at hbp
 have sf:¬bf=bp:=fun e=>by subst e; simp [n1,n2,n3,n4,n5,n6,n7,n8,n9,n10,n11,n12,p1,p2,p3,p4,q1,q2,q3,q4,q5,q6,r5,r6,r8,r9,r5',r6',r8',r9'] at hbp
 have s5':¬bp=b5:=fun e=>s5 e.symm
 have s6':¬bp=b6:=fun e=>s6 e.symm
 have s8':¬bp=b8:=fun e=>s8 e.symm
 have s9':¬bp=b9:=fun e=>s9 e.symm
 have sf':¬bp=bf:=fun e=>sf e.symm
 simp -implicitDefEqProofs -proj only [go_sem,seval,n1,n2,n3,n4,n5,n6,n7,n8,n9,n10,n11,n12,p1,p2,p3,p4,q1,q2,q3,q4,q5,q6,r5,r6,r8,r9,r5',r6',r8',r9',s5,s6,s8,s9,sf,s5',s6',s8',s9',sf']
 (repeat' (with_reducible refine Ae ?_ (fun h=>?_); (focus first | decide | omega); clear h; try simp -implicitDefEqProofs -proj only [go_sem,seval,eq_self,n1,n2,n3,n4,n5,n6,n7,n8,n9,n10,n11,n12,p1,p2,p3,p4,q1,q2,q3,q4,q5,q6,r5,r6,r8,r9,r5',r6',r8',r9',s5,s6,s8,s9,sf,s5',s6',s8',s9',sf']))
 have hz3:=hzip bf bp b5 sf (fun e=>r5 e.symm) (fun e=>s5 e.symm) (fun p hp=>⟨fun e=>mf p hp e.symm,fun e=>mp p hp e.symm,fun e=>m5 p hp e.symm⟩)
 refine Qa (Pc hz3 (O7 ?_)) (fun r H' hk=>?_)
 ·simp -implicitDefEqProofs only [FK]
  refine ⟨?_,He.2 fun p hp=>?_⟩
  ·simp -implicitDefEqProofs -proj only [go_sem,seval,AS,n1,n2,n3,n4,n5,n6,n7,n8,n9,n10,n11,n12,p1,p2,p3,p4,q1,q2,q3,q4,q5,q6,r5,r6,r8,r9,r5',r6',r8',r9',s5,s6,s8,s9,sf,s5',s6',s8',s9',sf']
  ·simp -implicitDefEqProofs -proj only [go_sem,seval,n1,n2,n3,n4,n5,n6,n7,n8,n9,n10,n11,n12,p1,p2,p3,p4,q1,q2,q3,q4,q5,q6,r5,r6,r8,r9,r5',r6',r8',r9',s5,s6,s8,s9,sf,s5',s6',s8',s9',sf',m3 p hp,m4 p hp,m5 p hp,m6 p hp,m8 p hp,m9 p hp,mf p hp,mp p hp,hm0 p hp]
 obtain ⟨H1,⟨hv,hfl,hpp⟩,hsub,hfr⟩:=hk
 obtain ⟨x,rfl,hx⟩:=AGR hv
 have z6:Ab more b6=none:=by
  cases hk:Ab more b6 with
  | none=>rfl
  | some x =>
   exfalso
   have:b6∈AT more:=L6 (by rw [hk]; simp)
   obtain ⟨p,hp,e⟩:=List.mem_map.1 this
   exact m6 p hp e.symm
 have h6:=hfr b6 (.box 51 [i64 0,.nilsl 5]) (by simp -implicitDefEqProofs -proj only [go_sem,seval,n1,n2,n3,n4,n5,n6,n7,n8,n9,n10,n11,n12,p1,p2,p3,p4,q1,q2,q3,q4,q5,q6,r5,r6,r8,r9,r5',r6',r8',r9',s5,s6,s8,s9,sf,s5',s6',s8',s9',sf']) (by rw [MY (fun q hq=>by simp -implicitDefEqProofs only [List.mem_cons,List.not_mem_nil,or_false] at hq; rcases hq with rfl | rfl | rfl <;> first | exact r6 | exact s6 | exact n7)]; exact z6)
 refine ⟨?_,?_⟩
 ·intro d hd k off hdk e cells hkk
  rw [List.mem_singleton] at hd
  subst hd
  simp -implicitDefEqProofs -proj only [go_sem,seval,AV.ptr.injEq] at hdk
  obtain ⟨rfl,rfl⟩:=hdk
  have hpp':=hsub bp _ hpp
  simp -implicitDefEqProofs -proj only [go_sem,seval,n1,n2,n3,n4,n5,n6,n7,n8,n9,n10,n11,n12,p1,p2,p3,p4,q1,q2,q3,q4,q5,q6,r5,r6,r8,r9,r5',r6',r8',r9',s5,s6,s8,s9,sf,s5',s6',s8',s9',sf',Option.some.injEq] at hkk
  rw [←hkk]
  exact hpp'
 ·simp -implicitDefEqProofs -proj only [go_sem,seval]
  refine En (hback H' bf x (hsub bf _ hfl) (hx.mono hsub)) (fun rr H2 hk=>?_)
  obtain ⟨rfl,hk2⟩:=hk
  have h6':=hk2 b6 _ h6
  rcases hsh with rfl | ⟨m',G',u',rfl⟩
  ·simp -implicitDefEqProofs -proj only [go_sem,seval,K1,h6']
  ·simp -implicitDefEqProofs -proj only [go_sem,seval,h6']
theorem AHu {la lb:List Int} {of:FuncId} {g:Int→Int→Int} {bad:Int→Int→Bool} (ha:EG la) (hb:EG lb) (hlen:la.length=lb.length) (hof:∀u v,FB u→FB v→DataW Tryz.prog of [i64 u,i64 v] (.tup [i64 (g u v),bv (!bad u v)])):CallW Tryz.prog MW [Ev la,Ev lb,.fn of []] Heap.none fun r' H'=>LendV H' r' (LR la lb g bad) :=
 CallW.mono' (S9 (caps:=[]) (more:=[]) List.nodup_nil ha hb hlen (fun u v hu hv=>AIq (hof u v hu hv))) fun r H' h=>AH h
theorem OW {a b:List Run}:∀(n i k:Nat),FM (fun _ _=>false) a b n i k false=false
 | 0,i,k=>by rw [FM]
 | n+1,i,k=>by
  rw [FM]
  split
  ·rw [Bool.or_false,ite_self]
   exact OW n _ _
  ·rfl
theorem RV {g:Int→Int→Int} {a b:List Int} (h:a.length=b.length):G6 g 0 0 a b=List.zipWith g a b:=by
 have hn:Jj 0 0 a b=a.length:=by unfold Jj; omega
 refine List.ext_getElem (by rw [Mx,hn,List.length_zipWith]; omega) fun i h1 h2=>?_
 rw [Mx,hn] at h1
 have e1:=Lo (f:=0) (l:=a) (i:=i) h1
 have e2:=Lo (f:=0) (l:=b) (i:=i) (by omega)
 rw [Int.zero_add] at e1 e2
 simp -implicitDefEqProofs only [G6,List.getElem_map,List.getElem_range,List.getElem_zipWith,show (max (0:Int) 0)=0 from rfl,Int.zero_add,e1,e2]
open Classical in
theorem ADC {la lb:List Int} {of:FuncId} {g:Int→Int→Int} (ha:EG la) (hb:EG lb) (hlen:la.length=lb.length) (hof:∀u v,FB u→FB v→DataW Tryz.prog of [i64 u,i64 v] (.tup [i64 (g u v),bv true])):DataW Tryz.prog MW [Ev la,Ev lb,.fn of []] (if EG (List.zipWith g la lb) then .tup [Ev (List.zipWith g la lb),bv true] else .tup [Ez 0 [],bv false]):=by
 have h:=AHu (bad:=fun _ _=>false) ha hb hlen hof
 unfold LR at h
 rw [OW,if_neg (by simp),RV hlen] at h
 exact h
theorem AFN (u v:Int) (hu:FB u) (hv:FB v):DataW Tryz.prog Lv [i64 u,i64 v] (.tup [i64 ((fun u v=>u+v) u v),bv true]):=by
 unfold FB at hu hv
 have h:=Kr (a:=u) (b:=v) (by unfold Fit; omega) (by unfold Fit; omega)
 rwa [GI (by unfold Fit; omega)] at h
theorem S4 {m n k:Int} {A B G:List Grp} {u:Bool} (h:DataW Tryz.prog MW [Ez m A,Ez n B,.fn Lv []] (.tup [Ez k G,bv u])):DataW Tryz.prog OH [Ez m A,Ez n B] (.tup [Ez k G,bv u]):=by
 refine AX VU (by simp) ?_
 simp -implicitDefEqProofs -proj only [go_sem,seval]
 refine AK (fun b2 hb2=>?_)
 simp -implicitDefEqProofs -proj only [go_sem,seval]
 refine AK (fun b3 hb3=>?_)
 replace hb3:upd Heap.none b2 _ b3=none:=hb3
 obtain ⟨n1,n2⟩:=AI hb3 upd_eq
 simp -implicitDefEqProofs -proj only [go_sem,seval,n1,n2]
 refine AK (fun b4 hb4=>?_)
 replace hb4:upd (upd Heap.none b2 _) b3 _ b4=none:=hb4
 obtain ⟨n3,n4⟩:=AI hb4 upd_eq
 obtain ⟨n5,n6⟩:=AI hb4 (by rw [AE n1]; exact upd_eq)
 simp -implicitDefEqProofs -proj only [go_sem,seval,n1,n2,n3,n4,n5,n6]
 refine AJ h ?_
 simp -implicitDefEqProofs -proj only [go_sem,seval,n1,n2,n3,n4,n5,n6]
 exact AH rfl
open Classical in
theorem YL {la lb:List Int} (ha:EG la) (hb:EG lb) (hlen:la.length=lb.length):DataW Tryz.prog OH [Ev la,Ev lb] (if EG (List.zipWith (fun u v=>u+v) la lb) then .tup [Ev (List.zipWith (fun u v=>u+v) la lb),bv true] else .tup [Ez 0 [],bv false]):=by
 have h:=ADC (of:=Lv) (g:=(fun u v=>u+v)) ha hb hlen (fun u v hu hv=>AFN u v hu hv)
 by_cases hc:EG (List.zipWith (fun u v=>u+v) la lb)
 ·rw [if_pos hc] at h ⊢; exact S4 h
 ·rw [if_neg hc] at h ⊢; exact S4 h
theorem AJz {la lb ls:List Int} (ha:EG la) (hb:EG lb) (hlen:la.length=lb.length) (e:List.zipWith (fun u v=>u+v) la lb=ls) (hs:EG ls):DataW Tryz.prog OH [Ev la,Ev lb] (.tup [Ev ls,bv true]):=by
 subst e
 have h:=YL ha hb hlen
 rwa [if_pos hs] at h
theorem AHs {n:Nat} {v:Int} (h0:0<n) (h1:n≤2001) (hv:FB v):EG (List.replicate n v) :=
 ⟨fun e=>by have:=congrArg List.length e; rw [List.length_replicate] at this; simp at this; omega,by rw [List.length_replicate]; exact h1,fun x hx=>by rw [(List.mem_replicate.1 hx).2]; exact hv⟩
theorem XI {n:Nat} {v:Int} (h:0<n):BG 0 (List.replicate n v)=[(⟨0,(n:Int)-1,v⟩:Run)]:=by
 have e:[(⟨0,(n:Int)-1,v⟩:Run)]=BG 0 (List.replicate n v):=by
  refine Oa (val:=fun _=>v) ⟨rfl,by show (0:Int)≤(n:Int)-1; omega,fun _ _ _=>rfl,fun s hs=>by simp at hs,?_⟩ (fun i hi=>by simp)
  show (n:Int)-1+1=0+((List.replicate n v).length:Int)
  rw [List.length_replicate]; omega
 exact e.symm
theorem AGw {n:Nat} {v:Int} (h0:0<n):NewW Tryz.prog ADJ [i64 0,i64 ((n:Int)-1),i64 v] (Gn (BG 0 (List.replicate n v))):=by
 rw [XI h0]
 generalize hm:(n:Int)-1=m
 refine AX AHZ (by simp) ?_
 simp -implicitDefEqProofs -proj only [go_sem,seval,decide_eq_false (show ¬m<0 by omega)]
 refine AK (fun b6 hb6=>?_)
 simp -implicitDefEqProofs -proj only [go_sem,seval,decide_eq_false (show ¬m<0 by omega)]
 refine As (fun bs hs=>?_)
 replace hs:upd Heap.none b6 _ bs=none:=hs
 obtain ⟨n1,n2⟩:=AI hs upd_eq
 simp -implicitDefEqProofs -proj only [go_sem,seval,n1,n2]
 refine L3 ?_
 exact .own _ _ _ _ _ [[.int .i64 0,.int .i64 m,.int .i64 v]] (by simp -implicitDefEqProofs -proj only [go_sem,seval,n1,n2]; rfl) (by intro el he d hd; simp -implicitDefEqProofs only [List.mem_singleton] at he; subst he; simp -implicitDefEqProofs only [List.mem_cons,List.not_mem_nil,or_false] at hd; rcases hd with rfl | rfl | rfl <;> rfl)
theorem WB {n:Nat} {v:Int} (h0:0<n) (h1:n≤2001) (hv:FB v):DataW Tryz.prog T3 [i64 ((n:Int)-1),i64 v] (.tup [Ev (List.replicate n v),bv true]):=by
 have h:=Mn (l:=List.replicate n v) (by rw [List.length_replicate]; omega)
 rw [if_pos (AHs h0 h1 hv)] at h
 have hl:=AGw (v:=v) h0
 generalize BG 0 (List.replicate n v)=R at *
 refine AX ARW (by simp) ?_
 simp -implicitDefEqProofs -proj only [go_sem,seval]
 refine AK (fun b4 hb4=>?_)
 simp -implicitDefEqProofs -proj only [go_sem,seval]
 refine AJ hl.data ?_
 simp -implicitDefEqProofs -proj only [go_sem,seval]
 refine AJ h.data ?_
 simp -implicitDefEqProofs -proj only [go_sem,seval]
 exact AH rfl
abbrev NK (d:Int):Blk:=.box 3 [i64 d]
abbrev TW (b0:Nat):Blk:=.box 146 [.fn OQ [.ptr b0 0]]
abbrev SK (b0 b1:Nat) (d:Int):List (Nat×Blk):=[(b1,TW b0),(b0,NK d)]
theorem AOC {H:Heap} {b0:Nat} {n d:Int} (hn:Fit n) (hd:Fit d) (h:H b0=some (NK d)):CallW Tryz.prog OQ [i64 n,.ptr b0 0] H fun r H'=>r=FX (n+d)∧H'=H:=by
 obtain ⟨s,u,hs,_⟩:=Mg (n+d)
 have ha:=Kr (a:=n) (b:=d) hn hd
 rw [hs] at ha ⊢
 refine AX Zm (by simp) ?_
 simp -implicitDefEqProofs -proj only [go_sem,seval,h]
 refine AJ ha ?_
 simp -implicitDefEqProofs -proj only [go_sem,seval]
 try exact ⟨rfl,rfl⟩
theorem AIV {b0 b1:Nat} {d u v:Int} (hu:FB u) (hd:FB d):MF TV [.ptr b1 0] (SK b0 b1 d) u v (.tup [i64 (u+d),bv true]):=by
 intro H hm
 have h1:H b1=some (TW b0):=hm _ (List.mem_cons_self ..)
 have h0:H b0=some (NK d):=hm _ (List.mem_cons_of_mem _ (List.mem_cons_self ..))
 unfold FB at hu hd
 have hs:=AOC (n:=u) (by unfold Fit; omega) (by unfold Fit; omega) h0
 rw [GI (by unfold Fit; omega)] at hs
 refine AX AAO (by simp) ?_
 simp -implicitDefEqProofs -proj only [go_sem,seval,h1]
 refine En hs (fun r H' hk=>?_)
 obtain ⟨rfl,rfl⟩:=hk
 simp -implicitDefEqProofs -proj only [go_sem,seval]
 try exact ⟨rfl,rfl⟩
open Classical in
theorem ARp {H:Heap} {b0:Nat} {l:List Int} {d:Int} (hl:EG l) (hd:FB d) (h:H b0=some (NK d)):CallW Tryz.prog AT4 [Ev l,.fn OQ [.ptr b0 0]] H fun r H'=>(r=if EG (l.map (· + d)) then .tup [Ev (l.map (· + d)),bv true] else .tup [Ez 0 [],bv false])∧∀k x,¬k=b0→H k=some x→H' k=some x:=by
 have hz:List.zipWith (fun u _=>u+d) l l=l.map (· + d):=by
  refine List.ext_getElem (by simp) fun i h1 h2=>by simp
 have htwo:=fun b1 hne=>S9 (of:=TV) (caps:=[.ptr b1 0]) (more:=SK b0 b1 d) (g:=fun u _=>u+d) (bad:=fun _ _=>false) (by simp -implicitDefEqProofs only [AT,List.map_cons,List.map_nil,List.nodup_cons,List.mem_cons,List.not_mem_nil,or_false,not_false_eq_true,and_true,List.nodup_nil]; exact hne) hl hl rfl (fun u v hu hv=>AIV hu hd)
 unfold LR at htwo
 rw [OW,if_neg (by simp),RV rfl,hz] at htwo
 obtain ⟨m,G,u,hu⟩:∃(m:Int) (G:List Grp) (u:Bool),(if EG (l.map (· + d)) then AV.tup [Ev (l.map (· + d)),bv true] else .tup [Ez 0 [],bv false]) = .tup [Ez m G,bv u]:=by
  by_cases h:EG (l.map (· + d))
  ·rw [if_pos h]; exact ⟨_,_,_,rfl⟩
  ·rw [if_neg h]; exact ⟨_,_,_,rfl⟩
 rw [hu] at htwo ⊢
 refine AX AVq (by simp) ?_
 simp -implicitDefEqProofs -proj only [go_sem,seval]
 refine AK (fun b2 hb2=>?_)
 replace hb2:H b2=none:=hb2
 obtain ⟨n1,n2⟩:=AI hb2 h
 simp -implicitDefEqProofs -proj only [go_sem,seval]
 refine AK (fun b3 hb3=>?_)
 replace hb3:upd H b2 _ b3=none:=hb3
 obtain ⟨n3,n4⟩:=AI hb3 upd_eq
 obtain ⟨n5,n6⟩:=AI hb3 (by rw [AE n1]; exact h)
 simp -implicitDefEqProofs -proj only [go_sem,seval,n1,n2,n3,n4,n5,n6]
 refine AK (fun b4 hb4=>?_)
 replace hb4:upd (upd H b2 _) b3 _ b4=none:=hb4
 obtain ⟨n7,n8⟩:=AI hb4 upd_eq
 obtain ⟨n9,n10⟩:=AI hb4 (by rw [AE n3]; exact upd_eq)
 obtain ⟨n11,n12⟩:=AI hb4 (by rw [AE n5,AE n1]; exact h)
 simp -implicitDefEqProofs -proj only [go_sem,seval,n1,n2,n3,n4,n5,n6,n7,n8,n9,n10,n11,n12]
 refine En (Pc (htwo b3 n5) (O7 ?_)) (fun r H' hk=>?_)
 ·simp -implicitDefEqProofs -proj only [go_sem,seval,AS,n1,n2,n3,n4,n5,n6,n7,n8,n9,n10,n11,n12,h]
 obtain ⟨H1,rfl,_,hfr⟩:=hk
 have h4:=hfr b4 (.box 51 [i64 0,.nilsl 5]) (by simp -implicitDefEqProofs -proj only [go_sem,seval,n1,n2,n3,n4,n5,n6,n7,n8,n9,n10,n11,n12]) (by simp -implicitDefEqProofs -proj only [go_sem,seval,n1,n2,n3,n4,n5,n6,n7,n8,n9,n10,n11,n12]; try rfl)
 have hfin:∀X k x,¬k=b0→H k=some x→upd H' b4 X k=some x:=fun X k x hk hx=>by
  have e1:=(AI hb2 hx).1
  have e2:=(AI hb3 (by rw [AE e1]; exact hx)).1
  have e3:=(AI hb4 (by rw [AE e2,AE e1]; exact hx)).1
  rw [AE e3]
  refine hfr k x ?_ ?_
  ·simp -implicitDefEqProofs -proj only [go_sem,seval,e1,e2,e3]
   try exact hx
  ·have e4:¬k=b3:=fun e=>e2 e.symm
   simp -implicitDefEqProofs -proj only [go_sem,seval,e4,hk]
   try rfl
 simp -implicitDefEqProofs -proj only [go_sem,seval,h4]
 first | exact ⟨rfl,hfin _⟩ | exact hfin _ | exact ⟨trivial,hfin _⟩
open Classical in
theorem Xl {l:List Int} {d:Int} (hl:EG l) (hd:FB d):DataW Tryz.prog AIL [Ev l,i64 d] (if EG (l.map (· + d)) then .tup [Ev (l.map (· + d)),bv true] else .tup [Ez 0 [],bv false]):=by
 have hone:=fun H b0 h=>ARp (H:=H) (b0:=b0) hl hd h
 obtain ⟨m,G,u,hu⟩:∃(m:Int) (G:List Grp) (u:Bool),(if EG (l.map (· + d)) then AV.tup [Ev (l.map (· + d)),bv true] else .tup [Ez 0 [],bv false]) = .tup [Ez m G,bv u]:=by
  by_cases h:EG (l.map (· + d))
  ·rw [if_pos h]; exact ⟨_,_,_,rfl⟩
  ·rw [if_neg h]; exact ⟨_,_,_,rfl⟩
 rw [hu] at hone ⊢
 refine AX Vd (by simp) ?_
 simp -implicitDefEqProofs -proj only [go_sem,seval]
 refine AK (fun b2 hb2=>?_)
 simp -implicitDefEqProofs -proj only [go_sem,seval]
 refine AK (fun b3 hb3=>?_)
 replace hb3:upd Heap.none b2 _ b3=none:=hb3
 obtain ⟨n1,n2⟩:=AI hb3 upd_eq
 simp -implicitDefEqProofs -proj only [go_sem,seval,n1,n2]
 refine AK (fun b4 hb4=>?_)
 replace hb4:upd (upd Heap.none b2 _) b3 _ b4=none:=hb4
 obtain ⟨n3,n4⟩:=AI hb4 upd_eq
 obtain ⟨n5,n6⟩:=AI hb4 (by rw [AE n1]; exact upd_eq)
 simp -implicitDefEqProofs -proj only [go_sem,seval,n1,n2,n3,n4,n5,n6]
 refine En (hone _ b3 (by simp -implicitDefEqProofs -proj only [go_sem,seval,n1,n2,n3,n4,n5,n6])) (fun r H' hk=>?_)
 obtain ⟨rfl,hfr⟩:=hk
 have h4:=hfr b4 (.box 51 [i64 0,.nilsl 5]) n3 (by simp -implicitDefEqProofs -proj only [go_sem,seval,n1,n2,n3,n4,n5,n6])
 simp -implicitDefEqProofs -proj only [go_sem,seval,h4]
 exact AH rfl
theorem MH {a:Int} (h:0≤a∧a<18446744073709551616):(BitVec.ofInt 64 a).toNat=a.toNat:=by
 rw [BitVec.toNat_ofInt]
 have:a % ((2 ^ 64:Nat):Int)=a:=Int.emod_eq_of_lt h.1 (by have:=h.2; simpa using this)
 rw [this]
theorem LX {a:Int} (h:0≤a∧a<18446744073709551616):IQ .u64 a 4294967295=a % 4294967296:=by
 rw [IQ,IntKind.wrap_u64,show IntKind.u64.bits=64 from rfl,BitVec.toNat_and,MH h,MH (by omega)]
 rw [show (4294967295:Int).toNat=2 ^ 32-1 from rfl,Nat.and_two_pow_sub_one_eq_mod]
 omega
theorem W9 {A b:Int} {s:Nat} (hA:0≤A) (hb:0≤b∧b<2 ^ s) (h:A*2 ^ s+b<18446744073709551616):Hx .u64 (A*2 ^ s) b=A*2 ^ s+b:=by
 rw [Hx]
 have h0:0≤A*2 ^ s:=Int.mul_nonneg hA (Int.le_of_lt (Int.pow_pos (by omega)))
 rw [IntKind.wrap_u64,show IntKind.u64.bits=64 from rfl,BitVec.toNat_or,MH ⟨h0,by omega⟩,MH ⟨hb.1,by omega⟩]
 obtain ⟨n,rfl⟩:=Int.eq_ofNat_of_zero_le hA
 obtain ⟨m,rfl⟩:=Int.eq_ofNat_of_zero_le hb.1
 have e:((n:Int)*2 ^ s).toNat=2 ^ s*n:=by
  have:((n:Int)*2 ^ s)=((2 ^ s*n:Nat):Int):=by rw [Int.natCast_mul,Int.mul_comm]; simp
  rw [this]; rfl
 have hm:m<2 ^ s:=by have:=hb.2; exact_mod_cast this
 rw [e,show ((m:Int)).toNat=m from rfl,←Nat.two_pow_add_eq_or_of_lt hm]
 have e2:(((2 ^ s*n+m:Nat):Int))=(n:Int)*2 ^ s+m:=by rw [Int.natCast_add,Int.natCast_mul,Int.mul_comm]; simp
 rw [e2]
 omega
theorem RY {U V y1 y0 u1 q r:Int} (hV:V=y1*4294967296+y0) (hq:q*y1+r=U):q*V=(U-r)*4294967296+q*y0:=by
 have e:q*(y1*4294967296+y0)=q*y1*4294967296+q*y0:=by rw [Int.mul_add,Int.mul_assoc]
 rw [hV,e,←hq]; omega
theorem NB {U V y1 y0 u1 q r:Int} (hV:V=y1*4294967296+y0) (hV0:0<V) (hq:q*y1+r=U) (hQ:(U*4294967296+u1) / V≤q) (h:q*y0≤4294967296*r+u1):q=(U*4294967296+u1) / V:=by
 have e:=RY (u1:=u1) hV hq
 have:q≤(U*4294967296+u1) / V:=by rw [Int.le_ediv_iff_mul_le hV0]; omega
 omega
theorem TU {U V y1 y0 u1 q r:Int} (hV:V=y1*4294967296+y0) (hV0:0<V) (hUV:U<V) (hu1:u1<4294967296) (hq:q*y1+r=U) (h:4294967296≤q∨4294967296*r+u1<q*y0):(U*4294967296+u1) / V≤q-1:=by
 have e:=RY (u1:=u1) hV hq
 have:(U*4294967296+u1) / V<q:=by
  rw [Int.ediv_lt_iff_lt_mul hV0]
  rcases h with h | h
  ·have:=Int.mul_le_mul_of_nonneg_right h (Int.le_of_lt hV0)
   omega
  ·omega
 omega
theorem Mk {U V y1 y0 u1:Int} (hV:V=y1*4294967296+y0) (hy1:2147483648≤y1) (hy0:0≤y0∧y0<4294967296) (hU:0≤U) (hUV:U<V) (hu1:0≤u1∧u1<4294967296):U / y1*y1+U % y1=U∧0≤U % y1∧U % y1<y1∧(U*4294967296+u1) / V≤U / y1∧U / y1≤4294967297∧0≤U / y1:=by
 have h0:(0:Int)<y1:=by omega
 have hV0:0<V:=by omega
 have e:=Int.emod_add_mul_ediv U y1
 rw [Int.mul_comm] at e
 have h1:=Int.emod_nonneg U (show y1≠0 by omega)
 have h2:=Int.emod_lt_of_pos U h0
 have h3:0≤U / y1:=Int.ediv_nonneg hU (by omega)
 refine ⟨by omega,h1,h2,?_,?_,h3⟩
 ·have:(U*4294967296+u1) / V<U / y1+1:=by
   rw [Int.ediv_lt_iff_lt_mul hV0]
   have e2:(U / y1+1)*V=(U / y1*y1+y1)*4294967296+(U / y1+1)*y0:=by
    rw [hV,Int.mul_add,Int.add_mul,Int.add_mul,Int.add_mul]
    have:U / y1*(y1*4294967296)=U / y1*y1*4294967296:=by rw [Int.mul_assoc]
    omega
   have:=Int.mul_nonneg (show 0≤U / y1+1 by omega) hy0.1
   omega
  omega
 ·have:U / y1<4294967298:=by
   rw [Int.ediv_lt_iff_lt_mul h0]; omega
  omega
def LenP (x:Int) (n:Nat):Prop:=0≤x∧x<2 ^ n∧(x=0∧n=0∨0<n∧2 ^ (n-1)≤x)
theorem K7 {n m:Nat} (h:n≤m):(2:Int) ^ n≤2 ^ m:=by
 have:=Nat.pow_le_pow_right (n:=2) (by omega) h
 exact_mod_cast this
theorem Jv (n:Nat):(0:Int)<2 ^ n:=Int.pow_pos (by omega)
theorem LenP.unique {x:Int} {n m:Nat} (h1:LenP x n) (h2:LenP x m):n=m:=by
 obtain ⟨a0,a1,a2⟩:=h1
 obtain ⟨_,b1,b2⟩:=h2
 rcases Nat.lt_trichotomy n m with h | h | h
 ·rcases b2 with ⟨_,rfl⟩ | ⟨_,b2⟩
  ·omega
  ·have:=K7 (show n≤m-1 by omega); omega
 ·exact h
 ·rcases a2 with ⟨_,rfl⟩ | ⟨_,a2⟩
  ·omega
  ·have:=K7 (show m≤n-1 by omega); omega
theorem LenP.shift {x:Int} {k n:Nat} (h0:0≤x) (h1:2 ^ k≤x) (h:LenP (x / 2 ^ k) n):LenP x (k+n):=by
 obtain ⟨a0,a1,a2⟩:=h
 have hk:=Jv k
 have e1:x<2 ^ (k+n):=by
  rw [Int.ediv_lt_iff_lt_mul hk] at a1
  rw [Int.pow_add,Int.mul_comm]; exact a1
 have h2:1≤x / 2 ^ k:=by rw [Int.le_ediv_iff_mul_le hk]; omega
 refine ⟨h0,e1,.inr ?_⟩
 rcases a2 with ⟨a2,_⟩ | ⟨a2,a3⟩
 ·omega
 ·refine ⟨by omega,?_⟩
  rw [Int.le_ediv_iff_mul_le hk] at a3
  have:k+n-1=k+(n-1):=by omega
  rw [this,Int.pow_add,Int.mul_comm]; exact a3
def E8 (x:Int):Nat:=if x=0 then 0 else Nat.log2 x.toNat+1
theorem LU {x:Int} (h:0≤x):LenP x (E8 x):=by
 unfold E8
 split
 ·next e=>subst e; exact ⟨by omega,by decide,.inl ⟨rfl,rfl⟩⟩
 ·next e =>
  have hx:x.toNat≠0:=by omega
  have h1:=Nat.lt_log2_self (n:=x.toNat)
  have h2:=Nat.log2_self_le hx
  refine ⟨h,?_,.inr ⟨by omega,?_⟩⟩
  ·have:((x.toNat:Nat):Int)<((2 ^ (Nat.log2 x.toNat+1):Nat):Int):=by exact_mod_cast h1
   rw [Int.toNat_of_nonneg h] at this
   simpa using this
  ·have:((2 ^ (Nat.log2 x.toNat):Nat):Int)≤((x.toNat:Nat):Int):=by exact_mod_cast h2
   rw [Int.toNat_of_nonneg h] at this
   rw [show Nat.log2 x.toNat+1-1=Nat.log2 x.toNat by omega]
   simpa using this
theorem UN {x:Int} {n:Nat} (h:LenP x n):E8 x=n:=(LU h.1).unique h
theorem So {x:Int} (h:0≤x∧x<18446744073709551616):E8 x≤64:=by
 obtain ⟨_,_,a⟩:=LU h.1
 rcases a with ⟨_,a⟩ | ⟨a,b⟩
 ·omega
 ·refine Nat.le_of_not_lt fun h2=>?_
  have:=K7 (show 64≤E8 x-1 by omega)
  omega
set_option maxRecDepth 20000 in
abbrev tab8:ByteArray:=⟨⟨[0,1,2,2,3,3,3,3,4,4,4,4,4,4,4,4,5,5,5,5,5,5,5,5,5,5,5,5,5,5,5,5,6,6,6,6,6,6,6,6,6,6,6,6,6,6,6,6,6,6,6,6,6,6,6,6,6,6,6,6,6,6,6,6,7,7,7,7,7,7,7,7,7,7,7,7,7,7,7,7,7,7,7,7,7,7,7,7,7,7,7,7,7,7,7,7,7,7,7,7,7,7,7,7,7,7,7,7,7,7,7,7,7,7,7,7,7,7,7,7,7,7,7,7,7,7,7,7,8,8,8,8,8,8,8,8,8,8,8,8,8,8,8,8,8,8,8,8,8,8,8,8,8,8,8,8,8,8,8,8,8,8,8,8,8,8,8,8,8,8,8,8,8,8,8,8,8,8,8,8,8,8,8,8,8,8,8,8,8,8,8,8,8,8,8,8,8,8,8,8,8,8,8,8,8,8,8,8,8,8,8,8,8,8,8,8,8,8,8,8,8,8,8,8,8,8,8,8,8,8,8,8,8,8,8,8,8,8,8,8,8,8,8,8,8,8,8,8,8,8,8,8,8,8,8,8]⟩⟩
set_option maxRecDepth 20000 in
theorem AVY:tab8.size=256:=(rfl)
set_option maxRecDepth 20000 in
theorem UM:∀b:Nat,b<256→J6 tab8 b=(E8 b:Nat):=by decide +kernel
theorem Hb {x c:Int} (hc:0≤c):x.fdiv c=x / c:=Int.fdiv_eq_ediv_of_nonneg _ hc
theorem Nh {x:Int} (k:Nat) (h:2 ^ k≤x):(E8 x:Int)=k+E8 (x / 2 ^ k):=by
 have h0:0≤x:=by have:=Jv k; omega
 have h2:0≤x / 2 ^ k:=Int.ediv_nonneg h0 (Int.le_of_lt (Jv k))
 rw [UN (LenP.shift h0 h (LU h2)),Int.natCast_add]
theorem NF {x:Int} (h:4294967296≤x):(E8 x:Int)=32+E8 (x.fdiv 4294967296):=by rw [Hb (by omega)]; exact Nh 32 h
theorem Mz {x:Int} (h:65536≤x):(E8 x:Int)=16+E8 (x.fdiv 65536):=by rw [Hb (by omega)]; exact Nh 16 h
theorem MN {x:Int} (h:256≤x):(E8 x:Int)=8+E8 (x.fdiv 256):=by rw [Hb (by omega)]; exact Nh 8 h
theorem ASw {z:Int} (h:0≤z∧z<256):J6 tab8 (IntKind.u8.wrap z).toNat=E8 z:=by
 have e:IntKind.u8.wrap z=z:=by rw [IntKind.wrap_u8]; omega
 rw [e,UM _ (by omega),Int.toNat_of_nonneg h.1]
theorem ANp {z:Int}:0≤IntKind.u8.wrap z∧IntKind.u8.wrap z<(tab8.size:Int):=by
 rw [AVY,IntKind.wrap_u8]; omega
theorem AJS {z:Int} (h:0≤z∧z<256):E8 z≤8:=by
 obtain ⟨_,_,a⟩:=LU h.1
 rcases a with ⟨_,a⟩ | ⟨a,b⟩
 ·omega
 ·refine Nat.le_of_not_lt fun h2=>?_
  have:=K7 (show 8≤E8 z-1 by omega)
  omega
theorem ABR {c z:Int} (hc:0≤c∧c≤100) (hz:0≤z∧z<256):IntKind.i64.wrap (c+IntKind.i64.wrap (E8 z:Int))=c+E8 z:=by
 have:=AJS hz
 rw [IntKind.wrap_i64,IntKind.wrap_i64]; omega
theorem Ka {x y:Int} (hx:0≤x∧x≤4294967295) (hy:0≤y∧y≤4294967295):0≤x*y∧x*y≤18446744065119617025:=by
 refine ⟨Int.mul_nonneg hx.1 hy.1,?_⟩
 have:=Int.mul_le_mul hx.2 hy.2 hy.1 (by omega)
 omega
theorem APt (x y:Int):x*y=x / 4294967296*(y / 4294967296)*18446744073709551616+x / 4294967296*(y % 4294967296)*4294967296+x % 4294967296*(y / 4294967296)*4294967296+x % 4294967296*(y % 4294967296):=by
 have hx:=Int.emod_add_mul_ediv x 4294967296
 have hy:=Int.emod_add_mul_ediv y 4294967296
 have e:x*y=(x % 4294967296+4294967296*(x / 4294967296))*(y % 4294967296+4294967296*(y / 4294967296)):=by rw [hx,hy]
 rw [e]
 simp -implicitDefEqProofs only [Int.add_mul,Int.mul_add]
 have e1:∀p q:Int,p*(4294967296*q)=p*q*4294967296:=fun p q=>by rw [Int.mul_left_comm]; omega
 have e2:∀p q:Int,4294967296*p*q=p*q*4294967296:=fun p q=>by rw [Int.mul_assoc]; omega
 have e3:∀p q:Int,4294967296*p*(4294967296*q)=p*q*18446744073709551616:=fun p q=>by rw [e1,e2]; omega
 rw [e1,e2,e3]
 omega
theorem ADX {hi lo y:Int} (h:0≤hi∧hi<y) (hy:y<18446744073709551616) (hl:0≤lo∧lo<18446744073709551616):∃(s r:Nat) (V U T:Int),64-(E8 y:Int)=s∧s≤64∧IntKind.u64.wrap (s:Int)=s∧IntKind.u64.wrap (64-(s:Int))=r∧r≤64 ∧
  IntKind.u64.wrap (y*2 ^ s)=V∧9223372036854775808≤V∧V<18446744073709551616∧Hx .u64 (IntKind.u64.wrap (hi*2 ^ s)) (lo.fdiv (2 ^ r))=U∧0≤U∧U<V∧IntKind.u64.wrap (lo*2 ^ s)=T∧0≤T∧T<18446744073709551616∧U*18446744073709551616+T=(hi*18446744073709551616+lo)*2 ^ s∧V=y*2 ^ s:=by
 have hb:=So (x:=y) (by omega)
 obtain ⟨_,l1,l2⟩:=LU (x:=y) (by omega)
 obtain ⟨l3,l4⟩:0<E8 y∧2 ^ (E8 y-1)≤y:=by rcases l2 with l2 | l2; omega; exact l2
 obtain ⟨s,hs⟩:∃s:Nat,E8 y+s=64:=⟨64-E8 y,by omega⟩
 have hP:=Jv s
 have hR:=Jv (64-s)
 have hPR:(2:Int) ^ (64-s)*2 ^ s=18446744073709551616:=by rw [←Int.pow_add,show 64-s+s=64 by omega]; rfl
 have hV1:9223372036854775808≤y*2 ^ s:=by
  have e:(2:Int) ^ (E8 y-1)*2 ^ s=9223372036854775808:=by rw [←Int.pow_add,show E8 y-1+s=63 by omega]; rfl
  have:=Int.mul_le_mul_of_nonneg_right l4 (Int.le_of_lt hP)
  omega
 have hV2:y*2 ^ s<18446744073709551616:=by
  have e:(2:Int) ^ (E8 y)*2 ^ s=18446744073709551616:=by rw [←Int.pow_add,show E8 y+s=64 by omega]; rfl
  have:=Int.mul_lt_mul_of_pos_right l1 hP
  omega
 have hU0:0≤hi*2 ^ s:=Int.mul_nonneg h.1 (Int.le_of_lt hP)
 have hU1:hi*2 ^ s+2 ^ s≤y*2 ^ s:=by
  have:=Int.mul_le_mul_of_nonneg_right (show hi+1≤y by omega) (Int.le_of_lt hP)
  rw [Int.add_mul] at this; omega
 have hq0:0≤lo / 2 ^ (64-s):=Int.ediv_nonneg hl.1 (Int.le_of_lt hR)
 have hq1:lo / 2 ^ (64-s)<2 ^ s:=by rw [Int.ediv_lt_iff_lt_mul hR,Int.mul_comm,hPR]; exact hl.2
 have hm0:=Int.emod_nonneg lo (show (2:Int) ^ (64-s)≠0 by omega)
 have hm1:=Int.emod_lt_of_pos lo hR
 have hlo:=Int.emod_add_mul_ediv lo (2 ^ (64-s))
 have eT:lo*2 ^ s=lo % 2 ^ (64-s)*2 ^ s+lo / 2 ^ (64-s)*18446744073709551616:=by
  conv=>lhs; rw [←hlo]
  rw [Int.add_mul,←hPR]
  congr 1
  rw [Int.mul_comm ((2:Int) ^ (64-s)) (lo / 2 ^ (64-s)),Int.mul_assoc]
 have hT0:0≤lo % 2 ^ (64-s)*2 ^ s:=Int.mul_nonneg hm0 (Int.le_of_lt hP)
 have hT1:lo % 2 ^ (64-s)*2 ^ s<18446744073709551616:=by
  have:=Int.mul_lt_mul_of_pos_right hm1 hP
  omega
 refine ⟨s,64-s,y*2 ^ s,hi*2 ^ s+lo / 2 ^ (64-s),lo % 2 ^ (64-s)*2 ^ s,by omega,by omega,Ey (by omega),by rw [Ey (by omega)]; omega,by omega,Ey (by omega),hV1,hV2,?_,by omega,by omega,?_,hT0,hT1,?_,rfl⟩
 ·rw [Ey (by omega),Hb (Int.le_of_lt hR)]
  exact W9 h.1 ⟨hq0,hq1⟩ (by omega)
 ·rw [IntKind.wrap_u64,eT]; omega
 ·rw [Int.add_mul (hi*18446744073709551616) lo,eT,Int.add_mul]
  have:hi*18446744073709551616*2 ^ s=hi*2 ^ s*18446744073709551616:=by rw [Int.mul_assoc,Int.mul_comm 18446744073709551616,←Int.mul_assoc]
  omega
theorem ML {p c:Int} (hc:0<c):p / c*c+p % c=p∧0≤p % c∧p % c<c:=by
 have e:=Int.emod_add_mul_ediv p c
 rw [Int.mul_comm] at e
 exact ⟨by omega,Int.emod_nonneg _ (by omega),Int.emod_lt_of_pos _ hc⟩
theorem AAm {p c q r:Int} (hc:0<c) (h:q*c+r=p) (h1:0≤r) (h2:r<c):p / c=q∧p % c=r :=
 (Int.ediv_emod_unique hc).2 ⟨by rw [Int.mul_comm] at h; omega,h1,h2⟩
set_option maxRecDepth 20000 in
theorem Qy {x:Int} (h:0≤x∧x<18446744073709551616):DataW Tryz.prog AHY [u64 x] (i64 (E8 x)):=by
 refine AX ACY (by simp) ?_
 simp -implicitDefEqProofs -proj only [go_sem,seval]
 (repeat' first
  | ((with_reducible first | refine EA (fun h=>?_) (fun h=>?_) | refine BJ (fun h=>?_) (fun h=>?_) | refine EC (fun h=>?_) (fun h=>?_)) <;> (simp -implicitDefEqProofs -proj only [go_sem,seval, *]; try (revert h; intro _)))
  | ((with_reducible first | refine AK (fun _ hb=>?_) | refine As (fun _ hb=>?_)); simp only [EB,ED,Aa,Heap.none_get,and_true,true_and] at hb; simp -implicitDefEqProofs -proj only [go_sem,seval, *]; try (revert hb; intro _))
  | ((with_reducible first | refine D5 _ rfl (by simp) ?_ | refine D8 _ rfl (by simp) ?_); simp -implicitDefEqProofs -proj only [go_sem,seval, *])
  | (with_reducible refine Ae ?_ (fun h=>?_); first | ((focus first | decide | omega); try clear h; try simp -implicitDefEqProofs -proj only [go_sem,seval, *]) | (rotate_left; try clear h; try simp -implicitDefEqProofs -proj only [go_sem,seval, *]; rotate_right)))
 all_goals try exact ANp.2
 all_goals
  refine AH ?_
  simp -implicitDefEqProofs only [decide_eq_true_eq,decide_eq_false_iff_not,Bool.not_eq_true',Bool.not_eq_false',Bool.and_eq_true,Bool.and_eq_false_iff,Bool.or_eq_true,Bool.or_eq_false_iff,beq_iff_eq,beq_eq_false_iff_ne,ne_eq,decide_eq_decide,Bool.not_eq_true,Bool.not_eq_false] at *
  simp -implicitDefEqProofs only [←decide_not,←Bool.decide_and,←Bool.decide_or,Bool.beq_eq_decide_eq,AV.d.injEq,D.bool.injEq,D.int.injEq,D.str.injEq,AV.tup.injEq,AV.agg.injEq,List.cons.injEq,true_and,and_true,decide_eq_decide,true_eq_decide_iff,false_eq_decide_iff,decide_eq_true_eq,decide_eq_false_iff_not,Bool.true_eq,Bool.false_eq]
 all_goals
  first
  | rw [NF (by assumption),Mz (by assumption),MN (by assumption)]
  | rw [NF (by assumption),Mz (by assumption)]
  | rw [NF (by assumption),MN (by assumption)]
  | rw [NF (by assumption)]
  | rw [Mz (by assumption),MN (by assumption)]
  | rw [Mz (by assumption)]
  | rw [MN (by assumption)]
  | skip
 all_goals
  try simp -implicitDefEqProofs only [Hb (show (0:Int)≤4294967296 by omega),Hb (show (0:Int)≤65536 by omega),Hb (show (0:Int)≤256 by omega)] at *
  rw [ASw (by omega),ABR (by decide) (by omega)] <;>
  first | (simp -implicitDefEqProofs only [IntKind.wrap_i64]; done) | (simp -implicitDefEqProofs only [IntKind.wrap_i64]; omega) | omega
theorem APi {x:Int} (h:0≤x∧x<18446744073709551616):DataW Tryz.prog VM [u64 x] (i64 (64-E8 x)):=by
 have hb:=So h
 refine AX AVL (by simp) ?_
 simp -implicitDefEqProofs -proj only [go_sem,seval]
 (repeat' first
  | (refine AJ (Qy h) ?_; simp -implicitDefEqProofs -proj only [go_sem,seval, *])
  | (refine Eb (Qy h) ?_; simp -implicitDefEqProofs -proj only [go_sem,seval, *])
  | ((with_reducible first | refine EA (fun h=>?_) (fun h=>?_) | refine BJ (fun h=>?_) (fun h=>?_) | refine EC (fun h=>?_) (fun h=>?_)) <;> (simp -implicitDefEqProofs -proj only [go_sem,seval, *]; try (revert h; intro _)))
  | ((with_reducible first | refine AK (fun _ hb=>?_) | refine As (fun _ hb=>?_)); simp -implicitDefEqProofs only [EB,ED,Aa,Heap.none_get,and_true,true_and] at hb; simp -implicitDefEqProofs -proj only [go_sem,seval, *]; try (revert hb; intro _))
  | ((with_reducible first | refine D5 _ rfl (by simp) ?_ | refine D8 _ rfl (by simp) ?_); simp -implicitDefEqProofs -proj only [go_sem,seval, *])
  | (with_reducible refine Ae ?_ (fun h=>?_); first | ((focus first | decide | omega); try clear h; try simp -implicitDefEqProofs -proj only [go_sem,seval, *]) | (rotate_left; try clear h; try simp -implicitDefEqProofs -proj only [go_sem,seval, *]; rotate_right)))
 refine AH ?_
 simp -implicitDefEqProofs only [←decide_not,←Bool.decide_and,←Bool.decide_or,Bool.beq_eq_decide_eq,AV.d.injEq,D.bool.injEq,D.int.injEq,D.str.injEq,AV.tup.injEq,AV.agg.injEq,List.cons.injEq,true_and,and_true,decide_eq_decide,true_eq_decide_iff,false_eq_decide_iff,decide_eq_true_eq,decide_eq_false_iff_not,Bool.true_eq,Bool.false_eq,IntKind.wrap_i64]
 omega
theorem ASa {x y:Int} (h:0≤x∧x<18446744073709551616) (h':0≤y∧y<18446744073709551616):DataW Tryz.prog ANz [u64 x,u64 y] (.tup [u64 (x*y / 18446744073709551616),u64 (x*y % 18446744073709551616)]):=by
 refine AX WX (by simp) ?_
 simp -implicitDefEqProofs -proj only [go_sem,seval]
 (repeat' first
  | ((with_reducible first | refine EA (fun h=>?_) (fun h=>?_) | refine BJ (fun h=>?_) (fun h=>?_) | refine EC (fun h=>?_) (fun h=>?_)) <;> (simp -implicitDefEqProofs -proj only [go_sem,seval, *]; try (revert h; intro _)))
  | ((with_reducible first | refine AK (fun _ hb=>?_) | refine As (fun _ hb=>?_)); simp only [EB,ED,Aa,Heap.none_get,and_true,true_and] at hb; simp -implicitDefEqProofs -proj only [go_sem,seval, *]; try (revert hb; intro _))
  | ((with_reducible first | refine D5 _ rfl (by simp) ?_ | refine D8 _ rfl (by simp) ?_); simp -implicitDefEqProofs -proj only [go_sem,seval, *])
  | (with_reducible refine Ae ?_ (fun h=>?_); first | ((focus first | decide | omega); try clear h; try simp -implicitDefEqProofs -proj only [go_sem,seval, *]) | (rotate_left; try clear h; try simp -implicitDefEqProofs -proj only [go_sem,seval, *]; rotate_right)))
 have hp:=APt x y
 have fx:x.fdiv 4294967296=x / 4294967296:=Hb (by omega)
 have fy:y.fdiv 4294967296=y / 4294967296:=Hb (by omega)
 rw [fx,fy,LX h,LX h']
 have a1:0≤x / 4294967296∧x / 4294967296≤4294967295:=by omega
 have a2:0≤x % 4294967296∧x % 4294967296≤4294967295:=by omega
 have b1:0≤y / 4294967296∧y / 4294967296≤4294967295:=by omega
 have b2:0≤y % 4294967296∧y % 4294967296≤4294967295:=by omega
 have p1:=Ka a1 b1
 have p2:=Ka a1 b2
 have p3:=Ka a2 b1
 have p4:=Ka a2 b2
 rw [hp]
 generalize x / 4294967296*(y / 4294967296)=P at *
 generalize x / 4294967296*(y % 4294967296)=q at *
 generalize x % 4294967296*(y / 4294967296)=r at *
 generalize x % 4294967296*(y % 4294967296)=t at *
 clear fx fy a1 a2 b1 b2 hp
 rw [Ey (show 0≤t∧t≤18446744073709551615 by omega),Ey (show 0≤q∧q≤18446744073709551615 by omega),Ey (show 0≤r∧r≤18446744073709551615 by omega),Ey (show 0≤P∧P≤18446744073709551615 by omega)]
 simp -implicitDefEqProofs only [Hb (show (0:Int)≤4294967296 by omega)]
 rw [Ey (show 0≤q+t / 4294967296∧q+t / 4294967296≤18446744073709551615 by omega),LX (by omega)]
 refine AH ?_
 simp -implicitDefEqProofs only [IntKind.wrap_u64,←decide_not,←Bool.decide_and,←Bool.decide_or,Bool.beq_eq_decide_eq,AV.d.injEq,D.bool.injEq,D.int.injEq,D.str.injEq,AV.tup.injEq,AV.agg.injEq,List.cons.injEq,true_and,and_true,decide_eq_decide,true_eq_decide_iff,false_eq_decide_iff,decide_eq_true_eq,decide_eq_false_iff_not,Bool.true_eq,Bool.false_eq]
 omega
set_option maxRecDepth 20000 in
theorem Tt {V s y1 y0 U w w2:Int} {Q:Out→St→Prop} {k:List Item} {S:St} (hn:135=S.n) (ha:AM S.t [(2,u64 V),(8,u64 s),(9,u64 y1),(10,u64 y0),(11,u64 U),(13,u64 w),(14,u64 w2),(15,u64 (U / y1)),(16,u64 (U % y1))])
  (hV:V=y1*4294967296+y0) (hy1:2147483648≤y1∧y1<4294967296) (hy0:0≤y0∧y0<4294967296) (hU:0≤U) (hUV:U<V) (hw:0≤w∧w<4294967296)
  (after:∀(t:TM) (H:Heap) (r:Int),AM t [(2,u64 V),(8,u64 s),(9,u64 y1),(10,u64 y0),(11,u64 U),(13,u64 w),(14,u64 w2),(15,u64 ((U*4294967296+w) / V)),(16,u64 r)]→Ej Tryz.prog Q k (.exit 0) ⟨135,t,H⟩):Kt Tryz.prog Q TL k S:=by
 obtain ⟨i1,i2,i3,i4,i5,i6⟩:=Mk hV hy1.1 hy0 hU hUV hw
 refine D9 (fun p:Int×Int=>p.1*y1+p.2=U∧0≤p.2∧p.2<4294967296∧(U*4294967296+w) / V≤p.1∧p.1≤4294967297∧0≤p.1) 135 (fun p=>[(2,u64 V),(8,u64 s),(9,u64 y1),(10,u64 y0),(11,u64 U),(13,u64 w),(14,u64 w2),(15,u64 p.1),(16,u64 p.2)]) (fun _=>[]) (fun p=>p.1.toNat) (U / y1,U % y1) ⟨i1,i2,by simp -implicitDefEqProofs only [Ao]; omega,i4,i5,i6⟩ hn ha trivial ?_
 rintro ⟨q,r⟩ ⟨h1,h2,h3,h4,h5,h6⟩
 simp -implicitDefEqProofs only [Ag,Ao] at h1 h2 h3 h4 h5 h6
 have hm:q<4294967296→0≤q*y0∧q*y0≤18446744065119617025:=fun h=>Ka (by omega) (by omega)
 have hm2:q≤4294967296→q*y0≤4294967296*4294967295:=fun h=>Int.mul_le_mul h (by omega) hy0.1 (by omega)
 have hQ0:0≤(U*4294967296+w) / V:=Int.ediv_nonneg (by omega) (by omega)
 have stop:=NB (u1:=w) hV (by omega) h1 h4
 have go:=TU (u1:=w) hV (by omega) hUV hw.2 h1
 have stop2:∀a b:Int,a=q-1→b=r+y1→4294967296≤b→(U*4294967296+w) / V≤a→a=(U*4294967296+w) / V:=by
  rintro a b rfl rfl hb hc
  refine NB (u1:=w) (q:=q-1) (r:=r+y1) hV (by omega) (by rw [Int.sub_mul]; omega) hc ?_
  have e:(q-1)*y0=q*y0-y0:=by rw [Int.sub_mul]; omega
  have:=Int.mul_le_mul (show q-1≤4294967296 by omega) (show y0≤4294967295 by omega) hy0.1 (by omega)
  omega
 have next:∀a b:Int,a=q-1→b=r+y1→b<4294967296→(U*4294967296+w) / V≤a→a*y1+b=U∧0≤b∧b<4294967296∧(U*4294967296+w) / V≤a∧a≤4294967297∧0≤a:=by
  rintro a b rfl rfl hb hc
  exact ⟨by rw [Int.sub_mul]; omega,by omega,hb,hc,by omega,by omega⟩
 have hwrap1:0<q→IntKind.u64.wrap (q-1)=q-1:=fun h=>Ey (by omega)
 have hwrap2:IntKind.u64.wrap (r+y1)=r+y1:=Ey (by omega)
 have hwrap3:IntKind.u64.wrap (IntKind.u64.wrap (4294967296*r)+w)=4294967296*r+w:=by rw [Ey (show 0≤4294967296*r∧4294967296*r≤18446744073709551615 by omega),Ey (by omega)]
 have hwrap4:q<4294967296→IntKind.u64.wrap (q*y0)=q*y0:=fun h=>Ey (by have:=hm h; omega)
 generalize hN:(U*4294967296+w) / V=N at *
 have body:N≤q-1→0<q:=by omega
 have cont:∀(h:N≤q-1),0<q:=by omega
 simp -implicitDefEqProofs -proj only [go_sem,seval]
 refine EA (fun g=>?_) (fun g=>?_)
 ·simp -implicitDefEqProofs only [decide_eq_true_eq,decide_eq_false_iff_not,Bool.not_eq_true',Bool.not_eq_false',Bool.and_eq_true,Bool.and_eq_false_iff,Bool.or_eq_true,Bool.or_eq_false_iff,beq_iff_eq,beq_eq_false_iff_ne,ne_eq,decide_eq_decide,Bool.not_eq_true,Bool.not_eq_false] at g
  have hgo:=go (.inl g)
  have hw1:=hwrap1 (by omega)
  simp -implicitDefEqProofs -proj only [go_sem,seval,decide_eq_true g,hw1,hwrap2]
  refine BJ (fun c=>?_) (fun c=>?_)
  ·simp -implicitDefEqProofs only [decide_eq_true_eq,decide_eq_false_iff_not,Bool.not_eq_true',Bool.not_eq_false',Bool.and_eq_true,Bool.and_eq_false_iff,Bool.or_eq_true,Bool.or_eq_false_iff,beq_iff_eq,beq_eq_false_iff_ne,ne_eq,decide_eq_decide,Bool.not_eq_true,Bool.not_eq_false] at c
   simp -implicitDefEqProofs -proj only [go_sem,seval,decide_eq_true c]
   rw [←stop2 _ _ rfl rfl c hgo] at after
   refine after _ _ (r+y1) ?_
   simp -implicitDefEqProofs -proj only [go_sem,seval,AM]
  ·simp -implicitDefEqProofs only [decide_eq_true_eq,decide_eq_false_iff_not,Bool.not_eq_true',Bool.not_eq_false',Bool.and_eq_true,Bool.and_eq_false_iff,Bool.or_eq_true,Bool.or_eq_false_iff,beq_iff_eq,beq_eq_false_iff_ne,ne_eq,decide_eq_decide,Bool.not_eq_true,Bool.not_eq_false] at c
   simp -implicitDefEqProofs -proj only [go_sem,seval,decide_eq_false c]
   refine Ad (q-1,r+y1) (next _ _ rfl rfl (by omega) hgo) (by simp -implicitDefEqProofs only [Ag]; omega) rfl ?_ trivial
   simp -implicitDefEqProofs -proj only [go_sem,seval,AM]
 ·simp -implicitDefEqProofs only [decide_eq_true_eq,decide_eq_false_iff_not,Bool.not_eq_true',Bool.not_eq_false',Bool.and_eq_true,Bool.and_eq_false_iff,Bool.or_eq_true,Bool.or_eq_false_iff,beq_iff_eq,beq_eq_false_iff_ne,ne_eq,decide_eq_decide,Bool.not_eq_true,Bool.not_eq_false] at g
  have hw4:=hwrap4 (by omega)
  have hm':=hm (by omega)
  simp -implicitDefEqProofs -proj only [go_sem,seval,decide_eq_false g,hwrap3,hw4]
  refine BJ (fun g2=>?_) (fun g2=>?_)
  ·simp -implicitDefEqProofs only [decide_eq_true_eq,decide_eq_false_iff_not,Bool.not_eq_true',Bool.not_eq_false',Bool.and_eq_true,Bool.and_eq_false_iff,Bool.or_eq_true,Bool.or_eq_false_iff,beq_iff_eq,beq_eq_false_iff_ne,ne_eq,decide_eq_decide,Bool.not_eq_true,Bool.not_eq_false] at g2
   have hgo:=go (.inr g2)
   have hw1:=hwrap1 (by omega)
   simp -implicitDefEqProofs -proj only [go_sem,seval,decide_eq_true g2,hw1,hwrap2]
   refine BJ (fun c=>?_) (fun c=>?_)
   ·simp -implicitDefEqProofs only [decide_eq_true_eq,decide_eq_false_iff_not,Bool.not_eq_true',Bool.not_eq_false',Bool.and_eq_true,Bool.and_eq_false_iff,Bool.or_eq_true,Bool.or_eq_false_iff,beq_iff_eq,beq_eq_false_iff_ne,ne_eq,decide_eq_decide,Bool.not_eq_true,Bool.not_eq_false] at c
    simp -implicitDefEqProofs -proj only [go_sem,seval,decide_eq_true c]
    rw [←stop2 _ _ rfl rfl c hgo] at after
    refine after _ _ (r+y1) ?_
    simp -implicitDefEqProofs -proj only [go_sem,seval,AM]
   ·simp -implicitDefEqProofs only [decide_eq_true_eq,decide_eq_false_iff_not,Bool.not_eq_true',Bool.not_eq_false',Bool.and_eq_true,Bool.and_eq_false_iff,Bool.or_eq_true,Bool.or_eq_false_iff,beq_iff_eq,beq_eq_false_iff_ne,ne_eq,decide_eq_decide,Bool.not_eq_true,Bool.not_eq_false] at c
    simp -implicitDefEqProofs -proj only [go_sem,seval,decide_eq_false c]
    refine Ad (q-1,r+y1) (next _ _ rfl rfl (by omega) hgo) (by simp -implicitDefEqProofs only [Ag]; omega) rfl ?_ trivial
    simp -implicitDefEqProofs -proj only [go_sem,seval,AM]
  ·simp -implicitDefEqProofs only [decide_eq_true_eq,decide_eq_false_iff_not,Bool.not_eq_true',Bool.not_eq_false',Bool.and_eq_true,Bool.and_eq_false_iff,Bool.or_eq_true,Bool.or_eq_false_iff,beq_iff_eq,beq_eq_false_iff_ne,ne_eq,decide_eq_decide,Bool.not_eq_true,Bool.not_eq_false] at g2
   simp -implicitDefEqProofs -proj only [go_sem,seval,decide_eq_false g2]
   rw [←stop (by omega)] at after
   refine after _ _ r ?_
   simp -implicitDefEqProofs -proj only [go_sem,seval,AM]
set_option maxRecDepth 20000 in
theorem AUs {V s y1 y0 w2 q1 W:Int} {Q:Out→St→Prop} {k:List Item} {S:St} (hn:135=S.n) (ha:AM S.t [(2,u64 V),(8,u64 s),(9,u64 y1),(10,u64 y0),(14,u64 w2),(15,u64 q1),(17,u64 W),(18,u64 (W / y1)),(16,u64 (W % y1))])
  (hV:V=y1*4294967296+y0) (hy1:2147483648≤y1∧y1<4294967296) (hy0:0≤y0∧y0<4294967296) (hU:0≤W) (hUV:W<V) (hw:0≤w2∧w2<4294967296)
  (after:∀(t:TM) (H:Heap) (r:Int),AM t [(2,u64 V),(8,u64 s),(9,u64 y1),(10,u64 y0),(14,u64 w2),(15,u64 q1),(17,u64 W),(18,u64 ((W*4294967296+w2) / V)),(16,u64 r)]→Ej Tryz.prog Q k (.exit 2) ⟨135,t,H⟩):Kt Tryz.prog Q ST k S:=by
 obtain ⟨i1,i2,i3,i4,i5,i6⟩:=Mk hV hy1.1 hy0 hU hUV hw
 refine D9 (fun p:Int×Int=>p.1*y1+p.2=W∧0≤p.2∧p.2<4294967296∧(W*4294967296+w2) / V≤p.1∧p.1≤4294967297∧0≤p.1) 135 (fun p=>[(2,u64 V),(8,u64 s),(9,u64 y1),(10,u64 y0),(14,u64 w2),(15,u64 q1),(17,u64 W),(18,u64 p.1),(16,u64 p.2)]) (fun _=>[]) (fun p=>p.1.toNat) (W / y1,W % y1) ⟨i1,i2,by simp -implicitDefEqProofs only [Ao]; omega,i4,i5,i6⟩ hn ha trivial ?_
 rintro ⟨q,r⟩ ⟨h1,h2,h3,h4,h5,h6⟩
 simp -implicitDefEqProofs only [Ag,Ao] at h1 h2 h3 h4 h5 h6
 have hm:q<4294967296→0≤q*y0∧q*y0≤18446744065119617025:=fun h=>Ka (by omega) (by omega)
 have hm2:q≤4294967296→q*y0≤4294967296*4294967295:=fun h=>Int.mul_le_mul h (by omega) hy0.1 (by omega)
 have hQ0:0≤(W*4294967296+w2) / V:=Int.ediv_nonneg (by omega) (by omega)
 have stop:=NB (u1:=w2) hV (by omega) h1 h4
 have go:=TU (u1:=w2) hV (by omega) hUV hw.2 h1
 have stop2:∀a b:Int,a=q-1→b=r+y1→4294967296≤b→(W*4294967296+w2) / V≤a→a=(W*4294967296+w2) / V:=by
  rintro a b rfl rfl hb hc
  refine NB (u1:=w2) (q:=q-1) (r:=r+y1) hV (by omega) (by rw [Int.sub_mul]; omega) hc ?_
  have e:(q-1)*y0=q*y0-y0:=by rw [Int.sub_mul]; omega
  have:=Int.mul_le_mul (show q-1≤4294967296 by omega) (show y0≤4294967295 by omega) hy0.1 (by omega)
  omega
 have next:∀a b:Int,a=q-1→b=r+y1→b<4294967296→(W*4294967296+w2) / V≤a→a*y1+b=W∧0≤b∧b<4294967296∧(W*4294967296+w2) / V≤a∧a≤4294967297∧0≤a:=by
  rintro a b rfl rfl hb hc
  exact ⟨by rw [Int.sub_mul]; omega,by omega,hb,hc,by omega,by omega⟩
 have hwrap1:0<q→IntKind.u64.wrap (q-1)=q-1:=fun h=>Ey (by omega)
 have hwrap2:IntKind.u64.wrap (r+y1)=r+y1:=Ey (by omega)
 have hwrap3:IntKind.u64.wrap (IntKind.u64.wrap (4294967296*r)+w2)=4294967296*r+w2:=by rw [Ey (show 0≤4294967296*r∧4294967296*r≤18446744073709551615 by omega),Ey (by omega)]
 have hwrap4:q<4294967296→IntKind.u64.wrap (q*y0)=q*y0:=fun h=>Ey (by have:=hm h; omega)
 generalize hN:(W*4294967296+w2) / V=N at *
 have body:N≤q-1→0<q:=by omega
 have cont:∀(h:N≤q-1),0<q:=by omega
 simp -implicitDefEqProofs -proj only [go_sem,seval]
 refine EA (fun g=>?_) (fun g=>?_)
 ·simp -implicitDefEqProofs only [decide_eq_true_eq,decide_eq_false_iff_not,Bool.not_eq_true',Bool.not_eq_false',Bool.and_eq_true,Bool.and_eq_false_iff,Bool.or_eq_true,Bool.or_eq_false_iff,beq_iff_eq,beq_eq_false_iff_ne,ne_eq,decide_eq_decide,Bool.not_eq_true,Bool.not_eq_false] at g
  have hgo:=go (.inl g)
  have hw1:=hwrap1 (by omega)
  simp -implicitDefEqProofs -proj only [go_sem,seval,decide_eq_true g,hw1,hwrap2]
  refine BJ (fun c=>?_) (fun c=>?_)
  ·simp -implicitDefEqProofs only [decide_eq_true_eq,decide_eq_false_iff_not,Bool.not_eq_true',Bool.not_eq_false',Bool.and_eq_true,Bool.and_eq_false_iff,Bool.or_eq_true,Bool.or_eq_false_iff,beq_iff_eq,beq_eq_false_iff_ne,ne_eq,decide_eq_decide,Bool.not_eq_true,Bool.not_eq_false] at c
   simp -implicitDefEqProofs -proj only [go_sem,seval,decide_eq_true c]
   rw [←stop2 _ _ rfl rfl c hgo] at after
   refine after _ _ (r+y1) ?_
   simp -implicitDefEqProofs -proj only [go_sem,seval,AM]
  ·simp -implicitDefEqProofs only [decide_eq_true_eq,decide_eq_false_iff_not,Bool.not_eq_true',Bool.not_eq_false',Bool.and_eq_true,Bool.and_eq_false_iff,Bool.or_eq_true,Bool.or_eq_false_iff,beq_iff_eq,beq_eq_false_iff_ne,ne_eq,decide_eq_decide,Bool.not_eq_true,Bool.not_eq_false] at c
   simp -implicitDefEqProofs -proj only [go_sem,seval,decide_eq_false c]
   refine Ad (q-1,r+y1) (next _ _ rfl rfl (by omega) hgo) (by simp -implicitDefEqProofs only [Ag]; omega) rfl ?_ trivial
   simp -implicitDefEqProofs -proj only [go_sem,seval,AM]
 ·simp -implicitDefEqProofs only [decide_eq_true_eq,decide_eq_false_iff_not,Bool.not_eq_true',Bool.not_eq_false',Bool.and_eq_true,Bool.and_eq_false_iff,Bool.or_eq_true,Bool.or_eq_false_iff,beq_iff_eq,beq_eq_false_iff_ne,ne_eq,decide_eq_decide,Bool.not_eq_true,Bool.not_eq_false] at g
  have hw4:=hwrap4 (by omega)
  have hm':=hm (by omega)
  simp -implicitDefEqProofs -proj only [go_sem,seval,decide_eq_false g,hwrap3,hw4]
  refine BJ (fun g2=>?_) (fun g2=>?_)
  ·simp -implicitDefEqProofs only [decide_eq_true_eq,decide_eq_false_iff_not,Bool.not_eq_true',Bool.not_eq_false',Bool.and_eq_true,Bool.and_eq_false_iff,Bool.or_eq_true,Bool.or_eq_false_iff,beq_iff_eq,beq_eq_false_iff_ne,ne_eq,decide_eq_decide,Bool.not_eq_true,Bool.not_eq_false] at g2
   have hgo:=go (.inr g2)
   have hw1:=hwrap1 (by omega)
   simp -implicitDefEqProofs -proj only [go_sem,seval,decide_eq_true g2,hw1,hwrap2]
   refine BJ (fun c=>?_) (fun c=>?_)
   ·simp -implicitDefEqProofs only [decide_eq_true_eq,decide_eq_false_iff_not,Bool.not_eq_true',Bool.not_eq_false',Bool.and_eq_true,Bool.and_eq_false_iff,Bool.or_eq_true,Bool.or_eq_false_iff,beq_iff_eq,beq_eq_false_iff_ne,ne_eq,decide_eq_decide,Bool.not_eq_true,Bool.not_eq_false] at c
    simp -implicitDefEqProofs -proj only [go_sem,seval,decide_eq_true c]
    rw [←stop2 _ _ rfl rfl c hgo] at after
    refine after _ _ (r+y1) ?_
    simp -implicitDefEqProofs -proj only [go_sem,seval,AM]
   ·simp -implicitDefEqProofs only [decide_eq_true_eq,decide_eq_false_iff_not,Bool.not_eq_true',Bool.not_eq_false',Bool.and_eq_true,Bool.and_eq_false_iff,Bool.or_eq_true,Bool.or_eq_false_iff,beq_iff_eq,beq_eq_false_iff_ne,ne_eq,decide_eq_decide,Bool.not_eq_true,Bool.not_eq_false] at c
    simp -implicitDefEqProofs -proj only [go_sem,seval,decide_eq_false c]
    refine Ad (q-1,r+y1) (next _ _ rfl rfl (by omega) hgo) (by simp -implicitDefEqProofs only [Ag]; omega) rfl ?_ trivial
    simp -implicitDefEqProofs -proj only [go_sem,seval,AM]
  ·simp -implicitDefEqProofs only [decide_eq_true_eq,decide_eq_false_iff_not,Bool.not_eq_true',Bool.not_eq_false',Bool.and_eq_true,Bool.and_eq_false_iff,Bool.or_eq_true,Bool.or_eq_false_iff,beq_iff_eq,beq_eq_false_iff_ne,ne_eq,decide_eq_decide,Bool.not_eq_true,Bool.not_eq_false] at g2
   simp -implicitDefEqProofs -proj only [go_sem,seval,decide_eq_false g2]
   rw [←stop (by omega)] at after
   refine after _ _ r ?_
   simp -implicitDefEqProofs -proj only [go_sem,seval,AM]
theorem ATC {hi lo y V U T P w w2:Int} (hU:U*18446744073709551616+T=(hi*18446744073709551616+lo)*P) (hV:V=y*P) (hP:0<P) (hy:0<y) (hT:T=w*4294967296+w2) (hw2:0≤w2∧w2<4294967296) {q1 W q0:Int} (hV0:0<V) (hq1:q1=(U*4294967296+w) / V) (hW:W=U*4294967296+w-q1*V) (hq0:q0=(W*4294967296+w2) / V) :
  q1*4294967296+q0=(hi*18446744073709551616+lo) / y∧(W*4294967296+w2-q0*V) / P=(hi*18446744073709551616+lo) % y:=by
 have f1:=ML (p:=U*4294967296+w) hV0
 have f2:=ML (p:=W*4294967296+w2) hV0
 rw [←hq1] at f1
 rw [←hq0] at f2
 obtain ⟨k1,k2⟩:=AAm (p:=(hi*18446744073709551616+lo)*P) (c:=V) hV0 (q:=q1*4294967296+q0) (r:=W*4294967296+w2-q0*V) (by rw [Int.add_mul,Int.mul_assoc,Int.mul_comm 4294967296 V,←Int.mul_assoc]; omega) (by omega) (by omega)
 rw [hV] at k1 k2
 rw [Int.mul_ediv_mul_of_pos_left _ _ hP] at k1
 rw [Int.mul_comm _ P,Int.mul_comm y P,Int.mul_emod_mul_of_pos _ _ hP,Int.mul_comm P y] at k2
 refine ⟨k1.symm,?_⟩
 rw [hV,←k2,Int.mul_comm P,Int.mul_ediv_cancel _ (by omega)]
set_option maxRecDepth 20000 in
set_option maxHeartbeats 2000000 in
theorem YT {hi lo y:Int} (h:0≤hi∧hi<y) (hy:y<18446744073709551616) (hl:0≤lo∧lo<18446744073709551616):DataW Tryz.prog ANc [u64 hi,u64 lo,u64 y] (.tup [u64 ((hi*18446744073709551616+lo) / y),u64 ((hi*18446744073709551616+lo) % y)]):=by
 refine AX AIo (by simp) ?_
 simp -implicitDefEqProofs -proj only [go_sem,seval,decide_eq_false (show ¬y=0 by omega),decide_eq_false (show ¬y≤hi by omega)]
 refine BJ (fun e=>?_) (fun e=>?_)
 ·simp -implicitDefEqProofs -proj only [go_sem,seval,e]
  simp -implicitDefEqProofs only [decide_eq_true_eq,decide_eq_false_iff_not,Bool.not_eq_true',Bool.not_eq_false',Bool.and_eq_true,Bool.and_eq_false_iff,Bool.or_eq_true,Bool.or_eq_false_iff,beq_iff_eq,beq_eq_false_iff_ne,ne_eq,decide_eq_decide,Bool.not_eq_true,Bool.not_eq_false] at e
  subst e
  have a1:lo.tdiv y=lo / y:=Int.tdiv_eq_ediv_of_nonneg hl.1
  have a2:lo.tmod y=lo % y:=Int.tmod_eq_emod_of_nonneg hl.1
  have a3:IntKind.u64.wrap (lo / y)=lo / y:=Ey ⟨Int.ediv_nonneg hl.1 (by omega),by have:=Int.ediv_le_self y hl.1; omega⟩
  refine Ae (by omega) (fun _=>?_)
  simp -implicitDefEqProofs -proj only [go_sem,seval,a1,a2,a3]
  (repeat' (with_reducible refine Ae ?_ (fun h=>?_); (focus first | decide | omega); clear h; try simp -implicitDefEqProofs -proj only [go_sem,seval,a1,a2,a3]))
  refine AH ?_
  simp -implicitDefEqProofs only [Int.zero_mul,Int.zero_add]
 ·obtain ⟨s,r,V,U,T,e1,hs,e2,e3,hr,e4,v1,v2,e5,u1,u2,e6,t1,t2,e7,e8⟩:=ADX h hy hl
  have hz:=APi (x:=y) (by omega)
  rw [e1] at hz
  have g1:V.fdiv 4294967296=V / 4294967296:=Hb (by omega)
  have g2:IQ .u64 V 4294967295=V % 4294967296:=LX ⟨by omega,v2⟩
  have g3:T.fdiv 4294967296=T / 4294967296:=Hb (by omega)
  have g4:IQ .u64 T 4294967295=T % 4294967296:=LX ⟨by omega,t2⟩
  have hV:V=V / 4294967296*4294967296+V % 4294967296:=by omega
  have hT:T=T / 4294967296*4294967296+T % 4294967296:=by omega
  have hy1:2147483648≤V / 4294967296∧V / 4294967296<4294967296:=by omega
  have hy0:0≤V % 4294967296∧V % 4294967296<4294967296:=by omega
  have hw:0≤T / 4294967296∧T / 4294967296<4294967296:=by omega
  have hw2:0≤T % 4294967296∧T % 4294967296<4294967296:=by omega
  have hP:=Jv s
  simp -implicitDefEqProofs -proj only [go_sem,seval,e]
  refine AJ hz ?_
  simp -implicitDefEqProofs -proj only [go_sem,seval,e2,e3,Int.toNat_natCast,hs,hr,e4,e5,e6,g1,g2,g3,g4]
  (repeat' (with_reducible refine Ae ?_ (fun h=>?_); (focus first | decide | omega); clear h; try simp -implicitDefEqProofs -proj only [go_sem,seval,e2,e3,Int.toNat_natCast,hs,hr,e4,e5,e6,g1,g2,g3,g4]))
  generalize V / 4294967296=y1 at *
  generalize V % 4294967296=y0 at *
  generalize T / 4294967296=w at *
  generalize T % 4294967296=w2 at *
  obtain ⟨i1,i2,i3,i4,i5,i6⟩:=Mk hV hy1.1 hy0 u1 u2 hw
  have q1:U.tdiv y1=U / y1:=Int.tdiv_eq_ediv_of_nonneg u1
  have q2:IntKind.u64.wrap (U / y1)=U / y1:=Ey (by omega)
  have i7:0≤U / y1*y1:=Int.mul_nonneg i6 (by omega)
  have q3:IntKind.u64.wrap (U / y1*y1)=U / y1*y1:=Ey (by omega)
  have q4:IntKind.u64.wrap (U-U / y1*y1)=U % y1:=by rw [Ey (by omega)]; omega
  have f1:=ML (p:=U*4294967296+w) (c:=V) (by omega)
  have k1:(U*4294967296+w) / V<4294967296:=by rw [Int.ediv_lt_iff_lt_mul (by omega)]; omega
  have k0:0≤(U*4294967296+w) / V:=Int.ediv_nonneg (by omega) (by omega)
  have hW:U*4294967296+w-(U*4294967296+w) / V*V=(U*4294967296+w) % V:=by omega
  generalize hQ1:(U*4294967296+w) / V=Q1 at *
  generalize hW2:(U*4294967296+w) % V=W at *
  have l1:IntKind.u64.wrap (IntKind.u64.wrap (IntKind.u64.wrap (U*4294967296)+w)-IntKind.u64.wrap (Q1*V))=W:=by simp -implicitDefEqProofs only [IntKind.wrap_u64]; omega
  refine Tt (V:=V) (s:=s) (y1:=y1) (y0:=y0) (U:=U) (w:=w) (w2:=w2) rfl ?_ hV hy1 hy0 u1 u2 hw ?_
  ·simp -implicitDefEqProofs -proj only [go_sem,seval,AM,e2,e3,Int.toNat_natCast,hs,hr,e4,e5,e6,g1,g2,g3,g4,q1,q2,q3,q4]
  ·intro t H r' ht
   simp -implicitDefEqProofs only [AM] at ht
   obtain ⟨t2,t8,t9,t10,t11,t13,t14,t15,t16,_⟩:=ht
   rw [hQ1] at t15
   obtain ⟨i1',i2',i3',i4',i5',i6'⟩:=Mk (U:=W) hV hy1.1 hy0 (by omega) (by omega) hw2
   have q1':W.tdiv y1=W / y1:=Int.tdiv_eq_ediv_of_nonneg (by omega)
   have q2':IntKind.u64.wrap (W / y1)=W / y1:=Ey (by omega)
   have i7':0≤W / y1*y1:=Int.mul_nonneg i6' (by omega)
   have q3':IntKind.u64.wrap (W / y1*y1)=W / y1*y1:=Ey (by omega)
   have q4':IntKind.u64.wrap (W-W / y1*y1)=W % y1:=by rw [Ey (by omega)]; omega
   simp -implicitDefEqProofs -proj only [go_sem,seval,t2,t8,t9,t10,t11,t13,t14,t15,t16,l1]
   (repeat' (with_reducible refine Ae ?_ (fun h=>?_); (focus first | decide | omega); clear h; try simp -implicitDefEqProofs -proj only [go_sem,seval,t2,t8,t9,t10,t11,t13,t14,t15,t16,l1]))
   have dl:=ATC e7 e8 hP (by omega) hT hw2 (q1:=Q1) (W:=W) (q0:=(W*4294967296+w2) / V) (by omega) hQ1.symm hW.symm rfl
   have f2:=ML (p:=W*4294967296+w2) (c:=V) (by omega)
   have k3:(W*4294967296+w2) / V<4294967296:=by rw [Int.ediv_lt_iff_lt_mul (by omega)]; omega
   have k4:0≤(W*4294967296+w2) / V:=Int.ediv_nonneg (by omega) (by omega)
   refine AUs (V:=V) (s:=s) (y1:=y1) (y0:=y0) (w2:=w2) (q1:=Q1) (W:=W) rfl ?_ hV hy1 hy0 (by omega) (by omega) hw2 ?_
   ·simp -implicitDefEqProofs -proj only [go_sem,seval,AM,t2,t8,t9,t10,t11,t13,t14,t15,t16,l1,q1',q2',q3',q4']
   ·intro t H r'' ht
    simp -implicitDefEqProofs only [AM] at ht
    obtain ⟨t2,t8,t9,t10,t14,t15,t17,t18,t16,_⟩:=ht
    generalize (W*4294967296+w2) / V=Q0 at *
    generalize (W*4294967296+w2) % V=Z at *
    have l2:IntKind.u64.wrap (IntKind.u64.wrap (Q1*4294967296)+Q0)=Q1*4294967296+Q0:=by simp -implicitDefEqProofs only [IntKind.wrap_u64]; omega
    have l3:IntKind.u64.wrap (IntKind.u64.wrap (IntKind.u64.wrap (W*4294967296)+w2)-IntKind.u64.wrap (Q0*V))=W*4294967296+w2-Q0*V:=by simp -implicitDefEqProofs only [IntKind.wrap_u64]; omega
    simp -implicitDefEqProofs -proj only [go_sem,seval,t2,t8,t9,t10,t14,t15,t16,t17,t18,l2,l3]
    (repeat' (with_reducible refine Ae ?_ (fun h=>?_); (focus first | decide | omega); clear h; try simp -implicitDefEqProofs -proj only [go_sem,seval,t2,t8,t9,t10,t14,t15,t16,t17,t18,l2,l3]))
    refine AH ?_
    rw [←dl.1,←dl.2]
    simp -implicitDefEqProofs only [Int.toNat_natCast,hs,if_true,Hb (Int.le_of_lt hP)]
def Fs (m q r c:Int):Prop:=m=1∧0<r∨m=2∧c≤2*r∨m=3∧(c<2*r∨c=2*r∧q % 2=1)
instance (m q r c:Int):Decidable (Fs m q r c):=by unfold Fs; exact inferInstance
def Ed (p c m:Int):Int:=p / c+if Fs m (p / c) (p % c) c then 1 else 0
def Gq (m:Int) (neg:Bool) (q r c:Int):Prop:=r≠0∧(m=0∧neg=true∨m=1∧neg=false∨m=2∧(r > c-r∨r=c-r∧neg=false)∨m=3∧(r > c-r∨r=c-r∧q % 2=1))
instance (m:Int) (neg:Bool) (q r c:Int):Decidable (Gq m neg q r c):=by unfold Gq; exact inferInstance
theorem MT {p c:Int} (hc:0<c):p / c*c+p % c=p∧0≤p % c∧p % c<c:=by
 have e:=Int.emod_add_mul_ediv p c
 rw [Int.mul_comm] at e
 exact ⟨by omega,Int.emod_nonneg _ (by omega),Int.emod_lt_of_pos _ hc⟩
theorem Od {p c q r:Int} (hc:0<c) (h:q*c+r=p) (h1:0≤r) (h2:r<c):p / c=q∧p % c=r :=
 (Int.ediv_emod_unique hc).2 ⟨by rw [Int.mul_comm] at h; omega,h1,h2⟩
theorem APm {p c m:Int} {neg:Bool} (hc:0<c) (hm:0≤m∧m≤3) (h1:neg=true→p≤0) (h2:neg=false→0≤p) :
  Ed p c m=(if neg=true then -1 else 1)*((p.natAbs:Int) / c+if Gq m neg ((p.natAbs:Int) / c) ((p.natAbs:Int) % c) c then 1 else 0):=by
 obtain ⟨e,f,g⟩:=MT (p:=(p.natAbs:Int)) hc
 have fp:=MT (p:=p) hc
 generalize (p.natAbs:Int) / c=q at *
 generalize (p.natAbs:Int) % c=r at *
 unfold Ed
 cases neg with
 | false =>
  have:=h2 rfl
  obtain ⟨d1,d2⟩:=Od (p:=p) hc (q:=q) (r:=r) (by omega) f g
  rw [d1,d2]
  have:Fs m q r c↔Gq m false q r c:=by
   unfold Fs Gq
   simp -implicitDefEqProofs only [Bool.false_eq_true,and_false,and_true,false_or]
   omega
  simp -implicitDefEqProofs only [this,Bool.false_eq_true,if_false]
  omega
 | true =>
  have:=h1 rfl
  by_cases hr:r=0
  ·subst hr
   obtain ⟨d1,d2⟩:=Od (p:=p) hc (q:=-q) (r:=0) (by rw [Int.neg_mul]; omega) (by omega) hc
   rw [d1,d2]
   have a1:¬Fs m (-q) 0 c:=by unfold Fs; omega
   have a2:¬Gq m true q 0 c:=by unfold Gq; omega
   simp -implicitDefEqProofs only [if_neg a1,if_neg a2,if_true]
   omega
  ·obtain ⟨d1,d2⟩:=Od (p:=p) hc (q:=-q-1) (r:=c-r) (by rw [Int.sub_mul,Int.neg_mul]; omega) (by omega) (by omega)
   rw [d1,d2]
   by_cases a2:Gq m true q r c
   ·have a1:¬Fs m (-q-1) (c-r) c:=by
     unfold Gq at a2; unfold Fs
     simp -implicitDefEqProofs only [reduceCtorEq,and_false,and_true,false_or,or_false] at a2
     omega
    simp -implicitDefEqProofs only [if_neg a1,if_pos a2,if_true]
    omega
   ·have a1:Fs m (-q-1) (c-r) c:=by
     unfold Gq at a2; unfold Fs
     simp -implicitDefEqProofs only [reduceCtorEq,and_false,and_true,false_or,or_false] at a2
     omega
    simp -implicitDefEqProofs only [if_pos a1,if_neg a2,if_true]
    omega
theorem LD {p c m:Int} (hc:0<c) (hm:0≤m∧m≤3):∃q r,q*c+r=p∧0≤r∧r<c∧p / c=q∧p % c=r∧(¬Fs m q r c∧Ed p c m=q∨Fs m q r c∧Ed p c m=q+1):=by
 obtain ⟨e,f,g⟩:=MT (p:=p) hc
 refine ⟨_,_,e,f,g,rfl,rfl,?_⟩
 unfold Ed
 by_cases h:Fs m (p / c) (p % c) c
 ·exact .inr ⟨h,by rw [if_pos h]⟩
 ·exact .inl ⟨h,by rw [if_neg h,Int.add_zero]⟩
theorem RL {p p' c m:Int} (hc:0<c) (hm:0≤m∧m≤3) (h:p≤p'):Ed p c m≤Ed p' c m:=by
 obtain ⟨q,r,e,f,g,d1,d2,hh⟩:=LD (p:=p) hc hm
 obtain ⟨q',r',e',f',g',d1',d2',hh'⟩:=LD (p:=p') hc hm
 have hq:q≤q':=by rw [←d1,←d1']; exact Int.ediv_le_ediv hc h
 rcases Int.lt_or_eq_of_le hq with h1 | h1
 ·omega
 ·subst h1
  have hr:r≤r':=by omega
  unfold Fs at hh hh'
  omega
theorem Pt {a c m:Int} (hc:0<c) (hm:0≤m∧m≤3) (ha : -9223372036854775808≤a∧a≤9223372036854775807) : -9223372036854775808≤Ed a c m∧Ed a c m≤9223372036854775807:=by
 have h1:Ed (-9223372036854775808) c m≤Ed a c m:=RL hc hm ha.1
 have h2:Ed a c m≤Ed 9223372036854775807 c m:=RL hc hm ha.2
 have h3 : -9223372036854775808≤Ed (-9223372036854775808) c m:=by
  obtain ⟨q,r,e,f,g,d1,d2,hh⟩:=LD (p:=-9223372036854775808) hc hm
  have : -9223372036854775808≤q:=by
   rw [←d1,Int.le_ediv_iff_mul_le hc]; omega
  omega
 have h4:Ed 9223372036854775807 c m≤9223372036854775807:=by
  obtain ⟨q,r,e,f,g,d1,d2,hh⟩:=LD (p:=9223372036854775807) hc hm
  by_cases h0:c=1
  ·subst h0
   unfold Fs at hh
   omega
  ·have:q<4611686018427387904:=by
    rw [←d1,Int.ediv_lt_iff_lt_mul hc]; omega
   omega
 omega
def Hu (p c:Int):Int:=if p / c≤9223372036854775807 then p / c else 9223372036854775807
theorem S2 {p c n:Int} (hc:0<c) (hn:n≤9223372036854775807):n≤Hu p c↔n*c≤p:=by
 unfold Hu
 rw [←Int.le_ediv_iff_mul_le hc]
 split <;> omega
theorem RF {m:Int}:DataW Tryz.prog T7 [i64 m] (bv (decide (0≤m∧m≤3))):=by
 refine AX W6 (by simp) ?_
 simp -implicitDefEqProofs -proj only [go_sem,seval]
 (repeat' first
  | ((with_reducible first | refine EA (fun h=>?_) (fun h=>?_) | refine BJ (fun h=>?_) (fun h=>?_) | refine EC (fun h=>?_) (fun h=>?_)) <;> (simp -implicitDefEqProofs -proj only [go_sem,seval, *]; try (revert h; intro _)))
  | ((with_reducible first | refine AK (fun _ hb=>?_) | refine As (fun _ hb=>?_)); simp only [EB,ED,Aa,Heap.none_get,and_true,true_and] at hb; simp -implicitDefEqProofs -proj only [go_sem,seval, *]; try (revert hb; intro _))
  | ((with_reducible first | refine D5 _ rfl (by simp) ?_ | refine D8 _ rfl (by simp) ?_); simp -implicitDefEqProofs -proj only [go_sem,seval, *])
  | (with_reducible refine Ae ?_ (fun h=>?_); first | ((focus first | decide | omega); try clear h; try simp -implicitDefEqProofs -proj only [go_sem,seval, *]) | (rotate_left; try clear h; try simp -implicitDefEqProofs -proj only [go_sem,seval, *]; rotate_right)))
 all_goals
  refine AH ?_
  simp -implicitDefEqProofs only [decide_eq_true_eq,decide_eq_false_iff_not,Bool.not_eq_true',Bool.not_eq_false',Bool.and_eq_true,Bool.and_eq_false_iff,Bool.or_eq_true,Bool.or_eq_false_iff,beq_iff_eq,beq_eq_false_iff_ne,ne_eq,decide_eq_decide,Bool.not_eq_true,Bool.not_eq_false] at *
  simp -implicitDefEqProofs only [←decide_not,←Bool.decide_and,←Bool.decide_or,Bool.beq_eq_decide_eq,AV.d.injEq,D.bool.injEq,D.int.injEq,D.str.injEq,AV.tup.injEq,AV.agg.injEq,List.cons.injEq,true_and,and_true,decide_eq_decide,true_eq_decide_iff,false_eq_decide_iff,decide_eq_true_eq,decide_eq_false_iff_not,Bool.true_eq,Bool.false_eq]
  omega
theorem Pp {a:Int} (h:Fit a):DataW Tryz.prog APE [i64 a] (u64 a.natAbs):=by
 refine AX AKv (by simp) ?_
 simp -implicitDefEqProofs -proj only [go_sem,seval]
 (repeat' first
  | ((with_reducible first | refine EA (fun h=>?_) (fun h=>?_) | refine BJ (fun h=>?_) (fun h=>?_) | refine EC (fun h=>?_) (fun h=>?_)) <;> (simp -implicitDefEqProofs -proj only [go_sem,seval, *]; try (revert h; intro _)))
  | ((with_reducible first | refine AK (fun _ hb=>?_) | refine As (fun _ hb=>?_)); simp only [EB,ED,Aa,Heap.none_get,and_true,true_and] at hb; simp -implicitDefEqProofs -proj only [go_sem,seval, *]; try (revert hb; intro _))
  | ((with_reducible first | refine D5 _ rfl (by simp) ?_ | refine D8 _ rfl (by simp) ?_); simp -implicitDefEqProofs -proj only [go_sem,seval, *])
  | (with_reducible refine Ae ?_ (fun h=>?_); first | ((focus first | decide | omega); try clear h; try simp -implicitDefEqProofs -proj only [go_sem,seval, *]) | (rotate_left; try clear h; try simp -implicitDefEqProofs -proj only [go_sem,seval, *]; rotate_right)))
 all_goals
  refine AH ?_
  simp -implicitDefEqProofs only [decide_eq_true_eq,decide_eq_false_iff_not,Bool.not_eq_true',Bool.not_eq_false',Bool.and_eq_true,Bool.and_eq_false_iff,Bool.or_eq_true,Bool.or_eq_false_iff,beq_iff_eq,beq_eq_false_iff_ne,ne_eq,decide_eq_decide,Bool.not_eq_true,Bool.not_eq_false,IntKind.wrap_u64] at *
  simp -implicitDefEqProofs only [←decide_not,←Bool.decide_and,←Bool.decide_or,Bool.beq_eq_decide_eq,AV.d.injEq,D.bool.injEq,D.int.injEq,D.str.injEq,AV.tup.injEq,AV.agg.injEq,List.cons.injEq,true_and,and_true,decide_eq_decide,true_eq_decide_iff,false_eq_decide_iff,decide_eq_true_eq,decide_eq_false_iff_not,Bool.true_eq,Bool.false_eq]
  unfold Fit at *
  omega
theorem QC {neg:Bool} {n:Int} (h:0≤n∧n<18446744073709551616):DataW Tryz.prog AFk [bv neg,u64 n] (FX ((if neg=true then -1 else 1)*n)):=by
 refine AX AUY (by simp) ?_
 cases neg
 all_goals
  simp -implicitDefEqProofs -proj only [go_sem,seval]
  (repeat' first
  | ((with_reducible first | refine EA (fun h=>?_) (fun h=>?_) | refine BJ (fun h=>?_) (fun h=>?_) | refine EC (fun h=>?_) (fun h=>?_)) <;> (simp -implicitDefEqProofs -proj only [go_sem,seval, *]; try (revert h; intro _)))
  | ((with_reducible first | refine AK (fun _ hb=>?_) | refine As (fun _ hb=>?_)); simp only [EB,ED,Aa,Heap.none_get,and_true,true_and] at hb; simp -implicitDefEqProofs -proj only [go_sem,seval, *]; try (revert hb; intro _))
  | ((with_reducible first | refine D5 _ rfl (by simp) ?_ | refine D8 _ rfl (by simp) ?_); simp -implicitDefEqProofs -proj only [go_sem,seval, *])
  | (with_reducible refine Ae ?_ (fun h=>?_); first | ((focus first | decide | omega); try clear h; try simp -implicitDefEqProofs -proj only [go_sem,seval, *]) | (rotate_left; try clear h; try simp -implicitDefEqProofs -proj only [go_sem,seval, *]; rotate_right)))
 all_goals
  refine AH (Ir ?_)
  simp -implicitDefEqProofs only [decide_eq_true_eq,decide_eq_false_iff_not,Bool.not_eq_true',Bool.not_eq_false',Bool.and_eq_true,Bool.and_eq_false_iff,Bool.or_eq_true,Bool.or_eq_false_iff,beq_iff_eq,beq_eq_false_iff_ne,ne_eq,decide_eq_decide,Bool.not_eq_true,Bool.not_eq_false,IntKind.wrap_u64,IntKind.wrap_i64] at *
  simp -implicitDefEqProofs only [Bool.false_eq_true,reduceCtorEq,true_and,false_and,or_false,false_or,if_true,if_false]
  unfold Fit
  omega
set_option maxRecDepth 20000 in
theorem ARj {m q r c:Int} {neg:Bool} (hm:0≤m∧m≤3) (hq:0≤q∧q<18446744073709551616) (hr:0≤r∧r<c) (hc:c<18446744073709551616):DataW Tryz.prog AVv [i64 m,bv neg,u64 q,u64 r,u64 c] (bv (decide (Gq m neg q r c))):=by
 have h1:IntKind.u64.wrap (c-r)=c-r:=Ey (by omega)
 have h2:q.tmod 2=q % 2:=Int.tmod_eq_emod_of_nonneg hq.1
 refine AX ABv (by simp) ?_
 cases neg
 all_goals
  simp -implicitDefEqProofs -proj only [go_sem,seval,h1,h2]
  (repeat' first
  | ((with_reducible first | refine EA (fun h=>?_) (fun h=>?_) | refine BJ (fun h=>?_) (fun h=>?_) | refine EC (fun h=>?_) (fun h=>?_)) <;> (simp -implicitDefEqProofs -proj only [go_sem,seval, *]; try (revert h; intro _)))
  | ((with_reducible first | refine AK (fun _ hb=>?_) | refine As (fun _ hb=>?_)); simp only [EB,ED,Aa,Heap.none_get,and_true,true_and] at hb; simp -implicitDefEqProofs -proj only [go_sem,seval, *]; try (revert hb; intro _))
  | ((with_reducible first | refine D5 _ rfl (by simp) ?_ | refine D8 _ rfl (by simp) ?_); simp -implicitDefEqProofs -proj only [go_sem,seval, *])
  | (with_reducible refine Ae ?_ (fun h=>?_); first | ((focus first | decide | omega); try clear h; try simp -implicitDefEqProofs -proj only [go_sem,seval, *]) | (rotate_left; try clear h; try simp -implicitDefEqProofs -proj only [go_sem,seval, *]; rotate_right)))
 all_goals
  refine AH (congrArg (fun b=>AV.d (D.bool b)) ?_)
  simp -implicitDefEqProofs only [decide_eq_true_eq,decide_eq_false_iff_not,Bool.not_eq_true',Bool.not_eq_false',Bool.and_eq_true,Bool.and_eq_false_iff,Bool.or_eq_true,Bool.or_eq_false_iff,beq_iff_eq,beq_eq_false_iff_ne,ne_eq,decide_eq_decide,Bool.not_eq_true,Bool.not_eq_false] at *
  first
  | exact (decide_eq_true (by unfold Gq; simp -implicitDefEqProofs only [Bool.false_eq_true,reduceCtorEq,and_false,or_false,false_or,and_true]; omega)).symm
  | exact (decide_eq_false (by unfold Gq; simp -implicitDefEqProofs only [Bool.false_eq_true,reduceCtorEq,and_false,or_false,false_or,and_true]; omega)).symm
  | (unfold Gq; simp -implicitDefEqProofs only [Bool.false_eq_true,reduceCtorEq,and_false,or_false,false_or,and_true]; omega)
def If (p c m:Int):AV:=if 0<c∧0≤m∧m≤3 then FX (Ed p c m) else .tup [i64 0,bv false]
theorem K4 {p c m:Int} (hc:0<c) (hm:0≤m∧m≤3):If p c m=FX (Ed p c m):=by rw [If,if_pos ⟨hc,hm⟩]
theorem NH {p c m:Int} (h:¬(0<c∧0≤m∧m≤3)):If p c m = .tup [i64 0,bv false]:=by rw [If,if_neg h]
theorem AOw {a b:Int} (ha:Fit a) (hb:Fit b):(a.natAbs:Int)*b.natAbs=(a*b).natAbs∧(0:Int)≤a.natAbs∧(a.natAbs:Int)≤9223372036854775808∧(0:Int)≤b.natAbs∧(b.natAbs:Int)≤9223372036854775808:=by
 refine ⟨by rw [Int.natAbs_mul]; rfl,?_⟩
 unfold Fit at ha hb
 omega
theorem Wb (a b:Int):((!decide (a<0) == decide (b<0))=true→a*b≤0)∧((!decide (a<0) == decide (b<0))=false→0≤a*b):=by
 simp -implicitDefEqProofs only [decide_eq_true_eq,decide_eq_false_iff_not,Bool.not_eq_true',Bool.not_eq_false',Bool.and_eq_true,Bool.and_eq_false_iff,Bool.or_eq_true,Bool.or_eq_false_iff,beq_iff_eq,beq_eq_false_iff_ne,ne_eq,decide_eq_decide,Bool.not_eq_true,Bool.not_eq_false]
 refine ⟨fun h=>?_,fun h=>?_⟩
 ·by_cases h1:a<0
  ·exact Int.mul_nonpos_of_nonpos_of_nonneg (by omega) (by omega)
  ·exact Int.mul_nonpos_of_nonneg_of_nonpos (by omega) (by omega)
 ·by_cases h1:a<0
  ·exact Int.mul_nonneg_of_nonpos_of_nonpos (by omega) (by omega)
  ·exact Int.mul_nonneg (by omega) (by omega)
set_option maxRecDepth 20000 in
set_option maxHeartbeats 2000000 in
theorem NZ {a b c m:Int} (ha:Fit a) (hb:Fit b) (hc:Fit c):DataW Tryz.prog ANy [i64 a,i64 b,i64 c,i64 m] (If (a*b) c m):=by
 refine AX AQK (by simp) ?_
 by_cases h0:c≤0
 ·rw [NH (by omega)]
  simp -implicitDefEqProofs -proj only [go_sem,seval,decide_eq_true h0]
  exact AH rfl
 by_cases hm:0≤m∧m≤3
 ·rw [K4 (by omega) hm]
  have hG:=RF (m:=m)
  rw [decide_eq_true hm] at hG
  obtain ⟨hp,p1,p2,p3,p4⟩:=AOw ha hb
  have hM:=ASa (x:=a.natAbs) (y:=b.natAbs) (by omega) (by omega)
  rw [hp] at hM
  have hA:=Pp ha
  have hB:=Pp hb
  obtain ⟨g1,g2⟩:=Wb a b
  have hr:=APm (p:=a*b) (c:=c) (m:=m) (by omega) hm g1 g2
  have hcw:IntKind.u64.wrap c=c:=Ey (by unfold Fit at hc; omega)
  have hc2:c<18446744073709551616:=by unfold Fit at hc; omega
  have hcond:((a*b).natAbs:Int) / c<18446744073709551616↔((a*b).natAbs:Int) / 18446744073709551616<c:=by
   rw [Int.ediv_lt_iff_lt_mul (by omega),Int.ediv_lt_iff_lt_mul (by omega),Int.mul_comm c]
  have hN:(0:Int)≤(a*b).natAbs:=by omega
  have hNd:0≤((a*b).natAbs:Int) / c:=Int.ediv_nonneg hN (by omega)
  generalize ((a*b).natAbs:Int)=N at *
  generalize hneg:(!decide (a<0) == decide (b<0))=neg at *
  generalize a*b=p at *
  clear hp g1 g2
  have hf:=MT (p:=N) (c:=c) (by omega)
  have hD:=YT (hi:=N / 18446744073709551616) (lo:=N % 18446744073709551616) (y:=c)
  rw [show N / 18446744073709551616*18446744073709551616+N % 18446744073709551616=N by omega] at hD
  generalize hi0:N / 18446744073709551616=hi at *
  generalize hlo0:N % 18446744073709551616=lo at *
  generalize N / c=q at *
  generalize N % c=r at *
  simp -implicitDefEqProofs -proj only [go_sem,seval,decide_eq_false h0]
  refine AJ hG ?_
  simp -implicitDefEqProofs -proj only [go_sem,seval]
  refine AJ hA ?_
  simp -implicitDefEqProofs -proj only [go_sem,seval]
  refine AJ hB ?_
  simp -implicitDefEqProofs -proj only [go_sem,seval]
  refine AJ hM ?_
  simp -implicitDefEqProofs -proj only [go_sem,seval,hcw,hneg]
  refine BJ (fun g=>?_) (fun g=>?_)
  ·simp -implicitDefEqProofs -proj only [go_sem,seval,g]
   simp -implicitDefEqProofs only [decide_eq_true_eq,decide_eq_false_iff_not,Bool.not_eq_true',Bool.not_eq_false',Bool.and_eq_true,Bool.and_eq_false_iff,Bool.or_eq_true,Bool.or_eq_false_iff,beq_iff_eq,beq_eq_false_iff_ne,ne_eq,decide_eq_decide,Bool.not_eq_true,Bool.not_eq_false] at g
   rw [HN (by rw [hr]; unfold Fit; cases neg <;> simp -implicitDefEqProofs only [Bool.false_eq_true,if_true,if_false] <;> split <;> omega)]
   exact AH rfl
  ·simp -implicitDefEqProofs -proj only [go_sem,seval,g,hneg]
   simp -implicitDefEqProofs only [decide_eq_true_eq,decide_eq_false_iff_not,Bool.not_eq_true',Bool.not_eq_false',Bool.and_eq_true,Bool.and_eq_false_iff,Bool.or_eq_true,Bool.or_eq_false_iff,beq_iff_eq,beq_eq_false_iff_ne,ne_eq,decide_eq_decide,Bool.not_eq_true,Bool.not_eq_false] at g
   have hA:=ARj (m:=m) (q:=q) (r:=r) (c:=c) (neg:=neg) hm (by omega) hf.2 hc2
   refine AJ (hD (by omega) hc2 (by omega)) ?_
   simp -implicitDefEqProofs -proj only [go_sem,seval,hneg]
   refine AJ hA ?_
   by_cases hw:Gq m neg q r c
   ·rw [if_pos hw] at hr
    rw [decide_eq_true hw] at *
    by_cases hq:q=18446744073709551615
    ·rw [HN (by rw [hr]; unfold Fit; cases neg <;> simp -implicitDefEqProofs only [Bool.false_eq_true,if_true,if_false] <;> omega)]
     subst hq
     simp -implicitDefEqProofs -proj only [go_sem,seval,hneg,show IntKind.u64.wrap 18446744073709551616=0 from by decide]
     exact AH rfl
    ·have hq1:IntKind.u64.wrap (q+1)=q+1:=Ey (by omega)
     have hS:=QC (neg:=neg) (n:=q+1) (by omega)
     rw [←hr] at hS
     simp -implicitDefEqProofs -proj only [go_sem,seval,hneg,hq1,decide_eq_false (show ¬q+1=0 by omega)]
     refine AJ hS ?_
     rcases Mg (Ed p c m) with ⟨s1,u1,e,_⟩
     rw [e]
     simp -implicitDefEqProofs -proj only [go_sem,seval]
     exact AH rfl
   ·rw [if_neg hw,Int.add_zero] at hr
    rw [decide_eq_false hw] at *
    have hS:=QC (neg:=neg) (n:=q) (by omega)
    rw [←hr] at hS
    simp -implicitDefEqProofs -proj only [go_sem,seval,hneg]
    refine AJ hS ?_
    rcases Mg (Ed p c m) with ⟨s1,u1,e,_⟩
    rw [e]
    simp -implicitDefEqProofs -proj only [go_sem,seval]
    exact AH rfl
 ·rw [NH (fun h=>hm h.2)]
  have hG:=RF (m:=m)
  rw [decide_eq_false hm] at hG
  simp -implicitDefEqProofs -proj only [go_sem,seval,decide_eq_false h0]
  refine AJ hG ?_
  simp -implicitDefEqProofs -proj only [go_sem,seval]
  exact AH rfl
theorem SJ {a c m:Int} (ha:Fit a) (hc:Fit c):DataW Tryz.prog AMl [i64 a,i64 c,i64 m] (If a c m):=by
 have h:=NZ (a:=a) (b:=1) (c:=c) (m:=m) ha (by decide) hc
 rw [Int.mul_one] at h
 refine AX AHB (by simp) ?_
 simp -implicitDefEqProofs -proj only [go_sem,seval]
 refine AJ h ?_
 unfold If FX
 split
 all_goals
  simp -implicitDefEqProofs -proj only [go_sem,seval]
  exact AH rfl
def NS (a c:Int):AV:=if 0<c then FX (Ed a c 1*c) else .tup [i64 0,bv false]
theorem AFj (p:Int):Ed p 1 0=p:=by
 unfold Ed Fs
 simp
theorem AOM {a c:Int} (ha:Fit a) (hc:Fit c):DataW Tryz.prog AUG [i64 a,i64 c] (NS a c):=by
 refine AX ASv (by simp) ?_
 simp -implicitDefEqProofs -proj only [go_sem,seval]
 refine AJ (SJ ha hc) ?_
 by_cases h0:0<c
 ·have hf:=Pt h0 (m:=1) (by omega) ha
  have h:=NZ (a:=Ed a c 1) (b:=c) (c:=1) (m:=0) hf hc (by decide)
  rw [K4 (by decide) (by decide),AFj] at h
  rw [K4 h0 (by decide),GI hf,NS,if_pos h0]
  simp -implicitDefEqProofs -proj only [go_sem,seval]
  refine AJ h ?_
  rcases Mg (Ed a c 1*c) with ⟨s1,u1,e,_⟩
  rw [e]
  simp -implicitDefEqProofs -proj only [go_sem,seval]
  exact AH rfl
 ·rw [NH (by omega),NS,if_neg h0]
  simp -implicitDefEqProofs -proj only [go_sem,seval]
  exact AH rfl
structure Adj where
 k:Int
 n:Int
 m:Int
def Adj.el (a:Adj):List D:=[.int .i64 a.k,.int .i64 a.n,.int .i64 a.m]
def Ju (l:List Adj):List (List D):=l.map Adj.el
theorem HJ {l:List Adj}:(Ju l).length=l.length:=List.length_map ..
theorem Q9 {l:List Adj} {i:Nat} (h:i<l.length):(Ju l)[((i:Int)).toNat]? = some (Adj.el l[i]):=by
 rw [Int.toNat_natCast]; simp [Ju,h]
abbrev ET (l:List Adj):AV:=.d (.sl 3 (Ju l))
def Adj.Fit (a:Adj):Prop:=Abs.Fit a.k∧Abs.Fit a.n∧Abs.Fit a.m
def SI (l:List Adj):Prop:=∀(i:Nat) (h:i<l.length),(l[i]).Fit
def I0 (n:Int):Option Int:=if Fit n then some n else none
theorem PJ (n:Int):FX n=D7 (I0 n):=by
 unfold I0
 by_cases h:Fit n
 ·rw [GI h,if_pos h]; rfl
 ·rw [HN h,if_neg h]; rfl
def ID (p c m:Int):Option Int:=if 0<c∧0≤m∧m≤3 then I0 (Ed p c m) else none
theorem Mu (p c m:Int):If p c m=D7 (ID p c m):=by
 unfold If ID
 split
 ·exact PJ _
 ·rfl
theorem AHk {l:List Adj} (h:∀a∈l,Adj.Fit a):SI l:=fun i hi=>h _ (List.getElem_mem hi)
theorem AJu {n:Nat} {l:List D} (h:Eq Tryz.prog (n+2) 117 l):∃a:Adj,a.Fit∧l=a.el:=by
 obtain ⟨ls,rfl,h1,_⟩:=Kf (fs:=#[⟨"Kind",3,0,false,"","",0⟩,⟨"N",3,1,false,"","",8⟩,⟨"Mode",3,2,false,"","",16⟩]) h (by kernel_rfl)
 obtain ⟨l0,r0,rfl,t0,h1⟩:=typedL_cons h1
 obtain ⟨l1,r1,rfl,t1,h1⟩:=typedL_cons h1
 obtain ⟨l2,r2,rfl,t2,h1⟩:=typedL_cons h1
 obtain rfl:=typedL_nil h1
 obtain ⟨z0,rfl,f0,_⟩:=typed_int t0 (by kernel_rfl)
 obtain ⟨z1,rfl,f1,_⟩:=typed_int t1 (by kernel_rfl)
 obtain ⟨z2,rfl,f2,_⟩:=typed_int t2 (by kernel_rfl)
 exact ⟨⟨z0,z1,z2⟩,⟨f0,f1,f2⟩,rfl⟩
structure Tier where
 u:Int
 r:Int
def Tier.el (a:Tier):List D:=[.int .i64 a.u,.int .i64 a.r]
def KY (l:List Tier):List (List D):=l.map Tier.el
theorem Ep {l:List Tier}:(KY l).length=l.length:=List.length_map ..
theorem IU {l:List Tier} {i:Nat} (h:i<l.length):(KY l)[((i:Int)).toNat]? = some [.int .i64 l[i].u,.int .i64 l[i].r]:=by
 rw [Int.toNat_natCast]; simp [KY,h,Tier.el]
theorem MI {l:List Adj} {i:Nat} (h:i<l.length):(Ju l)[((i:Int)).toNat]? = some [.int .i64 l[i].k,.int .i64 l[i].n,.int .i64 l[i].m]:=Q9 h
abbrev EM (l:List Tier):AV:=.d (.sl 2 (KY l))
def Tier.Fit (a:Tier):Prop:=Abs.Fit a.u∧Abs.Fit a.r
structure PartX where
 me:Int
 f:Int
 t:Int
 al:Int
 bl:Int
 ki:Int
 ts:List Tier
 mo:Int
 ad:List Adj
abbrev PartX.el (x:PartX):List D:=[.int .i64 x.me,.int .i64 x.f,.int .i64 x.t,.int .i64 x.al,.int .i64 x.bl,.int .i64 x.ki,.sl 2 (KY x.ts),.int .i64 x.mo,.sl 3 (Ju x.ad)]
abbrev GA (x:PartX):AV:=.agg [i64 x.me,i64 x.f,i64 x.t,i64 x.al,i64 x.bl,i64 x.ki,EM x.ts,i64 x.mo,ET x.ad]
structure PartX.Fit (x:PartX):Prop where
 me:Abs.Fit x.me
 f:Abs.Fit x.f
 t:Abs.Fit x.t
 al:Abs.Fit x.al
 bl:Abs.Fit x.bl
 ki:Abs.Fit x.ki
 ts:∀a∈x.ts,Tier.Fit a
 tn:x.ts.length≤9223372036854775807
 mo:Abs.Fit x.mo
 ad:∀a∈x.ad,Adj.Fit a
 an:x.ad.length≤9223372036854775807
theorem Ro {α:Type} {g : α→List D} {F : α→Prop} {n:Nat} {e:TypeId} (hh:∀l,Eq Tryz.prog n e l→∃a,F a∧l=g a):∀{xs:List (List D)},(∀el∈xs,Eq Tryz.prog n e el)→∃zs:List α,xs=zs.map g∧∀a∈zs,F a
 | [],_=>⟨[],rfl,fun a h=>by cases h⟩
 | x::xs,h2=>by
  obtain ⟨a,ha,rfl⟩:=hh x (h2 x (List.mem_cons_self ..))
  obtain ⟨zs,rfl,hz⟩:=Ro hh (fun el h'=>h2 el (List.mem_cons_of_mem _ h'))
  refine ⟨a::zs,rfl,fun b hb=>?_⟩
  rcases List.mem_cons.1 hb with rfl | hb
  ·exact ha
  ·exact hz b hb
theorem AEm {n:Nat} {l:List D} (h:Eq Tryz.prog (n+2) 63 l):∃a:Tier,a.Fit∧l=a.el:=by
 obtain ⟨ls,rfl,h1,_⟩:=Kf (fs:=#[⟨"Upto",3,0,false,"","",0⟩,⟨"Rate",3,1,false,"","",8⟩]) h (by kernel_rfl)
 obtain ⟨l0,r0,rfl,t0,h1⟩:=typedL_cons h1
 obtain ⟨l1,r1,rfl,t1,h1⟩:=typedL_cons h1
 obtain rfl:=typedL_nil h1
 obtain ⟨z0,rfl,f0,_⟩:=typed_int t0 (by kernel_rfl)
 obtain ⟨z1,rfl,f1,_⟩:=typed_int t1 (by kernel_rfl)
 exact ⟨⟨z0,z1⟩,⟨f0,f1⟩,rfl⟩
theorem LO {α:Type} {g : α→List D} {F : α→Prop} {n k:Nat} {t e:TypeId} {l:List D} (hh:∀l,Eq Tryz.prog n e l→∃a,F a∧l=g a) (ht:Tryz.prog.underlying t=some (.slice e)) (hc:Tryz.prog.cellsOf e=k) (h:Eq Tryz.prog (n+1) t l) :
  ∃zs:List α,l=[.sl k (zs.map g)]∧(∀a∈zs,F a)∧zs.length≤9223372036854775807:=by
 obtain ⟨xs,rfl,h1,h2,_⟩:=QR h ht
 obtain ⟨zs,rfl,hz⟩:=Ro hh h2
 exact ⟨zs,by rw [hc],hz,by rw [List.length_map] at h1; exact h1⟩
theorem Xg {n:Nat} {l:List D} (h:Eq Tryz.prog (n+4) 40 l):∃x:PartX,x.Fit∧l=x.el∧G2 Tryz.prog 40 l=GA x:=by
 obtain ⟨ls,rfl,h1,e⟩:=Kf (fs:=#[⟨"Meter",3,0,false,"","",0⟩,⟨"From",3,1,false,"","",8⟩,⟨"To",3,2,false,"","",16⟩,⟨"Allowance",3,3,false,"","",24⟩,⟨"Block",3,4,false,"","",32⟩,⟨"Kind",3,5,false,"","",40⟩,⟨"Tiers",37,6,false,"","",48⟩,⟨"Mode",3,7,false,"","",72⟩,⟨"Adjusts",38,8,false,"","",80⟩]) h (by kernel_rfl)
 obtain ⟨l0,r0,rfl,t0,h1⟩:=typedL_cons h1
 obtain ⟨l1,r1,rfl,t1,h1⟩:=typedL_cons h1
 obtain ⟨l2,r2,rfl,t2,h1⟩:=typedL_cons h1
 obtain ⟨l3,r3,rfl,t3,h1⟩:=typedL_cons h1
 obtain ⟨l4,r4,rfl,t4,h1⟩:=typedL_cons h1
 obtain ⟨l5,r5,rfl,t5,h1⟩:=typedL_cons h1
 obtain ⟨l6,r6,rfl,t6,h1⟩:=typedL_cons h1
 obtain ⟨l7,r7,rfl,t7,h1⟩:=typedL_cons h1
 obtain ⟨l8,r8,rfl,t8,h1⟩:=typedL_cons h1
 obtain rfl:=typedL_nil h1
 obtain ⟨z0,rfl,f0,_⟩:=typed_int t0 (by kernel_rfl)
 obtain ⟨z1,rfl,f1,_⟩:=typed_int t1 (by kernel_rfl)
 obtain ⟨z2,rfl,f2,_⟩:=typed_int t2 (by kernel_rfl)
 obtain ⟨z3,rfl,f3,_⟩:=typed_int t3 (by kernel_rfl)
 obtain ⟨z4,rfl,f4,_⟩:=typed_int t4 (by kernel_rfl)
 obtain ⟨z5,rfl,f5,_⟩:=typed_int t5 (by kernel_rfl)
 obtain ⟨z7,rfl,f7,_⟩:=typed_int t7 (by kernel_rfl)
 obtain ⟨z6,rfl,f6,g6⟩:=LO (k:=2) (e:=63) (fun l h=>AEm h) (by kernel_rfl) (by kernel_rfl) t6
 obtain ⟨z8,rfl,f8,g8⟩:=LO (k:=3) (e:=117) (fun l h=>AJu h) (by kernel_rfl) (by kernel_rfl) t8
 exact ⟨⟨z0,z1,z2,z3,z4,z5,z6,z7,z8⟩,⟨f0,f1,f2,f3,f4,f5,f6,g6,f7,f8,g8⟩,rfl,e⟩
abbrev KK (cur:ByteArray) (f t:Int) (ms ss ps:List (List D)):AV:=.agg [.d (.str cur),i64 f,i64 t,.d (.sl 5 ms),.d (.sl 3 ss),.d (.sl 9 ps)]
theorem P1 {n lo hi:Int}:DataW Tryz.prog Nu [i64 n,i64 lo,i64 hi] (bv (decide (lo≤n∧n≤hi))):=by
 refine AX AF7 (by simp) ?_
 by_cases h1:lo≤n
 ·by_cases h2:n≤hi
  ·simp -implicitDefEqProofs -proj only [go_sem,seval,decide_eq_true h1,decide_eq_true h2]
   exact AH (by rw [decide_eq_true ⟨h1,h2⟩])
  ·simp -implicitDefEqProofs -proj only [go_sem,seval,decide_eq_true h1,decide_eq_false h2]
   exact AH (by rw [decide_eq_false (fun h=>h2 h.2)])
 ·simp -implicitDefEqProofs -proj only [go_sem,seval,decide_eq_false h1]
  exact AH (by rw [decide_eq_false (fun h=>h1 h.1)])
theorem EP {n lo hi:Int} (h:lo≤n∧n≤hi):DataW Tryz.prog Nu [i64 n,i64 lo,i64 hi] (bv true):=by
 have:=@P1 n lo hi; rwa [decide_eq_true h] at this
theorem EW {n lo hi:Int} (h:¬(lo≤n∧n≤hi)):DataW Tryz.prog Nu [i64 n,i64 lo,i64 hi] (bv false):=by
 have:=@P1 n lo hi; rwa [decide_eq_false h] at this
theorem Og {cur:ByteArray} {f t a b:Int} {ms ss ps:List (List D)}:DataW Tryz.prog AMo [KK cur f t ms ss ps,i64 a,i64 b] (bv (decide (f≤a∧a≤b∧b≤t))):=by
 refine AX ARb (by simp) ?_
 simp -implicitDefEqProofs -proj only [go_sem,seval]
 refine AK (fun b3 hb3=>?_)
 by_cases h1:f≤a
 ·by_cases h2:a≤b
  ·by_cases h3:b≤t
   ·simp -implicitDefEqProofs -proj only [go_sem,seval,decide_eq_true h1,decide_eq_true h2,decide_eq_true h3]
    exact AH (by rw [decide_eq_true ⟨h1,h2,h3⟩])
   ·simp -implicitDefEqProofs -proj only [go_sem,seval,decide_eq_true h1,decide_eq_true h2,decide_eq_false h3]
    exact AH (by rw [decide_eq_false (fun h=>h3 h.2.2)])
  ·simp -implicitDefEqProofs -proj only [go_sem,seval,decide_eq_true h1,decide_eq_false h2]
   exact AH (by rw [decide_eq_false (fun h=>h2 h.2.1)])
 ·simp -implicitDefEqProofs -proj only [go_sem,seval,decide_eq_false h1]
  exact AH (by rw [decide_eq_false (fun h=>h1 h.1)])
structure MeterX where
 nm:ByteArray
 un:ByteArray
 mx:Int
 ln:Int
 co:Int
def MeterX.el (a:MeterX):List D:=[.str a.nm,.str a.un,.int .i64 a.mx,.int .i64 a.ln,.int .i64 a.co]
def EK (l:List MeterX):List (List D):=l.map MeterX.el
theorem E2 {l:List MeterX}:(EK l).length=l.length:=List.length_map ..
theorem Gl {l:List MeterX} {i:Nat} (h:i<l.length):(EK l)[((i:Int)).toNat]? = some [.str l[i].nm,.str l[i].un,.int .i64 l[i].mx,.int .i64 l[i].ln,.int .i64 l[i].co]:=by
 rw [Int.toNat_natCast]; simp [EK,h,MeterX.el]
def MeterX.Fit (a:MeterX):Prop:=Abs.Fit a.mx∧Abs.Fit a.ln∧Abs.Fit a.co
structure SumX where
 a:Int
 f:Int
 t:Int
def SumX.el (a:SumX):List D:=[.int .i64 a.a,.int .i64 a.f,.int .i64 a.t]
def EL (l:List SumX):List (List D):=l.map SumX.el
theorem E9 {l:List SumX}:(EL l).length=l.length:=List.length_map ..
theorem JT {l:List SumX} {i:Nat} (h:i<l.length):(EL l)[((i:Int)).toNat]? = some [.int .i64 l[i].a,.int .i64 l[i].f,.int .i64 l[i].t]:=by
 rw [Int.toNat_natCast]; simp [EL,h,SumX.el]
def SumX.Fit (a:SumX):Prop:=Abs.Fit a.a∧Abs.Fit a.f∧Abs.Fit a.t
def Ak (l:List PartX):List (List D):=l.map PartX.el
theorem El {l:List PartX}:(Ak l).length=l.length:=List.length_map ..
theorem IW {l:List PartX} {i:Nat} (h:i<l.length):(Ak l)[((i:Int)).toNat]? = some [.int .i64 l[i].me,.int .i64 l[i].f,.int .i64 l[i].t,.int .i64 l[i].al,.int .i64 l[i].bl,.int .i64 l[i].ki,.sl 2 (KY l[i].ts),.int .i64 l[i].mo,.sl 3 (Ju l[i].ad)]:=by
 rw [Int.toNat_natCast]; simp [Ak,h,PartX.el]
structure CoreX where
 cur:ByteArray
 f:Int
 t:Int
 ms:List MeterX
 ss:List SumX
 ps:List PartX
abbrev Fl (c:CoreX):AV:=KK c.cur c.f c.t (EK c.ms) (EL c.ss) (Ak c.ps)
structure CoreX.Fit (c:CoreX):Prop where
 f:Abs.Fit c.f
 t:Abs.Fit c.t
 ms:∀a∈c.ms,a.Fit
 mn:c.ms.length≤9223372036854775807
 ss:∀a∈c.ss,a.Fit
 sn:c.ss.length≤9223372036854775807
 ps:∀a∈c.ps,a.Fit
 pn:c.ps.length≤9223372036854775807
theorem Ok {n:Nat} {t:TypeId} {l:List D} (h:Eq Tryz.prog (n+1) t l) (ht:Tryz.prog.underlying t=some .string):∃s,l=[.str s]:=by
 rw [Eq,ht] at h
 obtain ⟨s,rfl,_⟩:=h
 exact ⟨s,rfl⟩
theorem ADE {n:Nat} {l:List D} (h:Eq Tryz.prog (n+2) 42 l):∃a:MeterX,a.Fit∧l=a.el:=by
 obtain ⟨ls,rfl,h1,_⟩:=Kf (fs:=#[⟨"Name",9,0,false,"","",0⟩,⟨"Unit",9,1,false,"","",16⟩,⟨"Max",3,2,false,"","",32⟩,⟨"Line",3,3,false,"","",40⟩,⟨"Col",3,4,false,"","",48⟩]) h (by kernel_rfl)
 obtain ⟨l0,r0,rfl,t0,h1⟩:=typedL_cons h1
 obtain ⟨l1,r1,rfl,t1,h1⟩:=typedL_cons h1
 obtain ⟨l2,r2,rfl,t2,h1⟩:=typedL_cons h1
 obtain ⟨l3,r3,rfl,t3,h1⟩:=typedL_cons h1
 obtain ⟨l4,r4,rfl,t4,h1⟩:=typedL_cons h1
 obtain rfl:=typedL_nil h1
 obtain ⟨z0,rfl⟩:=Ok t0 (by kernel_rfl)
 obtain ⟨z1,rfl⟩:=Ok t1 (by kernel_rfl)
 obtain ⟨z2,rfl,f2,_⟩:=typed_int t2 (by kernel_rfl)
 obtain ⟨z3,rfl,f3,_⟩:=typed_int t3 (by kernel_rfl)
 obtain ⟨z4,rfl,f4,_⟩:=typed_int t4 (by kernel_rfl)
 exact ⟨⟨z0,z1,z2,z3,z4⟩,⟨f2,f3,f4⟩,rfl⟩
theorem AI1 {n:Nat} {l:List D} (h:Eq Tryz.prog (n+2) 60 l):∃a:SumX,a.Fit∧l=a.el:=by
 obtain ⟨ls,rfl,h1,_⟩:=Kf (fs:=#[⟨"Amount",3,0,false,"","",0⟩,⟨"From",3,1,false,"","",8⟩,⟨"To",3,2,false,"","",16⟩]) h (by kernel_rfl)
 obtain ⟨l0,r0,rfl,t0,h1⟩:=typedL_cons h1
 obtain ⟨l1,r1,rfl,t1,h1⟩:=typedL_cons h1
 obtain ⟨l2,r2,rfl,t2,h1⟩:=typedL_cons h1
 obtain rfl:=typedL_nil h1
 obtain ⟨z0,rfl,f0,_⟩:=typed_int t0 (by kernel_rfl)
 obtain ⟨z1,rfl,f1,_⟩:=typed_int t1 (by kernel_rfl)
 obtain ⟨z2,rfl,f2,_⟩:=typed_int t2 (by kernel_rfl)
 exact ⟨⟨z0,z1,z2⟩,⟨f0,f1,f2⟩,rfl⟩
theorem typed_core {n:Nat} {l:List D} (h:Eq Tryz.prog (n+6) 26 l):∃c:CoreX,c.Fit∧l=[.str c.cur,.int .i64 c.f,.int .i64 c.t,.sl 5 (EK c.ms),.sl 3 (EL c.ss),.sl 9 (Ak c.ps)]∧G2 Tryz.prog 26 l=Fl c:=by
 obtain ⟨ls,rfl,h1,e⟩:=Kf (fs:=#[⟨"Currency",9,0,false,"","",0⟩,⟨"From",3,1,false,"","",16⟩,⟨"To",3,2,false,"","",24⟩,⟨"Meters",22,3,false,"","",32⟩,⟨"Sums",23,4,false,"","",56⟩,⟨"Parts",24,5,false,"","",80⟩]) h (by kernel_rfl)
 obtain ⟨l0,r0,rfl,t0,h1⟩:=typedL_cons h1
 obtain ⟨l1,r1,rfl,t1,h1⟩:=typedL_cons h1
 obtain ⟨l2,r2,rfl,t2,h1⟩:=typedL_cons h1
 obtain ⟨l3,r3,rfl,t3,h1⟩:=typedL_cons h1
 obtain ⟨l4,r4,rfl,t4,h1⟩:=typedL_cons h1
 obtain ⟨l5,r5,rfl,t5,h1⟩:=typedL_cons h1
 obtain rfl:=typedL_nil h1
 obtain ⟨z0,rfl⟩:=Ok t0 (by kernel_rfl)
 obtain ⟨z1,rfl,f1,_⟩:=typed_int t1 (by kernel_rfl)
 obtain ⟨z2,rfl,f2,_⟩:=typed_int t2 (by kernel_rfl)
 obtain ⟨z3,rfl,f3,g3⟩:=LO (k:=5) (e:=42) (fun l h=>ADE h) (by kernel_rfl) (by kernel_rfl) t3
 obtain ⟨z4,rfl,f4,g4⟩:=LO (k:=3) (e:=60) (fun l h=>AI1 h) (by kernel_rfl) (by kernel_rfl) t4
 obtain ⟨z5,rfl,f5,g5⟩:=LO (k:=9) (e:=40) (g:=PartX.el) (F:=PartX.Fit) (fun l h=>by obtain ⟨x,h1,h2,_⟩:=Xg h; exact ⟨x,h1,h2⟩) (by kernel_rfl) (by kernel_rfl) t5
 exact ⟨⟨z0,z1,z2,z3,z4,z5⟩,⟨f1,f2,f3,g3,f4,g4,f5,g5⟩,rfl,e⟩
def KZ (m:MeterX):Prop:=200<(m.nm.size:Int)∨200<(m.un.size:Int)
def KJ (x:PartX):Prop:=40<(x.ts.length:Int)∨40<(x.ad.length:Int)
def JX (c:CoreX):Prop:=(20<(c.ms.length:Int)∨40<(c.ss.length:Int)∨40<(c.ps.length:Int)∨200<(c.cur.size:Int))∨(∃m∈c.ms,KZ m)∨∃x∈c.ps,KJ x
noncomputable instance (c:CoreX):Decidable (JX c):=Classical.propDecidable _
theorem AM0 {c:CoreX}:DataW Tryz.prog ALp [Fl c] (bv (decide (JX c))):=by
 obtain ⟨cur,f,t,ms,ss,ps⟩:=c
 refine AX AFF (by simp) ?_
 simp -implicitDefEqProofs -proj only [go_sem,seval]
 refine AK (fun b1 hb1=>?_)
 by_cases g1:20<(ms.length:Int)
 ·simp -implicitDefEqProofs -proj only [go_sem,seval,E2,E9,El,decide_eq_true g1]
  exact AH (by rw [decide_eq_true (.inl (.inl g1))])
 by_cases g2:40<(ss.length:Int)
 ·simp -implicitDefEqProofs -proj only [go_sem,seval,E2,E9,El,decide_eq_false g1,decide_eq_true g2]
  exact AH (by rw [decide_eq_true (.inl (.inr (.inl g2)))])
 by_cases g3:40<(ps.length:Int)
 ·simp -implicitDefEqProofs -proj only [go_sem,seval,E2,E9,El,decide_eq_false g1,decide_eq_false g2,decide_eq_true g3]
  exact AH (by rw [decide_eq_true (.inl (.inr (.inr (.inl g3))))])
 by_cases g4:200<(cur.size:Int)
 ·simp -implicitDefEqProofs -proj only [go_sem,seval,E2,E9,El,decide_eq_false g1,decide_eq_false g2,decide_eq_false g3,decide_eq_true g4]
  exact AH (by rw [decide_eq_true (.inl (.inr (.inr (.inr g4))))])
 simp -implicitDefEqProofs -proj only [go_sem,seval,E2,E9,El,decide_eq_false g1,decide_eq_false g2,decide_eq_false g3,decide_eq_false g4]
 refine D9 (fun i:Nat=>i≤ms.length∧∀(j:Nat) (h:j<ms.length),j<i→¬KZ ms[j]) 65 (fun i=>[(1,.ptr b1 0),(30,.d (.sl 5 (EK ms))),(31,i64 ms.length),(32,i64 i)]) (fun _=>[(b1,.box 26 [.d (.str cur),i64 f,i64 t,.d (.sl 5 (EK ms)),.d (.sl 3 (EL ss)),.d (.sl 9 (Ak ps))])]) (fun i=>ms.length-i) 0 ⟨Nat.zero_le _,fun j _ h=>absurd h (Nat.not_lt_zero _)⟩ rfl ?_ ?_ ?_
 ·simp -implicitDefEqProofs -proj only [go_sem,seval,AM]
 ·simp -implicitDefEqProofs -proj only [go_sem,seval,AS]
 ·rintro i ⟨hi,hs⟩
  have hk:AS (Ab [(b1,.box 26 [.d (.str cur),i64 f,i64 t,.d (.sl 5 (EK ms)),.d (.sl 3 (EL ss)),.d (.sl 9 (Ak ps))])]) [(b1,.box 26 [.d (.str cur),i64 f,i64 t,.d (.sl 5 (EK ms)),.d (.sl 3 (EL ss)),.d (.sl 9 (Ak ps))])]:=EQ (by simp [AT])
  have k1:=hk.1
  by_cases h:i<ms.length
  ·have hel:=Gl h
   have hno:KZ ms[i]→JX ⟨cur,f,t,ms,ss,ps⟩:=fun e=>.inr (.inl ⟨_,List.getElem_mem h,e⟩)
   have hgo:¬KZ ms[i]→∀(j:Nat) (h:j<ms.length),j<i+1→¬KZ ms[j]:=by
    intro e j h1 h2
    by_cases hj:j=i
    ·subst hj; exact e
    ·exact hs j h1 (by omega)
   generalize ms[i]=m at *
   simp -implicitDefEqProofs -proj only [go_sem,seval,decide_eq_true (show (i:Int)<ms.length by omega)]
   refine Ah _ (by omega) hel ?_
   simp -implicitDefEqProofs -proj only [go_sem,seval]
   refine AK (fun b4 hb4=>?_)
   replace hb4:Ab [(b1,Blk.box 26 [.d (.str cur),i64 f,i64 t,.d (.sl 5 (EK ms)),.d (.sl 3 (EL ss)),.d (.sl 9 (Ak ps))])] b4=none:=hb4
   obtain ⟨n1,n2⟩:=AI hb4 k1
   by_cases c1:200<(m.nm.size:Int)
   ·simp -implicitDefEqProofs -proj only [go_sem,seval,n1,n2,decide_eq_true c1]
    exact AH (by rw [decide_eq_true (hno (.inl c1))])
   by_cases c2:200<(m.un.size:Int)
   ·simp -implicitDefEqProofs -proj only [go_sem,seval,n1,n2,decide_eq_false c1,decide_eq_true c2]
    exact AH (by rw [decide_eq_true (hno (.inr c2))])
   simp -implicitDefEqProofs -proj only [go_sem,seval,n1,n2,decide_eq_false c1,decide_eq_false c2]
   refine Ad (i+1) ⟨by omega,hgo (fun e=>e.elim c1 c2)⟩ (by show ms.length-(i+1)<ms.length-i; omega) rfl ?_ (An hb4 hk)
   simp -implicitDefEqProofs -proj only [go_sem,seval,AM,AP (show i<9223372036854775807 by omega)]
  ·have hi':i=ms.length:=by omega
   subst hi'
   simp -implicitDefEqProofs -proj only [go_sem,seval,k1,El,decide_eq_false (show ¬(ms.length:Int)<ms.length by omega)]
   refine D9 (fun i:Nat=>i≤ps.length∧∀(j:Nat) (h:j<ps.length),j<i→¬KJ ps[j]) 65 (fun i=>[(48,.d (.sl 9 (Ak ps))),(49,i64 ps.length),(50,i64 i)]) (fun _=>[]) (fun i=>ps.length-i) 0 ⟨Nat.zero_le _,fun j _ h=>absurd h (Nat.not_lt_zero _)⟩ rfl ?_ ?_ ?_
   ·simp -implicitDefEqProofs -proj only [go_sem,seval,AM]
   ·trivial
   ·rintro i ⟨hi2,hs2⟩
    by_cases h2:i<ps.length
    ·have hel:=IW h2
     have hno:KJ ps[i]→JX ⟨cur,f,t,ms,ss,ps⟩:=fun e=>.inr (.inr ⟨_,List.getElem_mem h2,e⟩)
     have hgo:¬KJ ps[i]→∀(j:Nat) (h:j<ps.length),j<i+1→¬KJ ps[j]:=by
      intro e j h1 h2
      by_cases hj:j=i
      ·subst hj; exact e
      ·exact hs2 j h1 (by omega)
     generalize ps[i]=x at *
     simp -implicitDefEqProofs -proj only [go_sem,seval,decide_eq_true (show (i:Int)<ps.length by omega)]
     refine Ah _ (by omega) hel ?_
     simp -implicitDefEqProofs -proj only [go_sem,seval]
     refine AK (fun b4 hb4=>?_)
     by_cases c1:40<(x.ts.length:Int)
     ·simp -implicitDefEqProofs -proj only [go_sem,seval,Ep,HJ,decide_eq_true c1]
      exact AH (by rw [decide_eq_true (hno (.inl c1))])
     by_cases c2:40<(x.ad.length:Int)
     ·simp -implicitDefEqProofs -proj only [go_sem,seval,Ep,HJ,decide_eq_false c1,decide_eq_true c2]
      exact AH (by rw [decide_eq_true (hno (.inr c2))])
     simp -implicitDefEqProofs -proj only [go_sem,seval,Ep,HJ,decide_eq_false c1,decide_eq_false c2]
     refine Ad (i+1) ⟨by omega,hgo (fun e=>e.elim c1 c2)⟩ (by show ps.length-(i+1)<ps.length-i; omega) rfl ?_ trivial
     simp -implicitDefEqProofs -proj only [go_sem,seval,AM,AP (show i<9223372036854775807 by omega)]
    ·have hi3:i=ps.length:=by omega
     subst hi3
     have hfin:¬JX ⟨cur,f,t,ms,ss,ps⟩:=by
      rintro (h | ⟨m,hm,h⟩ | ⟨x,hx,h⟩)
      ·simp -implicitDefEqProofs only [] at h; omega
      ·obtain ⟨j,hj,rfl⟩:=List.getElem_of_mem hm
       exact hs j hj hj h
      ·obtain ⟨j,hj,rfl⟩:=List.getElem_of_mem hx
       exact hs2 j hj hj h
     simp -implicitDefEqProofs -proj only [go_sem,seval,decide_eq_false (show ¬(ps.length:Int)<ps.length by omega)]
     exact AH (by rw [decide_eq_false hfin])
def FG (T:List Tier) (i:Nat):Int:=if i+1=T.length then 0 else match T[i-1]? with
 | some p=>if 0<i∧1≤p.u then min p.u 1000000+1 else 1
 | none=>1
def FV (T:List Tier) (i:Nat):Int:=if i+1=T.length then 0 else 1000000
def F8 (T:List Tier) (i:Nat) (t:Tier):Prop:=(0≤t.r∧t.r≤1000000000000)∧(FG T i≤t.u∧t.u≤FV T i)
instance (T:List Tier) (i:Nat) (t:Tier):Decidable (F8 T i t):=by unfold F8; exact inferInstance
def FS (a:Adj):Prop:=a.k=1∧(0≤a.n∧a.n≤100000000)∧(0≤a.m∧a.m≤3)∨(a.k=2∨a.k=3∨a.k=4)∧(0≤a.n∧a.n≤1000000000000)∧a.m=0
instance (a:Adj):Decidable (FS a):=by unfold FS; exact inferInstance
def HW (f t:Int) (nm:Nat) (x:PartX):Prop:=0≤x.me∧x.me<nm∧(f≤x.f∧x.f≤x.t∧x.t≤t)∧(0≤x.al∧x.al≤1000000)∧(1≤x.bl∧x.bl≤1000000)∧(x.ki=1∨x.ki=2)∧(0≤x.mo∧x.mo≤3)∧1≤x.ts.length∧x.ts.length≤8∧x.ad.length≤6
instance (f t:Int) (nm:Nat) (x:PartX):Decidable (HW f t nm x):=by unfold HW; exact inferInstance
def HB (T:List Tier):Prop:=∀(i:Nat) (h:i<T.length),F8 T i T[i]
def Hh (l:List Adj):Prop:=∀a∈l,FS a
noncomputable instance (T:List Tier):Decidable (HB T):=Classical.propDecidable _
noncomputable instance (l:List Adj):Decidable (Hh l):=Classical.propDecidable _
def F6 (f t:Int) (nm:Nat) (x:PartX):Prop:=HW f t nm x∧HB x.ts∧Hh x.ad
noncomputable instance (f t:Int) (nm:Nat) (x:PartX):Decidable (F6 f t nm x):=by unfold F6; exact inferInstance
theorem PK {T:List Tier} {i:Nat} (h:i+1=T.length):FG T i=0∧FV T i=0:=⟨if_pos h,if_pos h⟩
theorem M0 {T:List Tier} (h:¬0+1=T.length):FG T 0=1∧FV T 0=1000000:=by
 refine ⟨?_,if_neg h⟩
 unfold FG
 rw [if_neg h]
 split
 ·rw [if_neg (by omega)]
 ·rfl
theorem Ld {T:List Tier} {i:Nat} (h0:0<i) (hi:i-1<T.length) (h:¬i+1=T.length) (hu:1≤T[i-1].u):FG T i=min T[i-1].u 1000000+1∧FV T i=1000000:=by
 refine ⟨?_,if_neg h⟩
 unfold FG
 rw [if_neg h,List.getElem?_eq_getElem hi]
 exact if_pos ⟨h0,hu⟩
theorem PT {T:List Tier} {i:Nat} (h0:0<i) (hi:i-1<T.length) (h:¬i+1=T.length) (hu:¬1≤T[i-1].u):FG T i=1∧FV T i=1000000:=by
 refine ⟨?_,if_neg h⟩
 unfold FG
 rw [if_neg h,List.getElem?_eq_getElem hi]
 exact if_neg (fun h=>hu h.2)
set_option maxRecDepth 20000 in
theorem AG8 {cur:ByteArray} {f t:Int} {ms ss ps:List (List D)} {x:PartX} (h:¬HW f t ms.length x):DataW Tryz.prog OJ [KK cur f t ms ss ps,GA x] (bv false):=by
 refine AX QP (by simp) ?_
 simp -implicitDefEqProofs -proj only [go_sem,seval]
 refine AK (fun b2 hb2=>?_)
 simp -implicitDefEqProofs -proj only [go_sem,seval]
 refine AK (fun b3 hb3=>?_)
 replace hb3:upd Heap.none b2 _ b3=none:=hb3
 obtain ⟨n1,n2⟩:=AI hb3 upd_eq
 unfold HW at h
 by_cases g1:x.me<0
 ·simp -implicitDefEqProofs -proj only [go_sem,seval,n1,n2,decide_eq_true g1]
  exact AH rfl
 by_cases g2:(ms.length:Int)≤x.me
 ·simp -implicitDefEqProofs -proj only [go_sem,seval,n1,n2,decide_eq_false g1,decide_eq_true g2]
  exact AH rfl
 simp -implicitDefEqProofs -proj only [go_sem,seval,n1,n2,decide_eq_false g1,decide_eq_false g2]
 refine AJ Og ?_
 by_cases g3:f≤x.f∧x.f≤x.t∧x.t≤t
 rotate_left
 ·simp -implicitDefEqProofs -proj only [go_sem,seval,n1,n2,decide_eq_false g3]
  exact AH rfl
 simp -implicitDefEqProofs -proj only [go_sem,seval,n1,n2,decide_eq_true g3]
 by_cases g4:0≤x.al∧x.al≤1000000
 rotate_left
 ·refine AJ (EW g4) ?_
  simp -implicitDefEqProofs -proj only [go_sem,seval]
  exact AH rfl
 refine AJ (EP g4) ?_
 simp -implicitDefEqProofs -proj only [go_sem,seval,n1,n2]
 by_cases g5:1≤x.bl∧x.bl≤1000000
 rotate_left
 ·refine AJ (EW g5) ?_
  simp -implicitDefEqProofs -proj only [go_sem,seval]
  exact AH rfl
 refine AJ (EP g5) ?_
 by_cases g6:x.ki=1
 ·simp -implicitDefEqProofs -proj only [go_sem,seval,n1,n2,decide_eq_true g6]
  by_cases g7:0≤x.mo∧x.mo≤3
  rotate_left
  ·refine AJ (EW g7) ?_
   simp -implicitDefEqProofs -proj only [go_sem,seval]
   exact AH rfl
  refine AJ (EP g7) ?_
  by_cases g8:(x.ts.length:Int)<1
  ·simp -implicitDefEqProofs -proj only [go_sem,seval,n1,n2,Ep,decide_eq_true g8]
   exact AH rfl
  by_cases g9:8<(x.ts.length:Int)
  ·simp -implicitDefEqProofs -proj only [go_sem,seval,n1,n2,Ep,decide_eq_false g8,decide_eq_true g9]
   exact AH rfl
  simp -implicitDefEqProofs -proj only [go_sem,seval,n1,n2,Ep,HJ,decide_eq_false g8,decide_eq_false g9,decide_eq_true (show 6<(x.ad.length:Int) by omega)]
  exact AH rfl
 by_cases g6':x.ki=2
 ·simp -implicitDefEqProofs -proj only [go_sem,seval,n1,n2,decide_eq_false g6,decide_eq_true g6']
  by_cases g7:0≤x.mo∧x.mo≤3
  rotate_left
  ·refine AJ (EW g7) ?_
   simp -implicitDefEqProofs -proj only [go_sem,seval]
   exact AH rfl
  refine AJ (EP g7) ?_
  by_cases g8:(x.ts.length:Int)<1
  ·simp -implicitDefEqProofs -proj only [go_sem,seval,n1,n2,Ep,decide_eq_true g8]
   exact AH rfl
  by_cases g9:8<(x.ts.length:Int)
  ·simp -implicitDefEqProofs -proj only [go_sem,seval,n1,n2,Ep,decide_eq_false g8,decide_eq_true g9]
   exact AH rfl
  simp -implicitDefEqProofs -proj only [go_sem,seval,n1,n2,Ep,HJ,decide_eq_false g8,decide_eq_false g9,decide_eq_true (show 6<(x.ad.length:Int) by omega)]
  exact AH rfl
 simp -implicitDefEqProofs -proj only [go_sem,seval,n1,n2,decide_eq_false g6,decide_eq_false g6']
 exact AH rfl
end Go.Proofs.YtbihahpaalcjjaaGreat.Abs
