/- Contracts of the machine and the contracts of one law (joined by kmerge.py). No claim stands here. -/
import Derived.Below
import Derived.Carry
import Derived.ChangeCalls
import Derived.ChangeOld
import Derived.IntWalk
import Derived.KernelRfl
import Derived.Laws.Append
import Derived.Laws.AppendOwn
import Derived.Laws.Cells
import Derived.Laws.CopyRow
import Derived.Laws.Entries
import Derived.Laws.MakeOwn
import Derived.Laws.NewFold
import Derived.Laws.Rows
import Derived.Laws.StructEq
import Derived.OpenShut
import Derived.Orders
import Derived.OrdersIn
import Derived.ProofKit
import Derived.RangeFuncLeaves
import Derived.RangeFuncSeq
import Derived.SizedLaws
import Derived.TacticsIn
import Derived.WalkKit
import Derived.Test.YtbihahpaalcjjaaGreatMbe
set_option maxRecDepth 100000
set_option linter.unusedSimpArgs false
set_option linter.unusedVariables false
namespace Go.Proofs.YtbihahpaalcjjaaGreat.Abs
open Go Go.RowKit Go.Proofs
attribute [local go_sem] CL Ce Bo BN D0 CV BP Ag Ao Bn Bf DE Cq Cv B2 Bi BK Cn BV DN Dv De DV Do D2 Dm DC Cy DZ Cf BM Ca Be Bh DG Dl Cb CR By Dp CQ Df Bz CA Dc Di Cr CO Bx BY Bb Bm Dj CD C9 CM Dd DT Bg DD Bu CB CU Bt BO DM Bd Cz C3 Bl Cg BF CW CH BH Ck Bp A8 B7 Ci B8 Cu CF Dn Dy Dw BU Bq Cs DH Cj Cl C5 DJ Bv Br BD Cp BE A5 Cx DO CJ AL ev Aj Ax Av BC A3 DW CX D1 Bk Am Aq Ds CC DB CI CG Cc DI Dz Du Db C6 Cm CY BW CT B9 Cw DS Cd C1 Ba B1 Dr Af setSeg nth seg mapD Ar A4 AR A7 Dg CS Ap Aa cond_true cond_false DY A9 BB BA BI C4 DU List.cons_append List.nil_append Bool.not_true Bool.not_false Bool.and_true Bool.and_self Nat.lt_add_left_iff_pos Nat.zero_add Nat.add_zero List.drop_succ_cons List.drop_zero List.take_succ_cons List.take_zero beq_self_eq_true Bool.false_eq_true Da B3 CN Bs DX BS C8 Co Dq Ay and_self and_true true_and BX CZ Dx Dh CP Bc DK DL Bj Dt Ch BT DF Dk C0 DQ B0 Aw A1 A2 Al D3 Ct C2 C7 BL Bw List.length_cons List.length_nil Nat.min_def Int.cast_ofNat_Int Int.natCast_zero Int.natCast_one decide_true decide_false List.getElem?_cons_zero List.getElem?_cons_succ BZ BQ CK DP CE DA
theorem SV {H:Heap} {b sz cap cap' len:Nat} {e:TypeId} {xs:List (List D)} (h:H b=some (.row e sz cap' xs)) (hl:len=xs.length) (hs:∀el∈xs,∀d∈el,Gr d=true):NewV H (.own b sz 0 len cap) (.d (.sl sz xs)):=by
 subst hl; exact .own b sz cap e cap' xs h hs
theorem Lc {H:Heap} {x y:AV} (h:NewV H x y):NewV H (.agg [x]) (.agg [y]):=by
 refine .agg _ _ rfl fun j u v h1 h2=>?_
 cases j with
 | zero=>cases h1; cases h2; exact h
 | succ j=>cases h1
def Run.elU (r:Run):List D:=[.int .i64 r.f,.int .i64 r.t,.int .u64 r.v]
abbrev Run.avU (r:Run):AV:=.agg [i64 r.f,i64 r.t,u64 r.v]
def FP (l:List Run):List (List D):=l.map Run.elU
theorem rowU_len {l:List Run}:(FP l).length=l.length:=List.length_map ..
theorem AAn {l:List Run} {i:Nat} (h:i<l.length):(FP l)[i]? = some (Run.elU l[i]):=by simp [FP,h]
theorem AH8 {l:List Run} {i:Nat} {r:Run}:(FP l).set i r.elU=FP (l.set i r):=by simp [FP,List.map_set]
theorem AQD {l:List Run} {r:Run}:FP l++[r.elU]=FP (l++[r]):=by simp [FP]
def LineAtU (H:Heap) (b:Nat) (c:Nat) (l:List Run):Prop :=
 l=[]∧H b=some (.box 74 [.nilsl 3])∨l≠[]∧c≠b∧∃cap,H b=some (.box 74 [.own c 3 0 l.length cap])∧H c=some (.row 82 3 cap (FP l))
def US (b c:Nat) (l0 l:List Run) (H:Heap) (H':Heap):Prop:=∃c',LineAtU H' b c' l∧(∀k x,k≠b→(l0≠[]→k≠c)→H k=some x→H' k=some x∧k≠c')
theorem Md {H:Heap} {b c:Nat} {l:List Run} {r:Run} (h:LineAtU H b c l) (hl:l.length≤1000000):CallW Tryz.prog Qj [.ptr b 0,r.avU] H fun _ H'=>US b c l (A6 l r) H H':=by
 rcases h with ⟨rfl,h1⟩ | ⟨h0,h3,cap,h1,h2⟩
 ·refine AX QL (by simp) ?_
  simp -implicitDefEqProofs -proj only [go_sem,seval,h1]
  refine AK (fun b3 hb=>?_)
  replace hb:H b3=none:=hb
  obtain ⟨n1,n2⟩:=AI hb h1
  simp -implicitDefEqProofs -proj only [go_sem,seval,h1,n1,n2]
  (repeat' first
  | ((with_reducible first | refine EA (fun h=>?_) (fun h=>?_) | refine BJ (fun h=>?_) (fun h=>?_) | refine EC (fun h=>?_) (fun h=>?_)) <;> (simp -implicitDefEqProofs -proj only [go_sem,seval,h,h1,n1,n2]; try (revert h; intro _)))
  | ((with_reducible first | refine AK (fun _ hb=>?_) | refine As (fun _ hb=>?_)); simp -implicitDefEqProofs only [EB,ED,Aa,Heap.none_get,and_true,true_and] at hb; simp -implicitDefEqProofs -proj only [go_sem,seval,h1,n1,n2]; try (revert hb; intro _))
  | ((with_reducible first | refine D5 _ rfl (by simp) ?_ | refine D8 _ rfl (by simp) ?_); simp -implicitDefEqProofs -proj only [go_sem,seval,h1,n1,n2])
  | (with_reducible refine Ae ?_ (fun h=>?_); first | ((focus first | decide | omega); try clear h; try simp -implicitDefEqProofs -proj only [go_sem,seval,h1,n1,n2]) | (rotate_left; try clear h; try simp -implicitDefEqProofs -proj only [go_sem,seval,h1,n1,n2]; rotate_right)))
  refine Jy (ds:=r.elU) rfl (fun bs hs=>?_)
  replace hs:upd H b3 _ bs=none:=hs
  rw [show Al 3 1 r.elU=[r.elU] from rfl]
  obtain ⟨m1,m2⟩:=AI hs (by rw [AE n1]; exact h1)
  simp -implicitDefEqProofs -proj only [go_sem,seval,h1,n1,n2,m1,m2]
  refine N4 (ys:=[r.elU]) (t:=82) (capc:=1) (by simp -implicitDefEqProofs -proj only [go_sem,seval]) rfl (by simp) rfl (by simp [maxLen]) (fun c' hc' cap=>?_)
  replace hc':upd (upd H b3 _) bs _ c'=none:=hc'
  obtain ⟨k1,k2⟩:=AI hc' (by rw [AE m1,AE n1]; exact h1)
  simp -implicitDefEqProofs -proj only [go_sem,seval,h1,n1,n2,m1,m2,k1,k2]
  (repeat' first
  | ((with_reducible first | refine EA (fun h=>?_) (fun h=>?_) | refine BJ (fun h=>?_) (fun h=>?_) | refine EC (fun h=>?_) (fun h=>?_)) <;> (simp -implicitDefEqProofs -proj only [go_sem,seval,h,h1,n1,n2,m1,m2,k1,k2]; try (revert h; intro _)))
  | ((with_reducible first | refine AK (fun _ hb=>?_) | refine As (fun _ hb=>?_)); simp -implicitDefEqProofs only [EB,ED,Aa,Heap.none_get,and_true,true_and] at hb; simp -implicitDefEqProofs -proj only [go_sem,seval,h1,n1,n2,m1,m2,k1,k2]; try (revert hb; intro _))
  | ((with_reducible first | refine D5 _ rfl (by simp) ?_ | refine D8 _ rfl (by simp) ?_); simp -implicitDefEqProofs -proj only [go_sem,seval,h1,n1,n2,m1,m2,k1,k2])
  | (with_reducible refine Ae ?_ (fun h=>?_); first | ((focus first | decide | omega); try clear h; try simp -implicitDefEqProofs -proj only [go_sem,seval,h1,n1,n2,m1,m2,k1,k2]) | (rotate_left; try clear h; try simp -implicitDefEqProofs -proj only [go_sem,seval,h1,n1,n2,m1,m2,k1,k2]; rotate_right)))
  refine ⟨c',.inr ⟨by simp [A6],k1,cap,?_,?_⟩,fun k x hk1 hk2 hk=>?_⟩
  ·simp -implicitDefEqProofs -proj only [go_sem,seval,A6]
   rfl
  ·simp -implicitDefEqProofs -proj only [go_sem,seval,k2]
   rfl
  ·obtain ⟨p1,p2⟩:=AI hb hk
   obtain ⟨q1,q2⟩:=AI hs (by rw [AE p1]; exact hk)
   obtain ⟨r1,r2⟩:=AI hc' (by rw [AE q1,AE p1]; exact hk)
   refine ⟨?_,r2⟩
   have hk3:¬b=k:=fun e=>hk1 e.symm
   simp -implicitDefEqProofs -proj only [go_sem,seval,p1,q1,r1,hk,hk3]
 ·obtain ⟨q,hq⟩:∃q,l.getLast? = some q:=by
   cases hh:l.getLast? with
   | none=>exact absurd (List.getLast?_eq_none_iff.1 hh) h0
   | some q=>exact ⟨q,rfl⟩
  have hlen:0<l.length:=List.length_pos_iff.2 h0
  have hq2:l[l.length-1]? = some q:=by rw [←List.getLast?_eq_getElem?]; exact hq
  have hw:IntKind.i64.wrap ((l.length:Int)-1)=((l.length-1:Nat):Int):=by rw [IntKind.wrap_i64]; omega
  have hrow:(FP l)[l.length-1]? = some [.int .i64 q.f,.int .i64 q.t,.int .u64 q.v]:=by simp [FP,hq2,Run.elU]
  have h3':¬b=c:=fun e=>h3 e.symm
  refine AX QL (by simp) ?_
  simp -implicitDefEqProofs -proj only [go_sem,seval,h1]
  refine AK (fun b3 hb=>?_)
  replace hb:H b3=none:=hb
  obtain ⟨n1,n2⟩:=AI hb h1
  obtain ⟨n3,n4⟩:=AI hb h2
  have c0:decide (0<(l.length:Int))=true:=decide_eq_true (by omega)
  simp -implicitDefEqProofs -proj only [go_sem,seval,h1,h2,h3,h3',n1,n2,n3,n4,c0,hw]
  (repeat' first
  | ((with_reducible first | refine EA (fun h=>?_) (fun h=>?_) | refine BJ (fun h=>?_) (fun h=>?_) | refine EC (fun h=>?_) (fun h=>?_)) <;> (simp -implicitDefEqProofs -proj only [go_sem,seval,h,h1,h2,h3,h3',n1,n2,n3,n4,c0,hw]; try (revert h; intro _)))
  | ((with_reducible first | refine AK (fun _ hb=>?_) | refine As (fun _ hb=>?_)); simp -implicitDefEqProofs only [EB,ED,Aa,Heap.none_get,and_true,true_and] at hb; simp -implicitDefEqProofs -proj only [go_sem,seval,h1,h2,h3,h3',n1,n2,n3,n4,c0,hw]; try (revert hb; intro _))
  | ((with_reducible first | refine D5 _ rfl (by simp) ?_ | refine D8 _ rfl (by simp) ?_); simp -implicitDefEqProofs -proj only [go_sem,seval,h1,h2,h3,h3',n1,n2,n3,n4,c0,hw])
  | (with_reducible refine Ae ?_ (fun h=>?_); first | ((focus first | decide | omega); try clear h; try simp -implicitDefEqProofs -proj only [go_sem,seval,h1,h2,h3,h3',n1,n2,n3,n4,c0,hw]) | (rotate_left; try clear h; try simp -implicitDefEqProofs -proj only [go_sem,seval,h1,h2,h3,h3',n1,n2,n3,n4,c0,hw]; rotate_right)))
  refine D5 _ (by rw [Int.toNat_natCast]; exact hrow) (by simp) ?_
  simp -implicitDefEqProofs -proj only [go_sem,seval,h1,h2,h3,h3',n1,n2,n3,n4,c0,hw]
  by_cases hv:q.v=r.v
  ·have hp:A6 l r=l.dropLast++[{ q with t:=r.t }]:=by rw [A6,hq]; exact if_pos hv
   simp -implicitDefEqProofs -proj only [go_sem,seval,h1,h2,h3,h3',n1,n2,n3,n4,c0,hw,decide_eq_true hv,Int.toNat_natCast]
   (repeat' first
  | ((with_reducible first | refine EA (fun h=>?_) (fun h=>?_) | refine BJ (fun h=>?_) (fun h=>?_) | refine EC (fun h=>?_) (fun h=>?_)) <;> (simp -implicitDefEqProofs -proj only [go_sem,seval,h,h1,h2,h3,h3',n1,n2,n3,n4,c0,hw,Int.toNat_natCast]; try (revert h; intro _)))
  | ((with_reducible first | refine AK (fun _ hb=>?_) | refine As (fun _ hb=>?_)); simp -implicitDefEqProofs only [EB,ED,Aa,Heap.none_get,and_true,true_and] at hb; simp -implicitDefEqProofs -proj only [go_sem,seval,h1,h2,h3,h3',n1,n2,n3,n4,c0,hw,Int.toNat_natCast]; try (revert hb; intro _))
  | ((with_reducible first | refine D5 _ rfl (by simp) ?_ | refine D8 _ rfl (by simp) ?_); simp -implicitDefEqProofs -proj only [go_sem,seval,h1,h2,h3,h3',n1,n2,n3,n4,c0,hw,Int.toNat_natCast])
  | (with_reducible refine Ae ?_ (fun h=>?_); first | ((focus first | decide | omega); try clear h; try simp -implicitDefEqProofs -proj only [go_sem,seval,h1,h2,h3,h3',n1,n2,n3,n4,c0,hw,Int.toNat_natCast]) | (rotate_left; try clear h; try simp -implicitDefEqProofs -proj only [go_sem,seval,h1,h2,h3,h3',n1,n2,n3,n4,c0,hw,Int.toNat_natCast]; rotate_right)))
   refine NO (xs:=FP l) (t:=82) (cap:=cap) (by simp -implicitDefEqProofs -proj only [go_sem,seval,n3,h2]) hrow (by simp) ?_
   have hset:(FP l).set (l.length-1) (Gc [.int .i64 q.f,.int .i64 q.t,.int .u64 q.v] 1 [.int .i64 r.t])=FP (A6 l r):=by
    rw [hp,←Qo h0,←AH8]; rfl
   have hlp:(A6 l r).length=l.length:=by rw [hp,List.length_append,List.length_dropLast,List.length_singleton]; omega
   rw [hset]
   simp -implicitDefEqProofs -proj only [go_sem,seval,h1,h2,h3,h3',n1,n2,n3,n4,c0,hw]
   refine ⟨c,.inr ⟨by rw [hp]; simp,h3,cap,?_,?_⟩,fun k x hk1 hk2 hk=>?_⟩
   ·simp -implicitDefEqProofs -proj only [go_sem,seval,n1,h3,h1,hlp]
   ·simp -implicitDefEqProofs -proj only [go_sem,seval]
   ·obtain ⟨p1,p2⟩:=AI hb hk
    have hk3:¬c=k:=fun e=>hk2 h0 e.symm
    refine ⟨?_,hk2 h0⟩
    simp -implicitDefEqProofs -proj only [go_sem,seval,p1,hk3,hk]
  ·have hp:A6 l r=l++[r]:=by rw [A6,hq]; exact if_neg hv
   simp -implicitDefEqProofs -proj only [go_sem,seval,h1,h2,h3,h3',n1,n2,n3,n4,c0,hw,decide_eq_false hv]
   (repeat' first
  | ((with_reducible first | refine EA (fun h=>?_) (fun h=>?_) | refine BJ (fun h=>?_) (fun h=>?_) | refine EC (fun h=>?_) (fun h=>?_)) <;> (simp -implicitDefEqProofs -proj only [go_sem,seval,h,h1,h2,h3,h3',n1,n2,n3,n4,c0,hw]; try (revert h; intro _)))
  | ((with_reducible first | refine AK (fun _ hb=>?_) | refine As (fun _ hb=>?_)); simp -implicitDefEqProofs only [EB,ED,Aa,Heap.none_get,and_true,true_and] at hb; simp -implicitDefEqProofs -proj only [go_sem,seval,h1,h2,h3,h3',n1,n2,n3,n4,c0,hw]; try (revert hb; intro _))
  | ((with_reducible first | refine D5 _ rfl (by simp) ?_ | refine D8 _ rfl (by simp) ?_); simp -implicitDefEqProofs -proj only [go_sem,seval,h1,h2,h3,h3',n1,n2,n3,n4,c0,hw])
  | (with_reducible refine Ae ?_ (fun h=>?_); first | ((focus first | decide | omega); try clear h; try simp -implicitDefEqProofs -proj only [go_sem,seval,h1,h2,h3,h3',n1,n2,n3,n4,c0,hw]) | (rotate_left; try clear h; try simp -implicitDefEqProofs -proj only [go_sem,seval,h1,h2,h3,h3',n1,n2,n3,n4,c0,hw]; rotate_right)))
   refine Jy (ds:=r.elU) rfl (fun bs hs=>?_)
   replace hs:upd H b3 _ bs=none:=hs
   rw [show Al 3 1 r.elU=[r.elU] from rfl]
   obtain ⟨m1,m2⟩:=AI hs (by rw [AE n1]; exact h1)
   obtain ⟨m3,m4⟩:=AI hs (by rw [AE n3]; exact h2)
   simp -implicitDefEqProofs -proj only [go_sem,seval,h1,h2,h3,h3',n1,n2,n3,n4,c0,hw,m1,m2,m3,m4]
   refine PG (xs:=FP l) (ys:=[r.elU]) (t:=82) (capc:=1) (by simp -implicitDefEqProofs -proj only [go_sem,seval,m3,n3,h2]) (by simp -implicitDefEqProofs -proj only [go_sem,seval]) rowU_len.symm rfl (by simp) rfl (by simp -implicitDefEqProofs only [rowU_len,List.length_singleton,maxLen]; omega) (fun c' cap' hc'=>?_)
   replace hc':upd (upd (upd H b3 _) bs _) c none c'=none:=hc'
   obtain ⟨k1,k2⟩:=AI hc' (by rw [AE h3,AE m1,AE n1]; exact h1)
   rw [AQD,List.length_singleton]
   simp -implicitDefEqProofs -proj only [go_sem,seval,h1,h2,h3,h3',n1,n2,n3,n4,c0,hw,m1,m2,m3,m4,k1,k2]
   (repeat' first
  | ((with_reducible first | refine EA (fun h=>?_) (fun h=>?_) | refine BJ (fun h=>?_) (fun h=>?_) | refine EC (fun h=>?_) (fun h=>?_)) <;> (simp -implicitDefEqProofs -proj only [go_sem,seval,h,h1,h2,h3,h3',n1,n2,n3,n4,c0,hw,m1,m2,m3,m4,k1,k2]; try (revert h; intro _)))
  | ((with_reducible first | refine AK (fun _ hb=>?_) | refine As (fun _ hb=>?_)); simp -implicitDefEqProofs only [EB,ED,Aa,Heap.none_get,and_true,true_and] at hb; simp -implicitDefEqProofs -proj only [go_sem,seval,h1,h2,h3,h3',n1,n2,n3,n4,c0,hw,m1,m2,m3,m4,k1,k2]; try (revert hb; intro _))
  | ((with_reducible first | refine D5 _ rfl (by simp) ?_ | refine D8 _ rfl (by simp) ?_); simp -implicitDefEqProofs -proj only [go_sem,seval,h1,h2,h3,h3',n1,n2,n3,n4,c0,hw,m1,m2,m3,m4,k1,k2])
  | (with_reducible refine Ae ?_ (fun h=>?_); first | ((focus first | decide | omega); try clear h; try simp -implicitDefEqProofs -proj only [go_sem,seval,h1,h2,h3,h3',n1,n2,n3,n4,c0,hw,m1,m2,m3,m4,k1,k2]) | (rotate_left; try clear h; try simp -implicitDefEqProofs -proj only [go_sem,seval,h1,h2,h3,h3',n1,n2,n3,n4,c0,hw,m1,m2,m3,m4,k1,k2]; rotate_right)))
   refine ⟨c',.inr ⟨by rw [hp]; simp,k1,cap',?_,?_⟩,fun k x hk1 hk2 hk=>?_⟩
   ·simp -implicitDefEqProofs -proj only [go_sem,seval,hp,List.length_append]
   ·simp -implicitDefEqProofs -proj only [go_sem,seval,k2,hp]
   ·obtain ⟨p1,p2⟩:=AI hb hk
    obtain ⟨q1,q2⟩:=AI hs (by rw [AE p1]; exact hk)
    have hk3:¬c=k:=fun e=>hk2 h0 e.symm
    have hk4:¬b=k:=fun e=>hk1 e.symm
    obtain ⟨r1,r2⟩:=AI hc' (by rw [AE hk3,AE q1,AE p1]; exact hk)
    refine ⟨?_,r2⟩
    simp -implicitDefEqProofs -proj only [go_sem,seval,p1,q1,r1,hk3,hk4,hk]
def GE (b c cap:Nat) (l:List Run):List (Nat×Blk):=if l=[] then [(b,.box 74 [.nilsl 3])] else [(b,.box 74 [.own c 3 0 l.length cap]),(c,.row 82 3 cap (FP l))]
theorem Si {b c cap:Nat} {l:List Run} {rest:List (Nat×Blk)} (hc:l≠[]→c≠b):LineAtU (Ab (GE b c cap l++rest)) b c l:=by
 unfold GE
 by_cases h:l=[]
 ·rw [if_pos h]
  exact .inl ⟨h,by rw [List.cons_append,Ap,if_pos rfl]⟩
 ·rw [if_neg h]
  refine .inr ⟨h,hc h,cap,?_,?_⟩
  ·rw [List.cons_append,Ap,if_pos rfl]
  ·rw [List.cons_append,Ap,if_neg (hc h),List.cons_append,Ap,if_pos rfl]
theorem Mw {b c cap k:Nat} {l:List Run} {rest:List (Nat×Blk)} (hb:k≠b) (hc:l≠[]→k≠c):Ab (GE b c cap l++rest) k=Ab rest k:=by
 unfold GE
 by_cases h:l=[]
 ·rw [if_pos h,List.cons_append,Ap,if_neg hb,List.nil_append]
 ·rw [if_neg h,List.cons_append,Ap,if_neg hb,List.cons_append,Ap,if_neg (hc h),List.nil_append]
theorem Jo {H:Heap} {b c:Nat} {l:List Run} (h:LineAtU H b c l):∃cap,AS H (GE b c cap l)∧(l≠[]→c≠b):=by
 rcases h with ⟨rfl,h1⟩ | ⟨h0,h3,cap,h1,h2⟩
 ·exact ⟨0,⟨h1,trivial⟩,fun h=>absurd rfl h⟩
 ·refine ⟨cap,?_,fun _=>h3⟩
  unfold GE
  rw [if_neg h0]
  exact ⟨h1,h2,trivial⟩
abbrev Hs (l:List Run):AV:=.agg [.d (.sl 3 (FP l))]
theorem SW {l:List Run}:∀el∈FP l,∀d∈el,Gr d=true:=by
 intro el he d hd
 obtain ⟨r,_,rfl⟩:=List.mem_map.1 he
 simp -implicitDefEqProofs only [Run.elU,List.mem_cons,List.not_mem_nil,or_false] at hd
 rcases hd with rfl | rfl | rfl <;> rfl
theorem LineAtU.read {H:Heap} {b c:Nat} {l:List Run} (h:LineAtU H b c l):∃v,H b=some (.box 74 [v])∧NewV H v (.d (.sl 3 (FP l)))∧Jb v=some (i64 l.length):=by
 rcases h with ⟨rfl,h1⟩ | ⟨h0,h3,cap,h1,h2⟩
 ·exact ⟨_,h1,.nilsl _ _,rfl⟩
 ·exact ⟨_,h1,SV h2 rowU_len.symm SW,rfl⟩
theorem LineAtU.upd {H:Heap} {b c k:Nat} {l:List Run} {x:Option Blk} (h:LineAtU H b c l) (hb:¬k=b) (hc:l≠[]→¬k=c):LineAtU (upd H k x) b c l:=by
 rcases h with ⟨h0,h1⟩ | ⟨h0,h3,cap,h1,h2⟩
 ·exact .inl ⟨h0,by rw [AE hb]; exact h1⟩
 ·exact .inr ⟨h0,h3,cap,by rw [AE hb]; exact h1,by rw [AE (hc h0)]; exact h2⟩
abbrev GU (l:List Run):AV:=.d (.sl 3 (FP l))
theorem MC {l:List Run} {i:Nat} (h:i<l.length):(FP l)[((i:Int)).toNat]? = some [.int .i64 l[i].f,.int .i64 l[i].t,.int .u64 l[i].v]:=by
 rw [Int.toNat_natCast]; exact AAn h
theorem LineAtU.fresh {H:Heap} {b c k:Nat} {l:List Run} (h:LineAtU H b c l) (hk:H k=none):¬k=b∧(l≠[]→¬k=c):=by
 rcases h with ⟨h0,h1⟩ | ⟨h0,h3,cap,h1,h2⟩
 ·exact ⟨(AI hk h1).1,fun h=>absurd h0 h⟩
 ·exact ⟨(AI hk h1).1,fun _=>(AI hk h2).1⟩
theorem AOg {a b:List Run} {f:FuncId} {g:Int→Int→Int} (hg:∀u v:Int,DataW Tryz.prog f [u64 u,u64 v] (u64 (g u v))) (ha:a.length≤400000) (hb:b.length≤400000):NewW Tryz.prog T5 [Hs a,Hs b,.fn f []] (Hs (Er g a b (a.length+b.length) 0 0 [])):=by
 refine AX ALS (by simp) ?_
 simp -implicitDefEqProofs -proj only [go_sem,seval]
 refine AK (fun b3 hb3=>?_)
 simp -implicitDefEqProofs -proj only [go_sem,seval]
 refine AK (fun b4 hb4=>?_)
 replace hb4:upd Heap.none b3 _ b4=none:=hb4
 obtain ⟨n1,n2⟩:=AI hb4 upd_eq
 simp -implicitDefEqProofs -proj only [go_sem,seval,n1,n2]
 refine AK (fun b6 hb6=>?_)
 replace hb6:upd (upd Heap.none b3 _) b4 _ b6=none:=hb6
 obtain ⟨n3,n4⟩:=AI hb6 upd_eq
 obtain ⟨n5,n6⟩:=AI hb6 (by rw [AE n1]; exact upd_eq)
 simp -implicitDefEqProofs -proj only [go_sem,seval,n1,n2,n3,n4,n5,n6,rowU_len]
 refine AK (fun b7 hb7=>?_)
 replace hb7:upd (upd (upd Heap.none b3 _) b4 _) b6 _ b7=none:=hb7
 obtain ⟨n7,n8⟩:=AI hb7 upd_eq
 obtain ⟨p1,p2⟩:=AI hb7 (by rw [AE n3]; exact upd_eq)
 obtain ⟨p3,p4⟩:=AI hb7 (by rw [AE n5,AE n1]; exact upd_eq)
 simp -implicitDefEqProofs -proj only [go_sem,seval,n1,n2,n3,n4,n5,n6,n7,n8,p1,p2,p3,p4,rowU_len]
 obtain ⟨rest,hrest⟩:∃rest:List (Nat×Blk),rest=[(b6,.box 74 [.nilsl 3]),(b3,.box 74 [GU a]),(b4,.box 74 [GU b])]:=⟨_,rfl⟩
 refine D9 (fun x:ZipX=>x.i≤a.length∧x.k≤b.length∧x.l.length≤x.i+x.k∧Er g a b (a.length+b.length-x.i-x.k) x.i x.k x.l=Er g a b (a.length+b.length) 0 0 []∧(x.l≠[]→x.c≠b7∧x.c≠b6∧x.c≠b3∧x.c≠b4)) 74 (fun x=>[(8,i64 x.i),(9,i64 x.k),(3,.ptr b3 0),(4,.ptr b4 0),(6,.ptr b6 0),(7,.ptr b7 0),(2,.fn f [])]) (fun x=>GE b7 x.c x.cap x.l++rest) (fun x=>a.length+b.length-x.i-x.k) ⟨0,0,0,0,[]⟩ ⟨Nat.zero_le _,Nat.zero_le _,Nat.zero_le _,rfl,fun h=>absurd rfl h⟩ rfl ?_ ?_ ?_
 ·simp -implicitDefEqProofs -proj only [go_sem,seval,AM]
 ·rw [FK,hrest]
  simp -implicitDefEqProofs -proj only [go_sem,seval,AS,GE,n1,n2,n3,n4,n5,n6,n7,n8,p1,p2,p3,p4]
 ·rintro ⟨i,k,c,cap,R⟩ ⟨hi,hk,hlen,hR,hc⟩
  simp -implicitDefEqProofs only [] at hi hk hlen hR hc
  have hat:=Si (b:=b7) (c:=c) (cap:=cap) (l:=R) (rest:=rest) (fun h=>(hc h).1)
  have h6:Ab (GE b7 c cap R++rest) b6=some (.box 74 [.nilsl 3]):=by
   rw [Mw n8 (fun h e=>(hc h).2.1 e.symm),hrest]; simp -implicitDefEqProofs -proj only [go_sem,seval]
  have h3:Ab (GE b7 c cap R++rest) b3=some (.box 74 [GU a]):=by
   rw [Mw p4 (fun h e=>(hc h).2.2.1 e.symm),hrest]; simp -implicitDefEqProofs -proj only [go_sem,seval,n6]
  have h4:Ab (GE b7 c cap R++rest) b4=some (.box 74 [GU b]):=by
   rw [Mw p2 (fun h e=>(hc h).2.2.2 e.symm),hrest]; simp -implicitDefEqProofs -proj only [go_sem,seval,n4,n1]
  generalize hH:Ab (GE b7 c cap R++rest)=H at *
  by_cases hin:i<a.length∧k<b.length
  ·obtain ⟨h,h'⟩:=hin
   have e1:=MC h
   have e2:=MC h'
   have hx:a[i]? = some a[i]:=List.getElem?_eq_getElem h
   have hy:b[k]? = some b[k]:=List.getElem?_eq_getElem h'
   generalize a[i]=x at *
   generalize b[k]=y at *
   rw [show a.length+b.length-i-k=(a.length+b.length-i-k-1)+1 by omega,Er,hx,hy] at hR
   simp -implicitDefEqProofs only [] at hR
   simp -implicitDefEqProofs -proj only [go_sem,seval,GX,GS,h3,h4,rowU_len,decide_eq_true (show (i:Int)<a.length by omega),decide_eq_true (show (k:Int)<b.length by omega)]
   (repeat' (with_reducible refine Ae ?_ (fun h=>?_); (focus first | decide | omega); clear h; try simp -implicitDefEqProofs -proj only [go_sem,seval,eq_self,GX,GS,h3,h4,rowU_len,decide_eq_true (show (i:Int)<a.length by omega),decide_eq_true (show (k:Int)<b.length by omega)]))
   refine Ah _ (by omega) e1 ?_
   simp -implicitDefEqProofs -proj only [go_sem,seval,GX,GS,h3,h4,rowU_len,decide_eq_true (show (i:Int)<a.length by omega),decide_eq_true (show (k:Int)<b.length by omega)]
   (repeat' (with_reducible refine Ae ?_ (fun h=>?_); (focus first | decide | omega); clear h; try simp -implicitDefEqProofs -proj only [go_sem,seval,eq_self,GX,GS,h3,h4,rowU_len,decide_eq_true (show (i:Int)<a.length by omega),decide_eq_true (show (k:Int)<b.length by omega)]))
   refine Ah _ (by omega) e2 ?_
   simp -implicitDefEqProofs -proj only [go_sem,seval,GX,GS,h3,h4,rowU_len,decide_eq_true (show (i:Int)<a.length by omega),decide_eq_true (show (k:Int)<b.length by omega)]
   (repeat' (with_reducible refine Ae ?_ (fun h=>?_); (focus first | decide | omega); clear h; try simp -implicitDefEqProofs -proj only [go_sem,seval,eq_self,GX,GS,h3,h4,rowU_len,decide_eq_true (show (i:Int)<a.length by omega),decide_eq_true (show (k:Int)<b.length by omega)]))
   refine AK (fun b10 hb10=>?_)
   replace hb10:H b10=none:=hb10
   obtain ⟨q1,q3⟩:=hat.fresh hb10
   have t6:=(AI hb10 h6).1
   have t3:=(AI hb10 h3).1
   have t4:=(AI hb10 h4).1
   simp -implicitDefEqProofs -proj only [go_sem,seval]
   refine AK (fun b11 hb11=>?_)
   replace hb11:upd H b10 _ b11=none:=hb11
   obtain ⟨r3,r4⟩:=AI hb11 upd_eq
   have hb11':H b11=none:=by rw [AE r4] at hb11; exact hb11
   obtain ⟨r1,r3'⟩:=hat.fresh hb11'
   have u6:=(AI hb11' h6).1
   have u3:=(AI hb11' h3).1
   have u4:=(AI hb11' h4).1
   have q2:¬b7=b10:=fun e=>q1 e.symm
   have r2:¬b7=b11:=fun e=>r1 e.symm
   by_cases hA:x.t≤y.t
   ·by_cases hB:y.t≤x.t
    ·by_cases hM:max x.f y.f≤min x.t y.t
     ·rw [if_pos hA,if_pos hB,if_pos hM] at hR
      have dM:=decide_eq_true hM
      have dA:=decide_eq_true hA
      have dB:=decide_eq_true hB
      simp -implicitDefEqProofs -proj only [go_sem,seval,h3,h4,rowU_len,q1,q2,r1,r2,r3,r4,dM,dA,dB,AP (show i<9223372036854775807 by omega),AP (show k<9223372036854775807 by omega)]
      (repeat' (with_reducible refine Ae ?_ (fun h=>?_); (focus first | decide | omega); clear h; try simp -implicitDefEqProofs -proj only [go_sem,seval,eq_self,h3,h4,rowU_len,q1,q2,r1,r2,r3,r4,dM,dA,dB,AP (show i<9223372036854775807 by omega),AP (show k<9223372036854775807 by omega)]))
      refine AJ (hg x.v y.v) ?_
      simp -implicitDefEqProofs -proj only [go_sem,seval,h3,h4,rowU_len,q1,q2,r1,r2,r3,r4,dM,dA,dB,AP (show i<9223372036854775807 by omega),AP (show k<9223372036854775807 by omega)]
      have hput:=fun z1 z2 z w=>Md (r:=⟨max x.f y.f,min x.t y.t,g x.v y.v⟩) ((((hat.upd (k:=b10) (x:=z1) q1 q3).upd (k:=b11) (x:=z2) r1 r3').upd (k:=b10) (x:=z) q1 q3).upd (k:=b11) (x:=w) r1 r3') (by omega)
      refine En (hput _ _ _ _) (fun rr H' hk=>?_)
      obtain ⟨c',hat',hfr⟩:=hk
      have g6:=hfr b6 _ n8 (fun h e=>(hc h).2.1 e.symm) (by rw [AE u6,AE t6,AE u6,AE t6]; exact h6)
      have g3:=hfr b3 _ p4 (fun h e=>(hc h).2.2.1 e.symm) (by rw [AE u3,AE t3,AE u3,AE t3]; exact h3)
      have g4:=hfr b4 _ p2 (fun h e=>(hc h).2.2.2 e.symm) (by rw [AE u4,AE t4,AE u4,AE t4]; exact h4)
      have g10:=hfr b10 _ q1 q3 (by rw [AE r3,upd_eq])
      have g11:=hfr b11 _ r1 r3' (by rw [upd_eq])
      obtain ⟨cap',hah,hc'⟩:=Jo hat'
      simp -implicitDefEqProofs -proj only [go_sem,seval,h3,h4,rowU_len,q1,q2,r1,r2,r3,r4,dM,dA,dB,AP (show i<9223372036854775807 by omega),AP (show k<9223372036854775807 by omega),g10.1,g11.1,eq_self]
      have hRR:A6 R ⟨max x.f y.f,min x.t y.t,g x.v y.v⟩≠[]:=Kw
      have hll:=@GV R ⟨max x.f y.f,min x.t y.t,g x.v y.v⟩
      refine Ad ⟨i+1,k+1,c',cap',A6 R ⟨max x.f y.f,min x.t y.t,g x.v y.v⟩⟩ ⟨by show i+1≤a.length; omega,by show k+1≤b.length; omega,by show (A6 R _).length≤i+1+(k+1); omega,?_,fun h=>⟨hc' h,fun e=>g6.2 e.symm,fun e=>g3.2 e.symm,fun e=>g4.2 e.symm⟩⟩ (by show a.length+b.length-(i+1)-(k+1)<a.length+b.length-i-k; omega) rfl ?_ ?_
      ·show Er g a b (a.length+b.length-(i+1)-(k+1)) (i+1) (k+1) _=_
       rw [←hR]
       try rw [show a.length+b.length-i-k-1=a.length+b.length-(i+1)-(k+1) by omega]
       try (rw [show a.length+b.length-i-k-1=(a.length+b.length-(i+1)-(k+1))+1 by omega,Hd _ _ _ _ (by omega)])
      ·simp -implicitDefEqProofs -proj only [go_sem,seval,AM,GX,GS]
      ·rw [FK,hrest]
       exact ⟨hah,g6.1,g3.1,g4.1,trivial⟩
     ·rw [if_pos hA,if_pos hB,if_neg hM] at hR
      have dM:=decide_eq_false hM
      have dA:=decide_eq_true hA
      have dB:=decide_eq_true hB
      simp -implicitDefEqProofs -proj only [go_sem,seval,h3,h4,rowU_len,q1,q2,r1,r2,r3,r4,dM,dA,dB,AP (show i<9223372036854775807 by omega),AP (show k<9223372036854775807 by omega)]
      (repeat' (with_reducible refine Ae ?_ (fun h=>?_); (focus first | decide | omega); clear h; try simp -implicitDefEqProofs -proj only [go_sem,seval,eq_self,h3,h4,rowU_len,q1,q2,r1,r2,r3,r4,dM,dA,dB,AP (show i<9223372036854775807 by omega),AP (show k<9223372036854775807 by omega)]))
      obtain ⟨cap',hah,hc'⟩:=Jo ((((hat.upd (k:=b10) (x:=some (.box 82 [.d (.int .i64 0),.d (.int .i64 0),.d (.int .u64 0)])) q1 q3).upd (k:=b11) (x:=some (.box 82 [.d (.int .i64 0),.d (.int .i64 0),.d (.int .u64 0)])) r1 r3').upd (k:=b10) (x:=some (.box 82 [.d (.int .i64 x.f),.d (.int .i64 x.t),.d (.int .u64 x.v)])) q1 q3).upd (k:=b11) (x:=some (.box 82 [.d (.int .i64 y.f),.d (.int .i64 y.t),.d (.int .u64 y.v)])) r1 r3')
      refine Ad ⟨i+1,k+1,c,cap',R⟩ ⟨by show i+1≤a.length; omega,by show k+1≤b.length; omega,by show R.length≤i+1+(k+1); omega,?_,hc⟩ (by show a.length+b.length-(i+1)-(k+1)<a.length+b.length-i-k; omega) rfl ?_ ?_
      ·show Er g a b (a.length+b.length-(i+1)-(k+1)) (i+1) (k+1) _=_
       rw [←hR]
       try rw [show a.length+b.length-i-k-1=a.length+b.length-(i+1)-(k+1) by omega]
       try (rw [show a.length+b.length-i-k-1=(a.length+b.length-(i+1)-(k+1))+1 by omega,Hd _ _ _ _ (by omega)])
      ·simp -implicitDefEqProofs -proj only [go_sem,seval,AM,GX,GS]
      ·rw [FK,hrest]
       exact ⟨hah,((AE u6).trans ((AE t6).trans ((AE u6).trans ((AE t6).trans h6)))),((AE u3).trans ((AE t3).trans ((AE u3).trans ((AE t3).trans h3)))),((AE u4).trans ((AE t4).trans ((AE u4).trans ((AE t4).trans h4)))),trivial⟩
    ·by_cases hM:max x.f y.f≤min x.t y.t
     ·rw [if_pos hA,if_neg hB,if_pos hM] at hR
      have dM:=decide_eq_true hM
      have dA:=decide_eq_true hA
      have dB:=decide_eq_false hB
      simp -implicitDefEqProofs -proj only [go_sem,seval,h3,h4,rowU_len,q1,q2,r1,r2,r3,r4,dM,dA,dB,AP (show i<9223372036854775807 by omega),AP (show k<9223372036854775807 by omega)]
      (repeat' (with_reducible refine Ae ?_ (fun h=>?_); (focus first | decide | omega); clear h; try simp -implicitDefEqProofs -proj only [go_sem,seval,eq_self,h3,h4,rowU_len,q1,q2,r1,r2,r3,r4,dM,dA,dB,AP (show i<9223372036854775807 by omega),AP (show k<9223372036854775807 by omega)]))
      refine AJ (hg x.v y.v) ?_
      simp -implicitDefEqProofs -proj only [go_sem,seval,h3,h4,rowU_len,q1,q2,r1,r2,r3,r4,dM,dA,dB,AP (show i<9223372036854775807 by omega),AP (show k<9223372036854775807 by omega)]
      have hput:=fun z1 z2 z w=>Md (r:=⟨max x.f y.f,min x.t y.t,g x.v y.v⟩) ((((hat.upd (k:=b10) (x:=z1) q1 q3).upd (k:=b11) (x:=z2) r1 r3').upd (k:=b10) (x:=z) q1 q3).upd (k:=b11) (x:=w) r1 r3') (by omega)
      refine En (hput _ _ _ _) (fun rr H' hk=>?_)
      obtain ⟨c',hat',hfr⟩:=hk
      have g6:=hfr b6 _ n8 (fun h e=>(hc h).2.1 e.symm) (by rw [AE u6,AE t6,AE u6,AE t6]; exact h6)
      have g3:=hfr b3 _ p4 (fun h e=>(hc h).2.2.1 e.symm) (by rw [AE u3,AE t3,AE u3,AE t3]; exact h3)
      have g4:=hfr b4 _ p2 (fun h e=>(hc h).2.2.2 e.symm) (by rw [AE u4,AE t4,AE u4,AE t4]; exact h4)
      have g10:=hfr b10 _ q1 q3 (by rw [AE r3,upd_eq])
      have g11:=hfr b11 _ r1 r3' (by rw [upd_eq])
      obtain ⟨cap',hah,hc'⟩:=Jo hat'
      simp -implicitDefEqProofs -proj only [go_sem,seval,h3,h4,rowU_len,q1,q2,r1,r2,r3,r4,dM,dA,dB,AP (show i<9223372036854775807 by omega),AP (show k<9223372036854775807 by omega),g10.1,g11.1,eq_self]
      have hRR:A6 R ⟨max x.f y.f,min x.t y.t,g x.v y.v⟩≠[]:=Kw
      have hll:=@GV R ⟨max x.f y.f,min x.t y.t,g x.v y.v⟩
      refine Ad ⟨i+1,k,c',cap',A6 R ⟨max x.f y.f,min x.t y.t,g x.v y.v⟩⟩ ⟨by show i+1≤a.length; omega,by show k≤b.length; omega,by show (A6 R _).length≤i+1+(k); omega,?_,fun h=>⟨hc' h,fun e=>g6.2 e.symm,fun e=>g3.2 e.symm,fun e=>g4.2 e.symm⟩⟩ (by show a.length+b.length-(i+1)-(k)<a.length+b.length-i-k; omega) rfl ?_ ?_
      ·show Er g a b (a.length+b.length-(i+1)-(k)) (i+1) (k) _=_
       rw [←hR]
       try rw [show a.length+b.length-i-k-1=a.length+b.length-(i+1)-(k) by omega]
       try (rw [show a.length+b.length-i-k-1=(a.length+b.length-(i+1)-(k+1))+1 by omega,Hd _ _ _ _ (by omega)])
      ·simp -implicitDefEqProofs -proj only [go_sem,seval,AM,GX,GS]
      ·rw [FK,hrest]
       exact ⟨hah,g6.1,g3.1,g4.1,trivial⟩
     ·rw [if_pos hA,if_neg hB,if_neg hM] at hR
      have dM:=decide_eq_false hM
      have dA:=decide_eq_true hA
      have dB:=decide_eq_false hB
      simp -implicitDefEqProofs -proj only [go_sem,seval,h3,h4,rowU_len,q1,q2,r1,r2,r3,r4,dM,dA,dB,AP (show i<9223372036854775807 by omega),AP (show k<9223372036854775807 by omega)]
      (repeat' (with_reducible refine Ae ?_ (fun h=>?_); (focus first | decide | omega); clear h; try simp -implicitDefEqProofs -proj only [go_sem,seval,eq_self,h3,h4,rowU_len,q1,q2,r1,r2,r3,r4,dM,dA,dB,AP (show i<9223372036854775807 by omega),AP (show k<9223372036854775807 by omega)]))
      obtain ⟨cap',hah,hc'⟩:=Jo ((((hat.upd (k:=b10) (x:=some (.box 82 [.d (.int .i64 0),.d (.int .i64 0),.d (.int .u64 0)])) q1 q3).upd (k:=b11) (x:=some (.box 82 [.d (.int .i64 0),.d (.int .i64 0),.d (.int .u64 0)])) r1 r3').upd (k:=b10) (x:=some (.box 82 [.d (.int .i64 x.f),.d (.int .i64 x.t),.d (.int .u64 x.v)])) q1 q3).upd (k:=b11) (x:=some (.box 82 [.d (.int .i64 y.f),.d (.int .i64 y.t),.d (.int .u64 y.v)])) r1 r3')
      refine Ad ⟨i+1,k,c,cap',R⟩ ⟨by show i+1≤a.length; omega,by show k≤b.length; omega,by show R.length≤i+1+(k); omega,?_,hc⟩ (by show a.length+b.length-(i+1)-(k)<a.length+b.length-i-k; omega) rfl ?_ ?_
      ·show Er g a b (a.length+b.length-(i+1)-(k)) (i+1) (k) _=_
       rw [←hR]
       try rw [show a.length+b.length-i-k-1=a.length+b.length-(i+1)-(k) by omega]
       try (rw [show a.length+b.length-i-k-1=(a.length+b.length-(i+1)-(k+1))+1 by omega,Hd _ _ _ _ (by omega)])
      ·simp -implicitDefEqProofs -proj only [go_sem,seval,AM,GX,GS]
      ·rw [FK,hrest]
       exact ⟨hah,((AE u6).trans ((AE t6).trans ((AE u6).trans ((AE t6).trans h6)))),((AE u3).trans ((AE t3).trans ((AE u3).trans ((AE t3).trans h3)))),((AE u4).trans ((AE t4).trans ((AE u4).trans ((AE t4).trans h4)))),trivial⟩
   ·have hB:y.t≤x.t:=by omega
    by_cases hM:max x.f y.f≤min x.t y.t
    ·rw [if_neg hA,if_pos hB,if_pos hM] at hR
     have dM:=decide_eq_true hM
     have dA:=decide_eq_false hA
     have dB:=decide_eq_true hB
     simp -implicitDefEqProofs -proj only [go_sem,seval,h3,h4,rowU_len,q1,q2,r1,r2,r3,r4,dM,dA,dB,AP (show i<9223372036854775807 by omega),AP (show k<9223372036854775807 by omega)]
     (repeat' (with_reducible refine Ae ?_ (fun h=>?_); (focus first | decide | omega); clear h; try simp -implicitDefEqProofs -proj only [go_sem,seval,eq_self,h3,h4,rowU_len,q1,q2,r1,r2,r3,r4,dM,dA,dB,AP (show i<9223372036854775807 by omega),AP (show k<9223372036854775807 by omega)]))
     refine AJ (hg x.v y.v) ?_
     simp -implicitDefEqProofs -proj only [go_sem,seval,h3,h4,rowU_len,q1,q2,r1,r2,r3,r4,dM,dA,dB,AP (show i<9223372036854775807 by omega),AP (show k<9223372036854775807 by omega)]
     have hput:=fun z1 z2 z w=>Md (r:=⟨max x.f y.f,min x.t y.t,g x.v y.v⟩) ((((hat.upd (k:=b10) (x:=z1) q1 q3).upd (k:=b11) (x:=z2) r1 r3').upd (k:=b10) (x:=z) q1 q3).upd (k:=b11) (x:=w) r1 r3') (by omega)
     refine En (hput _ _ _ _) (fun rr H' hk=>?_)
     obtain ⟨c',hat',hfr⟩:=hk
     have g6:=hfr b6 _ n8 (fun h e=>(hc h).2.1 e.symm) (by rw [AE u6,AE t6,AE u6,AE t6]; exact h6)
     have g3:=hfr b3 _ p4 (fun h e=>(hc h).2.2.1 e.symm) (by rw [AE u3,AE t3,AE u3,AE t3]; exact h3)
     have g4:=hfr b4 _ p2 (fun h e=>(hc h).2.2.2 e.symm) (by rw [AE u4,AE t4,AE u4,AE t4]; exact h4)
     have g10:=hfr b10 _ q1 q3 (by rw [AE r3,upd_eq])
     have g11:=hfr b11 _ r1 r3' (by rw [upd_eq])
     obtain ⟨cap',hah,hc'⟩:=Jo hat'
     simp -implicitDefEqProofs -proj only [go_sem,seval,h3,h4,rowU_len,q1,q2,r1,r2,r3,r4,dM,dA,dB,AP (show i<9223372036854775807 by omega),AP (show k<9223372036854775807 by omega),g10.1,g11.1,eq_self]
     have hRR:A6 R ⟨max x.f y.f,min x.t y.t,g x.v y.v⟩≠[]:=Kw
     have hll:=@GV R ⟨max x.f y.f,min x.t y.t,g x.v y.v⟩
     refine Ad ⟨i,k+1,c',cap',A6 R ⟨max x.f y.f,min x.t y.t,g x.v y.v⟩⟩ ⟨by show i≤a.length; omega,by show k+1≤b.length; omega,by show (A6 R _).length≤i+(k+1); omega,?_,fun h=>⟨hc' h,fun e=>g6.2 e.symm,fun e=>g3.2 e.symm,fun e=>g4.2 e.symm⟩⟩ (by show a.length+b.length-(i)-(k+1)<a.length+b.length-i-k; omega) rfl ?_ ?_
     ·show Er g a b (a.length+b.length-(i)-(k+1)) (i) (k+1) _=_
      rw [←hR]
      try rw [show a.length+b.length-i-k-1=a.length+b.length-(i)-(k+1) by omega]
      try (rw [show a.length+b.length-i-k-1=(a.length+b.length-(i+1)-(k+1))+1 by omega,Hd _ _ _ _ (by omega)])
     ·simp -implicitDefEqProofs -proj only [go_sem,seval,AM,GX,GS]
     ·rw [FK,hrest]
      exact ⟨hah,g6.1,g3.1,g4.1,trivial⟩
    ·rw [if_neg hA,if_pos hB,if_neg hM] at hR
     have dM:=decide_eq_false hM
     have dA:=decide_eq_false hA
     have dB:=decide_eq_true hB
     simp -implicitDefEqProofs -proj only [go_sem,seval,h3,h4,rowU_len,q1,q2,r1,r2,r3,r4,dM,dA,dB,AP (show i<9223372036854775807 by omega),AP (show k<9223372036854775807 by omega)]
     (repeat' (with_reducible refine Ae ?_ (fun h=>?_); (focus first | decide | omega); clear h; try simp -implicitDefEqProofs -proj only [go_sem,seval,eq_self,h3,h4,rowU_len,q1,q2,r1,r2,r3,r4,dM,dA,dB,AP (show i<9223372036854775807 by omega),AP (show k<9223372036854775807 by omega)]))
     obtain ⟨cap',hah,hc'⟩:=Jo ((((hat.upd (k:=b10) (x:=some (.box 82 [.d (.int .i64 0),.d (.int .i64 0),.d (.int .u64 0)])) q1 q3).upd (k:=b11) (x:=some (.box 82 [.d (.int .i64 0),.d (.int .i64 0),.d (.int .u64 0)])) r1 r3').upd (k:=b10) (x:=some (.box 82 [.d (.int .i64 x.f),.d (.int .i64 x.t),.d (.int .u64 x.v)])) q1 q3).upd (k:=b11) (x:=some (.box 82 [.d (.int .i64 y.f),.d (.int .i64 y.t),.d (.int .u64 y.v)])) r1 r3')
     refine Ad ⟨i,k+1,c,cap',R⟩ ⟨by show i≤a.length; omega,by show k+1≤b.length; omega,by show R.length≤i+(k+1); omega,?_,hc⟩ (by show a.length+b.length-(i)-(k+1)<a.length+b.length-i-k; omega) rfl ?_ ?_
     ·show Er g a b (a.length+b.length-(i)-(k+1)) (i) (k+1) _=_
      rw [←hR]
      try rw [show a.length+b.length-i-k-1=a.length+b.length-(i)-(k+1) by omega]
      try (rw [show a.length+b.length-i-k-1=(a.length+b.length-(i+1)-(k+1))+1 by omega,Hd _ _ _ _ (by omega)])
     ·simp -implicitDefEqProofs -proj only [go_sem,seval,AM,GX,GS]
     ·rw [FK,hrest]
      exact ⟨hah,((AE u6).trans ((AE t6).trans ((AE u6).trans ((AE t6).trans h6)))),((AE u3).trans ((AE t3).trans ((AE u3).trans ((AE t3).trans h3)))),((AE u4).trans ((AE t4).trans ((AE u4).trans ((AE t4).trans h4)))),trivial⟩
  ·have hz:Er g a b (a.length+b.length-i-k) i k R=R:=by
    generalize a.length+b.length-i-k=n
    cases n with
    | zero=>rfl
    | succ n =>
     rw [Er]
     by_cases h1:i<a.length
     ·rw [List.getElem?_eq_none (l:=b) (by omega)]
      split <;> first | rfl | simp_all
     ·rw [List.getElem?_eq_none (l:=a) (by omega)]
   obtain ⟨v,hv,hl,_⟩:=hat.read
   obtain ⟨v2,hv2,hl2,_⟩:=(hat.upd (k:=b6) (x:=some (.box 74 [v])) n8 (fun h e=>(hc h).2.1 e.symm)).read
   rw [AE n8,hv] at hv2
   cases hv2
   rw [←hR,hz]
   by_cases h1:i<a.length
   ·have h2:¬(k:Int)<b.length:=by omega
    simp -implicitDefEqProofs -proj only [go_sem,seval,GX,GS,h3,h4,h6,hv,rowU_len,decide_eq_true (show (i:Int)<a.length by omega),decide_eq_false h2]
    (repeat' (with_reducible refine Ae ?_ (fun h=>?_); (focus first | decide | omega); clear h; try simp -implicitDefEqProofs -proj only [go_sem,seval,eq_self,GX,GS,h3,h4,h6,hv,rowU_len,decide_eq_true (show (i:Int)<a.length by omega),decide_eq_false h2]))
    exact Lc hl2
   ·simp -implicitDefEqProofs -proj only [go_sem,seval,GX,GS,h3,h4,h6,hv,rowU_len,decide_eq_false (show ¬(i:Int)<a.length by omega)]
    (repeat' (with_reducible refine Ae ?_ (fun h=>?_); (focus first | decide | omega); clear h; try simp -implicitDefEqProofs -proj only [go_sem,seval,eq_self,GX,GS,h3,h4,h6,hv,rowU_len,decide_eq_false (show ¬(i:Int)<a.length by omega)]))
    exact Lc hl2
structure LineSU (H:Heap) (b c:Nat) (R:List Run) (rest:List (Nat×Blk)):Prop where
 at_:LineAtU H b c R
 all:AS H rest
 ne:∀p∈rest,p.1≠b∧(R≠[]→p.1≠c)
theorem Ku {H:Heap} {b c:Nat} {R:List Run} {rest:List (Nat×Blk)} {r:Run} (h:LineSU H b c R rest) (hl:R.length≤1000000):CallW Tryz.prog Qj [.ptr b 0,r.avU] H fun _ H'=>∃c',LineSU H' b c' (A6 R r) rest :=
 (Md (r:=r) h.at_ hl).mono fun _ H' ⟨c',h1,h2⟩ =>
  ⟨c',h1,E5.2 fun p hp=>(h2 p.1 p.2 (h.ne p hp).1 (h.ne p hp).2 (E5.1 h.all p hp)).1,fun p hp=>⟨(h.ne p hp).1,fun _=>(h2 p.1 p.2 (h.ne p hp).1 (h.ne p hp).2 (E5.1 h.all p hp)).2⟩⟩
theorem LineSU.alloc {H:Heap} {b c k:Nat} {R:List Run} {rest:List (Nat×Blk)} {x:Blk} (h:LineSU H b c R rest) (hk:H k=none):LineSU (upd H k (some x)) b c R ((k,x)::rest):=by
 have hf:=h.at_.fresh hk
 refine ⟨h.at_.upd hf.1 hf.2,HK hk h.all,fun p hp=>?_⟩
 rcases List.mem_cons.1 hp with rfl | hp
 ·exact hf
 ·exact h.ne p hp
theorem LineSU.keep {b c cap:Nat} {R:List Run} {rest:List (Nat×Blk)} (hc:R≠[]→c≠b) (hn:∀p∈rest,p.1≠b∧(R≠[]→p.1≠c)) (hk:(AT rest).Nodup):LineSU (Ab (GE b c cap R++rest)) b c R rest :=
 ⟨Si hc,E5.2 fun p hp=>by rw [Mw (hn p hp).1 (hn p hp).2]; exact E5.1 (EQ hk) p hp,hn⟩
theorem LineSU.sub {H:Heap} {b c:Nat} {R:List Run} {rest rest':List (Nat×Blk)} (h:LineSU H b c R rest) (hs:∀p∈rest',p∈rest):LineSU H b c R rest' :=
 ⟨h.at_,LB h.all hs,fun p hp=>h.ne p (hs p hp)⟩
set_option maxRecDepth 20000 in
theorem AQk {l:List Run} {lo hi v:Int} (hn:l.length≤300000) (hlo : -1099511627776≤lo∧lo≤1099511627776) (hhi : -1099511627776≤hi∧hi≤1099511627776) (hb:∀r∈l,-1099511627776≤r.f∧r.t≤1099511627776∧r.f≤r.t) :
  NewW Tryz.prog Uv [Hs l,i64 lo,i64 hi,u64 v] (Hs (Fv lo hi v l l.length)):=by
 refine AX AU0 (by simp) ?_
 simp -implicitDefEqProofs -proj only [go_sem,seval]
 refine AK (fun b4 hb4=>?_)
 simp -implicitDefEqProofs -proj only [go_sem,seval]
 refine AK (fun b8 hb8=>?_)
 replace hb8:upd Heap.none b4 _ b8=none:=hb8
 obtain ⟨n1,n2⟩:=AI hb8 upd_eq
 simp -implicitDefEqProofs -proj only [go_sem,seval]
 refine AK (fun b9 hb9=>?_)
 replace hb9:upd (upd Heap.none b4 _) b8 _ b9=none:=hb9
 obtain ⟨n3,n4⟩:=AI hb9 upd_eq
 obtain ⟨n5,n6⟩:=AI hb9 (by rw [AE n1]; exact upd_eq)
 simp -implicitDefEqProofs -proj only [go_sem,seval,n1,n2,n3,n4,n5,n6,rowU_len]
 (repeat' (with_reducible refine Ae ?_ (fun h=>?_); (focus first | decide | omega); clear h; try simp -implicitDefEqProofs -proj only [go_sem,seval,n1,n2,n3,n4,n5,n6,rowU_len]))
 refine D9 (fun x:LoopX=>x.i≤l.length∧x.l=Fv lo hi v l x.i∧(x.l≠[]→x.c≠b9∧x.c≠b8)) 65 (fun x=>[(15,GU l),(16,i64 l.length),(17,i64 x.i),(1,i64 lo),(2,i64 hi),(3,u64 v),(9,.ptr b9 0),(8,.ptr b8 0)]) (fun x=>GE b9 x.c x.cap x.l++[(b8,.box 74 [.nilsl 3])]) (fun x=>l.length-x.i) ⟨0,0,0,[]⟩ ⟨Nat.zero_le _,rfl,fun h=>absurd rfl h⟩ rfl ?_ ?_ ?_
 ·simp -implicitDefEqProofs -proj only [go_sem,seval,AM,rowU_len]
 ·simp -implicitDefEqProofs -proj only [go_sem,seval,AS,FK,GE,n1,n2,n3,n4,n5,n6]
 ·rintro ⟨i,c,cap,R⟩ ⟨hi',hR,hc⟩
  simp -implicitDefEqProofs only [] at hi' hR hc
  have hS:LineSU (Ab (GE b9 c cap R++[(b8,.box 74 [.nilsl 3])])) b9 c R [(b8,.box 74 [.nilsl 3])] :=
   LineSU.keep (fun h=>(hc h).1) (fun p hp=>by simp -implicitDefEqProofs only [List.mem_singleton] at hp; subst hp; exact ⟨n4,fun h e=>(hc h).2 e.symm⟩) (by simp [AT])
  generalize hH:Ab (GE b9 c cap R++[(b8,.box 74 [.nilsl 3])])=H at *
  have hlen:=PB (lo:=lo) (hi:=hi) (v:=v) (l:=l) i
  rw [←hR] at hlen
  by_cases h:i<l.length
  ·have hel:=MC h
   have hx:l[i]? = some l[i]:=List.getElem?_eq_getElem h
   obtain ⟨q1,q2,q3⟩:=hb l[i] (List.getElem_mem h)
   generalize l[i]=x at *
   have hR':GR lo hi v R x=Fv lo hi v l (i+1):=by rw [Fv,hx,hR]
   have fin:∀(H':Heap) (c':Nat) (t:TM),LineSU H' b9 c' (GR lo hi v R x) [(b8,.box 74 [.nilsl 3])]→AM t [(15,GU l),(16,i64 l.length),(17,i64 ((i+1:Nat):Int)),(1,i64 lo),(2,i64 hi),(3,u64 v),(9,.ptr b9 0),(8,.ptr b8 0)] →
     Ho (fun x:LoopX=>x.i≤l.length∧x.l=Fv lo hi v l x.i∧(x.l≠[]→x.c≠b9∧x.c≠b8)) (fun x=>(⟨65,Et [(15,GU l),(16,i64 l.length),(17,i64 x.i),(1,i64 lo),(2,i64 hi),(3,u64 v),(9,.ptr b9 0),(8,.ptr b8 0)],Ab (GE b9 x.c x.cap x.l++[(b8,.box 74 [.nilsl 3])])⟩:St)) (fun x=>l.length-x.i) ⟨i,c,cap,R⟩
      (Ej Tryz.prog (A9 [.cell 8 (some 1)] fun r' H'=>NewV H' r' (Hs (Fv lo hi v l l.length))) [.blk 0,.code ((ACode.ops TO).seq .ret)]) .normal ⟨65,t,H'⟩:=by
    intro H' c' t hS' hat
    obtain ⟨cap',ha,hc'⟩:=Jo hS'.at_
    refine Ad ⟨i+1,c',cap',GR lo hi v R x⟩ ⟨by show i+1≤l.length; omega,hR',fun h=>⟨hc' h,fun e=>(hS'.ne _ (List.mem_singleton.2 rfl)).2 h e.symm⟩⟩ (by show l.length-(i+1)<l.length-i; omega) rfl hat ?_
    rw [FK]
    exact ⟨ha,hS'.all⟩
   have hsucc:=AP (show i<9223372036854775807 by omega)
   simp -implicitDefEqProofs -proj only [go_sem,seval,decide_eq_true (show (i:Int)<l.length by omega)]
   refine Ah _ (by omega) hel ?_
   simp -implicitDefEqProofs -proj only [go_sem,seval]
   refine AK (fun b11 hb11=>?_)
   replace hb11:H b11=none:=hb11
   have hS1:=hS.alloc (x:=.box 82 [i64 x.f,i64 x.t,u64 x.v]) hb11
   obtain ⟨H1,hH1⟩:∃H1,upd H b11 (some (.box 82 [i64 x.f,i64 x.t,u64 x.v]))=H1:=⟨_,rfl⟩
   have e11:H1 b11=some (.box 82 [i64 x.f,i64 x.t,u64 x.v]):=by rw [←hH1]; exact upd_eq
   rw [hH1] at hS1
   simp -implicitDefEqProofs -proj only [go_sem,seval,hH1,e11]
   have w1:IntKind.i64.wrap (max x.f lo-1)=max x.f lo-1:=by rw [IntKind.wrap_i64]; omega
   have w2:IntKind.i64.wrap (min x.t hi+1)=min x.t hi+1:=by rw [IntKind.wrap_i64]; omega
   by_cases hc1:min x.t hi<max x.f lo
   ·have ef:GR lo hi v R x=A6 R x:=by unfold GR; exact if_pos hc1
    simp -implicitDefEqProofs -proj only [go_sem,seval,decide_eq_true hc1,e11]
    refine En (Ku (r:=x) hS1 (by omega)) ?_
    rintro r2 H2 ⟨c2,hS2⟩
    have e2:H2 b11=some (.box 82 [i64 x.f,i64 x.t,u64 x.v]):=hS2.all.1
    simp -implicitDefEqProofs -proj only [go_sem,seval,hsucc]
    refine fin _ c2 _ ?_ ?_
    ·rw [ef]; exact hS2.sub (fun p hp=>List.mem_cons_of_mem _ hp)
    ·simp -implicitDefEqProofs -proj only [go_sem,seval,AM]
   ·by_cases hc2:x.f<max x.f lo
    ·simp -implicitDefEqProofs -proj only [go_sem,seval,decide_eq_false hc1,decide_eq_true hc2,e11,w1,w2]
     refine En (Ku (r:=⟨x.f,max x.f lo-1,x.v⟩) hS1 (by omega)) ?_
     rintro r2 H2 ⟨c2,hS2⟩
     have e2:H2 b11=some (.box 82 [i64 x.f,i64 x.t,u64 x.v]):=hS2.all.1
     have k2:=@GV R ⟨x.f,max x.f lo-1,x.v⟩
     simp -implicitDefEqProofs -proj only [go_sem,seval,e2,w1,w2]
     refine En (Ku (r:=⟨max x.f lo,min x.t hi,v⟩) hS2 (by omega)) ?_
     rintro r3 H3 ⟨c3,hS3⟩
     have e3:H3 b11=some (.box 82 [i64 x.f,i64 x.t,u64 x.v]):=hS3.all.1
     have k3:=@GV (A6 R ⟨x.f,max x.f lo-1,x.v⟩) ⟨max x.f lo,min x.t hi,v⟩
     by_cases hc3:min x.t hi<x.t
     ·simp -implicitDefEqProofs -proj only [go_sem,seval,e3,w1,w2,decide_eq_true hc3]
      refine En (Ku (r:=⟨min x.t hi+1,x.t,x.v⟩) hS3 (by omega)) ?_
      rintro r4 H4 ⟨c4,hS4⟩
      have e4:H4 b11=some (.box 82 [i64 x.f,i64 x.t,u64 x.v]):=hS4.all.1
      simp -implicitDefEqProofs -proj only [go_sem,seval,hsucc]
      refine fin _ c4 _ ?_ ?_
      ·have ef:GR lo hi v R x=A6 (A6 (A6 R ⟨x.f,max x.f lo-1,x.v⟩) ⟨max x.f lo,min x.t hi,v⟩) ⟨min x.t hi+1,x.t,x.v⟩:=by unfold GR; simp -implicitDefEqProofs only []; rw [if_neg (by omega),if_pos hc2,if_pos hc3]
       rw [ef]; exact hS4.sub (fun p hp=>List.mem_cons_of_mem _ hp)
      ·simp -implicitDefEqProofs -proj only [go_sem,seval,AM]
     ·simp -implicitDefEqProofs -proj only [go_sem,seval,e3,w1,w2,decide_eq_false hc3,hsucc]
      refine fin _ c3 _ ?_ ?_
      ·have ef:GR lo hi v R x=(A6 (A6 R ⟨x.f,max x.f lo-1,x.v⟩) ⟨max x.f lo,min x.t hi,v⟩):=by unfold GR; simp -implicitDefEqProofs only []; rw [if_neg (by omega),if_pos hc2,if_neg hc3]
       rw [ef]; exact hS3.sub (fun p hp=>List.mem_cons_of_mem _ hp)
      ·simp -implicitDefEqProofs -proj only [go_sem,seval,AM]
    ·simp -implicitDefEqProofs -proj only [go_sem,seval,decide_eq_false hc1,decide_eq_false hc2,e11,w1,w2]
     refine En (Ku (r:=⟨max x.f lo,min x.t hi,v⟩) hS1 (by omega)) ?_
     rintro r3 H3 ⟨c3,hS3⟩
     have e3:H3 b11=some (.box 82 [i64 x.f,i64 x.t,u64 x.v]):=hS3.all.1
     have k3:=@GV R ⟨max x.f lo,min x.t hi,v⟩
     by_cases hc3:min x.t hi<x.t
     ·simp -implicitDefEqProofs -proj only [go_sem,seval,e3,w1,w2,decide_eq_true hc3]
      refine En (Ku (r:=⟨min x.t hi+1,x.t,x.v⟩) hS3 (by omega)) ?_
      rintro r4 H4 ⟨c4,hS4⟩
      have e4:H4 b11=some (.box 82 [i64 x.f,i64 x.t,u64 x.v]):=hS4.all.1
      simp -implicitDefEqProofs -proj only [go_sem,seval,hsucc]
      refine fin _ c4 _ ?_ ?_
      ·have ef:GR lo hi v R x=A6 (A6 R ⟨max x.f lo,min x.t hi,v⟩) ⟨min x.t hi+1,x.t,x.v⟩:=by unfold GR; simp -implicitDefEqProofs only []; rw [if_neg (by omega),if_neg hc2,if_pos hc3]
       rw [ef]; exact hS4.sub (fun p hp=>List.mem_cons_of_mem _ hp)
      ·simp -implicitDefEqProofs -proj only [go_sem,seval,AM]
     ·simp -implicitDefEqProofs -proj only [go_sem,seval,e3,w1,w2,decide_eq_false hc3,hsucc]
      refine fin _ c3 _ ?_ ?_
      ·have ef:GR lo hi v R x=(A6 R ⟨max x.f lo,min x.t hi,v⟩):=by unfold GR; simp -implicitDefEqProofs only []; rw [if_neg (by omega),if_neg hc2,if_neg hc3]
       rw [ef]; exact hS3.sub (fun p hp=>List.mem_cons_of_mem _ hp)
      ·simp -implicitDefEqProofs -proj only [go_sem,seval,AM]
  ·have hi'':i=l.length:=by omega
   subst hi''
   obtain ⟨v',hv,hl,_⟩:=hS.at_.read
   have h8:=hS.all.1
   simp -implicitDefEqProofs -proj only [go_sem,seval,decide_eq_false (show ¬(l.length:Int)<l.length by omega),hv,h8]
   obtain ⟨v2,hv2,hl2,_⟩:=(hS.at_.upd (k:=b8) (x:=some (.box 74 [v'])) n4 (fun h e=>(hc h).2 e.symm)).read
   rw [AE n4,hv] at hv2
   cases hv2
   rw [show Fv lo hi v l l.length=R from hR.symm]
   exact Lc hl2
theorem Rw {lo hi v:Int}:NewW Tryz.prog AE0 [i64 lo,i64 hi,u64 v] (Hs (if hi<lo then [] else [⟨lo,hi,v⟩])):=by
 refine AX APT (by simp) ?_
 simp -implicitDefEqProofs -proj only [go_sem,seval]
 refine AK (fun b6 hb6=>?_)
 by_cases h:hi<lo
 ·rw [if_pos h]
  simp -implicitDefEqProofs -proj only [go_sem,seval,decide_eq_true h]
  exact Lc (.nilsl _ _)
 ·rw [if_neg h]
  simp -implicitDefEqProofs -proj only [go_sem,seval,decide_eq_false h]
  refine As (fun bs hs=>?_)
  replace hs:upd Heap.none b6 _ bs=none:=hs
  obtain ⟨n1,n2⟩:=AI hs upd_eq
  simp -implicitDefEqProofs -proj only [go_sem,seval,n1,n2]
  refine Lc (SV (xs:=FP [⟨lo,hi,v⟩]) (by rw [AE (by assumption),upd_eq]; rfl) rfl SW)
abbrev Io (l:List Run):List (List AV):=l.map fun r=>[r.avU]
theorem OR {l:List Run} {i:Nat} (h:i<l.length):(FP l)[((i:Int)).toNat]? = some [.int .i64 l[i].f,.int .i64 l[i].t,.int .u64 l[i].v]:=MC h
theorem AK1 {b:Nat} {l:List Run} (hl:l.length≤1000000):Ii Tryz.prog Nd [.ptr b 0] [(b,.box 72 [GU l])] (Io l):=by
 intro y H J X hA hS hY h0
 refine AX AQ0 (by simp) ?_
 have hb:H b=some (.box 72 [GU l]):=(hA [] H h0).1
 simp -implicitDefEqProofs -proj only [go_sem,seval,hb,rowU_len]
 refine LM (fun x:Nat×Heap=>x.1≤l.length∧J (Io (l.take x.1)) x.2) (fun x=>⟨16,Et [(0,.yld y),(5,GU l),(6,i64 l.length),(7,i64 x.1)],x.2⟩) (fun x=>l.length-x.1) (0,H) ⟨Nat.zero_le _,h0⟩ (HS rfl ?_ (fun k=>.inr rfl)) ?_
 ·simp -implicitDefEqProofs -proj only [go_sem,seval,AM]
 rintro ⟨i,H1⟩ ⟨hi,hj⟩
 simp -implicitDefEqProofs only [] at hi hj
 by_cases h:i<l.length
 ·have hel:=OR h
  have hxs:Io l=Io (l.take i)++[(l[i]).avU]::Io (l.drop (i+1)):=by
   rw [←List.map_cons (f:=fun r:Run=>[r.avU]),←List.map_append,←List.drop_eq_getElem_cons h,List.take_append_drop]
  have htk:Io (l.take i)++[[(l[i]).avU]]=Io (l.take (i+1)):=by simp -implicitDefEqProofs only [Io]; rw [List.take_succ_eq_append_getElem h,List.map_append]; rfl
  generalize l[i]=r at *
  simp -implicitDefEqProofs -proj only [go_sem,seval,decide_eq_true (show (i:Int)<l.length by omega)]
  refine Ah _ (by omega) hel ?_
  simp -implicitDefEqProofs -proj only [go_sem,seval]
  refine AK (fun b4 hb4=>?_)
  simp -implicitDefEqProofs -proj only [go_sem,seval]
  refine KS (hY _ _ _ _ hxs (hS _ _ b4 _ hj hb4)) ?_
  rintro v H2 (⟨rfl,hj2⟩ | ⟨rfl,hx⟩)
  ·rw [htk] at hj2
   simp -implicitDefEqProofs -proj only [go_sem,seval]
   refine KO (i+1,H2) ⟨by show i+1≤l.length; omega,hj2⟩ (by show l.length-(i+1)<l.length-i; omega) (HS rfl ?_ (fun k=>.inr rfl))
   simp -implicitDefEqProofs -proj only [go_sem,seval,AM,AP (show i<9223372036854775807 by omega)]
  ·simp -implicitDefEqProofs -proj only [go_sem,seval]
   exact .inr hx
 ·have hi':i=l.length:=by omega
  subst hi'
  rw [List.take_length] at hj
  simp -implicitDefEqProofs -proj only [go_sem,seval,decide_eq_false (show ¬(l.length:Int)<l.length by omega)]
  exact .inl hj
theorem ASu {H:Heap} {l:List Run}:CallW Tryz.prog AEv [GU l] H fun r H'=>∃b,r = .fn Nd [.ptr b 0]∧H b=none∧H'=upd H b (some (.box 72 [GU l])):=by
 refine AX AA6 (by simp) ?_
 simp -implicitDefEqProofs -proj only [go_sem,seval]
 refine AK (fun b hb=>?_)
 simp -implicitDefEqProofs -proj only [go_sem,seval]
 exact ⟨b,rfl,hb,rfl⟩
theorem AVI {H:Heap} {l:List Run}:CallW Tryz.prog T0 [Hs l] H fun r H'=>∃b,r = .fn Nd [.ptr b 0]∧H b=none∧H' b=some (.box 72 [GU l])∧∀k x,H k=some x→H' k=some x:=by
 refine AX XS (by simp) ?_
 simp -implicitDefEqProofs -proj only [go_sem,seval]
 refine AK (fun b1 hb1=>?_)
 simp -implicitDefEqProofs -proj only [go_sem,seval]
 refine En ASu ?_
 rintro r H' ⟨b,rfl,hb,rfl⟩
 simp -implicitDefEqProofs -proj only [go_sem,seval]
 have hb':upd H b1 (some (.box 74 [GU l])) b=none:=hb
 have hne:¬b1=b:=fun e=>by rw [AR,if_pos e] at hb'; cases hb'
 refine ⟨b,rfl,by rw [AE hne] at hb'; exact hb',by rw [if_pos rfl],fun k x hk=>?_⟩
 rw [AE hne] at hb'
 obtain ⟨n1,n2⟩:=AI hb1 hk
 obtain ⟨n3,n4⟩:=AI hb' hk
 simp -implicitDefEqProofs -proj only [go_sem,seval,n1,n3,hk]
def Mq:List Run→AV
 | []=>.tup [i64 0,i64 0,bv false]
 | r::R=>.tup [i64 r.f,i64 ((r::R).getLast (by simp)).t,bv true]
theorem AIy {R:List Run} (hl:R.length≤1000000):DataW Tryz.prog T9 [Hs R] (Mq R):=by
 refine AX ADG (by simp) ?_
 simp -implicitDefEqProofs -proj only [go_sem,seval]
 refine AK (fun b hb=>?_)
 by_cases h:R=[]
 ·subst h
  simp -implicitDefEqProofs -proj only [go_sem,seval,rowU_len]
  exact AH rfl
 ·have hlen:0<R.length:=List.length_pos_iff.2 h
  have hw:IntKind.i64.wrap ((R.length:Int)-1)=((R.length-1:Nat):Int):=by rw [IntKind.wrap_i64]; omega
  have e0:=OR (l:=R) (i:=0) hlen
  have e1:=OR (l:=R) (i:=R.length-1) (by omega)
  simp -implicitDefEqProofs -proj only [go_sem,seval,rowU_len,decide_eq_false (show ¬(R.length:Int)=0 by omega),hw]
  refine Ah _ (by omega) e0 ?_
  simp -implicitDefEqProofs -proj only [go_sem,seval,rowU_len,hw]
  refine Ah _ (by omega) e1 ?_
  simp -implicitDefEqProofs -proj only [go_sem,seval]
  obtain ⟨r,R',rfl⟩:=List.exists_cons_of_ne_nil h
  refine AH ?_
  simp [Mq,List.getLast_eq_getElem]
theorem Lx {a:Nat} (h:a<18446744073709551616):(BitVec.ofInt 64 (a:Int)).toNat=a:=by
 rw [BitVec.toNat_ofInt]
 have:(a:Int) % ((2 ^ 64:Nat):Int)=a:=Int.emod_eq_of_lt (by omega) (by simp; omega)
 rw [this,Int.toNat_natCast]
theorem MA {a b:Nat} (ha:a<18446744073709551616) (hb:b<18446744073709551616):Hx .u64 (a:Int) (b:Int)=((a ||| b:Nat):Int):=by
 have h:a ||| b<2 ^ 64:=Nat.or_lt_two_pow (by simpa using ha) (by simpa using hb)
 rw [Hx,IntKind.wrap_u64,show IntKind.u64.bits=64 from rfl,BitVec.toNat_or,Lx ha,Lx hb]
 have:a ||| b<18446744073709551616:=by simpa using h
 omega
theorem ARu {a b:Nat} (ha:a<18446744073709551616) (hb:b<18446744073709551616):IQ .u64 (a:Int) (b:Int)=((a &&& b:Nat):Int):=by
 have h:a &&& b≤a:=Nat.and_le_left
 rw [IQ,IntKind.wrap_u64,show IntKind.u64.bits=64 from rfl,BitVec.toNat_and,Lx ha,Lx hb]
 omega
def HF (i:Int):Nat:=if 0≤i∧i<8 then 2 ^ i.toNat else 0
def IF (i:Int):Nat:=if 0≤i∧i<8 then 256*2 ^ i.toNat else 0
theorem Qc {i:Int}:DataW Tryz.prog AHW [i64 i,i64 8] (u64 (HF i:Nat)):=by
 refine AX ADI (by simp) ?_
 by_cases g1:i<0
 ·simp -implicitDefEqProofs -proj only [go_sem,seval,decide_eq_true g1]
  exact AH (by rw [HF,if_neg (by omega)]; rfl)
 by_cases g2:8≤i
 ·simp -implicitDefEqProofs -proj only [go_sem,seval,decide_eq_false g1,decide_eq_true g2]
  exact AH (by rw [HF,if_neg (by omega)]; rfl)
 simp -implicitDefEqProofs -proj only [go_sem,seval,decide_eq_false g1,decide_eq_false g2]
 (repeat' (with_reducible refine Ae ?_ (fun h=>?_); (focus first | decide | omega); clear h; try simp -implicitDefEqProofs -proj only [go_sem,seval,eq_self]))
 refine AH ?_
 obtain h | h | h | h | h | h | h | h:i=0∨i=1∨i=2∨i=3∨i=4∨i=5∨i=6∨i=7:=by omega
 all_goals subst h; rfl
theorem SU {i:Int}:DataW Tryz.prog AJJ [i64 i] (u64 (HF i:Nat)):=by
 refine AX ANt (by simp) ?_
 simp -implicitDefEqProofs -proj only [go_sem,seval]
 refine AJ Qc ?_
 simp -implicitDefEqProofs -proj only [go_sem,seval]
 exact AH rfl
theorem Qp {i:Int}:DataW Tryz.prog VN [i64 i] (u64 (IF i:Nat)):=by
 refine AX AFr (by simp) ?_
 simp -implicitDefEqProofs -proj only [go_sem,seval]
 refine AJ Qc ?_
 simp -implicitDefEqProofs -proj only [go_sem,seval]
 (repeat' (with_reducible refine Ae ?_ (fun h=>?_); (focus first | decide | omega); clear h; try simp -implicitDefEqProofs -proj only [go_sem,seval,eq_self]))
 refine AH ?_
 unfold HF IF
 by_cases h8:0≤i∧i<8
 ·rw [if_pos h8,if_pos h8]
  obtain h | h | h | h | h | h | h | h:i=0∨i=1∨i=2∨i=3∨i=4∨i=5∨i=6∨i=7:=by omega
  all_goals subst h; rfl
 ·rw [if_neg h8,if_neg h8]
  rfl
theorem TF {a b:Int}:DataW Tryz.prog AEY [u64 a,u64 b] (bv (decide (IQ .u64 a b=b))):=by
 refine AX AK8 (by simp) ?_
 simp -implicitDefEqProofs -proj only [go_sem,seval]
 exact AH rfl
theorem AQs (u v:Int):DataW Tryz.prog AQF [u64 u,u64 v] (u64 (Hx .u64 u v)):=by
 refine AX ARD (by simp) ?_
 simp -implicitDefEqProofs -proj only [go_sem,seval]
 exact AH rfl
theorem FwdOK.len {val:Int→Int} {hi:Int}:∀{R:List Run} {lo:Int},FwdOK val lo hi R→(R.length:Int)≤hi-lo
 | [],lo,h=>by have:lo=hi:=h; simp; omega
 | r::R,lo,⟨g1,g2,g3,g4,g5⟩=>by
  have:=g5.len
  simp -implicitDefEqProofs only [List.length_cons]
  omega
theorem FwdOK.ne {val:Int→Int} {hi:Int} {R:List Run} {lo:Int} (h:FwdOK val lo hi R) (hl:lo<hi):R≠[]:=by
 rintro rfl
 have:lo=hi:=h
 omega
theorem AEx {val:Int→Int} {hi:Int} {R:List Run} {lo:Int} (h:FwdOK val lo (hi+1) R) (hl:lo≤hi):Mq R = .tup [i64 lo,i64 hi,bv true]:=by
 have hne:=h.ne (by omega)
 obtain ⟨e1,e2⟩:=FwdOK.ends hne h
 match R,hne,e1,e2 with
 | r::R,_,e1,e2 =>
  rw [Mq]
  rw [show r.f=lo from e1,e2,show hi+1-1=hi by omega]
theorem TJ {v lo hi:Int} (h:lo≤hi):FwdOK (fun _=>v) lo (hi+1) [⟨lo,hi,v⟩] :=
 ⟨rfl,h,fun _ _ _=>rfl,fun s h=>(by cases h),rfl⟩
def LT (val:Int→Int) (a b more:Int):Int→Int:=fun x=>Hx .u64 (val x) (if a≤x∧x≤b then more else 0)
theorem Sc {val:Int→Int} {f h a b more:Int} {R:List Run} (hR:FwdOK val f (h+1) R) (hfh:f≤h) (hf : -1099511627776≤f) (hh:h≤1099511627776) (hn:h-f≤100000) (ha : -1099511627776≤a∧a≤1099511627776) (hb : -1099511627776≤b∧b≤1099511627776) :
  ∃R',DataW Tryz.prog AIc [Hs R,i64 a,i64 b,u64 more] (Hs R')∧FwdOK (LT val a b more) f (h+1) R':=by
 have hl:=hR.len
 have hfl:=TJ (v:=0) hfh
 have hfill:=Rh hfl (lo:=a) (hi:=b) (v:=more) 1 (by simp)
 rw [Os (by simp)] at hfill
 have hz:=RA hR hfill (Hx .u64) (R.length+(Fv a b more [⟨f,h,0⟩] 1).length) 0 0 [] (by omega) (by rw [Il hR,Il hfill]; rfl) (by rw [Il hR,Il hfill]; exact .inl rfl)
 rw [show max f f=f by omega,show max f (min (h+1) (h+1))=h+1 by omega] at hz
 have hsp:=AIy (R:=R) (by omega)
 rw [AEx hR hfh] at hsp
 have hflat:=(Rw (lo:=f) (hi:=h) (v:=0)).data
 rw [if_neg (by omega)] at hflat
 have hfi:=(AQk (l:=[⟨f,h,0⟩]) (lo:=a) (hi:=b) (v:=more) (by simp) ha hb (fun r hr=>by rw [List.mem_singleton] at hr; subst hr; exact ⟨hf,hh,hfh⟩)).data
 have hfln:=PB (lo:=a) (hi:=b) (v:=more) (l:=[⟨f,h,0⟩]) 1
 have hzip:=(AOg (a:=R) (b:=Fv a b more [⟨f,h,0⟩] 1) (g:=Hx .u64) AQs (by omega) (by omega)).data
 refine ⟨_,?_,hz⟩
 generalize Er (Hx .u64) R (Fv a b more [⟨f,h,0⟩] 1) (R.length+(Fv a b more [⟨f,h,0⟩] 1).length) 0 0 []=Z at *
 rw [show ([⟨f,h,0⟩]:List Run).length=1 from rfl] at hfi
 generalize Fv a b more [⟨f,h,0⟩] 1=F at *
 refine AX ASP (by simp) ?_
 simp -implicitDefEqProofs -proj only [go_sem,seval]
 refine AK (fun b4 hb4=>?_)
 simp -implicitDefEqProofs -proj only [go_sem,seval]
 refine AK (fun b8 hb8=>?_)
 replace hb8:upd Heap.none b4 _ b8=none:=hb8
 obtain ⟨n1,n2⟩:=AI hb8 upd_eq
 simp -implicitDefEqProofs -proj only [go_sem,seval,n1,n2]
 refine AJ hsp ?_
 simp -implicitDefEqProofs -proj only [go_sem,seval]
 refine AJ hflat ?_
 simp -implicitDefEqProofs -proj only [go_sem,seval]
 refine AJ hfi ?_
 simp -implicitDefEqProofs -proj only [go_sem,seval]
 refine AK (fun b12 hb12=>?_)
 replace hb12:upd (upd Heap.none b4 _) b8 _ b12=none:=hb12
 obtain ⟨n3,n4⟩:=AI hb12 upd_eq
 obtain ⟨n5,n6⟩:=AI hb12 (by rw [AE n1]; exact upd_eq)
 simp -implicitDefEqProofs -proj only [go_sem,seval,n1,n2,n3,n4,n5,n6]
 refine AJ hzip ?_
 simp -implicitDefEqProofs -proj only [go_sem,seval,n1,n2,n3,n4,n5,n6]
 exact AH rfl
def G4 (ss:List SumX) (d:Int):Nat→Nat
 | 0=>0
 | i+1=>G4 ss d i ||| (match ss[i]? with | some s=>if s.f≤d∧d≤s.t then 2 ^ i else 0 | none=>0)
def HU (ss:List SumX) (ps:List PartX) (d:Int):Nat→Nat
 | 0=>G4 ss d ss.length
 | i+1=>HU ss ps d i ||| (match ps[i]? with | some s=>if s.f≤d∧d≤s.t then 256*2 ^ i else 0 | none=>0)
def Fi (c:CoreX) (d:Int):Nat:=HU c.ss c.ps d c.ps.length
theorem Oi {ss:List SumX} {d:Int}:∀i:Nat,G4 ss d i<2 ^ i
 | 0=>by simp [G4]
 | i+1=>by
  have h:=Oi (ss:=ss) (d:=d) i
  have hp:2 ^ i<2 ^ (i+1):=Nat.pow_lt_pow_right (by omega) (by omega)
  rw [G4]
  refine Nat.or_lt_two_pow (by omega) ?_
  split
  ·split <;> omega
  ·omega
theorem Ol {ss:List SumX} {ps:List PartX} {d:Int} (h8:ss.length≤8):∀i:Nat,HU ss ps d i<2 ^ (8+i)
 | 0=>by
  have h:=Oi (ss:=ss) (d:=d) ss.length
  have:2 ^ ss.length≤2 ^ 8:=Nat.pow_le_pow_right (by omega) h8
  rw [HU]
  show _<2 ^ 8
  omega
 | i+1=>by
  have h:=Ol (ps:=ps) (d:=d) h8 i
  have hp:2 ^ (8+i)<2 ^ (8+i+1):=Nat.pow_lt_pow_right (by omega) (by omega)
  have he:256*2 ^ i=2 ^ (8+i):=by rw [Nat.pow_add]
  rw [HU]
  refine Nat.or_lt_two_pow (by show _<2 ^ (8+i+1); omega) ?_
  show _<2 ^ (8+i+1)
  split
  ·split
   ·rw [he]; exact hp
   ·exact Nat.two_pow_pos _
  ·exact Nat.two_pow_pos _
theorem TS {i:Nat} (h:i≤8):2 ^ i≤256:=Nat.pow_le_pow_right (n:=2) (by omega) h
theorem Zj {i:Nat} (h:i≤8):2 ^ (8+i)≤65536:=Nat.pow_le_pow_right (show 0<2 by omega) (show 8+i≤16 by omega)
theorem Un {i:Nat} (h:i<8):HF (i:Int)=2 ^ i:=by unfold HF; rw [if_pos (by omega),Int.toNat_natCast]
theorem AGO {i:Nat} (h:i<8):IF (i:Int)=256*2 ^ i:=by unfold IF; rw [if_pos (by omega),Int.toNat_natCast]
theorem AMZ {ss:List SumX} {i:Nat} (h:i<ss.length) (h8:ss.length≤8):(fun d=>((G4 ss d (i+1):Nat):Int))=LT (fun d=>((G4 ss d i:Nat):Int)) ss[i].f ss[i].t ((HF (i:Int):Nat):Int):=by
 funext d
 have h1:=Oi (ss:=ss) (d:=d) i
 have h2:=TS (i:=i) (by omega)
 rw [LT,G4,List.getElem?_eq_getElem h,Un (by omega)]
 simp -implicitDefEqProofs only []
 by_cases hd:ss[i].f≤d∧d≤ss[i].t
 ·rw [if_pos hd,if_pos hd,MA (by omega) (by omega)]
 ·rw [if_neg hd,if_neg hd,show (0:Int)=((0:Nat):Int) from rfl,MA (by omega) (by omega)]
theorem AGA {ss:List SumX} {ps:List PartX} {i:Nat} (h:i<ps.length) (h8:ss.length≤8) (h9:ps.length≤8):(fun d=>((HU ss ps d (i+1):Nat):Int))=LT (fun d=>((HU ss ps d i:Nat):Int)) ps[i].f ps[i].t ((IF (i:Int):Nat):Int):=by
 funext d
 have h1:=Ol (ps:=ps) (d:=d) h8 i
 have h2:=Zj (i:=i) (by omega)
 have h3:=TS (i:=i) (by omega)
 rw [LT,HU,List.getElem?_eq_getElem h,AGO (by omega)]
 simp -implicitDefEqProofs only []
 by_cases hd:ps[i].f≤d∧d≤ps[i].t
 ·rw [if_pos hd,if_pos hd,MA (by omega) (by omega)]
 ·rw [if_neg hd,if_neg hd,show (0:Int)=((0:Nat):Int) from rfl,MA (by omega) (by omega)]
def KW (c:CoreX):List Int:=(List.range (c.t+1-c.f).toNat).map fun (i:Nat)=>((Fi c (c.f+i):Nat):Int)
def JJ (c:CoreX):List Run:=BG c.f (KW c)
theorem Oo {c:CoreX}:(KW c).length=(c.t+1-c.f).toNat:=by simp [KW]
theorem ARv {c:CoreX} {R:List Run} (h:FwdOK (fun d=>((Fi c d:Nat):Int)) c.f (c.t+1) R) (hft:c.f≤c.t):R=JJ c:=by
 refine Oa (val:=fun d=>((Fi c d:Nat):Int)) ?_ fun i hi=>?_
 ·rw [Oo,show c.f+(((c.t+1-c.f).toNat:Nat):Int)=c.t+1 by omega]
  exact h
 ·simp [KW]
structure HX where
 i:Nat
 R:List Run
theorem Hg {i:Nat} {R:List Run}:(HX.mk i R).i=i:=(rfl)
theorem H8 {i:Nat} {R:List Run}:(HX.mk i R).R=R:=(rfl)
def Iu (b1 b2 b3:Nat) (c:CoreX) (R:List Run):List (Nat×Blk):=[(b3,.box 74 [GU R]),(b2,.box 74 [.nilsl 3]),(b1,EI c)]
set_option maxRecDepth 20000 in
theorem AF3 {c:CoreX} (hc:c.Fit) (hg:goodC c):DataW Tryz.prog AP9 [Fl c] (Hs (JJ c)):=by
 have hgood:=Px hc
 rw [decide_eq_true hg] at hgood
 obtain ⟨⟨a1,a2⟩,⟨a3,a4⟩,a5,a6,a7,a8⟩:=hg.hd
 have hss:=hg.ss
 have hps:=hg.ps
 have heq:=@ARv c
 generalize JJ c=Z at *
 obtain ⟨cur,f,t,ms,ss,ps⟩:=c
 simp -implicitDefEqProofs only [] at a1 a2 a3 a4 a5 a6 a7 a8 hss hps heq
 unfold Fi at heq
 simp -implicitDefEqProofs only [] at heq
 have hflat:=(Rw (lo:=f) (hi:=t) (v:=0)).data
 rw [if_neg (by omega)] at hflat
 have hfl:FwdOK (fun d=>((G4 ss d 0:Nat):Int)) f (t+1) [⟨f,t,0⟩]:=TJ a3
 refine AX AUM (by simp) ?_
 simp -implicitDefEqProofs -proj only [go_sem,seval]
 refine AK (fun b1 hb1=>?_)
 simp -implicitDefEqProofs -proj only [go_sem,seval]
 refine AK (fun b2 hb2=>?_)
 replace hb2:upd Heap.none b1 _ b2=none:=hb2
 obtain ⟨n1,n2⟩:=AI hb2 upd_eq
 simp -implicitDefEqProofs -proj only [go_sem,seval,n1,n2]
 refine AJ hgood ?_
 simp -implicitDefEqProofs -proj only [go_sem,seval,n1,n2]
 refine AJ hflat ?_
 simp -implicitDefEqProofs -proj only [go_sem,seval,n1,n2]
 refine AK (fun b3 hb3=>?_)
 replace hb3:upd (upd Heap.none b1 _) b2 _ b3=none:=hb3
 obtain ⟨n3,n4⟩:=AI hb3 upd_eq
 obtain ⟨n5,n6⟩:=AI hb3 (by rw [AE n1]; exact upd_eq)
 simp -implicitDefEqProofs -proj only [go_sem,seval,n1,n2,n3,n4,n5,n6,E9]
 have hnd:∀R,(AT (Iu b1 b2 b3 ⟨cur,f,t,ms,ss,ps⟩ R)).Nodup:=fun R=>by simp [AT,Iu,n1,n3,n5]
 refine D9 (fun y:HX=>y.i≤ss.length∧FwdOK (fun d=>((G4 ss d y.i:Nat):Int)) f (t+1) y.R) 52 (fun y=>[(1,.ptr b1 0),(2,.ptr b2 0),(3,.ptr b3 0),(18,.d (.sl 3 (EL ss))),(19,i64 ss.length),(20,i64 y.i)]) (fun y=>Iu b1 b2 b3 ⟨cur,f,t,ms,ss,ps⟩ y.R) (fun y=>ss.length-y.i) ⟨0,[⟨f,t,0⟩]⟩ ⟨Nat.zero_le _,hfl⟩ rfl ?_ ?_ ?_
 ·simp -implicitDefEqProofs -proj only [go_sem,seval,AM,Hg]
 ·simp -implicitDefEqProofs -proj only [go_sem,seval,AS,Iu,H8,n1,n2,n3,n4,n5,n6]
 ·rintro ⟨i,R⟩ ⟨hi,hR⟩
  simp -implicitDefEqProofs only [Hg,H8] at hi hR
  have hall:=EQ (hnd R)
  obtain ⟨H,hH⟩:∃H,Ab (Iu b1 b2 b3 ⟨cur,f,t,ms,ss,ps⟩ R)=H:=⟨_,rfl⟩
  rw [hH] at hall
  obtain ⟨k3,k2,k1,_⟩:=id hall
  by_cases h:i<ss.length
  ·have hel:=JT h
   have hso:=hss _ (List.getElem_mem h)
   obtain ⟨R',hw,hR'⟩:=Sc (a:=ss[i].f) (b:=ss[i].t) (more:=((HF (i:Int):Nat):Int)) hR a3 (by omega) (by omega) (by omega) (by obtain ⟨_,q1,q2,q3⟩:=hso; omega) (by obtain ⟨_,q1,q2,q3⟩:=hso; omega)
   rw [←AMZ h a7] at hR'
   generalize ss[i]=s at *
   simp -implicitDefEqProofs -proj only [go_sem,seval,Hg,H8,hH,decide_eq_true (show (i:Int)<ss.length by omega)]
   refine Ah _ (by omega) hel ?_
   simp -implicitDefEqProofs -proj only [go_sem,seval]
   refine AK (fun b5 hb5=>?_)
   replace hb5:H b5=none:=hb5
   obtain ⟨m1,m2⟩:=AI hb5 k3; obtain ⟨m3,m4⟩:=AI hb5 k2; obtain ⟨m5,m6⟩:=AI hb5 k1
   simp -implicitDefEqProofs -proj only [go_sem,seval,m1,m2,k3]
   refine Eb SU ?_
   simp -implicitDefEqProofs -proj only [go_sem,seval,m1,m2,k3]
   refine AJ hw ?_
   simp -implicitDefEqProofs -proj only [go_sem,seval,m1,m2,k3]
   refine Ad ⟨i+1,R'⟩ ⟨by rw [Hg]; omega,hR'⟩ (by show ss.length-(i+1)<ss.length-i; omega) rfl ?_ ?_
   ·simp -implicitDefEqProofs -proj only [go_sem,seval,AM,Hg,H8,AP (show i<9223372036854775807 by omega)]
   ·simp -implicitDefEqProofs -proj only [go_sem,seval,AS,Iu,H8,m1,m2,m3,m4,m5,m6,k1,k2,n1,n2,n3,n4,n5,n6]
  ·have hi':i=ss.length:=by omega
   subst hi'
   have hR0:FwdOK (fun d=>((HU ss ps d 0:Nat):Int)) f (t+1) R:=hR
   simp -implicitDefEqProofs -proj only [go_sem,seval,Hg,H8,hH,k1,El,decide_eq_false (show ¬(ss.length:Int)<ss.length by omega)]
   refine D9 (fun y:HX=>y.i≤ps.length∧FwdOK (fun d=>((HU ss ps d y.i:Nat):Int)) f (t+1) y.R) 52 (fun y=>[(1,.ptr b1 0),(2,.ptr b2 0),(3,.ptr b3 0),(35,.d (.sl 9 (Ak ps))),(36,i64 ps.length),(37,i64 y.i)]) (fun y=>Iu b1 b2 b3 ⟨cur,f,t,ms,ss,ps⟩ y.R) (fun y=>ps.length-y.i) ⟨0,R⟩ ⟨Nat.zero_le _,hR0⟩ rfl ?_ ?_ ?_
   ·simp -implicitDefEqProofs -proj only [go_sem,seval,AM,Hg]
   ·exact hall
   ·rintro ⟨i,R⟩ ⟨hi,hR⟩
    simp -implicitDefEqProofs only [Hg,H8] at hi hR
    have hall:=EQ (hnd R)
    obtain ⟨H,hH⟩:∃H,Ab (Iu b1 b2 b3 ⟨cur,f,t,ms,ss,ps⟩ R)=H:=⟨_,rfl⟩
    rw [hH] at hall
    obtain ⟨k3,k2,k1,_⟩:=id hall
    by_cases h:i<ps.length
    ·have hel:=IW h
     have hso:=(hps _ (List.getElem_mem h)).1.2.2.1
     obtain ⟨R',hw,hR'⟩:=Sc (a:=ps[i].f) (b:=ps[i].t) (more:=((IF (i:Int):Nat):Int)) hR a3 (by omega) (by omega) (by omega) (by omega) (by omega)
     rw [←AGA h a7 a8] at hR'
     generalize ps[i]=s at *
     simp -implicitDefEqProofs -proj only [go_sem,seval,Hg,H8,hH,decide_eq_true (show (i:Int)<ps.length by omega)]
     refine Ah _ (by omega) hel ?_
     simp -implicitDefEqProofs -proj only [go_sem,seval]
     refine AK (fun b5 hb5=>?_)
     replace hb5:H b5=none:=hb5
     obtain ⟨m1,m2⟩:=AI hb5 k3; obtain ⟨m3,m4⟩:=AI hb5 k2; obtain ⟨m5,m6⟩:=AI hb5 k1
     simp -implicitDefEqProofs -proj only [go_sem,seval,m1,m2,k3]
     refine Eb Qp ?_
     simp -implicitDefEqProofs -proj only [go_sem,seval,m1,m2,k3]
     refine AJ hw ?_
     simp -implicitDefEqProofs -proj only [go_sem,seval,m1,m2,k3]
     refine Ad ⟨i+1,R'⟩ ⟨by rw [Hg]; omega,hR'⟩ (by show ps.length-(i+1)<ps.length-i; omega) rfl ?_ ?_
     ·simp -implicitDefEqProofs -proj only [go_sem,seval,AM,Hg,H8,AP (show i<9223372036854775807 by omega)]
     ·simp -implicitDefEqProofs -proj only [go_sem,seval,AS,Iu,H8,m1,m2,m3,m4,m5,m6,k1,k2,n1,n2,n3,n4,n5,n6]
    ·have hi':i=ps.length:=by omega
     subst hi'
     have hz:=heq hR a3
     subst hz
     simp -implicitDefEqProofs -proj only [go_sem,seval,Hg,H8,hH,k1,k2,k3,n1,n2,n3,n4,n5,n6,decide_eq_false (show ¬(ps.length:Int)<ps.length by omega)]
     exact AH rfl
theorem Mp {c:CoreX} (hft:c.f≤c.t):FwdOK (fun d=>((Fi c d:Nat):Int)) c.f (c.t+1) (JJ c):=by
 have h:=IR c.f (KW c)
 rw [Oo,show c.f+(((c.t+1-c.f).toNat:Nat):Int)=c.t+1 by omega] at h
 refine h.congr fun x h1 h2=>?_
 unfold Iw
 rw [List.getD_eq_getElem?_getD,List.getElem?_eq_getElem (by rw [Oo]; omega)]
 simp -implicitDefEqProofs only [KW,List.getElem_map,List.getElem_range,Option.getD_some]
 rw [show c.f+(((x-c.f).toNat:Nat):Int)=x by omega]
theorem Pg {c:CoreX} {d:Int} {m:Nat} {mx:Int}:(Ht c d m mx).length=(mx+1).toNat:=by simp [Ht]
theorem Pq {c:CoreX} {d:Int} {m:Nat} {mx:Int} {q:Nat} (h:q<(mx+1).toNat):(Ht c d m mx)[q]'(by rw [Pg]; exact h)=FC c d m q:=by simp [Ht]
theorem Ja {c:CoreX} {d:Int} {k:Nat}:(Em c d k).length=k:=by simp [Em]
theorem Lr {c:CoreX} {d:Int} {k m:Nat} (h:m<k) (hm:m<c.ms.length):(Em c d k)[m]'(by rw [Ja]; exact h)=Ht c d m c.ms[m].mx:=by
 simp [Em,hm]
theorem AMs {c:CoreX} (h:fitsC c) (d:Int) {m:Nat} (hm:m<c.ms.length):EG (Ht c d m c.ms[m].mx):=by
 have hb:=(fitsC.bnd h.good).mx m hm
 refine ⟨fun e=>?_,by rw [Pg]; omega,fun v hv=>?_⟩
 ·have:=congrArg List.length e
  rw [Pg] at this
  simp at this
  omega
 ·obtain ⟨q,hq,rfl⟩:=List.mem_map.1 hv
  have hq:=List.mem_range.1 hq
  have:=P7 h d hm (q:=q) (by omega) (by omega) (Nat.le_refl c.ps.length)
  unfold FB FC
  omega
theorem L2 {c:CoreX} (h:fitsC c) (d:Int):∀l∈Em c d c.ms.length,EG l:=by
 intro l hl
 obtain ⟨i,hi,rfl⟩:=List.getElem_of_mem hl
 rw [Ja] at hi
 rw [Lr hi hi]
 exact AMs h d hi
theorem MX {i k:Nat}:(2 ^ i).testBit k=decide (k=i):=by
 rw [Nat.testBit_two_pow]
 exact decide_eq_decide.2 eq_comm
theorem ARd {i k:Nat}:(256*2 ^ i).testBit k=decide (k=8+i):=by
 rw [show 256*2 ^ i=2 ^ (8+i) by rw [Nat.pow_add],MX]
theorem PM {ss:List SumX} {d:Int} {k:Nat}:∀{i:Nat},i≤ss.length→((G4 ss d i).testBit k=true↔k<i∧∃s,ss[k]? = some s∧EO d s.f s.t)
 | 0,_=>by simp [G4]
 | i+1,h=>by
  have ih:=PM (ss:=ss) (d:=d) (k:=k) (i:=i) (by omega)
  rw [G4,Nat.testBit_or,Bool.or_eq_true,ih,List.getElem?_eq_getElem (show i<ss.length by omega)]
  simp -implicitDefEqProofs only []
  by_cases hd:ss[i].f≤d∧d≤ss[i].t
  ·rw [if_pos hd,MX,decide_eq_true_eq]
   constructor
   ·rintro (⟨h1,h2⟩ | rfl)
    ·exact ⟨by omega,h2⟩
    ·exact ⟨by omega,_,List.getElem?_eq_getElem (by omega),hd⟩
   ·rintro ⟨h1,h2⟩
    by_cases hk:k=i
    ·exact .inr hk
    ·exact .inl ⟨by omega,h2⟩
  ·rw [if_neg hd]
   simp -implicitDefEqProofs only [Nat.zero_testBit,Bool.false_eq_true,or_false]
   constructor
   ·rintro ⟨h1,h2⟩; exact ⟨by omega,h2⟩
   ·rintro ⟨h1,s,h2,h3⟩
    refine ⟨?_,s,h2,h3⟩
    by_cases hk:k=i
    ·subst hk
     rw [List.getElem?_eq_getElem (by omega)] at h2
     rw [←Option.some.inj h2] at h3
     exact absurd h3 hd
    ·omega
theorem N8 {ss:List SumX} {ps:List PartX} {d:Int} {k:Nat}:∀{i:Nat},i≤ps.length→((HU ss ps d i).testBit k=true↔(G4 ss d ss.length).testBit k=true∨8≤k∧k<8+i∧∃s,ps[k-8]? = some s∧EO d s.f s.t)
 | 0,_=>by
  rw [HU]
  exact ⟨.inl,fun h=>h.elim id (fun k=>absurd k.2.1 (by omega))⟩
 | i+1,h=>by
  have ih:=N8 (ss:=ss) (ps:=ps) (d:=d) (k:=k) (i:=i) (by omega)
  rw [HU,Nat.testBit_or,Bool.or_eq_true,ih,List.getElem?_eq_getElem (show i<ps.length by omega)]
  simp -implicitDefEqProofs only []
  by_cases hd:ps[i].f≤d∧d≤ps[i].t
  ·rw [if_pos hd,ARd,decide_eq_true_eq]
   constructor
   ·rintro ((h1 | ⟨h1,h2,h3⟩) | rfl)
    ·exact .inl h1
    ·exact .inr ⟨h1,by omega,h3⟩
    ·exact .inr ⟨by omega,by omega,_,by rw [show 8+i-8=i by omega]; exact List.getElem?_eq_getElem (by omega),hd⟩
   ·rintro (h1 | ⟨h1,h2,h3⟩)
    ·exact .inl (.inl h1)
    ·by_cases hk:k=8+i
     ·exact .inr hk
     ·exact .inl (.inr ⟨h1,by omega,h3⟩)
  ·rw [if_neg hd]
   simp -implicitDefEqProofs only [Nat.zero_testBit,Bool.false_eq_true,or_false]
   constructor
   ·rintro (h1 | ⟨h1,h2,h3⟩)
    ·exact .inl h1
    ·exact .inr ⟨h1,by omega,h3⟩
   ·rintro (h1 | ⟨h1,h2,s,h3,h4⟩)
    ·exact .inl h1
    ·refine .inr ⟨h1,?_,s,h3,h4⟩
     by_cases hk:k=8+i
     ·subst hk
      rw [show 8+i-8=i by omega,List.getElem?_eq_getElem (by omega)] at h3
      rw [←Option.some.inj h3] at h4
      exact absurd h4 hd
     ·omega
theorem PR {c:CoreX} {d:Int} {j:Nat} (h8:c.ss.length≤8) (hj:j<c.ss.length):((Fi c d).testBit j=true↔EO d c.ss[j].f c.ss[j].t):=by
 unfold Fi
 rw [N8 (Nat.le_refl _),PM (Nat.le_refl _)]
 constructor
 ·rintro (⟨_,s,h2,h3⟩ | ⟨h1,_⟩)
  ·rw [List.getElem?_eq_getElem hj] at h2
   cases h2
   exact h3
  ·omega
 ·intro h
  exact .inl ⟨hj,_,List.getElem?_eq_getElem hj,h⟩
theorem Or {c:CoreX} {d:Int} {j:Nat} (h8:c.ss.length≤8) (hj:j<c.ps.length):((Fi c d).testBit (8+j)=true↔EO d c.ps[j].f c.ps[j].t):=by
 unfold Fi
 rw [N8 (Nat.le_refl _),PM (Nat.le_refl _),show 8+j-8=j by omega,List.getElem?_eq_getElem hj]
 constructor
 ·rintro (⟨h1,_⟩ | ⟨_,_,s,h2,h3⟩)
  ·omega
  ·cases h2; exact h3
 ·intro h
  exact .inr ⟨by omega,by omega,_,rfl,h⟩
theorem Yr {c:CoreX} {d e:Int} (h8:c.ss.length≤8) (h:Fi c d=Fi c e):Ew c d=Ew c e:=by
 have h1:∀(j:Nat) (hj:j<c.ss.length),EO d c.ss[j].f c.ss[j].t↔EO e c.ss[j].f c.ss[j].t:=fun j hj=>by rw [←PR h8 hj,←PR h8 hj,h]
 have h2:∀(j:Nat) (hj:j<c.ps.length),EO d c.ps[j].f c.ps[j].t↔EO e c.ps[j].f c.ps[j].t:=fun j hj=>by rw [←Or h8 hj,←Or h8 hj,h]
 have e1:Hl c d=Hl c e:=GT fun j hj=>by
  unfold Fj
  rw [List.getElem?_eq_getElem hj]
  simp -implicitDefEqProofs only [h1 j hj]
 have e2:∀m,Hv c d m=Hv c e m:=fun m=>GT fun j hj=>by
  unfold J5
  rw [List.getElem?_eq_getElem hj]
  simp -implicitDefEqProofs only [h2 j hj]
 have e3:∀m q,FC c d m q=FC c e m q:=fun m q=>GT fun j hj=>by
  unfold GB
  rw [List.getElem?_eq_getElem hj]
  simp -implicitDefEqProofs only [h2 j hj]
 unfold Ew ES Em Ht
 simp -implicitDefEqProofs only [e1,e3,show Hv c d=Hv c e from funext e2]
theorem OO {c:CoreX} (h8:c.ss.length≤8):∀d e,c.f≤d→d<c.t+1→c.f≤e→e<c.t+1→((Fi c d:Nat):Int)=((Fi c e:Nat):Int)→Ew c d=Ew c e :=
 fun d e _ _ _ _ h=>Yr h8 (by omega)
def K0 (x:PartX) (mx:Int):List Int:=(List.range (mx+1).toNat).map fun q:Nat=>pv x q
def F3 (x:PartX) (mx:Int):List Int:=(List.range (mx+1).toNat).map fun q:Nat=>pv x q-pv x 0
theorem Vi {x:PartX} {mx:Int}:(K0 x mx).map (· + -(pv x 0))=F3 x mx:=by
 simp -implicitDefEqProofs only [K0,F3,List.map_map]
 rfl
def Kq (b3 b4:Nat) (x:PartX) (l:List Int) (y:BackY):List (Nat×Blk):=Ai 3 1 y.c y.cap (Az (l.take y.i))++[(b4,.box 51 [i64 0,.nilsl 5]),(b3,.box 40 [i64 x.me,i64 x.f,i64 x.t,i64 x.al,i64 x.bl,i64 x.ki,EM x.ts,i64 x.mo,ET x.ad])]
set_option maxRecDepth 20000 in
set_option maxHeartbeats 4000000 in
theorem Tw {c:CoreX} (hc:c.Fit) (hf:fitsC c) {x:PartX} (hx:x∈c.ps):DataW Tryz.prog AHp [Fl c,GA x] (.tup [Ev (F3 x (EZ c.ms x.me)),i64 (pv x 0),bv true]):=by
 obtain ⟨m1,m2⟩:=(fitsC.bnd hf.good).me x hx
 have hmi:x.me.toNat<c.ms.length:=by omega
 have hmx:=(fitsC.bnd hf.good).mx x.me.toNat hmi
 have hmxe:EZ c.ms x.me=c.ms[x.me.toNat].mx:=by
  unfold EZ; rw [List.getElem?_eq_getElem hmi]
 have hG:=Nn (hf.good.ps x hx)
 have hfx:=hc.ps x hx
 have helM:=Gl hmi
 have hcall:∀q:Nat,q<(EZ c.ms x.me+1).toNat→DataW Tryz.prog SL [GA x,i64 q] (.tup [i64 (pv x q),bv true]):=fun q hq=>by
  have hb:=Ip hf hx (q:=q) (by omega) (by omega)
  have:=ATs (q:=(q:Int)) hfx (by unfold Fit; omega) hG (N1 hG.ts)
  rwa [hb.1] at this
 have hbnd:∀q:Nat,q<(EZ c.ms x.me+1).toNat→0≤pv x q∧pv x q≤1152921504606846976:=fun q hq=>by
  have hb:=Ip hf hx (q:=q) (by omega) (by omega)
  exact ⟨hb.2.1,hb.2.2.2⟩
 obtain ⟨n,hn⟩:∃n:Nat,n=(EZ c.ms x.me+1).toNat:=⟨_,rfl⟩
 have hn1:c.ms[x.me.toNat].mx+1=n:=by rw [hn,hmxe]; omega
 have hn0:0<n:=by omega
 have hn2:n≤2001:=by omega
 rw [←hn] at hcall hbnd
 obtain ⟨l,hl⟩:∃l,K0 x (EZ c.ms x.me)=l:=⟨_,rfl⟩
 have hll:l.length=n:=by rw [←hl]; simp [K0,hn]
 have hlv:∀(q:Nat) (h:q<l.length),l[q]=pv x q:=fun q h=>by subst hl; simp [K0]
 have cl:EG l:=by
  refine ⟨fun e=>by rw [e] at hll; simp at hll; omega,by omega,fun v hv=>?_⟩
  obtain ⟨q,hq,rfl⟩:=List.mem_iff_getElem.1 hv
  have:=hbnd q (by omega)
  rw [hlv q hq]; unfold FB; omega
 have p0:=hbnd 0 hn0
 rw [show ((0:Nat):Int)=0 from rfl] at p0
 have cm:EG (l.map (· + -(pv x 0))):=by
  refine ⟨fun e=>cl.1 (List.map_eq_nil_iff.1 e),by rw [List.length_map]; omega,fun v hv=>?_⟩
  obtain ⟨u,hu,rfl⟩:=List.mem_map.1 hv
  obtain ⟨q,hq,rfl⟩:=List.mem_iff_getElem.1 hu
  have:=hbnd q (by omega)
  show FB (l[q] + -pv x 0)
  rw [hlv q hq]; unfold FB; omega
 have hsh:=Xl (d:=-(pv x 0)) cl (by unfold FB; omega)
 rw [if_pos cm] at hsh
 rw [←Vi,hl]
 have hof:=Sa (from':=0) (l:=l) (by omega) (by omega)
 have hcu:=Mn (l:=l) (by omega)
 rw [if_pos cl] at hcu
 have hne:l≠[]:=cl.1
 have hfst:(Az l)[0]? = some [.int .i64 (pv x 0)]:=by
  have h0:0<l.length:=by omega
  have e0:=hlv 0 h0
  rw [show ((0:Nat):Int)=0 from rfl] at e0
  rw [←e0]; simp [Az,h0]
 have hwn:IntKind.i64.wrap (0-pv x 0) = -pv x 0:=by rw [IntKind.wrap_i64]; omega
 have hw1:IntKind.i64.wrap (c.ms[x.me.toNat].mx+1)=n:=by rw [hn1,IntKind.wrap_i64]; omega
 generalize EX l=GL at *
 generalize EX (l.map (· + -pv x 0))=GM at *
 refine AX ARn (by simp) ?_
 simp -implicitDefEqProofs -proj only [go_sem,seval]
 refine AK (fun b2 hb2=>?_)
 simp -implicitDefEqProofs -proj only [go_sem,seval]
 refine AK (fun b3 hb3=>?_)
 replace hb3:upd Heap.none b2 _ b3=none:=hb3
 obtain ⟨n1,n2⟩:=AI hb3 upd_eq
 simp -implicitDefEqProofs -proj only [go_sem,seval,n1,n2]
 refine AK (fun b4 hb4=>?_)
 replace hb4:upd (upd Heap.none b2 _) b3 _ b4=none:=hb4
 obtain ⟨n3,n4⟩:=AI hb4 upd_eq
 obtain ⟨n5,n6⟩:=AI hb4 (by rw [AE n1]; exact upd_eq)
 simp -implicitDefEqProofs -proj only [go_sem,seval,n1,n2,n3,n4,n5,n6]
 refine Ah _ m1 (by rw [←Int.toNat_of_nonneg m1]; exact helM) ?_
 simp -implicitDefEqProofs -proj only [go_sem,seval,n1,n2,n3,n4,n5,n6,hw1]
 refine D9 (fun y:BackY=>y.i≤l.length∧(AT (Kq b3 b4 x l y)).Nodup) 63 (fun y=>[(3,.ptr b3 0),(4,.ptr b4 0),(7,A0 0 1 y.c y.cap (Az (l.take y.i))),(22,i64 n),(23,i64 y.i)]) (Kq b3 b4 x l) (fun y=>l.length-y.i) ⟨0,0,0⟩ ⟨Nat.zero_le _,by simp [Kq,Ai,Az,AT,n3]⟩ rfl ?_ ?_ ?_
 ·simp -implicitDefEqProofs -proj only [go_sem,seval,AM,HO,IP,IJ]
  try rfl
 ·simp -implicitDefEqProofs only [Kq,HO,IP,IJ,List.take_zero]
  simp -implicitDefEqProofs -proj only [go_sem,seval,AS,n1,n2,n3,n4,n5,n6,Az,List.map_nil,Ai]
 ·rintro ⟨i,cc,cap⟩ ⟨hi,hnd⟩
  simp -implicitDefEqProofs only [HO] at hi
  have hall:=EQ hnd
  obtain ⟨H,hH⟩:∃H,Ab (Kq b3 b4 x l ⟨i,cc,cap⟩)=H:=⟨_,rfl⟩
  rw [hH] at hall
  simp -implicitDefEqProofs only [Kq,HO,IP,IJ] at hall hnd
  obtain ⟨hrow,e4,e3,_⟩:=EF.1 hall
  by_cases hlt:i<l.length
  ·have hat:=hcall i (by omega)
   rw [←hlv i hlt] at hat
   have htk:l.take (i+1)=l.take i++[l[i]]:=List.take_succ_eq_append_getElem hlt
   have hl1:(Az (l.take i)).length=i:=by rw [rowI_len,List.length_take]; omega
   have hl2:(Az (l.take (i+1))).length=i+1:=by rw [rowI_len,List.length_take]; omega
   have hne2:Az (l.take (i+1))≠[]:=by intro e; rw [e] at hl2; simp at hl2
   generalize l[i]=v at *
   simp -implicitDefEqProofs -proj only [go_sem,seval,HO,IP,IJ,hH,e3,decide_eq_true (show (i:Int)<n by omega)]
   refine AJ hat ?_
   simp -implicitDefEqProofs -proj only [go_sem,seval]
   refine As (fun bs hs'=>?_)
   replace hs':H bs=none:=hs'
   simp -implicitDefEqProofs -proj only [go_sem,seval]
   refine Ff (xs:=Az (l.take i)) (y:=[.int .i64 v]) (t:=3) (capc:=1) [(b4,.box 51 [i64 0,.nilsl 5]),(b3,.box 40 [i64 x.me,i64 x.f,i64 x.t,i64 x.al,i64 x.bl,i64 x.ki,EM x.ts,i64 x.mo,ET x.ad])] rfl (An hs' hall) hnd (by simp -implicitDefEqProofs -proj only [go_sem,seval]) (by rw [hl1]; omega) (by rw [hl1]; omega) (fun H' c' cap' ha hk=>?_)
   rw [show Az (l.take i)++[[.int .i64 v]]=Az (l.take (i+1)) by rw [htk]; simp [Az]] at ha hk
   simp -implicitDefEqProofs -proj only [go_sem,seval]
   refine Ad ⟨i+1,c',cap'⟩ ⟨by show i+1≤l.length; omega,hk⟩ (by show l.length-(i+1)<l.length-i; omega) rfl ?_ ha
   simp -implicitDefEqProofs -proj only [go_sem,seval,AM,HO,IP,IJ,AP (show i<9223372036854775807 by omega),Ex hne2,hl1,hl2]
  ·have hi':i=l.length:=by omega
   subst hi'
   rw [List.take_length] at hrow hnd
   have hneI:Az l≠[]:=by intro e; have:=congrArg List.length e; rw [rowI_len,List.length_nil] at this; omega
   have hrc:H cc=some (.row 3 1 cap (Az l)):=by
    rw [F9 hneI] at hrow
    exact hrow.1
   obtain ⟨x1,x2⟩:¬cc=b4∧¬b4=cc:=by
    rw [F9 hneI] at hnd
    simp -implicitDefEqProofs only [AT,List.map_append,List.map_cons,List.map_nil,List.cons_append,List.nil_append,List.nodup_cons,List.mem_cons,not_or] at hnd
    exact ⟨hnd.1.1,fun e=>hnd.1.1 e.symm⟩
   simp -implicitDefEqProofs -proj only [go_sem,seval,HO,IP,IJ,hH,decide_eq_false (show ¬(l.length:Int)<n by omega),List.take_length,Ex hneI,rowI_len]
   refine Lw hof (FE (.refl _) (FE (Lf hrc rowI_len.symm) GY)) ?_
   simp -implicitDefEqProofs -proj only [go_sem,seval]
   refine AJ hcu.data ?_
   simp -implicitDefEqProofs -proj only [go_sem,seval]
   refine AK (fun b11 hb11=>?_)
   replace hb11:H b11=none:=hb11
   obtain ⟨y1,y2⟩:=AI hb11 hrc
   obtain ⟨y3,y4⟩:=AI hb11 e4
   simp -implicitDefEqProofs -proj only [go_sem,seval,y1,y2,y3,y4,hrc]
   (repeat' (with_reducible refine Ae ?_ (fun h=>?_); (focus first | decide | omega); clear h; try simp -implicitDefEqProofs -proj only [go_sem,seval,eq_self,y1,y2,y3,y4,hrc]))
   refine D5 _ hfst (by simp) ?_
   simp -implicitDefEqProofs -proj only [go_sem,seval,y1,y2,y3,y4,hrc,hwn]
   refine Eb hsh ?_
   simp -implicitDefEqProofs -proj only [go_sem,seval,y1,y2,y3,y4,hrc]
   refine AK (fun b13 hb13=>?_)
   simp -implicitDefEqProofs only [AR,y1,y2,y3,y4,↓reduceIte] at hb13
   have z11:¬b11=b13:=fun e=>by subst e; simp [y1,y2,y3,y4] at hb13
   have hb13':H b13=none:=by
    simp -implicitDefEqProofs only [z11,↓reduceIte] at hb13
    exact hb13
   obtain ⟨z1,z2⟩:=AI hb13' hrc
   obtain ⟨z3,z4⟩:=AI hb13' e4
   have z11':¬b13=b11:=fun e=>z11 e.symm
   simp -implicitDefEqProofs -proj only [go_sem,seval,y1,y2,y3,y4,hrc,z1,z2,z3,z4,z11,z11',x1,x2]
   (repeat' (with_reducible refine Ae ?_ (fun h=>?_); (focus first | decide | omega); clear h; try simp -implicitDefEqProofs -proj only [go_sem,seval,eq_self,y1,y2,y3,y4,hrc,z1,z2,z3,z4,z11,z11',x1,x2,e4]))
   refine D5 _ hfst (by simp) ?_
   simp -implicitDefEqProofs -proj only [go_sem,seval,y1,y2,y3,y4,hrc,z1,z2,z3,z4,z11,z11',x1,x2,e4]
   (repeat' (with_reducible refine Ae ?_ (fun h=>?_); (focus first | decide | omega); clear h; try simp -implicitDefEqProofs -proj only [go_sem,seval,eq_self,y1,y2,y3,y4,hrc,z1,z2,z3,z4,z11,z11',x1,x2,e4]))
   exact AH rfl
def Gx (ps:List PartX) (d:Int) (b:List Int) (j:Nat):Int:=match ps[j]? with
 | some x=>if EO d x.f x.t then pv x (bq b x.me) else 0
 | none=>0
def I2 (c:CoreX) (d:Int) (b:List Int):Int:=Hl c d+sg (Gx c.ps d b) c.ps.length
theorem Qw {l:List Int} {x:Int}:(l++[x]).sum=l.sum+x:=by simp
theorem SP {ss:List SumX} {d:Int}:∀i:Nat,(GW ss d i).sum=sg (Fj ss d) i
 | 0=>rfl
 | i+1=>by
  have ih:=SP (ss:=ss) (d:=d) i
  rw [GW,sg,Fj]
  cases e:ss[i]? with
  | none=>simp -implicitDefEqProofs only []; omega
  | some s =>
   simp -implicitDefEqProofs only []
   split
   ·rw [Qw]; omega
   ·omega
theorem P3 {ss:List SumX} {ps:List PartX} {d:Int} {b:List Int}:∀(i:Nat) (l:List Int),FQ ss ps d b i=some l→l.sum=sg (Fj ss d) ss.length+sg (Gx ps d b) i
 | 0,l,h=>by
  rw [FQ] at h
  cases h
  rw [SP]; simp [sg]
 | i+1,l,h=>by
  rw [FQ] at h
  rw [sg,Gx]
  cases e:FQ ss ps d b i with
  | none=>rw [e] at h; cases h
  | some m =>
   have ih:=P3 i m e
   rw [e] at h
   cases e2:ps[i]? with
   | none=>rw [e2] at h; cases h; simp -implicitDefEqProofs only []; omega
   | some x =>
    rw [e2] at h
    simp -implicitDefEqProofs only [] at h ⊢
    by_cases hw:EO d x.f x.t
    ·rw [if_pos hw] at h ⊢
     cases e3:GG x (bq b x.me) with
     | none=>rw [e3] at h; cases h
     | some n =>
      rw [e3] at h
      cases h
      have:pv x (bq b x.me)=n:=by unfold pv; rw [e3]; rfl
      rw [Qw,this]; omega
    ·rw [if_neg hw] at h ⊢
     cases h
     omega
theorem NE {c:CoreX} {d:Int} {m:Nat}:FC c d m 0=0:=by
 unfold FC
 have h:sg (GB c.ps d m 0) c.ps.length=sg (fun _=>0) c.ps.length:=GT fun j _=>by
  unfold GB
  split
  ·split
   ·exact Int.sub_self _
   ·rfl
  ·rfl
 rw [h,LP]
theorem SN {c:CoreX} (hme:∀x∈c.ps,0≤x.me∧x.me<(c.ms.length:Int)) (d:Int) (b:List Int):I2 c d b=ES c d+sg (fun m=>FC c d m (bq b m)) c.ms.length:=by
 unfold I2 ES
 have h1:sg (fun m=>FC c d m (bq b m)) c.ms.length=sg (fun j=>sg (fun m=>GB c.ps d m (bq b m) j) c.ms.length) c.ps.length:=by
  unfold FC
  exact N9 (g:=fun m j=>GB c.ps d m (bq b m) j) c.ps.length
 have h2:sg (Hv c d) c.ms.length=sg (fun j=>sg (fun m=>J5 c.ps d m j) c.ms.length) c.ps.length:=by
  unfold Hv
  exact N9 (g:=fun m j=>J5 c.ps d m j) c.ps.length
 have h3:sg (Gx c.ps d b) c.ps.length=sg (fun j=>sg (fun m=>J5 c.ps d m j) c.ms.length+sg (fun m=>GB c.ps d m (bq b m) j) c.ms.length) c.ps.length:=by
  refine GT fun j hj=>?_
  rw [←NV]
  unfold Gx J5 GB
  rw [List.getElem?_eq_getElem hj]
  simp -implicitDefEqProofs only []
  obtain ⟨k1,k2⟩:=hme _ (List.getElem_mem hj)
  generalize c.ps[j]=x at *
  by_cases hw:EO d x.f x.t
  ·rw [if_pos hw]
   have:sg (fun m:Nat=>(if x.me=(m:Int)∧EO d x.f x.t then pv x 0 else 0)+(if x.me=(m:Int)∧EO d x.f x.t then pv x (bq b m)-pv x 0 else 0)) c.ms.length=sg (fun m:Nat=>if m=x.me.toNat then pv x (bq b x.me) else 0) c.ms.length:=by
    refine GT fun m hm=>?_
    by_cases e:x.me=(m:Int)
    ·rw [if_pos ⟨e,hw⟩,if_pos ⟨e,hw⟩,if_pos (by omega),←e]; omega
    ·rw [if_neg (fun k=>e k.1),if_neg (fun k=>e k.1),if_neg (by omega)]; rfl
   rw [this,OF,if_pos (by omega)]
  ·rw [if_neg hw]
   have h0:sg (fun m:Nat=>(if x.me=(m:Int)∧EO d x.f x.t then pv x 0 else 0)+(if x.me=(m:Int)∧EO d x.f x.t then pv x (bq b m)-pv x 0 else 0)) c.ms.length=sg (fun _=>0) c.ms.length:=GT fun m hm=>by
    rw [if_neg (fun k=>hw k.2),if_neg (fun k=>hw k.2)]; rfl
   rw [h0,LP]
 rw [h3,NV,←h1,←h2]
 omega
theorem RT {n:Nat} {m:Nat}:bq (List.replicate n 0) (m:Int)=0:=by
 unfold bq
 rw [Int.toNat_natCast,List.getD_eq_getElem?_getD,List.getElem?_replicate]
 split <;> rfl
theorem ZF {n i m:Nat} {q:Int} (hi:i<n):bq ((List.replicate n 0).set i q) (m:Int)=if m=i then q else 0:=by
 unfold bq
 rw [Int.toNat_natCast,List.getD_eq_getElem?_getD,List.getElem?_set]
 by_cases h:i=m
 ·rw [if_pos h,if_pos h.symm,List.length_replicate,if_pos (by omega)]; rfl
 ·rw [if_neg h,if_neg (fun k=>h k.symm),List.getElem?_replicate]
  split <;> rfl
theorem SY {c:CoreX} (hme:∀x∈c.ps,0≤x.me∧x.me<(c.ms.length:Int)) (d:Int) (n:Nat):I2 c d (List.replicate n 0)=ES c d:=by
 rw [SN hme,show sg (fun m:Nat=>FC c d m (bq (List.replicate n 0) m)) c.ms.length=sg (fun _=>0) c.ms.length from GT fun m _=>by rw [RT,NE],LP]
 omega
theorem YW {c:CoreX} (hme:∀x∈c.ps,0≤x.me∧x.me<(c.ms.length:Int)) (d:Int) {n i:Nat} {q:Int} (hi:i<n) (hn:n=c.ms.length):I2 c d ((List.replicate n 0).set i q)=ES c d+FC c d i q:=by
 rw [SN hme,show sg (fun m:Nat=>FC c d m (bq ((List.replicate n 0).set i q) m)) c.ms.length=sg (fun m=>if m=i then FC c d i q else 0) c.ms.length from GT fun m _=>by
  rw [ZF hi]
  by_cases e:m=i
  ·rw [if_pos e,if_pos e,e]
  ·rw [if_neg e,if_neg e,NE],OF,if_pos (by omega)]
theorem Ps:∀{l:List Int} {a:Int},(∀v∈l,0≤v)→0≤a→a+l.sum≤9223372036854775807→Hq a l=some (a+l.sum)
 | [],a,_,_,_=>by simp [Hq]
 | x::l,a,h,h1,h2=>by
  have hx:=h x (List.mem_cons_self ..)
  have hs:0≤l.sum:=by
   have:∀l:List Int,(∀v∈l,0≤v)→0≤l.sum:=by
    intro l
    induction l with
    | nil=>intro _; simp
    | cons y l ih =>
     intro hl
     have:=ih fun v hv=>hl v (List.mem_cons_of_mem _ hv)
     have:=hl y (List.mem_cons_self ..)
     simp -implicitDefEqProofs only [List.sum_cons]; omega
   exact this l fun v hv=>h v (List.mem_cons_of_mem _ hv)
  simp -implicitDefEqProofs only [List.sum_cons] at h2 ⊢
  rw [Hq,if_pos (by unfold Fit; omega),Ps (fun v hv=>h v (List.mem_cons_of_mem _ hv)) (by omega) (by omega)]
  congr 1
  omega
theorem MP {ss:List SumX} {d:Int} (hs:∀s∈ss,0≤s.a):∀i,∀v∈GW ss d i,0≤v
 | 0,v,h=>by cases h
 | i+1,v,h=>by
  rw [GW] at h
  cases e:ss[i]? with
  | none=>rw [e] at h; exact MP hs i v h
  | some s =>
   rw [e] at h
   simp -implicitDefEqProofs only [] at h
   split at h
   ·rcases List.mem_append.1 h with h | h
    ·exact MP hs i v h
    ·rw [List.mem_singleton] at h
     subst h
     exact hs _ (List.mem_of_getElem? e)
   ·exact MP hs i v h
theorem Rl {c:CoreX} {d:Int} {b:List Int} (hf:fitsC c) (hb:Ik c b):∀i:Nat,i≤c.ps.length→∃l,FQ c.ss c.ps d b i=some l∧∀v∈l,0≤v
 | 0,_=>⟨_,rfl,MP (fun s hs=>((fitsC.bnd hf.good).amt s hs).1) _⟩
 | i+1,hi=>by
  obtain ⟨l,h1,h2⟩:=Rl hf hb (d:=d) i (by omega)
  rw [FQ,h1,List.getElem?_eq_getElem (show i<c.ps.length by omega)]
  simp -implicitDefEqProofs only []
  have hx:=List.getElem_mem (show i<c.ps.length by omega)
  obtain ⟨m1,m2⟩:=(fitsC.bnd hf.good).me _ hx
  generalize c.ps[i]'(by omega)=x at *
  split
  ·obtain ⟨hb1,hb2⟩:=hb
   have hm:x.me.toNat<c.ms.length:=by omega
   have hq:=hb2 x.me.toNat (by omega) hm
   have hbq:bq b x.me=b[x.me.toNat]:=by unfold bq; rw [List.getD_eq_getElem?_getD,List.getElem?_eq_getElem (by omega),Option.getD_some]
   have hmx:EZ c.ms x.me=c.ms[x.me.toNat].mx:=by unfold EZ; rw [List.getElem?_eq_getElem hm]
   obtain ⟨k1,k2,k3,k4⟩:=Ip hf hx (q:=bq b x.me) (by omega) (by omega)
   rw [k1]
   simp -implicitDefEqProofs only []
   refine ⟨_,rfl,fun v hv=>?_⟩
   rcases List.mem_append.1 hv with hv | hv
   ·exact h2 v hv
   ·rw [List.mem_singleton] at hv
    omega
  ·exact ⟨l,rfl,h2⟩
theorem MR {c:CoreX} (hf:fitsC c) {d:Int} {b:List Int} (hb:Ik c b) (j:Nat):0≤Gx c.ps d b j∧Gx c.ps d b j≤HP c j:=by
 have hp:=Lu (c:=c) j
 unfold HP at *
 unfold Gx
 cases e:c.ps[j]? with
 | none=>exact ⟨Int.le_refl _,Int.le_refl _⟩
 | some x =>
  have hx:=List.mem_of_getElem? e
  rw [e] at hp
  simp -implicitDefEqProofs only [] at hp ⊢
  split
  ·obtain ⟨m1,m2⟩:=(fitsC.bnd hf.good).me _ hx
   obtain ⟨hb1,hb2⟩:=hb
   have hm:x.me.toNat<c.ms.length:=by omega
   have hq:=hb2 x.me.toNat (by omega) hm
   have hbq:bq b x.me=b[x.me.toNat]:=by unfold bq; rw [List.getD_eq_getElem?_getD,List.getElem?_eq_getElem (by omega),Option.getD_some]
   have hmx:EZ c.ms x.me=c.ms[x.me.toNat].mx:=by unfold EZ; rw [List.getElem?_eq_getElem hm]
   obtain ⟨k1,k2,k3,k4⟩:=Ip hf hx (q:=bq b x.me) (by omega) (by omega)
   omega
  ·omega
theorem AJE {c:CoreX} (hf:fitsC c) {d:Int} {b:List Int} (hb:Ik c b):0≤I2 c d b∧I2 c d b≤1152921504606846976:=by
 have h1:=hf.tot c.ps.length (Nat.le_refl _)
 have h2:=I5 (n:=c.ps.length) fun j _=>(MR hf (d:=d) hb j).1
 have h3:=KF (n:=c.ps.length) fun j _=>(MR hf (d:=d) hb j).2
 have h4:=I5 (n:=c.ss.length) fun j _=>(NA hf.good d j).1
 have h5:=KF (n:=c.ss.length) fun j _=>(NA hf.good d j).2
 unfold FY at h1
 unfold I2 Hl
 omega
theorem TY {c:CoreX} (hf:fitsC c) {d:Int} {b:List Int} (hb:Ik c b):∃l,L7 c d b=some l∧Hq 0 l=some (I2 c d b):=by
 obtain ⟨l,h1,h2⟩:=Rl hf hb (d:=d) c.ps.length (Nat.le_refl _)
 have hs:=P3 _ _ h1
 have hc:=AJE hf (d:=d) hb
 have he:l.sum=I2 c d b:=hs
 refine ⟨l,h1,?_⟩
 rw [Ps h2 (Int.le_refl 0) (by omega),he]
 congr 1
 omega
theorem TD {a i:Nat} (ha:a<65536) (hi:i<16):decide (IQ .u64 (a:Int) ((2 ^ i:Nat):Int)=((2 ^ i:Nat):Int))=a.testBit i:=by
 have hp:2 ^ i<65536:=by
  calc 2 ^ i<2 ^ 16:=Nat.pow_lt_pow_right (by decide) hi
   _=65536:=rfl
 rw [ARu (by omega) (by omega),Bool.eq_iff_iff,decide_eq_true_eq]
 constructor
 ·intro h
  have h:a &&& 2 ^ i=2 ^ i:=by omega
  have h2:=congrArg (fun n=>n.testBit i) h
  simp -implicitDefEqProofs only [Nat.testBit_and,MX,decide_true,Bool.and_true] at h2
  exact h2
 ·intro h
  have:a &&& 2 ^ i=2 ^ i:=by
   refine Nat.eq_of_testBit_eq fun k=>?_
   rw [Nat.testBit_and,MX]
   by_cases e:k=i
   ·subst e; rw [h,decide_eq_true rfl]; rfl
   ·rw [decide_eq_false e,Bool.and_false]
  omega
theorem ACs {c:CoreX} {d:Int} {j:Nat} (h8:c.ss.length≤8) (hlt:Fi c d<65536) (hj:j<c.ss.length):decide (IQ .u64 ((Fi c d:Nat):Int) ((HF (j:Int):Nat):Int)=((HF (j:Int):Nat):Int))=decide (EO d c.ss[j].f c.ss[j].t):=by
 have e:HF (j:Int)=2 ^ j:=by unfold HF; rw [if_pos (by omega)]; simp
 rw [e,TD hlt (by omega)]
 rw [Bool.eq_iff_iff,decide_eq_true_eq]
 exact PR h8 hj
theorem ACd {c:CoreX} {d:Int} {j:Nat} (h8:c.ss.length≤8) (hp8:c.ps.length≤8) (hlt:Fi c d<65536) (hj:j<c.ps.length):decide (IQ .u64 ((Fi c d:Nat):Int) ((IF (j:Int):Nat):Int)=((IF (j:Int):Nat):Int))=decide (EO d c.ps[j].f c.ps[j].t):=by
 have e:IF (j:Int)=2 ^ (8+j):=by unfold IF; rw [if_pos (by omega),Nat.pow_add]; simp
 rw [e,TD hlt (by omega)]
 rw [Bool.eq_iff_iff,decide_eq_true_eq]
 exact Or h8 hj
def FH (c:CoreX) (d:Int) (m:Nat) (mx:Int) (i:Nat):List Int:=(List.range (mx+1).toNat).map fun q:Nat=>sg (GB c.ps d m q) i
def DR (c:CoreX) (d:Int) (i:Nat):List (List Int):=(List.range c.ms.length).map fun m=>FH c d m (match c.ms[m]? with | some x=>x.mx | none=>0) i
theorem HM {c:CoreX} {d:Int} {i:Nat}:(DR c d i).length=c.ms.length:=by simp [DR]
theorem Me {c:CoreX} {d:Int} {m i:Nat} (hm:m<c.ms.length):(DR c d i)[m]'(by rw [HM]; exact hm)=FH c d m c.ms[m].mx i:=by
 simp -implicitDefEqProofs only [DR,List.getElem_map,List.getElem_range]
 rw [List.getElem?_eq_getElem hm]
theorem UV {c:CoreX} {d:Int} {m:Nat} {mx:Int}:FH c d m mx 0=List.replicate (mx+1).toNat 0:=by
 refine List.ext_getElem (by simp [FH]) fun i h1 h2=>by simp [FH,sg]
theorem Ow {c:CoreX} {d:Int}:DR c d c.ps.length=Em c d c.ms.length:=rfl
theorem Sm {c:CoreX} (h:fitsC c) (d:Int) {m i:Nat} (hm:m<c.ms.length) (hi:i≤c.ps.length):EG (FH c d m c.ms[m].mx i):=by
 have hb:=(fitsC.bnd h.good).mx m hm
 refine ⟨fun e=>?_,by simp -implicitDefEqProofs only [FH,List.length_map,List.length_range]; omega,fun v hv=>?_⟩
 ·have:=congrArg List.length e
  simp -implicitDefEqProofs only [FH,List.length_map,List.length_range,List.length_nil] at this
  omega
 ·obtain ⟨q,hq,rfl⟩:=List.mem_map.1 hv
  have hq:=List.mem_range.1 hq
  have:=P7 h d hm (q:=q) (by omega) (by omega) hi
  unfold FB
  omega
theorem AGL {c:CoreX} {d:Int} {m i:Nat} {mx:Int} (hi:i<c.ps.length) (hm:c.ps[i].me=m) (hw:EO d c.ps[i].f c.ps[i].t):List.zipWith (fun u v=>u+v) (FH c d m mx i) (F3 c.ps[i] mx)=FH c d m mx (i+1):=by
 refine List.ext_getElem (by simp [FH,F3]) fun q h1 h2=>?_
 simp -implicitDefEqProofs only [List.getElem_zipWith,FH,F3,List.getElem_map,List.getElem_range,sg]
 unfold GB
 rw [List.getElem?_eq_getElem hi]
 simp -implicitDefEqProofs only []
 rw [if_pos ⟨hm,hw⟩]
theorem Se {c:CoreX} {d:Int} {m i:Nat} {mx:Int} (hi:i<c.ps.length) (h:¬(c.ps[i].me=m∧EO d c.ps[i].f c.ps[i].t)):FH c d m mx (i+1)=FH c d m mx i:=by
 unfold FH
 refine List.map_congr_left fun q _=>?_
 rw [sg]
 have:GB c.ps d m q i=0:=by
  unfold GB
  rw [List.getElem?_eq_getElem hi]
  simp -implicitDefEqProofs only []
  rw [if_neg h]
 omega
theorem AVr {c:CoreX} {d:Int} {i:Nat} (hi:i<c.ps.length) (h:¬EO d c.ps[i].f c.ps[i].t):DR c d (i+1)=DR c d i:=by
 unfold DR
 exact List.map_congr_left fun m _=>Se hi (fun e=>h e.2)
theorem WP {c:CoreX} {d:Int} {m i:Nat} (hi:i<c.ps.length) (hml:m<c.ms.length) (hm:c.ps[i].me=m):DR c d (i+1)=(DR c d i).set m (FH c d m c.ms[m].mx (i+1)):=by
 refine List.ext_getElem (by rw [List.length_set,HM,HM]) fun k h1 h2=>?_
 rw [HM] at h1
 rw [Me h1,List.getElem_set]
 by_cases e:m=k
 ·subst e
  rw [if_pos rfl]
 ·rw [if_neg e,Me h1]
  exact Se hi (fun e2=>e (by have:=e2.1; omega))
def Fb (c:CoreX) (d:Int) (i:Nat):Int:=Hl c d+sg (Gx c.ps d (List.replicate c.ms.length 0)) i
theorem ARV {c:CoreX} (hg:goodC c) {d:Int}:Fb c d c.ps.length=ES c d:=SY (fitsC.bnd hg).me d c.ms.length
theorem V1 {c:CoreX} {d:Int} {i:Nat} (hi:i<c.ps.length) (hme:0≤c.ps[i].me) (hw:EO d c.ps[i].f c.ps[i].t):Fb c d (i+1)=Fb c d i+pv c.ps[i] 0:=by
 unfold Fb
 rw [sg]
 have:Gx c.ps d (List.replicate c.ms.length 0) i=pv c.ps[i] 0:=by
  unfold Gx
  rw [List.getElem?_eq_getElem hi]
  simp -implicitDefEqProofs only []
  obtain ⟨k,hk⟩:=Int.eq_ofNat_of_zero_le hme
  rw [if_pos hw,hk,RT]
 omega
theorem ACG {c:CoreX} {d:Int} {i:Nat} (hi:i<c.ps.length) (hw:¬EO d c.ps[i].f c.ps[i].t):Fb c d (i+1)=Fb c d i:=by
 unfold Fb
 rw [sg]
 have:Gx c.ps d (List.replicate c.ms.length 0) i=0:=by
  unfold Gx
  rw [List.getElem?_eq_getElem hi]
  simp -implicitDefEqProofs only []
  rw [if_neg hw]
 omega
def Gw (l:List Int):List D:=[.int .i64 ((l.length:Int)-1),.sl 5 (FW (EX l))]
def Au (ls:List (List Int)):List (List D):=ls.map Gw
abbrev G9 (ls:List (List Int)):AV:=.d (.sl 2 (Au ls))
theorem Gb {ls:List (List Int)}:(Au ls).length=ls.length:=List.length_map ..
theorem Ke {ls:List (List Int)} {i:Nat} (h:i<ls.length):(Au ls)[((i:Int)).toNat]? = some [.int .i64 ((ls[i].length:Int)-1),.sl 5 (FW (EX ls[i]))]:=by
 rw [Int.toNat_natCast]; simp [Au,h,Gw]
def KD (s:Seg Ek):List D:=[.int .i64 s.f,.int .i64 s.t,.int .i64 s.v.1,.sl 2 (Au s.v.2)]
def EN (S:List (Seg Ek)):List (List D):=S.map KD
abbrev J9 (s:Seg Ek):AV:=.agg [i64 s.f,i64 s.t,i64 s.v.1,G9 s.v.2]
abbrev Iq (S:List (Seg Ek)):AV:=.d (.sl 4 (EN S))
theorem Jx {S:List (Seg Ek)}:(EN S).length=S.length:=List.length_map ..
theorem Mf {S:List (Seg Ek)} {i:Nat} (h:i<S.length):(EN S)[((i:Int)).toNat]? = some [.int .i64 S[i].f,.int .i64 S[i].t,.int .i64 S[i].v.1,.sl 2 (Au S[i].v.2)]:=by
 rw [Int.toNat_natCast]; simp [EN,h,KD]
theorem APj {S:List (Seg Ek)} {i:Nat} {s:Seg Ek} (h:S[i]? = some s):(EN S)[i]? = some [.int .i64 s.f,.int .i64 s.t,.int .i64 s.v.1,.sl 2 (Au s.v.2)]:=by
 simp [EN,h,KD]
theorem AJn {A:List (Seg Ek)} {s:Seg Ek} {x:Int}:(EN (A++[s])).set A.length [.int .i64 s.f,.int .i64 x,.int .i64 s.v.1,.sl 2 (Au s.v.2)]=EN (A++[⟨s.f,x,s.v⟩]):=by
 simp [EN,KD,List.set_append]
abbrev IE (cur:ByteArray) (f t:Int) (ms:List MeterX) (S:List (Seg Ek)):AV:=.agg [.d (.str cur),i64 f,i64 t,.d (.sl 5 (EK ms)),Iq S]
theorem AL8 {H:Heap} {f t x:Int} {v:AV} {ls:List (List Int)} (h:LendV H v (G9 ls)):LendV H (.agg [i64 f,i64 t,i64 x,v]) (.agg [i64 f,i64 t,i64 x,G9 ls]):=by
 refine .agg _ _ rfl fun j u v e1 e2=>?_
 match j with
 | 0=>cases e1; cases e2; exact .refl _
 | 1=>cases e1; cases e2; exact .refl _
 | 2=>cases e1; cases e2; exact .refl _
 | 3=>cases e1; cases e2; exact h
 | j+4=>cases e1
theorem AKd {H:Heap} {cur:ByteArray} {f t:Int} {v w:AV} {ms:List MeterX} {S:List (Seg Ek)} (h:LendV H v (.d (.sl 5 (EK ms)))) (h2:LendV H w (Iq S)):LendV H (.agg [.d (.str cur),i64 f,i64 t,v,w]) (IE cur f t ms S):=by
 refine .agg _ _ rfl fun j u v e1 e2=>?_
 match j with
 | 0=>cases e1; cases e2; exact .refl _
 | 1=>cases e1; cases e2; exact .refl _
 | 2=>cases e1; cases e2; exact .refl _
 | 3=>cases e1; cases e2; exact h
 | 4=>cases e1; cases e2; exact h2
 | j+5=>cases e1
theorem AED {a b:List Int} (hl:a.length=b.length) (h:EX a=EX b):a=b:=by
 refine List.ext_getElem hl fun i h1 h2=>?_
 have e1:=OB h1
 have e2:=OB h2
 rw [h,e2] at e1
 exact (Option.some.inj e1).symm
theorem Q8 {a b:List Int}:((a.length:Int)-1=(b.length:Int)-1∧EX a=EX b)↔a=b :=
 ⟨fun h=>AED (by omega) h.2,fun h=>by rw [h]; exact ⟨rfl,rfl⟩⟩
noncomputable def FZ (c:CoreX):List (Seg Ek):=Ns (JC (Ew c) ((JJ c).map (·.f)) (JJ c).length) c.t
theorem J2 {c:CoreX} (hg:goodC c):FwdB (Ew c) c.f (c.t+1) (FZ c):=by
 obtain ⟨_,⟨a3,_⟩,_,_,h8,_⟩:=hg.hd
 have:=AK9 (Mp a3) (by omega) (OO h8)
 rwa [show c.t+1-1=c.t by omega] at this
theorem Rs {H:Heap} {b6 b7:Nat} {f t fx n:Int} {cv:AV} {ok:Bool} (hne:¬b6=b7) (h6:H b6=some (.box 47 [i64 f,i64 t,i64 fx,cv])) (h7:H b7=some (.box 4 [bv ok])) (hx:Fit fx) (hn:Fit n) (hs:Fit (fx+n)):CallW Tryz.prog M5 [i64 n,.ptr b6 0,.ptr b7 0] H fun r H'=>H'=upd (upd H b6 (some (.box 47 [i64 f,i64 t,i64 (fx+n),cv]))) b7 (some (.box 4 [bv ok])):=by
 have ha:=Kr hx hn
 rw [GI hs] at ha
 have hne':¬b7=b6:=fun e=>hne e.symm
 refine AX Th (by simp) ?_
 simp -implicitDefEqProofs -proj only [go_sem,seval,h6]
 refine AJ ha ?_
 cases ok
 ·simp -implicitDefEqProofs -proj only [go_sem,seval,h6,h7,hne,hne']
 ·simp -implicitDefEqProofs -proj only [go_sem,seval,h6,h7,hne,hne']
abbrev E0 (c:CoreX):List (List Int):=c.ps.map fun x=>F3 x (EZ c.ms x.me)
abbrev FA (c:CoreX):List Int:=c.ps.map fun x=>pv x 0
abbrev Kz (c:CoreX) (kv bvs:AV):List AV:=[.d (.str c.cur),i64 c.f,i64 c.t,.d (.sl 5 (EK c.ms)),.d (.sl 3 (EL c.ss)),.d (.sl 9 (Ak c.ps)),kv,bvs]
def F5 (bm:Nat) (c:CoreX) (k1 p1 k2 p2:Nat):List (Nat×Blk):=(bm,.box 68 (Kz c (A0 2 2 k1 p1 (Au (E0 c))) (A0 1 1 k2 p2 (Az (FA c)))))::(Ai 51 2 k1 p1 (Au (E0 c))++Ai 3 1 k2 p2 (Az (FA c)))
structure SpnX where
 i:Nat
 k:Nat
 cap:Nat
theorem Fm {i c cap:Nat}:(SpnX.mk i c cap).i=i:=(rfl)
theorem Gz {i c cap:Nat}:(SpnX.mk i c cap).k=c:=(rfl)
theorem HI {i c cap:Nat}:(SpnX.mk i c cap).cap=cap:=(rfl)
abbrev GJ (b6 k cap:Nat) (f t fx:Int) (L:List (List Int)):Blk:=.box 47 [i64 f,i64 t,i64 fx,A0 2 2 k cap (Au L)]
theorem GP {H:Heap} {b:Nat} {x x':Blk}:∀{A B:List (Nat×Blk)},AS H (A++(b,x)::B)→(AT (A++(b,x)::B)).Nodup→AS (upd H b (some x')) (A++(b,x')::B)
 | [],B,h,hn=>N6 h hn
 | (k,y)::A,B,h,hn=>by
  simp -implicitDefEqProofs only [List.cons_append,AT,List.map_cons,List.nodup_cons,List.map_append,List.mem_append,List.mem_cons,not_or] at hn
  have hk:¬b=k:=fun e=>hn.1.2.1 e.symm
  refine ⟨by rw [AE hk]; exact h.1,GP h.2 (by simpa only [AT,List.map_append,List.map_cons] using hn.2)⟩
theorem AAo {c:CoreX} (hf:fitsC c) {x:PartX} (hx:x∈c.ps):EG (F3 x (EZ c.ms x.me)):=by
 have h0:=Ip hf hx (Int.le_refl 0) (MK hf.good hx)
 have hm:=MK hf.good hx
 obtain ⟨m1,m2⟩:=(fitsC.bnd hf.good).me x hx
 have hmi:x.me.toNat<c.ms.length:=by omega
 have hmx:=(fitsC.bnd hf.good).mx x.me.toNat hmi
 have hmxe:EZ c.ms x.me=c.ms[x.me.toNat].mx:=by unfold EZ; rw [List.getElem?_eq_getElem hmi]
 refine ⟨fun e=>?_,by simp -implicitDefEqProofs only [F3,List.length_map,List.length_range]; omega,fun v hv=>?_⟩
 ·have:=congrArg List.length e
  simp -implicitDefEqProofs only [F3,List.length_map,List.length_range,List.length_nil] at this
  omega
 ·obtain ⟨q,hq,rfl⟩:=List.mem_map.1 hv
  have hq:=List.mem_range.1 hq
  have hb:=Ip hf hx (q:=(q:Int)) (by omega) (by omega)
  unfold FB
  omega
theorem Wz {P:Program} {Q:Out→St→Prop} {k:List Item} {s:St} {d:Option Nat} {l:List AO} {x y:D} {b sz i j cap:Nat} {t:TypeId} {xs:List (List D)} {el:List D} (hb:s.H b=some (.row t sz cap xs)) (h:xs[i]? = some el) (hj:j+1<el.length) (hk:AQ P Q l k (AL s d .void (upd s.H b (some (.row t sz cap (xs.set i (Gc el j [x,y]))))))):Ko 2 (.agg [.d x,.d y]) b sz i j d l k s P Q:=by
 simp -implicitDefEqProofs only [Ko,Eu,Aw,A1,A2,hb]
 exact ⟨trivial,el,h,by omega,hk⟩
theorem AN9 {c:CoreX} {i:Nat} (h:i<c.ps.length):(Au (E0 c))[((i:Int)).toNat]? = some [.int .i64 (((F3 c.ps[i] (EZ c.ms c.ps[i].me)).length:Int)-1),.sl 5 (FW (EX (F3 c.ps[i] (EZ c.ms c.ps[i].me))))]:=by
 have:=Ke (ls:=E0 c) (i:=i) (by simpa using h)
 rw [this]
 simp -implicitDefEqProofs only [E0,List.getElem_map]
theorem ABX {c:CoreX} {i:Nat} (h:i<c.ps.length):(Az (FA c))[((i:Int)).toNat]? = some [.int .i64 (pv c.ps[i] 0)]:=by
 refine Ly ?_
 simp -implicitDefEqProofs only [FA]
 rw [List.getElem?_map,Int.toNat_natCast,List.getElem?_eq_getElem h]
 rfl
theorem S6 {c:CoreX} (hf:fitsC c) (d:Int) {i:Nat} (hi:i≤c.ps.length) : -2305843009213693952≤Fb c d i∧Fb c d i≤2305843009213693952:=by
 obtain ⟨⟨g1,g2⟩,⟨g3,g4⟩,g5,g6,g7,g8⟩:=hf.good.hd
 have hb:Ik c (List.replicate c.ms.length 0):=by
  refine ⟨by simp,fun m h1 h2=>?_⟩
  have:=(fitsC.bnd hf.good).mx m (by simpa using h1)
  simp -implicitDefEqProofs only [List.getElem_replicate]
  omega
 have h1:=O1 hf.good d (Nat.le_refl c.ss.length)
 have h2:sg (Gx c.ps d (List.replicate c.ms.length 0)) i≤sg (HP c) i:=KF fun j _=>(MR hf hb j).2
 have h3:0≤sg (Gx c.ps d (List.replicate c.ms.length 0)) i:=I5 fun j _=>(MR hf hb j).1
 have h4:=Pl hf hi
 unfold Fb Hl
 omega
def Fy (b3 b4 b6 b7 k cap:Nat) (f t fx:Int) (s:Int) (L:List (List Int)) (mk:List (Nat×Blk)):List (Nat×Blk) :=
 Ai 51 2 k cap (Au L)++((b7,.box 4 [bv true])::(b6,GJ b6 k cap f t fx L)::(b4,.box 47 [i64 0,i64 0,i64 0,.nilsl 2])::(b3,.box 82 [i64 f,i64 t,u64 s])::mk)
set_option maxRecDepth 20000 in
set_option maxHeartbeats 4000000 in
theorem AS6 {c:CoreX} {bm k1 p1 k2 p2:Nat} {f t:Int} {d:Int} (hc:c.Fit) (hf:fitsC c) (h8:c.ss.length≤8) (hp8:c.ps.length≤8) (h16:Fi c d<65536) (hnm:(AT (F5 bm c k1 p1 k2 p2)).Nodup) :
  CallW Tryz.prog AAH [.ptr bm 0,.agg [i64 f,i64 t,u64 ((Fi c d:Nat):Int)]] (Ab (F5 bm c k1 p1 k2 p2)) fun r H'=>∃k cap,r = .tup [.agg [i64 f,i64 t,i64 (ES c d),A0 2 2 k cap (Au (Em c d c.ms.length))],bv true]∧(∃rest,AS H' (Ai 51 2 k cap (Au (Em c d c.ms.length))++rest++F5 bm c k1 p1 k2 p2)∧(AT (Ai 51 2 k cap (Au (Em c d c.ms.length))++rest++F5 bm c k1 p1 k2 p2)).Nodup):=by
 obtain ⟨⟨g1,g2⟩,⟨g3,g4⟩,g5,g6,g7,g8⟩:=hf.good.hd
 have hmk:=EQ hnm
 obtain ⟨mk,hmkd⟩:∃mk,F5 bm c k1 p1 k2 p2=mk:=⟨_,rfl⟩
 have hbm:∀{H:Heap},AS H mk→H bm=some (.box 68 (Kz c (A0 2 2 k1 p1 (Au (E0 c))) (A0 1 1 k2 p2 (Az (FA c))))):=fun h=>by rw [←hmkd] at h; exact h.1
 rw [hmkd] at hmk hnm ⊢
 obtain ⟨H0,hH0⟩:∃H0,Ab mk=H0:=⟨_,rfl⟩
 rw [hH0] at hmk ⊢
 obtain ⟨sv,hsv⟩:∃sv:Int,((Fi c d:Nat):Int)=sv:=⟨_,rfl⟩
 rw [hsv]
 refine AX Wx (by simp) ?_
 simp -implicitDefEqProofs -proj only [go_sem,seval]
 refine AK (fun b3 hb3=>?_)
 have a3:=HK (x:=.box 82 [i64 f,i64 t,u64 sv]) hb3 hmk
 have e3:=IB (x:=.box 82 [i64 f,i64 t,u64 sv]) hb3 hmk hnm
 simp -implicitDefEqProofs -proj only [go_sem,seval]
 refine AK (fun b4 hb4=>?_)
 have a4:=HK (x:=.box 47 [i64 0,i64 0,i64 0,.nilsl 2]) hb4 a3
 have e4:=IB (x:=.box 47 [i64 0,i64 0,i64 0,.nilsl 2]) hb4 a3 e3
 replace hb4:upd H0 b3 _ b4=none:=hb4
 obtain ⟨n1,n2⟩:=AI hb4 upd_eq
 simp -implicitDefEqProofs -proj only [go_sem,seval,n1,n2]
 refine AK (fun b6 hb6=>?_)
 replace hb6:upd (upd H0 b3 _) b4 _ b6=none:=hb6
 obtain ⟨n3,n4⟩:=AI hb6 upd_eq
 obtain ⟨n5,n6⟩:=AI hb6 (by rw [AE n1]; exact upd_eq)
 simp -implicitDefEqProofs -proj only [go_sem,seval,n1,n2,n3,n4,n5,n6]
 have a6:=HK (x:=GJ b6 0 0 f t 0 []) hb6 a4
 have e6:=IB (x:=GJ b6 0 0 f t 0 []) hb6 a4 e4
 refine AK (fun b7 hb7=>?_)
 replace hb7:upd (upd (upd H0 b3 _) b4 _) b6 _ b7=none:=hb7
 have a7:=HK (x:=.box 4 [bv true]) hb7 a6
 have e7:=IB (x:=.box 4 [bv true]) hb7 a6 e6
 obtain ⟨n7,n8⟩:=AI hb7 upd_eq
 obtain ⟨n9,n10⟩:=AI hb7 (by rw [AE n3]; exact upd_eq)
 obtain ⟨n11,n12⟩:=AI hb7 (by rw [AE n5,AE n1]; exact upd_eq)
 have hbm7:=hbm a7.2.2.2.2
 simp -implicitDefEqProofs only [AR] at hbm7
 simp -implicitDefEqProofs -proj only [go_sem,seval,n1,n2,n3,n4,n5,n6,n7,n8,n9,n10,n11,n12,hbm7,E2]
 refine D9 (fun y:SpnX=>y.i≤c.ms.length∧(AT (Fy b3 b4 b6 b7 y.k y.cap f t 0 sv ((DR c d 0).take y.i) mk)).Nodup) 125 (fun y=>[(0,.ptr bm 0),(3,.ptr b3 0),(4,.ptr b4 0),(6,.ptr b6 0),(7,.ptr b7 0),(8,.fn M5 [.ptr b6 0,.ptr b7 0]),(29,.d (.sl 5 (EK c.ms))),(30,i64 c.ms.length),(31,i64 y.i)]) (fun y=>Fy b3 b4 b6 b7 y.k y.cap f t 0 sv ((DR c d 0).take y.i) mk) (fun y=>c.ms.length-y.i) ⟨0,0,0⟩ ⟨Nat.zero_le _,e7⟩ rfl ?_ ?_ ?_
 ·simp -implicitDefEqProofs -proj only [go_sem,seval,AM,Fm]
  try rfl
 ·have a7':AS _ (Fy b3 b4 b6 b7 0 0 f t 0 sv [] mk):=a7
  exact a7'
 rintro ⟨i,k,cap⟩ ⟨hi,hnd⟩
 simp -implicitDefEqProofs only [Fm] at hi
 have hall:=EQ hnd
 obtain ⟨H,hH⟩:∃H,Ab (Fy b3 b4 b6 b7 k cap f t 0 sv ((DR c d 0).take i) mk)=H:=⟨_,rfl⟩
 simp -implicitDefEqProofs only [Fm,Gz,HI] at hall hnd
 rw [hH] at hall
 simp -implicitDefEqProofs only [Fy] at hall hnd
 obtain ⟨hrow,h7,h6,h4,h3,hmkH⟩:=EF.1 hall
 have hbmH:=hbm hmkH
 by_cases hlt:i<c.ms.length
 ·have hmx:=(fitsC.bnd hf.good).mx i hlt
  have hel:=Gl hlt
  have hfl:=WB (n:=(c.ms[i].mx+1).toNat) (v:=0) (by omega) (by omega) (by decide)
  rw [show (((c.ms[i].mx+1).toNat:Nat):Int)-1=c.ms[i].mx by omega,←UV (c:=c) (d:=d) (m:=i)] at hfl
  have htk:(DR c d 0).take (i+1)=(DR c d 0).take i++[FH c d i c.ms[i].mx 0]:=by
   rw [List.take_succ_eq_append_getElem (by rw [HM]; exact hlt),Me hlt]
  have hl1:(Au ((DR c d 0).take i)).length=i:=by rw [Gb,List.length_take,HM]; omega
  generalize FH c d i c.ms[i].mx 0=lq at *
  generalize c.ms[i]=m at *
  simp -implicitDefEqProofs -proj only [go_sem,seval,Fm,Gz,HI,hH,decide_eq_true (show (i:Int)<c.ms.length by omega)]
  refine Ah _ (by omega) hel ?_
  simp -implicitDefEqProofs -proj only [go_sem,seval]
  refine AK (fun b10 hb10=>?_)
  replace hb10:H b10=none:=hb10
  have all10:=fun y=>An (y:=y) hb10 hall
  obtain ⟨y1,y2⟩:=AI hb10 h6
  simp -implicitDefEqProofs -proj only [go_sem,seval,y1,y2]
  refine AJ hfl ?_
  simp -implicitDefEqProofs -proj only [go_sem,seval,y1,y2]
  refine AK (fun b11 hb11=>?_)
  simp -implicitDefEqProofs only [AR] at hb11
  have z1:¬b10=b11:=fun e=>by subst e; simp at hb11
  have z2:¬b11=b10:=fun e=>z1 e.symm
  have hb11':H b11=none:=by simpa only [z1,↓reduceIte] using hb11
  obtain ⟨y3,y4⟩:=AI hb11' h6
  simp -implicitDefEqProofs -proj only [go_sem,seval,y1,y2,y3,y4,z1,z2,h6]
  refine As (fun bs hs=>?_)
  simp -implicitDefEqProofs only [AR,y1,y2,y3,y4,z1,z2] at hs
  have z3:¬b10=bs:=fun e=>by subst e; simp [z1,z2] at hs
  have z4:¬b11=bs:=fun e=>by subst e; simp [z1,z2] at hs
  have hbs':H bs=none:=by simpa only [z3,z4,↓reduceIte] using hs
  simp -implicitDefEqProofs -proj only [go_sem,seval,y1,y2,y3,y4,z1,z2,z3,z4]
  have hA:∀X Y Z,AS (upd (upd (upd H b10 X) b11 Y) bs Z) (Ai 51 2 k cap (Au ((DR c d 0).take i))++((b7,.box 4 [bv true])::(b6,GJ b6 k cap f t 0 ((DR c d 0).take i))::(b4,.box 47 [i64 0,i64 0,i64 0,.nilsl 2])::(b3,.box 82 [i64 f,i64 t,u64 sv])::mk)):=fun X Y Z =>
   An (by rw [AE z4,AE z3]; exact hbs') (An (by rw [AE z1]; exact hb11') (An hb10 hall))
  refine Ff (xs:=Au ((DR c d 0).take i)) (y:=Gw lq) (t:=51) (capc:=1) ((b7,.box 4 [bv true])::(b6,GJ b6 k cap f t 0 ((DR c d 0).take i))::(b4,.box 47 [i64 0,i64 0,i64 0,.nilsl 2])::(b3,.box 82 [i64 f,i64 t,u64 sv])::mk) rfl (hA _ _ _) hnd (by simp -implicitDefEqProofs -proj only [go_sem,seval]; rfl) (by rw [hl1]; omega) (by rw [hl1]; omega) (fun H' c' cap' ha hk=>?_)
  rw [show Au ((DR c d 0).take i)++[Gw lq]=Au ((DR c d 0).take (i+1)) by rw [htk]; simp [Au]] at ha hk
  have hne2:Au ((DR c d 0).take (i+1))≠[]:=by rw [htk]; simp [Au]
  have hl2:(Au ((DR c d 0).take (i+1))).length=i+1:=by rw [Gb,List.length_take,HM]; omega
  have h6':H' b6=some (GJ b6 k cap f t 0 ((DR c d 0).take i)):=(EF.1 ha).2.2.1
  simp -implicitDefEqProofs -proj only [go_sem,seval,h6']
  have hup:=GP (A:=Ai 51 2 c' cap' (Au ((DR c d 0).take (i+1)))++[(b7,.box 4 [bv true])]) (b:=b6) (x:=GJ b6 k cap f t 0 ((DR c d 0).take i)) (x':=GJ b6 c' cap' f t 0 ((DR c d 0).take (i+1))) (B:=(b4,.box 47 [i64 0,i64 0,i64 0,.nilsl 2])::(b3,.box 82 [i64 f,i64 t,u64 sv])::mk) (by simpa only [List.append_assoc,List.cons_append,List.nil_append] using ha) (by simpa only [List.append_assoc,List.cons_append,List.nil_append] using hk)
  refine Ad ⟨i+1,c',cap'⟩ ⟨by show i+1≤c.ms.length; omega,?_⟩ (by show c.ms.length-(i+1)<c.ms.length-i; omega) rfl ?_ ?_
  ·simpa only [Fy,AT,Fm,Gz,HI,List.map_append,List.map_cons,List.map_nil] using hk
  ·simp -implicitDefEqProofs -proj only [go_sem,seval,AM,Fm,Gz,HI,AP (show i<9223372036854775807 by omega)]
  ·simpa only [Fy,Fm,Gz,HI,List.append_assoc,List.cons_append,List.nil_append,GJ,Ex hne2,hl2,hl1] using hup
 have hi':i=c.ms.length:=by omega
 subst hi'
 have hL0:(DR c d 0).take c.ms.length=DR c d 0:=List.take_of_length_le (by rw [HM]; exact Nat.le_refl _)
 clear hlt hi
 simp -implicitDefEqProofs -proj only [go_sem,seval,Fm,Gz,HI,hH,decide_eq_false (show ¬(c.ms.length:Int)<c.ms.length by omega),hbmH,E9]
 rw [hL0] at hall hnd hrow h6
 refine D9 (fun i:Nat=>i≤c.ss.length) 125 (fun i=>[(0,.ptr bm 0),(3,.ptr b3 0),(4,.ptr b4 0),(6,.ptr b6 0),(7,.ptr b7 0),(8,.fn M5 [.ptr b6 0,.ptr b7 0]),(52,.d (.sl 3 (EL c.ss))),(53,i64 c.ss.length),(54,i64 i)]) (fun i=>Fy b3 b4 b6 b7 k cap f t (sg (Fj c.ss d) i) sv (DR c d 0) mk) (fun i=>c.ss.length-i) 0 (Nat.zero_le _) rfl ?_ ?_ ?_
 ·simp -implicitDefEqProofs -proj only [go_sem,seval,AM]
  try rfl
 ·exact hall
 intro i hi
 have hnd2:(AT (Fy b3 b4 b6 b7 k cap f t (sg (Fj c.ss d) i) sv (DR c d 0) mk)).Nodup:=by simpa only [Fy,AT,List.map_append,List.map_cons] using hnd
 have hall2:=EQ hnd2
 clear hall hrow h7 h6 h4 h3 hmkH hbmH hH
 obtain ⟨H,hH⟩:∃H,Ab (Fy b3 b4 b6 b7 k cap f t (sg (Fj c.ss d) i) sv (DR c d 0) mk)=H:=⟨_,rfl⟩
 rw [hH] at hall2
 simp -implicitDefEqProofs only [Fy] at hall2 hnd2
 obtain ⟨hrow,h7,h6,h4,h3,hmkH⟩:=EF.1 hall2
 have hbmH:=hbm hmkH
 by_cases hlt:i<c.ss.length
 ·have hel:=JT hlt
  have hsok:=(hf.good.ss _ (List.getElem_mem hlt)).1
  have hfs:=O1 hf.good d (i:=i) (by omega)
  have hfs2:=O1 hf.good d (i:=i+1) (by omega)
  have hsg:sg (Fj c.ss d) (i+1)=sg (Fj c.ss d) i+(if EO d c.ss[i].f c.ss[i].t then c.ss[i].a else 0):=by
   rw [sg]
   have:Fj c.ss d i=if EO d c.ss[i].f c.ss[i].t then c.ss[i].a else 0:=by
    unfold Fj; rw [List.getElem?_eq_getElem hlt]
   rw [this]
  have hhas:=TF (a:=sv) (b:=((HF (i:Int):Nat):Int))
  rw [←hsv,ACs h8 h16 hlt,hsv] at hhas
  generalize c.ss[i]=m at *
  simp -implicitDefEqProofs -proj only [go_sem,seval,hH,decide_eq_true (show (i:Int)<c.ss.length by omega)]
  refine Ah _ (by omega) hel ?_
  simp -implicitDefEqProofs -proj only [go_sem,seval]
  refine AK (fun b14 hb14=>?_)
  replace hb14:H b14=none:=hb14
  obtain ⟨y1,y2⟩:=AI hb14 h6
  obtain ⟨y3,y4⟩:=AI hb14 h7
  obtain ⟨y5,y6⟩:=AI hb14 h3
  simp -implicitDefEqProofs -proj only [go_sem,seval,y1,y2,y3,y4,y5,y6,h3]
  refine Eb SU ?_
  simp -implicitDefEqProofs -proj only [go_sem,seval]
  refine AJ hhas ?_
  by_cases hw:EO d m.f m.t
  ·rw [if_pos hw] at hsg
   simp -implicitDefEqProofs -proj only [go_sem,seval,decide_eq_true hw,y1,y2,y3,y4,y5,y6]
   refine En (Rs (f:=f) (t:=t) (fx:=sg (Fj c.ss d) i) (cv:=A0 2 2 k cap (Au (DR c d 0))) (ok:=true) (fun e=>n7 e.symm) (by simp -implicitDefEqProofs -proj only [go_sem,seval,y1]; exact h6) (by simp -implicitDefEqProofs -proj only [go_sem,seval,y3]; exact h7) (by unfold Fit; omega) (by unfold Fit; omega) (by unfold Fit; omega)) (fun r H' hk=>?_)
   subst hk
   simp -implicitDefEqProofs -proj only [go_sem,seval]
   refine Ad (i+1) (by omega) (by omega) rfl ?_ ?_
   ·simp -implicitDefEqProofs -proj only [go_sem,seval,AM,AP (show i<9223372036854775807 by omega)]
   ·rw [hsg]
    have hA:=fun y=>An (y:=y) hb14 hall2
    have hB:=fun y=>GP (A:=Ai 51 2 k cap (Au (DR c d 0))++[(b7,.box 4 [bv true])]) (b:=b6) (x':=GJ b6 k cap f t (sg (Fj c.ss d) i+m.a) (DR c d 0)) (by simpa only [List.append_assoc,List.cons_append,List.nil_append] using hA y) (by simpa only [List.append_assoc,List.cons_append,List.nil_append] using hnd2)
    have hC:=fun y=>GP (A:=Ai 51 2 k cap (Au (DR c d 0))) (b:=b7) (x:=.box 4 [bv true]) (x':=.box 4 [bv true]) (by simpa only [List.append_assoc,List.cons_append,List.nil_append] using hB y) (by simpa only [List.append_assoc,List.cons_append,List.nil_append,AT,List.map_append,List.map_cons] using hnd2)
    exact hC _
  ·rw [if_neg hw,Int.add_zero] at hsg
   simp -implicitDefEqProofs -proj only [go_sem,seval,decide_eq_false hw,y1,y2,y3,y4,y5,y6]
   refine Ad (i+1) (by omega) (by omega) rfl ?_ ?_
   ·simp -implicitDefEqProofs -proj only [go_sem,seval,AM,AP (show i<9223372036854775807 by omega)]
   ·rw [hsg]
    exact An hb14 hall2
 have hi':i=c.ss.length:=by omega
 subst hi'
 clear hlt hi
 simp -implicitDefEqProofs -proj only [go_sem,seval,hH,decide_eq_false (show ¬(c.ss.length:Int)<c.ss.length by omega),hbmH,El]
 refine D9 (fun y:SpnX=>y.i≤c.ps.length∧(AT (Fy b3 b4 b6 b7 y.k y.cap f t (Fb c d y.i) sv (DR c d y.i) mk)).Nodup) 125 (fun y=>[(0,.ptr bm 0),(3,.ptr b3 0),(4,.ptr b4 0),(6,.ptr b6 0),(7,.ptr b7 0),(8,.fn M5 [.ptr b6 0,.ptr b7 0]),(73,.d (.sl 9 (Ak c.ps))),(74,i64 c.ps.length),(75,i64 y.i)]) (fun y=>Fy b3 b4 b6 b7 y.k y.cap f t (Fb c d y.i) sv (DR c d y.i) mk) (fun y=>c.ps.length-y.i) ⟨0,k,cap⟩ ⟨Nat.zero_le _,?_⟩ rfl ?_ ?_ ?_
 ·simpa only [Fy,AT,List.map_append,List.map_cons] using hnd2
 ·simp -implicitDefEqProofs -proj only [go_sem,seval,AM,Fm]
  try rfl
 ·have e0:Fb c d 0=sg (Fj c.ss d) c.ss.length:=by unfold Fb Hl; rw [sg]; omega
  simp -implicitDefEqProofs only [Fm,Gz,HI,e0]
  exact hall2
 clear hall2 hrow h7 h6 h4 h3 hmkH hbmH hH hnd hnd2
 rintro ⟨i,k',q'⟩ ⟨hi,hnd3⟩
 simp -implicitDefEqProofs only [Fm] at hi
 have hall3:=EQ hnd3
 obtain ⟨H,hH⟩:∃H,Ab (Fy b3 b4 b6 b7 k' q' f t (Fb c d i) sv (DR c d i) mk)=H:=⟨_,rfl⟩
 simp -implicitDefEqProofs only [Fm,Gz,HI] at hall3 hnd3
 rw [hH] at hall3
 simp -implicitDefEqProofs only [Fy] at hall3 hnd3
 obtain ⟨hrow,h7,h6,h4,h3,hmkH⟩:=EF.1 hall3
 have hbmH:=hbm hmkH
 by_cases hlt:i<c.ps.length
 ·have hel:=IW hlt
  have hpok:=hf.good.ps _ (List.getElem_mem hlt)
  have hme:=(fitsC.bnd hf.good).me _ (List.getElem_mem hlt)
  have hpb:=Ip hf (List.getElem_mem hlt) (Int.le_refl 0) (MK hf.good (List.getElem_mem hlt))
  have hhas:=TF (a:=sv) (b:=((IF (i:Int):Nat):Int))
  rw [←hsv,ACd h8 hp8 h16 hlt,hsv] at hhas
  have hb3:=(AN9 hlt)
  have hb2:=(ABX hlt)
  have hcr:=AAo hf (List.getElem_mem hlt)
  have hin:=fun hw=>V1 (d:=d) hlt hme.1 hw
  have hout:=fun hw=>ACG (d:=d) hlt hw
  have hdo:=fun hw=>AVr (d:=d) hlt hw
  obtain ⟨m,hm⟩:∃m:Nat,c.ps[i].me=m:=⟨_,(Int.toNat_of_nonneg hme.1).symm⟩
  have hml:m<c.ms.length:=by omega
  have hdi:=WP (d:=d) hlt hml hm
  have hzi:=fun hw=>AGL (d:=d) (mx:=c.ms[m].mx) hlt hm hw
  have hmxe:EZ c.ms c.ps[i].me=c.ms[m].mx:=by rw [hm]; exact SO hml
  generalize c.ps[i]=x at *
  simp -implicitDefEqProofs -proj only [go_sem,seval,Fm,Gz,HI,hH,decide_eq_true (show (i:Int)<c.ps.length by omega)]
  refine Ah _ (by omega) hel ?_
  simp -implicitDefEqProofs -proj only [go_sem,seval]
  refine AK (fun b16 hb16=>?_)
  replace hb16:H b16=none:=hb16
  obtain ⟨y1,y2⟩:=AI hb16 h6
  obtain ⟨y3,y4⟩:=AI hb16 h7
  obtain ⟨y5,y6⟩:=AI hb16 h3
  obtain ⟨y7,y8⟩:=AI hb16 hbmH
  simp -implicitDefEqProofs -proj only [go_sem,seval,y1,y2,y3,y4,y5,y6,h3]
  refine Eb Qp ?_
  simp -implicitDefEqProofs -proj only [go_sem,seval]
  refine AJ hhas ?_
  by_cases hw:EO d x.f x.t
  ·have hneb:Az (FA c)≠[]:=by intro e; have:=congrArg List.length e; rw [rowI_len,List.length_nil,List.length_map] at this; omega
   have hner:Au (E0 c)≠[]:=by intro e; have:=congrArg List.length e; rw [Gb,List.length_nil,List.length_map] at this; omega
   have hned:Au (DR c d i)≠[]:=by intro e; have:=congrArg List.length e; rw [Gb,List.length_nil,HM] at this; omega
   have hlb:(Az (FA c)).length=c.ps.length:=by rw [rowI_len,List.length_map]
   have hlr:(Au (E0 c)).length=c.ps.length:=by rw [Gb,List.length_map]
   have hld:(Au (DR c d i)).length=c.ms.length:=by rw [Gb,HM]
   have hk2:H k2=some (.row 3 1 p2 (Az (FA c))):=by
    have h:=hmkH
    rw [←hmkd] at h
    have h:=(EF.1 h.2).2
    rw [F9 hneb] at h
    exact h.1
   have hk1:H k1=some (.row 51 2 p1 (Au (E0 c))):=by
    have h:=hmkH
    rw [←hmkd] at h
    have h:=(EF.1 h.2).1
    rw [F9 hner] at h
    exact h.1
   have hk':H k'=some (.row 51 2 q' (Au (DR c d i))):=by
    have h:=hrow
    rw [F9 hned] at h
    exact h.1
   obtain ⟨w1,w2⟩:=AI hb16 hk2
   obtain ⟨w3,w4⟩:=AI hb16 hk1
   obtain ⟨w5,w6⟩:=AI hb16 hk'
   rw [Ex hneb,Ex hner] at hbmH
   rw [Int.toNat_natCast] at hb2 hb3
   simp -implicitDefEqProofs -proj only [go_sem,seval,decide_eq_true hw,y1,y2,y3,y4,y5,y6,y7,y8,hbmH,hlb]
   (repeat' (with_reducible refine Ae ?_ (fun h=>?_); (focus first | decide | omega); clear h; try simp -implicitDefEqProofs -proj only [go_sem,seval,eq_self,y1,y2,y3,y4,y5,y6,y7,y8,hbmH,hlb,w1,w2,hk2]))
   refine D5 _ hb2 (by simp) ?_
   simp -implicitDefEqProofs -proj only [go_sem,seval,y1,y2,y3,y4,y5,y6,y7,y8]
   have hcN:=Sm hf d hml (i:=i) (by omega)
   have hcN2:=Sm hf d hml (i:=i+1) (by omega)
   have hf1:=S6 hf d (i:=i) (by omega)
   have hf2:=S6 hf d (i:=i+1) (by omega)
   rw [hin hw] at hf2
   rw [hmxe] at hb3 hcr
   have hlq:(FH c d m c.ms[m].mx i).length=(F3 x c.ms[m].mx).length:=by simp [FH,F3]
   have hlq2:(FH c d m c.ms[m].mx i).length=(FH c d m c.ms[m].mx (i+1)).length:=by simp [FH]
   have hsum:=AJz hcN hcr hlq (hzi hw) hcN2
   have hbd:(Au (DR c d i))[m]? = some (Gw (FH c d m c.ms[m].mx i)):=by
    have:=Ke (ls:=DR c d i) (i:=m) (by rw [HM]; exact hml)
    rw [Int.toNat_natCast,Me hml] at this
    exact this
   have hset:(Au (DR c d i)).set m (Gw (FH c d m c.ms[m].mx (i+1)))=Au (DR c d (i+1)):=by
    rw [hdi]; simp -implicitDefEqProofs only [Au,List.map_set]
   generalize FH c d m c.ms[m].mx i=lA at *
   generalize FH c d m c.ms[m].mx (i+1)=lS at *
   generalize F3 x c.ms[m].mx=lB at *
   refine En (Rs (f:=f) (t:=t) (fx:=Fb c d i) (cv:=A0 2 2 k' q' (Au (DR c d i))) (ok:=true) (fun e=>n7 e.symm) (by simp -implicitDefEqProofs -proj only [go_sem,seval,y1]; exact h6) (by simp -implicitDefEqProofs -proj only [go_sem,seval,y3]; exact h7) (by unfold Fit; omega) (by unfold Fit; omega) (by unfold Fit; omega)) (fun r H2 hk=>?_)
   have hA:=fun y=>An (y:=y) hb16 hall3
   have hB:=fun y=>GP (A:=Ai 51 2 k' q' (Au (DR c d i))++[(b7,.box 4 [bv true])]) (b:=b6) (x':=GJ b6 k' q' f t (Fb c d i+pv x 0) (DR c d i)) (by simpa only [List.append_assoc,List.cons_append,List.nil_append] using hA y) (by simpa only [List.append_assoc,List.cons_append,List.nil_append] using hnd3)
   have hC:AS H2 (Ai 51 2 k' q' (Au (DR c d i))++((b7,.box 4 [bv true])::(b6,GJ b6 k' q' f t (Fb c d i+pv x 0) (DR c d i))::(b4,.box 47 [i64 0,i64 0,i64 0,.nilsl 2])::(b3,.box 82 [i64 f,i64 t,u64 sv])::mk)):=by
    have hh:=fun y=>GP (A:=Ai 51 2 k' q' (Au (DR c d i))) (b:=b7) (x:=.box 4 [bv true]) (x':=.box 4 [bv true]) (by simpa only [List.append_assoc,List.cons_append,List.nil_append] using hB y) (by simpa only [List.append_assoc,List.cons_append,List.nil_append,AT,List.map_append,List.map_cons] using hnd3)
    rw [hk]
    exact hh _
   have h16':H2 b16=some (.box 40 [i64 x.me,i64 x.f,i64 x.t,i64 x.al,i64 x.bl,i64 x.ki,EM x.ts,i64 x.mo,ET x.ad]):=by
    rw [hk,AE y4,AE y2]; simp -implicitDefEqProofs -proj only [go_sem,seval]
   clear hk hA hB
   obtain ⟨hrow',h7',h6',h4',h3',hmkH'⟩:=EF.1 hC
   have hbm':=hbm hmkH'
   have hk1':H2 k1=some (.row 51 2 p1 (Au (E0 c))):=by
    have h:=hmkH'
    rw [←hmkd] at h
    have h:=(EF.1 h.2).1
    rw [F9 hner] at h
    exact h.1
   have hk2':H2 k'=some (.row 51 2 q' (Au (DR c d i))):=by
    have h:=hrow'
    rw [F9 hned] at h
    exact h.1
   rw [Ex hneb,Ex hner] at hbm'
   simp -implicitDefEqProofs only [GJ] at h6'
   rw [Ex hned] at h6'
   rw [hm] at h16'
   simp -implicitDefEqProofs -proj only [go_sem,seval,h6',h16',hbm',hlr,hld]
   (repeat' (with_reducible refine Ae ?_ (fun h=>?_); (focus first | decide | omega); clear h; try simp -implicitDefEqProofs -proj only [go_sem,seval,eq_self,h6',h16',hbm',hlr,hld,hk1',hk2']))
   refine D8 (Gw lA) hbd (by simp [Gw]) ?_
   simp -implicitDefEqProofs -proj only [go_sem,seval,Gw,h6',h16',hbm',hlr,hld]
   (repeat' (with_reducible refine Ae ?_ (fun h=>?_); (focus first | decide | omega); clear h; try simp -implicitDefEqProofs -proj only [go_sem,seval,eq_self,h6',h16',hbm',hlr,hld,hk1',hk2']))
   refine D8 _ hb3 (by simp) ?_
   simp -implicitDefEqProofs -proj only [go_sem,seval,h6',h16',hbm',hlr,hld]
   refine Eb hsum ?_
   simp -implicitDefEqProofs -proj only [go_sem,seval,h6',h16',hbm',hlr,hld]
   refine AK (fun b17 hb17=>?_)
   replace hb17:H2 b17=none:=hb17
   obtain ⟨u1,u2⟩:=AI hb17 h6'
   obtain ⟨u3,u4⟩:=AI hb17 h7'
   obtain ⟨u5,u6⟩:=AI hb17 h16'
   obtain ⟨u7,u8⟩:=AI hb17 hk2'
   simp -implicitDefEqProofs -proj only [go_sem,seval,h6',h16',hbm',hlr,hld,u1,u2,u3,u4,u5,u6,u7,u8]
   (repeat' (with_reducible refine Ae ?_ (fun h=>?_); (focus first | decide | omega); clear h; try simp -implicitDefEqProofs -proj only [go_sem,seval,eq_self,h6',h7',h16',hbm',hlr,hld,hk1',hk2',u1,u2,u3,u4,u5,u6,u7,u8]))
   refine Wz (cap:=q') (t:=51) (xs:=Au (DR c d i)) (el:=Gw lA) (by simp -implicitDefEqProofs -proj only [go_sem,seval,u7,u8]; exact hk2') (by rw [Int.toNat_natCast]; exact hbd) (by simp [Gw]) ?_
   have v1:¬k'=b7:=fun e=>by
    rw [e] at hk2'; rw [hk2'] at h7'; cases h7'
   have v2:¬b7=k':=fun e=>v1 e.symm
   simp -implicitDefEqProofs -proj only [go_sem,seval,u1,u2,u3,u4,u5,u6,u7,u8,h7',v1,v2]
   have hned2:Au (DR c d (i+1))≠[]:=by intro e; have:=congrArg List.length e; rw [Gb,List.length_nil,HM] at this; omega
   have hld2:(Au (DR c d (i+1))).length=c.ms.length:=by rw [Gb,HM]
   have hnd4:(AT ((k',Blk.row 51 2 q' (Au (DR c d i)))::(b7,.box 4 [bv true])::(b6,GJ b6 k' q' f t (Fb c d i+pv x 0) (DR c d i))::(b4,.box 47 [i64 0,i64 0,i64 0,.nilsl 2])::(b3,.box 82 [i64 f,i64 t,u64 sv])::mk)).Nodup:=by
    have h:=hnd3
    rw [F9 hned] at h
    simpa only [AT,List.map_cons,List.cons_append,List.nil_append] using h
   have hD:=fun y=>An (y:=y) hb17 hC
   rw [F9 hned] at hD
   have hE:=fun y=>GP (A:=[]) (b:=k') (x':=Blk.row 51 2 q' (Au (DR c d (i+1)))) (hD y) hnd4
   have hF:=fun y=>GP (A:=[(k',Blk.row 51 2 q' (Au (DR c d (i+1))))]) (b:=b7) (x:=.box 4 [bv true]) (x':=.box 4 [bv true]) (hE y) (by simpa only [AT,List.map_cons,List.cons_append,List.nil_append] using hnd4)
   refine Ad ⟨i+1,k',q'⟩ ⟨by show i+1≤c.ps.length; omega,?_⟩ (by show c.ps.length-(i+1)<c.ps.length-i; omega) rfl ?_ ?_
   ·simp -implicitDefEqProofs only [Fy,Fm,Gz,HI]
    rw [F9 hned2]
    simpa only [AT,List.map_cons,List.cons_append,List.nil_append] using hnd4
   ·simp -implicitDefEqProofs -proj only [go_sem,seval,AM,Fm,AP (show i<9223372036854775807 by omega)]
   ·simp -implicitDefEqProofs only [Fy,Fm,Gz,HI,hin hw]
    rw [F9 hned2]
    simp -implicitDefEqProofs only [GJ,Ex hned2,hld2]
    simp -implicitDefEqProofs only [GJ,Ex hned,hld] at hF
    have hG:=hF (some (.box 51 [i64 ((lS.length:Int)-1),Fp (EX lS)]))
    simp -implicitDefEqProofs only [←hset] at hG ⊢
    exact hG
  ·simp -implicitDefEqProofs -proj only [go_sem,seval,decide_eq_false hw,y1,y2,y3,y4,y5,y6]
   refine Ad ⟨i+1,k',q'⟩ ⟨by show i+1≤c.ps.length; omega,?_⟩ (by show c.ps.length-(i+1)<c.ps.length-i; omega) rfl ?_ ?_
   ·simpa only [Fy,Fm,Gz,HI,AT,List.map_append,List.map_cons,hdo hw] using hnd3
   ·simp -implicitDefEqProofs -proj only [go_sem,seval,AM,Fm,AP (show i<9223372036854775807 by omega)]
   ·simp -implicitDefEqProofs only [Fm,Gz,HI,hout hw,hdo hw]
    exact An hb16 hall3
 ·have hi':i=c.ps.length:=by omega
  subst hi'
  have z1:¬b4=b6:=n4
  have z2:¬b6=b4:=n3
  simp -implicitDefEqProofs -proj only [go_sem,seval,Fm,Gz,HI,hH,decide_eq_false (show ¬(c.ps.length:Int)<c.ps.length by omega),h6,h7,h4,n1,n2,n3,n4,n5,n6,n7,n8,n9,n10,n11,n12]
  (repeat' (with_reducible refine Ae ?_ (fun h=>?_); (focus first | decide | omega); clear h; try simp -implicitDefEqProofs -proj only [go_sem,seval,eq_self,h6,h7,h4,n1,n2,n3,n4,n5,n6,n7,n8,n9,n10,n11,n12]))
  refine ⟨k',q',?_,[(b7,.box 4 [bv true]),(b6,GJ b6 k' q' f t (Fb c d c.ps.length) (DR c d c.ps.length)),(b4,.box 47 [i64 f,i64 t,i64 (Fb c d c.ps.length),A0 2 2 k' q' (Au (DR c d c.ps.length))]),(b3,.box 82 [i64 f,i64 t,u64 sv])],?_,?_⟩
  ·rw [ARV hf.good,Ow]
  ·rw [←Ow]
   have hup:=GP (A:=Ai 51 2 k' q' (Au (DR c d c.ps.length))++[(b7,.box 4 [bv true]),(b6,GJ b6 k' q' f t (Fb c d c.ps.length) (DR c d c.ps.length))]) (b:=b4) (x:=.box 47 [i64 0,i64 0,i64 0,.nilsl 2]) (x':=.box 47 [i64 f,i64 t,i64 (Fb c d c.ps.length),A0 2 2 k' q' (Au (DR c d c.ps.length))]) (B:=(b3,.box 82 [i64 f,i64 t,u64 sv])::mk) (by simpa only [List.append_assoc,List.cons_append,List.nil_append] using hall3) (by simpa only [List.append_assoc,List.cons_append,List.nil_append] using hnd3)
   simpa only [List.append_assoc,List.cons_append,List.nil_append] using hup
  ·rw [←Ow]
   simpa only [AT,List.map_append,List.map_cons,List.append_assoc,List.cons_append,List.nil_append,List.map_nil] using hnd3
theorem Yt {a b:List (List Int)} (ha:∀l∈a,EG l) (hb:∀l∈b,EG l) (hla:a.length≤1000000) (hlb:b.length≤1000000):DataW Tryz.prog AHv [G9 a,G9 b,.fn PS []] (bv (decide (a=b))):=by
 refine AX YJ (by simp) ?_
 by_cases hl:a.length=b.length
 rotate_left
 ·simp -implicitDefEqProofs -proj only [go_sem,seval,Gb,decide_eq_false (show ¬(a.length:Int)=b.length by omega)]
  exact AH (by rw [decide_eq_false (fun e=>hl (by rw [e]))])
 simp -implicitDefEqProofs -proj only [go_sem,seval,Gb,decide_eq_true (show (a.length:Int)=b.length by omega)]
 refine D9 (fun i:Nat=>i≤a.length∧∀(j:Nat) (h:j<a.length) (h2:j<b.length),j<i→a[j]=b[j]) 32 (fun i=>[(0,G9 a),(1,G9 b),(2,.fn PS []),(15,G9 a),(16,i64 a.length),(17,i64 i)]) (fun _=>[]) (fun i=>a.length-i) 0 ⟨Nat.zero_le _,fun j _ _ h=>absurd h (Nat.not_lt_zero _)⟩ rfl ?_ ?_ ?_
 ·simp -implicitDefEqProofs -proj only [go_sem,seval,AM]
  try simp [hl]
 ·simp -implicitDefEqProofs -proj only [go_sem,seval,AS]
 ·rintro i ⟨hi,hat⟩
  by_cases h:i<a.length
  ·have h':i<b.length:=by omega
   have e1:=Ke h
   have e2:=Ke h'
   have ca:=ha _ (List.getElem_mem h)
   have cb:=hb _ (List.getElem_mem h')
   have hst:=fun (e:a[i]=b[i])=>HL (l:=List.range a.length) (P:=fun j _=>∀(h:j<a.length) (h2:j<b.length),a[j]=b[j]) (i:=i) (x:=i) (by simp [h]) (fun j hj hji=>fun h1 h2=>hat j h1 h2 hji) (fun _ _=>e)
   have hne:=fun (e:¬a[i]=b[i])=>show ¬a=b from fun k=>e (by subst k; rfl)
   have hcall:=SE (m:=(a[i].length:Int)-1) (n:=(b[i].length:Int)-1) (a:=EX a[i]) (b:=EX b[i]) (by have:=@J0 a[i]; have:=ca.2.1; omega) (by have:=@J0 b[i]; have:=cb.2.1; omega)
   rw [show decide ((a[i].length:Int)-1=(b[i].length:Int)-1∧EX a[i]=EX b[i])=decide (a[i]=b[i]) from decide_eq_decide.2 Q8] at hcall
   generalize a[i]=x at *
   generalize b[i]=y at *
   simp -implicitDefEqProofs -proj only [go_sem,seval,decide_eq_true (show (i:Int)<a.length by omega)]
   refine Ah _ (by omega) e1 ?_
   simp -implicitDefEqProofs -proj only [go_sem,seval]
   refine AK (fun b8 hb8=>?_)
   simp -implicitDefEqProofs -proj only [go_sem,seval]
   refine Ah _ (by omega) e2 ?_
   simp -implicitDefEqProofs -proj only [go_sem,seval]
   refine AK (fun b9 hb9=>?_)
   simp -implicitDefEqProofs only [AR] at hb9
   have n1:¬b8=b9:=fun e=>by subst e; simp at hb9
   have n2:¬b9=b8:=fun e=>n1 e.symm
   simp -implicitDefEqProofs -proj only [go_sem,seval,n1,n2]
   refine AJ hcall ?_
   by_cases hp:x=y
   ·simp -implicitDefEqProofs -proj only [go_sem,seval,decide_eq_true hp]
    refine Ad (i+1) ⟨by omega,fun j h1 h2 hj=>hst hp j (by simpa using h1) (by omega) h1 h2⟩ (by omega) rfl ?_ trivial
    simp -implicitDefEqProofs -proj only [go_sem,seval,AM,AP (show i<9223372036854775807 by omega)]
   ·simp -implicitDefEqProofs -proj only [go_sem,seval,decide_eq_false hp]
    exact AH (by rw [decide_eq_false (hne hp)])
  ·have hi':i=a.length:=by omega
   subst hi'
   simp -implicitDefEqProofs -proj only [go_sem,seval,decide_eq_false (show ¬(a.length:Int)<a.length by omega)]
   exact AH (by rw [decide_eq_true (List.ext_getElem hl fun j h1 h2=>hat j h1 h2 h1)])
theorem QN {a b:Seg Ek} (ha:∀l∈a.v.2,EG l) (hb:∀l∈b.v.2,EG l) (hla:a.v.2.length≤1000000) (hlb:b.v.2.length≤1000000):DataW Tryz.prog AJb [J9 a,J9 b] (bv (decide (a.v=b.v))):=by
 have h1:=Yt ha hb hla hlb
 obtain ⟨f,t,⟨x,la⟩⟩:=a
 obtain ⟨g,u,⟨y,lb⟩⟩:=b
 simp -implicitDefEqProofs only [] at h1 ⊢
 refine AX WL (by simp) ?_
 simp -implicitDefEqProofs -proj only [go_sem,seval]
 refine AK (fun b2 hb2=>?_)
 simp -implicitDefEqProofs -proj only [go_sem,seval]
 refine AK (fun b3 hb3=>?_)
 replace hb3:upd Heap.none b2 _ b3=none:=hb3
 obtain ⟨n1,n2⟩:=AI hb3 upd_eq
 by_cases hxy:x=y
 ·simp -implicitDefEqProofs -proj only [go_sem,seval,n1,n2,decide_eq_true hxy]
  refine AJ h1 ?_
  simp -implicitDefEqProofs -proj only [go_sem,seval]
  exact AH (by rw [decide_eq_decide.2 (show (x,la)=(y,lb)↔la=lb from ⟨fun e=>(Prod.mk.inj e).2,fun e=>by rw [hxy,e]⟩)])
 ·simp -implicitDefEqProofs -proj only [go_sem,seval,n1,n2,decide_eq_false hxy]
  exact AH (by rw [decide_eq_false (fun e=>hxy (Prod.mk.inj e).1)])
theorem AKu {a b:List (List Int)} (hl:a.length=b.length) (h:∀(i:Nat) (h1:i<a.length) (h2:i<b.length),a[i]=b[i]):a=b:=List.ext_getElem hl h
theorem AHC {a b:Seg Ek} (ha:∀l∈a.v.2,EG l) (hb:∀l∈b.v.2,EG l) (hla:a.v.2.length≤1000000) (hlb:b.v.2.length≤1000000):DataW Tryz.prog AQ1 [J9 a,J9 b] (bv (decide (a.v=b.v))):=by
 obtain ⟨af,at',x,A⟩:=a
 obtain ⟨bf,bt',y,B⟩:=b
 simp -implicitDefEqProofs only [] at ha hb hla hlb
 refine AX AA9 (by simp) ?_
 simp -implicitDefEqProofs -proj only [go_sem,seval]
 refine AK (fun b2 hb2=>?_)
 simp -implicitDefEqProofs -proj only [go_sem,seval]
 refine AK (fun b3 hb3=>?_)
 replace hb3:upd Heap.none b2 _ b3=none:=hb3
 obtain ⟨n1,n2⟩:=AI hb3 upd_eq
 by_cases g1:x=y
 rotate_left
 ·simp -implicitDefEqProofs -proj only [go_sem,seval,n1,n2,decide_eq_false g1,Bool.not_false]
  exact AH (by rw [decide_eq_false (fun k=>g1 (Prod.mk.inj k).1)])
 by_cases g2:A.length=B.length
 rotate_left
 ·simp -implicitDefEqProofs -proj only [go_sem,seval,n1,n2,decide_eq_true g1,Bool.not_true,Gb,decide_eq_false (show ¬(A.length:Int)=B.length by omega),Bool.not_false]
  exact AH (by rw [decide_eq_false (fun k=>g2 (by rw [(Prod.mk.inj k).2]))])
 simp -implicitDefEqProofs -proj only [go_sem,seval,n1,n2,decide_eq_true g1,Bool.not_true,Gb,decide_eq_true (show (A.length:Int)=B.length by omega)]
 refine D9 (fun i:Nat=>i≤A.length∧∀(j:Nat) (h:j<A.length) (h2:j<B.length),j<i→A[j]=B[j]) 39 (fun i=>[(2,.ptr b2 0),(3,.ptr b3 0),(22,i64 A.length),(23,i64 i)]) (fun _=>[(b3,.box 47 [i64 bf,i64 bt',i64 y,G9 B]),(b2,.box 47 [i64 af,i64 at',i64 x,G9 A])]) (fun i=>A.length-i) 0 ⟨Nat.zero_le _,fun j _ _ h=>absurd h (Nat.not_lt_zero _)⟩ rfl ?_ ?_ ?_
 ·simp -implicitDefEqProofs -proj only [go_sem,seval,AM,Gb]
 ·exact ⟨upd_eq,(AE n1).trans upd_eq,trivial⟩
 ·rintro i ⟨hi,hs⟩
  have hk:AS (Ab [(b3,.box 47 [i64 bf,i64 bt',i64 y,G9 B]),(b2,.box 47 [i64 af,i64 at',i64 x,G9 A])]) [(b3,.box 47 [i64 bf,i64 bt',i64 y,G9 B]),(b2,.box 47 [i64 af,i64 at',i64 x,G9 A])]:=EQ (by simp [AT,n1])
  obtain ⟨k3,k2,_⟩:=id hk
  by_cases h:i<A.length
  ·have h2:i<B.length:=by omega
   have e1:=Ke h
   have e2:=Ke h2
   have hca:=ha _ (List.getElem_mem h)
   have hcb:=hb _ (List.getElem_mem h2)
   have hno:A[i]≠B[i]→(x,A)≠(y,B):=fun hn k=>hn (by
    have:=(Prod.mk.inj k).2
    subst this; rfl)
   have hgo:A[i]=B[i]→∀(j:Nat) (h:j<A.length) (h2:j<B.length),j<i+1→A[j]=B[j]:=fun he j h1 h2 h3=>by
    by_cases hj:j=i
    ·subst hj; exact he
    ·exact hs j h1 h2 (by omega)
   generalize A[i]=l at *
   generalize B[i]=m at *
   have hla':(EX l).length≤1000000:=by have:=@J0 l; have:=hca.2.1; omega
   have hlb':(EX m).length≤1000000:=by have:=@J0 m; have:=hcb.2.1; omega
   have hcall:=UE (m:=(l.length:Int)-1) (n:=(m.length:Int)-1) hla' hlb'
   rw [show decide ((l.length:Int)-1=(m.length:Int)-1∧EX l=EX m)=decide (l=m) from decide_eq_decide.2 Q8] at hcall
   simp -implicitDefEqProofs -proj only [go_sem,seval,k3,k2,n1,n2,decide_eq_true (show (i:Int)<A.length by omega)]
   refine Ah _ (by omega) e1 ?_
   simp -implicitDefEqProofs -proj only [go_sem,seval,k3,k2,n1,n2]
   refine Ah _ (by omega) e2 ?_
   simp -implicitDefEqProofs -proj only [go_sem,seval,k3,k2,n1,n2]
   refine AJ hcall ?_
   by_cases c:l=m
   ·simp -implicitDefEqProofs -proj only [go_sem,seval,decide_eq_true c,Bool.not_true]
    refine Ad (i+1) ⟨by omega,hgo c⟩ (by show A.length-(i+1)<A.length-i; omega) rfl ?_ hk
    simp -implicitDefEqProofs -proj only [go_sem,seval,AM,AP (show i<9223372036854775807 by omega)]
   ·simp -implicitDefEqProofs -proj only [go_sem,seval,decide_eq_false c,Bool.not_false]
    exact AH (by rw [decide_eq_false (hno c)])
  ·have hi':i=A.length:=by omega
   subst hi'
   simp -implicitDefEqProofs -proj only [go_sem,seval,decide_eq_false (show ¬(A.length:Int)<A.length by omega)]
   exact AH (by rw [decide_eq_true (show (x,A)=(y,B) by rw [g1,AKu g2 fun j h1 h2=>hs j h1 h2 h1])])
section
variable {P:Program} {Q:Out→St→Prop} {k:List Item} {s:St} {d:Option Nat} {l:List AO}
theorem ANf {e:TypeId} {sz bytes b len cap:Nat} {z:List AV} {xs ys:List (List D)} (hb:s.H b=some (.row e sz cap xs)) (hlb:len=xs.length) (hz:z.length=sz) (hbd:(xs.length+ys.length)*bytes≤140737488355328∧xs.length+ys.length≤maxLen)
  (hk:∀b' cap' H',H' b'=some (.row e sz cap' (xs++ys))→(∀k x,s.H k=some x→¬k=b→H' k=some x∧¬k=b'∧¬b'=k)→AQ P Q l k (AL s d (.own b' sz 0 (len+ys.length) cap') H')):IC e sz bytes z (.own b sz 0 len cap) (.d (.sl sz ys)) d l k s P Q:=by
 by_cases h:ys=[]
 ·subst h
  refine Zi hz ?_
  have:=hk b cap s.H (by rw [List.append_nil]; exact hb) (fun k x h1 h2=>⟨h1,h2,fun e=>h2 e.symm⟩)
  simpa using this
 ·refine ATK (len:=0) hb hlb h hz hbd (fun b' cap' hb'=>hk b' cap' _ upd_eq (fun k x h1 h2=>?_))
  have hne:¬k=b':=by
   rintro rfl
   rw [AE (fun e=>h2 e.symm),h1] at hb'
   cases hb'
  exact ⟨by rw [AE (fun e=>hne e.symm),AE (fun e=>h2 e.symm)]; exact h1,hne,fun e=>hne e.symm⟩
end
theorem AJZ {ms:List MeterX} (hl:ms.length≤1000000):DataW Tryz.prog AN3 [.d (.sl 5 (EK ms))] (.d (.sl 5 (EK ms))):=by
 refine AX AGl (by simp) ?_
 simp -implicitDefEqProofs -proj only [go_sem,seval]
 refine AA0 ?_ (fun h0=>?_)
 ·simp -implicitDefEqProofs -proj only [go_sem,seval]
  refine As (fun bs hs=>?_)
  simp -implicitDefEqProofs -proj only [go_sem,seval]
  refine ANf (xs:=[]) (ys:=EK ms) (cap:=0) (e:=42) (by simp -implicitDefEqProofs -proj only [go_sem,seval]) rfl rfl (by rw [E2]; simp [maxLen]; omega) (fun b' cap' H' h1 h2=>?_)
  simp -implicitDefEqProofs -proj only [go_sem,seval]
  rw [List.nil_append] at h1
  have:=LendV.own b' 5 cap' 42 cap' (EK ms) h1
  simpa only [List.length_nil,Nat.zero_add] using this
 ·simp -implicitDefEqProofs -proj only [go_sem,seval]
  rw [h0]
  exact .nilsl _ _
theorem APC {a b:Seg Ek} (ha:∀l∈a.v.2,EG l) (hb:∀l∈b.v.2,EG l) (hla:a.v.2.length≤1000000) (hlb:b.v.2.length≤1000000):DataW Tryz.prog OE [J9 a,J9 b] (bv (decide (a.f=b.f∧a.t=b.t∧a.v=b.v))):=by
 have h1:=QN ha hb hla hlb
 obtain ⟨f,t,⟨x,la⟩⟩:=a
 obtain ⟨g,u,⟨y,lb⟩⟩:=b
 simp -implicitDefEqProofs only [] at h1 ⊢
 refine AX UH (by simp) ?_
 simp -implicitDefEqProofs -proj only [go_sem,seval]
 refine AK (fun b2 hb2=>?_)
 simp -implicitDefEqProofs -proj only [go_sem,seval]
 refine AK (fun b3 hb3=>?_)
 replace hb3:upd Heap.none b2 _ b3=none:=hb3
 obtain ⟨n1,n2⟩:=AI hb3 upd_eq
 by_cases hf:f=g
 ·by_cases ht:t=u
  ·simp -implicitDefEqProofs -proj only [go_sem,seval,n1,n2,decide_eq_true hf,decide_eq_true ht]
   refine AJ h1 ?_
   simp -implicitDefEqProofs -proj only [go_sem,seval]
   exact AH (by rw [decide_eq_decide.2 (show (f=g∧t=u∧(x,la)=(y,lb))↔(x,la)=(y,lb) from ⟨fun e=>e.2.2,fun e=>⟨hf,ht,e⟩⟩)])
  ·simp -implicitDefEqProofs -proj only [go_sem,seval,n1,n2,decide_eq_true hf,decide_eq_false ht]
   exact AH (by rw [decide_eq_false (fun e=>ht e.2.1)])
 ·simp -implicitDefEqProofs -proj only [go_sem,seval,n1,n2,decide_eq_false hf]
  exact AH (by rw [decide_eq_false (fun e=>hf e.1)])
theorem OA {a b:Seg Ek}:(a.f=b.f∧a.t=b.t∧a.v=b.v)↔a=b:=by
 obtain ⟨f,t,v⟩:=a
 obtain ⟨g,u,w⟩:=b
 simp -implicitDefEqProofs only [Seg.mk.injEq]
def Is (s:Seg Ek):Prop:=(∀l∈s.v.2,EG l)∧s.v.2.length≤1000000
open Classical in
theorem ANa {a b:List (Seg Ek)} (ha:∀s∈a,Is s) (hb:∀s∈b,Is s) (hla:a.length≤1000000) (hlb:b.length≤1000000):DataW Tryz.prog ATo [Iq a,Iq b,.fn OE []] (bv (decide (a=b))):=by
 refine AX ADf (by simp) ?_
 by_cases hl:a.length=b.length
 rotate_left
 ·simp -implicitDefEqProofs -proj only [go_sem,seval,Jx,decide_eq_false (show ¬(a.length:Int)=b.length by omega)]
  exact AH (by rw [decide_eq_false (fun e=>hl (by rw [e]))])
 simp -implicitDefEqProofs -proj only [go_sem,seval,Jx,decide_eq_true (show (a.length:Int)=b.length by omega)]
 refine D9 (fun i:Nat=>i≤a.length∧∀(j:Nat) (h:j<a.length) (h2:j<b.length),j<i→a[j]=b[j]) 32 (fun i=>[(0,Iq a),(1,Iq b),(2,.fn OE []),(15,Iq a),(16,i64 a.length),(17,i64 i)]) (fun _=>[]) (fun i=>a.length-i) 0 ⟨Nat.zero_le _,fun j _ _ h=>absurd h (Nat.not_lt_zero _)⟩ rfl ?_ ?_ ?_
 ·simp -implicitDefEqProofs -proj only [go_sem,seval,AM]
  try simp [hl]
 ·simp -implicitDefEqProofs -proj only [go_sem,seval,AS]
 ·rintro i ⟨hi,hat⟩
  by_cases h:i<a.length
  ·have h':i<b.length:=by omega
   have e1:=Mf h
   have e2:=Mf h'
   have ca:=ha _ (List.getElem_mem h)
   have cb:=hb _ (List.getElem_mem h')
   have hst:=fun (e:a[i]=b[i])=>HL (l:=List.range a.length) (P:=fun j _=>∀(h:j<a.length) (h2:j<b.length),a[j]=b[j]) (i:=i) (x:=i) (by simp [h]) (fun j hj hji=>fun h1 h2=>hat j h1 h2 hji) (fun _ _=>e)
   have hne:=fun (e:¬a[i]=b[i])=>show ¬a=b from fun k=>e (by subst k; rfl)
   have hcall:=APC ca.1 cb.1 ca.2 cb.2
   generalize a[i]=x at *
   generalize b[i]=y at *
   simp -implicitDefEqProofs -proj only [go_sem,seval,decide_eq_true (show (i:Int)<a.length by omega)]
   refine Ah _ (by omega) e1 ?_
   simp -implicitDefEqProofs -proj only [go_sem,seval]
   refine AK (fun b8 hb8=>?_)
   simp -implicitDefEqProofs -proj only [go_sem,seval]
   refine Ah _ (by omega) e2 ?_
   simp -implicitDefEqProofs -proj only [go_sem,seval]
   refine AK (fun b9 hb9=>?_)
   simp -implicitDefEqProofs only [AR] at hb9
   have n1:¬b8=b9:=fun e=>by subst e; simp at hb9
   have n2:¬b9=b8:=fun e=>n1 e.symm
   simp -implicitDefEqProofs -proj only [go_sem,seval,n1,n2]
   refine AJ hcall ?_
   by_cases hp:x.f=y.f∧x.t=y.t∧x.v=y.v
   ·simp -implicitDefEqProofs -proj only [go_sem,seval,decide_eq_true hp]
    refine Ad (i+1) ⟨by omega,fun j h1 h2 hj=>hst (OA.1 hp) j (by simpa using h1) (by omega) h1 h2⟩ (by omega) rfl ?_ trivial
    simp -implicitDefEqProofs -proj only [go_sem,seval,AM,AP (show i<9223372036854775807 by omega)]
   ·simp -implicitDefEqProofs -proj only [go_sem,seval,decide_eq_false hp]
    exact AH (by rw [decide_eq_false (hne (fun e=>hp (OA.2 e)))])
  ·have hi':i=a.length:=by omega
   subst hi'
   simp -implicitDefEqProofs -proj only [go_sem,seval,decide_eq_false (show ¬(a.length:Int)<a.length by omega)]
   exact AH (by rw [decide_eq_true (List.ext_getElem hl fun j h1 h2=>hat j h1 h2 h1)])
structure NrX where
 k:Nat
 cap:Nat
 acc:List (Seg Ek)
theorem I4 {k cap:Nat} {acc:List (Seg Ek)}:(NrX.mk k cap acc).k=k:=(rfl)
theorem Im {k cap:Nat} {acc:List (Seg Ek)}:(NrX.mk k cap acc).cap=cap:=(rfl)
theorem Gy {k cap:Nat} {acc:List (Seg Ek)}:(NrX.mk k cap acc).acc=acc:=(rfl)
def GC (c:CoreX) (k cap:Nat) (acc:List (Seg Ek)):Blk:=.box 31 [.d (.str c.cur),i64 c.f,i64 c.t,.d (.sl 5 (EK c.ms)),A0 4 4 k cap (EN acc)]
def F7 (b10:Nat) (c:CoreX) (T:List (Nat×Blk)) (y:NrX):List (Nat×Blk):=Ai 47 4 y.k y.cap (EN y.acc)++((b10,GC c y.k y.cap y.acc)::T)
theorem PC {k:Nat} {x:Blk}:∀{l:List (Nat×Blk)},Ab l k=some x→(k,x)∈l
 | [],h=>by cases h
 | (b,y)::l,h=>by
  rw [Ap] at h
  by_cases e:k=b
  ·rw [if_pos e] at h; cases h; subst e; exact List.mem_cons_self ..
  ·rw [if_neg e] at h; exact List.mem_cons_of_mem _ (PC h)
theorem AMb {H H' H1:Heap} {L M:List (Nat×Blk)} (hL:AS H L) (hM:AS H M) (h1:AS H1 M) (a:∀k x,H1 k=some x→H' k=some x) (b:∀k x,H k=some x→Ab M k=none→H' k=some x):AS H' L :=
 E5.2 fun p hp=>by
  have hpH:=E5.1 hL p hp
  cases e:Ab M p.1 with
  | none=>exact b _ _ hpH e
  | some y =>
   have hy:=PC e
   have e1:=E5.1 hM _ hy
   have e2:=E5.1 h1 _ hy
   simp -implicitDefEqProofs only at e1 e2
   rw [hpH] at e1
   cases e1
   exact a _ _ e2
theorem SZ {H:Heap} {f t x:Int} {kc cap:Nat} {xs:List (List D)} {K:List D→Heap→Prop} (h:AS H (Ai 51 2 kc cap xs)) (hk:∀H',(∀k y,H k=some y→k∉AT (Ai 51 2 kc cap xs)→H' k=some y)→K [.int .i64 f,.int .i64 t,.int .i64 x,.sl 2 xs] H'):Aw H [i64 f,i64 t,i64 x,A0 2 2 kc cap xs] K:=by
 cases xs with
 | nil =>
  simp -implicitDefEqProofs only [Aw,A1,A2,A0]
  exact hk H fun k y h _=>h
 | cons y ys =>
  simp -implicitDefEqProofs only [Aw,A1,A0]
  simp -implicitDefEqProofs only [A2]
  have h1:=h.1
  simp -implicitDefEqProofs only [h1]
  refine ⟨⟨trivial,trivial,trivial⟩,hk _ fun k z hz hn=>?_⟩
  rw [AE (fun e=>hn (by subst e; exact List.mem_cons_self ..))]
  exact hz
theorem R0 {H H':Heap} {L N:List (Nat×Blk)} (hL:AS H L) (hk:∀k y,H k=some y→k∉AT N→H' k=some y) (hd:∀k∈AT L,k∉AT N):AS H' L :=
 E5.2 fun p hp=>hk _ _ (E5.1 hL p hp) (hd _ (List.mem_map_of_mem hp))
theorem ZV {n:Nat} (h:n≤8):2 ^ (8+n)≤65536:=Nat.pow_le_pow_right (n:=2) (by omega) (show 8+n≤16 by omega)
set_option maxRecDepth 20000 in
set_option maxHeartbeats 4000000 in
theorem ABc {c:CoreX} {R:List Run} {T:List (Nat×Blk)} {b2 b3 b4 b10 bm k1 p1 k2 p2:Nat} {t0:TM} {Rst:Out→St→Prop} (hc:c.Fit) (hf:fitsC c) (hR:JJ c=R)
  (hT4:(b4,.box 66 [.ptr bm 0])∈T) (hTm:∀p∈F5 bm c k1 p1 k2 p2,p∈T) (hTb:∀p∈T,p∈F5 bm c k1 p1 k2 p2∨∃t cells,p.2 = .box t cells) (hnm:(AT (F5 bm c k1 p1 k2 p2)).Nodup)
  {i:Nat} (hi:i<R.length) (pre:List (List AV)) (hpre:pre.length=i) {y:NrX} (hy:y.acc=Fo (Ew c) R i) (hn:(AT (F7 b10 c T y)).Nodup) :
  FD Tryz.prog (Kh (fun pre y=>y.acc=Fo (Ew c) R pre.length∧(AT (F7 b10 c T y)).Nodup) (F7 b10 c T) (pre++[[(R[i]).avU]]) 115 t0 Rst) (.seq (.ops Rp) Sv) []
   ⟨115,HD 115 (Et [(2,.ptr b2 0),(3,.ptr b3 0),(4,.ptr b4 0),(10,.ptr b10 0)]) [75] [(R[i]).avU],Ab (F7 b10 c T y)⟩:=by
 obtain ⟨⟨g1,g2⟩,⟨g3,g4⟩,g5,g6,g7,g8⟩:=hf.good.hd
 have hfw:=Mp (c:=c) g3
 rw [hR] at hfw
 have hri:=List.getElem?_eq_getElem hi
 obtain ⟨v1,v2,v3,v4,_,_,_⟩:=hfw.nth2 i _ hri
 have hadd:=OM hfw (OO g7)
 have hrv:=v4 _ (Int.le_refl _) v2
 have h16:Fi c R[i].f<65536:=Nat.lt_of_lt_of_le (Ol g7 c.ps.length) (ZV g8)
 have hstep:Fo (Ew c) R (i+1)=KE (Fo (Ew c) R i) ⟨R[i].f,R[i].t,Ew c R[i].f⟩:=by
  rw [Fo,hri]
 obtain ⟨k,cap,acc⟩:=y
 simp -implicitDefEqProofs only [Gy] at hy
 obtain ⟨H,hH⟩:∃H,Ab (F7 b10 c T ⟨k,cap,acc⟩)=H:=⟨_,rfl⟩
 have hall:=EQ hn
 rw [hH] at hall ⊢
 simp -implicitDefEqProofs only [F7,I4,Im,Gy] at hall hn
 obtain ⟨hrow,h10,hTH⟩:=EF.1 hall
 have h4:H b4=some (.box 66 [.ptr bm 0]):=E5.1 hTH _ hT4
 have hM:AS H (F5 bm c k1 p1 k2 p2):=LB hTH hTm
 have hacc:∀A s,acc=A++[s]→Is s∧A.length≤4000:=by
  intro A s e
  cases i with
  | zero=>rw [hy] at e; simp [Fo] at e
  | succ j =>
   have hj:j<R.length:=by omega
   obtain ⟨w1,w2,w3,w4,_,_,_⟩:=hfw.nth2 j _ (List.getElem?_eq_getElem hj)
   obtain ⟨A',s',e1,e2,e3,e4⟩:=hadd j _ (List.getElem?_eq_getElem hj)
   rw [hy,e1] at e
   obtain ⟨rfl,e5⟩:=List.append_inj' e rfl
   simp -implicitDefEqProofs only [List.cons.injEq,and_true] at e5
   subst e5
   have:=e4.len
   simp -implicitDefEqProofs only [List.length_append,List.length_singleton] at this
   refine ⟨⟨fun l hl=>?_,?_⟩,by omega⟩
   ·rw [e2] at hl; exact L2 hf _ l hl
   ·rw [e2]; show (Em c _ c.ms.length).length≤1000000; rw [Ja]; omega
 generalize hg:R[i]=r at *
 simp -implicitDefEqProofs -proj only [go_sem,seval,h4]
 refine AK (fun b12 hb12=>?_)
 replace hb12:H b12=none:=hb12
 obtain ⟨y1,y2⟩:=AI hb12 h4
 simp -implicitDefEqProofs -proj only [go_sem,seval,h4,y1,y2]
 have hsp:=AS6 (bm:=bm) (k1:=k1) (p1:=p1) (k2:=k2) (p2:=p2) (f:=r.f) (t:=r.t) (d:=r.f) hc hf g7 g8 h16 hnm
 rw [hrv] at hsp
 have hall12:=An (y:=some (.box 82 [i64 r.f,i64 r.t,u64 r.v])) hb12 hall
 have hM12:=An (y:=some (.box 82 [i64 r.f,i64 r.t,u64 r.v])) hb12 hM
 refine En (Pc hsp (JD hM12)) ?_
 rintro rr H2 ⟨H1,⟨kc,capc,rfl,rest,hA1,hN1⟩,hsub,hkeep⟩
 have hM1:AS H1 (F5 bm c k1 p1 k2 p2):=(EF.1 hA1).2
 have hall2:AS H2 (Ai 47 4 k cap (EN acc)++(b10,GC c k cap acc)::T):=AMb hall12 hM12 hM1 hsub hkeep
 have hls:(ES c r.f,Em c r.f c.ms.length)=Ew c r.f:=rfl
 have hcu:Is ⟨r.f,r.t,Ew c r.f⟩:=⟨L2 hf _,by show (Em c r.f c.ms.length).length≤1000000; rw [Ja]; omega⟩
 have hLC:AS H2 (Ai 51 2 kc capc (Au (Em c r.f c.ms.length))):=E5.2 fun p hp=>hsub _ _ (E5.1 (EF.1 (EF.1 hA1).1).1 p hp)
 have hdj:∀p∈AT (Ai 51 2 kc capc (Au (Em c r.f c.ms.length))),p∉AT (Ai 47 4 k cap (EN acc)++(b10,GC c k cap acc)::T):=by
  intro p hp hq
  obtain ⟨⟨q1,q2⟩,hq1,rfl⟩:=List.mem_map.1 hp
  obtain ⟨⟨u1,u2⟩,hu1,hu2⟩:=List.mem_map.1 hq
  simp -implicitDefEqProofs only at hu2
  subst hu2
  have e1:=E5.1 hLC _ hq1
  have e2:=E5.1 hall2 _ hu1
  simp -implicitDefEqProofs only at e1 e2
  rw [e1] at e2
  have hq3:q2 = .row 51 2 capc (Au (Em c r.f c.ms.length)):=by
   generalize Au (Em c r.f c.ms.length)=xs at hq1 ⊢
   cases xs with
   | nil=>cases hq1
   | cons a az=>simp -implicitDefEqProofs only [Ai,List.mem_singleton,Prod.mk.injEq] at hq1; exact hq1.2
  subst hq3
  rcases List.mem_append.1 hu1 with hu | hu
  ·generalize EN acc=xs at hu
   cases xs with
   | nil=>cases hu
   | cons a az=>simp -implicitDefEqProofs only [Ai,List.mem_singleton,Prod.mk.injEq] at hu; rw [hu.2] at e2; cases e2
  ·rcases List.mem_cons.1 hu with hu | hu
   ·simp -implicitDefEqProofs only [Prod.mk.injEq] at hu; rw [hu.2,GC] at e2; cases e2
   ·rcases hTb _ hu with hm | ⟨t,cells,hm⟩
    ·simp -implicitDefEqProofs only [AT,List.map_append,List.nodup_append] at hN1
     exact hN1.2.2 _ (List.mem_append_left _ hp) _ (List.mem_map_of_mem hm) rfl
    ·simp -implicitDefEqProofs only at hm; rw [hm] at e2; cases e2
 have hlc:∀l∈Em c r.f c.ms.length,EG l:=L2 hf _
 rw [hls.symm] at hstep hcu
 generalize Em c r.f c.ms.length=LS at *
 generalize ES c r.f=F0 at *
 obtain ⟨cs,hcs⟩:∃cs,[i64 r.f,i64 r.t,i64 F0,A0 2 2 kc capc (Au LS)]=cs:=⟨_,rfl⟩
 have hcl:Af cs=4:=by rw [←hcs]; rfl
 have hcg:cs.take 4=cs:=by rw [←hcs]; rfl
 have hct:setSeg [.d (.int .i64 0),.d (.int .i64 0),.d (.int .i64 0),.nilsl 2] 0 cs=cs:=by rw [←hcs]; rfl
 have hcn:nth cs 1=i64 r.t:=by rw [←hcs]; rfl
 rw [hcs]
 simp -implicitDefEqProofs -proj only [go_sem,seval,hcl,hcg,hct,hcn]
 refine AK (fun b13 hb13=>?_)
 replace hb13:H2 b13=none:=hb13
 have h10':H2 b10=some (GC c k cap acc):=(EF.1 hall2).2.1
 have hrow2:=(EF.1 hall2).1
 obtain ⟨y3,y4⟩:=AI hb13 h10'
 simp -implicitDefEqProofs only [GC] at h10'
 have hall3:=fun y=>An (y:=y) hb13 hall2
 have hLC3:=fun y=>An (y:=y) hb13 hLC
 by_cases c0:acc=[]
 ·subst c0
  have hnew:Fo (Ew c) R (i+1)=[⟨r.f,r.t,(F0,LS)⟩]:=by rw [hstep,←hy]; rfl
  simp -implicitDefEqProofs only [EN,List.map_nil,K9,Kg,List.nil_append] at h10' hall3 hn hdj
  simp -implicitDefEqProofs -proj only [go_sem,seval,h10',y3,y4,hcl,hcg,hct,hcn]
  rw [←hcs]
  refine SZ (hLC3 _) (fun H4 hk4=>?_)
  have hall4:=R0 (hall3 _) hk4 (fun p hp hq=>hdj p hq hp)
  simp -implicitDefEqProofs -proj only [go_sem,seval]
  refine As (fun bs hs=>?_)
  replace hs:H4 bs=none:=hs
  simp -implicitDefEqProofs -proj only [go_sem,seval]
  have hn0:(AT (Ai 47 4 0 0 (EN ([]:List (Seg Ek)))++(b10,.box 31 [.d (.str c.cur),i64 c.f,i64 c.t,.d (.sl 5 (EK c.ms)),.nilsl 4])::T)).Nodup:=by simpa only [GC,EN,List.map_nil,Kg,K9,AT,List.map_cons,List.nil_append] using hn
  simp -implicitDefEqProofs only [GC,K9] at hall4
  refine Ff (c:=0) (cap:=0) (z0:=4) (xs:=EN ([]:List (Seg Ek))) (y:=[.int .i64 r.f,.int .i64 r.t,.int .i64 F0,.sl 2 (Au LS)]) (t:=47) (capc:=1) ((b10,.box 31 [.d (.str c.cur),i64 c.f,i64 c.t,.d (.sl 5 (EK c.ms)),.nilsl 4])::T) rfl (An hs hall4) hn0 (by simp -implicitDefEqProofs -proj only [go_sem,seval]; try rfl) (by simp [EN]) (by simp [EN]) (fun H' c2 cap2 ha hk=>?_)
  rw [show EN ([]:List (Seg Ek))++[[.int .i64 r.f,.int .i64 r.t,.int .i64 F0,.sl 2 (Au LS)]]=EN [⟨r.f,r.t,(F0,LS)⟩] by simp [EN,KD]] at ha hk
  have q10:=(EF.1 ha).2.1
  simp -implicitDefEqProofs -proj only [go_sem,seval,q10]
  have hne':EN ([⟨r.f,r.t,(F0,LS)⟩]:List (Seg Ek))≠[]:=by simp [EN]
  refine K3 ⟨c2,cap2,[⟨r.f,r.t,(F0,LS)⟩]⟩ ⟨?_,?_⟩ ?_
  ·simp -implicitDefEqProofs only [Gy,List.length_append,List.length_singleton,hpre]; exact hnew.symm
  ·simpa only [F7,I4,Im,Gy,AT,List.map_append,List.map_cons] using hk
  ·have hup:=GP (x':=GC c c2 cap2 [⟨r.f,r.t,(F0,LS)⟩]) ha hk
   simp -implicitDefEqProofs only [F7,I4,Im,Gy]
   simp -implicitDefEqProofs only [GC,Ex hne'] at hup ⊢
   exact hup
 ·obtain ⟨A,s,hAs⟩:∃A s,acc=A++[s]:=⟨acc.dropLast,acc.getLast c0,(List.dropLast_concat_getLast c0).symm⟩
  obtain ⟨hcs2,hal⟩:=hacc A s hAs
  have hnew:Fo (Ew c) R (i+1)=if s.v=(F0,LS) then A++[⟨s.f,r.t,s.v⟩] else A++[s]++[⟨r.f,r.t,(F0,LS)⟩]:=by
   rw [hstep,←hy,hAs,KE]
   simp -implicitDefEqProofs only [List.getLast?_append,List.getLast?_singleton,Option.some_or,List.dropLast_concat]
  clear hacc hstep
  subst hAs
  have hne:EN (A++[s])≠[]:=by simp [EN]
  have hxl:(EN (A++[s])).length=A.length+1:=by rw [Jx]; simp
  rw [Ex hne,hxl] at h10'
  simp -implicitDefEqProofs only [F9 hne] at hn hdj hall2 hall3
  have hkH:H2 k=some (.row 47 4 cap (EN (A++[s]))):=hall2.1
  obtain ⟨x1,x2⟩:=AI hb13 hkH
  have w2:IntKind.i64.wrap (((A.length+1:Nat):Int)-1)=(A.length:Int):=by rw [IntKind.wrap_i64]; omega
  have hat:=APj (S:=A++[s]) (i:=A.length) (s:=s) (by simp)
  have hcall:=QN (a:=s) (b:=⟨r.f,r.t,(F0,LS)⟩) hcs2.1 hcu.1 hcs2.2 hcu.2
  simp -implicitDefEqProofs -proj only [go_sem,seval,h10',y3,y4,hcl,hcg,hct,hcn,w2,decide_eq_true (show (0:Int)<((A.length+1:Nat):Int) by omega)]
  refine Ae ⟨by omega,by omega⟩ (fun _=>?_)
  simp -implicitDefEqProofs -proj only [go_sem,seval,Int.toNat_natCast,x1,x2,hkH]
  refine D8 _ hat (by simp) ?_
  simp -implicitDefEqProofs -proj only [go_sem,seval,hcl,hcg,hct,hcn]
  have hlend:∀y,LendV (upd H2 b13 y) (.agg cs) (J9 ⟨r.f,r.t,(F0,LS)⟩):=fun y=>by
   rw [←hcs]
   exact AL8 (Jz (hLC3 y))
  refine JN hcall (FE (.refl _) (FE (hlend _) GY)) rfl ?_
  by_cases ca:s.v=(F0,LS)
  ·rw [if_pos ca] at hnew
   simp -implicitDefEqProofs -proj only [go_sem,seval,decide_eq_true ca,h10',y3,y4,hcl,hcg,hct,hcn,w2,x1,x2,hkH]
   refine Ae ⟨by omega,by omega⟩ (fun _=>?_)
   simp -implicitDefEqProofs -proj only [go_sem,seval,Int.toNat_natCast,x1,x2,hkH]
   refine NO (cap:=cap) (by simp -implicitDefEqProofs -proj only [go_sem,seval,x1,x2]; exact hkH) hat (by simp) ?_
   have hset:=AJn (A:=A) (s:=s) (x:=r.t)
   have hne1:EN (A++[⟨s.f,r.t,s.v⟩])≠[]:=by simp [EN]
   have hxl1:(EN (A++[⟨s.f,r.t,s.v⟩])).length=A.length+1:=by rw [Jx]; simp
   simp -implicitDefEqProofs -proj only [go_sem,seval,Gc,hset]
   refine K3 ⟨k,cap,A++[⟨s.f,r.t,s.v⟩]⟩ ⟨?_,?_⟩ ?_
   ·simp -implicitDefEqProofs only [Gy,List.length_append,List.length_singleton,hpre]; exact hnew.symm
   ·simp -implicitDefEqProofs only [F7,I4,Im,Gy,F9 hne1]
    simpa only [AT,List.map_append,List.map_cons] using hn
   ·have hup:=fun y=>GP (A:=[]) (b:=k) (x':=Blk.row 47 4 cap (EN (A++[⟨s.f,r.t,s.v⟩]))) (hall3 y) hn
    simp -implicitDefEqProofs only [F7,I4,Im,Gy,F9 hne1]
    simp -implicitDefEqProofs only [GC,Ex hne,Ex hne1,hxl,hxl1] at hup ⊢
    exact hup _
  ·rw [if_neg ca] at hnew
   simp -implicitDefEqProofs -proj only [go_sem,seval,decide_eq_false ca,h10',y3,y4,hcl,hcg,hct,hcn,w2,x1,x2,hkH]
   rw [←hcs]
   refine SZ (hLC3 _) (fun H4 hk4=>?_)
   have hall4:=R0 (hall3 _) hk4 (fun p hp hq=>hdj p hq hp)
   simp -implicitDefEqProofs -proj only [go_sem,seval]
   refine As (fun bs hs=>?_)
   replace hs:H4 bs=none:=hs
   simp -implicitDefEqProofs -proj only [go_sem,seval]
   have hn1:(AT (Ai 47 4 k cap (EN (A++[s]))++(b10,GC c k cap (A++[s]))::T)).Nodup:=by rw [F9 hne]; exact hn
   have hrv1:A0 4 4 k cap (EN (A++[s])) = .own k 4 0 (A.length+1) cap:=by rw [Ex hne,hxl]
   rw [←hrv1]
   refine Ff (c:=k) (cap:=cap) (z0:=4) (xs:=EN (A++[s])) (y:=[.int .i64 r.f,.int .i64 r.t,.int .i64 F0,.sl 2 (Au LS)]) (t:=47) (capc:=1) ((b10,GC c k cap (A++[s]))::T) rfl (An hs (by rw [F9 hne]; exact hall4)) hn1 (by simp -implicitDefEqProofs -proj only [go_sem,seval]; try rfl) (by rw [hxl]; omega) (by rw [hxl]; omega) (fun H' c2 cap2 ha hk=>?_)
   rw [show EN (A++[s])++[[.int .i64 r.f,.int .i64 r.t,.int .i64 F0,.sl 2 (Au LS)]]=EN (A++[s]++[⟨r.f,r.t,(F0,LS)⟩]) by simp [EN,KD]] at ha hk
   have q10:=(EF.1 ha).2.1
   simp -implicitDefEqProofs only [GC] at q10
   simp -implicitDefEqProofs -proj only [go_sem,seval,q10]
   have hne':EN (A++[s]++[⟨r.f,r.t,(F0,LS)⟩])≠[]:=by simp [EN]
   have hxl':(EN (A++[s]++[⟨r.f,r.t,(F0,LS)⟩])).length=(EN (A++[s])).length+1:=by simp [EN]
   refine K3 ⟨c2,cap2,A++[s]++[⟨r.f,r.t,(F0,LS)⟩]⟩ ⟨?_,?_⟩ ?_
   ·simp -implicitDefEqProofs only [Gy,List.length_append,List.length_singleton,hpre]; exact hnew.symm
   ·simpa only [F7,I4,Im,Gy,AT,List.map_append,List.map_cons] using hk
   ·have hup:=GP (x':=GC c c2 cap2 (A++[s]++[⟨r.f,r.t,(F0,LS)⟩])) ha hk
    simp -implicitDefEqProofs only [F7,I4,Im,Gy]
    simp -implicitDefEqProofs only [GC,Ex hne',hxl'] at hup ⊢
    exact hup
structure MkX where
 i:Nat
 k1:Nat
 p1:Nat
 k2:Nat
 p2:Nat
theorem It {i a b c d:Nat}:(MkX.mk i a b c d).i=i:=(rfl)
theorem MD {i a b c d:Nat}:(MkX.mk i a b c d).k1=a:=(rfl)
theorem MB {i a b c d:Nat}:(MkX.mk i a b c d).p1=b:=(rfl)
theorem NJ {i a b c d:Nat}:(MkX.mk i a b c d).k2=c:=(rfl)
theorem Mm {i a b c d:Nat}:(MkX.mk i a b c d).p2=d:=(rfl)
theorem NU {xs ys:List (Nat×Blk)} (h:(AT (xs++ys)).Nodup):(AT (ys++xs)).Nodup:=by
 simp -implicitDefEqProofs only [AT,List.map_append,List.nodup_append] at h ⊢
 exact ⟨h.2.1,h.1,fun a ha b hb e=>h.2.2 b hb a ha e.symm⟩
theorem MG {H:Heap} {xs ys:List (Nat×Blk)} (h:AS H (xs++ys)):AS H (ys++xs):=EF.2 ⟨(EF.1 h).2,(EF.1 h).1⟩
def Kn (b1 b2 b3 b4 bm:Nat) (c:CoreX) (kv bvs:AV):List (Nat×Blk):=[(bm,.box 68 (Kz c kv bvs)),(b4,.box 66 [.ptr bm 0]),(b3,.box 32 [i64 0]),(b2,.box 31 [.d (.str ⟨⟨[]⟩⟩),i64 0,i64 0,.nilsl 5,.nilsl 4]),(b1,.box 26 [.d (.str c.cur),i64 c.f,i64 c.t,.d (.sl 5 (EK c.ms)),.d (.sl 3 (EL c.ss)),.d (.sl 9 (Ak c.ps))])]
def JY (b1 b2 b3 b4 bm:Nat) (c:CoreX) (y:MkX):List (Nat×Blk):=Ai 51 2 y.k1 y.p1 (Au ((E0 c).take y.i))++(Ai 3 1 y.k2 y.p2 (Az ((FA c).take y.i))++Kn b1 b2 b3 b4 bm c (A0 2 2 y.k1 y.p1 (Au ((E0 c).take y.i))) (A0 1 1 y.k2 y.p2 (Az ((FA c).take y.i))))
theorem AKt {a b:List Nat} {m x4 x3 x2 x1:Nat} (h:(a++(b++[m,x4,x3,x2,x1])).Nodup):(x4::x3::x2::(m::(a++b))).Nodup:=by
 have p:(a++(b++[m,x4,x3,x2,x1])).Perm ((x4::x3::x2::(m::(a++b)))++[x1]):=List.perm_iff_count.2 fun y=>by
  simp -implicitDefEqProofs only [List.count_append,List.count_cons,List.count_nil,List.cons_append,List.nil_append]
  omega
 exact (p.nodup_iff.1 h).sublist (List.sublist_append_left _ _)
theorem AA7 {x3 x4 x2 v:Nat} {l:List Nat} (h:(x4::x3::x2::l).Nodup) (hv:v∉(x4::x3::x2::l)):(x4::x3::x2::v::l).Nodup:=by
 have p:(x4::x3::x2::v::l).Perm (v::x4::x3::x2::l):=List.perm_iff_count.2 fun y=>by
  simp -implicitDefEqProofs only [List.count_cons]
  omega
 exact p.nodup_iff.2 (List.nodup_cons.2 ⟨hv,h⟩)
set_option maxRecDepth 20000 in
set_option maxHeartbeats 4000000 in
theorem La {c:CoreX} (hc:c.Fit) (hf:fitsC c):DataW Tryz.prog Xf [Fl c] (.tup [IE c.cur c.f c.t c.ms (FZ c),i64 0]):=by
 obtain ⟨⟨g1,g2⟩,⟨g3,g4⟩,g5,g6,g7,g8⟩:=hf.good.hd
 have hgd:=Px hc
 rw [decide_eq_true hf.good] at hgd
 refine AX UR (by simp) ?_
 simp -implicitDefEqProofs -proj only [go_sem,seval]
 refine AK (fun b1 hb1=>?_)
 simp -implicitDefEqProofs -proj only [go_sem,seval]
 refine AK (fun b2 hb2=>?_)
 replace hb2:upd Heap.none b1 _ b2=none:=hb2
 obtain ⟨n1,n2⟩:=AI hb2 upd_eq
 simp -implicitDefEqProofs -proj only [go_sem,seval,n1,n2]
 refine AK (fun b3 hb3=>?_)
 replace hb3:upd (upd Heap.none b1 _) b2 _ b3=none:=hb3
 obtain ⟨n3,n4⟩:=AI hb3 upd_eq
 obtain ⟨n5,n6⟩:=AI hb3 (by rw [AE n1]; exact upd_eq)
 simp -implicitDefEqProofs -proj only [go_sem,seval,n1,n2,n3,n4,n5,n6]
 refine AJ hgd ?_
 simp -implicitDefEqProofs -proj only [go_sem,seval,n1,n2,n3,n4,n5,n6]
 refine AK (fun bm hbm=>?_)
 replace hbm:upd (upd (upd Heap.none b1 _) b2 _) b3 _ bm=none:=hbm
 obtain ⟨n7,n8⟩:=AI hbm upd_eq
 obtain ⟨n9,n10⟩:=AI hbm (by rw [AE n3]; exact upd_eq)
 obtain ⟨n11,n12⟩:=AI hbm (by rw [AE n5,AE n1]; exact upd_eq)
 simp -implicitDefEqProofs -proj only [go_sem,seval,n1,n2,n3,n4,n5,n6,n7,n8,n9,n10,n11,n12]
 refine AK (fun b4 hb4=>?_)
 replace hb4:upd (upd (upd (upd Heap.none b1 _) b2 _) b3 _) bm _ b4=none:=hb4
 obtain ⟨m1,m2⟩:=AI hb4 upd_eq
 obtain ⟨m3,m4⟩:=AI hb4 (by rw [AE n7]; exact upd_eq)
 obtain ⟨m5,m6⟩:=AI hb4 (by rw [AE n9,AE n3]; exact upd_eq)
 obtain ⟨m7,m8⟩:=AI hb4 (by rw [AE n11,AE n5,AE n1]; exact upd_eq)
 simp -implicitDefEqProofs -proj only [go_sem,seval,n1,n2,n3,n4,n5,n6,n7,n8,n9,n10,n11,n12,m1,m2,m3,m4,m5,m6,m7,m8,El]
 refine D9 (fun y:MkX=>y.i≤c.ps.length∧(AT (JY b1 b2 b3 b4 bm c y)).Nodup) 115 (fun y=>[(1,.ptr b1 0),(2,.ptr b2 0),(3,.ptr b3 0),(4,.ptr b4 0),(24,.d (.sl 9 (Ak c.ps))),(25,i64 c.ps.length),(26,i64 y.i)]) (JY b1 b2 b3 b4 bm c) (fun y=>c.ps.length-y.i) ⟨0,0,0,0,0⟩ ⟨Nat.zero_le _,?_⟩ rfl ?_ ?_ ?_
 ·simp -implicitDefEqProofs only [JY,Kn,It,MD,MB,NJ,Mm,List.take_zero,Au,Az,List.map_nil,Ai,AT,List.nil_append,List.cons_append,List.map_cons,List.nodup_cons,List.mem_cons,List.not_mem_nil,or_false,not_or,not_false_eq_true,List.nodup_nil,and_true]
  exact ⟨⟨m2,n7,n9,n11⟩,⟨m3,m5,m7⟩,⟨n3,n5⟩,n1⟩
 ·simp -implicitDefEqProofs -proj only [go_sem,seval,AM,It]
  try rfl
 ·simp -implicitDefEqProofs only [JY,Kn,It,MD,MB,NJ,Mm,List.take_zero,Au,Az,List.map_nil,Ai,A0]
  simp -implicitDefEqProofs -proj only [go_sem,seval,AS,n1,n2,n3,n4,n5,n6,n7,n8,n9,n10,n11,n12,m1,m2,m3,m4,m5,m6,m7,m8]
 rintro ⟨i,k1,p1,k2,p2⟩ ⟨hi,hnd⟩
 simp -implicitDefEqProofs only [It] at hi
 have hall:=EQ hnd
 obtain ⟨H,hH⟩:∃H,Ab (JY b1 b2 b3 b4 bm c ⟨i,k1,p1,k2,p2⟩)=H:=⟨_,rfl⟩
 rw [hH] at hall
 simp -implicitDefEqProofs only [JY,Kn] at hall hnd
 obtain ⟨hrowC,hx⟩:=EF.1 hall
 obtain ⟨hrowI,hbmH,h4,h3,h2,h1,_⟩:=EF.1 hx
 by_cases hlt:i<c.ps.length
 ·have hel:=IW hlt
  have hpart:=Tw hc hf (List.getElem_mem hlt)
  have htkC:(E0 c).take (i+1)=(E0 c).take i++[F3 c.ps[i] (EZ c.ms c.ps[i].me)]:=by
   rw [List.take_succ_eq_append_getElem (by rw [List.length_map]; exact hlt)]; simp -implicitDefEqProofs only [E0,List.getElem_map]
  have htkB:(FA c).take (i+1)=(FA c).take i++[pv c.ps[i] 0]:=by
   rw [List.take_succ_eq_append_getElem (by rw [List.length_map]; exact hlt)]; simp -implicitDefEqProofs only [FA,List.getElem_map]
  generalize c.ps[i]=x at *
  simp -implicitDefEqProofs -proj only [go_sem,seval,It,hH,decide_eq_true (show (i:Int)<c.ps.length by omega)]
  refine Ah _ (by omega) hel ?_
  simp -implicitDefEqProofs -proj only [go_sem,seval]
  refine AK (fun b6 hb6=>?_)
  replace hb6:H b6=none:=hb6
  obtain ⟨y1,y2⟩:=AI hb6 h1
  simp -implicitDefEqProofs -proj only [go_sem,seval,y1,y2,h1]
  refine AJ hpart ?_
  simp -implicitDefEqProofs -proj only [go_sem,seval]
  refine AK (fun b7 hb7=>?_)
  simp -implicitDefEqProofs only [AR] at hb7
  have z1:¬b6=b7:=fun e=>by subst e; simp at hb7
  have z2:¬b7=b6:=fun e=>z1 e.symm
  have hb7':H b7=none:=by simpa only [z1,↓reduceIte] using hb7
  obtain ⟨y3,y4⟩:=AI hb7' h4
  obtain ⟨y5,y6⟩:=AI hb6 h4
  obtain ⟨y7,y8⟩:=AI hb7' hbmH
  obtain ⟨y9,y10⟩:=AI hb6 hbmH
  simp -implicitDefEqProofs -proj only [go_sem,seval,y1,y2,y3,y4,y5,y6,y7,y8,y9,y10,z1,z2,h4,hbmH]
  (repeat' (with_reducible refine Ae ?_ (fun h=>?_); (focus first | decide | omega); clear h; try simp -implicitDefEqProofs -proj only [go_sem,seval,eq_self,y1,y2,y3,y4,y5,y6,y7,y8,y9,y10,z1,z2,h4,hbmH]))
  have hlr:((E0 c).take i).length=i:=by rw [List.length_take,List.length_map]; omega
  have hlb:((FA c).take i).length=i:=by rw [List.length_take,List.length_map]; omega
  refine Jy (ds:=Gw (F3 x (EZ c.ms x.me))) rfl (fun bs hs=>?_)
  simp -implicitDefEqProofs only [AR,z1,z2] at hs
  have z3:¬b6=bs:=fun e=>by subst e; simp [z1,z2] at hs
  have z4:¬b7=bs:=fun e=>by subst e; simp [z1,z2] at hs
  have hbs':H bs=none:=by simpa only [z3,z4,↓reduceIte] using hs
  have hA:∀X Y Z,AS (upd (upd (upd H b6 X) b7 Y) bs Z) _:=fun X Y Z =>
   An (by rw [AE z4,AE z3]; exact hbs') (An (by rw [AE z1]; exact hb7') (An hb6 hall))
  simp -implicitDefEqProofs -proj only [go_sem,seval,z1,z2,z3,z4]
  refine Ff (xs:=Au ((E0 c).take i)) (y:=Gw (F3 x (EZ c.ms x.me))) (t:=51) (capc:=1) _ rfl (hA _ _ _) hnd (by simp -implicitDefEqProofs -proj only [go_sem,seval]; rfl) (by rw [Gb,hlr]; omega) (by rw [Gb,hlr]; omega) (fun H' c1 q1 ha hk=>?_)
  simp -implicitDefEqProofs -proj only [go_sem,seval]
  refine Jy (ds:=[.int .i64 (pv x 0)]) rfl (fun b2s hs2=>?_)
  replace hs2:H' b2s=none:=hs2
  have ha2:=MG ha
  have hk2:=NU hk
  rw [List.append_assoc] at ha2 hk2
  simp -implicitDefEqProofs -proj only [go_sem,seval]
  refine Ff (xs:=Az ((FA c).take i)) (y:=[.int .i64 (pv x 0)]) (t:=3) (capc:=1) _ rfl (An hs2 ha2) hk2 (by simp -implicitDefEqProofs -proj only [go_sem,seval]; try rfl) (by rw [rowI_len,hlb]; omega) (by rw [rowI_len,hlb]; omega) (fun H2 c2 q2 ha3 hk3=>?_)
  have hbm2:H2 bm=some (.box 68 (Kz c (A0 2 2 k1 p1 (Au ((E0 c).take i))) (A0 1 1 k2 p2 (Az ((FA c).take i))))):=(EF.1 ha3).2.1
  simp -implicitDefEqProofs -proj only [go_sem,seval]
  refine WW hbm2 (by simp -implicitDefEqProofs -proj only [go_sem,seval]; exact m1) (by simp -implicitDefEqProofs -proj only [go_sem,seval]) (by simp [Af]) ?_
  simp -implicitDefEqProofs -proj only [go_sem,seval]
  have eC:Au ((E0 c).take i)++[Gw (F3 x (EZ c.ms x.me))]=Au ((E0 c).take (i+1)):=by rw [htkC]; simp [Au]
  have eB:Az ((FA c).take i)++[[.int .i64 (pv x 0)]]=Az ((FA c).take (i+1)):=by rw [htkB]; simp [Az]
  have neC:Au ((E0 c).take (i+1))≠[]:=by rw [←eC]; simp
  have neB:Az ((FA c).take (i+1))≠[]:=by rw [←eB]; simp
  have lC:(Au ((E0 c).take i)).length=i:=by rw [Gb,hlr]
  have lB:(Az ((FA c).take i)).length=i:=by rw [rowI_len,hlb]
  have lC2:(Au ((E0 c).take (i+1))).length=i+1:=by rw [←eC,List.length_append,lC]; rfl
  have lB2:(Az ((FA c).take (i+1))).length=i+1:=by rw [←eB,List.length_append,lB]; rfl
  rw [eC,eB] at ha3 hk3
  have ha4:=MG ha3
  have hk4:=NU hk3
  rw [List.append_assoc] at ha4 hk4
  have ha5:=MG ha4
  have hk5:=NU hk4
  have hup:=GP (A:=Ai 51 2 c1 q1 (Au ((E0 c).take (i+1)))++Ai 3 1 c2 q2 (Az ((FA c).take (i+1)))) (b:=bm) (x':=.box 68 (Kz c (A0 2 2 c1 q1 (Au ((E0 c).take (i+1)))) (A0 1 1 c2 q2 (Az ((FA c).take (i+1)))))) (by simpa only [List.append_assoc,List.cons_append,List.nil_append] using ha5) (by simpa only [List.append_assoc,List.cons_append,List.nil_append] using hk5)
  refine Ad ⟨i+1,c1,q1,c2,q2⟩ ⟨by show i+1≤c.ps.length; omega,?_⟩ (by show c.ps.length-(i+1)<c.ps.length-i; omega) rfl ?_ ?_
  ·simp -implicitDefEqProofs only [JY,Kn,It,MD,MB,NJ,Mm]
   simpa only [AT,List.map_append,List.map_cons,List.append_assoc,List.cons_append,List.nil_append] using hk5
  ·simp -implicitDefEqProofs -proj only [go_sem,seval,AM,It,AP (show i<9223372036854775807 by omega)]
  ·simp -implicitDefEqProofs only [JY,Kn,It,MD,MB,NJ,Mm]
   simpa only [List.append_assoc,List.cons_append,List.nil_append,Ex neC,Ex neB,lC,lB,lC2,lB2] using hup
 have hi':i=c.ps.length:=by omega
 subst hi'
 have hcl:=AJZ (ms:=c.ms) (by omega)
 have hho:=AF3 hc hf.good
 obtain ⟨R,hR⟩:∃R,JJ c=R:=⟨_,rfl⟩
 rw [hR] at hho
 simp -implicitDefEqProofs -proj only [go_sem,seval,It,hH,decide_eq_false (show ¬(c.ps.length:Int)<c.ps.length by omega),h1]
 (repeat' (with_reducible refine Ae ?_ (fun h=>?_); (focus first | decide | omega); clear h; try simp -implicitDefEqProofs -proj only [go_sem,seval,eq_self,h1]))
 refine Eb hcl ?_
 simp -implicitDefEqProofs -proj only [go_sem,seval,h1]
 refine AK (fun b10 hb10=>?_)
 replace hb10:H b10=none:=hb10
 obtain ⟨y1,y2⟩:=AI hb10 h1
 simp -implicitDefEqProofs -proj only [go_sem,seval,y1,y2,h1]
 (repeat' (with_reducible refine Ae ?_ (fun h=>?_); (focus first | decide | omega); clear h; try simp -implicitDefEqProofs -proj only [go_sem,seval,eq_self,y1,y2,h1]))
 refine AJ hho ?_
 simp -implicitDefEqProofs -proj only [go_sem,seval,y1,y2]
 refine AK (fun b11 hb11=>?_)
 simp -implicitDefEqProofs only [AR] at hb11
 have z1:¬b10=b11:=fun e=>by subst e; simp at hb11
 have z2:¬b11=b10:=fun e=>z1 e.symm
 simp -implicitDefEqProofs -proj only [go_sem,seval,y1,y2,z1,z2]
 refine En AVI ?_
 rintro r H6 ⟨vb,rfl,hbv,hv,hkeep⟩
 have hlR:R.length≤1000000:=by
  have:=(Mp (c:=c) g3).len
  rw [hR] at this
  omega
 have htC:(E0 c).take c.ps.length=E0 c:=List.take_of_length_le (by rw [List.length_map]; exact Nat.le_refl _)
 have htB:(FA c).take c.ps.length=FA c:=List.take_of_length_le (by rw [List.length_map]; exact Nat.le_refl _)
 rw [htC,htB] at hall hnd hbmH
 simp -implicitDefEqProofs only [AR] at hbv hkeep
 have e10:H6 b10=some (GC c 0 0 []):=hkeep b10 _ (by simp -implicitDefEqProofs only [z2,↓reduceIte]; rfl)
 have eb11:H6 b11=some (.box 74 [.d (.sl 3 (FP R))]):=hkeep b11 _ (by simp -implicitDefEqProofs only [↓reduceIte])
 have w1:¬b10=vb:=fun e=>by rw [e,hv] at e10; cases e10
 have w2:¬b11=vb:=fun e=>by
  rw [e,hv] at eb11
  simp at eb11
 have hvb:H vb=none:=by simpa only [w1,w2,↓reduceIte] using hbv
 have hb11':H b11=none:=by simpa only [z1,↓reduceIte] using hb11
 have hH6:∀k x,H k=some x→H6 k=some x:=fun k x hx=>hkeep k x (by
  obtain ⟨f1,f2⟩:=AI hb10 hx
  obtain ⟨f3,f4⟩:=AI hb11' hx
  simpa only [f1,f3,↓reduceIte] using hx)
 obtain ⟨T,hT⟩:∃T,(b4,.box 66 [.ptr bm 0])::(b3,.box 32 [i64 0])::(b2,.box 31 [.d (.str ⟨⟨[]⟩⟩),i64 0,i64 0,.nilsl 5,.nilsl 4])::(vb,.box 72 [GU R])::F5 bm c k1 p1 k2 p2=T:=⟨_,rfl⟩
 have ht1:=AKt (by simpa only [AT,List.map_append,List.map_cons,List.map_nil] using hnd)
 have hkm:AT (F5 bm c k1 p1 k2 p2)=bm::(List.map (·.1) (Ai 51 2 k1 p1 (Au (E0 c)))++List.map (·.1) (Ai 3 1 k2 p2 (Az (FA c)))):=by simp -implicitDefEqProofs only [F5,AT,List.map_append,List.map_cons]
 have hnm:(AT (F5 bm c k1 p1 k2 p2)).Nodup:=by
  rw [hkm]
  exact (List.nodup_cons.1 (List.nodup_cons.1 (List.nodup_cons.1 ht1).2).2).2
 have hkeys:AT (Ai 51 2 k1 p1 (Au (E0 c))++(Ai 3 1 k2 p2 (Az (FA c))++[(bm,Blk.box 68 (Kz c (A0 2 2 k1 p1 (Au (E0 c))) (A0 1 1 k2 p2 (Az (FA c))))),(b4,.box 66 [.ptr bm 0]),(b3,.box 32 [i64 0]),(b2,.box 31 [.d (.str ⟨⟨[]⟩⟩),i64 0,i64 0,.nilsl 5,.nilsl 4]),(b1,.box 26 [.d (.str c.cur),i64 c.f,i64 c.t,.d (.sl 5 (EK c.ms)),.d (.sl 3 (EL c.ss)),.d (.sl 9 (Ak c.ps))])]))=List.map (·.1) (Ai 51 2 k1 p1 (Au (E0 c)))++(List.map (·.1) (Ai 3 1 k2 p2 (Az (FA c)))++[bm,b4,b3,b2,b1]):=by
  simp -implicitDefEqProofs only [AT,List.map_append,List.map_cons,List.map_nil]
 have hin:∀k,k∈(b4::b3::b2::AT (F5 bm c k1 p1 k2 p2))→∃x,H k=some x:=fun k hk=>by
  rw [hkm] at hk
  have hk2:k∈List.map (·.1) (Ai 51 2 k1 p1 (Au (E0 c)))++(List.map (·.1) (Ai 3 1 k2 p2 (Az (FA c)))++[bm,b4,b3,b2,b1]):=by
   simp -implicitDefEqProofs only [List.mem_append,List.mem_cons] at hk ⊢
   rcases hk with h | h | h | h | h | h <;> simp [h]
  rw [←hkeys] at hk2
  obtain ⟨q,hq,rfl⟩:=List.mem_map.1 hk2
  exact ⟨_,E5.1 hall _ hq⟩
 have hmkH:AS H (F5 bm c k1 p1 k2 p2):=by
  refine LB hall fun q hq=>?_
  simp -implicitDefEqProofs only [F5,List.mem_append,List.mem_cons] at hq ⊢
  rcases hq with h | h | h <;> simp [h]
 have hTn:(AT T).Nodup:=by
  rw [←hT]
  simp -implicitDefEqProofs only [AT,List.map_cons]
  refine AA7 (by rw [←hkm] at ht1; exact ht1) fun hm=>?_
  obtain ⟨x,hx⟩:=hin vb hm
  rw [hvb] at hx; cases hx
 have hTH:AS H6 T:=by
  rw [←hT]
  exact ⟨hH6 _ _ h4,hH6 _ _ h3,hH6 _ _ h2,hv,E5.2 fun q hq=>hH6 _ _ (E5.1 hmkH q hq)⟩
 have h10T:b10∉AT T:=by
  rw [←hT]
  simp -implicitDefEqProofs only [AT,List.map_cons,List.mem_cons,not_or]
  have hh:∀k,k∈(b4::b3::b2::AT (F5 bm c k1 p1 k2 p2))→¬b10=k:=fun k hk e=>by
   obtain ⟨x,hx⟩:=hin k hk
   rw [←e,hb10] at hx; cases hx
  exact ⟨hh _ (by simp),hh _ (by simp),hh _ (by simp),w1,fun hm=>hh _ (by simp -implicitDefEqProofs only [List.mem_cons]; exact .inr (.inr (.inr hm))) rfl⟩
 have hn0:(AT (F7 b10 c T ⟨0,0,[]⟩)).Nodup:=by
  simp -implicitDefEqProofs only [F7,I4,Im,Gy,EN,List.map_nil,Kg,List.nil_append,AT,List.map_cons,List.nodup_cons]
  exact ⟨h10T,hTn⟩
 have hTb:∀q∈T,q∈F5 bm c k1 p1 k2 p2∨∃t cells,q.2 = .box t cells:=by
  intro q hq
  rw [←hT] at hq
  simp -implicitDefEqProofs only [List.mem_cons] at hq
  rcases hq with rfl | rfl | rfl | rfl | hq
  ·exact .inr ⟨_,_,rfl⟩
  ·exact .inr ⟨_,_,rfl⟩
  ·exact .inr ⟨_,_,rfl⟩
  ·exact .inr ⟨_,_,rfl⟩
  ·exact .inl hq
 have hend:=Va (Mp (c:=c) g3) (by omega) (OO g7)
 rw [hR] at hend
 have hfin:Fo (Ew c) R R.length=FZ c:=FwdB.canon hend (J2 hf.good)
 rw [←hfin]
 simp -implicitDefEqProofs -proj only [go_sem,seval]
 refine O2 [(2,.ptr b2 0),(3,.ptr b3 0),(4,.ptr b4 0),(10,.ptr b10 0)] (fun pre y=>y.acc=Fo (Ew c) R pre.length∧(AT (F7 b10 c T y)).Nodup) (F7 b10 c T) ⟨0,0,[]⟩ (AK1 (b:=vb) (l:=R) hlR) (by simp -implicitDefEqProofs -proj only [go_sem,seval]) rfl (by simp) (by simp -implicitDefEqProofs -proj only [go_sem,seval,AM]) ?_ ⟨rfl,hn0⟩ ⟨e10,hTH⟩ ?_ ?_
 ·intro pre y _ q hq
  simp -implicitDefEqProofs only [List.mem_singleton] at hq
  subst hq
  simp -implicitDefEqProofs only [F7,List.mem_append,List.mem_cons]
  exact .inr (.inr (by rw [←hT]; simp))
 ·rintro pre x post y hxs ⟨hy,hn⟩
  obtain ⟨hlt,rfl,hpre⟩:=OV hxs
  exact ABc (i:=pre.length) hc hf hR (by rw [←hT]; simp) (fun q hq=>by rw [←hT]; simp [hq]) hTb hnm hlt pre rfl hy hn
 ·rintro ⟨k,cap,acc⟩ ⟨hy,hn⟩
  have hall':=EQ hn
  simp -implicitDefEqProofs only [Gy,Io,List.length_map] at hy
  subst hy
  obtain ⟨H',hH'⟩:∃H',Ab (F7 b10 c T ⟨k,cap,Fo (Ew c) R R.length⟩)=H':=⟨_,rfl⟩
  rw [hH'] at hall' ⊢
  simp -implicitDefEqProofs only [F7,I4,Im,Gy] at hall' hn
  obtain ⟨hrow,q10,hTT⟩:=EF.1 hall'
  rw [←hT] at hTT
  obtain ⟨q4,q3,q2,_,_⟩:=hTT
  simp -implicitDefEqProofs only [GC] at q10
  have hdj:∀b,b∈AT T→b∉AT (Ai 47 4 k cap (EN (Fo (Ew c) R R.length))):=fun b hb hm=>by
   simp -implicitDefEqProofs only [AT,List.map_append,List.map_cons] at hn
   exact (List.nodup_append.1 hn).2.2 _ hm _ (List.mem_cons_of_mem _ hb) rfl
  have hr2:∀X Y,AS (upd (upd H' b2 X) b3 Y) (Ai 47 4 k cap (EN (Fo (Ew c) R R.length))):=fun X Y=>J7 (J7 hrow (hdj b2 (by rw [←hT]; simp [AT]))) (hdj b3 (by rw [←hT]; simp [AT]))
  simp -implicitDefEqProofs -proj only [go_sem,seval,q10,q2,q3,n3,n4]
  exact .tupL (FE (AKd (.refl _) (Jz (hr2 _ _))) (FE (.refl _) GY))
def Fx (cu:ByteArray) (f t:Int) (ms:List MeterX) (S:List (Seg Ek)):Blk:=.box 31 [.d (.str cu),i64 f,i64 t,.d (.sl 5 (EK ms)),Iq S]
def mq (x y:MeterX):Bool:=(x.nm.toList == y.nm.toList)&&((x.un.toList == y.un.toList)&&(decide (x.mx=y.mx)&&(decide (x.ln=y.ln)&&decide (x.co=y.co))))
def Fc:List MeterX→List MeterX→Bool
 | [],[]=>true
 | x::a,y::b=>mq x y&&Fc a b
 | _,_=>false
theorem Ng:∀{a b:List MeterX},a.length≠b.length→Fc a b=false
 | [],[],h=>absurd rfl h
 | [],_::_,_=>rfl
 | _::_,[],_=>rfl
 | _::a,_::b,h=>by rw [Fc,Ng (a:=a) (b:=b) (fun e=>h (by simp [e])),Bool.and_false]
theorem ANr {a b:List MeterX} (ha:a.length≤1000000) (hb:b.length≤1000000):DataW Tryz.prog AB5 [.d (.sl 5 (EK a)),.d (.sl 5 (EK b))] (bv (Fc a b)):=by
 refine AX AKy (by simp) ?_
 by_cases hl:a.length=b.length
 rotate_left
 ·rw [Ng hl]
  simp -implicitDefEqProofs -proj only [go_sem,seval,E2,decide_eq_false (show ¬(a.length:Int)=b.length by omega)]
  exact AH rfl
 simp -implicitDefEqProofs -proj only [go_sem,seval,E2,decide_eq_true (show (a.length:Int)=b.length by omega)]
 refine D9 (fun i:Nat=>i≤a.length∧Fc (a.drop i) (b.drop i)=Fc a b) 26 (fun i=>[(0,.d (.sl 5 (EK a))),(1,.d (.sl 5 (EK b))),(11,.d (.sl 5 (EK a))),(12,i64 a.length),(13,i64 i)]) (fun _=>[]) (fun i=>a.length-i) 0 ⟨Nat.zero_le _,by simp⟩ rfl ?_ ?_ ?_
 ·simp -implicitDefEqProofs -proj only [go_sem,seval,AM]
  try simp [hl]
 ·simp -implicitDefEqProofs -proj only [go_sem,seval,AS]
 ·rintro i ⟨hi,hat⟩
  by_cases h:i<a.length
  ·have h':i<b.length:=by omega
   have e1:=Gl h
   have e2:=Gl h'
   rw [List.drop_eq_getElem_cons h,List.drop_eq_getElem_cons h',Fc] at hat
   generalize a[i]=x at *
   generalize b[i]=y at *
   simp -implicitDefEqProofs -proj only [go_sem,seval,decide_eq_true (show (i:Int)<a.length by omega)]
   refine Ah _ (by omega) e1 ?_
   simp -implicitDefEqProofs -proj only [go_sem,seval]
   refine Ah _ (by omega) e2 ?_
   cases hp:mq x y
   ·rw [hp,Bool.false_and] at hat
    unfold mq at hp
    simp -implicitDefEqProofs -proj only [go_sem,seval,hp]
    rw [←hat]
    exact AH rfl
   ·rw [hp,Bool.true_and] at hat
    unfold mq at hp
    simp -implicitDefEqProofs -proj only [go_sem,seval,hp]
    refine Ad (i+1) ⟨by omega,hat⟩ (by omega) rfl ?_ trivial
    simp -implicitDefEqProofs -proj only [go_sem,seval,AM,AP (show i<9223372036854775807 by omega)]
  ·have hi':i=a.length:=by omega
   subst hi'
   rw [List.drop_length,hl,List.drop_length] at hat
   simp -implicitDefEqProofs -proj only [go_sem,seval,decide_eq_false (show ¬(a.length:Int)<a.length by omega)]
   rw [←hat]
   exact AH rfl
open Classical in
theorem QQ {cu cu':ByteArray} {f t f' t':Int} {ms ms':List MeterX} {S S':List (Seg Ek)} (hm:ms.length≤1000000) (hm':ms'.length≤1000000) (hS:∀s∈S,Is s) (hS':∀s∈S',Is s) (hl:S.length≤1000000) (hl':S'.length≤1000000):DataW Tryz.prog Qz [IE cu f t ms S,IE cu' f' t' ms' S'] (bv ((cu.toList == cu'.toList)&&(decide (f=f')&&(decide (t=t')&&(Fc ms ms'&&decide (S=S')))))):=by
 have h1:=ANr hm hm'
 have h2:=ANa hS hS' hl hl'
 refine AX AEJ (by simp) ?_
 simp -implicitDefEqProofs -proj only [go_sem,seval]
 refine AK (fun b2 hb2=>?_)
 simp -implicitDefEqProofs -proj only [go_sem,seval]
 refine AK (fun b3 hb3=>?_)
 replace hb3:upd Heap.none b2 _ b3=none:=hb3
 obtain ⟨n1,n2⟩:=AI hb3 upd_eq
 cases c1:cu.toList == cu'.toList
 ·simp -implicitDefEqProofs -proj only [go_sem,seval,n1,n2,NC,c1]
  exact AH (by simp)
 by_cases hf:f=f'
 rotate_left
 ·simp -implicitDefEqProofs -proj only [go_sem,seval,n1,n2,NC,c1,decide_eq_false hf]
  exact AH (by simp)
 by_cases ht:t=t'
 rotate_left
 ·simp -implicitDefEqProofs -proj only [go_sem,seval,n1,n2,NC,c1,decide_eq_true hf,decide_eq_false ht]
  exact AH (by simp)
 simp -implicitDefEqProofs -proj only [go_sem,seval,n1,n2,NC,c1,decide_eq_true hf,decide_eq_true ht]
 refine AJ h1 ?_
 cases c2:Fc ms ms'
 ·simp -implicitDefEqProofs -proj only [go_sem,seval,n1,n2]
  exact AH (by simp)
 ·simp -implicitDefEqProofs -proj only [go_sem,seval,n1,n2]
  refine AJ h2 ?_
  simp -implicitDefEqProofs -proj only [go_sem,seval]
  exact AH (by simp)
structure mostC (c:CoreX):Prop where
 parts:∀(i:Nat) (h:i<c.ps.length),∀q:Nat,q<(EZ c.ms c.ps[i].me+1).toNat→JZ c.ps[i] q
 tot:∀i,i≤c.ps.length→FY c i≤1152921504606846976
noncomputable instance (c:CoreX):Decidable (mostC c):=Classical.propDecidable _
theorem AIa {c:CoreX}:fitsC c↔¬JX c∧goodC c∧mostC c :=
 ⟨fun h=>⟨h.great,h.good,fun i hi=>h.parts _ (List.getElem_mem hi),h.tot⟩,fun ⟨h1,h2,h3⟩=>⟨h1,h2,fun x hx=>by
  obtain ⟨i,hi,rfl⟩:=List.getElem_of_mem hx
  exact h3.parts i hi,h3.tot⟩⟩
theorem AI2 {c:CoreX} {j:Nat} (h:j<c.ps.length):FY c (j+1)=FY c j+Gh c.ps[j] (EZ c.ms c.ps[j].me+1).toNat:=by
 unfold FY
 rw [sg]
 have:HP c j=Gh c.ps[j] (EZ c.ms c.ps[j].me+1).toNat:=by unfold HP; rw [List.getElem?_eq_getElem h]
 omega
theorem Wi {c:CoreX} (hc:c.Fit) (hg:goodC c):∃n,DataW Tryz.prog U7 [Fl c] (.tup [i64 n,bv (decide (mostC c))]):=by
 refine ⟨if mostC c then FY c c.ps.length else 0,?_⟩
 obtain ⟨_,_,_,a6,a7,a8⟩:=hg.hd
 have hps:=hg.ps
 have hfp:=hc.ps
 have hme:=(fitsC.bnd hg).me
 have hmxb:=(fitsC.bnd hg).mx
 have hfin:∀H,¬mostC c→LendV H (.tup [i64 0,bv false]) (.tup [i64 (if mostC c then FY c c.ps.length else 0),bv (decide (mostC c))]):=fun H h=>AH (by rw [if_neg h,decide_eq_false h])
 have hyes:∀H,mostC c→LendV H (.tup [i64 (FY c c.ps.length),bv true]) (.tup [i64 (if mostC c then FY c c.ps.length else 0),bv (decide (mostC c))]):=fun H h=>AH (by rw [if_pos h,decide_eq_true h])
 generalize hR:AV.tup [i64 (if mostC c then FY c c.ps.length else 0),bv (decide (mostC c))]=R at *
 clear hR
 refine AX AOz (by simp) ?_
 simp -implicitDefEqProofs -proj only [go_sem,seval]
 refine AK (fun b1 hb1=>?_)
 simp -implicitDefEqProofs -proj only [go_sem,seval,E9]
 have hamt:∀i:Nat,i≤c.ss.length→0≤sg (F4 c.ss) i∧sg (F4 c.ss) i≤1000000000000*i:=by
  intro i
  induction i with
  | zero=>intro _; exact ⟨Int.le_refl _,Int.le_refl _⟩
  | succ n ih =>
   intro hn
   have:=ih (by omega)
   have h1:=(fitsC.bnd hg).amt _ (List.getElem_mem (show n<c.ss.length by omega))
   rw [sg]
   have:F4 c.ss n=c.ss[n].a:=by unfold F4; rw [List.getElem?_eq_getElem (by omega)]
   omega
 refine D9 (fun i:Nat=>i≤c.ss.length) 71 (fun i=>[(1,.ptr b1 0),(4,i64 (sg (F4 c.ss) i)),(14,.d (.sl 3 (EL c.ss))),(15,i64 c.ss.length),(16,i64 i)]) (fun _=>[(b1,EI c)]) (fun i=>c.ss.length-i) 0 (Nat.zero_le _) rfl ?_ ?_ ?_
 ·simp -implicitDefEqProofs -proj only [go_sem,seval,AM,E9,sg]
 ·exact ⟨upd_eq,trivial⟩
 ·intro i hi
  have hk:AS (Ab [(b1,EI c)]) [(b1,EI c)]:=EQ (by simp [AT])
  have k1:=hk.1
  by_cases h:i<c.ss.length
  ·have hel:=JT h
   have hA:=hamt i hi
   have hA2:=hamt (i+1) (by omega)
   have hst:sg (F4 c.ss) (i+1)=sg (F4 c.ss) i+c.ss[i].a:=by rw [sg]; unfold F4; rw [List.getElem?_eq_getElem h]
   generalize c.ss[i]=s at *
   have w:IntKind.i64.wrap (sg (F4 c.ss) i+s.a)=sg (F4 c.ss) (i+1):=by rw [IntKind.wrap_i64]; omega
   simp -implicitDefEqProofs -proj only [go_sem,seval,decide_eq_true (show (i:Int)<c.ss.length by omega)]
   refine Ah _ (by omega) hel ?_
   simp -implicitDefEqProofs -proj only [go_sem,seval]
   refine AK (fun b6 hb6=>?_)
   simp -implicitDefEqProofs -proj only [go_sem,seval,w]
   refine Ad (i+1) (by omega) (by show c.ss.length-(i+1)<c.ss.length-i; omega) rfl ?_ (An hb6 hk)
   simp -implicitDefEqProofs -proj only [go_sem,seval,AM,AP (show i<9223372036854775807 by omega)]
  ·have hi':i=c.ss.length:=by omega
   subst hi'
   have hA:=hamt c.ss.length (Nat.le_refl _)
   simp -implicitDefEqProofs -proj only [go_sem,seval,k1,decide_eq_false (show ¬(c.ss.length:Int)<c.ss.length by omega),El]
   refine D9 (fun j:Nat=>j≤c.ps.length∧(∀(i:Nat) (h:i<c.ps.length),i<j→∀q:Nat,q<(EZ c.ms c.ps[i].me+1).toNat→JZ c.ps[i] q)∧∀i,i≤j→FY c i≤1152921504606846976) 71 (fun j=>[(1,.ptr b1 0),(4,i64 (FY c j)),(26,.d (.sl 9 (Ak c.ps))),(27,i64 c.ps.length),(28,i64 j)]) (fun _=>[(b1,EI c)]) (fun j=>c.ps.length-j) 0 ⟨Nat.zero_le _,fun i _ h=>absurd h (Nat.not_lt_zero _),fun i hi=>?_⟩ rfl ?_ ?_ ?_
   ·have:i=0:=by omega
    subst this
    simp -implicitDefEqProofs only [FY,sg]; omega
   ·simp -implicitDefEqProofs -proj only [go_sem,seval,AM,FY,sg,Int.add_zero,El]
   ·exact hk
   ·rintro j ⟨hj,hs1,hs2⟩
    by_cases h:j<c.ps.length
    ·have helj:=IW h
     have hx:=List.getElem_mem h
     have hok:=hps _ hx
     have hfx:=hfp _ hx
     obtain ⟨m0,m1⟩:=hme _ hx
     have hno1:∀q:Nat,q<(EZ c.ms c.ps[j].me+1).toNat→¬JZ c.ps[j] q→¬mostC c:=fun q hq hn k=>hn (k.parts j h q hq)
     have hno2:¬FY c (j+1)≤1152921504606846976→¬mostC c:=fun hn k=>hn (k.tot (j+1) (by omega))
     have hgo1:(∀q:Nat,q<(EZ c.ms c.ps[j].me+1).toNat→JZ c.ps[j] q)→∀(i:Nat) (h:i<c.ps.length),i<j+1→∀q:Nat,q<(EZ c.ms c.ps[i].me+1).toNat→JZ c.ps[i] q:=by
      intro e i hi hij
      by_cases hij2:i=j
      ·subst hij2; exact e
      ·exact hs1 i hi (by omega)
     have hb:=AI2 (c:=c) h
     have hT0:=hs2 j (Nat.le_refl _)
     have hT1:0≤FY c j:=by
      have:=hamt c.ss.length (Nat.le_refl _)
      have:=I5 (n:=j) fun i _=>Lu (c:=c) i
      unfold FY; omega
     have hmxn:=hmxb c.ps[j].me.toNat (by omega)
     have hmx:EZ c.ms c.ps[j].me=c.ms[c.ps[j].me.toNat].mx:=by unfold EZ; rw [List.getElem?_eq_getElem (by omega)]
     have helm:=Gl (show c.ps[j].me.toNat<c.ms.length by omega)
     rw [Int.toNat_natCast] at helm
     rw [←hmx] at hmxn
     generalize c.ms[c.ps[j].me.toNat]=mm at *
     generalize c.ps[j]=x at *
     rw [hmx] at hno1 hgo1 hb hmxn
     have G:=Nn hok
     have hcall:=fun (q:Int) (hq:Fit q)=>Rq (q:=q) hfx hq G (N1 G.ts)
     simp -implicitDefEqProofs -proj only [go_sem,seval,decide_eq_true (show (j:Int)<c.ps.length by omega)]
     refine Ah _ (by omega) helj ?_
     simp -implicitDefEqProofs -proj only [go_sem,seval]
     refine AK (fun b8 hb8=>?_)
     replace hb8:Ab [(b1,EI c)] b8=none:=hb8
     obtain ⟨n1,n2⟩:=AI hb8 k1
     simp -implicitDefEqProofs -proj only [go_sem,seval]
     refine D9 (fun k:Nat=>k≤(mm.mx+1).toNat∧0≤Gh x k∧Gh x k≤1152921504606846976∧∀q:Nat,q<k→JZ x q) 71 (fun k=>[(1,.ptr b1 0),(4,i64 (FY c j)),(26,.d (.sl 9 (Ak c.ps))),(27,i64 c.ps.length),(28,i64 j),(8,.ptr b8 0),(9,i64 (Gh x k)),(10,i64 k)]) (fun _=>[(b8,Blk.box 40 [i64 x.me,i64 x.f,i64 x.t,i64 x.al,i64 x.bl,i64 x.ki,EM x.ts,i64 x.mo,ET x.ad]),(b1,EI c)]) (fun k=>(mm.mx+1).toNat-k) 0 ⟨Nat.zero_le _,Int.le_refl _,(by show (0:Int)≤1152921504606846976; decide),fun q h=>absurd h (Nat.not_lt_zero _)⟩ rfl ?_ ?_ ?_
     ·simp -implicitDefEqProofs -proj only [go_sem,seval,AM,Gh]
     ·exact ⟨upd_eq,(AE n1).trans k1,trivial⟩
     ·rintro k ⟨hk',hb0,hb1,hq⟩
      have hkk:AS (Ab [(b8,Blk.box 40 [i64 x.me,i64 x.f,i64 x.t,i64 x.al,i64 x.bl,i64 x.ki,EM x.ts,i64 x.mo,ET x.ad]),(b1,EI c)]) [(b8,Blk.box 40 [i64 x.me,i64 x.f,i64 x.t,i64 x.al,i64 x.bl,i64 x.ki,EM x.ts,i64 x.mo,ET x.ad]),(b1,EI c)]:=EQ (by simp [AT,n1])
      obtain ⟨k8,kb1,_⟩:=id hkk
      simp -implicitDefEqProofs -proj only [go_sem,seval,k8,kb1,n1,n2]
      refine Ah _ m0 helm ?_
      by_cases h2:(k:Int)≤mm.mx
      ·have hck:=hcall k (by unfold Fit; omega)
       have hbs:Gh x (k+1)=max (Gh x k) (pv x k):=rfl
       simp -implicitDefEqProofs -proj only [go_sem,seval,k8,kb1,n1,n2,decide_eq_true h2]
       refine AJ hck ?_
       cases e:GG x (k:Int) with
       | none =>
        have hn:¬mostC c:=hno1 k (by omega) (fun ⟨n,h,_⟩=>by rw [e] at h; cases h)
        simp -implicitDefEqProofs -proj only [go_sem,seval,D7,Bool.not_false]
        exact hfin _ hn
       | some n =>
        have hpv:pv x k=n:=by unfold pv; rw [e]; rfl
        by_cases c1:1152921504606846976<n
        ·have hn:¬mostC c:=hno1 k (by omega) (fun ⟨n',h,_,h3⟩=>by rw [e] at h; cases h; omega)
         simp -implicitDefEqProofs -proj only [go_sem,seval,D7,Bool.not_true,decide_eq_true c1]
         exact hfin _ hn
        by_cases c2:n<0
        ·have hn:¬mostC c:=hno1 k (by omega) (fun ⟨n',h,h2,_⟩=>by rw [e] at h; cases h; omega)
         simp -implicitDefEqProofs -proj only [go_sem,seval,D7,Bool.not_true,decide_eq_false c1,decide_eq_true c2]
         exact hfin _ hn
        rw [hpv] at hbs
        simp -implicitDefEqProofs -proj only [go_sem,seval,D7,Bool.not_true,decide_eq_false c1,decide_eq_false c2]
        refine Ad (k+1) ⟨by omega,by rw [hbs]; omega,by rw [hbs]; omega,fun q hq2=>?_⟩ (by show (mm.mx+1).toNat-(k+1)<(mm.mx+1).toNat-k; omega) rfl ?_ hkk
        ·by_cases e2:q=k
         ·subst e2; exact ⟨n,e,by omega,by omega⟩
         ·exact hq q (by omega)
        ·simp -implicitDefEqProofs -proj only [go_sem,seval,AM,hbs,AP (show k<9223372036854775807 by omega)]
      ·have hk2:k=(mm.mx+1).toNat:=by omega
       subst hk2
       have w:IntKind.i64.wrap (FY c j+Gh x (mm.mx+1).toNat)=FY c (j+1):=by rw [IntKind.wrap_i64]; omega
       simp -implicitDefEqProofs -proj only [go_sem,seval,decide_eq_false h2,w]
       by_cases c1:1152921504606846976<FY c (j+1)
       ·simp -implicitDefEqProofs -proj only [go_sem,seval,decide_eq_true c1]
        exact hfin _ (hno2 (by omega))
       ·simp -implicitDefEqProofs -proj only [go_sem,seval,decide_eq_false c1]
        refine Ad (j+1) ⟨by omega,hgo1 hq,fun i hi=>?_⟩ (by show c.ps.length-(j+1)<c.ps.length-j; omega) rfl ?_ ⟨kb1,trivial⟩
        ·by_cases e2:i=j+1
         ·subst e2; omega
         ·exact hs2 i (by omega)
        ·simp -implicitDefEqProofs -proj only [go_sem,seval,AM,AP (show j<9223372036854775807 by omega)]
    ·have hj':j=c.ps.length:=by omega
     subst hj'
     have hm:mostC c:=⟨fun i hi=>hs1 i hi hi,hs2⟩
     have:=hs2 c.ps.length (Nat.le_refl _)
     simp -implicitDefEqProofs -proj only [go_sem,seval,decide_eq_false (show ¬(c.ps.length:Int)<c.ps.length by omega),decide_eq_true this]
     exact hyes _ hm
theorem Mh {c:CoreX} (hc:c.Fit):DataW Tryz.prog ARG [Fl c] (bv (decide (fitsC c))):=by
 have hgd:=ASR hc
 have hiff:=AIa (c:=c)
 have hmo:=fun h=>Wi hc (c:=c) h
 refine AX ATN (by simp) ?_
 simp -implicitDefEqProofs -proj only [go_sem,seval]
 refine AK (fun b1 hb1=>?_)
 simp -implicitDefEqProofs -proj only [go_sem,seval]
 refine AJ AM0 ?_
 by_cases g1:JX c
 ·simp -implicitDefEqProofs -proj only [go_sem,seval,decide_eq_true g1]
  exact AH (by rw [decide_eq_false (fun k=>(hiff.1 k).1 g1)])
 simp -implicitDefEqProofs -proj only [go_sem,seval,decide_eq_false g1]
 refine AJ hgd ?_
 by_cases g2:goodC c
 rotate_left
 ·simp -implicitDefEqProofs -proj only [go_sem,seval,decide_eq_false g2,Bool.not_false]
  exact AH (by rw [decide_eq_false (fun k=>g2 (hiff.1 k).2.1)])
 obtain ⟨n,hmo⟩:=hmo g2
 simp -implicitDefEqProofs -proj only [go_sem,seval,decide_eq_true g2,Bool.not_true]
 refine AJ hmo ?_
 simp -implicitDefEqProofs -proj only [go_sem,seval]
 exact AH (by rw [decide_eq_decide.2 (hiff.trans ⟨fun h=>h.2.2,fun h=>⟨g1,g2,h⟩⟩)])
def IT (f t:Int):PartX:=⟨0,f,t,0,1,1,[⟨0,2000000⟩],0,[]⟩
def core18:CoreX:=⟨⟨⟨[]⟩⟩,0,9,[⟨⟨⟨[109]⟩⟩,⟨⟨[]⟩⟩,3,0,0⟩],[],[IT 2 4,IT 5 9]⟩
theorem L4 {x:PartX} (h:x∈core18.ps):x=IT 2 4∨x=IT 5 9:=by
 rw [show core18.ps=[IT 2 4,IT 5 9] from rfl,List.mem_cons,List.mem_singleton] at h
 exact h
theorem Qh {f t:Int} (hf:Fit f) (ht:Fit t):(IT f t).Fit:=by
 refine ⟨by show Fit 0; decide,hf,ht,by show Fit 0; decide,by show Fit 1; decide,by show Fit 1; decide,?_,by show (1:Nat)≤_; decide,by show Fit 0; decide,?_,by show (0:Nat)≤_; decide⟩
 ·intro a h
  rw [show (IT f t).ts=[⟨0,2000000⟩] from rfl,List.mem_singleton] at h
  subst h
  exact ⟨by decide,by decide⟩
 ·intro a h
  cases h
theorem AOm:core18.Fit:=by
 refine ⟨by decide,by decide,?_,by decide,?_,by decide,?_,by decide⟩
 ·intro a h
  rw [show core18.ms=[⟨⟨⟨[109]⟩⟩,⟨⟨[]⟩⟩,3,0,0⟩] from rfl,List.mem_singleton] at h
  subst h
  exact ⟨by decide,by decide,by decide⟩
 ·intro a h
  cases h
 ·intro a h
  rcases L4 h with rfl | rfl
  ·exact Qh (by decide) (by decide)
  ·exact Qh (by decide) (by decide)
theorem Mb:goodC core18:=by
 refine ⟨by unfold JB; decide,?_,?_,?_⟩
 ·intro i h
  have:i=0:=by have:i<1:=h; omega
  subst this
  exact ⟨by decide +revert,by decide +revert,by decide +revert,fun p _ h=>absurd h (Nat.lt_irrefl _)⟩
 ·intro a h
  cases h
 ·intro a h
  have ht:∀(i:Nat) (h:i<1),F8 [⟨0,2000000⟩] i ([⟨0,2000000⟩][i]'h):=by
   intro i h
   have:i=0:=by omega
   subst this
   unfold F8
   decide +revert
  rcases L4 h with rfl | rfl
  ·exact ⟨by unfold HW; decide,ht,fun a h=>by cases h⟩
  ·exact ⟨by unfold HW; decide,ht,fun a h=>by cases h⟩
theorem Ry (q:Nat) (h:q<4):GG (IT 2 4) q=some ((2*q:Nat):Int)∧GG (IT 5 9) q=some ((2*q:Nat):Int):=by
 have:q=0∨q=1∨q=2∨q=3:=by omega
 rcases this with rfl | rfl | rfl | rfl <;> decide +kernel
theorem OT:fitsC core18:=by
 refine ⟨?_,Mb,?_,?_⟩
 ·rintro (h | ⟨m,hm,h⟩ | ⟨x,hx,h⟩)
  ·revert h; decide
  ·rw [show core18.ms=[⟨⟨⟨[109]⟩⟩,⟨⟨[]⟩⟩,3,0,0⟩] from rfl,List.mem_singleton] at hm
   subst hm
   revert h; unfold KZ; decide
  ·rcases L4 hx with rfl | rfl
   ·revert h; unfold KJ; decide
   ·revert h; unfold KJ; decide
 ·intro x hx q hq
  rcases L4 hx with rfl | rfl
  ·have hq:q<4:=hq
   exact ⟨_,(Ry q hq).1,by omega,by omega⟩
  ·have hq:q<4:=hq
   exact ⟨_,(Ry q hq).2,by omega,by omega⟩
 ·intro i hi
  have hi:i≤2:=hi
  have:i=0∨i=1∨i=2:=by omega
  rcases this with rfl | rfl | rfl <;> decide +kernel
def Lp:List (Seg Ek):=[⟨0,1,(0,[[0,0,0,0]])⟩,⟨2,9,(0,[[0,2,4,6]])⟩]
theorem WF {d:Int} (h0:0≤d) (h1:d≤1):Ew core18 d=(0,[[0,0,0,0]]):=by
 have:d=0∨d=1:=by omega
 rcases this with rfl | rfl <;> decide +kernel
theorem VA {d:Int} (h0:2≤d) (h1:d≤9):Ew core18 d=(0,[[0,2,4,6]]):=by
 have:d=2∨d=3∨d=4∨d=5∨d=6∨d=7∨d=8∨d=9:=by omega
 rcases this with rfl | rfl | rfl | rfl | rfl | rfl | rfl | rfl <;> decide +kernel
theorem YM:¬((0,[[0,0,0,0]]):Ek)=(0,[[0,2,4,6]]):=fun e=>by
 have:=congrArg (fun v:Ek=>v.2) e
 revert this
 decide
theorem AIz {val:Int→Ek} (ha:∀x,0≤x→x≤1→val x=(0,[[0,0,0,0]])) (hb:∀x,2≤x→x≤9→val x=(0,[[0,2,4,6]])):FwdB val 0 10 Lp:=by
 unfold Lp
 refine ⟨rfl,by show (0:Int)≤1; decide,fun x a b=>ha x a b,fun s hs=>?_,rfl,by show (2:Int)≤9; decide,fun x a b=>hb x a b,?_,rfl⟩
 ·cases hs
  exact YM
 ·intro s hs
  cases hs
theorem R3 {c:CoreX} (hg:goodC c) {lo hi:Int} (e1:c.f=lo) (e2:c.t+1=hi) {S:List (Seg Ek)} (h:FwdB (Ew c) lo hi S):FZ c=S:=by
 subst e1; subst e2
 exact FwdB.canon (J2 hg) h
theorem AUm:FZ core18=Lp:=R3 Mb (lo:=0) (hi:=10) rfl (by decide) (AIz (fun x a b=>WF a b) (fun x a b=>VA a b))
theorem ADB:EX [0,0,0,0]=[⟨0,0,0,0,1⟩]:=by decide +kernel
theorem ARY:EX [0,2,4,6]=[⟨0,0,1,2,4⟩]:=by decide +kernel
theorem T2:EN Lp=[[.int .i64 0,.int .i64 1,.int .i64 0,.sl 2 [[.int .i64 3,.sl 5 [[.int .i64 0,.int .i64 0,.int .i64 0,.int .i64 0,.int .i64 1]]]]],[.int .i64 2,.int .i64 9,.int .i64 0,.sl 2 [[.int .i64 3,.sl 5 [[.int .i64 0,.int .i64 0,.int .i64 1,.int .i64 2,.int .i64 4]]]]]]:=by
 simp [EN,KD,Lp,Au,Gw,ADB,ARY,FW,Grp.el]
theorem KV {c:CoreX} (hf:fitsC c):∀s∈FZ c,Is s:=by
 intro s hs
 obtain ⟨i,hi,rfl⟩:=List.getElem_of_mem hs
 obtain ⟨_,h2,_,h4,_⟩:=(J2 hf.good).nth i _ (List.getElem?_eq_getElem hi)
 have:=h4 _ (Int.le_refl _) h2
 obtain ⟨_,_,_,g6,_⟩:=hf.good.hd
 refine ⟨fun l hl=>?_,?_⟩
 ·rw [←this] at hl; exact L2 hf _ l hl
 ·rw [←this]; show (Em c _ c.ms.length).length≤1000000; rw [Ja]; omega
theorem Kd {c:CoreX} (hg:goodC c):(FZ c).length≤1000000:=by
 have h:=(J2 hg).len
 have:=hg.hd.2.2.1
 omega
theorem PU:∀a:List MeterX,Fc a a=true
 | []=>rfl
 | x::a=>by simp [Fc,mq,PU a]
theorem Pu {H:Heap} {cur:ByteArray} {f t:Int} {a b c:AV} {ms ss ps:List (List D)} (h1:LendV H a (.d (.sl 5 ms))) (h2:LendV H b (.d (.sl 3 ss))) (h3:LendV H c (.d (.sl 9 ps))):LendV H (.agg [.d (.str cur),i64 f,i64 t,a,b,c]) (KK cur f t ms ss ps):=by
 refine .agg _ _ rfl fun j u v e1 e2=>?_
 match j with
 | 0=>cases e1; cases e2; exact .refl _
 | 1=>cases e1; cases e2; exact .refl _
 | 2=>cases e1; cases e2; exact .refl _
 | 3=>cases e1; cases e2; exact h1
 | 4=>cases e1; cases e2; exact h2
 | 5=>cases e1; cases e2; exact h3
 | j+6=>cases e1
open Classical in
theorem Pn:DataW Tryz.prog AOE [] (bv true):=by
 have h1:=La AOm OT
 have h2:=QQ (cu:=core18.cur) (cu':=core18.cur) (f:=core18.f) (t:=core18.t) (f':=core18.f) (t':=core18.t) (ms:=core18.ms) (ms':=core18.ms) (S:=FZ core18) (S':=FZ core18) (by decide) (by decide) (KV OT) (KV OT) (Kd Mb) (Kd Mb)
 rw [AUm] at h1 h2
 simp -implicitDefEqProofs only [PU,decide_true,beq_self_eq_true,Bool.and_self,IE,Iq,T2] at h1 h2
 refine AX AGE (by simp) ?_
 simp -implicitDefEqProofs -proj only [go_sem,seval]
 refine As (fun b6 h6=>?_)
 simp -implicitDefEqProofs -proj only [go_sem,seval]
 refine AK (fun b1 hb1=>?_)
 replace hb1:upd Heap.none b6 (some _) b1=none:=hb1
 obtain ⟨n1,n2⟩:=AI hb1 upd_eq
 simp -implicitDefEqProofs -proj only [go_sem,seval,n1,n2]
 refine AK (fun b2 hb2=>?_)
 replace hb2:upd (upd Heap.none b6 (some _)) b1 _ b2=none:=hb2
 obtain ⟨n3,n4⟩:=AI hb2 upd_eq
 obtain ⟨n5,n6⟩:=AI hb2 (by rw [AE n1]; exact upd_eq)
 simp -implicitDefEqProofs -proj only [go_sem,seval,n1,n2,n3,n4,n5,n6]
 refine As (fun b13 h13=>?_)
 replace h13:upd (upd (upd Heap.none b6 (some _)) b1 _) b2 _ b13=none:=h13
 obtain ⟨n7,n8⟩:=AI h13 upd_eq
 obtain ⟨n9,n10⟩:=AI h13 (by rw [AE n3]; exact upd_eq)
 obtain ⟨n11,n12⟩:=AI h13 (by rw [AE n5,AE n1]; exact upd_eq)
 simp -implicitDefEqProofs -proj only [go_sem,seval,n1,n2,n3,n4,n5,n6,n7,n8,n9,n10,n11,n12]
 refine As (fun b16 h16=>?_)
 obtain ⟨H0,hH0⟩:∃H0,upd (upd (upd (upd (upd Heap.none b6 (some (.row 63 2 1 [[.int .i64 0,.int .i64 2000000]]))) b1 (some (.box 40 [zI,i64 2,i64 4,zI,i64 1,i64 1,.own b6 2 0 1 1,zI,.nilsl 3]))) b2 (some (.box 40 [zI,i64 5,i64 9,zI,i64 1,i64 1,.own b6 2 0 1 1,zI,.nilsl 3]))) b13 (some (.row 42 5 1 [[.str ⟨⟨[109]⟩⟩,.str ⟨⟨[]⟩⟩,.int .i64 3,.int .i64 0,.int .i64 0]]))) b6 none=H0:=⟨_,rfl⟩
 have q13:H0 b13=some (.row 42 5 1 [[.str ⟨⟨[109]⟩⟩,.str ⟨⟨[]⟩⟩,.int .i64 3,.int .i64 0,.int .i64 0]]):=by
  rw [←hH0,AE n12]; exact upd_eq
 replace h16:H0 b16=none:=by rw [←hH0]; exact h16
 obtain ⟨m1,m2⟩:=AI h16 q13
 have r13:=An (y:=some (.row 40 9 2 [[.int .i64 0,.int .i64 2,.int .i64 4,.int .i64 0,.int .i64 1,.int .i64 1,.sl 2 [[.int .i64 0,.int .i64 2000000]],.int .i64 0,.sl 3 []],[.int .i64 0,.int .i64 5,.int .i64 9,.int .i64 0,.int .i64 1,.int .i64 1,.sl 2 [[.int .i64 0,.int .i64 2000000]],.int .i64 0,.sl 3 []]])) h16 (show AS H0 [(b13,_)] from ⟨q13,trivial⟩)
 have a16:AS (upd H0 b16 (some (.row 40 9 2 [[.int .i64 0,.int .i64 2,.int .i64 4,.int .i64 0,.int .i64 1,.int .i64 1,.sl 2 [[.int .i64 0,.int .i64 2000000]],.int .i64 0,.sl 3 []],[.int .i64 0,.int .i64 5,.int .i64 9,.int .i64 0,.int .i64 1,.int .i64 1,.sl 2 [[.int .i64 0,.int .i64 2000000]],.int .i64 0,.sl 3 []]]))) ((b16,_)::[(b13,_)]):=⟨upd_eq,r13⟩
 have hnd:(AT [(b16,Blk.row 40 9 2 [[.int .i64 0,.int .i64 2,.int .i64 4,.int .i64 0,.int .i64 1,.int .i64 1,.sl 2 [[.int .i64 0,.int .i64 2000000]],.int .i64 0,.sl 3 []],[.int .i64 0,.int .i64 5,.int .i64 9,.int .i64 0,.int .i64 1,.int .i64 1,.sl 2 [[.int .i64 0,.int .i64 2000000]],.int .i64 0,.sl 3 []]]),(b13,.row 42 5 1 [[.str ⟨⟨[109]⟩⟩,.str ⟨⟨[]⟩⟩,.int .i64 3,.int .i64 0,.int .i64 0]])]).Nodup:=by simp [AT,m1]
 have hk:=EQ hnd
 simp -implicitDefEqProofs -proj only [go_sem,seval,hH0]
 refine Rc h1 (FE (Pu (Lf hk.2.1 rfl) (.nilsl _ _) (Lf hk.1 rfl)) GY) (JD a16) (fun k=>.inl (Heap.none_get k)) ?_
 simp -implicitDefEqProofs -proj only [go_sem,seval]
 refine AK (fun b3 hb3=>?_)
 simp -implicitDefEqProofs -proj only [go_sem,seval]
 iterate 6 (refine Ah _ (by decide) rfl ?_; simp -implicitDefEqProofs -proj only [go_sem,seval])
 refine AJ h2 ?_
 simp -implicitDefEqProofs -proj only [go_sem,seval]
 exact AH rfl
theorem TZ {α:Type} (φ : α→Int) (l:List α):∀n:Nat,n≤l.length→sg (fun j=>match l[j]? with | some x=>φ x | none=>0) n=((l.take n).map φ).sum
 | 0,_=>rfl
 | n+1,h=>by
  have hn:n<l.length:=by omega
  rw [sg,TZ φ l n (by omega),List.take_succ_eq_append_getElem hn,List.map_append,List.sum_append]
  simp -implicitDefEqProofs only [List.getElem?_eq_getElem hn,List.map_cons,List.map_nil,List.sum_cons,List.sum_nil]
  omega
theorem Ny {α:Type} (φ : α→Int) (l:List α):sg (fun j=>match l[j]? with | some x=>φ x | none=>0) l.length=(l.map φ).sum:=by
 rw [TZ φ l l.length (Nat.le_refl _),List.take_length]
theorem S0 {α:Type} (φ : α→Int) (l:List α):(l.reverse.map φ).sum=(l.map φ).sum:=by
 induction l with
 | nil=>rfl
 | cons x l ih=>rw [List.reverse_cons,List.map_append,List.sum_append,ih,List.map_cons,List.sum_cons]; simp -implicitDefEqProofs only [List.map_cons,List.map_nil,List.sum_cons,List.sum_nil]; omega
def JQ (d:Int) (s:SumX):Int:=if EO d s.f s.t then s.a else 0
def Le (d:Int) (m:Nat) (x:PartX):Int:=if x.me=m∧EO d x.f x.t then pv x 0 else 0
def K8 (d:Int) (m:Nat) (q:Int) (x:PartX):Int:=if x.me=m∧EO d x.f x.t then pv x q-pv x 0 else 0
theorem M8 {c:CoreX} {d:Int}:Hl c d=(c.ss.map (JQ d)).sum:=by
 unfold Hl
 rw [←Ny (JQ d) c.ss]
 exact GT fun j _=>by unfold Fj; cases c.ss[j]? <;> rfl
theorem NR {c:CoreX} {d:Int} {m:Nat}:Hv c d m=(c.ps.map (Le d m)).sum:=by
 unfold Hv
 rw [←Ny (Le d m) c.ps]
 exact GT fun j _=>by unfold J5; cases c.ps[j]? <;> rfl
theorem Ms {c:CoreX} {d:Int} {m:Nat} {q:Int}:FC c d m q=(c.ps.map (K8 d m q)).sum:=by
 unfold FC
 rw [←Ny (K8 d m q) c.ps]
 exact GT fun j _=>by unfold GB; cases c.ps[j]? <;> rfl
theorem AJY {c d:CoreX} {x:Int} (hm:c.ms=d.ms) (h1:(c.ss.map (JQ x)).sum=(d.ss.map (JQ x)).sum) (h2:∀m,(c.ps.map (Le x m)).sum=(d.ps.map (Le x m)).sum) (h3:∀m q,(c.ps.map (K8 x m q)).sum=(d.ps.map (K8 x m q)).sum):Ew c x=Ew d x:=by
 have e1:ES c x=ES d x:=by
  unfold ES
  rw [M8,M8,h1,hm]
  exact congrArg _ (GT fun m _=>by rw [NR,NR,h2])
 have e2:Em c x c.ms.length=Em d x d.ms.length:=by
  unfold Em Ht
  rw [hm]
  refine List.map_congr_left fun m _=>List.map_congr_left fun q _=>?_
  rw [Ms,Ms,h3]
 show (ES c x,Em c x c.ms.length)=(ES d x,Em d x d.ms.length)
 rw [e1,e2]
def H9 (at_ day:Int) (i:Nat) (x:PartX):List PartX:=if (i:Int)=at_∧x.f≤day∧day<x.t then [{ x with f:=day+1 },{ x with t:=day }] else [x]
def EH (ps:List PartX) (at_ day:Int):Nat→List PartX
 | 0=>[]
 | i+1=>EH ps at_ day i++(match ps[ps.length-1-i]? with | some x=>H9 at_ day i x | none=>[])
def Fr (ss:List SumX):Nat→List SumX
 | 0=>[]
 | i+1=>Fr ss i++(match ss[ss.length-1-i]? with | some x=>[x] | none=>[])
theorem RZ {φ:PartX→Int} {v:PartX→Int} {x0:Int} {p:PartX→Prop} [DecidablePred p] (hφ:∀x,φ x=if p x∧EO x0 x.f x.t then v x else 0) (hp:∀(x:PartX) f t,p { x with f:=f,t:=t }↔p x) (hv:∀(x:PartX) f t,v { x with f:=f,t:=t }=v x) {at_ day:Int} {i:Nat} {x:PartX}:((H9 at_ day i x).map φ).sum = φ x:=by
 unfold H9
 split
 ·next h =>
  obtain ⟨_,h1,h2⟩:=h
  simp -implicitDefEqProofs only [List.map_cons,List.map_nil,List.sum_cons,List.sum_nil,hφ]
  have a1:=hp x (day+1) x.t
  have a2:=hp x x.f day
  have b1:=hv x (day+1) x.t
  have b2:=hv x x.f day
  simp -implicitDefEqProofs only [a1,a2,b1,b2]
  unfold EO
  by_cases hpx:p x
  ·by_cases c1:x0≤day
   ·rw [if_neg (fun e=>by have:=e.2.1; omega)]
    by_cases c2:x.f≤x0
    ·rw [if_pos ⟨hpx,c2,c1⟩,if_pos ⟨hpx,c2,by omega⟩]; omega
    ·rw [if_neg (fun e=>c2 e.2.1),if_neg (fun e=>c2 e.2.1)]; rfl
   ·rw [if_neg (show ¬(p x∧x.f≤x0∧x0≤day) from fun e=>c1 e.2.2)]
    by_cases c2:x0≤x.t
    ·rw [if_pos ⟨hpx,by omega,c2⟩,if_pos ⟨hpx,by omega,c2⟩]; omega
    ·rw [if_neg (fun e=>c2 e.2.2),if_neg (fun e=>c2 e.2.2)]; rfl
  ·rw [if_neg (fun e=>hpx e.1),if_neg (fun e=>hpx e.1),if_neg (fun e=>hpx e.1)]; rfl
 ·simp
theorem RC {φ:PartX→Int} {ps:List PartX} {at_ day:Int} (hc:∀i x,((H9 at_ day i x).map φ).sum = φ x):∀i:Nat,i≤ps.length→((EH ps at_ day i).map φ).sum=((ps.reverse.take i).map φ).sum
 | 0,_=>rfl
 | i+1,h=>by
  have hi:i<ps.reverse.length:=by rw [List.length_reverse]; omega
  have hp:ps.length-1-i<ps.length:=by omega
  rw [EH,List.map_append,List.sum_append,RC hc i (by omega),List.take_succ_eq_append_getElem hi,List.map_append,List.sum_append,List.getElem?_eq_getElem hp]
  simp -implicitDefEqProofs only [hc,List.getElem_reverse,List.map_cons,List.map_nil,List.sum_cons,List.sum_nil]
  omega
theorem Td {φ:PartX→Int} {ps:List PartX} {at_ day:Int} (hc:∀i x,((H9 at_ day i x).map φ).sum = φ x):((EH ps at_ day ps.length).map φ).sum=(ps.map φ).sum:=by
 rw [RC hc ps.length (Nat.le_refl _),List.take_of_length_le (by rw [List.length_reverse]; exact Nat.le_refl _),S0]
theorem LG {ss:List SumX}:∀i:Nat,i≤ss.length→Fr ss i=ss.reverse.take i
 | 0,_=>rfl
 | i+1,h=>by
  have hi:i<ss.reverse.length:=by rw [List.length_reverse]; omega
  have hp:ss.length-1-i<ss.length:=by omega
  rw [Fr,LG i (by omega),List.take_succ_eq_append_getElem hi,List.getElem?_eq_getElem hp]
  simp -implicitDefEqProofs only [List.getElem_reverse]
def JG (c:CoreX) (at_ day:Int):CoreX:=⟨c.cur,c.f,c.t,c.ms,⟨0,c.f,c.t⟩::Fr c.ss c.ss.length,EH c.ps at_ day c.ps.length⟩
theorem ordC_day {c:CoreX} {at_ day x:Int}:Ew (JG c at_ day) x=Ew c x:=by
 refine AJY rfl ?_ (fun m=>?_) (fun m q=>?_)
 ·show ((⟨0,c.f,c.t⟩::Fr c.ss c.ss.length).map (JQ x)).sum=_
  rw [List.map_cons,List.sum_cons,LG _ (Nat.le_refl _),List.take_of_length_le (by rw [List.length_reverse]; exact Nat.le_refl _),S0]
  have h0:JQ x ⟨0,c.f,c.t⟩=0:=by unfold JQ; split <;> rfl
  rw [h0]; omega
 ·exact Td fun i y=>RZ (p:=fun y=>y.me=m) (v:=fun y=>pv y 0) (x0:=x) (fun y=>rfl) (fun y f t=>Iff.rfl) (fun y f t=>rfl)
 ·exact Td fun i y=>RZ (p:=fun y=>y.me=m) (v:=fun y=>pv y q-pv y 0) (x0:=x) (fun y=>rfl) (fun y f t=>Iff.rfl) (fun y f t=>rfl)
theorem AB2 {c:CoreX} {at_ day:Int} (hc:goodC c) (hd:goodC (JG c at_ day)):FZ (JG c at_ day)=FZ c:=by
 refine R3 hd (lo:=c.f) (hi:=c.t+1) rfl rfl ?_
 exact FwdB.congr (fun x _ _=>ordC_day.symm) (J2 hc)
theorem Oj {ps:List PartX} {at_ day:Int}:∀i:Nat,(EH ps at_ day i).length≤2*i
 | 0=>Nat.le_refl _
 | i+1=>by
  rw [EH,List.length_append]
  have:=Oj (ps:=ps) (at_:=at_) (day:=day) i
  have h:(match ps[ps.length-1-i]? with | some x=>H9 at_ day i x | none=>[]).length≤2:=by
   split
   ·unfold H9; split <;> simp
   ·simp
  omega
theorem AKS {c:CoreX} {at_ day:Int} (hc:c.Fit) (hd:Fit day) (hp:c.ps.length≤7) (hs:c.ss.length≤7):(JG c at_ day).Fit:=by
 refine ⟨hc.f,hc.t,hc.ms,hc.mn,fun a ha=>?_,?_,fun a ha=>?_,?_⟩
 ·rcases List.mem_cons.1 ha with rfl | ha
  ·exact ⟨by show Fit 0; decide,hc.f,hc.t⟩
  ·rw [LG _ (Nat.le_refl _)] at ha
   exact hc.ss a (by simpa using List.mem_of_mem_take ha)
 ·show (Fr c.ss c.ss.length).length+1≤_
  rw [LG _ (Nat.le_refl _),List.length_take,List.length_reverse]
  omega
 ·have key:∀i,∀a∈EH c.ps at_ day i,a.Fit:=by
   intro i
   induction i with
   | zero=>intro a h; cases h
   | succ i ih =>
    intro a h
    rw [EH] at h
    rcases List.mem_append.1 h with h | h
    ·exact ih a h
    ·cases e:c.ps[c.ps.length-1-i]? with
     | none=>rw [e] at h; cases h
     | some x =>
      rw [e] at h
      have hx:=hc.ps x (List.mem_of_getElem? e)
      simp -implicitDefEqProofs only at h
      unfold H9 at h
      split at h
      ·next k =>
       have hxt:=hx.t
       rcases List.mem_cons.1 h with rfl | h
       ·exact ⟨hx.me,by unfold Fit at hxt hd ⊢; show _≤day+1∧day+1≤_; omega,hx.t,hx.al,hx.bl,hx.ki,hx.ts,hx.tn,hx.mo,hx.ad,hx.an⟩
       ·rw [List.mem_singleton] at h
        subst h
        exact ⟨hx.me,hx.f,hd,hx.al,hx.bl,hx.ki,hx.ts,hx.tn,hx.mo,hx.ad,hx.an⟩
      ·rw [List.mem_singleton] at h; subst h; exact hx
  exact key _ a ha
 ·have:=Oj (ps:=c.ps) (at_:=at_) (day:=day) c.ps.length
  show (EH c.ps at_ day c.ps.length).length≤_
  omega
open Classical in
theorem AIk {cu cu':ByteArray} {f t f' t':Int} {ms ms':List MeterX} {S S':List (Seg Ek)} (hm:ms.length≤1000000) (hm':ms'.length≤1000000) (hS:∀s∈S,Is s) (hS':∀s∈S',Is s) (hl:S.length≤1000000) (hl':S'.length≤1000000):DataW Tryz.prog TC [IE cu f t ms S,IE cu' f' t' ms' S'] (bv ((cu.toList == cu'.toList)&&(decide (f=f')&&(decide (t=t')&&(Fc ms ms'&&decide (S=S')))))):=by
 refine AX ADx (by simp) ?_
 simp -implicitDefEqProofs -proj only [go_sem,seval]
 refine AK (fun b2 hb2=>?_)
 simp -implicitDefEqProofs -proj only [go_sem,seval]
 refine AK (fun b3 hb3=>?_)
 replace hb3:upd Heap.none b2 _ b3=none:=hb3
 obtain ⟨n1,n2⟩:=AI hb3 upd_eq
 cases c1:cu.toList == cu'.toList
 ·simp -implicitDefEqProofs -proj only [go_sem,seval,n1,n2,IO,c1]
  exact AH (by simp)
 by_cases hf:f=f'
 rotate_left
 ·simp -implicitDefEqProofs -proj only [go_sem,seval,n1,n2,IO,c1,decide_eq_false hf]
  exact AH (by simp)
 by_cases ht:t=t'
 rotate_left
 ·simp -implicitDefEqProofs -proj only [go_sem,seval,n1,n2,IO,c1,decide_eq_true hf,decide_eq_false ht]
  exact AH (by simp)
 by_cases h3:ms.length=ms'.length
 rotate_left
 ·rw [Ng h3]
  simp -implicitDefEqProofs -proj only [go_sem,seval,n1,n2,IO,c1,decide_eq_true hf,decide_eq_true ht,E2,decide_eq_false (show ¬(ms.length:Int)=ms'.length by omega)]
  exact AH (by simp)
 by_cases h4:S.length=S'.length
 rotate_left
 ·rw [decide_eq_false (show ¬S=S' from fun e=>h4 (by rw [e]))]
  simp -implicitDefEqProofs -proj only [go_sem,seval,n1,n2,IO,c1,decide_eq_true hf,decide_eq_true ht,E2,Jx,decide_eq_true (show (ms.length:Int)=ms'.length by omega),decide_eq_false (show ¬(S.length:Int)=S'.length by omega)]
  exact AH (by simp)
 rw [decide_eq_true hf,decide_eq_true ht]
 simp -implicitDefEqProofs only [Bool.true_and]
 have hk:AS (Ab [(b3,Fx cu' f' t' ms' S'),(b2,Fx cu f t ms S)]) [(b3,Fx cu' f' t' ms' S'),(b2,Fx cu f t ms S)]:=EQ (by simp [AT,n1])
 obtain ⟨k3,k2,_⟩:=id hk
 simp -implicitDefEqProofs only [Fx] at k3 k2
 simp -implicitDefEqProofs -proj only [go_sem,seval,n1,n2,IO,c1,decide_eq_true hf,decide_eq_true ht,E2,Jx,decide_eq_true (show (ms.length:Int)=ms'.length by omega),decide_eq_true (show (S.length:Int)=S'.length by omega)]
 refine D9 (fun i:Nat=>i≤ms.length∧Fc (ms.drop i) (ms'.drop i)=Fc ms ms') 111 (fun i=>[(2,.ptr b2 0),(3,.ptr b3 0),(46,i64 ms.length),(47,i64 i)]) (fun _=>[(b3,Fx cu' f' t' ms' S'),(b2,Fx cu f t ms S)]) (fun i=>ms.length-i) 0 ⟨Nat.zero_le _,by simp⟩ rfl ?_ ?_ ?_
 ·simp -implicitDefEqProofs -proj only [go_sem,seval,AM]
 ·exact ⟨upd_eq,(AE n1).trans upd_eq,trivial⟩
 ·rintro i ⟨hi,hat⟩
  simp -implicitDefEqProofs only [Fx]
  by_cases h:i<ms.length
  ·have h':i<ms'.length:=by omega
   have e1:=Gl h
   have e2:=Gl h'
   rw [List.drop_eq_getElem_cons h,List.drop_eq_getElem_cons h',Fc] at hat
   generalize ms[i]=x at *
   generalize ms'[i]=y at *
   simp -implicitDefEqProofs -proj only [go_sem,seval,k3,k2,n1,n2,decide_eq_true (show (i:Int)<ms.length by omega)]
   refine Ah _ (by omega) e1 ?_
   simp -implicitDefEqProofs -proj only [go_sem,seval,k3,k2,n1,n2]
   refine Ah _ (by omega) e2 ?_
   cases hp:mq x y
   ·rw [hp,Bool.false_and] at hat
    unfold mq at hp
    simp -implicitDefEqProofs -proj only [go_sem,seval,hp]
    rw [←hat]
    exact AH rfl
   ·rw [hp,Bool.true_and] at hat
    unfold mq at hp
    simp -implicitDefEqProofs -proj only [go_sem,seval,hp]
    refine Ad (i+1) ⟨by omega,hat⟩ (by omega) rfl ?_ hk
    simp -implicitDefEqProofs -proj only [go_sem,seval,AM,AP (show i<9223372036854775807 by omega)]
  ·have hi':i=ms.length:=by omega
   subst hi'
   rw [List.drop_length,h3,List.drop_length] at hat
   rw [←hat]
   simp -implicitDefEqProofs only [Fc,Bool.true_and]
   simp -implicitDefEqProofs -proj only [go_sem,seval,k3,k2,n1,n2,decide_eq_false (show ¬(ms.length:Int)<ms.length by omega),Jx]
   refine D9 (fun i:Nat=>i≤S.length∧∀(j:Nat) (h:j<S.length) (h2:j<S'.length),j<i→S[j]=S'[j]) 111 (fun i=>[(2,.ptr b2 0),(3,.ptr b3 0),(64,i64 S.length),(65,i64 i)]) (fun _=>[(b3,Fx cu' f' t' ms' S'),(b2,Fx cu f t ms S)]) (fun i=>S.length-i) 0 ⟨Nat.zero_le _,fun j _ _ h=>absurd h (Nat.not_lt_zero _)⟩ rfl ?_ hk ?_
   ·simp -implicitDefEqProofs -proj only [go_sem,seval,AM]
   ·rintro i ⟨hi,hat⟩
    simp -implicitDefEqProofs only [Fx]
    by_cases h:i<S.length
    ·have h':i<S'.length:=by omega
     have e1:=Mf h
     have e2:=Mf h'
     have ca:=hS _ (List.getElem_mem h)
     have cb:=hS' _ (List.getElem_mem h')
     have hst:=fun (e:S[i]=S'[i])=>HL (l:=List.range S.length) (P:=fun j _=>∀(h:j<S.length) (h2:j<S'.length),S[j]=S'[j]) (i:=i) (x:=i) (by simp [h]) (fun j hj hji=>fun h1 h2=>hat j h1 h2 hji) (fun _ _=>e)
     have hne:=fun (e:¬S[i]=S'[i])=>show ¬S=S' from fun k=>e (by subst k; rfl)
     have hcall:=AHC ca.1 cb.1 ca.2 cb.2
     generalize S[i]=x at *
     generalize S'[i]=y at *
     by_cases p1:x.f=y.f
     rotate_left
     ·rw [decide_eq_false (hne (fun e=>p1 (by rw [e])))]
      simp -implicitDefEqProofs -proj only [go_sem,seval,k3,k2,n1,n2,decide_eq_true (show (i:Int)<S.length by omega)]
      refine Ah _ (by omega) e1 ?_
      simp -implicitDefEqProofs -proj only [go_sem,seval,k3,k2,n1,n2]
      refine Ah _ (by omega) e2 ?_
      simp -implicitDefEqProofs -proj only [go_sem,seval,k3,k2,n1,n2,decide_eq_false p1]
      exact AH rfl
     by_cases p2:x.t=y.t
     rotate_left
     ·rw [decide_eq_false (hne (fun e=>p2 (by rw [e])))]
      simp -implicitDefEqProofs -proj only [go_sem,seval,k3,k2,n1,n2,decide_eq_true (show (i:Int)<S.length by omega)]
      refine Ah _ (by omega) e1 ?_
      simp -implicitDefEqProofs -proj only [go_sem,seval,k3,k2,n1,n2]
      refine Ah _ (by omega) e2 ?_
      simp -implicitDefEqProofs -proj only [go_sem,seval,k3,k2,n1,n2,decide_eq_true p1]
      refine Ah _ (by omega) e1 ?_
      simp -implicitDefEqProofs -proj only [go_sem,seval,k3,k2,n1,n2]
      refine Ah _ (by omega) e2 ?_
      simp -implicitDefEqProofs -proj only [go_sem,seval,k3,k2,n1,n2,decide_eq_false p2]
      exact AH rfl
     simp -implicitDefEqProofs -proj only [go_sem,seval,k3,k2,n1,n2,decide_eq_true (show (i:Int)<S.length by omega)]
     refine Ah _ (by omega) e1 ?_
     simp -implicitDefEqProofs -proj only [go_sem,seval,k3,k2,n1,n2]
     refine Ah _ (by omega) e2 ?_
     simp -implicitDefEqProofs -proj only [go_sem,seval,k3,k2,n1,n2,decide_eq_true p1]
     refine Ah _ (by omega) e1 ?_
     simp -implicitDefEqProofs -proj only [go_sem,seval,k3,k2,n1,n2]
     refine Ah _ (by omega) e2 ?_
     simp -implicitDefEqProofs -proj only [go_sem,seval,k3,k2,n1,n2,decide_eq_true p2]
     refine Ah _ (by omega) e1 ?_
     simp -implicitDefEqProofs -proj only [go_sem,seval,k3,k2,n1,n2]
     refine Ah _ (by omega) e2 ?_
     simp -implicitDefEqProofs -proj only [go_sem,seval,k3,k2,n1,n2]
     refine AJ hcall ?_
     by_cases p3:x.v=y.v
     ·simp -implicitDefEqProofs -proj only [go_sem,seval,decide_eq_true p3]
      refine Ad (i+1) ⟨by omega,fun j h1 h2 hj=>hst (OA.1 ⟨p1,p2,p3⟩) j (by simpa using h1) (by omega) h1 h2⟩ (by omega) rfl ?_ hk
      simp -implicitDefEqProofs -proj only [go_sem,seval,AM,AP (show i<9223372036854775807 by omega)]
     ·rw [decide_eq_false (hne (fun e=>p3 (by rw [e])))]
      simp -implicitDefEqProofs -proj only [go_sem,seval,decide_eq_false p3]
      exact AH rfl
    ·have hi':i=S.length:=by omega
     subst hi'
     rw [decide_eq_true (List.ext_getElem h4 fun j h1 h2=>hat j h1 h2 h1)]
     simp -implicitDefEqProofs -proj only [go_sem,seval,k3,k2,decide_eq_false (show ¬(S.length:Int)<S.length by omega)]
     exact AH rfl
open Classical in
noncomputable def Kp (a b:CoreX):Bool:=(a.cur.toList == b.cur.toList)&&(decide (a.f=b.f)&&(decide (a.t=b.t)&&(Fc a.ms b.ms&&decide (FZ a=FZ b))))
theorem Q6 {a b:CoreX} (ha:fitsC a) (hb:fitsC b):DataW Tryz.prog Qz [IE a.cur a.f a.t a.ms (FZ a),IE b.cur b.f b.t b.ms (FZ b)] (bv (Kp a b)):=by
 obtain ⟨_,_,_,g1,_⟩:=ha.good.hd
 obtain ⟨_,_,_,g2,_⟩:=hb.good.hd
 exact QQ (by omega) (by omega) (KV ha) (KV hb) (Kd ha.good) (Kd hb.good)
theorem QZ {a b:CoreX} (ha:fitsC a) (hb:fitsC b):DataW Tryz.prog TC [IE a.cur a.f a.t a.ms (FZ a),IE b.cur b.f b.t b.ms (FZ b)] (bv (Kp a b)):=by
 obtain ⟨_,_,_,g1,_⟩:=ha.good.hd
 obtain ⟨_,_,_,g2,_⟩:=hb.good.hd
 exact AIk (by omega) (by omega) (KV ha) (KV hb) (Kd ha.good) (Kd hb.good)
structure OrdX where
 i:Nat
 c:Nat
 cap:Nat
theorem Ft {i c cap:Nat}:(OrdX.mk i c cap).i=i:=(rfl)
theorem HC {i c cap:Nat}:(OrdX.mk i c cap).c=c:=(rfl)
theorem G3 {i c cap:Nat}:(OrdX.mk i c cap).cap=cap:=(rfl)
def FU (c:CoreX) (a b:AV):Blk:=.box 26 [.d (.str c.cur),i64 c.f,i64 c.t,.d (.sl 5 (EK c.ms)),a,b]
def I8 (b3 b7:Nat) (c:CoreX) (y:OrdX):List (Nat×Blk):=Ai 60 3 y.c y.cap (EL (⟨0,c.f,c.t⟩::Fr c.ss y.i))++[(b7,FU c (A0 3 3 y.c y.cap (EL (⟨0,c.f,c.t⟩::Fr c.ss y.i))) (.d (.sl 9 (Ak c.ps)))),(b3,EI c)]
def II (b3 b7 k cap:Nat) (c:CoreX) (at_ day:Int) (SS:List (List D)) (y:OrdX):List (Nat×Blk):=Ai 40 9 y.c y.cap (Ak (EH c.ps at_ day y.i))++(Ai 60 3 k cap SS++[(b7,FU c (A0 3 3 k cap SS) (A0 0 9 y.c y.cap (Ak (EH c.ps at_ day y.i)))),(b3,EI c)])
theorem NormalOrder_ok {c:CoreX} {at_ day:Int} (hc:c.Fit) (ha:Fit at_) (hd:Fit day):DataW Tryz.prog Zc [Fl c,i64 at_,i64 day] (bv true):=by
 have hft:=Mh hc
 refine AX AGQ (by simp) ?_
 simp -implicitDefEqProofs -proj only [go_sem,seval]
 refine AK (fun b3 hb3=>?_)
 simp -implicitDefEqProofs -proj only [go_sem,seval]
 refine AJ Pn ?_
 simp -implicitDefEqProofs -proj only [go_sem,seval]
 refine AJ hft ?_
 by_cases g0:fitsC c
 rotate_left
 ·simp -implicitDefEqProofs -proj only [go_sem,seval,decide_eq_false g0,Bool.not_false]
  exact AH rfl
 by_cases g1:7<(c.ps.length:Int)
 ·simp -implicitDefEqProofs -proj only [go_sem,seval,decide_eq_true g0,Bool.not_true,El,decide_eq_true g1]
  exact AH rfl
 by_cases g2:7<(c.ss.length:Int)
 ·simp -implicitDefEqProofs -proj only [go_sem,seval,decide_eq_true g0,Bool.not_true,El,E9,decide_eq_false g1,decide_eq_true g2]
  exact AH rfl
 by_cases g3:at_<0
 ·simp -implicitDefEqProofs -proj only [go_sem,seval,decide_eq_true g0,Bool.not_true,El,E9,decide_eq_false g1,decide_eq_false g2,decide_eq_true g3]
  exact AH rfl
 by_cases g4:(c.ps.length:Int)≤at_
 ·simp -implicitDefEqProofs -proj only [go_sem,seval,decide_eq_true g0,Bool.not_true,El,E9,decide_eq_false g1,decide_eq_false g2,decide_eq_false g3,decide_eq_true g4]
  exact AH rfl
 have hfD:=AKS (at_:=at_) (day:=day) hc hd (by omega) (by omega)
 have hftD:=Mh hfD
 simp -implicitDefEqProofs -proj only [go_sem,seval,decide_eq_true g0,Bool.not_true,El,E9,decide_eq_false g1,decide_eq_false g2,decide_eq_false g3,decide_eq_false g4]
 refine AK (fun b7 hb7=>?_)
 replace hb7:upd Heap.none b3 _ b7=none:=hb7
 obtain ⟨n1,n2⟩:=AI hb7 upd_eq
 simp -implicitDefEqProofs -proj only [go_sem,seval,n1,n2]
 refine As (fun b50 hb50=>?_)
 replace hb50:upd (upd Heap.none b3 _) b7 (some _) b50=none:=hb50
 obtain ⟨n3,n4⟩:=AI hb50 upd_eq
 obtain ⟨n5,n6⟩:=AI hb50 (by rw [AE n1]; exact upd_eq)
 simp -implicitDefEqProofs -proj only [go_sem,seval,n1,n2,n3,n4,n5,n6,E9]
 refine D9 (fun y:OrdX=>y.i≤c.ss.length∧(AT (I8 b3 b7 c y)).Nodup) 154 (fun y=>[(1,i64 at_),(2,i64 day),(3,.ptr b3 0),(7,.ptr b7 0),(54,i64 c.ss.length),(55,i64 y.i)]) (I8 b3 b7 c) (fun y=>c.ss.length-y.i) ⟨0,b50,1⟩ ⟨Nat.zero_le _,?_⟩ rfl ?_ ?_ ?_
 ·simp [I8,Fr,EL,Ai,AT,Ft,HC,G3,n1,n3,n5]
 ·simp -implicitDefEqProofs -proj only [go_sem,seval,AM,Ft]
  try rfl
 ·simp -implicitDefEqProofs only [I8,Fr,EL,Ai,A0,Ft,HC,G3,List.map_cons,List.map_nil,List.length_cons,List.length_nil]
  simp -implicitDefEqProofs -proj only [go_sem,seval,AS,n1,n2,n3,n4,n5,n6]
  exact ⟨rfl,rfl,rfl⟩
 rintro ⟨i,k,cap⟩ ⟨hi,hnd⟩
 simp -implicitDefEqProofs only [Ft] at hi
 have hall:=EQ hnd
 obtain ⟨H,hH⟩:∃H,Ab (I8 b3 b7 c ⟨i,k,cap⟩)=H:=⟨_,rfl⟩
 rw [hH] at hall
 simp -implicitDefEqProofs only [I8,Ft,HC,G3] at hall hnd
 obtain ⟨hrow,h7,h3,_⟩:=EF.1 hall
 have hne:∀i,EL (⟨0,c.f,c.t⟩::Fr c.ss i)≠[]:=fun i=>by simp [EL]
 have hln:∀i,i≤c.ss.length→(EL (⟨0,c.f,c.t⟩::Fr c.ss i)).length=i+1:=fun i h=>by rw [E9,List.length_cons,LG i h,List.length_take,List.length_reverse]; omega
 simp -implicitDefEqProofs only [FU,EI] at h7 h3
 by_cases hlt:i<c.ss.length
 ·have hp:c.ss.length-1-i<c.ss.length:=by omega
  have hel:=JT hp
  have hstep:Fr c.ss (i+1)=Fr c.ss i++[c.ss[c.ss.length-1-i]]:=by rw [Fr,List.getElem?_eq_getElem hp]
  have w1:IntKind.i64.wrap ((c.ss.length:Int)-1)=(c.ss.length:Int)-1:=by rw [IntKind.wrap_i64]; omega
  have w2:IntKind.i64.wrap ((c.ss.length:Int)-1-(i:Int))=((c.ss.length-1-i:Nat):Int):=by rw [IntKind.wrap_i64]; omega
  have l1:=hln i hi
  have l2:=hln (i+1) (by omega)
  generalize c.ss[c.ss.length-1-i]=x at *
  simp -implicitDefEqProofs -proj only [go_sem,seval,Ft,HC,G3,hH,h7,h3,E9,w1,w2,decide_eq_true (show (i:Int)<c.ss.length by omega)]
  refine Ah _ (by omega) hel ?_
  simp -implicitDefEqProofs -proj only [go_sem,seval]
  refine Jy (ds:=[.int .i64 x.a,.int .i64 x.f,.int .i64 x.t]) rfl (fun bs hs=>?_)
  replace hs:H bs=none:=hs
  simp -implicitDefEqProofs -proj only [go_sem,seval]
  refine Ff (xs:=EL (⟨0,c.f,c.t⟩::Fr c.ss i)) (y:=[.int .i64 x.a,.int .i64 x.f,.int .i64 x.t]) (t:=60) (capc:=1) _ rfl (An hs hall) hnd (by simp -implicitDefEqProofs -proj only [go_sem,seval]; try rfl) (by rw [l1]; omega) (by rw [l1]; omega) (fun H' c' cap' ha' hk'=>?_)
  rw [show EL (⟨0,c.f,c.t⟩::Fr c.ss i)++[[.int .i64 x.a,.int .i64 x.f,.int .i64 x.t]]=EL (⟨0,c.f,c.t⟩::Fr c.ss (i+1)) by rw [hstep]; simp [EL,SumX.el]] at ha' hk'
  have q7:=(EF.1 ha').2.1
  simp -implicitDefEqProofs only [FU] at q7
  simp -implicitDefEqProofs -proj only [go_sem,seval,q7]
  have hup:=GP (x':=FU c (A0 3 3 c' cap' (EL (⟨0,c.f,c.t⟩::Fr c.ss (i+1)))) (.d (.sl 9 (Ak c.ps)))) ha' hk'
  refine Ad ⟨i+1,c',cap'⟩ ⟨by show i+1≤c.ss.length; omega,?_⟩ (by show c.ss.length-(i+1)<c.ss.length-i; omega) rfl ?_ ?_
  ·simpa only [I8,Ft,HC,G3,AT,List.map_append,List.map_cons] using hk'
  ·simp -implicitDefEqProofs -proj only [go_sem,seval,AM,Ft,AP (show i<9223372036854775807 by omega)]
  ·simp -implicitDefEqProofs only [I8,Ft,HC,G3]
   simp -implicitDefEqProofs only [FU,Ex (hne _),l2,l1] at hup ⊢
   exact hup
 have hi':i=c.ss.length:=by omega
 subst hi'
 obtain ⟨SS,hSS⟩:∃SS,EL (⟨0,c.f,c.t⟩::Fr c.ss c.ss.length)=SS:=⟨_,rfl⟩
 have hSn:SS≠[]:=by rw [←hSS]; exact hne _
 have h7':=h7
 rw [hSS] at hrow hall hnd h7
 have hall2:AS H (II b3 b7 k cap c at_ day SS ⟨0,0,0⟩)→True:=fun _=>trivial
 simp -implicitDefEqProofs -proj only [go_sem,seval,Ft,HC,G3,hH,hSS,h7,h3,E9,El,n1,n2,decide_eq_false (show ¬(c.ss.length:Int)<c.ss.length by omega)]
 refine D9 (fun y:OrdX=>y.i≤c.ps.length∧(AT (II b3 b7 k cap c at_ day SS y)).Nodup) 154 (fun y=>[(1,i64 at_),(2,i64 day),(3,.ptr b3 0),(7,.ptr b7 0),(77,i64 c.ps.length),(78,i64 y.i)]) (II b3 b7 k cap c at_ day SS) (fun y=>c.ps.length-y.i) ⟨0,0,0⟩ ⟨Nat.zero_le _,?_⟩ rfl ?_ ?_ ?_
 ·simpa only [II,EH,Ak,Ai,AT,Ft,HC,G3,List.map_nil,List.nil_append,List.map_append,List.map_cons] using hnd
 ·simp -implicitDefEqProofs -proj only [go_sem,seval,AM,Ft]
  try rfl
 ·have hup:=GP (x':=FU c (A0 3 3 k cap SS) (.nilsl 0)) hall hnd
  simp -implicitDefEqProofs only [II,EH,Ak,Ai,K9,Ft,HC,G3,List.map_nil,List.nil_append]
  exact hup
 clear hall hnd hrow h7 h3 h7' hH hall2
 rintro ⟨i,kp,capp⟩ ⟨hi,hnd⟩
 simp -implicitDefEqProofs only [Ft] at hi
 have hall:=EQ hnd
 obtain ⟨H,hH⟩:∃H,Ab (II b3 b7 k cap c at_ day SS ⟨i,kp,capp⟩)=H:=⟨_,rfl⟩
 rw [hH] at hall
 simp -implicitDefEqProofs only [II,Ft,HC,G3] at hall hnd
 have h7:=(EF.1 (EF.1 hall).2).2.1
 have h3:=(EF.1 (EF.1 hall).2).2.2.1
 simp -implicitDefEqProofs only [FU,EI] at h7 h3
 by_cases hlt:i<c.ps.length
 ·have hp:c.ps.length-1-i<c.ps.length:=by omega
  have hel:=IW hp
  have hstep:EH c.ps at_ day (i+1)=EH c.ps at_ day i++H9 at_ day i c.ps[c.ps.length-1-i]:=by rw [EH,List.getElem?_eq_getElem hp]
  have hxf:=hc.ps _ (List.getElem_mem hp)
  have w1:IntKind.i64.wrap ((c.ps.length:Int)-1)=(c.ps.length:Int)-1:=by rw [IntKind.wrap_i64]; omega
  have w2:IntKind.i64.wrap ((c.ps.length:Int)-1-(i:Int))=((c.ps.length-1-i:Nat):Int):=by rw [IntKind.wrap_i64]; omega
  have hlp:=Oj (ps:=c.ps) (at_:=at_) (day:=day) i
  generalize c.ps[c.ps.length-1-i]=x at *
  simp -implicitDefEqProofs -proj only [go_sem,seval,Ft,HC,G3,hH,h7,h3,El,w1,w2,n1,n2,decide_eq_true (show (i:Int)<c.ps.length by omega)]
  refine Ah _ (by omega) hel ?_
  simp -implicitDefEqProofs -proj only [go_sem,seval]
  refine AK (fun b10 hb10=>?_)
  replace hb10:H b10=none:=hb10
  obtain ⟨m1,m2⟩:=AI hb10 h7
  obtain ⟨m3,m4⟩:=AI hb10 h3
  have hpush:∀(t:TM) (H1:Heap) (l:List PartX) (x':PartX) (kq cq:Nat),AM t [(1,i64 at_),(2,i64 day),(3,.ptr b3 0),(7,.ptr b7 0),(77,i64 c.ps.length),(78,i64 i),(119,A0 0 9 kq cq (Ak l))]→AS H1 (Ai 40 9 kq cq (Ak l)++(Ai 60 3 k cap SS++[(b7,FU c (A0 3 3 k cap SS) (A0 0 9 kq cq (Ak l))),(b3,EI c)])) →
    (AT (Ai 40 9 kq cq (Ak l)++(Ai 60 3 k cap SS++[(b7,FU c (A0 3 3 k cap SS) (A0 0 9 kq cq (Ak l))),(b3,EI c)]))).Nodup→l.length≤14→EH c.ps at_ day (i+1)=l++[x'] →
    Jd (.row 40 9 1 [x'.el]) 9 1 (some 121) [oo 122 (.append 40 9 104 [zI,zI,zI,zI,zI,zI,(.nilsl 2),zI,(.nilsl 3)] (.t 119) (.t 121)),oo 123 (.fieldAddr 5 (.t 7)),on (.store 1 (.t 123) (.t 122))] [.blk 3,.code (.ops Sq)] ⟨154,t,H1⟩ Tryz.prog
     (Ho (fun y=>y.i≤c.ps.length∧(AT (II b3 b7 k cap c at_ day SS y)).Nodup) (fun x=>⟨154,Et [(1,i64 at_),(2,i64 day),(3,.ptr b3 0),(7,.ptr b7 0),(77,i64 c.ps.length),(78,i64 x.i)],Ab (II b3 b7 k cap c at_ day SS x)⟩) (fun y=>c.ps.length-y.i) ⟨i,kp,capp⟩
      (Ej Tryz.prog (A9 [.tmp 6] fun r' H'=>LendV H' r' (bv true)) [.blk 2,.code (((ACode.ops R5).seq (.cond (.t 127) ((ACode.ops Qn).seq .ret) .skip)).seq ((ACode.ops Sj).seq ((ACode.ops Qd).seq ((ACode.ops RU).seq .ret))))])):=by
   intro t H1 l x' kq cq ht h1 hn hl he
   obtain ⟨t1,t2,t3,t7,t77,t78,t119,_⟩:=ht
   refine As (fun bs hs=>?_)
   replace hs:H1 bs=none:=hs
   simp -implicitDefEqProofs -proj only [go_sem,seval,t7,t119]
   refine Ff (xs:=Ak l) (y:=x'.el) (t:=40) (capc:=1) _ rfl (An hs h1) hn (by simp -implicitDefEqProofs -proj only [go_sem,seval]; try rfl) (by rw [El]; omega) (by rw [El]; omega) (fun H' c' cap' ha' hk'=>?_)
   have q7:=(EF.1 (EF.1 ha').2).2.1
   rw [show Ak l++[x'.el]=Ak (l++[x']) by simp [Ak]] at ha' hk'
   simp -implicitDefEqProofs only [FU] at q7
   simp -implicitDefEqProofs -proj only [go_sem,seval,t7,t78,q7]
   have hne2:Ak (l++[x'])≠[]:=by simp [Ak]
   have hl2:(Ak (l++[x'])).length=(Ak l).length+1:=by simp [Ak]
   have hup:=GP (A:=Ai 40 9 c' cap' (Ak (l++[x']))++Ai 60 3 k cap SS) (b:=b7) (x:=FU c (A0 3 3 k cap SS) (A0 0 9 kq cq (Ak l))) (x':=FU c (A0 3 3 k cap SS) (A0 0 9 c' cap' (Ak (l++[x'])))) (B:=[(b3,EI c)]) (by simpa only [List.append_assoc,List.cons_append,List.nil_append] using ha') (by simpa only [List.append_assoc,List.cons_append,List.nil_append] using hk')
   refine Ad ⟨i+1,c',cap'⟩ ⟨by show i+1≤c.ps.length; omega,?_⟩ (by show c.ps.length-(i+1)<c.ps.length-i; omega) rfl ?_ ?_
   ·simp -implicitDefEqProofs only [II,Ft,HC,G3,he]
    simpa only [AT,List.map_append,List.map_cons] using hk'
   ·simp -implicitDefEqProofs -proj only [go_sem,seval,AM,Ft,t1,t2,t3,t7,t77,t78,AP (show i<9223372036854775807 by omega)]
   ·simp -implicitDefEqProofs only [II,Ft,HC,G3,he]
    simp -implicitDefEqProofs only [FU,Ex hne2,hl2,List.append_assoc,List.cons_append,List.nil_append] at hup ⊢
    exact hup
  have hno:¬((i:Int)=at_∧x.f≤day∧day<x.t)→EH c.ps at_ day (i+1)=EH c.ps at_ day i++[x]:=fun h=>by rw [hstep,H9,if_neg h]
  by_cases p1:(i:Int)=at_
  rotate_left
  ·simp -implicitDefEqProofs -proj only [go_sem,seval,decide_eq_false p1,m1,m2,m3,m4,h7]
   refine hpush _ _ (EH c.ps at_ day i) x kp capp ?_ (An hb10 hall) hnd (by omega) (hno fun e=>p1 e.1)
   simp -implicitDefEqProofs -proj only [go_sem,seval,AM]
   try rfl
  by_cases p2:x.f≤day
  rotate_left
  ·simp -implicitDefEqProofs -proj only [go_sem,seval,decide_eq_true p1,decide_eq_false p2,m1,m2,m3,m4,h7]
   refine hpush _ _ (EH c.ps at_ day i) x kp capp ?_ (An hb10 hall) hnd (by omega) (hno fun e=>p2 e.2.1)
   simp -implicitDefEqProofs -proj only [go_sem,seval,AM]
   try rfl
  by_cases p3:day<x.t
  rotate_left
  ·simp -implicitDefEqProofs -proj only [go_sem,seval,decide_eq_true p1,decide_eq_true p2,decide_eq_false p3,m1,m2,m3,m4,h7]
   refine hpush _ _ (EH c.ps at_ day i) x kp capp ?_ (An hb10 hall) hnd (by omega) (hno fun e=>p3 e.2.2)
   simp -implicitDefEqProofs -proj only [go_sem,seval,AM]
   try rfl
  have wd:IntKind.i64.wrap (day+1)=day+1:=by
   have:=hxf.t
   unfold Fit at this hd
   rw [IntKind.wrap_i64]; omega
  simp -implicitDefEqProofs -proj only [go_sem,seval,decide_eq_true p1,decide_eq_true p2,decide_eq_true p3,m1,m2,m3,m4,h7]
  refine AK (fun b11 hb11=>?_)
  replace hb11:upd H b10 _ b11=none:=hb11
  obtain ⟨z1,z2⟩:=AI hb11 upd_eq
  obtain ⟨z3,z4⟩:=AI hb11 (by rw [AE m1]; exact h7)
  obtain ⟨z5,z6⟩:=AI hb11 (by rw [AE m3]; exact h3)
  have hA1:=HK (x:=.box 40 [i64 x.me,i64 x.f,i64 day,i64 x.al,i64 x.bl,i64 x.ki,EM x.ts,i64 x.mo,ET x.ad]) hb10 hall
  have hN1:=IB (x:=.box 40 [i64 x.me,i64 x.f,i64 day,i64 x.al,i64 x.bl,i64 x.ki,EM x.ts,i64 x.mo,ET x.ad]) hb10 hall hnd
  simp -implicitDefEqProofs -proj only [go_sem,seval,z1,z2,z3,z4,z5,z6,m1,m2,m3,m4,wd,h7]
  have hA2:=fun X Y=>(show AS (upd (upd (upd H b10 X) b11 Y) b10 (some (.box 40 [i64 x.me,i64 x.f,i64 day,i64 x.al,i64 x.bl,i64 x.ki,EM x.ts,i64 x.mo,ET x.ad]))) ((b10,.box 40 [i64 x.me,i64 x.f,i64 day,i64 x.al,i64 x.bl,i64 x.ki,EM x.ts,i64 x.mo,ET x.ad])::(Ai 40 9 kp capp (Ak (EH c.ps at_ day i))++(Ai 60 3 k cap SS++[(b7,FU c (A0 3 3 k cap SS) (A0 0 9 kp capp (Ak (EH c.ps at_ day i)))),(b3,EI c)]))) from
   ⟨upd_eq,J7 (An (by rw [AE z2]; rw [AE z2] at hb11; exact hb11) (An hb10 hall)) (PV hb10 hall)⟩)
  refine As (fun bs hs=>?_)
  obtain ⟨H2,hH2⟩:∃H2,upd (upd (upd H b10 (some (.box 40 [i64 x.me,i64 x.f,i64 x.t,i64 x.al,i64 x.bl,i64 x.ki,EM x.ts,i64 x.mo,ET x.ad]))) b11 (some (.box 40 [i64 x.me,i64 (day+1),i64 x.t,i64 x.al,i64 x.bl,i64 x.ki,EM x.ts,i64 x.mo,ET x.ad]))) b10 (some (.box 40 [i64 x.me,i64 x.f,i64 day,i64 x.al,i64 x.bl,i64 x.ki,EM x.ts,i64 x.mo,ET x.ad]))=H2:=⟨_,rfl⟩
  replace hs:H2 bs=none:=by rw [←hH2]; exact hs
  have hA3:=hA2 (some (.box 40 [i64 x.me,i64 x.f,i64 x.t,i64 x.al,i64 x.bl,i64 x.ki,EM x.ts,i64 x.mo,ET x.ad])) (some (.box 40 [i64 x.me,i64 (day+1),i64 x.t,i64 x.al,i64 x.bl,i64 x.ki,EM x.ts,i64 x.mo,ET x.ad]))
  rw [hH2] at hA3
  have hA4:=MG (xs:=[_]) (ys:=Ai 40 9 kp capp (Ak (EH c.ps at_ day i))++(Ai 60 3 k cap SS++[(b7,FU c (A0 3 3 k cap SS) (A0 0 9 kp capp (Ak (EH c.ps at_ day i)))),(b3,EI c)])) hA3
  have hN4:=NU (xs:=[_]) (ys:=Ai 40 9 kp capp (Ak (EH c.ps at_ day i))++(Ai 60 3 k cap SS++[(b7,FU c (A0 3 3 k cap SS) (A0 0 9 kp capp (Ak (EH c.ps at_ day i)))),(b3,EI c)])) hN1
  rw [List.append_assoc] at hA4 hN4
  simp -implicitDefEqProofs -proj only [go_sem,seval,hH2]
  refine Ff (xs:=Ak (EH c.ps at_ day i)) (y:=PartX.el { x with f:=day+1 }) (t:=40) (capc:=1) _ rfl (An hs hA4) hN4 (by simp -implicitDefEqProofs -proj only [go_sem,seval]; try rfl) (by rw [El]; omega) (by rw [El]; omega) (fun H' c' cap' ha' hk'=>?_)
  rw [show Ak (EH c.ps at_ day i)++[PartX.el { x with f:=day+1 }]=Ak (EH c.ps at_ day i++[{ x with f:=day+1 }]) by simp [Ak]] at ha' hk'
  have hne2:Ak (EH c.ps at_ day i++[{ x with f:=day+1 }])≠[]:=by simp [Ak]
  have hl2:(Ak (EH c.ps at_ day i++[{ x with f:=day+1 }])).length=(Ak (EH c.ps at_ day i)).length+1:=by simp [Ak]
  simp -implicitDefEqProofs only [List.append_assoc,List.cons_append,List.nil_append] at ha' hk'
  have q7:=(EF.1 (EF.1 ha').2).2.1
  have q10:=(EF.1 (EF.1 ha').2).2.2.2.1
  have hz:¬b7=b10:=m2
  simp -implicitDefEqProofs only [FU] at q7
  have hup:=GP (A:=Ai 40 9 c' cap' (Ak (EH c.ps at_ day i++[{ x with f:=day+1 }]))++Ai 60 3 k cap SS) (b:=b7) (x:=FU c (A0 3 3 k cap SS) (A0 0 9 kp capp (Ak (EH c.ps at_ day i)))) (x':=FU c (A0 3 3 k cap SS) (A0 0 9 c' cap' (Ak (EH c.ps at_ day i++[{ x with f:=day+1 }])))) (by simpa only [List.append_assoc,List.cons_append,List.nil_append] using ha') (by simpa only [List.append_assoc,List.cons_append,List.nil_append] using hk')
  have hcut:EH c.ps at_ day (i+1)=(EH c.ps at_ day i++[{ x with f:=day+1 }])++[{ x with t:=day }]:=by rw [hstep,H9,if_pos ⟨p1,p2,p3⟩]; simp
  simp -implicitDefEqProofs -proj only [go_sem,seval,q7,q10,hz,m1]
  refine hpush _ _ (EH c.ps at_ day i++[{ x with f:=day+1 }]) { x with t:=day } c' cap' ?_ ?_ ?_ (by simp; omega) hcut
  ·rw [Ex hne2,hl2]
   simp -implicitDefEqProofs -proj only [go_sem,seval,AM]
   try rfl
  ·have hup2:=LB hup (ys:=Ai 40 9 c' cap' (Ak (EH c.ps at_ day i++[{ x with f:=day+1 }]))++(Ai 60 3 k cap SS++[(b7,FU c (A0 3 3 k cap SS) (A0 0 9 c' cap' (Ak (EH c.ps at_ day i++[{ x with f:=day+1 }])))),(b3,EI c)])) (fun p hp=>by
    simp -implicitDefEqProofs only [List.mem_append,List.mem_cons,List.not_mem_nil,or_false] at hp ⊢
    rcases hp with h | h | h | h <;> simp [h])
   simp -implicitDefEqProofs only [FU,Ex hne2,hl2] at hup2 ⊢
   exact hup2
  ·have hsub:(AT (Ai 40 9 c' cap' (Ak (EH c.ps at_ day i++[{ x with f:=day+1 }]))++(Ai 60 3 k cap SS++[(b7,FU c (A0 3 3 k cap SS) (A0 0 9 kp capp (Ak (EH c.ps at_ day i)))),(b3,EI c)]))).Nodup:=by
    refine hk'.sublist ?_
    simp -implicitDefEqProofs only [AT,List.map_append,List.map_cons,List.map_nil]
    exact List.Sublist.append (List.Sublist.refl _) (List.Sublist.append (List.Sublist.refl _) (.cons_cons _ (.cons_cons _ (List.nil_sublist _))))
   simpa only [AT,List.map_append,List.map_cons] using hsub
 have hi':i=c.ps.length:=by omega
 subst hi'
 have hrP:=(EF.1 hall).1
 have hrS:=(EF.1 (EF.1 hall).2).1
 have hlend:∀H':Heap,AS H' (Ai 40 9 kp capp (Ak (EH c.ps at_ day c.ps.length)))→AS H' (Ai 60 3 k cap SS)→LendV H' (.agg [.d (.str c.cur),i64 c.f,i64 c.t,.d (.sl 5 (EK c.ms)),A0 3 3 k cap SS,A0 0 9 kp capp (Ak (EH c.ps at_ day c.ps.length))]) (Fl (JG c at_ day)):=fun H' a b=>by
  rw [←hSS] at b ⊢
  exact Pu (.refl _) (Jz b) (Jz a)
 simp -implicitDefEqProofs -proj only [go_sem,seval,Ft,HC,G3,hH,h7,h3,El,n1,n2,decide_eq_false (show ¬(c.ps.length:Int)<c.ps.length by omega)]
 refine JN hftD (FE (hlend _ hrP hrS) GY) rfl ?_
 by_cases gD:fitsC (JG c at_ day)
 rotate_left
 ·simp -implicitDefEqProofs -proj only [go_sem,seval,decide_eq_false gD,Bool.not_false]
  exact AH rfl
 have hm1:=La hc g0
 have hm2:=La hfD gD
 have hs1:=Q6 g0 gD
 have hs2:=QZ g0 gD
 have hsm:Kp c (JG c at_ day)=true:=by
  unfold Kp
  rw [AB2 g0.good gD.good]
  simp [JG,PU]
 rw [hsm] at hs1 hs2
 simp -implicitDefEqProofs -proj only [go_sem,seval,decide_eq_true gD,Bool.not_true,h7,h3,n1,n2]
 refine AJ hm1 ?_
 simp -implicitDefEqProofs -proj only [go_sem,seval,h7,h3,n1,n2]
 refine AK (fun b12 hb12=>?_)
 replace hb12:H b12=none:=hb12
 obtain ⟨m1,m2⟩:=AI hb12 h7
 simp -implicitDefEqProofs -proj only [go_sem,seval,h7,h3,n1,n2,m1,m2]
 have hall12:=An (y:=some (Fx c.cur c.f c.t c.ms (FZ c))) hb12 hall
 have hfk:=PV hb12 hall
 have hsubR:∀p∈Ai 40 9 kp capp (Ak (EH c.ps at_ day c.ps.length))++Ai 60 3 k cap SS,p∈Ai 40 9 kp capp (Ak (EH c.ps at_ day c.ps.length))++(Ai 60 3 k cap SS++[(b7,FU c (A0 3 3 k cap SS) (A0 0 9 kp capp (Ak (EH c.ps at_ day c.ps.length)))),(b3,EI c)]):=fun p hp=>by
  simp -implicitDefEqProofs only [List.mem_append] at hp ⊢
  rcases hp with h | h <;> simp [h]
 have hndR:(AT (Ai 40 9 kp capp (Ak (EH c.ps at_ day c.ps.length))++Ai 60 3 k cap SS)).Nodup:=by
  simp -implicitDefEqProofs only [AT,List.map_append] at hnd ⊢
  rw [←List.append_assoc] at hnd
  exact (List.nodup_append.1 hnd).1
 have hkR:=EQ hndR
 have hnoR:Ab (Ai 40 9 kp capp (Ak (EH c.ps at_ day c.ps.length))++Ai 60 3 k cap SS) b12=none:=by
  cases e:Ab (Ai 40 9 kp capp (Ak (EH c.ps at_ day c.ps.length))++Ai 60 3 k cap SS) b12 with
  | none=>rfl
  | some x =>
   have:=hsubR _ (PC e)
   exact absurd (List.mem_map_of_mem (f:=(·.1)) this) hfk
 refine Rc (Hr:=Ab (Ai 40 9 kp capp (Ak (EH c.ps at_ day c.ps.length))++Ai 60 3 k cap SS)) (Hk:=upd Heap.none b12 (some (Fx c.cur c.f c.t c.ms (FZ c)))) hm2 (FE (hlend _ (EF.1 hkR).1 (EF.1 hkR).2) GY) (JD (LB hall12 hsubR)) (fun k'=>?_) ?_
 ·rw [AR]
  split
  ·next e=>subst e; exact .inr ⟨upd_eq.symm,hnoR⟩
  ·exact .inl rfl
 simp -implicitDefEqProofs -proj only [go_sem,seval]
 refine AK (fun b14 hb14=>?_)
 replace hb14:upd Heap.none b12 _ b14=none:=hb14
 obtain ⟨z1,z2⟩:=AI hb14 upd_eq
 simp -implicitDefEqProofs -proj only [go_sem,seval,z1,z2,Fx]
 refine AJ hs1 ?_
 simp -implicitDefEqProofs -proj only [go_sem,seval,z1,z2,Fx]
 refine AJ hs2 ?_
 simp -implicitDefEqProofs -proj only [go_sem,seval]
 exact AH rfl
theorem Zv {c:CoreX} (hg:goodC c):Ik c (List.replicate c.ms.length 0):=by
 refine ⟨by simp,fun m h1 h2=>?_⟩
 have:=(fitsC.bnd hg).mx m (by simpa using h1)
 simp -implicitDefEqProofs only [List.getElem_replicate]
 omega
theorem AMz {n:Nat}:List.replicate n [D.int .i64 0]=Az (List.replicate n 0):=by simp [Az]
theorem QS {c:CoreX} (hc:c.Fit) (hf:fitsC c) (d:Int):DataW Tryz.prog J8 [Fl c,i64 d,HE (List.replicate c.ms.length 0)] (.tup [i64 (ES c d),i64 0]):=by
 have hb:=Zv hf.good
 have h:=QF (d:=d) hc hf.good hb
 obtain ⟨l,h1,h2⟩:=TY hf (d:=d) hb
 rw [h1] at h
 simp -implicitDefEqProofs only [h2] at h
 rw [SY (fitsC.bnd hf.good).me d c.ms.length] at h
 exact h
def Ec (g:Nat→Bool):Nat→Bool
 | 0=>true
 | n+1=>Ec g n&&g n
theorem NY {g:Nat→Bool}:∀{n:Nat},Ec g n=true↔∀i,i<n→g i=true
 | 0=>⟨fun _ i h=>absurd h (Nat.not_lt_zero _),fun _=>rfl⟩
 | n+1=>by
  rw [Ec,Bool.and_eq_true,NY]
  constructor
  ·rintro ⟨h1,h2⟩ i hi
   by_cases e:i=n
   ·subst e; exact h2
   ·exact h1 i (by omega)
  ·exact fun h=>⟨fun i hi=>h i (by omega),h n (by omega)⟩
def IV (c:CoreX) (d:Int):Prop:=(∀s∈c.ss,¬(s.f=d∨s.t=d-1))∧∀x∈c.ps,¬(x.f=d∨x.t=d-1)
noncomputable instance (c:CoreX) (d:Int):Decidable (IV c d):=Classical.propDecidable _
theorem Sk {c:CoreX} {d:Int} (h:IV c d):Ew c d=Ew c (d-1):=by
 obtain ⟨h1,h2⟩:=h
 have key:∀f t:Int,¬(f=d∨t=d-1)→(EO d f t↔EO (d-1) f t):=fun f t h=>by
  unfold EO
  constructor
  ·rintro ⟨a,b⟩; omega
  ·rintro ⟨a,b⟩; omega
 have hs:Hl c d=Hl c (d-1):=by
  rw [M8,M8]
  refine congrArg List.sum (List.map_congr_left fun s hs=>?_)
  unfold JQ
  simp -implicitDefEqProofs only [key _ _ (h1 s hs)]
 have hb:∀m,Hv c d m=Hv c (d-1) m:=fun m=>by
  rw [NR,NR]
  refine congrArg List.sum (List.map_congr_left fun x hx=>?_)
  unfold Le
  simp -implicitDefEqProofs only [key _ _ (h2 x hx)]
 have hr:∀m q,FC c d m q=FC c (d-1) m q:=fun m q=>by
  rw [Ms,Ms]
  refine congrArg List.sum (List.map_congr_left fun x hx=>?_)
  unfold K8
  simp -implicitDefEqProofs only [key _ _ (h2 x hx)]
 have e1:ES c d=ES c (d-1):=by
  unfold ES
  rw [hs]
  exact congrArg _ (GT fun m _=>hb m)
 have e2:Em c d c.ms.length=Em c (d-1) c.ms.length:=by
  unfold Em Ht
  exact List.map_congr_left fun m _=>List.map_congr_left fun q _=>hr m q
 show (ES c d,Em c d c.ms.length)=(ES c (d-1),Em c (d-1) c.ms.length)
 rw [e1,e2]
section
variable (a b:CoreX)
def KL (d:Int) (i q:Nat):Bool:=decide (ES a d+FC a d i q=ES b d+FC b d i q)
def K6 (i:Nat):Nat:=match a.ms[i]? with | some m=>(m.mx+1).toNat | none=>0
def Hj (d:Int) (i:Nat):Bool:=Ec (KL a b d i) (K6 a i)
def IL (d:Int):Bool:=Ec (Hj a b d) a.ms.length&&(if a.ms.length=0 then decide (ES a d=ES b d) else true)
noncomputable def Fk (k:Nat):Bool:=if 0<k∧IV a (a.f+k)∧IV b (a.f+k) then true else IL a b (a.f+k)
end
structure LikeC (a b:CoreX):Prop where
 f:a.f=b.f
 t:a.t=b.t
 n:a.ms.length=b.ms.length
 mx:∀(i:Nat) (h:i<a.ms.length) (h2:i<b.ms.length),a.ms[i].mx=b.ms[i].mx
theorem TE {a b:CoreX} (ha:goodC a) (L:LikeC a b) {d:Int}:IL a b d=true↔Ew a d=Ew b d:=by
 have hmx:=(fitsC.bnd ha).mx
 have hm18:∀(i:Nat) (h:i<a.ms.length),K6 a i=(a.ms[i].mx+1).toNat:=fun i h=>by unfold K6; rw [List.getElem?_eq_getElem h]
 unfold IL
 rw [Bool.and_eq_true,NY]
 constructor
 ·rintro ⟨h1,h2⟩
  have hq:∀(i:Nat) (h:i<a.ms.length) (q:Nat),q<(a.ms[i].mx+1).toNat→ES a d+FC a d i q=ES b d+FC b d i q:=fun i h q hq=>by
   have:=NY.1 (h1 i h) q (by rw [hm18 i h]; exact hq)
   exact of_decide_eq_true this
  have hF:ES a d=ES b d:=by
   by_cases h0:a.ms.length=0
   ·rw [if_pos h0] at h2; exact of_decide_eq_true h2
   ·have h00:0<a.ms.length:=by omega
    have:=hmx 0 h00
    have:=hq 0 h00 0 (by omega)
    rw [show ((0:Nat):Int)=0 from rfl,NE,NE] at this
    omega
  have hL:Em a d a.ms.length=Em b d b.ms.length:=by
   rw [←L.n]
   refine List.ext_getElem (by rw [Ja,Ja]) fun i h1 h2=>?_
   rw [Ja] at h1
   have hb:i<b.ms.length:=by rw [←L.n]; exact h1
   rw [Lr h1 h1,Lr h1 hb,←L.mx i h1 hb]
   refine List.map_congr_left fun q hq'=>?_
   have:=hq i h1 q (List.mem_range.1 hq')
   show FC a d i q=FC b d i q
   omega
  show (ES a d,Em a d a.ms.length)=(ES b d,Em b d b.ms.length)
  rw [hF,hL]
 ·intro h
  have hF:ES a d=ES b d:=congrArg Prod.fst h
  have hL:Em a d a.ms.length=Em b d b.ms.length:=congrArg Prod.snd h
  refine ⟨fun i hi=>NY.2 fun q hq=>?_,?_⟩
  ·rw [hm18 i hi] at hq
   have hb:i<b.ms.length:=by rw [←L.n]; exact hi
   have e:Ht a d i a.ms[i].mx=Ht b d i b.ms[i].mx:=by
    have e1:=Lr (d:=d) hi hi
    have e2:=Lr (d:=d) hb hb
    rw [←e1,←e2]
    simp -implicitDefEqProofs only [hL]
   have e3:=Pq (c:=a) (d:=d) (m:=i) hq
   have e4:=Pq (c:=b) (d:=d) (m:=i) (mx:=b.ms[i].mx) (q:=q) (by rw [←L.mx i hi hb]; exact hq)
   refine decide_eq_true ?_
   rw [hF,←e3,←e4]
   simp -implicitDefEqProofs only [e]
  ·split
   ·exact decide_eq_true hF
   ·rfl
theorem RW {a b:CoreX} (ha:goodC a) (L:LikeC a b):∀n:Nat,Ec (Fk a b) n=true↔∀k:Nat,k<n→Ew a (a.f+k)=Ew b (a.f+k)
 | 0=>⟨fun _ k h=>absurd h (Nat.not_lt_zero _),fun _=>rfl⟩
 | n+1=>by
  rw [Ec,Bool.and_eq_true,RW ha L n]
  unfold Fk
  constructor
  ·rintro ⟨h1,h2⟩ k hk
   by_cases e:k=n
   ·subst e
    split at h2
    ·next hq =>
     rw [Sk hq.2.1,Sk hq.2.2]
     have:=h1 (k-1) (by omega)
     rwa [show a.f+((k-1:Nat):Int)=a.f+(k:Int)-1 by omega] at this
    ·exact (TE ha L).1 h2
   ·exact h1 k (by omega)
  ·intro h
   refine ⟨fun k hk=>h k (by omega),?_⟩
   split
   ·rfl
   ·exact (TE ha L).2 (h n (by omega))
theorem YC {a b:CoreX} (ha:goodC a) (hb:goodC b) (L:LikeC a b):Ec (Fk a b) (a.t-a.f+1).toNat=true↔FZ a=FZ b:=by
 rw [RW ha L]
 have hwa:=J2 ha
 have hwb:=J2 hb
 constructor
 ·intro h
  refine FwdB.canon hwa ?_
  rw [L.f,L.t]
  refine FwdB.congr (fun x h1 h2=>?_) hwb
  have:=h (x-a.f).toNat (by have:=L.f; have:=L.t; omega)
  rw [show a.f+((x-a.f).toNat:Int)=x by have:=L.f; omega] at this
  exact this.symm
 ·intro h k hk
  obtain ⟨i,r,h1,h2,h3⟩:=hwa.find (d:=a.f+(k:Int)) (by omega) (by omega)
  have e1:=(hwa.nth i r h1).2.2.2.1 _ h2 h3
  rw [h] at h1
  have e2:=(hwb.nth i r h1).2.2.2.1 _ h2 h3
  rw [e1,e2]
theorem AI5 {c:CoreX} (hg:goodC c) {i:Nat} (hi:i<c.ms.length) {q:Int} (h0:0≤q) (hq:q≤c.ms[i].mx):Ik c ((List.replicate c.ms.length 0).set i q):=by
 refine ⟨by simp,fun m h1 h2=>?_⟩
 have:=(fitsC.bnd hg).mx m h2
 rw [List.getElem_set]
 split
 ·next e=>subst e; exact ⟨h0,hq⟩
 ·simp -implicitDefEqProofs only [List.getElem_replicate]; omega
theorem Rf {c:CoreX} (hc:c.Fit) (hf:fitsC c) (d:Int) {n i:Nat} (hn:n=c.ms.length) (hi:i<c.ms.length) {q:Int} (h0:0≤q) (hq:q≤c.ms[i].mx):DataW Tryz.prog J8 [Fl c,i64 d,HE ((List.replicate n 0).set i q)] (.tup [i64 (ES c d+FC c d i q),i64 0]):=by
 subst hn
 have hb:=AI5 hf.good hi h0 hq
 have h:=QF (d:=d) hc hf.good hb
 obtain ⟨l,h1,h2⟩:=TY hf (d:=d) hb
 rw [h1] at h
 simp -implicitDefEqProofs only [h2] at h
 rw [YW (fitsC.bnd hf.good).me d hi rfl] at h
 exact h
theorem Sw {c:CoreX} {d:Int} (hn:c.ss.length≤1000000) (hp:c.ps.length≤1000000) (hd : -9223372036854775808<d∧d≤9223372036854775807):DataW Tryz.prog AFE [Fl c,i64 d] (bv (decide (IV c d))):=by
 have wd:IntKind.i64.wrap (d-1)=d-1:=by rw [IntKind.wrap_i64]; omega
 refine AX ANV (by simp) ?_
 simp -implicitDefEqProofs -proj only [go_sem,seval]
 refine AK (fun b2 hb2=>?_)
 simp -implicitDefEqProofs -proj only [go_sem,seval,E9]
 have hk:AS (Ab [(b2,EI c)]) [(b2,EI c)]:=EQ (by simp [AT])
 obtain ⟨k2,_⟩:=id hk
 simp -implicitDefEqProofs only [EI] at k2
 refine D9 (fun i:Nat=>i≤c.ss.length∧∀(j:Nat) (h:j<c.ss.length),j<i→¬(c.ss[j].f=d∨c.ss[j].t=d-1)) 47 (fun i=>[(1,i64 d),(2,.ptr b2 0),(10,.d (.sl 3 (EL c.ss))),(11,i64 c.ss.length),(12,i64 i)]) (fun _=>[(b2,EI c)]) (fun i=>c.ss.length-i) 0 ⟨Nat.zero_le _,fun j _ h=>absurd h (Nat.not_lt_zero _)⟩ rfl ?_ ?_ ?_
 ·simp -implicitDefEqProofs -proj only [go_sem,seval,AM]
  try rfl
 ·exact ⟨upd_eq,trivial⟩
 ·rintro i ⟨hi,hs⟩
  simp -implicitDefEqProofs only [EI]
  by_cases h:i<c.ss.length
  ·have e1:=JT h
   have hst:=fun (e:¬(c.ss[i].f=d∨c.ss[i].t=d-1))=>HL (l:=c.ss) (P:=fun _ (s:SumX)=>¬(s.f=d∨s.t=d-1)) (i:=i) (x:=c.ss[i]) (List.getElem?_eq_getElem h) hs e
   have hno:=fun (e:c.ss[i].f=d∨c.ss[i].t=d-1)=>show ¬IV c d from fun k=>k.1 _ (List.getElem_mem h) e
   generalize c.ss[i]=s at *
   simp -implicitDefEqProofs -proj only [go_sem,seval,decide_eq_true (show (i:Int)<c.ss.length by omega)]
   refine Ah _ (by omega) e1 ?_
   simp -implicitDefEqProofs -proj only [go_sem,seval]
   refine AK (fun b6 hb6=>?_)
   by_cases p1:s.f=d
   ·simp -implicitDefEqProofs -proj only [go_sem,seval,decide_eq_true p1]
    exact AH (by rw [decide_eq_false (hno (.inl p1))])
   by_cases p2:s.t=d-1
   ·simp -implicitDefEqProofs -proj only [go_sem,seval,decide_eq_false p1,wd,decide_eq_true p2]
    exact AH (by rw [decide_eq_false (hno (.inr p2))])
   simp -implicitDefEqProofs -proj only [go_sem,seval,decide_eq_false p1,wd,decide_eq_false p2]
   refine Ad (i+1) ⟨by omega,hst (fun e=>e.elim p1 p2)⟩ (by omega) rfl ?_ (An hb6 hk)
   simp -implicitDefEqProofs -proj only [go_sem,seval,AM,AP (show i<9223372036854775807 by omega)]
  ·have hi':i=c.ss.length:=by omega
   subst hi'
   have hall:∀s∈c.ss,¬(s.f=d∨s.t=d-1):=fun s hm=>by
    obtain ⟨j,hj,rfl⟩:=List.getElem_of_mem hm
    exact hs j hj hj
   simp -implicitDefEqProofs -proj only [go_sem,seval,k2,decide_eq_false (show ¬(c.ss.length:Int)<c.ss.length by omega),El]
   refine D9 (fun i:Nat=>i≤c.ps.length∧∀(j:Nat) (h:j<c.ps.length),j<i→¬(c.ps[j].f=d∨c.ps[j].t=d-1)) 47 (fun i=>[(1,i64 d),(29,.d (.sl 9 (Ak c.ps))),(30,i64 c.ps.length),(31,i64 i)]) (fun _=>[]) (fun i=>c.ps.length-i) 0 ⟨Nat.zero_le _,fun j _ h=>absurd h (Nat.not_lt_zero _)⟩ rfl ?_ trivial ?_
   ·simp -implicitDefEqProofs -proj only [go_sem,seval,AM]
    try rfl
   ·rintro i ⟨hi,hs⟩
    by_cases h:i<c.ps.length
    ·have e1:=IW h
     have hst:=fun (e:¬(c.ps[i].f=d∨c.ps[i].t=d-1))=>HL (l:=c.ps) (P:=fun _ (s:PartX)=>¬(s.f=d∨s.t=d-1)) (i:=i) (x:=c.ps[i]) (List.getElem?_eq_getElem h) hs e
     have hno:=fun (e:c.ps[i].f=d∨c.ps[i].t=d-1)=>show ¬IV c d from fun k=>k.2 _ (List.getElem_mem h) e
     generalize c.ps[i]=s at *
     simp -implicitDefEqProofs -proj only [go_sem,seval,decide_eq_true (show (i:Int)<c.ps.length by omega)]
     refine Ah _ (by omega) e1 ?_
     simp -implicitDefEqProofs -proj only [go_sem,seval]
     refine AK (fun b6 hb6=>?_)
     by_cases p1:s.f=d
     ·simp -implicitDefEqProofs -proj only [go_sem,seval,decide_eq_true p1]
      exact AH (by rw [decide_eq_false (hno (.inl p1))])
     by_cases p2:s.t=d-1
     ·simp -implicitDefEqProofs -proj only [go_sem,seval,decide_eq_false p1,wd,decide_eq_true p2]
      exact AH (by rw [decide_eq_false (hno (.inr p2))])
     simp -implicitDefEqProofs -proj only [go_sem,seval,decide_eq_false p1,wd,decide_eq_false p2]
     refine Ad (i+1) ⟨by omega,hst (fun e=>e.elim p1 p2)⟩ (by omega) rfl ?_ trivial
     simp -implicitDefEqProofs -proj only [go_sem,seval,AM,AP (show i<9223372036854775807 by omega)]
    ·have hi':i=c.ps.length:=by omega
     subst hi'
     have hq:IV c d:=⟨hall,fun s hm=>by
      obtain ⟨j,hj,rfl⟩:=List.getElem_of_mem hm
      exact hs j hj hj⟩
     simp -implicitDefEqProofs -proj only [go_sem,seval,decide_eq_false (show ¬(c.ps.length:Int)<c.ps.length by omega)]
     exact AH (by rw [decide_eq_true hq])
theorem Sp:∀{a b:List MeterX},Fc a b=true→a.length=b.length∧∀(i:Nat) (h:i<a.length) (h2:i<b.length),a[i].mx=b[i].mx
 | [],[],_=>⟨rfl,fun i h=>absurd h (Nat.not_lt_zero _)⟩
 | [],_::_,h=>by cases h
 | _::_,[],h=>by cases h
 | x::a,y::b,h=>by
  rw [Fc,Bool.and_eq_true] at h
  obtain ⟨h1,h2⟩:=h
  obtain ⟨h3,h4⟩:=Sp h2
  refine ⟨by simp [h3],fun i k1 k2=>?_⟩
  cases i with
  | zero =>
   unfold mq at h1
   simp -implicitDefEqProofs only [Bool.and_eq_true,decide_eq_true_eq] at h1
   exact h1.2.2.1
  | succ i=>exact h4 i (by simpa using k1) (by simpa using k2)
def Iz (b2 b3 b6 b8:Nat) (a b:CoreX) (S S':List (Seg Ek)):List (Nat×Blk):=[(b8,Fx b.cur b.f b.t b.ms S'),(b6,Fx a.cur a.f a.t a.ms S),(b3,EI b),(b2,EI a)]
set_option maxHeartbeats 4000000 in
open Classical in
theorem NormalOne_ok {a b:CoreX} (ha:a.Fit) (hb:b.Fit):DataW Tryz.prog AKO [Fl a,Fl b] (bv true):=by
 have hfa:=Mh ha
 have hfb:=Mh hb
 refine AX ABF (by simp) ?_
 simp -implicitDefEqProofs -proj only [go_sem,seval]
 refine AK (fun b2 hb2=>?_)
 simp -implicitDefEqProofs -proj only [go_sem,seval]
 refine AK (fun b3 hb3=>?_)
 replace hb3:upd Heap.none b2 _ b3=none:=hb3
 obtain ⟨n1,n2⟩:=AI hb3 upd_eq
 simp -implicitDefEqProofs -proj only [go_sem,seval,n1,n2]
 refine AJ Pn ?_
 simp -implicitDefEqProofs -proj only [go_sem,seval,n1,n2]
 refine AJ hfa ?_
 by_cases ga:fitsC a
 rotate_left
 ·simp -implicitDefEqProofs -proj only [go_sem,seval,decide_eq_false ga,Bool.not_false]
  exact AH rfl
 simp -implicitDefEqProofs -proj only [go_sem,seval,n1,n2,decide_eq_true ga,Bool.not_true]
 refine AJ hfb ?_
 by_cases gb:fitsC b
 rotate_left
 ·simp -implicitDefEqProofs -proj only [go_sem,seval,decide_eq_false gb,Bool.not_false]
  exact AH rfl
 cases c1:a.cur.toList == b.cur.toList
 ·simp -implicitDefEqProofs -proj only [go_sem,seval,n1,n2,decide_eq_true gb,Bool.not_true,IO,c1]
  exact AH rfl
 by_cases hf:a.f=b.f
 rotate_left
 ·simp -implicitDefEqProofs -proj only [go_sem,seval,n1,n2,decide_eq_true gb,Bool.not_true,IO,c1,decide_eq_false hf]
  exact AH rfl
 by_cases ht:a.t=b.t
 rotate_left
 ·simp -implicitDefEqProofs -proj only [go_sem,seval,n1,n2,decide_eq_true gb,Bool.not_true,IO,c1,decide_eq_true hf,decide_eq_false ht]
  exact AH rfl
 by_cases h3:a.ms.length=b.ms.length
 rotate_left
 ·simp -implicitDefEqProofs -proj only [go_sem,seval,n1,n2,decide_eq_true gb,Bool.not_true,IO,c1,decide_eq_true hf,decide_eq_true ht,E2,decide_eq_false (show ¬(a.ms.length:Int)=b.ms.length by omega)]
  exact AH rfl
 have hk:AS (Ab [(b3,EI b),(b2,EI a)]) [(b3,EI b),(b2,EI a)]:=EQ (by simp [AT,n1])
 obtain ⟨k3,k2,_⟩:=id hk
 simp -implicitDefEqProofs only [EI] at k3 k2
 obtain ⟨⟨g1,g2⟩,⟨g3,g4⟩,g5,g6,g7,g8⟩:=ga.good.hd
 obtain ⟨_,_,_,_,j7,j8⟩:=gb.good.hd
 simp -implicitDefEqProofs -proj only [go_sem,seval,n1,n2,decide_eq_true gb,Bool.not_true,IO,c1,decide_eq_true hf,decide_eq_true ht,E2,decide_eq_true (show (a.ms.length:Int)=b.ms.length by omega)]
 refine D9 (fun i:Nat=>i≤a.ms.length∧Fc (a.ms.drop i) (b.ms.drop i)=Fc a.ms b.ms) 207 (fun i=>[(2,.ptr b2 0),(3,.ptr b3 0),(65,i64 a.ms.length),(66,i64 i)]) (fun _=>[(b3,EI b),(b2,EI a)]) (fun i=>a.ms.length-i) 0 ⟨Nat.zero_le _,by simp⟩ rfl ?_ ?_ ?_
 ·simp -implicitDefEqProofs -proj only [go_sem,seval,AM]
  try rfl
 ·exact ⟨upd_eq,(AE n1).trans upd_eq,trivial⟩
 rintro i ⟨hi,hat⟩
 simp -implicitDefEqProofs only [EI]
 by_cases h:i<a.ms.length
 ·have h':i<b.ms.length:=by omega
  have e1:=Gl h
  have e2:=Gl h'
  rw [List.drop_eq_getElem_cons h,List.drop_eq_getElem_cons h',Fc] at hat
  generalize a.ms[i]=x at *
  generalize b.ms[i]=y at *
  simp -implicitDefEqProofs -proj only [go_sem,seval,k3,k2,n1,n2,decide_eq_true (show (i:Int)<a.ms.length by omega)]
  refine Ah _ (by omega) e1 ?_
  simp -implicitDefEqProofs -proj only [go_sem,seval,k3,k2,n1,n2]
  refine Ah _ (by omega) e2 ?_
  cases hp:mq x y
  ·unfold mq at hp
   simp -implicitDefEqProofs -proj only [go_sem,seval,hp]
   exact AH rfl
  ·rw [hp,Bool.true_and] at hat
   unfold mq at hp
   simp -implicitDefEqProofs -proj only [go_sem,seval,hp,k3,k2,n1,n2]
   refine Ah _ (by omega) e1 ?_
   by_cases p:60<x.mx
   ·simp -implicitDefEqProofs -proj only [go_sem,seval,decide_eq_true p]
    exact AH rfl
   simp -implicitDefEqProofs -proj only [go_sem,seval,decide_eq_false p]
   refine Ad (i+1) ⟨by omega,hat⟩ (by omega) rfl ?_ hk
   simp -implicitDefEqProofs -proj only [go_sem,seval,AM,AP (show i<9223372036854775807 by omega)]
 have hi':i=a.ms.length:=by omega
 subst hi'
 rw [List.drop_length,h3,List.drop_length] at hat
 have hmq:Fc a.ms b.ms=true:=by rw [←hat]; rfl
 have L:LikeC a b:=⟨hf,ht,h3,(Sp hmq).2⟩
 have hma:=La ha ga
 have hmb:=La hb gb
 have hs1:=Q6 ga gb
 have hs2:=QZ ga gb
 have hsm:Kp a b=Ec (Fk a b) (a.t-a.f+1).toNat:=by
  unfold Kp
  rw [c1,decide_eq_true hf,decide_eq_true ht,hmq,Bool.true_and,Bool.true_and,Bool.true_and,Bool.true_and,Bool.eq_iff_iff,decide_eq_true_eq]
  exact (YC ga.good gb.good L).symm
 rw [hsm] at hs1 hs2
 clear hsm
 obtain ⟨N,hN⟩:∃N:Nat,(a.t-a.f+1).toNat=N:=⟨_,rfl⟩
 rw [hN] at hs1 hs2
 have hRa:∀(d:Int) (i:Nat) (hi:i<a.ms.length) (q:Nat),(q:Int)≤a.ms[i].mx→DataW Tryz.prog J8 [Fl a,i64 d,HE ((List.replicate a.ms.length 0).set i q)] (.tup [i64 (ES a d+FC a d i q),i64 0]):=fun d i hi q hq=>Rf ha ga d rfl hi (by omega) hq
 have hRb:∀(d:Int) (i:Nat) (hi:i<a.ms.length) (q:Nat),(q:Int)≤a.ms[i].mx→DataW Tryz.prog J8 [Fl b,i64 d,HE ((List.replicate a.ms.length 0).set i q)] (.tup [i64 (ES b d+FC b d i q),i64 0]):=fun d i hi q hq=>Rf hb gb d h3 (by omega) (by omega) (by rw [←L.mx i hi (by omega)]; exact hq)
 have hZa:∀d:Int,a.ms.length=0→DataW Tryz.prog J8 [Fl a,i64 d,HE []] (.tup [i64 (ES a d),i64 0]):=fun d h0=>by
  have:=QS ha ga d
  rwa [h0] at this
 have hZb:∀d:Int,a.ms.length=0→DataW Tryz.prog J8 [Fl b,i64 d,HE []] (.tup [i64 (ES b d),i64 0]):=fun d h0=>by
  have:=QS hb gb d
  rwa [←h3,h0] at this
 generalize FZ a=S at *
 generalize FZ b=S' at *
 simp -implicitDefEqProofs -proj only [go_sem,seval,k3,k2,n1,n2,decide_eq_false (show ¬(a.ms.length:Int)<a.ms.length by omega)]
 refine AJ hma ?_
 simp -implicitDefEqProofs -proj only [go_sem,seval,k3,k2,n1,n2]
 refine AK (fun b6 hb6=>?_)
 replace hb6:Ab [(b3,EI b),(b2,EI a)] b6=none:=hb6
 obtain ⟨m1,m2⟩:=AI hb6 k3
 obtain ⟨m3,m4⟩:=AI hb6 k2
 simp -implicitDefEqProofs -proj only [go_sem,seval,k3,k2,n1,n2,m1,m2,m3,m4]
 refine AJ hmb ?_
 simp -implicitDefEqProofs -proj only [go_sem,seval,k3,k2,n1,n2,m1,m2,m3,m4]
 refine AK (fun b8 hb8=>?_)
 replace hb8:upd (Ab [(b3,EI b),(b2,EI a)]) b6 _ b8=none:=hb8
 obtain ⟨z1,z2⟩:=AI hb8 upd_eq
 obtain ⟨z3,z4⟩:=AI hb8 (by rw [AE m1]; exact k3)
 obtain ⟨z5,z6⟩:=AI hb8 (by rw [AE m3]; exact k2)
 have hK:AS (Ab (Iz b2 b3 b6 b8 a b S S')) (Iz b2 b3 b6 b8 a b S S'):=EQ (by simp [Iz,AT,n1,m1,m3,z1,z3,z5])
 obtain ⟨q8,q6,q3,q2,_⟩:=id hK
 simp -implicitDefEqProofs only [EI,Fx] at q8 q6 q3 q2
 have hmxb:=(fitsC.bnd ga.good).mx
 have hm18:∀(i:Nat) (h:i<a.ms.length),K6 a i=(a.ms[i].mx+1).toNat:=fun i h=>by unfold K6; rw [List.getElem?_eq_getElem h]
 have hmeters:∀k:Nat,k<N→Fk a b k=IL a b (a.f+k)→∀(t:TM) (H:Heap),AM t [(2,.ptr b2 0),(3,.ptr b3 0),(6,.ptr b6 0),(7,i64 0),(8,.ptr b8 0),(9,i64 0),(10,bv (Ec (Fk a b) k)),(11,i64 (a.f+k)),(130,i64 a.ms.length),(131,i64 0)]→AS H (Iz b2 b3 b6 b8 a b S S') →
   Kt Tryz.prog (Ho (fun k:Nat=>k≤N) (fun k:Nat=>⟨207,Et [(2,.ptr b2 0),(3,.ptr b3 0),(6,.ptr b6 0),(7,i64 0),(8,.ptr b8 0),(9,i64 0),(10,bv (Ec (Fk a b) k)),(11,i64 (a.f+k))],Ab (Iz b2 b3 b6 b8 a b S S')⟩) (fun k=>N-k) k (Ej Tryz.prog (A9 [.tmp 4] fun r' H'=>LendV H' r' (bv true)) [.blk 2,.code ((ACode.ops TQ).seq .ret)])) Pw [.blk 4,.code ((ACode.ops Pm).seq (.cond (.t 176) ((ACode.ops Rz).seq ((ACode.ops R8).seq (.ops TK))) .skip)),.blk 3,.code (.ops Qv)] ⟨207,t,H⟩:=by
  intro k hkN hday t H ht hH
  have hwk:IntKind.i64.wrap (a.f+(k:Int)+1)=a.f+((k+1:Nat):Int):=by rw [IntKind.wrap_i64]; omega
  have hnext:∀w:Bool,w=(Ec (Fk a b) k&&IL a b (a.f+k))→w=Ec (Fk a b) (k+1):=fun w e=>by rw [e,Ec,hday]
  obtain ⟨d,hd⟩:∃d:Int,a.f+(k:Int)=d:=⟨_,rfl⟩
  obtain ⟨w0,hw0⟩:∃w0:Bool,Ec (Fk a b) k=w0:=⟨_,rfl⟩
  rw [hd] at hwk hnext ht
  rw [hw0] at hnext ht
  refine D9 (fun i:Nat=>i≤a.ms.length) 207 (fun i=>[(2,.ptr b2 0),(3,.ptr b3 0),(6,.ptr b6 0),(7,i64 0),(8,.ptr b8 0),(9,i64 0),(10,bv (w0&&Ec (Hj a b d) i)),(11,i64 d),(130,i64 a.ms.length),(131,i64 i)]) (fun _=>Iz b2 b3 b6 b8 a b S S') (fun i=>a.ms.length-i) 0 (Nat.zero_le _) rfl ?_ hH ?_
  ·simp -implicitDefEqProofs only [Ec,Bool.and_true]
   exact ht
  intro i hi
  by_cases h:i<a.ms.length
  ·have h':i<b.ms.length:=by omega
   have e1:=Gl h
   have hmi:=hmxb i h
   have hmm:=hm18 i h
   have hstep:Ec (Hj a b d) (i+1)=(Ec (Hj a b d) i&&Ec (KL a b d i) (a.ms[i].mx+1).toNat):=by rw [Ec,Hj,hmm]
   have hA:=hRa d i h
   have hB:=hRb d i h
   generalize a.ms[i]=x at *
   simp -implicitDefEqProofs -proj only [go_sem,seval,q2,decide_eq_true (show (i:Int)<a.ms.length by omega)]
   refine D9 (fun q:Nat=>(q:Int)≤x.mx+1) 207 (fun q=>[(2,.ptr b2 0),(3,.ptr b3 0),(6,.ptr b6 0),(7,i64 0),(8,.ptr b8 0),(9,i64 0),(10,bv (w0&&Ec (Hj a b d) i&&Ec (KL a b d i) q)),(11,i64 d),(12,i64 i),(13,i64 q),(130,i64 a.ms.length),(131,i64 i)]) (fun _=>Iz b2 b3 b6 b8 a b S S') (fun q=>(x.mx+1).toNat-q) 0 (by omega) rfl ?_ hK ?_
   ·simp -implicitDefEqProofs -proj only [go_sem,seval,AM,Ec]
    try rfl
   intro q hq
   by_cases hqm:(q:Int)≤x.mx
   rotate_left
   ·have hqe:q=(x.mx+1).toNat:=by omega
    simp -implicitDefEqProofs -proj only [go_sem,seval,q2]
    refine Ah _ (by omega) e1 ?_
    simp -implicitDefEqProofs -proj only [go_sem,seval,decide_eq_false hqm]
    refine Ad (i+1) (by omega) (by omega) rfl ?_ hK
    simp -implicitDefEqProofs -proj only [go_sem,seval,AM,hstep,←hqe,Bool.and_assoc,AP (show i<9223372036854775807 by omega)]
   have hA:=hA q hqm
   have hB:=hB q hqm
   simp -implicitDefEqProofs -proj only [go_sem,seval,q2]
   refine Ah _ (by omega) e1 ?_
   simp -implicitDefEqProofs -proj only [go_sem,seval,decide_eq_true hqm,q2,E2]
   refine AOR (n:=a.ms.length) (by omega) (by omega) (fun b14 hb14=>?_)
   replace hb14:Ab (Iz b2 b3 b6 b8 a b S S') b14=none:=hb14
   obtain ⟨y1,y2⟩:=AI hb14 q2
   obtain ⟨y3,y4⟩:=AI hb14 q3
   rw [AMz]
   simp -implicitDefEqProofs -proj only [go_sem,seval,q2,y1,y2,y3,y4]
   refine Ae ⟨by omega,by omega⟩ (fun _=>?_)
   rw [Int.toNat_natCast]
   refine NO (cap:=a.ms.length) (t:=3) (xs:=Az (List.replicate a.ms.length 0)) (el:=[.int .i64 0]) upd_eq (Ly (by simp [h])) (by simp) ?_
   simp -implicitDefEqProofs -proj only [go_sem,seval,Gc]
   have hset:(Az (List.replicate a.ms.length 0)).set i [.int .i64 (q:Int)]=Az ((List.replicate a.ms.length 0).set i (q:Int)):=by simp [Az,List.map_set]
   have hq1:(w0&&Ec (Hj a b d) i&&Ec (KL a b d i) (q+1))=((w0&&Ec (Hj a b d) i&&Ec (KL a b d i) q)&&decide (ES a d+FC a d i q=ES b d+FC b d i q)):=by rw [Ec,KL,Bool.and_assoc,Bool.and_assoc,Bool.and_assoc]
   rw [hset]
   simp -implicitDefEqProofs -proj only [go_sem,seval,q2,q3,y1,y2,y3,y4]
   refine JN hA (FE (.refl _) (FE (.refl _) (FE (Lf upd_eq (by simp [rowI_len])) GY))) rfl ?_
   simp -implicitDefEqProofs -proj only [go_sem,seval,q2,q3,y1,y2,y3,y4]
   refine JN hB (FE (.refl _) (FE (.refl _) (FE (Lf upd_eq (by simp [rowI_len])) GY))) rfl ?_
   have hall14:=fun z=>An (y:=z) hb14 hK
   cases hw:(w0&&Ec (Hj a b d) i&&Ec (KL a b d i) q)
   ·rw [hw,Bool.false_and] at hq1
    simp -implicitDefEqProofs -proj only [go_sem,seval]
    refine Ad (q+1) (by omega) (by omega) rfl ?_ (hall14 _)
    simp -implicitDefEqProofs -proj only [go_sem,seval,AM,hq1,AP (show q<9223372036854775807 by omega)]
   ·rw [hw,Bool.true_and] at hq1
    simp -implicitDefEqProofs -proj only [go_sem,seval]
    refine Ad (q+1) (by omega) (by omega) rfl ?_ (hall14 _)
    simp -implicitDefEqProofs -proj only [go_sem,seval,AM,hq1,AP (show q<9223372036854775807 by omega)]
  ·have hi':i=a.ms.length:=by omega
   subst hi'
   by_cases h0:a.ms.length=0
   ·have hA:=hZa d h0
    have hB:=hZb d h0
    have hE:IL a b d=(Ec (Hj a b d) a.ms.length&&decide (ES a d=ES b d)):=by unfold IL; rw [if_pos h0]
    simp -implicitDefEqProofs -proj only [go_sem,seval,q2,q3,E2,decide_eq_false (show ¬(a.ms.length:Int)<a.ms.length by omega),decide_eq_true (show (a.ms.length:Int)=0 by omega)]
    refine JN hA (FE (.refl _) (FE (.refl _) (FE (.nilsl _ _) GY))) rfl ?_
    simp -implicitDefEqProofs -proj only [go_sem,seval,q2,q3]
    refine JN hB (FE (.refl _) (FE (.refl _) (FE (.nilsl _ _) GY))) rfl ?_
    cases hw:(w0&&Ec (Hj a b d) a.ms.length)
    ·have hn:=hnext false (by rw [hE,←Bool.and_assoc,hw,Bool.false_and])
     simp -implicitDefEqProofs -proj only [go_sem,seval]
     refine Ad (k+1) (by omega) (by omega) rfl ?_ hK
     simp -implicitDefEqProofs -proj only [go_sem,seval,AM,hn,hwk]
    ·have hn:=hnext (decide (ES a d=ES b d)) (by rw [hE,←Bool.and_assoc,hw,Bool.true_and])
     simp -implicitDefEqProofs -proj only [go_sem,seval]
     refine Ad (k+1) (by omega) (by omega) rfl ?_ hK
     simp -implicitDefEqProofs -proj only [go_sem,seval,AM,←hn,hwk]
   ·have hn:=hnext (w0&&Ec (Hj a b d) a.ms.length) (by unfold IL; rw [if_neg h0,Bool.and_true])
    simp -implicitDefEqProofs -proj only [go_sem,seval,q2,q3,E2,decide_eq_false (show ¬(a.ms.length:Int)<a.ms.length by omega),decide_eq_false (show ¬(a.ms.length:Int)=0 by omega)]
    refine Ad (k+1) (by omega) (by omega) rfl ?_ hK
    simp -implicitDefEqProofs -proj only [go_sem,seval,AM,←hn,hwk]
 have hall8:=HK (x:=Fx b.cur b.f b.t b.ms S') hb8 (HK (x:=Fx a.cur a.f a.t a.ms S) hb6 hk)
 simp -implicitDefEqProofs -proj only [go_sem,seval,k3,k2,n1,n2,m1,m2,m3,m4,z1,z2,z3,z4,z5,z6]
 refine D9 (fun k:Nat=>k≤N) 207 (fun k=>[(2,.ptr b2 0),(3,.ptr b3 0),(6,.ptr b6 0),(7,i64 0),(8,.ptr b8 0),(9,i64 0),(10,bv (Ec (Fk a b) k)),(11,i64 (a.f+k))]) (fun _=>Iz b2 b3 b6 b8 a b S S') (fun k=>N-k) 0 (Nat.zero_le _) rfl ?_ hall8 ?_
 ·simp -implicitDefEqProofs -proj only [go_sem,seval,AM,Ec,Int.add_zero]
  try rfl
 intro k hk
 by_cases hkN:k<N
 rotate_left
 ·have hke:k=N:=by omega
  subst hke
  simp -implicitDefEqProofs -proj only [go_sem,seval,q2,decide_eq_false (show ¬a.f+(k:Int)≤a.t by omega),q6,q8]
  refine AJ hs1 ?_
  generalize Ec (Fk a b) k=w at *
  simp -implicitDefEqProofs -proj only [go_sem,seval,q6,q8,beq_self_eq_true]
  refine AJ hs2 ?_
  simp -implicitDefEqProofs -proj only [go_sem,seval,beq_self_eq_true]
  exact AH rfl
 have hm:=hmeters k hkN
 have hwk:IntKind.i64.wrap (a.f+(k:Int)+1)=a.f+((k+1:Nat):Int):=by rw [IntKind.wrap_i64]; omega
 have dle:=decide_eq_true (show a.f+(k:Int)≤a.t by omega)
 by_cases k0:k=0
 ·have hd:Fk a b k=IL a b (a.f+k):=by unfold Fk; rw [if_neg (fun e=>by omega)]
  simp -implicitDefEqProofs -proj only [go_sem,seval,q2,dle,decide_eq_false (show ¬a.f<a.f+(k:Int) by omega),E2]
  refine hm hd _ _ ?_ hK
  simp -implicitDefEqProofs -proj only [go_sem,seval,AM]
  try rfl
 have hqa:=Sw (c:=a) (d:=a.f+(k:Int)) (by omega) (by omega) (by omega)
 have hqb:=Sw (c:=b) (d:=a.f+(k:Int)) (by omega) (by omega) (by omega)
 simp -implicitDefEqProofs -proj only [go_sem,seval,q2,dle,decide_eq_true (show a.f<a.f+(k:Int) by omega)]
 refine AJ hqa ?_
 by_cases p1:IV a (a.f+k)
 rotate_left
 ·have hd:Fk a b k=IL a b (a.f+k):=by unfold Fk; rw [if_neg (fun e=>p1 e.2.1)]
  simp -implicitDefEqProofs -proj only [go_sem,seval,q2,decide_eq_false p1,E2]
  refine hm hd _ _ ?_ hK
  simp -implicitDefEqProofs -proj only [go_sem,seval,AM]
  try rfl
 simp -implicitDefEqProofs -proj only [go_sem,seval,q3,decide_eq_true p1]
 refine AJ hqb ?_
 by_cases p2:IV b (a.f+k)
 rotate_left
 ·have hd:Fk a b k=IL a b (a.f+k):=by unfold Fk; rw [if_neg (fun e=>p2 e.2.2)]
  simp -implicitDefEqProofs -proj only [go_sem,seval,q2,decide_eq_false p2,E2]
  refine hm hd _ _ ?_ hK
  simp -implicitDefEqProofs -proj only [go_sem,seval,AM]
  try rfl
 have hd:Ec (Fk a b) (k+1)=Ec (Fk a b) k:=by
  rw [Ec,Fk,if_pos ⟨by omega,p1,p2⟩,Bool.and_true]
 simp -implicitDefEqProofs -proj only [go_sem,seval,decide_eq_true p2]
 refine Ad (k+1) (by omega) (by omega) rfl ?_ hK
 simp -implicitDefEqProofs -proj only [go_sem,seval,AM,hd,hwk]
end Go.Proofs.YtbihahpaalcjjaaGreat.Abs
