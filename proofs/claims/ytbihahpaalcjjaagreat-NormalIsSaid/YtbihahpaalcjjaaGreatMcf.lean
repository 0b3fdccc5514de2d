/- Contracts of the machine and the contracts of one law (joined by kmerge.py). No claim stands here. -/
import Derived.Below
import Derived.Carry
import Derived.ChangeCalls
import Derived.ChangeOld
import Derived.IntWalk
import Derived.KernelRfl
import Derived.Laws.Append
import Derived.Laws.AppendOwn
import Derived.Laws.Cells
import Derived.Laws.CopyRow
import Derived.Laws.Entries
import Derived.Laws.MakeOwn
import Derived.Laws.NewFold
import Derived.Laws.Rows
import Derived.Laws.StructEq
import Derived.OpenShut
import Derived.Orders
import Derived.OrdersIn
import Derived.ProofKit
import Derived.RangeFuncLeaves
import Derived.RangeFuncSeq
import Derived.SizedLaws
import Derived.TacticsIn
import Derived.WalkKit
import Derived.Test.YtbihahpaalcjjaaGreatMce
set_option maxRecDepth 100000
set_option linter.unusedSimpArgs false
set_option linter.unusedVariables false
namespace Go.Proofs.YtbihahpaalcjjaaGreat.Abs
open Go Go.RowKit Go.Proofs
attribute [local go_sem] Dk CB DN DR Cb EC B3 Am Az Dg ED DP CI Bk Dn EK BX B1 Be C7 Bh Dy CK EA CE Cd Bj Dr Ds DD DV Bf CF DE Dq EL C5 Bx Bn C1 Cl CR C6 Bz Ct CM Bt Ck Ce DA DL Dz Cj EE DU Df Bu DT B8 De Cf DX DM Ci DZ C0 D5 Bo D2 Ca Bq BO Bc Cw BS Cy Bb BK D6 Db CX DH DB Da B2 Cz DC DS CH DW Cr Do Dv CD CJ CQ BQ CL BP BH Dm Bm C4 AM ev An A9 A7 BT BF D8 EF Dj CY Au Aw Cc Co Di By C2 Dt D3 Cv CG DK Cq Bp EG EJ Dw CP D4 Dd CZ D9 Bd Cn CN Ak setSeg nth seg mapD Ax BI AX BL Cp EH Av Ag cond_true cond_false B7 BN BU BM BY B0 CT List.cons_append List.nil_append Bool.not_true Bool.not_false Bool.and_true Bool.and_self Nat.lt_add_left_iff_pos Nat.zero_add Nat.add_zero List.drop_succ_cons List.drop_zero List.take_succ_cons List.take_zero beq_self_eq_true Bool.false_eq_true Cu Dx CO Cm Bi D0 DQ EB DI BA and_self and_true true_and Dh CU CA Bs DJ DG C8 DO Dp EI Cs Dl Br Bl Bv Du D1 A6 BD BE Ap Bw C3 Dc B9 BZ C9 List.length_cons List.length_nil Nat.min_def Int.cast_ofNat_Int Int.natCast_zero Int.natCast_one decide_true decide_false List.getElem?_cons_zero List.getElem?_cons_succ DF Bg Ch Cx CV D7
theorem S5 {H:Heap} {b sz cap cap' len:Nat} {e:TypeId} {xs:List (List D)} (h:H b=some (.row e sz cap' xs)) (hl:len=xs.length) (hs:∀el∈xs,∀d∈el,HA d=true):NewV H (.own b sz 0 len cap) (.d (.sl sz xs)):=by
 subst hl; exact .own b sz cap e cap' xs h hs
theorem Lx {H:Heap} {x y:AV} (h:NewV H x y):NewV H (.agg [x]) (.agg [y]):=by
 refine .agg _ _ rfl fun j u v h1 h2=>?_
 cases j with
 | zero=>cases h1; cases h2; exact h
 | succ j=>cases h1
def Run.elU (r:Run):List D:=[.int .i64 r.f,.int .i64 r.t,.int .u64 r.v]
abbrev Run.avU (r:Run):AV:=.agg [i64 r.f,i64 r.t,u64 r.v]
def Fc (l:List Run):List (List D):=l.map Run.elU
theorem rowU_len {l:List Run}:(Fc l).length=l.length:=List.length_map ..
theorem ASd {l:List Run} {i:Nat} (h:i<l.length):(Fc l)[i]? = some (Run.elU l[i]):=by simp [Fc,h]
theorem AHw {l:List Run} {i:Nat} {r:Run}:(Fc l).set i r.elU=Fc (l.set i r):=by simp [Fc,List.map_set]
theorem AGg {l:List Run} {r:Run}:Fc l++[r.elU]=Fc (l++[r]):=by simp [Fc]
def LineAtU (H:Heap) (b:Nat) (c:Nat) (l:List Run):Prop :=
 l=[]∧H b=some (.box 74 [.nilsl 3])∨l≠[]∧c≠b∧∃cap,H b=some (.box 74 [.own c 3 0 l.length cap])∧H c=some (.row 82 3 cap (Fc l))
def AFE (b c:Nat) (l0 l:List Run) (H:Heap) (H':Heap):Prop:=∃c',LineAtU H' b c' l∧(∀k x,k≠b→(l0≠[]→k≠c)→H k=some x→H' k=some x∧k≠c')
theorem OE {H:Heap} {b c:Nat} {l:List Run} {r:Run} (h:LineAtU H b c l) (hl:l.length≤1000000):CallW Tryz.prog T0 [.ptr b 0,r.avU] H fun _ H'=>AFE b c l (BB l r) H H':=by
 rcases h with ⟨rfl,h1⟩ | ⟨h0,h3,cap,h1,h2⟩
 ·refine AZ T3 (by simp) ?_
  simp -implicitDefEqProofs -proj only [go_sem,seval,h1]
  refine AI (fun b3 hb=>?_)
  replace hb:H b3=none:=hb
  obtain ⟨n1,n2⟩:=AG hb h1
  simp -implicitDefEqProofs -proj only [go_sem,seval,h1,n1,n2]
  (repeat' first
  | ((with_reducible first | refine EP (fun h=>?_) (fun h=>?_) | refine Ba (fun h=>?_) (fun h=>?_) | refine ET (fun h=>?_) (fun h=>?_)) <;> (simp -implicitDefEqProofs -proj only [go_sem,seval,h,h1,n1,n2]; try (revert h; intro _)))
  | ((with_reducible first | refine AI (fun _ hb=>?_) | refine Ao (fun _ hb=>?_)); simp -implicitDefEqProofs only [ES,EU,Ag,Heap.none_get,and_true,true_and] at hb; simp -implicitDefEqProofs -proj only [go_sem,seval,h1,n1,n2]; try (revert hb; intro _))
  | ((with_reducible first | refine BC _ rfl (by simp) ?_ | refine Cg _ rfl (by simp) ?_); simp -implicitDefEqProofs -proj only [go_sem,seval,h1,n1,n2])
  | (with_reducible refine Aa ?_ (fun h=>?_); first | ((focus first | decide | omega); try clear h; try simp -implicitDefEqProofs -proj only [go_sem,seval,h1,n1,n2]) | (rotate_left; try clear h; try simp -implicitDefEqProofs -proj only [go_sem,seval,h1,n1,n2]; rotate_right)))
  refine Iy (ds:=r.elU) rfl (fun bs hs=>?_)
  replace hs:upd H b3 _ bs=none:=hs
  rw [show Ap 3 1 r.elU=[r.elU] from rfl]
  obtain ⟨m1,m2⟩:=AG hs (by rw [AD n1]; exact h1)
  simp -implicitDefEqProofs -proj only [go_sem,seval,h1,n1,n2,m1,m2]
  refine OV (ys:=[r.elU]) (t:=82) (capc:=1) (by simp -implicitDefEqProofs -proj only [go_sem,seval]) rfl (by simp) rfl (by simp [maxLen]) (fun c' hc' cap=>?_)
  replace hc':upd (upd H b3 _) bs _ c'=none:=hc'
  obtain ⟨k1,k2⟩:=AG hc' (by rw [AD m1,AD n1]; exact h1)
  simp -implicitDefEqProofs -proj only [go_sem,seval,h1,n1,n2,m1,m2,k1,k2]
  (repeat' first
  | ((with_reducible first | refine EP (fun h=>?_) (fun h=>?_) | refine Ba (fun h=>?_) (fun h=>?_) | refine ET (fun h=>?_) (fun h=>?_)) <;> (simp -implicitDefEqProofs -proj only [go_sem,seval,h,h1,n1,n2,m1,m2,k1,k2]; try (revert h; intro _)))
  | ((with_reducible first | refine AI (fun _ hb=>?_) | refine Ao (fun _ hb=>?_)); simp -implicitDefEqProofs only [ES,EU,Ag,Heap.none_get,and_true,true_and] at hb; simp -implicitDefEqProofs -proj only [go_sem,seval,h1,n1,n2,m1,m2,k1,k2]; try (revert hb; intro _))
  | ((with_reducible first | refine BC _ rfl (by simp) ?_ | refine Cg _ rfl (by simp) ?_); simp -implicitDefEqProofs -proj only [go_sem,seval,h1,n1,n2,m1,m2,k1,k2])
  | (with_reducible refine Aa ?_ (fun h=>?_); first | ((focus first | decide | omega); try clear h; try simp -implicitDefEqProofs -proj only [go_sem,seval,h1,n1,n2,m1,m2,k1,k2]) | (rotate_left; try clear h; try simp -implicitDefEqProofs -proj only [go_sem,seval,h1,n1,n2,m1,m2,k1,k2]; rotate_right)))
  refine ⟨c',.inr ⟨by simp [BB],k1,cap,?_,?_⟩,fun k x hk1 hk2 hk=>?_⟩
  ·simp -implicitDefEqProofs -proj only [go_sem,seval,BB]
   rfl
  ·simp -implicitDefEqProofs -proj only [go_sem,seval,k2]
   rfl
  ·obtain ⟨p1,p2⟩:=AG hb hk
   obtain ⟨q1,q2⟩:=AG hs (by rw [AD p1]; exact hk)
   obtain ⟨r1,r2⟩:=AG hc' (by rw [AD q1,AD p1]; exact hk)
   refine ⟨?_,r2⟩
   have hk3:¬b=k:=fun e=>hk1 e.symm
   simp -implicitDefEqProofs -proj only [go_sem,seval,p1,q1,r1,hk,hk3]
 ·obtain ⟨q,hq⟩:∃q,l.getLast? = some q:=by
   cases hh:l.getLast? with
   | none=>exact absurd (List.getLast?_eq_none_iff.1 hh) h0
   | some q=>exact ⟨q,rfl⟩
  have hlen:0<l.length:=List.length_pos_iff.2 h0
  have hq2:l[l.length-1]? = some q:=by rw [←List.getLast?_eq_getElem?]; exact hq
  have hw:IntKind.i64.wrap ((l.length:Int)-1)=((l.length-1:Nat):Int):=by rw [IntKind.wrap_i64]; omega
  have hrow:(Fc l)[l.length-1]? = some [.int .i64 q.f,.int .i64 q.t,.int .u64 q.v]:=by simp [Fc,hq2,Run.elU]
  have h3':¬b=c:=fun e=>h3 e.symm
  refine AZ T3 (by simp) ?_
  simp -implicitDefEqProofs -proj only [go_sem,seval,h1]
  refine AI (fun b3 hb=>?_)
  replace hb:H b3=none:=hb
  obtain ⟨n1,n2⟩:=AG hb h1
  obtain ⟨n3,n4⟩:=AG hb h2
  have c0:decide (0<(l.length:Int))=true:=decide_eq_true (by omega)
  simp -implicitDefEqProofs -proj only [go_sem,seval,h1,h2,h3,h3',n1,n2,n3,n4,c0,hw]
  (repeat' first
  | ((with_reducible first | refine EP (fun h=>?_) (fun h=>?_) | refine Ba (fun h=>?_) (fun h=>?_) | refine ET (fun h=>?_) (fun h=>?_)) <;> (simp -implicitDefEqProofs -proj only [go_sem,seval,h,h1,h2,h3,h3',n1,n2,n3,n4,c0,hw]; try (revert h; intro _)))
  | ((with_reducible first | refine AI (fun _ hb=>?_) | refine Ao (fun _ hb=>?_)); simp -implicitDefEqProofs only [ES,EU,Ag,Heap.none_get,and_true,true_and] at hb; simp -implicitDefEqProofs -proj only [go_sem,seval,h1,h2,h3,h3',n1,n2,n3,n4,c0,hw]; try (revert hb; intro _))
  | ((with_reducible first | refine BC _ rfl (by simp) ?_ | refine Cg _ rfl (by simp) ?_); simp -implicitDefEqProofs -proj only [go_sem,seval,h1,h2,h3,h3',n1,n2,n3,n4,c0,hw])
  | (with_reducible refine Aa ?_ (fun h=>?_); first | ((focus first | decide | omega); try clear h; try simp -implicitDefEqProofs -proj only [go_sem,seval,h1,h2,h3,h3',n1,n2,n3,n4,c0,hw]) | (rotate_left; try clear h; try simp -implicitDefEqProofs -proj only [go_sem,seval,h1,h2,h3,h3',n1,n2,n3,n4,c0,hw]; rotate_right)))
  refine BC _ (by rw [Int.toNat_natCast]; exact hrow) (by simp) ?_
  simp -implicitDefEqProofs -proj only [go_sem,seval,h1,h2,h3,h3',n1,n2,n3,n4,c0,hw]
  by_cases hv:q.v=r.v
  ·have hp:BB l r=l.dropLast++[{ q with t:=r.t }]:=by rw [BB,hq]; exact if_pos hv
   simp -implicitDefEqProofs -proj only [go_sem,seval,h1,h2,h3,h3',n1,n2,n3,n4,c0,hw,decide_eq_true hv,Int.toNat_natCast]
   (repeat' first
  | ((with_reducible first | refine EP (fun h=>?_) (fun h=>?_) | refine Ba (fun h=>?_) (fun h=>?_) | refine ET (fun h=>?_) (fun h=>?_)) <;> (simp -implicitDefEqProofs -proj only [go_sem,seval,h,h1,h2,h3,h3',n1,n2,n3,n4,c0,hw,Int.toNat_natCast]; try (revert h; intro _)))
  | ((with_reducible first | refine AI (fun _ hb=>?_) | refine Ao (fun _ hb=>?_)); simp -implicitDefEqProofs only [ES,EU,Ag,Heap.none_get,and_true,true_and] at hb; simp -implicitDefEqProofs -proj only [go_sem,seval,h1,h2,h3,h3',n1,n2,n3,n4,c0,hw,Int.toNat_natCast]; try (revert hb; intro _))
  | ((with_reducible first | refine BC _ rfl (by simp) ?_ | refine Cg _ rfl (by simp) ?_); simp -implicitDefEqProofs -proj only [go_sem,seval,h1,h2,h3,h3',n1,n2,n3,n4,c0,hw,Int.toNat_natCast])
  | (with_reducible refine Aa ?_ (fun h=>?_); first | ((focus first | decide | omega); try clear h; try simp -implicitDefEqProofs -proj only [go_sem,seval,h1,h2,h3,h3',n1,n2,n3,n4,c0,hw,Int.toNat_natCast]) | (rotate_left; try clear h; try simp -implicitDefEqProofs -proj only [go_sem,seval,h1,h2,h3,h3',n1,n2,n3,n4,c0,hw,Int.toNat_natCast]; rotate_right)))
   refine Kj (xs:=Fc l) (t:=82) (cap:=cap) (by simp -implicitDefEqProofs -proj only [go_sem,seval,n3,h2]) hrow (by simp) ?_
   have hset:(Fc l).set (l.length-1) (F4 [.int .i64 q.f,.int .i64 q.t,.int .u64 q.v] 1 [.int .i64 r.t])=Fc (BB l r):=by
    rw [hp,←US h0,←AHw]; rfl
   have hlp:(BB l r).length=l.length:=by rw [hp,List.length_append,List.length_dropLast,List.length_singleton]; omega
   rw [hset]
   simp -implicitDefEqProofs -proj only [go_sem,seval,h1,h2,h3,h3',n1,n2,n3,n4,c0,hw]
   refine ⟨c,.inr ⟨by rw [hp]; simp,h3,cap,?_,?_⟩,fun k x hk1 hk2 hk=>?_⟩
   ·simp -implicitDefEqProofs -proj only [go_sem,seval,n1,h3,h1,hlp]
   ·simp -implicitDefEqProofs -proj only [go_sem,seval]
   ·obtain ⟨p1,p2⟩:=AG hb hk
    have hk3:¬c=k:=fun e=>hk2 h0 e.symm
    refine ⟨?_,hk2 h0⟩
    simp -implicitDefEqProofs -proj only [go_sem,seval,p1,hk3,hk]
  ·have hp:BB l r=l++[r]:=by rw [BB,hq]; exact if_neg hv
   simp -implicitDefEqProofs -proj only [go_sem,seval,h1,h2,h3,h3',n1,n2,n3,n4,c0,hw,decide_eq_false hv]
   (repeat' first
  | ((with_reducible first | refine EP (fun h=>?_) (fun h=>?_) | refine Ba (fun h=>?_) (fun h=>?_) | refine ET (fun h=>?_) (fun h=>?_)) <;> (simp -implicitDefEqProofs -proj only [go_sem,seval,h,h1,h2,h3,h3',n1,n2,n3,n4,c0,hw]; try (revert h; intro _)))
  | ((with_reducible first | refine AI (fun _ hb=>?_) | refine Ao (fun _ hb=>?_)); simp -implicitDefEqProofs only [ES,EU,Ag,Heap.none_get,and_true,true_and] at hb; simp -implicitDefEqProofs -proj only [go_sem,seval,h1,h2,h3,h3',n1,n2,n3,n4,c0,hw]; try (revert hb; intro _))
  | ((with_reducible first | refine BC _ rfl (by simp) ?_ | refine Cg _ rfl (by simp) ?_); simp -implicitDefEqProofs -proj only [go_sem,seval,h1,h2,h3,h3',n1,n2,n3,n4,c0,hw])
  | (with_reducible refine Aa ?_ (fun h=>?_); first | ((focus first | decide | omega); try clear h; try simp -implicitDefEqProofs -proj only [go_sem,seval,h1,h2,h3,h3',n1,n2,n3,n4,c0,hw]) | (rotate_left; try clear h; try simp -implicitDefEqProofs -proj only [go_sem,seval,h1,h2,h3,h3',n1,n2,n3,n4,c0,hw]; rotate_right)))
   refine Iy (ds:=r.elU) rfl (fun bs hs=>?_)
   replace hs:upd H b3 _ bs=none:=hs
   rw [show Ap 3 1 r.elU=[r.elU] from rfl]
   obtain ⟨m1,m2⟩:=AG hs (by rw [AD n1]; exact h1)
   obtain ⟨m3,m4⟩:=AG hs (by rw [AD n3]; exact h2)
   simp -implicitDefEqProofs -proj only [go_sem,seval,h1,h2,h3,h3',n1,n2,n3,n4,c0,hw,m1,m2,m3,m4]
   refine P9 (xs:=Fc l) (ys:=[r.elU]) (t:=82) (capc:=1) (by simp -implicitDefEqProofs -proj only [go_sem,seval,m3,n3,h2]) (by simp -implicitDefEqProofs -proj only [go_sem,seval]) rowU_len.symm rfl (by simp) rfl (by simp -implicitDefEqProofs only [rowU_len,List.length_singleton,maxLen]; omega) (fun c' cap' hc'=>?_)
   replace hc':upd (upd (upd H b3 _) bs _) c none c'=none:=hc'
   obtain ⟨k1,k2⟩:=AG hc' (by rw [AD h3,AD m1,AD n1]; exact h1)
   rw [AGg,List.length_singleton]
   simp -implicitDefEqProofs -proj only [go_sem,seval,h1,h2,h3,h3',n1,n2,n3,n4,c0,hw,m1,m2,m3,m4,k1,k2]
   (repeat' first
  | ((with_reducible first | refine EP (fun h=>?_) (fun h=>?_) | refine Ba (fun h=>?_) (fun h=>?_) | refine ET (fun h=>?_) (fun h=>?_)) <;> (simp -implicitDefEqProofs -proj only [go_sem,seval,h,h1,h2,h3,h3',n1,n2,n3,n4,c0,hw,m1,m2,m3,m4,k1,k2]; try (revert h; intro _)))
  | ((with_reducible first | refine AI (fun _ hb=>?_) | refine Ao (fun _ hb=>?_)); simp -implicitDefEqProofs only [ES,EU,Ag,Heap.none_get,and_true,true_and] at hb; simp -implicitDefEqProofs -proj only [go_sem,seval,h1,h2,h3,h3',n1,n2,n3,n4,c0,hw,m1,m2,m3,m4,k1,k2]; try (revert hb; intro _))
  | ((with_reducible first | refine BC _ rfl (by simp) ?_ | refine Cg _ rfl (by simp) ?_); simp -implicitDefEqProofs -proj only [go_sem,seval,h1,h2,h3,h3',n1,n2,n3,n4,c0,hw,m1,m2,m3,m4,k1,k2])
  | (with_reducible refine Aa ?_ (fun h=>?_); first | ((focus first | decide | omega); try clear h; try simp -implicitDefEqProofs -proj only [go_sem,seval,h1,h2,h3,h3',n1,n2,n3,n4,c0,hw,m1,m2,m3,m4,k1,k2]) | (rotate_left; try clear h; try simp -implicitDefEqProofs -proj only [go_sem,seval,h1,h2,h3,h3',n1,n2,n3,n4,c0,hw,m1,m2,m3,m4,k1,k2]; rotate_right)))
   refine ⟨c',.inr ⟨by rw [hp]; simp,k1,cap',?_,?_⟩,fun k x hk1 hk2 hk=>?_⟩
   ·simp -implicitDefEqProofs -proj only [go_sem,seval,hp,List.length_append]
   ·simp -implicitDefEqProofs -proj only [go_sem,seval,k2,hp]
   ·obtain ⟨p1,p2⟩:=AG hb hk
    obtain ⟨q1,q2⟩:=AG hs (by rw [AD p1]; exact hk)
    have hk3:¬c=k:=fun e=>hk2 h0 e.symm
    have hk4:¬b=k:=fun e=>hk1 e.symm
    obtain ⟨r1,r2⟩:=AG hc' (by rw [AD hk3,AD q1,AD p1]; exact hk)
    refine ⟨?_,r2⟩
    simp -implicitDefEqProofs -proj only [go_sem,seval,p1,q1,r1,hk3,hk4,hk]
def Gk (b c cap:Nat) (l:List Run):List (Nat×Blk):=if l=[] then [(b,.box 74 [.nilsl 3])] else [(b,.box 74 [.own c 3 0 l.length cap]),(c,.row 82 3 cap (Fc l))]
theorem Sd {b c cap:Nat} {l:List Run} {rest:List (Nat×Blk)} (hc:l≠[]→c≠b):LineAtU (Ad (Gk b c cap l++rest)) b c l:=by
 unfold Gk
 by_cases h:l=[]
 ·rw [if_pos h]
  exact .inl ⟨h,by rw [List.cons_append,Av,if_pos rfl]⟩
 ·rw [if_neg h]
  refine .inr ⟨h,hc h,cap,?_,?_⟩
  ·rw [List.cons_append,Av,if_pos rfl]
  ·rw [List.cons_append,Av,if_neg (hc h),List.cons_append,Av,if_pos rfl]
theorem Nx {b c cap k:Nat} {l:List Run} {rest:List (Nat×Blk)} (hb:k≠b) (hc:l≠[]→k≠c):Ad (Gk b c cap l++rest) k=Ad rest k:=by
 unfold Gk
 by_cases h:l=[]
 ·rw [if_pos h,List.cons_append,Av,if_neg hb,List.nil_append]
 ·rw [if_neg h,List.cons_append,Av,if_neg hb,List.cons_append,Av,if_neg (hc h),List.nil_append]
theorem LC {H:Heap} {b c:Nat} {l:List Run} (h:LineAtU H b c l):∃cap,AS H (Gk b c cap l)∧(l≠[]→c≠b):=by
 rcases h with ⟨rfl,h1⟩ | ⟨h0,h3,cap,h1,h2⟩
 ·exact ⟨0,⟨h1,trivial⟩,fun h=>absurd rfl h⟩
 ·refine ⟨cap,?_,fun _=>h3⟩
  unfold Gk
  rw [if_neg h0]
  exact ⟨h1,h2,trivial⟩
abbrev IN (l:List Run):AV:=.agg [.d (.sl 3 (Fc l))]
theorem Sc {l:List Run}:∀el∈Fc l,∀d∈el,HA d=true:=by
 intro el he d hd
 obtain ⟨r,_,rfl⟩:=List.mem_map.1 he
 simp -implicitDefEqProofs only [Run.elU,List.mem_cons,List.not_mem_nil,or_false] at hd
 rcases hd with rfl | rfl | rfl <;> rfl
theorem LineAtU.read {H:Heap} {b c:Nat} {l:List Run} (h:LineAtU H b c l):∃v,H b=some (.box 74 [v])∧NewV H v (.d (.sl 3 (Fc l)))∧Jv v=some (i64 l.length):=by
 rcases h with ⟨rfl,h1⟩ | ⟨h0,h3,cap,h1,h2⟩
 ·exact ⟨_,h1,.nilsl _ _,rfl⟩
 ·exact ⟨_,h1,S5 h2 rowU_len.symm Sc,rfl⟩
theorem LineAtU.upd {H:Heap} {b c k:Nat} {l:List Run} {x:Option Blk} (h:LineAtU H b c l) (hb:¬k=b) (hc:l≠[]→¬k=c):LineAtU (upd H k x) b c l:=by
 rcases h with ⟨h0,h1⟩ | ⟨h0,h3,cap,h1,h2⟩
 ·exact .inl ⟨h0,by rw [AD hb]; exact h1⟩
 ·exact .inr ⟨h0,h3,cap,by rw [AD hb]; exact h1,by rw [AD (hc h0)]; exact h2⟩
abbrev Gw (l:List Run):AV:=.d (.sl 3 (Fc l))
theorem Nz {l:List Run} {i:Nat} (h:i<l.length):(Fc l)[((i:Int)).toNat]? = some [.int .i64 l[i].f,.int .i64 l[i].t,.int .u64 l[i].v]:=by
 rw [Int.toNat_natCast]; exact ASd h
theorem LineAtU.fresh {H:Heap} {b c k:Nat} {l:List Run} (h:LineAtU H b c l) (hk:H k=none):¬k=b∧(l≠[]→¬k=c):=by
 rcases h with ⟨h0,h1⟩ | ⟨h0,h3,cap,h1,h2⟩
 ·exact ⟨(AG hk h1).1,fun h=>absurd h0 h⟩
 ·exact ⟨(AG hk h1).1,fun _=>(AG hk h2).1⟩
theorem AS7 {a b:List Run} {f:FuncId} {g:Int→Int→Int} (hg:∀u v:Int,DataW Tryz.prog f [u64 u,u64 v] (u64 (g u v))) (ha:a.length≤400000) (hb:b.length≤400000):NewW Tryz.prog ACO [IN a,IN b,.fn f []] (IN (E7 g a b (a.length+b.length) 0 0 [])):=by
 refine AZ AN5 (by simp) ?_
 simp -implicitDefEqProofs -proj only [go_sem,seval]
 refine AI (fun b3 hb3=>?_)
 simp -implicitDefEqProofs -proj only [go_sem,seval]
 refine AI (fun b4 hb4=>?_)
 replace hb4:upd Heap.none b3 _ b4=none:=hb4
 obtain ⟨n1,n2⟩:=AG hb4 AP
 simp -implicitDefEqProofs -proj only [go_sem,seval,n1,n2]
 refine AI (fun b6 hb6=>?_)
 replace hb6:upd (upd Heap.none b3 _) b4 _ b6=none:=hb6
 obtain ⟨n3,n4⟩:=AG hb6 AP
 obtain ⟨n5,n6⟩:=AG hb6 (by rw [AD n1]; exact AP)
 simp -implicitDefEqProofs -proj only [go_sem,seval,n1,n2,n3,n4,n5,n6,rowU_len]
 refine AI (fun b7 hb7=>?_)
 replace hb7:upd (upd (upd Heap.none b3 _) b4 _) b6 _ b7=none:=hb7
 obtain ⟨n7,n8⟩:=AG hb7 AP
 obtain ⟨p1,p2⟩:=AG hb7 (by rw [AD n3]; exact AP)
 obtain ⟨p3,p4⟩:=AG hb7 (by rw [AD n5,AD n1]; exact AP)
 simp -implicitDefEqProofs -proj only [go_sem,seval,n1,n2,n3,n4,n5,n6,n7,n8,p1,p2,p3,p4,rowU_len]
 obtain ⟨rest,hrest⟩:∃rest:List (Nat×Blk),rest=[(b6,.box 74 [.nilsl 3]),(b3,.box 74 [Gw a]),(b4,.box 74 [Gw b])]:=⟨_,rfl⟩
 refine BJ (fun x:ZipX=>x.i≤a.length∧x.k≤b.length∧x.l.length≤x.i+x.k∧E7 g a b (a.length+b.length-x.i-x.k) x.i x.k x.l=E7 g a b (a.length+b.length) 0 0 []∧(x.l≠[]→x.c≠b7∧x.c≠b6∧x.c≠b3∧x.c≠b4)) 74 (fun x=>[(8,i64 x.i),(9,i64 x.k),(3,.ptr b3 0),(4,.ptr b4 0),(6,.ptr b6 0),(7,.ptr b7 0),(2,.fn f [])]) (fun x=>Gk b7 x.c x.cap x.l++rest) (fun x=>a.length+b.length-x.i-x.k) ⟨0,0,0,0,[]⟩ ⟨Nat.zero_le _,Nat.zero_le _,Nat.zero_le _,rfl,fun h=>absurd rfl h⟩ rfl ?_ ?_ ?_
 ·simp -implicitDefEqProofs -proj only [go_sem,seval,AL]
 ·rw [Fa,hrest]
  simp -implicitDefEqProofs -proj only [go_sem,seval,AS,Gk,n1,n2,n3,n4,n5,n6,n7,n8,p1,p2,p3,p4]
 ·rintro ⟨i,k,c,cap,R⟩ ⟨hi,hk,hlen,hR,hc⟩
  simp -implicitDefEqProofs only [] at hi hk hlen hR hc
  have hat:=Sd (b:=b7) (c:=c) (cap:=cap) (l:=R) (rest:=rest) (fun h=>(hc h).1)
  have h6:Ad (Gk b7 c cap R++rest) b6=some (.box 74 [.nilsl 3]):=by
   rw [Nx n8 (fun h e=>(hc h).2.1 e.symm),hrest]; simp -implicitDefEqProofs -proj only [go_sem,seval]
  have h3:Ad (Gk b7 c cap R++rest) b3=some (.box 74 [Gw a]):=by
   rw [Nx p4 (fun h e=>(hc h).2.2.1 e.symm),hrest]; simp -implicitDefEqProofs -proj only [go_sem,seval,n6]
  have h4:Ad (Gk b7 c cap R++rest) b4=some (.box 74 [Gw b]):=by
   rw [Nx p2 (fun h e=>(hc h).2.2.2 e.symm),hrest]; simp -implicitDefEqProofs -proj only [go_sem,seval,n4,n1]
  generalize hH:Ad (Gk b7 c cap R++rest)=H at *
  by_cases hin:i<a.length∧k<b.length
  ·obtain ⟨h,h'⟩:=hin
   have e1:=Nz h
   have e2:=Nz h'
   have hx:a[i]? = some a[i]:=List.getElem?_eq_getElem h
   have hy:b[k]? = some b[k]:=List.getElem?_eq_getElem h'
   generalize a[i]=x at *
   generalize b[k]=y at *
   rw [show a.length+b.length-i-k=(a.length+b.length-i-k-1)+1 by omega,E7,hx,hy] at hR
   simp -implicitDefEqProofs only [] at hR
   simp -implicitDefEqProofs -proj only [go_sem,seval,G7,G3,h3,h4,rowU_len,decide_eq_true (show (i:Int)<a.length by omega),decide_eq_true (show (k:Int)<b.length by omega)]
   (repeat' (with_reducible refine Aa ?_ (fun h=>?_); (focus first | decide | omega); clear h; try simp -implicitDefEqProofs -proj only [go_sem,seval,eq_self,G7,G3,h3,h4,rowU_len,decide_eq_true (show (i:Int)<a.length by omega),decide_eq_true (show (k:Int)<b.length by omega)]))
   refine Ai _ (by omega) e1 ?_
   simp -implicitDefEqProofs -proj only [go_sem,seval,G7,G3,h3,h4,rowU_len,decide_eq_true (show (i:Int)<a.length by omega),decide_eq_true (show (k:Int)<b.length by omega)]
   (repeat' (with_reducible refine Aa ?_ (fun h=>?_); (focus first | decide | omega); clear h; try simp -implicitDefEqProofs -proj only [go_sem,seval,eq_self,G7,G3,h3,h4,rowU_len,decide_eq_true (show (i:Int)<a.length by omega),decide_eq_true (show (k:Int)<b.length by omega)]))
   refine Ai _ (by omega) e2 ?_
   simp -implicitDefEqProofs -proj only [go_sem,seval,G7,G3,h3,h4,rowU_len,decide_eq_true (show (i:Int)<a.length by omega),decide_eq_true (show (k:Int)<b.length by omega)]
   (repeat' (with_reducible refine Aa ?_ (fun h=>?_); (focus first | decide | omega); clear h; try simp -implicitDefEqProofs -proj only [go_sem,seval,eq_self,G7,G3,h3,h4,rowU_len,decide_eq_true (show (i:Int)<a.length by omega),decide_eq_true (show (k:Int)<b.length by omega)]))
   refine AI (fun b10 hb10=>?_)
   replace hb10:H b10=none:=hb10
   obtain ⟨q1,q3⟩:=hat.fresh hb10
   have t6:=(AG hb10 h6).1
   have t3:=(AG hb10 h3).1
   have t4:=(AG hb10 h4).1
   simp -implicitDefEqProofs -proj only [go_sem,seval]
   refine AI (fun b11 hb11=>?_)
   replace hb11:upd H b10 _ b11=none:=hb11
   obtain ⟨r3,r4⟩:=AG hb11 AP
   have hb11':H b11=none:=by rw [AD r4] at hb11; exact hb11
   obtain ⟨r1,r3'⟩:=hat.fresh hb11'
   have u6:=(AG hb11' h6).1
   have u3:=(AG hb11' h3).1
   have u4:=(AG hb11' h4).1
   have q2:¬b7=b10:=fun e=>q1 e.symm
   have r2:¬b7=b11:=fun e=>r1 e.symm
   by_cases hA:x.t≤y.t
   ·by_cases hB:y.t≤x.t
    ·by_cases hM:max x.f y.f≤min x.t y.t
     ·rw [if_pos hA,if_pos hB,if_pos hM] at hR
      have dM:=decide_eq_true hM
      have dA:=decide_eq_true hA
      have dB:=decide_eq_true hB
      simp -implicitDefEqProofs -proj only [go_sem,seval,h3,h4,rowU_len,q1,q2,r1,r2,r3,r4,dM,dA,dB,AR (show i<9223372036854775807 by omega),AR (show k<9223372036854775807 by omega)]
      (repeat' (with_reducible refine Aa ?_ (fun h=>?_); (focus first | decide | omega); clear h; try simp -implicitDefEqProofs -proj only [go_sem,seval,eq_self,h3,h4,rowU_len,q1,q2,r1,r2,r3,r4,dM,dA,dB,AR (show i<9223372036854775807 by omega),AR (show k<9223372036854775807 by omega)]))
      refine AK (hg x.v y.v) ?_
      simp -implicitDefEqProofs -proj only [go_sem,seval,h3,h4,rowU_len,q1,q2,r1,r2,r3,r4,dM,dA,dB,AR (show i<9223372036854775807 by omega),AR (show k<9223372036854775807 by omega)]
      have hput:=fun z1 z2 z w=>OE (r:=⟨max x.f y.f,min x.t y.t,g x.v y.v⟩) ((((hat.upd (k:=b10) (x:=z1) q1 q3).upd (k:=b11) (x:=z2) r1 r3').upd (k:=b10) (x:=z) q1 q3).upd (k:=b11) (x:=w) r1 r3') (by omega)
      refine Ek (hput _ _ _ _) (fun rr H' hk=>?_)
      obtain ⟨c',hat',hfr⟩:=hk
      have g6:=hfr b6 _ n8 (fun h e=>(hc h).2.1 e.symm) (by rw [AD u6,AD t6,AD u6,AD t6]; exact h6)
      have g3:=hfr b3 _ p4 (fun h e=>(hc h).2.2.1 e.symm) (by rw [AD u3,AD t3,AD u3,AD t3]; exact h3)
      have g4:=hfr b4 _ p2 (fun h e=>(hc h).2.2.2 e.symm) (by rw [AD u4,AD t4,AD u4,AD t4]; exact h4)
      have g10:=hfr b10 _ q1 q3 (by rw [AD r3,AP])
      have g11:=hfr b11 _ r1 r3' (by rw [AP])
      obtain ⟨cap',hah,hc'⟩:=LC hat'
      simp -implicitDefEqProofs -proj only [go_sem,seval,h3,h4,rowU_len,q1,q2,r1,r2,r3,r4,dM,dA,dB,AR (show i<9223372036854775807 by omega),AR (show k<9223372036854775807 by omega),g10.1,g11.1,eq_self]
      have hRR:BB R ⟨max x.f y.f,min x.t y.t,g x.v y.v⟩≠[]:=KV
      have hll:=@HD R ⟨max x.f y.f,min x.t y.t,g x.v y.v⟩
      refine Ac ⟨i+1,k+1,c',cap',BB R ⟨max x.f y.f,min x.t y.t,g x.v y.v⟩⟩ ⟨by show i+1≤a.length; omega,by show k+1≤b.length; omega,by show (BB R _).length≤i+1+(k+1); omega,?_,fun h=>⟨hc' h,fun e=>g6.2 e.symm,fun e=>g3.2 e.symm,fun e=>g4.2 e.symm⟩⟩ (by show a.length+b.length-(i+1)-(k+1)<a.length+b.length-i-k; omega) rfl ?_ ?_
      ·show E7 g a b (a.length+b.length-(i+1)-(k+1)) (i+1) (k+1) _=_
       rw [←hR]
       try rw [show a.length+b.length-i-k-1=a.length+b.length-(i+1)-(k+1) by omega]
       try (rw [show a.length+b.length-i-k-1=(a.length+b.length-(i+1)-(k+1))+1 by omega,IB _ _ _ _ (by omega)])
      ·simp -implicitDefEqProofs -proj only [go_sem,seval,AL,G7,G3]
      ·rw [Fa,hrest]
       exact ⟨hah,g6.1,g3.1,g4.1,trivial⟩
     ·rw [if_pos hA,if_pos hB,if_neg hM] at hR
      have dM:=decide_eq_false hM
      have dA:=decide_eq_true hA
      have dB:=decide_eq_true hB
      simp -implicitDefEqProofs -proj only [go_sem,seval,h3,h4,rowU_len,q1,q2,r1,r2,r3,r4,dM,dA,dB,AR (show i<9223372036854775807 by omega),AR (show k<9223372036854775807 by omega)]
      (repeat' (with_reducible refine Aa ?_ (fun h=>?_); (focus first | decide | omega); clear h; try simp -implicitDefEqProofs -proj only [go_sem,seval,eq_self,h3,h4,rowU_len,q1,q2,r1,r2,r3,r4,dM,dA,dB,AR (show i<9223372036854775807 by omega),AR (show k<9223372036854775807 by omega)]))
      obtain ⟨cap',hah,hc'⟩:=LC ((((hat.upd (k:=b10) (x:=some (.box 82 [.d (.int .i64 0),.d (.int .i64 0),.d (.int .u64 0)])) q1 q3).upd (k:=b11) (x:=some (.box 82 [.d (.int .i64 0),.d (.int .i64 0),.d (.int .u64 0)])) r1 r3').upd (k:=b10) (x:=some (.box 82 [.d (.int .i64 x.f),.d (.int .i64 x.t),.d (.int .u64 x.v)])) q1 q3).upd (k:=b11) (x:=some (.box 82 [.d (.int .i64 y.f),.d (.int .i64 y.t),.d (.int .u64 y.v)])) r1 r3')
      refine Ac ⟨i+1,k+1,c,cap',R⟩ ⟨by show i+1≤a.length; omega,by show k+1≤b.length; omega,by show R.length≤i+1+(k+1); omega,?_,hc⟩ (by show a.length+b.length-(i+1)-(k+1)<a.length+b.length-i-k; omega) rfl ?_ ?_
      ·show E7 g a b (a.length+b.length-(i+1)-(k+1)) (i+1) (k+1) _=_
       rw [←hR]
       try rw [show a.length+b.length-i-k-1=a.length+b.length-(i+1)-(k+1) by omega]
       try (rw [show a.length+b.length-i-k-1=(a.length+b.length-(i+1)-(k+1))+1 by omega,IB _ _ _ _ (by omega)])
      ·simp -implicitDefEqProofs -proj only [go_sem,seval,AL,G7,G3]
      ·rw [Fa,hrest]
       exact ⟨hah,((AD u6).trans ((AD t6).trans ((AD u6).trans ((AD t6).trans h6)))),((AD u3).trans ((AD t3).trans ((AD u3).trans ((AD t3).trans h3)))),((AD u4).trans ((AD t4).trans ((AD u4).trans ((AD t4).trans h4)))),trivial⟩
    ·by_cases hM:max x.f y.f≤min x.t y.t
     ·rw [if_pos hA,if_neg hB,if_pos hM] at hR
      have dM:=decide_eq_true hM
      have dA:=decide_eq_true hA
      have dB:=decide_eq_false hB
      simp -implicitDefEqProofs -proj only [go_sem,seval,h3,h4,rowU_len,q1,q2,r1,r2,r3,r4,dM,dA,dB,AR (show i<9223372036854775807 by omega),AR (show k<9223372036854775807 by omega)]
      (repeat' (with_reducible refine Aa ?_ (fun h=>?_); (focus first | decide | omega); clear h; try simp -implicitDefEqProofs -proj only [go_sem,seval,eq_self,h3,h4,rowU_len,q1,q2,r1,r2,r3,r4,dM,dA,dB,AR (show i<9223372036854775807 by omega),AR (show k<9223372036854775807 by omega)]))
      refine AK (hg x.v y.v) ?_
      simp -implicitDefEqProofs -proj only [go_sem,seval,h3,h4,rowU_len,q1,q2,r1,r2,r3,r4,dM,dA,dB,AR (show i<9223372036854775807 by omega),AR (show k<9223372036854775807 by omega)]
      have hput:=fun z1 z2 z w=>OE (r:=⟨max x.f y.f,min x.t y.t,g x.v y.v⟩) ((((hat.upd (k:=b10) (x:=z1) q1 q3).upd (k:=b11) (x:=z2) r1 r3').upd (k:=b10) (x:=z) q1 q3).upd (k:=b11) (x:=w) r1 r3') (by omega)
      refine Ek (hput _ _ _ _) (fun rr H' hk=>?_)
      obtain ⟨c',hat',hfr⟩:=hk
      have g6:=hfr b6 _ n8 (fun h e=>(hc h).2.1 e.symm) (by rw [AD u6,AD t6,AD u6,AD t6]; exact h6)
      have g3:=hfr b3 _ p4 (fun h e=>(hc h).2.2.1 e.symm) (by rw [AD u3,AD t3,AD u3,AD t3]; exact h3)
      have g4:=hfr b4 _ p2 (fun h e=>(hc h).2.2.2 e.symm) (by rw [AD u4,AD t4,AD u4,AD t4]; exact h4)
      have g10:=hfr b10 _ q1 q3 (by rw [AD r3,AP])
      have g11:=hfr b11 _ r1 r3' (by rw [AP])
      obtain ⟨cap',hah,hc'⟩:=LC hat'
      simp -implicitDefEqProofs -proj only [go_sem,seval,h3,h4,rowU_len,q1,q2,r1,r2,r3,r4,dM,dA,dB,AR (show i<9223372036854775807 by omega),AR (show k<9223372036854775807 by omega),g10.1,g11.1,eq_self]
      have hRR:BB R ⟨max x.f y.f,min x.t y.t,g x.v y.v⟩≠[]:=KV
      have hll:=@HD R ⟨max x.f y.f,min x.t y.t,g x.v y.v⟩
      refine Ac ⟨i+1,k,c',cap',BB R ⟨max x.f y.f,min x.t y.t,g x.v y.v⟩⟩ ⟨by show i+1≤a.length; omega,by show k≤b.length; omega,by show (BB R _).length≤i+1+(k); omega,?_,fun h=>⟨hc' h,fun e=>g6.2 e.symm,fun e=>g3.2 e.symm,fun e=>g4.2 e.symm⟩⟩ (by show a.length+b.length-(i+1)-(k)<a.length+b.length-i-k; omega) rfl ?_ ?_
      ·show E7 g a b (a.length+b.length-(i+1)-(k)) (i+1) (k) _=_
       rw [←hR]
       try rw [show a.length+b.length-i-k-1=a.length+b.length-(i+1)-(k) by omega]
       try (rw [show a.length+b.length-i-k-1=(a.length+b.length-(i+1)-(k+1))+1 by omega,IB _ _ _ _ (by omega)])
      ·simp -implicitDefEqProofs -proj only [go_sem,seval,AL,G7,G3]
      ·rw [Fa,hrest]
       exact ⟨hah,g6.1,g3.1,g4.1,trivial⟩
     ·rw [if_pos hA,if_neg hB,if_neg hM] at hR
      have dM:=decide_eq_false hM
      have dA:=decide_eq_true hA
      have dB:=decide_eq_false hB
      simp -implicitDefEqProofs -proj only [go_sem,seval,h3,h4,rowU_len,q1,q2,r1,r2,r3,r4,dM,dA,dB,AR (show i<9223372036854775807 by omega),AR (show k<9223372036854775807 by omega)]
      (repeat' (with_reducible refine Aa ?_ (fun h=>?_); (focus first | decide | omega); clear h; try simp -implicitDefEqProofs -proj only [go_sem,seval,eq_self,h3,h4,rowU_len,q1,q2,r1,r2,r3,r4,dM,dA,dB,AR (show i<9223372036854775807 by omega),AR (show k<9223372036854775807 by omega)]))
      obtain ⟨cap',hah,hc'⟩:=LC ((((hat.upd (k:=b10) (x:=some (.box 82 [.d (.int .i64 0),.d (.int .i64 0),.d (.int .u64 0)])) q1 q3).upd (k:=b11) (x:=some (.box 82 [.d (.int .i64 0),.d (.int .i64 0),.d (.int .u64 0)])) r1 r3').upd (k:=b10) (x:=some (.box 82 [.d (.int .i64 x.f),.d (.int .i64 x.t),.d (.int .u64 x.v)])) q1 q3).upd (k:=b11) (x:=some (.box 82 [.d (.int .i64 y.f),.d (.int .i64 y.t),.d (.int .u64 y.v)])) r1 r3')
      refine Ac ⟨i+1,k,c,cap',R⟩ ⟨by show i+1≤a.length; omega,by show k≤b.length; omega,by show R.length≤i+1+(k); omega,?_,hc⟩ (by show a.length+b.length-(i+1)-(k)<a.length+b.length-i-k; omega) rfl ?_ ?_
      ·show E7 g a b (a.length+b.length-(i+1)-(k)) (i+1) (k) _=_
       rw [←hR]
       try rw [show a.length+b.length-i-k-1=a.length+b.length-(i+1)-(k) by omega]
       try (rw [show a.length+b.length-i-k-1=(a.length+b.length-(i+1)-(k+1))+1 by omega,IB _ _ _ _ (by omega)])
      ·simp -implicitDefEqProofs -proj only [go_sem,seval,AL,G7,G3]
      ·rw [Fa,hrest]
       exact ⟨hah,((AD u6).trans ((AD t6).trans ((AD u6).trans ((AD t6).trans h6)))),((AD u3).trans ((AD t3).trans ((AD u3).trans ((AD t3).trans h3)))),((AD u4).trans ((AD t4).trans ((AD u4).trans ((AD t4).trans h4)))),trivial⟩
   ·have hB:y.t≤x.t:=by omega
    by_cases hM:max x.f y.f≤min x.t y.t
    ·rw [if_neg hA,if_pos hB,if_pos hM] at hR
     have dM:=decide_eq_true hM
     have dA:=decide_eq_false hA
     have dB:=decide_eq_true hB
     simp -implicitDefEqProofs -proj only [go_sem,seval,h3,h4,rowU_len,q1,q2,r1,r2,r3,r4,dM,dA,dB,AR (show i<9223372036854775807 by omega),AR (show k<9223372036854775807 by omega)]
     (repeat' (with_reducible refine Aa ?_ (fun h=>?_); (focus first | decide | omega); clear h; try simp -implicitDefEqProofs -proj only [go_sem,seval,eq_self,h3,h4,rowU_len,q1,q2,r1,r2,r3,r4,dM,dA,dB,AR (show i<9223372036854775807 by omega),AR (show k<9223372036854775807 by omega)]))
     refine AK (hg x.v y.v) ?_
     simp -implicitDefEqProofs -proj only [go_sem,seval,h3,h4,rowU_len,q1,q2,r1,r2,r3,r4,dM,dA,dB,AR (show i<9223372036854775807 by omega),AR (show k<9223372036854775807 by omega)]
     have hput:=fun z1 z2 z w=>OE (r:=⟨max x.f y.f,min x.t y.t,g x.v y.v⟩) ((((hat.upd (k:=b10) (x:=z1) q1 q3).upd (k:=b11) (x:=z2) r1 r3').upd (k:=b10) (x:=z) q1 q3).upd (k:=b11) (x:=w) r1 r3') (by omega)
     refine Ek (hput _ _ _ _) (fun rr H' hk=>?_)
     obtain ⟨c',hat',hfr⟩:=hk
     have g6:=hfr b6 _ n8 (fun h e=>(hc h).2.1 e.symm) (by rw [AD u6,AD t6,AD u6,AD t6]; exact h6)
     have g3:=hfr b3 _ p4 (fun h e=>(hc h).2.2.1 e.symm) (by rw [AD u3,AD t3,AD u3,AD t3]; exact h3)
     have g4:=hfr b4 _ p2 (fun h e=>(hc h).2.2.2 e.symm) (by rw [AD u4,AD t4,AD u4,AD t4]; exact h4)
     have g10:=hfr b10 _ q1 q3 (by rw [AD r3,AP])
     have g11:=hfr b11 _ r1 r3' (by rw [AP])
     obtain ⟨cap',hah,hc'⟩:=LC hat'
     simp -implicitDefEqProofs -proj only [go_sem,seval,h3,h4,rowU_len,q1,q2,r1,r2,r3,r4,dM,dA,dB,AR (show i<9223372036854775807 by omega),AR (show k<9223372036854775807 by omega),g10.1,g11.1,eq_self]
     have hRR:BB R ⟨max x.f y.f,min x.t y.t,g x.v y.v⟩≠[]:=KV
     have hll:=@HD R ⟨max x.f y.f,min x.t y.t,g x.v y.v⟩
     refine Ac ⟨i,k+1,c',cap',BB R ⟨max x.f y.f,min x.t y.t,g x.v y.v⟩⟩ ⟨by show i≤a.length; omega,by show k+1≤b.length; omega,by show (BB R _).length≤i+(k+1); omega,?_,fun h=>⟨hc' h,fun e=>g6.2 e.symm,fun e=>g3.2 e.symm,fun e=>g4.2 e.symm⟩⟩ (by show a.length+b.length-(i)-(k+1)<a.length+b.length-i-k; omega) rfl ?_ ?_
     ·show E7 g a b (a.length+b.length-(i)-(k+1)) (i) (k+1) _=_
      rw [←hR]
      try rw [show a.length+b.length-i-k-1=a.length+b.length-(i)-(k+1) by omega]
      try (rw [show a.length+b.length-i-k-1=(a.length+b.length-(i+1)-(k+1))+1 by omega,IB _ _ _ _ (by omega)])
     ·simp -implicitDefEqProofs -proj only [go_sem,seval,AL,G7,G3]
     ·rw [Fa,hrest]
      exact ⟨hah,g6.1,g3.1,g4.1,trivial⟩
    ·rw [if_neg hA,if_pos hB,if_neg hM] at hR
     have dM:=decide_eq_false hM
     have dA:=decide_eq_false hA
     have dB:=decide_eq_true hB
     simp -implicitDefEqProofs -proj only [go_sem,seval,h3,h4,rowU_len,q1,q2,r1,r2,r3,r4,dM,dA,dB,AR (show i<9223372036854775807 by omega),AR (show k<9223372036854775807 by omega)]
     (repeat' (with_reducible refine Aa ?_ (fun h=>?_); (focus first | decide | omega); clear h; try simp -implicitDefEqProofs -proj only [go_sem,seval,eq_self,h3,h4,rowU_len,q1,q2,r1,r2,r3,r4,dM,dA,dB,AR (show i<9223372036854775807 by omega),AR (show k<9223372036854775807 by omega)]))
     obtain ⟨cap',hah,hc'⟩:=LC ((((hat.upd (k:=b10) (x:=some (.box 82 [.d (.int .i64 0),.d (.int .i64 0),.d (.int .u64 0)])) q1 q3).upd (k:=b11) (x:=some (.box 82 [.d (.int .i64 0),.d (.int .i64 0),.d (.int .u64 0)])) r1 r3').upd (k:=b10) (x:=some (.box 82 [.d (.int .i64 x.f),.d (.int .i64 x.t),.d (.int .u64 x.v)])) q1 q3).upd (k:=b11) (x:=some (.box 82 [.d (.int .i64 y.f),.d (.int .i64 y.t),.d (.int .u64 y.v)])) r1 r3')
     refine Ac ⟨i,k+1,c,cap',R⟩ ⟨by show i≤a.length; omega,by show k+1≤b.length; omega,by show R.length≤i+(k+1); omega,?_,hc⟩ (by show a.length+b.length-(i)-(k+1)<a.length+b.length-i-k; omega) rfl ?_ ?_
     ·show E7 g a b (a.length+b.length-(i)-(k+1)) (i) (k+1) _=_
      rw [←hR]
      try rw [show a.length+b.length-i-k-1=a.length+b.length-(i)-(k+1) by omega]
      try (rw [show a.length+b.length-i-k-1=(a.length+b.length-(i+1)-(k+1))+1 by omega,IB _ _ _ _ (by omega)])
     ·simp -implicitDefEqProofs -proj only [go_sem,seval,AL,G7,G3]
     ·rw [Fa,hrest]
      exact ⟨hah,((AD u6).trans ((AD t6).trans ((AD u6).trans ((AD t6).trans h6)))),((AD u3).trans ((AD t3).trans ((AD u3).trans ((AD t3).trans h3)))),((AD u4).trans ((AD t4).trans ((AD u4).trans ((AD t4).trans h4)))),trivial⟩
  ·have hz:E7 g a b (a.length+b.length-i-k) i k R=R:=by
    generalize a.length+b.length-i-k=n
    cases n with
    | zero=>rfl
    | succ n =>
     rw [E7]
     by_cases h1:i<a.length
     ·rw [List.getElem?_eq_none (l:=b) (by omega)]
      split <;> first | rfl | simp_all
     ·rw [List.getElem?_eq_none (l:=a) (by omega)]
   obtain ⟨v,hv,hl,_⟩:=hat.read
   obtain ⟨v2,hv2,hl2,_⟩:=(hat.upd (k:=b6) (x:=some (.box 74 [v])) n8 (fun h e=>(hc h).2.1 e.symm)).read
   rw [AD n8,hv] at hv2
   cases hv2
   rw [←hR,hz]
   by_cases h1:i<a.length
   ·have h2:¬(k:Int)<b.length:=by omega
    simp -implicitDefEqProofs -proj only [go_sem,seval,G7,G3,h3,h4,h6,hv,rowU_len,decide_eq_true (show (i:Int)<a.length by omega),decide_eq_false h2]
    (repeat' (with_reducible refine Aa ?_ (fun h=>?_); (focus first | decide | omega); clear h; try simp -implicitDefEqProofs -proj only [go_sem,seval,eq_self,G7,G3,h3,h4,h6,hv,rowU_len,decide_eq_true (show (i:Int)<a.length by omega),decide_eq_false h2]))
    exact Lx hl2
   ·simp -implicitDefEqProofs -proj only [go_sem,seval,G7,G3,h3,h4,h6,hv,rowU_len,decide_eq_false (show ¬(i:Int)<a.length by omega)]
    (repeat' (with_reducible refine Aa ?_ (fun h=>?_); (focus first | decide | omega); clear h; try simp -implicitDefEqProofs -proj only [go_sem,seval,eq_self,G7,G3,h3,h4,h6,hv,rowU_len,decide_eq_false (show ¬(i:Int)<a.length by omega)]))
    exact Lx hl2
structure LineSU (H:Heap) (b c:Nat) (R:List Run) (rest:List (Nat×Blk)):Prop where
 at_:LineAtU H b c R
 all:AS H rest
 ne:∀p∈rest,p.1≠b∧(R≠[]→p.1≠c)
theorem Lb {H:Heap} {b c:Nat} {R:List Run} {rest:List (Nat×Blk)} {r:Run} (h:LineSU H b c R rest) (hl:R.length≤1000000):CallW Tryz.prog T0 [.ptr b 0,r.avU] H fun _ H'=>∃c',LineSU H' b c' (BB R r) rest :=
 (OE (r:=r) h.at_ hl).mono fun _ H' ⟨c',h1,h2⟩ =>
  ⟨c',h1,Ee.2 fun p hp=>(h2 p.1 p.2 (h.ne p hp).1 (h.ne p hp).2 (Ee.1 h.all p hp)).1,fun p hp=>⟨(h.ne p hp).1,fun _=>(h2 p.1 p.2 (h.ne p hp).1 (h.ne p hp).2 (Ee.1 h.all p hp)).2⟩⟩
theorem LineSU.alloc {H:Heap} {b c k:Nat} {R:List Run} {rest:List (Nat×Blk)} {x:Blk} (h:LineSU H b c R rest) (hk:H k=none):LineSU (upd H k (some x)) b c R ((k,x)::rest):=by
 have hf:=h.at_.fresh hk
 refine ⟨h.at_.upd hf.1 hf.2,GE hk h.all,fun p hp=>?_⟩
 rcases List.mem_cons.1 hp with rfl | hp
 ·exact hf
 ·exact h.ne p hp
theorem LineSU.keep {b c cap:Nat} {R:List Run} {rest:List (Nat×Blk)} (hc:R≠[]→c≠b) (hn:∀p∈rest,p.1≠b∧(R≠[]→p.1≠c)) (hk:(AN rest).Nodup):LineSU (Ad (Gk b c cap R++rest)) b c R rest :=
 ⟨Sd hc,Ee.2 fun p hp=>by rw [Nx (hn p hp).1 (hn p hp).2]; exact Ee.1 (EQ hk) p hp,hn⟩
theorem LineSU.sub {H:Heap} {b c:Nat} {R:List Run} {rest rest':List (Nat×Blk)} (h:LineSU H b c R rest) (hs:∀p∈rest',p∈rest):LineSU H b c R rest' :=
 ⟨h.at_,MD h.all hs,fun p hp=>h.ne p (hs p hp)⟩
set_option maxRecDepth 20000 in
theorem Z6 {l:List Run} {lo hi v:Int} (hn:l.length≤300000) (hlo : -1099511627776≤lo∧lo≤1099511627776) (hhi : -1099511627776≤hi∧hi≤1099511627776) (hb:∀r∈l,-1099511627776≤r.f∧r.t≤1099511627776∧r.f≤r.t) :
  NewW Tryz.prog AH6 [IN l,i64 lo,i64 hi,u64 v] (IN (GO lo hi v l l.length)):=by
 refine AZ AOW (by simp) ?_
 simp -implicitDefEqProofs -proj only [go_sem,seval]
 refine AI (fun b4 hb4=>?_)
 simp -implicitDefEqProofs -proj only [go_sem,seval]
 refine AI (fun b8 hb8=>?_)
 replace hb8:upd Heap.none b4 _ b8=none:=hb8
 obtain ⟨n1,n2⟩:=AG hb8 AP
 simp -implicitDefEqProofs -proj only [go_sem,seval]
 refine AI (fun b9 hb9=>?_)
 replace hb9:upd (upd Heap.none b4 _) b8 _ b9=none:=hb9
 obtain ⟨n3,n4⟩:=AG hb9 AP
 obtain ⟨n5,n6⟩:=AG hb9 (by rw [AD n1]; exact AP)
 simp -implicitDefEqProofs -proj only [go_sem,seval,n1,n2,n3,n4,n5,n6,rowU_len]
 (repeat' (with_reducible refine Aa ?_ (fun h=>?_); (focus first | decide | omega); clear h; try simp -implicitDefEqProofs -proj only [go_sem,seval,n1,n2,n3,n4,n5,n6,rowU_len]))
 refine BJ (fun x:LoopX=>x.i≤l.length∧x.l=GO lo hi v l x.i∧(x.l≠[]→x.c≠b9∧x.c≠b8)) 65 (fun x=>[(15,Gw l),(16,i64 l.length),(17,i64 x.i),(1,i64 lo),(2,i64 hi),(3,u64 v),(9,.ptr b9 0),(8,.ptr b8 0)]) (fun x=>Gk b9 x.c x.cap x.l++[(b8,.box 74 [.nilsl 3])]) (fun x=>l.length-x.i) ⟨0,0,0,[]⟩ ⟨Nat.zero_le _,rfl,fun h=>absurd rfl h⟩ rfl ?_ ?_ ?_
 ·simp -implicitDefEqProofs -proj only [go_sem,seval,AL,rowU_len]
 ·simp -implicitDefEqProofs -proj only [go_sem,seval,AS,Fa,Gk,n1,n2,n3,n4,n5,n6]
 ·rintro ⟨i,c,cap,R⟩ ⟨hi',hR,hc⟩
  simp -implicitDefEqProofs only [] at hi' hR hc
  have hS:LineSU (Ad (Gk b9 c cap R++[(b8,.box 74 [.nilsl 3])])) b9 c R [(b8,.box 74 [.nilsl 3])] :=
   LineSU.keep (fun h=>(hc h).1) (fun p hp=>by simp -implicitDefEqProofs only [List.mem_singleton] at hp; subst hp; exact ⟨n4,fun h e=>(hc h).2 e.symm⟩) (by simp [AN])
  generalize hH:Ad (Gk b9 c cap R++[(b8,.box 74 [.nilsl 3])])=H at *
  have hlen:=QK (lo:=lo) (hi:=hi) (v:=v) (l:=l) i
  rw [←hR] at hlen
  by_cases h:i<l.length
  ·have hel:=Nz h
   have hx:l[i]? = some l[i]:=List.getElem?_eq_getElem h
   obtain ⟨q1,q2,q3⟩:=hb l[i] (List.getElem_mem h)
   generalize l[i]=x at *
   have hR':Gt lo hi v R x=GO lo hi v l (i+1):=by rw [GO,hx,hR]
   have fin:∀(H':Heap) (c':Nat) (t:TM),LineSU H' b9 c' (Gt lo hi v R x) [(b8,.box 74 [.nilsl 3])]→AL t [(15,Gw l),(16,i64 l.length),(17,i64 ((i+1:Nat):Int)),(1,i64 lo),(2,i64 hi),(3,u64 v),(9,.ptr b9 0),(8,.ptr b8 0)] →
     Ik (fun x:LoopX=>x.i≤l.length∧x.l=GO lo hi v l x.i∧(x.l≠[]→x.c≠b9∧x.c≠b8)) (fun x=>(⟨65,E8 [(15,Gw l),(16,i64 l.length),(17,i64 x.i),(1,i64 lo),(2,i64 hi),(3,u64 v),(9,.ptr b9 0),(8,.ptr b8 0)],Ad (Gk b9 x.c x.cap x.l++[(b8,.box 74 [.nilsl 3])])⟩:St)) (fun x=>l.length-x.i) ⟨i,c,cap,R⟩
      (E2 Tryz.prog (BN [.cell 8 (some 1)] fun r' H'=>NewV H' r' (IN (GO lo hi v l l.length))) [.blk 0,.code ((ACode.ops RH).seq .ret)]) .normal ⟨65,t,H'⟩:=by
    intro H' c' t hS' hat
    obtain ⟨cap',ha,hc'⟩:=LC hS'.at_
    refine Ac ⟨i+1,c',cap',Gt lo hi v R x⟩ ⟨by show i+1≤l.length; omega,hR',fun h=>⟨hc' h,fun e=>(hS'.ne _ (List.mem_singleton.2 rfl)).2 h e.symm⟩⟩ (by show l.length-(i+1)<l.length-i; omega) rfl hat ?_
    rw [Fa]
    exact ⟨ha,hS'.all⟩
   have hsucc:=AR (show i<9223372036854775807 by omega)
   simp -implicitDefEqProofs -proj only [go_sem,seval,decide_eq_true (show (i:Int)<l.length by omega)]
   refine Ai _ (by omega) hel ?_
   simp -implicitDefEqProofs -proj only [go_sem,seval]
   refine AI (fun b11 hb11=>?_)
   replace hb11:H b11=none:=hb11
   have hS1:=hS.alloc (x:=.box 82 [i64 x.f,i64 x.t,u64 x.v]) hb11
   obtain ⟨H1,hH1⟩:∃H1,upd H b11 (some (.box 82 [i64 x.f,i64 x.t,u64 x.v]))=H1:=⟨_,rfl⟩
   have e11:H1 b11=some (.box 82 [i64 x.f,i64 x.t,u64 x.v]):=by rw [←hH1]; exact AP
   rw [hH1] at hS1
   simp -implicitDefEqProofs -proj only [go_sem,seval,hH1,e11]
   have w1:IntKind.i64.wrap (max x.f lo-1)=max x.f lo-1:=by rw [IntKind.wrap_i64]; omega
   have w2:IntKind.i64.wrap (min x.t hi+1)=min x.t hi+1:=by rw [IntKind.wrap_i64]; omega
   by_cases hc1:min x.t hi<max x.f lo
   ·have ef:Gt lo hi v R x=BB R x:=by unfold Gt; exact if_pos hc1
    simp -implicitDefEqProofs -proj only [go_sem,seval,decide_eq_true hc1,e11]
    refine Ek (Lb (r:=x) hS1 (by omega)) ?_
    rintro r2 H2 ⟨c2,hS2⟩
    have e2:H2 b11=some (.box 82 [i64 x.f,i64 x.t,u64 x.v]):=hS2.all.1
    simp -implicitDefEqProofs -proj only [go_sem,seval,hsucc]
    refine fin _ c2 _ ?_ ?_
    ·rw [ef]; exact hS2.sub (fun p hp=>List.mem_cons_of_mem _ hp)
    ·simp -implicitDefEqProofs -proj only [go_sem,seval,AL]
   ·by_cases hc2:x.f<max x.f lo
    ·simp -implicitDefEqProofs -proj only [go_sem,seval,decide_eq_false hc1,decide_eq_true hc2,e11,w1,w2]
     refine Ek (Lb (r:=⟨x.f,max x.f lo-1,x.v⟩) hS1 (by omega)) ?_
     rintro r2 H2 ⟨c2,hS2⟩
     have e2:H2 b11=some (.box 82 [i64 x.f,i64 x.t,u64 x.v]):=hS2.all.1
     have k2:=@HD R ⟨x.f,max x.f lo-1,x.v⟩
     simp -implicitDefEqProofs -proj only [go_sem,seval,e2,w1,w2]
     refine Ek (Lb (r:=⟨max x.f lo,min x.t hi,v⟩) hS2 (by omega)) ?_
     rintro r3 H3 ⟨c3,hS3⟩
     have e3:H3 b11=some (.box 82 [i64 x.f,i64 x.t,u64 x.v]):=hS3.all.1
     have k3:=@HD (BB R ⟨x.f,max x.f lo-1,x.v⟩) ⟨max x.f lo,min x.t hi,v⟩
     by_cases hc3:min x.t hi<x.t
     ·simp -implicitDefEqProofs -proj only [go_sem,seval,e3,w1,w2,decide_eq_true hc3]
      refine Ek (Lb (r:=⟨min x.t hi+1,x.t,x.v⟩) hS3 (by omega)) ?_
      rintro r4 H4 ⟨c4,hS4⟩
      have e4:H4 b11=some (.box 82 [i64 x.f,i64 x.t,u64 x.v]):=hS4.all.1
      simp -implicitDefEqProofs -proj only [go_sem,seval,hsucc]
      refine fin _ c4 _ ?_ ?_
      ·have ef:Gt lo hi v R x=BB (BB (BB R ⟨x.f,max x.f lo-1,x.v⟩) ⟨max x.f lo,min x.t hi,v⟩) ⟨min x.t hi+1,x.t,x.v⟩:=by unfold Gt; simp -implicitDefEqProofs only []; rw [if_neg (by omega),if_pos hc2,if_pos hc3]
       rw [ef]; exact hS4.sub (fun p hp=>List.mem_cons_of_mem _ hp)
      ·simp -implicitDefEqProofs -proj only [go_sem,seval,AL]
     ·simp -implicitDefEqProofs -proj only [go_sem,seval,e3,w1,w2,decide_eq_false hc3,hsucc]
      refine fin _ c3 _ ?_ ?_
      ·have ef:Gt lo hi v R x=(BB (BB R ⟨x.f,max x.f lo-1,x.v⟩) ⟨max x.f lo,min x.t hi,v⟩):=by unfold Gt; simp -implicitDefEqProofs only []; rw [if_neg (by omega),if_pos hc2,if_neg hc3]
       rw [ef]; exact hS3.sub (fun p hp=>List.mem_cons_of_mem _ hp)
      ·simp -implicitDefEqProofs -proj only [go_sem,seval,AL]
    ·simp -implicitDefEqProofs -proj only [go_sem,seval,decide_eq_false hc1,decide_eq_false hc2,e11,w1,w2]
     refine Ek (Lb (r:=⟨max x.f lo,min x.t hi,v⟩) hS1 (by omega)) ?_
     rintro r3 H3 ⟨c3,hS3⟩
     have e3:H3 b11=some (.box 82 [i64 x.f,i64 x.t,u64 x.v]):=hS3.all.1
     have k3:=@HD R ⟨max x.f lo,min x.t hi,v⟩
     by_cases hc3:min x.t hi<x.t
     ·simp -implicitDefEqProofs -proj only [go_sem,seval,e3,w1,w2,decide_eq_true hc3]
      refine Ek (Lb (r:=⟨min x.t hi+1,x.t,x.v⟩) hS3 (by omega)) ?_
      rintro r4 H4 ⟨c4,hS4⟩
      have e4:H4 b11=some (.box 82 [i64 x.f,i64 x.t,u64 x.v]):=hS4.all.1
      simp -implicitDefEqProofs -proj only [go_sem,seval,hsucc]
      refine fin _ c4 _ ?_ ?_
      ·have ef:Gt lo hi v R x=BB (BB R ⟨max x.f lo,min x.t hi,v⟩) ⟨min x.t hi+1,x.t,x.v⟩:=by unfold Gt; simp -implicitDefEqProofs only []; rw [if_neg (by omega),if_neg hc2,if_pos hc3]
       rw [ef]; exact hS4.sub (fun p hp=>List.mem_cons_of_mem _ hp)
      ·simp -implicitDefEqProofs -proj only [go_sem,seval,AL]
     ·simp -implicitDefEqProofs -proj only [go_sem,seval,e3,w1,w2,decide_eq_false hc3,hsucc]
      refine fin _ c3 _ ?_ ?_
      ·have ef:Gt lo hi v R x=(BB R ⟨max x.f lo,min x.t hi,v⟩):=by unfold Gt; simp -implicitDefEqProofs only []; rw [if_neg (by omega),if_neg hc2,if_neg hc3]
       rw [ef]; exact hS3.sub (fun p hp=>List.mem_cons_of_mem _ hp)
      ·simp -implicitDefEqProofs -proj only [go_sem,seval,AL]
  ·have hi'':i=l.length:=by omega
   subst hi''
   obtain ⟨v',hv,hl,_⟩:=hS.at_.read
   have h8:=hS.all.1
   simp -implicitDefEqProofs -proj only [go_sem,seval,decide_eq_false (show ¬(l.length:Int)<l.length by omega),hv,h8]
   obtain ⟨v2,hv2,hl2,_⟩:=(hS.at_.upd (k:=b8) (x:=some (.box 74 [v'])) n4 (fun h e=>(hc h).2 e.symm)).read
   rw [AD n4,hv] at hv2
   cases hv2
   rw [show GO lo hi v l l.length=R from hR.symm]
   exact Lx hl2
theorem Ry {lo hi v:Int}:NewW Tryz.prog AOh [i64 lo,i64 hi,u64 v] (IN (if hi<lo then [] else [⟨lo,hi,v⟩])):=by
 refine AZ AHp (by simp) ?_
 simp -implicitDefEqProofs -proj only [go_sem,seval]
 refine AI (fun b6 hb6=>?_)
 by_cases h:hi<lo
 ·rw [if_pos h]
  simp -implicitDefEqProofs -proj only [go_sem,seval,decide_eq_true h]
  exact Lx (.nilsl _ _)
 ·rw [if_neg h]
  simp -implicitDefEqProofs -proj only [go_sem,seval,decide_eq_false h]
  refine Ao (fun bs hs=>?_)
  replace hs:upd Heap.none b6 _ bs=none:=hs
  obtain ⟨n1,n2⟩:=AG hs AP
  simp -implicitDefEqProofs -proj only [go_sem,seval,n1,n2]
  refine Lx (S5 (xs:=Fc [⟨lo,hi,v⟩]) (by rw [AD (by assumption),AP]; rfl) rfl Sc)
abbrev Jp (l:List Run):List (List AV):=l.map fun r=>[r.avU]
theorem Oa {l:List Run} {i:Nat} (h:i<l.length):(Fc l)[((i:Int)).toNat]? = some [.int .i64 l[i].f,.int .i64 l[i].t,.int .u64 l[i].v]:=Nz h
theorem Rc {b:Nat} {l:List Run} (hl:l.length≤1000000):I8 Tryz.prog Pq [.ptr b 0] [(b,.box 72 [Gw l])] (Jp l):=by
 intro y H J X hA hS hY h0
 refine AZ Xk (by simp) ?_
 have hb:H b=some (.box 72 [Gw l]):=(hA [] H h0).1
 simp -implicitDefEqProofs -proj only [go_sem,seval,hb,rowU_len]
 refine L9 (fun x:Nat×Heap=>x.1≤l.length∧J (Jp (l.take x.1)) x.2) (fun x=>⟨16,E8 [(0,.yld y),(5,Gw l),(6,i64 l.length),(7,i64 x.1)],x.2⟩) (fun x=>l.length-x.1) (0,H) ⟨Nat.zero_le _,h0⟩ (IJ rfl ?_ (fun k=>.inr rfl)) ?_
 ·simp -implicitDefEqProofs -proj only [go_sem,seval,AL]
 rintro ⟨i,H1⟩ ⟨hi,hj⟩
 simp -implicitDefEqProofs only [] at hi hj
 by_cases h:i<l.length
 ·have hel:=Oa h
  have hxs:Jp l=Jp (l.take i)++[(l[i]).avU]::Jp (l.drop (i+1)):=by
   rw [←List.map_cons (f:=fun r:Run=>[r.avU]),←List.map_append,←List.drop_eq_getElem_cons h,List.take_append_drop]
  have htk:Jp (l.take i)++[[(l[i]).avU]]=Jp (l.take (i+1)):=by simp -implicitDefEqProofs only [Jp]; rw [List.take_succ_eq_append_getElem h,List.map_append]; rfl
  generalize l[i]=r at *
  simp -implicitDefEqProofs -proj only [go_sem,seval,decide_eq_true (show (i:Int)<l.length by omega)]
  refine Ai _ (by omega) hel ?_
  simp -implicitDefEqProofs -proj only [go_sem,seval]
  refine AI (fun b4 hb4=>?_)
  simp -implicitDefEqProofs -proj only [go_sem,seval]
  refine LE (hY _ _ _ _ hxs (hS _ _ b4 _ hj hb4)) ?_
  rintro v H2 (⟨rfl,hj2⟩ | ⟨rfl,hx⟩)
  ·rw [htk] at hj2
   simp -implicitDefEqProofs -proj only [go_sem,seval]
   refine KT (i+1,H2) ⟨by show i+1≤l.length; omega,hj2⟩ (by show l.length-(i+1)<l.length-i; omega) (IJ rfl ?_ (fun k=>.inr rfl))
   simp -implicitDefEqProofs -proj only [go_sem,seval,AL,AR (show i<9223372036854775807 by omega)]
  ·simp -implicitDefEqProofs -proj only [go_sem,seval]
   exact .inr hx
 ·have hi':i=l.length:=by omega
  subst hi'
  rw [List.take_length] at hj
  simp -implicitDefEqProofs -proj only [go_sem,seval,decide_eq_false (show ¬(l.length:Int)<l.length by omega)]
  exact .inl hj
theorem ANN {H:Heap} {l:List Run}:CallW Tryz.prog AAb [Gw l] H fun r H'=>∃b,r = .fn Pq [.ptr b 0]∧H b=none∧H'=upd H b (some (.box 72 [Gw l])):=by
 refine AZ AIH (by simp) ?_
 simp -implicitDefEqProofs -proj only [go_sem,seval]
 refine AI (fun b hb=>?_)
 simp -implicitDefEqProofs -proj only [go_sem,seval]
 exact ⟨b,rfl,hb,rfl⟩
theorem Q8 {H:Heap} {l:List Run}:CallW Tryz.prog AR1 [IN l] H fun r H'=>∃b,r = .fn Pq [.ptr b 0]∧H b=none∧H' b=some (.box 72 [Gw l])∧∀k x,H k=some x→H' k=some x:=by
 refine AZ ASh (by simp) ?_
 simp -implicitDefEqProofs -proj only [go_sem,seval]
 refine AI (fun b1 hb1=>?_)
 simp -implicitDefEqProofs -proj only [go_sem,seval]
 refine Ek ANN ?_
 rintro r H' ⟨b,rfl,hb,rfl⟩
 simp -implicitDefEqProofs -proj only [go_sem,seval]
 have hb':upd H b1 (some (.box 74 [Gw l])) b=none:=hb
 have hne:¬b1=b:=fun e=>by rw [AX,if_pos e] at hb'; cases hb'
 refine ⟨b,rfl,by rw [AD hne] at hb'; exact hb',by rw [if_pos rfl],fun k x hk=>?_⟩
 rw [AD hne] at hb'
 obtain ⟨n1,n2⟩:=AG hb1 hk
 obtain ⟨n3,n4⟩:=AG hb' hk
 simp -implicitDefEqProofs -proj only [go_sem,seval,n1,n3,hk]
def OA:List Run→AV
 | []=>.tup [i64 0,i64 0,bv false]
 | r::R=>.tup [i64 r.f,i64 ((r::R).getLast (by simp)).t,bv true]
theorem AGF {R:List Run} (hl:R.length≤1000000):DataW Tryz.prog AIA [IN R] (OA R):=by
 refine AZ AF8 (by simp) ?_
 simp -implicitDefEqProofs -proj only [go_sem,seval]
 refine AI (fun b hb=>?_)
 by_cases h:R=[]
 ·subst h
  simp -implicitDefEqProofs -proj only [go_sem,seval,rowU_len]
  exact AJ rfl
 ·have hlen:0<R.length:=List.length_pos_iff.2 h
  have hw:IntKind.i64.wrap ((R.length:Int)-1)=((R.length-1:Nat):Int):=by rw [IntKind.wrap_i64]; omega
  have e0:=Oa (l:=R) (i:=0) hlen
  have e1:=Oa (l:=R) (i:=R.length-1) (by omega)
  simp -implicitDefEqProofs -proj only [go_sem,seval,rowU_len,decide_eq_false (show ¬(R.length:Int)=0 by omega),hw]
  refine Ai _ (by omega) e0 ?_
  simp -implicitDefEqProofs -proj only [go_sem,seval,rowU_len,hw]
  refine Ai _ (by omega) e1 ?_
  simp -implicitDefEqProofs -proj only [go_sem,seval]
  obtain ⟨r,R',rfl⟩:=List.exists_cons_of_ne_nil h
  refine AJ ?_
  simp [OA,List.getLast_eq_getElem]
theorem M7 {a:Nat} (h:a<18446744073709551616):(BitVec.ofInt 64 (a:Int)).toNat=a:=by
 rw [BitVec.toNat_ofInt]
 have:(a:Int) % ((2 ^ 64:Nat):Int)=a:=Int.emod_eq_of_lt (by omega) (by simp; omega)
 rw [this,Int.toNat_natCast]
theorem LY {a b:Nat} (ha:a<18446744073709551616) (hb:b<18446744073709551616):ID .u64 (a:Int) (b:Int)=((a ||| b:Nat):Int):=by
 have h:a ||| b<2 ^ 64:=Nat.or_lt_two_pow (by simpa using ha) (by simpa using hb)
 rw [ID,IntKind.wrap_u64,show IntKind.u64.bits=64 from rfl,BitVec.toNat_or,M7 ha,M7 hb]
 have:a ||| b<18446744073709551616:=by simpa using h
 omega
theorem ABf {a b:Nat} (ha:a<18446744073709551616) (hb:b<18446744073709551616):H9 .u64 (a:Int) (b:Int)=((a &&& b:Nat):Int):=by
 have h:a &&& b≤a:=Nat.and_le_left
 rw [H9,IntKind.wrap_u64,show IntKind.u64.bits=64 from rfl,BitVec.toNat_and,M7 ha,M7 hb]
 omega
def Gh (i:Int):Nat:=if 0≤i∧i<8 then 2 ^ i.toNat else 0
def HL (i:Int):Nat:=if 0≤i∧i<8 then 256*2 ^ i.toNat else 0
theorem TX {i:Int}:DataW Tryz.prog ANW [i64 i,i64 8] (u64 (Gh i:Nat)):=by
 refine AZ AOO (by simp) ?_
 by_cases g1:i<0
 ·simp -implicitDefEqProofs -proj only [go_sem,seval,decide_eq_true g1]
  exact AJ (by rw [Gh,if_neg (by omega)]; rfl)
 by_cases g2:8≤i
 ·simp -implicitDefEqProofs -proj only [go_sem,seval,decide_eq_false g1,decide_eq_true g2]
  exact AJ (by rw [Gh,if_neg (by omega)]; rfl)
 simp -implicitDefEqProofs -proj only [go_sem,seval,decide_eq_false g1,decide_eq_false g2]
 (repeat' (with_reducible refine Aa ?_ (fun h=>?_); (focus first | decide | omega); clear h; try simp -implicitDefEqProofs -proj only [go_sem,seval,eq_self]))
 refine AJ ?_
 obtain h | h | h | h | h | h | h | h:i=0∨i=1∨i=2∨i=3∨i=4∨i=5∨i=6∨i=7:=by omega
 all_goals subst h; rfl
theorem Pb {i:Int}:DataW Tryz.prog AKy [i64 i] (u64 (Gh i:Nat)):=by
 refine AZ AWs (by simp) ?_
 simp -implicitDefEqProofs -proj only [go_sem,seval]
 refine AK TX ?_
 simp -implicitDefEqProofs -proj only [go_sem,seval]
 exact AJ rfl
theorem O1 {i:Int}:DataW Tryz.prog AWy [i64 i] (u64 (HL i:Nat)):=by
 refine AZ AR5 (by simp) ?_
 simp -implicitDefEqProofs -proj only [go_sem,seval]
 refine AK TX ?_
 simp -implicitDefEqProofs -proj only [go_sem,seval]
 (repeat' (with_reducible refine Aa ?_ (fun h=>?_); (focus first | decide | omega); clear h; try simp -implicitDefEqProofs -proj only [go_sem,seval,eq_self]))
 refine AJ ?_
 unfold Gh HL
 by_cases h8:0≤i∧i<8
 ·rw [if_pos h8,if_pos h8]
  obtain h | h | h | h | h | h | h | h:i=0∨i=1∨i=2∨i=3∨i=4∨i=5∨i=6∨i=7:=by omega
  all_goals subst h; rfl
 ·rw [if_neg h8,if_neg h8]
  rfl
theorem N0 {a b:Int}:DataW Tryz.prog AWv [u64 a,u64 b] (bv (decide (H9 .u64 a b=b))):=by
 refine AZ AXJ (by simp) ?_
 simp -implicitDefEqProofs -proj only [go_sem,seval]
 exact AJ rfl
theorem Vz (u v:Int):DataW Tryz.prog ASo [u64 u,u64 v] (u64 (ID .u64 u v)):=by
 refine AZ AIr (by simp) ?_
 simp -implicitDefEqProofs -proj only [go_sem,seval]
 exact AJ rfl
theorem FwdOK.len {val:Int→Int} {hi:Int}:∀{R:List Run} {lo:Int},FwdOK val lo hi R→(R.length:Int)≤hi-lo
 | [],lo,h=>by have:lo=hi:=h; simp; omega
 | r::R,lo,⟨g1,g2,g3,g4,g5⟩=>by
  have:=g5.len
  simp -implicitDefEqProofs only [List.length_cons]
  omega
theorem FwdOK.ne {val:Int→Int} {hi:Int} {R:List Run} {lo:Int} (h:FwdOK val lo hi R) (hl:lo<hi):R≠[]:=by
 rintro rfl
 have:lo=hi:=h
 omega
theorem VX {val:Int→Int} {hi:Int} {R:List Run} {lo:Int} (h:FwdOK val lo (hi+1) R) (hl:lo≤hi):OA R = .tup [i64 lo,i64 hi,bv true]:=by
 have hne:=h.ne (by omega)
 obtain ⟨e1,e2⟩:=FwdOK.ends hne h
 match R,hne,e1,e2 with
 | r::R,_,e1,e2 =>
  rw [OA]
  rw [show r.f=lo from e1,e2,show hi+1-1=hi by omega]
theorem R4 {v lo hi:Int} (h:lo≤hi):FwdOK (fun _=>v) lo (hi+1) [⟨lo,hi,v⟩] :=
 ⟨rfl,h,fun _ _ _=>rfl,fun s h=>(by cases h),rfl⟩
def JH (val:Int→Int) (a b more:Int):Int→Int:=fun x=>ID .u64 (val x) (if a≤x∧x≤b then more else 0)
theorem RV {val:Int→Int} {f h a b more:Int} {R:List Run} (hR:FwdOK val f (h+1) R) (hfh:f≤h) (hf : -1099511627776≤f) (hh:h≤1099511627776) (hn:h-f≤100000) (ha : -1099511627776≤a∧a≤1099511627776) (hb : -1099511627776≤b∧b≤1099511627776) :
  ∃R',DataW Tryz.prog APk [IN R,i64 a,i64 b,u64 more] (IN R')∧FwdOK (JH val a b more) f (h+1) R':=by
 have hl:=hR.len
 have hfl:=R4 (v:=0) hfh
 have hfill:=TJ hfl (lo:=a) (hi:=b) (v:=more) 1 (by simp)
 rw [PB (by simp)] at hfill
 have hz:=UY hR hfill (ID .u64) (R.length+(GO a b more [⟨f,h,0⟩] 1).length) 0 0 [] (by omega) (by rw [Jc hR,Jc hfill]; rfl) (by rw [Jc hR,Jc hfill]; exact .inl rfl)
 rw [show max f f=f by omega,show max f (min (h+1) (h+1))=h+1 by omega] at hz
 have hsp:=AGF (R:=R) (by omega)
 rw [VX hR hfh] at hsp
 have hflat:=(Ry (lo:=f) (hi:=h) (v:=0)).data
 rw [if_neg (by omega)] at hflat
 have hfi:=(Z6 (l:=[⟨f,h,0⟩]) (lo:=a) (hi:=b) (v:=more) (by simp) ha hb (fun r hr=>by rw [List.mem_singleton] at hr; subst hr; exact ⟨hf,hh,hfh⟩)).data
 have hfln:=QK (lo:=a) (hi:=b) (v:=more) (l:=[⟨f,h,0⟩]) 1
 have hzip:=(AS7 (a:=R) (b:=GO a b more [⟨f,h,0⟩] 1) (g:=ID .u64) Vz (by omega) (by omega)).data
 refine ⟨_,?_,hz⟩
 generalize E7 (ID .u64) R (GO a b more [⟨f,h,0⟩] 1) (R.length+(GO a b more [⟨f,h,0⟩] 1).length) 0 0 []=Z at *
 rw [show ([⟨f,h,0⟩]:List Run).length=1 from rfl] at hfi
 generalize GO a b more [⟨f,h,0⟩] 1=F at *
 refine AZ AIz (by simp) ?_
 simp -implicitDefEqProofs -proj only [go_sem,seval]
 refine AI (fun b4 hb4=>?_)
 simp -implicitDefEqProofs -proj only [go_sem,seval]
 refine AI (fun b8 hb8=>?_)
 replace hb8:upd Heap.none b4 _ b8=none:=hb8
 obtain ⟨n1,n2⟩:=AG hb8 AP
 simp -implicitDefEqProofs -proj only [go_sem,seval,n1,n2]
 refine AK hsp ?_
 simp -implicitDefEqProofs -proj only [go_sem,seval]
 refine AK hflat ?_
 simp -implicitDefEqProofs -proj only [go_sem,seval]
 refine AK hfi ?_
 simp -implicitDefEqProofs -proj only [go_sem,seval]
 refine AI (fun b12 hb12=>?_)
 replace hb12:upd (upd Heap.none b4 _) b8 _ b12=none:=hb12
 obtain ⟨n3,n4⟩:=AG hb12 AP
 obtain ⟨n5,n6⟩:=AG hb12 (by rw [AD n1]; exact AP)
 simp -implicitDefEqProofs -proj only [go_sem,seval,n1,n2,n3,n4,n5,n6]
 refine AK hzip ?_
 simp -implicitDefEqProofs -proj only [go_sem,seval,n1,n2,n3,n4,n5,n6]
 exact AJ rfl
def Fp (ss:List SumX) (d:Int):Nat→Nat
 | 0=>0
 | i+1=>Fp ss d i ||| (match ss[i]? with | some s=>if s.f≤d∧d≤s.t then 2 ^ i else 0 | none=>0)
def Fv (ss:List SumX) (ps:List PartX) (d:Int):Nat→Nat
 | 0=>Fp ss d ss.length
 | i+1=>Fv ss ps d i ||| (match ps[i]? with | some s=>if s.f≤d∧d≤s.t then 256*2 ^ i else 0 | none=>0)
def FL (c:CoreX) (d:Int):Nat:=Fv c.ss c.ps d c.ps.length
theorem NK {ss:List SumX} {d:Int}:∀i:Nat,Fp ss d i<2 ^ i
 | 0=>by simp [Fp]
 | i+1=>by
  have h:=NK (ss:=ss) (d:=d) i
  have hp:2 ^ i<2 ^ (i+1):=Nat.pow_lt_pow_right (by omega) (by omega)
  rw [Fp]
  refine Nat.or_lt_two_pow (by omega) ?_
  split
  ·split <;> omega
  ·omega
theorem NH {ss:List SumX} {ps:List PartX} {d:Int} (h8:ss.length≤8):∀i:Nat,Fv ss ps d i<2 ^ (8+i)
 | 0=>by
  have h:=NK (ss:=ss) (d:=d) ss.length
  have:2 ^ ss.length≤2 ^ 8:=Nat.pow_le_pow_right (by omega) h8
  rw [Fv]
  show _<2 ^ 8
  omega
 | i+1=>by
  have h:=NH (ps:=ps) (d:=d) h8 i
  have hp:2 ^ (8+i)<2 ^ (8+i+1):=Nat.pow_lt_pow_right (by omega) (by omega)
  have he:256*2 ^ i=2 ^ (8+i):=by rw [Nat.pow_add]
  rw [Fv]
  refine Nat.or_lt_two_pow (by show _<2 ^ (8+i+1); omega) ?_
  show _<2 ^ (8+i+1)
  split
  ·split
   ·rw [he]; exact hp
   ·exact Nat.two_pow_pos _
  ·exact Nat.two_pow_pos _
theorem NB {i:Nat} (h:i≤8):2 ^ i≤256:=Nat.pow_le_pow_right (n:=2) (by omega) h
theorem S9 {i:Nat} (h:i≤8):2 ^ (8+i)≤65536:=Nat.pow_le_pow_right (show 0<2 by omega) (show 8+i≤16 by omega)
theorem AAQ {i:Nat} (h:i<8):IntKind.u64.wrap (1*2 ^ (if i≤64 then i else 64))=((2 ^ i:Nat):Int):=by
 obtain h | h | h | h | h | h | h | h:i=0∨i=1∨i=2∨i=3∨i=4∨i=5∨i=6∨i=7:=by omega
 all_goals subst h; rfl
theorem Y4 {i:Nat} (h:i<8):IntKind.u64.wrap (256*2 ^ (if i≤64 then i else 64))=((256*2 ^ i:Nat):Int):=by
 obtain h | h | h | h | h | h | h | h:i=0∨i=1∨i=2∨i=3∨i=4∨i=5∨i=6∨i=7:=by omega
 all_goals subst h; rfl
theorem APr {i:Nat} (h:i<8):Gh (i:Int)=2 ^ i:=by unfold Gh; rw [if_pos (by omega),Int.toNat_natCast]
theorem AJO {i:Nat} (h:i<8):HL (i:Int)=256*2 ^ i:=by unfold HL; rw [if_pos (by omega),Int.toNat_natCast]
theorem Rh {ss:List SumX} {i:Nat} (h:i<ss.length) (h8:ss.length≤8):(fun d=>((Fp ss d (i+1):Nat):Int))=JH (fun d=>((Fp ss d i:Nat):Int)) ss[i].f ss[i].t ((Gh (i:Int):Nat):Int):=by
 funext d
 have h1:=NK (ss:=ss) (d:=d) i
 have h2:=NB (i:=i) (by omega)
 rw [JH,Fp,List.getElem?_eq_getElem h,APr (by omega)]
 simp -implicitDefEqProofs only []
 by_cases hd:ss[i].f≤d∧d≤ss[i].t
 ·rw [if_pos hd,if_pos hd,LY (by omega) (by omega)]
 ·rw [if_neg hd,if_neg hd,show (0:Int)=((0:Nat):Int) from rfl,LY (by omega) (by omega)]
theorem SD {ss:List SumX} {ps:List PartX} {i:Nat} (h:i<ps.length) (h8:ss.length≤8) (h9:ps.length≤8):(fun d=>((Fv ss ps d (i+1):Nat):Int))=JH (fun d=>((Fv ss ps d i:Nat):Int)) ps[i].f ps[i].t ((HL (i:Int):Nat):Int):=by
 funext d
 have h1:=NH (ps:=ps) (d:=d) h8 i
 have h2:=S9 (i:=i) (by omega)
 have h3:=NB (i:=i) (by omega)
 rw [JH,Fv,List.getElem?_eq_getElem h,AJO (by omega)]
 simp -implicitDefEqProofs only []
 by_cases hd:ps[i].f≤d∧d≤ps[i].t
 ·rw [if_pos hd,if_pos hd,LY (by omega) (by omega)]
 ·rw [if_neg hd,if_neg hd,show (0:Int)=((0:Nat):Int) from rfl,LY (by omega) (by omega)]
def Js (c:CoreX):List Int:=(List.range (c.t+1-c.f).toNat).map fun (i:Nat)=>((FL c (c.f+i):Nat):Int)
def HO (c:CoreX):List Run:=A8 c.f (Js c)
theorem Nt {c:CoreX}:(Js c).length=(c.t+1-c.f).toNat:=by simp [Js]
theorem ATZ {c:CoreX} {R:List Run} (h:FwdOK (fun d=>((FL c d:Nat):Int)) c.f (c.t+1) R) (hft:c.f≤c.t):R=HO c:=by
 refine Pz (val:=fun d=>((FL c d:Nat):Int)) ?_ fun i hi=>?_
 ·rw [Nt,show c.f+(((c.t+1-c.f).toNat:Nat):Int)=c.t+1 by omega]
  exact h
 ·simp [Js]
structure HX where
 i:Nat
 R:List Run
theorem IO {i:Nat} {R:List Run}:(HX.mk i R).i=i:=(rfl)
theorem Il {i:Nat} {R:List Run}:(HX.mk i R).R=R:=(rfl)
def Jk (b1 b2 b3:Nat) (c:CoreX) (R:List Run):List (Nat×Blk):=[(b3,.box 74 [Gw R]),(b2,.box 74 [.nilsl 3]),(b1,CS c)]
set_option maxRecDepth 20000 in
theorem SC {c:CoreX} (hc:c.Fit) (hg:goodC c):DataW Tryz.prog AMW [Gz c] (IN (HO c)):=by
 have hgood:=NC hc
 rw [decide_eq_true hg] at hgood
 obtain ⟨⟨a1,a2⟩,⟨a3,a4⟩,a5,a6,a7,a8⟩:=hg.hd
 have hss:=hg.ss
 have hps:=hg.ps
 have heq:=@ATZ c
 generalize HO c=Z at *
 obtain ⟨cur,f,t,ms,ss,ps⟩:=c
 simp -implicitDefEqProofs only [] at a1 a2 a3 a4 a5 a6 a7 a8 hss hps heq
 unfold FL at heq
 simp -implicitDefEqProofs only [] at heq
 have hflat:=(Ry (lo:=f) (hi:=t) (v:=0)).data
 rw [if_neg (by omega)] at hflat
 have hfl:FwdOK (fun d=>((Fp ss d 0:Nat):Int)) f (t+1) [⟨f,t,0⟩]:=R4 a3
 refine AZ ADj (by simp) ?_
 simp -implicitDefEqProofs -proj only [go_sem,seval]
 refine AI (fun b1 hb1=>?_)
 simp -implicitDefEqProofs -proj only [go_sem,seval]
 refine AI (fun b2 hb2=>?_)
 replace hb2:upd Heap.none b1 _ b2=none:=hb2
 obtain ⟨n1,n2⟩:=AG hb2 AP
 simp -implicitDefEqProofs -proj only [go_sem,seval,n1,n2]
 refine AK hgood ?_
 simp -implicitDefEqProofs -proj only [go_sem,seval,n1,n2]
 refine AK hflat ?_
 simp -implicitDefEqProofs -proj only [go_sem,seval,n1,n2]
 refine AI (fun b3 hb3=>?_)
 replace hb3:upd (upd Heap.none b1 _) b2 _ b3=none:=hb3
 obtain ⟨n3,n4⟩:=AG hb3 AP
 obtain ⟨n5,n6⟩:=AG hb3 (by rw [AD n1]; exact AP)
 simp -implicitDefEqProofs -proj only [go_sem,seval,n1,n2,n3,n4,n5,n6,Fr]
 have hnd:∀R,(AN (Jk b1 b2 b3 ⟨cur,f,t,ms,ss,ps⟩ R)).Nodup:=fun R=>by simp [AN,Jk,n1,n3,n5]
 refine BJ (fun y:HX=>y.i≤ss.length∧FwdOK (fun d=>((Fp ss d y.i:Nat):Int)) f (t+1) y.R) 52 (fun y=>[(1,.ptr b1 0),(2,.ptr b2 0),(3,.ptr b3 0),(18,.d (.sl 3 (Ey ss))),(19,i64 ss.length),(20,i64 y.i)]) (fun y=>Jk b1 b2 b3 ⟨cur,f,t,ms,ss,ps⟩ y.R) (fun y=>ss.length-y.i) ⟨0,[⟨f,t,0⟩]⟩ ⟨Nat.zero_le _,hfl⟩ rfl ?_ ?_ ?_
 ·simp -implicitDefEqProofs -proj only [go_sem,seval,AL,IO]
 ·simp -implicitDefEqProofs -proj only [go_sem,seval,AS,Jk,Il,n1,n2,n3,n4,n5,n6]
 ·rintro ⟨i,R⟩ ⟨hi,hR⟩
  simp -implicitDefEqProofs only [IO,Il] at hi hR
  have hall:=EQ (hnd R)
  obtain ⟨H,hH⟩:∃H,Ad (Jk b1 b2 b3 ⟨cur,f,t,ms,ss,ps⟩ R)=H:=⟨_,rfl⟩
  rw [hH] at hall
  obtain ⟨k3,k2,k1,_⟩:=id hall
  by_cases h:i<ss.length
  ·have hel:=KM h
   have hso:=hss _ (List.getElem_mem h)
   obtain ⟨R',hw,hR'⟩:=RV (a:=ss[i].f) (b:=ss[i].t) (more:=((Gh (i:Int):Nat):Int)) hR a3 (by omega) (by omega) (by omega) (by obtain ⟨_,q1,q2,q3⟩:=hso; omega) (by obtain ⟨_,q1,q2,q3⟩:=hso; omega)
   rw [←Rh h a7] at hR'
   generalize ss[i]=s at *
   simp -implicitDefEqProofs -proj only [go_sem,seval,IO,Il,hH,decide_eq_true (show (i:Int)<ss.length by omega)]
   refine Ai _ (by omega) hel ?_
   simp -implicitDefEqProofs -proj only [go_sem,seval]
   refine AI (fun b5 hb5=>?_)
   replace hb5:H b5=none:=hb5
   obtain ⟨m1,m2⟩:=AG hb5 k3; obtain ⟨m3,m4⟩:=AG hb5 k2; obtain ⟨m5,m6⟩:=AG hb5 k1
   simp -implicitDefEqProofs -proj only [go_sem,seval,m1,m2,k3]
   refine Eb Pb ?_
   simp -implicitDefEqProofs -proj only [go_sem,seval,m1,m2,k3]
   refine AK hw ?_
   simp -implicitDefEqProofs -proj only [go_sem,seval,m1,m2,k3]
   refine Ac ⟨i+1,R'⟩ ⟨by rw [IO]; omega,hR'⟩ (by show ss.length-(i+1)<ss.length-i; omega) rfl ?_ ?_
   ·simp -implicitDefEqProofs -proj only [go_sem,seval,AL,IO,Il,AR (show i<9223372036854775807 by omega)]
   ·simp -implicitDefEqProofs -proj only [go_sem,seval,AS,Jk,Il,m1,m2,m3,m4,m5,m6,k1,k2,n1,n2,n3,n4,n5,n6]
  ·have hi':i=ss.length:=by omega
   subst hi'
   have hR0:FwdOK (fun d=>((Fv ss ps d 0:Nat):Int)) f (t+1) R:=hR
   simp -implicitDefEqProofs -proj only [go_sem,seval,IO,Il,hH,k1,FR,decide_eq_false (show ¬(ss.length:Int)<ss.length by omega)]
   refine BJ (fun y:HX=>y.i≤ps.length∧FwdOK (fun d=>((Fv ss ps d y.i:Nat):Int)) f (t+1) y.R) 52 (fun y=>[(1,.ptr b1 0),(2,.ptr b2 0),(3,.ptr b3 0),(35,.d (.sl 9 (Ea ps))),(36,i64 ps.length),(37,i64 y.i)]) (fun y=>Jk b1 b2 b3 ⟨cur,f,t,ms,ss,ps⟩ y.R) (fun y=>ps.length-y.i) ⟨0,R⟩ ⟨Nat.zero_le _,hR0⟩ rfl ?_ ?_ ?_
   ·simp -implicitDefEqProofs -proj only [go_sem,seval,AL,IO]
   ·exact hall
   ·rintro ⟨i,R⟩ ⟨hi,hR⟩
    simp -implicitDefEqProofs only [IO,Il] at hi hR
    have hall:=EQ (hnd R)
    obtain ⟨H,hH⟩:∃H,Ad (Jk b1 b2 b3 ⟨cur,f,t,ms,ss,ps⟩ R)=H:=⟨_,rfl⟩
    rw [hH] at hall
    obtain ⟨k3,k2,k1,_⟩:=id hall
    by_cases h:i<ps.length
    ·have hel:=IV h
     have hso:=(hps _ (List.getElem_mem h)).1.2.2.1
     obtain ⟨R',hw,hR'⟩:=RV (a:=ps[i].f) (b:=ps[i].t) (more:=((HL (i:Int):Nat):Int)) hR a3 (by omega) (by omega) (by omega) (by omega) (by omega)
     rw [←SD h a7 a8] at hR'
     generalize ps[i]=s at *
     simp -implicitDefEqProofs -proj only [go_sem,seval,IO,Il,hH,decide_eq_true (show (i:Int)<ps.length by omega)]
     refine Ai _ (by omega) hel ?_
     simp -implicitDefEqProofs -proj only [go_sem,seval]
     refine AI (fun b5 hb5=>?_)
     replace hb5:H b5=none:=hb5
     obtain ⟨m1,m2⟩:=AG hb5 k3; obtain ⟨m3,m4⟩:=AG hb5 k2; obtain ⟨m5,m6⟩:=AG hb5 k1
     simp -implicitDefEqProofs -proj only [go_sem,seval,m1,m2,k3]
     refine Eb O1 ?_
     simp -implicitDefEqProofs -proj only [go_sem,seval,m1,m2,k3]
     refine AK hw ?_
     simp -implicitDefEqProofs -proj only [go_sem,seval,m1,m2,k3]
     refine Ac ⟨i+1,R'⟩ ⟨by rw [IO]; omega,hR'⟩ (by show ps.length-(i+1)<ps.length-i; omega) rfl ?_ ?_
     ·simp -implicitDefEqProofs -proj only [go_sem,seval,AL,IO,Il,AR (show i<9223372036854775807 by omega)]
     ·simp -implicitDefEqProofs -proj only [go_sem,seval,AS,Jk,Il,m1,m2,m3,m4,m5,m6,k1,k2,n1,n2,n3,n4,n5,n6]
    ·have hi':i=ps.length:=by omega
     subst hi'
     have hz:=heq hR a3
     subst hz
     simp -implicitDefEqProofs -proj only [go_sem,seval,IO,Il,hH,k1,k2,k3,n1,n2,n3,n4,n5,n6,decide_eq_false (show ¬(ps.length:Int)<ps.length by omega)]
     exact AJ rfl
theorem ANx {c:CoreX} {day:Int} (h7:c.ss.length≤8) (h8:c.ps.length≤8):DataW Tryz.prog ASK [Gz c,i64 day] (u64 ((FL c day:Nat):Int)):=by
 obtain ⟨cur,f,t,ms,ss,ps⟩:=c
 simp -implicitDefEqProofs only [] at h7 h8
 unfold FL
 simp -implicitDefEqProofs only []
 refine AZ AWg (by simp) ?_
 simp -implicitDefEqProofs -proj only [go_sem,seval]
 refine AI (fun b2 hb2=>?_)
 simp -implicitDefEqProofs -proj only [go_sem,seval,Fr]
 refine BJ (fun i:Nat=>i≤ss.length) 59 (fun i=>[(1,i64 day),(2,.ptr b2 0),(5,u64 ((Fp ss day i:Nat):Int)),(11,.d (.sl 3 (Ey ss))),(12,i64 ss.length),(13,i64 i)]) (fun _=>[(b2,CS ⟨cur,f,t,ms,ss,ps⟩)]) (fun i=>ss.length-i) 0 (Nat.zero_le _) rfl ?_ ?_ ?_
 ·simp -implicitDefEqProofs -proj only [go_sem,seval,AL,Fp]
  try rfl
 ·simp -implicitDefEqProofs -proj only [go_sem,seval,AS]
 ·rintro i hi
  have hk:AS (Ad [(b2,CS ⟨cur,f,t,ms,ss,ps⟩)]) [(b2,CS ⟨cur,f,t,ms,ss,ps⟩)]:=EQ (by simp [AN])
  have k2:=hk.1
  by_cases h:i<ss.length
  ·have hel:=KM h
   have h1:=NK (ss:=ss) (d:=day) i
   have h2:=NB (i:=i) (by omega)
   have hstep:Fp ss day (i+1)=Fp ss day i ||| (if ss[i].f≤day∧day≤ss[i].t then 2 ^ i else 0):=by rw [Fp,List.getElem?_eq_getElem h]
   have hw1:IntKind.u64.wrap (i:Int)=i:=by rw [IntKind.wrap_u64]; omega
   have hw2:=AAQ (i:=i) (by omega)
   have hor:ID .u64 ((Fp ss day i:Nat):Int) ((2 ^ i:Nat):Int)=((Fp ss day i ||| 2 ^ i:Nat):Int):=LY (by omega) (by omega)
   generalize ss[i]=s at *
   generalize Fp ss day i=A at *
   generalize hpw:2 ^ i=p at *
   simp -implicitDefEqProofs -proj only [go_sem,seval,decide_eq_true (show (i:Int)<ss.length by omega)]
   refine Ai _ (by omega) hel ?_
   simp -implicitDefEqProofs -proj only [go_sem,seval]
   refine AI (fun b5 hb5=>?_)
   replace hb5:Ad [(b2,CS ⟨cur,f,t,ms,ss,ps⟩)] b5=none:=hb5
   obtain ⟨m1,m2⟩:=AG hb5 k2
   by_cases c1:s.f≤day
   ·by_cases c2:day≤s.t
    ·rw [if_pos ⟨c1,c2⟩] at hstep
     simp -implicitDefEqProofs -proj only [go_sem,seval,m1,m2,decide_eq_true c1,decide_eq_true c2,hw1,Int.toNat_natCast,hw2,hor]
     (repeat' (with_reducible refine Aa ?_ (fun h=>?_); (focus first | decide | omega); clear h; try simp -implicitDefEqProofs -proj only [go_sem,seval,Int.toNat_natCast,hw1,hw2,hor]))
     refine Ac (i+1) (by omega) (by show ss.length-(i+1)<ss.length-i; omega) rfl ?_ (Aj hb5 hk)
     simp -implicitDefEqProofs -proj only [go_sem,seval,AL,hstep,AR (show i<9223372036854775807 by omega)]
    ·rw [if_neg (fun k=>c2 k.2),Nat.or_zero] at hstep
     simp -implicitDefEqProofs -proj only [go_sem,seval,m1,m2,decide_eq_true c1,decide_eq_false c2]
     refine Ac (i+1) (by omega) (by show ss.length-(i+1)<ss.length-i; omega) rfl ?_ (Aj hb5 hk)
     simp -implicitDefEqProofs -proj only [go_sem,seval,AL,hstep,AR (show i<9223372036854775807 by omega)]
   ·rw [if_neg (fun k=>c1 k.1),Nat.or_zero] at hstep
    simp -implicitDefEqProofs -proj only [go_sem,seval,m1,m2,decide_eq_false c1]
    refine Ac (i+1) (by omega) (by show ss.length-(i+1)<ss.length-i; omega) rfl ?_ (Aj hb5 hk)
    simp -implicitDefEqProofs -proj only [go_sem,seval,AL,hstep,AR (show i<9223372036854775807 by omega)]
  ·have hi':i=ss.length:=by omega
   subst hi'
   simp -implicitDefEqProofs -proj only [go_sem,seval,k2,FR,decide_eq_false (show ¬(ss.length:Int)<ss.length by omega)]
   refine BJ (fun i:Nat=>i≤ps.length) 59 (fun i=>[(1,i64 day),(5,u64 ((Fv ss ps day i:Nat):Int)),(35,.d (.sl 9 (Ea ps))),(36,i64 ps.length),(37,i64 i)]) (fun _=>[(b2,CS ⟨cur,f,t,ms,ss,ps⟩)]) (fun i=>ps.length-i) 0 (Nat.zero_le _) rfl ?_ ?_ ?_
   ·simp -implicitDefEqProofs -proj only [go_sem,seval,AL,Fv]
    try rfl
   ·exact hk
   ·rintro i hi
    have k2:=hk.1
    by_cases h:i<ps.length
    ·have hel:=IV h
     have h1:=NH (ps:=ps) (d:=day) h7 i
     have h2:=S9 (i:=i) (by omega)
     have hstep:Fv ss ps day (i+1)=Fv ss ps day i ||| (if ps[i].f≤day∧day≤ps[i].t then 256*2 ^ i else 0):=by rw [Fv,List.getElem?_eq_getElem h]
     have hw1:IntKind.u64.wrap (i:Int)=i:=by rw [IntKind.wrap_u64]; omega
     have hw2:=Y4 (i:=i) (by omega)
     have hp8:=NB (i:=i) (by omega)
     have hor:ID .u64 ((Fv ss ps day i:Nat):Int) ((256*2 ^ i:Nat):Int)=((Fv ss ps day i ||| 256*2 ^ i:Nat):Int):=LY (by omega) (by omega)
     generalize ps[i]=s at *
     generalize Fv ss ps day i=A at *
     generalize hpw:256*2 ^ i=p at *
     simp -implicitDefEqProofs -proj only [go_sem,seval,decide_eq_true (show (i:Int)<ps.length by omega)]
     refine Ai _ (by omega) hel ?_
     simp -implicitDefEqProofs -proj only [go_sem,seval]
     refine AI (fun b5 hb5=>?_)
     replace hb5:Ad [(b2,CS ⟨cur,f,t,ms,ss,ps⟩)] b5=none:=hb5
     obtain ⟨m1,m2⟩:=AG hb5 k2
     by_cases c1:s.f≤day
     ·by_cases c2:day≤s.t
      ·rw [if_pos ⟨c1,c2⟩] at hstep
       simp -implicitDefEqProofs -proj only [go_sem,seval,m1,m2,decide_eq_true c1,decide_eq_true c2,hw1,Int.toNat_natCast,hw2,hor]
       (repeat' (with_reducible refine Aa ?_ (fun h=>?_); (focus first | decide | omega); clear h; try simp -implicitDefEqProofs -proj only [go_sem,seval,Int.toNat_natCast,hw1,hw2,hor]))
       refine Ac (i+1) (by omega) (by show ps.length-(i+1)<ps.length-i; omega) rfl ?_ (Aj hb5 hk)
       simp -implicitDefEqProofs -proj only [go_sem,seval,AL,hstep,AR (show i<9223372036854775807 by omega)]
      ·rw [if_neg (fun k=>c2 k.2),Nat.or_zero] at hstep
       simp -implicitDefEqProofs -proj only [go_sem,seval,m1,m2,decide_eq_true c1,decide_eq_false c2]
       refine Ac (i+1) (by omega) (by show ps.length-(i+1)<ps.length-i; omega) rfl ?_ (Aj hb5 hk)
       simp -implicitDefEqProofs -proj only [go_sem,seval,AL,hstep,AR (show i<9223372036854775807 by omega)]
     ·rw [if_neg (fun k=>c1 k.1),Nat.or_zero] at hstep
      simp -implicitDefEqProofs -proj only [go_sem,seval,m1,m2,decide_eq_false c1]
      refine Ac (i+1) (by omega) (by show ps.length-(i+1)<ps.length-i; omega) rfl ?_ (Aj hb5 hk)
      simp -implicitDefEqProofs -proj only [go_sem,seval,AL,hstep,AR (show i<9223372036854775807 by omega)]
    ·have hi':i=ps.length:=by omega
     subst hi'
     simp -implicitDefEqProofs -proj only [go_sem,seval,decide_eq_false (show ¬(ps.length:Int)<ps.length by omega)]
     exact AJ rfl
theorem LR {c:CoreX} (hft:c.f≤c.t):FwdOK (fun d=>((FL c d:Nat):Int)) c.f (c.t+1) (HO c):=by
 have h:=Ij c.f (Js c)
 rw [Nt,show c.f+(((c.t+1-c.f).toNat:Nat):Int)=c.t+1 by omega] at h
 refine h.congr fun x h1 h2=>?_
 unfold HI
 rw [List.getD_eq_getElem?_getD,List.getElem?_eq_getElem (by rw [Nt]; omega)]
 simp -implicitDefEqProofs only [Js,List.getElem_map,List.getElem_range,Option.getD_some]
 rw [show c.f+(((x-c.f).toNat:Nat):Int)=x by omega]
def Et (val:Int→Int) (f:Int):Nat→List Int
 | 0=>[]
 | i+1=>if val (f+1+i)=val (f+i) then Et val f i else Et val f i++[f+1+i]
theorem Ql {val val':Int→Int} {f:Int}:∀{n:Nat},(∀i:Nat,i≤n→val (f+i)=val' (f+i))→Et val f n=Et val' f n
 | 0,_=>rfl
 | n+1,h=>by
  rw [Et,Et,Ql (n:=n) (fun i hi=>h i (by omega))]
  have h1:=h n (by omega)
  have h2:=h (n+1) (by omega)
  rw [show f+((n+1:Nat):Int)=f+1+n by omega] at h2
  rw [h1,h2]
theorem UF {f:Int} {l:List Int}:∀{i:Nat},i<l.length→(GA f l (i+1)).map (·.f)=f::Et (HI f l) f i
 | 0,h=>by simp [GA,BB,Et]
 | i+1,h=>by
  have ih:=UF (i:=i) (f:=f) (l:=l) (by omega)
  obtain ⟨q,h1,h2,h3⟩:=T9 (f:=f) (l:=l) (i:=i)
  have hne:GA f l (i+1)≠[]:=fun e=>by rw [e] at h1; simp at h1
  have hv:HI f l (f+i)=q.v:=by unfold HI; rw [h2,show (f+(i:Int)-f).toNat=i by omega]
  have hv2:HI f l (f+1+i)=l.getD (i+1) 0:=by unfold HI; rw [show (f+1+(i:Int)-f).toNat=i+1 by omega]
  rw [GA,Et,hv,hv2]
  generalize GA f l (i+1)=R at *
  rw [BB,h1]
  simp -implicitDefEqProofs only []
  by_cases he:q.v=l.getD (i+1) 0
  ·rw [if_pos he,if_pos he.symm,←ih]
   obtain ⟨dl,hd⟩:=List.getLast?_eq_some_iff.1 h1
   subst hd
   simp
  ·rw [if_neg he,if_neg (fun e=>he e.symm),List.map_append,ih]
   simp -implicitDefEqProofs only [List.map_cons,List.map_nil,List.cons_append]
   rw [show f+((i+1:Nat):Int)=f+1+i by omega]
theorem ABt {c:CoreX} (hft:c.f≤c.t):(HO c).map (·.f)=c.f::Et (fun d=>((FL c d:Nat):Int)) c.f (c.t-c.f).toNat:=by
 have hl:=@Nt c
 have h:=UF (f:=c.f) (l:=Js c) (i:=(c.t-c.f).toNat) (by omega)
 unfold HO A8
 rw [show (Js c).length=(c.t-c.f).toNat+1 by omega,h]
 congr 1
 refine Ql fun i hi=>?_
 unfold HI
 rw [show (c.f+(i:Int)-c.f).toNat=i by omega,List.getD_eq_getElem?_getD,List.getElem?_eq_getElem (by omega)]
 simp [Js]
theorem Qq {val:Int→Int} {f a b m:Int}:∀n:Nat,(Et (JH val a b m) f n).length≤(Et val f n).length+(if a≤f+n then 1 else 0)+(if b<f+n then 1 else 0)
 | 0=>by simp [Et]
 | n+1=>by
  have ih:=Qq (val:=val) (f:=f) (a:=a) (b:=b) (m:=m) n
  rw [Et,Et]
  have e:f+((n+1:Nat):Int)=f+1+n:=by omega
  rw [e]
  by_cases h1:JH val a b m (f+1+n)=JH val a b m (f+n)
  ·rw [if_pos h1]
   split <;> (try rw [List.length_append,List.length_singleton]) <;> split <;> split <;> split at ih <;> split at ih <;> omega
  ·rw [if_neg h1,List.length_append,List.length_singleton]
   by_cases h2:val (f+1+n)=val (f+n)
   ·rw [if_pos h2]
    have h3:(if a≤f+1+n∧f+1+n≤b then m else 0)≠(if a≤f+n∧f+n≤b then m else 0):=fun k=>h1 (by unfold JH; rw [h2,k])
    have h4:¬(a≤f+1+n∧f+1+n≤b∧a≤f+n∧f+n≤b):=fun k=>h3 (by rw [if_pos ⟨k.1,k.2.1⟩,if_pos ⟨k.2.2.1,k.2.2.2⟩])
    have h5:¬(¬(a≤f+1+n∧f+1+n≤b)∧¬(a≤f+n∧f+n≤b)):=fun k=>h3 (by rw [if_neg k.1,if_neg k.2])
    split <;> split <;> split at ih <;> split at ih <;> omega
   ·rw [if_neg h2,List.length_append,List.length_singleton]
    split <;> split <;> split at ih <;> split at ih <;> omega
theorem R0 {val:Int→Int} {f a b m:Int} (n:Nat):(Et (JH val a b m) f n).length≤(Et val f n).length+2:=by
 have:=Qq (val:=val) (f:=f) (a:=a) (b:=b) (m:=m) n
 split at this <;> split at this <;> omega
theorem Tq {v f:Int}:∀n:Nat,Et (fun _=>v) f n=[]
 | 0=>rfl
 | n+1=>by rw [Et,if_pos rfl,Tq]
theorem Qo {ss:List SumX} {f:Int} {n:Nat} (h8:ss.length≤8):∀i:Nat,i≤ss.length→(Et (fun d=>((Fp ss d i:Nat):Int)) f n).length≤2*i
 | 0,_=>by
  show (Et (fun _=>((0:Nat):Int)) f n).length≤0
  rw [Tq]; simp
 | i+1,h=>by
  have ih:=Qo (ss:=ss) (f:=f) (n:=n) h8 i (by omega)
  rw [Rh (by omega) h8]
  have:=R0 (val:=fun d=>((Fp ss d i:Nat):Int)) (f:=f) (a:=(ss[i]'(by omega)).f) (b:=(ss[i]'(by omega)).t) (m:=((Gh (i:Int):Nat):Int)) n
  omega
theorem RQ {ss:List SumX} {ps:List PartX} {f:Int} {n:Nat} (h8:ss.length≤8) (h9:ps.length≤8):∀i:Nat,i≤ps.length→(Et (fun d=>((Fv ss ps d i:Nat):Int)) f n).length≤2*(ss.length+i)
 | 0,_=>Qo h8 ss.length (Nat.le_refl _)
 | i+1,h=>by
  have ih:=RQ (ss:=ss) (ps:=ps) (f:=f) (n:=n) h8 h9 i (by omega)
  rw [SD (by omega) h8 h9]
  have:=R0 (val:=fun d=>((Fv ss ps d i:Nat):Int)) (f:=f) (a:=(ps[i]'(by omega)).f) (b:=(ps[i]'(by omega)).t) (m:=((HL (i:Int):Nat):Int)) n
  omega
theorem ACn {c:CoreX} (h8:c.ss.length≤8) (h9:c.ps.length≤8) (n:Nat):(Et (fun d=>((FL c d:Nat):Int)) c.f n).length≤2*(c.ss.length+c.ps.length):=RQ h8 h9 c.ps.length (Nat.le_refl _)
theorem Mq {c:CoreX} {d:Int} {m:Nat} {mx:Int}:(IX c d m mx).length=(mx+1).toNat:=by simp [IX]
theorem Ig {c:CoreX} {d:Int} {k:Nat}:(Eh c d k).length=k:=by simp [Eh]
theorem AES {c:CoreX} {d:Int} {k m:Nat} (h:m<k) (hm:m<c.ms.length):(Eh c d k)[m]'(by rw [Ig]; exact h)=IX c d m c.ms[m].mx:=by
 simp [Eh,hm]
theorem AFd {c:CoreX} {d:Int} {k:Nat} (hm:k<c.ms.length):Eh c d (k+1)=Eh c d k++[IX c d k c.ms[k].mx]:=by
 simp [Eh,List.range_succ,hm]
theorem SM {c:CoreX} (h:fitsC c) (d:Int) {m:Nat} (hm:m<c.ms.length):BG (IX c d m c.ms[m].mx):=by
 have hb:=(fitsC.bnd h.good).mx m hm
 refine ⟨fun e=>?_,by rw [Mq]; omega,fun v hv=>?_⟩
 ·have:=congrArg List.length e
  rw [Mq] at this
  simp at this
  omega
 ·obtain ⟨q,hq,rfl⟩:=List.mem_map.1 hv
  have hq:=List.mem_range.1 hq
  have:=Qe h d hm (q:=q) (by omega) (by omega) (Nat.le_refl c.ps.length)
  unfold E1 Ii
  omega
theorem Lm {c:CoreX} (h:fitsC c) (d:Int):∀l∈Eh c d c.ms.length,BG l:=by
 intro l hl
 obtain ⟨i,hi,rfl⟩:=List.getElem_of_mem hl
 rw [Ig] at hi
 rw [AES hi hi]
 exact SM h d hi
theorem OO {i k:Nat}:(2 ^ i).testBit k=decide (k=i):=by
 rw [Nat.testBit_two_pow]
 exact decide_eq_decide.2 eq_comm
theorem AAp {i k:Nat}:(256*2 ^ i).testBit k=decide (k=8+i):=by
 rw [show 256*2 ^ i=2 ^ (8+i) by rw [Nat.pow_add],OO]
theorem Oc {ss:List SumX} {d:Int} {k:Nat}:∀{i:Nat},i≤ss.length→((Fp ss d i).testBit k=true↔k<i∧∃s,ss[k]? = some s∧Eu d s.f s.t)
 | 0,_=>by simp [Fp]
 | i+1,h=>by
  have ih:=Oc (ss:=ss) (d:=d) (k:=k) (i:=i) (by omega)
  rw [Fp,Nat.testBit_or,Bool.or_eq_true,ih,List.getElem?_eq_getElem (show i<ss.length by omega)]
  simp -implicitDefEqProofs only []
  by_cases hd:ss[i].f≤d∧d≤ss[i].t
  ·rw [if_pos hd,OO,decide_eq_true_eq]
   constructor
   ·rintro (⟨h1,h2⟩ | rfl)
    ·exact ⟨by omega,h2⟩
    ·exact ⟨by omega,_,List.getElem?_eq_getElem (by omega),hd⟩
   ·rintro ⟨h1,h2⟩
    by_cases hk:k=i
    ·exact .inr hk
    ·exact .inl ⟨by omega,h2⟩
  ·rw [if_neg hd]
   simp -implicitDefEqProofs only [Nat.zero_testBit,Bool.false_eq_true,or_false]
   constructor
   ·rintro ⟨h1,h2⟩; exact ⟨by omega,h2⟩
   ·rintro ⟨h1,s,h2,h3⟩
    refine ⟨?_,s,h2,h3⟩
    by_cases hk:k=i
    ·subst hk
     rw [List.getElem?_eq_getElem (by omega)] at h2
     rw [←Option.some.inj h2] at h3
     exact absurd h3 hd
    ·omega
theorem Qb {ss:List SumX} {ps:List PartX} {d:Int} {k:Nat}:∀{i:Nat},i≤ps.length→((Fv ss ps d i).testBit k=true↔(Fp ss d ss.length).testBit k=true∨8≤k∧k<8+i∧∃s,ps[k-8]? = some s∧Eu d s.f s.t)
 | 0,_=>by
  rw [Fv]
  exact ⟨.inl,fun h=>h.elim id (fun k=>absurd k.2.1 (by omega))⟩
 | i+1,h=>by
  have ih:=Qb (ss:=ss) (ps:=ps) (d:=d) (k:=k) (i:=i) (by omega)
  rw [Fv,Nat.testBit_or,Bool.or_eq_true,ih,List.getElem?_eq_getElem (show i<ps.length by omega)]
  simp -implicitDefEqProofs only []
  by_cases hd:ps[i].f≤d∧d≤ps[i].t
  ·rw [if_pos hd,AAp,decide_eq_true_eq]
   constructor
   ·rintro ((h1 | ⟨h1,h2,h3⟩) | rfl)
    ·exact .inl h1
    ·exact .inr ⟨h1,by omega,h3⟩
    ·exact .inr ⟨by omega,by omega,_,by rw [show 8+i-8=i by omega]; exact List.getElem?_eq_getElem (by omega),hd⟩
   ·rintro (h1 | ⟨h1,h2,h3⟩)
    ·exact .inl (.inl h1)
    ·by_cases hk:k=8+i
     ·exact .inr hk
     ·exact .inl (.inr ⟨h1,by omega,h3⟩)
  ·rw [if_neg hd]
   simp -implicitDefEqProofs only [Nat.zero_testBit,Bool.false_eq_true,or_false]
   constructor
   ·rintro (h1 | ⟨h1,h2,h3⟩)
    ·exact .inl h1
    ·exact .inr ⟨h1,by omega,h3⟩
   ·rintro (h1 | ⟨h1,h2,s,h3,h4⟩)
    ·exact .inl h1
    ·refine .inr ⟨h1,?_,s,h3,h4⟩
     by_cases hk:k=8+i
     ·subst hk
      rw [show 8+i-8=i by omega,List.getElem?_eq_getElem (by omega)] at h3
      rw [←Option.some.inj h3] at h4
      exact absurd h4 hd
     ·omega
theorem OR {c:CoreX} {d:Int} {j:Nat} (h8:c.ss.length≤8) (hj:j<c.ss.length):((FL c d).testBit j=true↔Eu d c.ss[j].f c.ss[j].t):=by
 unfold FL
 rw [Qb (Nat.le_refl _),Oc (Nat.le_refl _)]
 constructor
 ·rintro (⟨_,s,h2,h3⟩ | ⟨h1,_⟩)
  ·rw [List.getElem?_eq_getElem hj] at h2
   cases h2
   exact h3
  ·omega
 ·intro h
  exact .inl ⟨hj,_,List.getElem?_eq_getElem hj,h⟩
theorem PJ {c:CoreX} {d:Int} {j:Nat} (h8:c.ss.length≤8) (hj:j<c.ps.length):((FL c d).testBit (8+j)=true↔Eu d c.ps[j].f c.ps[j].t):=by
 unfold FL
 rw [Qb (Nat.le_refl _),Oc (Nat.le_refl _),show 8+j-8=j by omega,List.getElem?_eq_getElem hj]
 constructor
 ·rintro (⟨h1,_⟩ | ⟨_,_,s,h2,h3⟩)
  ·omega
  ·cases h2; exact h3
 ·intro h
  exact .inr ⟨by omega,by omega,_,rfl,h⟩
theorem AWJ {c:CoreX} {d e:Int} (h8:c.ss.length≤8) (h:FL c d=FL c e):En c d=En c e:=by
 have h1:∀(j:Nat) (hj:j<c.ss.length),Eu d c.ss[j].f c.ss[j].t↔Eu e c.ss[j].f c.ss[j].t:=fun j hj=>by rw [←OR h8 hj,←OR h8 hj,h]
 have h2:∀(j:Nat) (hj:j<c.ps.length),Eu d c.ps[j].f c.ps[j].t↔Eu e c.ps[j].f c.ps[j].t:=fun j hj=>by rw [←PJ h8 hj,←PJ h8 hj,h]
 have e1:FZ c d=FZ c e:=JG fun j hj=>by
  unfold Fk
  rw [List.getElem?_eq_getElem hj]
  simp -implicitDefEqProofs only [h1 j hj]
 have e2:∀m,FP c d m=FP c e m:=fun m=>JG fun j hj=>by
  unfold E9
  rw [List.getElem?_eq_getElem hj]
  simp -implicitDefEqProofs only [h2 j hj]
 have e3:∀m q,Ii c d m q=Ii c e m q:=fun m q=>JG fun j hj=>by
  unfold FQ
  rw [List.getElem?_eq_getElem hj]
  simp -implicitDefEqProofs only [h2 j hj]
 unfold En JM Eh IX
 simp -implicitDefEqProofs only [e1,e3,show FP c d=FP c e from funext e2]
theorem Nw {c:CoreX} (h8:c.ss.length≤8):∀d e,c.f≤d→d<c.t+1→c.f≤e→e<c.t+1→((FL c d:Nat):Int)=((FL c e:Nat):Int)→En c d=En c e :=
 fun d e _ _ _ _ h=>AWJ h8 (by omega)
def KG (x:PartX) (mx:Int):List Int:=(List.range (mx+1).toNat).map fun q:Nat=>pv x q
def Gd (x:PartX) (mx:Int):List Int:=(List.range (mx+1).toNat).map fun q:Nat=>pv x q-pv x 0
theorem AJ5 {x:PartX} {mx:Int}:(KG x mx).map (· + -(pv x 0))=Gd x mx:=by
 simp -implicitDefEqProofs only [KG,Gd,List.map_map]
 rfl
def IY (b3 b4:Nat) (x:PartX) (l:List Int) (y:BackY):List (Nat×Blk):=Ah 3 1 y.c y.cap (AU (l.take y.i))++[(b4,.box 51 [i64 0,.nilsl 5]),(b3,.box 40 [i64 x.me,i64 x.f,i64 x.t,i64 x.al,i64 x.bl,i64 x.ki,EZ x.ts,i64 x.mo,Ec x.ad])]
set_option maxRecDepth 20000 in
set_option maxHeartbeats 4000000 in
theorem ATA {c:CoreX} (hc:c.Fit) (hf:fitsC c) {x:PartX} (hx:x∈c.ps):DataW Tryz.prog Tu [Gz c,GK x] (.tup [Ez (Gd x (EX c.ms x.me)),i64 (pv x 0),bv true]):=by
 obtain ⟨m1,m2⟩:=(fitsC.bnd hf.good).me x hx
 have hmi:x.me.toNat<c.ms.length:=by omega
 have hmx:=(fitsC.bnd hf.good).mx x.me.toNat hmi
 have hmxe:EX c.ms x.me=c.ms[x.me.toNat].mx:=by
  unfold EX; rw [List.getElem?_eq_getElem hmi]
 have hG:=MP (hf.good.ps x hx)
 have hfx:=hc.ps x hx
 have helM:=G8 hmi
 have hcall:∀q:Nat,q<(EX c.ms x.me+1).toNat→DataW Tryz.prog PX [GK x,i64 q] (.tup [i64 (pv x q),bv true]):=fun q hq=>by
  have hb:=JD hf hx (q:=q) (by omega) (by omega)
  have:=Su (q:=(q:Int)) hfx (by unfold Fit; omega) hG (Lp hG.ts)
  rwa [hb.1] at this
 have hbnd:∀q:Nat,q<(EX c.ms x.me+1).toNat→0≤pv x q∧pv x q≤1152921504606846976:=fun q hq=>by
  have hb:=JD hf hx (q:=q) (by omega) (by omega)
  exact ⟨hb.2.1,hb.2.2.2⟩
 obtain ⟨n,hn⟩:∃n:Nat,n=(EX c.ms x.me+1).toNat:=⟨_,rfl⟩
 have hn1:c.ms[x.me.toNat].mx+1=n:=by rw [hn,hmxe]; omega
 have hn0:0<n:=by omega
 have hn2:n≤2001:=by omega
 rw [←hn] at hcall hbnd
 obtain ⟨l,hl⟩:∃l,KG x (EX c.ms x.me)=l:=⟨_,rfl⟩
 have hll:l.length=n:=by rw [←hl]; simp [KG,hn]
 have hlv:∀(q:Nat) (h:q<l.length),l[q]=pv x q:=fun q h=>by subst hl; simp [KG]
 have cl:BG l:=by
  refine ⟨fun e=>by rw [e] at hll; simp at hll; omega,by omega,fun v hv=>?_⟩
  obtain ⟨q,hq,rfl⟩:=List.mem_iff_getElem.1 hv
  have:=hbnd q (by omega)
  rw [hlv q hq]; unfold E1; omega
 have p0:=hbnd 0 hn0
 rw [show ((0:Nat):Int)=0 from rfl] at p0
 have cm:BG (l.map (· + -(pv x 0))):=by
  refine ⟨fun e=>cl.1 (List.map_eq_nil_iff.1 e),by rw [List.length_map]; omega,fun v hv=>?_⟩
  obtain ⟨u,hu,rfl⟩:=List.mem_map.1 hv
  obtain ⟨q,hq,rfl⟩:=List.mem_iff_getElem.1 hu
  have:=hbnd q (by omega)
  show E1 (l[q] + -pv x 0)
  rw [hlv q hq]; unfold E1; omega
 have hsh:=SA (d:=-(pv x 0)) cl (by unfold E1; omega)
 rw [if_pos cm] at hsh
 rw [←AJ5,hl]
 have hof:=N5 (from':=0) (l:=l) (by omega) (by omega)
 have hcu:=Lr (l:=l) (by omega)
 rw [if_pos cl] at hcu
 have hne:l≠[]:=cl.1
 have hfst:(AU l)[0]? = some [.int .i64 (pv x 0)]:=by
  have h0:0<l.length:=by omega
  have e0:=hlv 0 h0
  rw [show ((0:Nat):Int)=0 from rfl] at e0
  rw [←e0]; simp [AU,h0]
 have hwn:IntKind.i64.wrap (0-pv x 0) = -pv x 0:=by rw [IntKind.wrap_i64]; omega
 have hw1:IntKind.i64.wrap (c.ms[x.me.toNat].mx+1)=n:=by rw [hn1,IntKind.wrap_i64]; omega
 generalize ER l=GL at *
 generalize ER (l.map (· + -pv x 0))=GM at *
 refine AZ RJ (by simp) ?_
 simp -implicitDefEqProofs -proj only [go_sem,seval]
 refine AI (fun b2 hb2=>?_)
 simp -implicitDefEqProofs -proj only [go_sem,seval]
 refine AI (fun b3 hb3=>?_)
 replace hb3:upd Heap.none b2 _ b3=none:=hb3
 obtain ⟨n1,n2⟩:=AG hb3 AP
 simp -implicitDefEqProofs -proj only [go_sem,seval,n1,n2]
 refine AI (fun b4 hb4=>?_)
 replace hb4:upd (upd Heap.none b2 _) b3 _ b4=none:=hb4
 obtain ⟨n3,n4⟩:=AG hb4 AP
 obtain ⟨n5,n6⟩:=AG hb4 (by rw [AD n1]; exact AP)
 simp -implicitDefEqProofs -proj only [go_sem,seval,n1,n2,n3,n4,n5,n6]
 refine Ai _ m1 (by rw [←Int.toNat_of_nonneg m1]; exact helM) ?_
 simp -implicitDefEqProofs -proj only [go_sem,seval,n1,n2,n3,n4,n5,n6,hw1]
 refine BJ (fun y:BackY=>y.i≤l.length∧(AN (IY b3 b4 x l y)).Nodup) 63 (fun y=>[(3,.ptr b3 0),(4,.ptr b4 0),(7,As 0 1 y.c y.cap (AU (l.take y.i))),(22,i64 n),(23,i64 y.i)]) (IY b3 b4 x l) (fun y=>l.length-y.i) ⟨0,0,0⟩ ⟨Nat.zero_le _,by simp [IY,Ah,AU,AN,n3]⟩ rfl ?_ ?_ ?_
 ·simp -implicitDefEqProofs -proj only [go_sem,seval,AL,FT,Ff,Fg]
  try rfl
 ·simp -implicitDefEqProofs only [IY,FT,Ff,Fg,List.take_zero]
  simp -implicitDefEqProofs -proj only [go_sem,seval,AS,n1,n2,n3,n4,n5,n6,AU,List.map_nil,Ah]
 ·rintro ⟨i,cc,cap⟩ ⟨hi,hnd⟩
  simp -implicitDefEqProofs only [FT] at hi
  have hall:=EQ hnd
  obtain ⟨H,hH⟩:∃H,Ad (IY b3 b4 x l ⟨i,cc,cap⟩)=H:=⟨_,rfl⟩
  rw [hH] at hall
  simp -implicitDefEqProofs only [IY,FT,Ff,Fg] at hall hnd
  obtain ⟨hrow,e4,e3,_⟩:=Ar.1 hall
  by_cases hlt:i<l.length
  ·have hat:=hcall i (by omega)
   rw [←hlv i hlt] at hat
   have htk:l.take (i+1)=l.take i++[l[i]]:=List.take_succ_eq_append_getElem hlt
   have hl1:(AU (l.take i)).length=i:=by rw [rowI_len,List.length_take]; omega
   have hl2:(AU (l.take (i+1))).length=i+1:=by rw [rowI_len,List.length_take]; omega
   have hne2:AU (l.take (i+1))≠[]:=by intro e; rw [e] at hl2; simp at hl2
   generalize l[i]=v at *
   simp -implicitDefEqProofs -proj only [go_sem,seval,FT,Ff,Fg,hH,e3,decide_eq_true (show (i:Int)<n by omega)]
   refine AK hat ?_
   simp -implicitDefEqProofs -proj only [go_sem,seval]
   refine Ao (fun bs hs'=>?_)
   replace hs':H bs=none:=hs'
   simp -implicitDefEqProofs -proj only [go_sem,seval]
   refine FB (xs:=AU (l.take i)) (y:=[.int .i64 v]) (t:=3) (capc:=1) [(b4,.box 51 [i64 0,.nilsl 5]),(b3,.box 40 [i64 x.me,i64 x.f,i64 x.t,i64 x.al,i64 x.bl,i64 x.ki,EZ x.ts,i64 x.mo,Ec x.ad])] rfl (Aj hs' hall) hnd (by simp -implicitDefEqProofs -proj only [go_sem,seval]) (by rw [hl1]; omega) (by rw [hl1]; omega) (fun H' c' cap' ha hk=>?_)
   rw [show AU (l.take i)++[[.int .i64 v]]=AU (l.take (i+1)) by rw [htk]; simp [AU]] at ha hk
   simp -implicitDefEqProofs -proj only [go_sem,seval]
   refine Ac ⟨i+1,c',cap'⟩ ⟨by show i+1≤l.length; omega,hk⟩ (by show l.length-(i+1)<l.length-i; omega) rfl ?_ ha
   simp -implicitDefEqProofs -proj only [go_sem,seval,AL,FT,Ff,Fg,AR (show i<9223372036854775807 by omega),EM hne2,hl1,hl2]
  ·have hi':i=l.length:=by omega
   subst hi'
   rw [List.take_length] at hrow hnd
   have hneI:AU l≠[]:=by intro e; have:=congrArg List.length e; rw [rowI_len,List.length_nil] at this; omega
   have hrc:H cc=some (.row 3 1 cap (AU l)):=by
    rw [Ed hneI] at hrow
    exact hrow.1
   obtain ⟨x1,x2⟩:¬cc=b4∧¬b4=cc:=by
    rw [Ed hneI] at hnd
    simp -implicitDefEqProofs only [AN,List.map_append,List.map_cons,List.map_nil,List.cons_append,List.nil_append,List.nodup_cons,List.mem_cons,not_or] at hnd
    exact ⟨hnd.1.1,fun e=>hnd.1.1 e.symm⟩
   simp -implicitDefEqProofs -proj only [go_sem,seval,FT,Ff,Fg,hH,decide_eq_false (show ¬(l.length:Int)<n by omega),List.take_length,EM hneI,rowI_len]
   refine Ko hof (E3 (.refl _) (E3 (KS hrc rowI_len.symm) GC)) ?_
   simp -implicitDefEqProofs -proj only [go_sem,seval]
   refine AK hcu.data ?_
   simp -implicitDefEqProofs -proj only [go_sem,seval]
   refine AI (fun b11 hb11=>?_)
   replace hb11:H b11=none:=hb11
   obtain ⟨y1,y2⟩:=AG hb11 hrc
   obtain ⟨y3,y4⟩:=AG hb11 e4
   simp -implicitDefEqProofs -proj only [go_sem,seval,y1,y2,y3,y4,hrc]
   (repeat' (with_reducible refine Aa ?_ (fun h=>?_); (focus first | decide | omega); clear h; try simp -implicitDefEqProofs -proj only [go_sem,seval,eq_self,y1,y2,y3,y4,hrc]))
   refine BC _ hfst (by simp) ?_
   simp -implicitDefEqProofs -proj only [go_sem,seval,y1,y2,y3,y4,hrc,hwn]
   refine Eb hsh ?_
   simp -implicitDefEqProofs -proj only [go_sem,seval,y1,y2,y3,y4,hrc]
   refine AI (fun b13 hb13=>?_)
   simp -implicitDefEqProofs only [AX,y1,y2,y3,y4,↓reduceIte] at hb13
   have z11:¬b11=b13:=fun e=>by subst e; simp [y1,y2,y3,y4] at hb13
   have hb13':H b13=none:=by
    simp -implicitDefEqProofs only [z11,↓reduceIte] at hb13
    exact hb13
   obtain ⟨z1,z2⟩:=AG hb13' hrc
   obtain ⟨z3,z4⟩:=AG hb13' e4
   have z11':¬b13=b11:=fun e=>z11 e.symm
   simp -implicitDefEqProofs -proj only [go_sem,seval,y1,y2,y3,y4,hrc,z1,z2,z3,z4,z11,z11',x1,x2]
   (repeat' (with_reducible refine Aa ?_ (fun h=>?_); (focus first | decide | omega); clear h; try simp -implicitDefEqProofs -proj only [go_sem,seval,eq_self,y1,y2,y3,y4,hrc,z1,z2,z3,z4,z11,z11',x1,x2,e4]))
   refine BC _ hfst (by simp) ?_
   simp -implicitDefEqProofs -proj only [go_sem,seval,y1,y2,y3,y4,hrc,z1,z2,z3,z4,z11,z11',x1,x2,e4]
   (repeat' (with_reducible refine Aa ?_ (fun h=>?_); (focus first | decide | omega); clear h; try simp -implicitDefEqProofs -proj only [go_sem,seval,eq_self,y1,y2,y3,y4,hrc,z1,z2,z3,z4,z11,z11',x1,x2,e4]))
   exact AJ rfl
def Hy (ps:List PartX) (d:Int) (b:List Int) (j:Nat):Int:=match ps[j]? with
 | some x=>if Eu d x.f x.t then pv x (bq b x.me) else 0
 | none=>0
def QD (c:CoreX) (d:Int) (b:List Int):Int:=FZ c d+sg (Hy c.ps d b) c.ps.length
theorem AF4 {c:CoreX} {d:Int} {m:Nat}:Ii c d m 0=0:=by
 unfold Ii
 have h:sg (FQ c.ps d m 0) c.ps.length=sg (fun _=>0) c.ps.length:=JG fun j _=>by
  unfold FQ
  split
  ·split
   ·exact Int.sub_self _
   ·rfl
  ·rfl
 rw [h,L1]
theorem AXG {c:CoreX} (hme:∀x∈c.ps,0≤x.me∧x.me<(c.ms.length:Int)) (d:Int) (b:List Int):QD c d b=JM c d+sg (fun m=>Ii c d m (bq b m)) c.ms.length:=by
 unfold QD JM
 have h1:sg (fun m=>Ii c d m (bq b m)) c.ms.length=sg (fun j=>sg (fun m=>FQ c.ps d m (bq b m) j) c.ms.length) c.ps.length:=by
  unfold Ii
  exact O6 (g:=fun m j=>FQ c.ps d m (bq b m) j) c.ps.length
 have h2:sg (FP c d) c.ms.length=sg (fun j=>sg (fun m=>E9 c.ps d m j) c.ms.length) c.ps.length:=by
  unfold FP
  exact O6 (g:=fun m j=>E9 c.ps d m j) c.ps.length
 have h3:sg (Hy c.ps d b) c.ps.length=sg (fun j=>sg (fun m=>E9 c.ps d m j) c.ms.length+sg (fun m=>FQ c.ps d m (bq b m) j) c.ms.length) c.ps.length:=by
  refine JG fun j hj=>?_
  rw [←Mk]
  unfold Hy E9 FQ
  rw [List.getElem?_eq_getElem hj]
  simp -implicitDefEqProofs only []
  obtain ⟨k1,k2⟩:=hme _ (List.getElem_mem hj)
  generalize c.ps[j]=x at *
  by_cases hw:Eu d x.f x.t
  ·rw [if_pos hw]
   have:sg (fun m:Nat=>(if x.me=(m:Int)∧Eu d x.f x.t then pv x 0 else 0)+(if x.me=(m:Int)∧Eu d x.f x.t then pv x (bq b m)-pv x 0 else 0)) c.ms.length=sg (fun m:Nat=>if m=x.me.toNat then pv x (bq b x.me) else 0) c.ms.length:=by
    refine JG fun m hm=>?_
    by_cases e:x.me=(m:Int)
    ·rw [if_pos ⟨e,hw⟩,if_pos ⟨e,hw⟩,if_pos (by omega),←e]; omega
    ·rw [if_neg (fun k=>e k.1),if_neg (fun k=>e k.1),if_neg (by omega)]; rfl
   rw [this,SH,if_pos (by omega)]
  ·rw [if_neg hw]
   have h0:sg (fun m:Nat=>(if x.me=(m:Int)∧Eu d x.f x.t then pv x 0 else 0)+(if x.me=(m:Int)∧Eu d x.f x.t then pv x (bq b m)-pv x 0 else 0)) c.ms.length=sg (fun _=>0) c.ms.length:=JG fun m hm=>by
    rw [if_neg (fun k=>hw k.2),if_neg (fun k=>hw k.2)]; rfl
   rw [h0,L1]
 rw [h3,Mk,←h1,←h2]
 omega
theorem Td {n:Nat} {m:Nat}:bq (List.replicate n 0) (m:Int)=0:=by
 unfold bq
 rw [Int.toNat_natCast,List.getD_eq_getElem?_getD,List.getElem?_replicate]
 split <;> rfl
theorem ALZ {c:CoreX} (hme:∀x∈c.ps,0≤x.me∧x.me<(c.ms.length:Int)) (d:Int) (n:Nat):QD c d (List.replicate n 0)=JM c d:=by
 rw [AXG hme,show sg (fun m:Nat=>Ii c d m (bq (List.replicate n 0) m)) c.ms.length=sg (fun _=>0) c.ms.length from JG fun m _=>by rw [Td,AF4],L1]
 omega
theorem RM {c:CoreX} (hf:fitsC c) {d:Int} {b:List Int} (hb:Om c b) (j:Nat):0≤Hy c.ps d b j∧Hy c.ps d b j≤HP c j:=by
 have hp:=MG (c:=c) j
 unfold HP at *
 unfold Hy
 cases e:c.ps[j]? with
 | none=>exact ⟨Int.le_refl _,Int.le_refl _⟩
 | some x =>
  have hx:=List.mem_of_getElem? e
  rw [e] at hp
  simp -implicitDefEqProofs only [] at hp ⊢
  split
  ·obtain ⟨m1,m2⟩:=(fitsC.bnd hf.good).me _ hx
   obtain ⟨hb1,hb2⟩:=hb
   have hm:x.me.toNat<c.ms.length:=by omega
   have hq:=hb2 x.me.toNat (by omega) hm
   have hbq:bq b x.me=b[x.me.toNat]:=by unfold bq; rw [List.getD_eq_getElem?_getD,List.getElem?_eq_getElem (by omega),Option.getD_some]
   have hmx:EX c.ms x.me=c.ms[x.me.toNat].mx:=by unfold EX; rw [List.getElem?_eq_getElem hm]
   obtain ⟨k1,k2,k3,k4⟩:=JD hf hx (q:=bq b x.me) (by omega) (by omega)
   omega
  ·omega
theorem Rl {a i:Nat} (ha:a<65536) (hi:i<16):decide (H9 .u64 (a:Int) ((2 ^ i:Nat):Int)=((2 ^ i:Nat):Int))=a.testBit i:=by
 have hp:2 ^ i<65536:=by
  calc 2 ^ i<2 ^ 16:=Nat.pow_lt_pow_right (by decide) hi
   _=65536:=rfl
 rw [ABf (by omega) (by omega),Bool.eq_iff_iff,decide_eq_true_eq]
 constructor
 ·intro h
  have h:a &&& 2 ^ i=2 ^ i:=by omega
  have h2:=congrArg (fun n=>n.testBit i) h
  simp -implicitDefEqProofs only [Nat.testBit_and,OO,decide_true,Bool.and_true] at h2
  exact h2
 ·intro h
  have:a &&& 2 ^ i=2 ^ i:=by
   refine Nat.eq_of_testBit_eq fun k=>?_
   rw [Nat.testBit_and,OO]
   by_cases e:k=i
   ·subst e; rw [h,decide_eq_true rfl]; rfl
   ·rw [decide_eq_false e,Bool.and_false]
  omega
theorem ABA {c:CoreX} {d:Int} {j:Nat} (h8:c.ss.length≤8) (hlt:FL c d<65536) (hj:j<c.ss.length):decide (H9 .u64 ((FL c d:Nat):Int) ((Gh (j:Int):Nat):Int)=((Gh (j:Int):Nat):Int))=decide (Eu d c.ss[j].f c.ss[j].t):=by
 have e:Gh (j:Int)=2 ^ j:=by unfold Gh; rw [if_pos (by omega)]; simp
 rw [e,Rl hlt (by omega)]
 rw [Bool.eq_iff_iff,decide_eq_true_eq]
 exact OR h8 hj
theorem AWA {c:CoreX} {d:Int} {j:Nat} (h8:c.ss.length≤8) (hp8:c.ps.length≤8) (hlt:FL c d<65536) (hj:j<c.ps.length):decide (H9 .u64 ((FL c d:Nat):Int) ((HL (j:Int):Nat):Int)=((HL (j:Int):Nat):Int))=decide (Eu d c.ps[j].f c.ps[j].t):=by
 have e:HL (j:Int)=2 ^ (8+j):=by unfold HL; rw [if_pos (by omega),Nat.pow_add]; simp
 rw [e,Rl hlt (by omega)]
 rw [Bool.eq_iff_iff,decide_eq_true_eq]
 exact PJ h8 hj
def FY (c:CoreX) (d:Int) (m:Nat) (mx:Int) (i:Nat):List Int:=(List.range (mx+1).toNat).map fun q:Nat=>sg (FQ c.ps d m q) i
def CC (c:CoreX) (d:Int) (i:Nat):List (List Int):=(List.range c.ms.length).map fun m=>FY c d m (match c.ms[m]? with | some x=>x.mx | none=>0) i
theorem IG {c:CoreX} {d:Int} {i:Nat}:(CC c d i).length=c.ms.length:=by simp [CC]
theorem NR {c:CoreX} {d:Int} {m i:Nat} (hm:m<c.ms.length):(CC c d i)[m]'(by rw [IG]; exact hm)=FY c d m c.ms[m].mx i:=by
 simp -implicitDefEqProofs only [CC,List.getElem_map,List.getElem_range]
 rw [List.getElem?_eq_getElem hm]
theorem AFS {c:CoreX} {d:Int} {m:Nat} {mx:Int}:FY c d m mx 0=List.replicate (mx+1).toNat 0:=by
 refine List.ext_getElem (by simp [FY]) fun i h1 h2=>by simp [FY,sg]
theorem OW {c:CoreX} {d:Int}:CC c d c.ps.length=Eh c d c.ms.length:=rfl
theorem UM {c:CoreX} (h:fitsC c) (d:Int) {m i:Nat} (hm:m<c.ms.length) (hi:i≤c.ps.length):BG (FY c d m c.ms[m].mx i):=by
 have hb:=(fitsC.bnd h.good).mx m hm
 refine ⟨fun e=>?_,by simp -implicitDefEqProofs only [FY,List.length_map,List.length_range]; omega,fun v hv=>?_⟩
 ·have:=congrArg List.length e
  simp -implicitDefEqProofs only [FY,List.length_map,List.length_range,List.length_nil] at this
  omega
 ·obtain ⟨q,hq,rfl⟩:=List.mem_map.1 hv
  have hq:=List.mem_range.1 hq
  have:=Qe h d hm (q:=q) (by omega) (by omega) hi
  unfold E1
  omega
theorem AIv {c:CoreX} {d:Int} {m i:Nat} {mx:Int} (hi:i<c.ps.length) (hm:c.ps[i].me=m) (hw:Eu d c.ps[i].f c.ps[i].t):List.zipWith (fun u v=>u+v) (FY c d m mx i) (Gd c.ps[i] mx)=FY c d m mx (i+1):=by
 refine List.ext_getElem (by simp [FY,Gd]) fun q h1 h2=>?_
 simp -implicitDefEqProofs only [List.getElem_zipWith,FY,Gd,List.getElem_map,List.getElem_range,sg]
 unfold FQ
 rw [List.getElem?_eq_getElem hi]
 simp -implicitDefEqProofs only []
 rw [if_pos ⟨hm,hw⟩]
theorem SN {c:CoreX} {d:Int} {m i:Nat} {mx:Int} (hi:i<c.ps.length) (h:¬(c.ps[i].me=m∧Eu d c.ps[i].f c.ps[i].t)):FY c d m mx (i+1)=FY c d m mx i:=by
 unfold FY
 refine List.map_congr_left fun q _=>?_
 rw [sg]
 have:FQ c.ps d m q i=0:=by
  unfold FQ
  rw [List.getElem?_eq_getElem hi]
  simp -implicitDefEqProofs only []
  rw [if_neg h]
 omega
theorem AUJ {c:CoreX} {d:Int} {i:Nat} (hi:i<c.ps.length) (h:¬Eu d c.ps[i].f c.ps[i].t):CC c d (i+1)=CC c d i:=by
 unfold CC
 exact List.map_congr_left fun m _=>SN hi (fun e=>h e.2)
theorem AHm {c:CoreX} {d:Int} {m i:Nat} (hi:i<c.ps.length) (hml:m<c.ms.length) (hm:c.ps[i].me=m):CC c d (i+1)=(CC c d i).set m (FY c d m c.ms[m].mx (i+1)):=by
 refine List.ext_getElem (by rw [List.length_set,IG,IG]) fun k h1 h2=>?_
 rw [IG] at h1
 rw [NR h1,List.getElem_set]
 by_cases e:m=k
 ·subst e
  rw [if_pos rfl]
 ·rw [if_neg e,NR h1]
  exact SN hi (fun e2=>e (by have:=e2.1; omega))
def Fy (c:CoreX) (d:Int) (i:Nat):Int:=FZ c d+sg (Hy c.ps d (List.replicate c.ms.length 0)) i
theorem AOk {c:CoreX} (hg:goodC c) {d:Int}:Fy c d c.ps.length=JM c d:=ALZ (fitsC.bnd hg).me d c.ms.length
theorem ABK {c:CoreX} {d:Int} {i:Nat} (hi:i<c.ps.length) (hme:0≤c.ps[i].me) (hw:Eu d c.ps[i].f c.ps[i].t):Fy c d (i+1)=Fy c d i+pv c.ps[i] 0:=by
 unfold Fy
 rw [sg]
 have:Hy c.ps d (List.replicate c.ms.length 0) i=pv c.ps[i] 0:=by
  unfold Hy
  rw [List.getElem?_eq_getElem hi]
  simp -implicitDefEqProofs only []
  obtain ⟨k,hk⟩:=Int.eq_ofNat_of_zero_le hme
  rw [if_pos hw,hk,Td]
 omega
theorem ANS {c:CoreX} {d:Int} {i:Nat} (hi:i<c.ps.length) (hw:¬Eu d c.ps[i].f c.ps[i].t):Fy c d (i+1)=Fy c d i:=by
 unfold Fy
 rw [sg]
 have:Hy c.ps d (List.replicate c.ms.length 0) i=0:=by
  unfold Hy
  rw [List.getElem?_eq_getElem hi]
  simp -implicitDefEqProofs only []
  rw [if_neg hw]
 omega
def G6 (l:List Int):List D:=[.int .i64 ((l.length:Int)-1),.sl 5 (A0 (ER l))]
def Al (ls:List (List Int)):List (List D):=ls.map G6
abbrev Gm (ls:List (List Int)):AV:=.d (.sl 2 (Al ls))
theorem GJ {ls:List (List Int)}:(Al ls).length=ls.length:=List.length_map ..
theorem LU {ls:List (List Int)} {i:Nat} (h:i<ls.length):(Al ls)[((i:Int)).toNat]? = some [.int .i64 ((ls[i].length:Int)-1),.sl 5 (A0 (ER ls[i]))]:=by
 rw [Int.toNat_natCast]; simp [Al,h,G6]
theorem AL3 {ls:List (List Int)} {l:List Int}:Al ls++[[.int .i64 ((l.length:Int)-1),.sl 5 (A0 (ER l))]]=Al (ls++[l]):=by simp [Al,G6]
def Jh (s:Seg Ei):List D:=[.int .i64 s.f,.int .i64 s.t,.int .i64 s.v.1,.sl 2 (Al s.v.2)]
def Aq (S:List (Seg Ei)):List (List D):=S.map Jh
abbrev J0 (s:Seg Ei):AV:=.agg [i64 s.f,i64 s.t,i64 s.v.1,Gm s.v.2]
abbrev JW (S:List (Seg Ei)):AV:=.d (.sl 4 (Aq S))
theorem IL {S:List (Seg Ei)}:(Aq S).length=S.length:=List.length_map ..
theorem OD {S:List (Seg Ei)} {i:Nat} (h:i<S.length):(Aq S)[((i:Int)).toNat]? = some [.int .i64 S[i].f,.int .i64 S[i].t,.int .i64 S[i].v.1,.sl 2 (Al S[i].v.2)]:=by
 rw [Int.toNat_natCast]; simp [Aq,h,Jh]
theorem Mn {S:List (Seg Ei)} {i:Nat} {s:Seg Ei} (h:S[i]? = some s):(Aq S)[i]? = some [.int .i64 s.f,.int .i64 s.t,.int .i64 s.v.1,.sl 2 (Al s.v.2)]:=by
 simp [Aq,h,Jh]
theorem Ox {A:List (Seg Ei)} {s:Seg Ei} {x:Int}:(Aq (A++[s])).set A.length [.int .i64 s.f,.int .i64 x,.int .i64 s.v.1,.sl 2 (Al s.v.2)]=Aq (A++[⟨s.f,x,s.v⟩]):=by
 simp [Aq,Jh,List.set_append]
abbrev Iz (cur:ByteArray) (f t:Int) (ms:List MeterX) (S:List (Seg Ei)):AV:=.agg [.d (.str cur),i64 f,i64 t,.d (.sl 5 (BV ms)),JW S]
theorem SR {H:Heap} {f t x:Int} {v:AV} {ls:List (List Int)} (h:LendV H v (Gm ls)):LendV H (.agg [i64 f,i64 t,i64 x,v]) (.agg [i64 f,i64 t,i64 x,Gm ls]):=by
 refine .agg _ _ rfl fun j u v e1 e2=>?_
 match j with
 | 0=>cases e1; cases e2; exact .refl _
 | 1=>cases e1; cases e2; exact .refl _
 | 2=>cases e1; cases e2; exact .refl _
 | 3=>cases e1; cases e2; exact h
 | j+4=>cases e1
theorem Tm {H:Heap} {cur:ByteArray} {f t:Int} {v w:AV} {ms:List MeterX} {S:List (Seg Ei)} (h:LendV H v (.d (.sl 5 (BV ms)))) (h2:LendV H w (JW S)):LendV H (.agg [.d (.str cur),i64 f,i64 t,v,w]) (Iz cur f t ms S):=by
 refine .agg _ _ rfl fun j u v e1 e2=>?_
 match j with
 | 0=>cases e1; cases e2; exact .refl _
 | 1=>cases e1; cases e2; exact .refl _
 | 2=>cases e1; cases e2; exact .refl _
 | 3=>cases e1; cases e2; exact h
 | 4=>cases e1; cases e2; exact h2
 | j+5=>cases e1
theorem ATV {a b:List Int} (hl:a.length=b.length) (h:ER a=ER b):a=b:=by
 refine List.ext_getElem hl fun i h1 h2=>?_
 have e1:=PI h1
 have e2:=PI h2
 rw [h,e2] at e1
 exact (Option.some.inj e1).symm
theorem Te {a b:List Int}:((a.length:Int)-1=(b.length:Int)-1∧ER a=ER b)↔a=b :=
 ⟨fun h=>ATV (by omega) h.2,fun h=>by rw [h]; exact ⟨rfl,rfl⟩⟩
noncomputable def HK (c:CoreX):List (Seg Ei):=LP (Fe (En c) ((HO c).map (·.f)) (HO c).length) c.t
theorem Nf {c:CoreX} (hg:goodC c):FwdB (En c) c.f (c.t+1) (HK c):=by
 obtain ⟨_,⟨a3,_⟩,_,_,h8,_⟩:=hg.hd
 have:=YH (LR a3) (by omega) (Nw h8)
 rwa [show c.t+1-1=c.t by omega] at this
theorem Qr {H:Heap} {b6 b7:Nat} {f t fx n:Int} {cv:AV} {ok:Bool} (hne:¬b6=b7) (h6:H b6=some (.box 47 [i64 f,i64 t,i64 fx,cv])) (h7:H b7=some (.box 4 [bv ok])) (hx:Fit fx) (hn:Fit n) (hs:Fit (fx+n)):CallW Tryz.prog I9 [i64 n,.ptr b6 0,.ptr b7 0] H fun r H'=>H'=upd (upd H b6 (some (.box 47 [i64 f,i64 t,i64 (fx+n),cv]))) b7 (some (.box 4 [bv ok])):=by
 have ha:=KX hx hn
 rw [Gl hs] at ha
 have hne':¬b7=b6:=fun e=>hne e.symm
 refine AZ Tc (by simp) ?_
 simp -implicitDefEqProofs -proj only [go_sem,seval,h6]
 refine AK ha ?_
 cases ok
 ·simp -implicitDefEqProofs -proj only [go_sem,seval,h6,h7,hne,hne']
 ·simp -implicitDefEqProofs -proj only [go_sem,seval,h6,h7,hne,hne']
abbrev FH (c:CoreX):List (List Int):=c.ps.map fun x=>Gd x (EX c.ms x.me)
abbrev FM (c:CoreX):List Int:=c.ps.map fun x=>pv x 0
abbrev Im (c:CoreX) (kv bvs:AV):List AV:=[.d (.str c.cur),i64 c.f,i64 c.t,.d (.sl 5 (BV c.ms)),.d (.sl 3 (Ey c.ss)),.d (.sl 9 (Ea c.ps)),kv,bvs]
def GV (bm:Nat) (c:CoreX) (k1 p1 k2 p2:Nat):List (Nat×Blk):=(bm,.box 68 (Im c (As 2 2 k1 p1 (Al (FH c))) (As 1 1 k2 p2 (AU (FM c)))))::(Ah 51 2 k1 p1 (Al (FH c))++Ah 3 1 k2 p2 (AU (FM c)))
structure SpnX where
 i:Nat
 k:Nat
 cap:Nat
theorem GF {i c cap:Nat}:(SpnX.mk i c cap).i=i:=(rfl)
theorem Hm {i c cap:Nat}:(SpnX.mk i c cap).k=c:=(rfl)
theorem Ho {i c cap:Nat}:(SpnX.mk i c cap).cap=cap:=(rfl)
abbrev Ge (b6 k cap:Nat) (f t fx:Int) (L:List (List Int)):Blk:=.box 47 [i64 f,i64 t,i64 fx,As 2 2 k cap (Al L)]
theorem Fl {H:Heap} {b:Nat} {x x':Blk}:∀{A B:List (Nat×Blk)},AS H (A++(b,x)::B)→(AN (A++(b,x)::B)).Nodup→AS (upd H b (some x')) (A++(b,x')::B)
 | [],B,h,hn=>PU h hn
 | (k,y)::A,B,h,hn=>by
  simp -implicitDefEqProofs only [List.cons_append,AN,List.map_cons,List.nodup_cons,List.map_append,List.mem_append,List.mem_cons,not_or] at hn
  have hk:¬b=k:=fun e=>hn.1.2.1 e.symm
  refine ⟨by rw [AD hk]; exact h.1,Fl h.2 (by simpa only [AN,List.map_append,List.map_cons] using hn.2)⟩
theorem AT1 {c:CoreX} (hf:fitsC c) {x:PartX} (hx:x∈c.ps):BG (Gd x (EX c.ms x.me)):=by
 have h0:=JD hf hx (Int.le_refl 0) (Ma hf.good hx)
 have hm:=Ma hf.good hx
 obtain ⟨m1,m2⟩:=(fitsC.bnd hf.good).me x hx
 have hmi:x.me.toNat<c.ms.length:=by omega
 have hmx:=(fitsC.bnd hf.good).mx x.me.toNat hmi
 have hmxe:EX c.ms x.me=c.ms[x.me.toNat].mx:=by unfold EX; rw [List.getElem?_eq_getElem hmi]
 refine ⟨fun e=>?_,by simp -implicitDefEqProofs only [Gd,List.length_map,List.length_range]; omega,fun v hv=>?_⟩
 ·have:=congrArg List.length e
  simp -implicitDefEqProofs only [Gd,List.length_map,List.length_range,List.length_nil] at this
  omega
 ·obtain ⟨q,hq,rfl⟩:=List.mem_map.1 hv
  have hq:=List.mem_range.1 hq
  have hb:=JD hf hx (q:=(q:Int)) (by omega) (by omega)
  unfold E1
  omega
theorem OJ {P:Program} {Q:Out→St→Prop} {k:List Item} {s:St} {d:Option Nat} {l:List AO} {x y:D} {b sz i j cap:Nat} {t:TypeId} {xs:List (List D)} {el:List D} (hb:s.H b=some (.row t sz cap xs)) (h:xs[i]? = some el) (hj:j+1<el.length) (hk:AY P Q l k (AM s d .void (upd s.H b (some (.row t sz cap (xs.set i (F4 el j [x,y]))))))):Lf 2 (.agg [.d x,.d y]) b sz i j d l k s P Q:=by
 simp -implicitDefEqProofs only [Lf,FC,A6,BD,BE,hb]
 exact ⟨trivial,el,h,by omega,hk⟩
theorem AJC {c:CoreX} {i:Nat} (h:i<c.ps.length):(Al (FH c))[((i:Int)).toNat]? = some [.int .i64 (((Gd c.ps[i] (EX c.ms c.ps[i].me)).length:Int)-1),.sl 5 (A0 (ER (Gd c.ps[i] (EX c.ms c.ps[i].me))))]:=by
 have:=LU (ls:=FH c) (i:=i) (by simpa using h)
 rw [this]
 simp -implicitDefEqProofs only [FH,List.getElem_map]
theorem APg {c:CoreX} {i:Nat} (h:i<c.ps.length):(AU (FM c))[((i:Int)).toNat]? = some [.int .i64 (pv c.ps[i] 0)]:=by
 refine KF ?_
 simp -implicitDefEqProofs only [FM]
 rw [List.getElem?_map,Int.toNat_natCast,List.getElem?_eq_getElem h]
 rfl
theorem TT {c:CoreX} (hf:fitsC c) (d:Int) {i:Nat} (hi:i≤c.ps.length) : -2305843009213693952≤Fy c d i∧Fy c d i≤2305843009213693952:=by
 obtain ⟨⟨g1,g2⟩,⟨g3,g4⟩,g5,g6,g7,g8⟩:=hf.good.hd
 have hb:Om c (List.replicate c.ms.length 0):=by
  refine ⟨by simp,fun m h1 h2=>?_⟩
  have:=(fitsC.bnd hf.good).mx m (by simpa using h1)
  simp -implicitDefEqProofs only [List.getElem_replicate]
  omega
 have h1:=LK hf.good d (Nat.le_refl c.ss.length)
 have h2:sg (Hy c.ps d (List.replicate c.ms.length 0)) i≤sg (HP c) i:=LI fun j _=>(RM hf hb j).2
 have h3:0≤sg (Hy c.ps d (List.replicate c.ms.length 0)) i:=K5 fun j _=>(RM hf hb j).1
 have h4:=P4 hf hi
 unfold Fy FZ
 omega
def GQ (b3 b4 b6 b7 k cap:Nat) (f t fx:Int) (s:Int) (L:List (List Int)) (mk:List (Nat×Blk)):List (Nat×Blk) :=
 Ah 51 2 k cap (Al L)++((b7,.box 4 [bv true])::(b6,Ge b6 k cap f t fx L)::(b4,.box 47 [i64 0,i64 0,i64 0,.nilsl 2])::(b3,.box 82 [i64 f,i64 t,u64 s])::mk)
set_option maxRecDepth 20000 in
set_option maxHeartbeats 4000000 in
theorem AQS {c:CoreX} {bm k1 p1 k2 p2:Nat} {f t:Int} {d:Int} (hc:c.Fit) (hf:fitsC c) (h8:c.ss.length≤8) (hp8:c.ps.length≤8) (h16:FL c d<65536) (hnm:(AN (GV bm c k1 p1 k2 p2)).Nodup) :
  CallW Tryz.prog Sx [.ptr bm 0,.agg [i64 f,i64 t,u64 ((FL c d:Nat):Int)]] (Ad (GV bm c k1 p1 k2 p2)) fun r H'=>∃k cap,r = .tup [.agg [i64 f,i64 t,i64 (JM c d),As 2 2 k cap (Al (Eh c d c.ms.length))],bv true]∧(∃rest,AS H' (Ah 51 2 k cap (Al (Eh c d c.ms.length))++rest++GV bm c k1 p1 k2 p2)∧(AN (Ah 51 2 k cap (Al (Eh c d c.ms.length))++rest++GV bm c k1 p1 k2 p2)).Nodup):=by
 obtain ⟨⟨g1,g2⟩,⟨g3,g4⟩,g5,g6,g7,g8⟩:=hf.good.hd
 have hmk:=EQ hnm
 obtain ⟨mk,hmkd⟩:∃mk,GV bm c k1 p1 k2 p2=mk:=⟨_,rfl⟩
 have hbm:∀{H:Heap},AS H mk→H bm=some (.box 68 (Im c (As 2 2 k1 p1 (Al (FH c))) (As 1 1 k2 p2 (AU (FM c))))):=fun h=>by rw [←hmkd] at h; exact h.1
 rw [hmkd] at hmk hnm ⊢
 obtain ⟨H0,hH0⟩:∃H0,Ad mk=H0:=⟨_,rfl⟩
 rw [hH0] at hmk ⊢
 obtain ⟨sv,hsv⟩:∃sv:Int,((FL c d:Nat):Int)=sv:=⟨_,rfl⟩
 rw [hsv]
 refine AZ S6 (by simp) ?_
 simp -implicitDefEqProofs -proj only [go_sem,seval]
 refine AI (fun b3 hb3=>?_)
 have a3:=GE (x:=.box 82 [i64 f,i64 t,u64 sv]) hb3 hmk
 have e3:=GR (x:=.box 82 [i64 f,i64 t,u64 sv]) hb3 hmk hnm
 simp -implicitDefEqProofs -proj only [go_sem,seval]
 refine AI (fun b4 hb4=>?_)
 have a4:=GE (x:=.box 47 [i64 0,i64 0,i64 0,.nilsl 2]) hb4 a3
 have e4:=GR (x:=.box 47 [i64 0,i64 0,i64 0,.nilsl 2]) hb4 a3 e3
 replace hb4:upd H0 b3 _ b4=none:=hb4
 obtain ⟨n1,n2⟩:=AG hb4 AP
 simp -implicitDefEqProofs -proj only [go_sem,seval,n1,n2]
 refine AI (fun b6 hb6=>?_)
 replace hb6:upd (upd H0 b3 _) b4 _ b6=none:=hb6
 obtain ⟨n3,n4⟩:=AG hb6 AP
 obtain ⟨n5,n6⟩:=AG hb6 (by rw [AD n1]; exact AP)
 simp -implicitDefEqProofs -proj only [go_sem,seval,n1,n2,n3,n4,n5,n6]
 have a6:=GE (x:=Ge b6 0 0 f t 0 []) hb6 a4
 have e6:=GR (x:=Ge b6 0 0 f t 0 []) hb6 a4 e4
 refine AI (fun b7 hb7=>?_)
 replace hb7:upd (upd (upd H0 b3 _) b4 _) b6 _ b7=none:=hb7
 have a7:=GE (x:=.box 4 [bv true]) hb7 a6
 have e7:=GR (x:=.box 4 [bv true]) hb7 a6 e6
 obtain ⟨n7,n8⟩:=AG hb7 AP
 obtain ⟨n9,n10⟩:=AG hb7 (by rw [AD n3]; exact AP)
 obtain ⟨n11,n12⟩:=AG hb7 (by rw [AD n5,AD n1]; exact AP)
 have hbm7:=hbm a7.2.2.2.2
 simp -implicitDefEqProofs only [AX] at hbm7
 simp -implicitDefEqProofs -proj only [go_sem,seval,n1,n2,n3,n4,n5,n6,n7,n8,n9,n10,n11,n12,hbm7,FO]
 refine BJ (fun y:SpnX=>y.i≤c.ms.length∧(AN (GQ b3 b4 b6 b7 y.k y.cap f t 0 sv ((CC c d 0).take y.i) mk)).Nodup) 125 (fun y=>[(0,.ptr bm 0),(3,.ptr b3 0),(4,.ptr b4 0),(6,.ptr b6 0),(7,.ptr b7 0),(8,.fn I9 [.ptr b6 0,.ptr b7 0]),(29,.d (.sl 5 (BV c.ms))),(30,i64 c.ms.length),(31,i64 y.i)]) (fun y=>GQ b3 b4 b6 b7 y.k y.cap f t 0 sv ((CC c d 0).take y.i) mk) (fun y=>c.ms.length-y.i) ⟨0,0,0⟩ ⟨Nat.zero_le _,e7⟩ rfl ?_ ?_ ?_
 ·simp -implicitDefEqProofs -proj only [go_sem,seval,AL,GF]
  try rfl
 ·have a7':AS _ (GQ b3 b4 b6 b7 0 0 f t 0 sv [] mk):=a7
  exact a7'
 rintro ⟨i,k,cap⟩ ⟨hi,hnd⟩
 simp -implicitDefEqProofs only [GF] at hi
 have hall:=EQ hnd
 obtain ⟨H,hH⟩:∃H,Ad (GQ b3 b4 b6 b7 k cap f t 0 sv ((CC c d 0).take i) mk)=H:=⟨_,rfl⟩
 simp -implicitDefEqProofs only [GF,Hm,Ho] at hall hnd
 rw [hH] at hall
 simp -implicitDefEqProofs only [GQ] at hall hnd
 obtain ⟨hrow,h7,h6,h4,h3,hmkH⟩:=Ar.1 hall
 have hbmH:=hbm hmkH
 by_cases hlt:i<c.ms.length
 ·have hmx:=(fitsC.bnd hf.good).mx i hlt
  have hel:=G8 hlt
  have hfl:=SL (n:=(c.ms[i].mx+1).toNat) (v:=0) (by omega) (by omega) (by decide)
  rw [show (((c.ms[i].mx+1).toNat:Nat):Int)-1=c.ms[i].mx by omega,←AFS (c:=c) (d:=d) (m:=i)] at hfl
  have htk:(CC c d 0).take (i+1)=(CC c d 0).take i++[FY c d i c.ms[i].mx 0]:=by
   rw [List.take_succ_eq_append_getElem (by rw [IG]; exact hlt),NR hlt]
  have hl1:(Al ((CC c d 0).take i)).length=i:=by rw [GJ,List.length_take,IG]; omega
  generalize FY c d i c.ms[i].mx 0=lq at *
  generalize c.ms[i]=m at *
  simp -implicitDefEqProofs -proj only [go_sem,seval,GF,Hm,Ho,hH,decide_eq_true (show (i:Int)<c.ms.length by omega)]
  refine Ai _ (by omega) hel ?_
  simp -implicitDefEqProofs -proj only [go_sem,seval]
  refine AI (fun b10 hb10=>?_)
  replace hb10:H b10=none:=hb10
  have all10:=fun y=>Aj (y:=y) hb10 hall
  obtain ⟨y1,y2⟩:=AG hb10 h6
  simp -implicitDefEqProofs -proj only [go_sem,seval,y1,y2]
  refine AK hfl ?_
  simp -implicitDefEqProofs -proj only [go_sem,seval,y1,y2]
  refine AI (fun b11 hb11=>?_)
  simp -implicitDefEqProofs only [AX] at hb11
  have z1:¬b10=b11:=fun e=>by subst e; simp at hb11
  have z2:¬b11=b10:=fun e=>z1 e.symm
  have hb11':H b11=none:=by simpa only [z1,↓reduceIte] using hb11
  obtain ⟨y3,y4⟩:=AG hb11' h6
  simp -implicitDefEqProofs -proj only [go_sem,seval,y1,y2,y3,y4,z1,z2,h6]
  refine Ao (fun bs hs=>?_)
  simp -implicitDefEqProofs only [AX,y1,y2,y3,y4,z1,z2] at hs
  have z3:¬b10=bs:=fun e=>by subst e; simp [z1,z2] at hs
  have z4:¬b11=bs:=fun e=>by subst e; simp [z1,z2] at hs
  have hbs':H bs=none:=by simpa only [z3,z4,↓reduceIte] using hs
  simp -implicitDefEqProofs -proj only [go_sem,seval,y1,y2,y3,y4,z1,z2,z3,z4]
  have hA:∀X Y Z,AS (upd (upd (upd H b10 X) b11 Y) bs Z) (Ah 51 2 k cap (Al ((CC c d 0).take i))++((b7,.box 4 [bv true])::(b6,Ge b6 k cap f t 0 ((CC c d 0).take i))::(b4,.box 47 [i64 0,i64 0,i64 0,.nilsl 2])::(b3,.box 82 [i64 f,i64 t,u64 sv])::mk)):=fun X Y Z =>
   Aj (by rw [AD z4,AD z3]; exact hbs') (Aj (by rw [AD z1]; exact hb11') (Aj hb10 hall))
  refine FB (xs:=Al ((CC c d 0).take i)) (y:=G6 lq) (t:=51) (capc:=1) ((b7,.box 4 [bv true])::(b6,Ge b6 k cap f t 0 ((CC c d 0).take i))::(b4,.box 47 [i64 0,i64 0,i64 0,.nilsl 2])::(b3,.box 82 [i64 f,i64 t,u64 sv])::mk) rfl (hA _ _ _) hnd (by simp -implicitDefEqProofs -proj only [go_sem,seval]; rfl) (by rw [hl1]; omega) (by rw [hl1]; omega) (fun H' c' cap' ha hk=>?_)
  rw [show Al ((CC c d 0).take i)++[G6 lq]=Al ((CC c d 0).take (i+1)) by rw [htk]; simp [Al]] at ha hk
  have hne2:Al ((CC c d 0).take (i+1))≠[]:=by rw [htk]; simp [Al]
  have hl2:(Al ((CC c d 0).take (i+1))).length=i+1:=by rw [GJ,List.length_take,IG]; omega
  have h6':H' b6=some (Ge b6 k cap f t 0 ((CC c d 0).take i)):=(Ar.1 ha).2.2.1
  simp -implicitDefEqProofs -proj only [go_sem,seval,h6']
  have hup:=Fl (A:=Ah 51 2 c' cap' (Al ((CC c d 0).take (i+1)))++[(b7,.box 4 [bv true])]) (b:=b6) (x:=Ge b6 k cap f t 0 ((CC c d 0).take i)) (x':=Ge b6 c' cap' f t 0 ((CC c d 0).take (i+1))) (B:=(b4,.box 47 [i64 0,i64 0,i64 0,.nilsl 2])::(b3,.box 82 [i64 f,i64 t,u64 sv])::mk) (by simpa only [List.append_assoc,List.cons_append,List.nil_append] using ha) (by simpa only [List.append_assoc,List.cons_append,List.nil_append] using hk)
  refine Ac ⟨i+1,c',cap'⟩ ⟨by show i+1≤c.ms.length; omega,?_⟩ (by show c.ms.length-(i+1)<c.ms.length-i; omega) rfl ?_ ?_
  ·simpa only [GQ,AN,GF,Hm,Ho,List.map_append,List.map_cons,List.map_nil] using hk
  ·simp -implicitDefEqProofs -proj only [go_sem,seval,AL,GF,Hm,Ho,AR (show i<9223372036854775807 by omega)]
  ·simpa only [GQ,GF,Hm,Ho,List.append_assoc,List.cons_append,List.nil_append,Ge,EM hne2,hl2,hl1] using hup
 have hi':i=c.ms.length:=by omega
 subst hi'
 have hL0:(CC c d 0).take c.ms.length=CC c d 0:=List.take_of_length_le (by rw [IG]; exact Nat.le_refl _)
 clear hlt hi
 simp -implicitDefEqProofs -proj only [go_sem,seval,GF,Hm,Ho,hH,decide_eq_false (show ¬(c.ms.length:Int)<c.ms.length by omega),hbmH,Fr]
 rw [hL0] at hall hnd hrow h6
 refine BJ (fun i:Nat=>i≤c.ss.length) 125 (fun i=>[(0,.ptr bm 0),(3,.ptr b3 0),(4,.ptr b4 0),(6,.ptr b6 0),(7,.ptr b7 0),(8,.fn I9 [.ptr b6 0,.ptr b7 0]),(52,.d (.sl 3 (Ey c.ss))),(53,i64 c.ss.length),(54,i64 i)]) (fun i=>GQ b3 b4 b6 b7 k cap f t (sg (Fk c.ss d) i) sv (CC c d 0) mk) (fun i=>c.ss.length-i) 0 (Nat.zero_le _) rfl ?_ ?_ ?_
 ·simp -implicitDefEqProofs -proj only [go_sem,seval,AL]
  try rfl
 ·exact hall
 intro i hi
 have hnd2:(AN (GQ b3 b4 b6 b7 k cap f t (sg (Fk c.ss d) i) sv (CC c d 0) mk)).Nodup:=by simpa only [GQ,AN,List.map_append,List.map_cons] using hnd
 have hall2:=EQ hnd2
 clear hall hrow h7 h6 h4 h3 hmkH hbmH hH
 obtain ⟨H,hH⟩:∃H,Ad (GQ b3 b4 b6 b7 k cap f t (sg (Fk c.ss d) i) sv (CC c d 0) mk)=H:=⟨_,rfl⟩
 rw [hH] at hall2
 simp -implicitDefEqProofs only [GQ] at hall2 hnd2
 obtain ⟨hrow,h7,h6,h4,h3,hmkH⟩:=Ar.1 hall2
 have hbmH:=hbm hmkH
 by_cases hlt:i<c.ss.length
 ·have hel:=KM hlt
  have hsok:=(hf.good.ss _ (List.getElem_mem hlt)).1
  have hfs:=LK hf.good d (i:=i) (by omega)
  have hfs2:=LK hf.good d (i:=i+1) (by omega)
  have hsg:sg (Fk c.ss d) (i+1)=sg (Fk c.ss d) i+(if Eu d c.ss[i].f c.ss[i].t then c.ss[i].a else 0):=by
   rw [sg]
   have:Fk c.ss d i=if Eu d c.ss[i].f c.ss[i].t then c.ss[i].a else 0:=by
    unfold Fk; rw [List.getElem?_eq_getElem hlt]
   rw [this]
  have hhas:=N0 (a:=sv) (b:=((Gh (i:Int):Nat):Int))
  rw [←hsv,ABA h8 h16 hlt,hsv] at hhas
  generalize c.ss[i]=m at *
  simp -implicitDefEqProofs -proj only [go_sem,seval,hH,decide_eq_true (show (i:Int)<c.ss.length by omega)]
  refine Ai _ (by omega) hel ?_
  simp -implicitDefEqProofs -proj only [go_sem,seval]
  refine AI (fun b14 hb14=>?_)
  replace hb14:H b14=none:=hb14
  obtain ⟨y1,y2⟩:=AG hb14 h6
  obtain ⟨y3,y4⟩:=AG hb14 h7
  obtain ⟨y5,y6⟩:=AG hb14 h3
  simp -implicitDefEqProofs -proj only [go_sem,seval,y1,y2,y3,y4,y5,y6,h3]
  refine Eb Pb ?_
  simp -implicitDefEqProofs -proj only [go_sem,seval]
  refine AK hhas ?_
  by_cases hw:Eu d m.f m.t
  ·rw [if_pos hw] at hsg
   simp -implicitDefEqProofs -proj only [go_sem,seval,decide_eq_true hw,y1,y2,y3,y4,y5,y6]
   refine Ek (Qr (f:=f) (t:=t) (fx:=sg (Fk c.ss d) i) (cv:=As 2 2 k cap (Al (CC c d 0))) (ok:=true) (fun e=>n7 e.symm) (by simp -implicitDefEqProofs -proj only [go_sem,seval,y1]; exact h6) (by simp -implicitDefEqProofs -proj only [go_sem,seval,y3]; exact h7) (by unfold Fit; omega) (by unfold Fit; omega) (by unfold Fit; omega)) (fun r H' hk=>?_)
   subst hk
   simp -implicitDefEqProofs -proj only [go_sem,seval]
   refine Ac (i+1) (by omega) (by omega) rfl ?_ ?_
   ·simp -implicitDefEqProofs -proj only [go_sem,seval,AL,AR (show i<9223372036854775807 by omega)]
   ·rw [hsg]
    have hA:=fun y=>Aj (y:=y) hb14 hall2
    have hB:=fun y=>Fl (A:=Ah 51 2 k cap (Al (CC c d 0))++[(b7,.box 4 [bv true])]) (b:=b6) (x':=Ge b6 k cap f t (sg (Fk c.ss d) i+m.a) (CC c d 0)) (by simpa only [List.append_assoc,List.cons_append,List.nil_append] using hA y) (by simpa only [List.append_assoc,List.cons_append,List.nil_append] using hnd2)
    have hC:=fun y=>Fl (A:=Ah 51 2 k cap (Al (CC c d 0))) (b:=b7) (x:=.box 4 [bv true]) (x':=.box 4 [bv true]) (by simpa only [List.append_assoc,List.cons_append,List.nil_append] using hB y) (by simpa only [List.append_assoc,List.cons_append,List.nil_append,AN,List.map_append,List.map_cons] using hnd2)
    exact hC _
  ·rw [if_neg hw,Int.add_zero] at hsg
   simp -implicitDefEqProofs -proj only [go_sem,seval,decide_eq_false hw,y1,y2,y3,y4,y5,y6]
   refine Ac (i+1) (by omega) (by omega) rfl ?_ ?_
   ·simp -implicitDefEqProofs -proj only [go_sem,seval,AL,AR (show i<9223372036854775807 by omega)]
   ·rw [hsg]
    exact Aj hb14 hall2
 have hi':i=c.ss.length:=by omega
 subst hi'
 clear hlt hi
 simp -implicitDefEqProofs -proj only [go_sem,seval,hH,decide_eq_false (show ¬(c.ss.length:Int)<c.ss.length by omega),hbmH,FR]
 refine BJ (fun y:SpnX=>y.i≤c.ps.length∧(AN (GQ b3 b4 b6 b7 y.k y.cap f t (Fy c d y.i) sv (CC c d y.i) mk)).Nodup) 125 (fun y=>[(0,.ptr bm 0),(3,.ptr b3 0),(4,.ptr b4 0),(6,.ptr b6 0),(7,.ptr b7 0),(8,.fn I9 [.ptr b6 0,.ptr b7 0]),(73,.d (.sl 9 (Ea c.ps))),(74,i64 c.ps.length),(75,i64 y.i)]) (fun y=>GQ b3 b4 b6 b7 y.k y.cap f t (Fy c d y.i) sv (CC c d y.i) mk) (fun y=>c.ps.length-y.i) ⟨0,k,cap⟩ ⟨Nat.zero_le _,?_⟩ rfl ?_ ?_ ?_
 ·simpa only [GQ,AN,List.map_append,List.map_cons] using hnd2
 ·simp -implicitDefEqProofs -proj only [go_sem,seval,AL,GF]
  try rfl
 ·have e0:Fy c d 0=sg (Fk c.ss d) c.ss.length:=by unfold Fy FZ; rw [sg]; omega
  simp -implicitDefEqProofs only [GF,Hm,Ho,e0]
  exact hall2
 clear hall2 hrow h7 h6 h4 h3 hmkH hbmH hH hnd hnd2
 rintro ⟨i,k',q'⟩ ⟨hi,hnd3⟩
 simp -implicitDefEqProofs only [GF] at hi
 have hall3:=EQ hnd3
 obtain ⟨H,hH⟩:∃H,Ad (GQ b3 b4 b6 b7 k' q' f t (Fy c d i) sv (CC c d i) mk)=H:=⟨_,rfl⟩
 simp -implicitDefEqProofs only [GF,Hm,Ho] at hall3 hnd3
 rw [hH] at hall3
 simp -implicitDefEqProofs only [GQ] at hall3 hnd3
 obtain ⟨hrow,h7,h6,h4,h3,hmkH⟩:=Ar.1 hall3
 have hbmH:=hbm hmkH
 by_cases hlt:i<c.ps.length
 ·have hel:=IV hlt
  have hpok:=hf.good.ps _ (List.getElem_mem hlt)
  have hme:=(fitsC.bnd hf.good).me _ (List.getElem_mem hlt)
  have hpb:=JD hf (List.getElem_mem hlt) (Int.le_refl 0) (Ma hf.good (List.getElem_mem hlt))
  have hhas:=N0 (a:=sv) (b:=((HL (i:Int):Nat):Int))
  rw [←hsv,AWA h8 hp8 h16 hlt,hsv] at hhas
  have hb3:=(AJC hlt)
  have hb2:=(APg hlt)
  have hcr:=AT1 hf (List.getElem_mem hlt)
  have hin:=fun hw=>ABK (d:=d) hlt hme.1 hw
  have hout:=fun hw=>ANS (d:=d) hlt hw
  have hdo:=fun hw=>AUJ (d:=d) hlt hw
  obtain ⟨m,hm⟩:∃m:Nat,c.ps[i].me=m:=⟨_,(Int.toNat_of_nonneg hme.1).symm⟩
  have hml:m<c.ms.length:=by omega
  have hdi:=AHm (d:=d) hlt hml hm
  have hzi:=fun hw=>AIv (d:=d) (mx:=c.ms[m].mx) hlt hm hw
  have hmxe:EX c.ms c.ps[i].me=c.ms[m].mx:=by rw [hm]; exact Px hml
  generalize c.ps[i]=x at *
  simp -implicitDefEqProofs -proj only [go_sem,seval,GF,Hm,Ho,hH,decide_eq_true (show (i:Int)<c.ps.length by omega)]
  refine Ai _ (by omega) hel ?_
  simp -implicitDefEqProofs -proj only [go_sem,seval]
  refine AI (fun b16 hb16=>?_)
  replace hb16:H b16=none:=hb16
  obtain ⟨y1,y2⟩:=AG hb16 h6
  obtain ⟨y3,y4⟩:=AG hb16 h7
  obtain ⟨y5,y6⟩:=AG hb16 h3
  obtain ⟨y7,y8⟩:=AG hb16 hbmH
  simp -implicitDefEqProofs -proj only [go_sem,seval,y1,y2,y3,y4,y5,y6,h3]
  refine Eb O1 ?_
  simp -implicitDefEqProofs -proj only [go_sem,seval]
  refine AK hhas ?_
  by_cases hw:Eu d x.f x.t
  ·have hneb:AU (FM c)≠[]:=by intro e; have:=congrArg List.length e; rw [rowI_len,List.length_nil,List.length_map] at this; omega
   have hner:Al (FH c)≠[]:=by intro e; have:=congrArg List.length e; rw [GJ,List.length_nil,List.length_map] at this; omega
   have hned:Al (CC c d i)≠[]:=by intro e; have:=congrArg List.length e; rw [GJ,List.length_nil,IG] at this; omega
   have hlb:(AU (FM c)).length=c.ps.length:=by rw [rowI_len,List.length_map]
   have hlr:(Al (FH c)).length=c.ps.length:=by rw [GJ,List.length_map]
   have hld:(Al (CC c d i)).length=c.ms.length:=by rw [GJ,IG]
   have hk2:H k2=some (.row 3 1 p2 (AU (FM c))):=by
    have h:=hmkH
    rw [←hmkd] at h
    have h:=(Ar.1 h.2).2
    rw [Ed hneb] at h
    exact h.1
   have hk1:H k1=some (.row 51 2 p1 (Al (FH c))):=by
    have h:=hmkH
    rw [←hmkd] at h
    have h:=(Ar.1 h.2).1
    rw [Ed hner] at h
    exact h.1
   have hk':H k'=some (.row 51 2 q' (Al (CC c d i))):=by
    have h:=hrow
    rw [Ed hned] at h
    exact h.1
   obtain ⟨w1,w2⟩:=AG hb16 hk2
   obtain ⟨w3,w4⟩:=AG hb16 hk1
   obtain ⟨w5,w6⟩:=AG hb16 hk'
   rw [EM hneb,EM hner] at hbmH
   rw [Int.toNat_natCast] at hb2 hb3
   simp -implicitDefEqProofs -proj only [go_sem,seval,decide_eq_true hw,y1,y2,y3,y4,y5,y6,y7,y8,hbmH,hlb]
   (repeat' (with_reducible refine Aa ?_ (fun h=>?_); (focus first | decide | omega); clear h; try simp -implicitDefEqProofs -proj only [go_sem,seval,eq_self,y1,y2,y3,y4,y5,y6,y7,y8,hbmH,hlb,w1,w2,hk2]))
   refine BC _ hb2 (by simp) ?_
   simp -implicitDefEqProofs -proj only [go_sem,seval,y1,y2,y3,y4,y5,y6,y7,y8]
   have hcN:=UM hf d hml (i:=i) (by omega)
   have hcN2:=UM hf d hml (i:=i+1) (by omega)
   have hf1:=TT hf d (i:=i) (by omega)
   have hf2:=TT hf d (i:=i+1) (by omega)
   rw [hin hw] at hf2
   rw [hmxe] at hb3 hcr
   have hlq:(FY c d m c.ms[m].mx i).length=(Gd x c.ms[m].mx).length:=by simp [FY,Gd]
   have hlq2:(FY c d m c.ms[m].mx i).length=(FY c d m c.ms[m].mx (i+1)).length:=by simp [FY]
   have hsum:=ATm hcN hcr hlq (hzi hw) hcN2
   have hbd:(Al (CC c d i))[m]? = some (G6 (FY c d m c.ms[m].mx i)):=by
    have:=LU (ls:=CC c d i) (i:=m) (by rw [IG]; exact hml)
    rw [Int.toNat_natCast,NR hml] at this
    exact this
   have hset:(Al (CC c d i)).set m (G6 (FY c d m c.ms[m].mx (i+1)))=Al (CC c d (i+1)):=by
    rw [hdi]; simp -implicitDefEqProofs only [Al,List.map_set]
   generalize FY c d m c.ms[m].mx i=lA at *
   generalize FY c d m c.ms[m].mx (i+1)=lS at *
   generalize Gd x c.ms[m].mx=lB at *
   refine Ek (Qr (f:=f) (t:=t) (fx:=Fy c d i) (cv:=As 2 2 k' q' (Al (CC c d i))) (ok:=true) (fun e=>n7 e.symm) (by simp -implicitDefEqProofs -proj only [go_sem,seval,y1]; exact h6) (by simp -implicitDefEqProofs -proj only [go_sem,seval,y3]; exact h7) (by unfold Fit; omega) (by unfold Fit; omega) (by unfold Fit; omega)) (fun r H2 hk=>?_)
   have hA:=fun y=>Aj (y:=y) hb16 hall3
   have hB:=fun y=>Fl (A:=Ah 51 2 k' q' (Al (CC c d i))++[(b7,.box 4 [bv true])]) (b:=b6) (x':=Ge b6 k' q' f t (Fy c d i+pv x 0) (CC c d i)) (by simpa only [List.append_assoc,List.cons_append,List.nil_append] using hA y) (by simpa only [List.append_assoc,List.cons_append,List.nil_append] using hnd3)
   have hC:AS H2 (Ah 51 2 k' q' (Al (CC c d i))++((b7,.box 4 [bv true])::(b6,Ge b6 k' q' f t (Fy c d i+pv x 0) (CC c d i))::(b4,.box 47 [i64 0,i64 0,i64 0,.nilsl 2])::(b3,.box 82 [i64 f,i64 t,u64 sv])::mk)):=by
    have hh:=fun y=>Fl (A:=Ah 51 2 k' q' (Al (CC c d i))) (b:=b7) (x:=.box 4 [bv true]) (x':=.box 4 [bv true]) (by simpa only [List.append_assoc,List.cons_append,List.nil_append] using hB y) (by simpa only [List.append_assoc,List.cons_append,List.nil_append,AN,List.map_append,List.map_cons] using hnd3)
    rw [hk]
    exact hh _
   have h16':H2 b16=some (.box 40 [i64 x.me,i64 x.f,i64 x.t,i64 x.al,i64 x.bl,i64 x.ki,EZ x.ts,i64 x.mo,Ec x.ad]):=by
    rw [hk,AD y4,AD y2]; simp -implicitDefEqProofs -proj only [go_sem,seval]
   clear hk hA hB
   obtain ⟨hrow',h7',h6',h4',h3',hmkH'⟩:=Ar.1 hC
   have hbm':=hbm hmkH'
   have hk1':H2 k1=some (.row 51 2 p1 (Al (FH c))):=by
    have h:=hmkH'
    rw [←hmkd] at h
    have h:=(Ar.1 h.2).1
    rw [Ed hner] at h
    exact h.1
   have hk2':H2 k'=some (.row 51 2 q' (Al (CC c d i))):=by
    have h:=hrow'
    rw [Ed hned] at h
    exact h.1
   rw [EM hneb,EM hner] at hbm'
   simp -implicitDefEqProofs only [Ge] at h6'
   rw [EM hned] at h6'
   rw [hm] at h16'
   simp -implicitDefEqProofs -proj only [go_sem,seval,h6',h16',hbm',hlr,hld]
   (repeat' (with_reducible refine Aa ?_ (fun h=>?_); (focus first | decide | omega); clear h; try simp -implicitDefEqProofs -proj only [go_sem,seval,eq_self,h6',h16',hbm',hlr,hld,hk1',hk2']))
   refine Cg (G6 lA) hbd (by simp [G6]) ?_
   simp -implicitDefEqProofs -proj only [go_sem,seval,G6,h6',h16',hbm',hlr,hld]
   (repeat' (with_reducible refine Aa ?_ (fun h=>?_); (focus first | decide | omega); clear h; try simp -implicitDefEqProofs -proj only [go_sem,seval,eq_self,h6',h16',hbm',hlr,hld,hk1',hk2']))
   refine Cg _ hb3 (by simp) ?_
   simp -implicitDefEqProofs -proj only [go_sem,seval,h6',h16',hbm',hlr,hld]
   refine Eb hsum ?_
   simp -implicitDefEqProofs -proj only [go_sem,seval,h6',h16',hbm',hlr,hld]
   refine AI (fun b17 hb17=>?_)
   replace hb17:H2 b17=none:=hb17
   obtain ⟨u1,u2⟩:=AG hb17 h6'
   obtain ⟨u3,u4⟩:=AG hb17 h7'
   obtain ⟨u5,u6⟩:=AG hb17 h16'
   obtain ⟨u7,u8⟩:=AG hb17 hk2'
   simp -implicitDefEqProofs -proj only [go_sem,seval,h6',h16',hbm',hlr,hld,u1,u2,u3,u4,u5,u6,u7,u8]
   (repeat' (with_reducible refine Aa ?_ (fun h=>?_); (focus first | decide | omega); clear h; try simp -implicitDefEqProofs -proj only [go_sem,seval,eq_self,h6',h7',h16',hbm',hlr,hld,hk1',hk2',u1,u2,u3,u4,u5,u6,u7,u8]))
   refine OJ (cap:=q') (t:=51) (xs:=Al (CC c d i)) (el:=G6 lA) (by simp -implicitDefEqProofs -proj only [go_sem,seval,u7,u8]; exact hk2') (by rw [Int.toNat_natCast]; exact hbd) (by simp [G6]) ?_
   have v1:¬k'=b7:=fun e=>by
    rw [e] at hk2'; rw [hk2'] at h7'; cases h7'
   have v2:¬b7=k':=fun e=>v1 e.symm
   simp -implicitDefEqProofs -proj only [go_sem,seval,u1,u2,u3,u4,u5,u6,u7,u8,h7',v1,v2]
   have hned2:Al (CC c d (i+1))≠[]:=by intro e; have:=congrArg List.length e; rw [GJ,List.length_nil,IG] at this; omega
   have hld2:(Al (CC c d (i+1))).length=c.ms.length:=by rw [GJ,IG]
   have hnd4:(AN ((k',Blk.row 51 2 q' (Al (CC c d i)))::(b7,.box 4 [bv true])::(b6,Ge b6 k' q' f t (Fy c d i+pv x 0) (CC c d i))::(b4,.box 47 [i64 0,i64 0,i64 0,.nilsl 2])::(b3,.box 82 [i64 f,i64 t,u64 sv])::mk)).Nodup:=by
    have h:=hnd3
    rw [Ed hned] at h
    simpa only [AN,List.map_cons,List.cons_append,List.nil_append] using h
   have hD:=fun y=>Aj (y:=y) hb17 hC
   rw [Ed hned] at hD
   have hE:=fun y=>Fl (A:=[]) (b:=k') (x':=Blk.row 51 2 q' (Al (CC c d (i+1)))) (hD y) hnd4
   have hF:=fun y=>Fl (A:=[(k',Blk.row 51 2 q' (Al (CC c d (i+1))))]) (b:=b7) (x:=.box 4 [bv true]) (x':=.box 4 [bv true]) (hE y) (by simpa only [AN,List.map_cons,List.cons_append,List.nil_append] using hnd4)
   refine Ac ⟨i+1,k',q'⟩ ⟨by show i+1≤c.ps.length; omega,?_⟩ (by show c.ps.length-(i+1)<c.ps.length-i; omega) rfl ?_ ?_
   ·simp -implicitDefEqProofs only [GQ,GF,Hm,Ho]
    rw [Ed hned2]
    simpa only [AN,List.map_cons,List.cons_append,List.nil_append] using hnd4
   ·simp -implicitDefEqProofs -proj only [go_sem,seval,AL,GF,AR (show i<9223372036854775807 by omega)]
   ·simp -implicitDefEqProofs only [GQ,GF,Hm,Ho,hin hw]
    rw [Ed hned2]
    simp -implicitDefEqProofs only [Ge,EM hned2,hld2]
    simp -implicitDefEqProofs only [Ge,EM hned,hld] at hF
    have hG:=hF (some (.box 51 [i64 ((lS.length:Int)-1),FX (ER lS)]))
    simp -implicitDefEqProofs only [←hset] at hG ⊢
    exact hG
  ·simp -implicitDefEqProofs -proj only [go_sem,seval,decide_eq_false hw,y1,y2,y3,y4,y5,y6]
   refine Ac ⟨i+1,k',q'⟩ ⟨by show i+1≤c.ps.length; omega,?_⟩ (by show c.ps.length-(i+1)<c.ps.length-i; omega) rfl ?_ ?_
   ·simpa only [GQ,GF,Hm,Ho,AN,List.map_append,List.map_cons,hdo hw] using hnd3
   ·simp -implicitDefEqProofs -proj only [go_sem,seval,AL,GF,AR (show i<9223372036854775807 by omega)]
   ·simp -implicitDefEqProofs only [GF,Hm,Ho,hout hw,hdo hw]
    exact Aj hb16 hall3
 ·have hi':i=c.ps.length:=by omega
  subst hi'
  have z1:¬b4=b6:=n4
  have z2:¬b6=b4:=n3
  simp -implicitDefEqProofs -proj only [go_sem,seval,GF,Hm,Ho,hH,decide_eq_false (show ¬(c.ps.length:Int)<c.ps.length by omega),h6,h7,h4,n1,n2,n3,n4,n5,n6,n7,n8,n9,n10,n11,n12]
  (repeat' (with_reducible refine Aa ?_ (fun h=>?_); (focus first | decide | omega); clear h; try simp -implicitDefEqProofs -proj only [go_sem,seval,eq_self,h6,h7,h4,n1,n2,n3,n4,n5,n6,n7,n8,n9,n10,n11,n12]))
  refine ⟨k',q',?_,[(b7,.box 4 [bv true]),(b6,Ge b6 k' q' f t (Fy c d c.ps.length) (CC c d c.ps.length)),(b4,.box 47 [i64 f,i64 t,i64 (Fy c d c.ps.length),As 2 2 k' q' (Al (CC c d c.ps.length))]),(b3,.box 82 [i64 f,i64 t,u64 sv])],?_,?_⟩
  ·rw [AOk hf.good,OW]
  ·rw [←OW]
   have hup:=Fl (A:=Ah 51 2 k' q' (Al (CC c d c.ps.length))++[(b7,.box 4 [bv true]),(b6,Ge b6 k' q' f t (Fy c d c.ps.length) (CC c d c.ps.length))]) (b:=b4) (x:=.box 47 [i64 0,i64 0,i64 0,.nilsl 2]) (x':=.box 47 [i64 f,i64 t,i64 (Fy c d c.ps.length),As 2 2 k' q' (Al (CC c d c.ps.length))]) (B:=(b3,.box 82 [i64 f,i64 t,u64 sv])::mk) (by simpa only [List.append_assoc,List.cons_append,List.nil_append] using hall3) (by simpa only [List.append_assoc,List.cons_append,List.nil_append] using hnd3)
   simpa only [List.append_assoc,List.cons_append,List.nil_append] using hup
  ·rw [←OW]
   simpa only [AN,List.map_append,List.map_cons,List.append_assoc,List.cons_append,List.nil_append,List.map_nil] using hnd3
theorem Uk {a b:List (List Int)} (ha:∀l∈a,BG l) (hb:∀l∈b,BG l) (hla:a.length≤1000000) (hlb:b.length≤1000000):DataW Tryz.prog Qn [Gm a,Gm b,.fn L2 []] (bv (decide (a=b))):=by
 refine AZ UB (by simp) ?_
 by_cases hl:a.length=b.length
 rotate_left
 ·simp -implicitDefEqProofs -proj only [go_sem,seval,GJ,decide_eq_false (show ¬(a.length:Int)=b.length by omega)]
  exact AJ (by rw [decide_eq_false (fun e=>hl (by rw [e]))])
 simp -implicitDefEqProofs -proj only [go_sem,seval,GJ,decide_eq_true (show (a.length:Int)=b.length by omega)]
 refine BJ (fun i:Nat=>i≤a.length∧∀(j:Nat) (h:j<a.length) (h2:j<b.length),j<i→a[j]=b[j]) 32 (fun i=>[(0,Gm a),(1,Gm b),(2,.fn L2 []),(15,Gm a),(16,i64 a.length),(17,i64 i)]) (fun _=>[]) (fun i=>a.length-i) 0 ⟨Nat.zero_le _,fun j _ _ h=>absurd h (Nat.not_lt_zero _)⟩ rfl ?_ ?_ ?_
 ·simp -implicitDefEqProofs -proj only [go_sem,seval,AL]
  try simp [hl]
 ·simp -implicitDefEqProofs -proj only [go_sem,seval,AS]
 ·rintro i ⟨hi,hat⟩
  by_cases h:i<a.length
  ·have h':i<b.length:=by omega
   have e1:=LU h
   have e2:=LU h'
   have ca:=ha _ (List.getElem_mem h)
   have cb:=hb _ (List.getElem_mem h')
   have hst:=fun (e:a[i]=b[i])=>IZ (l:=List.range a.length) (P:=fun j _=>∀(h:j<a.length) (h2:j<b.length),a[j]=b[j]) (i:=i) (x:=i) (by simp [h]) (fun j hj hji=>fun h1 h2=>hat j h1 h2 hji) (fun _ _=>e)
   have hne:=fun (e:¬a[i]=b[i])=>show ¬a=b from fun k=>e (by subst k; rfl)
   have hcall:=N9 (m:=(a[i].length:Int)-1) (n:=(b[i].length:Int)-1) (a:=ER a[i]) (b:=ER b[i]) (by have:=@Jd a[i]; have:=ca.2.1; omega) (by have:=@Jd b[i]; have:=cb.2.1; omega)
   rw [show decide ((a[i].length:Int)-1=(b[i].length:Int)-1∧ER a[i]=ER b[i])=decide (a[i]=b[i]) from decide_eq_decide.2 Te] at hcall
   generalize a[i]=x at *
   generalize b[i]=y at *
   simp -implicitDefEqProofs -proj only [go_sem,seval,decide_eq_true (show (i:Int)<a.length by omega)]
   refine Ai _ (by omega) e1 ?_
   simp -implicitDefEqProofs -proj only [go_sem,seval]
   refine AI (fun b8 hb8=>?_)
   simp -implicitDefEqProofs -proj only [go_sem,seval]
   refine Ai _ (by omega) e2 ?_
   simp -implicitDefEqProofs -proj only [go_sem,seval]
   refine AI (fun b9 hb9=>?_)
   simp -implicitDefEqProofs only [AX] at hb9
   have n1:¬b8=b9:=fun e=>by subst e; simp at hb9
   have n2:¬b9=b8:=fun e=>n1 e.symm
   simp -implicitDefEqProofs -proj only [go_sem,seval,n1,n2]
   refine AK hcall ?_
   by_cases hp:x=y
   ·simp -implicitDefEqProofs -proj only [go_sem,seval,decide_eq_true hp]
    refine Ac (i+1) ⟨by omega,fun j h1 h2 hj=>hst hp j (by simpa using h1) (by omega) h1 h2⟩ (by omega) rfl ?_ trivial
    simp -implicitDefEqProofs -proj only [go_sem,seval,AL,AR (show i<9223372036854775807 by omega)]
   ·simp -implicitDefEqProofs -proj only [go_sem,seval,decide_eq_false hp]
    exact AJ (by rw [decide_eq_false (hne hp)])
  ·have hi':i=a.length:=by omega
   subst hi'
   simp -implicitDefEqProofs -proj only [go_sem,seval,decide_eq_false (show ¬(a.length:Int)<a.length by omega)]
   exact AJ (by rw [decide_eq_true (List.ext_getElem hl fun j h1 h2=>hat j h1 h2 h1)])
theorem Qs {a b:Seg Ei} (ha:∀l∈a.v.2,BG l) (hb:∀l∈b.v.2,BG l) (hla:a.v.2.length≤1000000) (hlb:b.v.2.length≤1000000):DataW Tryz.prog TK [J0 a,J0 b] (bv (decide (a.v=b.v))):=by
 have h1:=Uk ha hb hla hlb
 obtain ⟨f,t,⟨x,la⟩⟩:=a
 obtain ⟨g,u,⟨y,lb⟩⟩:=b
 simp -implicitDefEqProofs only [] at h1 ⊢
 refine AZ PZ (by simp) ?_
 simp -implicitDefEqProofs -proj only [go_sem,seval]
 refine AI (fun b2 hb2=>?_)
 simp -implicitDefEqProofs -proj only [go_sem,seval]
 refine AI (fun b3 hb3=>?_)
 replace hb3:upd Heap.none b2 _ b3=none:=hb3
 obtain ⟨n1,n2⟩:=AG hb3 AP
 by_cases hxy:x=y
 ·simp -implicitDefEqProofs -proj only [go_sem,seval,n1,n2,decide_eq_true hxy]
  refine AK h1 ?_
  simp -implicitDefEqProofs -proj only [go_sem,seval]
  exact AJ (by rw [decide_eq_decide.2 (show (x,la)=(y,lb)↔la=lb from ⟨fun e=>(Prod.mk.inj e).2,fun e=>by rw [hxy,e]⟩)])
 ·simp -implicitDefEqProofs -proj only [go_sem,seval,n1,n2,decide_eq_false hxy]
  exact AJ (by rw [decide_eq_false (fun e=>hxy (Prod.mk.inj e).1)])
theorem ARB {a b:Seg Ei} (ha:∀l∈a.v.2,BG l) (hb:∀l∈b.v.2,BG l) (hla:a.v.2.length≤1000000) (hlb:b.v.2.length≤1000000):DataW Tryz.prog O8 [J0 a,J0 b] (bv (decide (a.f=b.f∧a.t=b.t∧a.v=b.v))):=by
 have h1:=Qs ha hb hla hlb
 obtain ⟨f,t,⟨x,la⟩⟩:=a
 obtain ⟨g,u,⟨y,lb⟩⟩:=b
 simp -implicitDefEqProofs only [] at h1 ⊢
 refine AZ ARi (by simp) ?_
 simp -implicitDefEqProofs -proj only [go_sem,seval]
 refine AI (fun b2 hb2=>?_)
 simp -implicitDefEqProofs -proj only [go_sem,seval]
 refine AI (fun b3 hb3=>?_)
 replace hb3:upd Heap.none b2 _ b3=none:=hb3
 obtain ⟨n1,n2⟩:=AG hb3 AP
 by_cases hf:f=g
 ·by_cases ht:t=u
  ·simp -implicitDefEqProofs -proj only [go_sem,seval,n1,n2,decide_eq_true hf,decide_eq_true ht]
   refine AK h1 ?_
   simp -implicitDefEqProofs -proj only [go_sem,seval]
   exact AJ (by rw [decide_eq_decide.2 (show (f=g∧t=u∧(x,la)=(y,lb))↔(x,la)=(y,lb) from ⟨fun e=>e.2.2,fun e=>⟨hf,ht,e⟩⟩)])
  ·simp -implicitDefEqProofs -proj only [go_sem,seval,n1,n2,decide_eq_true hf,decide_eq_false ht]
   exact AJ (by rw [decide_eq_false (fun e=>ht e.2.1)])
 ·simp -implicitDefEqProofs -proj only [go_sem,seval,n1,n2,decide_eq_false hf]
  exact AJ (by rw [decide_eq_false (fun e=>hf e.1)])
theorem P7 {a b:Seg Ei}:(a.f=b.f∧a.t=b.t∧a.v=b.v)↔a=b:=by
 obtain ⟨f,t,v⟩:=a
 obtain ⟨g,u,w⟩:=b
 simp -implicitDefEqProofs only [Seg.mk.injEq]
def Jo (s:Seg Ei):Prop:=(∀l∈s.v.2,BG l)∧s.v.2.length≤1000000
open Classical in
theorem AKR {a b:List (Seg Ei)} (ha:∀s∈a,Jo s) (hb:∀s∈b,Jo s) (hla:a.length≤1000000) (hlb:b.length≤1000000):DataW Tryz.prog Zq [JW a,JW b,.fn O8 []] (bv (decide (a=b))):=by
 refine AZ ARO (by simp) ?_
 by_cases hl:a.length=b.length
 rotate_left
 ·simp -implicitDefEqProofs -proj only [go_sem,seval,IL,decide_eq_false (show ¬(a.length:Int)=b.length by omega)]
  exact AJ (by rw [decide_eq_false (fun e=>hl (by rw [e]))])
 simp -implicitDefEqProofs -proj only [go_sem,seval,IL,decide_eq_true (show (a.length:Int)=b.length by omega)]
 refine BJ (fun i:Nat=>i≤a.length∧∀(j:Nat) (h:j<a.length) (h2:j<b.length),j<i→a[j]=b[j]) 32 (fun i=>[(0,JW a),(1,JW b),(2,.fn O8 []),(15,JW a),(16,i64 a.length),(17,i64 i)]) (fun _=>[]) (fun i=>a.length-i) 0 ⟨Nat.zero_le _,fun j _ _ h=>absurd h (Nat.not_lt_zero _)⟩ rfl ?_ ?_ ?_
 ·simp -implicitDefEqProofs -proj only [go_sem,seval,AL]
  try simp [hl]
 ·simp -implicitDefEqProofs -proj only [go_sem,seval,AS]
 ·rintro i ⟨hi,hat⟩
  by_cases h:i<a.length
  ·have h':i<b.length:=by omega
   have e1:=OD h
   have e2:=OD h'
   have ca:=ha _ (List.getElem_mem h)
   have cb:=hb _ (List.getElem_mem h')
   have hst:=fun (e:a[i]=b[i])=>IZ (l:=List.range a.length) (P:=fun j _=>∀(h:j<a.length) (h2:j<b.length),a[j]=b[j]) (i:=i) (x:=i) (by simp [h]) (fun j hj hji=>fun h1 h2=>hat j h1 h2 hji) (fun _ _=>e)
   have hne:=fun (e:¬a[i]=b[i])=>show ¬a=b from fun k=>e (by subst k; rfl)
   have hcall:=ARB ca.1 cb.1 ca.2 cb.2
   generalize a[i]=x at *
   generalize b[i]=y at *
   simp -implicitDefEqProofs -proj only [go_sem,seval,decide_eq_true (show (i:Int)<a.length by omega)]
   refine Ai _ (by omega) e1 ?_
   simp -implicitDefEqProofs -proj only [go_sem,seval]
   refine AI (fun b8 hb8=>?_)
   simp -implicitDefEqProofs -proj only [go_sem,seval]
   refine Ai _ (by omega) e2 ?_
   simp -implicitDefEqProofs -proj only [go_sem,seval]
   refine AI (fun b9 hb9=>?_)
   simp -implicitDefEqProofs only [AX] at hb9
   have n1:¬b8=b9:=fun e=>by subst e; simp at hb9
   have n2:¬b9=b8:=fun e=>n1 e.symm
   simp -implicitDefEqProofs -proj only [go_sem,seval,n1,n2]
   refine AK hcall ?_
   by_cases hp:x.f=y.f∧x.t=y.t∧x.v=y.v
   ·simp -implicitDefEqProofs -proj only [go_sem,seval,decide_eq_true hp]
    refine Ac (i+1) ⟨by omega,fun j h1 h2 hj=>hst (P7.1 hp) j (by simpa using h1) (by omega) h1 h2⟩ (by omega) rfl ?_ trivial
    simp -implicitDefEqProofs -proj only [go_sem,seval,AL,AR (show i<9223372036854775807 by omega)]
   ·simp -implicitDefEqProofs -proj only [go_sem,seval,decide_eq_false hp]
    exact AJ (by rw [decide_eq_false (hne (fun e=>hp (P7.2 e)))])
  ·have hi':i=a.length:=by omega
   subst hi'
   simp -implicitDefEqProofs -proj only [go_sem,seval,decide_eq_false (show ¬(a.length:Int)<a.length by omega)]
   exact AJ (by rw [decide_eq_true (List.ext_getElem hl fun j h1 h2=>hat j h1 h2 h1)])
abbrev FE:Type:=Int×List Grp
def GB (p:FE):Prop:=Fit p.1∧p.2.length≤3000
def A5 (L:List FE):List (List D):=L.map fun p=>[.int .i64 p.1,.sl 5 (A0 p.2)]
theorem IH {L:List FE}:(A5 L).length=L.length:=List.length_map ..
theorem My {L:List FE} {i:Nat} (h:i<L.length):(A5 L)[i]? = some [.int .i64 L[i].1,.sl 5 (A0 L[i].2)]:=by simp [A5,h]
theorem PS {l:List Int} (h:l.length≤2001):GB ((l.length:Int)-1,ER l):=by
 have:=@Jd l
 exact ⟨by show Fit ((l.length:Int)-1); unfold Fit; omega,by show (ER l).length≤3000; omega⟩
theorem L4:GB (0,[]):=⟨by show Fit 0; decide,by show (0:Nat)≤3000; decide⟩
theorem R8 {H:Heap}:LendV H (.tup [.agg [i64 0,.nilsl 5],i64 0,bv false]) (.tup [EW 0 [],i64 0,bv false]):=.tupL (E3 (.aggL (E3 (.refl _) (E3 (.nilsl _ _) GC))) (E3 (.refl _) (E3 (.refl _) GC)))
theorem U7 {c:CoreX} (hc:c.Fit) (hg:goodC c) {x:PartX} (hx:x∈c.ps):∃(p:FE) (b:Int) (ok:Bool),GB p∧Fit b∧(ok=true→∀q:Nat,q<(EX c.ms x.me+1).toNat→(FI x q).isSome=true)∧DataW Tryz.prog Tu [Gz c,GK x] (.tup [EW p.1 p.2,i64 b,bv ok]):=by
 classical
 obtain ⟨m1,m2⟩:=(fitsC.bnd hg).me x hx
 have hmi:x.me.toNat<c.ms.length:=by omega
 have hmx:=(fitsC.bnd hg).mx x.me.toNat hmi
 have hmxe:EX c.ms x.me=c.ms[x.me.toNat].mx:=by
  unfold EX; rw [List.getElem?_eq_getElem hmi]
 have hG:=MP (hg.ps x hx)
 have hfx:=hc.ps x hx
 have helM:=G8 hmi
 have hcall:∀q:Nat,q<(EX c.ms x.me+1).toNat→DataW Tryz.prog PX [GK x,i64 q] (EN (FI x q)):=fun q hq=>Su (q:=(q:Int)) hfx (by unfold Fit; omega) hG (Lp hG.ts)
 obtain ⟨n,hn⟩:∃n:Nat,n=(EX c.ms x.me+1).toNat:=⟨_,rfl⟩
 have hn1:c.ms[x.me.toNat].mx+1=n:=by rw [hn,hmxe]; omega
 have hn0:0<n:=by omega
 have hn2:n≤2001:=by omega
 rw [←hn] at hcall ⊢
 have hpfit:∀q v,FI x q=some v→Fit v:=fun q v h=>ADu hfx h
 obtain ⟨l,hl⟩:∃l,KG x (EX c.ms x.me)=l:=⟨_,rfl⟩
 have hll:l.length=n:=by rw [←hl]; simp [KG,hn]
 have hlv:∀(q:Nat) (h:q<l.length),l[q]=pv x q:=fun q h=>by subst hl; simp [KG]
 have hpv:Fit (pv x 0):=by
  unfold pv
  cases e:FI x 0 with
  | none=>show Fit 0; decide
  | some v=>exact hpfit 0 v e
 obtain ⟨p,b,ok,r1,r2,r3,hN,hC0,hC1,hC2⟩:∃(p:FE) (b:Int) (ok:Bool),GB p∧Fit b∧(ok=true→∀q:Nat,q<n→(FI x q).isSome=true)∧((∃q:Nat,q<n∧FI x q=none)→p=(0,[])∧b=0∧ok=false) ∧
   ((∀q:Nat,q<n→(FI x q).isSome=true)→¬BG l→p=(0,[])∧b=0∧ok=false)∧((∀q:Nat,q<n→(FI x q).isSome=true)→BG l→¬BG (l.map (· + -(pv x 0)))→p=(0,[])∧b=pv x 0∧ok=false) ∧
   ((∀q:Nat,q<n→(FI x q).isSome=true)→BG l→BG (l.map (· + -(pv x 0)))→p=((((l.map (· + -(pv x 0))).length:Int)-1),ER (l.map (· + -(pv x 0))))∧b=pv x 0∧ok=true):=by
  by_cases hall:∀q:Nat,q<n→(FI x q).isSome=true
  ·have hno:¬∃q:Nat,q<n∧FI x q=none:=fun ⟨q,h1,h2⟩=>by have:=hall q h1; rw [h2] at this; cases this
   by_cases h1:BG l
   ·by_cases h2:BG (l.map (· + -(pv x 0)))
    ·exact ⟨_,pv x 0,true,PS h2.2.1,hpv,fun _=>hall,fun h=>absurd h hno,fun _ h=>absurd h1 h,fun _ _ h=>absurd h2 h,fun _ _ _=>⟨rfl,rfl,rfl⟩⟩
    ·exact ⟨(0,[]),pv x 0,false,L4,hpv,fun h=>absurd h Bool.false_ne_true,fun h=>absurd h hno,fun _ h=>absurd h1 h,fun _ _ _=>⟨rfl,rfl,rfl⟩,fun _ _ h=>absurd h h2⟩
   ·exact ⟨(0,[]),0,false,L4,by decide,fun h=>absurd h Bool.false_ne_true,fun h=>absurd h hno,fun _ _=>⟨rfl,rfl,rfl⟩,fun _ h=>absurd h h1,fun _ h=>absurd h h1⟩
  ·exact ⟨(0,[]),0,false,L4,by decide,fun h=>absurd h Bool.false_ne_true,fun _=>⟨rfl,rfl,rfl⟩,fun h=>absurd h hall,fun h=>absurd h hall,fun h=>absurd h hall⟩
 refine ⟨p,b,ok,r1,r2,r3,?_⟩
 clear r1 r2 r3
 have hof:=N5 (from':=0) (l:=l) (by omega) (by omega)
 have hcu:=Lr (l:=l) (by omega)
 have hfst:(AU l)[0]? = some [.int .i64 (pv x 0)]:=by
  have h0:0<l.length:=by omega
  have e0:=hlv 0 h0
  rw [show ((0:Nat):Int)=0 from rfl] at e0
  rw [←e0]; simp [AU,h0]
 have hw1:IntKind.i64.wrap (c.ms[x.me.toNat].mx+1)=n:=by rw [hn1,IntKind.wrap_i64]; omega
 refine AZ RJ (by simp) ?_
 simp -implicitDefEqProofs -proj only [go_sem,seval]
 refine AI (fun b2 hb2=>?_)
 simp -implicitDefEqProofs -proj only [go_sem,seval]
 refine AI (fun b3 hb3=>?_)
 replace hb3:upd Heap.none b2 _ b3=none:=hb3
 obtain ⟨n1,n2⟩:=AG hb3 AP
 simp -implicitDefEqProofs -proj only [go_sem,seval,n1,n2]
 refine AI (fun b4 hb4=>?_)
 replace hb4:upd (upd Heap.none b2 _) b3 _ b4=none:=hb4
 obtain ⟨n3,n4⟩:=AG hb4 AP
 obtain ⟨n5,n6⟩:=AG hb4 (by rw [AD n1]; exact AP)
 simp -implicitDefEqProofs -proj only [go_sem,seval,n1,n2,n3,n4,n5,n6]
 refine Ai _ m1 (by rw [←Int.toNat_of_nonneg m1]; exact helM) ?_
 simp -implicitDefEqProofs -proj only [go_sem,seval,n1,n2,n3,n4,n5,n6,hw1]
 refine BJ (fun y:BackY=>y.i≤l.length∧(∀q:Nat,q<y.i→(FI x q).isSome=true)∧(AN (IY b3 b4 x l y)).Nodup) 63 (fun y=>[(3,.ptr b3 0),(4,.ptr b4 0),(7,As 0 1 y.c y.cap (AU (l.take y.i))),(22,i64 n),(23,i64 y.i)]) (IY b3 b4 x l) (fun y=>l.length-y.i) ⟨0,0,0⟩ ⟨Nat.zero_le _,fun q h=>absurd h (Nat.not_lt_zero _),by simp [IY,Ah,AU,AN,n3]⟩ rfl ?_ ?_ ?_
 ·simp -implicitDefEqProofs -proj only [go_sem,seval,AL,FT,Ff,Fg]
  try rfl
 ·simp -implicitDefEqProofs only [IY,FT,Ff,Fg,List.take_zero]
  simp -implicitDefEqProofs -proj only [go_sem,seval,AS,n1,n2,n3,n4,n5,n6,AU,List.map_nil,Ah]
 ·rintro ⟨i,cc,cap⟩ ⟨hi,hsm,hnd⟩
  simp -implicitDefEqProofs only [FT] at hi hsm
  have hall:=EQ hnd
  obtain ⟨H,hH⟩:∃H,Ad (IY b3 b4 x l ⟨i,cc,cap⟩)=H:=⟨_,rfl⟩
  rw [hH] at hall
  simp -implicitDefEqProofs only [IY,FT,Ff,Fg] at hall hnd
  obtain ⟨hrow,e4,e3,_⟩:=Ar.1 hall
  by_cases hlt:i<l.length
  ·have hat:=hcall i (by omega)
   cases hpo:FI x i with
   | none =>
    rw [hpo] at hat
    obtain ⟨rfl,rfl,rfl⟩:=hN ⟨i,by omega,hpo⟩
    simp -implicitDefEqProofs -proj only [go_sem,seval,FT,Ff,Fg,hH,e3,decide_eq_true (show (i:Int)<n by omega)]
    refine AK hat ?_
    simp -implicitDefEqProofs -proj only [go_sem,seval,EN,e4]
    (repeat' (with_reducible refine Aa ?_ (fun h=>?_); (focus first | decide | omega); clear h; try simp -implicitDefEqProofs -proj only [go_sem,seval,eq_self,e4]))
    exact R8
   | some v =>
    rw [hpo] at hat
    have hv:l[i]=v:=by rw [hlv i hlt]; unfold pv; rw [hpo]; rfl
    have htk:l.take (i+1)=l.take i++[l[i]]:=List.take_succ_eq_append_getElem hlt
    rw [hv] at htk
    have hsm2:∀q:Nat,q<i+1→(FI x q).isSome=true:=fun q hq=>by
     by_cases e:q=i
     ·subst e; rw [hpo]; rfl
     ·exact hsm q (by omega)
    have hl1:(AU (l.take i)).length=i:=by rw [rowI_len,List.length_take]; omega
    have hl2:(AU (l.take (i+1))).length=i+1:=by rw [rowI_len,List.length_take]; omega
    have hne2:AU (l.take (i+1))≠[]:=by intro e; rw [e] at hl2; simp at hl2
    simp -implicitDefEqProofs -proj only [go_sem,seval,FT,Ff,Fg,hH,e3,decide_eq_true (show (i:Int)<n by omega)]
    refine AK hat ?_
    simp -implicitDefEqProofs -proj only [go_sem,seval,EN]
    refine Ao (fun bs hs'=>?_)
    replace hs':H bs=none:=hs'
    simp -implicitDefEqProofs -proj only [go_sem,seval]
    refine FB (xs:=AU (l.take i)) (y:=[.int .i64 v]) (t:=3) (capc:=1) [(b4,.box 51 [i64 0,.nilsl 5]),(b3,.box 40 [i64 x.me,i64 x.f,i64 x.t,i64 x.al,i64 x.bl,i64 x.ki,EZ x.ts,i64 x.mo,Ec x.ad])] rfl (Aj hs' hall) hnd (by simp -implicitDefEqProofs -proj only [go_sem,seval]; try rfl) (by rw [hl1]; omega) (by rw [hl1]; omega) (fun H' c' cap' ha hk=>?_)
    rw [show AU (l.take i)++[[.int .i64 v]]=AU (l.take (i+1)) by rw [htk]; simp [AU]] at ha hk
    simp -implicitDefEqProofs -proj only [go_sem,seval]
    refine Ac ⟨i+1,c',cap'⟩ ⟨by show i+1≤l.length; omega,hsm2,hk⟩ (by show l.length-(i+1)<l.length-i; omega) rfl ?_ ha
    simp -implicitDefEqProofs -proj only [go_sem,seval,AL,FT,Ff,Fg,AR (show i<9223372036854775807 by omega),EM hne2,hl1,hl2]
  ·have hi':i=l.length:=by omega
   subst hi'
   rw [hll] at hsm
   rw [List.take_length] at hrow hnd
   have hneI:AU l≠[]:=by intro e; have:=congrArg List.length e; rw [rowI_len,List.length_nil] at this; omega
   have hrc:H cc=some (.row 3 1 cap (AU l)):=by
    rw [Ed hneI] at hrow
    exact hrow.1
   obtain ⟨x1,x2⟩:¬cc=b4∧¬b4=cc:=by
    rw [Ed hneI] at hnd
    simp -implicitDefEqProofs only [AN,List.map_append,List.map_cons,List.map_nil,List.cons_append,List.nil_append,List.nodup_cons,List.mem_cons,not_or] at hnd
    exact ⟨hnd.1.1,fun e=>hnd.1.1 e.symm⟩
   simp -implicitDefEqProofs -proj only [go_sem,seval,FT,Ff,Fg,hH,decide_eq_false (show ¬(l.length:Int)<n by omega),List.take_length,EM hneI,rowI_len]
   refine Ko hof (E3 (.refl _) (E3 (KS hrc rowI_len.symm) GC)) ?_
   by_cases cl:BG l
   rotate_left
   ·obtain ⟨rfl,rfl,rfl⟩:=hC0 hsm cl
    rw [if_neg cl] at hcu
    simp -implicitDefEqProofs -proj only [go_sem,seval]
    refine AK hcu.data ?_
    simp -implicitDefEqProofs -proj only [go_sem,seval]
    refine AI (fun b11 hb11=>?_)
    replace hb11:H b11=none:=hb11
    obtain ⟨y3,y4⟩:=AG hb11 e4
    simp -implicitDefEqProofs -proj only [go_sem,seval,y3,y4,e4]
    (repeat' (with_reducible refine Aa ?_ (fun h=>?_); (focus first | decide | omega); clear h; try simp -implicitDefEqProofs -proj only [go_sem,seval,eq_self,y3,y4,e4]))
    exact R8
   have hsv:E1 (pv x 0):=by
    have h0:0<l.length:=by omega
    have e0:=hlv 0 h0
    rw [show ((0:Nat):Int)=0 from rfl] at e0
    rw [←e0]; exact cl.2.2 _ (List.getElem_mem h0)
   have hwn:IntKind.i64.wrap (0-pv x 0) = -pv x 0:=by unfold E1 at hsv; rw [IntKind.wrap_i64]; omega
   have hsh:=SA (d:=-(pv x 0)) cl (by unfold E1 at *; omega)
   rw [if_pos cl] at hcu
   simp -implicitDefEqProofs -proj only [go_sem,seval]
   refine AK hcu.data ?_
   simp -implicitDefEqProofs -proj only [go_sem,seval]
   refine AI (fun b11 hb11=>?_)
   replace hb11:H b11=none:=hb11
   obtain ⟨y1,y2⟩:=AG hb11 hrc
   obtain ⟨y3,y4⟩:=AG hb11 e4
   simp -implicitDefEqProofs -proj only [go_sem,seval,y1,y2,y3,y4,hrc]
   (repeat' (with_reducible refine Aa ?_ (fun h=>?_); (focus first | decide | omega); clear h; try simp -implicitDefEqProofs -proj only [go_sem,seval,eq_self,y1,y2,y3,y4,hrc]))
   refine BC _ hfst (by simp) ?_
   simp -implicitDefEqProofs -proj only [go_sem,seval,y1,y2,y3,y4,hrc,hwn]
   by_cases cm:BG (l.map (· + -(pv x 0)))
   ·obtain ⟨rfl,rfl,rfl⟩:=hC2 hsm cl cm
    rw [if_pos cm] at hsh
    refine Eb hsh ?_
    simp -implicitDefEqProofs -proj only [go_sem,seval,y1,y2,y3,y4,hrc]
    refine AI (fun b13 hb13=>?_)
    simp -implicitDefEqProofs only [AX,y1,y2,y3,y4,↓reduceIte] at hb13
    have z11:¬b11=b13:=fun e=>by subst e; simp [y1,y2,y3,y4] at hb13
    have hb13':H b13=none:=by
     simp -implicitDefEqProofs only [z11,↓reduceIte] at hb13
     exact hb13
    obtain ⟨z1,z2⟩:=AG hb13' hrc
    obtain ⟨z3,z4⟩:=AG hb13' e4
    have z11':¬b13=b11:=fun e=>z11 e.symm
    simp -implicitDefEqProofs -proj only [go_sem,seval,y1,y2,y3,y4,hrc,z1,z2,z3,z4,z11,z11',x1,x2]
    (repeat' (with_reducible refine Aa ?_ (fun h=>?_); (focus first | decide | omega); clear h; try simp -implicitDefEqProofs -proj only [go_sem,seval,eq_self,y1,y2,y3,y4,hrc,z1,z2,z3,z4,z11,z11',x1,x2,e4]))
    refine BC _ hfst (by simp) ?_
    simp -implicitDefEqProofs -proj only [go_sem,seval,y1,y2,y3,y4,hrc,z1,z2,z3,z4,z11,z11',x1,x2,e4]
    (repeat' (with_reducible refine Aa ?_ (fun h=>?_); (focus first | decide | omega); clear h; try simp -implicitDefEqProofs -proj only [go_sem,seval,eq_self,y1,y2,y3,y4,hrc,z1,z2,z3,z4,z11,z11',x1,x2,e4]))
    exact AJ rfl
   ·obtain ⟨rfl,rfl,rfl⟩:=hC1 hsm cl cm
    rw [if_neg cm] at hsh
    refine Eb hsh ?_
    simp -implicitDefEqProofs -proj only [go_sem,seval,y1,y2,y3,y4,hrc]
    refine AI (fun b13 hb13=>?_)
    simp -implicitDefEqProofs only [AX,y1,y2,y3,y4,↓reduceIte] at hb13
    have z11:¬b11=b13:=fun e=>by subst e; simp [y1,y2,y3,y4] at hb13
    have hb13':H b13=none:=by
     simp -implicitDefEqProofs only [z11,↓reduceIte] at hb13
     exact hb13
    obtain ⟨z1,z2⟩:=AG hb13' hrc
    obtain ⟨z3,z4⟩:=AG hb13' e4
    have z11':¬b13=b11:=fun e=>z11 e.symm
    simp -implicitDefEqProofs -proj only [go_sem,seval,y1,y2,y3,y4,hrc,z1,z2,z3,z4,z11,z11',x1,x2]
    (repeat' (with_reducible refine Aa ?_ (fun h=>?_); (focus first | decide | omega); clear h; try simp -implicitDefEqProofs -proj only [go_sem,seval,eq_self,y1,y2,y3,y4,hrc,z1,z2,z3,z4,z11,z11',x1,x2,e4]))
    refine BC _ hfst (by simp) ?_
    simp -implicitDefEqProofs -proj only [go_sem,seval,y1,y2,y3,y4,hrc,z1,z2,z3,z4,z11,z11',x1,x2,e4]
    (repeat' (with_reducible refine Aa ?_ (fun h=>?_); (focus first | decide | omega); clear h; try simp -implicitDefEqProofs -proj only [go_sem,seval,eq_self,y1,y2,y3,y4,hrc,z1,z2,z3,z4,z11,z11',x1,x2,e4]))
    exact AJ rfl
theorem AB8 {p q:FE} (hp:GB p) (hq:GB q):∃(r:FE) (u:Bool),GB r∧DataW Tryz.prog Lv [EW p.1 p.2,EW q.1 q.2] (.tup [EW r.1 r.2,bv u]):=by
 classical
 obtain ⟨m,A⟩:=p
 obtain ⟨n,B⟩:=q
 obtain ⟨hm,hA⟩:=hp
 obtain ⟨hn,hB⟩:=hq
 by_cases h:m=n∧Ih m A∧Ih n B
 ·obtain ⟨rfl,⟨la,ca,e1,e2⟩,⟨lb,cb,e3,e4⟩⟩:=h
  have hlen:la.length=lb.length:=by omega
  have hs:=Qm ca cb hlen
  subst e2; subst e4
  simp -implicitDefEqProofs only at e1 e3 ⊢
  rw [e1]
  by_cases hz:BG (List.zipWith (fun u v=>u+v) la lb)
  ·rw [if_pos hz] at hs
   refine ⟨(((List.zipWith (fun u v=>u+v) la lb).length:Int)-1,ER (List.zipWith (fun u v=>u+v) la lb)),true,PS hz.2.1,?_⟩
   rw [show (la.length:Int)-1=(la.length:Int)-1 from rfl]
   have e5:(lb.length:Int)-1=(la.length:Int)-1:=by omega
   have hs':DataW Tryz.prog Lv [EW ((la.length:Int)-1) (ER la),EW ((lb.length:Int)-1) (ER lb)] (.tup [Ez (List.zipWith (fun u v=>u+v) la lb),bv true]):=hs
   rw [e5] at hs'
   exact hs'
  ·rw [if_neg hz] at hs
   refine ⟨(0,[]),false,L4,?_⟩
   have e5:(lb.length:Int)-1=(la.length:Int)-1:=by omega
   have hs':DataW Tryz.prog Lv [EW ((la.length:Int)-1) (ER la),EW ((lb.length:Int)-1) (ER lb)] (.tup [EW 0 [],bv false]):=hs
   rw [e5] at hs'
   exact hs'
 ·exact ⟨(0,[]),false,L4,QG (AKl hA hB hm hn h)⟩
theorem Qt {H:Heap} {b6 b7:Nat} {f t fx n:Int} {cv:AV} {ok:Bool} (hne:¬b6=b7) (h6:H b6=some (.box 47 [i64 f,i64 t,i64 fx,cv])) (h7:H b7=some (.box 4 [bv ok])) (hx:Fit fx) (hn:Fit n):CallW Tryz.prog I9 [i64 n,.ptr b6 0,.ptr b7 0] H fun r H'=>∃fx' ok',Fit fx'∧H'=upd (upd H b6 (some (.box 47 [i64 f,i64 t,i64 fx',cv]))) b7 (some (.box 4 [bv ok'])):=by
 have ha:=KX hx hn
 have hne':¬b7=b6:=fun e=>hne e.symm
 obtain ⟨s,u,hs,e⟩:∃s u,Fit s∧Fo (fx+n) = .tup [i64 s,bv u]:=by
  by_cases h:Fit (fx+n)
  ·exact ⟨_,_,h,Gl h⟩
  ·exact ⟨0,false,by decide,IC h⟩
 rw [e] at ha
 refine AZ Tc (by simp) ?_
 simp -implicitDefEqProofs -proj only [go_sem,seval,h6]
 refine AK ha ?_
 cases ok
 ·simp -implicitDefEqProofs -proj only [go_sem,seval,h6,h7,hne,hne']
  exact ⟨s,_,hs,rfl⟩
 ·cases u
  ·simp -implicitDefEqProofs -proj only [go_sem,seval,h6,h7,hne,hne']
   exact ⟨s,_,hs,rfl⟩
  ·simp -implicitDefEqProofs -proj only [go_sem,seval,h6,h7,hne,hne']
   exact ⟨s,_,hs,rfl⟩
structure SpwX where
 i:Nat
 k:Nat
 cap:Nat
 fx:Int
 ok:Bool
 L:List FE
theorem Fd {i k cap:Nat} {fx:Int} {ok:Bool} {L:List FE}:(SpwX.mk i k cap fx ok L).i=i:=(rfl)
theorem HY {i k cap:Nat} {fx:Int} {ok:Bool} {L:List FE}:(SpwX.mk i k cap fx ok L).k=k:=(rfl)
theorem HQ {i k cap:Nat} {fx:Int} {ok:Bool} {L:List FE}:(SpwX.mk i k cap fx ok L).cap=cap:=(rfl)
theorem If {i k cap:Nat} {fx:Int} {ok:Bool} {L:List FE}:(SpwX.mk i k cap fx ok L).fx=fx:=(rfl)
theorem Jl {i k cap:Nat} {fx:Int} {ok:Bool} {L:List FE}:(SpwX.mk i k cap fx ok L).ok=ok:=(rfl)
theorem Hz {i k cap:Nat} {fx:Int} {ok:Bool} {L:List FE}:(SpwX.mk i k cap fx ok L).L=L:=(rfl)
abbrev HB (k cap:Nat) (f t fx:Int) (L:List FE):Blk:=.box 47 [i64 f,i64 t,i64 fx,As 2 2 k cap (A5 L)]
def GG (b3 b4 b6 b7:Nat) (f t:Int) (s:Int) (mk:List (Nat×Blk)) (y:SpwX):List (Nat×Blk) :=
 Ah 51 2 y.k y.cap (A5 y.L)++((b7,.box 4 [bv y.ok])::(b6,HB y.k y.cap f t y.fx y.L)::(b4,.box 47 [i64 0,i64 0,i64 0,.nilsl 2])::(b3,.box 82 [i64 f,i64 t,u64 s])::mk)
def Gb (bm:Nat) (c:CoreX) (k1 p1 k2 p2:Nat) (CW:List FE) (BW:List Int):List (Nat×Blk):=(bm,.box 68 (Im c (As 2 2 k1 p1 (A5 CW)) (As 1 1 k2 p2 (AU BW))))::(Ah 51 2 k1 p1 (A5 CW)++Ah 3 1 k2 p2 (AU BW))
set_option maxRecDepth 20000 in
set_option maxHeartbeats 4000000 in
theorem AS3 {c:CoreX} {bm k1 p1 k2 p2:Nat} {f t sv:Int} {CW:List FE} {BW:List Int} (hc:c.Fit) (hg:goodC c) (hCW:∀p∈CW,GB p) (hCl:CW.length=c.ps.length) (hBW:Jf BW) (hBl:BW.length=c.ps.length) (hnm:(AN (Gb bm c k1 p1 k2 p2 CW BW)).Nodup) :
  CallW Tryz.prog Sx [.ptr bm 0,.agg [i64 f,i64 t,u64 sv]] (Ad (Gb bm c k1 p1 k2 p2 CW BW)) fun r H'=>∃k cap fx ok L,r = .tup [.agg [i64 f,i64 t,i64 fx,As 2 2 k cap (A5 L)],bv ok]∧Fit fx∧(∀p∈L,GB p)∧L.length=c.ms.length∧(∃rest,AS H' (Ah 51 2 k cap (A5 L)++rest++Gb bm c k1 p1 k2 p2 CW BW)∧(AN (Ah 51 2 k cap (A5 L)++rest++Gb bm c k1 p1 k2 p2 CW BW)).Nodup):=by
 obtain ⟨⟨g1,g2⟩,⟨g3,g4⟩,g5,g6,g7,g8⟩:=hg.hd
 have hmk:=EQ hnm
 obtain ⟨mk,hmkd⟩:∃mk,Gb bm c k1 p1 k2 p2 CW BW=mk:=⟨_,rfl⟩
 have hbm:∀{H:Heap},AS H mk→H bm=some (.box 68 (Im c (As 2 2 k1 p1 (A5 CW)) (As 1 1 k2 p2 (AU BW)))):=fun h=>by rw [←hmkd] at h; exact h.1
 rw [hmkd] at hmk hnm ⊢
 obtain ⟨H0,hH0⟩:∃H0,Ad mk=H0:=⟨_,rfl⟩
 rw [hH0] at hmk ⊢
 refine AZ S6 (by simp) ?_
 simp -implicitDefEqProofs -proj only [go_sem,seval]
 refine AI (fun b3 hb3=>?_)
 have a3:=GE (x:=.box 82 [i64 f,i64 t,u64 sv]) hb3 hmk
 have e3:=GR (x:=.box 82 [i64 f,i64 t,u64 sv]) hb3 hmk hnm
 simp -implicitDefEqProofs -proj only [go_sem,seval]
 refine AI (fun b4 hb4=>?_)
 have a4:=GE (x:=.box 47 [i64 0,i64 0,i64 0,.nilsl 2]) hb4 a3
 have e4:=GR (x:=.box 47 [i64 0,i64 0,i64 0,.nilsl 2]) hb4 a3 e3
 replace hb4:upd H0 b3 _ b4=none:=hb4
 obtain ⟨n1,n2⟩:=AG hb4 AP
 simp -implicitDefEqProofs -proj only [go_sem,seval,n1,n2]
 refine AI (fun b6 hb6=>?_)
 replace hb6:upd (upd H0 b3 _) b4 _ b6=none:=hb6
 obtain ⟨n3,n4⟩:=AG hb6 AP
 obtain ⟨n5,n6⟩:=AG hb6 (by rw [AD n1]; exact AP)
 simp -implicitDefEqProofs -proj only [go_sem,seval,n1,n2,n3,n4,n5,n6]
 have a6:=GE (x:=HB 0 0 f t 0 []) hb6 a4
 have e6:=GR (x:=HB 0 0 f t 0 []) hb6 a4 e4
 refine AI (fun b7 hb7=>?_)
 replace hb7:upd (upd (upd H0 b3 _) b4 _) b6 _ b7=none:=hb7
 have a7:=GE (x:=.box 4 [bv true]) hb7 a6
 have e7:=GR (x:=.box 4 [bv true]) hb7 a6 e6
 obtain ⟨n7,n8⟩:=AG hb7 AP
 obtain ⟨n9,n10⟩:=AG hb7 (by rw [AD n3]; exact AP)
 obtain ⟨n11,n12⟩:=AG hb7 (by rw [AD n5,AD n1]; exact AP)
 have hbm7:=hbm a7.2.2.2.2
 simp -implicitDefEqProofs only [AX] at hbm7
 simp -implicitDefEqProofs -proj only [go_sem,seval,n1,n2,n3,n4,n5,n6,n7,n8,n9,n10,n11,n12,hbm7,FO]
 refine BJ (fun y:SpwX=>y.i≤c.ms.length∧y.fx=0∧y.ok=true∧y.L.length=y.i∧(∀p∈y.L,GB p)∧(AN (GG b3 b4 b6 b7 f t sv mk y)).Nodup) 125 (fun y=>[(0,.ptr bm 0),(3,.ptr b3 0),(4,.ptr b4 0),(6,.ptr b6 0),(7,.ptr b7 0),(8,.fn I9 [.ptr b6 0,.ptr b7 0]),(29,.d (.sl 5 (BV c.ms))),(30,i64 c.ms.length),(31,i64 y.i)]) (GG b3 b4 b6 b7 f t sv mk) (fun y=>c.ms.length-y.i) ⟨0,0,0,0,true,[]⟩ ⟨Nat.zero_le _,rfl,rfl,rfl,fun p h=>(by cases h),e7⟩ rfl ?_ ?_ ?_
 ·simp -implicitDefEqProofs -proj only [go_sem,seval,AL,Fd]
  try rfl
 ·have a7':AS _ (GG b3 b4 b6 b7 f t sv mk ⟨0,0,0,0,true,[]⟩):=a7
  exact a7'
 rintro ⟨i,k,cap,fx,ok,L⟩ ⟨hi,hfx,hok,hLl,hLo,hnd⟩
 simp -implicitDefEqProofs only [Fd,If,Jl,Hz] at hi hfx hok hLl hLo
 subst hfx; subst hok
 have hall:=EQ hnd
 obtain ⟨H,hH⟩:∃H,Ad (GG b3 b4 b6 b7 f t sv mk ⟨i,k,cap,0,true,L⟩)=H:=⟨_,rfl⟩
 rw [hH] at hall
 simp -implicitDefEqProofs only [GG,Fd,HY,HQ,If,Jl,Hz] at hall hnd
 obtain ⟨hrow,h7,h6,h4,h3,hmkH⟩:=Ar.1 hall
 have hbmH:=hbm hmkH
 by_cases hlt:i<c.ms.length
 ·have hmx:=(fitsC.bnd hg).mx i hlt
  have hel:=G8 hlt
  have hfl:=SL (n:=(c.ms[i].mx+1).toNat) (v:=0) (by omega) (by omega) (by decide)
  rw [show (((c.ms[i].mx+1).toNat:Nat):Int)-1=c.ms[i].mx by omega] at hfl
  have hraw:=PS (l:=List.replicate (c.ms[i].mx+1).toNat (0:Int)) (by rw [List.length_replicate]; omega)
  have hl1:(A5 L).length=i:=by rw [IH,hLl]
  generalize List.replicate (c.ms[i].mx+1).toNat (0:Int)=lq at *
  generalize c.ms[i]=m at *
  simp -implicitDefEqProofs -proj only [go_sem,seval,Fd,HY,HQ,hH,decide_eq_true (show (i:Int)<c.ms.length by omega)]
  refine Ai _ (by omega) hel ?_
  simp -implicitDefEqProofs -proj only [go_sem,seval]
  refine AI (fun b10 hb10=>?_)
  replace hb10:H b10=none:=hb10
  obtain ⟨y1,y2⟩:=AG hb10 h6
  simp -implicitDefEqProofs -proj only [go_sem,seval,y1,y2]
  refine AK hfl ?_
  simp -implicitDefEqProofs -proj only [go_sem,seval,y1,y2]
  refine AI (fun b11 hb11=>?_)
  simp -implicitDefEqProofs only [AX] at hb11
  have z1:¬b10=b11:=fun e=>by subst e; simp at hb11
  have z2:¬b11=b10:=fun e=>z1 e.symm
  have hb11':H b11=none:=by simpa only [z1,↓reduceIte] using hb11
  obtain ⟨y3,y4⟩:=AG hb11' h6
  simp -implicitDefEqProofs -proj only [go_sem,seval,y1,y2,y3,y4,z1,z2,h6]
  refine Ao (fun bs hs=>?_)
  simp -implicitDefEqProofs only [AX,y1,y2,y3,y4,z1,z2] at hs
  have z3:¬b10=bs:=fun e=>by subst e; simp [z1,z2] at hs
  have z4:¬b11=bs:=fun e=>by subst e; simp [z1,z2] at hs
  have hbs':H bs=none:=by simpa only [z3,z4,↓reduceIte] using hs
  simp -implicitDefEqProofs -proj only [go_sem,seval,y1,y2,y3,y4,z1,z2,z3,z4]
  have hA:∀X Y Z,AS (upd (upd (upd H b10 X) b11 Y) bs Z) _:=fun X Y Z=>Aj (by rw [AD z4,AD z3]; exact hbs') (Aj (by rw [AD z1]; exact hb11') (Aj hb10 hall))
  refine FB (xs:=A5 L) (y:=[.int .i64 ((lq.length:Int)-1),.sl 5 (A0 (ER lq))]) (t:=51) (capc:=1) _ rfl (hA _ _ _) hnd (by simp -implicitDefEqProofs -proj only [go_sem,seval]; try rfl) (by rw [hl1]; omega) (by rw [hl1]; omega) (fun H' c' cap' ha hk=>?_)
  rw [show A5 L++[[.int .i64 ((lq.length:Int)-1),.sl 5 (A0 (ER lq))]]=A5 (L++[((lq.length:Int)-1,ER lq)]) by simp [A5]] at ha hk
  have hne2:A5 (L++[((lq.length:Int)-1,ER lq)])≠[]:=by simp [A5]
  have hl2:(A5 (L++[((lq.length:Int)-1,ER lq)])).length=i+1:=by rw [IH,List.length_append,hLl]; rfl
  have h6':H' b6=some (HB k cap f t 0 L):=(Ar.1 ha).2.2.1
  simp -implicitDefEqProofs -proj only [go_sem,seval,h6']
  have hup:=Fl (A:=Ah 51 2 c' cap' (A5 (L++[((lq.length:Int)-1,ER lq)]))++[(b7,.box 4 [bv true])]) (b:=b6) (x:=HB k cap f t 0 L) (x':=HB c' cap' f t 0 (L++[((lq.length:Int)-1,ER lq)])) (B:=(b4,.box 47 [i64 0,i64 0,i64 0,.nilsl 2])::(b3,.box 82 [i64 f,i64 t,u64 sv])::mk) (by simpa only [List.append_assoc,List.cons_append,List.nil_append] using ha) (by simpa only [List.append_assoc,List.cons_append,List.nil_append] using hk)
  refine Ac ⟨i+1,c',cap',0,true,L++[((lq.length:Int)-1,ER lq)]⟩ ⟨by show i+1≤c.ms.length; omega,rfl,rfl,by simp -implicitDefEqProofs only [Hz,Fd,List.length_append,List.length_singleton,hLl],fun p hp=>?_,?_⟩ (by show c.ms.length-(i+1)<c.ms.length-i; omega) rfl ?_ ?_
  ·rcases List.mem_append.1 hp with h | h
   ·exact hLo p h
   ·rw [List.mem_singleton] at h; subst h; exact hraw
  ·simpa only [GG,AN,Fd,HY,HQ,If,Jl,Hz,List.map_append,List.map_cons,List.map_nil] using hk
  ·simp -implicitDefEqProofs -proj only [go_sem,seval,AL,Fd,HY,HQ,AR (show i<9223372036854775807 by omega)]
  ·simpa only [GG,Fd,HY,HQ,If,Jl,Hz,List.append_assoc,List.cons_append,List.nil_append,HB,EM hne2,hl2,hl1] using hup
 have hi':i=c.ms.length:=by omega
 subst hi'
 clear hlt hi
 simp -implicitDefEqProofs -proj only [go_sem,seval,Fd,HY,HQ,hH,decide_eq_false (show ¬(c.ms.length:Int)<c.ms.length by omega),hbmH,Fr]
 refine BJ (fun y:SpwX=>y.i≤c.ss.length∧y.k=k∧y.cap=cap∧y.L=L∧Fit y.fx∧(AN (GG b3 b4 b6 b7 f t sv mk y)).Nodup) 125 (fun y=>[(0,.ptr bm 0),(3,.ptr b3 0),(4,.ptr b4 0),(6,.ptr b6 0),(7,.ptr b7 0),(8,.fn I9 [.ptr b6 0,.ptr b7 0]),(52,.d (.sl 3 (Ey c.ss))),(53,i64 c.ss.length),(54,i64 y.i)]) (GG b3 b4 b6 b7 f t sv mk) (fun y=>c.ss.length-y.i) ⟨0,k,cap,0,true,L⟩ ⟨Nat.zero_le _,rfl,rfl,rfl,by show Fit 0; decide,hnd⟩ rfl ?_ ?_ ?_
 ·simp -implicitDefEqProofs -proj only [go_sem,seval,AL,Fd]
  try rfl
 ·exact hall
 rintro ⟨i,k',cap',fx,ok,L'⟩ ⟨hi,rk,rc,rL,hfx,hnd2⟩
 simp -implicitDefEqProofs only [Fd,HY,HQ,Hz,If] at hi rk rc rL hfx
 subst rk; subst rc; subst rL
 have hall2:=EQ hnd2
 clear hall hrow h7 h6 h4 h3 hmkH hbmH hH
 obtain ⟨H,hH⟩:∃H,Ad (GG b3 b4 b6 b7 f t sv mk ⟨i,k',cap',fx,ok,L'⟩)=H:=⟨_,rfl⟩
 rw [hH] at hall2
 simp -implicitDefEqProofs only [GG,Fd,HY,HQ,If,Jl,Hz] at hall2 hnd2
 obtain ⟨hrow,h7,h6,h4,h3,hmkH⟩:=Ar.1 hall2
 have hbmH:=hbm hmkH
 by_cases hlt:i<c.ss.length
 ·have hel:=KM hlt
  have hsok:=(hc.ss _ (List.getElem_mem hlt)).1
  have hhas:=N0 (a:=sv) (b:=((Gh (i:Int):Nat):Int))
  generalize decide (H9 .u64 sv ((Gh (i:Int):Nat):Int)=((Gh (i:Int):Nat):Int))=hb at *
  generalize c.ss[i]=m at *
  simp -implicitDefEqProofs -proj only [go_sem,seval,Fd,hH,decide_eq_true (show (i:Int)<c.ss.length by omega)]
  refine Ai _ (by omega) hel ?_
  simp -implicitDefEqProofs -proj only [go_sem,seval]
  refine AI (fun b14 hb14=>?_)
  replace hb14:H b14=none:=hb14
  obtain ⟨y1,y2⟩:=AG hb14 h6
  obtain ⟨y3,y4⟩:=AG hb14 h7
  obtain ⟨y5,y6⟩:=AG hb14 h3
  simp -implicitDefEqProofs -proj only [go_sem,seval,y1,y2,y3,y4,y5,y6,h3]
  refine Eb Pb ?_
  simp -implicitDefEqProofs -proj only [go_sem,seval]
  refine AK hhas ?_
  cases hb
  ·simp -implicitDefEqProofs -proj only [go_sem,seval,y1,y2,y3,y4,y5,y6]
   refine Ac ⟨i+1,k',cap',fx,ok,L'⟩ ⟨by show i+1≤c.ss.length; omega,rfl,rfl,rfl,hfx,hnd2⟩ (by show c.ss.length-(i+1)<c.ss.length-i; omega) rfl ?_ ?_
   ·simp -implicitDefEqProofs -proj only [go_sem,seval,AL,Fd,AR (show i<9223372036854775807 by omega)]
   ·exact Aj hb14 hall2
  ·simp -implicitDefEqProofs -proj only [go_sem,seval,y1,y2,y3,y4,y5,y6]
   refine Ek (Qt (f:=f) (t:=t) (fx:=fx) (cv:=As 2 2 k' cap' (A5 L')) (ok:=ok) (fun e=>n7 e.symm) (by simp -implicitDefEqProofs -proj only [go_sem,seval,y1]; exact h6) (by simp -implicitDefEqProofs -proj only [go_sem,seval,y3]; exact h7) hfx hsok) ?_
   rintro r H' ⟨fx',ok',hfx',hk⟩
   have hA:=fun y=>Aj (y:=y) hb14 hall2
   have hB:=fun y=>Fl (A:=Ah 51 2 k' cap' (A5 L')++[(b7,.box 4 [bv ok])]) (b:=b6) (x':=HB k' cap' f t fx' L') (by simpa only [List.append_assoc,List.cons_append,List.nil_append] using hA y) (by simpa only [List.append_assoc,List.cons_append,List.nil_append] using hnd2)
   have hC:=fun y=>Fl (A:=Ah 51 2 k' cap' (A5 L')) (b:=b7) (x:=.box 4 [bv ok]) (x':=.box 4 [bv ok']) (by simpa only [List.append_assoc,List.cons_append,List.nil_append] using hB y) (by simpa only [List.append_assoc,List.cons_append,List.nil_append,AN,List.map_append,List.map_cons] using hnd2)
   subst hk
   simp -implicitDefEqProofs -proj only [go_sem,seval]
   refine Ac ⟨i+1,k',cap',fx',ok',L'⟩ ⟨by show i+1≤c.ss.length; omega,rfl,rfl,rfl,hfx',?_⟩ (by show c.ss.length-(i+1)<c.ss.length-i; omega) rfl ?_ ?_
   ·simpa only [GG,Fd,HY,HQ,If,Jl,Hz,AN,List.map_append,List.map_cons] using hnd2
   ·simp -implicitDefEqProofs -proj only [go_sem,seval,AL,Fd,AR (show i<9223372036854775807 by omega)]
   ·exact hC _
 have hi':i=c.ss.length:=by omega
 subst hi'
 clear hlt hi
 simp -implicitDefEqProofs -proj only [go_sem,seval,Fd,hH,decide_eq_false (show ¬(c.ss.length:Int)<c.ss.length by omega),hbmH,FR]
 refine BJ (fun y:SpwX=>y.i≤c.ps.length∧y.k=k'∧y.cap=cap'∧y.L.length=c.ms.length∧(∀p∈y.L,GB p)∧Fit y.fx∧(AN (GG b3 b4 b6 b7 f t sv mk y)).Nodup) 125 (fun y=>[(0,.ptr bm 0),(3,.ptr b3 0),(4,.ptr b4 0),(6,.ptr b6 0),(7,.ptr b7 0),(8,.fn I9 [.ptr b6 0,.ptr b7 0]),(73,.d (.sl 9 (Ea c.ps))),(74,i64 c.ps.length),(75,i64 y.i)]) (GG b3 b4 b6 b7 f t sv mk) (fun y=>c.ps.length-y.i) ⟨0,k',cap',fx,ok,L'⟩ ⟨Nat.zero_le _,rfl,rfl,hLl,hLo,hfx,hnd2⟩ rfl ?_ ?_ ?_
 ·simp -implicitDefEqProofs -proj only [go_sem,seval,AL,Fd]
  try rfl
 ·exact hall2
 clear hall2 hrow h7 h6 h4 h3 hmkH hbmH hH hnd hnd2
 rintro ⟨i,k3,cap3,fx3,ok3,L3⟩ ⟨hi,rk,rc,hLl3,hLo3,hfx3,hnd3⟩
 simp -implicitDefEqProofs only [Fd,HY,HQ,Hz,If] at hi rk rc hLl3 hLo3 hfx3
 subst rk; subst rc
 have hall3:=EQ hnd3
 obtain ⟨H,hH⟩:∃H,Ad (GG b3 b4 b6 b7 f t sv mk ⟨i,k3,cap3,fx3,ok3,L3⟩)=H:=⟨_,rfl⟩
 rw [hH] at hall3
 simp -implicitDefEqProofs only [GG,Fd,HY,HQ,If,Jl,Hz] at hall3 hnd3
 obtain ⟨hrow,h7,h6,h4,h3,hmkH⟩:=Ar.1 hall3
 have hbmH:=hbm hmkH
 by_cases hlt:i<c.ps.length
 ·have hel:=IV hlt
  have hme:=(fitsC.bnd hg).me _ (List.getElem_mem hlt)
  have hhas:=N0 (a:=sv) (b:=((HL (i:Int):Nat):Int))
  generalize decide (H9 .u64 sv ((HL (i:Int):Nat):Int)=((HL (i:Int):Nat):Int))=hb at *
  obtain ⟨m,hm⟩:∃m:Nat,c.ps[i].me=m:=⟨_,(Int.toNat_of_nonneg hme.1).symm⟩
  have hml:m<c.ms.length:=by omega
  generalize c.ps[i]=x at *
  simp -implicitDefEqProofs -proj only [go_sem,seval,Fd,HY,HQ,hH,decide_eq_true (show (i:Int)<c.ps.length by omega)]
  refine Ai _ (by omega) hel ?_
  simp -implicitDefEqProofs -proj only [go_sem,seval]
  refine AI (fun b16 hb16=>?_)
  replace hb16:H b16=none:=hb16
  obtain ⟨y1,y2⟩:=AG hb16 h6
  obtain ⟨y3,y4⟩:=AG hb16 h7
  obtain ⟨y5,y6⟩:=AG hb16 h3
  obtain ⟨y7,y8⟩:=AG hb16 hbmH
  simp -implicitDefEqProofs -proj only [go_sem,seval,y1,y2,y3,y4,y5,y6,h3]
  refine Eb O1 ?_
  simp -implicitDefEqProofs -proj only [go_sem,seval]
  refine AK hhas ?_
  cases hb
  ·simp -implicitDefEqProofs -proj only [go_sem,seval,y1,y2,y3,y4,y5,y6]
   refine Ac ⟨i+1,k3,cap3,fx3,ok3,L3⟩ ⟨by show i+1≤c.ps.length; omega,rfl,rfl,hLl3,hLo3,hfx3,hnd3⟩ (by show c.ps.length-(i+1)<c.ps.length-i; omega) rfl ?_ ?_
   ·simp -implicitDefEqProofs -proj only [go_sem,seval,AL,Fd,AR (show i<9223372036854775807 by omega)]
   ·exact Aj hb16 hall3
  ·have hneb:AU BW≠[]:=by intro e; have:=congrArg List.length e; rw [rowI_len,List.length_nil] at this; omega
   have hner:A5 CW≠[]:=by intro e; have:=congrArg List.length e; rw [IH,List.length_nil] at this; omega
   have hned:A5 L3≠[]:=by intro e; have:=congrArg List.length e; rw [IH,List.length_nil] at this; omega
   have hlb:(AU BW).length=c.ps.length:=by rw [rowI_len,hBl]
   have hlr:(A5 CW).length=c.ps.length:=by rw [IH,hCl]
   have hld:(A5 L3).length=c.ms.length:=by rw [IH,hLl3]
   have hiB:i<BW.length:=by omega
   have hiC:i<CW.length:=by omega
   have hmL:m<L3.length:=by omega
   have hb2:(AU BW)[i]? = some [.int .i64 BW[i]]:=KF (List.getElem?_eq_getElem hiB)
   have hb3:=My hiC
   have hbd:=My hmL
   have hfb:=hBW i hiB
   have hrC:=hCW _ (List.getElem_mem hiC)
   have hrL:=hLo3 _ (List.getElem_mem hmL)
   have hk2:H k2=some (.row 3 1 p2 (AU BW)):=by
    have h:=hmkH
    rw [←hmkd] at h
    have h:=(Ar.1 h.2).2
    rw [Ed hneb] at h
    exact h.1
   have hk1:H k1=some (.row 51 2 p1 (A5 CW)):=by
    have h:=hmkH
    rw [←hmkd] at h
    have h:=(Ar.1 h.2).1
    rw [Ed hner] at h
    exact h.1
   obtain ⟨w1,w2⟩:=AG hb16 hk2
   rw [EM hneb,EM hner] at hbmH
   generalize BW[i]=bb at *
   generalize hCi:CW[i]=pC at *
   generalize hLi:L3[m]=pL at *
   obtain ⟨pr,u,hrr,hsum⟩:=AB8 hrL hrC
   simp -implicitDefEqProofs -proj only [go_sem,seval,y1,y2,y3,y4,y5,y6,y7,y8,hbmH,hlb]
   (repeat' (with_reducible refine Aa ?_ (fun h=>?_); (focus first | decide | omega); clear h; try simp -implicitDefEqProofs -proj only [go_sem,seval,eq_self,y1,y2,y3,y4,y5,y6,y7,y8,hbmH,hlb,w1,w2,hk2]))
   refine BC _ hb2 (by simp) ?_
   simp -implicitDefEqProofs -proj only [go_sem,seval,y1,y2,y3,y4,y5,y6,y7,y8]
   refine Ek (Qt (f:=f) (t:=t) (fx:=fx3) (cv:=As 2 2 k3 cap3 (A5 L3)) (ok:=ok3) (fun e=>n7 e.symm) (by simp -implicitDefEqProofs -proj only [go_sem,seval,y1]; exact h6) (by simp -implicitDefEqProofs -proj only [go_sem,seval,y3]; exact h7) hfx3 hfb) ?_
   rintro r H2 ⟨fx4,ok4,hfx4,hk⟩
   have hA:=fun y=>Aj (y:=y) hb16 hall3
   have hB:=fun y=>Fl (A:=Ah 51 2 k3 cap3 (A5 L3)++[(b7,.box 4 [bv ok3])]) (b:=b6) (x':=HB k3 cap3 f t fx4 L3) (by simpa only [List.append_assoc,List.cons_append,List.nil_append] using hA y) (by simpa only [List.append_assoc,List.cons_append,List.nil_append] using hnd3)
   have hC:AS H2 (Ah 51 2 k3 cap3 (A5 L3)++((b7,.box 4 [bv ok4])::(b6,HB k3 cap3 f t fx4 L3)::(b4,.box 47 [i64 0,i64 0,i64 0,.nilsl 2])::(b3,.box 82 [i64 f,i64 t,u64 sv])::mk)):=by
    have hh:=fun y=>Fl (A:=Ah 51 2 k3 cap3 (A5 L3)) (b:=b7) (x:=.box 4 [bv ok3]) (x':=.box 4 [bv ok4]) (by simpa only [List.append_assoc,List.cons_append,List.nil_append] using hB y) (by simpa only [List.append_assoc,List.cons_append,List.nil_append,AN,List.map_append,List.map_cons] using hnd3)
    rw [hk]
    exact hh _
   have h16':H2 b16=some (.box 40 [i64 x.me,i64 x.f,i64 x.t,i64 x.al,i64 x.bl,i64 x.ki,EZ x.ts,i64 x.mo,Ec x.ad]):=by
    rw [hk,AD y4,AD y2]; simp -implicitDefEqProofs -proj only [go_sem,seval]
   clear hk hA hB
   obtain ⟨hrow',h7',h6',h4',h3',hmkH'⟩:=Ar.1 hC
   have hbm':=hbm hmkH'
   have hk1':H2 k1=some (.row 51 2 p1 (A5 CW)):=by
    have h:=hmkH'
    rw [←hmkd] at h
    have h:=(Ar.1 h.2).1
    rw [Ed hner] at h
    exact h.1
   have hk2':H2 k3=some (.row 51 2 cap3 (A5 L3)):=by
    have h:=hrow'
    rw [Ed hned] at h
    exact h.1
   rw [EM hneb,EM hner] at hbm'
   simp -implicitDefEqProofs only [HB] at h6'
   rw [EM hned] at h6'
   rw [hm] at h16'
   simp -implicitDefEqProofs -proj only [go_sem,seval,h6',h16',hbm',hlr,hld]
   (repeat' (with_reducible refine Aa ?_ (fun h=>?_); (focus first | decide | omega); clear h; try simp -implicitDefEqProofs -proj only [go_sem,seval,eq_self,h6',h16',hbm',hlr,hld,hk1',hk2']))
   refine Cg _ hbd (by simp) ?_
   simp -implicitDefEqProofs -proj only [go_sem,seval,h6',h16',hbm',hlr,hld]
   (repeat' (with_reducible refine Aa ?_ (fun h=>?_); (focus first | decide | omega); clear h; try simp -implicitDefEqProofs -proj only [go_sem,seval,eq_self,h6',h16',hbm',hlr,hld,hk1',hk2']))
   refine Cg _ hb3 (by simp) ?_
   simp -implicitDefEqProofs -proj only [go_sem,seval,h6',h16',hbm',hlr,hld]
   refine Eb hsum ?_
   simp -implicitDefEqProofs -proj only [go_sem,seval,h6',h16',hbm',hlr,hld]
   refine AI (fun b17 hb17=>?_)
   replace hb17:H2 b17=none:=hb17
   obtain ⟨u1,u2⟩:=AG hb17 h6'
   obtain ⟨u3,u4⟩:=AG hb17 h7'
   obtain ⟨u5,u6⟩:=AG hb17 h16'
   obtain ⟨u7,u8⟩:=AG hb17 hk2'
   simp -implicitDefEqProofs -proj only [go_sem,seval,h6',h16',hbm',hlr,hld,u1,u2,u3,u4,u5,u6,u7,u8]
   (repeat' (with_reducible refine Aa ?_ (fun h=>?_); (focus first | decide | omega); clear h; try simp -implicitDefEqProofs -proj only [go_sem,seval,eq_self,h6',h7',h16',hbm',hlr,hld,hk1',hk2',u1,u2,u3,u4,u5,u6,u7,u8]))
   have v1:¬k3=b7:=fun e=>by
    rw [e] at hk2'; rw [hk2'] at h7'; cases h7'
   have v2:¬b7=k3:=fun e=>v1 e.symm
   have hset:(A5 L3).set m [.int .i64 pr.1,.sl 5 (A0 pr.2)]=A5 (L3.set m pr):=by simp -implicitDefEqProofs only [A5,List.map_set]
   have hned2:A5 (L3.set m pr)≠[]:=by intro e; have:=congrArg List.length e; rw [IH,List.length_nil,List.length_set] at this; omega
   have hld2:(A5 (L3.set m pr)).length=c.ms.length:=by rw [IH,List.length_set,hLl3]
   have hnd4:(AN ((k3,Blk.row 51 2 cap3 (A5 L3))::(b7,.box 4 [bv ok4])::(b6,HB k3 cap3 f t fx4 L3)::(b4,.box 47 [i64 0,i64 0,i64 0,.nilsl 2])::(b3,.box 82 [i64 f,i64 t,u64 sv])::mk)).Nodup:=by
    have h:=hnd3
    rw [Ed hned] at h
    simpa only [AN,List.map_cons,List.cons_append,List.nil_append] using h
   have hD:=fun y=>Aj (y:=y) hb17 hC
   rw [Ed hned] at hD
   have hE:=fun y=>Fl (A:=[]) (b:=k3) (x':=Blk.row 51 2 cap3 (A5 (L3.set m pr))) (hD y) hnd4
   have hF:=fun w y=>Fl (A:=[(k3,Blk.row 51 2 cap3 (A5 (L3.set m pr)))]) (b:=b7) (x:=.box 4 [bv ok4]) (x':=.box 4 [bv w]) (hE y) (by simpa only [AN,List.map_cons,List.cons_append,List.nil_append] using hnd4)
   have hLo4:∀p∈L3.set m pr,GB p:=fun p hp=>by
    rcases List.mem_or_eq_of_mem_set hp with h | h
    ·exact hLo3 p h
    ·subst h; exact hrr
   have hfin:∀(w:Bool) (y:Option Blk) (t':TM),AL t' [(0,.ptr bm 0),(3,.ptr b3 0),(4,.ptr b4 0),(6,.ptr b6 0),(7,.ptr b7 0),(8,.fn I9 [.ptr b6 0,.ptr b7 0]),(73,.d (.sl 9 (Ea c.ps))),(74,i64 c.ps.length),(75,i64 ((i+1:Nat):Int))] →
     Ik (fun y:SpwX=>y.i≤c.ps.length∧y.k=k3∧y.cap=cap3∧y.L.length=c.ms.length∧(∀p∈y.L,GB p)∧Fit y.fx∧(AN (GG b3 b4 b6 b7 f t sv mk y)).Nodup) (fun y=>⟨125,E8 [(0,.ptr bm 0),(3,.ptr b3 0),(4,.ptr b4 0),(6,.ptr b6 0),(7,.ptr b7 0),(8,.fn I9 [.ptr b6 0,.ptr b7 0]),(73,.d (.sl 9 (Ea c.ps))),(74,i64 c.ps.length),(75,i64 y.i)],Ad (GG b3 b4 b6 b7 f t sv mk y)⟩) (fun y=>c.ps.length-y.i) ⟨i,k3,cap3,fx3,ok3,L3⟩
      (E2 Tryz.prog (BN [.cell 4 (some 4),.tmp 5] fun r H'=>∃k cap fx ok L,r = .tup [.agg [i64 f,i64 t,i64 fx,As 2 2 k cap (A5 L)],bv ok]∧Fit fx∧(∀p∈L,GB p)∧L.length=c.ms.length∧(∃rest,AS H' (Ah 51 2 k cap (A5 L)++rest++mk)∧(AN (Ah 51 2 k cap (A5 L)++rest++mk)).Nodup)) [.blk 4,.code ((ACode.dops SK).seq .ret)])
      .normal ⟨125,t',upd (upd (upd H2 b17 y) k3 (some (.row 51 2 cap3 (A5 (L3.set m pr))))) b7 (some (.box 4 [bv w]))⟩:=fun w y t' ht=>by
    refine Ac ⟨i+1,k3,cap3,fx4,w,L3.set m pr⟩ ⟨by show i+1≤c.ps.length; omega,rfl,rfl,by simp -implicitDefEqProofs only [Hz,List.length_set,hLl3],hLo4,hfx4,?_⟩ (by show c.ps.length-(i+1)<c.ps.length-i; omega) rfl ht ?_
    ·simp -implicitDefEqProofs only [GG,Fd,HY,HQ,If,Jl,Hz]
     rw [Ed hned2]
     simpa only [AN,List.map_cons,List.cons_append,List.nil_append] using hnd4
    ·simp -implicitDefEqProofs only [GG,Fd,HY,HQ,If,Jl,Hz]
     rw [Ed hned2]
     have hG:=hF w y
     simp -implicitDefEqProofs only [HB,EM hned2,hld2]
     simp -implicitDefEqProofs only [HB,EM hned,hld] at hG
     exact hG
   cases ok4
   ·simp -implicitDefEqProofs -proj only [go_sem,seval]
    refine OJ (cap:=cap3) (t:=51) (xs:=A5 L3) (el:=[.int .i64 pL.1,.sl 5 (A0 pL.2)]) (by simp -implicitDefEqProofs -proj only [go_sem,seval,u7,u8]; exact hk2') (by rw [Int.toNat_natCast]; exact hbd) (by simp) ?_
    simp -implicitDefEqProofs -proj only [go_sem,seval,Int.toNat_natCast,F4,hset,u1,u2,u3,u4,u5,u6,u7,u8,h7',v1,v2]
    refine hfin false _ _ ?_
    simp -implicitDefEqProofs -proj only [go_sem,seval,AL,AR (show i<9223372036854775807 by omega)]
   ·cases u
    ·simp -implicitDefEqProofs -proj only [go_sem,seval]
     refine OJ (cap:=cap3) (t:=51) (xs:=A5 L3) (el:=[.int .i64 pL.1,.sl 5 (A0 pL.2)]) (by simp -implicitDefEqProofs -proj only [go_sem,seval,u7,u8]; exact hk2') (by rw [Int.toNat_natCast]; exact hbd) (by simp) ?_
     simp -implicitDefEqProofs -proj only [go_sem,seval,Int.toNat_natCast,F4,hset,u1,u2,u3,u4,u5,u6,u7,u8,h7',v1,v2]
     refine hfin false _ _ ?_
     simp -implicitDefEqProofs -proj only [go_sem,seval,AL,AR (show i<9223372036854775807 by omega)]
    ·simp -implicitDefEqProofs -proj only [go_sem,seval]
     refine OJ (cap:=cap3) (t:=51) (xs:=A5 L3) (el:=[.int .i64 pL.1,.sl 5 (A0 pL.2)]) (by simp -implicitDefEqProofs -proj only [go_sem,seval,u7,u8]; exact hk2') (by rw [Int.toNat_natCast]; exact hbd) (by simp) ?_
     simp -implicitDefEqProofs -proj only [go_sem,seval,Int.toNat_natCast,F4,hset,u1,u2,u3,u4,u5,u6,u7,u8,h7',v1,v2]
     refine hfin true _ _ ?_
     simp -implicitDefEqProofs -proj only [go_sem,seval,AL,AR (show i<9223372036854775807 by omega)]
 have hi':i=c.ps.length:=by omega
 subst hi'
 have z1:¬b4=b6:=n4
 have z2:¬b6=b4:=n3
 simp -implicitDefEqProofs -proj only [go_sem,seval,Fd,HY,HQ,hH,decide_eq_false (show ¬(c.ps.length:Int)<c.ps.length by omega),h6,h7,h4,n1,n2,n3,n4,n5,n6,n7,n8,n9,n10,n11,n12]
 (repeat' (with_reducible refine Aa ?_ (fun h=>?_); (focus first | decide | omega); clear h; try simp -implicitDefEqProofs -proj only [go_sem,seval,eq_self,h6,h7,h4,n1,n2,n3,n4,n5,n6,n7,n8,n9,n10,n11,n12]))
 refine ⟨k3,cap3,fx3,ok3,L3,rfl,hfx3,hLo3,hLl3,[(b7,.box 4 [bv ok3]),(b6,HB k3 cap3 f t fx3 L3),(b4,.box 47 [i64 f,i64 t,i64 fx3,As 2 2 k3 cap3 (A5 L3)]),(b3,.box 82 [i64 f,i64 t,u64 sv])],?_,?_⟩
 ·have hup:=Fl (A:=Ah 51 2 k3 cap3 (A5 L3)++[(b7,.box 4 [bv ok3]),(b6,HB k3 cap3 f t fx3 L3)]) (b:=b4) (x:=.box 47 [i64 0,i64 0,i64 0,.nilsl 2]) (x':=.box 47 [i64 f,i64 t,i64 fx3,As 2 2 k3 cap3 (A5 L3)]) (B:=(b3,.box 82 [i64 f,i64 t,u64 sv])::mk) (by simpa only [List.append_assoc,List.cons_append,List.nil_append] using hall3) (by simpa only [List.append_assoc,List.cons_append,List.nil_append] using hnd3)
  simpa only [List.append_assoc,List.cons_append,List.nil_append] using hup
 ·simpa only [AN,List.map_append,List.map_cons,List.append_assoc,List.cons_append,List.nil_append,List.map_nil] using hnd3
def F8 (l:List Int) (i:Nat):List Int:=(GA 0 l i).map (·.f)
theorem Ul {l:List Int} {i:Nat} (h:i<l.length):F8 l (i+1)=if i=0∨l.getD (i-1) 0≠l[i] then F8 l i++[(i:Int)] else F8 l i:=by
 unfold F8
 rw [GA,BB]
 have hx:l.getD i 0=l[i]:=by simp [h]
 rw [hx]
 cases i with
 | zero =>
  rw [if_pos (.inl rfl)]
  simp [GA]
 | succ i =>
  obtain ⟨q,h1,h2,h3⟩:=@T9 0 l i
  rw [h1]
  simp -implicitDefEqProofs only [Nat.add_sub_cancel]
  rw [h2]
  by_cases hv:l.getD i 0=l[i+1]
  ·rw [if_pos hv,if_neg (fun h=>h.elim (by omega) (fun e=>e hv))]
   have hne:GA 0 l (i+1)≠[]:=KV
   conv=>rhs; rw [←List.dropLast_concat_getLast hne]
   rw [List.getLast?_eq_some_getLast hne] at h1
   cases h1
   simp
  ·rw [if_neg hv,if_pos (.inr hv)]
   simp
structure RX where
 i:Nat
 c:Nat
 cap:Nat
theorem I0 {i c cap:Nat}:(RX.mk i c cap).i=i:=(rfl)
theorem JQ {i c cap:Nat}:(RX.mk i c cap).c=c:=(rfl)
theorem Jj {i c cap:Nat}:(RX.mk i c cap).cap=cap:=(rfl)
structure RY where
 i:Nat
 d:Nat
 dap:Nat
 G:List Grp
theorem Gy {i d dap:Nat} {G:List Grp}:(RY.mk i d dap G).i=i:=(rfl)
theorem Ia {i d dap:Nat} {G:List Grp}:(RY.mk i d dap G).d=d:=(rfl)
theorem IR {i d dap:Nat} {G:List Grp}:(RY.mk i d dap G).dap=dap:=(rfl)
theorem F6 {i d dap:Nat} {G:List Grp}:(RY.mk i d dap G).G=G:=(rfl)
def LQ (b2:Nat) (l:List Int) (y:RX):List (Nat×Blk):=Ah 3 1 y.c y.cap (AU (F8 l y.i))++[(b2,.box 51 [i64 0,.nilsl 5])]
def JA (b7 b2 c cap:Nat) (l ST:List Int) (y:RY):List (Nat×Blk):=Ah 65 5 y.d y.dap (A0 y.G)++[(b7,.box 51 [i64 ((l.length:Int)-1),As 5 5 y.d y.dap (A0 y.G)]),(b2,.box 51 [i64 0,.nilsl 5]),(c,.row 3 1 cap (AU ST))]
theorem T2 {a:Nat} {A B:List Nat} (h:(a::(A++B)).Nodup):(A++a::B).Nodup:=(List.perm_middle.nodup_iff).2 h
theorem NN {a:Nat} {A B:List Nat} (h:(A++a::B).Nodup):(A++B).Nodup:=(List.nodup_cons.1 ((List.perm_middle.nodup_iff).1 h)).2
set_option maxRecDepth 20000 in
set_option maxHeartbeats 1000000 in
theorem AVY {l:List Int} (hfl:Jf l) (hl:l.length≤3000):NewW Tryz.prog AKq [Jg l] (if BG l then .tup [Ez l,bv true] else .tup [EW 0 [],bv false]):=by
 refine AZ YP (by simp) ?_
 simp -implicitDefEqProofs -proj only [go_sem,seval]
 refine AI (fun b2 hb2=>?_)
 by_cases h0:l.length=0
 ·have:¬BG l:=fun h=>h.1 (List.length_eq_zero_iff.1 h0)
  rw [if_neg this]
  simp -implicitDefEqProofs -proj only [go_sem,seval,rowI_len,decide_eq_true (show (l.length:Int)=0 by omega)]
  exact JB (JJ (.nilsl _ _))
 by_cases h1:2001<(l.length:Int)
 ·have:¬BG l:=fun h=>by have:=h.2.1; omega
  rw [if_neg this]
  simp -implicitDefEqProofs -proj only [go_sem,seval,rowI_len,decide_eq_false (show ¬(l.length:Int)=0 by omega),decide_eq_true h1]
  exact JB (JJ (.nilsl _ _))
 have a2:=GE (x:=.box 51 [i64 0,.nilsl 5]) hb2 (l:=[]) trivial
 have n2:=GR (x:=.box 51 [i64 0,.nilsl 5]) hb2 (l:=[]) trivial List.nodup_nil
 simp -implicitDefEqProofs -proj only [go_sem,seval,rowI_len,decide_eq_false (show ¬(l.length:Int)=0 by omega),decide_eq_false h1]
 refine BJ (fun y:RX=>y.i≤l.length∧(∀(j:Nat) (h:j<l.length),j<y.i→E1 l[j])∧(AN (LQ b2 l y)).Nodup) 165 (fun y=>[(0,Jg l),(2,.ptr b2 0),(4,As 0 1 y.c y.cap (AU (F8 l y.i))),(19,Jg l),(20,i64 l.length),(21,i64 y.i)]) (LQ b2 l) (fun y=>l.length-y.i) ⟨0,0,0⟩ ⟨Nat.zero_le _,fun j _ h=>absurd h (Nat.not_lt_zero _),n2⟩ rfl ?_ ?_ ?_
 ·simp -implicitDefEqProofs -proj only [go_sem,seval,AL,I0,JQ,Jj]
  rfl
 ·simp -implicitDefEqProofs -proj only [go_sem,seval]
  exact a2
 ·rintro ⟨i,c,cap⟩ ⟨hi,hsm,hn⟩
  simp -implicitDefEqProofs only [I0] at hi hsm
  have hall:=EQ hn
  obtain ⟨H,hH⟩:∃H,Ad (LQ b2 l ⟨i,c,cap⟩)=H:=⟨_,rfl⟩
  rw [hH] at hall
  simp -implicitDefEqProofs only [LQ,I0,JQ,Jj] at hall hn
  obtain ⟨hrow,k2,_⟩:=Ar.1 hall
  by_cases h:i<l.length
  ·have hel:=Rm h
   have hst:=Ul h
   have hsl:(F8 l i).length≤i:=by unfold F8; rw [List.length_map]; exact Ll i
   have hstep:E1 l[i]→∀(j:Nat) (h:j<l.length),j<i+1→E1 l[j]:=by
    intro e j h1 h2
    by_cases hj:j=i
    ·subst hj; exact e
    ·exact hsm j h1 (by omega)
   have hno:¬E1 l[i]→¬BG l:=fun e k=>e (k.2.2 _ (List.getElem_mem h))
   have hprev:0<i→(AU l)[((i-1:Nat):Int).toNat]? = some [.int .i64 (l.getD (i-1) 0)]:=fun hp=>by
    rw [Int.toNat_natCast]
    exact KF (by rw [List.getD_eq_getElem?_getD,List.getElem?_eq_getElem (by omega)]; rfl)
   have w1:IntKind.i64.wrap ((i:Int)-1)=(i:Int)-1:=by rw [IntKind.wrap_i64]; omega
   generalize l[i]=x at *
   generalize l.getD (i-1) 0=p at *
   unfold E1 at hstep hno
   simp -implicitDefEqProofs -proj only [go_sem,seval,I0,JQ,Jj,hH,decide_eq_true (show (i:Int)<l.length by omega)]
   refine Ai _ (by omega) hel ?_
   by_cases c1:2305843009213693952<x
   ·rw [if_neg (hno (by omega))]
    simp -implicitDefEqProofs -proj only [go_sem,seval,k2,decide_eq_true c1]
    exact JB (JJ (.nilsl _ _))
   by_cases c2:x < -2305843009213693952
   ·rw [if_neg (hno (by omega))]
    simp -implicitDefEqProofs -proj only [go_sem,seval,k2,decide_eq_false c1,decide_eq_true c2]
    exact JB (JJ (.nilsl _ _))
   by_cases hi0:i=0
   ·rw [if_pos (.inl hi0)] at hst
    simp -implicitDefEqProofs -proj only [go_sem,seval,k2,decide_eq_false c1,decide_eq_false c2,decide_eq_true (show (i:Int)=0 by omega)]
    refine Ao (fun bs hs'=>?_)
    replace hs':H bs=none:=hs'
    simp -implicitDefEqProofs -proj only [go_sem,seval]
    refine FB (xs:=AU (F8 l i)) (y:=[.int .i64 (i:Int)]) (t:=3) (capc:=1) [(b2,.box 51 [i64 0,.nilsl 5])] rfl (Aj hs' hall) hn (by simp -implicitDefEqProofs -proj only [go_sem,seval]) (by rw [rowI_len]; omega) (by rw [rowI_len]; omega) (fun H' c' cap' ha hk=>?_)
    rw [show AU (F8 l i)++[[.int .i64 (i:Int)]]=AU (F8 l (i+1)) by rw [hst]; simp [AU]] at ha hk
    have hne:AU (F8 l (i+1))≠[]:=by rw [hst]; simp [AU]
    have hl2:(AU (F8 l (i+1))).length=(AU (F8 l i)).length+1:=by rw [hst]; simp [AU]
    simp -implicitDefEqProofs -proj only [go_sem,seval]
    refine Ac ⟨i+1,c',cap'⟩ ⟨by show i+1≤l.length; omega,hstep (by omega),hk⟩ (by show l.length-(i+1)<l.length-i; omega) rfl ?_ ha
    simp -implicitDefEqProofs -proj only [go_sem,seval,AL,I0,JQ,Jj,AR (show i<9223372036854775807 by omega),EM hne,hl2]
   ·have hp:=hprev (by omega)
    simp -implicitDefEqProofs -proj only [go_sem,seval,k2,decide_eq_false c1,decide_eq_false c2,decide_eq_false (show ¬(i:Int)=0 by omega),w1]
    refine Ai _ (by omega) (i:=(i:Int)-1) (by rw [show (i:Int)-1=((i-1:Nat):Int) by omega]; exact hp) ?_
    by_cases hpx:p=x
    ·rw [if_neg (fun h=>h.elim hi0 (fun e=>e hpx))] at hst
     simp -implicitDefEqProofs -proj only [go_sem,seval,decide_eq_true hpx]
     refine Ac ⟨i+1,c,cap⟩ ⟨by show i+1≤l.length; omega,hstep (by omega),by simp -implicitDefEqProofs only [LQ,I0,JQ,Jj,hst]; exact hn⟩ (by show l.length-(i+1)<l.length-i; omega) rfl ?_ (by simp -implicitDefEqProofs only [LQ,I0,JQ,Jj,hst]; exact hall)
     simp -implicitDefEqProofs -proj only [go_sem,seval,AL,I0,JQ,Jj,hst,AR (show i<9223372036854775807 by omega)]
    ·rw [if_pos (.inr hpx)] at hst
     simp -implicitDefEqProofs -proj only [go_sem,seval,decide_eq_false hpx]
     refine Ao (fun bs hs'=>?_)
     replace hs':H bs=none:=hs'
     simp -implicitDefEqProofs -proj only [go_sem,seval]
     refine FB (xs:=AU (F8 l i)) (y:=[.int .i64 (i:Int)]) (t:=3) (capc:=1) [(b2,.box 51 [i64 0,.nilsl 5])] rfl (Aj hs' hall) hn (by simp -implicitDefEqProofs -proj only [go_sem,seval]) (by rw [rowI_len]; omega) (by rw [rowI_len]; omega) (fun H' c' cap' ha hk=>?_)
     rw [show AU (F8 l i)++[[.int .i64 (i:Int)]]=AU (F8 l (i+1)) by rw [hst]; simp [AU]] at ha hk
     have hne:AU (F8 l (i+1))≠[]:=by rw [hst]; simp [AU]
     have hl2:(AU (F8 l (i+1))).length=(AU (F8 l i)).length+1:=by rw [hst]; simp [AU]
     simp -implicitDefEqProofs -proj only [go_sem,seval]
     refine Ac ⟨i+1,c',cap'⟩ ⟨by show i+1≤l.length; omega,hstep (by omega),hk⟩ (by show l.length-(i+1)<l.length-i; omega) rfl ?_ ha
     simp -implicitDefEqProofs -proj only [go_sem,seval,AL,I0,JQ,Jj,AR (show i<9223372036854775807 by omega),EM hne,hl2]
  ·have hi':i=l.length:=by omega
   subst hi'
   have hcur:BG l:=⟨fun e=>h0 (by rw [e]; rfl),by omega,fun v hv=>by obtain ⟨j,hj,rfl⟩:=List.getElem_of_mem hv; exact hsm j hj hj⟩
   rw [if_pos hcur]
   have hwl:IntKind.i64.wrap ((l.length:Int)-1)=(l.length:Int)-1:=by rw [IntKind.wrap_i64]; omega
   obtain ⟨hro,hRl⟩:=Kr (J4.2 hcur)
   have hmem:=(Ij 0 l).mem_val
   have hR0:0<(A8 0 l).length:=List.length_pos_iff.2 (fun e=>hcur.1 (MO.1 e))
   have hST:F8 l l.length=(A8 0 l).map (·.f):=rfl
   have hget:∀(j:Nat) (h:j<(A8 0 l).length),0≤(A8 0 l)[j].f∧(AU l)[(A8 0 l)[j].f.toNat]? = some [.int .i64 (A8 0 l)[j].v]:=fun j h=>by
    obtain ⟨m1,m2,m3,m4⟩:=hmem _ (List.getElem_mem h)
    refine ⟨m1,KF ?_⟩
    have hi:(A8 0 l)[j].f.toNat<l.length:=by omega
    have:=Le (f:=0) hi
    rw [Int.zero_add,show (((A8 0 l)[j].f.toNat:Nat):Int)=(A8 0 l)[j].f by omega,m4] at this
    rw [List.getElem?_eq_getElem hi,this]
   obtain ⟨ST,hSTe⟩:∃ST,F8 l l.length=ST:=⟨_,rfl⟩
   rw [hSTe] at hST hrow hn
   have hcv:Ez l=EW ((l.length:Int)-1) (GP (A8 0 l)):=rfl
   rw [hcv]
   generalize A8 0 l=R at *
   have hSTl:ST.length=R.length:=by rw [hST,List.length_map]
   have hSTn:∀(j:Nat) (h:j<R.length),(AU ST)[j]? = some [.int .i64 R[j].f]:=fun j h=>KF (by rw [hST]; simp [h])
   have hSTne:AU ST≠[]:=fun e=>by have:=congrArg List.length e; rw [rowI_len,hSTl,List.length_nil] at this; omega
   rw [Ed hSTne] at hrow hn
   have kc:=hrow.1
   have hcb:¬c=b2:=by
    simp -implicitDefEqProofs only [AN,List.map_append,List.map_cons,List.map_nil,List.nodup_append,List.mem_singleton] at hn
    exact hn.2.2 c rfl b2 rfl
   simp -implicitDefEqProofs -proj only [go_sem,seval,I0,JQ,Jj,hH,hSTe,k2,rowI_len,hwl,decide_eq_false (show ¬(l.length:Int)<l.length by omega),EM hSTne]
   refine AI (fun b7 hb7=>?_)
   replace hb7:H b7=none:=hb7
   obtain ⟨m1,m2⟩:=AG hb7 k2
   obtain ⟨m3,m4⟩:=AG hb7 kc
   simp -implicitDefEqProofs -proj only [go_sem,seval,m1,m2,m3,m4,k2,kc]
   refine BJ (fun y:RY=>y.i≤R.length∧GP R=y.G++GP (R.drop y.i)∧y.G.length≤y.i∧(AN (JA b7 b2 c cap l ST y)).Nodup) 165 (fun y=>[(0,Jg l),(2,.ptr b2 0),(4,.own c 1 0 ST.length cap),(7,.ptr b7 0),(8,i64 y.i)]) (JA b7 b2 c cap l ST) (fun y=>R.length-y.i) ⟨0,0,0,[]⟩ ⟨Nat.zero_le _,rfl,Nat.le_refl _,by simp [AN,JA,F6,A0,Hw,m1,m3,show ¬b2=c from fun e=>hcb e.symm]⟩ rfl ?_ ?_ ?_
   ·simp -implicitDefEqProofs -proj only [go_sem,seval,AL,Gy]
   ·simp -implicitDefEqProofs -proj only [go_sem,seval,AS,JA,F6,Ia,IR,A0,List.map_nil,Hw,JC,m1,m3,k2,kc]
   ·rintro ⟨i,d,dap,G⟩ ⟨hi,hG,hGl,hn'⟩
    simp -implicitDefEqProofs only [Gy,F6] at hi hG hGl
    have hall':=EQ hn'
    obtain ⟨H1,hH1⟩:∃H1,Ad (JA b7 b2 c cap l ST ⟨i,d,dap,G⟩)=H1:=⟨_,rfl⟩
    rw [hH1] at hall'
    simp -implicitDefEqProofs only [JA,Gy,Ia,IR,F6] at hall' hn'
    obtain ⟨hrow1,j7,j2,jc,_⟩:=Ar.1 hall'
    by_cases hlt:i<R.length
    ·obtain ⟨S,hSe⟩:∃S,R.drop i=S:=⟨_,rfl⟩
     have hSl:S.length=R.length-i:=by rw [←hSe,List.length_drop]
     have hSj:∀(j:Nat) (h:j<S.length),S[j]=R[i+j]'(by omega):=fun j h=>by subst hSe; simp
     have hSs:∀(j:Nat) (h:j<S.length),(AU ST)[i+j]? = some [.int .i64 S[j].f]:=fun j h=>by rw [hSj j h]; exact hSTn _ _
     have hSg:∀(j:Nat) (h:j<S.length),0≤S[j].f∧(AU l)[S[j].f.toNat]? = some [.int .i64 S[j].v]:=fun j h=>by rw [hSj j h]; exact hget _ _
     have hSo:∀(j:Nat) (h:j<S.length),IW S[j]:=fun j h=>by rw [hSj j h]; exact hro _ (List.getElem_mem _)
     have hS0:0<S.length:=by omega
     have hstep:=RI hS0
     rw [hSe] at hG
     have es:=hSs 0 hS0
     rw [Nat.add_zero] at es
     obtain ⟨ef0,ev⟩:=hSg 0 hS0
     have ho0:=hSo 0 hS0
     have hdr:∀n,S.drop n=R.drop (i+n):=fun n=>by rw [←hSe,List.drop_drop]
     have hw1:IntKind.i64.wrap ((i:Int)+1)=((i+1:Nat):Int):=by rw [IntKind.wrap_i64]; omega
     have hmid:∀(b9:Nat) (x:Blk),H1 b9=none→(AN (Ah 65 5 d dap (A0 G)++[(b9,x),(b7,.box 51 [i64 ((l.length:Int)-1),As 5 5 d dap (A0 G)]),(b2,.box 51 [i64 0,.nilsl 5]),(c,.row 3 1 cap (AU ST))])).Nodup:=fun b9 x hb=>by
      have:=GR (x:=x) hb hall' hn'
      simp -implicitDefEqProofs only [AN,List.map_append,List.map_cons] at this ⊢
      exact T2 this
     simp -implicitDefEqProofs -proj only [go_sem,seval,Gy,Ia,IR,F6,hH1,rowI_len,hSTl,decide_eq_true (show (i:Int)<R.length by omega)]
     (repeat' (with_reducible refine Aa ?_ (fun h=>?_); (focus first | decide | omega); clear h; try simp -implicitDefEqProofs -proj only [go_sem,seval,hSTl]))
     simp -implicitDefEqProofs -proj only [go_sem,seval,jc]
     refine BC _ (by rw [Int.toNat_natCast]; exact es) (by simp) ?_
     simp -implicitDefEqProofs -proj only [go_sem,seval,jc]
     refine BC _ (by rw [Int.toNat_natCast]; exact es) (by simp) ?_
     simp -implicitDefEqProofs -proj only [go_sem,seval]
     refine Ai _ ef0 ev ?_
     simp -implicitDefEqProofs -proj only [go_sem,seval]
     refine AI (fun b9 hb9=>?_)
     replace hb9:H1 b9=none:=hb9
     obtain ⟨p1,p2⟩:=AG hb9 j7
     obtain ⟨p3,p4⟩:=AG hb9 j2
     obtain ⟨p5,p6⟩:=AG hb9 jc
     by_cases hi1:i+1<R.length
     ·have hS1:1<S.length:=by omega
      have hgq:=Rs hS1
      obtain ⟨w,hw⟩:∃w,S[1].f-S[0].f=w:=⟨_,rfl⟩
      obtain ⟨r,hr⟩:∃r,S[1].v-S[0].v=r:=⟨_,rfl⟩
      rw [hw,hr] at hgq
      obtain ⟨n,hn9⟩:∃n,FF w r S[0] (S.drop 1)+1=n:=⟨_,rfl⟩
      rw [hn9] at hgq
      have hgle:=@J7 S[0] (S.drop 1)
      rw [hgq] at hstep hgle
      simp -implicitDefEqProofs only [List.length_drop] at hgle
      have hc2:2+FF w r S[1] (S.drop 2)=n:=by
       have this:FF w r S[0] (S.drop 1)=if S[1].f-S[0].f=w∧S[1].v-S[0].v=r then FF w r S[1] (S.drop 2)+1 else 0:=Pn (w:=w) (r:=r) (S:=S) (c:=1) (by omega) hS1
       rw [if_pos ⟨hw,hr⟩] at this
       omega
      have es1:=hSs 1 hS1
      obtain ⟨ef1,ev1⟩:=hSg 1 hS1
      have ho1:=hSo 1 hS1
      unfold IW at ho0 ho1
      have wW:IntKind.i64.wrap (S[1].f-S[0].f)=w:=by rw [IntKind.wrap_i64]; omega
      have wR:IntKind.i64.wrap (S[1].v-S[0].v)=r:=by rw [IntKind.wrap_i64]; omega
      simp -implicitDefEqProofs -proj only [go_sem,seval,p1,p2,p3,p4,p5,p6,j7,j2,jc,rowI_len,hSTl,hw1,decide_eq_true (show ((i+1:Nat):Int)<R.length by omega)]
      (repeat' (with_reducible refine Aa ?_ (fun h=>?_); (focus first | decide | omega); clear h; try simp -implicitDefEqProofs -proj only [go_sem,seval,hSTl]))
      try simp -implicitDefEqProofs -proj only [go_sem,seval,p1,p2,p3,p4,p5,p6,jc]
      refine BC _ (by rw [Int.toNat_natCast]; exact es1) (by simp) ?_
      simp -implicitDefEqProofs -proj only [go_sem,seval,p1,p2,p3,p4,p5,p6,jc]
      refine BC _ (by rw [Int.toNat_natCast]; exact es) (by simp) ?_
      simp -implicitDefEqProofs -proj only [go_sem,seval,p1,p2,p3,p4,p5,p6,jc,wW,hw1]
      (repeat' (with_reducible refine Aa ?_ (fun h=>?_); (focus first | decide | omega); clear h; try simp -implicitDefEqProofs -proj only [go_sem,seval,hSTl]))
      try simp -implicitDefEqProofs -proj only [go_sem,seval,p1,p2,p3,p4,p5,p6,jc]
      refine BC _ (by rw [Int.toNat_natCast]; exact es1) (by simp) ?_
      simp -implicitDefEqProofs -proj only [go_sem,seval]
      refine Ai _ ef1 ev1 ?_
      simp -implicitDefEqProofs -proj only [go_sem,seval,wR,p1,p2,p3,p4,p5,p6]
      have hin:AS H1 (Ah 65 5 d dap (A0 G)++[(b7,.box 51 [i64 ((l.length:Int)-1),As 5 5 d dap (A0 G)]),(b2,.box 51 [i64 0,.nilsl 5]),(c,.row 3 1 cap (AU ST))]):=hall'
      refine BJ (fun k:Nat=>2≤k∧i+k≤R.length∧∃h:k≤S.length∧1≤k,k+FF w r (S[k-1]'(by omega)) (S.drop k)=n∧(S[k-1]'(by omega)).f=S[0].f+((k:Int)-1)*w) 165 (fun _=>[(0,Jg l),(2,.ptr b2 0),(4,.own c 1 0 R.length cap),(7,.ptr b7 0),(8,i64 i),(9,.ptr b9 0)]) (fun k=>Ah 65 5 d dap (A0 G)++[(b9,.box 65 [i64 S[0].f,i64 S[0].v,i64 w,i64 r,i64 k]),(b7,.box 51 [i64 ((l.length:Int)-1),As 5 5 d dap (A0 G)]),(b2,.box 51 [i64 0,.nilsl 5]),(c,.row 3 1 cap (AU ST))]) (fun k=>R.length-k) 2 ⟨Nat.le_refl _,by omega,⟨by omega,by omega⟩,hc2,by show S[1].f=S[0].f+(((2:Nat):Int)-1)*w; omega⟩ rfl ?_ ?_ ?_
      ·simp -implicitDefEqProofs -proj only [go_sem,seval,AL]
      ·refine Ar.2 ⟨?_,?_⟩
       ·refine Fx hrow1 ?_ <;> exact Qi hb9 hrow1
       ·simp -implicitDefEqProofs -proj only [go_sem,seval,AS,p1,p2,p3,p4,p5,p6,j7,j2,jc]
      ·rintro k ⟨hk2,hik,⟨hk3,hk1⟩,hkn,hkf⟩
       have hndk:=hmid b9 (.box 65 [i64 S[0].f,i64 S[0].v,i64 w,i64 r,i64 k]) hb9
       have hallk:=EQ hndk
       obtain ⟨H2,hH2⟩:∃H2,Ad (Ah 65 5 d dap (A0 G)++[(b9,.box 65 [i64 S[0].f,i64 S[0].v,i64 w,i64 r,i64 k]),(b7,.box 51 [i64 ((l.length:Int)-1),As 5 5 d dap (A0 G)]),(b2,.box 51 [i64 0,.nilsl 5]),(c,.row 3 1 cap (AU ST))])=H2:=⟨_,rfl⟩
       rw [hH2] at hallk
       obtain ⟨hrow2,i9,i7,i2,ic,_⟩:=Ar.1 hallk
       have hwk:IntKind.i64.wrap ((i:Int)+k)=((i+k:Nat):Int):=by rw [IntKind.wrap_i64]; omega
       by_cases hlk:i+k<R.length
       ·have hSk:k<S.length:=by omega
        have esk:=hSs k hSk
        have esp:=hSs (k-1) (by omega)
        rw [show i+(k-1)=i+k-1 by omega] at esp
        obtain ⟨efk,evk⟩:=hSg k hSk
        obtain ⟨efp,evp⟩:=hSg (k-1) (by omega)
        have hok:=hSo k hSk
        have hop:=hSo (k-1) (by omega)
        have hrl:=Pn (w:=w) (r:=r) (S:=S) (c:=k) (by omega) hSk
        rw [hrl] at hkn
        unfold IW at hok hop
        have hkw:(k:Int)*w=((k:Int)-1)*w+w:=by rw [Int.sub_mul]; omega
        have wk1:IntKind.i64.wrap ((k:Int)*w)=(k:Int)*w:=by rw [IntKind.wrap_i64]; omega
        have wk2:IntKind.i64.wrap (S[0].f+(k:Int)*w)=S[0].f+(k:Int)*w:=by rw [IntKind.wrap_i64]; omega
        have wk3:IntKind.i64.wrap ((S[k-1]'(by omega)).v+r)=(S[k-1]'(by omega)).v+r:=by rw [IntKind.wrap_i64]; omega
        have wk4:IntKind.i64.wrap (((i+k:Nat):Int)-1)=((i+k-1:Nat):Int):=by rw [IntKind.wrap_i64]; omega
        have hnext:S[k].f-(S[k-1]'(by omega)).f=w→k+(FF w r S[k] (S.drop (k+1))+1)=n→(2≤k+1∧i+(k+1)≤R.length∧∃h:k+1≤S.length∧1≤k+1,k+1+FF w r (S[k+1-1]'(by omega)) (S.drop (k+1))=n∧(S[k+1-1]'(by omega)).f=S[0].f+(((k+1:Nat):Int)-1)*w):=fun e1 e2=>⟨by omega,by omega,⟨by omega,by omega⟩,by show k+1+FF w r S[k] (S.drop (k+1))=n; omega,by show S[k].f=S[0].f+(((k+1:Nat):Int)-1)*w; rw [show ((k+1:Nat):Int)-1=(k:Int) by omega,hkw]; omega⟩
        simp -implicitDefEqProofs -proj only [go_sem,seval,hH2,i9,i7,i2,ic,rowI_len,hSTl,hwk,decide_eq_true (show ((i+k:Nat):Int)<R.length by omega)]
        (repeat' (with_reducible refine Aa ?_ (fun h=>?_); (focus first | decide | omega); clear h; try simp -implicitDefEqProofs -proj only [go_sem,seval,hSTl]))
        try simp -implicitDefEqProofs -proj only [go_sem,seval,ic,i9,hwk]
        refine BC _ (by rw [Int.toNat_natCast]; exact esk) (by simp) ?_
        by_cases t1:S[k].f=S[0].f+(k:Int)*w
        rotate_left
        ·rw [if_neg (fun h=>t1 (by omega))] at hkn
         have hkn':n=k:=by omega
         subst hkn'
         simp -implicitDefEqProofs -proj only [go_sem,seval,i9,i7,i2,ic,wk1,wk2,decide_eq_false t1,if_neg (show ¬(4:Nat)=5 by decide)]
         refine Ao (fun bs hs'=>?_)
         replace hs':H2 bs=none:=hs'
         simp -implicitDefEqProofs -proj only [go_sem,seval]
         refine FB (xs:=A0 G) (y:=[.int .i64 S[0].f,.int .i64 S[0].v,.int .i64 w,.int .i64 r,.int .i64 n]) (t:=65) (capc:=1) [(b9,.box 65 [i64 S[0].f,i64 S[0].v,i64 w,i64 r,i64 n]),(b7,.box 51 [i64 ((l.length:Int)-1),As 5 5 d dap (A0 G)]),(b2,.box 51 [i64 0,.nilsl 5]),(c,.row 3 1 cap (AU ST))] rfl (Aj hs' hallk) hndk (by simp -implicitDefEqProofs -proj only [go_sem,seval]) (by rw [Fz]; omega) (by rw [Fz]; omega) (fun H' d' dap' ha hk=>?_)
         rw [show A0 G++[[.int .i64 S[0].f,.int .i64 S[0].v,.int .i64 w,.int .i64 r,.int .i64 n]]=A0 (G++[(⟨S[0].f,S[0].v,w,r,(n:Int)⟩:Grp)]) from MC (g:=(⟨S[0].f,S[0].v,w,r,(n:Int)⟩:Grp))] at ha hk
         have hne2:A0 (G++[(⟨S[0].f,S[0].v,w,r,(n:Int)⟩:Grp)])≠[]:=by simp [A0]
         obtain ⟨hrow',q9,q7,q2,qc,_⟩:=Ar.1 ha
         have hwc:IntKind.i64.wrap ((i:Int)+(n:Int))=((i+n:Nat):Int):=by rw [IntKind.wrap_i64]; omega
         simp -implicitDefEqProofs -proj only [go_sem,seval,q9,q7,p1,p2,hwc]
         refine Ac ⟨i+n,d',dap',G++[(⟨S[0].f,S[0].v,w,r,(n:Int)⟩:Grp)]⟩ ⟨by show i+n≤R.length; omega,by simp -implicitDefEqProofs only [Gy,F6]; rw [hG,hstep,hdr]; simp,by simp -implicitDefEqProofs only [Gy,F6,List.length_append,List.length_singleton]; omega,?_⟩ (by show R.length-(i+n)<R.length-i; omega) rfl ?_ ?_
         ·simp -implicitDefEqProofs only [AN,JA,Ia,IR,F6,List.map_append,List.map_cons,List.map_nil] at hk ⊢
          exact NN hk
         ·simp -implicitDefEqProofs -proj only [go_sem,seval,AL,Gy,hSTl]
         ·refine Ar.2 ⟨Fx hrow' ?_,?_⟩
          ·simp -implicitDefEqProofs only [AN,List.map_append,List.nodup_append,List.map_cons,List.map_nil,List.mem_cons] at hk
           exact fun hm=>hk.2.2 _ hm _ (.inr (.inl rfl)) rfl
          ·have hnk:¬b7=b2∧¬b7=c:=⟨m1,m3⟩
           simp -implicitDefEqProofs -proj only [go_sem,seval,AS,Ia,IR,F6,q2,qc,m1,m3,EM hne2,show (A0 (G++[(⟨S[0].f,S[0].v,w,r,(n:Int)⟩:Grp)])).length=(A0 G).length+1 by simp [A0]]
        simp -implicitDefEqProofs -proj only [go_sem,seval,i9,i7,i2,ic,wk1,wk2,hwk,hSTl,rowI_len,decide_eq_true t1]
        (repeat' (with_reducible refine Aa ?_ (fun h=>?_); (focus first | decide | omega); clear h; try simp -implicitDefEqProofs -proj only [go_sem,seval,hSTl]))
        try simp -implicitDefEqProofs -proj only [go_sem,seval,ic,i9,hwk]
        refine BC _ (by rw [Int.toNat_natCast]; exact esk) (by simp) ?_
        simp -implicitDefEqProofs -proj only [go_sem,seval,i9,ic,hwk]
        refine Ai _ efk evk ?_
        simp -implicitDefEqProofs -proj only [go_sem,seval,i9,ic,hwk,wk4,hSTl]
        (repeat' (with_reducible refine Aa ?_ (fun h=>?_); (focus first | decide | omega); clear h; try simp -implicitDefEqProofs -proj only [go_sem,seval,hSTl]))
        try simp -implicitDefEqProofs -proj only [go_sem,seval,ic,i9,hwk,wk4]
        refine BC _ (by rw [Int.toNat_natCast]; exact esp) (by simp) ?_
        simp -implicitDefEqProofs -proj only [go_sem,seval,i9,ic]
        refine Ai _ efp evp ?_
        by_cases t2:S[k].v=(S[k-1]'(by omega)).v+r
        rotate_left
        ·rw [if_neg (fun h=>t2 (by omega))] at hkn
         have hkn':n=k:=by omega
         subst hkn'
         simp -implicitDefEqProofs -proj only [go_sem,seval,i9,i7,i2,ic,wk3,decide_eq_false t2,if_neg (show ¬(4:Nat)=5 by decide)]
         refine Ao (fun bs hs'=>?_)
         replace hs':H2 bs=none:=hs'
         simp -implicitDefEqProofs -proj only [go_sem,seval]
         refine FB (xs:=A0 G) (y:=[.int .i64 S[0].f,.int .i64 S[0].v,.int .i64 w,.int .i64 r,.int .i64 n]) (t:=65) (capc:=1) [(b9,.box 65 [i64 S[0].f,i64 S[0].v,i64 w,i64 r,i64 n]),(b7,.box 51 [i64 ((l.length:Int)-1),As 5 5 d dap (A0 G)]),(b2,.box 51 [i64 0,.nilsl 5]),(c,.row 3 1 cap (AU ST))] rfl (Aj hs' hallk) hndk (by simp -implicitDefEqProofs -proj only [go_sem,seval]) (by rw [Fz]; omega) (by rw [Fz]; omega) (fun H' d' dap' ha hk=>?_)
         rw [show A0 G++[[.int .i64 S[0].f,.int .i64 S[0].v,.int .i64 w,.int .i64 r,.int .i64 n]]=A0 (G++[(⟨S[0].f,S[0].v,w,r,(n:Int)⟩:Grp)]) from MC (g:=(⟨S[0].f,S[0].v,w,r,(n:Int)⟩:Grp))] at ha hk
         have hne2:A0 (G++[(⟨S[0].f,S[0].v,w,r,(n:Int)⟩:Grp)])≠[]:=by simp [A0]
         obtain ⟨hrow',q9,q7,q2,qc,_⟩:=Ar.1 ha
         have hwc:IntKind.i64.wrap ((i:Int)+(n:Int))=((i+n:Nat):Int):=by rw [IntKind.wrap_i64]; omega
         simp -implicitDefEqProofs -proj only [go_sem,seval,q9,q7,p1,p2,hwc]
         refine Ac ⟨i+n,d',dap',G++[(⟨S[0].f,S[0].v,w,r,(n:Int)⟩:Grp)]⟩ ⟨by show i+n≤R.length; omega,by simp -implicitDefEqProofs only [Gy,F6]; rw [hG,hstep,hdr]; simp,by simp -implicitDefEqProofs only [Gy,F6,List.length_append,List.length_singleton]; omega,?_⟩ (by show R.length-(i+n)<R.length-i; omega) rfl ?_ ?_
         ·simp -implicitDefEqProofs only [AN,JA,Ia,IR,F6,List.map_append,List.map_cons,List.map_nil] at hk ⊢
          exact NN hk
         ·simp -implicitDefEqProofs -proj only [go_sem,seval,AL,Gy,hSTl]
         ·refine Ar.2 ⟨Fx hrow' ?_,?_⟩
          ·simp -implicitDefEqProofs only [AN,List.map_append,List.nodup_append,List.map_cons,List.map_nil,List.mem_cons] at hk
           exact fun hm=>hk.2.2 _ hm _ (.inr (.inl rfl)) rfl
          ·have hnk:¬b7=b2∧¬b7=c:=⟨m1,m3⟩
           simp -implicitDefEqProofs -proj only [go_sem,seval,AS,Ia,IR,F6,q2,qc,m1,m3,EM hne2,show (A0 (G++[(⟨S[0].f,S[0].v,w,r,(n:Int)⟩:Grp)])).length=(A0 G).length+1 by simp [A0]]
        ·rw [if_pos ⟨by omega,by omega⟩] at hkn
         simp -implicitDefEqProofs -proj only [go_sem,seval,i9,i7,i2,ic,wk3,decide_eq_true t2]
         refine Ac (k+1) (hnext (by omega) hkn) (by omega) rfl ?_ ?_
         ·simp -implicitDefEqProofs -proj only [go_sem,seval,AL]
         ·refine Ar.2 ⟨Fx hrow2 ?_,?_⟩
          ·exact Qi hb9 hrow1
          ·simp -implicitDefEqProofs -proj only [go_sem,seval,AS,i7,i2,ic,p1,p2,p3,p4,p5,p6,AR (show k<9223372036854775807 by omega)]
       ·have:S.drop k=[]:=List.drop_eq_nil_of_le (by omega)
        rw [this] at hkn
        have hkn':n=k:=by have:FF w r (S[k-1]'(by omega)) []=0:=rfl; omega
        subst hkn'
        simp -implicitDefEqProofs -proj only [go_sem,seval,hH2,i9,i7,i2,ic,rowI_len,hSTl,hwk,decide_eq_false (show ¬((i+n:Nat):Int)<R.length by omega)]
        refine Ao (fun bs hs'=>?_)
        replace hs':H2 bs=none:=hs'
        simp -implicitDefEqProofs -proj only [go_sem,seval]
        refine FB (xs:=A0 G) (y:=[.int .i64 S[0].f,.int .i64 S[0].v,.int .i64 w,.int .i64 r,.int .i64 n]) (t:=65) (capc:=1) [(b9,.box 65 [i64 S[0].f,i64 S[0].v,i64 w,i64 r,i64 n]),(b7,.box 51 [i64 ((l.length:Int)-1),As 5 5 d dap (A0 G)]),(b2,.box 51 [i64 0,.nilsl 5]),(c,.row 3 1 cap (AU ST))] rfl (Aj hs' hallk) hndk (by simp -implicitDefEqProofs -proj only [go_sem,seval]) (by rw [Fz]; omega) (by rw [Fz]; omega) (fun H' d' dap' ha hk=>?_)
        rw [show A0 G++[[.int .i64 S[0].f,.int .i64 S[0].v,.int .i64 w,.int .i64 r,.int .i64 n]]=A0 (G++[(⟨S[0].f,S[0].v,w,r,(n:Int)⟩:Grp)]) from MC (g:=(⟨S[0].f,S[0].v,w,r,(n:Int)⟩:Grp))] at ha hk
        have hne2:A0 (G++[(⟨S[0].f,S[0].v,w,r,(n:Int)⟩:Grp)])≠[]:=by simp [A0]
        obtain ⟨hrow',q9,q7,q2,qc,_⟩:=Ar.1 ha
        have hwc:IntKind.i64.wrap ((i:Int)+(n:Int))=((i+n:Nat):Int):=by rw [IntKind.wrap_i64]; omega
        simp -implicitDefEqProofs -proj only [go_sem,seval,q9,q7,p1,p2,hwc]
        refine Ac ⟨i+n,d',dap',G++[(⟨S[0].f,S[0].v,w,r,(n:Int)⟩:Grp)]⟩ ⟨by show i+n≤R.length; omega,by simp -implicitDefEqProofs only [Gy,F6]; rw [hG,hstep,hdr]; simp,by simp -implicitDefEqProofs only [Gy,F6,List.length_append,List.length_singleton]; omega,?_⟩ (by show R.length-(i+n)<R.length-i; omega) rfl ?_ ?_
        ·simp -implicitDefEqProofs only [AN,JA,Ia,IR,F6,List.map_append,List.map_cons,List.map_nil] at hk ⊢
         exact NN hk
        ·simp -implicitDefEqProofs -proj only [go_sem,seval,AL,Gy,hSTl]
        ·refine Ar.2 ⟨Fx hrow' ?_,?_⟩
         ·simp -implicitDefEqProofs only [AN,List.map_append,List.nodup_append,List.map_cons,List.map_nil,List.mem_cons] at hk
          exact fun hm=>hk.2.2 _ hm _ (.inr (.inl rfl)) rfl
         ·have hnk:¬b7=b2∧¬b7=c:=⟨m1,m3⟩
          simp -implicitDefEqProofs -proj only [go_sem,seval,AS,Ia,IR,F6,q2,qc,m1,m3,EM hne2,show (A0 (G++[(⟨S[0].f,S[0].v,w,r,(n:Int)⟩:Grp)])).length=(A0 G).length+1 by simp [A0]]
     ·have hgq:EY S[0] (S.drop 1)=(⟨S[0].f,S[0].v,0,0,1⟩,1):=by rw [List.drop_eq_nil_of_le (by omega)]; rfl
      rw [hgq] at hstep
      simp -implicitDefEqProofs -proj only [go_sem,seval,p1,p2,p3,p4,p5,p6,j7,j2,jc,rowI_len,hSTl,hw1,decide_eq_false (show ¬((i+1:Nat):Int)<R.length by omega)]
      refine Ao (fun bs hs'=>?_)
      replace hs':upd H1 b9 _ bs=none:=hs'
      simp -implicitDefEqProofs -proj only [go_sem,seval]
      refine FB (xs:=A0 G) (y:=[.int .i64 S[0].f,.int .i64 S[0].v,.int .i64 0,.int .i64 0,.int .i64 1]) (t:=65) (capc:=1) [(b9,.box 65 [i64 S[0].f,i64 S[0].v,i64 0,i64 0,i64 1]),(b7,.box 51 [i64 ((l.length:Int)-1),As 5 5 d dap (A0 G)]),(b2,.box 51 [i64 0,.nilsl 5]),(c,.row 3 1 cap (AU ST))] rfl (Aj hs' (Ar.2 ⟨Aj hb9 hrow1,AP,Aj hb9 (Ar.1 hall').2⟩)) (hmid b9 _ hb9) (by simp -implicitDefEqProofs -proj only [go_sem,seval]) (by rw [Fz]; omega) (by rw [Fz]; omega) (fun H' d' dap' ha hk=>?_)
      rw [show A0 G++[[.int .i64 S[0].f,.int .i64 S[0].v,.int .i64 0,.int .i64 0,.int .i64 1]]=A0 (G++[(⟨S[0].f,S[0].v,0,0,1⟩:Grp)]) from MC (g:=(⟨S[0].f,S[0].v,0,0,1⟩:Grp))] at ha hk
      have hne2:A0 (G++[(⟨S[0].f,S[0].v,0,0,1⟩:Grp)])≠[]:=by simp [A0]
      obtain ⟨hrow',q9,q7,q2,qc,_⟩:=Ar.1 ha
      have hwc:IntKind.i64.wrap ((i:Int)+1)=((i+1:Nat):Int):=by rw [IntKind.wrap_i64]; omega
      simp -implicitDefEqProofs -proj only [go_sem,seval,q9,q7,p1,p2,hwc]
      refine Ac ⟨i+1,d',dap',G++[(⟨S[0].f,S[0].v,0,0,1⟩:Grp)]⟩ ⟨by show i+1≤R.length; omega,by simp -implicitDefEqProofs only [Gy,F6]; rw [hG,hstep,hdr]; simp,by simp -implicitDefEqProofs only [Gy,F6,List.length_append,List.length_singleton]; omega,?_⟩ (by show R.length-(i+1)<R.length-i; omega) rfl ?_ ?_
      ·simp -implicitDefEqProofs only [AN,JA,Ia,IR,F6,List.map_append,List.map_cons,List.map_nil] at hk ⊢
       exact NN hk
      ·simp -implicitDefEqProofs -proj only [go_sem,seval,AL,Gy,hSTl]
      ·refine Ar.2 ⟨Fx hrow' ?_,?_⟩
       ·simp -implicitDefEqProofs only [AN,List.map_append,List.nodup_append,List.map_cons,List.map_nil,List.mem_cons] at hk
        exact fun hm=>hk.2.2 _ hm _ (.inr (.inl rfl)) rfl
       ·have hnk:¬b7=b2∧¬b7=c:=⟨m1,m3⟩
        simp -implicitDefEqProofs -proj only [go_sem,seval,AS,Ia,IR,F6,q2,qc,m1,m3,EM hne2,show (A0 (G++[(⟨S[0].f,S[0].v,0,0,1⟩:Grp)])).length=(A0 G).length+1 by simp [A0]]
    ·have hi'':i=R.length:=by omega
     subst hi''
     rw [List.drop_length,RC,List.append_nil] at hG
     simp -implicitDefEqProofs -proj only [go_sem,seval,Gy,Ia,IR,F6,hH1,rowI_len,hSTl,decide_eq_false (show ¬(R.length:Int)<R.length by omega),j7,j2,m1,m2]
     rw [hG]
     refine JB (JJ (Ki (Fx hrow1 ?_) Ts))
     simp -implicitDefEqProofs only [AN,List.map_append,List.nodup_append,List.map_cons,List.map_nil,List.mem_cons] at hn'
     exact fun hm=>hn'.2.2 _ hm _ (.inr (.inl rfl)) rfl
def qL (c:CoreX) (d:Int) (m:Nat) (mx:Int) (j k:Nat):List Int:=(List.range (mx+1).toNat).map fun (q:Nat)=>sg (FQ c.ps d m q) (if q<k then j+1 else j)
theorem ATM {c:CoreX} {d:Int} {m:Nat} {mx:Int} {j k:Nat}:(qL c d m mx j k).length=(mx+1).toNat:=by simp [qL]
theorem ANg {c:CoreX} {d:Int} {m:Nat} {mx:Int} {j:Nat}:qL c d m mx j (mx+1).toNat=qL c d m mx (j+1) 0:=by
 unfold qL
 refine List.map_congr_left fun q hq=>?_
 rw [if_pos (List.mem_range.1 hq),if_neg (Nat.not_lt_zero _)]
theorem APR {c:CoreX} {d:Int} {m:Nat} {mx:Int}:qL c d m mx 0 0=List.replicate (mx+1).toNat 0:=by
 unfold qL
 refine List.ext_getElem (by simp) fun i h1 h2=>?_
 simp [sg]
theorem AUX {c:CoreX} {d:Int} {m:Nat} {mx:Int}:qL c d m mx c.ps.length 0=IX c d m mx:=by
 unfold qL IX Ii
 refine List.map_congr_left fun q hq=>?_
 rw [if_neg (Nat.not_lt_zero _)]
theorem ACo {c:CoreX} {d:Int} {m:Nat} {mx:Int} {j k:Nat} (h:k<(mx+1).toNat):(qL c d m mx j k)[k]? = some (sg (FQ c.ps d m k) j):=by
 simp [qL,h]
theorem APd {c:CoreX} {d:Int} {m:Nat} {mx:Int} {j k:Nat} (h:k<(mx+1).toNat):(qL c d m mx j k).set k (sg (FQ c.ps d m k) (j+1))=qL c d m mx j (k+1):=by
 refine List.ext_getElem (by simp [qL]) fun i h1 h2=>?_
 have hi:i<(mx+1).toNat:=by rw [ATM] at h2; exact h2
 rw [List.getElem_set]
 by_cases e:k=i
 ·subst e; simp [qL]
 ·rw [if_neg e]
  simp -implicitDefEqProofs only [qL,List.getElem_map,List.getElem_range]
  by_cases h3:i<k
  ·rw [if_pos h3,if_pos (by omega)]
  ·rw [if_neg h3,if_neg (by omega)]
theorem Z0 {ps:List PartX} {d q:Int} {m j:Nat} {x:PartX} (h:ps[j]? = some x) (hn:¬(x.me=m∧Eu d x.f x.t)):FQ ps d m q j=0:=by
 unfold FQ; rw [h]; simp -implicitDefEqProofs only []; rw [if_neg hn]
theorem AML {ps:List PartX} {d q:Int} {m j:Nat} {x:PartX} (h:ps[j]? = some x) (hn:x.me=m∧Eu d x.f x.t):FQ ps d m q j=pv x q-pv x 0:=by
 unfold FQ; rw [h]; simp -implicitDefEqProofs only []; rw [if_pos hn]
theorem AAn {ps:List PartX} {d:Int} {m j:Nat} {x:PartX} (h:ps[j]? = some x) (hn:¬(x.me=m∧Eu d x.f x.t)):E9 ps d m j=0:=by
 unfold E9; rw [h]; simp -implicitDefEqProofs only []; rw [if_neg hn]
theorem AC0 {ps:List PartX} {d:Int} {m j:Nat} {x:PartX} (h:ps[j]? = some x) (hn:x.me=m∧Eu d x.f x.t):E9 ps d m j=pv x 0:=by
 unfold E9; rw [h]; simp -implicitDefEqProofs only []; rw [if_pos hn]
theorem AKm {c:CoreX} {d:Int} {m:Nat} {mx:Int} {j:Nat} {x:PartX} (h:c.ps[j]? = some x) (hn:¬(x.me=m∧Eu d x.f x.t)):qL c d m mx (j+1) 0=qL c d m mx j 0:=by
 unfold qL
 refine List.map_congr_left fun q hq=>?_
 rw [if_neg (Nat.not_lt_zero _),if_neg (Nat.not_lt_zero _),sg,Z0 h hn,Int.add_zero]
theorem AKk {l:List Int} {i:Nat} {x:Int}:(AU l).set i [.int .i64 x]=AU (l.set i x):=by simp [AU,List.map_set]
structure DY where
 i:Nat
 c:Nat
 cap:Nat
theorem Fw {i c cap:Nat}:(DY.mk i c cap).i=i:=(rfl)
theorem Gg {i c cap:Nat}:(DY.mk i c cap).c=c:=(rfl)
theorem Gq {i c cap:Nat}:(DY.mk i c cap).cap=cap:=(rfl)
abbrev GY (d x:Int) (v:AV):Blk:=.box 47 [i64 d,i64 d,i64 x,v]
def JY (b2 b4 b5:Nat) (c:CoreX) (d:Int) (y:DY):List (Nat×Blk):=Ah 51 2 y.c y.cap (Al (Eh c d y.i))++[(b5,GY d (FZ c d+sg (FP c d) y.i) (As 2 2 y.c y.cap (Al (Eh c d y.i)))),(b2,CS c),(b4,GY 0 0 (.nilsl 2))]
def F3 (b2 b4 b5 b10:Nat) (c:CoreX) (d:Int) (y:DY) (mx:Int) (fx:Int) (j k:Nat):List (Nat×Blk):=(b10,.row 3 1 (mx+1).toNat (AU (qL c d y.i mx j k)))::(Ah 51 2 y.c y.cap (Al (Eh c d y.i))++[(b5,GY d fx (As 2 2 y.c y.cap (Al (Eh c d y.i)))),(b2,CS c),(b4,GY 0 0 (.nilsl 2))])
theorem APE {c:CoreX} {d:Int} (hc:c.Fit) (hf:fitsC c) (hd:Fit d):DataW Tryz.prog ACu [Gz c,i64 d] (J0 ⟨d,d,En c d⟩):=by
 obtain ⟨_,_,_,a6,a7,a8⟩:=hf.good.hd
 have hps:=hf.good.ps
 have hfp:=hc.ps
 have hmxb:=(fitsC.bnd hf.good).mx
 refine AZ AHt (by simp) ?_
 simp -implicitDefEqProofs -proj only [go_sem,seval]
 refine AI (fun b2 hb2=>?_)
 simp -implicitDefEqProofs -proj only [go_sem,seval]
 refine AI (fun b4 hb4=>?_)
 replace hb4:upd Heap.none b2 _ b4=none:=hb4
 obtain ⟨n1,n2⟩:=AG hb4 AP
 simp -implicitDefEqProofs -proj only [go_sem,seval,n1,n2]
 refine AI (fun b5 hb5=>?_)
 replace hb5:upd (upd Heap.none b2 _) b4 _ b5=none:=hb5
 obtain ⟨n3,n4⟩:=AG hb5 AP
 obtain ⟨n5,n6⟩:=AG hb5 (by rw [AD n1]; exact AP)
 simp -implicitDefEqProofs -proj only [go_sem,seval,n1,n2,n3,n4,n5,n6,Fr]
 refine BJ (fun i:Nat=>i≤c.ss.length) 129 (fun i=>[(1,i64 d),(2,.ptr b2 0),(4,.ptr b4 0),(5,.ptr b5 0),(24,.d (.sl 3 (Ey c.ss))),(25,i64 c.ss.length),(26,i64 i)]) (fun i=>[(b5,GY d (sg (Fk c.ss d) i) (.nilsl 2)),(b2,CS c),(b4,GY 0 0 (.nilsl 2))]) (fun i=>c.ss.length-i) 0 (Nat.zero_le _) rfl ?_ ?_ ?_
 ·simp -implicitDefEqProofs -proj only [go_sem,seval,AL,Fr]
 ·refine ⟨AP,?_,?_,trivial⟩
  ·show upd (upd (upd Heap.none b2 _) b4 _) b5 _ b2=_
   rw [AD n5,AD n1]; exact AP
  ·show upd (upd (upd Heap.none b2 _) b4 _) b5 _ b4=_
   rw [AD n3]; exact AP
 ·rintro i hi
  have hk:AS (Ad [(b5,GY d (sg (Fk c.ss d) i) (.nilsl 2)),(b2,CS c),(b4,GY 0 0 (.nilsl 2))]) [(b5,GY d (sg (Fk c.ss d) i) (.nilsl 2)),(b2,CS c),(b4,GY 0 0 (.nilsl 2))]:=EQ (by simp [AN,n1,n2,n3,n4,n5,n6])
  obtain ⟨k5,k2,k4,_⟩:=id hk
  have hb1:=LK hf.good d hi
  by_cases h:i<c.ss.length
  ·have hel:=KM h
   have hb2:=LK hf.good d (show i+1≤c.ss.length by omega)
   have hstep:sg (Fk c.ss d) (i+1)=sg (Fk c.ss d) i+(if Eu d c.ss[i].f c.ss[i].t then c.ss[i].a else 0):=by
    rw [sg]; unfold Fk; rw [List.getElem?_eq_getElem h]
   generalize c.ss[i]=s at *
   generalize hS:sg (Fk c.ss d) i=S at *
   generalize hS2:sg (Fk c.ss d) (i+1)=S2 at *
   simp -implicitDefEqProofs -proj only [go_sem,seval,decide_eq_true (show (i:Int)<c.ss.length by omega)]
   refine Ai _ (by omega) hel ?_
   simp -implicitDefEqProofs -proj only [go_sem,seval]
   refine AI (fun b7 hb7=>?_)
   obtain ⟨m1,m2⟩:=AG hb7 k5
   obtain ⟨m3,m4⟩:=AG hb7 k2
   obtain ⟨m5,m6⟩:=AG hb7 k4
   by_cases p1:s.f≤d
   ·by_cases p2:d≤s.t
    ·rw [if_pos ⟨p1,p2⟩] at hstep
     have w:IntKind.i64.wrap (S+s.a)=S2:=by rw [IntKind.wrap_i64]; omega
     simp -implicitDefEqProofs -proj only [go_sem,seval,m1,m2,m3,m4,m5,m6,k5,k2,k4,decide_eq_true p1,decide_eq_true p2,w]
     refine Ac (i+1) (by omega) (by show c.ss.length-(i+1)<c.ss.length-i; omega) rfl ?_ ?_
     ·simp -implicitDefEqProofs -proj only [go_sem,seval,AL,AR (show i<9223372036854775807 by omega)]
     ·rw [hS2]
      exact ⟨AP,(AD n5).trans ((AD m3).trans k2),(AD n3).trans ((AD m5).trans k4),trivial⟩
    ·rw [if_neg (fun k=>p2 k.2)] at hstep
     simp -implicitDefEqProofs -proj only [go_sem,seval,m1,m2,m3,m4,m5,m6,k5,k2,k4,decide_eq_true p1,decide_eq_false p2]
     refine Ac (i+1) (by omega) (by show c.ss.length-(i+1)<c.ss.length-i; omega) rfl ?_ ?_
     ·simp -implicitDefEqProofs -proj only [go_sem,seval,AL,AR (show i<9223372036854775807 by omega)]
     ·rw [hS2,hstep,Int.add_zero]; exact Aj hb7 hk
   ·rw [if_neg (fun k=>p1 k.1)] at hstep
    simp -implicitDefEqProofs -proj only [go_sem,seval,m1,m2,m3,m4,m5,m6,k5,k2,k4,decide_eq_false p1]
    refine Ac (i+1) (by omega) (by show c.ss.length-(i+1)<c.ss.length-i; omega) rfl ?_ ?_
    ·simp -implicitDefEqProofs -proj only [go_sem,seval,AL,AR (show i<9223372036854775807 by omega)]
    ·rw [hS2,hstep,Int.add_zero]; exact Aj hb7 hk
  ·have hi':i=c.ss.length:=by omega
   subst hi'
   simp -implicitDefEqProofs -proj only [go_sem,seval,k2,decide_eq_false (show ¬(c.ss.length:Int)<c.ss.length by omega),FO]
   refine BJ (fun y:DY=>y.i≤c.ms.length∧(AN (JY b2 b4 b5 c d y)).Nodup) 129 (fun y=>[(1,i64 d),(2,.ptr b2 0),(4,.ptr b4 0),(5,.ptr b5 0),(48,.d (.sl 5 (BV c.ms))),(49,i64 c.ms.length),(50,i64 y.i)]) (JY b2 b4 b5 c d) (fun y=>c.ms.length-y.i) ⟨0,0,0⟩ ⟨Nat.zero_le _,by simp [AN,JY,Eh,Al,Ah,n1,n2,n3,n4,n5,n6]⟩ rfl ?_ ?_ ?_
   ·simp -implicitDefEqProofs -proj only [go_sem,seval,AL,Fw,FO]
   ·simp -implicitDefEqProofs only [JY,Fw,Eh,List.range_zero,List.map_nil,Al,Ah,As,sg,Int.add_zero,List.nil_append]
    exact ⟨k5,k2,k4,trivial⟩
   ·rintro ⟨i,c1,cap⟩ ⟨hi,hn⟩
    simp -implicitDefEqProofs only [Fw] at hi
    have hall:=EQ hn
    obtain ⟨H,hH⟩:∃H,Ad (JY b2 b4 b5 c d ⟨i,c1,cap⟩)=H:=⟨_,rfl⟩
    rw [hH] at hall
    simp -implicitDefEqProofs only [JY,Fw,Gg,Gq] at hall hn
    obtain ⟨hrow,k5,k2,k4,_⟩:=Ar.1 hall
    by_cases h:i<c.ms.length
    ·have hel:=G8 h
     have hb:=hmxb i h
     have hsn:=AFd (c:=c) (d:=d) h
     have hlc:=SM hf d h
     have hri:=fun (q:Int) (h0:0≤q) (hq:q≤c.ms[i].mx) (j:Nat) (hj:j≤c.ps.length)=>Qe hf d h h0 hq hj
     have hmxx:EX c.ms (i:Int)=c.ms[i].mx:=Px h
     generalize c.ms[i]=m at *
     have w1:IntKind.i64.wrap (m.mx+1)=(((m.mx+1).toNat:Nat):Int):=by rw [IntKind.wrap_i64]; omega
     simp -implicitDefEqProofs -proj only [go_sem,seval,Fw,Gg,Gq,hH,decide_eq_true (show (i:Int)<c.ms.length by omega)]
     refine Ai _ (by omega) hel ?_
     simp -implicitDefEqProofs -proj only [go_sem,seval]
     refine AI (fun b9 hb9=>?_)
     replace hb9:H b9=none:=hb9
     simp -implicitDefEqProofs -proj only [go_sem,seval,w1]
     refine AFr (by omega) (by omega) (fun b10 hb10=>?_)
     replace hb10:upd H b9 _ b10=none:=hb10
     obtain ⟨e1,e2⟩:=AG hb10 AP
     have hb10':H b10=none:=by rw [AD e2] at hb10; exact hb10
     have hall9:=Aj (y:=some (.box 42 [.d (.str m.nm),.d (.str m.un),i64 m.mx,i64 m.ln,i64 m.co])) hb9 hall
     have hall10:=GE (x:=.row 3 1 (m.mx+1).toNat (AU (qL c d i m.mx 0 0))) hb10 hall9
     have hn10:=GR (x:=.row 3 1 (m.mx+1).toNat (AU (qL c d i m.mx 0 0))) hb10 hall9 hn
     have hfm0:sg (FP c d) (i+1)=sg (FP c d) i+sg (E9 c.ps d i) c.ps.length:=by rw [sg]; rfl
     have hrep:List.replicate (m.mx+1).toNat [D.int .i64 0]=AU (qL c d i m.mx 0 0):=by rw [APR]; simp [AU]
     obtain ⟨H10,hH10⟩:∃H10,upd (upd H b9 (some (.box 42 [.d (.str m.nm),.d (.str m.un),i64 m.mx,i64 m.ln,i64 m.co]))) b10 (some (.row 3 1 (m.mx+1).toNat (AU (qL c d i m.mx 0 0))))=H10:=⟨_,rfl⟩
     rw [hH10] at hall10
     obtain ⟨u10,u5,u2,u4,_⟩:=(⟨hall10.1,(Ar.1 hall10.2).2⟩:_∧_)
     simp -implicitDefEqProofs -proj only [go_sem,seval,hrep,hH10,u2,FR]
     refine BJ (fun j:Nat=>j≤c.ps.length∧(AN (F3 b2 b4 b5 b10 c d ⟨i,c1,cap⟩ m.mx (FZ c d+sg (FP c d) i+sg (E9 c.ps d i) j) j 0)).Nodup) 129 (fun j=>[(1,i64 d),(2,.ptr b2 0),(4,.ptr b4 0),(5,.ptr b5 0),(48,.d (.sl 5 (BV c.ms))),(49,i64 c.ms.length),(50,i64 i),(8,i64 i),(10,.own b10 1 0 (m.mx+1).toNat (m.mx+1).toNat),(60,.d (.sl 9 (Ea c.ps))),(61,i64 c.ps.length),(62,i64 j)]) (fun j=>F3 b2 b4 b5 b10 c d ⟨i,c1,cap⟩ m.mx (FZ c d+sg (FP c d) i+sg (E9 c.ps d i) j) j 0) (fun j=>c.ps.length-j) 0 ⟨Nat.zero_le _,?_⟩ rfl ?_ ?_ ?_
     ·simpa only [F3,Fw,Gg,Gq,AN,List.map_cons,List.map_append] using hn10
     ·simp -implicitDefEqProofs -proj only [go_sem,seval,AL,FR]
     ·simpa only [F3,Fw,Gg,Gq,sg,Int.add_zero] using hall10
     ·rintro j ⟨hj,hnj⟩
      have hallj:=EQ hnj
      generalize hHj:Ad (F3 b2 b4 b5 b10 c d ⟨i,c1,cap⟩ m.mx (FZ c d+sg (FP c d) i+sg (E9 c.ps d i) j) j 0)=Hj at *
      simp -implicitDefEqProofs only [F3,Fw,Gg,Gq] at hallj hnj
      obtain ⟨v10,hr⟩:=id hallj
      obtain ⟨vrow,v5,v2,v4,_⟩:=Ar.1 hr
      have hfb:=Qx hf d i
      have hfS:0≤FZ c d∧FZ c d≤1000000000000*c.ss.length:=LK hf.good d (Nat.le_refl c.ss.length)
      have hbj:=Oi hf d i hj
      by_cases h':j<c.ps.length
      ·have helj:=IV h'
       have hx:=List.getElem_mem h'
       have hok:=hps _ hx
       have hfx:=hfp _ hx
       have hgx:c.ps[j]? = some c.ps[j]:=List.getElem?_eq_getElem h'
       have hpb:=fun (q:Int) (h0:0≤q) (hq:q≤EX c.ms c.ps[j].me)=>JD hf hx h0 hq
       have hbj2:=Oi hf d i (show j+1≤c.ps.length by omega)
       have hsb:sg (E9 c.ps d i) (j+1)=sg (E9 c.ps d i) j+E9 c.ps d i j:=by rw [sg]
       generalize c.ps[j]=x at *
       simp -implicitDefEqProofs -proj only [go_sem,seval,decide_eq_true (show (j:Int)<c.ps.length by omega)]
       refine Ai _ (by omega) helj ?_
       simp -implicitDefEqProofs -proj only [go_sem,seval]
       refine AI (fun b12 hb12=>?_)
       replace hb12:Hj b12=none:=hb12
       by_cases hon:x.me=(i:Int)∧Eu d x.f x.t
       rotate_left
       ·have hqs:=AKm (mx:=m.mx) hgx hon
        have hb0:=AAn hgx hon
        rw [hb0,Int.add_zero] at hsb
        have hfin:AS (upd Hj b12 (some (.box 40 [i64 x.me,i64 x.f,i64 x.t,i64 x.al,i64 x.bl,i64 x.ki,EZ x.ts,i64 x.mo,Ec x.ad]))) (F3 b2 b4 b5 b10 c d ⟨i,c1,cap⟩ m.mx (FZ c d+sg (FP c d) i+sg (E9 c.ps d i) (j+1)) (j+1) 0):=by
         simp -implicitDefEqProofs only [F3,Fw,Gg,Gq,hqs,hsb]
         exact Aj hb12 hallj
        have hnj1:(AN (F3 b2 b4 b5 b10 c d ⟨i,c1,cap⟩ m.mx (FZ c d+sg (FP c d) i+sg (E9 c.ps d i) (j+1)) (j+1) 0)).Nodup:=by
         simpa only [F3,Fw,Gg,Gq,AN,List.map_cons,List.map_append] using hnj
        by_cases c1':x.me=(i:Int)
        ·by_cases c2:d<x.f
         ·simp -implicitDefEqProofs -proj only [go_sem,seval,decide_eq_true c1',Bool.not_true,decide_eq_true c2]
          refine Ac (j+1) ⟨by omega,hnj1⟩ (by show c.ps.length-(j+1)<c.ps.length-j; omega) rfl ?_ hfin
          simp -implicitDefEqProofs -proj only [go_sem,seval,AL,AR (show j<9223372036854775807 by omega)]
         ·have c3:x.t<d:=by unfold Eu at hon; omega
          simp -implicitDefEqProofs -proj only [go_sem,seval,decide_eq_true c1',Bool.not_true,decide_eq_false c2,decide_eq_true c3]
          refine Ac (j+1) ⟨by omega,hnj1⟩ (by show c.ps.length-(j+1)<c.ps.length-j; omega) rfl ?_ hfin
          simp -implicitDefEqProofs -proj only [go_sem,seval,AL,AR (show j<9223372036854775807 by omega)]
        ·simp -implicitDefEqProofs -proj only [go_sem,seval,decide_eq_false c1',Bool.not_false]
         refine Ac (j+1) ⟨by omega,hnj1⟩ (by show c.ps.length-(j+1)<c.ps.length-j; omega) rfl ?_ hfin
         simp -implicitDefEqProofs -proj only [go_sem,seval,AL,AR (show j<9223372036854775807 by omega)]
       obtain ⟨c1',c2',c3'⟩:=id hon
       have hb0:=AC0 hgx hon
       have hmx0:EX c.ms x.me=m.mx:=by rw [c1']; exact hmxx
       have G:=MP hok
       have hp0:=hpb 0 (Int.le_refl 0) (by omega)
       have hcall0:=NY (q:=0) hfx (by decide) G (Lp G.ts)
       rw [hp0.1,EN] at hcall0
       simp -implicitDefEqProofs -proj only [go_sem,seval,decide_eq_true c1',Bool.not_true,decide_eq_false (show ¬d<x.f by omega),decide_eq_false (show ¬x.t<d by omega)]
       refine AK hcall0 ?_
       obtain ⟨x1,x2⟩:=AG hb12 v5
       obtain ⟨x3,x4⟩:=AG hb12 v10
       have w2:IntKind.i64.wrap (FZ c d+sg (FP c d) i+sg (E9 c.ps d i) j+pv x 0)=FZ c d+sg (FP c d) i+sg (E9 c.ps d i) (j+1):=by rw [IntKind.wrap_i64]; omega
       have hnd2:(AN ((b12,Blk.box 40 [i64 x.me,i64 x.f,i64 x.t,i64 x.al,i64 x.bl,i64 x.ki,EZ x.ts,i64 x.mo,Ec x.ad])::F3 b2 b4 b5 b10 c d ⟨i,c1,cap⟩ m.mx (FZ c d+sg (FP c d) i+sg (E9 c.ps d i) (j+1)) j 0)).Nodup:=by
        have:=GR (x:=Blk.box 40 [i64 x.me,i64 x.f,i64 x.t,i64 x.al,i64 x.bl,i64 x.ki,EZ x.ts,i64 x.mo,Ec x.ad]) hb12 hallj hnj
        simpa only [F3,Fw,Gg,Gq,AN,List.map_cons,List.map_append] using this
       simp -implicitDefEqProofs -proj only [go_sem,seval,v5,x1,x2,w2]
       refine BJ (fun k:Nat=>k≤(m.mx+1).toNat) 129 (fun k=>[(1,i64 d),(2,.ptr b2 0),(4,.ptr b4 0),(5,.ptr b5 0),(48,.d (.sl 5 (BV c.ms))),(49,i64 c.ms.length),(50,i64 i),(8,i64 i),(10,.own b10 1 0 (m.mx+1).toNat (m.mx+1).toNat),(60,.d (.sl 9 (Ea c.ps))),(61,i64 c.ps.length),(62,i64 j),(12,.ptr b12 0),(13,i64 (pv x 0)),(93,i64 (m.mx+1).toNat),(94,i64 k)]) (fun k=>(b12,Blk.box 40 [i64 x.me,i64 x.f,i64 x.t,i64 x.al,i64 x.bl,i64 x.ki,EZ x.ts,i64 x.mo,Ec x.ad])::F3 b2 b4 b5 b10 c d ⟨i,c1,cap⟩ m.mx (FZ c d+sg (FP c d) i+sg (E9 c.ps d i) (j+1)) j k) (fun k=>(m.mx+1).toNat-k) 0 (Nat.zero_le _) rfl ?_ ?_ ?_
       ·simp -implicitDefEqProofs -proj only [go_sem,seval,AL]
       ·simp -implicitDefEqProofs only [F3,Fw,Gg,Gq]
        have hnr:b5∉AN [(b2,CS c),(b4,GY 0 0 (.nilsl 2))]:=by simp [AN,n3,n5]
        have hnrow:b5∉AN (Ah 51 2 c1 cap (Al (Eh c d i))):=by
         have h1:=(List.nodup_cons.1 hnj).2
         simp -implicitDefEqProofs only [AN,List.map_append,List.map_cons] at h1
         exact fun hm=>(List.nodup_append.1 h1).2.2 _ hm _ (List.mem_cons_self ..) rfl
        have hn10:¬b5=b10:=fun e=>(List.nodup_cons.1 hnj).1 (by rw [←e]; simp [AN])
        refine ⟨(AD x2).trans AP,(AD hn10).trans ((AD x3).trans v10),Ar.2 ⟨Fx (Aj hb12 vrow) hnrow,AP,Fx (Aj hb12 ⟨v2,v4,trivial⟩) hnr⟩⟩
       ·rintro k hk
        have hndk:(AN ((b12,Blk.box 40 [i64 x.me,i64 x.f,i64 x.t,i64 x.al,i64 x.bl,i64 x.ki,EZ x.ts,i64 x.mo,Ec x.ad])::F3 b2 b4 b5 b10 c d ⟨i,c1,cap⟩ m.mx (FZ c d+sg (FP c d) i+sg (E9 c.ps d i) (j+1)) j k)).Nodup:=by
         simpa only [F3,Fw,Gg,Gq,AN,List.map_cons,List.map_append] using hnd2
        have hallk:=EQ hndk
        generalize hHk:Ad ((b12,Blk.box 40 [i64 x.me,i64 x.f,i64 x.t,i64 x.al,i64 x.bl,i64 x.ki,EZ x.ts,i64 x.mo,Ec x.ad])::F3 b2 b4 b5 b10 c d ⟨i,c1,cap⟩ m.mx (FZ c d+sg (FP c d) i+sg (E9 c.ps d i) (j+1)) j k)=Hk at *
        simp -implicitDefEqProofs only [F3,Fw,Gg,Gq] at hallk
        obtain ⟨y12,y10,yr⟩:=id hallk
        by_cases h'':k<(m.mx+1).toNat
        ·have hpk:=hpb k (by omega) (by omega)
         have hcallk:=NY (q:=(k:Int)) hfx (by unfold Fit; omega) G (Lp G.ts)
         rw [hpk.1,EN] at hcallk
         have hrj:=hri k (by omega) (by omega) j (by omega)
         have hrj2:=hri k (by omega) (by omega) (j+1) (by omega)
         have hrs:sg (FQ c.ps d i k) (j+1)=sg (FQ c.ps d i k) j+(pv x k-pv x 0):=by rw [sg,AML hgx hon]
         have hge:=KF (ACo (c:=c) (d:=d) (m:=i) (mx:=m.mx) (j:=j) h'')
         have hset:(AU (qL c d i m.mx j k)).set k [.int .i64 (sg (FQ c.ps d i k) (j+1))]=AU (qL c d i m.mx j (k+1)):=by rw [AKk,APd h'']
         have w3:IntKind.i64.wrap (IntKind.i64.wrap (sg (FQ c.ps d i k) j+pv x k)-pv x 0)=sg (FQ c.ps d i k) (j+1):=by
          rw [IntKind.wrap_i64 (sg _ _+_),IntKind.wrap_i64]; omega
         simp -implicitDefEqProofs -proj only [go_sem,seval,y12,decide_eq_true (show (k:Int)<(((m.mx+1).toNat:Nat):Int) by omega)]
         refine AK hcallk ?_
         simp -implicitDefEqProofs -proj only [go_sem,seval,Int.toNat_natCast,y12,y10]
         refine Aa ⟨by omega,by omega⟩ (fun _=>?_)
         refine BC _ hge (by simp) ?_
         simp -implicitDefEqProofs -proj only [go_sem,seval,Int.toNat_natCast,y12,y10,w3]
         refine Aa ⟨by omega,by omega⟩ (fun _=>?_)
         refine Kj y10 hge (by simp) ?_
         simp -implicitDefEqProofs -proj only [go_sem,seval,F4,hset]
         have hne12:¬b10=b12:=x4
         have hnr:b10∉AN (Ah 51 2 c1 cap (Al (Eh c d i))++[(b5,GY d (FZ c d+sg (FP c d) i+sg (E9 c.ps d i) (j+1)) (As 2 2 c1 cap (Al (Eh c d i)))),(b2,CS c),(b4,GY 0 0 (.nilsl 2))]):=by
          have:=(List.nodup_cons.1 (List.nodup_cons.1 hndk).2).1
          simpa only [F3,Fw,Gg,Gq,AN,List.map_cons,List.map_append] using this
         refine Ac (k+1) (by omega) (by show (m.mx+1).toNat-(k+1)<(m.mx+1).toNat-k; omega) rfl ?_ ?_
         ·simp -implicitDefEqProofs -proj only [go_sem,seval,AL,AR (show k<9223372036854775807 by omega)]
         ·simp -implicitDefEqProofs only [F3,Fw,Gg,Gq]
          exact ⟨(AD hne12).trans y12,AP,Fx yr hnr⟩
        ·have hk':k=(m.mx+1).toNat:=by omega
         subst hk'
         simp -implicitDefEqProofs -proj only [go_sem,seval,decide_eq_false (show ¬(((m.mx+1).toNat:Nat):Int)<(((m.mx+1).toNat:Nat):Int) by omega)]
         rw [ANg] at y10
         refine Ac (j+1) ⟨by omega,?_⟩ (by show c.ps.length-(j+1)<c.ps.length-j; omega) rfl ?_ ?_
         ·have:=(List.nodup_cons.1 hnd2).2
          simpa only [F3,Fw,Gg,Gq,AN,List.map_cons,List.map_append] using this
         ·simp -implicitDefEqProofs -proj only [go_sem,seval,AL,AR (show j<9223372036854775807 by omega)]
         ·simp -implicitDefEqProofs only [F3,Fw,Gg,Gq]
          exact ⟨y10,yr⟩
      ·have hj':j=c.ps.length:=by omega
       subst hj'
       rw [AUX] at v10
       have hfl:Jf (IX c d i m.mx):=fun q hq=>by
        have:=hlc.2.2 _ (List.getElem_mem hq)
        unfold E1 at this
        unfold Fit; omega
       have hof:=AVY hfl (by rw [Mq]; omega)
       rw [if_pos hlc] at hof
       simp -implicitDefEqProofs -proj only [go_sem,seval,decide_eq_false (show ¬(c.ps.length:Int)<c.ps.length by omega)]
       refine Ko hof (E3 (KS v10 (by rw [rowI_len,Mq])) GC) ?_
       simp -implicitDefEqProofs -proj only [go_sem,seval]
       refine AI (fun b18 hb18=>?_)
       replace hb18:Hj b18=none:=hb18
       obtain ⟨z1,z2⟩:=AG hb18 v5
       simp -implicitDefEqProofs -proj only [go_sem,seval,v5,z1,z2]
       refine Ao (fun bs hs=>?_)
       have hs':upd Hj b18 _ bs=none:=hs
       obtain ⟨hall',hn'⟩:AS Hj (Ah 51 2 c1 cap (Al (Eh c d i))++[(b5,GY d (FZ c d+sg (FP c d) i+sg (E9 c.ps d i) c.ps.length) (As 2 2 c1 cap (Al (Eh c d i)))),(b2,CS c),(b4,GY 0 0 (.nilsl 2))])∧(AN (Ah 51 2 c1 cap (Al (Eh c d i))++[(b5,GY d (FZ c d+sg (FP c d) i+sg (E9 c.ps d i) c.ps.length) (As 2 2 c1 cap (Al (Eh c d i)))),(b2,CS c),(b4,GY 0 0 (.nilsl 2))])).Nodup:=⟨hr,(List.nodup_cons.1 hnj).2⟩
       obtain ⟨q1,q2⟩:=AG hs' (by rw [AD z1]; exact v5)
       simp -implicitDefEqProofs -proj only [go_sem,seval,q1,q2,z1,z2]
       refine FB (xs:=Al (Eh c d i)) (y:=[.int .i64 (((IX c d i m.mx).length:Int)-1),.sl 5 (A0 (ER (IX c d i m.mx)))]) (t:=51) (capc:=1) [(b5,GY d (FZ c d+sg (FP c d) i+sg (E9 c.ps d i) c.ps.length) (As 2 2 c1 cap (Al (Eh c d i)))),(b2,CS c),(b4,GY 0 0 (.nilsl 2))] rfl (Aj hs' (Aj hb18 hall')) hn' (by simp -implicitDefEqProofs -proj only [go_sem,seval]; try rfl) (by rw [GJ,Ig]; omega) (by rw [GJ,Ig]; omega) (fun H' c2 cap2 ha hk=>?_)
       rw [AL3,←hsn] at ha hk
       obtain ⟨hrow2,g5,g2,g4,_⟩:=Ar.1 ha
       have hne:Al (Eh c d (i+1))≠[]:=by rw [hsn]; simp [Al]
       have hl1:(Al (Eh c d (i+1))).length=i+1:=by rw [GJ,Ig]
       have hfx1:FZ c d+sg (FP c d) i+sg (E9 c.ps d i) c.ps.length=FZ c d+sg (FP c d) (i+1):=by rw [hfm0]; omega
       rw [hfx1] at g5
       simp -implicitDefEqProofs -proj only [go_sem,seval,g5,GJ,Ig]
       have hk2:(AN (JY b2 b4 b5 c d ⟨i+1,c2,cap2⟩)).Nodup:=by simpa only [JY,Fw,Gg,Gq,AN,List.map_cons,List.map_append] using hk
       have hk5:b5∉AN (Ah 51 2 c2 cap2 (Al (Eh c d (i+1)))):=by
        simp -implicitDefEqProofs only [AN,List.map_append,List.map_cons] at hk
        exact fun hm=>(List.nodup_append.1 hk).2.2 _ hm _ (List.mem_cons_self ..) rfl
       refine Ac ⟨i+1,c2,cap2⟩ ⟨by rw [Fw]; omega,hk2⟩ (by show c.ms.length-(i+1)<c.ms.length-i; omega) rfl ?_ ?_
       ·simp -implicitDefEqProofs -proj only [go_sem,seval,AL,Fw,AR (show i<9223372036854775807 by omega)]
       ·simp -implicitDefEqProofs only [JY,Fw,Gg,Gq,EM hne,hl1]
        exact Ar.2 ⟨Fx hrow2 hk5,AP,(AD n5).trans g2,(AD n3).trans g4,trivial⟩
    ·have hi':i=c.ms.length:=by omega
     subst hi'
     simp -implicitDefEqProofs -proj only [go_sem,seval,Fw,Gg,Gq,hH,k5,k4,decide_eq_false (show ¬(c.ms.length:Int)<c.ms.length by omega)]
     exact SR (LO (Fx hrow (by
      have:=hn
      simp -implicitDefEqProofs only [AN,List.map_append,List.map_cons] at this
      exact fun hm=>(List.nodup_append.1 this).2.2 _ hm _ (by simp) rfl)))
theorem AO8 {a b:List (List Int)} (hl:a.length=b.length) (h:∀(i:Nat) (h1:i<a.length) (h2:i<b.length),a[i]=b[i]):a=b:=List.ext_getElem hl h
theorem SV {a b:Seg Ei} (ha:∀l∈a.v.2,BG l) (hb:∀l∈b.v.2,BG l) (hla:a.v.2.length≤1000000) (hlb:b.v.2.length≤1000000):DataW Tryz.prog AQ8 [J0 a,J0 b] (bv (decide (a.v=b.v))):=by
 obtain ⟨af,at',x,A⟩:=a
 obtain ⟨bf,bt',y,B⟩:=b
 simp -implicitDefEqProofs only [] at ha hb hla hlb
 refine AZ ACJ (by simp) ?_
 simp -implicitDefEqProofs -proj only [go_sem,seval]
 refine AI (fun b2 hb2=>?_)
 simp -implicitDefEqProofs -proj only [go_sem,seval]
 refine AI (fun b3 hb3=>?_)
 replace hb3:upd Heap.none b2 _ b3=none:=hb3
 obtain ⟨n1,n2⟩:=AG hb3 AP
 by_cases g1:x=y
 rotate_left
 ·simp -implicitDefEqProofs -proj only [go_sem,seval,n1,n2,decide_eq_false g1,Bool.not_false]
  exact AJ (by rw [decide_eq_false (fun k=>g1 (Prod.mk.inj k).1)])
 by_cases g2:A.length=B.length
 rotate_left
 ·simp -implicitDefEqProofs -proj only [go_sem,seval,n1,n2,decide_eq_true g1,Bool.not_true,GJ,decide_eq_false (show ¬(A.length:Int)=B.length by omega),Bool.not_false]
  exact AJ (by rw [decide_eq_false (fun k=>g2 (by rw [(Prod.mk.inj k).2]))])
 simp -implicitDefEqProofs -proj only [go_sem,seval,n1,n2,decide_eq_true g1,Bool.not_true,GJ,decide_eq_true (show (A.length:Int)=B.length by omega)]
 refine BJ (fun i:Nat=>i≤A.length∧∀(j:Nat) (h:j<A.length) (h2:j<B.length),j<i→A[j]=B[j]) 39 (fun i=>[(2,.ptr b2 0),(3,.ptr b3 0),(22,i64 A.length),(23,i64 i)]) (fun _=>[(b3,.box 47 [i64 bf,i64 bt',i64 y,Gm B]),(b2,.box 47 [i64 af,i64 at',i64 x,Gm A])]) (fun i=>A.length-i) 0 ⟨Nat.zero_le _,fun j _ _ h=>absurd h (Nat.not_lt_zero _)⟩ rfl ?_ ?_ ?_
 ·simp -implicitDefEqProofs -proj only [go_sem,seval,AL,GJ]
 ·exact ⟨AP,(AD n1).trans AP,trivial⟩
 ·rintro i ⟨hi,hs⟩
  have hk:AS (Ad [(b3,.box 47 [i64 bf,i64 bt',i64 y,Gm B]),(b2,.box 47 [i64 af,i64 at',i64 x,Gm A])]) [(b3,.box 47 [i64 bf,i64 bt',i64 y,Gm B]),(b2,.box 47 [i64 af,i64 at',i64 x,Gm A])]:=EQ (by simp [AN,n1])
  obtain ⟨k3,k2,_⟩:=id hk
  by_cases h:i<A.length
  ·have h2:i<B.length:=by omega
   have e1:=LU h
   have e2:=LU h2
   have hca:=ha _ (List.getElem_mem h)
   have hcb:=hb _ (List.getElem_mem h2)
   have hno:A[i]≠B[i]→(x,A)≠(y,B):=fun hn k=>hn (by
    have:=(Prod.mk.inj k).2
    subst this; rfl)
   have hgo:A[i]=B[i]→∀(j:Nat) (h:j<A.length) (h2:j<B.length),j<i+1→A[j]=B[j]:=fun he j h1 h2 h3=>by
    by_cases hj:j=i
    ·subst hj; exact he
    ·exact hs j h1 h2 (by omega)
   generalize A[i]=l at *
   generalize B[i]=m at *
   have hla':(ER l).length≤1000000:=by have:=@Jd l; have:=hca.2.1; omega
   have hlb':(ER m).length≤1000000:=by have:=@Jd m; have:=hcb.2.1; omega
   have hcall:=AOf (m:=(l.length:Int)-1) (n:=(m.length:Int)-1) hla' hlb'
   rw [show decide ((l.length:Int)-1=(m.length:Int)-1∧ER l=ER m)=decide (l=m) from decide_eq_decide.2 Te] at hcall
   simp -implicitDefEqProofs -proj only [go_sem,seval,k3,k2,n1,n2,decide_eq_true (show (i:Int)<A.length by omega)]
   refine Ai _ (by omega) e1 ?_
   simp -implicitDefEqProofs -proj only [go_sem,seval,k3,k2,n1,n2]
   refine Ai _ (by omega) e2 ?_
   simp -implicitDefEqProofs -proj only [go_sem,seval,k3,k2,n1,n2]
   refine AK hcall ?_
   by_cases c:l=m
   ·simp -implicitDefEqProofs -proj only [go_sem,seval,decide_eq_true c,Bool.not_true]
    refine Ac (i+1) ⟨by omega,hgo c⟩ (by show A.length-(i+1)<A.length-i; omega) rfl ?_ hk
    simp -implicitDefEqProofs -proj only [go_sem,seval,AL,AR (show i<9223372036854775807 by omega)]
   ·simp -implicitDefEqProofs -proj only [go_sem,seval,decide_eq_false c,Bool.not_false]
    exact AJ (by rw [decide_eq_false (hno c)])
  ·have hi':i=A.length:=by omega
   subst hi'
   simp -implicitDefEqProofs -proj only [go_sem,seval,decide_eq_false (show ¬(A.length:Int)<A.length by omega)]
   exact AJ (by rw [decide_eq_true (show (x,A)=(y,B) by rw [g1,AO8 g2 fun j h1 h2=>hs j h1 h2 h1])])
theorem ABV {l:List Int}:∀el∈AU l,∀d∈el,HA d=true:=by
 intro el he d hd
 obtain ⟨r,_,rfl⟩:=List.mem_map.1 he
 simp -implicitDefEqProofs only [List.mem_singleton] at hd
 subst hd; rfl
theorem AW6 {l:List Int} {x:Int}:AU l++[[.int .i64 x]]=AU (l++[x]):=by simp [AU]
structure BX17 where
 i:Nat
 c:Nat
 cap:Nat
theorem HJ {i c cap:Nat}:(BX17.mk i c cap).i=i:=(rfl)
theorem JT {i c cap:Nat}:(BX17.mk i c cap).c=c:=(rfl)
theorem Jr {i c cap:Nat}:(BX17.mk i c cap).cap=cap:=(rfl)
theorem Rj {val:Int→Int} {f:Int}:∀n:Nat,(Et val f n).length≤n
 | 0=>by simp [Et]
 | n+1=>by
  have:=Rj (val:=val) (f:=f) n
  rw [Et]
  split
  ·omega
  ·rw [List.length_append,List.length_singleton]; omega
def I2 (b1:Nat) (x:CoreX) (val:Int→Int) (y:BX17):List (Nat×Blk):=Ah 3 1 y.c y.cap (AU (Et val x.f y.i))++[(b1,CS x)]
theorem AGK {c:CoreX} (hg:goodC c):NewW Tryz.prog AFN [Gz c] (Jg (Et (fun d=>((FL c d:Nat):Int)) c.f (c.t-c.f).toNat)):=by
 obtain ⟨⟨a1,a2⟩,⟨a3,a4⟩,a5,a6,a7,a8⟩:=hg.hd
 have hrh:=fun day=>ANx (c:=c) (day:=day) a7 a8
 obtain ⟨val,hval⟩:∃val:Int→Int,(fun d=>((FL c d:Nat):Int))=val:=⟨_,rfl⟩
 have hv:∀d,((FL c d:Nat):Int)=val d:=fun d=>congrFun hval d
 rw [hval]
 simp -implicitDefEqProofs only [hv] at hrh
 refine AZ ADe (by simp) ?_
 simp -implicitDefEqProofs -proj only [go_sem,seval]
 refine AI (fun b1 hb1=>?_)
 have w1:IntKind.i64.wrap (c.f+1)=c.f+1:=by rw [IntKind.wrap_i64]; omega
 simp -implicitDefEqProofs -proj only [go_sem,seval,w1]
 refine BJ (fun y:BX17=>y.i≤(c.t-c.f).toNat∧(AN (I2 b1 c val y)).Nodup) 27 (fun y=>[(1,.ptr b1 0),(3,As 0 1 y.c y.cap (AU (Et val c.f y.i))),(4,i64 (c.f+1+y.i))]) (I2 b1 c val) (fun y=>(c.t-c.f).toNat+1-y.i) ⟨0,0,0⟩ ⟨Nat.zero_le _,by simp [AN,I2,HJ,Et,AU,Ah]⟩ rfl ?_ ?_ ?_
 ·simp -implicitDefEqProofs -proj only [go_sem,seval,AL,HJ,Int.add_zero]
  try rfl
 ·simp -implicitDefEqProofs only [I2,HJ,Et,AU,List.map_nil,Hw,List.nil_append]
  exact ⟨AP,trivial⟩
 ·rintro ⟨i,c1,cap⟩ ⟨hi,hn⟩
  simp -implicitDefEqProofs only [HJ] at hi
  have hall:=EQ hn
  obtain ⟨H,hH⟩:∃H,Ad (I2 b1 c val ⟨i,c1,cap⟩)=H:=⟨_,rfl⟩
  rw [hH] at hall
  simp -implicitDefEqProofs only [I2,HJ,JT,Jr] at hall hn
  obtain ⟨hrow,k1,_⟩:=Ar.1 hall
  by_cases h:i<(c.t-c.f).toNat
  ·have hbl:=Rj (val:=val) (f:=c.f) i
   have w2:IntKind.i64.wrap (c.f+1+(i:Int)-1)=c.f+i:=by rw [IntKind.wrap_i64]; omega
   have w3:IntKind.i64.wrap (c.f+1+(i:Int)+1)=c.f+1+((i+1:Nat):Int):=by rw [IntKind.wrap_i64]; omega
   have h1:=hrh (c.f+1+i)
   have h2:=hrh (c.f+i)
   have hb:Et val c.f (i+1)=if val (c.f+1+i)=val (c.f+i) then Et val c.f i else Et val c.f i++[c.f+1+i]:=rfl
   generalize hG:Et val c.f i=G at *
   simp -implicitDefEqProofs -proj only [go_sem,seval,HJ,JT,Jr,hH,hG,k1,decide_eq_true (show c.f+1+(i:Int)≤c.t by omega)]
   refine Eb h1 ?_
   simp -implicitDefEqProofs -proj only [go_sem,seval,k1,w2]
   refine AK h2 ?_
   by_cases he:val (c.f+1+i)=val (c.f+i)
   ·rw [if_pos he] at hb
    simp -implicitDefEqProofs -proj only [go_sem,seval,decide_eq_true he,w3]
    refine Ac ⟨i+1,c1,cap⟩ ⟨by rw [HJ]; omega,by simpa only [I2,HJ,JT,Jr,hb] using hn⟩ (by show (c.t-c.f).toNat+1-(i+1)<(c.t-c.f).toNat+1-i; omega) rfl ?_ ?_
    ·simp -implicitDefEqProofs -proj only [go_sem,seval,AL,HJ,JT,Jr,hb]
    ·simpa only [I2,HJ,JT,Jr,hb] using hall
   ·rw [if_neg he] at hb
    have hne:AU (Et val c.f (i+1))≠[]:=by rw [hb]; simp [AU]
    have hl2:(AU (Et val c.f (i+1))).length=G.length+1:=by rw [rowI_len,hb,List.length_append,List.length_singleton]
    simp -implicitDefEqProofs -proj only [go_sem,seval,decide_eq_false he]
    refine Ao (fun bs hs=>?_)
    replace hs:H bs=none:=hs
    simp -implicitDefEqProofs -proj only [go_sem,seval]
    refine FB (xs:=AU G) (y:=[.int .i64 (c.f+1+i)]) (t:=3) (capc:=1) [(b1,CS c)] rfl (Aj hs hall) hn (by simp -implicitDefEqProofs -proj only [go_sem,seval]; try rfl) (by rw [rowI_len]; omega) (by rw [rowI_len]; omega) (fun H' c2 cap2 ha hk=>?_)
    rw [AW6,←hb] at ha hk
    simp -implicitDefEqProofs -proj only [go_sem,seval,w3,rowI_len]
    refine Ac ⟨i+1,c2,cap2⟩ ⟨by rw [HJ]; omega,by simpa only [I2,HJ,JT,Jr] using hk⟩ (by show (c.t-c.f).toNat+1-(i+1)<(c.t-c.f).toNat+1-i; omega) rfl ?_ ?_
    ·simp -implicitDefEqProofs -proj only [go_sem,seval,AL,HJ,JT,Jr,EM hne,hl2,rowI_len]
    ·simpa only [I2,HJ,JT,Jr] using ha
  ·have hi':i=(c.t-c.f).toNat:=by omega
   subst hi'
   simp -implicitDefEqProofs -proj only [go_sem,seval,HJ,JT,Jr,hH,k1,decide_eq_false (show ¬c.f+1+(((c.t-c.f).toNat:Nat):Int)≤c.t by omega)]
   exact Ki hrow ABV
section
variable {P:Program} {Q:Out→St→Prop} {k:List Item} {s:St} {d:Option Nat} {l:List AO}
theorem Od {e:TypeId} {sz bytes b len cap:Nat} {z:List AV} {xs ys:List (List D)} (hb:s.H b=some (.row e sz cap xs)) (hlb:len=xs.length) (hz:z.length=sz) (hbd:(xs.length+ys.length)*bytes≤140737488355328∧xs.length+ys.length≤maxLen)
  (hk:∀b' cap' H',H' b'=some (.row e sz cap' (xs++ys))→(∀k x,s.H k=some x→¬k=b→H' k=some x∧¬k=b'∧¬b'=k)→AY P Q l k (AM s d (.own b' sz 0 (len+ys.length) cap') H')):Iw e sz bytes z (.own b sz 0 len cap) (.d (.sl sz ys)) d l k s P Q:=by
 by_cases h:ys=[]
 ·subst h
  refine WC hz ?_
  have:=hk b cap s.H (by rw [List.append_nil]; exact hb) (fun k x h1 h2=>⟨h1,h2,fun e=>h2 e.symm⟩)
  simpa using this
 ·refine Zy (len:=0) hb hlb h hz hbd (fun b' cap' hb'=>hk b' cap' _ AP (fun k x h1 h2=>?_))
  have hne:¬k=b':=by
   rintro rfl
   rw [AD (fun e=>h2 e.symm),h1] at hb'
   cases hb'
  exact ⟨by rw [AD (fun e=>hne e.symm),AD (fun e=>h2 e.symm)]; exact h1,hne,fun e=>hne e.symm⟩
end
structure MkY where
 i:Nat
 c:Nat
 cap:Nat
theorem Gx {i c cap:Nat}:(MkY.mk i c cap).i=i:=(rfl)
theorem Ja {i c cap:Nat}:(MkY.mk i c cap).c=c:=(rfl)
theorem Jt {i c cap:Nat}:(MkY.mk i c cap).cap=cap:=(rfl)
def GD (b1 b2 b3 bm bd capm capd:Nat) (c:CoreX) (ds:List Int) (c1 cap:Nat) (acc:List (Seg Ei)):List (Nat×Blk):=Ah 47 4 c1 cap (Aq acc)++[(b3,.box 31 [.d (.str c.cur),i64 c.f,i64 c.t,.own bm 5 0 c.ms.length capm,As 4 4 c1 cap (Aq acc)]),(bm,.row 42 5 capm (BV c.ms)),(bd,.row 3 1 capd (AU ds)),(b1,CS c),(b2,.box 31 [.d (.str ⟨⟨[]⟩⟩),i64 0,i64 0,.nilsl 5,.nilsl 4])]
theorem Ub {b1 b2 b3 bm bd capm capd:Nat} {c:CoreX} {ds:List Int} {c1 cap:Nat} {A:List (Seg Ei)} {s s':Seg Ei}:AN (GD b1 b2 b3 bm bd capm capd c ds c1 cap (A++[s]))=AN (GD b1 b2 b3 bm bd capm capd c ds c1 cap (A++[s'])):=by
 have h:∀s:Seg Ei,Aq (A++[s])≠[]:=fun s=>by simp [Aq]
 simp -implicitDefEqProofs only [GD,Ed (h s),Ed (h s'),AN,List.map_append,List.map_cons,List.map_nil]
theorem AGe {c:CoreX} (hc:c.Fit) (hf:fitsC c):DataW Tryz.prog AIS [Gz c] (Iz c.cur c.f c.t c.ms (HK c)):=by
 obtain ⟨⟨a1,a2⟩,⟨a3,a4⟩,a5,a6,a7,a8⟩:=hf.good.hd
 have hbr:=(AGK hf.good).data
 have hst:=ABt (c:=c) a3
 have hfw:=LR (c:=c) a3
 have hlen:=ACn (c:=c) a7 a8 (c.t-c.f).toNat
 have hday:=fun (d:Int) (hd:Fit d)=>APE (d:=d) hc hf hd
 have hcurs:=fun d=>Lm hf d
 have hfin:HK c=LP (Fe (En c) ((HO c).map (·.f)) (HO c).length) c.t:=rfl
 have hadd:=Pd hfw (Nw a7)
 have hRl:(HO c).length=(Et (fun d=>((FL c d:Nat):Int)) c.f (c.t-c.f).toNat).length+1:=by
  have:=congrArg List.length hst
  simpa using this
 have hnth:=hfw.nth2
 rw [hfin]
 rw [hst] at hadd ⊢
 generalize HO c=R at *
 generalize Et (fun d=>((FL c d:Nat):Int)) c.f (c.t-c.f).toNat=bs at *
 refine AZ ASE (by simp) ?_
 simp -implicitDefEqProofs -proj only [go_sem,seval]
 refine AI (fun b1 hb1=>?_)
 simp -implicitDefEqProofs -proj only [go_sem,seval]
 refine AI (fun b2 hb2=>?_)
 replace hb2:upd Heap.none b1 _ b2=none:=hb2
 obtain ⟨n1,n2⟩:=AG hb2 AP
 simp -implicitDefEqProofs -proj only [go_sem,seval,n1,n2]
 have A1:AS (upd (upd Heap.none b1 (some (CS c))) b2 (some (.box 31 [.d (.str ⟨⟨[]⟩⟩),i64 0,i64 0,.nilsl 5,.nilsl 4]))) [(b1,CS c),(b2,.box 31 [.d (.str ⟨⟨[]⟩⟩),i64 0,i64 0,.nilsl 5,.nilsl 4])]:=⟨(AD n1).trans AP,AP,trivial⟩
 have N1:(AN [(b1,CS c),(b2,Blk.box 31 [.d (.str ⟨⟨[]⟩⟩),i64 0,i64 0,.nilsl 5,.nilsl 4])]).Nodup:=by simp [AN,n2]
 obtain ⟨H0,hH0⟩:∃H0,upd (upd Heap.none b1 (some (CS c))) b2 (some (.box 31 [.d (.str ⟨⟨[]⟩⟩),i64 0,i64 0,.nilsl 5,.nilsl 4]))=H0:=⟨_,rfl⟩
 rw [hH0] at A1
 rw [hH0]
 refine Iy (ds:=[]) rfl (fun b14 hb14=>?_)
 replace hb14:H0 b14=none:=hb14
 obtain ⟨k1,k2,_⟩:=id A1
 obtain ⟨m1,m2⟩:=AG hb14 k1
 obtain ⟨m3,m4⟩:=AG hb14 k2
 simp -implicitDefEqProofs -proj only [go_sem,seval]
 refine Od (xs:=[]) (by exact AP) rfl (by rfl) (by rw [FO]; constructor <;> simp [maxLen] <;> omega) (fun bm capm H1 hm hfr=>?_)
 obtain ⟨g1,g2,g3⟩:=hfr b1 _ ((AD m1).trans k1) m2
 obtain ⟨g4,g5,g6⟩:=hfr b2 _ ((AD m3).trans k2) m4
 simp -implicitDefEqProofs -proj only [go_sem,seval,FO]
 refine AI (fun b3 hb3=>?_)
 replace hb3:H1 b3=none:=hb3
 obtain ⟨p1,p2⟩:=AG hb3 g1
 obtain ⟨p3,p4⟩:=AG hb3 g4
 obtain ⟨p5,p6⟩:=AG hb3 hm
 obtain ⟨H2,hH2⟩:∃H2,upd H1 b3 (some (.box 31 [.d (.str c.cur),i64 c.f,i64 c.t,.own bm 5 0 c.ms.length capm,.nilsl 4]))=H2:=⟨_,rfl⟩
 have A2:AS H2 [(b3,.box 31 [.d (.str c.cur),i64 c.f,i64 c.t,.own bm 5 0 c.ms.length capm,.nilsl 4]),(bm,.row 42 5 capm (BV c.ms)),(b1,CS c),(b2,.box 31 [.d (.str ⟨⟨[]⟩⟩),i64 0,i64 0,.nilsl 5,.nilsl 4])]:=by
  rw [←hH2]
  exact ⟨AP,(AD p5).trans hm,(AD p1).trans g1,(AD p3).trans g4,trivial⟩
 have N2:(AN [(b3,Blk.box 31 [.d (.str c.cur),i64 c.f,i64 c.t,.own bm 5 0 c.ms.length capm,.nilsl 4]),(bm,.row 42 5 capm (BV c.ms)),(b1,CS c),(b2,.box 31 [.d (.str ⟨⟨[]⟩⟩),i64 0,i64 0,.nilsl 5,.nilsl 4])]).Nodup:=by
  simp [AN,p1,p3,p5,g3,g6,n2]
 obtain ⟨e3,em,e1,e2,_⟩:=id A2
 simp -implicitDefEqProofs -proj only [go_sem,seval,p1,p2,p3,p4,p5,p6,hH2,e1]
 refine Eb hbr ?_
 simp -implicitDefEqProofs -proj only [go_sem,seval]
 refine Iy (ds:=[.int .i64 c.f]) rfl (fun b21 hb21=>?_)
 replace hb21:H2 b21=none:=hb21
 have A3:=Aj (y:=some (.row 3 1 1 [[.int .i64 c.f]])) hb21 A2
 simp -implicitDefEqProofs -proj only [go_sem,seval]
 refine Od (xs:=[[.int .i64 c.f]]) AP rfl (by rfl) (by rw [rowI_len]; constructor <;> simp [maxLen] <;> omega) (fun bd capd H3 hd hfr3=>?_)
 have A4:AS H3 ((bd,.row 3 1 capd (AU (c.f::bs)))::[(b3,.box 31 [.d (.str c.cur),i64 c.f,i64 c.t,.own bm 5 0 c.ms.length capm,.nilsl 4]),(bm,.row 42 5 capm (BV c.ms)),(b1,CS c),(b2,.box 31 [.d (.str ⟨⟨[]⟩⟩),i64 0,i64 0,.nilsl 5,.nilsl 4])]) :=
  ⟨hd,Ee.2 fun p hp=>(hfr3 p.1 p.2 (Ee.1 A3 p hp) (fun e=>by
   have:=Ee.1 A2 p hp
   rw [e,hb21] at this; cases this)).1⟩
 have N4:bd∉AN [(b3,Blk.box 31 [.d (.str c.cur),i64 c.f,i64 c.t,.own bm 5 0 c.ms.length capm,.nilsl 4]),(bm,.row 42 5 capm (BV c.ms)),(b1,CS c),(b2,.box 31 [.d (.str ⟨⟨[]⟩⟩),i64 0,i64 0,.nilsl 5,.nilsl 4])]:=fun hm=>by
  obtain ⟨p,hp,e⟩:=List.mem_map.1 hm
  exact (hfr3 p.1 p.2 (Ee.1 A3 p hp) (fun e=>by
   have:=Ee.1 A2 p hp
   rw [e,hb21] at this; cases this)).2.1 e
 have hlR:1+bs.length=R.length:=by omega
 obtain ⟨f3,fm,f1,f2,_⟩:=id A4.2
 simp -implicitDefEqProofs -proj only [go_sem,seval,rowI_len,hlR]
 have hkk:∀(c1 cap:Nat),(AN (GD b1 b2 b3 bm bd capm capd c (c.f::bs) c1 cap [])).Nodup:=fun c1 cap=>by
  exact T2 (A:=[b3,bm]) (B:=[b1,b2]) (List.nodup_cons.2 ⟨N4,N2⟩)
 refine BJ (fun y:MkY=>y.i≤R.length∧(AN (GD b1 b2 b3 bm bd capm capd c (c.f::bs) y.c y.cap (Fe (En c) (c.f::bs) y.i))).Nodup) 81 (fun y=>[(1,.ptr b1 0),(2,.ptr b2 0),(3,.ptr b3 0),(24,.own bd 1 0 R.length capd),(25,i64 R.length),(26,i64 y.i)]) (fun y=>GD b1 b2 b3 bm bd capm capd c (c.f::bs) y.c y.cap (Fe (En c) (c.f::bs) y.i)) (fun y=>R.length-y.i) ⟨0,0,0⟩ ⟨Nat.zero_le _,hkk _ _⟩ rfl ?_ ?_ ?_
 ·simp -implicitDefEqProofs -proj only [go_sem,seval,AL,Gx,rowI_len,hlR]
 ·simp -implicitDefEqProofs only [GD,Gx,Fe,Aq,List.map_nil,Hw,JC,List.nil_append]
  exact ⟨f3,fm,A4.1,f1,f2,trivial⟩
 ·rintro ⟨i,c1,cap⟩ ⟨hi,hn⟩
  simp -implicitDefEqProofs only [Gx,Ja,Jt] at hi hn
  have hall:=EQ hn
  obtain ⟨H,hH⟩:∃H,Ad (GD b1 b2 b3 bm bd capm capd c (c.f::bs) c1 cap (Fe (En c) (c.f::bs) i))=H:=⟨_,rfl⟩
  rw [hH] at hall
  simp -implicitDefEqProofs only [GD] at hall
  obtain ⟨hrow,h3,hm3,hd3,h1,h2,_⟩:=Ar.1 hall
  by_cases h:i<R.length
  ·have hr:=List.getElem?_eq_getElem h
   obtain ⟨r1,r2,r3,r4,r5,r6,r7⟩:=hnth i _ hr
   have hds:(c.f::bs)[i]? = some R[i].f:=by rw [←hst]; simp [h]
   have hdi:=KF hds
   have hstep:Fe (En c) (c.f::bs) (i+1)=KD (Fe (En c) (c.f::bs) i) R[i].f (En c R[i].f):=by rw [Fe,hds]
   have hdy:=hday R[i].f (by unfold Fit; omega)
   have hcu:∀l∈(En c R[i].f).2,BG l:=hcurs R[i].f
   have hdl:(En c R[i].f).2.length=c.ms.length:=Ig
   have hacc:∀A s,Fe (En c) (c.f::bs) i=A++[s]→(∀l∈s.v.2,BG l)∧s.v.2.length≤4:=fun A s e=>by
    cases i with
    | zero=>rw [Fe] at e; have:=congrArg List.length e; simp at this
    | succ i =>
     obtain ⟨A',s',e1,e2,_⟩:=hadd i R[i] (List.getElem?_eq_getElem (by omega))
     rw [e1] at e
     have:=(List.append_inj' e rfl).2
     cases this
     rw [e2]
     exact ⟨Lm hf _,by show (Eh c _ _).length≤4; rw [Ig]; exact a6⟩
   have hal:(Fe (En c) (c.f::bs) i).length≤4000:=by
    cases i with
    | zero=>rw [Fe]; simp
    | succ i =>
     obtain ⟨A',s',e1,e2,e3,e4⟩:=hadd i R[i] (List.getElem?_eq_getElem (by omega))
     obtain ⟨_,q2,q3,_⟩:=hnth i R[i] (List.getElem?_eq_getElem (by omega))
     have:=(e4 R[i].f (Int.le_refl _) q2).len
     rw [e1]
     simp -implicitDefEqProofs only [List.length_append,List.length_singleton] at this ⊢
     omega
   generalize R[i]=r at *
   generalize hacd:Fe (En c) (c.f::bs) i=acc at *
   generalize En c r.f=v at *
   have w1:IntKind.i64.wrap (r.f-1)=r.f-1:=by rw [IntKind.wrap_i64]; omega
   simp -implicitDefEqProofs -proj only [go_sem,seval,Gx,Ja,Jt,hacd,hH,hd3,decide_eq_true (show (i:Int)<R.length by omega)]
   refine Aa ⟨by omega,by omega⟩ (fun _=>?_)
   rw [Int.toNat_natCast]
   refine BC _ hdi (by simp) ?_
   simp -implicitDefEqProofs -proj only [go_sem,seval,h1]
   refine AK hdy ?_
   simp -implicitDefEqProofs -proj only [go_sem,seval]
   refine AI (fun b6 hb6=>?_)
   replace hb6:H b6=none:=hb6
   obtain ⟨y1,y2⟩:=AG hb6 h3
   have hall6:=Aj (y:=some (.box 47 [i64 r.f,i64 r.f,i64 v.1,Gm v.2])) hb6 hall
   by_cases c0:acc=[]
   ·subst c0
    have hnew:Fe (En c) (c.f::bs) (i+1)=[⟨r.f,r.f,v⟩]:=by rw [hstep]; rfl
    simp -implicitDefEqProofs only [Aq,List.map_nil,JC,Hw,List.nil_append] at h3 hall6 hn
    have hn6:(AN (Ah 47 4 0 0 (Aq [])++[(b3,Blk.box 31 [.d (.str c.cur),i64 c.f,i64 c.t,.own bm 5 0 c.ms.length capm,.nilsl 4]),(bm,.row 42 5 capm (BV c.ms)),(bd,.row 3 1 capd (AU (c.f::bs))),(b1,CS c),(b2,.box 31 [.d (.str ⟨⟨[]⟩⟩),i64 0,i64 0,.nilsl 5,.nilsl 4])])).Nodup:=hkk 0 0
    simp -implicitDefEqProofs -proj only [go_sem,seval,h3,y1,y2]
    refine Ao (fun bs' hs=>?_)
    replace hs:(upd H b6 (some (.box 47 [i64 r.f,i64 r.f,i64 v.1,Gm v.2]))) bs'=none:=hs
    simp -implicitDefEqProofs -proj only [go_sem,seval]
    refine FB (c:=0) (cap:=0) (z0:=4) (xs:=Aq (([]:List (Seg Ei)))) (y:=[.int .i64 r.f,.int .i64 r.f,.int .i64 v.1,.sl 2 (Al v.2)]) (t:=47) (capc:=1) [(b3,Blk.box 31 [.d (.str c.cur),i64 c.f,i64 c.t,.own bm 5 0 c.ms.length capm,.nilsl 4]),(bm,.row 42 5 capm (BV c.ms)),(bd,.row 3 1 capd (AU (c.f::bs))),(b1,CS c),(b2,.box 31 [.d (.str ⟨⟨[]⟩⟩),i64 0,i64 0,.nilsl 5,.nilsl 4])] rfl (Aj hs hall6) hn6 (by simp -implicitDefEqProofs -proj only [go_sem,seval]; try rfl) (by simp [Aq]) (by simp [Aq]) (fun H' c2 cap2 ha hk=>?_)
    rw [show Aq (([]:List (Seg Ei)))++[[.int .i64 r.f,.int .i64 r.f,.int .i64 v.1,.sl 2 (Al v.2)]]=Aq ([⟨r.f,r.f,v⟩]) by simp [Aq,Jh]] at ha hk
    obtain ⟨hrow',q3,qm,qd,q1,q2,_⟩:=Ar.1 ha
    simp -implicitDefEqProofs -proj only [go_sem,seval,q3]
    have hne':Aq ([⟨r.f,r.f,v⟩])≠[]:=by simp [Aq]
    have hk2:(AN (GD b1 b2 b3 bm bd capm capd c (c.f::bs) c2 cap2 ([⟨r.f,r.f,v⟩]))).Nodup:=by simpa only [GD,AN,List.map_cons,List.map_append] using hk
    have hk3:b3∉AN (Ah 47 4 c2 cap2 (Aq ([⟨r.f,r.f,v⟩]))):=by
     simp -implicitDefEqProofs only [AN,List.map_append,List.map_cons] at hk
     exact fun hm=>(List.nodup_append.1 hk).2.2 _ hm _ (List.mem_cons_self ..) rfl
    have hkr:b3∉AN [(bm,Blk.row 42 5 capm (BV c.ms)),(bd,.row 3 1 capd (AU (c.f::bs))),(b1,CS c),(b2,.box 31 [.d (.str ⟨⟨[]⟩⟩),i64 0,i64 0,.nilsl 5,.nilsl 4])]:=by
     simp -implicitDefEqProofs only [AN,List.map_append,List.map_cons] at hk
     exact (List.nodup_cons.1 (List.nodup_append.1 hk).2.1).1
    refine Ac ⟨i+1,c2,cap2⟩ ⟨by rw [Gx]; omega,by simp -implicitDefEqProofs only [Gx,Ja,Jt]; rw [hnew]; exact hk2⟩ (by show R.length-(i+1)<R.length-i; omega) rfl ?_ ?_
    ·simp -implicitDefEqProofs -proj only [go_sem,seval,AL,Gx,AR (show i<9223372036854775807 by omega)]
    ·simp -implicitDefEqProofs only [Gx,Ja,Jt]
     rw [hnew]
     simp -implicitDefEqProofs only [GD,EM hne',IL,List.length_nil,List.length_append,List.length_cons]
     exact Ar.2 ⟨Fx hrow' hk3,AP,Fx ⟨qm,qd,q1,q2,trivial⟩ hkr⟩
   ·obtain ⟨A,s,hAs⟩:∃A s,acc=A++[s]:=⟨acc.dropLast,acc.getLast c0,(List.dropLast_concat_getLast c0).symm⟩
    subst hAs
    have hne:Aq (A++[s])≠[]:=by simp [Aq]
    have hne1:Aq (A++[⟨s.f,r.f-1,s.v⟩])≠[]:=by simp [Aq]
    have hxl:(Aq (A++[s])).length=A.length+1:=by rw [IL]; simp
    have hxl1:(Aq (A++[⟨s.f,r.f-1,s.v⟩])).length=A.length+1:=by rw [IL]; simp
    obtain ⟨hsc,hsl⟩:=hacc A s rfl
    rw [Ed hne] at hrow
    rw [EM hne,hxl] at h3
    have hkc1:=hrow.1
    have hn':=hn
    simp -implicitDefEqProofs only [GD,Ed hne,AN,List.map_append,List.map_cons,List.map_nil,List.cons_append,List.nil_append] at hn'
    obtain ⟨z1,z2⟩:=AG hb6 hkc1
    obtain ⟨x1,x2,x3,x4,x5⟩:¬c1=b3∧¬c1=bm∧¬c1=bd∧¬c1=b1∧¬c1=b2:=by
     have:=(List.nodup_cons.1 hn').1
     simp -implicitDefEqProofs only [List.mem_cons,List.not_mem_nil,or_false,not_or] at this
     exact this
    have x1':¬b3=c1:=fun e=>x1 e.symm
    have w2:IntKind.i64.wrap (((A.length+1:Nat):Int)-1)=(A.length:Int):=by rw [IntKind.wrap_i64]; simp -implicitDefEqProofs only [List.length_append,List.length_singleton] at hal; omega
    have hat:=Mn (S:=A++[s]) (i:=A.length) (s:=s) (by simp)
    have hat2:=Mn (S:=A++[⟨s.f,r.f-1,s.v⟩]) (i:=A.length) (s:=⟨s.f,r.f-1,s.v⟩) (by simp)
    have hset:=Ox (A:=A) (s:=s) (x:=r.f-1)
    have hal':A.length≤4000:=by simp -implicitDefEqProofs only [List.length_append,List.length_singleton] at hal; omega
    have dz:decide (((A.length+1:Nat):Int)=0)=false:=decide_eq_false (by omega)
    have hcall:=SV (a:=⟨s.f,r.f-1,s.v⟩) (b:=⟨r.f,r.f,v⟩) hsc hcu (by show s.v.2.length≤1000000; omega) (by show v.2.length≤1000000; omega)
    simp -implicitDefEqProofs -proj only [go_sem,seval,h3,y1,y2,hxl,w2,w1,decide_eq_true (show (0:Int)<((A.length+1:Nat):Int) by omega)]
    refine Aa ⟨by omega,by omega⟩ (fun _=>?_)
    rw [Int.toNat_natCast]
    refine Kj (cap:=cap) ((AD z1).trans hkc1) hat (by simp) ?_
    obtain ⟨H5,hH5⟩:∃H5,upd (upd H b6 (some (.box 47 [i64 r.f,i64 r.f,i64 v.1,Gm v.2]))) c1 (some (.row 47 4 cap (Aq (A++[⟨s.f,r.f-1,s.v⟩]))))=H5:=⟨_,rfl⟩
    have hall5:AS H5 ((b6,.box 47 [i64 r.f,i64 r.f,i64 v.1,Gm v.2])::GD b1 b2 b3 bm bd capm capd c (c.f::bs) c1 cap (A++[⟨s.f,r.f-1,s.v⟩])):=by
     rw [←hH5]
     simp -implicitDefEqProofs only [GD,Ed hne1,EM hne1,hxl1,List.cons_append,List.nil_append]
     have h6:=hall6
     rw [Ed hne,EM hne,hxl] at h6
     exact ⟨(AD (fun e=>z1 e.symm)).trans AP,AP,Fx h6.2 (List.nodup_cons.1 hn').1⟩
    simp -implicitDefEqProofs only [GD,Ed hne1,EM hne1,hxl1,List.cons_append,List.nil_append] at hall5
    obtain ⟨u6,uc,u3,um,ud,u1,u2,_⟩:=id hall5
    simp -implicitDefEqProofs -proj only [go_sem,seval,F4,hset,hH5,dz,u3,uc,u6,w2]
    refine Aa ⟨by omega,by omega⟩ (fun _=>?_)
    simp -implicitDefEqProofs -proj only [go_sem,seval,Int.toNat_natCast,uc]
    refine Cg _ hat2 (by simp) ?_
    simp -implicitDefEqProofs -proj only [go_sem,seval,u6]
    refine AK hcall ?_
    by_cases ca:s.v=v
    ·have hnew:Fe (En c) (c.f::bs) (i+1)=A++[⟨s.f,r.f-1,s.v⟩]:=by
      rw [hstep,KD]
      simp -implicitDefEqProofs only [List.getLast?_append,List.getLast?_singleton,Option.some_or,List.dropLast_concat,if_pos ca]
     simp -implicitDefEqProofs -proj only [go_sem,seval,decide_eq_true ca,Bool.not_true]
     refine Ac ⟨i+1,c1,cap⟩ ⟨by rw [Gx]; omega,by simp -implicitDefEqProofs only [Gx,Ja,Jt]; rw [hnew,Ub (s':=s)]; exact hn⟩ (by show R.length-(i+1)<R.length-i; omega) rfl ?_ ?_
     ·simp -implicitDefEqProofs -proj only [go_sem,seval,AL,Gx,AR (show i<9223372036854775807 by omega)]
     ·simp -implicitDefEqProofs only [Gx,Ja,Jt]
      rw [hnew]
      simp -implicitDefEqProofs only [GD,Ed hne1,EM hne1,hxl1,List.cons_append,List.nil_append]
      exact hall5.2
    ·have hnew:Fe (En c) (c.f::bs) (i+1)=A++[⟨s.f,r.f-1,s.v⟩]++[⟨r.f,r.f,v⟩]:=by
      rw [hstep,KD]
      simp -implicitDefEqProofs only [List.getLast?_append,List.getLast?_singleton,Option.some_or,List.dropLast_concat,if_neg ca]
     have hall7:AS H5 (Ah 47 4 c1 cap (Aq (A++[⟨s.f,r.f-1,s.v⟩]))++[(b3,Blk.box 31 [.d (.str c.cur),i64 c.f,i64 c.t,.own bm 5 0 c.ms.length capm,As 4 4 c1 cap (Aq (A++[⟨s.f,r.f-1,s.v⟩]))]),(bm,.row 42 5 capm (BV c.ms)),(bd,.row 3 1 capd (AU (c.f::bs))),(b1,CS c),(b2,.box 31 [.d (.str ⟨⟨[]⟩⟩),i64 0,i64 0,.nilsl 5,.nilsl 4])]):=by
      simp -implicitDefEqProofs only [Ed hne1,EM hne1,hxl1,List.cons_append,List.nil_append]
      exact hall5.2
     have hn7:(AN (Ah 47 4 c1 cap (Aq (A++[⟨s.f,r.f-1,s.v⟩]))++[(b3,Blk.box 31 [.d (.str c.cur),i64 c.f,i64 c.t,.own bm 5 0 c.ms.length capm,As 4 4 c1 cap (Aq (A++[⟨s.f,r.f-1,s.v⟩]))]),(bm,.row 42 5 capm (BV c.ms)),(bd,.row 3 1 capd (AU (c.f::bs))),(b1,CS c),(b2,.box 31 [.d (.str ⟨⟨[]⟩⟩),i64 0,i64 0,.nilsl 5,.nilsl 4])])).Nodup:=by
      rw [Ub (s':=⟨s.f,r.f-1,s.v⟩)] at hn
      exact hn
     obtain ⟨_,u3',_⟩:=Ar.1 hall7
     simp -implicitDefEqProofs -proj only [go_sem,seval,decide_eq_false ca,Bool.not_false,u3',u6]
     refine Ao (fun bs' hs=>?_)
     replace hs:H5 bs'=none:=hs
     simp -implicitDefEqProofs -proj only [go_sem,seval]
     refine FB (c:=c1) (cap:=cap) (z0:=4) (xs:=Aq (A++[Seg.mk s.f (r.f-1) s.v])) (y:=[.int .i64 r.f,.int .i64 r.f,.int .i64 v.1,.sl 2 (Al v.2)]) (t:=47) (capc:=1) [(b3,Blk.box 31 [.d (.str c.cur),i64 c.f,i64 c.t,.own bm 5 0 c.ms.length capm,As 4 4 c1 cap (Aq (A++[⟨s.f,r.f-1,s.v⟩]))]),(bm,.row 42 5 capm (BV c.ms)),(bd,.row 3 1 capd (AU (c.f::bs))),(b1,CS c),(b2,.box 31 [.d (.str ⟨⟨[]⟩⟩),i64 0,i64 0,.nilsl 5,.nilsl 4])] rfl (Aj hs hall7) hn7 (by simp -implicitDefEqProofs -proj only [go_sem,seval]; try rfl) (by rw [hxl1]; omega) (by rw [hxl1]; omega) (fun H' c2 cap2 ha hk=>?_)
     rw [show Aq (A++[⟨s.f,r.f-1,s.v⟩])++[[.int .i64 r.f,.int .i64 r.f,.int .i64 v.1,.sl 2 (Al v.2)]]=Aq (A++[⟨s.f,r.f-1,s.v⟩]++[⟨r.f,r.f,v⟩]) by simp [Aq,Jh]] at ha hk
     obtain ⟨hrow',q3,qm,qd,q1,q2,_⟩:=Ar.1 ha
     simp -implicitDefEqProofs -proj only [go_sem,seval,q3]
     have hne':Aq (A++[⟨s.f,r.f-1,s.v⟩]++[⟨r.f,r.f,v⟩])≠[]:=by simp [Aq]
     have hk2:(AN (GD b1 b2 b3 bm bd capm capd c (c.f::bs) c2 cap2 (A++[⟨s.f,r.f-1,s.v⟩]++[⟨r.f,r.f,v⟩]))).Nodup:=by simpa only [GD,AN,List.map_cons,List.map_append] using hk
     have hk3:b3∉AN (Ah 47 4 c2 cap2 (Aq (A++[⟨s.f,r.f-1,s.v⟩]++[⟨r.f,r.f,v⟩]))):=by
      simp -implicitDefEqProofs only [AN,List.map_append,List.map_cons] at hk
      exact fun hm=>(List.nodup_append.1 hk).2.2 _ hm _ (List.mem_cons_self ..) rfl
     have hkr:b3∉AN [(bm,Blk.row 42 5 capm (BV c.ms)),(bd,.row 3 1 capd (AU (c.f::bs))),(b1,CS c),(b2,.box 31 [.d (.str ⟨⟨[]⟩⟩),i64 0,i64 0,.nilsl 5,.nilsl 4])]:=by
      simp -implicitDefEqProofs only [AN,List.map_append,List.map_cons] at hk
      exact (List.nodup_cons.1 (List.nodup_append.1 hk).2.1).1
     refine Ac ⟨i+1,c2,cap2⟩ ⟨by rw [Gx]; omega,by simp -implicitDefEqProofs only [Gx,Ja,Jt]; rw [hnew]; exact hk2⟩ (by show R.length-(i+1)<R.length-i; omega) rfl ?_ ?_
     ·simp -implicitDefEqProofs -proj only [go_sem,seval,AL,Gx,AR (show i<9223372036854775807 by omega)]
     ·simp -implicitDefEqProofs only [Gx,Ja,Jt]
      rw [hnew]
      simp -implicitDefEqProofs only [GD,EM hne',IL,List.length_nil,List.length_append,List.length_cons]
      exact Ar.2 ⟨Fx hrow' hk3,AP,Fx ⟨qm,qd,q1,q2,trivial⟩ hkr⟩
  ·have hi':i=R.length:=by omega
   subst hi'
   have hR0:R.length-1<R.length:=by omega
   obtain ⟨A,s,e1,e2,e3,e4⟩:=hadd (R.length-1) _ (List.getElem?_eq_getElem hR0)
   rw [show R.length-1+1=R.length by omega] at e1
   rw [e1] at hrow h3 hall hn hH
   have hal:A.length≤4000:=by
    obtain ⟨_,q2,q3,_⟩:=hnth (R.length-1) _ (List.getElem?_eq_getElem hR0)
    have:=(e4 _ (Int.le_refl _) q2).len
    simp -implicitDefEqProofs only [List.length_append,List.length_singleton] at this
    omega
   have hne:Aq (A++[s])≠[]:=by simp [Aq]
   have hne1:Aq (A++[⟨s.f,c.t,s.v⟩])≠[]:=by simp [Aq]
   have hxl:(Aq (A++[s])).length=A.length+1:=by rw [IL]; simp
   have hxl1:(Aq (A++[⟨s.f,c.t,s.v⟩])).length=A.length+1:=by rw [IL]; simp
   rw [Ed hne] at hrow
   rw [EM hne,hxl] at h3
   have hkc1:=hrow.1
   have hn':=hn
   simp -implicitDefEqProofs only [GD,Ed hne,AN,List.map_append,List.map_cons,List.map_nil,List.cons_append,List.nil_append] at hn'
   obtain ⟨x1,x2,x3,x4,x5⟩:¬c1=b3∧¬c1=bm∧¬c1=bd∧¬c1=b1∧¬c1=b2:=by
    have:=(List.nodup_cons.1 hn').1
    simp -implicitDefEqProofs only [List.mem_cons,List.not_mem_nil,or_false,not_or] at this
    exact this
   have x1':¬b3=c1:=fun e=>x1 e.symm
   have x5':¬b2=c1:=fun e=>x5 e.symm
   have y23:¬b2=b3:=by
    have:=(List.nodup_cons.1 (List.nodup_cons.1 hn').2).1
    simp -implicitDefEqProofs only [List.mem_cons,List.not_mem_nil,or_false,not_or] at this
    exact fun e=>this.2.2.2 e.symm
   have y2m:¬b2=bm:=by
    have:=(List.nodup_cons.1 (List.nodup_cons.1 (List.nodup_cons.1 hn').2).2).1
    simp -implicitDefEqProofs only [List.mem_cons,List.not_mem_nil,or_false,not_or] at this
    exact fun e=>this.2.2 e.symm
   have w2:IntKind.i64.wrap (((A.length+1:Nat):Int)-1)=(A.length:Int):=by rw [IntKind.wrap_i64]; omega
   have hat:=Mn (S:=A++[s]) (i:=A.length) (s:=s) (by simp)
   have hset:=Ox (A:=A) (s:=s) (x:=c.t)
   have hres:LP (Fe (En c) (c.f::bs) R.length) c.t=A++[⟨s.f,c.t,s.v⟩]:=by
    rw [e1,LP]
    simp -implicitDefEqProofs only [List.getLast?_append,List.getLast?_singleton,Option.some_or,List.dropLast_concat]
   rw [hres]
   simp -implicitDefEqProofs -proj only [go_sem,seval,Gx,Ja,Jt,e1,hH,h3,h1,hxl,w2,decide_eq_true (show (0:Int)<((A.length+1:Nat):Int) by omega),decide_eq_false (show ¬(R.length:Int)<R.length by omega)]
   refine Aa ⟨by omega,by omega⟩ (fun _=>?_)
   rw [Int.toNat_natCast]
   refine Kj (cap:=cap) hkc1 hat (by simp) ?_
   simp -implicitDefEqProofs -proj only [go_sem,seval,F4,hset,x1,x1',x5,x5',h3,h2]
   refine Tm ?_ ?_
   ·exact KS ((AD y2m).trans ((AD x2).trans hm3)) (by rw [FO])
   ·exact KS ((AD x5').trans AP) (by rw [hxl1])
theorem RS {ms:List MeterX} (hl:ms.length≤1000000):DataW Tryz.prog AS8 [.d (.sl 5 (BV ms))] (.d (.sl 5 (BV ms))):=by
 refine AZ ATT (by simp) ?_
 simp -implicitDefEqProofs -proj only [go_sem,seval]
 refine Vb ?_ (fun h0=>?_)
 ·simp -implicitDefEqProofs -proj only [go_sem,seval]
  refine Ao (fun bs hs=>?_)
  simp -implicitDefEqProofs -proj only [go_sem,seval]
  refine Od (xs:=[]) (ys:=BV ms) (cap:=0) (e:=42) (by simp -implicitDefEqProofs -proj only [go_sem,seval]) rfl rfl (by rw [FO]; simp [maxLen]; omega) (fun b' cap' H' h1 h2=>?_)
  simp -implicitDefEqProofs -proj only [go_sem,seval]
  rw [List.nil_append] at h1
  have:=LendV.own b' 5 cap' 42 cap' (BV ms) h1
  simpa only [List.length_nil,Nat.zero_add] using this
 ·simp -implicitDefEqProofs -proj only [go_sem,seval]
  rw [h0]
  exact .nilsl _ _
structure NrX where
 k:Nat
 cap:Nat
 acc:List (Seg Ei)
theorem Ji {k cap:Nat} {acc:List (Seg Ei)}:(NrX.mk k cap acc).k=k:=(rfl)
theorem JN {k cap:Nat} {acc:List (Seg Ei)}:(NrX.mk k cap acc).cap=cap:=(rfl)
theorem Hd {k cap:Nat} {acc:List (Seg Ei)}:(NrX.mk k cap acc).acc=acc:=(rfl)
def Gr (c:CoreX) (k cap:Nat) (acc:List (Seg Ei)):Blk:=.box 31 [.d (.str c.cur),i64 c.f,i64 c.t,.d (.sl 5 (BV c.ms)),As 4 4 k cap (Aq acc)]
def GX (b10:Nat) (c:CoreX) (T:List (Nat×Blk)) (y:NrX):List (Nat×Blk):=Ah 47 4 y.k y.cap (Aq y.acc)++((b10,Gr c y.k y.cap y.acc)::T)
theorem Rn {k:Nat} {x:Blk}:∀{l:List (Nat×Blk)},Ad l k=some x→(k,x)∈l
 | [],h=>by cases h
 | (b,y)::l,h=>by
  rw [Av] at h
  by_cases e:k=b
  ·rw [if_pos e] at h; cases h; subst e; exact List.mem_cons_self ..
  ·rw [if_neg e] at h; exact List.mem_cons_of_mem _ (Rn h)
theorem Tt {H H' H1:Heap} {L M:List (Nat×Blk)} (hL:AS H L) (hM:AS H M) (h1:AS H1 M) (a:∀k x,H1 k=some x→H' k=some x) (b:∀k x,H k=some x→Ad M k=none→H' k=some x):AS H' L :=
 Ee.2 fun p hp=>by
  have hpH:=Ee.1 hL p hp
  cases e:Ad M p.1 with
  | none=>exact b _ _ hpH e
  | some y =>
   have hy:=Rn e
   have e1:=Ee.1 hM _ hy
   have e2:=Ee.1 h1 _ hy
   simp -implicitDefEqProofs only at e1 e2
   rw [hpH] at e1
   cases e1
   exact a _ _ e2
theorem Ny {H:Heap} {f t x:Int} {kc cap:Nat} {xs:List (List D)} {K:List D→Heap→Prop} (h:AS H (Ah 51 2 kc cap xs)) (hk:∀H',(∀k y,H k=some y→k∉AN (Ah 51 2 kc cap xs)→H' k=some y)→K [.int .i64 f,.int .i64 t,.int .i64 x,.sl 2 xs] H'):A6 H [i64 f,i64 t,i64 x,As 2 2 kc cap xs] K:=by
 cases xs with
 | nil =>
  simp -implicitDefEqProofs only [A6,BD,BE,As]
  exact hk H fun k y h _=>h
 | cons y ys =>
  simp -implicitDefEqProofs only [A6,BD,As]
  simp -implicitDefEqProofs only [BE]
  have h1:=h.1
  simp -implicitDefEqProofs only [h1]
  refine ⟨⟨trivial,trivial,trivial⟩,hk _ fun k z hz hn=>?_⟩
  rw [AD (fun e=>hn (by subst e; exact List.mem_cons_self ..))]
  exact hz
theorem N8 {H H':Heap} {L N:List (Nat×Blk)} (hL:AS H L) (hk:∀k y,H k=some y→k∉AN N→H' k=some y) (hd:∀k∈AN L,k∉AN N):AS H' L :=
 Ee.2 fun p hp=>hk _ _ (Ee.1 hL p hp) (hd _ (List.mem_map_of_mem hp))
theorem AON {n:Nat} (h:n≤8):2 ^ (8+n)≤65536:=Nat.pow_le_pow_right (n:=2) (by omega) (show 8+n≤16 by omega)
set_option maxRecDepth 20000 in
set_option maxHeartbeats 4000000 in
theorem APs {c:CoreX} {R:List Run} {T:List (Nat×Blk)} {b2 b3 b4 b10 bm k1 p1 k2 p2:Nat} {t0:TM} {Rst:Out→St→Prop} (hc:c.Fit) (hf:fitsC c) (hR:HO c=R)
  (hT4:(b4,.box 66 [.ptr bm 0])∈T) (hTm:∀p∈GV bm c k1 p1 k2 p2,p∈T) (hTb:∀p∈T,p∈GV bm c k1 p1 k2 p2∨∃t cells,p.2 = .box t cells) (hnm:(AN (GV bm c k1 p1 k2 p2)).Nodup)
  {i:Nat} (hi:i<R.length) (pre:List (List AV)) (hpre:pre.length=i) {y:NrX} (hy:y.acc=GN (En c) R i) (hn:(AN (GX b10 c T y)).Nodup) :
  FS Tryz.prog (Kk (fun pre y=>y.acc=GN (En c) R pre.length∧(AN (GX b10 c T y)).Nodup) (GX b10 c T) (pre++[[(R[i]).avU]]) 115 t0 Rst) (.seq (.ops Pi) Ou) []
   ⟨115,HV 115 (E8 [(2,.ptr b2 0),(3,.ptr b3 0),(4,.ptr b4 0),(10,.ptr b10 0)]) [75] [(R[i]).avU],Ad (GX b10 c T y)⟩:=by
 obtain ⟨⟨g1,g2⟩,⟨g3,g4⟩,g5,g6,g7,g8⟩:=hf.good.hd
 have hfw:=LR (c:=c) g3
 rw [hR] at hfw
 have hri:=List.getElem?_eq_getElem hi
 obtain ⟨v1,v2,v3,v4,_,_,_⟩:=hfw.nth2 i _ hri
 have hadd:=Pt hfw (Nw g7)
 have hrv:=v4 _ (Int.le_refl _) v2
 have h16:FL c R[i].f<65536:=Nat.lt_of_lt_of_le (NH g7 c.ps.length) (AON g8)
 have hstep:GN (En c) R (i+1)=KY (GN (En c) R i) ⟨R[i].f,R[i].t,En c R[i].f⟩:=by
  rw [GN,hri]
 obtain ⟨k,cap,acc⟩:=y
 simp -implicitDefEqProofs only [Hd] at hy
 obtain ⟨H,hH⟩:∃H,Ad (GX b10 c T ⟨k,cap,acc⟩)=H:=⟨_,rfl⟩
 have hall:=EQ hn
 rw [hH] at hall ⊢
 simp -implicitDefEqProofs only [GX,Ji,JN,Hd] at hall hn
 obtain ⟨hrow,h10,hTH⟩:=Ar.1 hall
 have h4:H b4=some (.box 66 [.ptr bm 0]):=Ee.1 hTH _ hT4
 have hM:AS H (GV bm c k1 p1 k2 p2):=MD hTH hTm
 have hacc:∀A s,acc=A++[s]→Jo s∧A.length≤4000:=by
  intro A s e
  cases i with
  | zero=>rw [hy] at e; simp [GN] at e
  | succ j =>
   have hj:j<R.length:=by omega
   obtain ⟨w1,w2,w3,w4,_,_,_⟩:=hfw.nth2 j _ (List.getElem?_eq_getElem hj)
   obtain ⟨A',s',e1,e2,e3,e4⟩:=hadd j _ (List.getElem?_eq_getElem hj)
   rw [hy,e1] at e
   obtain ⟨rfl,e5⟩:=List.append_inj' e rfl
   simp -implicitDefEqProofs only [List.cons.injEq,and_true] at e5
   subst e5
   have:=e4.len
   simp -implicitDefEqProofs only [List.length_append,List.length_singleton] at this
   refine ⟨⟨fun l hl=>?_,?_⟩,by omega⟩
   ·rw [e2] at hl; exact Lm hf _ l hl
   ·rw [e2]; show (Eh c _ c.ms.length).length≤1000000; rw [Ig]; omega
 generalize hg:R[i]=r at *
 simp -implicitDefEqProofs -proj only [go_sem,seval,h4]
 refine AI (fun b12 hb12=>?_)
 replace hb12:H b12=none:=hb12
 obtain ⟨y1,y2⟩:=AG hb12 h4
 simp -implicitDefEqProofs -proj only [go_sem,seval,h4,y1,y2]
 have hsp:=AQS (bm:=bm) (k1:=k1) (p1:=p1) (k2:=k2) (p2:=p2) (f:=r.f) (t:=r.t) (d:=r.f) hc hf g7 g8 h16 hnm
 rw [hrv] at hsp
 have hall12:=Aj (y:=some (.box 82 [i64 r.f,i64 r.t,u64 r.v])) hb12 hall
 have hM12:=Aj (y:=some (.box 82 [i64 r.f,i64 r.t,u64 r.v])) hb12 hM
 refine Ek (Lu hsp (J1 hM12)) ?_
 rintro rr H2 ⟨H1,⟨kc,capc,rfl,rest,hA1,hN1⟩,hsub,hkeep⟩
 have hM1:AS H1 (GV bm c k1 p1 k2 p2):=(Ar.1 hA1).2
 have hall2:AS H2 (Ah 47 4 k cap (Aq acc)++(b10,Gr c k cap acc)::T):=Tt hall12 hM12 hM1 hsub hkeep
 have hls:(JM c r.f,Eh c r.f c.ms.length)=En c r.f:=rfl
 have hcu:Jo ⟨r.f,r.t,En c r.f⟩:=⟨Lm hf _,by show (Eh c r.f c.ms.length).length≤1000000; rw [Ig]; omega⟩
 have hLC:AS H2 (Ah 51 2 kc capc (Al (Eh c r.f c.ms.length))):=Ee.2 fun p hp=>hsub _ _ (Ee.1 (Ar.1 (Ar.1 hA1).1).1 p hp)
 have hdj:∀p∈AN (Ah 51 2 kc capc (Al (Eh c r.f c.ms.length))),p∉AN (Ah 47 4 k cap (Aq acc)++(b10,Gr c k cap acc)::T):=by
  intro p hp hq
  obtain ⟨⟨q1,q2⟩,hq1,rfl⟩:=List.mem_map.1 hp
  obtain ⟨⟨u1,u2⟩,hu1,hu2⟩:=List.mem_map.1 hq
  simp -implicitDefEqProofs only at hu2
  subst hu2
  have e1:=Ee.1 hLC _ hq1
  have e2:=Ee.1 hall2 _ hu1
  simp -implicitDefEqProofs only at e1 e2
  rw [e1] at e2
  have hq3:q2 = .row 51 2 capc (Al (Eh c r.f c.ms.length)):=by
   generalize Al (Eh c r.f c.ms.length)=xs at hq1 ⊢
   cases xs with
   | nil=>cases hq1
   | cons a az=>simp -implicitDefEqProofs only [Ah,List.mem_singleton,Prod.mk.injEq] at hq1; exact hq1.2
  subst hq3
  rcases List.mem_append.1 hu1 with hu | hu
  ·generalize Aq acc=xs at hu
   cases xs with
   | nil=>cases hu
   | cons a az=>simp -implicitDefEqProofs only [Ah,List.mem_singleton,Prod.mk.injEq] at hu; rw [hu.2] at e2; cases e2
  ·rcases List.mem_cons.1 hu with hu | hu
   ·simp -implicitDefEqProofs only [Prod.mk.injEq] at hu; rw [hu.2,Gr] at e2; cases e2
   ·rcases hTb _ hu with hm | ⟨t,cells,hm⟩
    ·simp -implicitDefEqProofs only [AN,List.map_append,List.nodup_append] at hN1
     exact hN1.2.2 _ (List.mem_append_left _ hp) _ (List.mem_map_of_mem hm) rfl
    ·simp -implicitDefEqProofs only at hm; rw [hm] at e2; cases e2
 have hlc:∀l∈Eh c r.f c.ms.length,BG l:=Lm hf _
 rw [hls.symm] at hstep hcu
 generalize Eh c r.f c.ms.length=LS at *
 generalize JM c r.f=F0 at *
 obtain ⟨cs,hcs⟩:∃cs,[i64 r.f,i64 r.t,i64 F0,As 2 2 kc capc (Al LS)]=cs:=⟨_,rfl⟩
 have hcl:Ak cs=4:=by rw [←hcs]; rfl
 have hcg:cs.take 4=cs:=by rw [←hcs]; rfl
 have hct:setSeg [.d (.int .i64 0),.d (.int .i64 0),.d (.int .i64 0),.nilsl 2] 0 cs=cs:=by rw [←hcs]; rfl
 have hcn:nth cs 1=i64 r.t:=by rw [←hcs]; rfl
 rw [hcs]
 simp -implicitDefEqProofs -proj only [go_sem,seval,hcl,hcg,hct,hcn]
 refine AI (fun b13 hb13=>?_)
 replace hb13:H2 b13=none:=hb13
 have h10':H2 b10=some (Gr c k cap acc):=(Ar.1 hall2).2.1
 have hrow2:=(Ar.1 hall2).1
 obtain ⟨y3,y4⟩:=AG hb13 h10'
 simp -implicitDefEqProofs only [Gr] at h10'
 have hall3:=fun y=>Aj (y:=y) hb13 hall2
 have hLC3:=fun y=>Aj (y:=y) hb13 hLC
 by_cases c0:acc=[]
 ·subst c0
  have hnew:GN (En c) R (i+1)=[⟨r.f,r.t,(F0,LS)⟩]:=by rw [hstep,←hy]; rfl
  simp -implicitDefEqProofs only [Aq,List.map_nil,JC,Hw,List.nil_append] at h10' hall3 hn hdj
  simp -implicitDefEqProofs -proj only [go_sem,seval,h10',y3,y4,hcl,hcg,hct,hcn]
  rw [←hcs]
  refine Ny (hLC3 _) (fun H4 hk4=>?_)
  have hall4:=N8 (hall3 _) hk4 (fun p hp hq=>hdj p hq hp)
  simp -implicitDefEqProofs -proj only [go_sem,seval]
  refine Ao (fun bs hs=>?_)
  replace hs:H4 bs=none:=hs
  simp -implicitDefEqProofs -proj only [go_sem,seval]
  have hn0:(AN (Ah 47 4 0 0 (Aq ([]:List (Seg Ei)))++(b10,.box 31 [.d (.str c.cur),i64 c.f,i64 c.t,.d (.sl 5 (BV c.ms)),.nilsl 4])::T)).Nodup:=by simpa only [Gr,Aq,List.map_nil,Hw,JC,AN,List.map_cons,List.nil_append] using hn
  simp -implicitDefEqProofs only [Gr,JC] at hall4
  refine FB (c:=0) (cap:=0) (z0:=4) (xs:=Aq ([]:List (Seg Ei))) (y:=[.int .i64 r.f,.int .i64 r.t,.int .i64 F0,.sl 2 (Al LS)]) (t:=47) (capc:=1) ((b10,.box 31 [.d (.str c.cur),i64 c.f,i64 c.t,.d (.sl 5 (BV c.ms)),.nilsl 4])::T) rfl (Aj hs hall4) hn0 (by simp -implicitDefEqProofs -proj only [go_sem,seval]; try rfl) (by simp [Aq]) (by simp [Aq]) (fun H' c2 cap2 ha hk=>?_)
  rw [show Aq ([]:List (Seg Ei))++[[.int .i64 r.f,.int .i64 r.t,.int .i64 F0,.sl 2 (Al LS)]]=Aq [⟨r.f,r.t,(F0,LS)⟩] by simp [Aq,Jh]] at ha hk
  have q10:=(Ar.1 ha).2.1
  simp -implicitDefEqProofs -proj only [go_sem,seval,q10]
  have hne':Aq ([⟨r.f,r.t,(F0,LS)⟩]:List (Seg Ei))≠[]:=by simp [Aq]
  refine J9 ⟨c2,cap2,[⟨r.f,r.t,(F0,LS)⟩]⟩ ⟨?_,?_⟩ ?_
  ·simp -implicitDefEqProofs only [Hd,List.length_append,List.length_singleton,hpre]; exact hnew.symm
  ·simpa only [GX,Ji,JN,Hd,AN,List.map_append,List.map_cons] using hk
  ·have hup:=Fl (x':=Gr c c2 cap2 [⟨r.f,r.t,(F0,LS)⟩]) ha hk
   simp -implicitDefEqProofs only [GX,Ji,JN,Hd]
   simp -implicitDefEqProofs only [Gr,EM hne'] at hup ⊢
   exact hup
 ·obtain ⟨A,s,hAs⟩:∃A s,acc=A++[s]:=⟨acc.dropLast,acc.getLast c0,(List.dropLast_concat_getLast c0).symm⟩
  obtain ⟨hcs2,hal⟩:=hacc A s hAs
  have hnew:GN (En c) R (i+1)=if s.v=(F0,LS) then A++[⟨s.f,r.t,s.v⟩] else A++[s]++[⟨r.f,r.t,(F0,LS)⟩]:=by
   rw [hstep,←hy,hAs,KY]
   simp -implicitDefEqProofs only [List.getLast?_append,List.getLast?_singleton,Option.some_or,List.dropLast_concat]
  clear hacc hstep
  subst hAs
  have hne:Aq (A++[s])≠[]:=by simp [Aq]
  have hxl:(Aq (A++[s])).length=A.length+1:=by rw [IL]; simp
  rw [EM hne,hxl] at h10'
  simp -implicitDefEqProofs only [Ed hne] at hn hdj hall2 hall3
  have hkH:H2 k=some (.row 47 4 cap (Aq (A++[s]))):=hall2.1
  obtain ⟨x1,x2⟩:=AG hb13 hkH
  have w2:IntKind.i64.wrap (((A.length+1:Nat):Int)-1)=(A.length:Int):=by rw [IntKind.wrap_i64]; omega
  have hat:=Mn (S:=A++[s]) (i:=A.length) (s:=s) (by simp)
  have hcall:=Qs (a:=s) (b:=⟨r.f,r.t,(F0,LS)⟩) hcs2.1 hcu.1 hcs2.2 hcu.2
  simp -implicitDefEqProofs -proj only [go_sem,seval,h10',y3,y4,hcl,hcg,hct,hcn,w2,decide_eq_true (show (0:Int)<((A.length+1:Nat):Int) by omega)]
  refine Aa ⟨by omega,by omega⟩ (fun _=>?_)
  simp -implicitDefEqProofs -proj only [go_sem,seval,Int.toNat_natCast,x1,x2,hkH]
  refine Cg _ hat (by simp) ?_
  simp -implicitDefEqProofs -proj only [go_sem,seval,hcl,hcg,hct,hcn]
  have hlend:∀y,LendV (upd H2 b13 y) (.agg cs) (J0 ⟨r.f,r.t,(F0,LS)⟩):=fun y=>by
   rw [←hcs]
   exact SR (LO (hLC3 y))
  refine Tj hcall (E3 (.refl _) (E3 (hlend _) GC)) rfl ?_
  by_cases ca:s.v=(F0,LS)
  ·rw [if_pos ca] at hnew
   simp -implicitDefEqProofs -proj only [go_sem,seval,decide_eq_true ca,h10',y3,y4,hcl,hcg,hct,hcn,w2,x1,x2,hkH]
   refine Aa ⟨by omega,by omega⟩ (fun _=>?_)
   simp -implicitDefEqProofs -proj only [go_sem,seval,Int.toNat_natCast,x1,x2,hkH]
   refine Kj (cap:=cap) (by simp -implicitDefEqProofs -proj only [go_sem,seval,x1,x2]; exact hkH) hat (by simp) ?_
   have hset:=Ox (A:=A) (s:=s) (x:=r.t)
   have hne1:Aq (A++[⟨s.f,r.t,s.v⟩])≠[]:=by simp [Aq]
   have hxl1:(Aq (A++[⟨s.f,r.t,s.v⟩])).length=A.length+1:=by rw [IL]; simp
   simp -implicitDefEqProofs -proj only [go_sem,seval,F4,hset]
   refine J9 ⟨k,cap,A++[⟨s.f,r.t,s.v⟩]⟩ ⟨?_,?_⟩ ?_
   ·simp -implicitDefEqProofs only [Hd,List.length_append,List.length_singleton,hpre]; exact hnew.symm
   ·simp -implicitDefEqProofs only [GX,Ji,JN,Hd,Ed hne1]
    simpa only [AN,List.map_append,List.map_cons] using hn
   ·have hup:=fun y=>Fl (A:=[]) (b:=k) (x':=Blk.row 47 4 cap (Aq (A++[⟨s.f,r.t,s.v⟩]))) (hall3 y) hn
    simp -implicitDefEqProofs only [GX,Ji,JN,Hd,Ed hne1]
    simp -implicitDefEqProofs only [Gr,EM hne,EM hne1,hxl,hxl1] at hup ⊢
    exact hup _
  ·rw [if_neg ca] at hnew
   simp -implicitDefEqProofs -proj only [go_sem,seval,decide_eq_false ca,h10',y3,y4,hcl,hcg,hct,hcn,w2,x1,x2,hkH]
   rw [←hcs]
   refine Ny (hLC3 _) (fun H4 hk4=>?_)
   have hall4:=N8 (hall3 _) hk4 (fun p hp hq=>hdj p hq hp)
   simp -implicitDefEqProofs -proj only [go_sem,seval]
   refine Ao (fun bs hs=>?_)
   replace hs:H4 bs=none:=hs
   simp -implicitDefEqProofs -proj only [go_sem,seval]
   have hn1:(AN (Ah 47 4 k cap (Aq (A++[s]))++(b10,Gr c k cap (A++[s]))::T)).Nodup:=by rw [Ed hne]; exact hn
   have hrv1:As 4 4 k cap (Aq (A++[s])) = .own k 4 0 (A.length+1) cap:=by rw [EM hne,hxl]
   rw [←hrv1]
   refine FB (c:=k) (cap:=cap) (z0:=4) (xs:=Aq (A++[s])) (y:=[.int .i64 r.f,.int .i64 r.t,.int .i64 F0,.sl 2 (Al LS)]) (t:=47) (capc:=1) ((b10,Gr c k cap (A++[s]))::T) rfl (Aj hs (by rw [Ed hne]; exact hall4)) hn1 (by simp -implicitDefEqProofs -proj only [go_sem,seval]; try rfl) (by rw [hxl]; omega) (by rw [hxl]; omega) (fun H' c2 cap2 ha hk=>?_)
   rw [show Aq (A++[s])++[[.int .i64 r.f,.int .i64 r.t,.int .i64 F0,.sl 2 (Al LS)]]=Aq (A++[s]++[⟨r.f,r.t,(F0,LS)⟩]) by simp [Aq,Jh]] at ha hk
   have q10:=(Ar.1 ha).2.1
   simp -implicitDefEqProofs only [Gr] at q10
   simp -implicitDefEqProofs -proj only [go_sem,seval,q10]
   have hne':Aq (A++[s]++[⟨r.f,r.t,(F0,LS)⟩])≠[]:=by simp [Aq]
   have hxl':(Aq (A++[s]++[⟨r.f,r.t,(F0,LS)⟩])).length=(Aq (A++[s])).length+1:=by simp [Aq]
   refine J9 ⟨c2,cap2,A++[s]++[⟨r.f,r.t,(F0,LS)⟩]⟩ ⟨?_,?_⟩ ?_
   ·simp -implicitDefEqProofs only [Hd,List.length_append,List.length_singleton,hpre]; exact hnew.symm
   ·simpa only [GX,Ji,JN,Hd,AN,List.map_append,List.map_cons] using hk
   ·have hup:=Fl (x':=Gr c c2 cap2 (A++[s]++[⟨r.f,r.t,(F0,LS)⟩])) ha hk
    simp -implicitDefEqProofs only [GX,Ji,JN,Hd]
    simp -implicitDefEqProofs only [Gr,EM hne',hxl'] at hup ⊢
    exact hup
end Go.Proofs.YtbihahpaalcjjaaGreat.Abs
