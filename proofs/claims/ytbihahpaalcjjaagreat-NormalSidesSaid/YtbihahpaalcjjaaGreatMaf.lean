/- Contracts of the machine and the contracts of one law (joined by kmerge.py). No claim stands here. -/
import Derived.Below
import Derived.Carry
import Derived.ChangeCalls
import Derived.ChangeOld
import Derived.IntWalk
import Derived.KernelRfl
import Derived.Laws.Append
import Derived.Laws.AppendOwn
import Derived.Laws.Cells
import Derived.Laws.CopyRow
import Derived.Laws.Entries
import Derived.Laws.MakeOwn
import Derived.Laws.NewFold
import Derived.Laws.Rows
import Derived.Laws.StructEq
import Derived.OpenShut
import Derived.Orders
import Derived.OrdersIn
import Derived.ProofKit
import Derived.RangeFuncLeaves
import Derived.RangeFuncSeq
import Derived.SizedLaws
import Derived.TacticsIn
import Derived.WalkKit
import Derived.Test.YtbihahpaalcjjaaGreatMae
set_option maxRecDepth 100000
set_option linter.unusedSimpArgs false
set_option linter.unusedVariables false
namespace Go.Proofs.YtbihahpaalcjjaaGreat.Abs
open Go Go.RowKit Go.Proofs
attribute [local go_sem] Ci Cq Ck Cf Bv EH Dv Al As Bx Ce Dp DS CM Do Cj Ba CK Bq DU D7 Dj CH DJ CI DD C5 Dc EF CU C2 DI Ct CW Dy DG DH CB Cz Bg Bd B0 Cs Bi C0 B9 CQ CZ Cr D1 Dg Db Cc CR C7 Cy Dx Dh Bl Cn EC C4 De C8 D0 D6 C9 DN Di B3 CE BO Dl Cx BT CL CY BF Ca Bk CD C6 CA DR DT Bw DF EE B1 DM Cg Dt CO DC Cb C1 BS CV BW BD CX DZ Bc AM ev Am A0 Ax BP A8 Dr EA Da D3 Aq Av Bz Cm By Bs D4 Dn D5 CG CS Bo D2 DX CJ DK Cl DL Be C3 DQ B7 Ch Ds Df Aj setSeg nth seg mapD Aw BC AX BG D8 Du Ar Ag cond_true cond_false Bh BL BQ BH BY Dz Bt List.cons_append List.nil_append Bool.not_true Bool.not_false Bool.and_true Bool.and_self Nat.lt_add_left_iff_pos Nat.zero_add Nat.add_zero List.drop_succ_cons List.drop_zero List.take_succ_cons List.take_zero beq_self_eq_true Bool.false_eq_true Bp EB Dd CN B8 DE CF CT DA A6 and_self and_true true_and Bm DO Bj Cp B2 DV Co Bn D9 Bb Dk CC Dq DW ED Dm DP Ay A7 A9 Ap DB Bu Bf EG BZ Br List.length_cons List.length_nil Nat.min_def Int.cast_ofNat_Int Int.natCast_zero Int.natCast_one decide_true decide_false List.getElem?_cons_zero List.getElem?_cons_succ Cu Cd CP Dw Cw Cv
theorem SH {H:Heap} {b sz cap cap' len:Nat} {e:TypeId} {xs:List (List D)} (h:H b=some (.row e sz cap' xs)) (hl:len=xs.length) (hs:∀el∈xs,∀d∈el,Gs d=true):NewV H (.own b sz 0 len cap) (.d (.sl sz xs)):=by
 subst hl; exact .own b sz cap e cap' xs h hs
theorem Ls {H:Heap} {x y:AV} (h:NewV H x y):NewV H (.agg [x]) (.agg [y]):=by
 refine .agg _ _ rfl fun j u v h1 h2=>?_
 cases j with
 | zero=>cases h1; cases h2; exact h
 | succ j=>cases h1
def Run.elU (r:Run):List D:=[.int .i64 r.f,.int .i64 r.t,.int .u64 r.v]
abbrev Run.avU (r:Run):AV:=.agg [i64 r.f,i64 r.t,u64 r.v]
def Fg (l:List Run):List (List D):=l.map Run.elU
theorem rowU_len {l:List Run}:(Fg l).length=l.length:=List.length_map ..
theorem AHW {l:List Run} {i:Nat} (h:i<l.length):(Fg l)[i]? = some (Run.elU l[i]):=by simp [Fg,h]
theorem ATQ {l:List Run} {i:Nat} {r:Run}:(Fg l).set i r.elU=Fg (l.set i r):=by simp [Fg,List.map_set]
theorem AVR {l:List Run} {r:Run}:Fg l++[r.elU]=Fg (l++[r]):=by simp [Fg]
def LineAtU (H:Heap) (b:Nat) (c:Nat) (l:List Run):Prop :=
 l=[]∧H b=some (.box 74 [.nilsl 3])∨l≠[]∧c≠b∧∃cap,H b=some (.box 74 [.own c 3 0 l.length cap])∧H c=some (.row 82 3 cap (Fg l))
def ABE (b c:Nat) (l0 l:List Run) (H:Heap) (H':Heap):Prop:=∃c',LineAtU H' b c' l∧(∀k x,k≠b→(l0≠[]→k≠c)→H k=some x→H' k=some x∧k≠c')
theorem Nb {H:Heap} {b c:Nat} {l:List Run} {r:Run} (h:LineAtU H b c l) (hl:l.length≤1000000):CallW Tryz.prog QE [.ptr b 0,r.avU] H fun _ H'=>ABE b c l (A5 l r) H H':=by
 rcases h with ⟨rfl,h1⟩ | ⟨h0,h3,cap,h1,h2⟩
 ·refine Aa TT (by simp) ?_
  simp -implicitDefEqProofs -proj only [go_sem,seval,h1]
  refine AK (fun b3 hb=>?_)
  replace hb:H b3=none:=hb
  obtain ⟨n1,n2⟩:=AH hb h1
  simp -implicitDefEqProofs -proj only [go_sem,seval,h1,n1,n2]
  (repeat' first
  | ((with_reducible first | refine EL (fun h=>?_) (fun h=>?_) | refine BM (fun h=>?_) (fun h=>?_) | refine EO (fun h=>?_) (fun h=>?_)) <;> (simp -implicitDefEqProofs -proj only [go_sem,seval,h,h1,n1,n2]; try (revert h; intro _)))
  | ((with_reducible first | refine AK (fun _ hb=>?_) | refine An (fun _ hb=>?_)); simp -implicitDefEqProofs only [EM,EN,Ag,Heap.none_get,and_true,true_and] at hb; simp -implicitDefEqProofs -proj only [go_sem,seval,h1,n1,n2]; try (revert hb; intro _))
  | ((with_reducible first | refine BB _ rfl (by simp) ?_ | refine EJ _ rfl (by simp) ?_); simp -implicitDefEqProofs -proj only [go_sem,seval,h1,n1,n2])
  | (with_reducible refine Af ?_ (fun h=>?_); first | ((focus first | decide | omega); try clear h; try simp -implicitDefEqProofs -proj only [go_sem,seval,h1,n1,n2]) | (rotate_left; try clear h; try simp -implicitDefEqProofs -proj only [go_sem,seval,h1,n1,n2]; rotate_right)))
  refine Jq (ds:=r.elU) rfl (fun bs hs=>?_)
  replace hs:upd H b3 _ bs=none:=hs
  rw [show Ap 3 1 r.elU=[r.elU] from rfl]
  obtain ⟨m1,m2⟩:=AH hs (by rw [AE n1]; exact h1)
  simp -implicitDefEqProofs -proj only [go_sem,seval,h1,n1,n2,m1,m2]
  refine Os (ys:=[r.elU]) (t:=82) (capc:=1) (by simp -implicitDefEqProofs -proj only [go_sem,seval]) rfl (by simp) rfl (by simp [maxLen]) (fun c' hc' cap=>?_)
  replace hc':upd (upd H b3 _) bs _ c'=none:=hc'
  obtain ⟨k1,k2⟩:=AH hc' (by rw [AE m1,AE n1]; exact h1)
  simp -implicitDefEqProofs -proj only [go_sem,seval,h1,n1,n2,m1,m2,k1,k2]
  (repeat' first
  | ((with_reducible first | refine EL (fun h=>?_) (fun h=>?_) | refine BM (fun h=>?_) (fun h=>?_) | refine EO (fun h=>?_) (fun h=>?_)) <;> (simp -implicitDefEqProofs -proj only [go_sem,seval,h,h1,n1,n2,m1,m2,k1,k2]; try (revert h; intro _)))
  | ((with_reducible first | refine AK (fun _ hb=>?_) | refine An (fun _ hb=>?_)); simp -implicitDefEqProofs only [EM,EN,Ag,Heap.none_get,and_true,true_and] at hb; simp -implicitDefEqProofs -proj only [go_sem,seval,h1,n1,n2,m1,m2,k1,k2]; try (revert hb; intro _))
  | ((with_reducible first | refine BB _ rfl (by simp) ?_ | refine EJ _ rfl (by simp) ?_); simp -implicitDefEqProofs -proj only [go_sem,seval,h1,n1,n2,m1,m2,k1,k2])
  | (with_reducible refine Af ?_ (fun h=>?_); first | ((focus first | decide | omega); try clear h; try simp -implicitDefEqProofs -proj only [go_sem,seval,h1,n1,n2,m1,m2,k1,k2]) | (rotate_left; try clear h; try simp -implicitDefEqProofs -proj only [go_sem,seval,h1,n1,n2,m1,m2,k1,k2]; rotate_right)))
  refine ⟨c',.inr ⟨by simp [A5],k1,cap,?_,?_⟩,fun k x hk1 hk2 hk=>?_⟩
  ·simp -implicitDefEqProofs -proj only [go_sem,seval,A5]
   rfl
  ·simp -implicitDefEqProofs -proj only [go_sem,seval,k2]
   rfl
  ·obtain ⟨p1,p2⟩:=AH hb hk
   obtain ⟨q1,q2⟩:=AH hs (by rw [AE p1]; exact hk)
   obtain ⟨r1,r2⟩:=AH hc' (by rw [AE q1,AE p1]; exact hk)
   refine ⟨?_,r2⟩
   have hk3:¬b=k:=fun e=>hk1 e.symm
   simp -implicitDefEqProofs -proj only [go_sem,seval,p1,q1,r1,hk,hk3]
 ·obtain ⟨q,hq⟩:∃q,l.getLast? = some q:=by
   cases hh:l.getLast? with
   | none=>exact absurd (List.getLast?_eq_none_iff.1 hh) h0
   | some q=>exact ⟨q,rfl⟩
  have hlen:0<l.length:=List.length_pos_iff.2 h0
  have hq2:l[l.length-1]? = some q:=by rw [←List.getLast?_eq_getElem?]; exact hq
  have hw:IntKind.i64.wrap ((l.length:Int)-1)=((l.length-1:Nat):Int):=by rw [IntKind.wrap_i64]; omega
  have hrow:(Fg l)[l.length-1]? = some [.int .i64 q.f,.int .i64 q.t,.int .u64 q.v]:=by simp [Fg,hq2,Run.elU]
  have h3':¬b=c:=fun e=>h3 e.symm
  refine Aa TT (by simp) ?_
  simp -implicitDefEqProofs -proj only [go_sem,seval,h1]
  refine AK (fun b3 hb=>?_)
  replace hb:H b3=none:=hb
  obtain ⟨n1,n2⟩:=AH hb h1
  obtain ⟨n3,n4⟩:=AH hb h2
  have c0:decide (0<(l.length:Int))=true:=decide_eq_true (by omega)
  simp -implicitDefEqProofs -proj only [go_sem,seval,h1,h2,h3,h3',n1,n2,n3,n4,c0,hw]
  (repeat' first
  | ((with_reducible first | refine EL (fun h=>?_) (fun h=>?_) | refine BM (fun h=>?_) (fun h=>?_) | refine EO (fun h=>?_) (fun h=>?_)) <;> (simp -implicitDefEqProofs -proj only [go_sem,seval,h,h1,h2,h3,h3',n1,n2,n3,n4,c0,hw]; try (revert h; intro _)))
  | ((with_reducible first | refine AK (fun _ hb=>?_) | refine An (fun _ hb=>?_)); simp -implicitDefEqProofs only [EM,EN,Ag,Heap.none_get,and_true,true_and] at hb; simp -implicitDefEqProofs -proj only [go_sem,seval,h1,h2,h3,h3',n1,n2,n3,n4,c0,hw]; try (revert hb; intro _))
  | ((with_reducible first | refine BB _ rfl (by simp) ?_ | refine EJ _ rfl (by simp) ?_); simp -implicitDefEqProofs -proj only [go_sem,seval,h1,h2,h3,h3',n1,n2,n3,n4,c0,hw])
  | (with_reducible refine Af ?_ (fun h=>?_); first | ((focus first | decide | omega); try clear h; try simp -implicitDefEqProofs -proj only [go_sem,seval,h1,h2,h3,h3',n1,n2,n3,n4,c0,hw]) | (rotate_left; try clear h; try simp -implicitDefEqProofs -proj only [go_sem,seval,h1,h2,h3,h3',n1,n2,n3,n4,c0,hw]; rotate_right)))
  refine BB _ (by rw [Int.toNat_natCast]; exact hrow) (by simp) ?_
  simp -implicitDefEqProofs -proj only [go_sem,seval,h1,h2,h3,h3',n1,n2,n3,n4,c0,hw]
  by_cases hv:q.v=r.v
  ·have hp:A5 l r=l.dropLast++[{ q with t:=r.t }]:=by rw [A5,hq]; exact if_pos hv
   simp -implicitDefEqProofs -proj only [go_sem,seval,h1,h2,h3,h3',n1,n2,n3,n4,c0,hw,decide_eq_true hv,Int.toNat_natCast]
   (repeat' first
  | ((with_reducible first | refine EL (fun h=>?_) (fun h=>?_) | refine BM (fun h=>?_) (fun h=>?_) | refine EO (fun h=>?_) (fun h=>?_)) <;> (simp -implicitDefEqProofs -proj only [go_sem,seval,h,h1,h2,h3,h3',n1,n2,n3,n4,c0,hw,Int.toNat_natCast]; try (revert h; intro _)))
  | ((with_reducible first | refine AK (fun _ hb=>?_) | refine An (fun _ hb=>?_)); simp -implicitDefEqProofs only [EM,EN,Ag,Heap.none_get,and_true,true_and] at hb; simp -implicitDefEqProofs -proj only [go_sem,seval,h1,h2,h3,h3',n1,n2,n3,n4,c0,hw,Int.toNat_natCast]; try (revert hb; intro _))
  | ((with_reducible first | refine BB _ rfl (by simp) ?_ | refine EJ _ rfl (by simp) ?_); simp -implicitDefEqProofs -proj only [go_sem,seval,h1,h2,h3,h3',n1,n2,n3,n4,c0,hw,Int.toNat_natCast])
  | (with_reducible refine Af ?_ (fun h=>?_); first | ((focus first | decide | omega); try clear h; try simp -implicitDefEqProofs -proj only [go_sem,seval,h1,h2,h3,h3',n1,n2,n3,n4,c0,hw,Int.toNat_natCast]) | (rotate_left; try clear h; try simp -implicitDefEqProofs -proj only [go_sem,seval,h1,h2,h3,h3',n1,n2,n3,n4,c0,hw,Int.toNat_natCast]; rotate_right)))
   refine LB (xs:=Fg l) (t:=82) (cap:=cap) (by simp -implicitDefEqProofs -proj only [go_sem,seval,n3,h2]) hrow (by simp) ?_
   have hset:(Fg l).set (l.length-1) (GX [.int .i64 q.f,.int .i64 q.t,.int .u64 q.v] 1 [.int .i64 r.t])=Fg (A5 l r):=by
    rw [hp,←Ru h0,←ATQ]; rfl
   have hlp:(A5 l r).length=l.length:=by rw [hp,List.length_append,List.length_dropLast,List.length_singleton]; omega
   rw [hset]
   simp -implicitDefEqProofs -proj only [go_sem,seval,h1,h2,h3,h3',n1,n2,n3,n4,c0,hw]
   refine ⟨c,.inr ⟨by rw [hp]; simp,h3,cap,?_,?_⟩,fun k x hk1 hk2 hk=>?_⟩
   ·simp -implicitDefEqProofs -proj only [go_sem,seval,n1,h3,h1,hlp]
   ·simp -implicitDefEqProofs -proj only [go_sem,seval]
   ·obtain ⟨p1,p2⟩:=AH hb hk
    have hk3:¬c=k:=fun e=>hk2 h0 e.symm
    refine ⟨?_,hk2 h0⟩
    simp -implicitDefEqProofs -proj only [go_sem,seval,p1,hk3,hk]
  ·have hp:A5 l r=l++[r]:=by rw [A5,hq]; exact if_neg hv
   simp -implicitDefEqProofs -proj only [go_sem,seval,h1,h2,h3,h3',n1,n2,n3,n4,c0,hw,decide_eq_false hv]
   (repeat' first
  | ((with_reducible first | refine EL (fun h=>?_) (fun h=>?_) | refine BM (fun h=>?_) (fun h=>?_) | refine EO (fun h=>?_) (fun h=>?_)) <;> (simp -implicitDefEqProofs -proj only [go_sem,seval,h,h1,h2,h3,h3',n1,n2,n3,n4,c0,hw]; try (revert h; intro _)))
  | ((with_reducible first | refine AK (fun _ hb=>?_) | refine An (fun _ hb=>?_)); simp -implicitDefEqProofs only [EM,EN,Ag,Heap.none_get,and_true,true_and] at hb; simp -implicitDefEqProofs -proj only [go_sem,seval,h1,h2,h3,h3',n1,n2,n3,n4,c0,hw]; try (revert hb; intro _))
  | ((with_reducible first | refine BB _ rfl (by simp) ?_ | refine EJ _ rfl (by simp) ?_); simp -implicitDefEqProofs -proj only [go_sem,seval,h1,h2,h3,h3',n1,n2,n3,n4,c0,hw])
  | (with_reducible refine Af ?_ (fun h=>?_); first | ((focus first | decide | omega); try clear h; try simp -implicitDefEqProofs -proj only [go_sem,seval,h1,h2,h3,h3',n1,n2,n3,n4,c0,hw]) | (rotate_left; try clear h; try simp -implicitDefEqProofs -proj only [go_sem,seval,h1,h2,h3,h3',n1,n2,n3,n4,c0,hw]; rotate_right)))
   refine Jq (ds:=r.elU) rfl (fun bs hs=>?_)
   replace hs:upd H b3 _ bs=none:=hs
   rw [show Ap 3 1 r.elU=[r.elU] from rfl]
   obtain ⟨m1,m2⟩:=AH hs (by rw [AE n1]; exact h1)
   obtain ⟨m3,m4⟩:=AH hs (by rw [AE n3]; exact h2)
   simp -implicitDefEqProofs -proj only [go_sem,seval,h1,h2,h3,h3',n1,n2,n3,n4,c0,hw,m1,m2,m3,m4]
   refine Nv (xs:=Fg l) (ys:=[r.elU]) (t:=82) (capc:=1) (by simp -implicitDefEqProofs -proj only [go_sem,seval,m3,n3,h2]) (by simp -implicitDefEqProofs -proj only [go_sem,seval]) rowU_len.symm rfl (by simp) rfl (by simp -implicitDefEqProofs only [rowU_len,List.length_singleton,maxLen]; omega) (fun c' cap' hc'=>?_)
   replace hc':upd (upd (upd H b3 _) bs _) c none c'=none:=hc'
   obtain ⟨k1,k2⟩:=AH hc' (by rw [AE h3,AE m1,AE n1]; exact h1)
   rw [AVR,List.length_singleton]
   simp -implicitDefEqProofs -proj only [go_sem,seval,h1,h2,h3,h3',n1,n2,n3,n4,c0,hw,m1,m2,m3,m4,k1,k2]
   (repeat' first
  | ((with_reducible first | refine EL (fun h=>?_) (fun h=>?_) | refine BM (fun h=>?_) (fun h=>?_) | refine EO (fun h=>?_) (fun h=>?_)) <;> (simp -implicitDefEqProofs -proj only [go_sem,seval,h,h1,h2,h3,h3',n1,n2,n3,n4,c0,hw,m1,m2,m3,m4,k1,k2]; try (revert h; intro _)))
  | ((with_reducible first | refine AK (fun _ hb=>?_) | refine An (fun _ hb=>?_)); simp -implicitDefEqProofs only [EM,EN,Ag,Heap.none_get,and_true,true_and] at hb; simp -implicitDefEqProofs -proj only [go_sem,seval,h1,h2,h3,h3',n1,n2,n3,n4,c0,hw,m1,m2,m3,m4,k1,k2]; try (revert hb; intro _))
  | ((with_reducible first | refine BB _ rfl (by simp) ?_ | refine EJ _ rfl (by simp) ?_); simp -implicitDefEqProofs -proj only [go_sem,seval,h1,h2,h3,h3',n1,n2,n3,n4,c0,hw,m1,m2,m3,m4,k1,k2])
  | (with_reducible refine Af ?_ (fun h=>?_); first | ((focus first | decide | omega); try clear h; try simp -implicitDefEqProofs -proj only [go_sem,seval,h1,h2,h3,h3',n1,n2,n3,n4,c0,hw,m1,m2,m3,m4,k1,k2]) | (rotate_left; try clear h; try simp -implicitDefEqProofs -proj only [go_sem,seval,h1,h2,h3,h3',n1,n2,n3,n4,c0,hw,m1,m2,m3,m4,k1,k2]; rotate_right)))
   refine ⟨c',.inr ⟨by rw [hp]; simp,k1,cap',?_,?_⟩,fun k x hk1 hk2 hk=>?_⟩
   ·simp -implicitDefEqProofs -proj only [go_sem,seval,hp,List.length_append]
   ·simp -implicitDefEqProofs -proj only [go_sem,seval,k2,hp]
   ·obtain ⟨p1,p2⟩:=AH hb hk
    obtain ⟨q1,q2⟩:=AH hs (by rw [AE p1]; exact hk)
    have hk3:¬c=k:=fun e=>hk2 h0 e.symm
    have hk4:¬b=k:=fun e=>hk1 e.symm
    obtain ⟨r1,r2⟩:=AH hc' (by rw [AE hk3,AE q1,AE p1]; exact hk)
    refine ⟨?_,r2⟩
    simp -implicitDefEqProofs -proj only [go_sem,seval,p1,q1,r1,hk3,hk4,hk]
def Ga (b c cap:Nat) (l:List Run):List (Nat×Blk):=if l=[] then [(b,.box 74 [.nilsl 3])] else [(b,.box 74 [.own c 3 0 l.length cap]),(c,.row 82 3 cap (Fg l))]
theorem SU {b c cap:Nat} {l:List Run} {rest:List (Nat×Blk)} (hc:l≠[]→c≠b):LineAtU (Ae (Ga b c cap l++rest)) b c l:=by
 unfold Ga
 by_cases h:l=[]
 ·rw [if_pos h]
  exact .inl ⟨h,by rw [List.cons_append,Ar,if_pos rfl]⟩
 ·rw [if_neg h]
  refine .inr ⟨h,hc h,cap,?_,?_⟩
  ·rw [List.cons_append,Ar,if_pos rfl]
  ·rw [List.cons_append,Ar,if_neg (hc h),List.cons_append,Ar,if_pos rfl]
theorem Ni {b c cap k:Nat} {l:List Run} {rest:List (Nat×Blk)} (hb:k≠b) (hc:l≠[]→k≠c):Ae (Ga b c cap l++rest) k=Ae rest k:=by
 unfold Ga
 by_cases h:l=[]
 ·rw [if_pos h,List.cons_append,Ar,if_neg hb,List.nil_append]
 ·rw [if_neg h,List.cons_append,Ar,if_neg hb,List.cons_append,Ar,if_neg (hc h),List.nil_append]
theorem KH {H:Heap} {b c:Nat} {l:List Run} (h:LineAtU H b c l):∃cap,AU H (Ga b c cap l)∧(l≠[]→c≠b):=by
 rcases h with ⟨rfl,h1⟩ | ⟨h0,h3,cap,h1,h2⟩
 ·exact ⟨0,⟨h1,trivial⟩,fun h=>absurd rfl h⟩
 ·refine ⟨cap,?_,fun _=>h3⟩
  unfold Ga
  rw [if_neg h0]
  exact ⟨h1,h2,trivial⟩
abbrev IT (l:List Run):AV:=.agg [.d (.sl 3 (Fg l))]
theorem RT {l:List Run}:∀el∈Fg l,∀d∈el,Gs d=true:=by
 intro el he d hd
 obtain ⟨r,_,rfl⟩:=List.mem_map.1 he
 simp -implicitDefEqProofs only [Run.elU,List.mem_cons,List.not_mem_nil,or_false] at hd
 rcases hd with rfl | rfl | rfl <;> rfl
theorem LineAtU.read {H:Heap} {b c:Nat} {l:List Run} (h:LineAtU H b c l):∃v,H b=some (.box 74 [v])∧NewV H v (.d (.sl 3 (Fg l)))∧KC v=some (i64 l.length):=by
 rcases h with ⟨rfl,h1⟩ | ⟨h0,h3,cap,h1,h2⟩
 ·exact ⟨_,h1,.nilsl _ _,rfl⟩
 ·exact ⟨_,h1,SH h2 rowU_len.symm RT,rfl⟩
theorem LineAtU.upd {H:Heap} {b c k:Nat} {l:List Run} {x:Option Blk} (h:LineAtU H b c l) (hb:¬k=b) (hc:l≠[]→¬k=c):LineAtU (upd H k x) b c l:=by
 rcases h with ⟨h0,h1⟩ | ⟨h0,h3,cap,h1,h2⟩
 ·exact .inl ⟨h0,by rw [AE hb]; exact h1⟩
 ·exact .inr ⟨h0,h3,cap,by rw [AE hb]; exact h1,by rw [AE (hc h0)]; exact h2⟩
abbrev HC (l:List Run):AV:=.d (.sl 3 (Fg l))
theorem Mn {l:List Run} {i:Nat} (h:i<l.length):(Fg l)[((i:Int)).toNat]? = some [.int .i64 l[i].f,.int .i64 l[i].t,.int .u64 l[i].v]:=by
 rw [Int.toNat_natCast]; exact AHW h
theorem LineAtU.fresh {H:Heap} {b c k:Nat} {l:List Run} (h:LineAtU H b c l) (hk:H k=none):¬k=b∧(l≠[]→¬k=c):=by
 rcases h with ⟨h0,h1⟩ | ⟨h0,h3,cap,h1,h2⟩
 ·exact ⟨(AH hk h1).1,fun h=>absurd h0 h⟩
 ·exact ⟨(AH hk h1).1,fun _=>(AH hk h2).1⟩
theorem AU0 {a b:List Run} {f:FuncId} {g:Int→Int→Int} (hg:∀u v:Int,DataW Tryz.prog f [u64 u,u64 v] (u64 (g u v))) (ha:a.length≤400000) (hb:b.length≤400000):NewW Tryz.prog ADE [IT a,IT b,.fn f []] (IT (E1 g a b (a.length+b.length) 0 0 [])):=by
 refine Aa Uf (by simp) ?_
 simp -implicitDefEqProofs -proj only [go_sem,seval]
 refine AK (fun b3 hb3=>?_)
 simp -implicitDefEqProofs -proj only [go_sem,seval]
 refine AK (fun b4 hb4=>?_)
 replace hb4:upd Heap.none b3 _ b4=none:=hb4
 obtain ⟨n1,n2⟩:=AH hb4 AQ
 simp -implicitDefEqProofs -proj only [go_sem,seval,n1,n2]
 refine AK (fun b6 hb6=>?_)
 replace hb6:upd (upd Heap.none b3 _) b4 _ b6=none:=hb6
 obtain ⟨n3,n4⟩:=AH hb6 AQ
 obtain ⟨n5,n6⟩:=AH hb6 (by rw [AE n1]; exact AQ)
 simp -implicitDefEqProofs -proj only [go_sem,seval,n1,n2,n3,n4,n5,n6,rowU_len]
 refine AK (fun b7 hb7=>?_)
 replace hb7:upd (upd (upd Heap.none b3 _) b4 _) b6 _ b7=none:=hb7
 obtain ⟨n7,n8⟩:=AH hb7 AQ
 obtain ⟨p1,p2⟩:=AH hb7 (by rw [AE n3]; exact AQ)
 obtain ⟨p3,p4⟩:=AH hb7 (by rw [AE n5,AE n1]; exact AQ)
 simp -implicitDefEqProofs -proj only [go_sem,seval,n1,n2,n3,n4,n5,n6,n7,n8,p1,p2,p3,p4,rowU_len]
 obtain ⟨rest,hrest⟩:∃rest:List (Nat×Blk),rest=[(b6,.box 74 [.nilsl 3]),(b3,.box 74 [HC a]),(b4,.box 74 [HC b])]:=⟨_,rfl⟩
 refine BE (fun x:ZipX=>x.i≤a.length∧x.k≤b.length∧x.l.length≤x.i+x.k∧E1 g a b (a.length+b.length-x.i-x.k) x.i x.k x.l=E1 g a b (a.length+b.length) 0 0 []∧(x.l≠[]→x.c≠b7∧x.c≠b6∧x.c≠b3∧x.c≠b4)) 74 (fun x=>[(8,i64 x.i),(9,i64 x.k),(3,.ptr b3 0),(4,.ptr b4 0),(6,.ptr b6 0),(7,.ptr b7 0),(2,.fn f [])]) (fun x=>Ga b7 x.c x.cap x.l++rest) (fun x=>a.length+b.length-x.i-x.k) ⟨0,0,0,0,[]⟩ ⟨Nat.zero_le _,Nat.zero_le _,Nat.zero_le _,rfl,fun h=>absurd rfl h⟩ rfl ?_ ?_ ?_
 ·simp -implicitDefEqProofs -proj only [go_sem,seval,AL]
 ·rw [Fb,hrest]
  simp -implicitDefEqProofs -proj only [go_sem,seval,AU,Ga,n1,n2,n3,n4,n5,n6,n7,n8,p1,p2,p3,p4]
 ·rintro ⟨i,k,c,cap,R⟩ ⟨hi,hk,hlen,hR,hc⟩
  simp -implicitDefEqProofs only [] at hi hk hlen hR hc
  have hat:=SU (b:=b7) (c:=c) (cap:=cap) (l:=R) (rest:=rest) (fun h=>(hc h).1)
  have h6:Ae (Ga b7 c cap R++rest) b6=some (.box 74 [.nilsl 3]):=by
   rw [Ni n8 (fun h e=>(hc h).2.1 e.symm),hrest]; simp -implicitDefEqProofs -proj only [go_sem,seval]
  have h3:Ae (Ga b7 c cap R++rest) b3=some (.box 74 [HC a]):=by
   rw [Ni p4 (fun h e=>(hc h).2.2.1 e.symm),hrest]; simp -implicitDefEqProofs -proj only [go_sem,seval,n6]
  have h4:Ae (Ga b7 c cap R++rest) b4=some (.box 74 [HC b]):=by
   rw [Ni p2 (fun h e=>(hc h).2.2.2 e.symm),hrest]; simp -implicitDefEqProofs -proj only [go_sem,seval,n4,n1]
  generalize hH:Ae (Ga b7 c cap R++rest)=H at *
  by_cases hin:i<a.length∧k<b.length
  ·obtain ⟨h,h'⟩:=hin
   have e1:=Mn h
   have e2:=Mn h'
   have hx:a[i]? = some a[i]:=List.getElem?_eq_getElem h
   have hy:b[k]? = some b[k]:=List.getElem?_eq_getElem h'
   generalize a[i]=x at *
   generalize b[k]=y at *
   rw [show a.length+b.length-i-k=(a.length+b.length-i-k-1)+1 by omega,E1,hx,hy] at hR
   simp -implicitDefEqProofs only [] at hR
   simp -implicitDefEqProofs -proj only [go_sem,seval,Gv,G2,h3,h4,rowU_len,decide_eq_true (show (i:Int)<a.length by omega),decide_eq_true (show (k:Int)<b.length by omega)]
   (repeat' (with_reducible refine Af ?_ (fun h=>?_); (focus first | decide | omega); clear h; try simp -implicitDefEqProofs -proj only [go_sem,seval,eq_self,Gv,G2,h3,h4,rowU_len,decide_eq_true (show (i:Int)<a.length by omega),decide_eq_true (show (k:Int)<b.length by omega)]))
   refine Ah _ (by omega) e1 ?_
   simp -implicitDefEqProofs -proj only [go_sem,seval,Gv,G2,h3,h4,rowU_len,decide_eq_true (show (i:Int)<a.length by omega),decide_eq_true (show (k:Int)<b.length by omega)]
   (repeat' (with_reducible refine Af ?_ (fun h=>?_); (focus first | decide | omega); clear h; try simp -implicitDefEqProofs -proj only [go_sem,seval,eq_self,Gv,G2,h3,h4,rowU_len,decide_eq_true (show (i:Int)<a.length by omega),decide_eq_true (show (k:Int)<b.length by omega)]))
   refine Ah _ (by omega) e2 ?_
   simp -implicitDefEqProofs -proj only [go_sem,seval,Gv,G2,h3,h4,rowU_len,decide_eq_true (show (i:Int)<a.length by omega),decide_eq_true (show (k:Int)<b.length by omega)]
   (repeat' (with_reducible refine Af ?_ (fun h=>?_); (focus first | decide | omega); clear h; try simp -implicitDefEqProofs -proj only [go_sem,seval,eq_self,Gv,G2,h3,h4,rowU_len,decide_eq_true (show (i:Int)<a.length by omega),decide_eq_true (show (k:Int)<b.length by omega)]))
   refine AK (fun b10 hb10=>?_)
   replace hb10:H b10=none:=hb10
   obtain ⟨q1,q3⟩:=hat.fresh hb10
   have t6:=(AH hb10 h6).1
   have t3:=(AH hb10 h3).1
   have t4:=(AH hb10 h4).1
   simp -implicitDefEqProofs -proj only [go_sem,seval]
   refine AK (fun b11 hb11=>?_)
   replace hb11:upd H b10 _ b11=none:=hb11
   obtain ⟨r3,r4⟩:=AH hb11 AQ
   have hb11':H b11=none:=by rw [AE r4] at hb11; exact hb11
   obtain ⟨r1,r3'⟩:=hat.fresh hb11'
   have u6:=(AH hb11' h6).1
   have u3:=(AH hb11' h3).1
   have u4:=(AH hb11' h4).1
   have q2:¬b7=b10:=fun e=>q1 e.symm
   have r2:¬b7=b11:=fun e=>r1 e.symm
   by_cases hA:x.t≤y.t
   ·by_cases hB:y.t≤x.t
    ·by_cases hM:max x.f y.f≤min x.t y.t
     ·rw [if_pos hA,if_pos hB,if_pos hM] at hR
      have dM:=decide_eq_true hM
      have dA:=decide_eq_true hA
      have dB:=decide_eq_true hB
      simp -implicitDefEqProofs -proj only [go_sem,seval,h3,h4,rowU_len,q1,q2,r1,r2,r3,r4,dM,dA,dB,AP (show i<9223372036854775807 by omega),AP (show k<9223372036854775807 by omega)]
      (repeat' (with_reducible refine Af ?_ (fun h=>?_); (focus first | decide | omega); clear h; try simp -implicitDefEqProofs -proj only [go_sem,seval,eq_self,h3,h4,rowU_len,q1,q2,r1,r2,r3,r4,dM,dA,dB,AP (show i<9223372036854775807 by omega),AP (show k<9223372036854775807 by omega)]))
      refine AJ (hg x.v y.v) ?_
      simp -implicitDefEqProofs -proj only [go_sem,seval,h3,h4,rowU_len,q1,q2,r1,r2,r3,r4,dM,dA,dB,AP (show i<9223372036854775807 by omega),AP (show k<9223372036854775807 by omega)]
      have hput:=fun z1 z2 z w=>Nb (r:=⟨max x.f y.f,min x.t y.t,g x.v y.v⟩) ((((hat.upd (k:=b10) (x:=z1) q1 q3).upd (k:=b11) (x:=z2) r1 r3').upd (k:=b10) (x:=z) q1 q3).upd (k:=b11) (x:=w) r1 r3') (by omega)
      refine Ex (hput _ _ _ _) (fun rr H' hk=>?_)
      obtain ⟨c',hat',hfr⟩:=hk
      have g6:=hfr b6 _ n8 (fun h e=>(hc h).2.1 e.symm) (by rw [AE u6,AE t6,AE u6,AE t6]; exact h6)
      have g3:=hfr b3 _ p4 (fun h e=>(hc h).2.2.1 e.symm) (by rw [AE u3,AE t3,AE u3,AE t3]; exact h3)
      have g4:=hfr b4 _ p2 (fun h e=>(hc h).2.2.2 e.symm) (by rw [AE u4,AE t4,AE u4,AE t4]; exact h4)
      have g10:=hfr b10 _ q1 q3 (by rw [AE r3,AQ])
      have g11:=hfr b11 _ r1 r3' (by rw [AQ])
      obtain ⟨cap',hah,hc'⟩:=KH hat'
      simp -implicitDefEqProofs -proj only [go_sem,seval,h3,h4,rowU_len,q1,q2,r1,r2,r3,r4,dM,dA,dB,AP (show i<9223372036854775807 by omega),AP (show k<9223372036854775807 by omega),g10.1,g11.1,eq_self]
      have hRR:A5 R ⟨max x.f y.f,min x.t y.t,g x.v y.v⟩≠[]:=Ki
      have hll:=@Gy R ⟨max x.f y.f,min x.t y.t,g x.v y.v⟩
      refine AZ ⟨i+1,k+1,c',cap',A5 R ⟨max x.f y.f,min x.t y.t,g x.v y.v⟩⟩ ⟨by show i+1≤a.length; omega,by show k+1≤b.length; omega,by show (A5 R _).length≤i+1+(k+1); omega,?_,fun h=>⟨hc' h,fun e=>g6.2 e.symm,fun e=>g3.2 e.symm,fun e=>g4.2 e.symm⟩⟩ (by show a.length+b.length-(i+1)-(k+1)<a.length+b.length-i-k; omega) rfl ?_ ?_
      ·show E1 g a b (a.length+b.length-(i+1)-(k+1)) (i+1) (k+1) _=_
       rw [←hR]
       try rw [show a.length+b.length-i-k-1=a.length+b.length-(i+1)-(k+1) by omega]
       try (rw [show a.length+b.length-i-k-1=(a.length+b.length-(i+1)-(k+1))+1 by omega,Hv _ _ _ _ (by omega)])
      ·simp -implicitDefEqProofs -proj only [go_sem,seval,AL,Gv,G2]
      ·rw [Fb,hrest]
       exact ⟨hah,g6.1,g3.1,g4.1,trivial⟩
     ·rw [if_pos hA,if_pos hB,if_neg hM] at hR
      have dM:=decide_eq_false hM
      have dA:=decide_eq_true hA
      have dB:=decide_eq_true hB
      simp -implicitDefEqProofs -proj only [go_sem,seval,h3,h4,rowU_len,q1,q2,r1,r2,r3,r4,dM,dA,dB,AP (show i<9223372036854775807 by omega),AP (show k<9223372036854775807 by omega)]
      (repeat' (with_reducible refine Af ?_ (fun h=>?_); (focus first | decide | omega); clear h; try simp -implicitDefEqProofs -proj only [go_sem,seval,eq_self,h3,h4,rowU_len,q1,q2,r1,r2,r3,r4,dM,dA,dB,AP (show i<9223372036854775807 by omega),AP (show k<9223372036854775807 by omega)]))
      obtain ⟨cap',hah,hc'⟩:=KH ((((hat.upd (k:=b10) (x:=some (.box 82 [.d (.int .i64 0),.d (.int .i64 0),.d (.int .u64 0)])) q1 q3).upd (k:=b11) (x:=some (.box 82 [.d (.int .i64 0),.d (.int .i64 0),.d (.int .u64 0)])) r1 r3').upd (k:=b10) (x:=some (.box 82 [.d (.int .i64 x.f),.d (.int .i64 x.t),.d (.int .u64 x.v)])) q1 q3).upd (k:=b11) (x:=some (.box 82 [.d (.int .i64 y.f),.d (.int .i64 y.t),.d (.int .u64 y.v)])) r1 r3')
      refine AZ ⟨i+1,k+1,c,cap',R⟩ ⟨by show i+1≤a.length; omega,by show k+1≤b.length; omega,by show R.length≤i+1+(k+1); omega,?_,hc⟩ (by show a.length+b.length-(i+1)-(k+1)<a.length+b.length-i-k; omega) rfl ?_ ?_
      ·show E1 g a b (a.length+b.length-(i+1)-(k+1)) (i+1) (k+1) _=_
       rw [←hR]
       try rw [show a.length+b.length-i-k-1=a.length+b.length-(i+1)-(k+1) by omega]
       try (rw [show a.length+b.length-i-k-1=(a.length+b.length-(i+1)-(k+1))+1 by omega,Hv _ _ _ _ (by omega)])
      ·simp -implicitDefEqProofs -proj only [go_sem,seval,AL,Gv,G2]
      ·rw [Fb,hrest]
       exact ⟨hah,((AE u6).trans ((AE t6).trans ((AE u6).trans ((AE t6).trans h6)))),((AE u3).trans ((AE t3).trans ((AE u3).trans ((AE t3).trans h3)))),((AE u4).trans ((AE t4).trans ((AE u4).trans ((AE t4).trans h4)))),trivial⟩
    ·by_cases hM:max x.f y.f≤min x.t y.t
     ·rw [if_pos hA,if_neg hB,if_pos hM] at hR
      have dM:=decide_eq_true hM
      have dA:=decide_eq_true hA
      have dB:=decide_eq_false hB
      simp -implicitDefEqProofs -proj only [go_sem,seval,h3,h4,rowU_len,q1,q2,r1,r2,r3,r4,dM,dA,dB,AP (show i<9223372036854775807 by omega),AP (show k<9223372036854775807 by omega)]
      (repeat' (with_reducible refine Af ?_ (fun h=>?_); (focus first | decide | omega); clear h; try simp -implicitDefEqProofs -proj only [go_sem,seval,eq_self,h3,h4,rowU_len,q1,q2,r1,r2,r3,r4,dM,dA,dB,AP (show i<9223372036854775807 by omega),AP (show k<9223372036854775807 by omega)]))
      refine AJ (hg x.v y.v) ?_
      simp -implicitDefEqProofs -proj only [go_sem,seval,h3,h4,rowU_len,q1,q2,r1,r2,r3,r4,dM,dA,dB,AP (show i<9223372036854775807 by omega),AP (show k<9223372036854775807 by omega)]
      have hput:=fun z1 z2 z w=>Nb (r:=⟨max x.f y.f,min x.t y.t,g x.v y.v⟩) ((((hat.upd (k:=b10) (x:=z1) q1 q3).upd (k:=b11) (x:=z2) r1 r3').upd (k:=b10) (x:=z) q1 q3).upd (k:=b11) (x:=w) r1 r3') (by omega)
      refine Ex (hput _ _ _ _) (fun rr H' hk=>?_)
      obtain ⟨c',hat',hfr⟩:=hk
      have g6:=hfr b6 _ n8 (fun h e=>(hc h).2.1 e.symm) (by rw [AE u6,AE t6,AE u6,AE t6]; exact h6)
      have g3:=hfr b3 _ p4 (fun h e=>(hc h).2.2.1 e.symm) (by rw [AE u3,AE t3,AE u3,AE t3]; exact h3)
      have g4:=hfr b4 _ p2 (fun h e=>(hc h).2.2.2 e.symm) (by rw [AE u4,AE t4,AE u4,AE t4]; exact h4)
      have g10:=hfr b10 _ q1 q3 (by rw [AE r3,AQ])
      have g11:=hfr b11 _ r1 r3' (by rw [AQ])
      obtain ⟨cap',hah,hc'⟩:=KH hat'
      simp -implicitDefEqProofs -proj only [go_sem,seval,h3,h4,rowU_len,q1,q2,r1,r2,r3,r4,dM,dA,dB,AP (show i<9223372036854775807 by omega),AP (show k<9223372036854775807 by omega),g10.1,g11.1,eq_self]
      have hRR:A5 R ⟨max x.f y.f,min x.t y.t,g x.v y.v⟩≠[]:=Ki
      have hll:=@Gy R ⟨max x.f y.f,min x.t y.t,g x.v y.v⟩
      refine AZ ⟨i+1,k,c',cap',A5 R ⟨max x.f y.f,min x.t y.t,g x.v y.v⟩⟩ ⟨by show i+1≤a.length; omega,by show k≤b.length; omega,by show (A5 R _).length≤i+1+(k); omega,?_,fun h=>⟨hc' h,fun e=>g6.2 e.symm,fun e=>g3.2 e.symm,fun e=>g4.2 e.symm⟩⟩ (by show a.length+b.length-(i+1)-(k)<a.length+b.length-i-k; omega) rfl ?_ ?_
      ·show E1 g a b (a.length+b.length-(i+1)-(k)) (i+1) (k) _=_
       rw [←hR]
       try rw [show a.length+b.length-i-k-1=a.length+b.length-(i+1)-(k) by omega]
       try (rw [show a.length+b.length-i-k-1=(a.length+b.length-(i+1)-(k+1))+1 by omega,Hv _ _ _ _ (by omega)])
      ·simp -implicitDefEqProofs -proj only [go_sem,seval,AL,Gv,G2]
      ·rw [Fb,hrest]
       exact ⟨hah,g6.1,g3.1,g4.1,trivial⟩
     ·rw [if_pos hA,if_neg hB,if_neg hM] at hR
      have dM:=decide_eq_false hM
      have dA:=decide_eq_true hA
      have dB:=decide_eq_false hB
      simp -implicitDefEqProofs -proj only [go_sem,seval,h3,h4,rowU_len,q1,q2,r1,r2,r3,r4,dM,dA,dB,AP (show i<9223372036854775807 by omega),AP (show k<9223372036854775807 by omega)]
      (repeat' (with_reducible refine Af ?_ (fun h=>?_); (focus first | decide | omega); clear h; try simp -implicitDefEqProofs -proj only [go_sem,seval,eq_self,h3,h4,rowU_len,q1,q2,r1,r2,r3,r4,dM,dA,dB,AP (show i<9223372036854775807 by omega),AP (show k<9223372036854775807 by omega)]))
      obtain ⟨cap',hah,hc'⟩:=KH ((((hat.upd (k:=b10) (x:=some (.box 82 [.d (.int .i64 0),.d (.int .i64 0),.d (.int .u64 0)])) q1 q3).upd (k:=b11) (x:=some (.box 82 [.d (.int .i64 0),.d (.int .i64 0),.d (.int .u64 0)])) r1 r3').upd (k:=b10) (x:=some (.box 82 [.d (.int .i64 x.f),.d (.int .i64 x.t),.d (.int .u64 x.v)])) q1 q3).upd (k:=b11) (x:=some (.box 82 [.d (.int .i64 y.f),.d (.int .i64 y.t),.d (.int .u64 y.v)])) r1 r3')
      refine AZ ⟨i+1,k,c,cap',R⟩ ⟨by show i+1≤a.length; omega,by show k≤b.length; omega,by show R.length≤i+1+(k); omega,?_,hc⟩ (by show a.length+b.length-(i+1)-(k)<a.length+b.length-i-k; omega) rfl ?_ ?_
      ·show E1 g a b (a.length+b.length-(i+1)-(k)) (i+1) (k) _=_
       rw [←hR]
       try rw [show a.length+b.length-i-k-1=a.length+b.length-(i+1)-(k) by omega]
       try (rw [show a.length+b.length-i-k-1=(a.length+b.length-(i+1)-(k+1))+1 by omega,Hv _ _ _ _ (by omega)])
      ·simp -implicitDefEqProofs -proj only [go_sem,seval,AL,Gv,G2]
      ·rw [Fb,hrest]
       exact ⟨hah,((AE u6).trans ((AE t6).trans ((AE u6).trans ((AE t6).trans h6)))),((AE u3).trans ((AE t3).trans ((AE u3).trans ((AE t3).trans h3)))),((AE u4).trans ((AE t4).trans ((AE u4).trans ((AE t4).trans h4)))),trivial⟩
   ·have hB:y.t≤x.t:=by omega
    by_cases hM:max x.f y.f≤min x.t y.t
    ·rw [if_neg hA,if_pos hB,if_pos hM] at hR
     have dM:=decide_eq_true hM
     have dA:=decide_eq_false hA
     have dB:=decide_eq_true hB
     simp -implicitDefEqProofs -proj only [go_sem,seval,h3,h4,rowU_len,q1,q2,r1,r2,r3,r4,dM,dA,dB,AP (show i<9223372036854775807 by omega),AP (show k<9223372036854775807 by omega)]
     (repeat' (with_reducible refine Af ?_ (fun h=>?_); (focus first | decide | omega); clear h; try simp -implicitDefEqProofs -proj only [go_sem,seval,eq_self,h3,h4,rowU_len,q1,q2,r1,r2,r3,r4,dM,dA,dB,AP (show i<9223372036854775807 by omega),AP (show k<9223372036854775807 by omega)]))
     refine AJ (hg x.v y.v) ?_
     simp -implicitDefEqProofs -proj only [go_sem,seval,h3,h4,rowU_len,q1,q2,r1,r2,r3,r4,dM,dA,dB,AP (show i<9223372036854775807 by omega),AP (show k<9223372036854775807 by omega)]
     have hput:=fun z1 z2 z w=>Nb (r:=⟨max x.f y.f,min x.t y.t,g x.v y.v⟩) ((((hat.upd (k:=b10) (x:=z1) q1 q3).upd (k:=b11) (x:=z2) r1 r3').upd (k:=b10) (x:=z) q1 q3).upd (k:=b11) (x:=w) r1 r3') (by omega)
     refine Ex (hput _ _ _ _) (fun rr H' hk=>?_)
     obtain ⟨c',hat',hfr⟩:=hk
     have g6:=hfr b6 _ n8 (fun h e=>(hc h).2.1 e.symm) (by rw [AE u6,AE t6,AE u6,AE t6]; exact h6)
     have g3:=hfr b3 _ p4 (fun h e=>(hc h).2.2.1 e.symm) (by rw [AE u3,AE t3,AE u3,AE t3]; exact h3)
     have g4:=hfr b4 _ p2 (fun h e=>(hc h).2.2.2 e.symm) (by rw [AE u4,AE t4,AE u4,AE t4]; exact h4)
     have g10:=hfr b10 _ q1 q3 (by rw [AE r3,AQ])
     have g11:=hfr b11 _ r1 r3' (by rw [AQ])
     obtain ⟨cap',hah,hc'⟩:=KH hat'
     simp -implicitDefEqProofs -proj only [go_sem,seval,h3,h4,rowU_len,q1,q2,r1,r2,r3,r4,dM,dA,dB,AP (show i<9223372036854775807 by omega),AP (show k<9223372036854775807 by omega),g10.1,g11.1,eq_self]
     have hRR:A5 R ⟨max x.f y.f,min x.t y.t,g x.v y.v⟩≠[]:=Ki
     have hll:=@Gy R ⟨max x.f y.f,min x.t y.t,g x.v y.v⟩
     refine AZ ⟨i,k+1,c',cap',A5 R ⟨max x.f y.f,min x.t y.t,g x.v y.v⟩⟩ ⟨by show i≤a.length; omega,by show k+1≤b.length; omega,by show (A5 R _).length≤i+(k+1); omega,?_,fun h=>⟨hc' h,fun e=>g6.2 e.symm,fun e=>g3.2 e.symm,fun e=>g4.2 e.symm⟩⟩ (by show a.length+b.length-(i)-(k+1)<a.length+b.length-i-k; omega) rfl ?_ ?_
     ·show E1 g a b (a.length+b.length-(i)-(k+1)) (i) (k+1) _=_
      rw [←hR]
      try rw [show a.length+b.length-i-k-1=a.length+b.length-(i)-(k+1) by omega]
      try (rw [show a.length+b.length-i-k-1=(a.length+b.length-(i+1)-(k+1))+1 by omega,Hv _ _ _ _ (by omega)])
     ·simp -implicitDefEqProofs -proj only [go_sem,seval,AL,Gv,G2]
     ·rw [Fb,hrest]
      exact ⟨hah,g6.1,g3.1,g4.1,trivial⟩
    ·rw [if_neg hA,if_pos hB,if_neg hM] at hR
     have dM:=decide_eq_false hM
     have dA:=decide_eq_false hA
     have dB:=decide_eq_true hB
     simp -implicitDefEqProofs -proj only [go_sem,seval,h3,h4,rowU_len,q1,q2,r1,r2,r3,r4,dM,dA,dB,AP (show i<9223372036854775807 by omega),AP (show k<9223372036854775807 by omega)]
     (repeat' (with_reducible refine Af ?_ (fun h=>?_); (focus first | decide | omega); clear h; try simp -implicitDefEqProofs -proj only [go_sem,seval,eq_self,h3,h4,rowU_len,q1,q2,r1,r2,r3,r4,dM,dA,dB,AP (show i<9223372036854775807 by omega),AP (show k<9223372036854775807 by omega)]))
     obtain ⟨cap',hah,hc'⟩:=KH ((((hat.upd (k:=b10) (x:=some (.box 82 [.d (.int .i64 0),.d (.int .i64 0),.d (.int .u64 0)])) q1 q3).upd (k:=b11) (x:=some (.box 82 [.d (.int .i64 0),.d (.int .i64 0),.d (.int .u64 0)])) r1 r3').upd (k:=b10) (x:=some (.box 82 [.d (.int .i64 x.f),.d (.int .i64 x.t),.d (.int .u64 x.v)])) q1 q3).upd (k:=b11) (x:=some (.box 82 [.d (.int .i64 y.f),.d (.int .i64 y.t),.d (.int .u64 y.v)])) r1 r3')
     refine AZ ⟨i,k+1,c,cap',R⟩ ⟨by show i≤a.length; omega,by show k+1≤b.length; omega,by show R.length≤i+(k+1); omega,?_,hc⟩ (by show a.length+b.length-(i)-(k+1)<a.length+b.length-i-k; omega) rfl ?_ ?_
     ·show E1 g a b (a.length+b.length-(i)-(k+1)) (i) (k+1) _=_
      rw [←hR]
      try rw [show a.length+b.length-i-k-1=a.length+b.length-(i)-(k+1) by omega]
      try (rw [show a.length+b.length-i-k-1=(a.length+b.length-(i+1)-(k+1))+1 by omega,Hv _ _ _ _ (by omega)])
     ·simp -implicitDefEqProofs -proj only [go_sem,seval,AL,Gv,G2]
     ·rw [Fb,hrest]
      exact ⟨hah,((AE u6).trans ((AE t6).trans ((AE u6).trans ((AE t6).trans h6)))),((AE u3).trans ((AE t3).trans ((AE u3).trans ((AE t3).trans h3)))),((AE u4).trans ((AE t4).trans ((AE u4).trans ((AE t4).trans h4)))),trivial⟩
  ·have hz:E1 g a b (a.length+b.length-i-k) i k R=R:=by
    generalize a.length+b.length-i-k=n
    cases n with
    | zero=>rfl
    | succ n =>
     rw [E1]
     by_cases h1:i<a.length
     ·rw [List.getElem?_eq_none (l:=b) (by omega)]
      split <;> first | rfl | simp_all
     ·rw [List.getElem?_eq_none (l:=a) (by omega)]
   obtain ⟨v,hv,hl,_⟩:=hat.read
   obtain ⟨v2,hv2,hl2,_⟩:=(hat.upd (k:=b6) (x:=some (.box 74 [v])) n8 (fun h e=>(hc h).2.1 e.symm)).read
   rw [AE n8,hv] at hv2
   cases hv2
   rw [←hR,hz]
   by_cases h1:i<a.length
   ·have h2:¬(k:Int)<b.length:=by omega
    simp -implicitDefEqProofs -proj only [go_sem,seval,Gv,G2,h3,h4,h6,hv,rowU_len,decide_eq_true (show (i:Int)<a.length by omega),decide_eq_false h2]
    (repeat' (with_reducible refine Af ?_ (fun h=>?_); (focus first | decide | omega); clear h; try simp -implicitDefEqProofs -proj only [go_sem,seval,eq_self,Gv,G2,h3,h4,h6,hv,rowU_len,decide_eq_true (show (i:Int)<a.length by omega),decide_eq_false h2]))
    exact Ls hl2
   ·simp -implicitDefEqProofs -proj only [go_sem,seval,Gv,G2,h3,h4,h6,hv,rowU_len,decide_eq_false (show ¬(i:Int)<a.length by omega)]
    (repeat' (with_reducible refine Af ?_ (fun h=>?_); (focus first | decide | omega); clear h; try simp -implicitDefEqProofs -proj only [go_sem,seval,eq_self,Gv,G2,h3,h4,h6,hv,rowU_len,decide_eq_false (show ¬(i:Int)<a.length by omega)]))
    exact Ls hl2
structure LineSU (H:Heap) (b c:Nat) (R:List Run) (rest:List (Nat×Blk)):Prop where
 at_:LineAtU H b c R
 all:AU H rest
 ne:∀p∈rest,p.1≠b∧(R≠[]→p.1≠c)
theorem LX {H:Heap} {b c:Nat} {R:List Run} {rest:List (Nat×Blk)} {r:Run} (h:LineSU H b c R rest) (hl:R.length≤1000000):CallW Tryz.prog QE [.ptr b 0,r.avU] H fun _ H'=>∃c',LineSU H' b c' (A5 R r) rest :=
 (Nb (r:=r) h.at_ hl).mono fun _ H' ⟨c',h1,h2⟩ =>
  ⟨c',h1,Ez.2 fun p hp=>(h2 p.1 p.2 (h.ne p hp).1 (h.ne p hp).2 (Ez.1 h.all p hp)).1,fun p hp=>⟨(h.ne p hp).1,fun _=>(h2 p.1 p.2 (h.ne p hp).1 (h.ne p hp).2 (Ez.1 h.all p hp)).2⟩⟩
theorem LineSU.alloc {H:Heap} {b c k:Nat} {R:List Run} {rest:List (Nat×Blk)} {x:Blk} (h:LineSU H b c R rest) (hk:H k=none):LineSU (upd H k (some x)) b c R ((k,x)::rest):=by
 have hf:=h.at_.fresh hk
 refine ⟨h.at_.upd hf.1 hf.2,G4 hk h.all,fun p hp=>?_⟩
 rcases List.mem_cons.1 hp with rfl | hp
 ·exact hf
 ·exact h.ne p hp
theorem LineSU.keep {b c cap:Nat} {R:List Run} {rest:List (Nat×Blk)} (hc:R≠[]→c≠b) (hn:∀p∈rest,p.1≠b∧(R≠[]→p.1≠c)) (hk:(AN rest).Nodup):LineSU (Ae (Ga b c cap R++rest)) b c R rest :=
 ⟨SU hc,Ez.2 fun p hp=>by rw [Ni (hn p hp).1 (hn p hp).2]; exact Ez.1 (EQ hk) p hp,hn⟩
theorem LineSU.sub {H:Heap} {b c:Nat} {R:List Run} {rest rest':List (Nat×Blk)} (h:LineSU H b c R rest) (hs:∀p∈rest',p∈rest):LineSU H b c R rest' :=
 ⟨h.at_,Pa h.all hs,fun p hp=>h.ne p (hs p hp)⟩
set_option maxRecDepth 20000 in
theorem ALD {l:List Run} {lo hi v:Int} (hn:l.length≤300000) (hlo : -1099511627776≤lo∧lo≤1099511627776) (hhi : -1099511627776≤hi∧hi≤1099511627776) (hb:∀r∈l,-1099511627776≤r.f∧r.t≤1099511627776∧r.f≤r.t) :
  NewW Tryz.prog AOb [IT l,i64 lo,i64 hi,u64 v] (IT (GK lo hi v l l.length)):=by
 refine Aa AKK (by simp) ?_
 simp -implicitDefEqProofs -proj only [go_sem,seval]
 refine AK (fun b4 hb4=>?_)
 simp -implicitDefEqProofs -proj only [go_sem,seval]
 refine AK (fun b8 hb8=>?_)
 replace hb8:upd Heap.none b4 _ b8=none:=hb8
 obtain ⟨n1,n2⟩:=AH hb8 AQ
 simp -implicitDefEqProofs -proj only [go_sem,seval]
 refine AK (fun b9 hb9=>?_)
 replace hb9:upd (upd Heap.none b4 _) b8 _ b9=none:=hb9
 obtain ⟨n3,n4⟩:=AH hb9 AQ
 obtain ⟨n5,n6⟩:=AH hb9 (by rw [AE n1]; exact AQ)
 simp -implicitDefEqProofs -proj only [go_sem,seval,n1,n2,n3,n4,n5,n6,rowU_len]
 (repeat' (with_reducible refine Af ?_ (fun h=>?_); (focus first | decide | omega); clear h; try simp -implicitDefEqProofs -proj only [go_sem,seval,n1,n2,n3,n4,n5,n6,rowU_len]))
 refine BE (fun x:LoopX=>x.i≤l.length∧x.l=GK lo hi v l x.i∧(x.l≠[]→x.c≠b9∧x.c≠b8)) 65 (fun x=>[(15,HC l),(16,i64 l.length),(17,i64 x.i),(1,i64 lo),(2,i64 hi),(3,u64 v),(9,.ptr b9 0),(8,.ptr b8 0)]) (fun x=>Ga b9 x.c x.cap x.l++[(b8,.box 74 [.nilsl 3])]) (fun x=>l.length-x.i) ⟨0,0,0,[]⟩ ⟨Nat.zero_le _,rfl,fun h=>absurd rfl h⟩ rfl ?_ ?_ ?_
 ·simp -implicitDefEqProofs -proj only [go_sem,seval,AL,rowU_len]
 ·simp -implicitDefEqProofs -proj only [go_sem,seval,AU,Fb,Ga,n1,n2,n3,n4,n5,n6]
 ·rintro ⟨i,c,cap,R⟩ ⟨hi',hR,hc⟩
  simp -implicitDefEqProofs only [] at hi' hR hc
  have hS:LineSU (Ae (Ga b9 c cap R++[(b8,.box 74 [.nilsl 3])])) b9 c R [(b8,.box 74 [.nilsl 3])] :=
   LineSU.keep (fun h=>(hc h).1) (fun p hp=>by simp -implicitDefEqProofs only [List.mem_singleton] at hp; subst hp; exact ⟨n4,fun h e=>(hc h).2 e.symm⟩) (by simp [AN])
  generalize hH:Ae (Ga b9 c cap R++[(b8,.box 74 [.nilsl 3])])=H at *
  have hlen:=PJ (lo:=lo) (hi:=hi) (v:=v) (l:=l) i
  rw [←hR] at hlen
  by_cases h:i<l.length
  ·have hel:=Mn h
   have hx:l[i]? = some l[i]:=List.getElem?_eq_getElem h
   obtain ⟨q1,q2,q3⟩:=hb l[i] (List.getElem_mem h)
   generalize l[i]=x at *
   have hR':Gr lo hi v R x=GK lo hi v l (i+1):=by rw [GK,hx,hR]
   have fin:∀(H':Heap) (c':Nat) (t:TM),LineSU H' b9 c' (Gr lo hi v R x) [(b8,.box 74 [.nilsl 3])]→AL t [(15,HC l),(16,i64 l.length),(17,i64 ((i+1:Nat):Int)),(1,i64 lo),(2,i64 hi),(3,u64 v),(9,.ptr b9 0),(8,.ptr b8 0)] →
     Im (fun x:LoopX=>x.i≤l.length∧x.l=GK lo hi v l x.i∧(x.l≠[]→x.c≠b9∧x.c≠b8)) (fun x=>(⟨65,E6 [(15,HC l),(16,i64 l.length),(17,i64 x.i),(1,i64 lo),(2,i64 hi),(3,u64 v),(9,.ptr b9 0),(8,.ptr b8 0)],Ae (Ga b9 x.c x.cap x.l++[(b8,.box 74 [.nilsl 3])])⟩:St)) (fun x=>l.length-x.i) ⟨i,c,cap,R⟩
      (Ev Tryz.prog (BL [.cell 8 (some 1)] fun r' H'=>NewV H' r' (IT (GK lo hi v l l.length))) [.blk 0,.code ((ACode.ops RZ).seq .ret)]) .normal ⟨65,t,H'⟩:=by
    intro H' c' t hS' hat
    obtain ⟨cap',ha,hc'⟩:=KH hS'.at_
    refine AZ ⟨i+1,c',cap',Gr lo hi v R x⟩ ⟨by show i+1≤l.length; omega,hR',fun h=>⟨hc' h,fun e=>(hS'.ne _ (List.mem_singleton.2 rfl)).2 h e.symm⟩⟩ (by show l.length-(i+1)<l.length-i; omega) rfl hat ?_
    rw [Fb]
    exact ⟨ha,hS'.all⟩
   have hsucc:=AP (show i<9223372036854775807 by omega)
   simp -implicitDefEqProofs -proj only [go_sem,seval,decide_eq_true (show (i:Int)<l.length by omega)]
   refine Ah _ (by omega) hel ?_
   simp -implicitDefEqProofs -proj only [go_sem,seval]
   refine AK (fun b11 hb11=>?_)
   replace hb11:H b11=none:=hb11
   have hS1:=hS.alloc (x:=.box 82 [i64 x.f,i64 x.t,u64 x.v]) hb11
   obtain ⟨H1,hH1⟩:∃H1,upd H b11 (some (.box 82 [i64 x.f,i64 x.t,u64 x.v]))=H1:=⟨_,rfl⟩
   have e11:H1 b11=some (.box 82 [i64 x.f,i64 x.t,u64 x.v]):=by rw [←hH1]; exact AQ
   rw [hH1] at hS1
   simp -implicitDefEqProofs -proj only [go_sem,seval,hH1,e11]
   have w1:IntKind.i64.wrap (max x.f lo-1)=max x.f lo-1:=by rw [IntKind.wrap_i64]; omega
   have w2:IntKind.i64.wrap (min x.t hi+1)=min x.t hi+1:=by rw [IntKind.wrap_i64]; omega
   by_cases hc1:min x.t hi<max x.f lo
   ·have ef:Gr lo hi v R x=A5 R x:=by unfold Gr; exact if_pos hc1
    simp -implicitDefEqProofs -proj only [go_sem,seval,decide_eq_true hc1,e11]
    refine Ex (LX (r:=x) hS1 (by omega)) ?_
    rintro r2 H2 ⟨c2,hS2⟩
    have e2:H2 b11=some (.box 82 [i64 x.f,i64 x.t,u64 x.v]):=hS2.all.1
    simp -implicitDefEqProofs -proj only [go_sem,seval,hsucc]
    refine fin _ c2 _ ?_ ?_
    ·rw [ef]; exact hS2.sub (fun p hp=>List.mem_cons_of_mem _ hp)
    ·simp -implicitDefEqProofs -proj only [go_sem,seval,AL]
   ·by_cases hc2:x.f<max x.f lo
    ·simp -implicitDefEqProofs -proj only [go_sem,seval,decide_eq_false hc1,decide_eq_true hc2,e11,w1,w2]
     refine Ex (LX (r:=⟨x.f,max x.f lo-1,x.v⟩) hS1 (by omega)) ?_
     rintro r2 H2 ⟨c2,hS2⟩
     have e2:H2 b11=some (.box 82 [i64 x.f,i64 x.t,u64 x.v]):=hS2.all.1
     have k2:=@Gy R ⟨x.f,max x.f lo-1,x.v⟩
     simp -implicitDefEqProofs -proj only [go_sem,seval,e2,w1,w2]
     refine Ex (LX (r:=⟨max x.f lo,min x.t hi,v⟩) hS2 (by omega)) ?_
     rintro r3 H3 ⟨c3,hS3⟩
     have e3:H3 b11=some (.box 82 [i64 x.f,i64 x.t,u64 x.v]):=hS3.all.1
     have k3:=@Gy (A5 R ⟨x.f,max x.f lo-1,x.v⟩) ⟨max x.f lo,min x.t hi,v⟩
     by_cases hc3:min x.t hi<x.t
     ·simp -implicitDefEqProofs -proj only [go_sem,seval,e3,w1,w2,decide_eq_true hc3]
      refine Ex (LX (r:=⟨min x.t hi+1,x.t,x.v⟩) hS3 (by omega)) ?_
      rintro r4 H4 ⟨c4,hS4⟩
      have e4:H4 b11=some (.box 82 [i64 x.f,i64 x.t,u64 x.v]):=hS4.all.1
      simp -implicitDefEqProofs -proj only [go_sem,seval,hsucc]
      refine fin _ c4 _ ?_ ?_
      ·have ef:Gr lo hi v R x=A5 (A5 (A5 R ⟨x.f,max x.f lo-1,x.v⟩) ⟨max x.f lo,min x.t hi,v⟩) ⟨min x.t hi+1,x.t,x.v⟩:=by unfold Gr; simp -implicitDefEqProofs only []; rw [if_neg (by omega),if_pos hc2,if_pos hc3]
       rw [ef]; exact hS4.sub (fun p hp=>List.mem_cons_of_mem _ hp)
      ·simp -implicitDefEqProofs -proj only [go_sem,seval,AL]
     ·simp -implicitDefEqProofs -proj only [go_sem,seval,e3,w1,w2,decide_eq_false hc3,hsucc]
      refine fin _ c3 _ ?_ ?_
      ·have ef:Gr lo hi v R x=(A5 (A5 R ⟨x.f,max x.f lo-1,x.v⟩) ⟨max x.f lo,min x.t hi,v⟩):=by unfold Gr; simp -implicitDefEqProofs only []; rw [if_neg (by omega),if_pos hc2,if_neg hc3]
       rw [ef]; exact hS3.sub (fun p hp=>List.mem_cons_of_mem _ hp)
      ·simp -implicitDefEqProofs -proj only [go_sem,seval,AL]
    ·simp -implicitDefEqProofs -proj only [go_sem,seval,decide_eq_false hc1,decide_eq_false hc2,e11,w1,w2]
     refine Ex (LX (r:=⟨max x.f lo,min x.t hi,v⟩) hS1 (by omega)) ?_
     rintro r3 H3 ⟨c3,hS3⟩
     have e3:H3 b11=some (.box 82 [i64 x.f,i64 x.t,u64 x.v]):=hS3.all.1
     have k3:=@Gy R ⟨max x.f lo,min x.t hi,v⟩
     by_cases hc3:min x.t hi<x.t
     ·simp -implicitDefEqProofs -proj only [go_sem,seval,e3,w1,w2,decide_eq_true hc3]
      refine Ex (LX (r:=⟨min x.t hi+1,x.t,x.v⟩) hS3 (by omega)) ?_
      rintro r4 H4 ⟨c4,hS4⟩
      have e4:H4 b11=some (.box 82 [i64 x.f,i64 x.t,u64 x.v]):=hS4.all.1
      simp -implicitDefEqProofs -proj only [go_sem,seval,hsucc]
      refine fin _ c4 _ ?_ ?_
      ·have ef:Gr lo hi v R x=A5 (A5 R ⟨max x.f lo,min x.t hi,v⟩) ⟨min x.t hi+1,x.t,x.v⟩:=by unfold Gr; simp -implicitDefEqProofs only []; rw [if_neg (by omega),if_neg hc2,if_pos hc3]
       rw [ef]; exact hS4.sub (fun p hp=>List.mem_cons_of_mem _ hp)
      ·simp -implicitDefEqProofs -proj only [go_sem,seval,AL]
     ·simp -implicitDefEqProofs -proj only [go_sem,seval,e3,w1,w2,decide_eq_false hc3,hsucc]
      refine fin _ c3 _ ?_ ?_
      ·have ef:Gr lo hi v R x=(A5 R ⟨max x.f lo,min x.t hi,v⟩):=by unfold Gr; simp -implicitDefEqProofs only []; rw [if_neg (by omega),if_neg hc2,if_neg hc3]
       rw [ef]; exact hS3.sub (fun p hp=>List.mem_cons_of_mem _ hp)
      ·simp -implicitDefEqProofs -proj only [go_sem,seval,AL]
  ·have hi'':i=l.length:=by omega
   subst hi''
   obtain ⟨v',hv,hl,_⟩:=hS.at_.read
   have h8:=hS.all.1
   simp -implicitDefEqProofs -proj only [go_sem,seval,decide_eq_false (show ¬(l.length:Int)<l.length by omega),hv,h8]
   obtain ⟨v2,hv2,hl2,_⟩:=(hS.at_.upd (k:=b8) (x:=some (.box 74 [v'])) n4 (fun h e=>(hc h).2 e.symm)).read
   rw [AE n4,hv] at hv2
   cases hv2
   rw [show GK lo hi v l l.length=R from hR.symm]
   exact Ls hl2
theorem SJ {lo hi v:Int}:NewW Tryz.prog Z9 [i64 lo,i64 hi,u64 v] (IT (if hi<lo then [] else [⟨lo,hi,v⟩])):=by
 refine Aa ABd (by simp) ?_
 simp -implicitDefEqProofs -proj only [go_sem,seval]
 refine AK (fun b6 hb6=>?_)
 by_cases h:hi<lo
 ·rw [if_pos h]
  simp -implicitDefEqProofs -proj only [go_sem,seval,decide_eq_true h]
  exact Ls (.nilsl _ _)
 ·rw [if_neg h]
  simp -implicitDefEqProofs -proj only [go_sem,seval,decide_eq_false h]
  refine An (fun bs hs=>?_)
  replace hs:upd Heap.none b6 _ bs=none:=hs
  obtain ⟨n1,n2⟩:=AH hs AQ
  simp -implicitDefEqProofs -proj only [go_sem,seval,n1,n2]
  refine Ls (SH (xs:=Fg [⟨lo,hi,v⟩]) (by rw [AE (by assumption),AQ]; rfl) rfl RT)
abbrev JT (l:List Run):List (List AV):=l.map fun r=>[r.avU]
theorem PU {l:List Run} {i:Nat} (h:i<l.length):(Fg l)[((i:Int)).toNat]? = some [.int .i64 l[i].f,.int .i64 l[i].t,.int .u64 l[i].v]:=Mn h
theorem ALa {b:Nat} {l:List Run} (hl:l.length≤1000000):Iu Tryz.prog N0 [.ptr b 0] [(b,.box 72 [HC l])] (JT l):=by
 intro y H J X hA hS hY h0
 refine Aa AQX (by simp) ?_
 have hb:H b=some (.box 72 [HC l]):=(hA [] H h0).1
 simp -implicitDefEqProofs -proj only [go_sem,seval,hb,rowU_len]
 refine L7 (fun x:Nat×Heap=>x.1≤l.length∧J (JT (l.take x.1)) x.2) (fun x=>⟨16,E6 [(0,.yld y),(5,HC l),(6,i64 l.length),(7,i64 x.1)],x.2⟩) (fun x=>l.length-x.1) (0,H) ⟨Nat.zero_le _,h0⟩ (Hn rfl ?_ (fun k=>.inr rfl)) ?_
 ·simp -implicitDefEqProofs -proj only [go_sem,seval,AL]
 rintro ⟨i,H1⟩ ⟨hi,hj⟩
 simp -implicitDefEqProofs only [] at hi hj
 by_cases h:i<l.length
 ·have hel:=PU h
  have hxs:JT l=JT (l.take i)++[(l[i]).avU]::JT (l.drop (i+1)):=by
   rw [←List.map_cons (f:=fun r:Run=>[r.avU]),←List.map_append,←List.drop_eq_getElem_cons h,List.take_append_drop]
  have htk:JT (l.take i)++[[(l[i]).avU]]=JT (l.take (i+1)):=by simp -implicitDefEqProofs only [JT]; rw [List.take_succ_eq_append_getElem h,List.map_append]; rfl
  generalize l[i]=r at *
  simp -implicitDefEqProofs -proj only [go_sem,seval,decide_eq_true (show (i:Int)<l.length by omega)]
  refine Ah _ (by omega) hel ?_
  simp -implicitDefEqProofs -proj only [go_sem,seval]
  refine AK (fun b4 hb4=>?_)
  simp -implicitDefEqProofs -proj only [go_sem,seval]
  refine LO (hY _ _ _ _ hxs (hS _ _ b4 _ hj hb4)) ?_
  rintro v H2 (⟨rfl,hj2⟩ | ⟨rfl,hx⟩)
  ·rw [htk] at hj2
   simp -implicitDefEqProofs -proj only [go_sem,seval]
   refine KU (i+1,H2) ⟨by show i+1≤l.length; omega,hj2⟩ (by show l.length-(i+1)<l.length-i; omega) (Hn rfl ?_ (fun k=>.inr rfl))
   simp -implicitDefEqProofs -proj only [go_sem,seval,AL,AP (show i<9223372036854775807 by omega)]
  ·simp -implicitDefEqProofs -proj only [go_sem,seval]
   exact .inr hx
 ·have hi':i=l.length:=by omega
  subst hi'
  rw [List.take_length] at hj
  simp -implicitDefEqProofs -proj only [go_sem,seval,decide_eq_false (show ¬(l.length:Int)<l.length by omega)]
  exact .inl hj
theorem AEC {H:Heap} {l:List Run}:CallW Tryz.prog ADl [HC l] H fun r H'=>∃b,r = .fn N0 [.ptr b 0]∧H b=none∧H'=upd H b (some (.box 72 [HC l])):=by
 refine Aa AIA (by simp) ?_
 simp -implicitDefEqProofs -proj only [go_sem,seval]
 refine AK (fun b hb=>?_)
 simp -implicitDefEqProofs -proj only [go_sem,seval]
 exact ⟨b,rfl,hb,rfl⟩
theorem ABV {H:Heap} {l:List Run}:CallW Tryz.prog AFS [IT l] H fun r H'=>∃b,r = .fn N0 [.ptr b 0]∧H b=none∧H' b=some (.box 72 [HC l])∧∀k x,H k=some x→H' k=some x:=by
 refine Aa ANs (by simp) ?_
 simp -implicitDefEqProofs -proj only [go_sem,seval]
 refine AK (fun b1 hb1=>?_)
 simp -implicitDefEqProofs -proj only [go_sem,seval]
 refine Ex AEC ?_
 rintro r H' ⟨b,rfl,hb,rfl⟩
 simp -implicitDefEqProofs -proj only [go_sem,seval]
 have hb':upd H b1 (some (.box 74 [HC l])) b=none:=hb
 have hne:¬b1=b:=fun e=>by rw [AX,if_pos e] at hb'; cases hb'
 refine ⟨b,rfl,by rw [AE hne] at hb'; exact hb',by rw [if_pos rfl],fun k x hk=>?_⟩
 rw [AE hne] at hb'
 obtain ⟨n1,n2⟩:=AH hb1 hk
 obtain ⟨n3,n4⟩:=AH hb' hk
 simp -implicitDefEqProofs -proj only [go_sem,seval,n1,n3,hk]
def Md:List Run→AV
 | []=>.tup [i64 0,i64 0,bv false]
 | r::R=>.tup [i64 r.f,i64 ((r::R).getLast (by simp)).t,bv true]
theorem AFO {R:List Run} (hl:R.length≤1000000):DataW Tryz.prog AP1 [IT R] (Md R):=by
 refine Aa AVU (by simp) ?_
 simp -implicitDefEqProofs -proj only [go_sem,seval]
 refine AK (fun b hb=>?_)
 by_cases h:R=[]
 ·subst h
  simp -implicitDefEqProofs -proj only [go_sem,seval,rowU_len]
  exact AI rfl
 ·have hlen:0<R.length:=List.length_pos_iff.2 h
  have hw:IntKind.i64.wrap ((R.length:Int)-1)=((R.length-1:Nat):Int):=by rw [IntKind.wrap_i64]; omega
  have e0:=PU (l:=R) (i:=0) hlen
  have e1:=PU (l:=R) (i:=R.length-1) (by omega)
  simp -implicitDefEqProofs -proj only [go_sem,seval,rowU_len,decide_eq_false (show ¬(R.length:Int)=0 by omega),hw]
  refine Ah _ (by omega) e0 ?_
  simp -implicitDefEqProofs -proj only [go_sem,seval,rowU_len,hw]
  refine Ah _ (by omega) e1 ?_
  simp -implicitDefEqProofs -proj only [go_sem,seval]
  obtain ⟨r,R',rfl⟩:=List.exists_cons_of_ne_nil h
  refine AI ?_
  simp [Md,List.getLast_eq_getElem]
theorem M3 {a:Nat} (h:a<18446744073709551616):(BitVec.ofInt 64 (a:Int)).toNat=a:=by
 rw [BitVec.toNat_ofInt]
 have:(a:Int) % ((2 ^ 64:Nat):Int)=a:=Int.emod_eq_of_lt (by omega) (by simp; omega)
 rw [this,Int.toNat_natCast]
theorem K9 {a b:Nat} (ha:a<18446744073709551616) (hb:b<18446744073709551616):Hp .u64 (a:Int) (b:Int)=((a ||| b:Nat):Int):=by
 have h:a ||| b<2 ^ 64:=Nat.or_lt_two_pow (by simpa using ha) (by simpa using hb)
 rw [Hp,IntKind.wrap_u64,show IntKind.u64.bits=64 from rfl,BitVec.toNat_or,M3 ha,M3 hb]
 have:a ||| b<18446744073709551616:=by simpa using h
 omega
theorem AEj {a b:Nat} (ha:a<18446744073709551616) (hb:b<18446744073709551616):Ij .u64 (a:Int) (b:Int)=((a &&& b:Nat):Int):=by
 have h:a &&& b≤a:=Nat.and_le_left
 rw [Ij,IntKind.wrap_u64,show IntKind.u64.bits=64 from rfl,BitVec.toNat_and,M3 ha,M3 hb]
 omega
def HM (i:Int):Nat:=if 0≤i∧i<8 then 2 ^ i.toNat else 0
def IJ (i:Int):Nat:=if 0≤i∧i<8 then 256*2 ^ i.toNat else 0
theorem Qm {i:Int}:DataW Tryz.prog AUm [i64 i,i64 8] (u64 (HM i:Nat)):=by
 refine Aa AQ3 (by simp) ?_
 by_cases g1:i<0
 ·simp -implicitDefEqProofs -proj only [go_sem,seval,decide_eq_true g1]
  exact AI (by rw [HM,if_neg (by omega)]; rfl)
 by_cases g2:8≤i
 ·simp -implicitDefEqProofs -proj only [go_sem,seval,decide_eq_false g1,decide_eq_true g2]
  exact AI (by rw [HM,if_neg (by omega)]; rfl)
 simp -implicitDefEqProofs -proj only [go_sem,seval,decide_eq_false g1,decide_eq_false g2]
 (repeat' (with_reducible refine Af ?_ (fun h=>?_); (focus first | decide | omega); clear h; try simp -implicitDefEqProofs -proj only [go_sem,seval,eq_self]))
 refine AI ?_
 obtain h | h | h | h | h | h | h | h:i=0∨i=1∨i=2∨i=3∨i=4∨i=5∨i=6∨i=7:=by omega
 all_goals subst h; rfl
theorem SO {i:Int}:DataW Tryz.prog AJP [i64 i] (u64 (HM i:Nat)):=by
 refine Aa AIB (by simp) ?_
 simp -implicitDefEqProofs -proj only [go_sem,seval]
 refine AJ Qm ?_
 simp -implicitDefEqProofs -proj only [go_sem,seval]
 exact AI rfl
theorem So {i:Int}:DataW Tryz.prog AYi [i64 i] (u64 (IJ i:Nat)):=by
 refine Aa AIc (by simp) ?_
 simp -implicitDefEqProofs -proj only [go_sem,seval]
 refine AJ Qm ?_
 simp -implicitDefEqProofs -proj only [go_sem,seval]
 (repeat' (with_reducible refine Af ?_ (fun h=>?_); (focus first | decide | omega); clear h; try simp -implicitDefEqProofs -proj only [go_sem,seval,eq_self]))
 refine AI ?_
 unfold HM IJ
 by_cases h8:0≤i∧i<8
 ·rw [if_pos h8,if_pos h8]
  obtain h | h | h | h | h | h | h | h:i=0∨i=1∨i=2∨i=3∨i=4∨i=5∨i=6∨i=7:=by omega
  all_goals subst h; rfl
 ·rw [if_neg h8,if_neg h8]
  rfl
theorem Sq {a b:Int}:DataW Tryz.prog Yo [u64 a,u64 b] (bv (decide (Ij .u64 a b=b))):=by
 refine Aa AAI (by simp) ?_
 simp -implicitDefEqProofs -proj only [go_sem,seval]
 exact AI rfl
theorem AQO (u v:Int):DataW Tryz.prog T9 [u64 u,u64 v] (u64 (Hp .u64 u v)):=by
 refine Aa AJQ (by simp) ?_
 simp -implicitDefEqProofs -proj only [go_sem,seval]
 exact AI rfl
theorem FwdOK.len {val:Int→Int} {hi:Int}:∀{R:List Run} {lo:Int},FwdOK val lo hi R→(R.length:Int)≤hi-lo
 | [],lo,h=>by have:lo=hi:=h; simp; omega
 | r::R,lo,⟨g1,g2,g3,g4,g5⟩=>by
  have:=g5.len
  simp -implicitDefEqProofs only [List.length_cons]
  omega
theorem FwdOK.ne {val:Int→Int} {hi:Int} {R:List Run} {lo:Int} (h:FwdOK val lo hi R) (hl:lo<hi):R≠[]:=by
 rintro rfl
 have:lo=hi:=h
 omega
theorem AD2 {val:Int→Int} {hi:Int} {R:List Run} {lo:Int} (h:FwdOK val lo (hi+1) R) (hl:lo≤hi):Md R = .tup [i64 lo,i64 hi,bv true]:=by
 have hne:=h.ne (by omega)
 obtain ⟨e1,e2⟩:=FwdOK.ends hne h
 match R,hne,e1,e2 with
 | r::R,_,e1,e2 =>
  rw [Md]
  rw [show r.f=lo from e1,e2,show hi+1-1=hi by omega]
theorem Qd {v lo hi:Int} (h:lo≤hi):FwdOK (fun _=>v) lo (hi+1) [⟨lo,hi,v⟩] :=
 ⟨rfl,h,fun _ _ _=>rfl,fun s h=>(by cases h),rfl⟩
def Ir (val:Int→Int) (a b more:Int):Int→Int:=fun x=>Hp .u64 (val x) (if a≤x∧x≤b then more else 0)
theorem Ss {val:Int→Int} {f h a b more:Int} {R:List Run} (hR:FwdOK val f (h+1) R) (hfh:f≤h) (hf : -1099511627776≤f) (hh:h≤1099511627776) (hn:h-f≤100000) (ha : -1099511627776≤a∧a≤1099511627776) (hb : -1099511627776≤b∧b≤1099511627776) :
  ∃R',DataW Tryz.prog ADQ [IT R,i64 a,i64 b,u64 more] (IT R')∧FwdOK (Ir val a b more) f (h+1) R':=by
 have hl:=hR.len
 have hfl:=Qd (v:=0) hfh
 have hfill:=Ql hfl (lo:=a) (hi:=b) (v:=more) 1 (by simp)
 rw [PE (by simp)] at hfill
 have hz:=QW hR hfill (Hp .u64) (R.length+(GK a b more [⟨f,h,0⟩] 1).length) 0 0 [] (by omega) (by rw [JM hR,JM hfill]; rfl) (by rw [JM hR,JM hfill]; exact .inl rfl)
 rw [show max f f=f by omega,show max f (min (h+1) (h+1))=h+1 by omega] at hz
 have hsp:=AFO (R:=R) (by omega)
 rw [AD2 hR hfh] at hsp
 have hflat:=(SJ (lo:=f) (hi:=h) (v:=0)).data
 rw [if_neg (by omega)] at hflat
 have hfi:=(ALD (l:=[⟨f,h,0⟩]) (lo:=a) (hi:=b) (v:=more) (by simp) ha hb (fun r hr=>by rw [List.mem_singleton] at hr; subst hr; exact ⟨hf,hh,hfh⟩)).data
 have hfln:=PJ (lo:=a) (hi:=b) (v:=more) (l:=[⟨f,h,0⟩]) 1
 have hzip:=(AU0 (a:=R) (b:=GK a b more [⟨f,h,0⟩] 1) (g:=Hp .u64) AQO (by omega) (by omega)).data
 refine ⟨_,?_,hz⟩
 generalize E1 (Hp .u64) R (GK a b more [⟨f,h,0⟩] 1) (R.length+(GK a b more [⟨f,h,0⟩] 1).length) 0 0 []=Z at *
 rw [show ([⟨f,h,0⟩]:List Run).length=1 from rfl] at hfi
 generalize GK a b more [⟨f,h,0⟩] 1=F at *
 refine Aa AD5 (by simp) ?_
 simp -implicitDefEqProofs -proj only [go_sem,seval]
 refine AK (fun b4 hb4=>?_)
 simp -implicitDefEqProofs -proj only [go_sem,seval]
 refine AK (fun b8 hb8=>?_)
 replace hb8:upd Heap.none b4 _ b8=none:=hb8
 obtain ⟨n1,n2⟩:=AH hb8 AQ
 simp -implicitDefEqProofs -proj only [go_sem,seval,n1,n2]
 refine AJ hsp ?_
 simp -implicitDefEqProofs -proj only [go_sem,seval]
 refine AJ hflat ?_
 simp -implicitDefEqProofs -proj only [go_sem,seval]
 refine AJ hfi ?_
 simp -implicitDefEqProofs -proj only [go_sem,seval]
 refine AK (fun b12 hb12=>?_)
 replace hb12:upd (upd Heap.none b4 _) b8 _ b12=none:=hb12
 obtain ⟨n3,n4⟩:=AH hb12 AQ
 obtain ⟨n5,n6⟩:=AH hb12 (by rw [AE n1]; exact AQ)
 simp -implicitDefEqProofs -proj only [go_sem,seval,n1,n2,n3,n4,n5,n6]
 refine AJ hzip ?_
 simp -implicitDefEqProofs -proj only [go_sem,seval,n1,n2,n3,n4,n5,n6]
 exact AI rfl
def Fm (ss:List SumX) (d:Int):Nat→Nat
 | 0=>0
 | i+1=>Fm ss d i ||| (match ss[i]? with | some s=>if s.f≤d∧d≤s.t then 2 ^ i else 0 | none=>0)
def Fv (ss:List SumX) (ps:List PartX) (d:Int):Nat→Nat
 | 0=>Fm ss d ss.length
 | i+1=>Fv ss ps d i ||| (match ps[i]? with | some s=>if s.f≤d∧d≤s.t then 256*2 ^ i else 0 | none=>0)
def FI (c:CoreX) (d:Int):Nat:=Fv c.ss c.ps d c.ps.length
theorem Mo {ss:List SumX} {d:Int}:∀i:Nat,Fm ss d i<2 ^ i
 | 0=>by simp [Fm]
 | i+1=>by
  have h:=Mo (ss:=ss) (d:=d) i
  have hp:2 ^ i<2 ^ (i+1):=Nat.pow_lt_pow_right (by omega) (by omega)
  rw [Fm]
  refine Nat.or_lt_two_pow (by omega) ?_
  split
  ·split <;> omega
  ·omega
theorem Mm {ss:List SumX} {ps:List PartX} {d:Int} (h8:ss.length≤8):∀i:Nat,Fv ss ps d i<2 ^ (8+i)
 | 0=>by
  have h:=Mo (ss:=ss) (d:=d) ss.length
  have:2 ^ ss.length≤2 ^ 8:=Nat.pow_le_pow_right (by omega) h8
  rw [Fv]
  show _<2 ^ 8
  omega
 | i+1=>by
  have h:=Mm (ps:=ps) (d:=d) h8 i
  have hp:2 ^ (8+i)<2 ^ (8+i+1):=Nat.pow_lt_pow_right (by omega) (by omega)
  have he:256*2 ^ i=2 ^ (8+i):=by rw [Nat.pow_add]
  rw [Fv]
  refine Nat.or_lt_two_pow (by show _<2 ^ (8+i+1); omega) ?_
  show _<2 ^ (8+i+1)
  split
  ·split
   ·rw [he]; exact hp
   ·exact Nat.two_pow_pos _
  ·exact Nat.two_pow_pos _
theorem M5 {i:Nat} (h:i≤8):2 ^ i≤256:=Nat.pow_le_pow_right (n:=2) (by omega) h
theorem T5 {i:Nat} (h:i≤8):2 ^ (8+i)≤65536:=Nat.pow_le_pow_right (show 0<2 by omega) (show 8+i≤16 by omega)
theorem AXT {i:Nat} (h:i<8):IntKind.u64.wrap (1*2 ^ (if i≤64 then i else 64))=((2 ^ i:Nat):Int):=by
 obtain h | h | h | h | h | h | h | h:i=0∨i=1∨i=2∨i=3∨i=4∨i=5∨i=6∨i=7:=by omega
 all_goals subst h; rfl
theorem AXe {i:Nat} (h:i<8):IntKind.u64.wrap (256*2 ^ (if i≤64 then i else 64))=((256*2 ^ i:Nat):Int):=by
 obtain h | h | h | h | h | h | h | h:i=0∨i=1∨i=2∨i=3∨i=4∨i=5∨i=6∨i=7:=by omega
 all_goals subst h; rfl
theorem ATC {i:Nat} (h:i<8):HM (i:Int)=2 ^ i:=by unfold HM; rw [if_pos (by omega),Int.toNat_natCast]
theorem ADN {i:Nat} (h:i<8):IJ (i:Int)=256*2 ^ i:=by unfold IJ; rw [if_pos (by omega),Int.toNat_natCast]
theorem Rc {ss:List SumX} {i:Nat} (h:i<ss.length) (h8:ss.length≤8):(fun d=>((Fm ss d (i+1):Nat):Int))=Ir (fun d=>((Fm ss d i:Nat):Int)) ss[i].f ss[i].t ((HM (i:Int):Nat):Int):=by
 funext d
 have h1:=Mo (ss:=ss) (d:=d) i
 have h2:=M5 (i:=i) (by omega)
 rw [Ir,Fm,List.getElem?_eq_getElem h,ATC (by omega)]
 simp -implicitDefEqProofs only []
 by_cases hd:ss[i].f≤d∧d≤ss[i].t
 ·rw [if_pos hd,if_pos hd,K9 (by omega) (by omega)]
 ·rw [if_neg hd,if_neg hd,show (0:Int)=((0:Nat):Int) from rfl,K9 (by omega) (by omega)]
theorem RS {ss:List SumX} {ps:List PartX} {i:Nat} (h:i<ps.length) (h8:ss.length≤8) (h9:ps.length≤8):(fun d=>((Fv ss ps d (i+1):Nat):Int))=Ir (fun d=>((Fv ss ps d i:Nat):Int)) ps[i].f ps[i].t ((IJ (i:Int):Nat):Int):=by
 funext d
 have h1:=Mm (ps:=ps) (d:=d) h8 i
 have h2:=T5 (i:=i) (by omega)
 have h3:=M5 (i:=i) (by omega)
 rw [Ir,Fv,List.getElem?_eq_getElem h,ADN (by omega)]
 simp -implicitDefEqProofs only []
 by_cases hd:ps[i].f≤d∧d≤ps[i].t
 ·rw [if_pos hd,if_pos hd,K9 (by omega) (by omega)]
 ·rw [if_neg hd,if_neg hd,show (0:Int)=((0:Nat):Int) from rfl,K9 (by omega) (by omega)]
def JK (c:CoreX):List Int:=(List.range (c.t+1-c.f).toNat).map fun (i:Nat)=>((FI c (c.f+i):Nat):Int)
def Hl (c:CoreX):List Run:=Az c.f (JK c)
theorem M8 {c:CoreX}:(JK c).length=(c.t+1-c.f).toNat:=by simp [JK]
theorem ACo {c:CoreX} {R:List Run} (h:FwdOK (fun d=>((FI c d:Nat):Int)) c.f (c.t+1) R) (hft:c.f≤c.t):R=Hl c:=by
 refine Pr (val:=fun d=>((FI c d:Nat):Int)) ?_ fun i hi=>?_
 ·rw [M8,show c.f+(((c.t+1-c.f).toNat:Nat):Int)=c.t+1 by omega]
  exact h
 ·simp [JK]
structure HX where
 i:Nat
 R:List Run
theorem IH {i:Nat} {R:List Run}:(HX.mk i R).i=i:=(rfl)
theorem Id {i:Nat} {R:List Run}:(HX.mk i R).R=R:=(rfl)
def Ja (b1 b2 b3:Nat) (c:CoreX) (R:List Run):List (Nat×Blk):=[(b3,.box 74 [HC R]),(b2,.box 74 [.nilsl 3]),(b1,BJ c)]
set_option maxRecDepth 20000 in
theorem ATy {c:CoreX} (hc:c.Fit) (hg:goodC c):DataW Tryz.prog AF1 [GV c] (IT (Hl c)):=by
 have hgood:=TS hc
 rw [decide_eq_true hg] at hgood
 obtain ⟨⟨a1,a2⟩,⟨a3,a4⟩,a5,a6,a7,a8⟩:=hg.hd
 have hss:=hg.ss
 have hps:=hg.ps
 have heq:=@ACo c
 generalize Hl c=Z at *
 obtain ⟨cur,f,t,ms,ss,ps⟩:=c
 simp -implicitDefEqProofs only [] at a1 a2 a3 a4 a5 a6 a7 a8 hss hps heq
 unfold FI at heq
 simp -implicitDefEqProofs only [] at heq
 have hflat:=(SJ (lo:=f) (hi:=t) (v:=0)).data
 rw [if_neg (by omega)] at hflat
 have hfl:FwdOK (fun d=>((Fm ss d 0:Nat):Int)) f (t+1) [⟨f,t,0⟩]:=Qd a3
 refine Aa ASC (by simp) ?_
 simp -implicitDefEqProofs -proj only [go_sem,seval]
 refine AK (fun b1 hb1=>?_)
 simp -implicitDefEqProofs -proj only [go_sem,seval]
 refine AK (fun b2 hb2=>?_)
 replace hb2:upd Heap.none b1 _ b2=none:=hb2
 obtain ⟨n1,n2⟩:=AH hb2 AQ
 simp -implicitDefEqProofs -proj only [go_sem,seval,n1,n2]
 refine AJ hgood ?_
 simp -implicitDefEqProofs -proj only [go_sem,seval,n1,n2]
 refine AJ hflat ?_
 simp -implicitDefEqProofs -proj only [go_sem,seval,n1,n2]
 refine AK (fun b3 hb3=>?_)
 replace hb3:upd (upd Heap.none b1 _) b2 _ b3=none:=hb3
 obtain ⟨n3,n4⟩:=AH hb3 AQ
 obtain ⟨n5,n6⟩:=AH hb3 (by rw [AE n1]; exact AQ)
 simp -implicitDefEqProofs -proj only [go_sem,seval,n1,n2,n3,n4,n5,n6,Fo]
 have hnd:∀R,(AN (Ja b1 b2 b3 ⟨cur,f,t,ms,ss,ps⟩ R)).Nodup:=fun R=>by simp [AN,Ja,n1,n3,n5]
 refine BE (fun y:HX=>y.i≤ss.length∧FwdOK (fun d=>((Fm ss d y.i:Nat):Int)) f (t+1) y.R) 52 (fun y=>[(1,.ptr b1 0),(2,.ptr b2 0),(3,.ptr b3 0),(18,.d (.sl 3 (Eu ss))),(19,i64 ss.length),(20,i64 y.i)]) (fun y=>Ja b1 b2 b3 ⟨cur,f,t,ms,ss,ps⟩ y.R) (fun y=>ss.length-y.i) ⟨0,[⟨f,t,0⟩]⟩ ⟨Nat.zero_le _,hfl⟩ rfl ?_ ?_ ?_
 ·simp -implicitDefEqProofs -proj only [go_sem,seval,AL,IH]
 ·simp -implicitDefEqProofs -proj only [go_sem,seval,AU,Ja,Id,n1,n2,n3,n4,n5,n6]
 ·rintro ⟨i,R⟩ ⟨hi,hR⟩
  simp -implicitDefEqProofs only [IH,Id] at hi hR
  have hall:=EQ (hnd R)
  obtain ⟨H,hH⟩:∃H,Ae (Ja b1 b2 b3 ⟨cur,f,t,ms,ss,ps⟩ R)=H:=⟨_,rfl⟩
  rw [hH] at hall
  obtain ⟨k3,k2,k1,_⟩:=id hall
  by_cases h:i<ss.length
  ·have hel:=KB h
   have hso:=hss _ (List.getElem_mem h)
   obtain ⟨R',hw,hR'⟩:=Ss (a:=ss[i].f) (b:=ss[i].t) (more:=((HM (i:Int):Nat):Int)) hR a3 (by omega) (by omega) (by omega) (by obtain ⟨_,q1,q2,q3⟩:=hso; omega) (by obtain ⟨_,q1,q2,q3⟩:=hso; omega)
   rw [←Rc h a7] at hR'
   generalize ss[i]=s at *
   simp -implicitDefEqProofs -proj only [go_sem,seval,IH,Id,hH,decide_eq_true (show (i:Int)<ss.length by omega)]
   refine Ah _ (by omega) hel ?_
   simp -implicitDefEqProofs -proj only [go_sem,seval]
   refine AK (fun b5 hb5=>?_)
   replace hb5:H b5=none:=hb5
   obtain ⟨m1,m2⟩:=AH hb5 k3; obtain ⟨m3,m4⟩:=AH hb5 k2; obtain ⟨m5,m6⟩:=AH hb5 k1
   simp -implicitDefEqProofs -proj only [go_sem,seval,m1,m2,k3]
   refine EW SO ?_
   simp -implicitDefEqProofs -proj only [go_sem,seval,m1,m2,k3]
   refine AJ hw ?_
   simp -implicitDefEqProofs -proj only [go_sem,seval,m1,m2,k3]
   refine AZ ⟨i+1,R'⟩ ⟨by rw [IH]; omega,hR'⟩ (by show ss.length-(i+1)<ss.length-i; omega) rfl ?_ ?_
   ·simp -implicitDefEqProofs -proj only [go_sem,seval,AL,IH,Id,AP (show i<9223372036854775807 by omega)]
   ·simp -implicitDefEqProofs -proj only [go_sem,seval,AU,Ja,Id,m1,m2,m3,m4,m5,m6,k1,k2,n1,n2,n3,n4,n5,n6]
  ·have hi':i=ss.length:=by omega
   subst hi'
   have hR0:FwdOK (fun d=>((Fv ss ps d 0:Nat):Int)) f (t+1) R:=hR
   simp -implicitDefEqProofs -proj only [go_sem,seval,IH,Id,hH,k1,FU,decide_eq_false (show ¬(ss.length:Int)<ss.length by omega)]
   refine BE (fun y:HX=>y.i≤ps.length∧FwdOK (fun d=>((Fv ss ps d y.i:Nat):Int)) f (t+1) y.R) 52 (fun y=>[(1,.ptr b1 0),(2,.ptr b2 0),(3,.ptr b3 0),(35,.d (.sl 9 (Ec ps))),(36,i64 ps.length),(37,i64 y.i)]) (fun y=>Ja b1 b2 b3 ⟨cur,f,t,ms,ss,ps⟩ y.R) (fun y=>ps.length-y.i) ⟨0,R⟩ ⟨Nat.zero_le _,hR0⟩ rfl ?_ ?_ ?_
   ·simp -implicitDefEqProofs -proj only [go_sem,seval,AL,IH]
   ·exact hall
   ·rintro ⟨i,R⟩ ⟨hi,hR⟩
    simp -implicitDefEqProofs only [IH,Id] at hi hR
    have hall:=EQ (hnd R)
    obtain ⟨H,hH⟩:∃H,Ae (Ja b1 b2 b3 ⟨cur,f,t,ms,ss,ps⟩ R)=H:=⟨_,rfl⟩
    rw [hH] at hall
    obtain ⟨k3,k2,k1,_⟩:=id hall
    by_cases h:i<ps.length
    ·have hel:=Iz h
     have hso:=(hps _ (List.getElem_mem h)).1.2.2.1
     obtain ⟨R',hw,hR'⟩:=Ss (a:=ps[i].f) (b:=ps[i].t) (more:=((IJ (i:Int):Nat):Int)) hR a3 (by omega) (by omega) (by omega) (by omega) (by omega)
     rw [←RS h a7 a8] at hR'
     generalize ps[i]=s at *
     simp -implicitDefEqProofs -proj only [go_sem,seval,IH,Id,hH,decide_eq_true (show (i:Int)<ps.length by omega)]
     refine Ah _ (by omega) hel ?_
     simp -implicitDefEqProofs -proj only [go_sem,seval]
     refine AK (fun b5 hb5=>?_)
     replace hb5:H b5=none:=hb5
     obtain ⟨m1,m2⟩:=AH hb5 k3; obtain ⟨m3,m4⟩:=AH hb5 k2; obtain ⟨m5,m6⟩:=AH hb5 k1
     simp -implicitDefEqProofs -proj only [go_sem,seval,m1,m2,k3]
     refine EW So ?_
     simp -implicitDefEqProofs -proj only [go_sem,seval,m1,m2,k3]
     refine AJ hw ?_
     simp -implicitDefEqProofs -proj only [go_sem,seval,m1,m2,k3]
     refine AZ ⟨i+1,R'⟩ ⟨by rw [IH]; omega,hR'⟩ (by show ps.length-(i+1)<ps.length-i; omega) rfl ?_ ?_
     ·simp -implicitDefEqProofs -proj only [go_sem,seval,AL,IH,Id,AP (show i<9223372036854775807 by omega)]
     ·simp -implicitDefEqProofs -proj only [go_sem,seval,AU,Ja,Id,m1,m2,m3,m4,m5,m6,k1,k2,n1,n2,n3,n4,n5,n6]
    ·have hi':i=ps.length:=by omega
     subst hi'
     have hz:=heq hR a3
     subst hz
     simp -implicitDefEqProofs -proj only [go_sem,seval,IH,Id,hH,k1,k2,k3,n1,n2,n3,n4,n5,n6,decide_eq_false (show ¬(ps.length:Int)<ps.length by omega)]
     exact AI rfl
theorem AYN {c:CoreX} {day:Int} (h7:c.ss.length≤8) (h8:c.ps.length≤8):DataW Tryz.prog AB3 [GV c,i64 day] (u64 ((FI c day:Nat):Int)):=by
 obtain ⟨cur,f,t,ms,ss,ps⟩:=c
 simp -implicitDefEqProofs only [] at h7 h8
 unfold FI
 simp -implicitDefEqProofs only []
 refine Aa V7 (by simp) ?_
 simp -implicitDefEqProofs -proj only [go_sem,seval]
 refine AK (fun b2 hb2=>?_)
 simp -implicitDefEqProofs -proj only [go_sem,seval,Fo]
 refine BE (fun i:Nat=>i≤ss.length) 59 (fun i=>[(1,i64 day),(2,.ptr b2 0),(5,u64 ((Fm ss day i:Nat):Int)),(11,.d (.sl 3 (Eu ss))),(12,i64 ss.length),(13,i64 i)]) (fun _=>[(b2,BJ ⟨cur,f,t,ms,ss,ps⟩)]) (fun i=>ss.length-i) 0 (Nat.zero_le _) rfl ?_ ?_ ?_
 ·simp -implicitDefEqProofs -proj only [go_sem,seval,AL,Fm]
  try rfl
 ·simp -implicitDefEqProofs -proj only [go_sem,seval,AU]
 ·rintro i hi
  have hk:AU (Ae [(b2,BJ ⟨cur,f,t,ms,ss,ps⟩)]) [(b2,BJ ⟨cur,f,t,ms,ss,ps⟩)]:=EQ (by simp [AN])
  have k2:=hk.1
  by_cases h:i<ss.length
  ·have hel:=KB h
   have h1:=Mo (ss:=ss) (d:=day) i
   have h2:=M5 (i:=i) (by omega)
   have hstep:Fm ss day (i+1)=Fm ss day i ||| (if ss[i].f≤day∧day≤ss[i].t then 2 ^ i else 0):=by rw [Fm,List.getElem?_eq_getElem h]
   have hw1:IntKind.u64.wrap (i:Int)=i:=by rw [IntKind.wrap_u64]; omega
   have hw2:=AXT (i:=i) (by omega)
   have hor:Hp .u64 ((Fm ss day i:Nat):Int) ((2 ^ i:Nat):Int)=((Fm ss day i ||| 2 ^ i:Nat):Int):=K9 (by omega) (by omega)
   generalize ss[i]=s at *
   generalize Fm ss day i=A at *
   generalize hpw:2 ^ i=p at *
   simp -implicitDefEqProofs -proj only [go_sem,seval,decide_eq_true (show (i:Int)<ss.length by omega)]
   refine Ah _ (by omega) hel ?_
   simp -implicitDefEqProofs -proj only [go_sem,seval]
   refine AK (fun b5 hb5=>?_)
   replace hb5:Ae [(b2,BJ ⟨cur,f,t,ms,ss,ps⟩)] b5=none:=hb5
   obtain ⟨m1,m2⟩:=AH hb5 k2
   by_cases c1:s.f≤day
   ·by_cases c2:day≤s.t
    ·rw [if_pos ⟨c1,c2⟩] at hstep
     simp -implicitDefEqProofs -proj only [go_sem,seval,m1,m2,decide_eq_true c1,decide_eq_true c2,hw1,Int.toNat_natCast,hw2,hor]
     (repeat' (with_reducible refine Af ?_ (fun h=>?_); (focus first | decide | omega); clear h; try simp -implicitDefEqProofs -proj only [go_sem,seval,Int.toNat_natCast,hw1,hw2,hor]))
     refine AZ (i+1) (by omega) (by show ss.length-(i+1)<ss.length-i; omega) rfl ?_ (Ak hb5 hk)
     simp -implicitDefEqProofs -proj only [go_sem,seval,AL,hstep,AP (show i<9223372036854775807 by omega)]
    ·rw [if_neg (fun k=>c2 k.2),Nat.or_zero] at hstep
     simp -implicitDefEqProofs -proj only [go_sem,seval,m1,m2,decide_eq_true c1,decide_eq_false c2]
     refine AZ (i+1) (by omega) (by show ss.length-(i+1)<ss.length-i; omega) rfl ?_ (Ak hb5 hk)
     simp -implicitDefEqProofs -proj only [go_sem,seval,AL,hstep,AP (show i<9223372036854775807 by omega)]
   ·rw [if_neg (fun k=>c1 k.1),Nat.or_zero] at hstep
    simp -implicitDefEqProofs -proj only [go_sem,seval,m1,m2,decide_eq_false c1]
    refine AZ (i+1) (by omega) (by show ss.length-(i+1)<ss.length-i; omega) rfl ?_ (Ak hb5 hk)
    simp -implicitDefEqProofs -proj only [go_sem,seval,AL,hstep,AP (show i<9223372036854775807 by omega)]
  ·have hi':i=ss.length:=by omega
   subst hi'
   simp -implicitDefEqProofs -proj only [go_sem,seval,k2,FU,decide_eq_false (show ¬(ss.length:Int)<ss.length by omega)]
   refine BE (fun i:Nat=>i≤ps.length) 59 (fun i=>[(1,i64 day),(5,u64 ((Fv ss ps day i:Nat):Int)),(35,.d (.sl 9 (Ec ps))),(36,i64 ps.length),(37,i64 i)]) (fun _=>[(b2,BJ ⟨cur,f,t,ms,ss,ps⟩)]) (fun i=>ps.length-i) 0 (Nat.zero_le _) rfl ?_ ?_ ?_
   ·simp -implicitDefEqProofs -proj only [go_sem,seval,AL,Fv]
    try rfl
   ·exact hk
   ·rintro i hi
    have k2:=hk.1
    by_cases h:i<ps.length
    ·have hel:=Iz h
     have h1:=Mm (ps:=ps) (d:=day) h7 i
     have h2:=T5 (i:=i) (by omega)
     have hstep:Fv ss ps day (i+1)=Fv ss ps day i ||| (if ps[i].f≤day∧day≤ps[i].t then 256*2 ^ i else 0):=by rw [Fv,List.getElem?_eq_getElem h]
     have hw1:IntKind.u64.wrap (i:Int)=i:=by rw [IntKind.wrap_u64]; omega
     have hw2:=AXe (i:=i) (by omega)
     have hp8:=M5 (i:=i) (by omega)
     have hor:Hp .u64 ((Fv ss ps day i:Nat):Int) ((256*2 ^ i:Nat):Int)=((Fv ss ps day i ||| 256*2 ^ i:Nat):Int):=K9 (by omega) (by omega)
     generalize ps[i]=s at *
     generalize Fv ss ps day i=A at *
     generalize hpw:256*2 ^ i=p at *
     simp -implicitDefEqProofs -proj only [go_sem,seval,decide_eq_true (show (i:Int)<ps.length by omega)]
     refine Ah _ (by omega) hel ?_
     simp -implicitDefEqProofs -proj only [go_sem,seval]
     refine AK (fun b5 hb5=>?_)
     replace hb5:Ae [(b2,BJ ⟨cur,f,t,ms,ss,ps⟩)] b5=none:=hb5
     obtain ⟨m1,m2⟩:=AH hb5 k2
     by_cases c1:s.f≤day
     ·by_cases c2:day≤s.t
      ·rw [if_pos ⟨c1,c2⟩] at hstep
       simp -implicitDefEqProofs -proj only [go_sem,seval,m1,m2,decide_eq_true c1,decide_eq_true c2,hw1,Int.toNat_natCast,hw2,hor]
       (repeat' (with_reducible refine Af ?_ (fun h=>?_); (focus first | decide | omega); clear h; try simp -implicitDefEqProofs -proj only [go_sem,seval,Int.toNat_natCast,hw1,hw2,hor]))
       refine AZ (i+1) (by omega) (by show ps.length-(i+1)<ps.length-i; omega) rfl ?_ (Ak hb5 hk)
       simp -implicitDefEqProofs -proj only [go_sem,seval,AL,hstep,AP (show i<9223372036854775807 by omega)]
      ·rw [if_neg (fun k=>c2 k.2),Nat.or_zero] at hstep
       simp -implicitDefEqProofs -proj only [go_sem,seval,m1,m2,decide_eq_true c1,decide_eq_false c2]
       refine AZ (i+1) (by omega) (by show ps.length-(i+1)<ps.length-i; omega) rfl ?_ (Ak hb5 hk)
       simp -implicitDefEqProofs -proj only [go_sem,seval,AL,hstep,AP (show i<9223372036854775807 by omega)]
     ·rw [if_neg (fun k=>c1 k.1),Nat.or_zero] at hstep
      simp -implicitDefEqProofs -proj only [go_sem,seval,m1,m2,decide_eq_false c1]
      refine AZ (i+1) (by omega) (by show ps.length-(i+1)<ps.length-i; omega) rfl ?_ (Ak hb5 hk)
      simp -implicitDefEqProofs -proj only [go_sem,seval,AL,hstep,AP (show i<9223372036854775807 by omega)]
    ·have hi':i=ps.length:=by omega
     subst hi'
     simp -implicitDefEqProofs -proj only [go_sem,seval,decide_eq_false (show ¬(ps.length:Int)<ps.length by omega)]
     exact AI rfl
theorem L6 {c:CoreX} (hft:c.f≤c.t):FwdOK (fun d=>((FI c d:Nat):Int)) c.f (c.t+1) (Hl c):=by
 have h:=Ib c.f (JK c)
 rw [M8,show c.f+(((c.t+1-c.f).toNat:Nat):Int)=c.t+1 by omega] at h
 refine h.congr fun x h1 h2=>?_
 unfold HO
 rw [List.getD_eq_getElem?_getD,List.getElem?_eq_getElem (by rw [M8]; omega)]
 simp -implicitDefEqProofs only [JK,List.getElem_map,List.getElem_range,Option.getD_some]
 rw [show c.f+(((x-c.f).toNat:Nat):Int)=x by omega]
def Eq (val:Int→Int) (f:Int):Nat→List Int
 | 0=>[]
 | i+1=>if val (f+1+i)=val (f+i) then Eq val f i else Eq val f i++[f+1+i]
theorem R0 {val val':Int→Int} {f:Int}:∀{n:Nat},(∀i:Nat,i≤n→val (f+i)=val' (f+i))→Eq val f n=Eq val' f n
 | 0,_=>rfl
 | n+1,h=>by
  rw [Eq,Eq,R0 (n:=n) (fun i hi=>h i (by omega))]
  have h1:=h n (by omega)
  have h2:=h (n+1) (by omega)
  rw [show f+((n+1:Nat):Int)=f+1+n by omega] at h2
  rw [h1,h2]
theorem Th {f:Int} {l:List Int}:∀{i:Nat},i<l.length→(F6 f l (i+1)).map (·.f)=f::Eq (HO f l) f i
 | 0,h=>by simp [F6,A5,Eq]
 | i+1,h=>by
  have ih:=Th (i:=i) (f:=f) (l:=l) (by omega)
  obtain ⟨q,h1,h2,h3⟩:=Rm (f:=f) (l:=l) (i:=i)
  have hne:F6 f l (i+1)≠[]:=fun e=>by rw [e] at h1; simp at h1
  have hv:HO f l (f+i)=q.v:=by unfold HO; rw [h2,show (f+(i:Int)-f).toNat=i by omega]
  have hv2:HO f l (f+1+i)=l.getD (i+1) 0:=by unfold HO; rw [show (f+1+(i:Int)-f).toNat=i+1 by omega]
  rw [F6,Eq,hv,hv2]
  generalize F6 f l (i+1)=R at *
  rw [A5,h1]
  simp -implicitDefEqProofs only []
  by_cases he:q.v=l.getD (i+1) 0
  ·rw [if_pos he,if_pos he.symm,←ih]
   obtain ⟨dl,hd⟩:=List.getLast?_eq_some_iff.1 h1
   subst hd
   simp
  ·rw [if_neg he,if_neg (fun e=>he e.symm),List.map_append,ih]
   simp -implicitDefEqProofs only [List.map_cons,List.map_nil,List.cons_append]
   rw [show f+((i+1:Nat):Int)=f+1+i by omega]
theorem ABg {c:CoreX} (hft:c.f≤c.t):(Hl c).map (·.f)=c.f::Eq (fun d=>((FI c d:Nat):Int)) c.f (c.t-c.f).toNat:=by
 have hl:=@M8 c
 have h:=Th (f:=c.f) (l:=JK c) (i:=(c.t-c.f).toNat) (by omega)
 unfold Hl Az
 rw [show (JK c).length=(c.t-c.f).toNat+1 by omega,h]
 congr 1
 refine R0 fun i hi=>?_
 unfold HO
 rw [show (c.f+(i:Int)-c.f).toNat=i by omega,List.getD_eq_getElem?_getD,List.getElem?_eq_getElem (by omega)]
 simp [JK]
theorem T7 {val:Int→Int} {f a b m:Int}:∀n:Nat,(Eq (Ir val a b m) f n).length≤(Eq val f n).length+(if a≤f+n then 1 else 0)+(if b<f+n then 1 else 0)
 | 0=>by simp [Eq]
 | n+1=>by
  have ih:=T7 (val:=val) (f:=f) (a:=a) (b:=b) (m:=m) n
  rw [Eq,Eq]
  have e:f+((n+1:Nat):Int)=f+1+n:=by omega
  rw [e]
  by_cases h1:Ir val a b m (f+1+n)=Ir val a b m (f+n)
  ·rw [if_pos h1]
   split <;> (try rw [List.length_append,List.length_singleton]) <;> split <;> split <;> split at ih <;> split at ih <;> omega
  ·rw [if_neg h1,List.length_append,List.length_singleton]
   by_cases h2:val (f+1+n)=val (f+n)
   ·rw [if_pos h2]
    have h3:(if a≤f+1+n∧f+1+n≤b then m else 0)≠(if a≤f+n∧f+n≤b then m else 0):=fun k=>h1 (by unfold Ir; rw [h2,k])
    have h4:¬(a≤f+1+n∧f+1+n≤b∧a≤f+n∧f+n≤b):=fun k=>h3 (by rw [if_pos ⟨k.1,k.2.1⟩,if_pos ⟨k.2.2.1,k.2.2.2⟩])
    have h5:¬(¬(a≤f+1+n∧f+1+n≤b)∧¬(a≤f+n∧f+n≤b)):=fun k=>h3 (by rw [if_neg k.1,if_neg k.2])
    split <;> split <;> split at ih <;> split at ih <;> omega
   ·rw [if_neg h2,List.length_append,List.length_singleton]
    split <;> split <;> split at ih <;> split at ih <;> omega
theorem QP {val:Int→Int} {f a b m:Int} (n:Nat):(Eq (Ir val a b m) f n).length≤(Eq val f n).length+2:=by
 have:=T7 (val:=val) (f:=f) (a:=a) (b:=b) (m:=m) n
 split at this <;> split at this <;> omega
theorem Qa {v f:Int}:∀n:Nat,Eq (fun _=>v) f n=[]
 | 0=>rfl
 | n+1=>by rw [Eq,if_pos rfl,Qa]
theorem Sv {ss:List SumX} {f:Int} {n:Nat} (h8:ss.length≤8):∀i:Nat,i≤ss.length→(Eq (fun d=>((Fm ss d i:Nat):Int)) f n).length≤2*i
 | 0,_=>by
  show (Eq (fun _=>((0:Nat):Int)) f n).length≤0
  rw [Qa]; simp
 | i+1,h=>by
  have ih:=Sv (ss:=ss) (f:=f) (n:=n) h8 i (by omega)
  rw [Rc (by omega) h8]
  have:=QP (val:=fun d=>((Fm ss d i:Nat):Int)) (f:=f) (a:=(ss[i]'(by omega)).f) (b:=(ss[i]'(by omega)).t) (m:=((HM (i:Int):Nat):Int)) n
  omega
theorem TC {ss:List SumX} {ps:List PartX} {f:Int} {n:Nat} (h8:ss.length≤8) (h9:ps.length≤8):∀i:Nat,i≤ps.length→(Eq (fun d=>((Fv ss ps d i:Nat):Int)) f n).length≤2*(ss.length+i)
 | 0,_=>Sv h8 ss.length (Nat.le_refl _)
 | i+1,h=>by
  have ih:=TC (ss:=ss) (ps:=ps) (f:=f) (n:=n) h8 h9 i (by omega)
  rw [RS (by omega) h8 h9]
  have:=QP (val:=fun d=>((Fv ss ps d i:Nat):Int)) (f:=f) (a:=(ps[i]'(by omega)).f) (b:=(ps[i]'(by omega)).t) (m:=((IJ (i:Int):Nat):Int)) n
  omega
theorem AIN {c:CoreX} (h8:c.ss.length≤8) (h9:c.ps.length≤8) (n:Nat):(Eq (fun d=>((FI c d:Nat):Int)) c.f n).length≤2*(c.ss.length+c.ps.length):=TC h8 h9 c.ps.length (Nat.le_refl _)
theorem KK {c:CoreX} {d:Int} {m:Nat} {mx:Int}:(Gx c d m mx).length=(mx+1).toNat:=by simp [Gx]
theorem Z6 {c:CoreX} {d:Int} {m:Nat} {mx:Int} {q:Nat} (h:q<(mx+1).toNat):(Gx c d m mx)[q]'(by rw [KK]; exact h)=IR c d m q:=by simp [Gx]
theorem Hq {c:CoreX} {d:Int} {k:Nat}:(Eb c d k).length=k:=by simp [Eb]
theorem Sz {c:CoreX} {d:Int} {k m:Nat} (h:m<k) (hm:m<c.ms.length):(Eb c d k)[m]'(by rw [Hq]; exact h)=Gx c d m c.ms[m].mx:=by
 simp [Eb,hm]
theorem ARS {c:CoreX} {d:Int} {k:Nat} (hm:k<c.ms.length):Eb c d (k+1)=Eb c d k++[Gx c d k c.ms[k].mx]:=by
 simp [Eb,List.range_succ,hm]
theorem QQ {c:CoreX} (h:fitsC c) (d:Int) {m:Nat} (hm:m<c.ms.length):BN (Gx c d m c.ms[m].mx):=by
 have hb:=(fitsC.bnd h.good).mx m hm
 refine ⟨fun e=>?_,by rw [KK]; omega,fun v hv=>?_⟩
 ·have:=congrArg List.length e
  rw [KK] at this
  simp at this
  omega
 ·obtain ⟨q,hq,rfl⟩:=List.mem_map.1 hv
  have hq:=List.mem_range.1 hq
  have:=O3 h d hm (q:=q) (by omega) (by omega) (Nat.le_refl c.ps.length)
  unfold E0 IR
  omega
theorem LF {c:CoreX} (h:fitsC c) (d:Int):∀l∈Eb c d c.ms.length,BN l:=by
 intro l hl
 obtain ⟨i,hi,rfl⟩:=List.getElem_of_mem hl
 rw [Hq] at hi
 rw [Sz hi hi]
 exact QQ h d hi
theorem Mf {i k:Nat}:(2 ^ i).testBit k=decide (k=i):=by
 rw [Nat.testBit_two_pow]
 exact decide_eq_decide.2 eq_comm
theorem AM0 {i k:Nat}:(256*2 ^ i).testBit k=decide (k=8+i):=by
 rw [show 256*2 ^ i=2 ^ (8+i) by rw [Nat.pow_add],Mf]
theorem O6 {ss:List SumX} {d:Int} {k:Nat}:∀{i:Nat},i≤ss.length→((Fm ss d i).testBit k=true↔k<i∧∃s,ss[k]? = some s∧EV d s.f s.t)
 | 0,_=>by simp [Fm]
 | i+1,h=>by
  have ih:=O6 (ss:=ss) (d:=d) (k:=k) (i:=i) (by omega)
  rw [Fm,Nat.testBit_or,Bool.or_eq_true,ih,List.getElem?_eq_getElem (show i<ss.length by omega)]
  simp -implicitDefEqProofs only []
  by_cases hd:ss[i].f≤d∧d≤ss[i].t
  ·rw [if_pos hd,Mf,decide_eq_true_eq]
   constructor
   ·rintro (⟨h1,h2⟩ | rfl)
    ·exact ⟨by omega,h2⟩
    ·exact ⟨by omega,_,List.getElem?_eq_getElem (by omega),hd⟩
   ·rintro ⟨h1,h2⟩
    by_cases hk:k=i
    ·exact .inr hk
    ·exact .inl ⟨by omega,h2⟩
  ·rw [if_neg hd]
   simp -implicitDefEqProofs only [Nat.zero_testBit,Bool.false_eq_true,or_false]
   constructor
   ·rintro ⟨h1,h2⟩; exact ⟨by omega,h2⟩
   ·rintro ⟨h1,s,h2,h3⟩
    refine ⟨?_,s,h2,h3⟩
    by_cases hk:k=i
    ·subst hk
     rw [List.getElem?_eq_getElem (by omega)] at h2
     rw [←Option.some.inj h2] at h3
     exact absurd h3 hd
    ·omega
theorem Og {ss:List SumX} {ps:List PartX} {d:Int} {k:Nat}:∀{i:Nat},i≤ps.length→((Fv ss ps d i).testBit k=true↔(Fm ss d ss.length).testBit k=true∨8≤k∧k<8+i∧∃s,ps[k-8]? = some s∧EV d s.f s.t)
 | 0,_=>by
  rw [Fv]
  exact ⟨.inl,fun h=>h.elim id (fun k=>absurd k.2.1 (by omega))⟩
 | i+1,h=>by
  have ih:=Og (ss:=ss) (ps:=ps) (d:=d) (k:=k) (i:=i) (by omega)
  rw [Fv,Nat.testBit_or,Bool.or_eq_true,ih,List.getElem?_eq_getElem (show i<ps.length by omega)]
  simp -implicitDefEqProofs only []
  by_cases hd:ps[i].f≤d∧d≤ps[i].t
  ·rw [if_pos hd,AM0,decide_eq_true_eq]
   constructor
   ·rintro ((h1 | ⟨h1,h2,h3⟩) | rfl)
    ·exact .inl h1
    ·exact .inr ⟨h1,by omega,h3⟩
    ·exact .inr ⟨by omega,by omega,_,by rw [show 8+i-8=i by omega]; exact List.getElem?_eq_getElem (by omega),hd⟩
   ·rintro (h1 | ⟨h1,h2,h3⟩)
    ·exact .inl (.inl h1)
    ·by_cases hk:k=8+i
     ·exact .inr hk
     ·exact .inl (.inr ⟨h1,by omega,h3⟩)
  ·rw [if_neg hd]
   simp -implicitDefEqProofs only [Nat.zero_testBit,Bool.false_eq_true,or_false]
   constructor
   ·rintro (h1 | ⟨h1,h2,h3⟩)
    ·exact .inl h1
    ·exact .inr ⟨h1,by omega,h3⟩
   ·rintro (h1 | ⟨h1,h2,s,h3,h4⟩)
    ·exact .inl h1
    ·refine .inr ⟨h1,?_,s,h3,h4⟩
     by_cases hk:k=8+i
     ·subst hk
      rw [show 8+i-8=i by omega,List.getElem?_eq_getElem (by omega)] at h3
      rw [←Option.some.inj h3] at h4
      exact absurd h4 hd
     ·omega
theorem PD {c:CoreX} {d:Int} {j:Nat} (h8:c.ss.length≤8) (hj:j<c.ss.length):((FI c d).testBit j=true↔EV d c.ss[j].f c.ss[j].t):=by
 unfold FI
 rw [Og (Nat.le_refl _),O6 (Nat.le_refl _)]
 constructor
 ·rintro (⟨_,s,h2,h3⟩ | ⟨h1,_⟩)
  ·rw [List.getElem?_eq_getElem hj] at h2
   cases h2
   exact h3
  ·omega
 ·intro h
  exact .inl ⟨hj,_,List.getElem?_eq_getElem hj,h⟩
theorem OR {c:CoreX} {d:Int} {j:Nat} (h8:c.ss.length≤8) (hj:j<c.ps.length):((FI c d).testBit (8+j)=true↔EV d c.ps[j].f c.ps[j].t):=by
 unfold FI
 rw [Og (Nat.le_refl _),O6 (Nat.le_refl _),show 8+j-8=j by omega,List.getElem?_eq_getElem hj]
 constructor
 ·rintro (⟨h1,_⟩ | ⟨_,_,s,h2,h3⟩)
  ·omega
  ·cases h2; exact h3
 ·intro h
  exact .inr ⟨by omega,by omega,_,rfl,h⟩
theorem AVY {c:CoreX} {d e:Int} (h8:c.ss.length≤8) (h:FI c d=FI c e):Ed c d=Ed c e:=by
 have h1:∀(j:Nat) (hj:j<c.ss.length),EV d c.ss[j].f c.ss[j].t↔EV e c.ss[j].f c.ss[j].t:=fun j hj=>by rw [←PD h8 hj,←PD h8 hj,h]
 have h2:∀(j:Nat) (hj:j<c.ps.length),EV d c.ps[j].f c.ps[j].t↔EV e c.ps[j].f c.ps[j].t:=fun j hj=>by rw [←OR h8 hj,←OR h8 hj,h]
 have e1:FP c d=FP c e:=JA fun j hj=>by
  unfold FT
  rw [List.getElem?_eq_getElem hj]
  simp -implicitDefEqProofs only [h1 j hj]
 have e2:∀m,FH c d m=FH c e m:=fun m=>JA fun j hj=>by
  unfold E5
  rw [List.getElem?_eq_getElem hj]
  simp -implicitDefEqProofs only [h2 j hj]
 have e3:∀m q,IR c d m q=IR c e m q:=fun m q=>JA fun j hj=>by
  unfold FM
  rw [List.getElem?_eq_getElem hj]
  simp -implicitDefEqProofs only [h2 j hj]
 unfold Ed IE Eb Gx
 simp -implicitDefEqProofs only [e1,e3,show FH c d=FH c e from funext e2]
theorem Mb {c:CoreX} (h8:c.ss.length≤8):∀d e,c.f≤d→d<c.t+1→c.f≤e→e<c.t+1→((FI c d:Nat):Int)=((FI c e:Nat):Int)→Ed c d=Ed c e :=
 fun d e _ _ _ _ h=>AVY h8 (by omega)
def Lf (x:PartX) (mx:Int):List Int:=(List.range (mx+1).toNat).map fun q:Nat=>pv x q
def GR (x:PartX) (mx:Int):List Int:=(List.range (mx+1).toNat).map fun q:Nat=>pv x q-pv x 0
theorem VJ {x:PartX} {mx:Int}:(Lf x mx).map (· + -(pv x 0))=GR x mx:=by
 simp -implicitDefEqProofs only [Lf,GR,List.map_map]
 rfl
def Kx (b3 b4:Nat) (x:PartX) (l:List Int) (y:BackY):List (Nat×Blk):=Au 3 1 y.c y.cap (AY (l.take y.i))++[(b4,.box 51 [i64 0,.nilsl 5]),(b3,.box 40 [i64 x.me,i64 x.f,i64 x.t,i64 x.al,i64 x.bl,i64 x.ki,EX x.ts,i64 x.mo,Ej x.ad])]
set_option maxRecDepth 20000 in
set_option maxHeartbeats 4000000 in
theorem AUb {c:CoreX} (hc:c.Fit) (hf:fitsC c) {x:PartX} (hx:x∈c.ps):DataW Tryz.prog XR [GV c,Gd x] (.tup [Em (GR x (Ea c.ms x.me)),i64 (pv x 0),bv true]):=by
 obtain ⟨m1,m2⟩:=(fitsC.bnd hf.good).me x hx
 have hmi:x.me.toNat<c.ms.length:=by omega
 have hmx:=(fitsC.bnd hf.good).mx x.me.toNat hmi
 have hmxe:Ea c.ms x.me=c.ms[x.me.toNat].mx:=by
  unfold Ea; rw [List.getElem?_eq_getElem hmi]
 have hG:=MM (hf.good.ps x hx)
 have hfx:=hc.ps x hx
 have helM:=HS hmi
 have hcall:∀q:Nat,q<(Ea c.ms x.me+1).toNat→DataW Tryz.prog SL [Gd x,i64 q] (.tup [i64 (pv x q),bv true]):=fun q hq=>by
  have hb:=Ii hf hx (q:=q) (by omega) (by omega)
  have:=AK7 (q:=(q:Int)) hfx (by unfold Fit; omega) hG (MG hG.ts)
  rwa [hb.1] at this
 have hbnd:∀q:Nat,q<(Ea c.ms x.me+1).toNat→0≤pv x q∧pv x q≤1152921504606846976:=fun q hq=>by
  have hb:=Ii hf hx (q:=q) (by omega) (by omega)
  exact ⟨hb.2.1,hb.2.2.2⟩
 obtain ⟨n,hn⟩:∃n:Nat,n=(Ea c.ms x.me+1).toNat:=⟨_,rfl⟩
 have hn1:c.ms[x.me.toNat].mx+1=n:=by rw [hn,hmxe]; omega
 have hn0:0<n:=by omega
 have hn2:n≤2001:=by omega
 rw [←hn] at hcall hbnd
 obtain ⟨l,hl⟩:∃l,Lf x (Ea c.ms x.me)=l:=⟨_,rfl⟩
 have hll:l.length=n:=by rw [←hl]; simp [Lf,hn]
 have hlv:∀(q:Nat) (h:q<l.length),l[q]=pv x q:=fun q h=>by subst hl; simp [Lf]
 have cl:BN l:=by
  refine ⟨fun e=>by rw [e] at hll; simp at hll; omega,by omega,fun v hv=>?_⟩
  obtain ⟨q,hq,rfl⟩:=List.mem_iff_getElem.1 hv
  have:=hbnd q (by omega)
  rw [hlv q hq]; unfold E0; omega
 have p0:=hbnd 0 hn0
 rw [show ((0:Nat):Int)=0 from rfl] at p0
 have cm:BN (l.map (· + -(pv x 0))):=by
  refine ⟨fun e=>cl.1 (List.map_eq_nil_iff.1 e),by rw [List.length_map]; omega,fun v hv=>?_⟩
  obtain ⟨u,hu,rfl⟩:=List.mem_map.1 hv
  obtain ⟨q,hq,rfl⟩:=List.mem_iff_getElem.1 hu
  have:=hbnd q (by omega)
  show E0 (l[q] + -pv x 0)
  rw [hlv q hq]; unfold E0; omega
 have hsh:=AYz (d:=-(pv x 0)) cl (by unfold E0; omega)
 rw [if_pos cm] at hsh
 rw [←VJ,hl]
 have hof:=Sg (from':=0) (l:=l) (by omega) (by omega)
 have hcu:=MR (l:=l) (by omega)
 rw [if_pos cl] at hcu
 have hne:l≠[]:=cl.1
 have hfst:(AY l)[0]? = some [.int .i64 (pv x 0)]:=by
  have h0:0<l.length:=by omega
  have e0:=hlv 0 h0
  rw [show ((0:Nat):Int)=0 from rfl] at e0
  rw [←e0]; simp [AY,h0]
 have hwn:IntKind.i64.wrap (0-pv x 0) = -pv x 0:=by rw [IntKind.wrap_i64]; omega
 have hw1:IntKind.i64.wrap (c.ms[x.me.toNat].mx+1)=n:=by rw [hn1,IntKind.wrap_i64]; omega
 generalize ES l=GL at *
 generalize ES (l.map (· + -pv x 0))=GM at *
 refine Aa AV3 (by simp) ?_
 simp -implicitDefEqProofs -proj only [go_sem,seval]
 refine AK (fun b2 hb2=>?_)
 simp -implicitDefEqProofs -proj only [go_sem,seval]
 refine AK (fun b3 hb3=>?_)
 replace hb3:upd Heap.none b2 _ b3=none:=hb3
 obtain ⟨n1,n2⟩:=AH hb3 AQ
 simp -implicitDefEqProofs -proj only [go_sem,seval,n1,n2]
 refine AK (fun b4 hb4=>?_)
 replace hb4:upd (upd Heap.none b2 _) b3 _ b4=none:=hb4
 obtain ⟨n3,n4⟩:=AH hb4 AQ
 obtain ⟨n5,n6⟩:=AH hb4 (by rw [AE n1]; exact AQ)
 simp -implicitDefEqProofs -proj only [go_sem,seval,n1,n2,n3,n4,n5,n6]
 refine Ah _ m1 (by rw [←Int.toNat_of_nonneg m1]; exact helM) ?_
 simp -implicitDefEqProofs -proj only [go_sem,seval,n1,n2,n3,n4,n5,n6,hw1]
 refine BE (fun y:BackY=>y.i≤l.length∧(AN (Kx b3 b4 x l y)).Nodup) 63 (fun y=>[(3,.ptr b3 0),(4,.ptr b4 0),(7,BU 0 1 y.c y.cap (AY (l.take y.i))),(22,i64 n),(23,i64 y.i)]) (Kx b3 b4 x l) (fun y=>l.length-y.i) ⟨0,0,0⟩ ⟨Nat.zero_le _,by simp [Kx,Au,AY,AN,n3]⟩ rfl ?_ ?_ ?_
 ·simp -implicitDefEqProofs -proj only [go_sem,seval,AL,GO,G9,Gu]
  try rfl
 ·simp -implicitDefEqProofs only [Kx,GO,G9,Gu,List.take_zero]
  simp -implicitDefEqProofs -proj only [go_sem,seval,AU,n1,n2,n3,n4,n5,n6,AY,List.map_nil,Au]
 ·rintro ⟨i,cc,cap⟩ ⟨hi,hnd⟩
  simp -implicitDefEqProofs only [GO] at hi
  have hall:=EQ hnd
  obtain ⟨H,hH⟩:∃H,Ae (Kx b3 b4 x l ⟨i,cc,cap⟩)=H:=⟨_,rfl⟩
  rw [hH] at hall
  simp -implicitDefEqProofs only [Kx,GO,G9,Gu] at hall hnd
  obtain ⟨hrow,e4,e3,_⟩:=BI.1 hall
  by_cases hlt:i<l.length
  ·have hat:=hcall i (by omega)
   rw [←hlv i hlt] at hat
   have htk:l.take (i+1)=l.take i++[l[i]]:=List.take_succ_eq_append_getElem hlt
   have hl1:(AY (l.take i)).length=i:=by rw [rowI_len,List.length_take]; omega
   have hl2:(AY (l.take (i+1))).length=i+1:=by rw [rowI_len,List.length_take]; omega
   have hne2:AY (l.take (i+1))≠[]:=by intro e; rw [e] at hl2; simp at hl2
   generalize l[i]=v at *
   simp -implicitDefEqProofs -proj only [go_sem,seval,GO,G9,Gu,hH,e3,decide_eq_true (show (i:Int)<n by omega)]
   refine AJ hat ?_
   simp -implicitDefEqProofs -proj only [go_sem,seval]
   refine An (fun bs hs'=>?_)
   replace hs':H bs=none:=hs'
   simp -implicitDefEqProofs -proj only [go_sem,seval]
   refine FL (xs:=AY (l.take i)) (y:=[.int .i64 v]) (t:=3) (capc:=1) [(b4,.box 51 [i64 0,.nilsl 5]),(b3,.box 40 [i64 x.me,i64 x.f,i64 x.t,i64 x.al,i64 x.bl,i64 x.ki,EX x.ts,i64 x.mo,Ej x.ad])] rfl (Ak hs' hall) hnd (by simp -implicitDefEqProofs -proj only [go_sem,seval]) (by rw [hl1]; omega) (by rw [hl1]; omega) (fun H' c' cap' ha hk=>?_)
   rw [show AY (l.take i)++[[.int .i64 v]]=AY (l.take (i+1)) by rw [htk]; simp [AY]] at ha hk
   simp -implicitDefEqProofs -proj only [go_sem,seval]
   refine AZ ⟨i+1,c',cap'⟩ ⟨by show i+1≤l.length; omega,hk⟩ (by show l.length-(i+1)<l.length-i; omega) rfl ?_ ha
   simp -implicitDefEqProofs -proj only [go_sem,seval,AL,GO,G9,Gu,AP (show i<9223372036854775807 by omega),ET hne2,hl1,hl2]
  ·have hi':i=l.length:=by omega
   subst hi'
   rw [List.take_length] at hrow hnd
   have hneI:AY l≠[]:=by intro e; have:=congrArg List.length e; rw [rowI_len,List.length_nil] at this; omega
   have hrc:H cc=some (.row 3 1 cap (AY l)):=by
    rw [FE hneI] at hrow
    exact hrow.1
   obtain ⟨x1,x2⟩:¬cc=b4∧¬b4=cc:=by
    rw [FE hneI] at hnd
    simp -implicitDefEqProofs only [AN,List.map_append,List.map_cons,List.map_nil,List.cons_append,List.nil_append,List.nodup_cons,List.mem_cons,not_or] at hnd
    exact ⟨hnd.1.1,fun e=>hnd.1.1 e.symm⟩
   simp -implicitDefEqProofs -proj only [go_sem,seval,GO,G9,Gu,hH,decide_eq_false (show ¬(l.length:Int)<n by omega),List.take_length,ET hneI,rowI_len]
   refine Lr hof (Gb (.refl _) (Gb (KX hrc rowI_len.symm) IO)) ?_
   simp -implicitDefEqProofs -proj only [go_sem,seval]
   refine AJ hcu.data ?_
   simp -implicitDefEqProofs -proj only [go_sem,seval]
   refine AK (fun b11 hb11=>?_)
   replace hb11:H b11=none:=hb11
   obtain ⟨y1,y2⟩:=AH hb11 hrc
   obtain ⟨y3,y4⟩:=AH hb11 e4
   simp -implicitDefEqProofs -proj only [go_sem,seval,y1,y2,y3,y4,hrc]
   (repeat' (with_reducible refine Af ?_ (fun h=>?_); (focus first | decide | omega); clear h; try simp -implicitDefEqProofs -proj only [go_sem,seval,eq_self,y1,y2,y3,y4,hrc]))
   refine BB _ hfst (by simp) ?_
   simp -implicitDefEqProofs -proj only [go_sem,seval,y1,y2,y3,y4,hrc,hwn]
   refine EW hsh ?_
   simp -implicitDefEqProofs -proj only [go_sem,seval,y1,y2,y3,y4,hrc]
   refine AK (fun b13 hb13=>?_)
   simp -implicitDefEqProofs only [AX,y1,y2,y3,y4,↓reduceIte] at hb13
   have z11:¬b11=b13:=fun e=>by subst e; simp [y1,y2,y3,y4] at hb13
   have hb13':H b13=none:=by
    simp -implicitDefEqProofs only [z11,↓reduceIte] at hb13
    exact hb13
   obtain ⟨z1,z2⟩:=AH hb13' hrc
   obtain ⟨z3,z4⟩:=AH hb13' e4
   have z11':¬b13=b11:=fun e=>z11 e.symm
   simp -implicitDefEqProofs -proj only [go_sem,seval,y1,y2,y3,y4,hrc,z1,z2,z3,z4,z11,z11',x1,x2]
   (repeat' (with_reducible refine Af ?_ (fun h=>?_); (focus first | decide | omega); clear h; try simp -implicitDefEqProofs -proj only [go_sem,seval,eq_self,y1,y2,y3,y4,hrc,z1,z2,z3,z4,z11,z11',x1,x2,e4]))
   refine BB _ hfst (by simp) ?_
   simp -implicitDefEqProofs -proj only [go_sem,seval,y1,y2,y3,y4,hrc,z1,z2,z3,z4,z11,z11',x1,x2,e4]
   (repeat' (with_reducible refine Af ?_ (fun h=>?_); (focus first | decide | omega); clear h; try simp -implicitDefEqProofs -proj only [go_sem,seval,eq_self,y1,y2,y3,y4,hrc,z1,z2,z3,z4,z11,z11',x1,x2,e4]))
   exact AI rfl
def HE (ps:List PartX) (d:Int) (b:List Int) (j:Nat):Int:=match ps[j]? with
 | some x=>if EV d x.f x.t then pv x (bq b x.me) else 0
 | none=>0
def J9 (c:CoreX) (d:Int) (b:List Int):Int:=FP c d+sg (HE c.ps d b) c.ps.length
theorem Sl {l:List Int} {x:Int}:(l++[x]).sum=l.sum+x:=by simp
theorem Q3 {ss:List SumX} {d:Int}:∀i:Nat,(G5 ss d i).sum=sg (FT ss d) i
 | 0=>rfl
 | i+1=>by
  have ih:=Q3 (ss:=ss) (d:=d) i
  rw [G5,sg,FT]
  cases e:ss[i]? with
  | none=>simp -implicitDefEqProofs only []; omega
  | some s =>
   simp -implicitDefEqProofs only []
   split
   ·rw [Sl]; omega
   ·omega
theorem S8 {ss:List SumX} {ps:List PartX} {d:Int} {b:List Int}:∀(i:Nat) (l:List Int),Fh ss ps d b i=some l→l.sum=sg (FT ss d) ss.length+sg (HE ps d b) i
 | 0,l,h=>by
  rw [Fh] at h
  cases h
  rw [Q3]; simp [sg]
 | i+1,l,h=>by
  rw [Fh] at h
  rw [sg,HE]
  cases e:Fh ss ps d b i with
  | none=>rw [e] at h; cases h
  | some m =>
   have ih:=S8 i m e
   rw [e] at h
   cases e2:ps[i]? with
   | none=>rw [e2] at h; cases h; simp -implicitDefEqProofs only []; omega
   | some x =>
    rw [e2] at h
    simp -implicitDefEqProofs only [] at h ⊢
    by_cases hw:EV d x.f x.t
    ·rw [if_pos hw] at h ⊢
     cases e3:GW x (bq b x.me) with
     | none=>rw [e3] at h; cases h
     | some n =>
      rw [e3] at h
      cases h
      have:pv x (bq b x.me)=n:=by unfold pv; rw [e3]; rfl
      rw [Sl,this]; omega
    ·rw [if_neg hw] at h ⊢
     cases h
     omega
theorem TE {c:CoreX} {d:Int} {m:Nat}:IR c d m 0=0:=by
 unfold IR
 have h:sg (FM c.ps d m 0) c.ps.length=sg (fun _=>0) c.ps.length:=JA fun j _=>by
  unfold FM
  split
  ·split
   ·exact Int.sub_self _
   ·rfl
  ·rfl
 rw [h,Lo]
theorem ANZ {c:CoreX} (hme:∀x∈c.ps,0≤x.me∧x.me<(c.ms.length:Int)) (d:Int) (b:List Int):J9 c d b=IE c d+sg (fun m=>IR c d m (bq b m)) c.ms.length:=by
 unfold J9 IE
 have h1:sg (fun m=>IR c d m (bq b m)) c.ms.length=sg (fun j=>sg (fun m=>FM c.ps d m (bq b m) j) c.ms.length) c.ps.length:=by
  unfold IR
  exact PK (g:=fun m j=>FM c.ps d m (bq b m) j) c.ps.length
 have h2:sg (FH c d) c.ms.length=sg (fun j=>sg (fun m=>E5 c.ps d m j) c.ms.length) c.ps.length:=by
  unfold FH
  exact PK (g:=fun m j=>E5 c.ps d m j) c.ps.length
 have h3:sg (HE c.ps d b) c.ps.length=sg (fun j=>sg (fun m=>E5 c.ps d m j) c.ms.length+sg (fun m=>FM c.ps d m (bq b m) j) c.ms.length) c.ps.length:=by
  refine JA fun j hj=>?_
  rw [←NK]
  unfold HE E5 FM
  rw [List.getElem?_eq_getElem hj]
  simp -implicitDefEqProofs only []
  obtain ⟨k1,k2⟩:=hme _ (List.getElem_mem hj)
  generalize c.ps[j]=x at *
  by_cases hw:EV d x.f x.t
  ·rw [if_pos hw]
   have:sg (fun m:Nat=>(if x.me=(m:Int)∧EV d x.f x.t then pv x 0 else 0)+(if x.me=(m:Int)∧EV d x.f x.t then pv x (bq b m)-pv x 0 else 0)) c.ms.length=sg (fun m:Nat=>if m=x.me.toNat then pv x (bq b x.me) else 0) c.ms.length:=by
    refine JA fun m hm=>?_
    by_cases e:x.me=(m:Int)
    ·rw [if_pos ⟨e,hw⟩,if_pos ⟨e,hw⟩,if_pos (by omega),←e]; omega
    ·rw [if_neg (fun k=>e k.1),if_neg (fun k=>e k.1),if_neg (by omega)]; rfl
   rw [this,Sc,if_pos (by omega)]
  ·rw [if_neg hw]
   have h0:sg (fun m:Nat=>(if x.me=(m:Int)∧EV d x.f x.t then pv x 0 else 0)+(if x.me=(m:Int)∧EV d x.f x.t then pv x (bq b m)-pv x 0 else 0)) c.ms.length=sg (fun _=>0) c.ms.length:=JA fun m hm=>by
    rw [if_neg (fun k=>hw k.2),if_neg (fun k=>hw k.2)]; rfl
   rw [h0,Lo]
 rw [h3,NK,←h1,←h2]
 omega
theorem Sp {n:Nat} {m:Nat}:bq (List.replicate n 0) (m:Int)=0:=by
 unfold bq
 rw [Int.toNat_natCast,List.getD_eq_getElem?_getD,List.getElem?_replicate]
 split <;> rfl
theorem Qh {c:CoreX} (hme:∀x∈c.ps,0≤x.me∧x.me<(c.ms.length:Int)) (d:Int) (n:Nat):J9 c d (List.replicate n 0)=IE c d:=by
 rw [ANZ hme,show sg (fun m:Nat=>IR c d m (bq (List.replicate n 0) m)) c.ms.length=sg (fun _=>0) c.ms.length from JA fun m _=>by rw [Sp,TE],Lo]
 omega
theorem Q7:∀{l:List Int} {a:Int},(∀v∈l,0≤v)→0≤a→a+l.sum≤9223372036854775807→IM a l=some (a+l.sum)
 | [],a,_,_,_=>by simp [IM]
 | x::l,a,h,h1,h2=>by
  have hx:=h x (List.mem_cons_self ..)
  have hs:0≤l.sum:=by
   have:∀l:List Int,(∀v∈l,0≤v)→0≤l.sum:=by
    intro l
    induction l with
    | nil=>intro _; simp
    | cons y l ih =>
     intro hl
     have:=ih fun v hv=>hl v (List.mem_cons_of_mem _ hv)
     have:=hl y (List.mem_cons_self ..)
     simp -implicitDefEqProofs only [List.sum_cons]; omega
   exact this l fun v hv=>h v (List.mem_cons_of_mem _ hv)
  simp -implicitDefEqProofs only [List.sum_cons] at h2 ⊢
  rw [IM,if_pos (by unfold Fit; omega),Q7 (fun v hv=>h v (List.mem_cons_of_mem _ hv)) (by omega) (by omega)]
  congr 1
  omega
theorem Mu {ss:List SumX} {d:Int} (hs:∀s∈ss,0≤s.a):∀i,∀v∈G5 ss d i,0≤v
 | 0,v,h=>by cases h
 | i+1,v,h=>by
  rw [G5] at h
  cases e:ss[i]? with
  | none=>rw [e] at h; exact Mu hs i v h
  | some s =>
   rw [e] at h
   simp -implicitDefEqProofs only [] at h
   split at h
   ·rcases List.mem_append.1 h with h | h
    ·exact Mu hs i v h
    ·rw [List.mem_singleton] at h
     subst h
     exact hs _ (List.mem_of_getElem? e)
   ·exact Mu hs i v h
theorem RO {c:CoreX} {d:Int} {b:List Int} (hf:fitsC c) (hb:Jf c b):∀i:Nat,i≤c.ps.length→∃l,Fh c.ss c.ps d b i=some l∧∀v∈l,0≤v
 | 0,_=>⟨_,rfl,Mu (fun s hs=>((fitsC.bnd hf.good).amt s hs).1) _⟩
 | i+1,hi=>by
  obtain ⟨l,h1,h2⟩:=RO hf hb (d:=d) i (by omega)
  rw [Fh,h1,List.getElem?_eq_getElem (show i<c.ps.length by omega)]
  simp -implicitDefEqProofs only []
  have hx:=List.getElem_mem (show i<c.ps.length by omega)
  obtain ⟨m1,m2⟩:=(fitsC.bnd hf.good).me _ hx
  generalize c.ps[i]'(by omega)=x at *
  split
  ·obtain ⟨hb1,hb2⟩:=hb
   have hm:x.me.toNat<c.ms.length:=by omega
   have hq:=hb2 x.me.toNat (by omega) hm
   have hbq:bq b x.me=b[x.me.toNat]:=by unfold bq; rw [List.getD_eq_getElem?_getD,List.getElem?_eq_getElem (by omega),Option.getD_some]
   have hmx:Ea c.ms x.me=c.ms[x.me.toNat].mx:=by unfold Ea; rw [List.getElem?_eq_getElem hm]
   obtain ⟨k1,k2,k3,k4⟩:=Ii hf hx (q:=bq b x.me) (by omega) (by omega)
   rw [k1]
   simp -implicitDefEqProofs only []
   refine ⟨_,rfl,fun v hv=>?_⟩
   rcases List.mem_append.1 hv with hv | hv
   ·exact h2 v hv
   ·rw [List.mem_singleton] at hv
    omega
  ·exact ⟨l,rfl,h2⟩
theorem MV {c:CoreX} (hf:fitsC c) {d:Int} {b:List Int} (hb:Jf c b) (j:Nat):0≤HE c.ps d b j∧HE c.ps d b j≤HI c j:=by
 have hp:=Lk (c:=c) j
 unfold HI at *
 unfold HE
 cases e:c.ps[j]? with
 | none=>exact ⟨Int.le_refl _,Int.le_refl _⟩
 | some x =>
  have hx:=List.mem_of_getElem? e
  rw [e] at hp
  simp -implicitDefEqProofs only [] at hp ⊢
  split
  ·obtain ⟨m1,m2⟩:=(fitsC.bnd hf.good).me _ hx
   obtain ⟨hb1,hb2⟩:=hb
   have hm:x.me.toNat<c.ms.length:=by omega
   have hq:=hb2 x.me.toNat (by omega) hm
   have hbq:bq b x.me=b[x.me.toNat]:=by unfold bq; rw [List.getD_eq_getElem?_getD,List.getElem?_eq_getElem (by omega),Option.getD_some]
   have hmx:Ea c.ms x.me=c.ms[x.me.toNat].mx:=by unfold Ea; rw [List.getElem?_eq_getElem hm]
   obtain ⟨k1,k2,k3,k4⟩:=Ii hf hx (q:=bq b x.me) (by omega) (by omega)
   omega
  ·omega
theorem AIf {c:CoreX} (hf:fitsC c) {d:Int} {b:List Int} (hb:Jf c b):0≤J9 c d b∧J9 c d b≤1152921504606846976:=by
 have h1:=hf.tot c.ps.length (Nat.le_refl _)
 have h2:=JG (n:=c.ps.length) fun j _=>(MV hf (d:=d) hb j).1
 have h3:=Jt (n:=c.ps.length) fun j _=>(MV hf (d:=d) hb j).2
 have h4:=JG (n:=c.ss.length) fun j _=>(Nq hf.good d j).1
 have h5:=Jt (n:=c.ss.length) fun j _=>(Nq hf.good d j).2
 unfold Fr at h1
 unfold J9 FP
 omega
theorem AGY {c:CoreX} (hf:fitsC c) {d:Int} {b:List Int} (hb:Jf c b):∃l,ND c d b=some l∧IM 0 l=some (J9 c d b):=by
 obtain ⟨l,h1,h2⟩:=RO hf hb (d:=d) c.ps.length (Nat.le_refl _)
 have hs:=S8 _ _ h1
 have hc:=AIf hf (d:=d) hb
 have he:l.sum=J9 c d b:=hs
 refine ⟨l,h1,?_⟩
 rw [Q7 h2 (Int.le_refl 0) (by omega),he]
 congr 1
 omega
theorem S6 {a i:Nat} (ha:a<65536) (hi:i<16):decide (Ij .u64 (a:Int) ((2 ^ i:Nat):Int)=((2 ^ i:Nat):Int))=a.testBit i:=by
 have hp:2 ^ i<65536:=by
  calc 2 ^ i<2 ^ 16:=Nat.pow_lt_pow_right (by decide) hi
   _=65536:=rfl
 rw [AEj (by omega) (by omega),Bool.eq_iff_iff,decide_eq_true_eq]
 constructor
 ·intro h
  have h:a &&& 2 ^ i=2 ^ i:=by omega
  have h2:=congrArg (fun n=>n.testBit i) h
  simp -implicitDefEqProofs only [Nat.testBit_and,Mf,decide_true,Bool.and_true] at h2
  exact h2
 ·intro h
  have:a &&& 2 ^ i=2 ^ i:=by
   refine Nat.eq_of_testBit_eq fun k=>?_
   rw [Nat.testBit_and,Mf]
   by_cases e:k=i
   ·subst e; rw [h,decide_eq_true rfl]; rfl
   ·rw [decide_eq_false e,Bool.and_false]
  omega
theorem Y4 {c:CoreX} {d:Int} {j:Nat} (h8:c.ss.length≤8) (hlt:FI c d<65536) (hj:j<c.ss.length):decide (Ij .u64 ((FI c d:Nat):Int) ((HM (j:Int):Nat):Int)=((HM (j:Int):Nat):Int))=decide (EV d c.ss[j].f c.ss[j].t):=by
 have e:HM (j:Int)=2 ^ j:=by unfold HM; rw [if_pos (by omega)]; simp
 rw [e,S6 hlt (by omega)]
 rw [Bool.eq_iff_iff,decide_eq_true_eq]
 exact PD h8 hj
theorem AN5 {c:CoreX} {d:Int} {j:Nat} (h8:c.ss.length≤8) (hp8:c.ps.length≤8) (hlt:FI c d<65536) (hj:j<c.ps.length):decide (Ij .u64 ((FI c d:Nat):Int) ((IJ (j:Int):Nat):Int)=((IJ (j:Int):Nat):Int))=decide (EV d c.ps[j].f c.ps[j].t):=by
 have e:IJ (j:Int)=2 ^ (8+j):=by unfold IJ; rw [if_pos (by omega),Nat.pow_add]; simp
 rw [e,S6 hlt (by omega)]
 rw [Bool.eq_iff_iff,decide_eq_true_eq]
 exact OR h8 hj
def FW (c:CoreX) (d:Int) (m:Nat) (mx:Int) (i:Nat):List Int:=(List.range (mx+1).toNat).map fun q:Nat=>sg (FM c.ps d m q) i
def BX (c:CoreX) (d:Int) (i:Nat):List (List Int):=(List.range c.ms.length).map fun m=>FW c d m (match c.ms[m]? with | some x=>x.mx | none=>0) i
theorem Hm {c:CoreX} {d:Int} {i:Nat}:(BX c d i).length=c.ms.length:=by simp [BX]
theorem NX {c:CoreX} {d:Int} {m i:Nat} (hm:m<c.ms.length):(BX c d i)[m]'(by rw [Hm]; exact hm)=FW c d m c.ms[m].mx i:=by
 simp -implicitDefEqProofs only [BX,List.getElem_map,List.getElem_range]
 rw [List.getElem?_eq_getElem hm]
theorem AEL {c:CoreX} {d:Int} {m:Nat} {mx:Int}:FW c d m mx 0=List.replicate (mx+1).toNat 0:=by
 refine List.ext_getElem (by simp [FW]) fun i h1 h2=>by simp [FW,sg]
theorem Pf {c:CoreX} {d:Int}:BX c d c.ps.length=Eb c d c.ms.length:=rfl
theorem R3 {c:CoreX} (h:fitsC c) (d:Int) {m i:Nat} (hm:m<c.ms.length) (hi:i≤c.ps.length):BN (FW c d m c.ms[m].mx i):=by
 have hb:=(fitsC.bnd h.good).mx m hm
 refine ⟨fun e=>?_,by simp -implicitDefEqProofs only [FW,List.length_map,List.length_range]; omega,fun v hv=>?_⟩
 ·have:=congrArg List.length e
  simp -implicitDefEqProofs only [FW,List.length_map,List.length_range,List.length_nil] at this
  omega
 ·obtain ⟨q,hq,rfl⟩:=List.mem_map.1 hv
  have hq:=List.mem_range.1 hq
  have:=O3 h d hm (q:=q) (by omega) (by omega) hi
  unfold E0
  omega
theorem ANE {c:CoreX} {d:Int} {m i:Nat} {mx:Int} (hi:i<c.ps.length) (hm:c.ps[i].me=m) (hw:EV d c.ps[i].f c.ps[i].t):List.zipWith (fun u v=>u+v) (FW c d m mx i) (GR c.ps[i] mx)=FW c d m mx (i+1):=by
 refine List.ext_getElem (by simp [FW,GR]) fun q h1 h2=>?_
 simp -implicitDefEqProofs only [List.getElem_zipWith,FW,GR,List.getElem_map,List.getElem_range,sg]
 unfold FM
 rw [List.getElem?_eq_getElem hi]
 simp -implicitDefEqProofs only []
 rw [if_pos ⟨hm,hw⟩]
theorem Su {c:CoreX} {d:Int} {m i:Nat} {mx:Int} (hi:i<c.ps.length) (h:¬(c.ps[i].me=m∧EV d c.ps[i].f c.ps[i].t)):FW c d m mx (i+1)=FW c d m mx i:=by
 unfold FW
 refine List.map_congr_left fun q _=>?_
 rw [sg]
 have:FM c.ps d m q i=0:=by
  unfold FM
  rw [List.getElem?_eq_getElem hi]
  simp -implicitDefEqProofs only []
  rw [if_neg h]
 omega
theorem APq {c:CoreX} {d:Int} {i:Nat} (hi:i<c.ps.length) (h:¬EV d c.ps[i].f c.ps[i].t):BX c d (i+1)=BX c d i:=by
 unfold BX
 exact List.map_congr_left fun m _=>Su hi (fun e=>h e.2)
theorem AMC {c:CoreX} {d:Int} {m i:Nat} (hi:i<c.ps.length) (hml:m<c.ms.length) (hm:c.ps[i].me=m):BX c d (i+1)=(BX c d i).set m (FW c d m c.ms[m].mx (i+1)):=by
 refine List.ext_getElem (by rw [List.length_set,Hm,Hm]) fun k h1 h2=>?_
 rw [Hm] at h1
 rw [NX h1,List.getElem_set]
 by_cases e:m=k
 ·subst e
  rw [if_pos rfl]
 ·rw [if_neg e,NX h1]
  exact Su hi (fun e2=>e (by have:=e2.1; omega))
def Fw (c:CoreX) (d:Int) (i:Nat):Int:=FP c d+sg (HE c.ps d (List.replicate c.ms.length 0)) i
theorem AEY {c:CoreX} (hg:goodC c) {d:Int}:Fw c d c.ps.length=IE c d:=Qh (fitsC.bnd hg).me d c.ms.length
theorem AL0 {c:CoreX} {d:Int} {i:Nat} (hi:i<c.ps.length) (hme:0≤c.ps[i].me) (hw:EV d c.ps[i].f c.ps[i].t):Fw c d (i+1)=Fw c d i+pv c.ps[i] 0:=by
 unfold Fw
 rw [sg]
 have:HE c.ps d (List.replicate c.ms.length 0) i=pv c.ps[i] 0:=by
  unfold HE
  rw [List.getElem?_eq_getElem hi]
  simp -implicitDefEqProofs only []
  obtain ⟨k,hk⟩:=Int.eq_ofNat_of_zero_le hme
  rw [if_pos hw,hk,Sp]
 omega
theorem ADp {c:CoreX} {d:Int} {i:Nat} (hi:i<c.ps.length) (hw:¬EV d c.ps[i].f c.ps[i].t):Fw c d (i+1)=Fw c d i:=by
 unfold Fw
 rw [sg]
 have:HE c.ps d (List.replicate c.ms.length 0) i=0:=by
  unfold HE
  rw [List.getElem?_eq_getElem hi]
  simp -implicitDefEqProofs only []
  rw [if_neg hw]
 omega
def G8 (l:List Int):List D:=[.int .i64 ((l.length:Int)-1),.sl 5 (BA (ES l))]
def Ai (ls:List (List Int)):List (List D):=ls.map G8
abbrev FO (ls:List (List Int)):AV:=.d (.sl 2 (Ai ls))
theorem Ft {ls:List (List Int)}:(Ai ls).length=ls.length:=List.length_map ..
theorem Kc {ls:List (List Int)} {i:Nat} (h:i<ls.length):(Ai ls)[((i:Int)).toNat]? = some [.int .i64 ((ls[i].length:Int)-1),.sl 5 (BA (ES ls[i]))]:=by
 rw [Int.toNat_natCast]; simp [Ai,h,G8]
theorem AP3 {ls:List (List Int)} {l:List Int}:Ai ls++[[.int .i64 ((l.length:Int)-1),.sl 5 (BA (ES l))]]=Ai (ls++[l]):=by simp [Ai,G8]
def JP (s:Seg EU):List D:=[.int .i64 s.f,.int .i64 s.t,.int .i64 s.v.1,.sl 2 (Ai s.v.2)]
def Ao (S:List (Seg EU)):List (List D):=S.map JP
abbrev Jm (s:Seg EU):AV:=.agg [i64 s.f,i64 s.t,i64 s.v.1,FO s.v.2]
abbrev Gk (S:List (Seg EU)):AV:=.d (.sl 4 (Ao S))
theorem Gj {S:List (Seg EU)}:(Ao S).length=S.length:=List.length_map ..
theorem JN {S:List (Seg EU)} {i:Nat} (h:i<S.length):(Ao S)[((i:Int)).toNat]? = some [.int .i64 S[i].f,.int .i64 S[i].t,.int .i64 S[i].v.1,.sl 2 (Ai S[i].v.2)]:=by
 rw [Int.toNat_natCast]; simp [Ao,h,JP]
theorem NN {S:List (Seg EU)} {i:Nat} {s:Seg EU} (h:S[i]? = some s):(Ao S)[i]? = some [.int .i64 s.f,.int .i64 s.t,.int .i64 s.v.1,.sl 2 (Ai s.v.2)]:=by
 simp [Ao,h,JP]
theorem Pq {A:List (Seg EU)} {s:Seg EU} {x:Int}:(Ao (A++[s])).set A.length [.int .i64 s.f,.int .i64 x,.int .i64 s.v.1,.sl 2 (Ai s.v.2)]=Ao (A++[⟨s.f,x,s.v⟩]):=by
 simp [Ao,JP,List.set_append]
abbrev IF (cur:ByteArray) (f t:Int) (ms:List MeterX) (S:List (Seg EU)):AV:=.agg [.d (.str cur),i64 f,i64 t,.d (.sl 5 (EK ms)),Gk S]
theorem SW {H:Heap} {f t x:Int} {v:AV} {ls:List (List Int)} (h:LendV H v (FO ls)):LendV H (.agg [i64 f,i64 t,i64 x,v]) (.agg [i64 f,i64 t,i64 x,FO ls]):=by
 refine .agg _ _ rfl fun j u v e1 e2=>?_
 match j with
 | 0=>cases e1; cases e2; exact .refl _
 | 1=>cases e1; cases e2; exact .refl _
 | 2=>cases e1; cases e2; exact .refl _
 | 3=>cases e1; cases e2; exact h
 | j+4=>cases e1
theorem Qw {H:Heap} {cur:ByteArray} {f t:Int} {v w:AV} {ms:List MeterX} {S:List (Seg EU)} (h:LendV H v (.d (.sl 5 (EK ms)))) (h2:LendV H w (Gk S)):LendV H (.agg [.d (.str cur),i64 f,i64 t,v,w]) (IF cur f t ms S):=by
 refine .agg _ _ rfl fun j u v e1 e2=>?_
 match j with
 | 0=>cases e1; cases e2; exact .refl _
 | 1=>cases e1; cases e2; exact .refl _
 | 2=>cases e1; cases e2; exact .refl _
 | 3=>cases e1; cases e2; exact h
 | 4=>cases e1; cases e2; exact h2
 | j+5=>cases e1
theorem WR {a b:List Int} (hl:a.length=b.length) (h:ES a=ES b):a=b:=by
 refine List.ext_getElem hl fun i h1 h2=>?_
 have e1:=Mj h1
 have e2:=Mj h2
 rw [h,e2] at e1
 exact (Option.some.inj e1).symm
theorem Qc {a b:List Int}:((a.length:Int)-1=(b.length:Int)-1∧ES a=ES b)↔a=b :=
 ⟨fun h=>WR (by omega) h.2,fun h=>by rw [h]; exact ⟨rfl,rfl⟩⟩
noncomputable def El (c:CoreX):List (Seg EU):=LE (Fi (Ed c) ((Hl c).map (·.f)) (Hl c).length) c.t
theorem KL {c:CoreX} (hg:goodC c):FwdB (Ed c) c.f (c.t+1) (El c):=by
 obtain ⟨_,⟨a3,_⟩,_,_,h8,_⟩:=hg.hd
 have:=Xk (L6 a3) (by omega) (Mb h8)
 rwa [show c.t+1-1=c.t by omega] at this
theorem Tq {H:Heap} {b6 b7:Nat} {f t fx n:Int} {cv:AV} {ok:Bool} (hne:¬b6=b7) (h6:H b6=some (.box 47 [i64 f,i64 t,i64 fx,cv])) (h7:H b7=some (.box 4 [bv ok])) (hx:Fit fx) (hn:Fit n) (hs:Fit (fx+n)):CallW Tryz.prog NO [i64 n,.ptr b6 0,.ptr b7 0] H fun r H'=>H'=upd (upd H b6 (some (.box 47 [i64 f,i64 t,i64 (fx+n),cv]))) b7 (some (.box 4 [bv ok])):=by
 have ha:=K7 hx hn
 rw [Gc hs] at ha
 have hne':¬b7=b6:=fun e=>hne e.symm
 refine Aa AF0 (by simp) ?_
 simp -implicitDefEqProofs -proj only [go_sem,seval,h6]
 refine AJ ha ?_
 cases ok
 ·simp -implicitDefEqProofs -proj only [go_sem,seval,h6,h7,hne,hne']
 ·simp -implicitDefEqProofs -proj only [go_sem,seval,h6,h7,hne,hne']
abbrev FC (c:CoreX):List (List Int):=c.ps.map fun x=>GR x (Ea c.ms x.me)
abbrev FJ (c:CoreX):List Int:=c.ps.map fun x=>pv x 0
abbrev LI (c:CoreX) (kv bvs:AV):List AV:=[.d (.str c.cur),i64 c.f,i64 c.t,.d (.sl 5 (EK c.ms)),.d (.sl 3 (Eu c.ss)),.d (.sl 9 (Ec c.ps)),kv,bvs]
def GP (bm:Nat) (c:CoreX) (k1 p1 k2 p2:Nat):List (Nat×Blk):=(bm,.box 68 (LI c (BU 2 2 k1 p1 (Ai (FC c))) (BU 1 1 k2 p2 (AY (FJ c)))))::(Au 51 2 k1 p1 (Ai (FC c))++Au 3 1 k2 p2 (AY (FJ c)))
structure SpnX where
 i:Nat
 k:Nat
 cap:Nat
theorem GB {i c cap:Nat}:(SpnX.mk i c cap).i=i:=(rfl)
theorem Hc {i c cap:Nat}:(SpnX.mk i c cap).k=c:=(rfl)
theorem HT {i c cap:Nat}:(SpnX.mk i c cap).cap=cap:=(rfl)
abbrev Ge (b6 k cap:Nat) (f t fx:Int) (L:List (List Int)):Blk:=.box 47 [i64 f,i64 t,i64 fx,BU 2 2 k cap (Ai L)]
theorem Hu {H:Heap} {b:Nat} {x x':Blk}:∀{A B:List (Nat×Blk)},AU H (A++(b,x)::B)→(AN (A++(b,x)::B)).Nodup→AU (upd H b (some x')) (A++(b,x')::B)
 | [],B,h,hn=>Ow h hn
 | (k,y)::A,B,h,hn=>by
  simp -implicitDefEqProofs only [List.cons_append,AN,List.map_cons,List.nodup_cons,List.map_append,List.mem_append,List.mem_cons,not_or] at hn
  have hk:¬b=k:=fun e=>hn.1.2.1 e.symm
  refine ⟨by rw [AE hk]; exact h.1,Hu h.2 (by simpa only [AN,List.map_append,List.map_cons] using hn.2)⟩
theorem AAn {c:CoreX} (hf:fitsC c) {x:PartX} (hx:x∈c.ps):BN (GR x (Ea c.ms x.me)):=by
 have h0:=Ii hf hx (Int.le_refl 0) (Lq hf.good hx)
 have hm:=Lq hf.good hx
 obtain ⟨m1,m2⟩:=(fitsC.bnd hf.good).me x hx
 have hmi:x.me.toNat<c.ms.length:=by omega
 have hmx:=(fitsC.bnd hf.good).mx x.me.toNat hmi
 have hmxe:Ea c.ms x.me=c.ms[x.me.toNat].mx:=by unfold Ea; rw [List.getElem?_eq_getElem hmi]
 refine ⟨fun e=>?_,by simp -implicitDefEqProofs only [GR,List.length_map,List.length_range]; omega,fun v hv=>?_⟩
 ·have:=congrArg List.length e
  simp -implicitDefEqProofs only [GR,List.length_map,List.length_range,List.length_nil] at this
  omega
 ·obtain ⟨q,hq,rfl⟩:=List.mem_map.1 hv
  have hq:=List.mem_range.1 hq
  have hb:=Ii hf hx (q:=(q:Int)) (by omega) (by omega)
  unfold E0
  omega
theorem AIM {P:Program} {Q:Out→St→Prop} {k:List Item} {s:St} {d:Option Nat} {l:List AO} {x y:D} {b sz i j cap:Nat} {t:TypeId} {xs:List (List D)} {el:List D} (hb:s.H b=some (.row t sz cap xs)) (h:xs[i]? = some el) (hj:j+1<el.length) (hk:AT P Q l k (AM s d .void (upd s.H b (some (.row t sz cap (xs.set i (GX el j [x,y]))))))):LR 2 (.agg [.d x,.d y]) b sz i j d l k s P Q:=by
 simp -implicitDefEqProofs only [LR,E7,Ay,A7,A9,hb]
 exact ⟨trivial,el,h,by omega,hk⟩
theorem ADJ {c:CoreX} {i:Nat} (h:i<c.ps.length):(Ai (FC c))[((i:Int)).toNat]? = some [.int .i64 (((GR c.ps[i] (Ea c.ms c.ps[i].me)).length:Int)-1),.sl 5 (BA (ES (GR c.ps[i] (Ea c.ms c.ps[i].me))))]:=by
 have:=Kc (ls:=FC c) (i:=i) (by simpa using h)
 rw [this]
 simp -implicitDefEqProofs only [FC,List.getElem_map]
theorem AEa {c:CoreX} {i:Nat} (h:i<c.ps.length):(AY (FJ c))[((i:Int)).toNat]? = some [.int .i64 (pv c.ps[i] 0)]:=by
 refine Jv ?_
 simp -implicitDefEqProofs only [FJ]
 rw [List.getElem?_map,Int.toNat_natCast,List.getElem?_eq_getElem h]
 rfl
theorem Qt {c:CoreX} (hf:fitsC c) (d:Int) {i:Nat} (hi:i≤c.ps.length) : -2305843009213693952≤Fw c d i∧Fw c d i≤2305843009213693952:=by
 obtain ⟨⟨g1,g2⟩,⟨g3,g4⟩,g5,g6,g7,g8⟩:=hf.good.hd
 have hb:Jf c (List.replicate c.ms.length 0):=by
  refine ⟨by simp,fun m h1 h2=>?_⟩
  have:=(fitsC.bnd hf.good).mx m (by simpa using h1)
  simp -implicitDefEqProofs only [List.getElem_replicate]
  omega
 have h1:=K4 hf.good d (Nat.le_refl c.ss.length)
 have h2:sg (HE c.ps d (List.replicate c.ms.length 0)) i≤sg (HI c) i:=Jt fun j _=>(MV hf hb j).2
 have h3:0≤sg (HE c.ps d (List.replicate c.ms.length 0)) i:=JG fun j _=>(MV hf hb j).1
 have h4:=P4 hf hi
 unfold Fw FP
 omega
def GH (b3 b4 b6 b7 k cap:Nat) (f t fx:Int) (s:Int) (L:List (List Int)) (mk:List (Nat×Blk)):List (Nat×Blk) :=
 Au 51 2 k cap (Ai L)++((b7,.box 4 [bv true])::(b6,Ge b6 k cap f t fx L)::(b4,.box 47 [i64 0,i64 0,i64 0,.nilsl 2])::(b3,.box 82 [i64 f,i64 t,u64 s])::mk)
set_option maxRecDepth 20000 in
set_option maxHeartbeats 4000000 in
theorem AG0 {c:CoreX} {bm k1 p1 k2 p2:Nat} {f t:Int} {d:Int} (hc:c.Fit) (hf:fitsC c) (h8:c.ss.length≤8) (hp8:c.ps.length≤8) (h16:FI c d<65536) (hnm:(AN (GP bm c k1 p1 k2 p2)).Nodup) :
  CallW Tryz.prog AIh [.ptr bm 0,.agg [i64 f,i64 t,u64 ((FI c d:Nat):Int)]] (Ae (GP bm c k1 p1 k2 p2)) fun r H'=>∃k cap,r = .tup [.agg [i64 f,i64 t,i64 (IE c d),BU 2 2 k cap (Ai (Eb c d c.ms.length))],bv true]∧(∃rest,AU H' (Au 51 2 k cap (Ai (Eb c d c.ms.length))++rest++GP bm c k1 p1 k2 p2)∧(AN (Au 51 2 k cap (Ai (Eb c d c.ms.length))++rest++GP bm c k1 p1 k2 p2)).Nodup):=by
 obtain ⟨⟨g1,g2⟩,⟨g3,g4⟩,g5,g6,g7,g8⟩:=hf.good.hd
 have hmk:=EQ hnm
 obtain ⟨mk,hmkd⟩:∃mk,GP bm c k1 p1 k2 p2=mk:=⟨_,rfl⟩
 have hbm:∀{H:Heap},AU H mk→H bm=some (.box 68 (LI c (BU 2 2 k1 p1 (Ai (FC c))) (BU 1 1 k2 p2 (AY (FJ c))))):=fun h=>by rw [←hmkd] at h; exact h.1
 rw [hmkd] at hmk hnm ⊢
 obtain ⟨H0,hH0⟩:∃H0,Ae mk=H0:=⟨_,rfl⟩
 rw [hH0] at hmk ⊢
 obtain ⟨sv,hsv⟩:∃sv:Int,((FI c d:Nat):Int)=sv:=⟨_,rfl⟩
 rw [hsv]
 refine Aa AIF (by simp) ?_
 simp -implicitDefEqProofs -proj only [go_sem,seval]
 refine AK (fun b3 hb3=>?_)
 have a3:=G4 (x:=.box 82 [i64 f,i64 t,u64 sv]) hb3 hmk
 have e3:=HD (x:=.box 82 [i64 f,i64 t,u64 sv]) hb3 hmk hnm
 simp -implicitDefEqProofs -proj only [go_sem,seval]
 refine AK (fun b4 hb4=>?_)
 have a4:=G4 (x:=.box 47 [i64 0,i64 0,i64 0,.nilsl 2]) hb4 a3
 have e4:=HD (x:=.box 47 [i64 0,i64 0,i64 0,.nilsl 2]) hb4 a3 e3
 replace hb4:upd H0 b3 _ b4=none:=hb4
 obtain ⟨n1,n2⟩:=AH hb4 AQ
 simp -implicitDefEqProofs -proj only [go_sem,seval,n1,n2]
 refine AK (fun b6 hb6=>?_)
 replace hb6:upd (upd H0 b3 _) b4 _ b6=none:=hb6
 obtain ⟨n3,n4⟩:=AH hb6 AQ
 obtain ⟨n5,n6⟩:=AH hb6 (by rw [AE n1]; exact AQ)
 simp -implicitDefEqProofs -proj only [go_sem,seval,n1,n2,n3,n4,n5,n6]
 have a6:=G4 (x:=Ge b6 0 0 f t 0 []) hb6 a4
 have e6:=HD (x:=Ge b6 0 0 f t 0 []) hb6 a4 e4
 refine AK (fun b7 hb7=>?_)
 replace hb7:upd (upd (upd H0 b3 _) b4 _) b6 _ b7=none:=hb7
 have a7:=G4 (x:=.box 4 [bv true]) hb7 a6
 have e7:=HD (x:=.box 4 [bv true]) hb7 a6 e6
 obtain ⟨n7,n8⟩:=AH hb7 AQ
 obtain ⟨n9,n10⟩:=AH hb7 (by rw [AE n3]; exact AQ)
 obtain ⟨n11,n12⟩:=AH hb7 (by rw [AE n5,AE n1]; exact AQ)
 have hbm7:=hbm a7.2.2.2.2
 simp -implicitDefEqProofs only [AX] at hbm7
 simp -implicitDefEqProofs -proj only [go_sem,seval,n1,n2,n3,n4,n5,n6,n7,n8,n9,n10,n11,n12,hbm7,FA]
 refine BE (fun y:SpnX=>y.i≤c.ms.length∧(AN (GH b3 b4 b6 b7 y.k y.cap f t 0 sv ((BX c d 0).take y.i) mk)).Nodup) 125 (fun y=>[(0,.ptr bm 0),(3,.ptr b3 0),(4,.ptr b4 0),(6,.ptr b6 0),(7,.ptr b7 0),(8,.fn NO [.ptr b6 0,.ptr b7 0]),(29,.d (.sl 5 (EK c.ms))),(30,i64 c.ms.length),(31,i64 y.i)]) (fun y=>GH b3 b4 b6 b7 y.k y.cap f t 0 sv ((BX c d 0).take y.i) mk) (fun y=>c.ms.length-y.i) ⟨0,0,0⟩ ⟨Nat.zero_le _,e7⟩ rfl ?_ ?_ ?_
 ·simp -implicitDefEqProofs -proj only [go_sem,seval,AL,GB]
  try rfl
 ·have a7':AU _ (GH b3 b4 b6 b7 0 0 f t 0 sv [] mk):=a7
  exact a7'
 rintro ⟨i,k,cap⟩ ⟨hi,hnd⟩
 simp -implicitDefEqProofs only [GB] at hi
 have hall:=EQ hnd
 obtain ⟨H,hH⟩:∃H,Ae (GH b3 b4 b6 b7 k cap f t 0 sv ((BX c d 0).take i) mk)=H:=⟨_,rfl⟩
 simp -implicitDefEqProofs only [GB,Hc,HT] at hall hnd
 rw [hH] at hall
 simp -implicitDefEqProofs only [GH] at hall hnd
 obtain ⟨hrow,h7,h6,h4,h3,hmkH⟩:=BI.1 hall
 have hbmH:=hbm hmkH
 by_cases hlt:i<c.ms.length
 ·have hmx:=(fitsC.bnd hf.good).mx i hlt
  have hel:=HS hlt
  have hfl:=ANc (n:=(c.ms[i].mx+1).toNat) (v:=0) (by omega) (by omega) (by decide)
  rw [show (((c.ms[i].mx+1).toNat:Nat):Int)-1=c.ms[i].mx by omega,←AEL (c:=c) (d:=d) (m:=i)] at hfl
  have htk:(BX c d 0).take (i+1)=(BX c d 0).take i++[FW c d i c.ms[i].mx 0]:=by
   rw [List.take_succ_eq_append_getElem (by rw [Hm]; exact hlt),NX hlt]
  have hl1:(Ai ((BX c d 0).take i)).length=i:=by rw [Ft,List.length_take,Hm]; omega
  generalize FW c d i c.ms[i].mx 0=lq at *
  generalize c.ms[i]=m at *
  simp -implicitDefEqProofs -proj only [go_sem,seval,GB,Hc,HT,hH,decide_eq_true (show (i:Int)<c.ms.length by omega)]
  refine Ah _ (by omega) hel ?_
  simp -implicitDefEqProofs -proj only [go_sem,seval]
  refine AK (fun b10 hb10=>?_)
  replace hb10:H b10=none:=hb10
  have all10:=fun y=>Ak (y:=y) hb10 hall
  obtain ⟨y1,y2⟩:=AH hb10 h6
  simp -implicitDefEqProofs -proj only [go_sem,seval,y1,y2]
  refine AJ hfl ?_
  simp -implicitDefEqProofs -proj only [go_sem,seval,y1,y2]
  refine AK (fun b11 hb11=>?_)
  simp -implicitDefEqProofs only [AX] at hb11
  have z1:¬b10=b11:=fun e=>by subst e; simp at hb11
  have z2:¬b11=b10:=fun e=>z1 e.symm
  have hb11':H b11=none:=by simpa only [z1,↓reduceIte] using hb11
  obtain ⟨y3,y4⟩:=AH hb11' h6
  simp -implicitDefEqProofs -proj only [go_sem,seval,y1,y2,y3,y4,z1,z2,h6]
  refine An (fun bs hs=>?_)
  simp -implicitDefEqProofs only [AX,y1,y2,y3,y4,z1,z2] at hs
  have z3:¬b10=bs:=fun e=>by subst e; simp [z1,z2] at hs
  have z4:¬b11=bs:=fun e=>by subst e; simp [z1,z2] at hs
  have hbs':H bs=none:=by simpa only [z3,z4,↓reduceIte] using hs
  simp -implicitDefEqProofs -proj only [go_sem,seval,y1,y2,y3,y4,z1,z2,z3,z4]
  have hA:∀X Y Z,AU (upd (upd (upd H b10 X) b11 Y) bs Z) (Au 51 2 k cap (Ai ((BX c d 0).take i))++((b7,.box 4 [bv true])::(b6,Ge b6 k cap f t 0 ((BX c d 0).take i))::(b4,.box 47 [i64 0,i64 0,i64 0,.nilsl 2])::(b3,.box 82 [i64 f,i64 t,u64 sv])::mk)):=fun X Y Z =>
   Ak (by rw [AE z4,AE z3]; exact hbs') (Ak (by rw [AE z1]; exact hb11') (Ak hb10 hall))
  refine FL (xs:=Ai ((BX c d 0).take i)) (y:=G8 lq) (t:=51) (capc:=1) ((b7,.box 4 [bv true])::(b6,Ge b6 k cap f t 0 ((BX c d 0).take i))::(b4,.box 47 [i64 0,i64 0,i64 0,.nilsl 2])::(b3,.box 82 [i64 f,i64 t,u64 sv])::mk) rfl (hA _ _ _) hnd (by simp -implicitDefEqProofs -proj only [go_sem,seval]; rfl) (by rw [hl1]; omega) (by rw [hl1]; omega) (fun H' c' cap' ha hk=>?_)
  rw [show Ai ((BX c d 0).take i)++[G8 lq]=Ai ((BX c d 0).take (i+1)) by rw [htk]; simp [Ai]] at ha hk
  have hne2:Ai ((BX c d 0).take (i+1))≠[]:=by rw [htk]; simp [Ai]
  have hl2:(Ai ((BX c d 0).take (i+1))).length=i+1:=by rw [Ft,List.length_take,Hm]; omega
  have h6':H' b6=some (Ge b6 k cap f t 0 ((BX c d 0).take i)):=(BI.1 ha).2.2.1
  simp -implicitDefEqProofs -proj only [go_sem,seval,h6']
  have hup:=Hu (A:=Au 51 2 c' cap' (Ai ((BX c d 0).take (i+1)))++[(b7,.box 4 [bv true])]) (b:=b6) (x:=Ge b6 k cap f t 0 ((BX c d 0).take i)) (x':=Ge b6 c' cap' f t 0 ((BX c d 0).take (i+1))) (B:=(b4,.box 47 [i64 0,i64 0,i64 0,.nilsl 2])::(b3,.box 82 [i64 f,i64 t,u64 sv])::mk) (by simpa only [List.append_assoc,List.cons_append,List.nil_append] using ha) (by simpa only [List.append_assoc,List.cons_append,List.nil_append] using hk)
  refine AZ ⟨i+1,c',cap'⟩ ⟨by show i+1≤c.ms.length; omega,?_⟩ (by show c.ms.length-(i+1)<c.ms.length-i; omega) rfl ?_ ?_
  ·simpa only [GH,AN,GB,Hc,HT,List.map_append,List.map_cons,List.map_nil] using hk
  ·simp -implicitDefEqProofs -proj only [go_sem,seval,AL,GB,Hc,HT,AP (show i<9223372036854775807 by omega)]
  ·simpa only [GH,GB,Hc,HT,List.append_assoc,List.cons_append,List.nil_append,Ge,ET hne2,hl2,hl1] using hup
 have hi':i=c.ms.length:=by omega
 subst hi'
 have hL0:(BX c d 0).take c.ms.length=BX c d 0:=List.take_of_length_le (by rw [Hm]; exact Nat.le_refl _)
 clear hlt hi
 simp -implicitDefEqProofs -proj only [go_sem,seval,GB,Hc,HT,hH,decide_eq_false (show ¬(c.ms.length:Int)<c.ms.length by omega),hbmH,Fo]
 rw [hL0] at hall hnd hrow h6
 refine BE (fun i:Nat=>i≤c.ss.length) 125 (fun i=>[(0,.ptr bm 0),(3,.ptr b3 0),(4,.ptr b4 0),(6,.ptr b6 0),(7,.ptr b7 0),(8,.fn NO [.ptr b6 0,.ptr b7 0]),(52,.d (.sl 3 (Eu c.ss))),(53,i64 c.ss.length),(54,i64 i)]) (fun i=>GH b3 b4 b6 b7 k cap f t (sg (FT c.ss d) i) sv (BX c d 0) mk) (fun i=>c.ss.length-i) 0 (Nat.zero_le _) rfl ?_ ?_ ?_
 ·simp -implicitDefEqProofs -proj only [go_sem,seval,AL]
  try rfl
 ·exact hall
 intro i hi
 have hnd2:(AN (GH b3 b4 b6 b7 k cap f t (sg (FT c.ss d) i) sv (BX c d 0) mk)).Nodup:=by simpa only [GH,AN,List.map_append,List.map_cons] using hnd
 have hall2:=EQ hnd2
 clear hall hrow h7 h6 h4 h3 hmkH hbmH hH
 obtain ⟨H,hH⟩:∃H,Ae (GH b3 b4 b6 b7 k cap f t (sg (FT c.ss d) i) sv (BX c d 0) mk)=H:=⟨_,rfl⟩
 rw [hH] at hall2
 simp -implicitDefEqProofs only [GH] at hall2 hnd2
 obtain ⟨hrow,h7,h6,h4,h3,hmkH⟩:=BI.1 hall2
 have hbmH:=hbm hmkH
 by_cases hlt:i<c.ss.length
 ·have hel:=KB hlt
  have hsok:=(hf.good.ss _ (List.getElem_mem hlt)).1
  have hfs:=K4 hf.good d (i:=i) (by omega)
  have hfs2:=K4 hf.good d (i:=i+1) (by omega)
  have hsg:sg (FT c.ss d) (i+1)=sg (FT c.ss d) i+(if EV d c.ss[i].f c.ss[i].t then c.ss[i].a else 0):=by
   rw [sg]
   have:FT c.ss d i=if EV d c.ss[i].f c.ss[i].t then c.ss[i].a else 0:=by
    unfold FT; rw [List.getElem?_eq_getElem hlt]
   rw [this]
  have hhas:=Sq (a:=sv) (b:=((HM (i:Int):Nat):Int))
  rw [←hsv,Y4 h8 h16 hlt,hsv] at hhas
  generalize c.ss[i]=m at *
  simp -implicitDefEqProofs -proj only [go_sem,seval,hH,decide_eq_true (show (i:Int)<c.ss.length by omega)]
  refine Ah _ (by omega) hel ?_
  simp -implicitDefEqProofs -proj only [go_sem,seval]
  refine AK (fun b14 hb14=>?_)
  replace hb14:H b14=none:=hb14
  obtain ⟨y1,y2⟩:=AH hb14 h6
  obtain ⟨y3,y4⟩:=AH hb14 h7
  obtain ⟨y5,y6⟩:=AH hb14 h3
  simp -implicitDefEqProofs -proj only [go_sem,seval,y1,y2,y3,y4,y5,y6,h3]
  refine EW SO ?_
  simp -implicitDefEqProofs -proj only [go_sem,seval]
  refine AJ hhas ?_
  by_cases hw:EV d m.f m.t
  ·rw [if_pos hw] at hsg
   simp -implicitDefEqProofs -proj only [go_sem,seval,decide_eq_true hw,y1,y2,y3,y4,y5,y6]
   refine Ex (Tq (f:=f) (t:=t) (fx:=sg (FT c.ss d) i) (cv:=BU 2 2 k cap (Ai (BX c d 0))) (ok:=true) (fun e=>n7 e.symm) (by simp -implicitDefEqProofs -proj only [go_sem,seval,y1]; exact h6) (by simp -implicitDefEqProofs -proj only [go_sem,seval,y3]; exact h7) (by unfold Fit; omega) (by unfold Fit; omega) (by unfold Fit; omega)) (fun r H' hk=>?_)
   subst hk
   simp -implicitDefEqProofs -proj only [go_sem,seval]
   refine AZ (i+1) (by omega) (by omega) rfl ?_ ?_
   ·simp -implicitDefEqProofs -proj only [go_sem,seval,AL,AP (show i<9223372036854775807 by omega)]
   ·rw [hsg]
    have hA:=fun y=>Ak (y:=y) hb14 hall2
    have hB:=fun y=>Hu (A:=Au 51 2 k cap (Ai (BX c d 0))++[(b7,.box 4 [bv true])]) (b:=b6) (x':=Ge b6 k cap f t (sg (FT c.ss d) i+m.a) (BX c d 0)) (by simpa only [List.append_assoc,List.cons_append,List.nil_append] using hA y) (by simpa only [List.append_assoc,List.cons_append,List.nil_append] using hnd2)
    have hC:=fun y=>Hu (A:=Au 51 2 k cap (Ai (BX c d 0))) (b:=b7) (x:=.box 4 [bv true]) (x':=.box 4 [bv true]) (by simpa only [List.append_assoc,List.cons_append,List.nil_append] using hB y) (by simpa only [List.append_assoc,List.cons_append,List.nil_append,AN,List.map_append,List.map_cons] using hnd2)
    exact hC _
  ·rw [if_neg hw,Int.add_zero] at hsg
   simp -implicitDefEqProofs -proj only [go_sem,seval,decide_eq_false hw,y1,y2,y3,y4,y5,y6]
   refine AZ (i+1) (by omega) (by omega) rfl ?_ ?_
   ·simp -implicitDefEqProofs -proj only [go_sem,seval,AL,AP (show i<9223372036854775807 by omega)]
   ·rw [hsg]
    exact Ak hb14 hall2
 have hi':i=c.ss.length:=by omega
 subst hi'
 clear hlt hi
 simp -implicitDefEqProofs -proj only [go_sem,seval,hH,decide_eq_false (show ¬(c.ss.length:Int)<c.ss.length by omega),hbmH,FU]
 refine BE (fun y:SpnX=>y.i≤c.ps.length∧(AN (GH b3 b4 b6 b7 y.k y.cap f t (Fw c d y.i) sv (BX c d y.i) mk)).Nodup) 125 (fun y=>[(0,.ptr bm 0),(3,.ptr b3 0),(4,.ptr b4 0),(6,.ptr b6 0),(7,.ptr b7 0),(8,.fn NO [.ptr b6 0,.ptr b7 0]),(73,.d (.sl 9 (Ec c.ps))),(74,i64 c.ps.length),(75,i64 y.i)]) (fun y=>GH b3 b4 b6 b7 y.k y.cap f t (Fw c d y.i) sv (BX c d y.i) mk) (fun y=>c.ps.length-y.i) ⟨0,k,cap⟩ ⟨Nat.zero_le _,?_⟩ rfl ?_ ?_ ?_
 ·simpa only [GH,AN,List.map_append,List.map_cons] using hnd2
 ·simp -implicitDefEqProofs -proj only [go_sem,seval,AL,GB]
  try rfl
 ·have e0:Fw c d 0=sg (FT c.ss d) c.ss.length:=by unfold Fw FP; rw [sg]; omega
  simp -implicitDefEqProofs only [GB,Hc,HT,e0]
  exact hall2
 clear hall2 hrow h7 h6 h4 h3 hmkH hbmH hH hnd hnd2
 rintro ⟨i,k',q'⟩ ⟨hi,hnd3⟩
 simp -implicitDefEqProofs only [GB] at hi
 have hall3:=EQ hnd3
 obtain ⟨H,hH⟩:∃H,Ae (GH b3 b4 b6 b7 k' q' f t (Fw c d i) sv (BX c d i) mk)=H:=⟨_,rfl⟩
 simp -implicitDefEqProofs only [GB,Hc,HT] at hall3 hnd3
 rw [hH] at hall3
 simp -implicitDefEqProofs only [GH] at hall3 hnd3
 obtain ⟨hrow,h7,h6,h4,h3,hmkH⟩:=BI.1 hall3
 have hbmH:=hbm hmkH
 by_cases hlt:i<c.ps.length
 ·have hel:=Iz hlt
  have hpok:=hf.good.ps _ (List.getElem_mem hlt)
  have hme:=(fitsC.bnd hf.good).me _ (List.getElem_mem hlt)
  have hpb:=Ii hf (List.getElem_mem hlt) (Int.le_refl 0) (Lq hf.good (List.getElem_mem hlt))
  have hhas:=Sq (a:=sv) (b:=((IJ (i:Int):Nat):Int))
  rw [←hsv,AN5 h8 hp8 h16 hlt,hsv] at hhas
  have hb3:=(ADJ hlt)
  have hb2:=(AEa hlt)
  have hcr:=AAn hf (List.getElem_mem hlt)
  have hin:=fun hw=>AL0 (d:=d) hlt hme.1 hw
  have hout:=fun hw=>ADp (d:=d) hlt hw
  have hdo:=fun hw=>APq (d:=d) hlt hw
  obtain ⟨m,hm⟩:∃m:Nat,c.ps[i].me=m:=⟨_,(Int.toNat_of_nonneg hme.1).symm⟩
  have hml:m<c.ms.length:=by omega
  have hdi:=AMC (d:=d) hlt hml hm
  have hzi:=fun hw=>ANE (d:=d) (mx:=c.ms[m].mx) hlt hm hw
  have hmxe:Ea c.ms c.ps[i].me=c.ms[m].mx:=by rw [hm]; exact N8 hml
  generalize c.ps[i]=x at *
  simp -implicitDefEqProofs -proj only [go_sem,seval,GB,Hc,HT,hH,decide_eq_true (show (i:Int)<c.ps.length by omega)]
  refine Ah _ (by omega) hel ?_
  simp -implicitDefEqProofs -proj only [go_sem,seval]
  refine AK (fun b16 hb16=>?_)
  replace hb16:H b16=none:=hb16
  obtain ⟨y1,y2⟩:=AH hb16 h6
  obtain ⟨y3,y4⟩:=AH hb16 h7
  obtain ⟨y5,y6⟩:=AH hb16 h3
  obtain ⟨y7,y8⟩:=AH hb16 hbmH
  simp -implicitDefEqProofs -proj only [go_sem,seval,y1,y2,y3,y4,y5,y6,h3]
  refine EW So ?_
  simp -implicitDefEqProofs -proj only [go_sem,seval]
  refine AJ hhas ?_
  by_cases hw:EV d x.f x.t
  ·have hneb:AY (FJ c)≠[]:=by intro e; have:=congrArg List.length e; rw [rowI_len,List.length_nil,List.length_map] at this; omega
   have hner:Ai (FC c)≠[]:=by intro e; have:=congrArg List.length e; rw [Ft,List.length_nil,List.length_map] at this; omega
   have hned:Ai (BX c d i)≠[]:=by intro e; have:=congrArg List.length e; rw [Ft,List.length_nil,Hm] at this; omega
   have hlb:(AY (FJ c)).length=c.ps.length:=by rw [rowI_len,List.length_map]
   have hlr:(Ai (FC c)).length=c.ps.length:=by rw [Ft,List.length_map]
   have hld:(Ai (BX c d i)).length=c.ms.length:=by rw [Ft,Hm]
   have hk2:H k2=some (.row 3 1 p2 (AY (FJ c))):=by
    have h:=hmkH
    rw [←hmkd] at h
    have h:=(BI.1 h.2).2
    rw [FE hneb] at h
    exact h.1
   have hk1:H k1=some (.row 51 2 p1 (Ai (FC c))):=by
    have h:=hmkH
    rw [←hmkd] at h
    have h:=(BI.1 h.2).1
    rw [FE hner] at h
    exact h.1
   have hk':H k'=some (.row 51 2 q' (Ai (BX c d i))):=by
    have h:=hrow
    rw [FE hned] at h
    exact h.1
   obtain ⟨w1,w2⟩:=AH hb16 hk2
   obtain ⟨w3,w4⟩:=AH hb16 hk1
   obtain ⟨w5,w6⟩:=AH hb16 hk'
   rw [ET hneb,ET hner] at hbmH
   rw [Int.toNat_natCast] at hb2 hb3
   simp -implicitDefEqProofs -proj only [go_sem,seval,decide_eq_true hw,y1,y2,y3,y4,y5,y6,y7,y8,hbmH,hlb]
   (repeat' (with_reducible refine Af ?_ (fun h=>?_); (focus first | decide | omega); clear h; try simp -implicitDefEqProofs -proj only [go_sem,seval,eq_self,y1,y2,y3,y4,y5,y6,y7,y8,hbmH,hlb,w1,w2,hk2]))
   refine BB _ hb2 (by simp) ?_
   simp -implicitDefEqProofs -proj only [go_sem,seval,y1,y2,y3,y4,y5,y6,y7,y8]
   have hcN:=R3 hf d hml (i:=i) (by omega)
   have hcN2:=R3 hf d hml (i:=i+1) (by omega)
   have hf1:=Qt hf d (i:=i) (by omega)
   have hf2:=Qt hf d (i:=i+1) (by omega)
   rw [hin hw] at hf2
   rw [hmxe] at hb3 hcr
   have hlq:(FW c d m c.ms[m].mx i).length=(GR x c.ms[m].mx).length:=by simp [FW,GR]
   have hlq2:(FW c d m c.ms[m].mx i).length=(FW c d m c.ms[m].mx (i+1)).length:=by simp [FW]
   have hsum:=ACL hcN hcr hlq (hzi hw) hcN2
   have hbd:(Ai (BX c d i))[m]? = some (G8 (FW c d m c.ms[m].mx i)):=by
    have:=Kc (ls:=BX c d i) (i:=m) (by rw [Hm]; exact hml)
    rw [Int.toNat_natCast,NX hml] at this
    exact this
   have hset:(Ai (BX c d i)).set m (G8 (FW c d m c.ms[m].mx (i+1)))=Ai (BX c d (i+1)):=by
    rw [hdi]; simp -implicitDefEqProofs only [Ai,List.map_set]
   generalize FW c d m c.ms[m].mx i=lA at *
   generalize FW c d m c.ms[m].mx (i+1)=lS at *
   generalize GR x c.ms[m].mx=lB at *
   refine Ex (Tq (f:=f) (t:=t) (fx:=Fw c d i) (cv:=BU 2 2 k' q' (Ai (BX c d i))) (ok:=true) (fun e=>n7 e.symm) (by simp -implicitDefEqProofs -proj only [go_sem,seval,y1]; exact h6) (by simp -implicitDefEqProofs -proj only [go_sem,seval,y3]; exact h7) (by unfold Fit; omega) (by unfold Fit; omega) (by unfold Fit; omega)) (fun r H2 hk=>?_)
   have hA:=fun y=>Ak (y:=y) hb16 hall3
   have hB:=fun y=>Hu (A:=Au 51 2 k' q' (Ai (BX c d i))++[(b7,.box 4 [bv true])]) (b:=b6) (x':=Ge b6 k' q' f t (Fw c d i+pv x 0) (BX c d i)) (by simpa only [List.append_assoc,List.cons_append,List.nil_append] using hA y) (by simpa only [List.append_assoc,List.cons_append,List.nil_append] using hnd3)
   have hC:AU H2 (Au 51 2 k' q' (Ai (BX c d i))++((b7,.box 4 [bv true])::(b6,Ge b6 k' q' f t (Fw c d i+pv x 0) (BX c d i))::(b4,.box 47 [i64 0,i64 0,i64 0,.nilsl 2])::(b3,.box 82 [i64 f,i64 t,u64 sv])::mk)):=by
    have hh:=fun y=>Hu (A:=Au 51 2 k' q' (Ai (BX c d i))) (b:=b7) (x:=.box 4 [bv true]) (x':=.box 4 [bv true]) (by simpa only [List.append_assoc,List.cons_append,List.nil_append] using hB y) (by simpa only [List.append_assoc,List.cons_append,List.nil_append,AN,List.map_append,List.map_cons] using hnd3)
    rw [hk]
    exact hh _
   have h16':H2 b16=some (.box 40 [i64 x.me,i64 x.f,i64 x.t,i64 x.al,i64 x.bl,i64 x.ki,EX x.ts,i64 x.mo,Ej x.ad]):=by
    rw [hk,AE y4,AE y2]; simp -implicitDefEqProofs -proj only [go_sem,seval]
   clear hk hA hB
   obtain ⟨hrow',h7',h6',h4',h3',hmkH'⟩:=BI.1 hC
   have hbm':=hbm hmkH'
   have hk1':H2 k1=some (.row 51 2 p1 (Ai (FC c))):=by
    have h:=hmkH'
    rw [←hmkd] at h
    have h:=(BI.1 h.2).1
    rw [FE hner] at h
    exact h.1
   have hk2':H2 k'=some (.row 51 2 q' (Ai (BX c d i))):=by
    have h:=hrow'
    rw [FE hned] at h
    exact h.1
   rw [ET hneb,ET hner] at hbm'
   simp -implicitDefEqProofs only [Ge] at h6'
   rw [ET hned] at h6'
   rw [hm] at h16'
   simp -implicitDefEqProofs -proj only [go_sem,seval,h6',h16',hbm',hlr,hld]
   (repeat' (with_reducible refine Af ?_ (fun h=>?_); (focus first | decide | omega); clear h; try simp -implicitDefEqProofs -proj only [go_sem,seval,eq_self,h6',h16',hbm',hlr,hld,hk1',hk2']))
   refine EJ (G8 lA) hbd (by simp [G8]) ?_
   simp -implicitDefEqProofs -proj only [go_sem,seval,G8,h6',h16',hbm',hlr,hld]
   (repeat' (with_reducible refine Af ?_ (fun h=>?_); (focus first | decide | omega); clear h; try simp -implicitDefEqProofs -proj only [go_sem,seval,eq_self,h6',h16',hbm',hlr,hld,hk1',hk2']))
   refine EJ _ hb3 (by simp) ?_
   simp -implicitDefEqProofs -proj only [go_sem,seval,h6',h16',hbm',hlr,hld]
   refine EW hsum ?_
   simp -implicitDefEqProofs -proj only [go_sem,seval,h6',h16',hbm',hlr,hld]
   refine AK (fun b17 hb17=>?_)
   replace hb17:H2 b17=none:=hb17
   obtain ⟨u1,u2⟩:=AH hb17 h6'
   obtain ⟨u3,u4⟩:=AH hb17 h7'
   obtain ⟨u5,u6⟩:=AH hb17 h16'
   obtain ⟨u7,u8⟩:=AH hb17 hk2'
   simp -implicitDefEqProofs -proj only [go_sem,seval,h6',h16',hbm',hlr,hld,u1,u2,u3,u4,u5,u6,u7,u8]
   (repeat' (with_reducible refine Af ?_ (fun h=>?_); (focus first | decide | omega); clear h; try simp -implicitDefEqProofs -proj only [go_sem,seval,eq_self,h6',h7',h16',hbm',hlr,hld,hk1',hk2',u1,u2,u3,u4,u5,u6,u7,u8]))
   refine AIM (cap:=q') (t:=51) (xs:=Ai (BX c d i)) (el:=G8 lA) (by simp -implicitDefEqProofs -proj only [go_sem,seval,u7,u8]; exact hk2') (by rw [Int.toNat_natCast]; exact hbd) (by simp [G8]) ?_
   have v1:¬k'=b7:=fun e=>by
    rw [e] at hk2'; rw [hk2'] at h7'; cases h7'
   have v2:¬b7=k':=fun e=>v1 e.symm
   simp -implicitDefEqProofs -proj only [go_sem,seval,u1,u2,u3,u4,u5,u6,u7,u8,h7',v1,v2]
   have hned2:Ai (BX c d (i+1))≠[]:=by intro e; have:=congrArg List.length e; rw [Ft,List.length_nil,Hm] at this; omega
   have hld2:(Ai (BX c d (i+1))).length=c.ms.length:=by rw [Ft,Hm]
   have hnd4:(AN ((k',Blk.row 51 2 q' (Ai (BX c d i)))::(b7,.box 4 [bv true])::(b6,Ge b6 k' q' f t (Fw c d i+pv x 0) (BX c d i))::(b4,.box 47 [i64 0,i64 0,i64 0,.nilsl 2])::(b3,.box 82 [i64 f,i64 t,u64 sv])::mk)).Nodup:=by
    have h:=hnd3
    rw [FE hned] at h
    simpa only [AN,List.map_cons,List.cons_append,List.nil_append] using h
   have hD:=fun y=>Ak (y:=y) hb17 hC
   rw [FE hned] at hD
   have hE:=fun y=>Hu (A:=[]) (b:=k') (x':=Blk.row 51 2 q' (Ai (BX c d (i+1)))) (hD y) hnd4
   have hF:=fun y=>Hu (A:=[(k',Blk.row 51 2 q' (Ai (BX c d (i+1))))]) (b:=b7) (x:=.box 4 [bv true]) (x':=.box 4 [bv true]) (hE y) (by simpa only [AN,List.map_cons,List.cons_append,List.nil_append] using hnd4)
   refine AZ ⟨i+1,k',q'⟩ ⟨by show i+1≤c.ps.length; omega,?_⟩ (by show c.ps.length-(i+1)<c.ps.length-i; omega) rfl ?_ ?_
   ·simp -implicitDefEqProofs only [GH,GB,Hc,HT]
    rw [FE hned2]
    simpa only [AN,List.map_cons,List.cons_append,List.nil_append] using hnd4
   ·simp -implicitDefEqProofs -proj only [go_sem,seval,AL,GB,AP (show i<9223372036854775807 by omega)]
   ·simp -implicitDefEqProofs only [GH,GB,Hc,HT,hin hw]
    rw [FE hned2]
    simp -implicitDefEqProofs only [Ge,ET hned2,hld2]
    simp -implicitDefEqProofs only [Ge,ET hned,hld] at hF
    have hG:=hF (some (.box 51 [i64 ((lS.length:Int)-1),Fa (ES lS)]))
    simp -implicitDefEqProofs only [←hset] at hG ⊢
    exact hG
  ·simp -implicitDefEqProofs -proj only [go_sem,seval,decide_eq_false hw,y1,y2,y3,y4,y5,y6]
   refine AZ ⟨i+1,k',q'⟩ ⟨by show i+1≤c.ps.length; omega,?_⟩ (by show c.ps.length-(i+1)<c.ps.length-i; omega) rfl ?_ ?_
   ·simpa only [GH,GB,Hc,HT,AN,List.map_append,List.map_cons,hdo hw] using hnd3
   ·simp -implicitDefEqProofs -proj only [go_sem,seval,AL,GB,AP (show i<9223372036854775807 by omega)]
   ·simp -implicitDefEqProofs only [GB,Hc,HT,hout hw,hdo hw]
    exact Ak hb16 hall3
 ·have hi':i=c.ps.length:=by omega
  subst hi'
  have z1:¬b4=b6:=n4
  have z2:¬b6=b4:=n3
  simp -implicitDefEqProofs -proj only [go_sem,seval,GB,Hc,HT,hH,decide_eq_false (show ¬(c.ps.length:Int)<c.ps.length by omega),h6,h7,h4,n1,n2,n3,n4,n5,n6,n7,n8,n9,n10,n11,n12]
  (repeat' (with_reducible refine Af ?_ (fun h=>?_); (focus first | decide | omega); clear h; try simp -implicitDefEqProofs -proj only [go_sem,seval,eq_self,h6,h7,h4,n1,n2,n3,n4,n5,n6,n7,n8,n9,n10,n11,n12]))
  refine ⟨k',q',?_,[(b7,.box 4 [bv true]),(b6,Ge b6 k' q' f t (Fw c d c.ps.length) (BX c d c.ps.length)),(b4,.box 47 [i64 f,i64 t,i64 (Fw c d c.ps.length),BU 2 2 k' q' (Ai (BX c d c.ps.length))]),(b3,.box 82 [i64 f,i64 t,u64 sv])],?_,?_⟩
  ·rw [AEY hf.good,Pf]
  ·rw [←Pf]
   have hup:=Hu (A:=Au 51 2 k' q' (Ai (BX c d c.ps.length))++[(b7,.box 4 [bv true]),(b6,Ge b6 k' q' f t (Fw c d c.ps.length) (BX c d c.ps.length))]) (b:=b4) (x:=.box 47 [i64 0,i64 0,i64 0,.nilsl 2]) (x':=.box 47 [i64 f,i64 t,i64 (Fw c d c.ps.length),BU 2 2 k' q' (Ai (BX c d c.ps.length))]) (B:=(b3,.box 82 [i64 f,i64 t,u64 sv])::mk) (by simpa only [List.append_assoc,List.cons_append,List.nil_append] using hall3) (by simpa only [List.append_assoc,List.cons_append,List.nil_append] using hnd3)
   simpa only [List.append_assoc,List.cons_append,List.nil_append] using hup
  ·rw [←Pf]
   simpa only [AN,List.map_append,List.map_cons,List.append_assoc,List.cons_append,List.nil_append,List.map_nil] using hnd3
theorem AGy {a b:List (List Int)} (ha:∀l∈a,BN l) (hb:∀l∈b,BN l) (hla:a.length≤1000000) (hlb:b.length≤1000000):DataW Tryz.prog AIl [FO a,FO b,.fn N6 []] (bv (decide (a=b))):=by
 refine Aa AFu (by simp) ?_
 by_cases hl:a.length=b.length
 rotate_left
 ·simp -implicitDefEqProofs -proj only [go_sem,seval,Ft,decide_eq_false (show ¬(a.length:Int)=b.length by omega)]
  exact AI (by rw [decide_eq_false (fun e=>hl (by rw [e]))])
 simp -implicitDefEqProofs -proj only [go_sem,seval,Ft,decide_eq_true (show (a.length:Int)=b.length by omega)]
 refine BE (fun i:Nat=>i≤a.length∧∀(j:Nat) (h:j<a.length) (h2:j<b.length),j<i→a[j]=b[j]) 32 (fun i=>[(0,FO a),(1,FO b),(2,.fn N6 []),(15,FO a),(16,i64 a.length),(17,i64 i)]) (fun _=>[]) (fun i=>a.length-i) 0 ⟨Nat.zero_le _,fun j _ _ h=>absurd h (Nat.not_lt_zero _)⟩ rfl ?_ ?_ ?_
 ·simp -implicitDefEqProofs -proj only [go_sem,seval,AL]
  try simp [hl]
 ·simp -implicitDefEqProofs -proj only [go_sem,seval,AU]
 ·rintro i ⟨hi,hat⟩
  by_cases h:i<a.length
  ·have h':i<b.length:=by omega
   have e1:=Kc h
   have e2:=Kc h'
   have ca:=ha _ (List.getElem_mem h)
   have cb:=hb _ (List.getElem_mem h')
   have hst:=fun (e:a[i]=b[i])=>Il (l:=List.range a.length) (P:=fun j _=>∀(h:j<a.length) (h2:j<b.length),a[j]=b[j]) (i:=i) (x:=i) (by simp [h]) (fun j hj hji=>fun h1 h2=>hat j h1 h2 hji) (fun _ _=>e)
   have hne:=fun (e:¬a[i]=b[i])=>show ¬a=b from fun k=>e (by subst k; rfl)
   have hcall:=RV (m:=(a[i].length:Int)-1) (n:=(b[i].length:Int)-1) (a:=ES a[i]) (b:=ES b[i]) (by have:=@Jc a[i]; have:=ca.2.1; omega) (by have:=@Jc b[i]; have:=cb.2.1; omega)
   rw [show decide ((a[i].length:Int)-1=(b[i].length:Int)-1∧ES a[i]=ES b[i])=decide (a[i]=b[i]) from decide_eq_decide.2 Qc] at hcall
   generalize a[i]=x at *
   generalize b[i]=y at *
   simp -implicitDefEqProofs -proj only [go_sem,seval,decide_eq_true (show (i:Int)<a.length by omega)]
   refine Ah _ (by omega) e1 ?_
   simp -implicitDefEqProofs -proj only [go_sem,seval]
   refine AK (fun b8 hb8=>?_)
   simp -implicitDefEqProofs -proj only [go_sem,seval]
   refine Ah _ (by omega) e2 ?_
   simp -implicitDefEqProofs -proj only [go_sem,seval]
   refine AK (fun b9 hb9=>?_)
   simp -implicitDefEqProofs only [AX] at hb9
   have n1:¬b8=b9:=fun e=>by subst e; simp at hb9
   have n2:¬b9=b8:=fun e=>n1 e.symm
   simp -implicitDefEqProofs -proj only [go_sem,seval,n1,n2]
   refine AJ hcall ?_
   by_cases hp:x=y
   ·simp -implicitDefEqProofs -proj only [go_sem,seval,decide_eq_true hp]
    refine AZ (i+1) ⟨by omega,fun j h1 h2 hj=>hst hp j (by simpa using h1) (by omega) h1 h2⟩ (by omega) rfl ?_ trivial
    simp -implicitDefEqProofs -proj only [go_sem,seval,AL,AP (show i<9223372036854775807 by omega)]
   ·simp -implicitDefEqProofs -proj only [go_sem,seval,decide_eq_false hp]
    exact AI (by rw [decide_eq_false (hne hp)])
  ·have hi':i=a.length:=by omega
   subst hi'
   simp -implicitDefEqProofs -proj only [go_sem,seval,decide_eq_false (show ¬(a.length:Int)<a.length by omega)]
   exact AI (by rw [decide_eq_true (List.ext_getElem hl fun j h1 h2=>hat j h1 h2 h1)])
theorem Lw {a b:Seg EU} (ha:∀l∈a.v.2,BN l) (hb:∀l∈b.v.2,BN l) (hla:a.v.2.length≤1000000) (hlb:b.v.2.length≤1000000):DataW Tryz.prog AAN [Jm a,Jm b] (bv (decide (a.v=b.v))):=by
 have h1:=AGy ha hb hla hlb
 obtain ⟨f,t,⟨x,la⟩⟩:=a
 obtain ⟨g,u,⟨y,lb⟩⟩:=b
 simp -implicitDefEqProofs only [] at h1 ⊢
 refine Aa ASX (by simp) ?_
 simp -implicitDefEqProofs -proj only [go_sem,seval]
 refine AK (fun b2 hb2=>?_)
 simp -implicitDefEqProofs -proj only [go_sem,seval]
 refine AK (fun b3 hb3=>?_)
 replace hb3:upd Heap.none b2 _ b3=none:=hb3
 obtain ⟨n1,n2⟩:=AH hb3 AQ
 by_cases hxy:x=y
 ·simp -implicitDefEqProofs -proj only [go_sem,seval,n1,n2,decide_eq_true hxy]
  refine AJ h1 ?_
  simp -implicitDefEqProofs -proj only [go_sem,seval]
  exact AI (by rw [decide_eq_decide.2 (show (x,la)=(y,lb)↔la=lb from ⟨fun e=>(Prod.mk.inj e).2,fun e=>by rw [hxy,e]⟩)])
 ·simp -implicitDefEqProofs -proj only [go_sem,seval,n1,n2,decide_eq_false hxy]
  exact AI (by rw [decide_eq_false (fun e=>hxy (Prod.mk.inj e).1)])
def F3 (l:List Int) (i:Nat):List Int:=(F6 0 l i).map (·.f)
theorem Wn {l:List Int} {i:Nat} (h:i<l.length):F3 l (i+1)=if i=0∨l.getD (i-1) 0≠l[i] then F3 l i++[(i:Int)] else F3 l i:=by
 unfold F3
 rw [F6,A5]
 have hx:l.getD i 0=l[i]:=by simp [h]
 rw [hx]
 cases i with
 | zero =>
  rw [if_pos (.inl rfl)]
  simp [F6]
 | succ i =>
  obtain ⟨q,h1,h2,h3⟩:=@Rm 0 l i
  rw [h1]
  simp -implicitDefEqProofs only [Nat.add_sub_cancel]
  rw [h2]
  by_cases hv:l.getD i 0=l[i+1]
  ·rw [if_pos hv,if_neg (fun h=>h.elim (by omega) (fun e=>e hv))]
   have hne:F6 0 l (i+1)≠[]:=Ki
   conv=>rhs; rw [←List.dropLast_concat_getLast hne]
   rw [List.getLast?_eq_some_getLast hne] at h1
   cases h1
   simp
  ·rw [if_neg hv,if_pos (.inr hv)]
   simp
structure RX where
 i:Nat
 c:Nat
 cap:Nat
theorem Iw {i c cap:Nat}:(RX.mk i c cap).i=i:=(rfl)
theorem Jd {i c cap:Nat}:(RX.mk i c cap).c=c:=(rfl)
theorem JX {i c cap:Nat}:(RX.mk i c cap).cap=cap:=(rfl)
structure RY where
 i:Nat
 d:Nat
 dap:Nat
 G:List Grp
theorem Gt {i d dap:Nat} {G:List Grp}:(RY.mk i d dap G).i=i:=(rfl)
theorem IS {i d dap:Nat} {G:List Grp}:(RY.mk i d dap G).d=d:=(rfl)
theorem IP {i d dap:Nat} {G:List Grp}:(RY.mk i d dap G).dap=dap:=(rfl)
theorem Fy {i d dap:Nat} {G:List Grp}:(RY.mk i d dap G).G=G:=(rfl)
def LM (b2:Nat) (l:List Int) (y:RX):List (Nat×Blk):=Au 3 1 y.c y.cap (AY (F3 l y.i))++[(b2,.box 51 [i64 0,.nilsl 5])]
def I7 (b7 b2 c cap:Nat) (l ST:List Int) (y:RY):List (Nat×Blk):=Au 65 5 y.d y.dap (BA y.G)++[(b7,.box 51 [i64 ((l.length:Int)-1),BU 5 5 y.d y.dap (BA y.G)]),(b2,.box 51 [i64 0,.nilsl 5]),(c,.row 3 1 cap (AY ST))]
theorem TZ {a:Nat} {A B:List Nat} (h:(a::(A++B)).Nodup):(A++a::B).Nodup:=(List.perm_middle.nodup_iff).2 h
theorem MZ {a:Nat} {A B:List Nat} (h:(A++a::B).Nodup):(A++B).Nodup:=(List.nodup_cons.1 ((List.perm_middle.nodup_iff).1 h)).2
set_option maxRecDepth 20000 in
set_option maxHeartbeats 1000000 in
theorem SB {l:List Int} (hfl:JC l) (hl:l.length≤3000):NewW Tryz.prog TJ [Gq l] (if BN l then .tup [Em l,bv true] else .tup [Ew 0 [],bv false]):=by
 refine Aa AB9 (by simp) ?_
 simp -implicitDefEqProofs -proj only [go_sem,seval]
 refine AK (fun b2 hb2=>?_)
 by_cases h0:l.length=0
 ·have:¬BN l:=fun h=>h.1 (List.length_eq_zero_iff.1 h0)
  rw [if_neg this]
  simp -implicitDefEqProofs -proj only [go_sem,seval,rowI_len,decide_eq_true (show (l.length:Int)=0 by omega)]
  exact I2 (I5 (.nilsl _ _))
 by_cases h1:2001<(l.length:Int)
 ·have:¬BN l:=fun h=>by have:=h.2.1; omega
  rw [if_neg this]
  simp -implicitDefEqProofs -proj only [go_sem,seval,rowI_len,decide_eq_false (show ¬(l.length:Int)=0 by omega),decide_eq_true h1]
  exact I2 (I5 (.nilsl _ _))
 have a2:=G4 (x:=.box 51 [i64 0,.nilsl 5]) hb2 (l:=[]) trivial
 have n2:=HD (x:=.box 51 [i64 0,.nilsl 5]) hb2 (l:=[]) trivial List.nodup_nil
 simp -implicitDefEqProofs -proj only [go_sem,seval,rowI_len,decide_eq_false (show ¬(l.length:Int)=0 by omega),decide_eq_false h1]
 refine BE (fun y:RX=>y.i≤l.length∧(∀(j:Nat) (h:j<l.length),j<y.i→E0 l[j])∧(AN (LM b2 l y)).Nodup) 165 (fun y=>[(0,Gq l),(2,.ptr b2 0),(4,BU 0 1 y.c y.cap (AY (F3 l y.i))),(19,Gq l),(20,i64 l.length),(21,i64 y.i)]) (LM b2 l) (fun y=>l.length-y.i) ⟨0,0,0⟩ ⟨Nat.zero_le _,fun j _ h=>absurd h (Nat.not_lt_zero _),n2⟩ rfl ?_ ?_ ?_
 ·simp -implicitDefEqProofs -proj only [go_sem,seval,AL,Iw,Jd,JX]
  rfl
 ·simp -implicitDefEqProofs -proj only [go_sem,seval]
  exact a2
 ·rintro ⟨i,c,cap⟩ ⟨hi,hsm,hn⟩
  simp -implicitDefEqProofs only [Iw] at hi hsm
  have hall:=EQ hn
  obtain ⟨H,hH⟩:∃H,Ae (LM b2 l ⟨i,c,cap⟩)=H:=⟨_,rfl⟩
  rw [hH] at hall
  simp -implicitDefEqProofs only [LM,Iw,Jd,JX] at hall hn
  obtain ⟨hrow,k2,_⟩:=BI.1 hall
  by_cases h:i<l.length
  ·have hel:=Pp h
   have hst:=Wn h
   have hsl:(F3 l i).length≤i:=by unfold F3; rw [List.length_map]; exact LA i
   have hstep:E0 l[i]→∀(j:Nat) (h:j<l.length),j<i+1→E0 l[j]:=by
    intro e j h1 h2
    by_cases hj:j=i
    ·subst hj; exact e
    ·exact hsm j h1 (by omega)
   have hno:¬E0 l[i]→¬BN l:=fun e k=>e (k.2.2 _ (List.getElem_mem h))
   have hprev:0<i→(AY l)[((i-1:Nat):Int).toNat]? = some [.int .i64 (l.getD (i-1) 0)]:=fun hp=>by
    rw [Int.toNat_natCast]
    exact Jv (by rw [List.getD_eq_getElem?_getD,List.getElem?_eq_getElem (by omega)]; rfl)
   have w1:IntKind.i64.wrap ((i:Int)-1)=(i:Int)-1:=by rw [IntKind.wrap_i64]; omega
   generalize l[i]=x at *
   generalize l.getD (i-1) 0=p at *
   unfold E0 at hstep hno
   simp -implicitDefEqProofs -proj only [go_sem,seval,Iw,Jd,JX,hH,decide_eq_true (show (i:Int)<l.length by omega)]
   refine Ah _ (by omega) hel ?_
   by_cases c1:2305843009213693952<x
   ·rw [if_neg (hno (by omega))]
    simp -implicitDefEqProofs -proj only [go_sem,seval,k2,decide_eq_true c1]
    exact I2 (I5 (.nilsl _ _))
   by_cases c2:x < -2305843009213693952
   ·rw [if_neg (hno (by omega))]
    simp -implicitDefEqProofs -proj only [go_sem,seval,k2,decide_eq_false c1,decide_eq_true c2]
    exact I2 (I5 (.nilsl _ _))
   by_cases hi0:i=0
   ·rw [if_pos (.inl hi0)] at hst
    simp -implicitDefEqProofs -proj only [go_sem,seval,k2,decide_eq_false c1,decide_eq_false c2,decide_eq_true (show (i:Int)=0 by omega)]
    refine An (fun bs hs'=>?_)
    replace hs':H bs=none:=hs'
    simp -implicitDefEqProofs -proj only [go_sem,seval]
    refine FL (xs:=AY (F3 l i)) (y:=[.int .i64 (i:Int)]) (t:=3) (capc:=1) [(b2,.box 51 [i64 0,.nilsl 5])] rfl (Ak hs' hall) hn (by simp -implicitDefEqProofs -proj only [go_sem,seval]) (by rw [rowI_len]; omega) (by rw [rowI_len]; omega) (fun H' c' cap' ha hk=>?_)
    rw [show AY (F3 l i)++[[.int .i64 (i:Int)]]=AY (F3 l (i+1)) by rw [hst]; simp [AY]] at ha hk
    have hne:AY (F3 l (i+1))≠[]:=by rw [hst]; simp [AY]
    have hl2:(AY (F3 l (i+1))).length=(AY (F3 l i)).length+1:=by rw [hst]; simp [AY]
    simp -implicitDefEqProofs -proj only [go_sem,seval]
    refine AZ ⟨i+1,c',cap'⟩ ⟨by show i+1≤l.length; omega,hstep (by omega),hk⟩ (by show l.length-(i+1)<l.length-i; omega) rfl ?_ ha
    simp -implicitDefEqProofs -proj only [go_sem,seval,AL,Iw,Jd,JX,AP (show i<9223372036854775807 by omega),ET hne,hl2]
   ·have hp:=hprev (by omega)
    simp -implicitDefEqProofs -proj only [go_sem,seval,k2,decide_eq_false c1,decide_eq_false c2,decide_eq_false (show ¬(i:Int)=0 by omega),w1]
    refine Ah _ (by omega) (i:=(i:Int)-1) (by rw [show (i:Int)-1=((i-1:Nat):Int) by omega]; exact hp) ?_
    by_cases hpx:p=x
    ·rw [if_neg (fun h=>h.elim hi0 (fun e=>e hpx))] at hst
     simp -implicitDefEqProofs -proj only [go_sem,seval,decide_eq_true hpx]
     refine AZ ⟨i+1,c,cap⟩ ⟨by show i+1≤l.length; omega,hstep (by omega),by simp -implicitDefEqProofs only [LM,Iw,Jd,JX,hst]; exact hn⟩ (by show l.length-(i+1)<l.length-i; omega) rfl ?_ (by simp -implicitDefEqProofs only [LM,Iw,Jd,JX,hst]; exact hall)
     simp -implicitDefEqProofs -proj only [go_sem,seval,AL,Iw,Jd,JX,hst,AP (show i<9223372036854775807 by omega)]
    ·rw [if_pos (.inr hpx)] at hst
     simp -implicitDefEqProofs -proj only [go_sem,seval,decide_eq_false hpx]
     refine An (fun bs hs'=>?_)
     replace hs':H bs=none:=hs'
     simp -implicitDefEqProofs -proj only [go_sem,seval]
     refine FL (xs:=AY (F3 l i)) (y:=[.int .i64 (i:Int)]) (t:=3) (capc:=1) [(b2,.box 51 [i64 0,.nilsl 5])] rfl (Ak hs' hall) hn (by simp -implicitDefEqProofs -proj only [go_sem,seval]) (by rw [rowI_len]; omega) (by rw [rowI_len]; omega) (fun H' c' cap' ha hk=>?_)
     rw [show AY (F3 l i)++[[.int .i64 (i:Int)]]=AY (F3 l (i+1)) by rw [hst]; simp [AY]] at ha hk
     have hne:AY (F3 l (i+1))≠[]:=by rw [hst]; simp [AY]
     have hl2:(AY (F3 l (i+1))).length=(AY (F3 l i)).length+1:=by rw [hst]; simp [AY]
     simp -implicitDefEqProofs -proj only [go_sem,seval]
     refine AZ ⟨i+1,c',cap'⟩ ⟨by show i+1≤l.length; omega,hstep (by omega),hk⟩ (by show l.length-(i+1)<l.length-i; omega) rfl ?_ ha
     simp -implicitDefEqProofs -proj only [go_sem,seval,AL,Iw,Jd,JX,AP (show i<9223372036854775807 by omega),ET hne,hl2]
  ·have hi':i=l.length:=by omega
   subst hi'
   have hcur:BN l:=⟨fun e=>h0 (by rw [e]; rfl),by omega,fun v hv=>by obtain ⟨j,hj,rfl⟩:=List.getElem_of_mem hv; exact hsm j hj hj⟩
   rw [if_pos hcur]
   have hwl:IntKind.i64.wrap ((l.length:Int)-1)=(l.length:Int)-1:=by rw [IntKind.wrap_i64]; omega
   obtain ⟨hro,hRl⟩:=KM (J6.2 hcur)
   have hmem:=(Ib 0 l).mem_val
   have hR0:0<(Az 0 l).length:=List.length_pos_iff.2 (fun e=>hcur.1 (MA.1 e))
   have hST:F3 l l.length=(Az 0 l).map (·.f):=rfl
   have hget:∀(j:Nat) (h:j<(Az 0 l).length),0≤(Az 0 l)[j].f∧(AY l)[(Az 0 l)[j].f.toNat]? = some [.int .i64 (Az 0 l)[j].v]:=fun j h=>by
    obtain ⟨m1,m2,m3,m4⟩:=hmem _ (List.getElem_mem h)
    refine ⟨m1,Jv ?_⟩
    have hi:(Az 0 l)[j].f.toNat<l.length:=by omega
    have:=LU (f:=0) hi
    rw [Int.zero_add,show (((Az 0 l)[j].f.toNat:Nat):Int)=(Az 0 l)[j].f by omega,m4] at this
    rw [List.getElem?_eq_getElem hi,this]
   obtain ⟨ST,hSTe⟩:∃ST,F3 l l.length=ST:=⟨_,rfl⟩
   rw [hSTe] at hST hrow hn
   have hcv:Em l=Ew ((l.length:Int)-1) (GC (Az 0 l)):=rfl
   rw [hcv]
   generalize Az 0 l=R at *
   have hSTl:ST.length=R.length:=by rw [hST,List.length_map]
   have hSTn:∀(j:Nat) (h:j<R.length),(AY ST)[j]? = some [.int .i64 R[j].f]:=fun j h=>Jv (by rw [hST]; simp [h])
   have hSTne:AY ST≠[]:=fun e=>by have:=congrArg List.length e; rw [rowI_len,hSTl,List.length_nil] at this; omega
   rw [FE hSTne] at hrow hn
   have kc:=hrow.1
   have hcb:¬c=b2:=by
    simp -implicitDefEqProofs only [AN,List.map_append,List.map_cons,List.map_nil,List.nodup_append,List.mem_singleton] at hn
    exact hn.2.2 c rfl b2 rfl
   simp -implicitDefEqProofs -proj only [go_sem,seval,Iw,Jd,JX,hH,hSTe,k2,rowI_len,hwl,decide_eq_false (show ¬(l.length:Int)<l.length by omega),ET hSTne]
   refine AK (fun b7 hb7=>?_)
   replace hb7:H b7=none:=hb7
   obtain ⟨m1,m2⟩:=AH hb7 k2
   obtain ⟨m3,m4⟩:=AH hb7 kc
   simp -implicitDefEqProofs -proj only [go_sem,seval,m1,m2,m3,m4,k2,kc]
   refine BE (fun y:RY=>y.i≤R.length∧GC R=y.G++GC (R.drop y.i)∧y.G.length≤y.i∧(AN (I7 b7 b2 c cap l ST y)).Nodup) 165 (fun y=>[(0,Gq l),(2,.ptr b2 0),(4,.own c 1 0 ST.length cap),(7,.ptr b7 0),(8,i64 y.i)]) (I7 b7 b2 c cap l ST) (fun y=>R.length-y.i) ⟨0,0,0,[]⟩ ⟨Nat.zero_le _,rfl,Nat.le_refl _,by simp [AN,I7,Fy,BA,IW,m1,m3,show ¬b2=c from fun e=>hcb e.symm]⟩ rfl ?_ ?_ ?_
   ·simp -implicitDefEqProofs -proj only [go_sem,seval,AL,Gt]
   ·simp -implicitDefEqProofs -proj only [go_sem,seval,AU,I7,Fy,IS,IP,BA,List.map_nil,IW,KI,m1,m3,k2,kc]
   ·rintro ⟨i,d,dap,G⟩ ⟨hi,hG,hGl,hn'⟩
    simp -implicitDefEqProofs only [Gt,Fy] at hi hG hGl
    have hall':=EQ hn'
    obtain ⟨H1,hH1⟩:∃H1,Ae (I7 b7 b2 c cap l ST ⟨i,d,dap,G⟩)=H1:=⟨_,rfl⟩
    rw [hH1] at hall'
    simp -implicitDefEqProofs only [I7,Gt,IS,IP,Fy] at hall' hn'
    obtain ⟨hrow1,j7,j2,jc,_⟩:=BI.1 hall'
    by_cases hlt:i<R.length
    ·obtain ⟨S,hSe⟩:∃S,R.drop i=S:=⟨_,rfl⟩
     have hSl:S.length=R.length-i:=by rw [←hSe,List.length_drop]
     have hSj:∀(j:Nat) (h:j<S.length),S[j]=R[i+j]'(by omega):=fun j h=>by subst hSe; simp
     have hSs:∀(j:Nat) (h:j<S.length),(AY ST)[i+j]? = some [.int .i64 S[j].f]:=fun j h=>by rw [hSj j h]; exact hSTn _ _
     have hSg:∀(j:Nat) (h:j<S.length),0≤S[j].f∧(AY l)[S[j].f.toNat]? = some [.int .i64 S[j].v]:=fun j h=>by rw [hSj j h]; exact hget _ _
     have hSo:∀(j:Nat) (h:j<S.length),IK S[j]:=fun j h=>by rw [hSj j h]; exact hro _ (List.getElem_mem _)
     have hS0:0<S.length:=by omega
     have hstep:=QC hS0
     rw [hSe] at hG
     have es:=hSs 0 hS0
     rw [Nat.add_zero] at es
     obtain ⟨ef0,ev⟩:=hSg 0 hS0
     have ho0:=hSo 0 hS0
     have hdr:∀n,S.drop n=R.drop (i+n):=fun n=>by rw [←hSe,List.drop_drop]
     have hw1:IntKind.i64.wrap ((i:Int)+1)=((i+1:Nat):Int):=by rw [IntKind.wrap_i64]; omega
     have hmid:∀(b9:Nat) (x:Blk),H1 b9=none→(AN (Au 65 5 d dap (BA G)++[(b9,x),(b7,.box 51 [i64 ((l.length:Int)-1),BU 5 5 d dap (BA G)]),(b2,.box 51 [i64 0,.nilsl 5]),(c,.row 3 1 cap (AY ST))])).Nodup:=fun b9 x hb=>by
      have:=HD (x:=x) hb hall' hn'
      simp -implicitDefEqProofs only [AN,List.map_append,List.map_cons] at this ⊢
      exact TZ this
     simp -implicitDefEqProofs -proj only [go_sem,seval,Gt,IS,IP,Fy,hH1,rowI_len,hSTl,decide_eq_true (show (i:Int)<R.length by omega)]
     (repeat' (with_reducible refine Af ?_ (fun h=>?_); (focus first | decide | omega); clear h; try simp -implicitDefEqProofs -proj only [go_sem,seval,hSTl]))
     simp -implicitDefEqProofs -proj only [go_sem,seval,jc]
     refine BB _ (by rw [Int.toNat_natCast]; exact es) (by simp) ?_
     simp -implicitDefEqProofs -proj only [go_sem,seval,jc]
     refine BB _ (by rw [Int.toNat_natCast]; exact es) (by simp) ?_
     simp -implicitDefEqProofs -proj only [go_sem,seval]
     refine Ah _ ef0 ev ?_
     simp -implicitDefEqProofs -proj only [go_sem,seval]
     refine AK (fun b9 hb9=>?_)
     replace hb9:H1 b9=none:=hb9
     obtain ⟨p1,p2⟩:=AH hb9 j7
     obtain ⟨p3,p4⟩:=AH hb9 j2
     obtain ⟨p5,p6⟩:=AH hb9 jc
     by_cases hi1:i+1<R.length
     ·have hS1:1<S.length:=by omega
      have hgq:=QD hS1
      obtain ⟨w,hw⟩:∃w,S[1].f-S[0].f=w:=⟨_,rfl⟩
      obtain ⟨r,hr⟩:∃r,S[1].v-S[0].v=r:=⟨_,rfl⟩
      rw [hw,hr] at hgq
      obtain ⟨n,hn9⟩:∃n,E8 w r S[0] (S.drop 1)+1=n:=⟨_,rfl⟩
      rw [hn9] at hgq
      have hgle:=@Je S[0] (S.drop 1)
      rw [hgq] at hstep hgle
      simp -implicitDefEqProofs only [List.length_drop] at hgle
      have hc2:2+E8 w r S[1] (S.drop 2)=n:=by
       have this:E8 w r S[0] (S.drop 1)=if S[1].f-S[0].f=w∧S[1].v-S[0].v=r then E8 w r S[1] (S.drop 2)+1 else 0:=Ou (w:=w) (r:=r) (S:=S) (c:=1) (by omega) hS1
       rw [if_pos ⟨hw,hr⟩] at this
       omega
      have es1:=hSs 1 hS1
      obtain ⟨ef1,ev1⟩:=hSg 1 hS1
      have ho1:=hSo 1 hS1
      unfold IK at ho0 ho1
      have wW:IntKind.i64.wrap (S[1].f-S[0].f)=w:=by rw [IntKind.wrap_i64]; omega
      have wR:IntKind.i64.wrap (S[1].v-S[0].v)=r:=by rw [IntKind.wrap_i64]; omega
      simp -implicitDefEqProofs -proj only [go_sem,seval,p1,p2,p3,p4,p5,p6,j7,j2,jc,rowI_len,hSTl,hw1,decide_eq_true (show ((i+1:Nat):Int)<R.length by omega)]
      (repeat' (with_reducible refine Af ?_ (fun h=>?_); (focus first | decide | omega); clear h; try simp -implicitDefEqProofs -proj only [go_sem,seval,hSTl]))
      try simp -implicitDefEqProofs -proj only [go_sem,seval,p1,p2,p3,p4,p5,p6,jc]
      refine BB _ (by rw [Int.toNat_natCast]; exact es1) (by simp) ?_
      simp -implicitDefEqProofs -proj only [go_sem,seval,p1,p2,p3,p4,p5,p6,jc]
      refine BB _ (by rw [Int.toNat_natCast]; exact es) (by simp) ?_
      simp -implicitDefEqProofs -proj only [go_sem,seval,p1,p2,p3,p4,p5,p6,jc,wW,hw1]
      (repeat' (with_reducible refine Af ?_ (fun h=>?_); (focus first | decide | omega); clear h; try simp -implicitDefEqProofs -proj only [go_sem,seval,hSTl]))
      try simp -implicitDefEqProofs -proj only [go_sem,seval,p1,p2,p3,p4,p5,p6,jc]
      refine BB _ (by rw [Int.toNat_natCast]; exact es1) (by simp) ?_
      simp -implicitDefEqProofs -proj only [go_sem,seval]
      refine Ah _ ef1 ev1 ?_
      simp -implicitDefEqProofs -proj only [go_sem,seval,wR,p1,p2,p3,p4,p5,p6]
      have hin:AU H1 (Au 65 5 d dap (BA G)++[(b7,.box 51 [i64 ((l.length:Int)-1),BU 5 5 d dap (BA G)]),(b2,.box 51 [i64 0,.nilsl 5]),(c,.row 3 1 cap (AY ST))]):=hall'
      refine BE (fun k:Nat=>2≤k∧i+k≤R.length∧∃h:k≤S.length∧1≤k,k+E8 w r (S[k-1]'(by omega)) (S.drop k)=n∧(S[k-1]'(by omega)).f=S[0].f+((k:Int)-1)*w) 165 (fun _=>[(0,Gq l),(2,.ptr b2 0),(4,.own c 1 0 R.length cap),(7,.ptr b7 0),(8,i64 i),(9,.ptr b9 0)]) (fun k=>Au 65 5 d dap (BA G)++[(b9,.box 65 [i64 S[0].f,i64 S[0].v,i64 w,i64 r,i64 k]),(b7,.box 51 [i64 ((l.length:Int)-1),BU 5 5 d dap (BA G)]),(b2,.box 51 [i64 0,.nilsl 5]),(c,.row 3 1 cap (AY ST))]) (fun k=>R.length-k) 2 ⟨Nat.le_refl _,by omega,⟨by omega,by omega⟩,hc2,by show S[1].f=S[0].f+(((2:Nat):Int)-1)*w; omega⟩ rfl ?_ ?_ ?_
      ·simp -implicitDefEqProofs -proj only [go_sem,seval,AL]
      ·refine BI.2 ⟨?_,?_⟩
       ·refine Fq hrow1 ?_ <;> exact OA hb9 hrow1
       ·simp -implicitDefEqProofs -proj only [go_sem,seval,AU,p1,p2,p3,p4,p5,p6,j7,j2,jc]
      ·rintro k ⟨hk2,hik,⟨hk3,hk1⟩,hkn,hkf⟩
       have hndk:=hmid b9 (.box 65 [i64 S[0].f,i64 S[0].v,i64 w,i64 r,i64 k]) hb9
       have hallk:=EQ hndk
       obtain ⟨H2,hH2⟩:∃H2,Ae (Au 65 5 d dap (BA G)++[(b9,.box 65 [i64 S[0].f,i64 S[0].v,i64 w,i64 r,i64 k]),(b7,.box 51 [i64 ((l.length:Int)-1),BU 5 5 d dap (BA G)]),(b2,.box 51 [i64 0,.nilsl 5]),(c,.row 3 1 cap (AY ST))])=H2:=⟨_,rfl⟩
       rw [hH2] at hallk
       obtain ⟨hrow2,i9,i7,i2,ic,_⟩:=BI.1 hallk
       have hwk:IntKind.i64.wrap ((i:Int)+k)=((i+k:Nat):Int):=by rw [IntKind.wrap_i64]; omega
       by_cases hlk:i+k<R.length
       ·have hSk:k<S.length:=by omega
        have esk:=hSs k hSk
        have esp:=hSs (k-1) (by omega)
        rw [show i+(k-1)=i+k-1 by omega] at esp
        obtain ⟨efk,evk⟩:=hSg k hSk
        obtain ⟨efp,evp⟩:=hSg (k-1) (by omega)
        have hok:=hSo k hSk
        have hop:=hSo (k-1) (by omega)
        have hrl:=Ou (w:=w) (r:=r) (S:=S) (c:=k) (by omega) hSk
        rw [hrl] at hkn
        unfold IK at hok hop
        have hkw:(k:Int)*w=((k:Int)-1)*w+w:=by rw [Int.sub_mul]; omega
        have wk1:IntKind.i64.wrap ((k:Int)*w)=(k:Int)*w:=by rw [IntKind.wrap_i64]; omega
        have wk2:IntKind.i64.wrap (S[0].f+(k:Int)*w)=S[0].f+(k:Int)*w:=by rw [IntKind.wrap_i64]; omega
        have wk3:IntKind.i64.wrap ((S[k-1]'(by omega)).v+r)=(S[k-1]'(by omega)).v+r:=by rw [IntKind.wrap_i64]; omega
        have wk4:IntKind.i64.wrap (((i+k:Nat):Int)-1)=((i+k-1:Nat):Int):=by rw [IntKind.wrap_i64]; omega
        have hnext:S[k].f-(S[k-1]'(by omega)).f=w→k+(E8 w r S[k] (S.drop (k+1))+1)=n→(2≤k+1∧i+(k+1)≤R.length∧∃h:k+1≤S.length∧1≤k+1,k+1+E8 w r (S[k+1-1]'(by omega)) (S.drop (k+1))=n∧(S[k+1-1]'(by omega)).f=S[0].f+(((k+1:Nat):Int)-1)*w):=fun e1 e2=>⟨by omega,by omega,⟨by omega,by omega⟩,by show k+1+E8 w r S[k] (S.drop (k+1))=n; omega,by show S[k].f=S[0].f+(((k+1:Nat):Int)-1)*w; rw [show ((k+1:Nat):Int)-1=(k:Int) by omega,hkw]; omega⟩
        simp -implicitDefEqProofs -proj only [go_sem,seval,hH2,i9,i7,i2,ic,rowI_len,hSTl,hwk,decide_eq_true (show ((i+k:Nat):Int)<R.length by omega)]
        (repeat' (with_reducible refine Af ?_ (fun h=>?_); (focus first | decide | omega); clear h; try simp -implicitDefEqProofs -proj only [go_sem,seval,hSTl]))
        try simp -implicitDefEqProofs -proj only [go_sem,seval,ic,i9,hwk]
        refine BB _ (by rw [Int.toNat_natCast]; exact esk) (by simp) ?_
        by_cases t1:S[k].f=S[0].f+(k:Int)*w
        rotate_left
        ·rw [if_neg (fun h=>t1 (by omega))] at hkn
         have hkn':n=k:=by omega
         subst hkn'
         simp -implicitDefEqProofs -proj only [go_sem,seval,i9,i7,i2,ic,wk1,wk2,decide_eq_false t1,if_neg (show ¬(4:Nat)=5 by decide)]
         refine An (fun bs hs'=>?_)
         replace hs':H2 bs=none:=hs'
         simp -implicitDefEqProofs -proj only [go_sem,seval]
         refine FL (xs:=BA G) (y:=[.int .i64 S[0].f,.int .i64 S[0].v,.int .i64 w,.int .i64 r,.int .i64 n]) (t:=65) (capc:=1) [(b9,.box 65 [i64 S[0].f,i64 S[0].v,i64 w,i64 r,i64 n]),(b7,.box 51 [i64 ((l.length:Int)-1),BU 5 5 d dap (BA G)]),(b2,.box 51 [i64 0,.nilsl 5]),(c,.row 3 1 cap (AY ST))] rfl (Ak hs' hallk) hndk (by simp -implicitDefEqProofs -proj only [go_sem,seval]) (by rw [GA]; omega) (by rw [GA]; omega) (fun H' d' dap' ha hk=>?_)
         rw [show BA G++[[.int .i64 S[0].f,.int .i64 S[0].v,.int .i64 w,.int .i64 r,.int .i64 n]]=BA (G++[(⟨S[0].f,S[0].v,w,r,(n:Int)⟩:Grp)]) from Le (g:=(⟨S[0].f,S[0].v,w,r,(n:Int)⟩:Grp))] at ha hk
         have hne2:BA (G++[(⟨S[0].f,S[0].v,w,r,(n:Int)⟩:Grp)])≠[]:=by simp [BA]
         obtain ⟨hrow',q9,q7,q2,qc,_⟩:=BI.1 ha
         have hwc:IntKind.i64.wrap ((i:Int)+(n:Int))=((i+n:Nat):Int):=by rw [IntKind.wrap_i64]; omega
         simp -implicitDefEqProofs -proj only [go_sem,seval,q9,q7,p1,p2,hwc]
         refine AZ ⟨i+n,d',dap',G++[(⟨S[0].f,S[0].v,w,r,(n:Int)⟩:Grp)]⟩ ⟨by show i+n≤R.length; omega,by simp -implicitDefEqProofs only [Gt,Fy]; rw [hG,hstep,hdr]; simp,by simp -implicitDefEqProofs only [Gt,Fy,List.length_append,List.length_singleton]; omega,?_⟩ (by show R.length-(i+n)<R.length-i; omega) rfl ?_ ?_
         ·simp -implicitDefEqProofs only [AN,I7,IS,IP,Fy,List.map_append,List.map_cons,List.map_nil] at hk ⊢
          exact MZ hk
         ·simp -implicitDefEqProofs -proj only [go_sem,seval,AL,Gt,hSTl]
         ·refine BI.2 ⟨Fq hrow' ?_,?_⟩
          ·simp -implicitDefEqProofs only [AN,List.map_append,List.nodup_append,List.map_cons,List.map_nil,List.mem_cons] at hk
           exact fun hm=>hk.2.2 _ hm _ (.inr (.inl rfl)) rfl
          ·have hnk:¬b7=b2∧¬b7=c:=⟨m1,m3⟩
           simp -implicitDefEqProofs -proj only [go_sem,seval,AU,IS,IP,Fy,q2,qc,m1,m3,ET hne2,show (BA (G++[(⟨S[0].f,S[0].v,w,r,(n:Int)⟩:Grp)])).length=(BA G).length+1 by simp [BA]]
        simp -implicitDefEqProofs -proj only [go_sem,seval,i9,i7,i2,ic,wk1,wk2,hwk,hSTl,rowI_len,decide_eq_true t1]
        (repeat' (with_reducible refine Af ?_ (fun h=>?_); (focus first | decide | omega); clear h; try simp -implicitDefEqProofs -proj only [go_sem,seval,hSTl]))
        try simp -implicitDefEqProofs -proj only [go_sem,seval,ic,i9,hwk]
        refine BB _ (by rw [Int.toNat_natCast]; exact esk) (by simp) ?_
        simp -implicitDefEqProofs -proj only [go_sem,seval,i9,ic,hwk]
        refine Ah _ efk evk ?_
        simp -implicitDefEqProofs -proj only [go_sem,seval,i9,ic,hwk,wk4,hSTl]
        (repeat' (with_reducible refine Af ?_ (fun h=>?_); (focus first | decide | omega); clear h; try simp -implicitDefEqProofs -proj only [go_sem,seval,hSTl]))
        try simp -implicitDefEqProofs -proj only [go_sem,seval,ic,i9,hwk,wk4]
        refine BB _ (by rw [Int.toNat_natCast]; exact esp) (by simp) ?_
        simp -implicitDefEqProofs -proj only [go_sem,seval,i9,ic]
        refine Ah _ efp evp ?_
        by_cases t2:S[k].v=(S[k-1]'(by omega)).v+r
        rotate_left
        ·rw [if_neg (fun h=>t2 (by omega))] at hkn
         have hkn':n=k:=by omega
         subst hkn'
         simp -implicitDefEqProofs -proj only [go_sem,seval,i9,i7,i2,ic,wk3,decide_eq_false t2,if_neg (show ¬(4:Nat)=5 by decide)]
         refine An (fun bs hs'=>?_)
         replace hs':H2 bs=none:=hs'
         simp -implicitDefEqProofs -proj only [go_sem,seval]
         refine FL (xs:=BA G) (y:=[.int .i64 S[0].f,.int .i64 S[0].v,.int .i64 w,.int .i64 r,.int .i64 n]) (t:=65) (capc:=1) [(b9,.box 65 [i64 S[0].f,i64 S[0].v,i64 w,i64 r,i64 n]),(b7,.box 51 [i64 ((l.length:Int)-1),BU 5 5 d dap (BA G)]),(b2,.box 51 [i64 0,.nilsl 5]),(c,.row 3 1 cap (AY ST))] rfl (Ak hs' hallk) hndk (by simp -implicitDefEqProofs -proj only [go_sem,seval]) (by rw [GA]; omega) (by rw [GA]; omega) (fun H' d' dap' ha hk=>?_)
         rw [show BA G++[[.int .i64 S[0].f,.int .i64 S[0].v,.int .i64 w,.int .i64 r,.int .i64 n]]=BA (G++[(⟨S[0].f,S[0].v,w,r,(n:Int)⟩:Grp)]) from Le (g:=(⟨S[0].f,S[0].v,w,r,(n:Int)⟩:Grp))] at ha hk
         have hne2:BA (G++[(⟨S[0].f,S[0].v,w,r,(n:Int)⟩:Grp)])≠[]:=by simp [BA]
         obtain ⟨hrow',q9,q7,q2,qc,_⟩:=BI.1 ha
         have hwc:IntKind.i64.wrap ((i:Int)+(n:Int))=((i+n:Nat):Int):=by rw [IntKind.wrap_i64]; omega
         simp -implicitDefEqProofs -proj only [go_sem,seval,q9,q7,p1,p2,hwc]
         refine AZ ⟨i+n,d',dap',G++[(⟨S[0].f,S[0].v,w,r,(n:Int)⟩:Grp)]⟩ ⟨by show i+n≤R.length; omega,by simp -implicitDefEqProofs only [Gt,Fy]; rw [hG,hstep,hdr]; simp,by simp -implicitDefEqProofs only [Gt,Fy,List.length_append,List.length_singleton]; omega,?_⟩ (by show R.length-(i+n)<R.length-i; omega) rfl ?_ ?_
         ·simp -implicitDefEqProofs only [AN,I7,IS,IP,Fy,List.map_append,List.map_cons,List.map_nil] at hk ⊢
          exact MZ hk
         ·simp -implicitDefEqProofs -proj only [go_sem,seval,AL,Gt,hSTl]
         ·refine BI.2 ⟨Fq hrow' ?_,?_⟩
          ·simp -implicitDefEqProofs only [AN,List.map_append,List.nodup_append,List.map_cons,List.map_nil,List.mem_cons] at hk
           exact fun hm=>hk.2.2 _ hm _ (.inr (.inl rfl)) rfl
          ·have hnk:¬b7=b2∧¬b7=c:=⟨m1,m3⟩
           simp -implicitDefEqProofs -proj only [go_sem,seval,AU,IS,IP,Fy,q2,qc,m1,m3,ET hne2,show (BA (G++[(⟨S[0].f,S[0].v,w,r,(n:Int)⟩:Grp)])).length=(BA G).length+1 by simp [BA]]
        ·rw [if_pos ⟨by omega,by omega⟩] at hkn
         simp -implicitDefEqProofs -proj only [go_sem,seval,i9,i7,i2,ic,wk3,decide_eq_true t2]
         refine AZ (k+1) (hnext (by omega) hkn) (by omega) rfl ?_ ?_
         ·simp -implicitDefEqProofs -proj only [go_sem,seval,AL]
         ·refine BI.2 ⟨Fq hrow2 ?_,?_⟩
          ·exact OA hb9 hrow1
          ·simp -implicitDefEqProofs -proj only [go_sem,seval,AU,i7,i2,ic,p1,p2,p3,p4,p5,p6,AP (show k<9223372036854775807 by omega)]
       ·have:S.drop k=[]:=List.drop_eq_nil_of_le (by omega)
        rw [this] at hkn
        have hkn':n=k:=by have:E8 w r (S[k-1]'(by omega)) []=0:=rfl; omega
        subst hkn'
        simp -implicitDefEqProofs -proj only [go_sem,seval,hH2,i9,i7,i2,ic,rowI_len,hSTl,hwk,decide_eq_false (show ¬((i+n:Nat):Int)<R.length by omega)]
        refine An (fun bs hs'=>?_)
        replace hs':H2 bs=none:=hs'
        simp -implicitDefEqProofs -proj only [go_sem,seval]
        refine FL (xs:=BA G) (y:=[.int .i64 S[0].f,.int .i64 S[0].v,.int .i64 w,.int .i64 r,.int .i64 n]) (t:=65) (capc:=1) [(b9,.box 65 [i64 S[0].f,i64 S[0].v,i64 w,i64 r,i64 n]),(b7,.box 51 [i64 ((l.length:Int)-1),BU 5 5 d dap (BA G)]),(b2,.box 51 [i64 0,.nilsl 5]),(c,.row 3 1 cap (AY ST))] rfl (Ak hs' hallk) hndk (by simp -implicitDefEqProofs -proj only [go_sem,seval]) (by rw [GA]; omega) (by rw [GA]; omega) (fun H' d' dap' ha hk=>?_)
        rw [show BA G++[[.int .i64 S[0].f,.int .i64 S[0].v,.int .i64 w,.int .i64 r,.int .i64 n]]=BA (G++[(⟨S[0].f,S[0].v,w,r,(n:Int)⟩:Grp)]) from Le (g:=(⟨S[0].f,S[0].v,w,r,(n:Int)⟩:Grp))] at ha hk
        have hne2:BA (G++[(⟨S[0].f,S[0].v,w,r,(n:Int)⟩:Grp)])≠[]:=by simp [BA]
        obtain ⟨hrow',q9,q7,q2,qc,_⟩:=BI.1 ha
        have hwc:IntKind.i64.wrap ((i:Int)+(n:Int))=((i+n:Nat):Int):=by rw [IntKind.wrap_i64]; omega
        simp -implicitDefEqProofs -proj only [go_sem,seval,q9,q7,p1,p2,hwc]
        refine AZ ⟨i+n,d',dap',G++[(⟨S[0].f,S[0].v,w,r,(n:Int)⟩:Grp)]⟩ ⟨by show i+n≤R.length; omega,by simp -implicitDefEqProofs only [Gt,Fy]; rw [hG,hstep,hdr]; simp,by simp -implicitDefEqProofs only [Gt,Fy,List.length_append,List.length_singleton]; omega,?_⟩ (by show R.length-(i+n)<R.length-i; omega) rfl ?_ ?_
        ·simp -implicitDefEqProofs only [AN,I7,IS,IP,Fy,List.map_append,List.map_cons,List.map_nil] at hk ⊢
         exact MZ hk
        ·simp -implicitDefEqProofs -proj only [go_sem,seval,AL,Gt,hSTl]
        ·refine BI.2 ⟨Fq hrow' ?_,?_⟩
         ·simp -implicitDefEqProofs only [AN,List.map_append,List.nodup_append,List.map_cons,List.map_nil,List.mem_cons] at hk
          exact fun hm=>hk.2.2 _ hm _ (.inr (.inl rfl)) rfl
         ·have hnk:¬b7=b2∧¬b7=c:=⟨m1,m3⟩
          simp -implicitDefEqProofs -proj only [go_sem,seval,AU,IS,IP,Fy,q2,qc,m1,m3,ET hne2,show (BA (G++[(⟨S[0].f,S[0].v,w,r,(n:Int)⟩:Grp)])).length=(BA G).length+1 by simp [BA]]
     ·have hgq:ER S[0] (S.drop 1)=(⟨S[0].f,S[0].v,0,0,1⟩,1):=by rw [List.drop_eq_nil_of_le (by omega)]; rfl
      rw [hgq] at hstep
      simp -implicitDefEqProofs -proj only [go_sem,seval,p1,p2,p3,p4,p5,p6,j7,j2,jc,rowI_len,hSTl,hw1,decide_eq_false (show ¬((i+1:Nat):Int)<R.length by omega)]
      refine An (fun bs hs'=>?_)
      replace hs':upd H1 b9 _ bs=none:=hs'
      simp -implicitDefEqProofs -proj only [go_sem,seval]
      refine FL (xs:=BA G) (y:=[.int .i64 S[0].f,.int .i64 S[0].v,.int .i64 0,.int .i64 0,.int .i64 1]) (t:=65) (capc:=1) [(b9,.box 65 [i64 S[0].f,i64 S[0].v,i64 0,i64 0,i64 1]),(b7,.box 51 [i64 ((l.length:Int)-1),BU 5 5 d dap (BA G)]),(b2,.box 51 [i64 0,.nilsl 5]),(c,.row 3 1 cap (AY ST))] rfl (Ak hs' (BI.2 ⟨Ak hb9 hrow1,AQ,Ak hb9 (BI.1 hall').2⟩)) (hmid b9 _ hb9) (by simp -implicitDefEqProofs -proj only [go_sem,seval]) (by rw [GA]; omega) (by rw [GA]; omega) (fun H' d' dap' ha hk=>?_)
      rw [show BA G++[[.int .i64 S[0].f,.int .i64 S[0].v,.int .i64 0,.int .i64 0,.int .i64 1]]=BA (G++[(⟨S[0].f,S[0].v,0,0,1⟩:Grp)]) from Le (g:=(⟨S[0].f,S[0].v,0,0,1⟩:Grp))] at ha hk
      have hne2:BA (G++[(⟨S[0].f,S[0].v,0,0,1⟩:Grp)])≠[]:=by simp [BA]
      obtain ⟨hrow',q9,q7,q2,qc,_⟩:=BI.1 ha
      have hwc:IntKind.i64.wrap ((i:Int)+1)=((i+1:Nat):Int):=by rw [IntKind.wrap_i64]; omega
      simp -implicitDefEqProofs -proj only [go_sem,seval,q9,q7,p1,p2,hwc]
      refine AZ ⟨i+1,d',dap',G++[(⟨S[0].f,S[0].v,0,0,1⟩:Grp)]⟩ ⟨by show i+1≤R.length; omega,by simp -implicitDefEqProofs only [Gt,Fy]; rw [hG,hstep,hdr]; simp,by simp -implicitDefEqProofs only [Gt,Fy,List.length_append,List.length_singleton]; omega,?_⟩ (by show R.length-(i+1)<R.length-i; omega) rfl ?_ ?_
      ·simp -implicitDefEqProofs only [AN,I7,IS,IP,Fy,List.map_append,List.map_cons,List.map_nil] at hk ⊢
       exact MZ hk
      ·simp -implicitDefEqProofs -proj only [go_sem,seval,AL,Gt,hSTl]
      ·refine BI.2 ⟨Fq hrow' ?_,?_⟩
       ·simp -implicitDefEqProofs only [AN,List.map_append,List.nodup_append,List.map_cons,List.map_nil,List.mem_cons] at hk
        exact fun hm=>hk.2.2 _ hm _ (.inr (.inl rfl)) rfl
       ·have hnk:¬b7=b2∧¬b7=c:=⟨m1,m3⟩
        simp -implicitDefEqProofs -proj only [go_sem,seval,AU,IS,IP,Fy,q2,qc,m1,m3,ET hne2,show (BA (G++[(⟨S[0].f,S[0].v,0,0,1⟩:Grp)])).length=(BA G).length+1 by simp [BA]]
    ·have hi'':i=R.length:=by omega
     subst hi''
     rw [List.drop_length,QB,List.append_nil] at hG
     simp -implicitDefEqProofs -proj only [go_sem,seval,Gt,IS,IP,Fy,hH1,rowI_len,hSTl,decide_eq_false (show ¬(R.length:Int)<R.length by omega),j7,j2,m1,m2]
     rw [hG]
     refine I2 (I5 (J4 (Fq hrow1 ?_) Sh))
     simp -implicitDefEqProofs only [AN,List.map_append,List.nodup_append,List.map_cons,List.map_nil,List.mem_cons] at hn'
     exact fun hm=>hn'.2.2 _ hm _ (.inr (.inl rfl)) rfl
theorem AIH {l:List Int} (hfl:JC l) (hl:l.length≤3000):DataW Tryz.prog TJ [Gq l] (if BN l then .tup [Em l,bv true] else .tup [Ew 0 [],bv false]):=(SB hfl hl).data
def qL (c:CoreX) (d:Int) (m:Nat) (mx:Int) (j k:Nat):List Int:=(List.range (mx+1).toNat).map fun (q:Nat)=>sg (FM c.ps d m q) (if q<k then j+1 else j)
theorem ABx {c:CoreX} {d:Int} {m:Nat} {mx:Int} {j k:Nat}:(qL c d m mx j k).length=(mx+1).toNat:=by simp [qL]
theorem WJ {c:CoreX} {d:Int} {m:Nat} {mx:Int} {j:Nat}:qL c d m mx j (mx+1).toNat=qL c d m mx (j+1) 0:=by
 unfold qL
 refine List.map_congr_left fun q hq=>?_
 rw [if_pos (List.mem_range.1 hq),if_neg (Nat.not_lt_zero _)]
theorem AKf {c:CoreX} {d:Int} {m:Nat} {mx:Int}:qL c d m mx 0 0=List.replicate (mx+1).toNat 0:=by
 unfold qL
 refine List.ext_getElem (by simp) fun i h1 h2=>?_
 simp [sg]
theorem AOk {c:CoreX} {d:Int} {m:Nat} {mx:Int}:qL c d m mx c.ps.length 0=Gx c d m mx:=by
 unfold qL Gx IR
 refine List.map_congr_left fun q hq=>?_
 rw [if_neg (Nat.not_lt_zero _)]
theorem AQ2 {c:CoreX} {d:Int} {m:Nat} {mx:Int} {j k:Nat} (h:k<(mx+1).toNat):(qL c d m mx j k)[k]? = some (sg (FM c.ps d m k) j):=by
 simp [qL,h]
theorem AJs {c:CoreX} {d:Int} {m:Nat} {mx:Int} {j k:Nat} (h:k<(mx+1).toNat):(qL c d m mx j k).set k (sg (FM c.ps d m k) (j+1))=qL c d m mx j (k+1):=by
 refine List.ext_getElem (by simp [qL]) fun i h1 h2=>?_
 have hi:i<(mx+1).toNat:=by rw [ABx] at h2; exact h2
 rw [List.getElem_set]
 by_cases e:k=i
 ·subst e; simp [qL]
 ·rw [if_neg e]
  simp -implicitDefEqProofs only [qL,List.getElem_map,List.getElem_range]
  by_cases h3:i<k
  ·rw [if_pos h3,if_pos (by omega)]
  ·rw [if_neg h3,if_neg (by omega)]
theorem AMu {ps:List PartX} {d q:Int} {m j:Nat} {x:PartX} (h:ps[j]? = some x) (hn:¬(x.me=m∧EV d x.f x.t)):FM ps d m q j=0:=by
 unfold FM; rw [h]; simp -implicitDefEqProofs only []; rw [if_neg hn]
theorem AIx {ps:List PartX} {d q:Int} {m j:Nat} {x:PartX} (h:ps[j]? = some x) (hn:x.me=m∧EV d x.f x.t):FM ps d m q j=pv x q-pv x 0:=by
 unfold FM; rw [h]; simp -implicitDefEqProofs only []; rw [if_pos hn]
theorem AMM {ps:List PartX} {d:Int} {m j:Nat} {x:PartX} (h:ps[j]? = some x) (hn:¬(x.me=m∧EV d x.f x.t)):E5 ps d m j=0:=by
 unfold E5; rw [h]; simp -implicitDefEqProofs only []; rw [if_neg hn]
theorem AUe {ps:List PartX} {d:Int} {m j:Nat} {x:PartX} (h:ps[j]? = some x) (hn:x.me=m∧EV d x.f x.t):E5 ps d m j=pv x 0:=by
 unfold E5; rw [h]; simp -implicitDefEqProofs only []; rw [if_pos hn]
theorem AUw {c:CoreX} {d:Int} {m:Nat} {mx:Int} {j:Nat} {x:PartX} (h:c.ps[j]? = some x) (hn:¬(x.me=m∧EV d x.f x.t)):qL c d m mx (j+1) 0=qL c d m mx j 0:=by
 unfold qL
 refine List.map_congr_left fun q hq=>?_
 rw [if_neg (Nat.not_lt_zero _),if_neg (Nat.not_lt_zero _),sg,AMu h hn,Int.add_zero]
theorem AAh {l:List Int} {i:Nat} {x:Int}:(AY l).set i [.int .i64 x]=AY (l.set i x):=by simp [AY,List.map_set]
structure DY where
 i:Nat
 c:Nat
 cap:Nat
theorem Fs {i c cap:Nat}:(DY.mk i c cap).i=i:=(rfl)
theorem GY {i c cap:Nat}:(DY.mk i c cap).c=c:=(rfl)
theorem Gg {i c cap:Nat}:(DY.mk i c cap).cap=cap:=(rfl)
abbrev GQ (d x:Int) (v:AV):Blk:=.box 47 [i64 d,i64 d,i64 x,v]
def JV (b2 b4 b5:Nat) (c:CoreX) (d:Int) (y:DY):List (Nat×Blk):=Au 51 2 y.c y.cap (Ai (Eb c d y.i))++[(b5,GQ d (FP c d+sg (FH c d) y.i) (BU 2 2 y.c y.cap (Ai (Eb c d y.i)))),(b2,BJ c),(b4,GQ 0 0 (.nilsl 2))]
def Fz (b2 b4 b5 b10:Nat) (c:CoreX) (d:Int) (y:DY) (mx:Int) (fx:Int) (j k:Nat):List (Nat×Blk):=(b10,.row 3 1 (mx+1).toNat (AY (qL c d y.i mx j k)))::(Au 51 2 y.c y.cap (Ai (Eb c d y.i))++[(b5,GQ d fx (BU 2 2 y.c y.cap (Ai (Eb c d y.i)))),(b2,BJ c),(b4,GQ 0 0 (.nilsl 2))])
theorem ACc {c:CoreX} {d:Int} (hc:c.Fit) (hf:fitsC c) (hd:Fit d):DataW Tryz.prog Xg [GV c,i64 d] (Jm ⟨d,d,Ed c d⟩):=by
 obtain ⟨_,_,_,a6,a7,a8⟩:=hf.good.hd
 have hps:=hf.good.ps
 have hfp:=hc.ps
 have hmxb:=(fitsC.bnd hf.good).mx
 refine Aa AB1 (by simp) ?_
 simp -implicitDefEqProofs -proj only [go_sem,seval]
 refine AK (fun b2 hb2=>?_)
 simp -implicitDefEqProofs -proj only [go_sem,seval]
 refine AK (fun b4 hb4=>?_)
 replace hb4:upd Heap.none b2 _ b4=none:=hb4
 obtain ⟨n1,n2⟩:=AH hb4 AQ
 simp -implicitDefEqProofs -proj only [go_sem,seval,n1,n2]
 refine AK (fun b5 hb5=>?_)
 replace hb5:upd (upd Heap.none b2 _) b4 _ b5=none:=hb5
 obtain ⟨n3,n4⟩:=AH hb5 AQ
 obtain ⟨n5,n6⟩:=AH hb5 (by rw [AE n1]; exact AQ)
 simp -implicitDefEqProofs -proj only [go_sem,seval,n1,n2,n3,n4,n5,n6,Fo]
 refine BE (fun i:Nat=>i≤c.ss.length) 129 (fun i=>[(1,i64 d),(2,.ptr b2 0),(4,.ptr b4 0),(5,.ptr b5 0),(24,.d (.sl 3 (Eu c.ss))),(25,i64 c.ss.length),(26,i64 i)]) (fun i=>[(b5,GQ d (sg (FT c.ss d) i) (.nilsl 2)),(b2,BJ c),(b4,GQ 0 0 (.nilsl 2))]) (fun i=>c.ss.length-i) 0 (Nat.zero_le _) rfl ?_ ?_ ?_
 ·simp -implicitDefEqProofs -proj only [go_sem,seval,AL,Fo]
 ·refine ⟨AQ,?_,?_,trivial⟩
  ·show upd (upd (upd Heap.none b2 _) b4 _) b5 _ b2=_
   rw [AE n5,AE n1]; exact AQ
  ·show upd (upd (upd Heap.none b2 _) b4 _) b5 _ b4=_
   rw [AE n3]; exact AQ
 ·rintro i hi
  have hk:AU (Ae [(b5,GQ d (sg (FT c.ss d) i) (.nilsl 2)),(b2,BJ c),(b4,GQ 0 0 (.nilsl 2))]) [(b5,GQ d (sg (FT c.ss d) i) (.nilsl 2)),(b2,BJ c),(b4,GQ 0 0 (.nilsl 2))]:=EQ (by simp [AN,n1,n2,n3,n4,n5,n6])
  obtain ⟨k5,k2,k4,_⟩:=id hk
  have hb1:=K4 hf.good d hi
  by_cases h:i<c.ss.length
  ·have hel:=KB h
   have hb2:=K4 hf.good d (show i+1≤c.ss.length by omega)
   have hstep:sg (FT c.ss d) (i+1)=sg (FT c.ss d) i+(if EV d c.ss[i].f c.ss[i].t then c.ss[i].a else 0):=by
    rw [sg]; unfold FT; rw [List.getElem?_eq_getElem h]
   generalize c.ss[i]=s at *
   generalize hS:sg (FT c.ss d) i=S at *
   generalize hS2:sg (FT c.ss d) (i+1)=S2 at *
   simp -implicitDefEqProofs -proj only [go_sem,seval,decide_eq_true (show (i:Int)<c.ss.length by omega)]
   refine Ah _ (by omega) hel ?_
   simp -implicitDefEqProofs -proj only [go_sem,seval]
   refine AK (fun b7 hb7=>?_)
   obtain ⟨m1,m2⟩:=AH hb7 k5
   obtain ⟨m3,m4⟩:=AH hb7 k2
   obtain ⟨m5,m6⟩:=AH hb7 k4
   by_cases p1:s.f≤d
   ·by_cases p2:d≤s.t
    ·rw [if_pos ⟨p1,p2⟩] at hstep
     have w:IntKind.i64.wrap (S+s.a)=S2:=by rw [IntKind.wrap_i64]; omega
     simp -implicitDefEqProofs -proj only [go_sem,seval,m1,m2,m3,m4,m5,m6,k5,k2,k4,decide_eq_true p1,decide_eq_true p2,w]
     refine AZ (i+1) (by omega) (by show c.ss.length-(i+1)<c.ss.length-i; omega) rfl ?_ ?_
     ·simp -implicitDefEqProofs -proj only [go_sem,seval,AL,AP (show i<9223372036854775807 by omega)]
     ·rw [hS2]
      exact ⟨AQ,(AE n5).trans ((AE m3).trans k2),(AE n3).trans ((AE m5).trans k4),trivial⟩
    ·rw [if_neg (fun k=>p2 k.2)] at hstep
     simp -implicitDefEqProofs -proj only [go_sem,seval,m1,m2,m3,m4,m5,m6,k5,k2,k4,decide_eq_true p1,decide_eq_false p2]
     refine AZ (i+1) (by omega) (by show c.ss.length-(i+1)<c.ss.length-i; omega) rfl ?_ ?_
     ·simp -implicitDefEqProofs -proj only [go_sem,seval,AL,AP (show i<9223372036854775807 by omega)]
     ·rw [hS2,hstep,Int.add_zero]; exact Ak hb7 hk
   ·rw [if_neg (fun k=>p1 k.1)] at hstep
    simp -implicitDefEqProofs -proj only [go_sem,seval,m1,m2,m3,m4,m5,m6,k5,k2,k4,decide_eq_false p1]
    refine AZ (i+1) (by omega) (by show c.ss.length-(i+1)<c.ss.length-i; omega) rfl ?_ ?_
    ·simp -implicitDefEqProofs -proj only [go_sem,seval,AL,AP (show i<9223372036854775807 by omega)]
    ·rw [hS2,hstep,Int.add_zero]; exact Ak hb7 hk
  ·have hi':i=c.ss.length:=by omega
   subst hi'
   simp -implicitDefEqProofs -proj only [go_sem,seval,k2,decide_eq_false (show ¬(c.ss.length:Int)<c.ss.length by omega),FA]
   refine BE (fun y:DY=>y.i≤c.ms.length∧(AN (JV b2 b4 b5 c d y)).Nodup) 129 (fun y=>[(1,i64 d),(2,.ptr b2 0),(4,.ptr b4 0),(5,.ptr b5 0),(48,.d (.sl 5 (EK c.ms))),(49,i64 c.ms.length),(50,i64 y.i)]) (JV b2 b4 b5 c d) (fun y=>c.ms.length-y.i) ⟨0,0,0⟩ ⟨Nat.zero_le _,by simp [AN,JV,Eb,Ai,Au,n1,n2,n3,n4,n5,n6]⟩ rfl ?_ ?_ ?_
   ·simp -implicitDefEqProofs -proj only [go_sem,seval,AL,Fs,FA]
   ·simp -implicitDefEqProofs only [JV,Fs,Eb,List.range_zero,List.map_nil,Ai,Au,BU,sg,Int.add_zero,List.nil_append]
    exact ⟨k5,k2,k4,trivial⟩
   ·rintro ⟨i,c1,cap⟩ ⟨hi,hn⟩
    simp -implicitDefEqProofs only [Fs] at hi
    have hall:=EQ hn
    obtain ⟨H,hH⟩:∃H,Ae (JV b2 b4 b5 c d ⟨i,c1,cap⟩)=H:=⟨_,rfl⟩
    rw [hH] at hall
    simp -implicitDefEqProofs only [JV,Fs,GY,Gg] at hall hn
    obtain ⟨hrow,k5,k2,k4,_⟩:=BI.1 hall
    by_cases h:i<c.ms.length
    ·have hel:=HS h
     have hb:=hmxb i h
     have hsn:=ARS (c:=c) (d:=d) h
     have hlc:=QQ hf d h
     have hri:=fun (q:Int) (h0:0≤q) (hq:q≤c.ms[i].mx) (j:Nat) (hj:j≤c.ps.length)=>O3 hf d h h0 hq hj
     have hmxx:Ea c.ms (i:Int)=c.ms[i].mx:=N8 h
     generalize c.ms[i]=m at *
     have w1:IntKind.i64.wrap (m.mx+1)=(((m.mx+1).toNat:Nat):Int):=by rw [IntKind.wrap_i64]; omega
     simp -implicitDefEqProofs -proj only [go_sem,seval,Fs,GY,Gg,hH,decide_eq_true (show (i:Int)<c.ms.length by omega)]
     refine Ah _ (by omega) hel ?_
     simp -implicitDefEqProofs -proj only [go_sem,seval]
     refine AK (fun b9 hb9=>?_)
     replace hb9:H b9=none:=hb9
     simp -implicitDefEqProofs -proj only [go_sem,seval,w1]
     refine SP (by omega) (by omega) (fun b10 hb10=>?_)
     replace hb10:upd H b9 _ b10=none:=hb10
     obtain ⟨e1,e2⟩:=AH hb10 AQ
     have hb10':H b10=none:=by rw [AE e2] at hb10; exact hb10
     have hall9:=Ak (y:=some (.box 42 [.d (.str m.nm),.d (.str m.un),i64 m.mx,i64 m.ln,i64 m.co])) hb9 hall
     have hall10:=G4 (x:=.row 3 1 (m.mx+1).toNat (AY (qL c d i m.mx 0 0))) hb10 hall9
     have hn10:=HD (x:=.row 3 1 (m.mx+1).toNat (AY (qL c d i m.mx 0 0))) hb10 hall9 hn
     have hfm0:sg (FH c d) (i+1)=sg (FH c d) i+sg (E5 c.ps d i) c.ps.length:=by rw [sg]; rfl
     have hrep:List.replicate (m.mx+1).toNat [D.int .i64 0]=AY (qL c d i m.mx 0 0):=by rw [AKf]; simp [AY]
     obtain ⟨H10,hH10⟩:∃H10,upd (upd H b9 (some (.box 42 [.d (.str m.nm),.d (.str m.un),i64 m.mx,i64 m.ln,i64 m.co]))) b10 (some (.row 3 1 (m.mx+1).toNat (AY (qL c d i m.mx 0 0))))=H10:=⟨_,rfl⟩
     rw [hH10] at hall10
     obtain ⟨u10,u5,u2,u4,_⟩:=(⟨hall10.1,(BI.1 hall10.2).2⟩:_∧_)
     simp -implicitDefEqProofs -proj only [go_sem,seval,hrep,hH10,u2,FU]
     refine BE (fun j:Nat=>j≤c.ps.length∧(AN (Fz b2 b4 b5 b10 c d ⟨i,c1,cap⟩ m.mx (FP c d+sg (FH c d) i+sg (E5 c.ps d i) j) j 0)).Nodup) 129 (fun j=>[(1,i64 d),(2,.ptr b2 0),(4,.ptr b4 0),(5,.ptr b5 0),(48,.d (.sl 5 (EK c.ms))),(49,i64 c.ms.length),(50,i64 i),(8,i64 i),(10,.own b10 1 0 (m.mx+1).toNat (m.mx+1).toNat),(60,.d (.sl 9 (Ec c.ps))),(61,i64 c.ps.length),(62,i64 j)]) (fun j=>Fz b2 b4 b5 b10 c d ⟨i,c1,cap⟩ m.mx (FP c d+sg (FH c d) i+sg (E5 c.ps d i) j) j 0) (fun j=>c.ps.length-j) 0 ⟨Nat.zero_le _,?_⟩ rfl ?_ ?_ ?_
     ·simpa only [Fz,Fs,GY,Gg,AN,List.map_cons,List.map_append] using hn10
     ·simp -implicitDefEqProofs -proj only [go_sem,seval,AL,FU]
     ·simpa only [Fz,Fs,GY,Gg,sg,Int.add_zero] using hall10
     ·rintro j ⟨hj,hnj⟩
      have hallj:=EQ hnj
      generalize hHj:Ae (Fz b2 b4 b5 b10 c d ⟨i,c1,cap⟩ m.mx (FP c d+sg (FH c d) i+sg (E5 c.ps d i) j) j 0)=Hj at *
      simp -implicitDefEqProofs only [Fz,Fs,GY,Gg] at hallj hnj
      obtain ⟨v10,hr⟩:=id hallj
      obtain ⟨vrow,v5,v2,v4,_⟩:=BI.1 hr
      have hfb:=QJ hf d i
      have hfS:0≤FP c d∧FP c d≤1000000000000*c.ss.length:=K4 hf.good d (Nat.le_refl c.ss.length)
      have hbj:=PN hf d i hj
      by_cases h':j<c.ps.length
      ·have helj:=Iz h'
       have hx:=List.getElem_mem h'
       have hok:=hps _ hx
       have hfx:=hfp _ hx
       have hgx:c.ps[j]? = some c.ps[j]:=List.getElem?_eq_getElem h'
       have hpb:=fun (q:Int) (h0:0≤q) (hq:q≤Ea c.ms c.ps[j].me)=>Ii hf hx h0 hq
       have hbj2:=PN hf d i (show j+1≤c.ps.length by omega)
       have hsb:sg (E5 c.ps d i) (j+1)=sg (E5 c.ps d i) j+E5 c.ps d i j:=by rw [sg]
       generalize c.ps[j]=x at *
       simp -implicitDefEqProofs -proj only [go_sem,seval,decide_eq_true (show (j:Int)<c.ps.length by omega)]
       refine Ah _ (by omega) helj ?_
       simp -implicitDefEqProofs -proj only [go_sem,seval]
       refine AK (fun b12 hb12=>?_)
       replace hb12:Hj b12=none:=hb12
       by_cases hon:x.me=(i:Int)∧EV d x.f x.t
       rotate_left
       ·have hqs:=AUw (mx:=m.mx) hgx hon
        have hb0:=AMM hgx hon
        rw [hb0,Int.add_zero] at hsb
        have hfin:AU (upd Hj b12 (some (.box 40 [i64 x.me,i64 x.f,i64 x.t,i64 x.al,i64 x.bl,i64 x.ki,EX x.ts,i64 x.mo,Ej x.ad]))) (Fz b2 b4 b5 b10 c d ⟨i,c1,cap⟩ m.mx (FP c d+sg (FH c d) i+sg (E5 c.ps d i) (j+1)) (j+1) 0):=by
         simp -implicitDefEqProofs only [Fz,Fs,GY,Gg,hqs,hsb]
         exact Ak hb12 hallj
        have hnj1:(AN (Fz b2 b4 b5 b10 c d ⟨i,c1,cap⟩ m.mx (FP c d+sg (FH c d) i+sg (E5 c.ps d i) (j+1)) (j+1) 0)).Nodup:=by
         simpa only [Fz,Fs,GY,Gg,AN,List.map_cons,List.map_append] using hnj
        by_cases c1':x.me=(i:Int)
        ·by_cases c2:d<x.f
         ·simp -implicitDefEqProofs -proj only [go_sem,seval,decide_eq_true c1',Bool.not_true,decide_eq_true c2]
          refine AZ (j+1) ⟨by omega,hnj1⟩ (by show c.ps.length-(j+1)<c.ps.length-j; omega) rfl ?_ hfin
          simp -implicitDefEqProofs -proj only [go_sem,seval,AL,AP (show j<9223372036854775807 by omega)]
         ·have c3:x.t<d:=by unfold EV at hon; omega
          simp -implicitDefEqProofs -proj only [go_sem,seval,decide_eq_true c1',Bool.not_true,decide_eq_false c2,decide_eq_true c3]
          refine AZ (j+1) ⟨by omega,hnj1⟩ (by show c.ps.length-(j+1)<c.ps.length-j; omega) rfl ?_ hfin
          simp -implicitDefEqProofs -proj only [go_sem,seval,AL,AP (show j<9223372036854775807 by omega)]
        ·simp -implicitDefEqProofs -proj only [go_sem,seval,decide_eq_false c1',Bool.not_false]
         refine AZ (j+1) ⟨by omega,hnj1⟩ (by show c.ps.length-(j+1)<c.ps.length-j; omega) rfl ?_ hfin
         simp -implicitDefEqProofs -proj only [go_sem,seval,AL,AP (show j<9223372036854775807 by omega)]
       obtain ⟨c1',c2',c3'⟩:=id hon
       have hb0:=AUe hgx hon
       have hmx0:Ea c.ms x.me=m.mx:=by rw [c1']; exact hmxx
       have G:=MM hok
       have hp0:=hpb 0 (Int.le_refl 0) (by omega)
       have hcall0:=NJ (q:=0) hfx (by decide) G (MG G.ts)
       rw [hp0.1,BV] at hcall0
       simp -implicitDefEqProofs -proj only [go_sem,seval,decide_eq_true c1',Bool.not_true,decide_eq_false (show ¬d<x.f by omega),decide_eq_false (show ¬x.t<d by omega)]
       refine AJ hcall0 ?_
       obtain ⟨x1,x2⟩:=AH hb12 v5
       obtain ⟨x3,x4⟩:=AH hb12 v10
       have w2:IntKind.i64.wrap (FP c d+sg (FH c d) i+sg (E5 c.ps d i) j+pv x 0)=FP c d+sg (FH c d) i+sg (E5 c.ps d i) (j+1):=by rw [IntKind.wrap_i64]; omega
       have hnd2:(AN ((b12,Blk.box 40 [i64 x.me,i64 x.f,i64 x.t,i64 x.al,i64 x.bl,i64 x.ki,EX x.ts,i64 x.mo,Ej x.ad])::Fz b2 b4 b5 b10 c d ⟨i,c1,cap⟩ m.mx (FP c d+sg (FH c d) i+sg (E5 c.ps d i) (j+1)) j 0)).Nodup:=by
        have:=HD (x:=Blk.box 40 [i64 x.me,i64 x.f,i64 x.t,i64 x.al,i64 x.bl,i64 x.ki,EX x.ts,i64 x.mo,Ej x.ad]) hb12 hallj hnj
        simpa only [Fz,Fs,GY,Gg,AN,List.map_cons,List.map_append] using this
       simp -implicitDefEqProofs -proj only [go_sem,seval,v5,x1,x2,w2]
       refine BE (fun k:Nat=>k≤(m.mx+1).toNat) 129 (fun k=>[(1,i64 d),(2,.ptr b2 0),(4,.ptr b4 0),(5,.ptr b5 0),(48,.d (.sl 5 (EK c.ms))),(49,i64 c.ms.length),(50,i64 i),(8,i64 i),(10,.own b10 1 0 (m.mx+1).toNat (m.mx+1).toNat),(60,.d (.sl 9 (Ec c.ps))),(61,i64 c.ps.length),(62,i64 j),(12,.ptr b12 0),(13,i64 (pv x 0)),(93,i64 (m.mx+1).toNat),(94,i64 k)]) (fun k=>(b12,Blk.box 40 [i64 x.me,i64 x.f,i64 x.t,i64 x.al,i64 x.bl,i64 x.ki,EX x.ts,i64 x.mo,Ej x.ad])::Fz b2 b4 b5 b10 c d ⟨i,c1,cap⟩ m.mx (FP c d+sg (FH c d) i+sg (E5 c.ps d i) (j+1)) j k) (fun k=>(m.mx+1).toNat-k) 0 (Nat.zero_le _) rfl ?_ ?_ ?_
       ·simp -implicitDefEqProofs -proj only [go_sem,seval,AL]
       ·simp -implicitDefEqProofs only [Fz,Fs,GY,Gg]
        have hnr:b5∉AN [(b2,BJ c),(b4,GQ 0 0 (.nilsl 2))]:=by simp [AN,n3,n5]
        have hnrow:b5∉AN (Au 51 2 c1 cap (Ai (Eb c d i))):=by
         have h1:=(List.nodup_cons.1 hnj).2
         simp -implicitDefEqProofs only [AN,List.map_append,List.map_cons] at h1
         exact fun hm=>(List.nodup_append.1 h1).2.2 _ hm _ (List.mem_cons_self ..) rfl
        have hn10:¬b5=b10:=fun e=>(List.nodup_cons.1 hnj).1 (by rw [←e]; simp [AN])
        refine ⟨(AE x2).trans AQ,(AE hn10).trans ((AE x3).trans v10),BI.2 ⟨Fq (Ak hb12 vrow) hnrow,AQ,Fq (Ak hb12 ⟨v2,v4,trivial⟩) hnr⟩⟩
       ·rintro k hk
        have hndk:(AN ((b12,Blk.box 40 [i64 x.me,i64 x.f,i64 x.t,i64 x.al,i64 x.bl,i64 x.ki,EX x.ts,i64 x.mo,Ej x.ad])::Fz b2 b4 b5 b10 c d ⟨i,c1,cap⟩ m.mx (FP c d+sg (FH c d) i+sg (E5 c.ps d i) (j+1)) j k)).Nodup:=by
         simpa only [Fz,Fs,GY,Gg,AN,List.map_cons,List.map_append] using hnd2
        have hallk:=EQ hndk
        generalize hHk:Ae ((b12,Blk.box 40 [i64 x.me,i64 x.f,i64 x.t,i64 x.al,i64 x.bl,i64 x.ki,EX x.ts,i64 x.mo,Ej x.ad])::Fz b2 b4 b5 b10 c d ⟨i,c1,cap⟩ m.mx (FP c d+sg (FH c d) i+sg (E5 c.ps d i) (j+1)) j k)=Hk at *
        simp -implicitDefEqProofs only [Fz,Fs,GY,Gg] at hallk
        obtain ⟨y12,y10,yr⟩:=id hallk
        by_cases h'':k<(m.mx+1).toNat
        ·have hpk:=hpb k (by omega) (by omega)
         have hcallk:=NJ (q:=(k:Int)) hfx (by unfold Fit; omega) G (MG G.ts)
         rw [hpk.1,BV] at hcallk
         have hrj:=hri k (by omega) (by omega) j (by omega)
         have hrj2:=hri k (by omega) (by omega) (j+1) (by omega)
         have hrs:sg (FM c.ps d i k) (j+1)=sg (FM c.ps d i k) j+(pv x k-pv x 0):=by rw [sg,AIx hgx hon]
         have hge:=Jv (AQ2 (c:=c) (d:=d) (m:=i) (mx:=m.mx) (j:=j) h'')
         have hset:(AY (qL c d i m.mx j k)).set k [.int .i64 (sg (FM c.ps d i k) (j+1))]=AY (qL c d i m.mx j (k+1)):=by rw [AAh,AJs h'']
         have w3:IntKind.i64.wrap (IntKind.i64.wrap (sg (FM c.ps d i k) j+pv x k)-pv x 0)=sg (FM c.ps d i k) (j+1):=by
          rw [IntKind.wrap_i64 (sg _ _+_),IntKind.wrap_i64]; omega
         simp -implicitDefEqProofs -proj only [go_sem,seval,y12,decide_eq_true (show (k:Int)<(((m.mx+1).toNat:Nat):Int) by omega)]
         refine AJ hcallk ?_
         simp -implicitDefEqProofs -proj only [go_sem,seval,Int.toNat_natCast,y12,y10]
         refine Af ⟨by omega,by omega⟩ (fun _=>?_)
         refine BB _ hge (by simp) ?_
         simp -implicitDefEqProofs -proj only [go_sem,seval,Int.toNat_natCast,y12,y10,w3]
         refine Af ⟨by omega,by omega⟩ (fun _=>?_)
         refine LB y10 hge (by simp) ?_
         simp -implicitDefEqProofs -proj only [go_sem,seval,GX,hset]
         have hne12:¬b10=b12:=x4
         have hnr:b10∉AN (Au 51 2 c1 cap (Ai (Eb c d i))++[(b5,GQ d (FP c d+sg (FH c d) i+sg (E5 c.ps d i) (j+1)) (BU 2 2 c1 cap (Ai (Eb c d i)))),(b2,BJ c),(b4,GQ 0 0 (.nilsl 2))]):=by
          have:=(List.nodup_cons.1 (List.nodup_cons.1 hndk).2).1
          simpa only [Fz,Fs,GY,Gg,AN,List.map_cons,List.map_append] using this
         refine AZ (k+1) (by omega) (by show (m.mx+1).toNat-(k+1)<(m.mx+1).toNat-k; omega) rfl ?_ ?_
         ·simp -implicitDefEqProofs -proj only [go_sem,seval,AL,AP (show k<9223372036854775807 by omega)]
         ·simp -implicitDefEqProofs only [Fz,Fs,GY,Gg]
          exact ⟨(AE hne12).trans y12,AQ,Fq yr hnr⟩
        ·have hk':k=(m.mx+1).toNat:=by omega
         subst hk'
         simp -implicitDefEqProofs -proj only [go_sem,seval,decide_eq_false (show ¬(((m.mx+1).toNat:Nat):Int)<(((m.mx+1).toNat:Nat):Int) by omega)]
         rw [WJ] at y10
         refine AZ (j+1) ⟨by omega,?_⟩ (by show c.ps.length-(j+1)<c.ps.length-j; omega) rfl ?_ ?_
         ·have:=(List.nodup_cons.1 hnd2).2
          simpa only [Fz,Fs,GY,Gg,AN,List.map_cons,List.map_append] using this
         ·simp -implicitDefEqProofs -proj only [go_sem,seval,AL,AP (show j<9223372036854775807 by omega)]
         ·simp -implicitDefEqProofs only [Fz,Fs,GY,Gg]
          exact ⟨y10,yr⟩
      ·have hj':j=c.ps.length:=by omega
       subst hj'
       rw [AOk] at v10
       have hfl:JC (Gx c d i m.mx):=fun q hq=>by
        have:=hlc.2.2 _ (List.getElem_mem hq)
        unfold E0 at this
        unfold Fit; omega
       have hof:=SB hfl (by rw [KK]; omega)
       rw [if_pos hlc] at hof
       simp -implicitDefEqProofs -proj only [go_sem,seval,decide_eq_false (show ¬(c.ps.length:Int)<c.ps.length by omega)]
       refine Lr hof (Gb (KX v10 (by rw [rowI_len,KK])) IO) ?_
       simp -implicitDefEqProofs -proj only [go_sem,seval]
       refine AK (fun b18 hb18=>?_)
       replace hb18:Hj b18=none:=hb18
       obtain ⟨z1,z2⟩:=AH hb18 v5
       simp -implicitDefEqProofs -proj only [go_sem,seval,v5,z1,z2]
       refine An (fun bs hs=>?_)
       have hs':upd Hj b18 _ bs=none:=hs
       obtain ⟨hall',hn'⟩:AU Hj (Au 51 2 c1 cap (Ai (Eb c d i))++[(b5,GQ d (FP c d+sg (FH c d) i+sg (E5 c.ps d i) c.ps.length) (BU 2 2 c1 cap (Ai (Eb c d i)))),(b2,BJ c),(b4,GQ 0 0 (.nilsl 2))])∧(AN (Au 51 2 c1 cap (Ai (Eb c d i))++[(b5,GQ d (FP c d+sg (FH c d) i+sg (E5 c.ps d i) c.ps.length) (BU 2 2 c1 cap (Ai (Eb c d i)))),(b2,BJ c),(b4,GQ 0 0 (.nilsl 2))])).Nodup:=⟨hr,(List.nodup_cons.1 hnj).2⟩
       obtain ⟨q1,q2⟩:=AH hs' (by rw [AE z1]; exact v5)
       simp -implicitDefEqProofs -proj only [go_sem,seval,q1,q2,z1,z2]
       refine FL (xs:=Ai (Eb c d i)) (y:=[.int .i64 (((Gx c d i m.mx).length:Int)-1),.sl 5 (BA (ES (Gx c d i m.mx)))]) (t:=51) (capc:=1) [(b5,GQ d (FP c d+sg (FH c d) i+sg (E5 c.ps d i) c.ps.length) (BU 2 2 c1 cap (Ai (Eb c d i)))),(b2,BJ c),(b4,GQ 0 0 (.nilsl 2))] rfl (Ak hs' (Ak hb18 hall')) hn' (by simp -implicitDefEqProofs -proj only [go_sem,seval]; try rfl) (by rw [Ft,Hq]; omega) (by rw [Ft,Hq]; omega) (fun H' c2 cap2 ha hk=>?_)
       rw [AP3,←hsn] at ha hk
       obtain ⟨hrow2,g5,g2,g4,_⟩:=BI.1 ha
       have hne:Ai (Eb c d (i+1))≠[]:=by rw [hsn]; simp [Ai]
       have hl1:(Ai (Eb c d (i+1))).length=i+1:=by rw [Ft,Hq]
       have hfx1:FP c d+sg (FH c d) i+sg (E5 c.ps d i) c.ps.length=FP c d+sg (FH c d) (i+1):=by rw [hfm0]; omega
       rw [hfx1] at g5
       simp -implicitDefEqProofs -proj only [go_sem,seval,g5,Ft,Hq]
       have hk2:(AN (JV b2 b4 b5 c d ⟨i+1,c2,cap2⟩)).Nodup:=by simpa only [JV,Fs,GY,Gg,AN,List.map_cons,List.map_append] using hk
       have hk5:b5∉AN (Au 51 2 c2 cap2 (Ai (Eb c d (i+1)))):=by
        simp -implicitDefEqProofs only [AN,List.map_append,List.map_cons] at hk
        exact fun hm=>(List.nodup_append.1 hk).2.2 _ hm _ (List.mem_cons_self ..) rfl
       refine AZ ⟨i+1,c2,cap2⟩ ⟨by rw [Fs]; omega,hk2⟩ (by show c.ms.length-(i+1)<c.ms.length-i; omega) rfl ?_ ?_
       ·simp -implicitDefEqProofs -proj only [go_sem,seval,AL,Fs,AP (show i<9223372036854775807 by omega)]
       ·simp -implicitDefEqProofs only [JV,Fs,GY,Gg,ET hne,hl1]
        exact BI.2 ⟨Fq hrow2 hk5,AQ,(AE n5).trans g2,(AE n3).trans g4,trivial⟩
    ·have hi':i=c.ms.length:=by omega
     subst hi'
     simp -implicitDefEqProofs -proj only [go_sem,seval,Fs,GY,Gg,hH,k5,k4,decide_eq_false (show ¬(c.ms.length:Int)<c.ms.length by omega)]
     exact SW (LC (Fq hrow (by
      have:=hn
      simp -implicitDefEqProofs only [AN,List.map_append,List.map_cons] at this
      exact fun hm=>(List.nodup_append.1 this).2.2 _ hm _ (by simp) rfl)))
theorem AJl {a b:List (List Int)} (hl:a.length=b.length) (h:∀(i:Nat) (h1:i<a.length) (h2:i<b.length),a[i]=b[i]):a=b:=List.ext_getElem hl h
theorem NB {a b:Seg EU} (ha:∀l∈a.v.2,BN l) (hb:∀l∈b.v.2,BN l) (hla:a.v.2.length≤1000000) (hlb:b.v.2.length≤1000000):DataW Tryz.prog Z4 [Jm a,Jm b] (bv (decide (a.v=b.v))):=by
 obtain ⟨af,at',x,A⟩:=a
 obtain ⟨bf,bt',y,B⟩:=b
 simp -implicitDefEqProofs only [] at ha hb hla hlb
 refine Aa Va (by simp) ?_
 simp -implicitDefEqProofs -proj only [go_sem,seval]
 refine AK (fun b2 hb2=>?_)
 simp -implicitDefEqProofs -proj only [go_sem,seval]
 refine AK (fun b3 hb3=>?_)
 replace hb3:upd Heap.none b2 _ b3=none:=hb3
 obtain ⟨n1,n2⟩:=AH hb3 AQ
 by_cases g1:x=y
 rotate_left
 ·simp -implicitDefEqProofs -proj only [go_sem,seval,n1,n2,decide_eq_false g1,Bool.not_false]
  exact AI (by rw [decide_eq_false (fun k=>g1 (Prod.mk.inj k).1)])
 by_cases g2:A.length=B.length
 rotate_left
 ·simp -implicitDefEqProofs -proj only [go_sem,seval,n1,n2,decide_eq_true g1,Bool.not_true,Ft,decide_eq_false (show ¬(A.length:Int)=B.length by omega),Bool.not_false]
  exact AI (by rw [decide_eq_false (fun k=>g2 (by rw [(Prod.mk.inj k).2]))])
 simp -implicitDefEqProofs -proj only [go_sem,seval,n1,n2,decide_eq_true g1,Bool.not_true,Ft,decide_eq_true (show (A.length:Int)=B.length by omega)]
 refine BE (fun i:Nat=>i≤A.length∧∀(j:Nat) (h:j<A.length) (h2:j<B.length),j<i→A[j]=B[j]) 39 (fun i=>[(2,.ptr b2 0),(3,.ptr b3 0),(22,i64 A.length),(23,i64 i)]) (fun _=>[(b3,.box 47 [i64 bf,i64 bt',i64 y,FO B]),(b2,.box 47 [i64 af,i64 at',i64 x,FO A])]) (fun i=>A.length-i) 0 ⟨Nat.zero_le _,fun j _ _ h=>absurd h (Nat.not_lt_zero _)⟩ rfl ?_ ?_ ?_
 ·simp -implicitDefEqProofs -proj only [go_sem,seval,AL,Ft]
 ·exact ⟨AQ,(AE n1).trans AQ,trivial⟩
 ·rintro i ⟨hi,hs⟩
  have hk:AU (Ae [(b3,.box 47 [i64 bf,i64 bt',i64 y,FO B]),(b2,.box 47 [i64 af,i64 at',i64 x,FO A])]) [(b3,.box 47 [i64 bf,i64 bt',i64 y,FO B]),(b2,.box 47 [i64 af,i64 at',i64 x,FO A])]:=EQ (by simp [AN,n1])
  obtain ⟨k3,k2,_⟩:=id hk
  by_cases h:i<A.length
  ·have h2:i<B.length:=by omega
   have e1:=Kc h
   have e2:=Kc h2
   have hca:=ha _ (List.getElem_mem h)
   have hcb:=hb _ (List.getElem_mem h2)
   have hno:A[i]≠B[i]→(x,A)≠(y,B):=fun hn k=>hn (by
    have:=(Prod.mk.inj k).2
    subst this; rfl)
   have hgo:A[i]=B[i]→∀(j:Nat) (h:j<A.length) (h2:j<B.length),j<i+1→A[j]=B[j]:=fun he j h1 h2 h3=>by
    by_cases hj:j=i
    ·subst hj; exact he
    ·exact hs j h1 h2 (by omega)
   generalize A[i]=l at *
   generalize B[i]=m at *
   have hla':(ES l).length≤1000000:=by have:=@Jc l; have:=hca.2.1; omega
   have hlb':(ES m).length≤1000000:=by have:=@Jc m; have:=hcb.2.1; omega
   have hcall:=RL (m:=(l.length:Int)-1) (n:=(m.length:Int)-1) hla' hlb'
   rw [show decide ((l.length:Int)-1=(m.length:Int)-1∧ES l=ES m)=decide (l=m) from decide_eq_decide.2 Qc] at hcall
   simp -implicitDefEqProofs -proj only [go_sem,seval,k3,k2,n1,n2,decide_eq_true (show (i:Int)<A.length by omega)]
   refine Ah _ (by omega) e1 ?_
   simp -implicitDefEqProofs -proj only [go_sem,seval,k3,k2,n1,n2]
   refine Ah _ (by omega) e2 ?_
   simp -implicitDefEqProofs -proj only [go_sem,seval,k3,k2,n1,n2]
   refine AJ hcall ?_
   by_cases c:l=m
   ·simp -implicitDefEqProofs -proj only [go_sem,seval,decide_eq_true c,Bool.not_true]
    refine AZ (i+1) ⟨by omega,hgo c⟩ (by show A.length-(i+1)<A.length-i; omega) rfl ?_ hk
    simp -implicitDefEqProofs -proj only [go_sem,seval,AL,AP (show i<9223372036854775807 by omega)]
   ·simp -implicitDefEqProofs -proj only [go_sem,seval,decide_eq_false c,Bool.not_false]
    exact AI (by rw [decide_eq_false (hno c)])
  ·have hi':i=A.length:=by omega
   subst hi'
   simp -implicitDefEqProofs -proj only [go_sem,seval,decide_eq_false (show ¬(A.length:Int)<A.length by omega)]
   exact AI (by rw [decide_eq_true (show (x,A)=(y,B) by rw [g1,AJl g2 fun j h1 h2=>hs j h1 h2 h1])])
theorem Vl {l:List Int}:∀el∈AY l,∀d∈el,Gs d=true:=by
 intro el he d hd
 obtain ⟨r,_,rfl⟩:=List.mem_map.1 he
 simp -implicitDefEqProofs only [List.mem_singleton] at hd
 subst hd; rfl
theorem Vf {l:List Int} {x:Int}:AY l++[[.int .i64 x]]=AY (l++[x]):=by simp [AY]
structure BX17 where
 i:Nat
 c:Nat
 cap:Nat
theorem HP {i c cap:Nat}:(BX17.mk i c cap).i=i:=(rfl)
theorem JL {i c cap:Nat}:(BX17.mk i c cap).c=c:=(rfl)
theorem JE {i c cap:Nat}:(BX17.mk i c cap).cap=cap:=(rfl)
theorem Tz {val:Int→Int} {f:Int}:∀n:Nat,(Eq val f n).length≤n
 | 0=>by simp [Eq]
 | n+1=>by
  have:=Tz (val:=val) (f:=f) n
  rw [Eq]
  split
  ·omega
  ·rw [List.length_append,List.length_singleton]; omega
def Iy (b1:Nat) (x:CoreX) (val:Int→Int) (y:BX17):List (Nat×Blk):=Au 3 1 y.c y.cap (AY (Eq val x.f y.i))++[(b1,BJ x)]
theorem AFh {c:CoreX} (hg:goodC c):NewW Tryz.prog AG6 [GV c] (Gq (Eq (fun d=>((FI c d:Nat):Int)) c.f (c.t-c.f).toNat)):=by
 obtain ⟨⟨a1,a2⟩,⟨a3,a4⟩,a5,a6,a7,a8⟩:=hg.hd
 have hrh:=fun day=>AYN (c:=c) (day:=day) a7 a8
 obtain ⟨val,hval⟩:∃val:Int→Int,(fun d=>((FI c d:Nat):Int))=val:=⟨_,rfl⟩
 have hv:∀d,((FI c d:Nat):Int)=val d:=fun d=>congrFun hval d
 rw [hval]
 simp -implicitDefEqProofs only [hv] at hrh
 refine Aa AFm (by simp) ?_
 simp -implicitDefEqProofs -proj only [go_sem,seval]
 refine AK (fun b1 hb1=>?_)
 have w1:IntKind.i64.wrap (c.f+1)=c.f+1:=by rw [IntKind.wrap_i64]; omega
 simp -implicitDefEqProofs -proj only [go_sem,seval,w1]
 refine BE (fun y:BX17=>y.i≤(c.t-c.f).toNat∧(AN (Iy b1 c val y)).Nodup) 27 (fun y=>[(1,.ptr b1 0),(3,BU 0 1 y.c y.cap (AY (Eq val c.f y.i))),(4,i64 (c.f+1+y.i))]) (Iy b1 c val) (fun y=>(c.t-c.f).toNat+1-y.i) ⟨0,0,0⟩ ⟨Nat.zero_le _,by simp [AN,Iy,HP,Eq,AY,Au]⟩ rfl ?_ ?_ ?_
 ·simp -implicitDefEqProofs -proj only [go_sem,seval,AL,HP,Int.add_zero]
  try rfl
 ·simp -implicitDefEqProofs only [Iy,HP,Eq,AY,List.map_nil,IW,List.nil_append]
  exact ⟨AQ,trivial⟩
 ·rintro ⟨i,c1,cap⟩ ⟨hi,hn⟩
  simp -implicitDefEqProofs only [HP] at hi
  have hall:=EQ hn
  obtain ⟨H,hH⟩:∃H,Ae (Iy b1 c val ⟨i,c1,cap⟩)=H:=⟨_,rfl⟩
  rw [hH] at hall
  simp -implicitDefEqProofs only [Iy,HP,JL,JE] at hall hn
  obtain ⟨hrow,k1,_⟩:=BI.1 hall
  by_cases h:i<(c.t-c.f).toNat
  ·have hbl:=Tz (val:=val) (f:=c.f) i
   have w2:IntKind.i64.wrap (c.f+1+(i:Int)-1)=c.f+i:=by rw [IntKind.wrap_i64]; omega
   have w3:IntKind.i64.wrap (c.f+1+(i:Int)+1)=c.f+1+((i+1:Nat):Int):=by rw [IntKind.wrap_i64]; omega
   have h1:=hrh (c.f+1+i)
   have h2:=hrh (c.f+i)
   have hb:Eq val c.f (i+1)=if val (c.f+1+i)=val (c.f+i) then Eq val c.f i else Eq val c.f i++[c.f+1+i]:=rfl
   generalize hG:Eq val c.f i=G at *
   simp -implicitDefEqProofs -proj only [go_sem,seval,HP,JL,JE,hH,hG,k1,decide_eq_true (show c.f+1+(i:Int)≤c.t by omega)]
   refine EW h1 ?_
   simp -implicitDefEqProofs -proj only [go_sem,seval,k1,w2]
   refine AJ h2 ?_
   by_cases he:val (c.f+1+i)=val (c.f+i)
   ·rw [if_pos he] at hb
    simp -implicitDefEqProofs -proj only [go_sem,seval,decide_eq_true he,w3]
    refine AZ ⟨i+1,c1,cap⟩ ⟨by rw [HP]; omega,by simpa only [Iy,HP,JL,JE,hb] using hn⟩ (by show (c.t-c.f).toNat+1-(i+1)<(c.t-c.f).toNat+1-i; omega) rfl ?_ ?_
    ·simp -implicitDefEqProofs -proj only [go_sem,seval,AL,HP,JL,JE,hb]
    ·simpa only [Iy,HP,JL,JE,hb] using hall
   ·rw [if_neg he] at hb
    have hne:AY (Eq val c.f (i+1))≠[]:=by rw [hb]; simp [AY]
    have hl2:(AY (Eq val c.f (i+1))).length=G.length+1:=by rw [rowI_len,hb,List.length_append,List.length_singleton]
    simp -implicitDefEqProofs -proj only [go_sem,seval,decide_eq_false he]
    refine An (fun bs hs=>?_)
    replace hs:H bs=none:=hs
    simp -implicitDefEqProofs -proj only [go_sem,seval]
    refine FL (xs:=AY G) (y:=[.int .i64 (c.f+1+i)]) (t:=3) (capc:=1) [(b1,BJ c)] rfl (Ak hs hall) hn (by simp -implicitDefEqProofs -proj only [go_sem,seval]; try rfl) (by rw [rowI_len]; omega) (by rw [rowI_len]; omega) (fun H' c2 cap2 ha hk=>?_)
    rw [Vf,←hb] at ha hk
    simp -implicitDefEqProofs -proj only [go_sem,seval,w3,rowI_len]
    refine AZ ⟨i+1,c2,cap2⟩ ⟨by rw [HP]; omega,by simpa only [Iy,HP,JL,JE] using hk⟩ (by show (c.t-c.f).toNat+1-(i+1)<(c.t-c.f).toNat+1-i; omega) rfl ?_ ?_
    ·simp -implicitDefEqProofs -proj only [go_sem,seval,AL,HP,JL,JE,ET hne,hl2,rowI_len]
    ·simpa only [Iy,HP,JL,JE] using ha
  ·have hi':i=(c.t-c.f).toNat:=by omega
   subst hi'
   simp -implicitDefEqProofs -proj only [go_sem,seval,HP,JL,JE,hH,k1,decide_eq_false (show ¬c.f+1+(((c.t-c.f).toNat:Nat):Int)≤c.t by omega)]
   exact J4 hrow Vl
section
variable {P:Program} {Q:Out→St→Prop} {k:List Item} {s:St} {d:Option Nat} {l:List AO}
theorem Pt {e:TypeId} {sz bytes b len cap:Nat} {z:List AV} {xs ys:List (List D)} (hb:s.H b=some (.row e sz cap xs)) (hlb:len=xs.length) (hz:z.length=sz) (hbd:(xs.length+ys.length)*bytes≤140737488355328∧xs.length+ys.length≤maxLen)
  (hk:∀b' cap' H',H' b'=some (.row e sz cap' (xs++ys))→(∀k x,s.H k=some x→¬k=b→H' k=some x∧¬k=b'∧¬b'=k)→AT P Q l k (AM s d (.own b' sz 0 (len+ys.length) cap') H')):If e sz bytes z (.own b sz 0 len cap) (.d (.sl sz ys)) d l k s P Q:=by
 by_cases h:ys=[]
 ·subst h
  refine ADY hz ?_
  have:=hk b cap s.H (by rw [List.append_nil]; exact hb) (fun k x h1 h2=>⟨h1,h2,fun e=>h2 e.symm⟩)
  simpa using this
 ·refine AEP (len:=0) hb hlb h hz hbd (fun b' cap' hb'=>hk b' cap' _ AQ (fun k x h1 h2=>?_))
  have hne:¬k=b':=by
   rintro rfl
   rw [AE (fun e=>h2 e.symm),h1] at hb'
   cases hb'
  exact ⟨by rw [AE (fun e=>hne e.symm),AE (fun e=>h2 e.symm)]; exact h1,hne,fun e=>hne e.symm⟩
end
structure MkY where
 i:Nat
 c:Nat
 cap:Nat
theorem Gl {i c cap:Nat}:(MkY.mk i c cap).i=i:=(rfl)
theorem JD {i c cap:Nat}:(MkY.mk i c cap).c=c:=(rfl)
theorem JI {i c cap:Nat}:(MkY.mk i c cap).cap=cap:=(rfl)
def F8 (b1 b2 b3 bm bd capm capd:Nat) (c:CoreX) (ds:List Int) (c1 cap:Nat) (acc:List (Seg EU)):List (Nat×Blk):=Au 47 4 c1 cap (Ao acc)++[(b3,.box 31 [.d (.str c.cur),i64 c.f,i64 c.t,.own bm 5 0 c.ms.length capm,BU 4 4 c1 cap (Ao acc)]),(bm,.row 42 5 capm (EK c.ms)),(bd,.row 3 1 capd (AY ds)),(b1,BJ c),(b2,.box 31 [.d (.str ⟨⟨[]⟩⟩),i64 0,i64 0,.nilsl 5,.nilsl 4])]
theorem Tc {b1 b2 b3 bm bd capm capd:Nat} {c:CoreX} {ds:List Int} {c1 cap:Nat} {A:List (Seg EU)} {s s':Seg EU}:AN (F8 b1 b2 b3 bm bd capm capd c ds c1 cap (A++[s]))=AN (F8 b1 b2 b3 bm bd capm capd c ds c1 cap (A++[s'])):=by
 have h:∀s:Seg EU,Ao (A++[s])≠[]:=fun s=>by simp [Ao]
 simp -implicitDefEqProofs only [F8,FE (h s),FE (h s'),AN,List.map_append,List.map_cons,List.map_nil]
theorem Rd {c:CoreX} (hc:c.Fit) (hf:fitsC c):DataW Tryz.prog AMb [GV c] (IF c.cur c.f c.t c.ms (El c)):=by
 obtain ⟨⟨a1,a2⟩,⟨a3,a4⟩,a5,a6,a7,a8⟩:=hf.good.hd
 have hbr:=(AFh hf.good).data
 have hst:=ABg (c:=c) a3
 have hfw:=L6 (c:=c) a3
 have hlen:=AIN (c:=c) a7 a8 (c.t-c.f).toNat
 have hday:=fun (d:Int) (hd:Fit d)=>ACc (d:=d) hc hf hd
 have hcurs:=fun d=>LF hf d
 have hfin:El c=LE (Fi (Ed c) ((Hl c).map (·.f)) (Hl c).length) c.t:=rfl
 have hadd:=Pv hfw (Mb a7)
 have hRl:(Hl c).length=(Eq (fun d=>((FI c d:Nat):Int)) c.f (c.t-c.f).toNat).length+1:=by
  have:=congrArg List.length hst
  simpa using this
 have hnth:=hfw.nth2
 rw [hfin]
 rw [hst] at hadd ⊢
 generalize Hl c=R at *
 generalize Eq (fun d=>((FI c d:Nat):Int)) c.f (c.t-c.f).toNat=bs at *
 refine Aa AJJ (by simp) ?_
 simp -implicitDefEqProofs -proj only [go_sem,seval]
 refine AK (fun b1 hb1=>?_)
 simp -implicitDefEqProofs -proj only [go_sem,seval]
 refine AK (fun b2 hb2=>?_)
 replace hb2:upd Heap.none b1 _ b2=none:=hb2
 obtain ⟨n1,n2⟩:=AH hb2 AQ
 simp -implicitDefEqProofs -proj only [go_sem,seval,n1,n2]
 have A1:AU (upd (upd Heap.none b1 (some (BJ c))) b2 (some (.box 31 [.d (.str ⟨⟨[]⟩⟩),i64 0,i64 0,.nilsl 5,.nilsl 4]))) [(b1,BJ c),(b2,.box 31 [.d (.str ⟨⟨[]⟩⟩),i64 0,i64 0,.nilsl 5,.nilsl 4])]:=⟨(AE n1).trans AQ,AQ,trivial⟩
 have N1:(AN [(b1,BJ c),(b2,Blk.box 31 [.d (.str ⟨⟨[]⟩⟩),i64 0,i64 0,.nilsl 5,.nilsl 4])]).Nodup:=by simp [AN,n2]
 obtain ⟨H0,hH0⟩:∃H0,upd (upd Heap.none b1 (some (BJ c))) b2 (some (.box 31 [.d (.str ⟨⟨[]⟩⟩),i64 0,i64 0,.nilsl 5,.nilsl 4]))=H0:=⟨_,rfl⟩
 rw [hH0] at A1
 rw [hH0]
 refine Jq (ds:=[]) rfl (fun b14 hb14=>?_)
 replace hb14:H0 b14=none:=hb14
 obtain ⟨k1,k2,_⟩:=id A1
 obtain ⟨m1,m2⟩:=AH hb14 k1
 obtain ⟨m3,m4⟩:=AH hb14 k2
 simp -implicitDefEqProofs -proj only [go_sem,seval]
 refine Pt (xs:=[]) (by exact AQ) rfl (by rfl) (by rw [FA]; constructor <;> simp [maxLen] <;> omega) (fun bm capm H1 hm hfr=>?_)
 obtain ⟨g1,g2,g3⟩:=hfr b1 _ ((AE m1).trans k1) m2
 obtain ⟨g4,g5,g6⟩:=hfr b2 _ ((AE m3).trans k2) m4
 simp -implicitDefEqProofs -proj only [go_sem,seval,FA]
 refine AK (fun b3 hb3=>?_)
 replace hb3:H1 b3=none:=hb3
 obtain ⟨p1,p2⟩:=AH hb3 g1
 obtain ⟨p3,p4⟩:=AH hb3 g4
 obtain ⟨p5,p6⟩:=AH hb3 hm
 obtain ⟨H2,hH2⟩:∃H2,upd H1 b3 (some (.box 31 [.d (.str c.cur),i64 c.f,i64 c.t,.own bm 5 0 c.ms.length capm,.nilsl 4]))=H2:=⟨_,rfl⟩
 have A2:AU H2 [(b3,.box 31 [.d (.str c.cur),i64 c.f,i64 c.t,.own bm 5 0 c.ms.length capm,.nilsl 4]),(bm,.row 42 5 capm (EK c.ms)),(b1,BJ c),(b2,.box 31 [.d (.str ⟨⟨[]⟩⟩),i64 0,i64 0,.nilsl 5,.nilsl 4])]:=by
  rw [←hH2]
  exact ⟨AQ,(AE p5).trans hm,(AE p1).trans g1,(AE p3).trans g4,trivial⟩
 have N2:(AN [(b3,Blk.box 31 [.d (.str c.cur),i64 c.f,i64 c.t,.own bm 5 0 c.ms.length capm,.nilsl 4]),(bm,.row 42 5 capm (EK c.ms)),(b1,BJ c),(b2,.box 31 [.d (.str ⟨⟨[]⟩⟩),i64 0,i64 0,.nilsl 5,.nilsl 4])]).Nodup:=by
  simp [AN,p1,p3,p5,g3,g6,n2]
 obtain ⟨e3,em,e1,e2,_⟩:=id A2
 simp -implicitDefEqProofs -proj only [go_sem,seval,p1,p2,p3,p4,p5,p6,hH2,e1]
 refine EW hbr ?_
 simp -implicitDefEqProofs -proj only [go_sem,seval]
 refine Jq (ds:=[.int .i64 c.f]) rfl (fun b21 hb21=>?_)
 replace hb21:H2 b21=none:=hb21
 have A3:=Ak (y:=some (.row 3 1 1 [[.int .i64 c.f]])) hb21 A2
 simp -implicitDefEqProofs -proj only [go_sem,seval]
 refine Pt (xs:=[[.int .i64 c.f]]) AQ rfl (by rfl) (by rw [rowI_len]; constructor <;> simp [maxLen] <;> omega) (fun bd capd H3 hd hfr3=>?_)
 have A4:AU H3 ((bd,.row 3 1 capd (AY (c.f::bs)))::[(b3,.box 31 [.d (.str c.cur),i64 c.f,i64 c.t,.own bm 5 0 c.ms.length capm,.nilsl 4]),(bm,.row 42 5 capm (EK c.ms)),(b1,BJ c),(b2,.box 31 [.d (.str ⟨⟨[]⟩⟩),i64 0,i64 0,.nilsl 5,.nilsl 4])]) :=
  ⟨hd,Ez.2 fun p hp=>(hfr3 p.1 p.2 (Ez.1 A3 p hp) (fun e=>by
   have:=Ez.1 A2 p hp
   rw [e,hb21] at this; cases this)).1⟩
 have N4:bd∉AN [(b3,Blk.box 31 [.d (.str c.cur),i64 c.f,i64 c.t,.own bm 5 0 c.ms.length capm,.nilsl 4]),(bm,.row 42 5 capm (EK c.ms)),(b1,BJ c),(b2,.box 31 [.d (.str ⟨⟨[]⟩⟩),i64 0,i64 0,.nilsl 5,.nilsl 4])]:=fun hm=>by
  obtain ⟨p,hp,e⟩:=List.mem_map.1 hm
  exact (hfr3 p.1 p.2 (Ez.1 A3 p hp) (fun e=>by
   have:=Ez.1 A2 p hp
   rw [e,hb21] at this; cases this)).2.1 e
 have hlR:1+bs.length=R.length:=by omega
 obtain ⟨f3,fm,f1,f2,_⟩:=id A4.2
 simp -implicitDefEqProofs -proj only [go_sem,seval,rowI_len,hlR]
 have hkk:∀(c1 cap:Nat),(AN (F8 b1 b2 b3 bm bd capm capd c (c.f::bs) c1 cap [])).Nodup:=fun c1 cap=>by
  exact TZ (A:=[b3,bm]) (B:=[b1,b2]) (List.nodup_cons.2 ⟨N4,N2⟩)
 refine BE (fun y:MkY=>y.i≤R.length∧(AN (F8 b1 b2 b3 bm bd capm capd c (c.f::bs) y.c y.cap (Fi (Ed c) (c.f::bs) y.i))).Nodup) 81 (fun y=>[(1,.ptr b1 0),(2,.ptr b2 0),(3,.ptr b3 0),(24,.own bd 1 0 R.length capd),(25,i64 R.length),(26,i64 y.i)]) (fun y=>F8 b1 b2 b3 bm bd capm capd c (c.f::bs) y.c y.cap (Fi (Ed c) (c.f::bs) y.i)) (fun y=>R.length-y.i) ⟨0,0,0⟩ ⟨Nat.zero_le _,hkk _ _⟩ rfl ?_ ?_ ?_
 ·simp -implicitDefEqProofs -proj only [go_sem,seval,AL,Gl,rowI_len,hlR]
 ·simp -implicitDefEqProofs only [F8,Gl,Fi,Ao,List.map_nil,IW,KI,List.nil_append]
  exact ⟨f3,fm,A4.1,f1,f2,trivial⟩
 ·rintro ⟨i,c1,cap⟩ ⟨hi,hn⟩
  simp -implicitDefEqProofs only [Gl,JD,JI] at hi hn
  have hall:=EQ hn
  obtain ⟨H,hH⟩:∃H,Ae (F8 b1 b2 b3 bm bd capm capd c (c.f::bs) c1 cap (Fi (Ed c) (c.f::bs) i))=H:=⟨_,rfl⟩
  rw [hH] at hall
  simp -implicitDefEqProofs only [F8] at hall
  obtain ⟨hrow,h3,hm3,hd3,h1,h2,_⟩:=BI.1 hall
  by_cases h:i<R.length
  ·have hr:=List.getElem?_eq_getElem h
   obtain ⟨r1,r2,r3,r4,r5,r6,r7⟩:=hnth i _ hr
   have hds:(c.f::bs)[i]? = some R[i].f:=by rw [←hst]; simp [h]
   have hdi:=Jv hds
   have hstep:Fi (Ed c) (c.f::bs) (i+1)=Js (Fi (Ed c) (c.f::bs) i) R[i].f (Ed c R[i].f):=by rw [Fi,hds]
   have hdy:=hday R[i].f (by unfold Fit; omega)
   have hcu:∀l∈(Ed c R[i].f).2,BN l:=hcurs R[i].f
   have hdl:(Ed c R[i].f).2.length=c.ms.length:=Hq
   have hacc:∀A s,Fi (Ed c) (c.f::bs) i=A++[s]→(∀l∈s.v.2,BN l)∧s.v.2.length≤4:=fun A s e=>by
    cases i with
    | zero=>rw [Fi] at e; have:=congrArg List.length e; simp at this
    | succ i =>
     obtain ⟨A',s',e1,e2,_⟩:=hadd i R[i] (List.getElem?_eq_getElem (by omega))
     rw [e1] at e
     have:=(List.append_inj' e rfl).2
     cases this
     rw [e2]
     exact ⟨LF hf _,by show (Eb c _ _).length≤4; rw [Hq]; exact a6⟩
   have hal:(Fi (Ed c) (c.f::bs) i).length≤4000:=by
    cases i with
    | zero=>rw [Fi]; simp
    | succ i =>
     obtain ⟨A',s',e1,e2,e3,e4⟩:=hadd i R[i] (List.getElem?_eq_getElem (by omega))
     obtain ⟨_,q2,q3,_⟩:=hnth i R[i] (List.getElem?_eq_getElem (by omega))
     have:=(e4 R[i].f (Int.le_refl _) q2).len
     rw [e1]
     simp -implicitDefEqProofs only [List.length_append,List.length_singleton] at this ⊢
     omega
   generalize R[i]=r at *
   generalize hacd:Fi (Ed c) (c.f::bs) i=acc at *
   generalize Ed c r.f=v at *
   have w1:IntKind.i64.wrap (r.f-1)=r.f-1:=by rw [IntKind.wrap_i64]; omega
   simp -implicitDefEqProofs -proj only [go_sem,seval,Gl,JD,JI,hacd,hH,hd3,decide_eq_true (show (i:Int)<R.length by omega)]
   refine Af ⟨by omega,by omega⟩ (fun _=>?_)
   rw [Int.toNat_natCast]
   refine BB _ hdi (by simp) ?_
   simp -implicitDefEqProofs -proj only [go_sem,seval,h1]
   refine AJ hdy ?_
   simp -implicitDefEqProofs -proj only [go_sem,seval]
   refine AK (fun b6 hb6=>?_)
   replace hb6:H b6=none:=hb6
   obtain ⟨y1,y2⟩:=AH hb6 h3
   have hall6:=Ak (y:=some (.box 47 [i64 r.f,i64 r.f,i64 v.1,FO v.2])) hb6 hall
   by_cases c0:acc=[]
   ·subst c0
    have hnew:Fi (Ed c) (c.f::bs) (i+1)=[⟨r.f,r.f,v⟩]:=by rw [hstep]; rfl
    simp -implicitDefEqProofs only [Ao,List.map_nil,KI,IW,List.nil_append] at h3 hall6 hn
    have hn6:(AN (Au 47 4 0 0 (Ao [])++[(b3,Blk.box 31 [.d (.str c.cur),i64 c.f,i64 c.t,.own bm 5 0 c.ms.length capm,.nilsl 4]),(bm,.row 42 5 capm (EK c.ms)),(bd,.row 3 1 capd (AY (c.f::bs))),(b1,BJ c),(b2,.box 31 [.d (.str ⟨⟨[]⟩⟩),i64 0,i64 0,.nilsl 5,.nilsl 4])])).Nodup:=hkk 0 0
    simp -implicitDefEqProofs -proj only [go_sem,seval,h3,y1,y2]
    refine An (fun bs' hs=>?_)
    replace hs:(upd H b6 (some (.box 47 [i64 r.f,i64 r.f,i64 v.1,FO v.2]))) bs'=none:=hs
    simp -implicitDefEqProofs -proj only [go_sem,seval]
    refine FL (c:=0) (cap:=0) (z0:=4) (xs:=Ao (([]:List (Seg EU)))) (y:=[.int .i64 r.f,.int .i64 r.f,.int .i64 v.1,.sl 2 (Ai v.2)]) (t:=47) (capc:=1) [(b3,Blk.box 31 [.d (.str c.cur),i64 c.f,i64 c.t,.own bm 5 0 c.ms.length capm,.nilsl 4]),(bm,.row 42 5 capm (EK c.ms)),(bd,.row 3 1 capd (AY (c.f::bs))),(b1,BJ c),(b2,.box 31 [.d (.str ⟨⟨[]⟩⟩),i64 0,i64 0,.nilsl 5,.nilsl 4])] rfl (Ak hs hall6) hn6 (by simp -implicitDefEqProofs -proj only [go_sem,seval]; try rfl) (by simp [Ao]) (by simp [Ao]) (fun H' c2 cap2 ha hk=>?_)
    rw [show Ao (([]:List (Seg EU)))++[[.int .i64 r.f,.int .i64 r.f,.int .i64 v.1,.sl 2 (Ai v.2)]]=Ao ([⟨r.f,r.f,v⟩]) by simp [Ao,JP]] at ha hk
    obtain ⟨hrow',q3,qm,qd,q1,q2,_⟩:=BI.1 ha
    simp -implicitDefEqProofs -proj only [go_sem,seval,q3]
    have hne':Ao ([⟨r.f,r.f,v⟩])≠[]:=by simp [Ao]
    have hk2:(AN (F8 b1 b2 b3 bm bd capm capd c (c.f::bs) c2 cap2 ([⟨r.f,r.f,v⟩]))).Nodup:=by simpa only [F8,AN,List.map_cons,List.map_append] using hk
    have hk3:b3∉AN (Au 47 4 c2 cap2 (Ao ([⟨r.f,r.f,v⟩]))):=by
     simp -implicitDefEqProofs only [AN,List.map_append,List.map_cons] at hk
     exact fun hm=>(List.nodup_append.1 hk).2.2 _ hm _ (List.mem_cons_self ..) rfl
    have hkr:b3∉AN [(bm,Blk.row 42 5 capm (EK c.ms)),(bd,.row 3 1 capd (AY (c.f::bs))),(b1,BJ c),(b2,.box 31 [.d (.str ⟨⟨[]⟩⟩),i64 0,i64 0,.nilsl 5,.nilsl 4])]:=by
     simp -implicitDefEqProofs only [AN,List.map_append,List.map_cons] at hk
     exact (List.nodup_cons.1 (List.nodup_append.1 hk).2.1).1
    refine AZ ⟨i+1,c2,cap2⟩ ⟨by rw [Gl]; omega,by simp -implicitDefEqProofs only [Gl,JD,JI]; rw [hnew]; exact hk2⟩ (by show R.length-(i+1)<R.length-i; omega) rfl ?_ ?_
    ·simp -implicitDefEqProofs -proj only [go_sem,seval,AL,Gl,AP (show i<9223372036854775807 by omega)]
    ·simp -implicitDefEqProofs only [Gl,JD,JI]
     rw [hnew]
     simp -implicitDefEqProofs only [F8,ET hne',Gj,List.length_nil,List.length_append,List.length_cons]
     exact BI.2 ⟨Fq hrow' hk3,AQ,Fq ⟨qm,qd,q1,q2,trivial⟩ hkr⟩
   ·obtain ⟨A,s,hAs⟩:∃A s,acc=A++[s]:=⟨acc.dropLast,acc.getLast c0,(List.dropLast_concat_getLast c0).symm⟩
    subst hAs
    have hne:Ao (A++[s])≠[]:=by simp [Ao]
    have hne1:Ao (A++[⟨s.f,r.f-1,s.v⟩])≠[]:=by simp [Ao]
    have hxl:(Ao (A++[s])).length=A.length+1:=by rw [Gj]; simp
    have hxl1:(Ao (A++[⟨s.f,r.f-1,s.v⟩])).length=A.length+1:=by rw [Gj]; simp
    obtain ⟨hsc,hsl⟩:=hacc A s rfl
    rw [FE hne] at hrow
    rw [ET hne,hxl] at h3
    have hkc1:=hrow.1
    have hn':=hn
    simp -implicitDefEqProofs only [F8,FE hne,AN,List.map_append,List.map_cons,List.map_nil,List.cons_append,List.nil_append] at hn'
    obtain ⟨z1,z2⟩:=AH hb6 hkc1
    obtain ⟨x1,x2,x3,x4,x5⟩:¬c1=b3∧¬c1=bm∧¬c1=bd∧¬c1=b1∧¬c1=b2:=by
     have:=(List.nodup_cons.1 hn').1
     simp -implicitDefEqProofs only [List.mem_cons,List.not_mem_nil,or_false,not_or] at this
     exact this
    have x1':¬b3=c1:=fun e=>x1 e.symm
    have w2:IntKind.i64.wrap (((A.length+1:Nat):Int)-1)=(A.length:Int):=by rw [IntKind.wrap_i64]; simp -implicitDefEqProofs only [List.length_append,List.length_singleton] at hal; omega
    have hat:=NN (S:=A++[s]) (i:=A.length) (s:=s) (by simp)
    have hat2:=NN (S:=A++[⟨s.f,r.f-1,s.v⟩]) (i:=A.length) (s:=⟨s.f,r.f-1,s.v⟩) (by simp)
    have hset:=Pq (A:=A) (s:=s) (x:=r.f-1)
    have hal':A.length≤4000:=by simp -implicitDefEqProofs only [List.length_append,List.length_singleton] at hal; omega
    have dz:decide (((A.length+1:Nat):Int)=0)=false:=decide_eq_false (by omega)
    have hcall:=NB (a:=⟨s.f,r.f-1,s.v⟩) (b:=⟨r.f,r.f,v⟩) hsc hcu (by show s.v.2.length≤1000000; omega) (by show v.2.length≤1000000; omega)
    simp -implicitDefEqProofs -proj only [go_sem,seval,h3,y1,y2,hxl,w2,w1,decide_eq_true (show (0:Int)<((A.length+1:Nat):Int) by omega)]
    refine Af ⟨by omega,by omega⟩ (fun _=>?_)
    rw [Int.toNat_natCast]
    refine LB (cap:=cap) ((AE z1).trans hkc1) hat (by simp) ?_
    obtain ⟨H5,hH5⟩:∃H5,upd (upd H b6 (some (.box 47 [i64 r.f,i64 r.f,i64 v.1,FO v.2]))) c1 (some (.row 47 4 cap (Ao (A++[⟨s.f,r.f-1,s.v⟩]))))=H5:=⟨_,rfl⟩
    have hall5:AU H5 ((b6,.box 47 [i64 r.f,i64 r.f,i64 v.1,FO v.2])::F8 b1 b2 b3 bm bd capm capd c (c.f::bs) c1 cap (A++[⟨s.f,r.f-1,s.v⟩])):=by
     rw [←hH5]
     simp -implicitDefEqProofs only [F8,FE hne1,ET hne1,hxl1,List.cons_append,List.nil_append]
     have h6:=hall6
     rw [FE hne,ET hne,hxl] at h6
     exact ⟨(AE (fun e=>z1 e.symm)).trans AQ,AQ,Fq h6.2 (List.nodup_cons.1 hn').1⟩
    simp -implicitDefEqProofs only [F8,FE hne1,ET hne1,hxl1,List.cons_append,List.nil_append] at hall5
    obtain ⟨u6,uc,u3,um,ud,u1,u2,_⟩:=id hall5
    simp -implicitDefEqProofs -proj only [go_sem,seval,GX,hset,hH5,dz,u3,uc,u6,w2]
    refine Af ⟨by omega,by omega⟩ (fun _=>?_)
    simp -implicitDefEqProofs -proj only [go_sem,seval,Int.toNat_natCast,uc]
    refine EJ _ hat2 (by simp) ?_
    simp -implicitDefEqProofs -proj only [go_sem,seval,u6]
    refine AJ hcall ?_
    by_cases ca:s.v=v
    ·have hnew:Fi (Ed c) (c.f::bs) (i+1)=A++[⟨s.f,r.f-1,s.v⟩]:=by
      rw [hstep,Js]
      simp -implicitDefEqProofs only [List.getLast?_append,List.getLast?_singleton,Option.some_or,List.dropLast_concat,if_pos ca]
     simp -implicitDefEqProofs -proj only [go_sem,seval,decide_eq_true ca,Bool.not_true]
     refine AZ ⟨i+1,c1,cap⟩ ⟨by rw [Gl]; omega,by simp -implicitDefEqProofs only [Gl,JD,JI]; rw [hnew,Tc (s':=s)]; exact hn⟩ (by show R.length-(i+1)<R.length-i; omega) rfl ?_ ?_
     ·simp -implicitDefEqProofs -proj only [go_sem,seval,AL,Gl,AP (show i<9223372036854775807 by omega)]
     ·simp -implicitDefEqProofs only [Gl,JD,JI]
      rw [hnew]
      simp -implicitDefEqProofs only [F8,FE hne1,ET hne1,hxl1,List.cons_append,List.nil_append]
      exact hall5.2
    ·have hnew:Fi (Ed c) (c.f::bs) (i+1)=A++[⟨s.f,r.f-1,s.v⟩]++[⟨r.f,r.f,v⟩]:=by
      rw [hstep,Js]
      simp -implicitDefEqProofs only [List.getLast?_append,List.getLast?_singleton,Option.some_or,List.dropLast_concat,if_neg ca]
     have hall7:AU H5 (Au 47 4 c1 cap (Ao (A++[⟨s.f,r.f-1,s.v⟩]))++[(b3,Blk.box 31 [.d (.str c.cur),i64 c.f,i64 c.t,.own bm 5 0 c.ms.length capm,BU 4 4 c1 cap (Ao (A++[⟨s.f,r.f-1,s.v⟩]))]),(bm,.row 42 5 capm (EK c.ms)),(bd,.row 3 1 capd (AY (c.f::bs))),(b1,BJ c),(b2,.box 31 [.d (.str ⟨⟨[]⟩⟩),i64 0,i64 0,.nilsl 5,.nilsl 4])]):=by
      simp -implicitDefEqProofs only [FE hne1,ET hne1,hxl1,List.cons_append,List.nil_append]
      exact hall5.2
     have hn7:(AN (Au 47 4 c1 cap (Ao (A++[⟨s.f,r.f-1,s.v⟩]))++[(b3,Blk.box 31 [.d (.str c.cur),i64 c.f,i64 c.t,.own bm 5 0 c.ms.length capm,BU 4 4 c1 cap (Ao (A++[⟨s.f,r.f-1,s.v⟩]))]),(bm,.row 42 5 capm (EK c.ms)),(bd,.row 3 1 capd (AY (c.f::bs))),(b1,BJ c),(b2,.box 31 [.d (.str ⟨⟨[]⟩⟩),i64 0,i64 0,.nilsl 5,.nilsl 4])])).Nodup:=by
      rw [Tc (s':=⟨s.f,r.f-1,s.v⟩)] at hn
      exact hn
     obtain ⟨_,u3',_⟩:=BI.1 hall7
     simp -implicitDefEqProofs -proj only [go_sem,seval,decide_eq_false ca,Bool.not_false,u3',u6]
     refine An (fun bs' hs=>?_)
     replace hs:H5 bs'=none:=hs
     simp -implicitDefEqProofs -proj only [go_sem,seval]
     refine FL (c:=c1) (cap:=cap) (z0:=4) (xs:=Ao (A++[Seg.mk s.f (r.f-1) s.v])) (y:=[.int .i64 r.f,.int .i64 r.f,.int .i64 v.1,.sl 2 (Ai v.2)]) (t:=47) (capc:=1) [(b3,Blk.box 31 [.d (.str c.cur),i64 c.f,i64 c.t,.own bm 5 0 c.ms.length capm,BU 4 4 c1 cap (Ao (A++[⟨s.f,r.f-1,s.v⟩]))]),(bm,.row 42 5 capm (EK c.ms)),(bd,.row 3 1 capd (AY (c.f::bs))),(b1,BJ c),(b2,.box 31 [.d (.str ⟨⟨[]⟩⟩),i64 0,i64 0,.nilsl 5,.nilsl 4])] rfl (Ak hs hall7) hn7 (by simp -implicitDefEqProofs -proj only [go_sem,seval]; try rfl) (by rw [hxl1]; omega) (by rw [hxl1]; omega) (fun H' c2 cap2 ha hk=>?_)
     rw [show Ao (A++[⟨s.f,r.f-1,s.v⟩])++[[.int .i64 r.f,.int .i64 r.f,.int .i64 v.1,.sl 2 (Ai v.2)]]=Ao (A++[⟨s.f,r.f-1,s.v⟩]++[⟨r.f,r.f,v⟩]) by simp [Ao,JP]] at ha hk
     obtain ⟨hrow',q3,qm,qd,q1,q2,_⟩:=BI.1 ha
     simp -implicitDefEqProofs -proj only [go_sem,seval,q3]
     have hne':Ao (A++[⟨s.f,r.f-1,s.v⟩]++[⟨r.f,r.f,v⟩])≠[]:=by simp [Ao]
     have hk2:(AN (F8 b1 b2 b3 bm bd capm capd c (c.f::bs) c2 cap2 (A++[⟨s.f,r.f-1,s.v⟩]++[⟨r.f,r.f,v⟩]))).Nodup:=by simpa only [F8,AN,List.map_cons,List.map_append] using hk
     have hk3:b3∉AN (Au 47 4 c2 cap2 (Ao (A++[⟨s.f,r.f-1,s.v⟩]++[⟨r.f,r.f,v⟩]))):=by
      simp -implicitDefEqProofs only [AN,List.map_append,List.map_cons] at hk
      exact fun hm=>(List.nodup_append.1 hk).2.2 _ hm _ (List.mem_cons_self ..) rfl
     have hkr:b3∉AN [(bm,Blk.row 42 5 capm (EK c.ms)),(bd,.row 3 1 capd (AY (c.f::bs))),(b1,BJ c),(b2,.box 31 [.d (.str ⟨⟨[]⟩⟩),i64 0,i64 0,.nilsl 5,.nilsl 4])]:=by
      simp -implicitDefEqProofs only [AN,List.map_append,List.map_cons] at hk
      exact (List.nodup_cons.1 (List.nodup_append.1 hk).2.1).1
     refine AZ ⟨i+1,c2,cap2⟩ ⟨by rw [Gl]; omega,by simp -implicitDefEqProofs only [Gl,JD,JI]; rw [hnew]; exact hk2⟩ (by show R.length-(i+1)<R.length-i; omega) rfl ?_ ?_
     ·simp -implicitDefEqProofs -proj only [go_sem,seval,AL,Gl,AP (show i<9223372036854775807 by omega)]
     ·simp -implicitDefEqProofs only [Gl,JD,JI]
      rw [hnew]
      simp -implicitDefEqProofs only [F8,ET hne',Gj,List.length_nil,List.length_append,List.length_cons]
      exact BI.2 ⟨Fq hrow' hk3,AQ,Fq ⟨qm,qd,q1,q2,trivial⟩ hkr⟩
  ·have hi':i=R.length:=by omega
   subst hi'
   have hR0:R.length-1<R.length:=by omega
   obtain ⟨A,s,e1,e2,e3,e4⟩:=hadd (R.length-1) _ (List.getElem?_eq_getElem hR0)
   rw [show R.length-1+1=R.length by omega] at e1
   rw [e1] at hrow h3 hall hn hH
   have hal:A.length≤4000:=by
    obtain ⟨_,q2,q3,_⟩:=hnth (R.length-1) _ (List.getElem?_eq_getElem hR0)
    have:=(e4 _ (Int.le_refl _) q2).len
    simp -implicitDefEqProofs only [List.length_append,List.length_singleton] at this
    omega
   have hne:Ao (A++[s])≠[]:=by simp [Ao]
   have hne1:Ao (A++[⟨s.f,c.t,s.v⟩])≠[]:=by simp [Ao]
   have hxl:(Ao (A++[s])).length=A.length+1:=by rw [Gj]; simp
   have hxl1:(Ao (A++[⟨s.f,c.t,s.v⟩])).length=A.length+1:=by rw [Gj]; simp
   rw [FE hne] at hrow
   rw [ET hne,hxl] at h3
   have hkc1:=hrow.1
   have hn':=hn
   simp -implicitDefEqProofs only [F8,FE hne,AN,List.map_append,List.map_cons,List.map_nil,List.cons_append,List.nil_append] at hn'
   obtain ⟨x1,x2,x3,x4,x5⟩:¬c1=b3∧¬c1=bm∧¬c1=bd∧¬c1=b1∧¬c1=b2:=by
    have:=(List.nodup_cons.1 hn').1
    simp -implicitDefEqProofs only [List.mem_cons,List.not_mem_nil,or_false,not_or] at this
    exact this
   have x1':¬b3=c1:=fun e=>x1 e.symm
   have x5':¬b2=c1:=fun e=>x5 e.symm
   have y23:¬b2=b3:=by
    have:=(List.nodup_cons.1 (List.nodup_cons.1 hn').2).1
    simp -implicitDefEqProofs only [List.mem_cons,List.not_mem_nil,or_false,not_or] at this
    exact fun e=>this.2.2.2 e.symm
   have y2m:¬b2=bm:=by
    have:=(List.nodup_cons.1 (List.nodup_cons.1 (List.nodup_cons.1 hn').2).2).1
    simp -implicitDefEqProofs only [List.mem_cons,List.not_mem_nil,or_false,not_or] at this
    exact fun e=>this.2.2 e.symm
   have w2:IntKind.i64.wrap (((A.length+1:Nat):Int)-1)=(A.length:Int):=by rw [IntKind.wrap_i64]; omega
   have hat:=NN (S:=A++[s]) (i:=A.length) (s:=s) (by simp)
   have hset:=Pq (A:=A) (s:=s) (x:=c.t)
   have hres:LE (Fi (Ed c) (c.f::bs) R.length) c.t=A++[⟨s.f,c.t,s.v⟩]:=by
    rw [e1,LE]
    simp -implicitDefEqProofs only [List.getLast?_append,List.getLast?_singleton,Option.some_or,List.dropLast_concat]
   rw [hres]
   simp -implicitDefEqProofs -proj only [go_sem,seval,Gl,JD,JI,e1,hH,h3,h1,hxl,w2,decide_eq_true (show (0:Int)<((A.length+1:Nat):Int) by omega),decide_eq_false (show ¬(R.length:Int)<R.length by omega)]
   refine Af ⟨by omega,by omega⟩ (fun _=>?_)
   rw [Int.toNat_natCast]
   refine LB (cap:=cap) hkc1 hat (by simp) ?_
   simp -implicitDefEqProofs -proj only [go_sem,seval,GX,hset,x1,x1',x5,x5',h3,h2]
   refine Qw ?_ ?_
   ·exact KX ((AE y2m).trans ((AE x2).trans hm3)) (by rw [FA])
   ·exact KX ((AE x5').trans AQ) (by rw [hxl1])
theorem ZU {ms:List MeterX} (hl:ms.length≤1000000):DataW Tryz.prog AWS [.d (.sl 5 (EK ms))] (.d (.sl 5 (EK ms))):=by
 refine Aa AER (by simp) ?_
 simp -implicitDefEqProofs -proj only [go_sem,seval]
 refine X2 ?_ (fun h0=>?_)
 ·simp -implicitDefEqProofs -proj only [go_sem,seval]
  refine An (fun bs hs=>?_)
  simp -implicitDefEqProofs -proj only [go_sem,seval]
  refine Pt (xs:=[]) (ys:=EK ms) (cap:=0) (e:=42) (by simp -implicitDefEqProofs -proj only [go_sem,seval]) rfl rfl (by rw [FA]; simp [maxLen]; omega) (fun b' cap' H' h1 h2=>?_)
  simp -implicitDefEqProofs -proj only [go_sem,seval]
  rw [List.nil_append] at h1
  have:=LendV.own b' 5 cap' 42 cap' (EK ms) h1
  simpa only [List.length_nil,Nat.zero_add] using this
 ·simp -implicitDefEqProofs -proj only [go_sem,seval]
  rw [h0]
  exact .nilsl _ _
theorem AMB {a b:Seg EU} (ha:∀l∈a.v.2,BN l) (hb:∀l∈b.v.2,BN l) (hla:a.v.2.length≤1000000) (hlb:b.v.2.length≤1000000):DataW Tryz.prog Oy [Jm a,Jm b] (bv (decide (a.f=b.f∧a.t=b.t∧a.v=b.v))):=by
 have h1:=Lw ha hb hla hlb
 obtain ⟨f,t,⟨x,la⟩⟩:=a
 obtain ⟨g,u,⟨y,lb⟩⟩:=b
 simp -implicitDefEqProofs only [] at h1 ⊢
 refine Aa AMr (by simp) ?_
 simp -implicitDefEqProofs -proj only [go_sem,seval]
 refine AK (fun b2 hb2=>?_)
 simp -implicitDefEqProofs -proj only [go_sem,seval]
 refine AK (fun b3 hb3=>?_)
 replace hb3:upd Heap.none b2 _ b3=none:=hb3
 obtain ⟨n1,n2⟩:=AH hb3 AQ
 by_cases hf:f=g
 ·by_cases ht:t=u
  ·simp -implicitDefEqProofs -proj only [go_sem,seval,n1,n2,decide_eq_true hf,decide_eq_true ht]
   refine AJ h1 ?_
   simp -implicitDefEqProofs -proj only [go_sem,seval]
   exact AI (by rw [decide_eq_decide.2 (show (f=g∧t=u∧(x,la)=(y,lb))↔(x,la)=(y,lb) from ⟨fun e=>e.2.2,fun e=>⟨hf,ht,e⟩⟩)])
  ·simp -implicitDefEqProofs -proj only [go_sem,seval,n1,n2,decide_eq_true hf,decide_eq_false ht]
   exact AI (by rw [decide_eq_false (fun e=>ht e.2.1)])
 ·simp -implicitDefEqProofs -proj only [go_sem,seval,n1,n2,decide_eq_false hf]
  exact AI (by rw [decide_eq_false (fun e=>hf e.1)])
theorem OY {a b:Seg EU}:(a.f=b.f∧a.t=b.t∧a.v=b.v)↔a=b:=by
 obtain ⟨f,t,v⟩:=a
 obtain ⟨g,u,w⟩:=b
 simp -implicitDefEqProofs only [Seg.mk.injEq]
def Ie (s:Seg EU):Prop:=(∀l∈s.v.2,BN l)∧s.v.2.length≤1000000
open Classical in
theorem ALw {a b:List (Seg EU)} (ha:∀s∈a,Ie s) (hb:∀s∈b,Ie s) (hla:a.length≤1000000) (hlb:b.length≤1000000):DataW Tryz.prog ARn [Gk a,Gk b,.fn Oy []] (bv (decide (a=b))):=by
 refine Aa Z5 (by simp) ?_
 by_cases hl:a.length=b.length
 rotate_left
 ·simp -implicitDefEqProofs -proj only [go_sem,seval,Gj,decide_eq_false (show ¬(a.length:Int)=b.length by omega)]
  exact AI (by rw [decide_eq_false (fun e=>hl (by rw [e]))])
 simp -implicitDefEqProofs -proj only [go_sem,seval,Gj,decide_eq_true (show (a.length:Int)=b.length by omega)]
 refine BE (fun i:Nat=>i≤a.length∧∀(j:Nat) (h:j<a.length) (h2:j<b.length),j<i→a[j]=b[j]) 32 (fun i=>[(0,Gk a),(1,Gk b),(2,.fn Oy []),(15,Gk a),(16,i64 a.length),(17,i64 i)]) (fun _=>[]) (fun i=>a.length-i) 0 ⟨Nat.zero_le _,fun j _ _ h=>absurd h (Nat.not_lt_zero _)⟩ rfl ?_ ?_ ?_
 ·simp -implicitDefEqProofs -proj only [go_sem,seval,AL]
  try simp [hl]
 ·simp -implicitDefEqProofs -proj only [go_sem,seval,AU]
 ·rintro i ⟨hi,hat⟩
  by_cases h:i<a.length
  ·have h':i<b.length:=by omega
   have e1:=JN h
   have e2:=JN h'
   have ca:=ha _ (List.getElem_mem h)
   have cb:=hb _ (List.getElem_mem h')
   have hst:=fun (e:a[i]=b[i])=>Il (l:=List.range a.length) (P:=fun j _=>∀(h:j<a.length) (h2:j<b.length),a[j]=b[j]) (i:=i) (x:=i) (by simp [h]) (fun j hj hji=>fun h1 h2=>hat j h1 h2 hji) (fun _ _=>e)
   have hne:=fun (e:¬a[i]=b[i])=>show ¬a=b from fun k=>e (by subst k; rfl)
   have hcall:=AMB ca.1 cb.1 ca.2 cb.2
   generalize a[i]=x at *
   generalize b[i]=y at *
   simp -implicitDefEqProofs -proj only [go_sem,seval,decide_eq_true (show (i:Int)<a.length by omega)]
   refine Ah _ (by omega) e1 ?_
   simp -implicitDefEqProofs -proj only [go_sem,seval]
   refine AK (fun b8 hb8=>?_)
   simp -implicitDefEqProofs -proj only [go_sem,seval]
   refine Ah _ (by omega) e2 ?_
   simp -implicitDefEqProofs -proj only [go_sem,seval]
   refine AK (fun b9 hb9=>?_)
   simp -implicitDefEqProofs only [AX] at hb9
   have n1:¬b8=b9:=fun e=>by subst e; simp at hb9
   have n2:¬b9=b8:=fun e=>n1 e.symm
   simp -implicitDefEqProofs -proj only [go_sem,seval,n1,n2]
   refine AJ hcall ?_
   by_cases hp:x.f=y.f∧x.t=y.t∧x.v=y.v
   ·simp -implicitDefEqProofs -proj only [go_sem,seval,decide_eq_true hp]
    refine AZ (i+1) ⟨by omega,fun j h1 h2 hj=>hst (OY.1 hp) j (by simpa using h1) (by omega) h1 h2⟩ (by omega) rfl ?_ trivial
    simp -implicitDefEqProofs -proj only [go_sem,seval,AL,AP (show i<9223372036854775807 by omega)]
   ·simp -implicitDefEqProofs -proj only [go_sem,seval,decide_eq_false hp]
    exact AI (by rw [decide_eq_false (hne (fun e=>hp (OY.2 e)))])
  ·have hi':i=a.length:=by omega
   subst hi'
   simp -implicitDefEqProofs -proj only [go_sem,seval,decide_eq_false (show ¬(a.length:Int)<a.length by omega)]
   exact AI (by rw [decide_eq_true (List.ext_getElem hl fun j h1 h2=>hat j h1 h2 h1)])
structure NrX where
 k:Nat
 cap:Nat
 acc:List (Seg EU)
theorem JY {k cap:Nat} {acc:List (Seg EU)}:(NrX.mk k cap acc).k=k:=(rfl)
theorem JW {k cap:Nat} {acc:List (Seg EU)}:(NrX.mk k cap acc).cap=cap:=(rfl)
theorem Hb {k cap:Nat} {acc:List (Seg EU)}:(NrX.mk k cap acc).acc=acc:=(rfl)
def GZ (c:CoreX) (k cap:Nat) (acc:List (Seg EU)):Blk:=.box 31 [.d (.str c.cur),i64 c.f,i64 c.t,.d (.sl 5 (EK c.ms)),BU 4 4 k cap (Ao acc)]
def GN (b10:Nat) (c:CoreX) (T:List (Nat×Blk)) (y:NrX):List (Nat×Blk):=Au 47 4 y.k y.cap (Ao y.acc)++((b10,GZ c y.k y.cap y.acc)::T)
theorem SD {k:Nat} {x:Blk}:∀{l:List (Nat×Blk)},Ae l k=some x→(k,x)∈l
 | [],h=>by cases h
 | (b,y)::l,h=>by
  rw [Ar] at h
  by_cases e:k=b
  ·rw [if_pos e] at h; cases h; subst e; exact List.mem_cons_self ..
  ·rw [if_neg e] at h; exact List.mem_cons_of_mem _ (SD h)
theorem ALd {H H' H1:Heap} {L M:List (Nat×Blk)} (hL:AU H L) (hM:AU H M) (h1:AU H1 M) (a:∀k x,H1 k=some x→H' k=some x) (b:∀k x,H k=some x→Ae M k=none→H' k=some x):AU H' L :=
 Ez.2 fun p hp=>by
  have hpH:=Ez.1 hL p hp
  cases e:Ae M p.1 with
  | none=>exact b _ _ hpH e
  | some y =>
   have hy:=SD e
   have e1:=Ez.1 hM _ hy
   have e2:=Ez.1 h1 _ hy
   simp -implicitDefEqProofs only at e1 e2
   rw [hpH] at e1
   cases e1
   exact a _ _ e2
theorem Qi {H:Heap} {f t x:Int} {kc cap:Nat} {xs:List (List D)} {K:List D→Heap→Prop} (h:AU H (Au 51 2 kc cap xs)) (hk:∀H',(∀k y,H k=some y→k∉AN (Au 51 2 kc cap xs)→H' k=some y)→K [.int .i64 f,.int .i64 t,.int .i64 x,.sl 2 xs] H'):Ay H [i64 f,i64 t,i64 x,BU 2 2 kc cap xs] K:=by
 cases xs with
 | nil =>
  simp -implicitDefEqProofs only [Ay,A7,A9,BU]
  exact hk H fun k y h _=>h
 | cons y ys =>
  simp -implicitDefEqProofs only [Ay,A7,BU]
  simp -implicitDefEqProofs only [A9]
  have h1:=h.1
  simp -implicitDefEqProofs only [h1]
  refine ⟨⟨trivial,trivial,trivial⟩,hk _ fun k z hz hn=>?_⟩
  rw [AE (fun e=>hn (by subst e; exact List.mem_cons_self ..))]
  exact hz
theorem TA {H H':Heap} {L N:List (Nat×Blk)} (hL:AU H L) (hk:∀k y,H k=some y→k∉AN N→H' k=some y) (hd:∀k∈AN L,k∉AN N):AU H' L :=
 Ez.2 fun p hp=>hk _ _ (Ez.1 hL p hp) (hd _ (List.mem_map_of_mem hp))
theorem V8 {n:Nat} (h:n≤8):2 ^ (8+n)≤65536:=Nat.pow_le_pow_right (n:=2) (by omega) (show 8+n≤16 by omega)
set_option maxRecDepth 20000 in
set_option maxHeartbeats 4000000 in
theorem Uc {c:CoreX} {R:List Run} {T:List (Nat×Blk)} {b2 b3 b4 b10 bm k1 p1 k2 p2:Nat} {t0:TM} {Rst:Out→St→Prop} (hc:c.Fit) (hf:fitsC c) (hR:Hl c=R)
  (hT4:(b4,.box 66 [.ptr bm 0])∈T) (hTm:∀p∈GP bm c k1 p1 k2 p2,p∈T) (hTb:∀p∈T,p∈GP bm c k1 p1 k2 p2∨∃t cells,p.2 = .box t cells) (hnm:(AN (GP bm c k1 p1 k2 p2)).Nodup)
  {i:Nat} (hi:i<R.length) (pre:List (List AV)) (hpre:pre.length=i) {y:NrX} (hy:y.acc=GD (Ed c) R i) (hn:(AN (GN b10 c T y)).Nodup) :
  FR Tryz.prog (LV (fun pre y=>y.acc=GD (Ed c) R pre.length∧(AN (GN b10 c T y)).Nodup) (GN b10 c T) (pre++[[(R[i]).avU]]) 115 t0 Rst) (.seq (.ops Qf) Tn) []
   ⟨115,Hd 115 (E6 [(2,.ptr b2 0),(3,.ptr b3 0),(4,.ptr b4 0),(10,.ptr b10 0)]) [75] [(R[i]).avU],Ae (GN b10 c T y)⟩:=by
 obtain ⟨⟨g1,g2⟩,⟨g3,g4⟩,g5,g6,g7,g8⟩:=hf.good.hd
 have hfw:=L6 (c:=c) g3
 rw [hR] at hfw
 have hri:=List.getElem?_eq_getElem hi
 obtain ⟨v1,v2,v3,v4,_,_,_⟩:=hfw.nth2 i _ hri
 have hadd:=Pz hfw (Mb g7)
 have hrv:=v4 _ (Int.le_refl _) v2
 have h16:FI c R[i].f<65536:=Nat.lt_of_lt_of_le (Mm g7 c.ps.length) (V8 g8)
 have hstep:GD (Ed c) R (i+1)=KT (GD (Ed c) R i) ⟨R[i].f,R[i].t,Ed c R[i].f⟩:=by
  rw [GD,hri]
 obtain ⟨k,cap,acc⟩:=y
 simp -implicitDefEqProofs only [Hb] at hy
 obtain ⟨H,hH⟩:∃H,Ae (GN b10 c T ⟨k,cap,acc⟩)=H:=⟨_,rfl⟩
 have hall:=EQ hn
 rw [hH] at hall ⊢
 simp -implicitDefEqProofs only [GN,JY,JW,Hb] at hall hn
 obtain ⟨hrow,h10,hTH⟩:=BI.1 hall
 have h4:H b4=some (.box 66 [.ptr bm 0]):=Ez.1 hTH _ hT4
 have hM:AU H (GP bm c k1 p1 k2 p2):=Pa hTH hTm
 have hacc:∀A s,acc=A++[s]→Ie s∧A.length≤4000:=by
  intro A s e
  cases i with
  | zero=>rw [hy] at e; simp [GD] at e
  | succ j =>
   have hj:j<R.length:=by omega
   obtain ⟨w1,w2,w3,w4,_,_,_⟩:=hfw.nth2 j _ (List.getElem?_eq_getElem hj)
   obtain ⟨A',s',e1,e2,e3,e4⟩:=hadd j _ (List.getElem?_eq_getElem hj)
   rw [hy,e1] at e
   obtain ⟨rfl,e5⟩:=List.append_inj' e rfl
   simp -implicitDefEqProofs only [List.cons.injEq,and_true] at e5
   subst e5
   have:=e4.len
   simp -implicitDefEqProofs only [List.length_append,List.length_singleton] at this
   refine ⟨⟨fun l hl=>?_,?_⟩,by omega⟩
   ·rw [e2] at hl; exact LF hf _ l hl
   ·rw [e2]; show (Eb c _ c.ms.length).length≤1000000; rw [Hq]; omega
 generalize hg:R[i]=r at *
 simp -implicitDefEqProofs -proj only [go_sem,seval,h4]
 refine AK (fun b12 hb12=>?_)
 replace hb12:H b12=none:=hb12
 obtain ⟨y1,y2⟩:=AH hb12 h4
 simp -implicitDefEqProofs -proj only [go_sem,seval,h4,y1,y2]
 have hsp:=AG0 (bm:=bm) (k1:=k1) (p1:=p1) (k2:=k2) (p2:=p2) (f:=r.f) (t:=r.t) (d:=r.f) hc hf g7 g8 h16 hnm
 rw [hrv] at hsp
 have hall12:=Ak (y:=some (.box 82 [i64 r.f,i64 r.t,u64 r.v])) hb12 hall
 have hM12:=Ak (y:=some (.box 82 [i64 r.f,i64 r.t,u64 r.v])) hb12 hM
 refine Ex (OH hsp (Kg hM12)) ?_
 rintro rr H2 ⟨H1,⟨kc,capc,rfl,rest,hA1,hN1⟩,hsub,hkeep⟩
 have hM1:AU H1 (GP bm c k1 p1 k2 p2):=(BI.1 hA1).2
 have hall2:AU H2 (Au 47 4 k cap (Ao acc)++(b10,GZ c k cap acc)::T):=ALd hall12 hM12 hM1 hsub hkeep
 have hls:(IE c r.f,Eb c r.f c.ms.length)=Ed c r.f:=rfl
 have hcu:Ie ⟨r.f,r.t,Ed c r.f⟩:=⟨LF hf _,by show (Eb c r.f c.ms.length).length≤1000000; rw [Hq]; omega⟩
 have hLC:AU H2 (Au 51 2 kc capc (Ai (Eb c r.f c.ms.length))):=Ez.2 fun p hp=>hsub _ _ (Ez.1 (BI.1 (BI.1 hA1).1).1 p hp)
 have hdj:∀p∈AN (Au 51 2 kc capc (Ai (Eb c r.f c.ms.length))),p∉AN (Au 47 4 k cap (Ao acc)++(b10,GZ c k cap acc)::T):=by
  intro p hp hq
  obtain ⟨⟨q1,q2⟩,hq1,rfl⟩:=List.mem_map.1 hp
  obtain ⟨⟨u1,u2⟩,hu1,hu2⟩:=List.mem_map.1 hq
  simp -implicitDefEqProofs only at hu2
  subst hu2
  have e1:=Ez.1 hLC _ hq1
  have e2:=Ez.1 hall2 _ hu1
  simp -implicitDefEqProofs only at e1 e2
  rw [e1] at e2
  have hq3:q2 = .row 51 2 capc (Ai (Eb c r.f c.ms.length)):=by
   generalize Ai (Eb c r.f c.ms.length)=xs at hq1 ⊢
   cases xs with
   | nil=>cases hq1
   | cons a az=>simp -implicitDefEqProofs only [Au,List.mem_singleton,Prod.mk.injEq] at hq1; exact hq1.2
  subst hq3
  rcases List.mem_append.1 hu1 with hu | hu
  ·generalize Ao acc=xs at hu
   cases xs with
   | nil=>cases hu
   | cons a az=>simp -implicitDefEqProofs only [Au,List.mem_singleton,Prod.mk.injEq] at hu; rw [hu.2] at e2; cases e2
  ·rcases List.mem_cons.1 hu with hu | hu
   ·simp -implicitDefEqProofs only [Prod.mk.injEq] at hu; rw [hu.2,GZ] at e2; cases e2
   ·rcases hTb _ hu with hm | ⟨t,cells,hm⟩
    ·simp -implicitDefEqProofs only [AN,List.map_append,List.nodup_append] at hN1
     exact hN1.2.2 _ (List.mem_append_left _ hp) _ (List.mem_map_of_mem hm) rfl
    ·simp -implicitDefEqProofs only at hm; rw [hm] at e2; cases e2
 have hlc:∀l∈Eb c r.f c.ms.length,BN l:=LF hf _
 rw [hls.symm] at hstep hcu
 generalize Eb c r.f c.ms.length=LS at *
 generalize IE c r.f=F0 at *
 obtain ⟨cs,hcs⟩:∃cs,[i64 r.f,i64 r.t,i64 F0,BU 2 2 kc capc (Ai LS)]=cs:=⟨_,rfl⟩
 have hcl:Aj cs=4:=by rw [←hcs]; rfl
 have hcg:cs.take 4=cs:=by rw [←hcs]; rfl
 have hct:setSeg [.d (.int .i64 0),.d (.int .i64 0),.d (.int .i64 0),.nilsl 2] 0 cs=cs:=by rw [←hcs]; rfl
 have hcn:nth cs 1=i64 r.t:=by rw [←hcs]; rfl
 rw [hcs]
 simp -implicitDefEqProofs -proj only [go_sem,seval,hcl,hcg,hct,hcn]
 refine AK (fun b13 hb13=>?_)
 replace hb13:H2 b13=none:=hb13
 have h10':H2 b10=some (GZ c k cap acc):=(BI.1 hall2).2.1
 have hrow2:=(BI.1 hall2).1
 obtain ⟨y3,y4⟩:=AH hb13 h10'
 simp -implicitDefEqProofs only [GZ] at h10'
 have hall3:=fun y=>Ak (y:=y) hb13 hall2
 have hLC3:=fun y=>Ak (y:=y) hb13 hLC
 by_cases c0:acc=[]
 ·subst c0
  have hnew:GD (Ed c) R (i+1)=[⟨r.f,r.t,(F0,LS)⟩]:=by rw [hstep,←hy]; rfl
  simp -implicitDefEqProofs only [Ao,List.map_nil,KI,IW,List.nil_append] at h10' hall3 hn hdj
  simp -implicitDefEqProofs -proj only [go_sem,seval,h10',y3,y4,hcl,hcg,hct,hcn]
  rw [←hcs]
  refine Qi (hLC3 _) (fun H4 hk4=>?_)
  have hall4:=TA (hall3 _) hk4 (fun p hp hq=>hdj p hq hp)
  simp -implicitDefEqProofs -proj only [go_sem,seval]
  refine An (fun bs hs=>?_)
  replace hs:H4 bs=none:=hs
  simp -implicitDefEqProofs -proj only [go_sem,seval]
  have hn0:(AN (Au 47 4 0 0 (Ao ([]:List (Seg EU)))++(b10,.box 31 [.d (.str c.cur),i64 c.f,i64 c.t,.d (.sl 5 (EK c.ms)),.nilsl 4])::T)).Nodup:=by simpa only [GZ,Ao,List.map_nil,IW,KI,AN,List.map_cons,List.nil_append] using hn
  simp -implicitDefEqProofs only [GZ,KI] at hall4
  refine FL (c:=0) (cap:=0) (z0:=4) (xs:=Ao ([]:List (Seg EU))) (y:=[.int .i64 r.f,.int .i64 r.t,.int .i64 F0,.sl 2 (Ai LS)]) (t:=47) (capc:=1) ((b10,.box 31 [.d (.str c.cur),i64 c.f,i64 c.t,.d (.sl 5 (EK c.ms)),.nilsl 4])::T) rfl (Ak hs hall4) hn0 (by simp -implicitDefEqProofs -proj only [go_sem,seval]; try rfl) (by simp [Ao]) (by simp [Ao]) (fun H' c2 cap2 ha hk=>?_)
  rw [show Ao ([]:List (Seg EU))++[[.int .i64 r.f,.int .i64 r.t,.int .i64 F0,.sl 2 (Ai LS)]]=Ao [⟨r.f,r.t,(F0,LS)⟩] by simp [Ao,JP]] at ha hk
  have q10:=(BI.1 ha).2.1
  simp -implicitDefEqProofs -proj only [go_sem,seval,q10]
  have hne':Ao ([⟨r.f,r.t,(F0,LS)⟩]:List (Seg EU))≠[]:=by simp [Ao]
  refine MI ⟨c2,cap2,[⟨r.f,r.t,(F0,LS)⟩]⟩ ⟨?_,?_⟩ ?_
  ·simp -implicitDefEqProofs only [Hb,List.length_append,List.length_singleton,hpre]; exact hnew.symm
  ·simpa only [GN,JY,JW,Hb,AN,List.map_append,List.map_cons] using hk
  ·have hup:=Hu (x':=GZ c c2 cap2 [⟨r.f,r.t,(F0,LS)⟩]) ha hk
   simp -implicitDefEqProofs only [GN,JY,JW,Hb]
   simp -implicitDefEqProofs only [GZ,ET hne'] at hup ⊢
   exact hup
 ·obtain ⟨A,s,hAs⟩:∃A s,acc=A++[s]:=⟨acc.dropLast,acc.getLast c0,(List.dropLast_concat_getLast c0).symm⟩
  obtain ⟨hcs2,hal⟩:=hacc A s hAs
  have hnew:GD (Ed c) R (i+1)=if s.v=(F0,LS) then A++[⟨s.f,r.t,s.v⟩] else A++[s]++[⟨r.f,r.t,(F0,LS)⟩]:=by
   rw [hstep,←hy,hAs,KT]
   simp -implicitDefEqProofs only [List.getLast?_append,List.getLast?_singleton,Option.some_or,List.dropLast_concat]
  clear hacc hstep
  subst hAs
  have hne:Ao (A++[s])≠[]:=by simp [Ao]
  have hxl:(Ao (A++[s])).length=A.length+1:=by rw [Gj]; simp
  rw [ET hne,hxl] at h10'
  simp -implicitDefEqProofs only [FE hne] at hn hdj hall2 hall3
  have hkH:H2 k=some (.row 47 4 cap (Ao (A++[s]))):=hall2.1
  obtain ⟨x1,x2⟩:=AH hb13 hkH
  have w2:IntKind.i64.wrap (((A.length+1:Nat):Int)-1)=(A.length:Int):=by rw [IntKind.wrap_i64]; omega
  have hat:=NN (S:=A++[s]) (i:=A.length) (s:=s) (by simp)
  have hcall:=Lw (a:=s) (b:=⟨r.f,r.t,(F0,LS)⟩) hcs2.1 hcu.1 hcs2.2 hcu.2
  simp -implicitDefEqProofs -proj only [go_sem,seval,h10',y3,y4,hcl,hcg,hct,hcn,w2,decide_eq_true (show (0:Int)<((A.length+1:Nat):Int) by omega)]
  refine Af ⟨by omega,by omega⟩ (fun _=>?_)
  simp -implicitDefEqProofs -proj only [go_sem,seval,Int.toNat_natCast,x1,x2,hkH]
  refine EJ _ hat (by simp) ?_
  simp -implicitDefEqProofs -proj only [go_sem,seval,hcl,hcg,hct,hcn]
  have hlend:∀y,LendV (upd H2 b13 y) (.agg cs) (Jm ⟨r.f,r.t,(F0,LS)⟩):=fun y=>by
   rw [←hcs]
   exact SW (LC (hLC3 y))
  refine Ne hcall (Gb (.refl _) (Gb (hlend _) IO)) rfl ?_
  by_cases ca:s.v=(F0,LS)
  ·rw [if_pos ca] at hnew
   simp -implicitDefEqProofs -proj only [go_sem,seval,decide_eq_true ca,h10',y3,y4,hcl,hcg,hct,hcn,w2,x1,x2,hkH]
   refine Af ⟨by omega,by omega⟩ (fun _=>?_)
   simp -implicitDefEqProofs -proj only [go_sem,seval,Int.toNat_natCast,x1,x2,hkH]
   refine LB (cap:=cap) (by simp -implicitDefEqProofs -proj only [go_sem,seval,x1,x2]; exact hkH) hat (by simp) ?_
   have hset:=Pq (A:=A) (s:=s) (x:=r.t)
   have hne1:Ao (A++[⟨s.f,r.t,s.v⟩])≠[]:=by simp [Ao]
   have hxl1:(Ao (A++[⟨s.f,r.t,s.v⟩])).length=A.length+1:=by rw [Gj]; simp
   simp -implicitDefEqProofs -proj only [go_sem,seval,GX,hset]
   refine MI ⟨k,cap,A++[⟨s.f,r.t,s.v⟩]⟩ ⟨?_,?_⟩ ?_
   ·simp -implicitDefEqProofs only [Hb,List.length_append,List.length_singleton,hpre]; exact hnew.symm
   ·simp -implicitDefEqProofs only [GN,JY,JW,Hb,FE hne1]
    simpa only [AN,List.map_append,List.map_cons] using hn
   ·have hup:=fun y=>Hu (A:=[]) (b:=k) (x':=Blk.row 47 4 cap (Ao (A++[⟨s.f,r.t,s.v⟩]))) (hall3 y) hn
    simp -implicitDefEqProofs only [GN,JY,JW,Hb,FE hne1]
    simp -implicitDefEqProofs only [GZ,ET hne,ET hne1,hxl,hxl1] at hup ⊢
    exact hup _
  ·rw [if_neg ca] at hnew
   simp -implicitDefEqProofs -proj only [go_sem,seval,decide_eq_false ca,h10',y3,y4,hcl,hcg,hct,hcn,w2,x1,x2,hkH]
   rw [←hcs]
   refine Qi (hLC3 _) (fun H4 hk4=>?_)
   have hall4:=TA (hall3 _) hk4 (fun p hp hq=>hdj p hq hp)
   simp -implicitDefEqProofs -proj only [go_sem,seval]
   refine An (fun bs hs=>?_)
   replace hs:H4 bs=none:=hs
   simp -implicitDefEqProofs -proj only [go_sem,seval]
   have hn1:(AN (Au 47 4 k cap (Ao (A++[s]))++(b10,GZ c k cap (A++[s]))::T)).Nodup:=by rw [FE hne]; exact hn
   have hrv1:BU 4 4 k cap (Ao (A++[s])) = .own k 4 0 (A.length+1) cap:=by rw [ET hne,hxl]
   rw [←hrv1]
   refine FL (c:=k) (cap:=cap) (z0:=4) (xs:=Ao (A++[s])) (y:=[.int .i64 r.f,.int .i64 r.t,.int .i64 F0,.sl 2 (Ai LS)]) (t:=47) (capc:=1) ((b10,GZ c k cap (A++[s]))::T) rfl (Ak hs (by rw [FE hne]; exact hall4)) hn1 (by simp -implicitDefEqProofs -proj only [go_sem,seval]; try rfl) (by rw [hxl]; omega) (by rw [hxl]; omega) (fun H' c2 cap2 ha hk=>?_)
   rw [show Ao (A++[s])++[[.int .i64 r.f,.int .i64 r.t,.int .i64 F0,.sl 2 (Ai LS)]]=Ao (A++[s]++[⟨r.f,r.t,(F0,LS)⟩]) by simp [Ao,JP]] at ha hk
   have q10:=(BI.1 ha).2.1
   simp -implicitDefEqProofs only [GZ] at q10
   simp -implicitDefEqProofs -proj only [go_sem,seval,q10]
   have hne':Ao (A++[s]++[⟨r.f,r.t,(F0,LS)⟩])≠[]:=by simp [Ao]
   have hxl':(Ao (A++[s]++[⟨r.f,r.t,(F0,LS)⟩])).length=(Ao (A++[s])).length+1:=by simp [Ao]
   refine MI ⟨c2,cap2,A++[s]++[⟨r.f,r.t,(F0,LS)⟩]⟩ ⟨?_,?_⟩ ?_
   ·simp -implicitDefEqProofs only [Hb,List.length_append,List.length_singleton,hpre]; exact hnew.symm
   ·simpa only [GN,JY,JW,Hb,AN,List.map_append,List.map_cons] using hk
   ·have hup:=Hu (x':=GZ c c2 cap2 (A++[s]++[⟨r.f,r.t,(F0,LS)⟩])) ha hk
    simp -implicitDefEqProofs only [GN,JY,JW,Hb]
    simp -implicitDefEqProofs only [GZ,ET hne',hxl'] at hup ⊢
    exact hup
structure MkX where
 i:Nat
 k1:Nat
 p1:Nat
 k2:Nat
 p2:Nat
theorem JH {i a b c d:Nat}:(MkX.mk i a b c d).i=i:=(rfl)
theorem Mi {i a b c d:Nat}:(MkX.mk i a b c d).k1=a:=(rfl)
theorem Nl {i a b c d:Nat}:(MkX.mk i a b c d).p1=b:=(rfl)
theorem Nm {i a b c d:Nat}:(MkX.mk i a b c d).k2=c:=(rfl)
theorem Mt {i a b c d:Nat}:(MkX.mk i a b c d).p2=d:=(rfl)
theorem OI {xs ys:List (Nat×Blk)} (h:(AN (xs++ys)).Nodup):(AN (ys++xs)).Nodup:=by
 simp -implicitDefEqProofs only [AN,List.map_append,List.nodup_append] at h ⊢
 exact ⟨h.2.1,h.1,fun a ha b hb e=>h.2.2 b hb a ha e.symm⟩
theorem O5 {H:Heap} {xs ys:List (Nat×Blk)} (h:AU H (xs++ys)):AU H (ys++xs):=BI.2 ⟨(BI.1 h).2,(BI.1 h).1⟩
def LZ (b1 b2 b3 b4 bm:Nat) (c:CoreX) (kv bvs:AV):List (Nat×Blk):=[(bm,.box 68 (LI c kv bvs)),(b4,.box 66 [.ptr bm 0]),(b3,.box 32 [i64 0]),(b2,.box 31 [.d (.str ⟨⟨[]⟩⟩),i64 0,i64 0,.nilsl 5,.nilsl 4]),(b1,.box 26 [.d (.str c.cur),i64 c.f,i64 c.t,.d (.sl 5 (EK c.ms)),.d (.sl 3 (Eu c.ss)),.d (.sl 9 (Ec c.ps))])]
def Jk (b1 b2 b3 b4 bm:Nat) (c:CoreX) (y:MkX):List (Nat×Blk):=Au 51 2 y.k1 y.p1 (Ai ((FC c).take y.i))++(Au 3 1 y.k2 y.p2 (AY ((FJ c).take y.i))++LZ b1 b2 b3 b4 bm c (BU 2 2 y.k1 y.p1 (Ai ((FC c).take y.i))) (BU 1 1 y.k2 y.p2 (AY ((FJ c).take y.i))))
theorem ADB {a b:List Nat} {m x4 x3 x2 x1:Nat} (h:(a++(b++[m,x4,x3,x2,x1])).Nodup):(x4::x3::x2::(m::(a++b))).Nodup:=by
 have p:(a++(b++[m,x4,x3,x2,x1])).Perm ((x4::x3::x2::(m::(a++b)))++[x1]):=List.perm_iff_count.2 fun y=>by
  simp -implicitDefEqProofs only [List.count_append,List.count_cons,List.count_nil,List.cons_append,List.nil_append]
  omega
 exact (p.nodup_iff.1 h).sublist (List.sublist_append_left _ _)
theorem AQt {x3 x4 x2 v:Nat} {l:List Nat} (h:(x4::x3::x2::l).Nodup) (hv:v∉(x4::x3::x2::l)):(x4::x3::x2::v::l).Nodup:=by
 have p:(x4::x3::x2::v::l).Perm (v::x4::x3::x2::l):=List.perm_iff_count.2 fun y=>by
  simp -implicitDefEqProofs only [List.count_cons]
  omega
 exact p.nodup_iff.2 (List.nodup_cons.2 ⟨hv,h⟩)
set_option maxRecDepth 20000 in
set_option maxHeartbeats 4000000 in
theorem PZ {c:CoreX} (hc:c.Fit) (hf:fitsC c):DataW Tryz.prog AA3 [GV c] (.tup [IF c.cur c.f c.t c.ms (El c),i64 0]):=by
 obtain ⟨⟨g1,g2⟩,⟨g3,g4⟩,g5,g6,g7,g8⟩:=hf.good.hd
 have hgd:=TS hc
 rw [decide_eq_true hf.good] at hgd
 refine Aa ANt (by simp) ?_
 simp -implicitDefEqProofs -proj only [go_sem,seval]
 refine AK (fun b1 hb1=>?_)
 simp -implicitDefEqProofs -proj only [go_sem,seval]
 refine AK (fun b2 hb2=>?_)
 replace hb2:upd Heap.none b1 _ b2=none:=hb2
 obtain ⟨n1,n2⟩:=AH hb2 AQ
 simp -implicitDefEqProofs -proj only [go_sem,seval,n1,n2]
 refine AK (fun b3 hb3=>?_)
 replace hb3:upd (upd Heap.none b1 _) b2 _ b3=none:=hb3
 obtain ⟨n3,n4⟩:=AH hb3 AQ
 obtain ⟨n5,n6⟩:=AH hb3 (by rw [AE n1]; exact AQ)
 simp -implicitDefEqProofs -proj only [go_sem,seval,n1,n2,n3,n4,n5,n6]
 refine AJ hgd ?_
 simp -implicitDefEqProofs -proj only [go_sem,seval,n1,n2,n3,n4,n5,n6]
 refine AK (fun bm hbm=>?_)
 replace hbm:upd (upd (upd Heap.none b1 _) b2 _) b3 _ bm=none:=hbm
 obtain ⟨n7,n8⟩:=AH hbm AQ
 obtain ⟨n9,n10⟩:=AH hbm (by rw [AE n3]; exact AQ)
 obtain ⟨n11,n12⟩:=AH hbm (by rw [AE n5,AE n1]; exact AQ)
 simp -implicitDefEqProofs -proj only [go_sem,seval,n1,n2,n3,n4,n5,n6,n7,n8,n9,n10,n11,n12]
 refine AK (fun b4 hb4=>?_)
 replace hb4:upd (upd (upd (upd Heap.none b1 _) b2 _) b3 _) bm _ b4=none:=hb4
 obtain ⟨m1,m2⟩:=AH hb4 AQ
 obtain ⟨m3,m4⟩:=AH hb4 (by rw [AE n7]; exact AQ)
 obtain ⟨m5,m6⟩:=AH hb4 (by rw [AE n9,AE n3]; exact AQ)
 obtain ⟨m7,m8⟩:=AH hb4 (by rw [AE n11,AE n5,AE n1]; exact AQ)
 simp -implicitDefEqProofs -proj only [go_sem,seval,n1,n2,n3,n4,n5,n6,n7,n8,n9,n10,n11,n12,m1,m2,m3,m4,m5,m6,m7,m8,FU]
 refine BE (fun y:MkX=>y.i≤c.ps.length∧(AN (Jk b1 b2 b3 b4 bm c y)).Nodup) 115 (fun y=>[(1,.ptr b1 0),(2,.ptr b2 0),(3,.ptr b3 0),(4,.ptr b4 0),(24,.d (.sl 9 (Ec c.ps))),(25,i64 c.ps.length),(26,i64 y.i)]) (Jk b1 b2 b3 b4 bm c) (fun y=>c.ps.length-y.i) ⟨0,0,0,0,0⟩ ⟨Nat.zero_le _,?_⟩ rfl ?_ ?_ ?_
 ·simp -implicitDefEqProofs only [Jk,LZ,JH,Mi,Nl,Nm,Mt,List.take_zero,Ai,AY,List.map_nil,Au,AN,List.nil_append,List.cons_append,List.map_cons,List.nodup_cons,List.mem_cons,List.not_mem_nil,or_false,not_or,not_false_eq_true,List.nodup_nil,and_true]
  exact ⟨⟨m2,n7,n9,n11⟩,⟨m3,m5,m7⟩,⟨n3,n5⟩,n1⟩
 ·simp -implicitDefEqProofs -proj only [go_sem,seval,AL,JH]
  try rfl
 ·simp -implicitDefEqProofs only [Jk,LZ,JH,Mi,Nl,Nm,Mt,List.take_zero,Ai,AY,List.map_nil,Au,BU]
  simp -implicitDefEqProofs -proj only [go_sem,seval,AU,n1,n2,n3,n4,n5,n6,n7,n8,n9,n10,n11,n12,m1,m2,m3,m4,m5,m6,m7,m8]
 rintro ⟨i,k1,p1,k2,p2⟩ ⟨hi,hnd⟩
 simp -implicitDefEqProofs only [JH] at hi
 have hall:=EQ hnd
 obtain ⟨H,hH⟩:∃H,Ae (Jk b1 b2 b3 b4 bm c ⟨i,k1,p1,k2,p2⟩)=H:=⟨_,rfl⟩
 rw [hH] at hall
 simp -implicitDefEqProofs only [Jk,LZ] at hall hnd
 obtain ⟨hrowC,hx⟩:=BI.1 hall
 obtain ⟨hrowI,hbmH,h4,h3,h2,h1,_⟩:=BI.1 hx
 by_cases hlt:i<c.ps.length
 ·have hel:=Iz hlt
  have hpart:=AUb hc hf (List.getElem_mem hlt)
  have htkC:(FC c).take (i+1)=(FC c).take i++[GR c.ps[i] (Ea c.ms c.ps[i].me)]:=by
   rw [List.take_succ_eq_append_getElem (by rw [List.length_map]; exact hlt)]; simp -implicitDefEqProofs only [FC,List.getElem_map]
  have htkB:(FJ c).take (i+1)=(FJ c).take i++[pv c.ps[i] 0]:=by
   rw [List.take_succ_eq_append_getElem (by rw [List.length_map]; exact hlt)]; simp -implicitDefEqProofs only [FJ,List.getElem_map]
  generalize c.ps[i]=x at *
  simp -implicitDefEqProofs -proj only [go_sem,seval,JH,hH,decide_eq_true (show (i:Int)<c.ps.length by omega)]
  refine Ah _ (by omega) hel ?_
  simp -implicitDefEqProofs -proj only [go_sem,seval]
  refine AK (fun b6 hb6=>?_)
  replace hb6:H b6=none:=hb6
  obtain ⟨y1,y2⟩:=AH hb6 h1
  simp -implicitDefEqProofs -proj only [go_sem,seval,y1,y2,h1]
  refine AJ hpart ?_
  simp -implicitDefEqProofs -proj only [go_sem,seval]
  refine AK (fun b7 hb7=>?_)
  simp -implicitDefEqProofs only [AX] at hb7
  have z1:¬b6=b7:=fun e=>by subst e; simp at hb7
  have z2:¬b7=b6:=fun e=>z1 e.symm
  have hb7':H b7=none:=by simpa only [z1,↓reduceIte] using hb7
  obtain ⟨y3,y4⟩:=AH hb7' h4
  obtain ⟨y5,y6⟩:=AH hb6 h4
  obtain ⟨y7,y8⟩:=AH hb7' hbmH
  obtain ⟨y9,y10⟩:=AH hb6 hbmH
  simp -implicitDefEqProofs -proj only [go_sem,seval,y1,y2,y3,y4,y5,y6,y7,y8,y9,y10,z1,z2,h4,hbmH]
  (repeat' (with_reducible refine Af ?_ (fun h=>?_); (focus first | decide | omega); clear h; try simp -implicitDefEqProofs -proj only [go_sem,seval,eq_self,y1,y2,y3,y4,y5,y6,y7,y8,y9,y10,z1,z2,h4,hbmH]))
  have hlr:((FC c).take i).length=i:=by rw [List.length_take,List.length_map]; omega
  have hlb:((FJ c).take i).length=i:=by rw [List.length_take,List.length_map]; omega
  refine Jq (ds:=G8 (GR x (Ea c.ms x.me))) rfl (fun bs hs=>?_)
  simp -implicitDefEqProofs only [AX,z1,z2] at hs
  have z3:¬b6=bs:=fun e=>by subst e; simp [z1,z2] at hs
  have z4:¬b7=bs:=fun e=>by subst e; simp [z1,z2] at hs
  have hbs':H bs=none:=by simpa only [z3,z4,↓reduceIte] using hs
  have hA:∀X Y Z,AU (upd (upd (upd H b6 X) b7 Y) bs Z) _:=fun X Y Z =>
   Ak (by rw [AE z4,AE z3]; exact hbs') (Ak (by rw [AE z1]; exact hb7') (Ak hb6 hall))
  simp -implicitDefEqProofs -proj only [go_sem,seval,z1,z2,z3,z4]
  refine FL (xs:=Ai ((FC c).take i)) (y:=G8 (GR x (Ea c.ms x.me))) (t:=51) (capc:=1) _ rfl (hA _ _ _) hnd (by simp -implicitDefEqProofs -proj only [go_sem,seval]; rfl) (by rw [Ft,hlr]; omega) (by rw [Ft,hlr]; omega) (fun H' c1 q1 ha hk=>?_)
  simp -implicitDefEqProofs -proj only [go_sem,seval]
  refine Jq (ds:=[.int .i64 (pv x 0)]) rfl (fun b2s hs2=>?_)
  replace hs2:H' b2s=none:=hs2
  have ha2:=O5 ha
  have hk2:=OI hk
  rw [List.append_assoc] at ha2 hk2
  simp -implicitDefEqProofs -proj only [go_sem,seval]
  refine FL (xs:=AY ((FJ c).take i)) (y:=[.int .i64 (pv x 0)]) (t:=3) (capc:=1) _ rfl (Ak hs2 ha2) hk2 (by simp -implicitDefEqProofs -proj only [go_sem,seval]; try rfl) (by rw [rowI_len,hlb]; omega) (by rw [rowI_len,hlb]; omega) (fun H2 c2 q2 ha3 hk3=>?_)
  have hbm2:H2 bm=some (.box 68 (LI c (BU 2 2 k1 p1 (Ai ((FC c).take i))) (BU 1 1 k2 p2 (AY ((FJ c).take i))))):=(BI.1 ha3).2.1
  simp -implicitDefEqProofs -proj only [go_sem,seval]
  refine AWu hbm2 (by simp -implicitDefEqProofs -proj only [go_sem,seval]; exact m1) (by simp -implicitDefEqProofs -proj only [go_sem,seval]) (by simp [Aj]) ?_
  simp -implicitDefEqProofs -proj only [go_sem,seval]
  have eC:Ai ((FC c).take i)++[G8 (GR x (Ea c.ms x.me))]=Ai ((FC c).take (i+1)):=by rw [htkC]; simp [Ai]
  have eB:AY ((FJ c).take i)++[[.int .i64 (pv x 0)]]=AY ((FJ c).take (i+1)):=by rw [htkB]; simp [AY]
  have neC:Ai ((FC c).take (i+1))≠[]:=by rw [←eC]; simp
  have neB:AY ((FJ c).take (i+1))≠[]:=by rw [←eB]; simp
  have lC:(Ai ((FC c).take i)).length=i:=by rw [Ft,hlr]
  have lB:(AY ((FJ c).take i)).length=i:=by rw [rowI_len,hlb]
  have lC2:(Ai ((FC c).take (i+1))).length=i+1:=by rw [←eC,List.length_append,lC]; rfl
  have lB2:(AY ((FJ c).take (i+1))).length=i+1:=by rw [←eB,List.length_append,lB]; rfl
  rw [eC,eB] at ha3 hk3
  have ha4:=O5 ha3
  have hk4:=OI hk3
  rw [List.append_assoc] at ha4 hk4
  have ha5:=O5 ha4
  have hk5:=OI hk4
  have hup:=Hu (A:=Au 51 2 c1 q1 (Ai ((FC c).take (i+1)))++Au 3 1 c2 q2 (AY ((FJ c).take (i+1)))) (b:=bm) (x':=.box 68 (LI c (BU 2 2 c1 q1 (Ai ((FC c).take (i+1)))) (BU 1 1 c2 q2 (AY ((FJ c).take (i+1)))))) (by simpa only [List.append_assoc,List.cons_append,List.nil_append] using ha5) (by simpa only [List.append_assoc,List.cons_append,List.nil_append] using hk5)
  refine AZ ⟨i+1,c1,q1,c2,q2⟩ ⟨by show i+1≤c.ps.length; omega,?_⟩ (by show c.ps.length-(i+1)<c.ps.length-i; omega) rfl ?_ ?_
  ·simp -implicitDefEqProofs only [Jk,LZ,JH,Mi,Nl,Nm,Mt]
   simpa only [AN,List.map_append,List.map_cons,List.append_assoc,List.cons_append,List.nil_append] using hk5
  ·simp -implicitDefEqProofs -proj only [go_sem,seval,AL,JH,AP (show i<9223372036854775807 by omega)]
  ·simp -implicitDefEqProofs only [Jk,LZ,JH,Mi,Nl,Nm,Mt]
   simpa only [List.append_assoc,List.cons_append,List.nil_append,ET neC,ET neB,lC,lB,lC2,lB2] using hup
 have hi':i=c.ps.length:=by omega
 subst hi'
 have hcl:=ZU (ms:=c.ms) (by omega)
 have hho:=ATy hc hf.good
 obtain ⟨R,hR⟩:∃R,Hl c=R:=⟨_,rfl⟩
 rw [hR] at hho
 simp -implicitDefEqProofs -proj only [go_sem,seval,JH,hH,decide_eq_false (show ¬(c.ps.length:Int)<c.ps.length by omega),h1]
 (repeat' (with_reducible refine Af ?_ (fun h=>?_); (focus first | decide | omega); clear h; try simp -implicitDefEqProofs -proj only [go_sem,seval,eq_self,h1]))
 refine EW hcl ?_
 simp -implicitDefEqProofs -proj only [go_sem,seval,h1]
 refine AK (fun b10 hb10=>?_)
 replace hb10:H b10=none:=hb10
 obtain ⟨y1,y2⟩:=AH hb10 h1
 simp -implicitDefEqProofs -proj only [go_sem,seval,y1,y2,h1]
 (repeat' (with_reducible refine Af ?_ (fun h=>?_); (focus first | decide | omega); clear h; try simp -implicitDefEqProofs -proj only [go_sem,seval,eq_self,y1,y2,h1]))
 refine AJ hho ?_
 simp -implicitDefEqProofs -proj only [go_sem,seval,y1,y2]
 refine AK (fun b11 hb11=>?_)
 simp -implicitDefEqProofs only [AX] at hb11
 have z1:¬b10=b11:=fun e=>by subst e; simp at hb11
 have z2:¬b11=b10:=fun e=>z1 e.symm
 simp -implicitDefEqProofs -proj only [go_sem,seval,y1,y2,z1,z2]
 refine Ex ABV ?_
 rintro r H6 ⟨vb,rfl,hbv,hv,hkeep⟩
 have hlR:R.length≤1000000:=by
  have:=(L6 (c:=c) g3).len
  rw [hR] at this
  omega
 have htC:(FC c).take c.ps.length=FC c:=List.take_of_length_le (by rw [List.length_map]; exact Nat.le_refl _)
 have htB:(FJ c).take c.ps.length=FJ c:=List.take_of_length_le (by rw [List.length_map]; exact Nat.le_refl _)
 rw [htC,htB] at hall hnd hbmH
 simp -implicitDefEqProofs only [AX] at hbv hkeep
 have e10:H6 b10=some (GZ c 0 0 []):=hkeep b10 _ (by simp -implicitDefEqProofs only [z2,↓reduceIte]; rfl)
 have eb11:H6 b11=some (.box 74 [.d (.sl 3 (Fg R))]):=hkeep b11 _ (by simp -implicitDefEqProofs only [↓reduceIte])
 have w1:¬b10=vb:=fun e=>by rw [e,hv] at e10; cases e10
 have w2:¬b11=vb:=fun e=>by
  rw [e,hv] at eb11
  simp at eb11
 have hvb:H vb=none:=by simpa only [w1,w2,↓reduceIte] using hbv
 have hb11':H b11=none:=by simpa only [z1,↓reduceIte] using hb11
 have hH6:∀k x,H k=some x→H6 k=some x:=fun k x hx=>hkeep k x (by
  obtain ⟨f1,f2⟩:=AH hb10 hx
  obtain ⟨f3,f4⟩:=AH hb11' hx
  simpa only [f1,f3,↓reduceIte] using hx)
 obtain ⟨T,hT⟩:∃T,(b4,.box 66 [.ptr bm 0])::(b3,.box 32 [i64 0])::(b2,.box 31 [.d (.str ⟨⟨[]⟩⟩),i64 0,i64 0,.nilsl 5,.nilsl 4])::(vb,.box 72 [HC R])::GP bm c k1 p1 k2 p2=T:=⟨_,rfl⟩
 have ht1:=ADB (by simpa only [AN,List.map_append,List.map_cons,List.map_nil] using hnd)
 have hkm:AN (GP bm c k1 p1 k2 p2)=bm::(List.map (·.1) (Au 51 2 k1 p1 (Ai (FC c)))++List.map (·.1) (Au 3 1 k2 p2 (AY (FJ c)))):=by simp -implicitDefEqProofs only [GP,AN,List.map_append,List.map_cons]
 have hnm:(AN (GP bm c k1 p1 k2 p2)).Nodup:=by
  rw [hkm]
  exact (List.nodup_cons.1 (List.nodup_cons.1 (List.nodup_cons.1 ht1).2).2).2
 have hkeys:AN (Au 51 2 k1 p1 (Ai (FC c))++(Au 3 1 k2 p2 (AY (FJ c))++[(bm,Blk.box 68 (LI c (BU 2 2 k1 p1 (Ai (FC c))) (BU 1 1 k2 p2 (AY (FJ c))))),(b4,.box 66 [.ptr bm 0]),(b3,.box 32 [i64 0]),(b2,.box 31 [.d (.str ⟨⟨[]⟩⟩),i64 0,i64 0,.nilsl 5,.nilsl 4]),(b1,.box 26 [.d (.str c.cur),i64 c.f,i64 c.t,.d (.sl 5 (EK c.ms)),.d (.sl 3 (Eu c.ss)),.d (.sl 9 (Ec c.ps))])]))=List.map (·.1) (Au 51 2 k1 p1 (Ai (FC c)))++(List.map (·.1) (Au 3 1 k2 p2 (AY (FJ c)))++[bm,b4,b3,b2,b1]):=by
  simp -implicitDefEqProofs only [AN,List.map_append,List.map_cons,List.map_nil]
 have hin:∀k,k∈(b4::b3::b2::AN (GP bm c k1 p1 k2 p2))→∃x,H k=some x:=fun k hk=>by
  rw [hkm] at hk
  have hk2:k∈List.map (·.1) (Au 51 2 k1 p1 (Ai (FC c)))++(List.map (·.1) (Au 3 1 k2 p2 (AY (FJ c)))++[bm,b4,b3,b2,b1]):=by
   simp -implicitDefEqProofs only [List.mem_append,List.mem_cons] at hk ⊢
   rcases hk with h | h | h | h | h | h <;> simp [h]
  rw [←hkeys] at hk2
  obtain ⟨q,hq,rfl⟩:=List.mem_map.1 hk2
  exact ⟨_,Ez.1 hall _ hq⟩
 have hmkH:AU H (GP bm c k1 p1 k2 p2):=by
  refine Pa hall fun q hq=>?_
  simp -implicitDefEqProofs only [GP,List.mem_append,List.mem_cons] at hq ⊢
  rcases hq with h | h | h <;> simp [h]
 have hTn:(AN T).Nodup:=by
  rw [←hT]
  simp -implicitDefEqProofs only [AN,List.map_cons]
  refine AQt (by rw [←hkm] at ht1; exact ht1) fun hm=>?_
  obtain ⟨x,hx⟩:=hin vb hm
  rw [hvb] at hx; cases hx
 have hTH:AU H6 T:=by
  rw [←hT]
  exact ⟨hH6 _ _ h4,hH6 _ _ h3,hH6 _ _ h2,hv,Ez.2 fun q hq=>hH6 _ _ (Ez.1 hmkH q hq)⟩
 have h10T:b10∉AN T:=by
  rw [←hT]
  simp -implicitDefEqProofs only [AN,List.map_cons,List.mem_cons,not_or]
  have hh:∀k,k∈(b4::b3::b2::AN (GP bm c k1 p1 k2 p2))→¬b10=k:=fun k hk e=>by
   obtain ⟨x,hx⟩:=hin k hk
   rw [←e,hb10] at hx; cases hx
  exact ⟨hh _ (by simp),hh _ (by simp),hh _ (by simp),w1,fun hm=>hh _ (by simp -implicitDefEqProofs only [List.mem_cons]; exact .inr (.inr (.inr hm))) rfl⟩
 have hn0:(AN (GN b10 c T ⟨0,0,[]⟩)).Nodup:=by
  simp -implicitDefEqProofs only [GN,JY,JW,Hb,Ao,List.map_nil,IW,List.nil_append,AN,List.map_cons,List.nodup_cons]
  exact ⟨h10T,hTn⟩
 have hTb:∀q∈T,q∈GP bm c k1 p1 k2 p2∨∃t cells,q.2 = .box t cells:=by
  intro q hq
  rw [←hT] at hq
  simp -implicitDefEqProofs only [List.mem_cons] at hq
  rcases hq with rfl | rfl | rfl | rfl | hq
  ·exact .inr ⟨_,_,rfl⟩
  ·exact .inr ⟨_,_,rfl⟩
  ·exact .inr ⟨_,_,rfl⟩
  ·exact .inr ⟨_,_,rfl⟩
  ·exact .inl hq
 have hend:=ASI (L6 (c:=c) g3) (by omega) (Mb g7)
 rw [hR] at hend
 have hfin:GD (Ed c) R R.length=El c:=FwdB.canon hend (KL hf.good)
 rw [←hfin]
 simp -implicitDefEqProofs -proj only [go_sem,seval]
 refine PI [(2,.ptr b2 0),(3,.ptr b3 0),(4,.ptr b4 0),(10,.ptr b10 0)] (fun pre y=>y.acc=GD (Ed c) R pre.length∧(AN (GN b10 c T y)).Nodup) (GN b10 c T) ⟨0,0,[]⟩ (ALa (b:=vb) (l:=R) hlR) (by simp -implicitDefEqProofs -proj only [go_sem,seval]) rfl (by simp) (by simp -implicitDefEqProofs -proj only [go_sem,seval,AL]) ?_ ⟨rfl,hn0⟩ ⟨e10,hTH⟩ ?_ ?_
 ·intro pre y _ q hq
  simp -implicitDefEqProofs only [List.mem_singleton] at hq
  subst hq
  simp -implicitDefEqProofs only [GN,List.mem_append,List.mem_cons]
  exact .inr (.inr (by rw [←hT]; simp))
 ·rintro pre x post y hxs ⟨hy,hn⟩
  obtain ⟨hlt,rfl,hpre⟩:=Ob hxs
  exact Uc (i:=pre.length) hc hf hR (by rw [←hT]; simp) (fun q hq=>by rw [←hT]; simp [hq]) hTb hnm hlt pre rfl hy hn
 ·rintro ⟨k,cap,acc⟩ ⟨hy,hn⟩
  have hall':=EQ hn
  simp -implicitDefEqProofs only [Hb,JT,List.length_map] at hy
  subst hy
  obtain ⟨H',hH'⟩:∃H',Ae (GN b10 c T ⟨k,cap,GD (Ed c) R R.length⟩)=H':=⟨_,rfl⟩
  rw [hH'] at hall' ⊢
  simp -implicitDefEqProofs only [GN,JY,JW,Hb] at hall' hn
  obtain ⟨hrow,q10,hTT⟩:=BI.1 hall'
  rw [←hT] at hTT
  obtain ⟨q4,q3,q2,_,_⟩:=hTT
  simp -implicitDefEqProofs only [GZ] at q10
  have hdj:∀b,b∈AN T→b∉AN (Au 47 4 k cap (Ao (GD (Ed c) R R.length))):=fun b hb hm=>by
   simp -implicitDefEqProofs only [AN,List.map_append,List.map_cons] at hn
   exact (List.nodup_append.1 hn).2.2 _ hm _ (List.mem_cons_of_mem _ hb) rfl
  have hr2:∀X Y,AU (upd (upd H' b2 X) b3 Y) (Au 47 4 k cap (Ao (GD (Ed c) R R.length))):=fun X Y=>Fq (Fq hrow (hdj b2 (by rw [←hT]; simp [AN]))) (hdj b3 (by rw [←hT]; simp [AN]))
  simp -implicitDefEqProofs -proj only [go_sem,seval,q10,q2,q3,n3,n4]
  exact .tupL (Gb (Qw (.refl _) (LC (hr2 _ _))) (Gb (.refl _) IO))
def Eg (cu:ByteArray) (f t:Int) (ms:List MeterX) (S:List (Seg EU)):Blk:=.box 31 [.d (.str cu),i64 f,i64 t,.d (.sl 5 (EK ms)),Gk S]
def mq (x y:MeterX):Bool:=(x.nm.toList == y.nm.toList)&&((x.un.toList == y.un.toList)&&(decide (x.mx=y.mx)&&(decide (x.ln=y.ln)&&decide (x.co=y.co))))
def F9:List MeterX→List MeterX→Bool
 | [],[]=>true
 | x::a,y::b=>mq x y&&F9 a b
 | _,_=>false
theorem PF:∀{a b:List MeterX},a.length≠b.length→F9 a b=false
 | [],[],h=>absurd rfl h
 | [],_::_,_=>rfl
 | _::_,[],_=>rfl
 | _::a,_::b,h=>by rw [F9,PF (a:=a) (b:=b) (fun e=>h (by simp [e])),Bool.and_false]
theorem Uo {a b:List MeterX} (ha:a.length≤1000000) (hb:b.length≤1000000):DataW Tryz.prog AJ0 [.d (.sl 5 (EK a)),.d (.sl 5 (EK b))] (bv (F9 a b)):=by
 refine Aa ATA (by simp) ?_
 by_cases hl:a.length=b.length
 rotate_left
 ·rw [PF hl]
  simp -implicitDefEqProofs -proj only [go_sem,seval,FA,decide_eq_false (show ¬(a.length:Int)=b.length by omega)]
  exact AI rfl
 simp -implicitDefEqProofs -proj only [go_sem,seval,FA,decide_eq_true (show (a.length:Int)=b.length by omega)]
 refine BE (fun i:Nat=>i≤a.length∧F9 (a.drop i) (b.drop i)=F9 a b) 26 (fun i=>[(0,.d (.sl 5 (EK a))),(1,.d (.sl 5 (EK b))),(11,.d (.sl 5 (EK a))),(12,i64 a.length),(13,i64 i)]) (fun _=>[]) (fun i=>a.length-i) 0 ⟨Nat.zero_le _,by simp⟩ rfl ?_ ?_ ?_
 ·simp -implicitDefEqProofs -proj only [go_sem,seval,AL]
  try simp [hl]
 ·simp -implicitDefEqProofs -proj only [go_sem,seval,AU]
 ·rintro i ⟨hi,hat⟩
  by_cases h:i<a.length
  ·have h':i<b.length:=by omega
   have e1:=HS h
   have e2:=HS h'
   rw [List.drop_eq_getElem_cons h,List.drop_eq_getElem_cons h',F9] at hat
   generalize a[i]=x at *
   generalize b[i]=y at *
   simp -implicitDefEqProofs -proj only [go_sem,seval,decide_eq_true (show (i:Int)<a.length by omega)]
   refine Ah _ (by omega) e1 ?_
   simp -implicitDefEqProofs -proj only [go_sem,seval]
   refine Ah _ (by omega) e2 ?_
   cases hp:mq x y
   ·rw [hp,Bool.false_and] at hat
    unfold mq at hp
    simp -implicitDefEqProofs -proj only [go_sem,seval,hp]
    rw [←hat]
    exact AI rfl
   ·rw [hp,Bool.true_and] at hat
    unfold mq at hp
    simp -implicitDefEqProofs -proj only [go_sem,seval,hp]
    refine AZ (i+1) ⟨by omega,hat⟩ (by omega) rfl ?_ trivial
    simp -implicitDefEqProofs -proj only [go_sem,seval,AL,AP (show i<9223372036854775807 by omega)]
  ·have hi':i=a.length:=by omega
   subst hi'
   rw [List.drop_length,hl,List.drop_length] at hat
   simp -implicitDefEqProofs -proj only [go_sem,seval,decide_eq_false (show ¬(a.length:Int)<a.length by omega)]
   rw [←hat]
   exact AI rfl
open Classical in
theorem Qy {cu cu':ByteArray} {f t f' t':Int} {ms ms':List MeterX} {S S':List (Seg EU)} (hm:ms.length≤1000000) (hm':ms'.length≤1000000) (hS:∀s∈S,Ie s) (hS':∀s∈S',Ie s) (hl:S.length≤1000000) (hl':S'.length≤1000000):DataW Tryz.prog Sf [IF cu f t ms S,IF cu' f' t' ms' S'] (bv ((cu.toList == cu'.toList)&&(decide (f=f')&&(decide (t=t')&&(F9 ms ms'&&decide (S=S')))))):=by
 have h1:=Uo hm hm'
 have h2:=ALw hS hS' hl hl'
 refine Aa AQp (by simp) ?_
 simp -implicitDefEqProofs -proj only [go_sem,seval]
 refine AK (fun b2 hb2=>?_)
 simp -implicitDefEqProofs -proj only [go_sem,seval]
 refine AK (fun b3 hb3=>?_)
 replace hb3:upd Heap.none b2 _ b3=none:=hb3
 obtain ⟨n1,n2⟩:=AH hb3 AQ
 cases c1:cu.toList == cu'.toList
 ·simp -implicitDefEqProofs -proj only [go_sem,seval,n1,n2,MT,c1]
  exact AI (by simp)
 by_cases hf:f=f'
 rotate_left
 ·simp -implicitDefEqProofs -proj only [go_sem,seval,n1,n2,MT,c1,decide_eq_false hf]
  exact AI (by simp)
 by_cases ht:t=t'
 rotate_left
 ·simp -implicitDefEqProofs -proj only [go_sem,seval,n1,n2,MT,c1,decide_eq_true hf,decide_eq_false ht]
  exact AI (by simp)
 simp -implicitDefEqProofs -proj only [go_sem,seval,n1,n2,MT,c1,decide_eq_true hf,decide_eq_true ht]
 refine AJ h1 ?_
 cases c2:F9 ms ms'
 ·simp -implicitDefEqProofs -proj only [go_sem,seval,n1,n2]
  exact AI (by simp)
 ·simp -implicitDefEqProofs -proj only [go_sem,seval,n1,n2]
  refine AJ h2 ?_
  simp -implicitDefEqProofs -proj only [go_sem,seval]
  exact AI (by simp)
structure mostC (c:CoreX):Prop where
 parts:∀(i:Nat) (h:i<c.ps.length),∀q:Nat,q<(Ea c.ms c.ps[i].me+1).toNat→Jr c.ps[i] q
 tot:∀i,i≤c.ps.length→Fr c i≤1152921504606846976
noncomputable instance (c:CoreX):Decidable (mostC c):=Classical.propDecidable _
theorem ADq {c:CoreX}:fitsC c↔¬Jy c∧goodC c∧mostC c :=
 ⟨fun h=>⟨h.great,h.good,fun i hi=>h.parts _ (List.getElem_mem hi),h.tot⟩,fun ⟨h1,h2,h3⟩=>⟨h1,h2,fun x hx=>by
  obtain ⟨i,hi,rfl⟩:=List.getElem_of_mem hx
  exact h3.parts i hi,h3.tot⟩⟩
theorem ACz {c:CoreX} {j:Nat} (h:j<c.ps.length):Fr c (j+1)=Fr c j+Gz c.ps[j] (Ea c.ms c.ps[j].me+1).toNat:=by
 unfold Fr
 rw [sg]
 have:HI c j=Gz c.ps[j] (Ea c.ms c.ps[j].me+1).toNat:=by unfold HI; rw [List.getElem?_eq_getElem h]
 omega
theorem AWJ {c:CoreX} (hc:c.Fit) (hg:goodC c):∃n,DataW Tryz.prog AOA [GV c] (.tup [i64 n,bv (decide (mostC c))]):=by
 refine ⟨if mostC c then Fr c c.ps.length else 0,?_⟩
 obtain ⟨_,_,_,a6,a7,a8⟩:=hg.hd
 have hps:=hg.ps
 have hfp:=hc.ps
 have hme:=(fitsC.bnd hg).me
 have hmxb:=(fitsC.bnd hg).mx
 have hfin:∀H,¬mostC c→LendV H (.tup [i64 0,bv false]) (.tup [i64 (if mostC c then Fr c c.ps.length else 0),bv (decide (mostC c))]):=fun H h=>AI (by rw [if_neg h,decide_eq_false h])
 have hyes:∀H,mostC c→LendV H (.tup [i64 (Fr c c.ps.length),bv true]) (.tup [i64 (if mostC c then Fr c c.ps.length else 0),bv (decide (mostC c))]):=fun H h=>AI (by rw [if_pos h,decide_eq_true h])
 generalize hR:AV.tup [i64 (if mostC c then Fr c c.ps.length else 0),bv (decide (mostC c))]=R at *
 clear hR
 refine Aa AKV (by simp) ?_
 simp -implicitDefEqProofs -proj only [go_sem,seval]
 refine AK (fun b1 hb1=>?_)
 simp -implicitDefEqProofs -proj only [go_sem,seval,Fo]
 have hamt:∀i:Nat,i≤c.ss.length→0≤sg (GU c.ss) i∧sg (GU c.ss) i≤1000000000000*i:=by
  intro i
  induction i with
  | zero=>intro _; exact ⟨Int.le_refl _,Int.le_refl _⟩
  | succ n ih =>
   intro hn
   have:=ih (by omega)
   have h1:=(fitsC.bnd hg).amt _ (List.getElem_mem (show n<c.ss.length by omega))
   rw [sg]
   have:GU c.ss n=c.ss[n].a:=by unfold GU; rw [List.getElem?_eq_getElem (by omega)]
   omega
 refine BE (fun i:Nat=>i≤c.ss.length) 71 (fun i=>[(1,.ptr b1 0),(4,i64 (sg (GU c.ss) i)),(14,.d (.sl 3 (Eu c.ss))),(15,i64 c.ss.length),(16,i64 i)]) (fun _=>[(b1,BJ c)]) (fun i=>c.ss.length-i) 0 (Nat.zero_le _) rfl ?_ ?_ ?_
 ·simp -implicitDefEqProofs -proj only [go_sem,seval,AL,Fo,sg]
 ·exact ⟨AQ,trivial⟩
 ·intro i hi
  have hk:AU (Ae [(b1,BJ c)]) [(b1,BJ c)]:=EQ (by simp [AN])
  have k1:=hk.1
  by_cases h:i<c.ss.length
  ·have hel:=KB h
   have hA:=hamt i hi
   have hA2:=hamt (i+1) (by omega)
   have hst:sg (GU c.ss) (i+1)=sg (GU c.ss) i+c.ss[i].a:=by rw [sg]; unfold GU; rw [List.getElem?_eq_getElem h]
   generalize c.ss[i]=s at *
   have w:IntKind.i64.wrap (sg (GU c.ss) i+s.a)=sg (GU c.ss) (i+1):=by rw [IntKind.wrap_i64]; omega
   simp -implicitDefEqProofs -proj only [go_sem,seval,decide_eq_true (show (i:Int)<c.ss.length by omega)]
   refine Ah _ (by omega) hel ?_
   simp -implicitDefEqProofs -proj only [go_sem,seval]
   refine AK (fun b6 hb6=>?_)
   simp -implicitDefEqProofs -proj only [go_sem,seval,w]
   refine AZ (i+1) (by omega) (by show c.ss.length-(i+1)<c.ss.length-i; omega) rfl ?_ (Ak hb6 hk)
   simp -implicitDefEqProofs -proj only [go_sem,seval,AL,AP (show i<9223372036854775807 by omega)]
  ·have hi':i=c.ss.length:=by omega
   subst hi'
   have hA:=hamt c.ss.length (Nat.le_refl _)
   simp -implicitDefEqProofs -proj only [go_sem,seval,k1,decide_eq_false (show ¬(c.ss.length:Int)<c.ss.length by omega),FU]
   refine BE (fun j:Nat=>j≤c.ps.length∧(∀(i:Nat) (h:i<c.ps.length),i<j→∀q:Nat,q<(Ea c.ms c.ps[i].me+1).toNat→Jr c.ps[i] q)∧∀i,i≤j→Fr c i≤1152921504606846976) 71 (fun j=>[(1,.ptr b1 0),(4,i64 (Fr c j)),(26,.d (.sl 9 (Ec c.ps))),(27,i64 c.ps.length),(28,i64 j)]) (fun _=>[(b1,BJ c)]) (fun j=>c.ps.length-j) 0 ⟨Nat.zero_le _,fun i _ h=>absurd h (Nat.not_lt_zero _),fun i hi=>?_⟩ rfl ?_ ?_ ?_
   ·have:i=0:=by omega
    subst this
    simp -implicitDefEqProofs only [Fr,sg]; omega
   ·simp -implicitDefEqProofs -proj only [go_sem,seval,AL,Fr,sg,Int.add_zero,FU]
   ·exact hk
   ·rintro j ⟨hj,hs1,hs2⟩
    by_cases h:j<c.ps.length
    ·have helj:=Iz h
     have hx:=List.getElem_mem h
     have hok:=hps _ hx
     have hfx:=hfp _ hx
     obtain ⟨m0,m1⟩:=hme _ hx
     have hno1:∀q:Nat,q<(Ea c.ms c.ps[j].me+1).toNat→¬Jr c.ps[j] q→¬mostC c:=fun q hq hn k=>hn (k.parts j h q hq)
     have hno2:¬Fr c (j+1)≤1152921504606846976→¬mostC c:=fun hn k=>hn (k.tot (j+1) (by omega))
     have hgo1:(∀q:Nat,q<(Ea c.ms c.ps[j].me+1).toNat→Jr c.ps[j] q)→∀(i:Nat) (h:i<c.ps.length),i<j+1→∀q:Nat,q<(Ea c.ms c.ps[i].me+1).toNat→Jr c.ps[i] q:=by
      intro e i hi hij
      by_cases hij2:i=j
      ·subst hij2; exact e
      ·exact hs1 i hi (by omega)
     have hb:=ACz (c:=c) h
     have hT0:=hs2 j (Nat.le_refl _)
     have hT1:0≤Fr c j:=by
      have:=hamt c.ss.length (Nat.le_refl _)
      have:=JG (n:=j) fun i _=>Lk (c:=c) i
      unfold Fr; omega
     have hmxn:=hmxb c.ps[j].me.toNat (by omega)
     have hmx:Ea c.ms c.ps[j].me=c.ms[c.ps[j].me.toNat].mx:=by unfold Ea; rw [List.getElem?_eq_getElem (by omega)]
     have helm:=HS (show c.ps[j].me.toNat<c.ms.length by omega)
     rw [Int.toNat_natCast] at helm
     rw [←hmx] at hmxn
     generalize c.ms[c.ps[j].me.toNat]=mm at *
     generalize c.ps[j]=x at *
     rw [hmx] at hno1 hgo1 hb hmxn
     have G:=MM hok
     have hcall:=fun (q:Int) (hq:Fit q)=>NJ (q:=q) hfx hq G (MG G.ts)
     simp -implicitDefEqProofs -proj only [go_sem,seval,decide_eq_true (show (j:Int)<c.ps.length by omega)]
     refine Ah _ (by omega) helj ?_
     simp -implicitDefEqProofs -proj only [go_sem,seval]
     refine AK (fun b8 hb8=>?_)
     replace hb8:Ae [(b1,BJ c)] b8=none:=hb8
     obtain ⟨n1,n2⟩:=AH hb8 k1
     simp -implicitDefEqProofs -proj only [go_sem,seval]
     refine BE (fun k:Nat=>k≤(mm.mx+1).toNat∧0≤Gz x k∧Gz x k≤1152921504606846976∧∀q:Nat,q<k→Jr x q) 71 (fun k=>[(1,.ptr b1 0),(4,i64 (Fr c j)),(26,.d (.sl 9 (Ec c.ps))),(27,i64 c.ps.length),(28,i64 j),(8,.ptr b8 0),(9,i64 (Gz x k)),(10,i64 k)]) (fun _=>[(b8,Blk.box 40 [i64 x.me,i64 x.f,i64 x.t,i64 x.al,i64 x.bl,i64 x.ki,EX x.ts,i64 x.mo,Ej x.ad]),(b1,BJ c)]) (fun k=>(mm.mx+1).toNat-k) 0 ⟨Nat.zero_le _,Int.le_refl _,(by show (0:Int)≤1152921504606846976; decide),fun q h=>absurd h (Nat.not_lt_zero _)⟩ rfl ?_ ?_ ?_
     ·simp -implicitDefEqProofs -proj only [go_sem,seval,AL,Gz]
     ·exact ⟨AQ,(AE n1).trans k1,trivial⟩
     ·rintro k ⟨hk',hb0,hb1,hq⟩
      have hkk:AU (Ae [(b8,Blk.box 40 [i64 x.me,i64 x.f,i64 x.t,i64 x.al,i64 x.bl,i64 x.ki,EX x.ts,i64 x.mo,Ej x.ad]),(b1,BJ c)]) [(b8,Blk.box 40 [i64 x.me,i64 x.f,i64 x.t,i64 x.al,i64 x.bl,i64 x.ki,EX x.ts,i64 x.mo,Ej x.ad]),(b1,BJ c)]:=EQ (by simp [AN,n1])
      obtain ⟨k8,kb1,_⟩:=id hkk
      simp -implicitDefEqProofs -proj only [go_sem,seval,k8,kb1,n1,n2]
      refine Ah _ m0 helm ?_
      by_cases h2:(k:Int)≤mm.mx
      ·have hck:=hcall k (by unfold Fit; omega)
       have hbs:Gz x (k+1)=max (Gz x k) (pv x k):=rfl
       simp -implicitDefEqProofs -proj only [go_sem,seval,k8,kb1,n1,n2,decide_eq_true h2]
       refine AJ hck ?_
       cases e:GW x (k:Int) with
       | none =>
        have hn:¬mostC c:=hno1 k (by omega) (fun ⟨n,h,_⟩=>by rw [e] at h; cases h)
        simp -implicitDefEqProofs -proj only [go_sem,seval,BV,Bool.not_false]
        exact hfin _ hn
       | some n =>
        have hpv:pv x k=n:=by unfold pv; rw [e]; rfl
        by_cases c1:1152921504606846976<n
        ·have hn:¬mostC c:=hno1 k (by omega) (fun ⟨n',h,_,h3⟩=>by rw [e] at h; cases h; omega)
         simp -implicitDefEqProofs -proj only [go_sem,seval,BV,Bool.not_true,decide_eq_true c1]
         exact hfin _ hn
        by_cases c2:n<0
        ·have hn:¬mostC c:=hno1 k (by omega) (fun ⟨n',h,h2,_⟩=>by rw [e] at h; cases h; omega)
         simp -implicitDefEqProofs -proj only [go_sem,seval,BV,Bool.not_true,decide_eq_false c1,decide_eq_true c2]
         exact hfin _ hn
        rw [hpv] at hbs
        simp -implicitDefEqProofs -proj only [go_sem,seval,BV,Bool.not_true,decide_eq_false c1,decide_eq_false c2]
        refine AZ (k+1) ⟨by omega,by rw [hbs]; omega,by rw [hbs]; omega,fun q hq2=>?_⟩ (by show (mm.mx+1).toNat-(k+1)<(mm.mx+1).toNat-k; omega) rfl ?_ hkk
        ·by_cases e2:q=k
         ·subst e2; exact ⟨n,e,by omega,by omega⟩
         ·exact hq q (by omega)
        ·simp -implicitDefEqProofs -proj only [go_sem,seval,AL,hbs,AP (show k<9223372036854775807 by omega)]
      ·have hk2:k=(mm.mx+1).toNat:=by omega
       subst hk2
       have w:IntKind.i64.wrap (Fr c j+Gz x (mm.mx+1).toNat)=Fr c (j+1):=by rw [IntKind.wrap_i64]; omega
       simp -implicitDefEqProofs -proj only [go_sem,seval,decide_eq_false h2,w]
       by_cases c1:1152921504606846976<Fr c (j+1)
       ·simp -implicitDefEqProofs -proj only [go_sem,seval,decide_eq_true c1]
        exact hfin _ (hno2 (by omega))
       ·simp -implicitDefEqProofs -proj only [go_sem,seval,decide_eq_false c1]
        refine AZ (j+1) ⟨by omega,hgo1 hq,fun i hi=>?_⟩ (by show c.ps.length-(j+1)<c.ps.length-j; omega) rfl ?_ ⟨kb1,trivial⟩
        ·by_cases e2:i=j+1
         ·subst e2; omega
         ·exact hs2 i (by omega)
        ·simp -implicitDefEqProofs -proj only [go_sem,seval,AL,AP (show j<9223372036854775807 by omega)]
    ·have hj':j=c.ps.length:=by omega
     subst hj'
     have hm:mostC c:=⟨fun i hi=>hs1 i hi hi,hs2⟩
     have:=hs2 c.ps.length (Nat.le_refl _)
     simp -implicitDefEqProofs -proj only [go_sem,seval,decide_eq_false (show ¬(c.ps.length:Int)<c.ps.length by omega),decide_eq_true this]
     exact hyes _ hm
theorem NL {c:CoreX} (hc:c.Fit):DataW Tryz.prog AW2 [GV c] (bv (decide (fitsC c))):=by
 have hgd:=Ws hc
 have hiff:=ADq (c:=c)
 have hmo:=fun h=>AWJ hc (c:=c) h
 refine Aa AJG (by simp) ?_
 simp -implicitDefEqProofs -proj only [go_sem,seval]
 refine AK (fun b1 hb1=>?_)
 simp -implicitDefEqProofs -proj only [go_sem,seval]
 refine AJ AOz ?_
 by_cases g1:Jy c
 ·simp -implicitDefEqProofs -proj only [go_sem,seval,decide_eq_true g1]
  exact AI (by rw [decide_eq_false (fun k=>(hiff.1 k).1 g1)])
 simp -implicitDefEqProofs -proj only [go_sem,seval,decide_eq_false g1]
 refine AJ hgd ?_
 by_cases g2:goodC c
 rotate_left
 ·simp -implicitDefEqProofs -proj only [go_sem,seval,decide_eq_false g2,Bool.not_false]
  exact AI (by rw [decide_eq_false (fun k=>g2 (hiff.1 k).2.1)])
 obtain ⟨n,hmo⟩:=hmo g2
 simp -implicitDefEqProofs -proj only [go_sem,seval,decide_eq_true g2,Bool.not_true]
 refine AJ hmo ?_
 simp -implicitDefEqProofs -proj only [go_sem,seval]
 exact AI (by rw [decide_eq_decide.2 (hiff.trans ⟨fun h=>h.2.2,fun h=>⟨g1,g2,h⟩⟩)])
end Go.Proofs.YtbihahpaalcjjaaGreat.Abs
