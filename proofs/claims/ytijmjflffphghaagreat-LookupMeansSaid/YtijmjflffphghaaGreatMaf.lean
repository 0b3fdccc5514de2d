/- Contracts of the machine and the contracts of one law (joined by kmerge.py). No claim stands here. -/
import Derived.Below
import Derived.Carry
import Derived.ChangeCalls
import Derived.ChangeOld
import Derived.IntWalk
import Derived.KernelRfl
import Derived.Laws.Append
import Derived.Laws.AppendOwn
import Derived.Laws.Cells
import Derived.Laws.CopyRow
import Derived.Laws.Entries
import Derived.Laws.MakeOwn
import Derived.Laws.NewFold
import Derived.Laws.Rows
import Derived.Laws.StructEq
import Derived.OpenShut
import Derived.Orders
import Derived.OrdersIn
import Derived.ProofKit
import Derived.RangeFuncLeaves
import Derived.RangeFuncSeq
import Derived.SizedLaws
import Derived.TacticsIn
import Derived.WalkKit
import Derived.Test.YtijmjflffphghaaGreatMae
set_option maxRecDepth 100000
set_option linter.unusedSimpArgs false
set_option linter.unusedVariables false
namespace Go.Proofs.YtijmjflffphghaaGreat.Abs
open Go Go.RowKit Go.Proofs
attribute [local go_sem] DN D2 CT Dl Dn Bv CM Ag Ak Ca Bt Cq Du CX C9 Ct BS C5 Dr DP DE Cm D8 Bi Bw Bg Ds CY DS Ba Bx C1 Bz B7 Bj Cu DD D4 CI CG BV DW Dj Cb Dm CF CA DG Cl CL B0 C2 CJ DO Bn Dy DU D1 Df B1 Cs D6 Dw Cr C7 B3 CO CV CK DX Ce BI Di Bl BG Ck Cp BA Bk Cg CZ Ch Cy Dv Dd Bu Dg C4 Dk CW B2 Cv D3 D5 Cj Dx BJ DI BN A7 Br Cx CN AL ev Ai Aw Au BM A6 DA Bh DL De An Aq DJ Dz Bb BY Cz Da C3 Cn Dq Cc B9 DZ CC BZ C6 CR D0 BU DK Bq DV Bd Bp Af setSeg nth seg mapD Ar A8 AR BD DQ CU Am Ab cond_true cond_false CB BL BK BE BO Co BX List.cons_append List.nil_append Bool.not_true Bool.not_false Bool.and_true Bool.and_self Nat.lt_add_left_iff_pos Nat.zero_add Nat.add_zero List.drop_succ_cons List.drop_zero List.take_succ_cons List.take_zero beq_self_eq_true Bool.false_eq_true CS Cf C0 Db Bo Bs Bc CP DY Ay and_self and_true true_and DB DM D7 CD D9 DC CE Ci CH Dc Cw Cd Bf B8 Dt CQ Bm As Az Aj C8 By Be Dp BT DH List.length_cons List.length_nil Nat.min_def Int.cast_ofNat_Int Int.natCast_zero Int.natCast_one decide_true decide_false List.getElem?_cons_zero List.getElem?_cons_succ DT Do DF Dh DR BW
theorem Qp {H : Heap} {b sz cap cap' len : Nat} {e : TypeId} {xs : List (List D)} (h : H b = some (.row e sz cap' xs)) (hl : len = xs.length) (hs : ∀ el ∈ xs,∀ d ∈ el,Gn d = true) : NewV H (.own b sz 0 len cap) (.d (.sl sz xs)) := by
  subst hl; exact .own b sz cap e cap' xs h hs
theorem Kd {H : Heap} {x y : AV} (h : NewV H x y) : NewV H (.agg [x]) (.agg [y]) := by
  refine .agg _ _ rfl fun j u v h1 h2 => ?_
  cases j with
  | zero => cases h1; cases h2; exact h
  | succ j => cases h1
def Run.elU (r : Run) : List D := [.int .i64 r.f,.int .i64 r.t,.int .u64 r.v]
abbrev Run.avU (r : Run) : AV := .agg [i64 r.f,i64 r.t,u64 r.v]
def FK (l : List Run) : List (List D) := l.map Run.elU
theorem rowU_len {l : List Run} : (FK l).length = l.length := List.length_map ..
theorem Yw {l : List Run} {i : Nat} (h : i < l.length) : (FK l)[i]? = some (Run.elU l[i]) := by simp [FK,h]
theorem VW {l : List Run} {i : Nat} {r : Run} : (FK l).set i r.elU = FK (l.set i r) := by simp [FK,List.map_set]
theorem VP {l : List Run} {r : Run} : FK l ++ [r.elU] = FK (l ++ [r]) := by simp [FK]
def LineAtU (H : Heap) (b : Nat) (c : Nat) (l : List Run) : Prop :=
  l = [] ∧ H b = some (.box 65 [.nilsl 3]) ∨ l ≠ [] ∧ c ≠ b ∧ ∃ cap,H b = some (.box 65 [.own c 3 0 l.length cap]) ∧ H c = some (.row 73 3 cap (FK l))
def APC (b c : Nat) (l0 l : List Run) (H : Heap) (H' : Heap) : Prop := ∃ c',LineAtU H' b c' l ∧ (∀ k x,k ≠ b → (l0 ≠ [] → k ≠ c) → H k = some x → H' k = some x ∧ k ≠ c')
theorem Me {H : Heap} {b c : Nat} {l : List Run} {r : Run} (h : LineAtU H b c l) (hl : l.length ≤ 1000000) : CallW Tryz.prog RO [.ptr b 0,r.avU] H fun _ H' => APC b c l (Ax l r) H H' := by
  rcases h with ⟨rfl,h1⟩ | ⟨h0,h3,cap,h1,h2⟩
  · refine AX SI (by simp) ?_
    simp -implicitDefEqProofs -proj only [go_sem,seval,h1]
    refine AK (fun b3 hb => ?_)
    replace hb : H b3 = none := hb
    obtain ⟨n1,n2⟩ := AI hb h1
    simp -implicitDefEqProofs -proj only [go_sem,seval,h1,n1,n2]
    (repeat' first
    | ((with_reducible first | refine EC (fun h => ?_) (fun h => ?_) | refine BF (fun h => ?_) (fun h => ?_) | refine EF (fun h => ?_) (fun h => ?_)) <;> (simp -implicitDefEqProofs -proj only [go_sem,seval,h,h1,n1,n2]; try (revert h; intro _)))
    | ((with_reducible first | refine AK (fun _ hb => ?_) | refine Ao (fun _ hb => ?_)); simp -implicitDefEqProofs only [ED,EE,Ab,Heap.none_get,and_true,true_and] at hb; simp -implicitDefEqProofs -proj only [go_sem,seval,h1,n1,n2]; try (revert hb; intro _))
    | ((with_reducible first | refine BP _ rfl (by simp) ?_ | refine EA _ rfl (by simp) ?_); simp -implicitDefEqProofs -proj only [go_sem,seval,h1,n1,n2])
    | (with_reducible refine Ad ?_ (fun h => ?_); first | ((focus first | decide | omega); try clear h; try simp -implicitDefEqProofs -proj only [go_sem,seval,h1,n1,n2]) | (rotate_left; try clear h; try simp -implicitDefEqProofs -proj only [go_sem,seval,h1,n1,n2]; rotate_right)))
    refine J5 (ds := r.elU) rfl (fun bs hs => ?_)
    replace hs : upd H b3 _ bs = none := hs
    rw [show Aj 3 1 r.elU = [r.elU] from rfl]
    obtain ⟨m1,m2⟩ := AI hs (by rw [AE n1]; exact h1)
    simp -implicitDefEqProofs -proj only [go_sem,seval,h1,n1,n2,m1,m2]
    refine Nm (ys := [r.elU]) (t := 73) (capc := 1) (by simp -implicitDefEqProofs -proj only [go_sem,seval]) rfl (by simp) rfl (by simp [maxLen]) (fun c' hc' cap => ?_)
    replace hc' : upd (upd H b3 _) bs _ c' = none := hc'
    obtain ⟨k1,k2⟩ := AI hc' (by rw [AE m1,AE n1]; exact h1)
    simp -implicitDefEqProofs -proj only [go_sem,seval,h1,n1,n2,m1,m2,k1,k2]
    (repeat' first
    | ((with_reducible first | refine EC (fun h => ?_) (fun h => ?_) | refine BF (fun h => ?_) (fun h => ?_) | refine EF (fun h => ?_) (fun h => ?_)) <;> (simp -implicitDefEqProofs -proj only [go_sem,seval,h,h1,n1,n2,m1,m2,k1,k2]; try (revert h; intro _)))
    | ((with_reducible first | refine AK (fun _ hb => ?_) | refine Ao (fun _ hb => ?_)); simp -implicitDefEqProofs only [ED,EE,Ab,Heap.none_get,and_true,true_and] at hb; simp -implicitDefEqProofs -proj only [go_sem,seval,h1,n1,n2,m1,m2,k1,k2]; try (revert hb; intro _))
    | ((with_reducible first | refine BP _ rfl (by simp) ?_ | refine EA _ rfl (by simp) ?_); simp -implicitDefEqProofs -proj only [go_sem,seval,h1,n1,n2,m1,m2,k1,k2])
    | (with_reducible refine Ad ?_ (fun h => ?_); first | ((focus first | decide | omega); try clear h; try simp -implicitDefEqProofs -proj only [go_sem,seval,h1,n1,n2,m1,m2,k1,k2]) | (rotate_left; try clear h; try simp -implicitDefEqProofs -proj only [go_sem,seval,h1,n1,n2,m1,m2,k1,k2]; rotate_right)))
    refine ⟨c',.inr ⟨by simp [Ax],k1,cap,?_,?_⟩,fun k x hk1 hk2 hk => ?_⟩
    · simp -implicitDefEqProofs -proj only [go_sem,seval,Ax]
      rfl
    · simp -implicitDefEqProofs -proj only [go_sem,seval,k2]
      rfl
    · obtain ⟨p1,p2⟩ := AI hb hk
      obtain ⟨q1,q2⟩ := AI hs (by rw [AE p1]; exact hk)
      obtain ⟨r1,r2⟩ := AI hc' (by rw [AE q1,AE p1]; exact hk)
      refine ⟨?_,r2⟩
      have hk3 : ¬ b = k := fun e => hk1 e.symm
      simp -implicitDefEqProofs -proj only [go_sem,seval,p1,q1,r1,hk,hk3]
  · obtain ⟨q,hq⟩ : ∃ q,l.getLast? = some q := by
      cases hh : l.getLast? with
      | none => exact absurd (List.getLast?_eq_none_iff.1 hh) h0
      | some q => exact ⟨q,rfl⟩
    have hlen : 0 < l.length := List.length_pos_iff.2 h0
    have hq2 : l[l.length - 1]? = some q := by rw [← List.getLast?_eq_getElem?]; exact hq
    have hw : IntKind.i64.wrap ((l.length : Int) - 1) = ((l.length - 1 : Nat) : Int) := by rw [IntKind.wrap_i64]; omega
    have hrow : (FK l)[l.length - 1]? = some [.int .i64 q.f,.int .i64 q.t,.int .u64 q.v] := by simp [FK,hq2,Run.elU]
    have h3' : ¬ b = c := fun e => h3 e.symm
    refine AX SI (by simp) ?_
    simp -implicitDefEqProofs -proj only [go_sem,seval,h1]
    refine AK (fun b3 hb => ?_)
    replace hb : H b3 = none := hb
    obtain ⟨n1,n2⟩ := AI hb h1
    obtain ⟨n3,n4⟩ := AI hb h2
    have c0 : decide (0 < (l.length : Int)) = true := decide_eq_true (by omega)
    simp -implicitDefEqProofs -proj only [go_sem,seval,h1,h2,h3,h3',n1,n2,n3,n4,c0,hw]
    (repeat' first
    | ((with_reducible first | refine EC (fun h => ?_) (fun h => ?_) | refine BF (fun h => ?_) (fun h => ?_) | refine EF (fun h => ?_) (fun h => ?_)) <;> (simp -implicitDefEqProofs -proj only [go_sem,seval,h,h1,h2,h3,h3',n1,n2,n3,n4,c0,hw]; try (revert h; intro _)))
    | ((with_reducible first | refine AK (fun _ hb => ?_) | refine Ao (fun _ hb => ?_)); simp -implicitDefEqProofs only [ED,EE,Ab,Heap.none_get,and_true,true_and] at hb; simp -implicitDefEqProofs -proj only [go_sem,seval,h1,h2,h3,h3',n1,n2,n3,n4,c0,hw]; try (revert hb; intro _))
    | ((with_reducible first | refine BP _ rfl (by simp) ?_ | refine EA _ rfl (by simp) ?_); simp -implicitDefEqProofs -proj only [go_sem,seval,h1,h2,h3,h3',n1,n2,n3,n4,c0,hw])
    | (with_reducible refine Ad ?_ (fun h => ?_); first | ((focus first | decide | omega); try clear h; try simp -implicitDefEqProofs -proj only [go_sem,seval,h1,h2,h3,h3',n1,n2,n3,n4,c0,hw]) | (rotate_left; try clear h; try simp -implicitDefEqProofs -proj only [go_sem,seval,h1,h2,h3,h3',n1,n2,n3,n4,c0,hw]; rotate_right)))
    refine BP _ (by rw [Int.toNat_natCast]; exact hrow) (by simp) ?_
    simp -implicitDefEqProofs -proj only [go_sem,seval,h1,h2,h3,h3',n1,n2,n3,n4,c0,hw]
    by_cases hv : q.v = r.v
    · have hp : Ax l r = l.dropLast ++ [{ q with t := r.t }] := by rw [Ax,hq]; exact if_pos hv
      simp -implicitDefEqProofs -proj only [go_sem,seval,h1,h2,h3,h3',n1,n2,n3,n4,c0,hw,decide_eq_true hv,Int.toNat_natCast]
      (repeat' first
    | ((with_reducible first | refine EC (fun h => ?_) (fun h => ?_) | refine BF (fun h => ?_) (fun h => ?_) | refine EF (fun h => ?_) (fun h => ?_)) <;> (simp -implicitDefEqProofs -proj only [go_sem,seval,h,h1,h2,h3,h3',n1,n2,n3,n4,c0,hw,Int.toNat_natCast]; try (revert h; intro _)))
    | ((with_reducible first | refine AK (fun _ hb => ?_) | refine Ao (fun _ hb => ?_)); simp -implicitDefEqProofs only [ED,EE,Ab,Heap.none_get,and_true,true_and] at hb; simp -implicitDefEqProofs -proj only [go_sem,seval,h1,h2,h3,h3',n1,n2,n3,n4,c0,hw,Int.toNat_natCast]; try (revert hb; intro _))
    | ((with_reducible first | refine BP _ rfl (by simp) ?_ | refine EA _ rfl (by simp) ?_); simp -implicitDefEqProofs -proj only [go_sem,seval,h1,h2,h3,h3',n1,n2,n3,n4,c0,hw,Int.toNat_natCast])
    | (with_reducible refine Ad ?_ (fun h => ?_); first | ((focus first | decide | omega); try clear h; try simp -implicitDefEqProofs -proj only [go_sem,seval,h1,h2,h3,h3',n1,n2,n3,n4,c0,hw,Int.toNat_natCast]) | (rotate_left; try clear h; try simp -implicitDefEqProofs -proj only [go_sem,seval,h1,h2,h3,h3',n1,n2,n3,n4,c0,hw,Int.toNat_natCast]; rotate_right)))
      refine NL (xs := FK l) (t := 73) (cap := cap) (by simp -implicitDefEqProofs -proj only [go_sem,seval,n3,h2]) hrow (by simp) ?_
      have hset : (FK l).set (l.length - 1) (Gb [.int .i64 q.f,.int .i64 q.t,.int .u64 q.v] 1 [.int .i64 r.t]) = FK (Ax l r) := by
        rw [hp,← Qj h0,← VW]; rfl
      have hlp : (Ax l r).length = l.length := by rw [hp,List.length_append,List.length_dropLast,List.length_singleton]; omega
      rw [hset]
      simp -implicitDefEqProofs -proj only [go_sem,seval,h1,h2,h3,h3',n1,n2,n3,n4,c0,hw]
      refine ⟨c,.inr ⟨by rw [hp]; simp,h3,cap,?_,?_⟩,fun k x hk1 hk2 hk => ?_⟩
      · simp -implicitDefEqProofs -proj only [go_sem,seval,n1,h3,h1,hlp]
      · simp -implicitDefEqProofs -proj only [go_sem,seval]
      · obtain ⟨p1,p2⟩ := AI hb hk
        have hk3 : ¬ c = k := fun e => hk2 h0 e.symm
        refine ⟨?_,hk2 h0⟩
        simp -implicitDefEqProofs -proj only [go_sem,seval,p1,hk3,hk]
    · have hp : Ax l r = l ++ [r] := by rw [Ax,hq]; exact if_neg hv
      simp -implicitDefEqProofs -proj only [go_sem,seval,h1,h2,h3,h3',n1,n2,n3,n4,c0,hw,decide_eq_false hv]
      (repeat' first
    | ((with_reducible first | refine EC (fun h => ?_) (fun h => ?_) | refine BF (fun h => ?_) (fun h => ?_) | refine EF (fun h => ?_) (fun h => ?_)) <;> (simp -implicitDefEqProofs -proj only [go_sem,seval,h,h1,h2,h3,h3',n1,n2,n3,n4,c0,hw]; try (revert h; intro _)))
    | ((with_reducible first | refine AK (fun _ hb => ?_) | refine Ao (fun _ hb => ?_)); simp -implicitDefEqProofs only [ED,EE,Ab,Heap.none_get,and_true,true_and] at hb; simp -implicitDefEqProofs -proj only [go_sem,seval,h1,h2,h3,h3',n1,n2,n3,n4,c0,hw]; try (revert hb; intro _))
    | ((with_reducible first | refine BP _ rfl (by simp) ?_ | refine EA _ rfl (by simp) ?_); simp -implicitDefEqProofs -proj only [go_sem,seval,h1,h2,h3,h3',n1,n2,n3,n4,c0,hw])
    | (with_reducible refine Ad ?_ (fun h => ?_); first | ((focus first | decide | omega); try clear h; try simp -implicitDefEqProofs -proj only [go_sem,seval,h1,h2,h3,h3',n1,n2,n3,n4,c0,hw]) | (rotate_left; try clear h; try simp -implicitDefEqProofs -proj only [go_sem,seval,h1,h2,h3,h3',n1,n2,n3,n4,c0,hw]; rotate_right)))
      refine J5 (ds := r.elU) rfl (fun bs hs => ?_)
      replace hs : upd H b3 _ bs = none := hs
      rw [show Aj 3 1 r.elU = [r.elU] from rfl]
      obtain ⟨m1,m2⟩ := AI hs (by rw [AE n1]; exact h1)
      obtain ⟨m3,m4⟩ := AI hs (by rw [AE n3]; exact h2)
      simp -implicitDefEqProofs -proj only [go_sem,seval,h1,h2,h3,h3',n1,n2,n3,n4,c0,hw,m1,m2,m3,m4]
      refine Ob (xs := FK l) (ys := [r.elU]) (t := 73) (capc := 1) (by simp -implicitDefEqProofs -proj only [go_sem,seval,m3,n3,h2]) (by simp -implicitDefEqProofs -proj only [go_sem,seval]) rowU_len.symm rfl (by simp) rfl (by simp -implicitDefEqProofs only [rowU_len,List.length_singleton,maxLen]; omega) (fun c' cap' hc' => ?_)
      replace hc' : upd (upd (upd H b3 _) bs _) c none c' = none := hc'
      obtain ⟨k1,k2⟩ := AI hc' (by rw [AE h3,AE m1,AE n1]; exact h1)
      rw [VP,List.length_singleton]
      simp -implicitDefEqProofs -proj only [go_sem,seval,h1,h2,h3,h3',n1,n2,n3,n4,c0,hw,m1,m2,m3,m4,k1,k2]
      (repeat' first
    | ((with_reducible first | refine EC (fun h => ?_) (fun h => ?_) | refine BF (fun h => ?_) (fun h => ?_) | refine EF (fun h => ?_) (fun h => ?_)) <;> (simp -implicitDefEqProofs -proj only [go_sem,seval,h,h1,h2,h3,h3',n1,n2,n3,n4,c0,hw,m1,m2,m3,m4,k1,k2]; try (revert h; intro _)))
    | ((with_reducible first | refine AK (fun _ hb => ?_) | refine Ao (fun _ hb => ?_)); simp -implicitDefEqProofs only [ED,EE,Ab,Heap.none_get,and_true,true_and] at hb; simp -implicitDefEqProofs -proj only [go_sem,seval,h1,h2,h3,h3',n1,n2,n3,n4,c0,hw,m1,m2,m3,m4,k1,k2]; try (revert hb; intro _))
    | ((with_reducible first | refine BP _ rfl (by simp) ?_ | refine EA _ rfl (by simp) ?_); simp -implicitDefEqProofs -proj only [go_sem,seval,h1,h2,h3,h3',n1,n2,n3,n4,c0,hw,m1,m2,m3,m4,k1,k2])
    | (with_reducible refine Ad ?_ (fun h => ?_); first | ((focus first | decide | omega); try clear h; try simp -implicitDefEqProofs -proj only [go_sem,seval,h1,h2,h3,h3',n1,n2,n3,n4,c0,hw,m1,m2,m3,m4,k1,k2]) | (rotate_left; try clear h; try simp -implicitDefEqProofs -proj only [go_sem,seval,h1,h2,h3,h3',n1,n2,n3,n4,c0,hw,m1,m2,m3,m4,k1,k2]; rotate_right)))
      refine ⟨c',.inr ⟨by rw [hp]; simp,k1,cap',?_,?_⟩,fun k x hk1 hk2 hk => ?_⟩
      · simp -implicitDefEqProofs -proj only [go_sem,seval,hp,List.length_append]
      · simp -implicitDefEqProofs -proj only [go_sem,seval,k2,hp]
      · obtain ⟨p1,p2⟩ := AI hb hk
        obtain ⟨q1,q2⟩ := AI hs (by rw [AE p1]; exact hk)
        have hk3 : ¬ c = k := fun e => hk2 h0 e.symm
        have hk4 : ¬ b = k := fun e => hk1 e.symm
        obtain ⟨r1,r2⟩ := AI hc' (by rw [AE hk3,AE q1,AE p1]; exact hk)
        refine ⟨?_,r2⟩
        simp -implicitDefEqProofs -proj only [go_sem,seval,p1,q1,r1,hk3,hk4,hk]
def F5 (b c cap : Nat) (l : List Run) : List (Nat × Blk) := if l = [] then [(b,.box 65 [.nilsl 3])] else [(b,.box 65 [.own c 3 0 l.length cap]),(c,.row 73 3 cap (FK l))]
theorem QY {b c cap : Nat} {l : List Run} {rest : List (Nat × Blk)} (hc : l ≠ [] → c ≠ b) : LineAtU (Ae (F5 b c cap l ++ rest)) b c l := by
  unfold F5
  by_cases h : l = []
  · rw [if_pos h]
    exact .inl ⟨h,by rw [List.cons_append,Am,if_pos rfl]⟩
  · rw [if_neg h]
    refine .inr ⟨h,hc h,cap,?_,?_⟩
    · rw [List.cons_append,Am,if_pos rfl]
    · rw [List.cons_append,Am,if_neg (hc h),List.cons_append,Am,if_pos rfl]
theorem Mt {b c cap k : Nat} {l : List Run} {rest : List (Nat × Blk)} (hb : k ≠ b) (hc : l ≠ [] → k ≠ c) : Ae (F5 b c cap l ++ rest) k = Ae rest k := by
  unfold F5
  by_cases h : l = []
  · rw [if_pos h,List.cons_append,Am,if_neg hb,List.nil_append]
  · rw [if_neg h,List.cons_append,Am,if_neg hb,List.cons_append,Am,if_neg (hc h),List.nil_append]
theorem JX {H : Heap} {b c : Nat} {l : List Run} (h : LineAtU H b c l) : ∃ cap,AU H (F5 b c cap l) ∧ (l ≠ [] → c ≠ b) := by
  rcases h with ⟨rfl,h1⟩ | ⟨h0,h3,cap,h1,h2⟩
  · exact ⟨0,⟨h1,trivial⟩,fun h => absurd rfl h⟩
  · refine ⟨cap,?_,fun _ => h3⟩
    unfold F5
    rw [if_neg h0]
    exact ⟨h1,h2,trivial⟩
abbrev HW (l : List Run) : AV := .agg [.d (.sl 3 (FK l))]
theorem Pc {l : List Run} : ∀ el ∈ FK l,∀ d ∈ el,Gn d = true := by
  intro el he d hd
  obtain ⟨r,_,rfl⟩ := List.mem_map.1 he
  simp -implicitDefEqProofs only [Run.elU,List.mem_cons,List.not_mem_nil,or_false] at hd
  rcases hd with rfl | rfl | rfl <;> rfl
theorem LineAtU.read {H : Heap} {b c : Nat} {l : List Run} (h : LineAtU H b c l) : ∃ v,H b = some (.box 65 [v]) ∧ NewV H v (.d (.sl 3 (FK l))) ∧ I2 v = some (i64 l.length) := by
  rcases h with ⟨rfl,h1⟩ | ⟨h0,h3,cap,h1,h2⟩
  · exact ⟨_,h1,.nilsl _ _,rfl⟩
  · exact ⟨_,h1,Qp h2 rowU_len.symm Pc,rfl⟩
theorem LineAtU.upd {H : Heap} {b c k : Nat} {l : List Run} {x : Option Blk} (h : LineAtU H b c l) (hb : ¬ k = b) (hc : l ≠ [] → ¬ k = c) : LineAtU (upd H k x) b c l := by
  rcases h with ⟨h0,h1⟩ | ⟨h0,h3,cap,h1,h2⟩
  · exact .inl ⟨h0,by rw [AE hb]; exact h1⟩
  · exact .inr ⟨h0,h3,cap,by rw [AE hb]; exact h1,by rw [AE (hc h0)]; exact h2⟩
abbrev GN (l : List Run) : AV := .d (.sl 3 (FK l))
theorem MS {l : List Run} {i : Nat} (h : i < l.length) : (FK l)[((i : Int)).toNat]? = some [.int .i64 l[i].f,.int .i64 l[i].t,.int .u64 l[i].v] := by
  rw [Int.toNat_natCast]; exact Yw h
theorem LineAtU.fresh {H : Heap} {b c k : Nat} {l : List Run} (h : LineAtU H b c l) (hk : H k = none) : ¬ k = b ∧ (l ≠ [] → ¬ k = c) := by
  rcases h with ⟨h0,h1⟩ | ⟨h0,h3,cap,h1,h2⟩
  · exact ⟨(AI hk h1).1,fun h => absurd h0 h⟩
  · exact ⟨(AI hk h1).1,fun _ => (AI hk h2).1⟩
theorem Wt {a b : List Run} {f : FuncId} {g : Int → Int → Int} (hg : ∀ u v : Int,DataW Tryz.prog f [u64 u,u64 v] (u64 (g u v))) (ha : a.length ≤ 400000) (hb : b.length ≤ 400000) : NewW Tryz.prog Tq [HW a,HW b,.fn f []] (HW (Eo g a b (a.length + b.length) 0 0 [])) := by
  refine AX AHh (by simp) ?_
  simp -implicitDefEqProofs -proj only [go_sem,seval]
  refine AK (fun b3 hb3 => ?_)
  simp -implicitDefEqProofs -proj only [go_sem,seval]
  refine AK (fun b4 hb4 => ?_)
  replace hb4 : upd Heap.none b3 _ b4 = none := hb4
  obtain ⟨n1,n2⟩ := AI hb4 AT
  simp -implicitDefEqProofs -proj only [go_sem,seval,n1,n2]
  refine AK (fun b6 hb6 => ?_)
  replace hb6 : upd (upd Heap.none b3 _) b4 _ b6 = none := hb6
  obtain ⟨n3,n4⟩ := AI hb6 AT
  obtain ⟨n5,n6⟩ := AI hb6 (by rw [AE n1]; exact AT)
  simp -implicitDefEqProofs -proj only [go_sem,seval,n1,n2,n3,n4,n5,n6,rowU_len]
  refine AK (fun b7 hb7 => ?_)
  replace hb7 : upd (upd (upd Heap.none b3 _) b4 _) b6 _ b7 = none := hb7
  obtain ⟨n7,n8⟩ := AI hb7 AT
  obtain ⟨p1,p2⟩ := AI hb7 (by rw [AE n3]; exact AT)
  obtain ⟨p3,p4⟩ := AI hb7 (by rw [AE n5,AE n1]; exact AT)
  simp -implicitDefEqProofs -proj only [go_sem,seval,n1,n2,n3,n4,n5,n6,n7,n8,p1,p2,p3,p4,rowU_len]
  obtain ⟨rest,hrest⟩ : ∃ rest : List (Nat × Blk),rest = [(b6,.box 65 [.nilsl 3]),(b3,.box 65 [GN a]),(b4,.box 65 [GN b])] := ⟨_,rfl⟩
  refine EJ (fun x : ZipX => x.i ≤ a.length ∧ x.k ≤ b.length ∧ x.l.length ≤ x.i + x.k ∧ Eo g a b (a.length + b.length - x.i - x.k) x.i x.k x.l = Eo g a b (a.length + b.length) 0 0 [] ∧ (x.l ≠ [] → x.c ≠ b7 ∧ x.c ≠ b6 ∧ x.c ≠ b3 ∧ x.c ≠ b4)) 74 (fun x => [(8,i64 x.i),(9,i64 x.k),(3,.ptr b3 0),(4,.ptr b4 0),(6,.ptr b6 0),(7,.ptr b7 0),(2,.fn f [])]) (fun x => F5 b7 x.c x.cap x.l ++ rest) (fun x => a.length + b.length - x.i - x.k) ⟨0,0,0,0,[]⟩ ⟨Nat.zero_le _,Nat.zero_le _,Nat.zero_le _,rfl,fun h => absurd rfl h⟩ rfl ?_ ?_ ?_
  · simp -implicitDefEqProofs -proj only [go_sem,seval,AM]
  · rw [FH,hrest]
    simp -implicitDefEqProofs -proj only [go_sem,seval,AU,F5,n1,n2,n3,n4,n5,n6,n7,n8,p1,p2,p3,p4]
  · rintro ⟨i,k,c,cap,R⟩ ⟨hi,hk,hlen,hR,hc⟩
    simp -implicitDefEqProofs only [] at hi hk hlen hR hc
    have hat := QY (b := b7) (c := c) (cap := cap) (l := R) (rest := rest) (fun h => (hc h).1)
    have h6 : Ae (F5 b7 c cap R ++ rest) b6 = some (.box 65 [.nilsl 3]) := by
      rw [Mt n8 (fun h e => (hc h).2.1 e.symm),hrest]; simp -implicitDefEqProofs -proj only [go_sem,seval]
    have h3 : Ae (F5 b7 c cap R ++ rest) b3 = some (.box 65 [GN a]) := by
      rw [Mt p4 (fun h e => (hc h).2.2.1 e.symm),hrest]; simp -implicitDefEqProofs -proj only [go_sem,seval,n6]
    have h4 : Ae (F5 b7 c cap R ++ rest) b4 = some (.box 65 [GN b]) := by
      rw [Mt p2 (fun h e => (hc h).2.2.2 e.symm),hrest]; simp -implicitDefEqProofs -proj only [go_sem,seval,n4,n1]
    generalize hH : Ae (F5 b7 c cap R ++ rest) = H at *
    by_cases hin : i < a.length ∧ k < b.length
    · obtain ⟨h,h'⟩ := hin
      have e1 := MS h
      have e2 := MS h'
      have hx : a[i]? = some a[i] := List.getElem?_eq_getElem h
      have hy : b[k]? = some b[k] := List.getElem?_eq_getElem h'
      generalize a[i] = x at *
      generalize b[k] = y at *
      rw [show a.length + b.length - i - k = (a.length + b.length - i - k - 1) + 1 by omega,Eo,hx,hy] at hR
      simp -implicitDefEqProofs only [] at hR
      simp -implicitDefEqProofs -proj only [go_sem,seval,GV,GW,h3,h4,rowU_len,decide_eq_true (show (i : Int) < a.length by omega),decide_eq_true (show (k : Int) < b.length by omega)]
      (repeat' (with_reducible refine Ad ?_ (fun h => ?_); (focus first | decide | omega); clear h; try simp -implicitDefEqProofs -proj only [go_sem,seval,eq_self,GV,GW,h3,h4,rowU_len,decide_eq_true (show (i : Int) < a.length by omega),decide_eq_true (show (k : Int) < b.length by omega)]))
      refine Ap _ (by omega) e1 ?_
      simp -implicitDefEqProofs -proj only [go_sem,seval,GV,GW,h3,h4,rowU_len,decide_eq_true (show (i : Int) < a.length by omega),decide_eq_true (show (k : Int) < b.length by omega)]
      (repeat' (with_reducible refine Ad ?_ (fun h => ?_); (focus first | decide | omega); clear h; try simp -implicitDefEqProofs -proj only [go_sem,seval,eq_self,GV,GW,h3,h4,rowU_len,decide_eq_true (show (i : Int) < a.length by omega),decide_eq_true (show (k : Int) < b.length by omega)]))
      refine Ap _ (by omega) e2 ?_
      simp -implicitDefEqProofs -proj only [go_sem,seval,GV,GW,h3,h4,rowU_len,decide_eq_true (show (i : Int) < a.length by omega),decide_eq_true (show (k : Int) < b.length by omega)]
      (repeat' (with_reducible refine Ad ?_ (fun h => ?_); (focus first | decide | omega); clear h; try simp -implicitDefEqProofs -proj only [go_sem,seval,eq_self,GV,GW,h3,h4,rowU_len,decide_eq_true (show (i : Int) < a.length by omega),decide_eq_true (show (k : Int) < b.length by omega)]))
      refine AK (fun b10 hb10 => ?_)
      replace hb10 : H b10 = none := hb10
      obtain ⟨q1,q3⟩ := hat.fresh hb10
      have t6 := (AI hb10 h6).1
      have t3 := (AI hb10 h3).1
      have t4 := (AI hb10 h4).1
      simp -implicitDefEqProofs -proj only [go_sem,seval]
      refine AK (fun b11 hb11 => ?_)
      replace hb11 : upd H b10 _ b11 = none := hb11
      obtain ⟨r3,r4⟩ := AI hb11 AT
      have hb11' : H b11 = none := by rw [AE r4] at hb11; exact hb11
      obtain ⟨r1,r3'⟩ := hat.fresh hb11'
      have u6 := (AI hb11' h6).1
      have u3 := (AI hb11' h3).1
      have u4 := (AI hb11' h4).1
      have q2 : ¬ b7 = b10 := fun e => q1 e.symm
      have r2 : ¬ b7 = b11 := fun e => r1 e.symm
      by_cases hA : x.t ≤ y.t
      · by_cases hB : y.t ≤ x.t
        · by_cases hM : max x.f y.f ≤ min x.t y.t
          · rw [if_pos hA,if_pos hB,if_pos hM] at hR
            have dM := decide_eq_true hM
            have dA := decide_eq_true hA
            have dB := decide_eq_true hB
            simp -implicitDefEqProofs -proj only [go_sem,seval,h3,h4,rowU_len,q1,q2,r1,r2,r3,r4,dM,dA,dB,AQ (show i < 9223372036854775807 by omega),AQ (show k < 9223372036854775807 by omega)]
            (repeat' (with_reducible refine Ad ?_ (fun h => ?_); (focus first | decide | omega); clear h; try simp -implicitDefEqProofs -proj only [go_sem,seval,eq_self,h3,h4,rowU_len,q1,q2,r1,r2,r3,r4,dM,dA,dB,AQ (show i < 9223372036854775807 by omega),AQ (show k < 9223372036854775807 by omega)]))
            refine AJ (hg x.v y.v) ?_
            simp -implicitDefEqProofs -proj only [go_sem,seval,h3,h4,rowU_len,q1,q2,r1,r2,r3,r4,dM,dA,dB,AQ (show i < 9223372036854775807 by omega),AQ (show k < 9223372036854775807 by omega)]
            have hput := fun z1 z2 z w => Me (r := ⟨max x.f y.f,min x.t y.t,g x.v y.v⟩) ((((hat.upd (k := b10) (x := z1) q1 q3).upd (k := b11) (x := z2) r1 r3').upd (k := b10) (x := z) q1 q3).upd (k := b11) (x := w) r1 r3') (by omega)
            refine El (hput _ _ _ _) (fun rr H' hk => ?_)
            obtain ⟨c',hat',hfr⟩ := hk
            have g6 := hfr b6 _ n8 (fun h e => (hc h).2.1 e.symm) (by rw [AE u6,AE t6,AE u6,AE t6]; exact h6)
            have g3 := hfr b3 _ p4 (fun h e => (hc h).2.2.1 e.symm) (by rw [AE u3,AE t3,AE u3,AE t3]; exact h3)
            have g4 := hfr b4 _ p2 (fun h e => (hc h).2.2.2 e.symm) (by rw [AE u4,AE t4,AE u4,AE t4]; exact h4)
            have g10 := hfr b10 _ q1 q3 (by rw [AE r3,AT])
            have g11 := hfr b11 _ r1 r3' (by rw [AT])
            obtain ⟨cap',hah,hc'⟩ := JX hat'
            simp -implicitDefEqProofs -proj only [go_sem,seval,h3,h4,rowU_len,q1,q2,r1,r2,r3,r4,dM,dA,dB,AQ (show i < 9223372036854775807 by omega),AQ (show k < 9223372036854775807 by omega),g10.1,g11.1,eq_self]
            have hRR : Ax R ⟨max x.f y.f,min x.t y.t,g x.v y.v⟩ ≠ [] := KB
            have hll := @GI R ⟨max x.f y.f,min x.t y.t,g x.v y.v⟩
            refine Ah ⟨i + 1,k + 1,c',cap',Ax R ⟨max x.f y.f,min x.t y.t,g x.v y.v⟩⟩ ⟨by show i + 1 ≤ a.length; omega,by show k + 1 ≤ b.length; omega,by show (Ax R _).length ≤ i + 1 + (k + 1); omega,?_,fun h => ⟨hc' h,fun e => g6.2 e.symm,fun e => g3.2 e.symm,fun e => g4.2 e.symm⟩⟩ (by show a.length + b.length - (i + 1) - (k + 1) < a.length + b.length - i - k; omega) rfl ?_ ?_
            · show Eo g a b (a.length + b.length - (i + 1) - (k + 1)) (i + 1) (k + 1) _ = _
              rw [← hR]
              try rw [show a.length + b.length - i - k - 1 = a.length + b.length - (i + 1) - (k + 1) by omega]
              try (rw [show a.length + b.length - i - k - 1 = (a.length + b.length - (i + 1) - (k + 1)) + 1 by omega,HK _ _ _ _ (by omega)])
            · simp -implicitDefEqProofs -proj only [go_sem,seval,AM,GV,GW]
            · rw [FH,hrest]
              exact ⟨hah,g6.1,g3.1,g4.1,trivial⟩
          · rw [if_pos hA,if_pos hB,if_neg hM] at hR
            have dM := decide_eq_false hM
            have dA := decide_eq_true hA
            have dB := decide_eq_true hB
            simp -implicitDefEqProofs -proj only [go_sem,seval,h3,h4,rowU_len,q1,q2,r1,r2,r3,r4,dM,dA,dB,AQ (show i < 9223372036854775807 by omega),AQ (show k < 9223372036854775807 by omega)]
            (repeat' (with_reducible refine Ad ?_ (fun h => ?_); (focus first | decide | omega); clear h; try simp -implicitDefEqProofs -proj only [go_sem,seval,eq_self,h3,h4,rowU_len,q1,q2,r1,r2,r3,r4,dM,dA,dB,AQ (show i < 9223372036854775807 by omega),AQ (show k < 9223372036854775807 by omega)]))
            obtain ⟨cap',hah,hc'⟩ := JX ((((hat.upd (k := b10) (x := some (.box 73 [.d (.int .i64 0),.d (.int .i64 0),.d (.int .u64 0)])) q1 q3).upd (k := b11) (x := some (.box 73 [.d (.int .i64 0),.d (.int .i64 0),.d (.int .u64 0)])) r1 r3').upd (k := b10) (x := some (.box 73 [.d (.int .i64 x.f),.d (.int .i64 x.t),.d (.int .u64 x.v)])) q1 q3).upd (k := b11) (x := some (.box 73 [.d (.int .i64 y.f),.d (.int .i64 y.t),.d (.int .u64 y.v)])) r1 r3')
            refine Ah ⟨i + 1,k + 1,c,cap',R⟩ ⟨by show i + 1 ≤ a.length; omega,by show k + 1 ≤ b.length; omega,by show R.length ≤ i + 1 + (k + 1); omega,?_,hc⟩ (by show a.length + b.length - (i + 1) - (k + 1) < a.length + b.length - i - k; omega) rfl ?_ ?_
            · show Eo g a b (a.length + b.length - (i + 1) - (k + 1)) (i + 1) (k + 1) _ = _
              rw [← hR]
              try rw [show a.length + b.length - i - k - 1 = a.length + b.length - (i + 1) - (k + 1) by omega]
              try (rw [show a.length + b.length - i - k - 1 = (a.length + b.length - (i + 1) - (k + 1)) + 1 by omega,HK _ _ _ _ (by omega)])
            · simp -implicitDefEqProofs -proj only [go_sem,seval,AM,GV,GW]
            · rw [FH,hrest]
              exact ⟨hah,((AE u6).trans ((AE t6).trans ((AE u6).trans ((AE t6).trans h6)))),((AE u3).trans ((AE t3).trans ((AE u3).trans ((AE t3).trans h3)))),((AE u4).trans ((AE t4).trans ((AE u4).trans ((AE t4).trans h4)))),trivial⟩
        · by_cases hM : max x.f y.f ≤ min x.t y.t
          · rw [if_pos hA,if_neg hB,if_pos hM] at hR
            have dM := decide_eq_true hM
            have dA := decide_eq_true hA
            have dB := decide_eq_false hB
            simp -implicitDefEqProofs -proj only [go_sem,seval,h3,h4,rowU_len,q1,q2,r1,r2,r3,r4,dM,dA,dB,AQ (show i < 9223372036854775807 by omega),AQ (show k < 9223372036854775807 by omega)]
            (repeat' (with_reducible refine Ad ?_ (fun h => ?_); (focus first | decide | omega); clear h; try simp -implicitDefEqProofs -proj only [go_sem,seval,eq_self,h3,h4,rowU_len,q1,q2,r1,r2,r3,r4,dM,dA,dB,AQ (show i < 9223372036854775807 by omega),AQ (show k < 9223372036854775807 by omega)]))
            refine AJ (hg x.v y.v) ?_
            simp -implicitDefEqProofs -proj only [go_sem,seval,h3,h4,rowU_len,q1,q2,r1,r2,r3,r4,dM,dA,dB,AQ (show i < 9223372036854775807 by omega),AQ (show k < 9223372036854775807 by omega)]
            have hput := fun z1 z2 z w => Me (r := ⟨max x.f y.f,min x.t y.t,g x.v y.v⟩) ((((hat.upd (k := b10) (x := z1) q1 q3).upd (k := b11) (x := z2) r1 r3').upd (k := b10) (x := z) q1 q3).upd (k := b11) (x := w) r1 r3') (by omega)
            refine El (hput _ _ _ _) (fun rr H' hk => ?_)
            obtain ⟨c',hat',hfr⟩ := hk
            have g6 := hfr b6 _ n8 (fun h e => (hc h).2.1 e.symm) (by rw [AE u6,AE t6,AE u6,AE t6]; exact h6)
            have g3 := hfr b3 _ p4 (fun h e => (hc h).2.2.1 e.symm) (by rw [AE u3,AE t3,AE u3,AE t3]; exact h3)
            have g4 := hfr b4 _ p2 (fun h e => (hc h).2.2.2 e.symm) (by rw [AE u4,AE t4,AE u4,AE t4]; exact h4)
            have g10 := hfr b10 _ q1 q3 (by rw [AE r3,AT])
            have g11 := hfr b11 _ r1 r3' (by rw [AT])
            obtain ⟨cap',hah,hc'⟩ := JX hat'
            simp -implicitDefEqProofs -proj only [go_sem,seval,h3,h4,rowU_len,q1,q2,r1,r2,r3,r4,dM,dA,dB,AQ (show i < 9223372036854775807 by omega),AQ (show k < 9223372036854775807 by omega),g10.1,g11.1,eq_self]
            have hRR : Ax R ⟨max x.f y.f,min x.t y.t,g x.v y.v⟩ ≠ [] := KB
            have hll := @GI R ⟨max x.f y.f,min x.t y.t,g x.v y.v⟩
            refine Ah ⟨i + 1,k,c',cap',Ax R ⟨max x.f y.f,min x.t y.t,g x.v y.v⟩⟩ ⟨by show i + 1 ≤ a.length; omega,by show k ≤ b.length; omega,by show (Ax R _).length ≤ i + 1 + (k); omega,?_,fun h => ⟨hc' h,fun e => g6.2 e.symm,fun e => g3.2 e.symm,fun e => g4.2 e.symm⟩⟩ (by show a.length + b.length - (i + 1) - (k) < a.length + b.length - i - k; omega) rfl ?_ ?_
            · show Eo g a b (a.length + b.length - (i + 1) - (k)) (i + 1) (k) _ = _
              rw [← hR]
              try rw [show a.length + b.length - i - k - 1 = a.length + b.length - (i + 1) - (k) by omega]
              try (rw [show a.length + b.length - i - k - 1 = (a.length + b.length - (i + 1) - (k + 1)) + 1 by omega,HK _ _ _ _ (by omega)])
            · simp -implicitDefEqProofs -proj only [go_sem,seval,AM,GV,GW]
            · rw [FH,hrest]
              exact ⟨hah,g6.1,g3.1,g4.1,trivial⟩
          · rw [if_pos hA,if_neg hB,if_neg hM] at hR
            have dM := decide_eq_false hM
            have dA := decide_eq_true hA
            have dB := decide_eq_false hB
            simp -implicitDefEqProofs -proj only [go_sem,seval,h3,h4,rowU_len,q1,q2,r1,r2,r3,r4,dM,dA,dB,AQ (show i < 9223372036854775807 by omega),AQ (show k < 9223372036854775807 by omega)]
            (repeat' (with_reducible refine Ad ?_ (fun h => ?_); (focus first | decide | omega); clear h; try simp -implicitDefEqProofs -proj only [go_sem,seval,eq_self,h3,h4,rowU_len,q1,q2,r1,r2,r3,r4,dM,dA,dB,AQ (show i < 9223372036854775807 by omega),AQ (show k < 9223372036854775807 by omega)]))
            obtain ⟨cap',hah,hc'⟩ := JX ((((hat.upd (k := b10) (x := some (.box 73 [.d (.int .i64 0),.d (.int .i64 0),.d (.int .u64 0)])) q1 q3).upd (k := b11) (x := some (.box 73 [.d (.int .i64 0),.d (.int .i64 0),.d (.int .u64 0)])) r1 r3').upd (k := b10) (x := some (.box 73 [.d (.int .i64 x.f),.d (.int .i64 x.t),.d (.int .u64 x.v)])) q1 q3).upd (k := b11) (x := some (.box 73 [.d (.int .i64 y.f),.d (.int .i64 y.t),.d (.int .u64 y.v)])) r1 r3')
            refine Ah ⟨i + 1,k,c,cap',R⟩ ⟨by show i + 1 ≤ a.length; omega,by show k ≤ b.length; omega,by show R.length ≤ i + 1 + (k); omega,?_,hc⟩ (by show a.length + b.length - (i + 1) - (k) < a.length + b.length - i - k; omega) rfl ?_ ?_
            · show Eo g a b (a.length + b.length - (i + 1) - (k)) (i + 1) (k) _ = _
              rw [← hR]
              try rw [show a.length + b.length - i - k - 1 = a.length + b.length - (i + 1) - (k) by omega]
              try (rw [show a.length + b.length - i - k - 1 = (a.length + b.length - (i + 1) - (k + 1)) + 1 by omega,HK _ _ _ _ (by omega)])
            · simp -implicitDefEqProofs -proj only [go_sem,seval,AM,GV,GW]
            · rw [FH,hrest]
              exact ⟨hah,((AE u6).trans ((AE t6).trans ((AE u6).trans ((AE t6).trans h6)))),((AE u3).trans ((AE t3).trans ((AE u3).trans ((AE t3).trans h3)))),((AE u4).trans ((AE t4).trans ((AE u4).trans ((AE t4).trans h4)))),trivial⟩
      · have hB : y.t ≤ x.t := by omega
        by_cases hM : max x.f y.f ≤ min x.t y.t
        · rw [if_neg hA,if_pos hB,if_pos hM] at hR
          have dM := decide_eq_true hM
          have dA := decide_eq_false hA
          have dB := decide_eq_true hB
          simp -implicitDefEqProofs -proj only [go_sem,seval,h3,h4,rowU_len,q1,q2,r1,r2,r3,r4,dM,dA,dB,AQ (show i < 9223372036854775807 by omega),AQ (show k < 9223372036854775807 by omega)]
          (repeat' (with_reducible refine Ad ?_ (fun h => ?_); (focus first | decide | omega); clear h; try simp -implicitDefEqProofs -proj only [go_sem,seval,eq_self,h3,h4,rowU_len,q1,q2,r1,r2,r3,r4,dM,dA,dB,AQ (show i < 9223372036854775807 by omega),AQ (show k < 9223372036854775807 by omega)]))
          refine AJ (hg x.v y.v) ?_
          simp -implicitDefEqProofs -proj only [go_sem,seval,h3,h4,rowU_len,q1,q2,r1,r2,r3,r4,dM,dA,dB,AQ (show i < 9223372036854775807 by omega),AQ (show k < 9223372036854775807 by omega)]
          have hput := fun z1 z2 z w => Me (r := ⟨max x.f y.f,min x.t y.t,g x.v y.v⟩) ((((hat.upd (k := b10) (x := z1) q1 q3).upd (k := b11) (x := z2) r1 r3').upd (k := b10) (x := z) q1 q3).upd (k := b11) (x := w) r1 r3') (by omega)
          refine El (hput _ _ _ _) (fun rr H' hk => ?_)
          obtain ⟨c',hat',hfr⟩ := hk
          have g6 := hfr b6 _ n8 (fun h e => (hc h).2.1 e.symm) (by rw [AE u6,AE t6,AE u6,AE t6]; exact h6)
          have g3 := hfr b3 _ p4 (fun h e => (hc h).2.2.1 e.symm) (by rw [AE u3,AE t3,AE u3,AE t3]; exact h3)
          have g4 := hfr b4 _ p2 (fun h e => (hc h).2.2.2 e.symm) (by rw [AE u4,AE t4,AE u4,AE t4]; exact h4)
          have g10 := hfr b10 _ q1 q3 (by rw [AE r3,AT])
          have g11 := hfr b11 _ r1 r3' (by rw [AT])
          obtain ⟨cap',hah,hc'⟩ := JX hat'
          simp -implicitDefEqProofs -proj only [go_sem,seval,h3,h4,rowU_len,q1,q2,r1,r2,r3,r4,dM,dA,dB,AQ (show i < 9223372036854775807 by omega),AQ (show k < 9223372036854775807 by omega),g10.1,g11.1,eq_self]
          have hRR : Ax R ⟨max x.f y.f,min x.t y.t,g x.v y.v⟩ ≠ [] := KB
          have hll := @GI R ⟨max x.f y.f,min x.t y.t,g x.v y.v⟩
          refine Ah ⟨i,k + 1,c',cap',Ax R ⟨max x.f y.f,min x.t y.t,g x.v y.v⟩⟩ ⟨by show i ≤ a.length; omega,by show k + 1 ≤ b.length; omega,by show (Ax R _).length ≤ i + (k + 1); omega,?_,fun h => ⟨hc' h,fun e => g6.2 e.symm,fun e => g3.2 e.symm,fun e => g4.2 e.symm⟩⟩ (by show a.length + b.length - (i) - (k + 1) < a.length + b.length - i - k; omega) rfl ?_ ?_
          · show Eo g a b (a.length + b.length - (i) - (k + 1)) (i) (k + 1) _ = _
            rw [← hR]
            try rw [show a.length + b.length - i - k - 1 = a.length + b.length - (i) - (k + 1) by omega]
            try (rw [show a.length + b.length - i - k - 1 = (a.length + b.length - (i + 1) - (k + 1)) + 1 by omega,HK _ _ _ _ (by omega)])
          · simp -implicitDefEqProofs -proj only [go_sem,seval,AM,GV,GW]
          · rw [FH,hrest]
            exact ⟨hah,g6.1,g3.1,g4.1,trivial⟩
        · rw [if_neg hA,if_pos hB,if_neg hM] at hR
          have dM := decide_eq_false hM
          have dA := decide_eq_false hA
          have dB := decide_eq_true hB
          simp -implicitDefEqProofs -proj only [go_sem,seval,h3,h4,rowU_len,q1,q2,r1,r2,r3,r4,dM,dA,dB,AQ (show i < 9223372036854775807 by omega),AQ (show k < 9223372036854775807 by omega)]
          (repeat' (with_reducible refine Ad ?_ (fun h => ?_); (focus first | decide | omega); clear h; try simp -implicitDefEqProofs -proj only [go_sem,seval,eq_self,h3,h4,rowU_len,q1,q2,r1,r2,r3,r4,dM,dA,dB,AQ (show i < 9223372036854775807 by omega),AQ (show k < 9223372036854775807 by omega)]))
          obtain ⟨cap',hah,hc'⟩ := JX ((((hat.upd (k := b10) (x := some (.box 73 [.d (.int .i64 0),.d (.int .i64 0),.d (.int .u64 0)])) q1 q3).upd (k := b11) (x := some (.box 73 [.d (.int .i64 0),.d (.int .i64 0),.d (.int .u64 0)])) r1 r3').upd (k := b10) (x := some (.box 73 [.d (.int .i64 x.f),.d (.int .i64 x.t),.d (.int .u64 x.v)])) q1 q3).upd (k := b11) (x := some (.box 73 [.d (.int .i64 y.f),.d (.int .i64 y.t),.d (.int .u64 y.v)])) r1 r3')
          refine Ah ⟨i,k + 1,c,cap',R⟩ ⟨by show i ≤ a.length; omega,by show k + 1 ≤ b.length; omega,by show R.length ≤ i + (k + 1); omega,?_,hc⟩ (by show a.length + b.length - (i) - (k + 1) < a.length + b.length - i - k; omega) rfl ?_ ?_
          · show Eo g a b (a.length + b.length - (i) - (k + 1)) (i) (k + 1) _ = _
            rw [← hR]
            try rw [show a.length + b.length - i - k - 1 = a.length + b.length - (i) - (k + 1) by omega]
            try (rw [show a.length + b.length - i - k - 1 = (a.length + b.length - (i + 1) - (k + 1)) + 1 by omega,HK _ _ _ _ (by omega)])
          · simp -implicitDefEqProofs -proj only [go_sem,seval,AM,GV,GW]
          · rw [FH,hrest]
            exact ⟨hah,((AE u6).trans ((AE t6).trans ((AE u6).trans ((AE t6).trans h6)))),((AE u3).trans ((AE t3).trans ((AE u3).trans ((AE t3).trans h3)))),((AE u4).trans ((AE t4).trans ((AE u4).trans ((AE t4).trans h4)))),trivial⟩
    · have hz : Eo g a b (a.length + b.length - i - k) i k R = R := by
        generalize a.length + b.length - i - k = n
        cases n with
        | zero => rfl
        | succ n =>
          rw [Eo]
          by_cases h1 : i < a.length
          · rw [List.getElem?_eq_none (l := b) (by omega)]
            split <;> first | rfl | simp_all
          · rw [List.getElem?_eq_none (l := a) (by omega)]
      obtain ⟨v,hv,hl,_⟩ := hat.read
      obtain ⟨v2,hv2,hl2,_⟩ := (hat.upd (k := b6) (x := some (.box 65 [v])) n8 (fun h e => (hc h).2.1 e.symm)).read
      rw [AE n8,hv] at hv2
      cases hv2
      rw [← hR,hz]
      by_cases h1 : i < a.length
      · have h2 : ¬ (k : Int) < b.length := by omega
        simp -implicitDefEqProofs -proj only [go_sem,seval,GV,GW,h3,h4,h6,hv,rowU_len,decide_eq_true (show (i : Int) < a.length by omega),decide_eq_false h2]
        (repeat' (with_reducible refine Ad ?_ (fun h => ?_); (focus first | decide | omega); clear h; try simp -implicitDefEqProofs -proj only [go_sem,seval,eq_self,GV,GW,h3,h4,h6,hv,rowU_len,decide_eq_true (show (i : Int) < a.length by omega),decide_eq_false h2]))
        exact Kd hl2
      · simp -implicitDefEqProofs -proj only [go_sem,seval,GV,GW,h3,h4,h6,hv,rowU_len,decide_eq_false (show ¬ (i : Int) < a.length by omega)]
        (repeat' (with_reducible refine Ad ?_ (fun h => ?_); (focus first | decide | omega); clear h; try simp -implicitDefEqProofs -proj only [go_sem,seval,eq_self,GV,GW,h3,h4,h6,hv,rowU_len,decide_eq_false (show ¬ (i : Int) < a.length by omega)]))
        exact Kd hl2
structure LineSU (H : Heap) (b c : Nat) (R : List Run) (rest : List (Nat × Blk)) : Prop where
  at_ : LineAtU H b c R
  all : AU H rest
  ne : ∀ p ∈ rest,p.1 ≠ b ∧ (R ≠ [] → p.1 ≠ c)
theorem J0 {H : Heap} {b c : Nat} {R : List Run} {rest : List (Nat × Blk)} {r : Run} (h : LineSU H b c R rest) (hl : R.length ≤ 1000000) : CallW Tryz.prog RO [.ptr b 0,r.avU] H fun _ H' => ∃ c',LineSU H' b c' (Ax R r) rest :=
  (Me (r := r) h.at_ hl).mono fun _ H' ⟨c',h1,h2⟩ =>
    ⟨c',h1,E2.2 fun p hp => (h2 p.1 p.2 (h.ne p hp).1 (h.ne p hp).2 (E2.1 h.all p hp)).1,fun p hp => ⟨(h.ne p hp).1,fun _ => (h2 p.1 p.2 (h.ne p hp).1 (h.ne p hp).2 (E2.1 h.all p hp)).2⟩⟩
theorem LineSU.alloc {H : Heap} {b c k : Nat} {R : List Run} {rest : List (Nat × Blk)} {x : Blk} (h : LineSU H b c R rest) (hk : H k = none) : LineSU (upd H k (some x)) b c R ((k,x) :: rest) := by
  have hf := h.at_.fresh hk
  refine ⟨h.at_.upd hf.1 hf.2,Gg hk h.all,fun p hp => ?_⟩
  rcases List.mem_cons.1 hp with rfl | hp
  · exact hf
  · exact h.ne p hp
theorem LineSU.keep {b c cap : Nat} {R : List Run} {rest : List (Nat × Blk)} (hc : R ≠ [] → c ≠ b) (hn : ∀ p ∈ rest,p.1 ≠ b ∧ (R ≠ [] → p.1 ≠ c)) (hk : (Aa rest).Nodup) : LineSU (Ae (F5 b c cap R ++ rest)) b c R rest :=
  ⟨QY hc,E2.2 fun p hp => by rw [Mt (hn p hp).1 (hn p hp).2]; exact E2.1 (Eg hk) p hp,hn⟩
theorem LineSU.sub {H : Heap} {b c : Nat} {R : List Run} {rest rest' : List (Nat × Blk)} (h : LineSU H b c R rest) (hs : ∀ p ∈ rest',p ∈ rest) : LineSU H b c R rest' :=
  ⟨h.at_,Om h.all hs,fun p hp => h.ne p (hs p hp)⟩
set_option maxRecDepth 20000 in
theorem AHg {l : List Run} {lo hi v : Int} (hn : l.length ≤ 300000) (hlo : -1099511627776 ≤ lo ∧ lo ≤ 1099511627776) (hhi : -1099511627776 ≤ hi ∧ hi ≤ 1099511627776) (hb : ∀ r ∈ l,-1099511627776 ≤ r.f ∧ r.t ≤ 1099511627776 ∧ r.f ≤ r.t) :
    NewW Tryz.prog ANg [HW l,i64 lo,i64 hi,u64 v] (HW (Fo lo hi v l l.length)) := by
  refine AX AJT (by simp) ?_
  simp -implicitDefEqProofs -proj only [go_sem,seval]
  refine AK (fun b4 hb4 => ?_)
  simp -implicitDefEqProofs -proj only [go_sem,seval]
  refine AK (fun b8 hb8 => ?_)
  replace hb8 : upd Heap.none b4 _ b8 = none := hb8
  obtain ⟨n1,n2⟩ := AI hb8 AT
  simp -implicitDefEqProofs -proj only [go_sem,seval]
  refine AK (fun b9 hb9 => ?_)
  replace hb9 : upd (upd Heap.none b4 _) b8 _ b9 = none := hb9
  obtain ⟨n3,n4⟩ := AI hb9 AT
  obtain ⟨n5,n6⟩ := AI hb9 (by rw [AE n1]; exact AT)
  simp -implicitDefEqProofs -proj only [go_sem,seval,n1,n2,n3,n4,n5,n6,rowU_len]
  (repeat' (with_reducible refine Ad ?_ (fun h => ?_); (focus first | decide | omega); clear h; try simp -implicitDefEqProofs -proj only [go_sem,seval,n1,n2,n3,n4,n5,n6,rowU_len]))
  refine EJ (fun x : LoopX => x.i ≤ l.length ∧ x.l = Fo lo hi v l x.i ∧ (x.l ≠ [] → x.c ≠ b9 ∧ x.c ≠ b8)) 65 (fun x => [(15,GN l),(16,i64 l.length),(17,i64 x.i),(1,i64 lo),(2,i64 hi),(3,u64 v),(9,.ptr b9 0),(8,.ptr b8 0)]) (fun x => F5 b9 x.c x.cap x.l ++ [(b8,.box 65 [.nilsl 3])]) (fun x => l.length - x.i) ⟨0,0,0,[]⟩ ⟨Nat.zero_le _,rfl,fun h => absurd rfl h⟩ rfl ?_ ?_ ?_
  · simp -implicitDefEqProofs -proj only [go_sem,seval,AM,rowU_len]
  · simp -implicitDefEqProofs -proj only [go_sem,seval,AU,FH,F5,n1,n2,n3,n4,n5,n6]
  · rintro ⟨i,c,cap,R⟩ ⟨hi',hR,hc⟩
    simp -implicitDefEqProofs only [] at hi' hR hc
    have hS : LineSU (Ae (F5 b9 c cap R ++ [(b8,.box 65 [.nilsl 3])])) b9 c R [(b8,.box 65 [.nilsl 3])] :=
      LineSU.keep (fun h => (hc h).1) (fun p hp => by simp -implicitDefEqProofs only [List.mem_singleton] at hp; subst hp; exact ⟨n4,fun h e => (hc h).2 e.symm⟩) (by simp [Aa])
    generalize hH : Ae (F5 b9 c cap R ++ [(b8,.box 65 [.nilsl 3])]) = H at *
    have hlen := Ng (lo := lo) (hi := hi) (v := v) (l := l) i
    rw [← hR] at hlen
    by_cases h : i < l.length
    · have hel := MS h
      have hx : l[i]? = some l[i] := List.getElem?_eq_getElem h
      obtain ⟨q1,q2,q3⟩ := hb l[i] (List.getElem_mem h)
      generalize l[i] = x at *
      have hR' : GD lo hi v R x = Fo lo hi v l (i + 1) := by rw [Fo,hx,hR]
      have fin : ∀ (H' : Heap) (c' : Nat) (t : TM),LineSU H' b9 c' (GD lo hi v R x) [(b8,.box 65 [.nilsl 3])] → AM t [(15,GN l),(16,i64 l.length),(17,i64 ((i + 1 : Nat) : Int)),(1,i64 lo),(2,i64 hi),(3,u64 v),(9,.ptr b9 0),(8,.ptr b8 0)] →
          IF (fun x : LoopX => x.i ≤ l.length ∧ x.l = Fo lo hi v l x.i ∧ (x.l ≠ [] → x.c ≠ b9 ∧ x.c ≠ b8)) (fun x => (⟨65,Ev [(15,GN l),(16,i64 l.length),(17,i64 x.i),(1,i64 lo),(2,i64 hi),(3,u64 v),(9,.ptr b9 0),(8,.ptr b8 0)],Ae (F5 b9 x.c x.cap x.l ++ [(b8,.box 65 [.nilsl 3])])⟩ : St)) (fun x => l.length - x.i) ⟨i,c,cap,R⟩
            (Em Tryz.prog (BL [.cell 8 (some 1)] fun r' H' => NewV H' r' (HW (Fo lo hi v l l.length))) [.blk 0,.code ((ACode.ops RF).seq .ret)]) .normal ⟨65,t,H'⟩ := by
        intro H' c' t hS' hat
        obtain ⟨cap',ha,hc'⟩ := JX hS'.at_
        refine Ah ⟨i + 1,c',cap',GD lo hi v R x⟩ ⟨by show i + 1 ≤ l.length; omega,hR',fun h => ⟨hc' h,fun e => (hS'.ne _ (List.mem_singleton.2 rfl)).2 h e.symm⟩⟩ (by show l.length - (i + 1) < l.length - i; omega) rfl hat ?_
        rw [FH]
        exact ⟨ha,hS'.all⟩
      have hsucc := AQ (show i < 9223372036854775807 by omega)
      simp -implicitDefEqProofs -proj only [go_sem,seval,decide_eq_true (show (i : Int) < l.length by omega)]
      refine Ap _ (by omega) hel ?_
      simp -implicitDefEqProofs -proj only [go_sem,seval]
      refine AK (fun b11 hb11 => ?_)
      replace hb11 : H b11 = none := hb11
      have hS1 := hS.alloc (x := .box 73 [i64 x.f,i64 x.t,u64 x.v]) hb11
      obtain ⟨H1,hH1⟩ : ∃ H1,upd H b11 (some (.box 73 [i64 x.f,i64 x.t,u64 x.v])) = H1 := ⟨_,rfl⟩
      have e11 : H1 b11 = some (.box 73 [i64 x.f,i64 x.t,u64 x.v]) := by rw [← hH1]; exact AT
      rw [hH1] at hS1
      simp -implicitDefEqProofs -proj only [go_sem,seval,hH1,e11]
      have w1 : IntKind.i64.wrap (max x.f lo - 1) = max x.f lo - 1 := by rw [IntKind.wrap_i64]; omega
      have w2 : IntKind.i64.wrap (min x.t hi + 1) = min x.t hi + 1 := by rw [IntKind.wrap_i64]; omega
      by_cases hc1 : min x.t hi < max x.f lo
      · have ef : GD lo hi v R x = Ax R x := by unfold GD; exact if_pos hc1
        simp -implicitDefEqProofs -proj only [go_sem,seval,decide_eq_true hc1,e11]
        refine El (J0 (r := x) hS1 (by omega)) ?_
        rintro r2 H2 ⟨c2,hS2⟩
        have e2 : H2 b11 = some (.box 73 [i64 x.f,i64 x.t,u64 x.v]) := hS2.all.1
        simp -implicitDefEqProofs -proj only [go_sem,seval,hsucc]
        refine fin _ c2 _ ?_ ?_
        · rw [ef]; exact hS2.sub (fun p hp => List.mem_cons_of_mem _ hp)
        · simp -implicitDefEqProofs -proj only [go_sem,seval,AM]
      · by_cases hc2 : x.f < max x.f lo
        · simp -implicitDefEqProofs -proj only [go_sem,seval,decide_eq_false hc1,decide_eq_true hc2,e11,w1,w2]
          refine El (J0 (r := ⟨x.f,max x.f lo - 1,x.v⟩) hS1 (by omega)) ?_
          rintro r2 H2 ⟨c2,hS2⟩
          have e2 : H2 b11 = some (.box 73 [i64 x.f,i64 x.t,u64 x.v]) := hS2.all.1
          have k2 := @GI R ⟨x.f,max x.f lo - 1,x.v⟩
          simp -implicitDefEqProofs -proj only [go_sem,seval,e2,w1,w2]
          refine El (J0 (r := ⟨max x.f lo,min x.t hi,v⟩) hS2 (by omega)) ?_
          rintro r3 H3 ⟨c3,hS3⟩
          have e3 : H3 b11 = some (.box 73 [i64 x.f,i64 x.t,u64 x.v]) := hS3.all.1
          have k3 := @GI (Ax R ⟨x.f,max x.f lo - 1,x.v⟩) ⟨max x.f lo,min x.t hi,v⟩
          by_cases hc3 : min x.t hi < x.t
          · simp -implicitDefEqProofs -proj only [go_sem,seval,e3,w1,w2,decide_eq_true hc3]
            refine El (J0 (r := ⟨min x.t hi + 1,x.t,x.v⟩) hS3 (by omega)) ?_
            rintro r4 H4 ⟨c4,hS4⟩
            have e4 : H4 b11 = some (.box 73 [i64 x.f,i64 x.t,u64 x.v]) := hS4.all.1
            simp -implicitDefEqProofs -proj only [go_sem,seval,hsucc]
            refine fin _ c4 _ ?_ ?_
            · have ef : GD lo hi v R x = Ax (Ax (Ax R ⟨x.f,max x.f lo - 1,x.v⟩) ⟨max x.f lo,min x.t hi,v⟩) ⟨min x.t hi + 1,x.t,x.v⟩ := by unfold GD; simp -implicitDefEqProofs only []; rw [if_neg (by omega),if_pos hc2,if_pos hc3]
              rw [ef]; exact hS4.sub (fun p hp => List.mem_cons_of_mem _ hp)
            · simp -implicitDefEqProofs -proj only [go_sem,seval,AM]
          · simp -implicitDefEqProofs -proj only [go_sem,seval,e3,w1,w2,decide_eq_false hc3,hsucc]
            refine fin _ c3 _ ?_ ?_
            · have ef : GD lo hi v R x = (Ax (Ax R ⟨x.f,max x.f lo - 1,x.v⟩) ⟨max x.f lo,min x.t hi,v⟩) := by unfold GD; simp -implicitDefEqProofs only []; rw [if_neg (by omega),if_pos hc2,if_neg hc3]
              rw [ef]; exact hS3.sub (fun p hp => List.mem_cons_of_mem _ hp)
            · simp -implicitDefEqProofs -proj only [go_sem,seval,AM]
        · simp -implicitDefEqProofs -proj only [go_sem,seval,decide_eq_false hc1,decide_eq_false hc2,e11,w1,w2]
          refine El (J0 (r := ⟨max x.f lo,min x.t hi,v⟩) hS1 (by omega)) ?_
          rintro r3 H3 ⟨c3,hS3⟩
          have e3 : H3 b11 = some (.box 73 [i64 x.f,i64 x.t,u64 x.v]) := hS3.all.1
          have k3 := @GI R ⟨max x.f lo,min x.t hi,v⟩
          by_cases hc3 : min x.t hi < x.t
          · simp -implicitDefEqProofs -proj only [go_sem,seval,e3,w1,w2,decide_eq_true hc3]
            refine El (J0 (r := ⟨min x.t hi + 1,x.t,x.v⟩) hS3 (by omega)) ?_
            rintro r4 H4 ⟨c4,hS4⟩
            have e4 : H4 b11 = some (.box 73 [i64 x.f,i64 x.t,u64 x.v]) := hS4.all.1
            simp -implicitDefEqProofs -proj only [go_sem,seval,hsucc]
            refine fin _ c4 _ ?_ ?_
            · have ef : GD lo hi v R x = Ax (Ax R ⟨max x.f lo,min x.t hi,v⟩) ⟨min x.t hi + 1,x.t,x.v⟩ := by unfold GD; simp -implicitDefEqProofs only []; rw [if_neg (by omega),if_neg hc2,if_pos hc3]
              rw [ef]; exact hS4.sub (fun p hp => List.mem_cons_of_mem _ hp)
            · simp -implicitDefEqProofs -proj only [go_sem,seval,AM]
          · simp -implicitDefEqProofs -proj only [go_sem,seval,e3,w1,w2,decide_eq_false hc3,hsucc]
            refine fin _ c3 _ ?_ ?_
            · have ef : GD lo hi v R x = (Ax R ⟨max x.f lo,min x.t hi,v⟩) := by unfold GD; simp -implicitDefEqProofs only []; rw [if_neg (by omega),if_neg hc2,if_neg hc3]
              rw [ef]; exact hS3.sub (fun p hp => List.mem_cons_of_mem _ hp)
            · simp -implicitDefEqProofs -proj only [go_sem,seval,AM]
    · have hi'' : i = l.length := by omega
      subst hi''
      obtain ⟨v',hv,hl,_⟩ := hS.at_.read
      have h8 := hS.all.1
      simp -implicitDefEqProofs -proj only [go_sem,seval,decide_eq_false (show ¬ (l.length : Int) < l.length by omega),hv,h8]
      obtain ⟨v2,hv2,hl2,_⟩ := (hS.at_.upd (k := b8) (x := some (.box 65 [v'])) n4 (fun h e => (hc h).2 e.symm)).read
      rw [AE n4,hv] at hv2
      cases hv2
      rw [show Fo lo hi v l l.length = R from hR.symm]
      exact Kd hl2
theorem PP {lo hi v : Int} : NewW Tryz.prog AQz [i64 lo,i64 hi,u64 v] (HW (if hi < lo then [] else [⟨lo,hi,v⟩])) := by
  refine AX ANy (by simp) ?_
  simp -implicitDefEqProofs -proj only [go_sem,seval]
  refine AK (fun b6 hb6 => ?_)
  by_cases h : hi < lo
  · rw [if_pos h]
    simp -implicitDefEqProofs -proj only [go_sem,seval,decide_eq_true h]
    exact Kd (.nilsl _ _)
  · rw [if_neg h]
    simp -implicitDefEqProofs -proj only [go_sem,seval,decide_eq_false h]
    refine Ao (fun bs hs => ?_)
    replace hs : upd Heap.none b6 _ bs = none := hs
    obtain ⟨n1,n2⟩ := AI hs AT
    simp -implicitDefEqProofs -proj only [go_sem,seval,n1,n2]
    refine Kd (Qp (xs := FK [⟨lo,hi,v⟩]) (by rw [AE (by assumption),AT]; rfl) rfl Pc)
abbrev Ih (l : List Run) : List (List AV) := l.map fun r => [r.avU]
theorem Oc {l : List Run} {i : Nat} (h : i < l.length) : (FK l)[((i : Int)).toNat]? = some [.int .i64 l[i].f,.int .i64 l[i].t,.int .u64 l[i].v] := MS h
theorem Wk {b : Nat} {l : List Run} (hl : l.length ≤ 1000000) : IE Tryz.prog O8 [.ptr b 0] [(b,.box 63 [GN l])] (Ih l) := by
  intro y H J X hA hS hY h0
  refine AX AFU (by simp) ?_
  have hb : H b = some (.box 63 [GN l]) := (hA [] H h0).1
  simp -implicitDefEqProofs -proj only [go_sem,seval,hb,rowU_len]
  refine K1 (fun x : Nat × Heap => x.1 ≤ l.length ∧ J (Ih (l.take x.1)) x.2) (fun x => ⟨16,Ev [(0,.yld y),(5,GN l),(6,i64 l.length),(7,i64 x.1)],x.2⟩) (fun x => l.length - x.1) (0,H) ⟨Nat.zero_le _,h0⟩ (HO rfl ?_ (fun k => .inr rfl)) ?_
  · simp -implicitDefEqProofs -proj only [go_sem,seval,AM]
  rintro ⟨i,H1⟩ ⟨hi,hj⟩
  simp -implicitDefEqProofs only [] at hi hj
  by_cases h : i < l.length
  · have hel := Oc h
    have hxs : Ih l = Ih (l.take i) ++ [(l[i]).avU] :: Ih (l.drop (i + 1)) := by
      rw [← List.map_cons (f := fun r : Run => [r.avU]),← List.map_append,← List.drop_eq_getElem_cons h,List.take_append_drop]
    have htk : Ih (l.take i) ++ [[(l[i]).avU]] = Ih (l.take (i + 1)) := by simp -implicitDefEqProofs only [Ih]; rw [List.take_succ_eq_append_getElem h,List.map_append]; rfl
    generalize l[i] = r at *
    simp -implicitDefEqProofs -proj only [go_sem,seval,decide_eq_true (show (i : Int) < l.length by omega)]
    refine Ap _ (by omega) hel ?_
    simp -implicitDefEqProofs -proj only [go_sem,seval]
    refine AK (fun b4 hb4 => ?_)
    simp -implicitDefEqProofs -proj only [go_sem,seval]
    refine KX (hY _ _ _ _ hxs (hS _ _ b4 _ hj hb4)) ?_
    rintro v H2 (⟨rfl,hj2⟩ | ⟨rfl,hx⟩)
    · rw [htk] at hj2
      simp -implicitDefEqProofs -proj only [go_sem,seval]
      refine JW (i + 1,H2) ⟨by show i + 1 ≤ l.length; omega,hj2⟩ (by show l.length - (i + 1) < l.length - i; omega) (HO rfl ?_ (fun k => .inr rfl))
      simp -implicitDefEqProofs -proj only [go_sem,seval,AM,AQ (show i < 9223372036854775807 by omega)]
    · simp -implicitDefEqProofs -proj only [go_sem,seval]
      exact .inr hx
  · have hi' : i = l.length := by omega
    subst hi'
    rw [List.take_length] at hj
    simp -implicitDefEqProofs -proj only [go_sem,seval,decide_eq_false (show ¬ (l.length : Int) < l.length by omega)]
    exact .inl hj
theorem AIw {H : Heap} {l : List Run} : CallW Tryz.prog AJB [GN l] H fun r H' => ∃ b,r = .fn O8 [.ptr b 0] ∧ H b = none ∧ H' = upd H b (some (.box 63 [GN l])) := by
  refine AX Yn (by simp) ?_
  simp -implicitDefEqProofs -proj only [go_sem,seval]
  refine AK (fun b hb => ?_)
  simp -implicitDefEqProofs -proj only [go_sem,seval]
  exact ⟨b,rfl,hb,rfl⟩
theorem AJr {H : Heap} {l : List Run} : CallW Tryz.prog AKO [HW l] H fun r H' => ∃ b,r = .fn O8 [.ptr b 0] ∧ H b = none ∧ H' b = some (.box 63 [GN l]) ∧ ∀ k x,H k = some x → H' k = some x := by
  refine AX AKN (by simp) ?_
  simp -implicitDefEqProofs -proj only [go_sem,seval]
  refine AK (fun b1 hb1 => ?_)
  simp -implicitDefEqProofs -proj only [go_sem,seval]
  refine El AIw ?_
  rintro r H' ⟨b,rfl,hb,rfl⟩
  simp -implicitDefEqProofs -proj only [go_sem,seval]
  have hb' : upd H b1 (some (.box 65 [GN l])) b = none := hb
  have hne : ¬ b1 = b := fun e => by rw [AR,if_pos e] at hb'; cases hb'
  refine ⟨b,rfl,by rw [AE hne] at hb'; exact hb',by rw [if_pos rfl],fun k x hk => ?_⟩
  rw [AE hne] at hb'
  obtain ⟨n1,n2⟩ := AI hb1 hk
  obtain ⟨n3,n4⟩ := AI hb' hk
  simp -implicitDefEqProofs -proj only [go_sem,seval,n1,n3,hk]
def Lj : List Run → AV
  | [] => .tup [i64 0,i64 0,bv false]
  | r :: R => .tup [i64 r.f,i64 ((r :: R).getLast (by simp)).t,bv true]
theorem Wc {R : List Run} (hl : R.length ≤ 1000000) : DataW Tryz.prog TS [HW R] (Lj R) := by
  refine AX AS1 (by simp) ?_
  simp -implicitDefEqProofs -proj only [go_sem,seval]
  refine AK (fun b hb => ?_)
  by_cases h : R = []
  · subst h
    simp -implicitDefEqProofs -proj only [go_sem,seval,rowU_len]
    exact AH rfl
  · have hlen : 0 < R.length := List.length_pos_iff.2 h
    have hw : IntKind.i64.wrap ((R.length : Int) - 1) = ((R.length - 1 : Nat) : Int) := by rw [IntKind.wrap_i64]; omega
    have e0 := Oc (l := R) (i := 0) hlen
    have e1 := Oc (l := R) (i := R.length - 1) (by omega)
    simp -implicitDefEqProofs -proj only [go_sem,seval,rowU_len,decide_eq_false (show ¬ (R.length : Int) = 0 by omega),hw]
    refine Ap _ (by omega) e0 ?_
    simp -implicitDefEqProofs -proj only [go_sem,seval,rowU_len,hw]
    refine Ap _ (by omega) e1 ?_
    simp -implicitDefEqProofs -proj only [go_sem,seval]
    obtain ⟨r,R',rfl⟩ := List.exists_cons_of_ne_nil h
    refine AH ?_
    simp [Lj,List.getLast_eq_getElem]
theorem Lb {a : Nat} (h : a < 18446744073709551616) : (BitVec.ofInt 64 (a : Int)).toNat = a := by
  rw [BitVec.toNat_ofInt]
  have : (a : Int) % ((2 ^ 64 : Nat) : Int) = a := Int.emod_eq_of_lt (by omega) (by simp; omega)
  rw [this,Int.toNat_natCast]
theorem Li {a b : Nat} (ha : a < 18446744073709551616) (hb : b < 18446744073709551616) : Hs .u64 (a : Int) (b : Int) = ((a ||| b : Nat) : Int) := by
  have h : a ||| b < 2 ^ 64 := Nat.or_lt_two_pow (by simpa using ha) (by simpa using hb)
  rw [Hs,IntKind.wrap_u64,show IntKind.u64.bits = 64 from rfl,BitVec.toNat_or,Lb ha,Lb hb]
  have : a ||| b < 18446744073709551616 := by simpa using h
  omega
theorem APv {a b : Nat} (ha : a < 18446744073709551616) (hb : b < 18446744073709551616) : Hf .u64 (a : Int) (b : Int) = ((a &&& b : Nat) : Int) := by
  have h : a &&& b ≤ a := Nat.and_le_left
  rw [Hf,IntKind.wrap_u64,show IntKind.u64.bits = 64 from rfl,BitVec.toNat_and,Lb ha,Lb hb]
  omega
def G5 (i : Int) : Nat := if 0 ≤ i ∧ i < 8 then 2 ^ i.toNat else 0
def Hg (i : Int) : Nat := if 0 ≤ i ∧ i < 8 then 256 * 2 ^ i.toNat else 0
theorem QS {i : Int} : DataW Tryz.prog AH3 [i64 i,i64 8] (u64 (G5 i : Nat)) := by
  refine AX AMl (by simp) ?_
  by_cases g1 : i < 0
  · simp -implicitDefEqProofs -proj only [go_sem,seval,decide_eq_true g1]
    exact AH (by rw [G5,if_neg (by omega)]; rfl)
  by_cases g2 : 8 ≤ i
  · simp -implicitDefEqProofs -proj only [go_sem,seval,decide_eq_false g1,decide_eq_true g2]
    exact AH (by rw [G5,if_neg (by omega)]; rfl)
  simp -implicitDefEqProofs -proj only [go_sem,seval,decide_eq_false g1,decide_eq_false g2]
  (repeat' (with_reducible refine Ad ?_ (fun h => ?_); (focus first | decide | omega); clear h; try simp -implicitDefEqProofs -proj only [go_sem,seval,eq_self]))
  refine AH ?_
  obtain h | h | h | h | h | h | h | h : i = 0 ∨ i = 1 ∨ i = 2 ∨ i = 3 ∨ i = 4 ∨ i = 5 ∨ i = 6 ∨ i = 7 := by omega
  all_goals subst h; rfl
theorem RN {i : Int} : DataW Tryz.prog Uj [i64 i] (u64 (G5 i : Nat)) := by
  refine AX Sr (by simp) ?_
  simp -implicitDefEqProofs -proj only [go_sem,seval]
  refine AJ QS ?_
  simp -implicitDefEqProofs -proj only [go_sem,seval]
  exact AH rfl
theorem PQ {i : Int} : DataW Tryz.prog AAz [i64 i] (u64 (Hg i : Nat)) := by
  refine AX AFR (by simp) ?_
  simp -implicitDefEqProofs -proj only [go_sem,seval]
  refine AJ QS ?_
  simp -implicitDefEqProofs -proj only [go_sem,seval]
  (repeat' (with_reducible refine Ad ?_ (fun h => ?_); (focus first | decide | omega); clear h; try simp -implicitDefEqProofs -proj only [go_sem,seval,eq_self]))
  refine AH ?_
  unfold G5 Hg
  by_cases h8 : 0 ≤ i ∧ i < 8
  · rw [if_pos h8,if_pos h8]
    obtain h | h | h | h | h | h | h | h : i = 0 ∨ i = 1 ∨ i = 2 ∨ i = 3 ∨ i = 4 ∨ i = 5 ∨ i = 6 ∨ i = 7 := by omega
    all_goals subst h; rfl
  · rw [if_neg h8,if_neg h8]
    rfl
theorem Pt {a b : Int} : DataW Tryz.prog AHr [u64 a,u64 b] (bv (decide (Hf .u64 a b = b))) := by
  refine AX AMb (by simp) ?_
  simp -implicitDefEqProofs -proj only [go_sem,seval]
  exact AH rfl
theorem AL2 (u v : Int) : DataW Tryz.prog AB4 [u64 u,u64 v] (u64 (Hs .u64 u v)) := by
  refine AX T0 (by simp) ?_
  simp -implicitDefEqProofs -proj only [go_sem,seval]
  exact AH rfl
theorem FwdOK.len {val : Int → Int} {hi : Int} : ∀ {R : List Run} {lo : Int},FwdOK val lo hi R → (R.length : Int) ≤ hi - lo
  | [],lo,h => by have : lo = hi := h; simp; omega
  | r :: R,lo,⟨g1,g2,g3,g4,g5⟩ => by
    have := g5.len
    simp -implicitDefEqProofs only [List.length_cons]
    omega
theorem FwdOK.ne {val : Int → Int} {hi : Int} {R : List Run} {lo : Int} (h : FwdOK val lo hi R) (hl : lo < hi) : R ≠ [] := by
  rintro rfl
  have : lo = hi := h
  omega
theorem Vs {val : Int → Int} {hi : Int} {R : List Run} {lo : Int} (h : FwdOK val lo (hi + 1) R) (hl : lo ≤ hi) : Lj R = .tup [i64 lo,i64 hi,bv true] := by
  have hne := h.ne (by omega)
  obtain ⟨e1,e2⟩ := FwdOK.ends hne h
  match R,hne,e1,e2 with
  | r :: R,_,e1,e2 =>
    rw [Lj]
    rw [show r.f = lo from e1,e2,show hi + 1 - 1 = hi by omega]
theorem Pm {v lo hi : Int} (h : lo ≤ hi) : FwdOK (fun _ => v) lo (hi + 1) [⟨lo,hi,v⟩] :=
  ⟨rfl,h,fun _ _ _ => rfl,fun s h => (by cases h),rfl⟩
def LE (val : Int → Int) (a b more : Int) : Int → Int := fun x => Hs .u64 (val x) (if a ≤ x ∧ x ≤ b then more else 0)
theorem Rm {val : Int → Int} {f h a b more : Int} {R : List Run} (hR : FwdOK val f (h + 1) R) (hfh : f ≤ h) (hf : -1099511627776 ≤ f) (hh : h ≤ 1099511627776) (hn : h - f ≤ 100000) (ha : -1099511627776 ≤ a ∧ a ≤ 1099511627776) (hb : -1099511627776 ≤ b ∧ b ≤ 1099511627776) :
    ∃ R',DataW Tryz.prog AEg [HW R,i64 a,i64 b,u64 more] (HW R') ∧ FwdOK (LE val a b more) f (h + 1) R' := by
  have hl := hR.len
  have hfl := Pm (v := 0) hfh
  have hfill := P4 hfl (lo := a) (hi := b) (v := more) 1 (by simp)
  rw [N6 (by simp)] at hfill
  have hz := RB hR hfill (Hs .u64) (R.length + (Fo a b more [⟨f,h,0⟩] 1).length) 0 0 [] (by omega) (by rw [Ig hR,Ig hfill]; rfl) (by rw [Ig hR,Ig hfill]; exact .inl rfl)
  rw [show max f f = f by omega,show max f (min (h + 1) (h + 1)) = h + 1 by omega] at hz
  have hsp := Wc (R := R) (by omega)
  rw [Vs hR hfh] at hsp
  have hflat := (PP (lo := f) (hi := h) (v := 0)).data
  rw [if_neg (by omega)] at hflat
  have hfi := (AHg (l := [⟨f,h,0⟩]) (lo := a) (hi := b) (v := more) (by simp) ha hb (fun r hr => by rw [List.mem_singleton] at hr; subst hr; exact ⟨hf,hh,hfh⟩)).data
  have hfln := Ng (lo := a) (hi := b) (v := more) (l := [⟨f,h,0⟩]) 1
  have hzip := (Wt (a := R) (b := Fo a b more [⟨f,h,0⟩] 1) (g := Hs .u64) AL2 (by omega) (by omega)).data
  refine ⟨_,?_,hz⟩
  generalize Eo (Hs .u64) R (Fo a b more [⟨f,h,0⟩] 1) (R.length + (Fo a b more [⟨f,h,0⟩] 1).length) 0 0 [] = Z at *
  rw [show ([⟨f,h,0⟩] : List Run).length = 1 from rfl] at hfi
  generalize Fo a b more [⟨f,h,0⟩] 1 = F at *
  refine AX YS (by simp) ?_
  simp -implicitDefEqProofs -proj only [go_sem,seval]
  refine AK (fun b4 hb4 => ?_)
  simp -implicitDefEqProofs -proj only [go_sem,seval]
  refine AK (fun b8 hb8 => ?_)
  replace hb8 : upd Heap.none b4 _ b8 = none := hb8
  obtain ⟨n1,n2⟩ := AI hb8 AT
  simp -implicitDefEqProofs -proj only [go_sem,seval,n1,n2]
  refine AJ hsp ?_
  simp -implicitDefEqProofs -proj only [go_sem,seval]
  refine AJ hflat ?_
  simp -implicitDefEqProofs -proj only [go_sem,seval]
  refine AJ hfi ?_
  simp -implicitDefEqProofs -proj only [go_sem,seval]
  refine AK (fun b12 hb12 => ?_)
  replace hb12 : upd (upd Heap.none b4 _) b8 _ b12 = none := hb12
  obtain ⟨n3,n4⟩ := AI hb12 AT
  obtain ⟨n5,n6⟩ := AI hb12 (by rw [AE n1]; exact AT)
  simp -implicitDefEqProofs -proj only [go_sem,seval,n1,n2,n3,n4,n5,n6]
  refine AJ hzip ?_
  simp -implicitDefEqProofs -proj only [go_sem,seval,n1,n2,n3,n4,n5,n6]
  exact AH rfl
def G7 (ss : List SumX) (d : Int) : Nat → Nat
  | 0 => 0
  | i + 1 => G7 ss d i ||| (match ss[i]? with | some s => if s.f ≤ d ∧ d ≤ s.t then 2 ^ i else 0 | none => 0)
def HM (ss : List SumX) (ps : List PartX) (d : Int) : Nat → Nat
  | 0 => G7 ss d ss.length
  | i + 1 => HM ss ps d i ||| (match ps[i]? with | some s => if s.f ≤ d ∧ d ≤ s.t then 256 * 2 ^ i else 0 | none => 0)
def Fd (c : CoreX) (d : Int) : Nat := HM c.ss c.ps d c.ps.length
theorem Nu {ss : List SumX} {d : Int} : ∀ i : Nat,G7 ss d i < 2 ^ i
  | 0 => by simp [G7]
  | i + 1 => by
    have h := Nu (ss := ss) (d := d) i
    have hp : 2 ^ i < 2 ^ (i + 1) := Nat.pow_lt_pow_right (by omega) (by omega)
    rw [G7]
    refine Nat.or_lt_two_pow (by omega) ?_
    split
    · split <;> omega
    · omega
theorem Ns {ss : List SumX} {ps : List PartX} {d : Int} (h8 : ss.length ≤ 8) : ∀ i : Nat,HM ss ps d i < 2 ^ (8 + i)
  | 0 => by
    have h := Nu (ss := ss) (d := d) ss.length
    have : 2 ^ ss.length ≤ 2 ^ 8 := Nat.pow_le_pow_right (by omega) h8
    rw [HM]
    show _ < 2 ^ 8
    omega
  | i + 1 => by
    have h := Ns (ps := ps) (d := d) h8 i
    have hp : 2 ^ (8 + i) < 2 ^ (8 + i + 1) := Nat.pow_lt_pow_right (by omega) (by omega)
    have he : 256 * 2 ^ i = 2 ^ (8 + i) := by rw [Nat.pow_add]
    rw [HM]
    refine Nat.or_lt_two_pow (by show _ < 2 ^ (8 + i + 1); omega) ?_
    show _ < 2 ^ (8 + i + 1)
    split
    · split
      · rw [he]; exact hp
      · exact Nat.two_pow_pos _
    · exact Nat.two_pow_pos _
theorem Qc {i : Nat} (h : i ≤ 8) : 2 ^ i ≤ 256 := Nat.pow_le_pow_right (n := 2) (by omega) h
theorem Sy {i : Nat} (h : i ≤ 8) : 2 ^ (8 + i) ≤ 65536 := Nat.pow_le_pow_right (show 0 < 2 by omega) (show 8 + i ≤ 16 by omega)
theorem AK4 {i : Nat} (h : i < 8) : G5 (i : Int) = 2 ^ i := by unfold G5; rw [if_pos (by omega),Int.toNat_natCast]
theorem AAi {i : Nat} (h : i < 8) : Hg (i : Int) = 256 * 2 ^ i := by unfold Hg; rw [if_pos (by omega),Int.toNat_natCast]
theorem ANm {ss : List SumX} {i : Nat} (h : i < ss.length) (h8 : ss.length ≤ 8) : (fun d => ((G7 ss d (i + 1) : Nat) : Int)) = LE (fun d => ((G7 ss d i : Nat) : Int)) ss[i].f ss[i].t ((G5 (i : Int) : Nat) : Int) := by
  funext d
  have h1 := Nu (ss := ss) (d := d) i
  have h2 := Qc (i := i) (by omega)
  rw [LE,G7,List.getElem?_eq_getElem h,AK4 (by omega)]
  simp -implicitDefEqProofs only []
  by_cases hd : ss[i].f ≤ d ∧ d ≤ ss[i].t
  · rw [if_pos hd,if_pos hd,Li (by omega) (by omega)]
  · rw [if_neg hd,if_neg hd,show (0 : Int) = ((0 : Nat) : Int) from rfl,Li (by omega) (by omega)]
theorem AC6 {ss : List SumX} {ps : List PartX} {i : Nat} (h : i < ps.length) (h8 : ss.length ≤ 8) (h9 : ps.length ≤ 8) : (fun d => ((HM ss ps d (i + 1) : Nat) : Int)) = LE (fun d => ((HM ss ps d i : Nat) : Int)) ps[i].f ps[i].t ((Hg (i : Int) : Nat) : Int) := by
  funext d
  have h1 := Ns (ps := ps) (d := d) h8 i
  have h2 := Sy (i := i) (by omega)
  have h3 := Qc (i := i) (by omega)
  rw [LE,HM,List.getElem?_eq_getElem h,AAi (by omega)]
  simp -implicitDefEqProofs only []
  by_cases hd : ps[i].f ≤ d ∧ d ≤ ps[i].t
  · rw [if_pos hd,if_pos hd,Li (by omega) (by omega)]
  · rw [if_neg hd,if_neg hd,show (0 : Int) = ((0 : Nat) : Int) from rfl,Li (by omega) (by omega)]
def KU (c : CoreX) : List Int := (List.range (c.t + 1 - c.f).toNat).map fun (i : Nat) => ((Fd c (c.f + i) : Nat) : Int)
def Ix (c : CoreX) : List Run := A9 c.f (KU c)
theorem Oz {c : CoreX} : (KU c).length = (c.t + 1 - c.f).toNat := by simp [KU]
theorem ABG {c : CoreX} {R : List Run} (h : FwdOK (fun d => ((Fd c d : Nat) : Int)) c.f (c.t + 1) R) (hft : c.f ≤ c.t) : R = Ix c := by
  refine NY (val := fun d => ((Fd c d : Nat) : Int)) ?_ fun i hi => ?_
  · rw [Oz,show c.f + (((c.t + 1 - c.f).toNat : Nat) : Int) = c.t + 1 by omega]
    exact h
  · simp [KU]
structure HX where
  i : Nat
  R : List Run
theorem HY {i : Nat} {R : List Run} : (HX.mk i R).i = i := (rfl)
theorem Hu {i : Nat} {R : List Run} : (HX.mk i R).R = R := (rfl)
def Ic (b1 b2 b3 : Nat) (c : CoreX) (R : List Run) : List (Nat × Blk) := [(b3,.box 65 [GN R]),(b2,.box 65 [.nilsl 3]),(b1,FU c)]
set_option maxRecDepth 20000 in
theorem AG1 {c : CoreX} (hc : c.Fit) (hg : goodC c) : DataW Tryz.prog AMD [HV c] (HW (Ix c)) := by
  have hgood := Px hc
  rw [decide_eq_true hg] at hgood
  obtain ⟨⟨a1,a2⟩,⟨a3,a4⟩,a5,a6,a7,a8⟩ := hg.hd
  have hss := hg.ss
  have hps := hg.ps
  have heq := @ABG c
  generalize Ix c = Z at *
  obtain ⟨cur,f,t,ms,ss,ps⟩ := c
  simp -implicitDefEqProofs only [] at a1 a2 a3 a4 a5 a6 a7 a8 hss hps heq
  unfold Fd at heq
  simp -implicitDefEqProofs only [] at heq
  have hflat := (PP (lo := f) (hi := t) (v := 0)).data
  rw [if_neg (by omega)] at hflat
  have hfl : FwdOK (fun d => ((G7 ss d 0 : Nat) : Int)) f (t + 1) [⟨f,t,0⟩] := Pm a3
  refine AX ABU (by simp) ?_
  simp -implicitDefEqProofs -proj only [go_sem,seval]
  refine AK (fun b1 hb1 => ?_)
  simp -implicitDefEqProofs -proj only [go_sem,seval]
  refine AK (fun b2 hb2 => ?_)
  replace hb2 : upd Heap.none b1 _ b2 = none := hb2
  obtain ⟨n1,n2⟩ := AI hb2 AT
  simp -implicitDefEqProofs -proj only [go_sem,seval,n1,n2]
  refine AJ hgood ?_
  simp -implicitDefEqProofs -proj only [go_sem,seval,n1,n2]
  refine AJ hflat ?_
  simp -implicitDefEqProofs -proj only [go_sem,seval,n1,n2]
  refine AK (fun b3 hb3 => ?_)
  replace hb3 : upd (upd Heap.none b1 _) b2 _ b3 = none := hb3
  obtain ⟨n3,n4⟩ := AI hb3 AT
  obtain ⟨n5,n6⟩ := AI hb3 (by rw [AE n1]; exact AT)
  simp -implicitDefEqProofs -proj only [go_sem,seval,n1,n2,n3,n4,n5,n6,Fc]
  have hnd : ∀ R,(Aa (Ic b1 b2 b3 ⟨cur,f,t,ms,ss,ps⟩ R)).Nodup := fun R => by simp [Aa,Ic,n1,n3,n5]
  refine EJ (fun y : HX => y.i ≤ ss.length ∧ FwdOK (fun d => ((G7 ss d y.i : Nat) : Int)) f (t + 1) y.R) 52 (fun y => [(1,.ptr b1 0),(2,.ptr b2 0),(3,.ptr b3 0),(18,.d (.sl 3 (Er ss))),(19,i64 ss.length),(20,i64 y.i)]) (fun y => Ic b1 b2 b3 ⟨cur,f,t,ms,ss,ps⟩ y.R) (fun y => ss.length - y.i) ⟨0,[⟨f,t,0⟩]⟩ ⟨Nat.zero_le _,hfl⟩ rfl ?_ ?_ ?_
  · simp -implicitDefEqProofs -proj only [go_sem,seval,AM,HY]
  · simp -implicitDefEqProofs -proj only [go_sem,seval,AU,Ic,Hu,n1,n2,n3,n4,n5,n6]
  · rintro ⟨i,R⟩ ⟨hi,hR⟩
    simp -implicitDefEqProofs only [HY,Hu] at hi hR
    have hall := Eg (hnd R)
    obtain ⟨H,hH⟩ : ∃ H,Ae (Ic b1 b2 b3 ⟨cur,f,t,ms,ss,ps⟩ R) = H := ⟨_,rfl⟩
    rw [hH] at hall
    obtain ⟨k3,k2,k1,_⟩ := id hall
    by_cases h : i < ss.length
    · have hel := KT h
      have hso := hss _ (List.getElem_mem h)
      obtain ⟨R',hw,hR'⟩ := Rm (a := ss[i].f) (b := ss[i].t) (more := ((G5 (i : Int) : Nat) : Int)) hR a3 (by omega) (by omega) (by omega) (by obtain ⟨_,q1,q2,q3⟩ := hso; omega) (by obtain ⟨_,q1,q2,q3⟩ := hso; omega)
      rw [← ANm h a7] at hR'
      generalize ss[i] = s at *
      simp -implicitDefEqProofs -proj only [go_sem,seval,HY,Hu,hH,decide_eq_true (show (i : Int) < ss.length by omega)]
      refine Ap _ (by omega) hel ?_
      simp -implicitDefEqProofs -proj only [go_sem,seval]
      refine AK (fun b5 hb5 => ?_)
      replace hb5 : H b5 = none := hb5
      obtain ⟨m1,m2⟩ := AI hb5 k3; obtain ⟨m3,m4⟩ := AI hb5 k2; obtain ⟨m5,m6⟩ := AI hb5 k1
      simp -implicitDefEqProofs -proj only [go_sem,seval,m1,m2,k3]
      refine Ec RN ?_
      simp -implicitDefEqProofs -proj only [go_sem,seval,m1,m2,k3]
      refine AJ hw ?_
      simp -implicitDefEqProofs -proj only [go_sem,seval,m1,m2,k3]
      refine Ah ⟨i + 1,R'⟩ ⟨by rw [HY]; omega,hR'⟩ (by show ss.length - (i + 1) < ss.length - i; omega) rfl ?_ ?_
      · simp -implicitDefEqProofs -proj only [go_sem,seval,AM,HY,Hu,AQ (show i < 9223372036854775807 by omega)]
      · simp -implicitDefEqProofs -proj only [go_sem,seval,AU,Ic,Hu,m1,m2,m3,m4,m5,m6,k1,k2,n1,n2,n3,n4,n5,n6]
    · have hi' : i = ss.length := by omega
      subst hi'
      have hR0 : FwdOK (fun d => ((HM ss ps d 0 : Nat) : Int)) f (t + 1) R := hR
      simp -implicitDefEqProofs -proj only [go_sem,seval,HY,Hu,hH,k1,FN,decide_eq_false (show ¬ (ss.length : Int) < ss.length by omega)]
      refine EJ (fun y : HX => y.i ≤ ps.length ∧ FwdOK (fun d => ((HM ss ps d y.i : Nat) : Int)) f (t + 1) y.R) 52 (fun y => [(1,.ptr b1 0),(2,.ptr b2 0),(3,.ptr b3 0),(35,.d (.sl 9 (EV ps))),(36,i64 ps.length),(37,i64 y.i)]) (fun y => Ic b1 b2 b3 ⟨cur,f,t,ms,ss,ps⟩ y.R) (fun y => ps.length - y.i) ⟨0,R⟩ ⟨Nat.zero_le _,hR0⟩ rfl ?_ ?_ ?_
      · simp -implicitDefEqProofs -proj only [go_sem,seval,AM,HY]
      · exact hall
      · rintro ⟨i,R⟩ ⟨hi,hR⟩
        simp -implicitDefEqProofs only [HY,Hu] at hi hR
        have hall := Eg (hnd R)
        obtain ⟨H,hH⟩ : ∃ H,Ae (Ic b1 b2 b3 ⟨cur,f,t,ms,ss,ps⟩ R) = H := ⟨_,rfl⟩
        rw [hH] at hall
        obtain ⟨k3,k2,k1,_⟩ := id hall
        by_cases h : i < ps.length
        · have hel := Iw h
          have hso := (hps _ (List.getElem_mem h)).1.2.2.1
          obtain ⟨R',hw,hR'⟩ := Rm (a := ps[i].f) (b := ps[i].t) (more := ((Hg (i : Int) : Nat) : Int)) hR a3 (by omega) (by omega) (by omega) (by omega) (by omega)
          rw [← AC6 h a7 a8] at hR'
          generalize ps[i] = s at *
          simp -implicitDefEqProofs -proj only [go_sem,seval,HY,Hu,hH,decide_eq_true (show (i : Int) < ps.length by omega)]
          refine Ap _ (by omega) hel ?_
          simp -implicitDefEqProofs -proj only [go_sem,seval]
          refine AK (fun b5 hb5 => ?_)
          replace hb5 : H b5 = none := hb5
          obtain ⟨m1,m2⟩ := AI hb5 k3; obtain ⟨m3,m4⟩ := AI hb5 k2; obtain ⟨m5,m6⟩ := AI hb5 k1
          simp -implicitDefEqProofs -proj only [go_sem,seval,m1,m2,k3]
          refine Ec PQ ?_
          simp -implicitDefEqProofs -proj only [go_sem,seval,m1,m2,k3]
          refine AJ hw ?_
          simp -implicitDefEqProofs -proj only [go_sem,seval,m1,m2,k3]
          refine Ah ⟨i + 1,R'⟩ ⟨by rw [HY]; omega,hR'⟩ (by show ps.length - (i + 1) < ps.length - i; omega) rfl ?_ ?_
          · simp -implicitDefEqProofs -proj only [go_sem,seval,AM,HY,Hu,AQ (show i < 9223372036854775807 by omega)]
          · simp -implicitDefEqProofs -proj only [go_sem,seval,AU,Ic,Hu,m1,m2,m3,m4,m5,m6,k1,k2,n1,n2,n3,n4,n5,n6]
        · have hi' : i = ps.length := by omega
          subst hi'
          have hz := heq hR a3
          subst hz
          simp -implicitDefEqProofs -proj only [go_sem,seval,HY,Hu,hH,k1,k2,k3,n1,n2,n3,n4,n5,n6,decide_eq_false (show ¬ (ps.length : Int) < ps.length by omega)]
          exact AH rfl
theorem LY {c : CoreX} (hft : c.f ≤ c.t) : FwdOK (fun d => ((Fd c d : Nat) : Int)) c.f (c.t + 1) (Ix c) := by
  have h := IM c.f (KU c)
  rw [Oz,show c.f + (((c.t + 1 - c.f).toNat : Nat) : Int) = c.t + 1 by omega] at h
  refine h.congr fun x h1 h2 => ?_
  unfold Ie
  rw [List.getD_eq_getElem?_getD,List.getElem?_eq_getElem (by rw [Oz]; omega)]
  simp -implicitDefEqProofs only [KU,List.getElem_map,List.getElem_range,Option.getD_some]
  rw [show c.f + (((x - c.f).toNat : Nat) : Int) = x by omega]
theorem LM {c : CoreX} {d : Int} {m : Nat} {mx : Int} : (He c d m mx).length = (mx + 1).toNat := by simp [He]
theorem ACi {c : CoreX} {d : Int} {m : Nat} {mx : Int} {q : Nat} (h : q < (mx + 1).toNat) : (He c d m mx)[q]'(by rw [LM]; exact h) = HE c d m q := by simp [He]
theorem dayLs_len {c : CoreX} {d : Int} {k : Nat} : (E9 c d k).length = k := by simp [E9]
theorem Nn {c : CoreX} {d : Int} {k m : Nat} (h : m < k) (hm : m < c.ms.length) : (E9 c d k)[m]'(by rw [dayLs_len]; exact h) = He c d m c.ms[m].mx := by
  simp [E9,hm]
theorem Zs {c : CoreX} (h : fitsC c) (d : Int) {m : Nat} (hm : m < c.ms.length) : EI (He c d m c.ms[m].mx) := by
  have hb := (fitsC.bnd h.good).mx m hm
  refine ⟨fun e => ?_,by rw [LM]; omega,fun v hv => ?_⟩
  · have := congrArg List.length e
    rw [LM] at this
    simp at this
    omega
  · obtain ⟨q,hq,rfl⟩ := List.mem_map.1 hv
    have hq := List.mem_range.1 hq
    have := N4 h d hm (q := q) (by omega) (by omega) (Nat.le_refl c.ps.length)
    unfold E6 HE
    omega
theorem Lv {c : CoreX} (h : fitsC c) (d : Int) : ∀ l ∈ E9 c d c.ms.length,EI l := by
  intro l hl
  obtain ⟨i,hi,rfl⟩ := List.getElem_of_mem hl
  rw [dayLs_len] at hi
  rw [Nn hi hi]
  exact Zs h d hi
theorem Lw {i k : Nat} : (2 ^ i).testBit k = decide (k = i) := by
  rw [Nat.testBit_two_pow]
  exact decide_eq_decide.2 eq_comm
theorem ADs {i k : Nat} : (256 * 2 ^ i).testBit k = decide (k = 8 + i) := by
  rw [show 256 * 2 ^ i = 2 ^ (8 + i) by rw [Nat.pow_add],Lw]
theorem Ot {ss : List SumX} {d : Int} {k : Nat} : ∀ {i : Nat},i ≤ ss.length → ((G7 ss d i).testBit k = true ↔ k < i ∧ ∃ s,ss[k]? = some s ∧ ER d s.f s.t)
  | 0,_ => by simp [G7]
  | i + 1,h => by
    have ih := Ot (ss := ss) (d := d) (k := k) (i := i) (by omega)
    rw [G7,Nat.testBit_or,Bool.or_eq_true,ih,List.getElem?_eq_getElem (show i < ss.length by omega)]
    simp -implicitDefEqProofs only []
    by_cases hd : ss[i].f ≤ d ∧ d ≤ ss[i].t
    · rw [if_pos hd,Lw,decide_eq_true_eq]
      constructor
      · rintro (⟨h1,h2⟩ | rfl)
        · exact ⟨by omega,h2⟩
        · exact ⟨by omega,_,List.getElem?_eq_getElem (by omega),hd⟩
      · rintro ⟨h1,h2⟩
        by_cases hk : k = i
        · exact .inr hk
        · exact .inl ⟨by omega,h2⟩
    · rw [if_neg hd]
      simp -implicitDefEqProofs only [Nat.zero_testBit,Bool.false_eq_true,or_false]
      constructor
      · rintro ⟨h1,h2⟩; exact ⟨by omega,h2⟩
      · rintro ⟨h1,s,h2,h3⟩
        refine ⟨?_,s,h2,h3⟩
        by_cases hk : k = i
        · subst hk
          rw [List.getElem?_eq_getElem (by omega)] at h2
          rw [← Option.some.inj h2] at h3
          exact absurd h3 hd
        · omega
theorem OW {ss : List SumX} {ps : List PartX} {d : Int} {k : Nat} : ∀ {i : Nat},i ≤ ps.length → ((HM ss ps d i).testBit k = true ↔ (G7 ss d ss.length).testBit k = true ∨ 8 ≤ k ∧ k < 8 + i ∧ ∃ s,ps[k - 8]? = some s ∧ ER d s.f s.t)
  | 0,_ => by
    rw [HM]
    exact ⟨.inl,fun h => h.elim id (fun k => absurd k.2.1 (by omega))⟩
  | i + 1,h => by
    have ih := OW (ss := ss) (ps := ps) (d := d) (k := k) (i := i) (by omega)
    rw [HM,Nat.testBit_or,Bool.or_eq_true,ih,List.getElem?_eq_getElem (show i < ps.length by omega)]
    simp -implicitDefEqProofs only []
    by_cases hd : ps[i].f ≤ d ∧ d ≤ ps[i].t
    · rw [if_pos hd,ADs,decide_eq_true_eq]
      constructor
      · rintro ((h1 | ⟨h1,h2,h3⟩) | rfl)
        · exact .inl h1
        · exact .inr ⟨h1,by omega,h3⟩
        · exact .inr ⟨by omega,by omega,_,by rw [show 8 + i - 8 = i by omega]; exact List.getElem?_eq_getElem (by omega),hd⟩
      · rintro (h1 | ⟨h1,h2,h3⟩)
        · exact .inl (.inl h1)
        · by_cases hk : k = 8 + i
          · exact .inr hk
          · exact .inl (.inr ⟨h1,by omega,h3⟩)
    · rw [if_neg hd]
      simp -implicitDefEqProofs only [Nat.zero_testBit,Bool.false_eq_true,or_false]
      constructor
      · rintro (h1 | ⟨h1,h2,h3⟩)
        · exact .inl h1
        · exact .inr ⟨h1,by omega,h3⟩
      · rintro (h1 | ⟨h1,h2,s,h3,h4⟩)
        · exact .inl h1
        · refine .inr ⟨h1,?_,s,h3,h4⟩
          by_cases hk : k = 8 + i
          · subst hk
            rw [show 8 + i - 8 = i by omega,List.getElem?_eq_getElem (by omega)] at h3
            rw [← Option.some.inj h3] at h4
            exact absurd h4 hd
          · omega
theorem O1 {c : CoreX} {d : Int} {j : Nat} (h8 : c.ss.length ≤ 8) (hj : j < c.ss.length) : ((Fd c d).testBit j = true ↔ ER d c.ss[j].f c.ss[j].t) := by
  unfold Fd
  rw [OW (Nat.le_refl _),Ot (Nat.le_refl _)]
  constructor
  · rintro (⟨_,s,h2,h3⟩ | ⟨h1,_⟩)
    · rw [List.getElem?_eq_getElem hj] at h2
      cases h2
      exact h3
    · omega
  · intro h
    exact .inl ⟨hj,_,List.getElem?_eq_getElem hj,h⟩
theorem NU {c : CoreX} {d : Int} {j : Nat} (h8 : c.ss.length ≤ 8) (hj : j < c.ps.length) : ((Fd c d).testBit (8 + j) = true ↔ ER d c.ps[j].f c.ps[j].t) := by
  unfold Fd
  rw [OW (Nat.le_refl _),Ot (Nat.le_refl _),show 8 + j - 8 = j by omega,List.getElem?_eq_getElem hj]
  constructor
  · rintro (⟨h1,_⟩ | ⟨_,_,s,h2,h3⟩)
    · omega
    · cases h2; exact h3
  · intro h
    exact .inr ⟨by omega,by omega,_,rfl,h⟩
theorem ADD {c : CoreX} {d e : Int} (h8 : c.ss.length ≤ 8) (h : Fd c d = Fd c e) : FE c d = FE c e := by
  have h1 : ∀ (j : Nat) (hj : j < c.ss.length),ER d c.ss[j].f c.ss[j].t ↔ ER e c.ss[j].f c.ss[j].t := fun j hj => by rw [← O1 h8 hj,← O1 h8 hj,h]
  have h2 : ∀ (j : Nat) (hj : j < c.ps.length),ER d c.ps[j].f c.ps[j].t ↔ ER e c.ps[j].f c.ps[j].t := fun j hj => by rw [← NU h8 hj,← NU h8 hj,h]
  have e1 : Iz c d = Iz c e := IR fun j hj => by
    unfold Ff
    rw [List.getElem?_eq_getElem hj]
    simp -implicitDefEqProofs only [h1 j hj]
  have e2 : ∀ m,Js c d m = Js c e m := fun m => IR fun j hj => by
    unfold KM
    rw [List.getElem?_eq_getElem hj]
    simp -implicitDefEqProofs only [h2 j hj]
  have e3 : ∀ m q,HE c d m q = HE c e m q := fun m q => IR fun j hj => by
    unfold GG
    rw [List.getElem?_eq_getElem hj]
    simp -implicitDefEqProofs only [h2 j hj]
  unfold FE Gq E9 He
  simp -implicitDefEqProofs only [e1,e3,show Js c d = Js c e from funext e2]
theorem OG {c : CoreX} (h8 : c.ss.length ≤ 8) : ∀ d e,c.f ≤ d → d < c.t + 1 → c.f ≤ e → e < c.t + 1 → ((Fd c d : Nat) : Int) = ((Fd c e : Nat) : Int) → FE c d = FE c e :=
  fun d e _ _ _ _ h => ADD h8 (by omega)
def LN (x : PartX) (mx : Int) : List Int := (List.range (mx + 1).toNat).map fun q : Nat => pv x q
def Fy (x : PartX) (mx : Int) : List Int := (List.range (mx + 1).toNat).map fun q : Nat => pv x q - pv x 0
theorem AA8 {x : PartX} {mx : Int} : (LN x mx).map (· + -(pv x 0)) = Fy x mx := by
  simp -implicitDefEqProofs only [LN,Fy,List.map_map]
  rfl
def KG (b3 b4 : Nat) (x : PartX) (l : List Int) (y : BackY) : List (Nat × Blk) := BQ 3 1 y.c y.cap (A5 (l.take y.i)) ++ [(b4,.box 47 [i64 0,.nilsl 5]),(b3,.box 59 [i64 x.me,i64 x.f,i64 x.t,i64 x.al,i64 x.bl,i64 x.ki,Eb x.ts,i64 x.mo,Es x.ad])]
set_option maxRecDepth 20000 in
set_option maxHeartbeats 4000000 in
theorem AFD {c : CoreX} (hc : c.Fit) (hf : fitsC c) {x : PartX} (hx : x ∈ c.ps) : DataW Tryz.prog AF1 [HV c,F3 x] (.tup [Ep (Fy x (EU c.ms x.me)),i64 (pv x 0),bv true]) := by
  obtain ⟨m1,m2⟩ := (fitsC.bnd hf.good).me x hx
  have hmi : x.me.toNat < c.ms.length := by omega
  have hmx := (fitsC.bnd hf.good).mx x.me.toNat hmi
  have hmxe : EU c.ms x.me = c.ms[x.me.toNat].mx := by
    unfold EU; rw [List.getElem?_eq_getElem hmi]
  have hG := Or (hf.good.ps x hx)
  have hfx := hc.ps x hx
  have helM := IV hmi
  have hcall : ∀ q : Nat,q < (EU c.ms x.me + 1).toNat → DataW Tryz.prog QV [F3 x,i64 q] (.tup [i64 (pv x q),bv true]) := fun q hq => by
    have hb := IT hf hx (q := q) (by omega) (by omega)
    have := AAJ (q := (q : Int)) hfx (by unfold Fit; omega) hG (O5 hG.ts)
    rwa [hb.1] at this
  have hbnd : ∀ q : Nat,q < (EU c.ms x.me + 1).toNat → 0 ≤ pv x q ∧ pv x q ≤ 1152921504606846976 := fun q hq => by
    have hb := IT hf hx (q := q) (by omega) (by omega)
    exact ⟨hb.2.1,hb.2.2.2⟩
  obtain ⟨n,hn⟩ : ∃ n : Nat,n = (EU c.ms x.me + 1).toNat := ⟨_,rfl⟩
  have hn1 : c.ms[x.me.toNat].mx + 1 = n := by rw [hn,hmxe]; omega
  have hn0 : 0 < n := by omega
  have hn2 : n ≤ 2001 := by omega
  rw [← hn] at hcall hbnd
  obtain ⟨l,hl⟩ : ∃ l,LN x (EU c.ms x.me) = l := ⟨_,rfl⟩
  have hll : l.length = n := by rw [← hl]; simp [LN,hn]
  have hlv : ∀ (q : Nat) (h : q < l.length),l[q] = pv x q := fun q h => by subst hl; simp [LN]
  have cl : EI l := by
    refine ⟨fun e => by rw [e] at hll; simp at hll; omega,by omega,fun v hv => ?_⟩
    obtain ⟨q,hq,rfl⟩ := List.mem_iff_getElem.1 hv
    have := hbnd q (by omega)
    rw [hlv q hq]; unfold E6; omega
  have p0 := hbnd 0 hn0
  rw [show ((0 : Nat) : Int) = 0 from rfl] at p0
  have cm : EI (l.map (· + -(pv x 0))) := by
    refine ⟨fun e => cl.1 (List.map_eq_nil_iff.1 e),by rw [List.length_map]; omega,fun v hv => ?_⟩
    obtain ⟨u,hu,rfl⟩ := List.mem_map.1 hv
    obtain ⟨q,hq,rfl⟩ := List.mem_iff_getElem.1 hu
    have := hbnd q (by omega)
    show E6 (l[q] + -pv x 0)
    rw [hlv q hq]; unfold E6; omega
  have hsh := AKA (d := -(pv x 0)) cl (by unfold E6; omega)
  rw [if_pos cm] at hsh
  rw [← AA8,hl]
  have hof := Q2 (from' := 0) (l := l) (by omega) (by omega)
  have hcu := MN (l := l) (by omega)
  rw [if_pos cl] at hcu
  have hne : l ≠ [] := cl.1
  have hfst : (A5 l)[0]? = some [.int .i64 (pv x 0)] := by
    have h0 : 0 < l.length := by omega
    have e0 := hlv 0 h0
    rw [show ((0 : Nat) : Int) = 0 from rfl] at e0
    rw [← e0]; simp [A5,h0]
  have hwn : IntKind.i64.wrap (0 - pv x 0) = -pv x 0 := by rw [IntKind.wrap_i64]; omega
  have hw1 : IntKind.i64.wrap (c.ms[x.me.toNat].mx + 1) = n := by rw [hn1,IntKind.wrap_i64]; omega
  generalize Eh l = GL at *
  generalize Eh (l.map (· + -pv x 0)) = GM at *
  refine AX ACh (by simp) ?_
  simp -implicitDefEqProofs -proj only [go_sem,seval]
  refine AK (fun b2 hb2 => ?_)
  simp -implicitDefEqProofs -proj only [go_sem,seval]
  refine AK (fun b3 hb3 => ?_)
  replace hb3 : upd Heap.none b2 _ b3 = none := hb3
  obtain ⟨n1,n2⟩ := AI hb3 AT
  simp -implicitDefEqProofs -proj only [go_sem,seval,n1,n2]
  refine AK (fun b4 hb4 => ?_)
  replace hb4 : upd (upd Heap.none b2 _) b3 _ b4 = none := hb4
  obtain ⟨n3,n4⟩ := AI hb4 AT
  obtain ⟨n5,n6⟩ := AI hb4 (by rw [AE n1]; exact AT)
  simp -implicitDefEqProofs -proj only [go_sem,seval,n1,n2,n3,n4,n5,n6]
  refine Ap _ m1 (by rw [← Int.toNat_of_nonneg m1]; exact helM) ?_
  simp -implicitDefEqProofs -proj only [go_sem,seval,n1,n2,n3,n4,n5,n6,hw1]
  refine EJ (fun y : BackY => y.i ≤ l.length ∧ (Aa (KG b3 b4 x l y)).Nodup) 63 (fun y => [(3,.ptr b3 0),(4,.ptr b4 0),(7,EO 0 1 y.c y.cap (A5 (l.take y.i))),(22,i64 n),(23,i64 y.i)]) (KG b3 b4 x l) (fun y => l.length - y.i) ⟨0,0,0⟩ ⟨Nat.zero_le _,by simp [KG,BQ,A5,Aa,n3]⟩ rfl ?_ ?_ ?_
  · simp -implicitDefEqProofs -proj only [go_sem,seval,AM,HC,Hl,Hj]
    try rfl
  · simp -implicitDefEqProofs only [KG,HC,Hl,Hj,List.take_zero]
    simp -implicitDefEqProofs -proj only [go_sem,seval,AU,n1,n2,n3,n4,n5,n6,A5,List.map_nil,BQ]
  · rintro ⟨i,cc,cap⟩ ⟨hi,hnd⟩
    simp -implicitDefEqProofs only [HC] at hi
    have hall := Eg hnd
    obtain ⟨H,hH⟩ : ∃ H,Ae (KG b3 b4 x l ⟨i,cc,cap⟩) = H := ⟨_,rfl⟩
    rw [hH] at hall
    simp -implicitDefEqProofs only [KG,HC,Hl,Hj] at hall hnd
    obtain ⟨hrow,e4,e3,_⟩ := EZ.1 hall
    by_cases hlt : i < l.length
    · have hat := hcall i (by omega)
      rw [← hlv i hlt] at hat
      have htk : l.take (i + 1) = l.take i ++ [l[i]] := List.take_succ_eq_append_getElem hlt
      have hl1 : (A5 (l.take i)).length = i := by rw [rowI_len,List.length_take]; omega
      have hl2 : (A5 (l.take (i + 1))).length = i + 1 := by rw [rowI_len,List.length_take]; omega
      have hne2 : A5 (l.take (i + 1)) ≠ [] := by intro e; rw [e] at hl2; simp at hl2
      generalize l[i] = v at *
      simp -implicitDefEqProofs -proj only [go_sem,seval,HC,Hl,Hj,hH,e3,decide_eq_true (show (i : Int) < n by omega)]
      refine AJ hat ?_
      simp -implicitDefEqProofs -proj only [go_sem,seval]
      refine Ao (fun bs hs' => ?_)
      replace hs' : H bs = none := hs'
      simp -implicitDefEqProofs -proj only [go_sem,seval]
      refine Fr (xs := A5 (l.take i)) (y := [.int .i64 v]) (t := 3) (capc := 1) [(b4,.box 47 [i64 0,.nilsl 5]),(b3,.box 59 [i64 x.me,i64 x.f,i64 x.t,i64 x.al,i64 x.bl,i64 x.ki,Eb x.ts,i64 x.mo,Es x.ad])] rfl (Av hs' hall) hnd (by simp -implicitDefEqProofs -proj only [go_sem,seval]) (by rw [hl1]; omega) (by rw [hl1]; omega) (fun H' c' cap' ha hk => ?_)
      rw [show A5 (l.take i) ++ [[.int .i64 v]] = A5 (l.take (i + 1)) by rw [htk]; simp [A5]] at ha hk
      simp -implicitDefEqProofs -proj only [go_sem,seval]
      refine Ah ⟨i + 1,c',cap'⟩ ⟨by show i + 1 ≤ l.length; omega,hk⟩ (by show l.length - (i + 1) < l.length - i; omega) rfl ?_ ha
      simp -implicitDefEqProofs -proj only [go_sem,seval,AM,HC,Hl,Hj,AQ (show i < 9223372036854775807 by omega),E4 hne2,hl1,hl2]
    · have hi' : i = l.length := by omega
      subst hi'
      rw [List.take_length] at hrow hnd
      have hneI : A5 l ≠ [] := by intro e; have := congrArg List.length e; rw [rowI_len,List.length_nil] at this; omega
      have hrc : H cc = some (.row 3 1 cap (A5 l)) := by
        rw [Fs hneI] at hrow
        exact hrow.1
      obtain ⟨x1,x2⟩ : ¬ cc = b4 ∧ ¬ b4 = cc := by
        rw [Fs hneI] at hnd
        simp -implicitDefEqProofs only [Aa,List.map_append,List.map_cons,List.map_nil,List.cons_append,List.nil_append,List.nodup_cons,List.mem_cons,not_or] at hnd
        exact ⟨hnd.1.1,fun e => hnd.1.1 e.symm⟩
      simp -implicitDefEqProofs -proj only [go_sem,seval,HC,Hl,Hj,hH,decide_eq_false (show ¬ (l.length : Int) < n by omega),List.take_length,E4 hneI,rowI_len]
      refine MO hof (Fx (.refl _) (Fx (Ku hrc rowI_len.symm) Hp)) ?_
      simp -implicitDefEqProofs -proj only [go_sem,seval]
      refine AJ hcu.data ?_
      simp -implicitDefEqProofs -proj only [go_sem,seval]
      refine AK (fun b11 hb11 => ?_)
      replace hb11 : H b11 = none := hb11
      obtain ⟨y1,y2⟩ := AI hb11 hrc
      obtain ⟨y3,y4⟩ := AI hb11 e4
      simp -implicitDefEqProofs -proj only [go_sem,seval,y1,y2,y3,y4,hrc]
      (repeat' (with_reducible refine Ad ?_ (fun h => ?_); (focus first | decide | omega); clear h; try simp -implicitDefEqProofs -proj only [go_sem,seval,eq_self,y1,y2,y3,y4,hrc]))
      refine BP _ hfst (by simp) ?_
      simp -implicitDefEqProofs -proj only [go_sem,seval,y1,y2,y3,y4,hrc,hwn]
      refine Ec hsh ?_
      simp -implicitDefEqProofs -proj only [go_sem,seval,y1,y2,y3,y4,hrc]
      refine AK (fun b13 hb13 => ?_)
      simp -implicitDefEqProofs only [AR,y1,y2,y3,y4,↓reduceIte] at hb13
      have z11 : ¬ b11 = b13 := fun e => by subst e; simp [y1,y2,y3,y4] at hb13
      have hb13' : H b13 = none := by
        simp -implicitDefEqProofs only [z11,↓reduceIte] at hb13
        exact hb13
      obtain ⟨z1,z2⟩ := AI hb13' hrc
      obtain ⟨z3,z4⟩ := AI hb13' e4
      have z11' : ¬ b13 = b11 := fun e => z11 e.symm
      simp -implicitDefEqProofs -proj only [go_sem,seval,y1,y2,y3,y4,hrc,z1,z2,z3,z4,z11,z11',x1,x2]
      (repeat' (with_reducible refine Ad ?_ (fun h => ?_); (focus first | decide | omega); clear h; try simp -implicitDefEqProofs -proj only [go_sem,seval,eq_self,y1,y2,y3,y4,hrc,z1,z2,z3,z4,z11,z11',x1,x2,e4]))
      refine BP _ hfst (by simp) ?_
      simp -implicitDefEqProofs -proj only [go_sem,seval,y1,y2,y3,y4,hrc,z1,z2,z3,z4,z11,z11',x1,x2,e4]
      (repeat' (with_reducible refine Ad ?_ (fun h => ?_); (focus first | decide | omega); clear h; try simp -implicitDefEqProofs -proj only [go_sem,seval,eq_self,y1,y2,y3,y4,hrc,z1,z2,z3,z4,z11,z11',x1,x2,e4]))
      exact AH rfl
def Ga (ps : List PartX) (d : Int) (b : List Int) (j : Nat) : Int := match ps[j]? with
  | some x => if ER d x.f x.t then pv x (bq b x.me) else 0
  | none => 0
def H8 (c : CoreX) (d : Int) (b : List Int) : Int := Iz c d + sg (Ga c.ps d b) c.ps.length
theorem SM {l : List Int} {x : Int} : (l ++ [x]).sum = l.sum + x := by simp
theorem Q4 {ss : List SumX} {d : Int} : ∀ i : Nat,(GX ss d i).sum = sg (Ff ss d) i
  | 0 => rfl
  | i + 1 => by
    have ih := Q4 (ss := ss) (d := d) i
    rw [GX,sg,Ff]
    cases e : ss[i]? with
    | none => simp -implicitDefEqProofs only []; omega
    | some s =>
      simp -implicitDefEqProofs only []
      split
      · rw [SM]; omega
      · omega
theorem QZ {ss : List SumX} {ps : List PartX} {d : Int} {b : List Int} : ∀ (i : Nat) (l : List Int),FL ss ps d b i = some l → l.sum = sg (Ff ss d) ss.length + sg (Ga ps d b) i
  | 0,l,h => by
    rw [FL] at h
    cases h
    rw [Q4]; simp [sg]
  | i + 1,l,h => by
    rw [FL] at h
    rw [sg,Ga]
    cases e : FL ss ps d b i with
    | none => rw [e] at h; cases h
    | some m =>
      have ih := QZ i m e
      rw [e] at h
      cases e2 : ps[i]? with
      | none => rw [e2] at h; cases h; simp -implicitDefEqProofs only []; omega
      | some x =>
        rw [e2] at h
        simp -implicitDefEqProofs only [] at h ⊢
        by_cases hw : ER d x.f x.t
        · rw [if_pos hw] at h ⊢
          cases e3 : GU x (bq b x.me) with
          | none => rw [e3] at h; cases h
          | some n =>
            rw [e3] at h
            cases h
            have : pv x (bq b x.me) = n := by unfold pv; rw [e3]; rfl
            rw [SM,this]; omega
        · rw [if_neg hw] at h ⊢
          cases h
          omega
theorem UE {c : CoreX} {d : Int} {m : Nat} : HE c d m 0 = 0 := by
  unfold HE
  have h : sg (GG c.ps d m 0) c.ps.length = sg (fun _ => 0) c.ps.length := IR fun j _ => by
    unfold GG
    split
    · split
      · exact Int.sub_self _
      · rfl
    · rfl
  rw [h,K0]
theorem Rn {c : CoreX} (hme : ∀ x ∈ c.ps,0 ≤ x.me ∧ x.me < (c.ms.length : Int)) (d : Int) (b : List Int) : H8 c d b = Gq c d + sg (fun m => HE c d m (bq b m)) c.ms.length := by
  unfold H8 Gq
  have h1 : sg (fun m => HE c d m (bq b m)) c.ms.length = sg (fun j => sg (fun m => GG c.ps d m (bq b m) j) c.ms.length) c.ps.length := by
    unfold HE
    exact Nz (g := fun m j => GG c.ps d m (bq b m) j) c.ps.length
  have h2 : sg (Js c d) c.ms.length = sg (fun j => sg (fun m => KM c.ps d m j) c.ms.length) c.ps.length := by
    unfold Js
    exact Nz (g := fun m j => KM c.ps d m j) c.ps.length
  have h3 : sg (Ga c.ps d b) c.ps.length = sg (fun j => sg (fun m => KM c.ps d m j) c.ms.length + sg (fun m => GG c.ps d m (bq b m) j) c.ms.length) c.ps.length := by
    refine IR fun j hj => ?_
    rw [← LU]
    unfold Ga KM GG
    rw [List.getElem?_eq_getElem hj]
    simp -implicitDefEqProofs only []
    obtain ⟨k1,k2⟩ := hme _ (List.getElem_mem hj)
    generalize c.ps[j] = x at *
    by_cases hw : ER d x.f x.t
    · rw [if_pos hw]
      have : sg (fun m : Nat => (if x.me = (m : Int) ∧ ER d x.f x.t then pv x 0 else 0) + (if x.me = (m : Int) ∧ ER d x.f x.t then pv x (bq b m) - pv x 0 else 0)) c.ms.length = sg (fun m : Nat => if m = x.me.toNat then pv x (bq b x.me) else 0) c.ms.length := by
        refine IR fun m hm => ?_
        by_cases e : x.me = (m : Int)
        · rw [if_pos ⟨e,hw⟩,if_pos ⟨e,hw⟩,if_pos (by omega),← e]; omega
        · rw [if_neg (fun k => e k.1),if_neg (fun k => e k.1),if_neg (by omega)]; rfl
      rw [this,Rq,if_pos (by omega)]
    · rw [if_neg hw]
      have h0 : sg (fun m : Nat => (if x.me = (m : Int) ∧ ER d x.f x.t then pv x 0 else 0) + (if x.me = (m : Int) ∧ ER d x.f x.t then pv x (bq b m) - pv x 0 else 0)) c.ms.length = sg (fun _ => 0) c.ms.length := IR fun m hm => by
        rw [if_neg (fun k => hw k.2),if_neg (fun k => hw k.2)]; rfl
      rw [h0,K0]
  rw [h3,LU,← h1,← h2]
  omega
theorem RU {n : Nat} {m : Nat} : bq (List.replicate n 0) (m : Int) = 0 := by
  unfold bq
  rw [Int.toNat_natCast,List.getD_eq_getElem?_getD,List.getElem?_replicate]
  split <;> rfl
theorem Pz {c : CoreX} (hme : ∀ x ∈ c.ps,0 ≤ x.me ∧ x.me < (c.ms.length : Int)) (d : Int) (n : Nat) : H8 c d (List.replicate n 0) = Gq c d := by
  rw [Rn hme,show sg (fun m : Nat => HE c d m (bq (List.replicate n 0) m)) c.ms.length = sg (fun _ => 0) c.ms.length from IR fun m _ => by rw [RU,UE],K0]
  omega
theorem QQ : ∀ {l : List Int} {a : Int},(∀ v ∈ l,0 ≤ v) → 0 ≤ a → a + l.sum ≤ 9223372036854775807 → Gv a l = some (a + l.sum)
  | [],a,_,_,_ => by simp [Gv]
  | x :: l,a,h,h1,h2 => by
    have hx := h x (List.mem_cons_self ..)
    have hs : 0 ≤ l.sum := by
      have : ∀ l : List Int,(∀ v ∈ l,0 ≤ v) → 0 ≤ l.sum := by
        intro l
        induction l with
        | nil => intro _; simp
        | cons y l ih =>
          intro hl
          have := ih fun v hv => hl v (List.mem_cons_of_mem _ hv)
          have := hl y (List.mem_cons_self ..)
          simp -implicitDefEqProofs only [List.sum_cons]; omega
      exact this l fun v hv => h v (List.mem_cons_of_mem _ hv)
    simp -implicitDefEqProofs only [List.sum_cons] at h2 ⊢
    rw [Gv,if_pos (by unfold Fit; omega),QQ (fun v hv => h v (List.mem_cons_of_mem _ hv)) (by omega) (by omega)]
    congr 1
    omega
theorem Mg {ss : List SumX} {d : Int} (hs : ∀ s ∈ ss,0 ≤ s.a) : ∀ i,∀ v ∈ GX ss d i,0 ≤ v
  | 0,v,h => by cases h
  | i + 1,v,h => by
    rw [GX] at h
    cases e : ss[i]? with
    | none => rw [e] at h; exact Mg hs i v h
    | some s =>
      rw [e] at h
      simp -implicitDefEqProofs only [] at h
      split at h
      · rcases List.mem_append.1 h with h | h
        · exact Mg hs i v h
        · rw [List.mem_singleton] at h
          subst h
          exact hs _ (List.mem_of_getElem? e)
      · exact Mg hs i v h
theorem QC {c : CoreX} {d : Int} {b : List Int} (hf : fitsC c) (hb : GF c b) : ∀ i : Nat,i ≤ c.ps.length → ∃ l,FL c.ss c.ps d b i = some l ∧ ∀ v ∈ l,0 ≤ v
  | 0,_ => ⟨_,rfl,Mg (fun s hs => ((fitsC.bnd hf.good).amt s hs).1) _⟩
  | i + 1,hi => by
    obtain ⟨l,h1,h2⟩ := QC hf hb (d := d) i (by omega)
    rw [FL,h1,List.getElem?_eq_getElem (show i < c.ps.length by omega)]
    simp -implicitDefEqProofs only []
    have hx := List.getElem_mem (show i < c.ps.length by omega)
    obtain ⟨m1,m2⟩ := (fitsC.bnd hf.good).me _ hx
    generalize c.ps[i]'(by omega) = x at *
    split
    · obtain ⟨hb1,hb2⟩ := hb
      have hm : x.me.toNat < c.ms.length := by omega
      have hq := hb2 x.me.toNat (by omega) hm
      have hbq : bq b x.me = b[x.me.toNat] := by unfold bq; rw [List.getD_eq_getElem?_getD,List.getElem?_eq_getElem (by omega),Option.getD_some]
      have hmx : EU c.ms x.me = c.ms[x.me.toNat].mx := by unfold EU; rw [List.getElem?_eq_getElem hm]
      obtain ⟨k1,k2,k3,k4⟩ := IT hf hx (q := bq b x.me) (by omega) (by omega)
      rw [k1]
      simp -implicitDefEqProofs only []
      refine ⟨_,rfl,fun v hv => ?_⟩
      rcases List.mem_append.1 hv with hv | hv
      · exact h2 v hv
      · rw [List.mem_singleton] at hv
        omega
    · exact ⟨l,rfl,h2⟩
theorem Lc {c : CoreX} (hf : fitsC c) {d : Int} {b : List Int} (hb : GF c b) (j : Nat) : 0 ≤ Ga c.ps d b j ∧ Ga c.ps d b j ≤ HH c j := by
  have hp := MG (c := c) j
  unfold HH at *
  unfold Ga
  cases e : c.ps[j]? with
  | none => exact ⟨Int.le_refl _,Int.le_refl _⟩
  | some x =>
    have hx := List.mem_of_getElem? e
    rw [e] at hp
    simp -implicitDefEqProofs only [] at hp ⊢
    split
    · obtain ⟨m1,m2⟩ := (fitsC.bnd hf.good).me _ hx
      obtain ⟨hb1,hb2⟩ := hb
      have hm : x.me.toNat < c.ms.length := by omega
      have hq := hb2 x.me.toNat (by omega) hm
      have hbq : bq b x.me = b[x.me.toNat] := by unfold bq; rw [List.getD_eq_getElem?_getD,List.getElem?_eq_getElem (by omega),Option.getD_some]
      have hmx : EU c.ms x.me = c.ms[x.me.toNat].mx := by unfold EU; rw [List.getElem?_eq_getElem hm]
      obtain ⟨k1,k2,k3,k4⟩ := IT hf hx (q := bq b x.me) (by omega) (by omega)
      omega
    · omega
theorem PX {c : CoreX} (hf : fitsC c) {d : Int} {b : List Int} (hb : GF c b) : 0 ≤ H8 c d b ∧ H8 c d b ≤ 1152921504606846976 := by
  have h1 := hf.tot c.ps.length (Nat.le_refl _)
  have h2 := I0 (n := c.ps.length) fun j _ => (Lc hf (d := d) hb j).1
  have h3 := JF (n := c.ps.length) fun j _ => (Lc hf (d := d) hb j).2
  have h4 := I0 (n := c.ss.length) fun j _ => (Lx hf.good d j).1
  have h5 := JF (n := c.ss.length) fun j _ => (Lx hf.good d j).2
  unfold FW at h1
  unfold H8 Iz
  omega
theorem ADw {c : CoreX} (hf : fitsC c) {d : Int} {b : List Int} (hb : GF c b) : ∃ l,KE c d b = some l ∧ Gv 0 l = some (H8 c d b) := by
  obtain ⟨l,h1,h2⟩ := QC hf hb (d := d) c.ps.length (Nat.le_refl _)
  have hs := QZ _ _ h1
  have hc := PX hf (d := d) hb
  have he : l.sum = H8 c d b := hs
  refine ⟨l,h1,?_⟩
  rw [QQ h2 (Int.le_refl 0) (by omega),he]
  congr 1
  omega
theorem APl {c : CoreX} (hf : fitsC c) {d : Int} {b : List Int} : LD c d b = if ER d c.f c.t ∧ GF c b then (H8 c d b,0) else (0,8) := by
  unfold LD
  rw [if_neg (fun k => k hf.good)]
  by_cases h : ER d c.f c.t ∧ GF c b
  · obtain ⟨l,h1,h2⟩ := ADw hf (d := d) h.2
    rw [if_neg (fun k => k.elim (fun e => e h.1) (fun e => e h.2)),if_pos h,h1]
    simp -implicitDefEqProofs only []
    rw [h2]
  · rw [if_neg h,if_pos (Classical.byContradiction fun k => h ⟨Classical.byContradiction fun e => k (.inl e),Classical.byContradiction fun e => k (.inr e)⟩)]
theorem SR {a i : Nat} (ha : a < 65536) (hi : i < 16) : decide (Hf .u64 (a : Int) ((2 ^ i : Nat) : Int) = ((2 ^ i : Nat) : Int)) = a.testBit i := by
  have hp : 2 ^ i < 65536 := by
    calc 2 ^ i < 2 ^ 16 := Nat.pow_lt_pow_right (by decide) hi
      _ = 65536 := rfl
  rw [APv (by omega) (by omega),Bool.eq_iff_iff,decide_eq_true_eq]
  constructor
  · intro h
    have h : a &&& 2 ^ i = 2 ^ i := by omega
    have h2 := congrArg (fun n => n.testBit i) h
    simp -implicitDefEqProofs only [Nat.testBit_and,Lw,decide_true,Bool.and_true] at h2
    exact h2
  · intro h
    have : a &&& 2 ^ i = 2 ^ i := by
      refine Nat.eq_of_testBit_eq fun k => ?_
      rw [Nat.testBit_and,Lw]
      by_cases e : k = i
      · subst e; rw [h,decide_eq_true rfl]; rfl
      · rw [decide_eq_false e,Bool.and_false]
    omega
theorem APE {c : CoreX} {d : Int} {j : Nat} (h8 : c.ss.length ≤ 8) (hlt : Fd c d < 65536) (hj : j < c.ss.length) : decide (Hf .u64 ((Fd c d : Nat) : Int) ((G5 (j : Int) : Nat) : Int) = ((G5 (j : Int) : Nat) : Int)) = decide (ER d c.ss[j].f c.ss[j].t) := by
  have e : G5 (j : Int) = 2 ^ j := by unfold G5; rw [if_pos (by omega)]; simp
  rw [e,SR hlt (by omega)]
  rw [Bool.eq_iff_iff,decide_eq_true_eq]
  exact O1 h8 hj
theorem ANC {c : CoreX} {d : Int} {j : Nat} (h8 : c.ss.length ≤ 8) (hp8 : c.ps.length ≤ 8) (hlt : Fd c d < 65536) (hj : j < c.ps.length) : decide (Hf .u64 ((Fd c d : Nat) : Int) ((Hg (j : Int) : Nat) : Int) = ((Hg (j : Int) : Nat) : Int)) = decide (ER d c.ps[j].f c.ps[j].t) := by
  have e : Hg (j : Int) = 2 ^ (8 + j) := by unfold Hg; rw [if_pos (by omega),Nat.pow_add]; simp
  rw [e,SR hlt (by omega)]
  rw [Bool.eq_iff_iff,decide_eq_true_eq]
  exact NU h8 hj
def FC (c : CoreX) (d : Int) (m : Nat) (mx : Int) (i : Nat) : List Int := (List.range (mx + 1).toNat).map fun q : Nat => sg (GG c.ps d m q) i
def BB (c : CoreX) (d : Int) (i : Nat) : List (List Int) := (List.range c.ms.length).map fun m => FC c d m (match c.ms[m]? with | some x => x.mx | none => 0) i
theorem HS {c : CoreX} {d : Int} {i : Nat} : (BB c d i).length = c.ms.length := by simp [BB]
theorem Mo {c : CoreX} {d : Int} {m i : Nat} (hm : m < c.ms.length) : (BB c d i)[m]'(by rw [HS]; exact hm) = FC c d m c.ms[m].mx i := by
  simp -implicitDefEqProofs only [BB,List.getElem_map,List.getElem_range]
  rw [List.getElem?_eq_getElem hm]
theorem ATI {c : CoreX} {d : Int} {m : Nat} {mx : Int} : FC c d m mx 0 = List.replicate (mx + 1).toNat 0 := by
  refine List.ext_getElem (by simp [FC]) fun i h1 h2 => by simp [FC,sg]
theorem M2 {c : CoreX} {d : Int} : BB c d c.ps.length = E9 c d c.ms.length := rfl
theorem Ps {c : CoreX} (h : fitsC c) (d : Int) {m i : Nat} (hm : m < c.ms.length) (hi : i ≤ c.ps.length) : EI (FC c d m c.ms[m].mx i) := by
  have hb := (fitsC.bnd h.good).mx m hm
  refine ⟨fun e => ?_,by simp -implicitDefEqProofs only [FC,List.length_map,List.length_range]; omega,fun v hv => ?_⟩
  · have := congrArg List.length e
    simp -implicitDefEqProofs only [FC,List.length_map,List.length_range,List.length_nil] at this
    omega
  · obtain ⟨q,hq,rfl⟩ := List.mem_map.1 hv
    have hq := List.mem_range.1 hq
    have := N4 h d hm (q := q) (by omega) (by omega) hi
    unfold E6
    omega
theorem AIg {c : CoreX} {d : Int} {m i : Nat} {mx : Int} (hi : i < c.ps.length) (hm : c.ps[i].me = m) (hw : ER d c.ps[i].f c.ps[i].t) : List.zipWith (fun u v => u + v) (FC c d m mx i) (Fy c.ps[i] mx) = FC c d m mx (i + 1) := by
  refine List.ext_getElem (by simp [FC,Fy]) fun q h1 h2 => ?_
  simp -implicitDefEqProofs only [List.getElem_zipWith,FC,Fy,List.getElem_map,List.getElem_range,sg]
  unfold GG
  rw [List.getElem?_eq_getElem hi]
  simp -implicitDefEqProofs only []
  rw [if_pos ⟨hm,hw⟩]
theorem Pr {c : CoreX} {d : Int} {m i : Nat} {mx : Int} (hi : i < c.ps.length) (h : ¬ (c.ps[i].me = m ∧ ER d c.ps[i].f c.ps[i].t)) : FC c d m mx (i + 1) = FC c d m mx i := by
  unfold FC
  refine List.map_congr_left fun q _ => ?_
  rw [sg]
  have : GG c.ps d m q i = 0 := by
    unfold GG
    rw [List.getElem?_eq_getElem hi]
    simp -implicitDefEqProofs only []
    rw [if_neg h]
  omega
theorem ATg {c : CoreX} {d : Int} {i : Nat} (hi : i < c.ps.length) (h : ¬ ER d c.ps[i].f c.ps[i].t) : BB c d (i + 1) = BB c d i := by
  unfold BB
  exact List.map_congr_left fun m _ => Pr hi (fun e => h e.2)
theorem ACj {c : CoreX} {d : Int} {m i : Nat} (hi : i < c.ps.length) (hml : m < c.ms.length) (hm : c.ps[i].me = m) : BB c d (i + 1) = (BB c d i).set m (FC c d m c.ms[m].mx (i + 1)) := by
  refine List.ext_getElem (by rw [List.length_set,HS,HS]) fun k h1 h2 => ?_
  rw [HS] at h1
  rw [Mo h1,List.getElem_set]
  by_cases e : m = k
  · subst e
    rw [if_pos rfl]
  · rw [if_neg e,Mo h1]
    exact Pr hi (fun e2 => e (by have := e2.1; omega))
def FV (c : CoreX) (d : Int) (i : Nat) : Int := Iz c d + sg (Ga c.ps d (List.replicate c.ms.length 0)) i
theorem AGU {c : CoreX} (hg : goodC c) {d : Int} : FV c d c.ps.length = Gq c d := Pz (fitsC.bnd hg).me d c.ms.length
theorem X3 {c : CoreX} {d : Int} {i : Nat} (hi : i < c.ps.length) (hme : 0 ≤ c.ps[i].me) (hw : ER d c.ps[i].f c.ps[i].t) : FV c d (i + 1) = FV c d i + pv c.ps[i] 0 := by
  unfold FV
  rw [sg]
  have : Ga c.ps d (List.replicate c.ms.length 0) i = pv c.ps[i] 0 := by
    unfold Ga
    rw [List.getElem?_eq_getElem hi]
    simp -implicitDefEqProofs only []
    obtain ⟨k,hk⟩ := Int.eq_ofNat_of_zero_le hme
    rw [if_pos hw,hk,RU]
  omega
theorem ADz {c : CoreX} {d : Int} {i : Nat} (hi : i < c.ps.length) (hw : ¬ ER d c.ps[i].f c.ps[i].t) : FV c d (i + 1) = FV c d i := by
  unfold FV
  rw [sg]
  have : Ga c.ps d (List.replicate c.ms.length 0) i = 0 := by
    unfold Ga
    rw [List.getElem?_eq_getElem hi]
    simp -implicitDefEqProofs only []
    rw [if_neg hw]
  omega
def Gh (l : List Int) : List D := [.int .i64 ((l.length : Int) - 1),.sl 5 (FS (Eh l))]
def Al (ls : List (List Int)) : List (List D) := ls.map Gh
abbrev Hy (ls : List (List Int)) : AV := .d (.sl 2 (Al ls))
theorem Gl {ls : List (List Int)} : (Al ls).length = ls.length := List.length_map ..
theorem LL {ls : List (List Int)} {i : Nat} (h : i < ls.length) : (Al ls)[((i : Int)).toNat]? = some [.int .i64 ((ls[i].length : Int) - 1),.sl 5 (FS (Eh ls[i]))] := by
  rw [Int.toNat_natCast]; simp [Al,h,Gh]
def Jh (s : Seg EN) : List D := [.int .i64 s.f,.int .i64 s.t,.int .i64 s.v.1,.sl 2 (Al s.v.2)]
def EK (S : List (Seg EN)) : List (List D) := S.map Jh
abbrev JK (s : Seg EN) : AV := .agg [i64 s.f,i64 s.t,i64 s.v.1,Hy s.v.2]
abbrev MR (S : List (Seg EN)) : AV := .d (.sl 4 (EK S))
theorem Jz {S : List (Seg EN)} : (EK S).length = S.length := List.length_map ..
theorem ON {S : List (Seg EN)} {i : Nat} (h : i < S.length) : (EK S)[((i : Int)).toNat]? = some [.int .i64 S[i].f,.int .i64 S[i].t,.int .i64 S[i].v.1,.sl 2 (Al S[i].v.2)] := by
  rw [Int.toNat_natCast]; simp [EK,h,Jh]
theorem ACN {S : List (Seg EN)} {i : Nat} {s : Seg EN} (h : S[i]? = some s) : (EK S)[i]? = some [.int .i64 s.f,.int .i64 s.t,.int .i64 s.v.1,.sl 2 (Al s.v.2)] := by
  simp [EK,h,Jh]
theorem TL {A : List (Seg EN)} {s : Seg EN} {x : Int} : (EK (A ++ [s])).set A.length [.int .i64 s.f,.int .i64 x,.int .i64 s.v.1,.sl 2 (Al s.v.2)] = EK (A ++ [⟨s.f,x,s.v⟩]) := by
  simp [EK,Jh,List.set_append]
abbrev JD (cur : ByteArray) (f t : Int) (ms : List MeterX) (S : List (Seg EN)) : AV := .agg [.d (.str cur),i64 f,i64 t,.d (.sl 5 (EP ms)),MR S]
theorem Qm {H : Heap} {f t x : Int} {v : AV} {ls : List (List Int)} (h : LendV H v (Hy ls)) : LendV H (.agg [i64 f,i64 t,i64 x,v]) (.agg [i64 f,i64 t,i64 x,Hy ls]) := by
  refine .agg _ _ rfl fun j u v e1 e2 => ?_
  match j with
  | 0 => cases e1; cases e2; exact .refl _
  | 1 => cases e1; cases e2; exact .refl _
  | 2 => cases e1; cases e2; exact .refl _
  | 3 => cases e1; cases e2; exact h
  | j + 4 => cases e1
theorem AL6 {H : Heap} {cur : ByteArray} {f t : Int} {v w : AV} {ms : List MeterX} {S : List (Seg EN)} (h : LendV H v (.d (.sl 5 (EP ms)))) (h2 : LendV H w (MR S)) : LendV H (.agg [.d (.str cur),i64 f,i64 t,v,w]) (JD cur f t ms S) := by
  refine .agg _ _ rfl fun j u v e1 e2 => ?_
  match j with
  | 0 => cases e1; cases e2; exact .refl _
  | 1 => cases e1; cases e2; exact .refl _
  | 2 => cases e1; cases e2; exact .refl _
  | 3 => cases e1; cases e2; exact h
  | 4 => cases e1; cases e2; exact h2
  | j + 5 => cases e1
theorem AE9 {a b : List Int} (hl : a.length = b.length) (h : Eh a = Eh b) : a = b := by
  refine List.ext_getElem hl fun i h1 h2 => ?_
  have e1 := Mq h1
  have e2 := Mq h2
  rw [h,e2] at e1
  exact (Option.some.inj e1).symm
theorem Wz {a b : List Int} : ((a.length : Int) - 1 = (b.length : Int) - 1 ∧ Eh a = Eh b) ↔ a = b :=
  ⟨fun h => AE9 (by omega) h.2,fun h => by rw [h]; exact ⟨rfl,rfl⟩⟩
noncomputable def KR (c : CoreX) : List (Seg EN) := N3 (I3 (FE c) ((Ix c).map (·.f)) (Ix c).length) c.t
theorem MD {c : CoreX} (hg : goodC c) : FwdB (FE c) c.f (c.t + 1) (KR c) := by
  obtain ⟨_,⟨a3,_⟩,_,_,h8,_⟩ := hg.hd
  have := ALi (LY a3) (by omega) (OG h8)
  rwa [show c.t + 1 - 1 = c.t by omega] at this
theorem Qh {H : Heap} {b6 b7 : Nat} {f t fx n : Int} {cv : AV} {ok : Bool} (hne : ¬ b6 = b7) (h6 : H b6 = some (.box 50 [i64 f,i64 t,i64 fx,cv])) (h7 : H b7 = some (.box 4 [bv ok])) (hx : Fit fx) (hn : Fit n) (hs : Fit (fx + n)) : CallW Tryz.prog Mv [i64 n,.ptr b6 0,.ptr b7 0] H fun r H' => H' = upd (upd H b6 (some (.box 50 [i64 f,i64 t,i64 (fx + n),cv]))) b7 (some (.box 4 [bv ok])) := by
  have ha := J8 hx hn
  rw [F6 hs] at ha
  have hne' : ¬ b7 = b6 := fun e => hne e.symm
  refine AX V8 (by simp) ?_
  simp -implicitDefEqProofs -proj only [go_sem,seval,h6]
  refine AJ ha ?_
  cases ok
  · simp -implicitDefEqProofs -proj only [go_sem,seval,h6,h7,hne,hne']
  · simp -implicitDefEqProofs -proj only [go_sem,seval,h6,h7,hne,hne']
abbrev Ex (c : CoreX) : List (List Int) := c.ps.map fun x => Fy x (EU c.ms x.me)
abbrev E5 (c : CoreX) : List Int := c.ps.map fun x => pv x 0
abbrev KS (c : CoreX) (kv bvs : AV) : List AV := [.d (.str c.cur),i64 c.f,i64 c.t,.d (.sl 5 (EP c.ms)),.d (.sl 3 (Er c.ss)),.d (.sl 9 (EV c.ps)),kv,bvs]
def Fz (bm : Nat) (c : CoreX) (k1 p1 k2 p2 : Nat) : List (Nat × Blk) := (bm,.box 55 (KS c (EO 2 2 k1 p1 (Al (Ex c))) (EO 1 1 k2 p2 (A5 (E5 c))))) :: (BQ 47 2 k1 p1 (Al (Ex c)) ++ BQ 3 1 k2 p2 (A5 (E5 c)))
structure SpnX where
  i : Nat
  k : Nat
  cap : Nat
theorem Fm {i c cap : Nat} : (SpnX.mk i c cap).i = i := (rfl)
theorem G2 {i c cap : Nat} : (SpnX.mk i c cap).k = c := (rfl)
theorem G9 {i c cap : Nat} : (SpnX.mk i c cap).cap = cap := (rfl)
abbrev F4 (b6 k cap : Nat) (f t fx : Int) (L : List (List Int)) : Blk := .box 50 [i64 f,i64 t,i64 fx,EO 2 2 k cap (Al L)]
theorem HI {H : Heap} {b : Nat} {x x' : Blk} : ∀ {A B : List (Nat × Blk)},AU H (A ++ (b,x) :: B) → (Aa (A ++ (b,x) :: B)).Nodup → AU (upd H b (some x')) (A ++ (b,x') :: B)
  | [],B,h,hn => O6 h hn
  | (k,y) :: A,B,h,hn => by
    simp -implicitDefEqProofs only [List.cons_append,Aa,List.map_cons,List.nodup_cons,List.map_append,List.mem_append,List.mem_cons,not_or] at hn
    have hk : ¬ b = k := fun e => hn.1.2.1 e.symm
    refine ⟨by rw [AE hk]; exact h.1,HI h.2 (by simpa only [Aa,List.map_append,List.map_cons] using hn.2)⟩
theorem Te {c : CoreX} (hf : fitsC c) {x : PartX} (hx : x ∈ c.ps) : EI (Fy x (EU c.ms x.me)) := by
  have h0 := IT hf hx (Int.le_refl 0) (Mr hf.good hx)
  have hm := Mr hf.good hx
  obtain ⟨m1,m2⟩ := (fitsC.bnd hf.good).me x hx
  have hmi : x.me.toNat < c.ms.length := by omega
  have hmx := (fitsC.bnd hf.good).mx x.me.toNat hmi
  have hmxe : EU c.ms x.me = c.ms[x.me.toNat].mx := by unfold EU; rw [List.getElem?_eq_getElem hmi]
  refine ⟨fun e => ?_,by simp -implicitDefEqProofs only [Fy,List.length_map,List.length_range]; omega,fun v hv => ?_⟩
  · have := congrArg List.length e
    simp -implicitDefEqProofs only [Fy,List.length_map,List.length_range,List.length_nil] at this
    omega
  · obtain ⟨q,hq,rfl⟩ := List.mem_map.1 hv
    have hq := List.mem_range.1 hq
    have hb := IT hf hx (q := (q : Int)) (by omega) (by omega)
    unfold E6
    omega
theorem AJ8 {P : Program} {Q : Out → St → Prop} {k : List Item} {s : St} {d : Option Nat} {l : List AO} {x y : D} {b sz i j cap : Nat} {t : TypeId} {xs : List (List D)} {el : List D} (hb : s.H b = some (.row t sz cap xs)) (h : xs[i]? = some el) (hj : j + 1 < el.length) (hk : AP P Q l k (AL s d .void (upd s.H b (some (.row t sz cap (xs.set i (Gb el j [x,y]))))))) : J1 2 (.agg [.d x,.d y]) b sz i j d l k s P Q := by
  simp -implicitDefEqProofs only [J1,Et,As,Az,hb]
  exact ⟨trivial,el,h,by omega,hk⟩
theorem AI9 {c : CoreX} {i : Nat} (h : i < c.ps.length) : (Al (Ex c))[((i : Int)).toNat]? = some [.int .i64 (((Fy c.ps[i] (EU c.ms c.ps[i].me)).length : Int) - 1),.sl 5 (FS (Eh (Fy c.ps[i] (EU c.ms c.ps[i].me))))] := by
  have := LL (ls := Ex c) (i := i) (by simpa using h)
  rw [this]
  simp -implicitDefEqProofs only [Ex,List.getElem_map]
theorem T2 {c : CoreX} {i : Nat} (h : i < c.ps.length) : (A5 (E5 c))[((i : Int)).toNat]? = some [.int .i64 (pv c.ps[i] 0)] := by
  refine Ow ?_
  simp -implicitDefEqProofs only [E5]
  rw [List.getElem?_map,Int.toNat_natCast,List.getElem?_eq_getElem h]
  rfl
theorem PS {c : CoreX} (hf : fitsC c) (d : Int) {i : Nat} (hi : i ≤ c.ps.length) : -2305843009213693952 ≤ FV c d i ∧ FV c d i ≤ 2305843009213693952 := by
  obtain ⟨⟨g1,g2⟩,⟨g3,g4⟩,g5,g6,g7,g8⟩ := hf.good.hd
  have hb : GF c (List.replicate c.ms.length 0) := by
    refine ⟨by simp,fun m h1 h2 => ?_⟩
    have := (fitsC.bnd hf.good).mx m (by simpa using h1)
    simp -implicitDefEqProofs only [List.getElem_replicate]
    omega
  have h1 := OH hf.good d (Nat.le_refl c.ss.length)
  have h2 : sg (Ga c.ps d (List.replicate c.ms.length 0)) i ≤ sg (HH c) i := JF fun j _ => (Lc hf hb j).2
  have h3 : 0 ≤ sg (Ga c.ps d (List.replicate c.ms.length 0)) i := I0 fun j _ => (Lc hf hb j).1
  have h4 := PH hf hi
  unfold FV Iz
  omega
def Fq (b3 b4 b6 b7 k cap : Nat) (f t fx : Int) (s : Int) (L : List (List Int)) (mk : List (Nat × Blk)) : List (Nat × Blk) :=
  BQ 47 2 k cap (Al L) ++ ((b7,.box 4 [bv true]) :: (b6,F4 b6 k cap f t fx L) :: (b4,.box 50 [i64 0,i64 0,i64 0,.nilsl 2]) :: (b3,.box 73 [i64 f,i64 t,u64 s]) :: mk)
set_option maxRecDepth 20000 in
set_option maxHeartbeats 4000000 in
theorem S3 {c : CoreX} {bm k1 p1 k2 p2 : Nat} {f t : Int} {d : Int} (hc : c.Fit) (hf : fitsC c) (h8 : c.ss.length ≤ 8) (hp8 : c.ps.length ≤ 8) (h16 : Fd c d < 65536) (hnm : (Aa (Fz bm c k1 p1 k2 p2)).Nodup) :
    CallW Tryz.prog ARk [.ptr bm 0,.agg [i64 f,i64 t,u64 ((Fd c d : Nat) : Int)]] (Ae (Fz bm c k1 p1 k2 p2)) fun r H' => ∃ k cap,r = .tup [.agg [i64 f,i64 t,i64 (Gq c d),EO 2 2 k cap (Al (E9 c d c.ms.length))],bv true] ∧ (∃ rest,AU H' (BQ 47 2 k cap (Al (E9 c d c.ms.length)) ++ rest ++ Fz bm c k1 p1 k2 p2) ∧ (Aa (BQ 47 2 k cap (Al (E9 c d c.ms.length)) ++ rest ++ Fz bm c k1 p1 k2 p2)).Nodup) := by
  obtain ⟨⟨g1,g2⟩,⟨g3,g4⟩,g5,g6,g7,g8⟩ := hf.good.hd
  have hmk := Eg hnm
  obtain ⟨mk,hmkd⟩ : ∃ mk,Fz bm c k1 p1 k2 p2 = mk := ⟨_,rfl⟩
  have hbm : ∀ {H : Heap},AU H mk → H bm = some (.box 55 (KS c (EO 2 2 k1 p1 (Al (Ex c))) (EO 1 1 k2 p2 (A5 (E5 c))))) := fun h => by rw [← hmkd] at h; exact h.1
  rw [hmkd] at hmk hnm ⊢
  obtain ⟨H0,hH0⟩ : ∃ H0,Ae mk = H0 := ⟨_,rfl⟩
  rw [hH0] at hmk ⊢
  obtain ⟨sv,hsv⟩ : ∃ sv : Int,((Fd c d : Nat) : Int) = sv := ⟨_,rfl⟩
  rw [hsv]
  refine AX ALl (by simp) ?_
  simp -implicitDefEqProofs -proj only [go_sem,seval]
  refine AK (fun b3 hb3 => ?_)
  have a3 := Gg (x := .box 73 [i64 f,i64 t,u64 sv]) hb3 hmk
  have e3 := IP (x := .box 73 [i64 f,i64 t,u64 sv]) hb3 hmk hnm
  simp -implicitDefEqProofs -proj only [go_sem,seval]
  refine AK (fun b4 hb4 => ?_)
  have a4 := Gg (x := .box 50 [i64 0,i64 0,i64 0,.nilsl 2]) hb4 a3
  have e4 := IP (x := .box 50 [i64 0,i64 0,i64 0,.nilsl 2]) hb4 a3 e3
  replace hb4 : upd H0 b3 _ b4 = none := hb4
  obtain ⟨n1,n2⟩ := AI hb4 AT
  simp -implicitDefEqProofs -proj only [go_sem,seval,n1,n2]
  refine AK (fun b6 hb6 => ?_)
  replace hb6 : upd (upd H0 b3 _) b4 _ b6 = none := hb6
  obtain ⟨n3,n4⟩ := AI hb6 AT
  obtain ⟨n5,n6⟩ := AI hb6 (by rw [AE n1]; exact AT)
  simp -implicitDefEqProofs -proj only [go_sem,seval,n1,n2,n3,n4,n5,n6]
  have a6 := Gg (x := F4 b6 0 0 f t 0 []) hb6 a4
  have e6 := IP (x := F4 b6 0 0 f t 0 []) hb6 a4 e4
  refine AK (fun b7 hb7 => ?_)
  replace hb7 : upd (upd (upd H0 b3 _) b4 _) b6 _ b7 = none := hb7
  have a7 := Gg (x := .box 4 [bv true]) hb7 a6
  have e7 := IP (x := .box 4 [bv true]) hb7 a6 e6
  obtain ⟨n7,n8⟩ := AI hb7 AT
  obtain ⟨n9,n10⟩ := AI hb7 (by rw [AE n3]; exact AT)
  obtain ⟨n11,n12⟩ := AI hb7 (by rw [AE n5,AE n1]; exact AT)
  have hbm7 := hbm a7.2.2.2.2
  simp -implicitDefEqProofs only [AR] at hbm7
  simp -implicitDefEqProofs -proj only [go_sem,seval,n1,n2,n3,n4,n5,n6,n7,n8,n9,n10,n11,n12,hbm7,Fe]
  refine EJ (fun y : SpnX => y.i ≤ c.ms.length ∧ (Aa (Fq b3 b4 b6 b7 y.k y.cap f t 0 sv ((BB c d 0).take y.i) mk)).Nodup) 125 (fun y => [(0,.ptr bm 0),(3,.ptr b3 0),(4,.ptr b4 0),(6,.ptr b6 0),(7,.ptr b7 0),(8,.fn Mv [.ptr b6 0,.ptr b7 0]),(29,.d (.sl 5 (EP c.ms))),(30,i64 c.ms.length),(31,i64 y.i)]) (fun y => Fq b3 b4 b6 b7 y.k y.cap f t 0 sv ((BB c d 0).take y.i) mk) (fun y => c.ms.length - y.i) ⟨0,0,0⟩ ⟨Nat.zero_le _,e7⟩ rfl ?_ ?_ ?_
  · simp -implicitDefEqProofs -proj only [go_sem,seval,AM,Fm]
    try rfl
  · have a7' : AU _ (Fq b3 b4 b6 b7 0 0 f t 0 sv [] mk) := a7
    exact a7'
  rintro ⟨i,k,cap⟩ ⟨hi,hnd⟩
  simp -implicitDefEqProofs only [Fm] at hi
  have hall := Eg hnd
  obtain ⟨H,hH⟩ : ∃ H,Ae (Fq b3 b4 b6 b7 k cap f t 0 sv ((BB c d 0).take i) mk) = H := ⟨_,rfl⟩
  simp -implicitDefEqProofs only [Fm,G2,G9] at hall hnd
  rw [hH] at hall
  simp -implicitDefEqProofs only [Fq] at hall hnd
  obtain ⟨hrow,h7,h6,h4,h3,hmkH⟩ := EZ.1 hall
  have hbmH := hbm hmkH
  by_cases hlt : i < c.ms.length
  · have hmx := (fitsC.bnd hf.good).mx i hlt
    have hel := IV hlt
    have hfl := Z3 (n := (c.ms[i].mx + 1).toNat) (v := 0) (by omega) (by omega) (by decide)
    rw [show (((c.ms[i].mx + 1).toNat : Nat) : Int) - 1 = c.ms[i].mx by omega,← ATI (c := c) (d := d) (m := i)] at hfl
    have htk : (BB c d 0).take (i + 1) = (BB c d 0).take i ++ [FC c d i c.ms[i].mx 0] := by
      rw [List.take_succ_eq_append_getElem (by rw [HS]; exact hlt),Mo hlt]
    have hl1 : (Al ((BB c d 0).take i)).length = i := by rw [Gl,List.length_take,HS]; omega
    generalize FC c d i c.ms[i].mx 0 = lq at *
    generalize c.ms[i] = m at *
    simp -implicitDefEqProofs -proj only [go_sem,seval,Fm,G2,G9,hH,decide_eq_true (show (i : Int) < c.ms.length by omega)]
    refine Ap _ (by omega) hel ?_
    simp -implicitDefEqProofs -proj only [go_sem,seval]
    refine AK (fun b10 hb10 => ?_)
    replace hb10 : H b10 = none := hb10
    have all10 := fun y => Av (y := y) hb10 hall
    obtain ⟨y1,y2⟩ := AI hb10 h6
    simp -implicitDefEqProofs -proj only [go_sem,seval,y1,y2]
    refine AJ hfl ?_
    simp -implicitDefEqProofs -proj only [go_sem,seval,y1,y2]
    refine AK (fun b11 hb11 => ?_)
    simp -implicitDefEqProofs only [AR] at hb11
    have z1 : ¬ b10 = b11 := fun e => by subst e; simp at hb11
    have z2 : ¬ b11 = b10 := fun e => z1 e.symm
    have hb11' : H b11 = none := by simpa only [z1,↓reduceIte] using hb11
    obtain ⟨y3,y4⟩ := AI hb11' h6
    simp -implicitDefEqProofs -proj only [go_sem,seval,y1,y2,y3,y4,z1,z2,h6]
    refine Ao (fun bs hs => ?_)
    simp -implicitDefEqProofs only [AR,y1,y2,y3,y4,z1,z2] at hs
    have z3 : ¬ b10 = bs := fun e => by subst e; simp [z1,z2] at hs
    have z4 : ¬ b11 = bs := fun e => by subst e; simp [z1,z2] at hs
    have hbs' : H bs = none := by simpa only [z3,z4,↓reduceIte] using hs
    simp -implicitDefEqProofs -proj only [go_sem,seval,y1,y2,y3,y4,z1,z2,z3,z4]
    have hA : ∀ X Y Z,AU (upd (upd (upd H b10 X) b11 Y) bs Z) (BQ 47 2 k cap (Al ((BB c d 0).take i)) ++ ((b7,.box 4 [bv true]) :: (b6,F4 b6 k cap f t 0 ((BB c d 0).take i)) :: (b4,.box 50 [i64 0,i64 0,i64 0,.nilsl 2]) :: (b3,.box 73 [i64 f,i64 t,u64 sv]) :: mk)) := fun X Y Z =>
      Av (by rw [AE z4,AE z3]; exact hbs') (Av (by rw [AE z1]; exact hb11') (Av hb10 hall))
    refine Fr (xs := Al ((BB c d 0).take i)) (y := Gh lq) (t := 47) (capc := 1) ((b7,.box 4 [bv true]) :: (b6,F4 b6 k cap f t 0 ((BB c d 0).take i)) :: (b4,.box 50 [i64 0,i64 0,i64 0,.nilsl 2]) :: (b3,.box 73 [i64 f,i64 t,u64 sv]) :: mk) rfl (hA _ _ _) hnd (by simp -implicitDefEqProofs -proj only [go_sem,seval]; rfl) (by rw [hl1]; omega) (by rw [hl1]; omega) (fun H' c' cap' ha hk => ?_)
    rw [show Al ((BB c d 0).take i) ++ [Gh lq] = Al ((BB c d 0).take (i + 1)) by rw [htk]; simp [Al]] at ha hk
    have hne2 : Al ((BB c d 0).take (i + 1)) ≠ [] := by rw [htk]; simp [Al]
    have hl2 : (Al ((BB c d 0).take (i + 1))).length = i + 1 := by rw [Gl,List.length_take,HS]; omega
    have h6' : H' b6 = some (F4 b6 k cap f t 0 ((BB c d 0).take i)) := (EZ.1 ha).2.2.1
    simp -implicitDefEqProofs -proj only [go_sem,seval,h6']
    have hup := HI (A := BQ 47 2 c' cap' (Al ((BB c d 0).take (i + 1))) ++ [(b7,.box 4 [bv true])]) (b := b6) (x := F4 b6 k cap f t 0 ((BB c d 0).take i)) (x' := F4 b6 c' cap' f t 0 ((BB c d 0).take (i + 1))) (B := (b4,.box 50 [i64 0,i64 0,i64 0,.nilsl 2]) :: (b3,.box 73 [i64 f,i64 t,u64 sv]) :: mk) (by simpa only [List.append_assoc,List.cons_append,List.nil_append] using ha) (by simpa only [List.append_assoc,List.cons_append,List.nil_append] using hk)
    refine Ah ⟨i + 1,c',cap'⟩ ⟨by show i + 1 ≤ c.ms.length; omega,?_⟩ (by show c.ms.length - (i + 1) < c.ms.length - i; omega) rfl ?_ ?_
    · simpa only [Fq,Aa,Fm,G2,G9,List.map_append,List.map_cons,List.map_nil] using hk
    · simp -implicitDefEqProofs -proj only [go_sem,seval,AM,Fm,G2,G9,AQ (show i < 9223372036854775807 by omega)]
    · simpa only [Fq,Fm,G2,G9,List.append_assoc,List.cons_append,List.nil_append,F4,E4 hne2,hl2,hl1] using hup
  have hi' : i = c.ms.length := by omega
  subst hi'
  have hL0 : (BB c d 0).take c.ms.length = BB c d 0 := List.take_of_length_le (by rw [HS]; exact Nat.le_refl _)
  clear hlt hi
  simp -implicitDefEqProofs -proj only [go_sem,seval,Fm,G2,G9,hH,decide_eq_false (show ¬ (c.ms.length : Int) < c.ms.length by omega),hbmH,Fc]
  rw [hL0] at hall hnd hrow h6
  refine EJ (fun i : Nat => i ≤ c.ss.length) 125 (fun i => [(0,.ptr bm 0),(3,.ptr b3 0),(4,.ptr b4 0),(6,.ptr b6 0),(7,.ptr b7 0),(8,.fn Mv [.ptr b6 0,.ptr b7 0]),(52,.d (.sl 3 (Er c.ss))),(53,i64 c.ss.length),(54,i64 i)]) (fun i => Fq b3 b4 b6 b7 k cap f t (sg (Ff c.ss d) i) sv (BB c d 0) mk) (fun i => c.ss.length - i) 0 (Nat.zero_le _) rfl ?_ ?_ ?_
  · simp -implicitDefEqProofs -proj only [go_sem,seval,AM]
    try rfl
  · exact hall
  intro i hi
  have hnd2 : (Aa (Fq b3 b4 b6 b7 k cap f t (sg (Ff c.ss d) i) sv (BB c d 0) mk)).Nodup := by simpa only [Fq,Aa,List.map_append,List.map_cons] using hnd
  have hall2 := Eg hnd2
  clear hall hrow h7 h6 h4 h3 hmkH hbmH hH
  obtain ⟨H,hH⟩ : ∃ H,Ae (Fq b3 b4 b6 b7 k cap f t (sg (Ff c.ss d) i) sv (BB c d 0) mk) = H := ⟨_,rfl⟩
  rw [hH] at hall2
  simp -implicitDefEqProofs only [Fq] at hall2 hnd2
  obtain ⟨hrow,h7,h6,h4,h3,hmkH⟩ := EZ.1 hall2
  have hbmH := hbm hmkH
  by_cases hlt : i < c.ss.length
  · have hel := KT hlt
    have hsok := (hf.good.ss _ (List.getElem_mem hlt)).1
    have hfs := OH hf.good d (i := i) (by omega)
    have hfs2 := OH hf.good d (i := i + 1) (by omega)
    have hsg : sg (Ff c.ss d) (i + 1) = sg (Ff c.ss d) i + (if ER d c.ss[i].f c.ss[i].t then c.ss[i].a else 0) := by
      rw [sg]
      have : Ff c.ss d i = if ER d c.ss[i].f c.ss[i].t then c.ss[i].a else 0 := by
        unfold Ff; rw [List.getElem?_eq_getElem hlt]
      rw [this]
    have hhas := Pt (a := sv) (b := ((G5 (i : Int) : Nat) : Int))
    rw [← hsv,APE h8 h16 hlt,hsv] at hhas
    generalize c.ss[i] = m at *
    simp -implicitDefEqProofs -proj only [go_sem,seval,hH,decide_eq_true (show (i : Int) < c.ss.length by omega)]
    refine Ap _ (by omega) hel ?_
    simp -implicitDefEqProofs -proj only [go_sem,seval]
    refine AK (fun b14 hb14 => ?_)
    replace hb14 : H b14 = none := hb14
    obtain ⟨y1,y2⟩ := AI hb14 h6
    obtain ⟨y3,y4⟩ := AI hb14 h7
    obtain ⟨y5,y6⟩ := AI hb14 h3
    simp -implicitDefEqProofs -proj only [go_sem,seval,y1,y2,y3,y4,y5,y6,h3]
    refine Ec RN ?_
    simp -implicitDefEqProofs -proj only [go_sem,seval]
    refine AJ hhas ?_
    by_cases hw : ER d m.f m.t
    · rw [if_pos hw] at hsg
      simp -implicitDefEqProofs -proj only [go_sem,seval,decide_eq_true hw,y1,y2,y3,y4,y5,y6]
      refine El (Qh (f := f) (t := t) (fx := sg (Ff c.ss d) i) (cv := EO 2 2 k cap (Al (BB c d 0))) (ok := true) (fun e => n7 e.symm) (by simp -implicitDefEqProofs -proj only [go_sem,seval,y1]; exact h6) (by simp -implicitDefEqProofs -proj only [go_sem,seval,y3]; exact h7) (by unfold Fit; omega) (by unfold Fit; omega) (by unfold Fit; omega)) (fun r H' hk => ?_)
      subst hk
      simp -implicitDefEqProofs -proj only [go_sem,seval]
      refine Ah (i + 1) (by omega) (by omega) rfl ?_ ?_
      · simp -implicitDefEqProofs -proj only [go_sem,seval,AM,AQ (show i < 9223372036854775807 by omega)]
      · rw [hsg]
        have hA := fun y => Av (y := y) hb14 hall2
        have hB := fun y => HI (A := BQ 47 2 k cap (Al (BB c d 0)) ++ [(b7,.box 4 [bv true])]) (b := b6) (x' := F4 b6 k cap f t (sg (Ff c.ss d) i + m.a) (BB c d 0)) (by simpa only [List.append_assoc,List.cons_append,List.nil_append] using hA y) (by simpa only [List.append_assoc,List.cons_append,List.nil_append] using hnd2)
        have hC := fun y => HI (A := BQ 47 2 k cap (Al (BB c d 0))) (b := b7) (x := .box 4 [bv true]) (x' := .box 4 [bv true]) (by simpa only [List.append_assoc,List.cons_append,List.nil_append] using hB y) (by simpa only [List.append_assoc,List.cons_append,List.nil_append,Aa,List.map_append,List.map_cons] using hnd2)
        exact hC _
    · rw [if_neg hw,Int.add_zero] at hsg
      simp -implicitDefEqProofs -proj only [go_sem,seval,decide_eq_false hw,y1,y2,y3,y4,y5,y6]
      refine Ah (i + 1) (by omega) (by omega) rfl ?_ ?_
      · simp -implicitDefEqProofs -proj only [go_sem,seval,AM,AQ (show i < 9223372036854775807 by omega)]
      · rw [hsg]
        exact Av hb14 hall2
  have hi' : i = c.ss.length := by omega
  subst hi'
  clear hlt hi
  simp -implicitDefEqProofs -proj only [go_sem,seval,hH,decide_eq_false (show ¬ (c.ss.length : Int) < c.ss.length by omega),hbmH,FN]
  refine EJ (fun y : SpnX => y.i ≤ c.ps.length ∧ (Aa (Fq b3 b4 b6 b7 y.k y.cap f t (FV c d y.i) sv (BB c d y.i) mk)).Nodup) 125 (fun y => [(0,.ptr bm 0),(3,.ptr b3 0),(4,.ptr b4 0),(6,.ptr b6 0),(7,.ptr b7 0),(8,.fn Mv [.ptr b6 0,.ptr b7 0]),(73,.d (.sl 9 (EV c.ps))),(74,i64 c.ps.length),(75,i64 y.i)]) (fun y => Fq b3 b4 b6 b7 y.k y.cap f t (FV c d y.i) sv (BB c d y.i) mk) (fun y => c.ps.length - y.i) ⟨0,k,cap⟩ ⟨Nat.zero_le _,?_⟩ rfl ?_ ?_ ?_
  · simpa only [Fq,Aa,List.map_append,List.map_cons] using hnd2
  · simp -implicitDefEqProofs -proj only [go_sem,seval,AM,Fm]
    try rfl
  · have e0 : FV c d 0 = sg (Ff c.ss d) c.ss.length := by unfold FV Iz; rw [sg]; omega
    simp -implicitDefEqProofs only [Fm,G2,G9,e0]
    exact hall2
  clear hall2 hrow h7 h6 h4 h3 hmkH hbmH hH hnd hnd2
  rintro ⟨i,k',q'⟩ ⟨hi,hnd3⟩
  simp -implicitDefEqProofs only [Fm] at hi
  have hall3 := Eg hnd3
  obtain ⟨H,hH⟩ : ∃ H,Ae (Fq b3 b4 b6 b7 k' q' f t (FV c d i) sv (BB c d i) mk) = H := ⟨_,rfl⟩
  simp -implicitDefEqProofs only [Fm,G2,G9] at hall3 hnd3
  rw [hH] at hall3
  simp -implicitDefEqProofs only [Fq] at hall3 hnd3
  obtain ⟨hrow,h7,h6,h4,h3,hmkH⟩ := EZ.1 hall3
  have hbmH := hbm hmkH
  by_cases hlt : i < c.ps.length
  · have hel := Iw hlt
    have hpok := hf.good.ps _ (List.getElem_mem hlt)
    have hme := (fitsC.bnd hf.good).me _ (List.getElem_mem hlt)
    have hpb := IT hf (List.getElem_mem hlt) (Int.le_refl 0) (Mr hf.good (List.getElem_mem hlt))
    have hhas := Pt (a := sv) (b := ((Hg (i : Int) : Nat) : Int))
    rw [← hsv,ANC h8 hp8 h16 hlt,hsv] at hhas
    have hb3 := (AI9 hlt)
    have hb2 := (T2 hlt)
    have hcr := Te hf (List.getElem_mem hlt)
    have hin := fun hw => X3 (d := d) hlt hme.1 hw
    have hout := fun hw => ADz (d := d) hlt hw
    have hdo := fun hw => ATg (d := d) hlt hw
    obtain ⟨m,hm⟩ : ∃ m : Nat,c.ps[i].me = m := ⟨_,(Int.toNat_of_nonneg hme.1).symm⟩
    have hml : m < c.ms.length := by omega
    have hdi := ACj (d := d) hlt hml hm
    have hzi := fun hw => AIg (d := d) (mx := c.ms[m].mx) hlt hm hw
    have hmxe : EU c.ms c.ps[i].me = c.ms[m].mx := by rw [hm]; exact RK hml
    generalize c.ps[i] = x at *
    simp -implicitDefEqProofs -proj only [go_sem,seval,Fm,G2,G9,hH,decide_eq_true (show (i : Int) < c.ps.length by omega)]
    refine Ap _ (by omega) hel ?_
    simp -implicitDefEqProofs -proj only [go_sem,seval]
    refine AK (fun b16 hb16 => ?_)
    replace hb16 : H b16 = none := hb16
    obtain ⟨y1,y2⟩ := AI hb16 h6
    obtain ⟨y3,y4⟩ := AI hb16 h7
    obtain ⟨y5,y6⟩ := AI hb16 h3
    obtain ⟨y7,y8⟩ := AI hb16 hbmH
    simp -implicitDefEqProofs -proj only [go_sem,seval,y1,y2,y3,y4,y5,y6,h3]
    refine Ec PQ ?_
    simp -implicitDefEqProofs -proj only [go_sem,seval]
    refine AJ hhas ?_
    by_cases hw : ER d x.f x.t
    · have hneb : A5 (E5 c) ≠ [] := by intro e; have := congrArg List.length e; rw [rowI_len,List.length_nil,List.length_map] at this; omega
      have hner : Al (Ex c) ≠ [] := by intro e; have := congrArg List.length e; rw [Gl,List.length_nil,List.length_map] at this; omega
      have hned : Al (BB c d i) ≠ [] := by intro e; have := congrArg List.length e; rw [Gl,List.length_nil,HS] at this; omega
      have hlb : (A5 (E5 c)).length = c.ps.length := by rw [rowI_len,List.length_map]
      have hlr : (Al (Ex c)).length = c.ps.length := by rw [Gl,List.length_map]
      have hld : (Al (BB c d i)).length = c.ms.length := by rw [Gl,HS]
      have hk2 : H k2 = some (.row 3 1 p2 (A5 (E5 c))) := by
        have h := hmkH
        rw [← hmkd] at h
        have h := (EZ.1 h.2).2
        rw [Fs hneb] at h
        exact h.1
      have hk1 : H k1 = some (.row 47 2 p1 (Al (Ex c))) := by
        have h := hmkH
        rw [← hmkd] at h
        have h := (EZ.1 h.2).1
        rw [Fs hner] at h
        exact h.1
      have hk' : H k' = some (.row 47 2 q' (Al (BB c d i))) := by
        have h := hrow
        rw [Fs hned] at h
        exact h.1
      obtain ⟨w1,w2⟩ := AI hb16 hk2
      obtain ⟨w3,w4⟩ := AI hb16 hk1
      obtain ⟨w5,w6⟩ := AI hb16 hk'
      rw [E4 hneb,E4 hner] at hbmH
      rw [Int.toNat_natCast] at hb2 hb3
      simp -implicitDefEqProofs -proj only [go_sem,seval,decide_eq_true hw,y1,y2,y3,y4,y5,y6,y7,y8,hbmH,hlb]
      (repeat' (with_reducible refine Ad ?_ (fun h => ?_); (focus first | decide | omega); clear h; try simp -implicitDefEqProofs -proj only [go_sem,seval,eq_self,y1,y2,y3,y4,y5,y6,y7,y8,hbmH,hlb,w1,w2,hk2]))
      refine BP _ hb2 (by simp) ?_
      simp -implicitDefEqProofs -proj only [go_sem,seval,y1,y2,y3,y4,y5,y6,y7,y8]
      have hcN := Ps hf d hml (i := i) (by omega)
      have hcN2 := Ps hf d hml (i := i + 1) (by omega)
      have hf1 := PS hf d (i := i) (by omega)
      have hf2 := PS hf d (i := i + 1) (by omega)
      rw [hin hw] at hf2
      rw [hmxe] at hb3 hcr
      have hlq : (FC c d m c.ms[m].mx i).length = (Fy x c.ms[m].mx).length := by simp [FC,Fy]
      have hlq2 : (FC c d m c.ms[m].mx i).length = (FC c d m c.ms[m].mx (i + 1)).length := by simp [FC]
      have hsum := ASK hcN hcr hlq (hzi hw) hcN2
      have hbd : (Al (BB c d i))[m]? = some (Gh (FC c d m c.ms[m].mx i)) := by
        have := LL (ls := BB c d i) (i := m) (by rw [HS]; exact hml)
        rw [Int.toNat_natCast,Mo hml] at this
        exact this
      have hset : (Al (BB c d i)).set m (Gh (FC c d m c.ms[m].mx (i + 1))) = Al (BB c d (i + 1)) := by
        rw [hdi]; simp -implicitDefEqProofs only [Al,List.map_set]
      generalize FC c d m c.ms[m].mx i = lA at *
      generalize FC c d m c.ms[m].mx (i + 1) = lS at *
      generalize Fy x c.ms[m].mx = lB at *
      refine El (Qh (f := f) (t := t) (fx := FV c d i) (cv := EO 2 2 k' q' (Al (BB c d i))) (ok := true) (fun e => n7 e.symm) (by simp -implicitDefEqProofs -proj only [go_sem,seval,y1]; exact h6) (by simp -implicitDefEqProofs -proj only [go_sem,seval,y3]; exact h7) (by unfold Fit; omega) (by unfold Fit; omega) (by unfold Fit; omega)) (fun r H2 hk => ?_)
      have hA := fun y => Av (y := y) hb16 hall3
      have hB := fun y => HI (A := BQ 47 2 k' q' (Al (BB c d i)) ++ [(b7,.box 4 [bv true])]) (b := b6) (x' := F4 b6 k' q' f t (FV c d i + pv x 0) (BB c d i)) (by simpa only [List.append_assoc,List.cons_append,List.nil_append] using hA y) (by simpa only [List.append_assoc,List.cons_append,List.nil_append] using hnd3)
      have hC : AU H2 (BQ 47 2 k' q' (Al (BB c d i)) ++ ((b7,.box 4 [bv true]) :: (b6,F4 b6 k' q' f t (FV c d i + pv x 0) (BB c d i)) :: (b4,.box 50 [i64 0,i64 0,i64 0,.nilsl 2]) :: (b3,.box 73 [i64 f,i64 t,u64 sv]) :: mk)) := by
        have hh := fun y => HI (A := BQ 47 2 k' q' (Al (BB c d i))) (b := b7) (x := .box 4 [bv true]) (x' := .box 4 [bv true]) (by simpa only [List.append_assoc,List.cons_append,List.nil_append] using hB y) (by simpa only [List.append_assoc,List.cons_append,List.nil_append,Aa,List.map_append,List.map_cons] using hnd3)
        rw [hk]
        exact hh _
      have h16' : H2 b16 = some (.box 59 [i64 x.me,i64 x.f,i64 x.t,i64 x.al,i64 x.bl,i64 x.ki,Eb x.ts,i64 x.mo,Es x.ad]) := by
        rw [hk,AE y4,AE y2]; simp -implicitDefEqProofs -proj only [go_sem,seval]
      clear hk hA hB
      obtain ⟨hrow',h7',h6',h4',h3',hmkH'⟩ := EZ.1 hC
      have hbm' := hbm hmkH'
      have hk1' : H2 k1 = some (.row 47 2 p1 (Al (Ex c))) := by
        have h := hmkH'
        rw [← hmkd] at h
        have h := (EZ.1 h.2).1
        rw [Fs hner] at h
        exact h.1
      have hk2' : H2 k' = some (.row 47 2 q' (Al (BB c d i))) := by
        have h := hrow'
        rw [Fs hned] at h
        exact h.1
      rw [E4 hneb,E4 hner] at hbm'
      simp -implicitDefEqProofs only [F4] at h6'
      rw [E4 hned] at h6'
      rw [hm] at h16'
      simp -implicitDefEqProofs -proj only [go_sem,seval,h6',h16',hbm',hlr,hld]
      (repeat' (with_reducible refine Ad ?_ (fun h => ?_); (focus first | decide | omega); clear h; try simp -implicitDefEqProofs -proj only [go_sem,seval,eq_self,h6',h16',hbm',hlr,hld,hk1',hk2']))
      refine EA (Gh lA) hbd (by simp [Gh]) ?_
      simp -implicitDefEqProofs -proj only [go_sem,seval,Gh,h6',h16',hbm',hlr,hld]
      (repeat' (with_reducible refine Ad ?_ (fun h => ?_); (focus first | decide | omega); clear h; try simp -implicitDefEqProofs -proj only [go_sem,seval,eq_self,h6',h16',hbm',hlr,hld,hk1',hk2']))
      refine EA _ hb3 (by simp) ?_
      simp -implicitDefEqProofs -proj only [go_sem,seval,h6',h16',hbm',hlr,hld]
      refine Ec hsum ?_
      simp -implicitDefEqProofs -proj only [go_sem,seval,h6',h16',hbm',hlr,hld]
      refine AK (fun b17 hb17 => ?_)
      replace hb17 : H2 b17 = none := hb17
      obtain ⟨u1,u2⟩ := AI hb17 h6'
      obtain ⟨u3,u4⟩ := AI hb17 h7'
      obtain ⟨u5,u6⟩ := AI hb17 h16'
      obtain ⟨u7,u8⟩ := AI hb17 hk2'
      simp -implicitDefEqProofs -proj only [go_sem,seval,h6',h16',hbm',hlr,hld,u1,u2,u3,u4,u5,u6,u7,u8]
      (repeat' (with_reducible refine Ad ?_ (fun h => ?_); (focus first | decide | omega); clear h; try simp -implicitDefEqProofs -proj only [go_sem,seval,eq_self,h6',h7',h16',hbm',hlr,hld,hk1',hk2',u1,u2,u3,u4,u5,u6,u7,u8]))
      refine AJ8 (cap := q') (t := 47) (xs := Al (BB c d i)) (el := Gh lA) (by simp -implicitDefEqProofs -proj only [go_sem,seval,u7,u8]; exact hk2') (by rw [Int.toNat_natCast]; exact hbd) (by simp [Gh]) ?_
      have v1 : ¬ k' = b7 := fun e => by
        rw [e] at hk2'; rw [hk2'] at h7'; cases h7'
      have v2 : ¬ b7 = k' := fun e => v1 e.symm
      simp -implicitDefEqProofs -proj only [go_sem,seval,u1,u2,u3,u4,u5,u6,u7,u8,h7',v1,v2]
      have hned2 : Al (BB c d (i + 1)) ≠ [] := by intro e; have := congrArg List.length e; rw [Gl,List.length_nil,HS] at this; omega
      have hld2 : (Al (BB c d (i + 1))).length = c.ms.length := by rw [Gl,HS]
      have hnd4 : (Aa ((k',Blk.row 47 2 q' (Al (BB c d i))) :: (b7,.box 4 [bv true]) :: (b6,F4 b6 k' q' f t (FV c d i + pv x 0) (BB c d i)) :: (b4,.box 50 [i64 0,i64 0,i64 0,.nilsl 2]) :: (b3,.box 73 [i64 f,i64 t,u64 sv]) :: mk)).Nodup := by
        have h := hnd3
        rw [Fs hned] at h
        simpa only [Aa,List.map_cons,List.cons_append,List.nil_append] using h
      have hD := fun y => Av (y := y) hb17 hC
      rw [Fs hned] at hD
      have hE := fun y => HI (A := []) (b := k') (x' := Blk.row 47 2 q' (Al (BB c d (i + 1)))) (hD y) hnd4
      have hF := fun y => HI (A := [(k',Blk.row 47 2 q' (Al (BB c d (i + 1))))]) (b := b7) (x := .box 4 [bv true]) (x' := .box 4 [bv true]) (hE y) (by simpa only [Aa,List.map_cons,List.cons_append,List.nil_append] using hnd4)
      refine Ah ⟨i + 1,k',q'⟩ ⟨by show i + 1 ≤ c.ps.length; omega,?_⟩ (by show c.ps.length - (i + 1) < c.ps.length - i; omega) rfl ?_ ?_
      · simp -implicitDefEqProofs only [Fq,Fm,G2,G9]
        rw [Fs hned2]
        simpa only [Aa,List.map_cons,List.cons_append,List.nil_append] using hnd4
      · simp -implicitDefEqProofs -proj only [go_sem,seval,AM,Fm,AQ (show i < 9223372036854775807 by omega)]
      · simp -implicitDefEqProofs only [Fq,Fm,G2,G9,hin hw]
        rw [Fs hned2]
        simp -implicitDefEqProofs only [F4,E4 hned2,hld2]
        simp -implicitDefEqProofs only [F4,E4 hned,hld] at hF
        have hG := hF (some (.box 47 [i64 ((lS.length : Int) - 1),Gy (Eh lS)]))
        simp -implicitDefEqProofs only [← hset] at hG ⊢
        exact hG
    · simp -implicitDefEqProofs -proj only [go_sem,seval,decide_eq_false hw,y1,y2,y3,y4,y5,y6]
      refine Ah ⟨i + 1,k',q'⟩ ⟨by show i + 1 ≤ c.ps.length; omega,?_⟩ (by show c.ps.length - (i + 1) < c.ps.length - i; omega) rfl ?_ ?_
      · simpa only [Fq,Fm,G2,G9,Aa,List.map_append,List.map_cons,hdo hw] using hnd3
      · simp -implicitDefEqProofs -proj only [go_sem,seval,AM,Fm,AQ (show i < 9223372036854775807 by omega)]
      · simp -implicitDefEqProofs only [Fm,G2,G9,hout hw,hdo hw]
        exact Av hb16 hall3
  · have hi' : i = c.ps.length := by omega
    subst hi'
    have z1 : ¬ b4 = b6 := n4
    have z2 : ¬ b6 = b4 := n3
    simp -implicitDefEqProofs -proj only [go_sem,seval,Fm,G2,G9,hH,decide_eq_false (show ¬ (c.ps.length : Int) < c.ps.length by omega),h6,h7,h4,n1,n2,n3,n4,n5,n6,n7,n8,n9,n10,n11,n12]
    (repeat' (with_reducible refine Ad ?_ (fun h => ?_); (focus first | decide | omega); clear h; try simp -implicitDefEqProofs -proj only [go_sem,seval,eq_self,h6,h7,h4,n1,n2,n3,n4,n5,n6,n7,n8,n9,n10,n11,n12]))
    refine ⟨k',q',?_,[(b7,.box 4 [bv true]),(b6,F4 b6 k' q' f t (FV c d c.ps.length) (BB c d c.ps.length)),(b4,.box 50 [i64 f,i64 t,i64 (FV c d c.ps.length),EO 2 2 k' q' (Al (BB c d c.ps.length))]),(b3,.box 73 [i64 f,i64 t,u64 sv])],?_,?_⟩
    · rw [AGU hf.good,M2]
    · rw [← M2]
      have hup := HI (A := BQ 47 2 k' q' (Al (BB c d c.ps.length)) ++ [(b7,.box 4 [bv true]),(b6,F4 b6 k' q' f t (FV c d c.ps.length) (BB c d c.ps.length))]) (b := b4) (x := .box 50 [i64 0,i64 0,i64 0,.nilsl 2]) (x' := .box 50 [i64 f,i64 t,i64 (FV c d c.ps.length),EO 2 2 k' q' (Al (BB c d c.ps.length))]) (B := (b3,.box 73 [i64 f,i64 t,u64 sv]) :: mk) (by simpa only [List.append_assoc,List.cons_append,List.nil_append] using hall3) (by simpa only [List.append_assoc,List.cons_append,List.nil_append] using hnd3)
      simpa only [List.append_assoc,List.cons_append,List.nil_append] using hup
    · rw [← M2]
      simpa only [Aa,List.map_append,List.map_cons,List.append_assoc,List.cons_append,List.nil_append,List.map_nil] using hnd3
theorem AB5 {a b : List (List Int)} (ha : ∀ l ∈ a,EI l) (hb : ∀ l ∈ b,EI l) (hla : a.length ≤ 1000000) (hlb : b.length ≤ 1000000) : DataW Tryz.prog Ty [Hy a,Hy b,.fn Ok []] (bv (decide (a = b))) := by
  refine AX Th (by simp) ?_
  by_cases hl : a.length = b.length
  rotate_left
  · simp -implicitDefEqProofs -proj only [go_sem,seval,Gl,decide_eq_false (show ¬ (a.length : Int) = b.length by omega)]
    exact AH (by rw [decide_eq_false (fun e => hl (by rw [e]))])
  simp -implicitDefEqProofs -proj only [go_sem,seval,Gl,decide_eq_true (show (a.length : Int) = b.length by omega)]
  refine EJ (fun i : Nat => i ≤ a.length ∧ ∀ (j : Nat) (h : j < a.length) (h2 : j < b.length),j < i → a[j] = b[j]) 32 (fun i => [(0,Hy a),(1,Hy b),(2,.fn Ok []),(15,Hy a),(16,i64 a.length),(17,i64 i)]) (fun _ => []) (fun i => a.length - i) 0 ⟨Nat.zero_le _,fun j _ _ h => absurd h (Nat.not_lt_zero _)⟩ rfl ?_ ?_ ?_
  · simp -implicitDefEqProofs -proj only [go_sem,seval,AM]
    try simp [hl]
  · simp -implicitDefEqProofs -proj only [go_sem,seval,AU]
  · rintro i ⟨hi,hat⟩
    by_cases h : i < a.length
    · have h' : i < b.length := by omega
      have e1 := LL h
      have e2 := LL h'
      have ca := ha _ (List.getElem_mem h)
      have cb := hb _ (List.getElem_mem h')
      have hst := fun (e : a[i] = b[i]) => IY (l := List.range a.length) (P := fun j _ => ∀ (h : j < a.length) (h2 : j < b.length),a[j] = b[j]) (i := i) (x := i) (by simp [h]) (fun j hj hji => fun h1 h2 => hat j h1 h2 hji) (fun _ _ => e)
      have hne := fun (e : ¬ a[i] = b[i]) => show ¬ a = b from fun k => e (by subst k; rfl)
      have hcall := P3 (m := (a[i].length : Int) - 1) (n := (b[i].length : Int) - 1) (a := Eh a[i]) (b := Eh b[i]) (by have := @KF a[i]; have := ca.2.1; omega) (by have := @KF b[i]; have := cb.2.1; omega)
      rw [show decide ((a[i].length : Int) - 1 = (b[i].length : Int) - 1 ∧ Eh a[i] = Eh b[i]) = decide (a[i] = b[i]) from decide_eq_decide.2 Wz] at hcall
      generalize a[i] = x at *
      generalize b[i] = y at *
      simp -implicitDefEqProofs -proj only [go_sem,seval,decide_eq_true (show (i : Int) < a.length by omega)]
      refine Ap _ (by omega) e1 ?_
      simp -implicitDefEqProofs -proj only [go_sem,seval]
      refine AK (fun b8 hb8 => ?_)
      simp -implicitDefEqProofs -proj only [go_sem,seval]
      refine Ap _ (by omega) e2 ?_
      simp -implicitDefEqProofs -proj only [go_sem,seval]
      refine AK (fun b9 hb9 => ?_)
      simp -implicitDefEqProofs only [AR] at hb9
      have n1 : ¬ b8 = b9 := fun e => by subst e; simp at hb9
      have n2 : ¬ b9 = b8 := fun e => n1 e.symm
      simp -implicitDefEqProofs -proj only [go_sem,seval,n1,n2]
      refine AJ hcall ?_
      by_cases hp : x = y
      · simp -implicitDefEqProofs -proj only [go_sem,seval,decide_eq_true hp]
        refine Ah (i + 1) ⟨by omega,fun j h1 h2 hj => hst hp j (by simpa using h1) (by omega) h1 h2⟩ (by omega) rfl ?_ trivial
        simp -implicitDefEqProofs -proj only [go_sem,seval,AM,AQ (show i < 9223372036854775807 by omega)]
      · simp -implicitDefEqProofs -proj only [go_sem,seval,decide_eq_false hp]
        exact AH (by rw [decide_eq_false (hne hp)])
    · have hi' : i = a.length := by omega
      subst hi'
      simp -implicitDefEqProofs -proj only [go_sem,seval,decide_eq_false (show ¬ (a.length : Int) < a.length by omega)]
      exact AH (by rw [decide_eq_true (List.ext_getElem hl fun j h1 h2 => hat j h1 h2 h1)])
theorem ATb {a b : Seg EN} (ha : ∀ l ∈ a.v.2,EI l) (hb : ∀ l ∈ b.v.2,EI l) (hla : a.v.2.length ≤ 1000000) (hlb : b.v.2.length ≤ 1000000) : DataW Tryz.prog AB1 [JK a,JK b] (bv (decide (a.v = b.v))) := by
  have h1 := AB5 ha hb hla hlb
  obtain ⟨f,t,⟨x,la⟩⟩ := a
  obtain ⟨g,u,⟨y,lb⟩⟩ := b
  simp -implicitDefEqProofs only [] at h1 ⊢
  refine AX ATF (by simp) ?_
  simp -implicitDefEqProofs -proj only [go_sem,seval]
  refine AK (fun b2 hb2 => ?_)
  simp -implicitDefEqProofs -proj only [go_sem,seval]
  refine AK (fun b3 hb3 => ?_)
  replace hb3 : upd Heap.none b2 _ b3 = none := hb3
  obtain ⟨n1,n2⟩ := AI hb3 AT
  by_cases hxy : x = y
  · simp -implicitDefEqProofs -proj only [go_sem,seval,n1,n2,decide_eq_true hxy]
    refine AJ h1 ?_
    simp -implicitDefEqProofs -proj only [go_sem,seval]
    exact AH (by rw [decide_eq_decide.2 (show (x,la) = (y,lb) ↔ la = lb from ⟨fun e => (Prod.mk.inj e).2,fun e => by rw [hxy,e]⟩)])
  · simp -implicitDefEqProofs -proj only [go_sem,seval,n1,n2,decide_eq_false hxy]
    exact AH (by rw [decide_eq_false (fun e => hxy (Prod.mk.inj e).1)])
section
variable {P : Program} {Q : Out → St → Prop} {k : List Item} {s : St} {d : Option Nat} {l : List AO}
theorem So {e : TypeId} {sz bytes b len cap : Nat} {z : List AV} {xs ys : List (List D)} (hb : s.H b = some (.row e sz cap xs)) (hlb : len = xs.length) (hz : z.length = sz) (hbd : (xs.length + ys.length) * bytes ≤ 140737488355328 ∧ xs.length + ys.length ≤ maxLen)
    (hk : ∀ b' cap' H',H' b' = some (.row e sz cap' (xs ++ ys)) → (∀ k x,s.H k = some x → ¬ k = b → H' k = some x ∧ ¬ k = b' ∧ ¬ b' = k) → AP P Q l k (AL s d (.own b' sz 0 (len + ys.length) cap') H')) : Hq e sz bytes z (.own b sz 0 len cap) (.d (.sl sz ys)) d l k s P Q := by
  by_cases h : ys = []
  · subst h
    refine AJp hz ?_
    have := hk b cap s.H (by rw [List.append_nil]; exact hb) (fun k x h1 h2 => ⟨h1,h2,fun e => h2 e.symm⟩)
    simpa using this
  · refine AMS (len := 0) hb hlb h hz hbd (fun b' cap' hb' => hk b' cap' _ AT (fun k x h1 h2 => ?_))
    have hne : ¬ k = b' := by
      rintro rfl
      rw [AE (fun e => h2 e.symm),h1] at hb'
      cases hb'
    exact ⟨by rw [AE (fun e => hne e.symm),AE (fun e => h2 e.symm)]; exact h1,hne,fun e => hne e.symm⟩
end
theorem ZX {ms : List MeterX} (hl : ms.length ≤ 1000000) : DataW Tryz.prog AN7 [.d (.sl 5 (EP ms))] (.d (.sl 5 (EP ms))) := by
  refine AX ASc (by simp) ?_
  simp -implicitDefEqProofs -proj only [go_sem,seval]
  refine ADv ?_ (fun h0 => ?_)
  · simp -implicitDefEqProofs -proj only [go_sem,seval]
    refine Ao (fun bs hs => ?_)
    simp -implicitDefEqProofs -proj only [go_sem,seval]
    refine So (xs := []) (ys := EP ms) (cap := 0) (e := 42) (by simp -implicitDefEqProofs -proj only [go_sem,seval]) rfl rfl (by rw [Fe]; simp [maxLen]; omega) (fun b' cap' H' h1 h2 => ?_)
    simp -implicitDefEqProofs -proj only [go_sem,seval]
    rw [List.nil_append] at h1
    have := LendV.own b' 5 cap' 42 cap' (EP ms) h1
    simpa only [List.length_nil,Nat.zero_add] using this
  · simp -implicitDefEqProofs -proj only [go_sem,seval]
    rw [h0]
    exact .nilsl _ _
def Rw (s : Seg EN) : Prop := (∀ l ∈ s.v.2,EI l) ∧ s.v.2.length ≤ 1000000
structure NrX where
  k : Nat
  cap : Nat
  acc : List (Seg EN)
theorem Id {k cap : Nat} {acc : List (Seg EN)} : (NrX.mk k cap acc).k = k := (rfl)
theorem IS {k cap : Nat} {acc : List (Seg EN)} : (NrX.mk k cap acc).cap = cap := (rfl)
theorem Gw {k cap : Nat} {acc : List (Seg EN)} : (NrX.mk k cap acc).acc = acc := (rfl)
def F9 (c : CoreX) (k cap : Nat) (acc : List (Seg EN)) : Blk := .box 32 [.d (.str c.cur),i64 c.f,i64 c.t,.d (.sl 5 (EP c.ms)),EO 4 4 k cap (EK acc)]
def Ft (b10 : Nat) (c : CoreX) (T : List (Nat × Blk)) (y : NrX) : List (Nat × Blk) := BQ 50 4 y.k y.cap (EK y.acc) ++ ((b10,F9 c y.k y.cap y.acc) :: T)
theorem SO {k : Nat} {x : Blk} : ∀ {l : List (Nat × Blk)},Ae l k = some x → (k,x) ∈ l
  | [],h => by cases h
  | (b,y) :: l,h => by
    rw [Am] at h
    by_cases e : k = b
    · rw [if_pos e] at h; cases h; subst e; exact List.mem_cons_self ..
    · rw [if_neg e] at h; exact List.mem_cons_of_mem _ (SO h)
theorem ACQ {H H' H1 : Heap} {L M : List (Nat × Blk)} (hL : AU H L) (hM : AU H M) (h1 : AU H1 M) (a : ∀ k x,H1 k = some x → H' k = some x) (b : ∀ k x,H k = some x → Ae M k = none → H' k = some x) : AU H' L :=
  E2.2 fun p hp => by
    have hpH := E2.1 hL p hp
    cases e : Ae M p.1 with
    | none => exact b _ _ hpH e
    | some y =>
      have hy := SO e
      have e1 := E2.1 hM _ hy
      have e2 := E2.1 h1 _ hy
      simp -implicitDefEqProofs only at e1 e2
      rw [hpH] at e1
      cases e1
      exact a _ _ e2
theorem Ru {H : Heap} {f t x : Int} {kc cap : Nat} {xs : List (List D)} {K : List D → Heap → Prop} (h : AU H (BQ 47 2 kc cap xs)) (hk : ∀ H',(∀ k y,H k = some y → k ∉ Aa (BQ 47 2 kc cap xs) → H' k = some y) → K [.int .i64 f,.int .i64 t,.int .i64 x,.sl 2 xs] H') : As H [i64 f,i64 t,i64 x,EO 2 2 kc cap xs] K := by
  cases xs with
  | nil =>
    simp -implicitDefEqProofs only [As,Az,EO]
    exact hk H fun k y h _ => h
  | cons y ys =>
    simp -implicitDefEqProofs only [As,EO]
    simp -implicitDefEqProofs only [Az]
    have h1 := h.1
    simp -implicitDefEqProofs only [h1]
    refine ⟨⟨trivial,trivial,trivial⟩,hk _ fun k z hz hn => ?_⟩
    rw [AE (fun e => hn (by subst e; exact List.mem_cons_self ..))]
    exact hz
theorem Pn {H H' : Heap} {L N : List (Nat × Blk)} (hL : AU H L) (hk : ∀ k y,H k = some y → k ∉ Aa N → H' k = some y) (hd : ∀ k ∈ Aa L,k ∉ Aa N) : AU H' L :=
  E2.2 fun p hp => hk _ _ (E2.1 hL p hp) (hd _ (List.mem_map_of_mem hp))
theorem ZL {n : Nat} (h : n ≤ 8) : 2 ^ (8 + n) ≤ 65536 := Nat.pow_le_pow_right (n := 2) (by omega) (show 8 + n ≤ 16 by omega)
set_option maxRecDepth 20000 in
set_option maxHeartbeats 4000000 in
theorem AQT {c : CoreX} {R : List Run} {T : List (Nat × Blk)} {b2 b3 b4 b10 bm k1 p1 k2 p2 : Nat} {t0 : TM} {Rst : Out → St → Prop} (hc : c.Fit) (hf : fitsC c) (hR : Ix c = R)
    (hT4 : (b4,.box 53 [.ptr bm 0]) ∈ T) (hTm : ∀ p ∈ Fz bm c k1 p1 k2 p2,p ∈ T) (hTb : ∀ p ∈ T,p ∈ Fz bm c k1 p1 k2 p2 ∨ ∃ t cells,p.2 = .box t cells) (hnm : (Aa (Fz bm c k1 p1 k2 p2)).Nodup)
    {i : Nat} (hi : i < R.length) (pre : List (List AV)) (hpre : pre.length = i) {y : NrX} (hy : y.acc = Fl (FE c) R i) (hn : (Aa (Ft b10 c T y)).Nodup) :
    E8 Tryz.prog (J9 (fun pre y => y.acc = Fl (FE c) R pre.length ∧ (Aa (Ft b10 c T y)).Nodup) (Ft b10 c T) (pre ++ [[(R[i]).avU]]) 115 t0 Rst) (.seq (.ops Q9) Sa) []
      ⟨115,Gs 115 (Ev [(2,.ptr b2 0),(3,.ptr b3 0),(4,.ptr b4 0),(10,.ptr b10 0)]) [75] [(R[i]).avU],Ae (Ft b10 c T y)⟩ := by
  obtain ⟨⟨g1,g2⟩,⟨g3,g4⟩,g5,g6,g7,g8⟩ := hf.good.hd
  have hfw := LY (c := c) g3
  rw [hR] at hfw
  have hri := List.getElem?_eq_getElem hi
  obtain ⟨v1,v2,v3,v4,_,_,_⟩ := hfw.nth2 i _ hri
  have hadd := Nl hfw (OG g7)
  have hrv := v4 _ (Int.le_refl _) v2
  have h16 : Fd c R[i].f < 65536 := Nat.lt_of_lt_of_le (Ns g7 c.ps.length) (ZL g8)
  have hstep : Fl (FE c) R (i + 1) = JY (Fl (FE c) R i) ⟨R[i].f,R[i].t,FE c R[i].f⟩ := by
    rw [Fl,hri]
  obtain ⟨k,cap,acc⟩ := y
  simp -implicitDefEqProofs only [Gw] at hy
  obtain ⟨H,hH⟩ : ∃ H,Ae (Ft b10 c T ⟨k,cap,acc⟩) = H := ⟨_,rfl⟩
  have hall := Eg hn
  rw [hH] at hall ⊢
  simp -implicitDefEqProofs only [Ft,Id,IS,Gw] at hall hn
  obtain ⟨hrow,h10,hTH⟩ := EZ.1 hall
  have h4 : H b4 = some (.box 53 [.ptr bm 0]) := E2.1 hTH _ hT4
  have hM : AU H (Fz bm c k1 p1 k2 p2) := Om hTH hTm
  have hacc : ∀ A s,acc = A ++ [s] → Rw s ∧ A.length ≤ 4000 := by
    intro A s e
    cases i with
    | zero => rw [hy] at e; simp [Fl] at e
    | succ j =>
      have hj : j < R.length := by omega
      obtain ⟨w1,w2,w3,w4,_,_,_⟩ := hfw.nth2 j _ (List.getElem?_eq_getElem hj)
      obtain ⟨A',s',e1,e2,e3,e4⟩ := hadd j _ (List.getElem?_eq_getElem hj)
      rw [hy,e1] at e
      obtain ⟨rfl,e5⟩ := List.append_inj' e rfl
      simp -implicitDefEqProofs only [List.cons.injEq,and_true] at e5
      subst e5
      have := e4.len
      simp -implicitDefEqProofs only [List.length_append,List.length_singleton] at this
      refine ⟨⟨fun l hl => ?_,?_⟩,by omega⟩
      · rw [e2] at hl; exact Lv hf _ l hl
      · rw [e2]; show (E9 c _ c.ms.length).length ≤ 1000000; rw [dayLs_len]; omega
  generalize hg : R[i] = r at *
  simp -implicitDefEqProofs -proj only [go_sem,seval,h4]
  refine AK (fun b12 hb12 => ?_)
  replace hb12 : H b12 = none := hb12
  obtain ⟨y1,y2⟩ := AI hb12 h4
  simp -implicitDefEqProofs -proj only [go_sem,seval,h4,y1,y2]
  have hsp := S3 (bm := bm) (k1 := k1) (p1 := p1) (k2 := k2) (p2 := p2) (f := r.f) (t := r.t) (d := r.f) hc hf g7 g8 h16 hnm
  rw [hrv] at hsp
  have hall12 := Av (y := some (.box 73 [i64 r.f,i64 r.t,u64 r.v])) hb12 hall
  have hM12 := Av (y := some (.box 73 [i64 r.f,i64 r.t,u64 r.v])) hb12 hM
  refine El (OE hsp (KP hM12)) ?_
  rintro rr H2 ⟨H1,⟨kc,capc,rfl,rest,hA1,hN1⟩,hsub,hkeep⟩
  have hM1 : AU H1 (Fz bm c k1 p1 k2 p2) := (EZ.1 hA1).2
  have hall2 : AU H2 (BQ 50 4 k cap (EK acc) ++ (b10,F9 c k cap acc) :: T) := ACQ hall12 hM12 hM1 hsub hkeep
  have hls : (Gq c r.f,E9 c r.f c.ms.length) = FE c r.f := rfl
  have hcu : Rw ⟨r.f,r.t,FE c r.f⟩ := ⟨Lv hf _,by show (E9 c r.f c.ms.length).length ≤ 1000000; rw [dayLs_len]; omega⟩
  have hLC : AU H2 (BQ 47 2 kc capc (Al (E9 c r.f c.ms.length))) := E2.2 fun p hp => hsub _ _ (E2.1 (EZ.1 (EZ.1 hA1).1).1 p hp)
  have hdj : ∀ p ∈ Aa (BQ 47 2 kc capc (Al (E9 c r.f c.ms.length))),p ∉ Aa (BQ 50 4 k cap (EK acc) ++ (b10,F9 c k cap acc) :: T) := by
    intro p hp hq
    obtain ⟨⟨q1,q2⟩,hq1,rfl⟩ := List.mem_map.1 hp
    obtain ⟨⟨u1,u2⟩,hu1,hu2⟩ := List.mem_map.1 hq
    simp -implicitDefEqProofs only at hu2
    subst hu2
    have e1 := E2.1 hLC _ hq1
    have e2 := E2.1 hall2 _ hu1
    simp -implicitDefEqProofs only at e1 e2
    rw [e1] at e2
    have hq3 : q2 = .row 47 2 capc (Al (E9 c r.f c.ms.length)) := by
      generalize Al (E9 c r.f c.ms.length) = xs at hq1 ⊢
      cases xs with
      | nil => cases hq1
      | cons a az => simp -implicitDefEqProofs only [BQ,List.mem_singleton,Prod.mk.injEq] at hq1; exact hq1.2
    subst hq3
    rcases List.mem_append.1 hu1 with hu | hu
    · generalize EK acc = xs at hu
      cases xs with
      | nil => cases hu
      | cons a az => simp -implicitDefEqProofs only [BQ,List.mem_singleton,Prod.mk.injEq] at hu; rw [hu.2] at e2; cases e2
    · rcases List.mem_cons.1 hu with hu | hu
      · simp -implicitDefEqProofs only [Prod.mk.injEq] at hu; rw [hu.2,F9] at e2; cases e2
      · rcases hTb _ hu with hm | ⟨t,cells,hm⟩
        · simp -implicitDefEqProofs only [Aa,List.map_append,List.nodup_append] at hN1
          exact hN1.2.2 _ (List.mem_append_left _ hp) _ (List.mem_map_of_mem hm) rfl
        · simp -implicitDefEqProofs only at hm; rw [hm] at e2; cases e2
  have hlc : ∀ l ∈ E9 c r.f c.ms.length,EI l := Lv hf _
  rw [hls.symm] at hstep hcu
  generalize E9 c r.f c.ms.length = LS at *
  generalize Gq c r.f = F0 at *
  obtain ⟨cs,hcs⟩ : ∃ cs,[i64 r.f,i64 r.t,i64 F0,EO 2 2 kc capc (Al LS)] = cs := ⟨_,rfl⟩
  have hcl : Af cs = 4 := by rw [← hcs]; rfl
  have hcg : cs.take 4 = cs := by rw [← hcs]; rfl
  have hct : setSeg [.d (.int .i64 0),.d (.int .i64 0),.d (.int .i64 0),.nilsl 2] 0 cs = cs := by rw [← hcs]; rfl
  have hcn : nth cs 1 = i64 r.t := by rw [← hcs]; rfl
  rw [hcs]
  simp -implicitDefEqProofs -proj only [go_sem,seval,hcl,hcg,hct,hcn]
  refine AK (fun b13 hb13 => ?_)
  replace hb13 : H2 b13 = none := hb13
  have h10' : H2 b10 = some (F9 c k cap acc) := (EZ.1 hall2).2.1
  have hrow2 := (EZ.1 hall2).1
  obtain ⟨y3,y4⟩ := AI hb13 h10'
  simp -implicitDefEqProofs only [F9] at h10'
  have hall3 := fun y => Av (y := y) hb13 hall2
  have hLC3 := fun y => Av (y := y) hb13 hLC
  by_cases c0 : acc = []
  · subst c0
    have hnew : Fl (FE c) R (i + 1) = [⟨r.f,r.t,(F0,LS)⟩] := by rw [hstep,← hy]; rfl
    simp -implicitDefEqProofs only [EK,List.map_nil,MQ,KK,List.nil_append] at h10' hall3 hn hdj
    simp -implicitDefEqProofs -proj only [go_sem,seval,h10',y3,y4,hcl,hcg,hct,hcn]
    rw [← hcs]
    refine Ru (hLC3 _) (fun H4 hk4 => ?_)
    have hall4 := Pn (hall3 _) hk4 (fun p hp hq => hdj p hq hp)
    simp -implicitDefEqProofs -proj only [go_sem,seval]
    refine Ao (fun bs hs => ?_)
    replace hs : H4 bs = none := hs
    simp -implicitDefEqProofs -proj only [go_sem,seval]
    have hn0 : (Aa (BQ 50 4 0 0 (EK ([] : List (Seg EN))) ++ (b10,.box 32 [.d (.str c.cur),i64 c.f,i64 c.t,.d (.sl 5 (EP c.ms)),.nilsl 4]) :: T)).Nodup := by simpa only [F9,EK,List.map_nil,KK,MQ,Aa,List.map_cons,List.nil_append] using hn
    simp -implicitDefEqProofs only [F9,MQ] at hall4
    refine Fr (c := 0) (cap := 0) (z0 := 4) (xs := EK ([] : List (Seg EN))) (y := [.int .i64 r.f,.int .i64 r.t,.int .i64 F0,.sl 2 (Al LS)]) (t := 50) (capc := 1) ((b10,.box 32 [.d (.str c.cur),i64 c.f,i64 c.t,.d (.sl 5 (EP c.ms)),.nilsl 4]) :: T) rfl (Av hs hall4) hn0 (by simp -implicitDefEqProofs -proj only [go_sem,seval]; try rfl) (by simp [EK]) (by simp [EK]) (fun H' c2 cap2 ha hk => ?_)
    rw [show EK ([] : List (Seg EN)) ++ [[.int .i64 r.f,.int .i64 r.t,.int .i64 F0,.sl 2 (Al LS)]] = EK [⟨r.f,r.t,(F0,LS)⟩] by simp [EK,Jh]] at ha hk
    have q10 := (EZ.1 ha).2.1
    simp -implicitDefEqProofs -proj only [go_sem,seval,q10]
    have hne' : EK ([⟨r.f,r.t,(F0,LS)⟩] : List (Seg EN)) ≠ [] := by simp [EK]
    refine Kv ⟨c2,cap2,[⟨r.f,r.t,(F0,LS)⟩]⟩ ⟨?_,?_⟩ ?_
    · simp -implicitDefEqProofs only [Gw,List.length_append,List.length_singleton,hpre]; exact hnew.symm
    · simpa only [Ft,Id,IS,Gw,Aa,List.map_append,List.map_cons] using hk
    · have hup := HI (x' := F9 c c2 cap2 [⟨r.f,r.t,(F0,LS)⟩]) ha hk
      simp -implicitDefEqProofs only [Ft,Id,IS,Gw]
      simp -implicitDefEqProofs only [F9,E4 hne'] at hup ⊢
      exact hup
  · obtain ⟨A,s,hAs⟩ : ∃ A s,acc = A ++ [s] := ⟨acc.dropLast,acc.getLast c0,(List.dropLast_concat_getLast c0).symm⟩
    obtain ⟨hcs2,hal⟩ := hacc A s hAs
    have hnew : Fl (FE c) R (i + 1) = if s.v = (F0,LS) then A ++ [⟨s.f,r.t,s.v⟩] else A ++ [s] ++ [⟨r.f,r.t,(F0,LS)⟩] := by
      rw [hstep,← hy,hAs,JY]
      simp -implicitDefEqProofs only [List.getLast?_append,List.getLast?_singleton,Option.some_or,List.dropLast_concat]
    clear hacc hstep
    subst hAs
    have hne : EK (A ++ [s]) ≠ [] := by simp [EK]
    have hxl : (EK (A ++ [s])).length = A.length + 1 := by rw [Jz]; simp
    rw [E4 hne,hxl] at h10'
    simp -implicitDefEqProofs only [Fs hne] at hn hdj hall2 hall3
    have hkH : H2 k = some (.row 50 4 cap (EK (A ++ [s]))) := hall2.1
    obtain ⟨x1,x2⟩ := AI hb13 hkH
    have w2 : IntKind.i64.wrap (((A.length + 1 : Nat) : Int) - 1) = (A.length : Int) := by rw [IntKind.wrap_i64]; omega
    have hat := ACN (S := A ++ [s]) (i := A.length) (s := s) (by simp)
    have hcall := ATb (a := s) (b := ⟨r.f,r.t,(F0,LS)⟩) hcs2.1 hcu.1 hcs2.2 hcu.2
    simp -implicitDefEqProofs -proj only [go_sem,seval,h10',y3,y4,hcl,hcg,hct,hcn,w2,decide_eq_true (show (0 : Int) < ((A.length + 1 : Nat) : Int) by omega)]
    refine Ad ⟨by omega,by omega⟩ (fun _ => ?_)
    simp -implicitDefEqProofs -proj only [go_sem,seval,Int.toNat_natCast,x1,x2,hkH]
    refine EA _ hat (by simp) ?_
    simp -implicitDefEqProofs -proj only [go_sem,seval,hcl,hcg,hct,hcn]
    have hlend : ∀ y,LendV (upd H2 b13 y) (.agg cs) (JK ⟨r.f,r.t,(F0,LS)⟩) := fun y => by
      rw [← hcs]
      exact Qm (K9 (hLC3 y))
    refine LG hcall (Fx (.refl _) (Fx (hlend _) Hp)) rfl ?_
    by_cases ca : s.v = (F0,LS)
    · rw [if_pos ca] at hnew
      simp -implicitDefEqProofs -proj only [go_sem,seval,decide_eq_true ca,h10',y3,y4,hcl,hcg,hct,hcn,w2,x1,x2,hkH]
      refine Ad ⟨by omega,by omega⟩ (fun _ => ?_)
      simp -implicitDefEqProofs -proj only [go_sem,seval,Int.toNat_natCast,x1,x2,hkH]
      refine NL (cap := cap) (by simp -implicitDefEqProofs -proj only [go_sem,seval,x1,x2]; exact hkH) hat (by simp) ?_
      have hset := TL (A := A) (s := s) (x := r.t)
      have hne1 : EK (A ++ [⟨s.f,r.t,s.v⟩]) ≠ [] := by simp [EK]
      have hxl1 : (EK (A ++ [⟨s.f,r.t,s.v⟩])).length = A.length + 1 := by rw [Jz]; simp
      simp -implicitDefEqProofs -proj only [go_sem,seval,Gb,hset]
      refine Kv ⟨k,cap,A ++ [⟨s.f,r.t,s.v⟩]⟩ ⟨?_,?_⟩ ?_
      · simp -implicitDefEqProofs only [Gw,List.length_append,List.length_singleton,hpre]; exact hnew.symm
      · simp -implicitDefEqProofs only [Ft,Id,IS,Gw,Fs hne1]
        simpa only [Aa,List.map_append,List.map_cons] using hn
      · have hup := fun y => HI (A := []) (b := k) (x' := Blk.row 50 4 cap (EK (A ++ [⟨s.f,r.t,s.v⟩]))) (hall3 y) hn
        simp -implicitDefEqProofs only [Ft,Id,IS,Gw,Fs hne1]
        simp -implicitDefEqProofs only [F9,E4 hne,E4 hne1,hxl,hxl1] at hup ⊢
        exact hup _
    · rw [if_neg ca] at hnew
      simp -implicitDefEqProofs -proj only [go_sem,seval,decide_eq_false ca,h10',y3,y4,hcl,hcg,hct,hcn,w2,x1,x2,hkH]
      rw [← hcs]
      refine Ru (hLC3 _) (fun H4 hk4 => ?_)
      have hall4 := Pn (hall3 _) hk4 (fun p hp hq => hdj p hq hp)
      simp -implicitDefEqProofs -proj only [go_sem,seval]
      refine Ao (fun bs hs => ?_)
      replace hs : H4 bs = none := hs
      simp -implicitDefEqProofs -proj only [go_sem,seval]
      have hn1 : (Aa (BQ 50 4 k cap (EK (A ++ [s])) ++ (b10,F9 c k cap (A ++ [s])) :: T)).Nodup := by rw [Fs hne]; exact hn
      have hrv1 : EO 4 4 k cap (EK (A ++ [s])) = .own k 4 0 (A.length + 1) cap := by rw [E4 hne,hxl]
      rw [← hrv1]
      refine Fr (c := k) (cap := cap) (z0 := 4) (xs := EK (A ++ [s])) (y := [.int .i64 r.f,.int .i64 r.t,.int .i64 F0,.sl 2 (Al LS)]) (t := 50) (capc := 1) ((b10,F9 c k cap (A ++ [s])) :: T) rfl (Av hs (by rw [Fs hne]; exact hall4)) hn1 (by simp -implicitDefEqProofs -proj only [go_sem,seval]; try rfl) (by rw [hxl]; omega) (by rw [hxl]; omega) (fun H' c2 cap2 ha hk => ?_)
      rw [show EK (A ++ [s]) ++ [[.int .i64 r.f,.int .i64 r.t,.int .i64 F0,.sl 2 (Al LS)]] = EK (A ++ [s] ++ [⟨r.f,r.t,(F0,LS)⟩]) by simp [EK,Jh]] at ha hk
      have q10 := (EZ.1 ha).2.1
      simp -implicitDefEqProofs only [F9] at q10
      simp -implicitDefEqProofs -proj only [go_sem,seval,q10]
      have hne' : EK (A ++ [s] ++ [⟨r.f,r.t,(F0,LS)⟩]) ≠ [] := by simp [EK]
      have hxl' : (EK (A ++ [s] ++ [⟨r.f,r.t,(F0,LS)⟩])).length = (EK (A ++ [s])).length + 1 := by simp [EK]
      refine Kv ⟨c2,cap2,A ++ [s] ++ [⟨r.f,r.t,(F0,LS)⟩]⟩ ⟨?_,?_⟩ ?_
      · simp -implicitDefEqProofs only [Gw,List.length_append,List.length_singleton,hpre]; exact hnew.symm
      · simpa only [Ft,Id,IS,Gw,Aa,List.map_append,List.map_cons] using hk
      · have hup := HI (x' := F9 c c2 cap2 (A ++ [s] ++ [⟨r.f,r.t,(F0,LS)⟩])) ha hk
        simp -implicitDefEqProofs only [Ft,Id,IS,Gw]
        simp -implicitDefEqProofs only [F9,E4 hne',hxl'] at hup ⊢
        exact hup
structure MkX where
  i : Nat
  k1 : Nat
  p1 : Nat
  k2 : Nat
  p2 : Nat
theorem Il {i a b c d : Nat} : (MkX.mk i a b c d).i = i := (rfl)
theorem L5 {i a b c d : Nat} : (MkX.mk i a b c d).k1 = a := (rfl)
theorem L4 {i a b c d : Nat} : (MkX.mk i a b c d).p1 = b := (rfl)
theorem MJ {i a b c d : Nat} : (MkX.mk i a b c d).k2 = c := (rfl)
theorem Lt {i a b c d : Nat} : (MkX.mk i a b c d).p2 = d := (rfl)
theorem Ni {xs ys : List (Nat × Blk)} (h : (Aa (xs ++ ys)).Nodup) : (Aa (ys ++ xs)).Nodup := by
  simp -implicitDefEqProofs only [Aa,List.map_append,List.nodup_append] at h ⊢
  exact ⟨h.2.1,h.1,fun a ha b hb e => h.2.2 b hb a ha e.symm⟩
theorem OO {H : Heap} {xs ys : List (Nat × Blk)} (h : AU H (xs ++ ys)) : AU H (ys ++ xs) := EZ.2 ⟨(EZ.1 h).2,(EZ.1 h).1⟩
def KH (b1 b2 b3 b4 bm : Nat) (c : CoreX) (kv bvs : AV) : List (Nat × Blk) := [(bm,.box 55 (KS c kv bvs)),(b4,.box 53 [.ptr bm 0]),(b3,.box 33 [i64 0]),(b2,.box 32 [.d (.str ⟨⟨[]⟩⟩),i64 0,i64 0,.nilsl 5,.nilsl 4]),(b1,.box 26 [.d (.str c.cur),i64 c.f,i64 c.t,.d (.sl 5 (EP c.ms)),.d (.sl 3 (Er c.ss)),.d (.sl 9 (EV c.ps))])]
def Iq (b1 b2 b3 b4 bm : Nat) (c : CoreX) (y : MkX) : List (Nat × Blk) := BQ 47 2 y.k1 y.p1 (Al ((Ex c).take y.i)) ++ (BQ 3 1 y.k2 y.p2 (A5 ((E5 c).take y.i)) ++ KH b1 b2 b3 b4 bm c (EO 2 2 y.k1 y.p1 (Al ((Ex c).take y.i))) (EO 1 1 y.k2 y.p2 (A5 ((E5 c).take y.i))))
theorem ZQ {a b : List Nat} {m x4 x3 x2 x1 : Nat} (h : (a ++ (b ++ [m,x4,x3,x2,x1])).Nodup) : (x4 :: x3 :: x2 :: (m :: (a ++ b))).Nodup := by
  have p : (a ++ (b ++ [m,x4,x3,x2,x1])).Perm ((x4 :: x3 :: x2 :: (m :: (a ++ b))) ++ [x1]) := List.perm_iff_count.2 fun y => by
    simp -implicitDefEqProofs only [List.count_append,List.count_cons,List.count_nil,List.cons_append,List.nil_append]
    omega
  exact (p.nodup_iff.1 h).sublist (List.sublist_append_left _ _)
theorem UP {x3 x4 x2 v : Nat} {l : List Nat} (h : (x4 :: x3 :: x2 :: l).Nodup) (hv : v ∉ (x4 :: x3 :: x2 :: l)) : (x4 :: x3 :: x2 :: v :: l).Nodup := by
  have p : (x4 :: x3 :: x2 :: v :: l).Perm (v :: x4 :: x3 :: x2 :: l) := List.perm_iff_count.2 fun y => by
    simp -implicitDefEqProofs only [List.count_cons]
    omega
  exact p.nodup_iff.2 (List.nodup_cons.2 ⟨hv,h⟩)
set_option maxRecDepth 20000 in
set_option maxHeartbeats 4000000 in
theorem AF6 {c : CoreX} (hc : c.Fit) (hf : fitsC c) : DataW Tryz.prog ADl [HV c] (.tup [JD c.cur c.f c.t c.ms (KR c),i64 0]) := by
  obtain ⟨⟨g1,g2⟩,⟨g3,g4⟩,g5,g6,g7,g8⟩ := hf.good.hd
  have hgd := Px hc
  rw [decide_eq_true hf.good] at hgd
  refine AX APy (by simp) ?_
  simp -implicitDefEqProofs -proj only [go_sem,seval]
  refine AK (fun b1 hb1 => ?_)
  simp -implicitDefEqProofs -proj only [go_sem,seval]
  refine AK (fun b2 hb2 => ?_)
  replace hb2 : upd Heap.none b1 _ b2 = none := hb2
  obtain ⟨n1,n2⟩ := AI hb2 AT
  simp -implicitDefEqProofs -proj only [go_sem,seval,n1,n2]
  refine AK (fun b3 hb3 => ?_)
  replace hb3 : upd (upd Heap.none b1 _) b2 _ b3 = none := hb3
  obtain ⟨n3,n4⟩ := AI hb3 AT
  obtain ⟨n5,n6⟩ := AI hb3 (by rw [AE n1]; exact AT)
  simp -implicitDefEqProofs -proj only [go_sem,seval,n1,n2,n3,n4,n5,n6]
  refine AJ hgd ?_
  simp -implicitDefEqProofs -proj only [go_sem,seval,n1,n2,n3,n4,n5,n6]
  refine AK (fun bm hbm => ?_)
  replace hbm : upd (upd (upd Heap.none b1 _) b2 _) b3 _ bm = none := hbm
  obtain ⟨n7,n8⟩ := AI hbm AT
  obtain ⟨n9,n10⟩ := AI hbm (by rw [AE n3]; exact AT)
  obtain ⟨n11,n12⟩ := AI hbm (by rw [AE n5,AE n1]; exact AT)
  simp -implicitDefEqProofs -proj only [go_sem,seval,n1,n2,n3,n4,n5,n6,n7,n8,n9,n10,n11,n12]
  refine AK (fun b4 hb4 => ?_)
  replace hb4 : upd (upd (upd (upd Heap.none b1 _) b2 _) b3 _) bm _ b4 = none := hb4
  obtain ⟨m1,m2⟩ := AI hb4 AT
  obtain ⟨m3,m4⟩ := AI hb4 (by rw [AE n7]; exact AT)
  obtain ⟨m5,m6⟩ := AI hb4 (by rw [AE n9,AE n3]; exact AT)
  obtain ⟨m7,m8⟩ := AI hb4 (by rw [AE n11,AE n5,AE n1]; exact AT)
  simp -implicitDefEqProofs -proj only [go_sem,seval,n1,n2,n3,n4,n5,n6,n7,n8,n9,n10,n11,n12,m1,m2,m3,m4,m5,m6,m7,m8,FN]
  refine EJ (fun y : MkX => y.i ≤ c.ps.length ∧ (Aa (Iq b1 b2 b3 b4 bm c y)).Nodup) 115 (fun y => [(1,.ptr b1 0),(2,.ptr b2 0),(3,.ptr b3 0),(4,.ptr b4 0),(24,.d (.sl 9 (EV c.ps))),(25,i64 c.ps.length),(26,i64 y.i)]) (Iq b1 b2 b3 b4 bm c) (fun y => c.ps.length - y.i) ⟨0,0,0,0,0⟩ ⟨Nat.zero_le _,?_⟩ rfl ?_ ?_ ?_
  · simp -implicitDefEqProofs only [Iq,KH,Il,L5,L4,MJ,Lt,List.take_zero,Al,A5,List.map_nil,BQ,Aa,List.nil_append,List.cons_append,List.map_cons,List.nodup_cons,List.mem_cons,List.not_mem_nil,or_false,not_or,not_false_eq_true,List.nodup_nil,and_true]
    exact ⟨⟨m2,n7,n9,n11⟩,⟨m3,m5,m7⟩,⟨n3,n5⟩,n1⟩
  · simp -implicitDefEqProofs -proj only [go_sem,seval,AM,Il]
    try rfl
  · simp -implicitDefEqProofs only [Iq,KH,Il,L5,L4,MJ,Lt,List.take_zero,Al,A5,List.map_nil,BQ,EO]
    simp -implicitDefEqProofs -proj only [go_sem,seval,AU,n1,n2,n3,n4,n5,n6,n7,n8,n9,n10,n11,n12,m1,m2,m3,m4,m5,m6,m7,m8]
  rintro ⟨i,k1,p1,k2,p2⟩ ⟨hi,hnd⟩
  simp -implicitDefEqProofs only [Il] at hi
  have hall := Eg hnd
  obtain ⟨H,hH⟩ : ∃ H,Ae (Iq b1 b2 b3 b4 bm c ⟨i,k1,p1,k2,p2⟩) = H := ⟨_,rfl⟩
  rw [hH] at hall
  simp -implicitDefEqProofs only [Iq,KH] at hall hnd
  obtain ⟨hrowC,hx⟩ := EZ.1 hall
  obtain ⟨hrowI,hbmH,h4,h3,h2,h1,_⟩ := EZ.1 hx
  by_cases hlt : i < c.ps.length
  · have hel := Iw hlt
    have hpart := AFD hc hf (List.getElem_mem hlt)
    have htkC : (Ex c).take (i + 1) = (Ex c).take i ++ [Fy c.ps[i] (EU c.ms c.ps[i].me)] := by
      rw [List.take_succ_eq_append_getElem (by rw [List.length_map]; exact hlt)]; simp -implicitDefEqProofs only [Ex,List.getElem_map]
    have htkB : (E5 c).take (i + 1) = (E5 c).take i ++ [pv c.ps[i] 0] := by
      rw [List.take_succ_eq_append_getElem (by rw [List.length_map]; exact hlt)]; simp -implicitDefEqProofs only [E5,List.getElem_map]
    generalize c.ps[i] = x at *
    simp -implicitDefEqProofs -proj only [go_sem,seval,Il,hH,decide_eq_true (show (i : Int) < c.ps.length by omega)]
    refine Ap _ (by omega) hel ?_
    simp -implicitDefEqProofs -proj only [go_sem,seval]
    refine AK (fun b6 hb6 => ?_)
    replace hb6 : H b6 = none := hb6
    obtain ⟨y1,y2⟩ := AI hb6 h1
    simp -implicitDefEqProofs -proj only [go_sem,seval,y1,y2,h1]
    refine AJ hpart ?_
    simp -implicitDefEqProofs -proj only [go_sem,seval]
    refine AK (fun b7 hb7 => ?_)
    simp -implicitDefEqProofs only [AR] at hb7
    have z1 : ¬ b6 = b7 := fun e => by subst e; simp at hb7
    have z2 : ¬ b7 = b6 := fun e => z1 e.symm
    have hb7' : H b7 = none := by simpa only [z1,↓reduceIte] using hb7
    obtain ⟨y3,y4⟩ := AI hb7' h4
    obtain ⟨y5,y6⟩ := AI hb6 h4
    obtain ⟨y7,y8⟩ := AI hb7' hbmH
    obtain ⟨y9,y10⟩ := AI hb6 hbmH
    simp -implicitDefEqProofs -proj only [go_sem,seval,y1,y2,y3,y4,y5,y6,y7,y8,y9,y10,z1,z2,h4,hbmH]
    (repeat' (with_reducible refine Ad ?_ (fun h => ?_); (focus first | decide | omega); clear h; try simp -implicitDefEqProofs -proj only [go_sem,seval,eq_self,y1,y2,y3,y4,y5,y6,y7,y8,y9,y10,z1,z2,h4,hbmH]))
    have hlr : ((Ex c).take i).length = i := by rw [List.length_take,List.length_map]; omega
    have hlb : ((E5 c).take i).length = i := by rw [List.length_take,List.length_map]; omega
    refine J5 (ds := Gh (Fy x (EU c.ms x.me))) rfl (fun bs hs => ?_)
    simp -implicitDefEqProofs only [AR,z1,z2] at hs
    have z3 : ¬ b6 = bs := fun e => by subst e; simp [z1,z2] at hs
    have z4 : ¬ b7 = bs := fun e => by subst e; simp [z1,z2] at hs
    have hbs' : H bs = none := by simpa only [z3,z4,↓reduceIte] using hs
    have hA : ∀ X Y Z,AU (upd (upd (upd H b6 X) b7 Y) bs Z) _ := fun X Y Z =>
      Av (by rw [AE z4,AE z3]; exact hbs') (Av (by rw [AE z1]; exact hb7') (Av hb6 hall))
    simp -implicitDefEqProofs -proj only [go_sem,seval,z1,z2,z3,z4]
    refine Fr (xs := Al ((Ex c).take i)) (y := Gh (Fy x (EU c.ms x.me))) (t := 47) (capc := 1) _ rfl (hA _ _ _) hnd (by simp -implicitDefEqProofs -proj only [go_sem,seval]; rfl) (by rw [Gl,hlr]; omega) (by rw [Gl,hlr]; omega) (fun H' c1 q1 ha hk => ?_)
    simp -implicitDefEqProofs -proj only [go_sem,seval]
    refine J5 (ds := [.int .i64 (pv x 0)]) rfl (fun b2s hs2 => ?_)
    replace hs2 : H' b2s = none := hs2
    have ha2 := OO ha
    have hk2 := Ni hk
    rw [List.append_assoc] at ha2 hk2
    simp -implicitDefEqProofs -proj only [go_sem,seval]
    refine Fr (xs := A5 ((E5 c).take i)) (y := [.int .i64 (pv x 0)]) (t := 3) (capc := 1) _ rfl (Av hs2 ha2) hk2 (by simp -implicitDefEqProofs -proj only [go_sem,seval]; try rfl) (by rw [rowI_len,hlb]; omega) (by rw [rowI_len,hlb]; omega) (fun H2 c2 q2 ha3 hk3 => ?_)
    have hbm2 : H2 bm = some (.box 55 (KS c (EO 2 2 k1 p1 (Al ((Ex c).take i))) (EO 1 1 k2 p2 (A5 ((E5 c).take i))))) := (EZ.1 ha3).2.1
    simp -implicitDefEqProofs -proj only [go_sem,seval]
    refine ABM hbm2 (by simp -implicitDefEqProofs -proj only [go_sem,seval]; exact m1) (by simp -implicitDefEqProofs -proj only [go_sem,seval]) (by simp [Af]) ?_
    simp -implicitDefEqProofs -proj only [go_sem,seval]
    have eC : Al ((Ex c).take i) ++ [Gh (Fy x (EU c.ms x.me))] = Al ((Ex c).take (i + 1)) := by rw [htkC]; simp [Al]
    have eB : A5 ((E5 c).take i) ++ [[.int .i64 (pv x 0)]] = A5 ((E5 c).take (i + 1)) := by rw [htkB]; simp [A5]
    have neC : Al ((Ex c).take (i + 1)) ≠ [] := by rw [← eC]; simp
    have neB : A5 ((E5 c).take (i + 1)) ≠ [] := by rw [← eB]; simp
    have lC : (Al ((Ex c).take i)).length = i := by rw [Gl,hlr]
    have lB : (A5 ((E5 c).take i)).length = i := by rw [rowI_len,hlb]
    have lC2 : (Al ((Ex c).take (i + 1))).length = i + 1 := by rw [← eC,List.length_append,lC]; rfl
    have lB2 : (A5 ((E5 c).take (i + 1))).length = i + 1 := by rw [← eB,List.length_append,lB]; rfl
    rw [eC,eB] at ha3 hk3
    have ha4 := OO ha3
    have hk4 := Ni hk3
    rw [List.append_assoc] at ha4 hk4
    have ha5 := OO ha4
    have hk5 := Ni hk4
    have hup := HI (A := BQ 47 2 c1 q1 (Al ((Ex c).take (i + 1))) ++ BQ 3 1 c2 q2 (A5 ((E5 c).take (i + 1)))) (b := bm) (x' := .box 55 (KS c (EO 2 2 c1 q1 (Al ((Ex c).take (i + 1)))) (EO 1 1 c2 q2 (A5 ((E5 c).take (i + 1)))))) (by simpa only [List.append_assoc,List.cons_append,List.nil_append] using ha5) (by simpa only [List.append_assoc,List.cons_append,List.nil_append] using hk5)
    refine Ah ⟨i + 1,c1,q1,c2,q2⟩ ⟨by show i + 1 ≤ c.ps.length; omega,?_⟩ (by show c.ps.length - (i + 1) < c.ps.length - i; omega) rfl ?_ ?_
    · simp -implicitDefEqProofs only [Iq,KH,Il,L5,L4,MJ,Lt]
      simpa only [Aa,List.map_append,List.map_cons,List.append_assoc,List.cons_append,List.nil_append] using hk5
    · simp -implicitDefEqProofs -proj only [go_sem,seval,AM,Il,AQ (show i < 9223372036854775807 by omega)]
    · simp -implicitDefEqProofs only [Iq,KH,Il,L5,L4,MJ,Lt]
      simpa only [List.append_assoc,List.cons_append,List.nil_append,E4 neC,E4 neB,lC,lB,lC2,lB2] using hup
  have hi' : i = c.ps.length := by omega
  subst hi'
  have hcl := ZX (ms := c.ms) (by omega)
  have hho := AG1 hc hf.good
  obtain ⟨R,hR⟩ : ∃ R,Ix c = R := ⟨_,rfl⟩
  rw [hR] at hho
  simp -implicitDefEqProofs -proj only [go_sem,seval,Il,hH,decide_eq_false (show ¬ (c.ps.length : Int) < c.ps.length by omega),h1]
  (repeat' (with_reducible refine Ad ?_ (fun h => ?_); (focus first | decide | omega); clear h; try simp -implicitDefEqProofs -proj only [go_sem,seval,eq_self,h1]))
  refine Ec hcl ?_
  simp -implicitDefEqProofs -proj only [go_sem,seval,h1]
  refine AK (fun b10 hb10 => ?_)
  replace hb10 : H b10 = none := hb10
  obtain ⟨y1,y2⟩ := AI hb10 h1
  simp -implicitDefEqProofs -proj only [go_sem,seval,y1,y2,h1]
  (repeat' (with_reducible refine Ad ?_ (fun h => ?_); (focus first | decide | omega); clear h; try simp -implicitDefEqProofs -proj only [go_sem,seval,eq_self,y1,y2,h1]))
  refine AJ hho ?_
  simp -implicitDefEqProofs -proj only [go_sem,seval,y1,y2]
  refine AK (fun b11 hb11 => ?_)
  simp -implicitDefEqProofs only [AR] at hb11
  have z1 : ¬ b10 = b11 := fun e => by subst e; simp at hb11
  have z2 : ¬ b11 = b10 := fun e => z1 e.symm
  simp -implicitDefEqProofs -proj only [go_sem,seval,y1,y2,z1,z2]
  refine El AJr ?_
  rintro r H6 ⟨vb,rfl,hbv,hv,hkeep⟩
  have hlR : R.length ≤ 1000000 := by
    have := (LY (c := c) g3).len
    rw [hR] at this
    omega
  have htC : (Ex c).take c.ps.length = Ex c := List.take_of_length_le (by rw [List.length_map]; exact Nat.le_refl _)
  have htB : (E5 c).take c.ps.length = E5 c := List.take_of_length_le (by rw [List.length_map]; exact Nat.le_refl _)
  rw [htC,htB] at hall hnd hbmH
  simp -implicitDefEqProofs only [AR] at hbv hkeep
  have e10 : H6 b10 = some (F9 c 0 0 []) := hkeep b10 _ (by simp -implicitDefEqProofs only [z2,↓reduceIte]; rfl)
  have eb11 : H6 b11 = some (.box 65 [.d (.sl 3 (FK R))]) := hkeep b11 _ (by simp -implicitDefEqProofs only [↓reduceIte])
  have w1 : ¬ b10 = vb := fun e => by rw [e,hv] at e10; cases e10
  have w2 : ¬ b11 = vb := fun e => by
    rw [e,hv] at eb11
    simp at eb11
  have hvb : H vb = none := by simpa only [w1,w2,↓reduceIte] using hbv
  have hb11' : H b11 = none := by simpa only [z1,↓reduceIte] using hb11
  have hH6 : ∀ k x,H k = some x → H6 k = some x := fun k x hx => hkeep k x (by
    obtain ⟨f1,f2⟩ := AI hb10 hx
    obtain ⟨f3,f4⟩ := AI hb11' hx
    simpa only [f1,f3,↓reduceIte] using hx)
  obtain ⟨T,hT⟩ : ∃ T,(b4,.box 53 [.ptr bm 0]) :: (b3,.box 33 [i64 0]) :: (b2,.box 32 [.d (.str ⟨⟨[]⟩⟩),i64 0,i64 0,.nilsl 5,.nilsl 4]) :: (vb,.box 63 [GN R]) :: Fz bm c k1 p1 k2 p2 = T := ⟨_,rfl⟩
  have ht1 := ZQ (by simpa only [Aa,List.map_append,List.map_cons,List.map_nil] using hnd)
  have hkm : Aa (Fz bm c k1 p1 k2 p2) = bm :: (List.map (·.1) (BQ 47 2 k1 p1 (Al (Ex c))) ++ List.map (·.1) (BQ 3 1 k2 p2 (A5 (E5 c)))) := by simp -implicitDefEqProofs only [Fz,Aa,List.map_append,List.map_cons]
  have hnm : (Aa (Fz bm c k1 p1 k2 p2)).Nodup := by
    rw [hkm]
    exact (List.nodup_cons.1 (List.nodup_cons.1 (List.nodup_cons.1 ht1).2).2).2
  have hkeys : Aa (BQ 47 2 k1 p1 (Al (Ex c)) ++ (BQ 3 1 k2 p2 (A5 (E5 c)) ++ [(bm,Blk.box 55 (KS c (EO 2 2 k1 p1 (Al (Ex c))) (EO 1 1 k2 p2 (A5 (E5 c))))),(b4,.box 53 [.ptr bm 0]),(b3,.box 33 [i64 0]),(b2,.box 32 [.d (.str ⟨⟨[]⟩⟩),i64 0,i64 0,.nilsl 5,.nilsl 4]),(b1,.box 26 [.d (.str c.cur),i64 c.f,i64 c.t,.d (.sl 5 (EP c.ms)),.d (.sl 3 (Er c.ss)),.d (.sl 9 (EV c.ps))])])) = List.map (·.1) (BQ 47 2 k1 p1 (Al (Ex c))) ++ (List.map (·.1) (BQ 3 1 k2 p2 (A5 (E5 c))) ++ [bm,b4,b3,b2,b1]) := by
    simp -implicitDefEqProofs only [Aa,List.map_append,List.map_cons,List.map_nil]
  have hin : ∀ k,k ∈ (b4 :: b3 :: b2 :: Aa (Fz bm c k1 p1 k2 p2)) → ∃ x,H k = some x := fun k hk => by
    rw [hkm] at hk
    have hk2 : k ∈ List.map (·.1) (BQ 47 2 k1 p1 (Al (Ex c))) ++ (List.map (·.1) (BQ 3 1 k2 p2 (A5 (E5 c))) ++ [bm,b4,b3,b2,b1]) := by
      simp -implicitDefEqProofs only [List.mem_append,List.mem_cons] at hk ⊢
      rcases hk with h | h | h | h | h | h <;> simp [h]
    rw [← hkeys] at hk2
    obtain ⟨q,hq,rfl⟩ := List.mem_map.1 hk2
    exact ⟨_,E2.1 hall _ hq⟩
  have hmkH : AU H (Fz bm c k1 p1 k2 p2) := by
    refine Om hall fun q hq => ?_
    simp -implicitDefEqProofs only [Fz,List.mem_append,List.mem_cons] at hq ⊢
    rcases hq with h | h | h <;> simp [h]
  have hTn : (Aa T).Nodup := by
    rw [← hT]
    simp -implicitDefEqProofs only [Aa,List.map_cons]
    refine UP (by rw [← hkm] at ht1; exact ht1) fun hm => ?_
    obtain ⟨x,hx⟩ := hin vb hm
    rw [hvb] at hx; cases hx
  have hTH : AU H6 T := by
    rw [← hT]
    exact ⟨hH6 _ _ h4,hH6 _ _ h3,hH6 _ _ h2,hv,E2.2 fun q hq => hH6 _ _ (E2.1 hmkH q hq)⟩
  have h10T : b10 ∉ Aa T := by
    rw [← hT]
    simp -implicitDefEqProofs only [Aa,List.map_cons,List.mem_cons,not_or]
    have hh : ∀ k,k ∈ (b4 :: b3 :: b2 :: Aa (Fz bm c k1 p1 k2 p2)) → ¬ b10 = k := fun k hk e => by
      obtain ⟨x,hx⟩ := hin k hk
      rw [← e,hb10] at hx; cases hx
    exact ⟨hh _ (by simp),hh _ (by simp),hh _ (by simp),w1,fun hm => hh _ (by simp -implicitDefEqProofs only [List.mem_cons]; exact .inr (.inr (.inr hm))) rfl⟩
  have hn0 : (Aa (Ft b10 c T ⟨0,0,[]⟩)).Nodup := by
    simp -implicitDefEqProofs only [Ft,Id,IS,Gw,EK,List.map_nil,KK,List.nil_append,Aa,List.map_cons,List.nodup_cons]
    exact ⟨h10T,hTn⟩
  have hTb : ∀ q ∈ T,q ∈ Fz bm c k1 p1 k2 p2 ∨ ∃ t cells,q.2 = .box t cells := by
    intro q hq
    rw [← hT] at hq
    simp -implicitDefEqProofs only [List.mem_cons] at hq
    rcases hq with rfl | rfl | rfl | rfl | hq
    · exact .inr ⟨_,_,rfl⟩
    · exact .inr ⟨_,_,rfl⟩
    · exact .inr ⟨_,_,rfl⟩
    · exact .inr ⟨_,_,rfl⟩
    · exact .inl hq
  have hend := APg (LY (c := c) g3) (by omega) (OG g7)
  rw [hR] at hend
  have hfin : Fl (FE c) R R.length = KR c := FwdB.canon hend (MD hf.good)
  rw [← hfin]
  simp -implicitDefEqProofs -proj only [go_sem,seval]
  refine M1 [(2,.ptr b2 0),(3,.ptr b3 0),(4,.ptr b4 0),(10,.ptr b10 0)] (fun pre y => y.acc = Fl (FE c) R pre.length ∧ (Aa (Ft b10 c T y)).Nodup) (Ft b10 c T) ⟨0,0,[]⟩ (Wk (b := vb) (l := R) hlR) (by simp -implicitDefEqProofs -proj only [go_sem,seval]) rfl (by simp) (by simp -implicitDefEqProofs -proj only [go_sem,seval,AM]) ?_ ⟨rfl,hn0⟩ ⟨e10,hTH⟩ ?_ ?_
  · intro pre y _ q hq
    simp -implicitDefEqProofs only [List.mem_singleton] at hq
    subst hq
    simp -implicitDefEqProofs only [Ft,List.mem_append,List.mem_cons]
    exact .inr (.inr (by rw [← hT]; simp))
  · rintro pre x post y hxs ⟨hy,hn⟩
    obtain ⟨hlt,rfl,hpre⟩ := M5 hxs
    exact AQT (i := pre.length) hc hf hR (by rw [← hT]; simp) (fun q hq => by rw [← hT]; simp [hq]) hTb hnm hlt pre rfl hy hn
  · rintro ⟨k,cap,acc⟩ ⟨hy,hn⟩
    have hall' := Eg hn
    simp -implicitDefEqProofs only [Gw,Ih,List.length_map] at hy
    subst hy
    obtain ⟨H',hH'⟩ : ∃ H',Ae (Ft b10 c T ⟨k,cap,Fl (FE c) R R.length⟩) = H' := ⟨_,rfl⟩
    rw [hH'] at hall' ⊢
    simp -implicitDefEqProofs only [Ft,Id,IS,Gw] at hall' hn
    obtain ⟨hrow,q10,hTT⟩ := EZ.1 hall'
    rw [← hT] at hTT
    obtain ⟨q4,q3,q2,_,_⟩ := hTT
    simp -implicitDefEqProofs only [F9] at q10
    have hdj : ∀ b,b ∈ Aa T → b ∉ Aa (BQ 50 4 k cap (EK (Fl (FE c) R R.length))) := fun b hb hm => by
      simp -implicitDefEqProofs only [Aa,List.map_append,List.map_cons] at hn
      exact (List.nodup_append.1 hn).2.2 _ hm _ (List.mem_cons_of_mem _ hb) rfl
    have hr2 : ∀ X Y,AU (upd (upd H' b2 X) b3 Y) (BQ 50 4 k cap (EK (Fl (FE c) R R.length))) := fun X Y => KD (KD hrow (hdj b2 (by rw [← hT]; simp [Aa]))) (hdj b3 (by rw [← hT]; simp [Aa]))
    simp -implicitDefEqProofs -proj only [go_sem,seval,q10,q2,q3,n3,n4]
    exact .tupL (Fx (AL6 (.refl _) (K9 (hr2 _ _))) (Fx (.refl _) Hp))
theorem AA9 (s : Seg EN) (x : Int) : DataW Tryz.prog Q8 [JK s,i64 x] (i64 (IW s.t x)) := by
  refine AX WS (by simp) ?_
  simp -implicitDefEqProofs -proj only [go_sem,seval]
  refine AK (fun b2 hb2 => ?_)
  simp -implicitDefEqProofs -proj only [go_sem,seval]
  refine AJ (AOe _ _) ?_
  simp -implicitDefEqProofs -proj only [go_sem,seval]
  exact AH rfl
def G4 (S : List (Seg EN)) (x : Int) : Nat := (S.takeWhile fun r => decide (r.t < x)).length
theorem M6 {l : List (Seg EN)} {x : Int} {i : Nat} (hi : i ≤ l.length) (h1 : ∀ (j : Nat) (h : j < l.length),j < i → l[j].t < x) (h2 : ∀ (h : i < l.length),x ≤ l[i].t) : G4 l x = i := by
  unfold G4
  induction l generalizing i with
  | nil => simp at hi; simp [hi]
  | cons r l ih =>
    cases i with
    | zero =>
      have := h2 (by simp)
      simp -implicitDefEqProofs only [List.getElem_cons_zero] at this
      rw [List.takeWhile_cons_of_neg (by simp; omega)]
      rfl
    | succ i =>
      have := h1 0 (by simp) (by omega)
      simp -implicitDefEqProofs only [List.getElem_cons_zero] at this
      rw [List.takeWhile_cons_of_pos (by simpa using this),List.length_cons]
      rw [ih (by simpa using hi) (fun j h hj => h1 (j + 1) (by simpa using h) (by omega)) (fun h => h2 (by simpa using h))]
def M4 (l : List (Seg EN)) : Prop := ∀ (j k : Nat) (h1 : j < l.length) (h2 : k < l.length),j ≤ k → l[j].t ≤ l[k].t
theorem FwdB.sortedX {val : Int → EN} {lo hi : Int} {S : List (Seg EN)} (h : FwdB val lo hi S) : M4 S := by
  intro j k h1 h2 hjk
  by_cases e : j = k
  · subst e; exact Int.le_refl _
  · have a := h.apart j k _ _ (by omega) (List.getElem?_eq_getElem h1) (List.getElem?_eq_getElem h2)
    have b := (h.nth k _ (List.getElem?_eq_getElem h2)).2.1
    omega
theorem AHo {l : List (Seg EN)} {x : Int} {f : FuncId} (hf : ∀ r : Seg EN,DataW Tryz.prog f [JK r,i64 x] (i64 (IW r.t x))) (hl : l.length ≤ 1000000) (hs : M4 l) : ∃ u,DataW Tryz.prog ASb [MR l,i64 x,.fn f []] (.tup [i64 (G4 l x),bv u]) := by
  refine ⟨decide (∃ h : G4 l x < l.length,l[G4 l x].t = x),?_⟩
  refine AX Wn (by simp) ?_
  simp -implicitDefEqProofs -proj only [go_sem,seval,Jz]
  refine EJ (fun p : BsX => p.i ≤ p.j ∧ p.j ≤ l.length ∧ (∀ (k : Nat) (h : k < l.length),k < p.i → l[k].t < x) ∧ (∀ (k : Nat) (h : k < l.length),p.j ≤ k → x ≤ l[k].t)) 49 (fun p => [(0,MR l),(1,i64 x),(2,.fn f []),(8,i64 l.length),(9,i64 p.i),(10,i64 p.j)]) (fun _ => []) (fun p => p.j - p.i) ⟨0,l.length⟩ ⟨Nat.zero_le _,Nat.le_refl _,fun k _ h => absurd h (Nat.not_lt_zero _),fun k h h' => absurd h (Nat.not_lt.2 h')⟩ rfl ?_ ?_ ?_
  · simp -implicitDefEqProofs -proj only [go_sem,seval,AM,Jz]
  · trivial
  · rintro ⟨i,j⟩ ⟨h1,h2,h3,h4⟩
    simp -implicitDefEqProofs only [] at h1 h2 h3 h4
    by_cases h : i < j
    · have hh := ACI (i := i) (j := j) (by omega)
      have hm : (i + j) / 2 < l.length := by omega
      have hm1 : i ≤ (i + j) / 2 ∧ (i + j) / 2 < j := by omega
      obtain ⟨m,hme⟩ : ∃ m,(i + j) / 2 = m := ⟨_,rfl⟩
      rw [hme] at hh hm hm1
      have e1 := ON hm
      have hlo : l[m].t < x → ∀ (k : Nat) (h : k < l.length),k < m + 1 → l[k].t < x := fun h0 k hk hkm => Int.lt_of_le_of_lt (hs k m hk hm (by omega)) h0
      have hhi : ¬ l[m].t < x → ∀ (k : Nat) (h : k < l.length),m ≤ k → x ≤ l[k].t := fun h0 k hk hkm => Int.le_trans (by omega) (hs m k hm hk hkm)
      have hcmp := hf l[m]
      generalize l[m] = r at *
      simp -implicitDefEqProofs -proj only [go_sem,seval,PB,Nf,decide_eq_true (show (i : Int) < j by omega),hh]
      (repeat' (with_reducible refine Ad ?_ (fun h => ?_); (focus first | decide | omega); clear h; try simp -implicitDefEqProofs -proj only [go_sem,seval,hh]))
      refine Ap _ (by omega) e1 ?_
      simp -implicitDefEqProofs -proj only [go_sem,seval,hh]
      refine AJ hcmp ?_
      by_cases hc : r.t < x
      · simp -implicitDefEqProofs -proj only [go_sem,seval,decide_eq_true (QT.2 hc)]
        refine Ah ⟨m + 1,j⟩ ⟨by show m + 1 ≤ j; omega,h2,hlo hc,h4⟩ (by show j - (m + 1) < j - i; omega) rfl ?_ trivial
        simp -implicitDefEqProofs -proj only [go_sem,seval,AM,AQ (show m < 9223372036854775807 by omega)]
      · simp -implicitDefEqProofs -proj only [go_sem,seval,decide_eq_false (fun h => hc (QT.1 h))]
        refine Ah ⟨i,m⟩ ⟨hm1.1,by show m ≤ l.length; omega,h3,hhi hc⟩ (by show m - i < j - i; omega) rfl ?_ trivial
        simp -implicitDefEqProofs -proj only [go_sem,seval,AM]
    · have hij : j = i := by omega
      subst hij
      have hix : G4 l x = j := M6 h2 h3 (fun h => h4 j h (Nat.le_refl _))
      rw [hix]
      by_cases hin : j < l.length
      · have e1 := ON hin
        have hcmp := hf l[j]
        have hd : decide (∃ h : j < l.length,l[j].t = x) = decide (IW l[j].t x = 0) := by
          rw [decide_eq_decide,ALU]
          exact ⟨fun ⟨_,h⟩ => h,fun h => ⟨hin,h⟩⟩
        rw [hd]
        generalize l[j] = r at *
        simp -implicitDefEqProofs -proj only [go_sem,seval,PB,Nf,decide_eq_false (show ¬ (j : Int) < j by omega),decide_eq_true (show (j : Int) < l.length by omega)]
        refine Ap _ (by omega) e1 ?_
        simp -implicitDefEqProofs -proj only [go_sem,seval]
        refine AJ hcmp ?_
        simp -implicitDefEqProofs -proj only [go_sem,seval]
        exact AH rfl
      · have hd : decide (∃ h : j < l.length,l[j].t = x) = false := decide_eq_false (fun ⟨h,_⟩ => hin h)
        rw [hd]
        simp -implicitDefEqProofs -proj only [go_sem,seval,PB,Nf,decide_eq_false (show ¬ (j : Int) < j by omega),decide_eq_false (show ¬ (j : Int) < l.length by omega)]
        exact AH rfl
section
variable {cur : ByteArray} {f t : Int} {ms : List MeterX} {S : List (Seg EN)} {val : Int → EN} {lo hi d : Int}
abbrev Mm : AV := .agg [i64 0,i64 0,i64 0,.d (.sl 2 [])]
theorem Ro (hl : S.length ≤ 1000000) (hs : M4 S) : DataW Tryz.prog N7 [JD cur f t ms S,i64 d] (match S[G4 S d]? with | some r => if r.f ≤ d then .tup [JK r,bv true] else .tup [Mm,bv false] | none => .tup [Mm,bv false]) := by
  obtain ⟨u,h1⟩ := AHo (f := Q8) (fun r => AA9 r d) hl hs
  have hno : ∀ H,LendV H (.tup [.agg [.d (.int .i64 0),.d (.int .i64 0),.d (.int .i64 0),.nilsl 2],bv false]) (.tup [Mm,bv false]) := fun H => .tup _ _ rfl fun j u v e1 e2 => by
    match j with
    | 0 => cases e1; cases e2; exact Qm (ls := []) (.nilsl _ _)
    | 1 => cases e1; cases e2; exact .refl _
    | j + 2 => cases e1
  refine AX AN5 (by simp) ?_
  simp -implicitDefEqProofs -proj only [go_sem,seval]
  refine AK (fun b2 hb2 => ?_)
  simp -implicitDefEqProofs -proj only [go_sem,seval]
  refine AK (fun b4 hb4 => ?_)
  replace hb4 : upd Heap.none b2 _ b4 = none := hb4
  obtain ⟨n1,n2⟩ := AI hb4 AT
  simp -implicitDefEqProofs -proj only [go_sem,seval,n1,n2]
  refine AJ h1 ?_
  by_cases hin : G4 S d < S.length
  · have e1 := ON hin
    rw [List.getElem?_eq_getElem hin]
    generalize S[G4 S d] = r at *
    generalize G4 S d = i at *
    simp -implicitDefEqProofs only []
    simp -implicitDefEqProofs -proj only [go_sem,seval,n1,n2,Jz,decide_eq_true (show (i : Int) < S.length by omega)]
    refine Ap _ (by omega) e1 ?_
    by_cases hf : r.f ≤ d
    · rw [if_pos hf]
      simp -implicitDefEqProofs -proj only [go_sem,seval,n1,n2,decide_eq_true hf]
      refine Ap _ (by omega) e1 ?_
      simp -implicitDefEqProofs -proj only [go_sem,seval]
      exact AH rfl
    · rw [if_neg hf]
      simp -implicitDefEqProofs -proj only [go_sem,seval,n1,n2,decide_eq_false hf]
      exact hno _
  · rw [List.getElem?_eq_none (by omega)]
    generalize G4 S d = i at *
    simp -implicitDefEqProofs only []
    simp -implicitDefEqProofs -proj only [go_sem,seval,n1,n2,Jz,decide_eq_false (show ¬ (i : Int) < S.length by omega)]
    exact hno _
theorem Ud (hl : S.length ≤ 1000000) (h : FwdB val lo hi S) {i : Nat} {r : Seg EN} (hr : S[i]? = some r) (h1 : r.f ≤ d) (h2 : d ≤ r.t) : DataW Tryz.prog N7 [JD cur f t ms S,i64 d] (.tup [JK r,bv true]) := by
  have hi := (List.getElem?_eq_some_iff.1 hr).1
  have := Ro (cur := cur) (f := f) (t := t) (ms := ms) (d := d) hl h.sortedX
  have hx : G4 S d = i := M6 (by omega) (fun j hj hji => by
    have := h.apart j i _ _ hji (List.getElem?_eq_getElem hj) hr
    omega) (fun hi => by
    rw [List.getElem?_eq_getElem hi] at hr
    rw [Option.some.inj hr]; exact h2)
  rw [hx,hr] at this
  simp -implicitDefEqProofs only [] at this
  rwa [if_pos h1] at this
theorem AAR (hl : S.length ≤ 1000000) (h : FwdB val lo hi S) (hd : d < lo ∨ hi ≤ d) : DataW Tryz.prog N7 [JD cur f t ms S,i64 d] (.tup [Mm,bv false]) := by
  have := Ro (cur := cur) (f := f) (t := t) (ms := ms) (d := d) hl h.sortedX
  cases e : S[G4 S d]? with
  | none => rw [e] at this; exact this
  | some r =>
    rw [e] at this
    simp -implicitDefEqProofs only [] at this
    have hn := h.nth _ r e
    have hi := (List.getElem?_eq_some_iff.1 e).1
    rcases hd with hd | hd
    · rwa [if_neg (by omega)] at this
    · exfalso
      have hx : G4 S d = S.length := M6 (Nat.le_refl _) (fun j hj _ => by
        have := (h.nth j _ (List.getElem?_eq_getElem hj)).2.2.1
        omega) (fun hi => absurd hi (Nat.lt_irrefl _))
      omega
end
def IQ (l : List Int) (q : Int) : Option Int := if 0 ≤ q ∧ q < l.length then some (l.getD q.toNat 0) else none
theorem Tv {l : List Int} {q : Int} : (if q < 0 ∨ (l.length : Int) - 1 < q then none else Fu (Eh l) q) = IQ l q := by
  unfold IQ
  by_cases h : 0 ≤ q ∧ q < l.length
  · have hq : q.toNat < l.length := by omega
    rw [if_neg (by omega),if_pos h]
    have := Mq hq
    rw [Int.toNat_of_nonneg h.1] at this
    rw [this,List.getD_eq_getElem?_getD,List.getElem?_eq_getElem hq,Option.getD_some]
  · rw [if_pos (by omega),if_neg h]
theorem ARo {l : List Int} (h : EI l) {q : Int} (hq : Fit q) : DataW Tryz.prog NI [Ep l,i64 q] (BC (IQ l q)) := by
  have := PD (m := (l.length : Int) - 1) (Qe h) (by have := @KF l; have := h.2.1; omega) hq (by have := h.2.1; omega)
  rwa [Tv] at this
def Fg (n : Int) (ls : List (List Int)) (b : List Int) : Nat → Option Int
  | 0 => some n
  | i + 1 => match Fg n ls b i,ls[i]?,b[i]? with
    | some m,some l,some q => (match IQ l q with
      | some v => some (m + v)
      | none => none)
    | _,_,_ => none
theorem PY {n : Int} {ls : List (List Int)} {b : List Int} {i : Nat} (h : Fg n ls b i = none) : ∀ k,Fg n ls b (i + k) = none
  | 0 => h
  | k + 1 => by rw [← Nat.add_assoc,Fg,PY h k]
theorem Ph {n : Int} {ls : List (List Int)} {b : List Int} {i : Nat} (hi : i < b.length) (h : Fg n ls b (i + 1) = none) : Fg n ls b b.length = none := by
  have := PY h (b.length - (i + 1))
  rwa [show i + 1 + (b.length - (i + 1)) = b.length by omega] at this
def KI (v : EN) (b : List Int) : Int × Int := if b.length = v.2.length then (match Fg v.1 v.2 b b.length with
  | some n => (n,0)
  | none => (0,8)) else (0,8)
structure okV (v : EN) : Prop where
  f : 0 ≤ v.1 ∧ v.1 ≤ 1152921504606846976
  n : v.2.length ≤ 4
  c : ∀ l ∈ v.2,EI l
  b : ∀ l ∈ v.2,∀ x ∈ l,-1152921504606846976 ≤ x ∧ x ≤ 1152921504606846976
theorem XZ {l : List Int} {q n : Int} (h : IQ l q = some n) : n ∈ l := by
  unfold IQ at h
  split at h
  · next hq =>
    cases h
    have : q.toNat < l.length := by omega
    rw [List.getD_eq_getElem?_getD,List.getElem?_eq_getElem this,Option.getD_some]
    exact List.getElem_mem this
  · cases h
theorem Ql {v : EN} (hv : okV v) {b : List Int} : ∀ (i : Nat) n,Fg v.1 v.2 b i = some n → -1152921504606846976 * i ≤ n ∧ n ≤ 1152921504606846976 + 1152921504606846976 * i
  | 0,n,h => by cases h; have := hv.f; omega
  | i + 1,n,h => by
    rw [Fg] at h
    split at h
    · next m l q e1 e2 e3 =>
      split at h
      · next x e4 =>
        cases h
        have := Ql hv i m e1
        have := hv.b l (List.mem_of_getElem? e2) x (XZ e4)
        omega
      · cases h
    · cases h
theorem APS {c : CoreX} (hf : fitsC c) (d : Int) : okV (FE c d) := by
  have hme := (fitsC.bnd hf.good).me
  refine ⟨?_,?_,Lv hf d,fun l hl x hx => ?_⟩
  · have h := Pz hme d c.ms.length
    have hb := PX hf (d := d) (b := List.replicate c.ms.length 0) ⟨List.length_replicate ..,fun i h1 h2 => by
      have := (fitsC.bnd hf.good).mx i h2
      rw [List.getElem_replicate]; omega⟩
    rw [h] at hb
    exact hb
  · show (E9 c d _).length ≤ 4
    rw [dayLs_len]; exact hf.good.hd.2.2.2.1
  · obtain ⟨i,hi,rfl⟩ := List.getElem_of_mem hl
    have hi' : i < c.ms.length := by
      have : (E9 c d c.ms.length).length = c.ms.length := dayLs_len
      exact this ▸ hi
    have e : (FE c d).2[i] = He c d i c.ms[i].mx := Nn hi' hi'
    rw [e] at hx
    obtain ⟨q,hq,rfl⟩ := List.mem_map.1 hx
    have hq := List.mem_range.1 hq
    have := (fitsC.bnd hf.good).mx i hi'
    exact N4 hf d hi' (by omega) (by omega) (Nat.le_refl _)
section
variable {cur : ByteArray} {f t : Int} {ms : List MeterX} {S : List (Seg EN)} {val : Int → EN} {lo hi d : Int} {b : List Int}
theorem RM (hl : S.length ≤ 1000000) (h : FwdB val lo hi S) (hd : d < lo ∨ hi ≤ d) : DataW Tryz.prog M0 [JD cur f t ms S,i64 d,GO b] (.tup [i64 0,i64 8]) := by
  have hon := AAR (cur := cur) (f := f) (t := t) (ms := ms) hl h hd
  refine AX RZ (by simp) ?_
  simp -implicitDefEqProofs -proj only [go_sem,seval]
  refine AK (fun b3 hb3 => ?_)
  simp -implicitDefEqProofs -proj only [go_sem,seval]
  refine AJ hon ?_
  simp -implicitDefEqProofs -proj only [go_sem,seval]
  refine AK (fun b8 hb8 => ?_)
  simp -implicitDefEqProofs -proj only [go_sem,seval]
  exact AH rfl
theorem Rl (hl : S.length ≤ 1000000) (h : FwdB val lo hi S) {i : Nat} {r : Seg EN} (hr : S[i]? = some r) (h1 : r.f ≤ d) (h2 : d ≤ r.t) (hv : okV r.v) (hb : J2 b) : DataW Tryz.prog M0 [JD cur f t ms S,i64 d,GO b] (.tup [i64 (KI r.v b).1,i64 (KI r.v b).2]) := by
  have hon := Ud (cur := cur) (f := f) (t := t) (ms := ms) hl h hr h1 h2
  clear h hr
  obtain ⟨rf,rt,x,ls⟩ := r
  have hn4 := hv.n
  have hcc := hv.c
  have hbd := fun i n hh => Ql hv (b := b) i n hh
  unfold KI
  simp -implicitDefEqProofs only [] at hon hn4 hcc hbd ⊢
  refine AX RZ (by simp) ?_
  simp -implicitDefEqProofs -proj only [go_sem,seval]
  refine AK (fun b3 hb3 => ?_)
  simp -implicitDefEqProofs -proj only [go_sem,seval]
  refine AJ hon ?_
  simp -implicitDefEqProofs -proj only [go_sem,seval]
  refine AK (fun b8 hb8 => ?_)
  by_cases g : b.length = ls.length
  rotate_left
  · rw [if_neg g]
    simp -implicitDefEqProofs -proj only [go_sem,seval,rowI_len,Gl,decide_eq_false (show ¬ (b.length : Int) = ls.length by omega),Bool.not_true,Bool.not_false]
    exact AH rfl
  rw [if_pos g]
  simp -implicitDefEqProofs -proj only [go_sem,seval,rowI_len,Gl,decide_eq_true (show (b.length : Int) = ls.length by omega),Bool.not_true]
  refine EJ (fun p : Nat × Int => p.1 ≤ b.length ∧ Fg x ls b p.1 = some p.2) 57 (fun p => [(8,.ptr b8 0),(10,i64 p.2),(33,GO b),(34,i64 b.length),(35,i64 p.1)]) (fun _ => [(b8,.box 50 [i64 rf,i64 rt,i64 x,Hy ls])]) (fun p => b.length - p.1) (0,x) ⟨Nat.zero_le _,rfl⟩ rfl ?_ ?_ ?_
  · simp -implicitDefEqProofs -proj only [go_sem,seval,AM,rowI_len]
  · exact ⟨AT,trivial⟩
  · rintro ⟨i,n⟩ ⟨hi,hn⟩
    simp -implicitDefEqProofs only [Ag,Ak] at hi hn
    have hk : AU (Ae [(b8,.box 50 [i64 rf,i64 rt,i64 x,Hy ls])]) [(b8,.box 50 [i64 rf,i64 rt,i64 x,Hy ls])] := Eg (by simp [Aa])
    have k8 := hk.1
    by_cases h : i < b.length
    · have h' : i < ls.length := by omega
      have e1 := Mj h
      have e2 := LL h'
      have hfq := hb i h
      have hcl := hcc _ (List.getElem_mem h')
      have hstep : Fg x ls b (i + 1) = match IQ ls[i] b[i] with | some v => some (n + v) | none => none := by
        rw [Fg,hn,List.getElem?_eq_getElem h',List.getElem?_eq_getElem h]
      have hfail := fun e => Ph (n := x) (ls := ls) h e
      have hbd1 := hbd (i + 1)
      have hcall := ARo hcl hfq
      generalize b[i] = q at *
      generalize ls[i] = l at *
      simp -implicitDefEqProofs -proj only [go_sem,seval,decide_eq_true (show (i : Int) < b.length by omega)]
      refine Ap _ (by omega) e1 ?_
      simp -implicitDefEqProofs -proj only [go_sem,seval,k8]
      refine Ap _ (by omega) e2 ?_
      simp -implicitDefEqProofs -proj only [go_sem,seval]
      refine AJ hcall ?_
      cases e : IQ l q with
      | none =>
        rw [e] at hstep
        rw [hfail hstep]
        simp -implicitDefEqProofs -proj only [go_sem,seval,BC,Bool.not_false]
        exact AH rfl
      | some v =>
        rw [e] at hstep
        simp -implicitDefEqProofs only [] at hstep
        have hb2 := hbd1 _ hstep
        have w : IntKind.i64.wrap (n + v) = n + v := by rw [IntKind.wrap_i64]; omega
        simp -implicitDefEqProofs -proj only [go_sem,seval,BC,Bool.not_true,w]
        refine Ah (i + 1,n + v) ⟨by rw [Ag]; omega,hstep⟩ (by show b.length - (i + 1) < b.length - i; omega) rfl ?_ hk
        simp -implicitDefEqProofs -proj only [go_sem,seval,AM,AQ (show i < 9223372036854775807 by omega)]
    · have hi' : i = b.length := by omega
      subst hi'
      rw [hn]
      simp -implicitDefEqProofs -proj only [go_sem,seval,decide_eq_false (show ¬ (b.length : Int) < b.length by omega)]
      exact AH rfl
end
structure mostC (c : CoreX) : Prop where
  parts : ∀ (i : Nat) (h : i < c.ps.length),∀ q : Nat,q < (EU c.ms c.ps[i].me + 1).toNat → Iy c.ps[i] q
  tot : ∀ i,i ≤ c.ps.length → FW c i ≤ 1152921504606846976
noncomputable instance (c : CoreX) : Decidable (mostC c) := Classical.propDecidable _
theorem AB2 {c : CoreX} : fitsC c ↔ ¬ I4 c ∧ goodC c ∧ mostC c :=
  ⟨fun h => ⟨h.great,h.good,fun i hi => h.parts _ (List.getElem_mem hi),h.tot⟩,fun ⟨h1,h2,h3⟩ => ⟨h1,h2,fun x hx => by
    obtain ⟨i,hi,rfl⟩ := List.getElem_of_mem hx
    exact h3.parts i hi,h3.tot⟩⟩
theorem APh {c : CoreX} {j : Nat} (h : j < c.ps.length) : FW c (j + 1) = FW c j + GQ c.ps[j] (EU c.ms c.ps[j].me + 1).toNat := by
  unfold FW
  rw [sg]
  have : HH c j = GQ c.ps[j] (EU c.ms c.ps[j].me + 1).toNat := by unfold HH; rw [List.getElem?_eq_getElem h]
  omega
theorem ARt {c : CoreX} (hc : c.Fit) (hg : goodC c) : ∃ n,DataW Tryz.prog Zm [HV c] (.tup [i64 n,bv (decide (mostC c))]) := by
  refine ⟨if mostC c then FW c c.ps.length else 0,?_⟩
  obtain ⟨_,_,_,a6,a7,a8⟩ := hg.hd
  have hps := hg.ps
  have hfp := hc.ps
  have hme := (fitsC.bnd hg).me
  have hmxb := (fitsC.bnd hg).mx
  have hfin : ∀ H,¬ mostC c → LendV H (.tup [i64 0,bv false]) (.tup [i64 (if mostC c then FW c c.ps.length else 0),bv (decide (mostC c))]) := fun H h => AH (by rw [if_neg h,decide_eq_false h])
  have hyes : ∀ H,mostC c → LendV H (.tup [i64 (FW c c.ps.length),bv true]) (.tup [i64 (if mostC c then FW c c.ps.length else 0),bv (decide (mostC c))]) := fun H h => AH (by rw [if_pos h,decide_eq_true h])
  generalize hR : AV.tup [i64 (if mostC c then FW c c.ps.length else 0),bv (decide (mostC c))] = R at *
  clear hR
  refine AX AI6 (by simp) ?_
  simp -implicitDefEqProofs -proj only [go_sem,seval]
  refine AK (fun b1 hb1 => ?_)
  simp -implicitDefEqProofs -proj only [go_sem,seval,Fc]
  have hamt : ∀ i : Nat,i ≤ c.ss.length → 0 ≤ sg (Fv c.ss) i ∧ sg (Fv c.ss) i ≤ 1000000000000 * i := by
    intro i
    induction i with
    | zero => intro _; exact ⟨Int.le_refl _,Int.le_refl _⟩
    | succ n ih =>
      intro hn
      have := ih (by omega)
      have h1 := (fitsC.bnd hg).amt _ (List.getElem_mem (show n < c.ss.length by omega))
      rw [sg]
      have : Fv c.ss n = c.ss[n].a := by unfold Fv; rw [List.getElem?_eq_getElem (by omega)]
      omega
  refine EJ (fun i : Nat => i ≤ c.ss.length) 71 (fun i => [(1,.ptr b1 0),(4,i64 (sg (Fv c.ss) i)),(14,.d (.sl 3 (Er c.ss))),(15,i64 c.ss.length),(16,i64 i)]) (fun _ => [(b1,FU c)]) (fun i => c.ss.length - i) 0 (Nat.zero_le _) rfl ?_ ?_ ?_
  · simp -implicitDefEqProofs -proj only [go_sem,seval,AM,Fc,sg]
  · exact ⟨AT,trivial⟩
  · intro i hi
    have hk : AU (Ae [(b1,FU c)]) [(b1,FU c)] := Eg (by simp [Aa])
    have k1 := hk.1
    by_cases h : i < c.ss.length
    · have hel := KT h
      have hA := hamt i hi
      have hA2 := hamt (i + 1) (by omega)
      have hst : sg (Fv c.ss) (i + 1) = sg (Fv c.ss) i + c.ss[i].a := by rw [sg]; unfold Fv; rw [List.getElem?_eq_getElem h]
      generalize c.ss[i] = s at *
      have w : IntKind.i64.wrap (sg (Fv c.ss) i + s.a) = sg (Fv c.ss) (i + 1) := by rw [IntKind.wrap_i64]; omega
      simp -implicitDefEqProofs -proj only [go_sem,seval,decide_eq_true (show (i : Int) < c.ss.length by omega)]
      refine Ap _ (by omega) hel ?_
      simp -implicitDefEqProofs -proj only [go_sem,seval]
      refine AK (fun b6 hb6 => ?_)
      simp -implicitDefEqProofs -proj only [go_sem,seval,w]
      refine Ah (i + 1) (by omega) (by show c.ss.length - (i + 1) < c.ss.length - i; omega) rfl ?_ (Av hb6 hk)
      simp -implicitDefEqProofs -proj only [go_sem,seval,AM,AQ (show i < 9223372036854775807 by omega)]
    · have hi' : i = c.ss.length := by omega
      subst hi'
      have hA := hamt c.ss.length (Nat.le_refl _)
      simp -implicitDefEqProofs -proj only [go_sem,seval,k1,decide_eq_false (show ¬ (c.ss.length : Int) < c.ss.length by omega),FN]
      refine EJ (fun j : Nat => j ≤ c.ps.length ∧ (∀ (i : Nat) (h : i < c.ps.length),i < j → ∀ q : Nat,q < (EU c.ms c.ps[i].me + 1).toNat → Iy c.ps[i] q) ∧ ∀ i,i ≤ j → FW c i ≤ 1152921504606846976) 71 (fun j => [(1,.ptr b1 0),(4,i64 (FW c j)),(26,.d (.sl 9 (EV c.ps))),(27,i64 c.ps.length),(28,i64 j)]) (fun _ => [(b1,FU c)]) (fun j => c.ps.length - j) 0 ⟨Nat.zero_le _,fun i _ h => absurd h (Nat.not_lt_zero _),fun i hi => ?_⟩ rfl ?_ ?_ ?_
      · have : i = 0 := by omega
        subst this
        simp -implicitDefEqProofs only [FW,sg]; omega
      · simp -implicitDefEqProofs -proj only [go_sem,seval,AM,FW,sg,Int.add_zero,FN]
      · exact hk
      · rintro j ⟨hj,hs1,hs2⟩
        by_cases h : j < c.ps.length
        · have helj := Iw h
          have hx := List.getElem_mem h
          have hok := hps _ hx
          have hfx := hfp _ hx
          obtain ⟨m0,m1⟩ := hme _ hx
          have hno1 : ∀ q : Nat,q < (EU c.ms c.ps[j].me + 1).toNat → ¬ Iy c.ps[j] q → ¬ mostC c := fun q hq hn k => hn (k.parts j h q hq)
          have hno2 : ¬ FW c (j + 1) ≤ 1152921504606846976 → ¬ mostC c := fun hn k => hn (k.tot (j + 1) (by omega))
          have hgo1 : (∀ q : Nat,q < (EU c.ms c.ps[j].me + 1).toNat → Iy c.ps[j] q) → ∀ (i : Nat) (h : i < c.ps.length),i < j + 1 → ∀ q : Nat,q < (EU c.ms c.ps[i].me + 1).toNat → Iy c.ps[i] q := by
            intro e i hi hij
            by_cases hij2 : i = j
            · subst hij2; exact e
            · exact hs1 i hi (by omega)
          have hb := APh (c := c) h
          have hT0 := hs2 j (Nat.le_refl _)
          have hT1 : 0 ≤ FW c j := by
            have := hamt c.ss.length (Nat.le_refl _)
            have := I0 (n := j) fun i _ => MG (c := c) i
            unfold FW; omega
          have hmxn := hmxb c.ps[j].me.toNat (by omega)
          have hmx : EU c.ms c.ps[j].me = c.ms[c.ps[j].me.toNat].mx := by unfold EU; rw [List.getElem?_eq_getElem (by omega)]
          have helm := IV (show c.ps[j].me.toNat < c.ms.length by omega)
          rw [Int.toNat_natCast] at helm
          rw [← hmx] at hmxn
          generalize c.ms[c.ps[j].me.toNat] = mm at *
          generalize c.ps[j] = x at *
          rw [hmx] at hno1 hgo1 hb hmxn
          have G := Or hok
          have hcall := fun (q : Int) (hq : Fit q) => QE (q := q) hfx hq G (O5 G.ts)
          simp -implicitDefEqProofs -proj only [go_sem,seval,decide_eq_true (show (j : Int) < c.ps.length by omega)]
          refine Ap _ (by omega) helj ?_
          simp -implicitDefEqProofs -proj only [go_sem,seval]
          refine AK (fun b8 hb8 => ?_)
          replace hb8 : Ae [(b1,FU c)] b8 = none := hb8
          obtain ⟨n1,n2⟩ := AI hb8 k1
          simp -implicitDefEqProofs -proj only [go_sem,seval]
          refine EJ (fun k : Nat => k ≤ (mm.mx + 1).toNat ∧ 0 ≤ GQ x k ∧ GQ x k ≤ 1152921504606846976 ∧ ∀ q : Nat,q < k → Iy x q) 71 (fun k => [(1,.ptr b1 0),(4,i64 (FW c j)),(26,.d (.sl 9 (EV c.ps))),(27,i64 c.ps.length),(28,i64 j),(8,.ptr b8 0),(9,i64 (GQ x k)),(10,i64 k)]) (fun _ => [(b8,Blk.box 59 [i64 x.me,i64 x.f,i64 x.t,i64 x.al,i64 x.bl,i64 x.ki,Eb x.ts,i64 x.mo,Es x.ad]),(b1,FU c)]) (fun k => (mm.mx + 1).toNat - k) 0 ⟨Nat.zero_le _,Int.le_refl _,(by show (0 : Int) ≤ 1152921504606846976; decide),fun q h => absurd h (Nat.not_lt_zero _)⟩ rfl ?_ ?_ ?_
          · simp -implicitDefEqProofs -proj only [go_sem,seval,AM,GQ]
          · exact ⟨AT,(AE n1).trans k1,trivial⟩
          · rintro k ⟨hk',hb0,hb1,hq⟩
            have hkk : AU (Ae [(b8,Blk.box 59 [i64 x.me,i64 x.f,i64 x.t,i64 x.al,i64 x.bl,i64 x.ki,Eb x.ts,i64 x.mo,Es x.ad]),(b1,FU c)]) [(b8,Blk.box 59 [i64 x.me,i64 x.f,i64 x.t,i64 x.al,i64 x.bl,i64 x.ki,Eb x.ts,i64 x.mo,Es x.ad]),(b1,FU c)] := Eg (by simp [Aa,n1])
            obtain ⟨k8,kb1,_⟩ := id hkk
            simp -implicitDefEqProofs -proj only [go_sem,seval,k8,kb1,n1,n2]
            refine Ap _ m0 helm ?_
            by_cases h2 : (k : Int) ≤ mm.mx
            · have hck := hcall k (by unfold Fit; omega)
              have hbs : GQ x (k + 1) = max (GQ x k) (pv x k) := rfl
              simp -implicitDefEqProofs -proj only [go_sem,seval,k8,kb1,n1,n2,decide_eq_true h2]
              refine AJ hck ?_
              cases e : GU x (k : Int) with
              | none =>
                have hn : ¬ mostC c := hno1 k (by omega) (fun ⟨n,h,_⟩ => by rw [e] at h; cases h)
                simp -implicitDefEqProofs -proj only [go_sem,seval,BC,Bool.not_false]
                exact hfin _ hn
              | some n =>
                have hpv : pv x k = n := by unfold pv; rw [e]; rfl
                by_cases c1 : 1152921504606846976 < n
                · have hn : ¬ mostC c := hno1 k (by omega) (fun ⟨n',h,_,h3⟩ => by rw [e] at h; cases h; omega)
                  simp -implicitDefEqProofs -proj only [go_sem,seval,BC,Bool.not_true,decide_eq_true c1]
                  exact hfin _ hn
                by_cases c2 : n < 0
                · have hn : ¬ mostC c := hno1 k (by omega) (fun ⟨n',h,h2,_⟩ => by rw [e] at h; cases h; omega)
                  simp -implicitDefEqProofs -proj only [go_sem,seval,BC,Bool.not_true,decide_eq_false c1,decide_eq_true c2]
                  exact hfin _ hn
                rw [hpv] at hbs
                simp -implicitDefEqProofs -proj only [go_sem,seval,BC,Bool.not_true,decide_eq_false c1,decide_eq_false c2]
                refine Ah (k + 1) ⟨by omega,by rw [hbs]; omega,by rw [hbs]; omega,fun q hq2 => ?_⟩ (by show (mm.mx + 1).toNat - (k + 1) < (mm.mx + 1).toNat - k; omega) rfl ?_ hkk
                · by_cases e2 : q = k
                  · subst e2; exact ⟨n,e,by omega,by omega⟩
                  · exact hq q (by omega)
                · simp -implicitDefEqProofs -proj only [go_sem,seval,AM,hbs,AQ (show k < 9223372036854775807 by omega)]
            · have hk2 : k = (mm.mx + 1).toNat := by omega
              subst hk2
              have w : IntKind.i64.wrap (FW c j + GQ x (mm.mx + 1).toNat) = FW c (j + 1) := by rw [IntKind.wrap_i64]; omega
              simp -implicitDefEqProofs -proj only [go_sem,seval,decide_eq_false h2,w]
              by_cases c1 : 1152921504606846976 < FW c (j + 1)
              · simp -implicitDefEqProofs -proj only [go_sem,seval,decide_eq_true c1]
                exact hfin _ (hno2 (by omega))
              · simp -implicitDefEqProofs -proj only [go_sem,seval,decide_eq_false c1]
                refine Ah (j + 1) ⟨by omega,hgo1 hq,fun i hi => ?_⟩ (by show c.ps.length - (j + 1) < c.ps.length - j; omega) rfl ?_ ⟨kb1,trivial⟩
                · by_cases e2 : i = j + 1
                  · subst e2; omega
                  · exact hs2 i (by omega)
                · simp -implicitDefEqProofs -proj only [go_sem,seval,AM,AQ (show j < 9223372036854775807 by omega)]
        · have hj' : j = c.ps.length := by omega
          subst hj'
          have hm : mostC c := ⟨fun i hi => hs1 i hi hi,hs2⟩
          have := hs2 c.ps.length (Nat.le_refl _)
          simp -implicitDefEqProofs -proj only [go_sem,seval,decide_eq_false (show ¬ (c.ps.length : Int) < c.ps.length by omega),decide_eq_true this]
          exact hyes _ hm
theorem AEY {c : CoreX} (hc : c.Fit) : DataW Tryz.prog AQf [HV c] (bv (decide (fitsC c))) := by
  have hgd := PZ hc
  have hiff := AB2 (c := c)
  have hmo := fun h => ARt hc (c := c) h
  refine AX AA6 (by simp) ?_
  simp -implicitDefEqProofs -proj only [go_sem,seval]
  refine AK (fun b1 hb1 => ?_)
  simp -implicitDefEqProofs -proj only [go_sem,seval]
  refine AJ Zu ?_
  by_cases g1 : I4 c
  · simp -implicitDefEqProofs -proj only [go_sem,seval,decide_eq_true g1]
    exact AH (by rw [decide_eq_false (fun k => (hiff.1 k).1 g1)])
  simp -implicitDefEqProofs -proj only [go_sem,seval,decide_eq_false g1]
  refine AJ hgd ?_
  by_cases g2 : goodC c
  rotate_left
  · simp -implicitDefEqProofs -proj only [go_sem,seval,decide_eq_false g2,Bool.not_false]
    exact AH (by rw [decide_eq_false (fun k => g2 (hiff.1 k).2.1)])
  obtain ⟨n,hmo⟩ := hmo g2
  simp -implicitDefEqProofs -proj only [go_sem,seval,decide_eq_true g2,Bool.not_true]
  refine AJ hmo ?_
  simp -implicitDefEqProofs -proj only [go_sem,seval]
  exact AH (by rw [decide_eq_decide.2 (hiff.trans ⟨fun h => h.2.2,fun h => ⟨g1,g2,h⟩⟩)])
def seg19 : Seg EN := ⟨0,9,(5,[[0,2,4,6]])⟩
theorem TO : Eh [0,2,4,6] = [⟨0,0,1,2,4⟩] := by decide +kernel
theorem XU : EK [seg19] = [[.int .i64 0,.int .i64 9,.int .i64 5,.sl 2 [[.int .i64 3,.sl 5 [[.int .i64 0,.int .i64 0,.int .i64 1,.int .i64 2,.int .i64 4]]]]]] := by
  simp [EK,Jh,seg19,Al,Gh,TO,FS,Grp.el]
theorem AIb : okV seg19.v := by
  have h : ∀ l ∈ seg19.v.2,l = [0,2,4,6] := fun l hl => by simpa [seg19] using hl
  refine ⟨by decide,by decide,fun l hl => ?_,fun l hl x hx => ?_⟩
  · rw [h l hl]
    refine ⟨by simp,by decide,fun v hv => ?_⟩
    have : v = 0 ∨ v = 2 ∨ v = 4 ∨ v = 6 := by simpa using hv
    unfold E6; omega
  · rw [h l hl] at hx
    have : x = 0 ∨ x = 2 ∨ x = 4 ∨ x = 6 := by simpa using hx
    omega
theorem SG : FwdB (fun _ => seg19.v) 0 10 [seg19] := ⟨rfl,by decide,fun _ _ _ => rfl,fun s h => (by cases h),rfl⟩
theorem X0 : KI seg19.v [3] = (11,0) := by decide +kernel
theorem AHD : DataW Tryz.prog AFa [] (bv true) := by
  have h1 := Rl (cur := ⟨⟨[]⟩⟩) (f := 0) (t := 9) (ms := [⟨⟨⟨[109]⟩⟩,⟨⟨[]⟩⟩,3,0,0⟩]) (d := 4) (b := [3]) (by decide) SG (i := 0) (r := seg19) rfl (by decide) (by decide) AIb (fun i h => by
    have : i = 0 := by have : i < 1 := h; omega
    subst this; show Fit 3; decide)
  have h2 := RM (cur := ⟨⟨[]⟩⟩) (f := 0) (t := 9) (ms := [⟨⟨⟨[109]⟩⟩,⟨⟨[]⟩⟩,3,0,0⟩]) (d := 10) (b := [3]) (by decide) SG (.inr (by decide))
  rw [X0] at h1
  simp -implicitDefEqProofs only [XU] at h1 h2
  refine AX AJh (by simp) ?_
  simp -implicitDefEqProofs -proj only [go_sem,seval]
  refine Ao (fun b7 h7 => ?_)
  simp -implicitDefEqProofs -proj only [go_sem,seval]
  refine Ao (fun b9 h9 => ?_)
  replace h9 : upd Heap.none b7 (some _) b9 = none := h9
  obtain ⟨n1,n2⟩ := AI h9 AT
  simp -implicitDefEqProofs -proj only [go_sem,seval,n1,n2]
  refine Ao (fun b11 h11 => ?_)
  replace h11 : upd (upd Heap.none b7 (some _)) b9 _ b11 = none := h11
  obtain ⟨n3,n4⟩ := AI h11 (by rw [AE n1]; exact AT)
  simp -implicitDefEqProofs -proj only [go_sem,seval,n1,n2,n3,n4]
  refine Ao (fun b13 h13 => ?_)
  replace h13 : upd (upd (upd Heap.none b7 (some (.row 42 5 1 [[.str ⟨⟨[109]⟩⟩,.str ⟨⟨[]⟩⟩,.int .i64 3,.int .i64 0,.int .i64 0]]))) b9 none) b11 none b13 = none := h13
  have A0 : AU (upd (upd (upd Heap.none b7 (some (.row 42 5 1 [[.str ⟨⟨[109]⟩⟩,.str ⟨⟨[]⟩⟩,.int .i64 3,.int .i64 0,.int .i64 0]]))) b9 none) b11 none) [(b7,.row 42 5 1 [[.str ⟨⟨[109]⟩⟩,.str ⟨⟨[]⟩⟩,.int .i64 3,.int .i64 0,.int .i64 0]])] := ⟨(AE n3).trans ((AE n1).trans AT),trivial⟩
  obtain ⟨H0,hH0⟩ : ∃ H0,upd (upd (upd Heap.none b7 (some (.row 42 5 1 [[.str ⟨⟨[109]⟩⟩,.str ⟨⟨[]⟩⟩,.int .i64 3,.int .i64 0,.int .i64 0]]))) b9 none) b11 none = H0 := ⟨_,rfl⟩
  rw [hH0] at A0 h13
  have A1 := Gg (x := .row 50 4 1 [[.int .i64 0,.int .i64 9,.int .i64 5,.sl 2 [[.int .i64 3,.sl 5 [[.int .i64 0,.int .i64 0,.int .i64 1,.int .i64 2,.int .i64 4]]]]]]) h13 A0
  simp -implicitDefEqProofs -proj only [go_sem,seval,hH0]
  refine AK (fun b1 hb1 => ?_)
  replace hb1 : upd H0 b13 _ b1 = none := hb1
  have A2 := Gg (x := .box 32 [.d (.str ⟨⟨[]⟩⟩),i64 0,i64 9,.own b7 5 0 1 1,.own b13 4 0 1 1]) hb1 A1
  simp -implicitDefEqProofs -proj only [go_sem,seval]
  refine Ao (fun b17 hb17 => ?_)
  replace hb17 : upd (upd H0 b13 (some (.row 50 4 1 [[.int .i64 0,.int .i64 9,.int .i64 5,.sl 2 [[.int .i64 3,.sl 5 [[.int .i64 0,.int .i64 0,.int .i64 1,.int .i64 2,.int .i64 4]]]]]]))) b1 (some (.box 32 [.d (.str ⟨⟨[]⟩⟩),i64 0,i64 9,.own b7 5 0 1 1,.own b13 4 0 1 1])) b17 = none := hb17
  have A3 := Gg (x := .row 3 1 1 [[.int .i64 3]]) hb17 A2
  obtain ⟨H2,hH2⟩ : ∃ H2,upd (upd (upd H0 b13 (some (.row 50 4 1 [[.int .i64 0,.int .i64 9,.int .i64 5,.sl 2 [[.int .i64 3,.sl 5 [[.int .i64 0,.int .i64 0,.int .i64 1,.int .i64 2,.int .i64 4]]]]]]))) b1 (some (.box 32 [.d (.str ⟨⟨[]⟩⟩),i64 0,i64 9,.own b7 5 0 1 1,.own b13 4 0 1 1]))) b17 (some (.row 3 1 1 [[.int .i64 3]])) = H2 := ⟨_,rfl⟩
  rw [hH2] at A3
  obtain ⟨q17,q1,q13,q7,_⟩ := id A3
  simp -implicitDefEqProofs -proj only [go_sem,seval,hH2]
  have lf : ∀ H : Heap,H b7 = some (.row 42 5 1 [[.str ⟨⟨[109]⟩⟩,.str ⟨⟨[]⟩⟩,.int .i64 3,.int .i64 0,.int .i64 0]]) → H b13 = some (.row 50 4 1 [[.int .i64 0,.int .i64 9,.int .i64 5,.sl 2 [[.int .i64 3,.sl 5 [[.int .i64 0,.int .i64 0,.int .i64 1,.int .i64 2,.int .i64 4]]]]]]) → LendV H (.agg [.d (.str ⟨⟨[]⟩⟩),i64 0,i64 9,.own b7 5 0 1 1,.own b13 4 0 1 1]) (.agg [.d (.str ⟨⟨[]⟩⟩),i64 0,i64 9,.d (.sl 5 (EP [⟨⟨⟨[109]⟩⟩,⟨⟨[]⟩⟩,3,0,0⟩])),.d (.sl 4 [[.int .i64 0,.int .i64 9,.int .i64 5,.sl 2 [[.int .i64 3,.sl 5 [[.int .i64 0,.int .i64 0,.int .i64 1,.int .i64 2,.int .i64 4]]]]]])]) := fun H a b => by
    refine .agg _ _ rfl fun j u v e1 e2 => ?_
    match j with
    | 0 => cases e1; cases e2; exact .refl _
    | 1 => cases e1; cases e2; exact .refl _
    | 2 => cases e1; cases e2; exact .refl _
    | 3 => cases e1; cases e2; exact Ku a rfl
    | 4 => cases e1; cases e2; exact Ku b rfl
    | j + 5 => cases e1
  refine LG h1 (Fx (lf _ q7 q13) (Fx (.refl _) (Fx (Ku q17 rfl) Hp))) rfl ?_
  simp -implicitDefEqProofs -proj only [go_sem,seval,q1]
  refine Ao (fun b23 hb23 => ?_)
  replace hb23 : H2 b23 = none := hb23
  have A4 := Gg (x := .row 3 1 1 [[.int .i64 3]]) hb23 A3
  obtain ⟨H3,hH3⟩ : ∃ H3,upd H2 b23 (some (.row 3 1 1 [[.int .i64 3]])) = H3 := ⟨_,rfl⟩
  rw [hH3] at A4
  obtain ⟨r23,r17,r1,r13,r7,_⟩ := id A4
  simp -implicitDefEqProofs -proj only [go_sem,seval,hH3]
  refine LG h2 (Fx (lf _ r7 r13) (Fx (.refl _) (Fx (Ku r23 rfl) Hp))) rfl ?_
  simp -implicitDefEqProofs -proj only [go_sem,seval,decide_true]
  exact AH rfl
theorem YN {c : CoreX} (hg : goodC c) : (KR c).length ≤ 1000000 := by
  have h := (MD hg).len
  have := hg.hd.2.2.1
  omega
theorem V7 {c : CoreX} (hf : fitsC c) {d : Int} (h : c.f ≤ d ∧ d ≤ c.t) : ∃ (i : Nat) (r : Seg EN),(KR c)[i]? = some r ∧ r.f ≤ d ∧ d ≤ r.t ∧ r.v = FE c d ∧ okV r.v ∧ c.ms.length = r.v.2.length := by
  have hw := MD hf.good
  obtain ⟨i,r,h1,h2,h3⟩ := hw.find h.1 (by omega)
  have h4 := (hw.nth i r h1).2.2.2.1 d h2 h3
  refine ⟨i,r,h1,h2,h3,h4.symm,by rw [← h4]; exact APS hf d,?_⟩
  rw [← h4]
  exact dayLs_len.symm
theorem Pp {c : CoreX} {d : Int} {m : Nat} (h : m < c.ms.length) : (E9 c d c.ms.length)[m]? = some (He c d m c.ms[m].mx) := by
  rw [List.getElem?_eq_getElem (by rw [dayLs_len]; exact h),Nn h h]
theorem PU {c : CoreX} (hg : goodC c) {d q : Int} {m : Nat} (h : m < c.ms.length) : IQ (He c d m c.ms[m].mx) q = if 0 ≤ q ∧ q ≤ c.ms[m].mx then some (HE c d m q) else none := by
  have hb := (fitsC.bnd hg).mx m h
  unfold IQ
  rw [LM]
  by_cases hq : 0 ≤ q ∧ q ≤ c.ms[m].mx
  · have hq2 : q.toNat < (c.ms[m].mx + 1).toNat := by omega
    rw [if_pos (by omega),if_pos hq,List.getD_eq_getElem?_getD,List.getElem?_eq_getElem (by rw [LM]; exact hq2),Option.getD_some,ACi hq2,Int.toNat_of_nonneg hq.1]
  · rw [if_neg (by omega),if_neg hq]
theorem Qn {c : CoreX} (hg : goodC c) {d : Int} {b : List Int} (hb : GF c b) : ∀ i : Nat,i ≤ c.ms.length → Fg (Gq c d) (E9 c d c.ms.length) b i = some (Gq c d + sg (fun m => HE c d m (bq b m)) i)
  | 0,_ => by simp [Fg,sg]
  | i + 1,h => by
    have hi : i < c.ms.length := by omega
    have hib : i < b.length := by rw [hb.1]; omega
    have hq := hb.2 i hib hi
    rw [Fg,Qn hg hb i (by omega),Pp hi,List.getElem?_eq_getElem hib]
    simp -implicitDefEqProofs only []
    rw [PU hg hi,if_pos hq]
    simp -implicitDefEqProofs only [sg]
    have : bq b (i : Int) = b[i] := by unfold bq; rw [Int.toNat_natCast,List.getD_eq_getElem?_getD,List.getElem?_eq_getElem hib,Option.getD_some]
    rw [this,Int.add_assoc]
theorem ARj {c : CoreX} (hf : fitsC c) {d : Int} {b : List Int} : KI (FE c d) b = if GF c b then (H8 c d b,0) else (0,8) := by
  have hg := hf.good
  have hme := (fitsC.bnd hg).me
  unfold KI
  have hl : (FE c d).2.length = c.ms.length := dayLs_len
  rw [hl]
  by_cases hb : GF c b
  · rw [if_pos hb.1,if_pos hb,hb.1]
    have := Qn hg (d := d) hb c.ms.length (Nat.le_refl _)
    rw [Rn hme d b]
    show (match Fg (Gq c d) (E9 c d c.ms.length) b c.ms.length with | some n => (n,(0 : Int)) | none => (0,8)) = _
    rw [this]
  · rw [if_neg hb]
    by_cases hlen : b.length = c.ms.length
    · rw [if_pos hlen]
      have hn : ∃ i,∃ (h1 : i < b.length) (h2 : i < c.ms.length),¬ (0 ≤ b[i] ∧ b[i] ≤ c.ms[i].mx) := by
        refine Classical.byContradiction fun hno => hb ⟨hlen,fun i h1 h2 => Classical.byContradiction fun hc => hno ⟨i,h1,h2,hc⟩⟩
      obtain ⟨i,h1,h2,h3⟩ := hn
      have hstep : Fg (Gq c d) (E9 c d c.ms.length) b (i + 1) = none := by
        rw [Fg,Pp h2,List.getElem?_eq_getElem h1]
        cases Fg (Gq c d) (E9 c d c.ms.length) b i with
        | none => rfl
        | some m =>
          simp -implicitDefEqProofs only []
          rw [PU hg h2,if_neg h3]
      have := Ph h1 hstep
      show (match Fg (Gq c d) (E9 c d c.ms.length) b b.length with | some n => (n,(0 : Int)) | none => (0,8)) = _
      rw [this]
    · rw [if_neg hlen]
theorem LookupMeans_ok {c : CoreX} {d : Int} {b : List Int} (hc : c.Fit) (hd : Fit d) (hfb : J2 b) (hbn : b.length ≤ 9223372036854775807) : DataW Tryz.prog AO6 [HV c,i64 d,GO b] (bv true) := by
  have hft := AEY hc
  have hpr := Zl (d := d) (b := b) hc hbn
  refine AX Yr (by simp) ?_
  simp -implicitDefEqProofs -proj only [go_sem,seval]
  refine AK (fun b3 hb3 => ?_)
  simp -implicitDefEqProofs -proj only [go_sem,seval]
  refine AJ AHD ?_
  simp -implicitDefEqProofs -proj only [go_sem,seval]
  refine AJ hft ?_
  by_cases g1 : fitsC c
  rotate_left
  · simp -implicitDefEqProofs -proj only [go_sem,seval,decide_eq_false g1,Bool.not_false]
    exact AH rfl
  by_cases g2 : 100 < (b.length : Int)
  · simp -implicitDefEqProofs -proj only [go_sem,seval,rowI_len,decide_eq_true g1,Bool.not_true,decide_eq_true g2]
    exact AH rfl
  have hmk := AF6 hc g1
  have hw := MD g1.good
  have hsl := YN g1.good
  rw [APl g1] at hpr
  have hlook : ∃ n e,DataW Tryz.prog M0 [JD c.cur c.f c.t c.ms (KR c),i64 d,GO b] (.tup [i64 n,i64 e]) ∧ (if ER d c.f c.t ∧ GF c b then (H8 c d b,0) else (0,8)) = (n,e) := by
    by_cases hin : c.f ≤ d ∧ d ≤ c.t
    · obtain ⟨i,r,h1,h2,h3,h4,h5,h6⟩ := V7 g1 hin
      have p1 := Rl (cur := c.cur) (f := c.f) (t := c.t) (ms := c.ms) hsl hw h1 h2 h3 h5 hfb
      rw [h4,ARj g1] at p1
      refine ⟨_,_,p1,?_⟩
      by_cases hb : GF c b
      · rw [if_pos ⟨hin,hb⟩,if_pos hb]
      · rw [if_neg (fun e => hb e.2),if_neg hb]
    · have ho : d < c.f ∨ c.t + 1 ≤ d := by omega
      have p1 := RM (cur := c.cur) (f := c.f) (t := c.t) (ms := c.ms) (b := b) hsl hw ho
      exact ⟨_,_,p1,by rw [if_neg (fun e => hin e.1)]⟩
  obtain ⟨n,e,p1,he⟩ := hlook
  rw [he] at hpr
  simp -implicitDefEqProofs -proj only [go_sem,seval,rowI_len,decide_eq_true g1,Bool.not_true,decide_eq_false g2]
  refine AJ hmk ?_
  simp -implicitDefEqProofs -proj only [go_sem,seval]
  refine AK (fun b7 hb7 => ?_)
  replace hb7 : upd Heap.none b3 _ b7 = none := hb7
  obtain ⟨n1,n2⟩ := AI hb7 AT
  simp -implicitDefEqProofs -proj only [go_sem,seval,n1,n2]
  refine AJ p1 ?_
  simp -implicitDefEqProofs -proj only [go_sem,seval,n1,n2]
  refine AJ hpr ?_
  simp -implicitDefEqProofs -proj only [go_sem,seval,n1,n2,decide_true]
  exact AH rfl
end Go.Proofs.YtijmjflffphghaaGreat.Abs
