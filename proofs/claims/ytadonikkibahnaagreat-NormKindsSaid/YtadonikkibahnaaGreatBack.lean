import Derived.Test.YtadonikkibahnaaGreatResOk
import Derived.RangeFuncBox
import Derived.RangeFuncLeaves
import Derived.WalkKit
import Derived.OwnWalkIn
import Derived.TacticsInMore
import Derived.LoopNIn
import Derived.LoopIn
namespace Go.Proofs.YtadonikkibahnaaGreat.R
open Go Go.Bm Go.Proofs Go.RowKit
set_option linter.unusedVariables false
set_option linter.unusedSimpArgs false
attribute [local go_sem] Oper.semAt_some
set_option maxRecDepth 100000 in
set_option maxHeartbeats 4000000 in
theorem back_in:BackOk Tryz.prog 98 XNc true:=by
 refine ⟨⟨Tryz.f98,Tryz.func98,by kernel_rfl,by kernel_rfl⟩,?_⟩
 intro l b xs v W R hmost hcell hvc hit
 refine callsIn_of_wp Tryz.func98 rfl trivial ?_ rfl
 simp only [Tryz.ntmps98,List.size_toArray,List.length_cons,List.length_nil,Nat.reduceAdd,Nat.reduceSub,Array.replicate_succ,Array.replicate_zero,List.push_toArray,List.append_toArray,List.nil_append,List.cons_append]
 obtain ⟨Φ,a,cap,hv,hcap,hl⟩:=hvc
 cases hv
 gi_wp2
 have hm:∀ k:Nat,k ≤ most → wrap64 ((k:Int) - 1) = (k:Int) - 1:=fun k hk => by
  have:most = 274877906944:=rfl
  unfold wrap64; omega
 rw [hm _ hmost]
 gi_loopw [3] (fun i wr => ∃ k:Nat,k ≤ most ∧ i = .int .i64 ((k:Int) - 1) ∧ Iter Tryz.prog l XNc true b k wr R)
  (fun i _ => (intOf i + 1).toNat)
 case atStart => exact ⟨xs.length,hmost,rfl,hit⟩
 case round =>
  obtain ⟨k,hk,rfl,hI⟩:=hrel
  cases k with
  | zero =>
    gi_wp2
    go_end0
    exact ⟨⟨_,rfl⟩,true,hI⟩
  | succ k =>
    obtain ⟨ys,v,u,g1,⟨Φ',a',cap',gv,hcap',hl'⟩,g3,⟨b',o',n',cp',us,g4,g5,g6,g7⟩,fn,tmps,assign,body,hy,hR⟩:=hI
    subst g4
    cases gv
    obtain ⟨u0,us,rfl⟩:∃ x y,us = x :: y:=by cases us with | nil => cases g6 | cons x y => exact ⟨x,y,rfl⟩
    obtain ⟨u1,us,rfl⟩:∃ x y,us = x :: y:=by cases us with | nil => cases g6 | cons x y => exact ⟨x,y,rfl⟩
    obtain ⟨u2,us,rfl⟩:∃ x y,us = x :: y:=by cases us with | nil => cases g6 | cons x y => exact ⟨x,y,rfl⟩
    obtain ⟨u3,us,rfl⟩:∃ x y,us = x :: y:=by cases us with | nil => cases g6 | cons x y => exact ⟨x,y,rfl⟩
    obtain ⟨u4,us,rfl⟩:∃ x y,us = x :: y:=by cases us with | nil => cases g6 | cons x y => exact ⟨x,y,rfl⟩
    obtain ⟨u5,us,rfl⟩:∃ x y,us = x :: y:=by cases us with | nil => cases g6 | cons x y => exact ⟨x,y,rfl⟩
    obtain rfl:us = []:=by cases us with | nil => rfl | cons x y => cases g6
    simp only [cellsAt,show XNc.size = 6 from rfl] at g5
    obtain ⟨c0,c1,c2,c3,c4,c5,_⟩:=g5
    rw [show ((k + 1:Nat):Int) - 1 = (k:Int) by omega] at *
    subst g7
    rw [show Bm.valOf true [u0,u1,u2,u3,u4,u5] = .agg #[u0,u1,u2,u3,u4,u5] from rfl] at hy
    gi_wp2
    refine ⟨rfl,hR.mono ?_⟩
    rintro e W3 (⟨rfl,hJ3⟩ | ⟨rfl,hJ3⟩)
    · gi_wp2
      go_roundw
      case rel => exact ⟨k,by omega,by rw [hm k (by omega)],hJ3⟩
      case measure => rw [hm k (by omega)]; simp [intOf]
    · gi_wp2
      refine bodyPost_ret (results_none rfl _ _ _) rfl ?_
      exact ⟨⟨_,rfl⟩,false,hJ3⟩
theorem okAll:T.Ok Tryz.prog:=ok fun f e agg h => by
 have h':Bm.look [(98,(XNc,true))] f = some (e,agg):=h
 rw [Bm.look] at h'
 cases hf:Nat.beq 98 f with
 | true => rw [hf] at h'; obtain rfl:=Nat.eq_of_beq_eq_true hf; cases h'; exact back_in
 | false => rw [hf] at h'; cases h'
end Go.Proofs.YtadonikkibahnaaGreat.R
