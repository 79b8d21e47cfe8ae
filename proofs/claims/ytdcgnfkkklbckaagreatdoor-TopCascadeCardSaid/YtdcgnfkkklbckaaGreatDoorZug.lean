/- TOP, CASCADE: gates: check, the curve at a level, flows, reach. -/
import Derived.Test.YtdcgnfkkklbckaaGreatDoorZuf
import Derived.ProofKit
import Derived.ChangeOld
import Derived.DataElems
import Derived.Below
import Derived.SizedLaws
set_option linter.unusedSimpArgs false
set_option linter.unusedVariables false
set_option maxRecDepth 100000
set_option maxHeartbeats 8000000
namespace Go.Proofs.YtdcgnfkkklbckaaGreatDoor
namespace Pv
def c171L1:C:=(sr [kb 25 .lss 24 23] (.seq (.cond 25 .skip (.exit 0)) (.seq (.block 1 (sr [ki 26 2 22 24,kt 27 2 26,kk 6 (.al [z0,z0]),kx 2 6 27] (sr [kf 28 0 6,kl 29 28,kb 30 .gtr 29 (cn 16777216)] (.cond 30 (sr [kk 2 (.mv (cn 1))] .ret) .skip)))) (.reg [kb 31 .add 24 (cn 1),km 24 31]))))
def c171L2:C:=(.seq (sr [km 32 7,km 33 4,kb 34 .lss 32 33] (.cond 34 .skip (.exit 2))) (.seq (.block 3 (.seq (.drw [kf 37 0 1,kl 38 37,km 39 7,ki 40 2 38 39,kf 41 1 40,kl 42 41,kf 43 0 1,kl 44 43,km 45 7,kb 46 .sub 45 (cn 1),ki 47 2 44 46,kf 48 1 47,kl 49 48,kb 50 .leq 42 49] (pl [(0,[2,6,7,8,9,10,11,12],37),(1,[2,6,7,8,9,10,11,12],38),(2,[6,7,8,9,10,11,12],39),(3,[6,7,8,9,10,11,12],40),(4,[6,7,8,9,10,11,12],41),(5,[6,7,8,9,10,11,12],42),(6,[8,9],43),(7,[8,9],44)])) (.cond 50 (sr [kk 2 (.mv (cn 4))] .ret) .skip))) (.reg [km 35 7,kb 36 .add 35 (cn 1),km 7 36])))
def c171L3:C:=(.seq (sr [km 74 9,km 75 8,kk 76 (.len 75),kb 77 .lss 74 76] (.cond 77 .skip (.exit 4))) (.seq (.block 5 (.seq (.drw [km 80 8,km 81 9,ki 82 1 80 81,kl 83 82,km 84 8,km 85 9,kb 86 .sub 85 (cn 1),ki 87 1 84 86,kl 88 87,kb 89 .lss 83 88] (pl [(0,[1,4,5,6,7,8],80),(1,[4,5,6,7,8],81),(2,[4,5,6,7,8],82),(3,[4,5,6,7,8],83),(4,[5,6],84)])) (.cond 89 (sr [kk 2 (.mv (cn 4))] .ret) .skip))) (.reg [km 78 9,kb 79 .add 78 (cn 1),km 9 79])))
def c171:C:=(sr [kk 1 (.bx 6 0),kk 2 (.mv (cn 0))] (.seq (sr [kf 10 0 1,kl 11 10,kc 12 173 [11],km 3 12] (sr [km 13 3,kb 14 .neq 13 (cn 0)] (.cond 14 (sr [km 15 3,km 2 15] .ret) .skip))) (sr [kf 16 0 1,kl 17 16,kk 18 (.len 17),km 4 18] (.seq (sr [km 19 4,kb 20 .lss 19 (cn 2)] (.cond 20 (sr [kk 2 (.mv (cn 3))] .ret) .skip)) (.seq (sr [kf 21 0 1,kl 22 21,kk 23 (.len 22),kk 24 (.mv (cn 0))] (.block 0 (.loop c171L1))) (.seq (sr [kk 7 (.mv (cn 1))] (.block 2 (.loop c171L2))) (.seq (.drw [kf 51 0 1,kl 52 51,ki 53 2 52 (cn 0),kf 54 0 53,kl 55 54,kf 56 1 1,kl 57 56,kf 58 2 1,kl 59 58,kf 60 3 1,kl 61 60,kf 62 4 1,kl 63 62,kf 64 5 1,kl 65 64,kf 66 0 1,kl 67 66,km 68 4,kb 69 .sub 68 (cn 1),ki 70 2 67 69,kf 71 0 70,kl 72 71,kk 73 (.bs 3 1 [55,57,59,61,63,65,72]),km 8 73] (pl [(0,[5,6,7,8,9,10,11,12,13,14,15,16,17,18,19,20,21],51),(1,[5,6,7,8,9,10,11,12,13,14,15,16,17,18,19,20,21],52),(2,[5,6,7,8,9,10,11,12,13,14,15,16,17,18,19,20,21],53),(3,[5,6,7,8,9,10,11,12,13,14,15,16,17,18,19,20,21],54),(4,[5,6,7,8,9,10,11,12,13,14,15,16,17,18,19,20,21],55),(5,[7,8,9,10,11,12,13,14,15,16,17,18,19,20,21],56),(6,[7,8,9,10,11,12,13,14,15,16,17,18,19,20,21],57),(7,[9,10,11,12,13,14,15,16,17,18,19,20,21],58),(8,[9,10,11,12,13,14,15,16,17,18,19,20,21],59),(9,[11,12,13,14,15,16,17,18,19,20,21],60),(10,[11,12,13,14,15,16,17,18,19,20,21],61),(11,[13,14,15,16,17,18,19,20,21],62),(12,[13,14,15,16,17,18,19,20,21],63),(13,[15,16,17,18,19,20,21],64),(14,[15,16,17,18,19,20,21],65),(15,[17,18],66),(16,[17,18],67)])) (.seq (sr [kk 9 (.mv (cn 1))] (.block 4 (.loop c171L3))) (sr [kk 2 (.mv (cn 0))] .ret)))))))))
theorem fits171:fits Tryz.prog false Tryz.f171 1 90 [(2,none)]=some c171.er:=by kernel_rfl
def c116:C:=(sr [kk 2 (.bx 6 0),kk 4 (.mv (cn 0))] (.seq (sr [kt 6 6 2,kc 7 171 [6],km 5 7] (sr [km 8 5,kb 9 .neq 8 (cn 0)] (.cond 9 (sr [km 10 5,km 4 10] .ret) .skip))) (.seq (sr [km 11 1,kc 12 172 [11,(cn 16777216)],kk 13 (.un false .not 12)] (.cond 13 (sr [kk 4 (.mv (cn 1))] .ret) .skip)) (sr [kk 4 (.mv (cn 0))] .ret))))
theorem fits116:fits Tryz.prog false Tryz.f116 2 14 [(4,none)]=some c116.er:=by kernel_rfl
def c51:C:=(sr [kk 2 (.bx 6 0),kk 4 (.mv (cn 0)),kk 5 (.mv (cn 0))] (.seq (sr [kt 9 6 2,km 10 1,kc 11 116 [9,10],km 6 11] (sr [km 12 6,kb 13 .neq 12 (cn 0)] (.cond 13 (sr [km 14 6,kk 4 (.mv (cn 0)),km 5 14] .ret) .skip))) (sr [kf 16 0 2,kl 17 16,km 18 1,kc 19 117 [17,18],km 15 19,ke 20 15 0,ke 21 15 1,km 7 20,km 8 21] (sr [km 22 7,km 4 22,kk 5 (.mv (cn 0))] .ret))))
theorem fits51:fits Tryz.prog false Tryz.f51 2 23 [(4,none),(5,none)]=some c51.er:=by kernel_rfl
def c38L1:C:=(sr [kb 31 .lss 30 (cn 5)] (.seq (.cond 31 .skip (.exit 0)) (.seq (.block 1 (sr [km 32 30,km 7 32] (sr [km 33 4,km 34 0,km 35 5,km 36 4,kb 37 .sub 35 36,km 38 7,kb 39 .sub (cn 5) 38,kb 40 .quo 37 39,kb 41 .add 40 (cn 1),kc 42 12 [34,41],kb 43 .add 33 42,km 4 43] (.reg [km 44 7,km 45 4,kk 46 (.iaa 5 1 6 44),kx 1 46 45])))) (.reg [kb 47 .add 30 (cn 1),km 30 47]))))
def c38:C:=(sr [kk 2 (.al [(.nil 2),z0,z0,z0,z0,z0])] (sr [km 8 0,km 9 0,kc 10 12 [9,(cn 10)],kb 11 .add (cn 100) 10,km 12 0,kc 13 12 [12,(cn 20)],kc 14 88 [8,11,13,(cn 40),(cn 200),ct],kk 15 (.bd [(.nil 2),z0,z0,z0,z0,z0] [(0,1,14)]),kk 3 (.al [(.nil 2),z0,z0,z0,z0,z0]),kx 6 3 15] (sr [kf 16 0 3,kl 17 16,ki 18 2 17 (cn 0),kf 19 0 18,kl 20 19,km 4 20] (sr [kf 21 0 3,kl 22 21,kf 23 0 3,kl 24 23,kk 25 (.len 24),kb 26 .sub 25 (cn 1),ki 27 2 22 26,kf 28 0 27,kl 29 28,km 5 29] (sr [kk 6 (.al [z0,z0,z0,z0,z0])] (.seq (sr [kk 30 (.mv (cn 0))] (.block 0 (.loop c38L1))) (.seq (.drw [kk 48 (.iaa 5 1 6 (cn 0)),kl 49 48,kk 50 (.iaa 5 1 6 (cn 1)),kl 51 50,kk 52 (.iaa 5 1 6 (cn 2)),kl 53 52,kk 54 (.iaa 5 1 6 (cn 3)),kl 55 54,kk 56 (.iaa 5 1 6 (cn 4)),kl 57 56,kf 58 1 3,kx 1 58 49,kf 59 2 3,kx 1 59 51,kf 60 3 3,kx 1 60 53,kf 61 4 3,kx 1 61 55,kf 62 5 3,kx 1 62 57] (pl [(0,[2,3,4,5,6,7,8,9],48),(1,[2,3,4,5,6,7,8,9],49),(2,[4,5,6,7,8,9,10,11],50),(3,[4,5,6,7,8,9,10,11],51),(4,[6,7,8,9,10,11,12,13],52),(5,[6,7,8,9,10,11,12,13],53),(6,[8,9,10,11,12,13,14,15],54),(7,[8,9,10,11,12,13,14,15],55),(8,[10,11,12,13,14,15,16,17],56),(9,[10,11,12,13,14,15,16,17],57)])) (sr [kt 63 6 3,kx 6 2 63] .ret))))))))
theorem fits38:fits Tryz.prog false Tryz.f38 1 64 [(2,some (6,true))]=some c38.er:=by kernel_rfl
structure Rv where
 st:List Pt
 dead:Int
 low:Int
 full:Int
 sur:Int
 crest:Int
 deriving Inhabited
def eRv (τ:Nat) (r:Rv):List PV:= [.sl τ 2 r.st.length (fl ePt r.st), .int .i64 r.dead, .int .i64 r.low, .int .i64 r.full, .int .i64 r.sur, .int .i64 r.crest]
def resL (r:Rv):List Int:= [(r.st.getD 0 default).x,r.dead,r.low,r.full,r.sur,r.crest,(r.st.getD (r.st.length - 1) default).x]
def resP1 (r:Rv):Prop:=∀i,i<r.st.length→(r.st.getD i default).x≤16777216
def resP2 (r:Rv):Prop:=∀i,i<r.st.length→0<i→(r.st.getD (i - 1) default).y<(r.st.getD i default).y
def resP3 (r:Rv):Prop:=∀i,i<7→0<i→(resL r).getD (i - 1) default≤(resL r).getD i default
instance (r:Rv):Decidable (resP1 r):=by unfold resP1;infer_instance
instance (r:Rv):Decidable (resP2 r):=by unfold resP2;infer_instance
instance (r:Rv):Decidable (resP3 r):=by unfold resP3;infer_instance
def checkRv (r:Rv):Int:=if checkC r.st≠0 then checkC r.st else if r.st.length<2 then 3 else if¬resP1 r then 1 else if¬resP2 r then 4 else if¬resP3 r then 4 else 0
def wrongRv (r:Rv) (level:Int):Int:=if checkRv r≠0 then checkRv r else if¬(0≤level∧level≤16777216) then 1 else 0
def volF (r:Rv) (level:Int):Int×Int:=if wrongRv r level≠0 then (0,wrongRv r level) else ((atC r.st level).1,0)
theorem rows7 (a b c d e f g:Int):RowEq 7 (fun i=> [[PV.int .i64 a], [PV.int .i64 b], [PV.int .i64 c], [PV.int .i64 d], [PV.int .i64 e], [PV.int .i64 f], [PV.int .i64 g]].getD i []) (fl eInt [a,b,c,d,e,f,g]):=fun i hi=>by
 match i,hi with
 | 0,_=>rfl
 | 1,_=>rfl
 | 2,_=>rfl
 | 3,_=>rfl
 | 4,_=>rfl
 | 5,_=>rfl
 | 6,_=>rfl
theorem call171 (τ:Nat) (r:Rv):PureCall Tryz.prog 171 [.agg (eRv τ r)] [] ⟨.int .i64 (checkRv r), [], []⟩:=by
 refine pure_call mix Tryz.func171 fits171 rfl ?_
 conv=>whnf
 refine ⟨_,fun _=>call173 _ r.st, ?_⟩
 by_cases hk:checkC r.st=0
 case neg=>
  rw [show checkRv r=checkC r.st by unfold checkRv;rw [if_pos hk]]
  generalize checkC r.st=E at hk⊢
  conv=>whnf
  refine ⟨?_,fun _=> ?_,fun h=> ?_⟩
  ·exact g0
  ·conv=>whnf
   refine ⟨?_, [], ?_⟩
   ·exact g0
   conv=>whnf
   refine ⟨rfl, ?_,trivial,trivial⟩
   all_goals exact ent
  ·exact absurd (show E=0 by simpa using h) hk
 have hg:=(check_good r.st).1 hk
 have hlen:=hg.le
 rw [hk]
 conv=>whnf
 refine ⟨?_,fun h=>(by cases h),fun _=> ?_⟩
 ·exact g0
 conv=>whnf
 refine ⟨?_,fun hc=> ?_,fun hc=> ?_⟩
 ·exact g0
 ·have h2:(r.st.length:Int)<2:=of_decide_eq_true hc
  rw [show checkRv r=3 by unfold checkRv;rw [if_neg (by rw [hk];decide),if_pos (by omega)]]
  conv=>whnf
  refine ⟨?_, [], ?_⟩
  ·exact g0
  conv=>whnf
  refine ⟨rfl, ?_,trivial,trivial⟩
  all_goals exact ent
 have h2:¬(r.st.length:Int)<2:=of_decide_eq_false hc
 have hch:checkRv r=if¬resP1 r then 1 else if¬resP2 r then 4 else if¬resP3 r then 4 else 0:=by unfold checkRv;rw [if_neg (by rw [hk];decide),if_neg (by omega)]
 clear hc
 conv=>whnf
 refine ⟨trivial, ?_⟩
 refine LSem.loop (n:=90) mix (α:=Nat) (fun i=>i≤r.st.length∧∀k,k<i→(r.st.getD k default).x≤16777216)
  (fun i=> [(1, .pt 16 0 0),(4, .int .i64 r.st.length),(22, .sl τ 2 r.st.length (fl ePt r.st)),(23, .int .i64 r.st.length),(24, .int .i64 i)])
  (fun _=> [(16, .box (eRv τ r))]) (fun i=>r.st.length - i) 0 ?_ ?_ ?_
 ·exact ⟨Nat.zero_le _,fun k hk=>absurd hk (Nat.not_lt_zero _)⟩
 ·refine ⟨rfl,rfl, ?_, ?_⟩
  all_goals exact ent
 ·intro i hi
  obtain ⟨hi,hall⟩:=hi
  have hj:((i:Int)).toNat=i:=by omega
  conv=>whnf
  refine ⟨trivial,fun hc=> ?_,fun hc=> ?_⟩
  ·replace hc:=of_decide_eq_true hc
   have hlt:i<r.st.length:=by
    have h:(i:Int)<r.st.length:=hc
    omega
   conv=>whnf
   rw [hj]
   refine ⟨?_,fun h1=> ?_,fun h1=> ?_⟩
   ·exact g0
   ·have h1:16777216<(r.st.getD i default).x:=of_decide_eq_true h1
    rw [show checkRv r=1 by rw [hch,if_pos (fun h=>by have:=h i hlt;omega)]]
    conv=>whnf
    refine ⟨?_, [], ?_⟩
    ·exact g0
    conv=>whnf
    refine ⟨rfl, ?_,trivial,trivial⟩
    all_goals exact ent
   ·have h1:¬16777216<(r.st.getD i default).x:=of_decide_eq_false h1
    conv=>whnf
    refine ⟨?_,i+1,⟨hlt,fun k hk=> ?_⟩,by omega,rfl,rfl, ?_, ?_⟩
    ·exact g0
    ·rcases Nat.lt_or_ge k i with h | h
     ·exact hall k h
     ·rw [show k=i by omega];omega
    all_goals exact ent
    all_goals first | omega | skip
  ·replace hc:=of_decide_eq_false hc
   have hk:i=r.st.length:=by
    have h:¬(i:Int)<r.st.length:=hc
    omega
   subst hk
   have hp1:resP1 r:=hall
   rw [if_neg (fun h=>h hp1)] at hch
   clear hall hc
   conv=>whnf
   refine ⟨trivial, ?_⟩
   refine LSem.loop (n:=90) mix (α:=Nat) (fun i=>1≤i∧i≤r.st.length∧∀k,k<i→0<k→(r.st.getD (k - 1) default).y<(r.st.getD k default).y)
    (fun i=> [(1, .pt 16 0 0),(4, .int .i64 r.st.length),(7, .int .i64 i)])
    (fun _=> [(16, .box (eRv τ r))]) (fun i=>r.st.length - i) 1 ?_ ?_ ?_
   ·exact ⟨Nat.le_refl _,by omega,fun k hk h0=>by omega⟩
   ·refine ⟨rfl,rfl, ?_, ?_⟩
    all_goals exact ent
   ·intro i hi
    obtain ⟨hi1,hi,hall⟩:=hi
    have hj:((i:Int)).toNat=i:=by omega
    have hj1:((i:Int) - 1).toNat=i - 1:=by omega
    conv=>whnf
    refine ⟨trivial,fun hc=> ?_,fun hc=> ?_⟩
    ·replace hc:=of_decide_eq_true hc
     have hlt:i<r.st.length:=by
      have h:(i:Int)<r.st.length:=hc
      omega
     conv=>whnf
     refine ⟨rfl, ?_⟩
     conv=>whnf
     rw [hj,hj1]
     refine ⟨?_,fun h1=> ?_,fun h1=> ?_⟩
     ·exact g0
     ·have h1:(r.st.getD i default).y≤(r.st.getD (i - 1) default).y:=of_decide_eq_true h1
      rw [show checkRv r=4 by rw [hch,if_pos (fun h=>by have:=h i hlt (by omega);omega)]]
      conv=>whnf
      refine ⟨?_, [], ?_⟩
      ·exact g0
      conv=>whnf
      refine ⟨rfl, ?_,trivial,trivial⟩
      all_goals exact ent
     ·have h1:¬(r.st.getD i default).y≤(r.st.getD (i - 1) default).y:=of_decide_eq_false h1
      conv=>whnf
      refine ⟨?_,i+1,⟨by omega,hlt,fun k hk h0=> ?_⟩,by omega,rfl,rfl, ?_, ?_⟩
      ·exact g0
      ·rcases Nat.lt_or_ge k i with h | h
       ·exact hall k h h0
       ·rw [show k=i by omega];omega
      all_goals exact ent
      all_goals first | omega | skip
    ·replace hc:=of_decide_eq_false hc
     have hk:i=r.st.length:=by
      have h:¬(i:Int)<r.st.length:=hc
      omega
     subst hk
     have hp2:resP2 r:=hall
     rw [if_neg (fun h=>h hp2)] at hch
     clear hall hc
     conv=>whnf
     refine ⟨rfl, ?_⟩
     conv=>whnf
     have hjl:((r.st.length:Int) - 1).toNat=r.st.length - 1:=by omega
     refine ⟨?_, ?_⟩
     ·exact g0
     refine LSem.loop (n:=90) mix (α:=Nat) (fun i=>1≤i∧i≤7∧∀k,k<i→0<k→(resL r).getD (k - 1) default≤(resL r).getD k default)
      (fun i=> [(8, .os 1168),(9, .int .i64 i)])
      (fun _=> [(1168, .row 0 3 1 7 (fl eInt (resL r)))]) (fun i=>7 - i) 1 ?_ ?_ ?_
     ·exact ⟨Nat.le_refl _,by omega,fun k hk h0=>by omega⟩
     ·refine ⟨rfl,rfl, ?_, ?_⟩
      all_goals repeat' (first | exact True.intro | refine leF_cons rfl ?_ ?_ | refine leS_cons rfl ?_ ?_ | (show PLe _ _ _ _;conv=>whnf) | (show SLe _ _ _ _;conv=>whnf) | (show PLeL _ _ _ _;conv=>whnf) | apply And.intro | rfl | exact Nat.le_refl _ | exact fun _ _=>rfl | exact rowEq0 _ _)
      all_goals first | (rw [hjl];exact rows7 _ _ _ _ _ _ _) | skip
     ·intro i hi
      obtain ⟨hi1,hi,hall⟩:=hi
      have hj:((i:Int)).toNat=i:=by omega
      have hj1:((i:Int) - 1).toNat=i - 1:=by omega
      generalize hRL:resL r=RL at hall
      conv=>whnf
      refine ⟨?_,fun hc=> ?_,fun hc=> ?_⟩
      ·exact g0
      ·replace hc:=of_decide_eq_true hc
       have hlt:i<7:=by
        have h:(i:Int)<7:=hc
        omega
       conv=>whnf
       refine ⟨rfl, ?_⟩
       conv=>whnf
       rw [hj,hj1]
       refine ⟨?_,fun h1=> ?_,fun h1=> ?_⟩
       ·exact g0
       ·have h1:RL.getD i default<RL.getD (i - 1) default:=of_decide_eq_true h1
        rw [show checkRv r=4 by rw [hch,if_pos (fun h=>by have:=h i hlt (by omega);rw [hRL] at this;omega)]]
        conv=>whnf
        refine ⟨?_, [], ?_⟩
        ·exact g0
        conv=>whnf
        refine ⟨rfl, ?_,trivial,trivial⟩
        all_goals exact ent
       ·have h1:¬RL.getD i default<RL.getD (i - 1) default:=of_decide_eq_false h1
        conv=>whnf
        refine ⟨?_,i+1,⟨by omega,hlt,fun k hk h0=> ?_⟩,by omega,rfl,rfl, ?_, ?_⟩
        ·exact g0
        ·rcases Nat.lt_or_ge k i with h | h
         ·exact hall k h h0
         ·rw [show k=i by omega];omega
        all_goals exact ent
      ·replace hc:=of_decide_eq_false hc
       have hk:i=7:=by
        have h:¬(i:Int)<7:=hc
        omega
       subst hk
       have hp3:resP3 r:=by rw [←hRL] at hall;exact hall
       rw [if_neg (fun h=>h hp3)] at hch
       rw [hch]
       conv=>whnf
       refine ⟨?_, [], ?_⟩
       ·exact g0
       conv=>whnf
       refine ⟨rfl, ?_,trivial,trivial⟩
       all_goals exact ent
theorem call116 (τ:Nat) (r:Rv) (level:Int):PureCall Tryz.prog 116 [.agg (eRv τ r), .int .i64 level] [] ⟨.int .i64 (wrongRv r level), [], []⟩:=by
 refine pure_call mix Tryz.func116 fits116 rfl ?_
 conv=>whnf
 refine ⟨_,fun _=>call171 _ r, ?_⟩
 unfold wrongRv
 generalize checkRv r=E
 by_cases hk:E=0
 ·subst hk
  rw [if_neg (by decide)]
  conv=>whnf
  refine ⟨?_,fun h=>(by cases h),fun _=> ?_⟩
  ·exact g0
  conv=>whnf
  refine ⟨_,fun _=>call172 level 16777216, ?_⟩
  by_cases hl:0≤level∧level≤16777216
  ·rw [if_neg (fun h=>h hl),decide_eq_true hl]
   conv=>whnf
   refine ⟨?_,fun h=>(by cases h),fun _=> ?_⟩
   ·exact g0
   conv=>whnf
   refine ⟨?_, [], ?_⟩
   ·exact g0
   conv=>whnf
   refine ⟨rfl, ?_,trivial,trivial⟩
   all_goals exact ent
  ·rw [if_pos hl,decide_eq_false hl]
   conv=>whnf
   refine ⟨?_,fun _=> ?_,fun h=>(by cases h)⟩
   ·exact g0
   conv=>whnf
   refine ⟨?_, [], ?_⟩
   ·exact g0
   conv=>whnf
   refine ⟨rfl, ?_,trivial,trivial⟩
   all_goals exact ent
 ·rw [if_pos hk]
  conv=>whnf
  refine ⟨?_,fun _=> ?_,fun h=> ?_⟩
  ·exact g0
  ·conv=>whnf
   refine ⟨?_, [], ?_⟩
   ·exact g0
   conv=>whnf
   refine ⟨rfl, ?_,trivial,trivial⟩
   all_goals exact ent
  ·exact absurd (show E=0 by simpa using h) hk
theorem call51 (τ:Nat) (r:Rv) (level:Int):PureCall Tryz.prog 51 [.agg (eRv τ r), .int .i64 level] [] ⟨.tup [.int .i64 (volF r level).1, .int .i64 (volF r level).2], [], []⟩:=by
 refine pure_call mix Tryz.func51 fits51 rfl ?_
 conv=>whnf
 refine ⟨_,fun _=>call116 _ r level, ?_⟩
 unfold volF
 generalize wrongRv r level=E
 by_cases hk:E=0
 ·subst hk
  rw [if_neg (by decide)]
  conv=>whnf
  refine ⟨?_,fun h=>(by cases h),fun _=> ?_⟩
  ·exact g0
  conv=>whnf
  refine ⟨_,fun _=>call117 _ r.st level, ?_⟩
  conv=>whnf
  refine ⟨?_, [], ?_⟩
  ·exact g0
  conv=>whnf
  refine ⟨rfl, ?_,trivial,trivial⟩
  all_goals exact ent
 ·rw [if_pos hk]
  conv=>whnf
  refine ⟨?_,fun _=> ?_,fun h=> ?_⟩
  ·exact g0
  ·conv=>whnf
   refine ⟨?_, [], ?_⟩
   ·exact g0
   conv=>whnf
   refine ⟨rfl, ?_,trivial,trivial⟩
   all_goals exact ent
  ·exact absurd (show E=0 by simpa using h) hk
theorem volF_rng (r:Rv) (level:Int):0≤(volF r level).1∧(volF r level).1≤274877906944:=by
 unfold volF
 split
 ·dsimp only;omega
 ·unfold atC
  split
  ·rename_i h
   exact val_rng ((check_good r.st).1 h) level
  ·dsimp only;omega
def lvD (last:Int) (i:Int) (a:Int):Int:=(last - a) / (5 - i)+1
def lvN (last:Int) (i:Int) (s:Int×Dk):Int×Dk:=(s.1+nxt s.2 (lvD last i s.1),nxtD s.2 (lvD last i s.1))
def lvS (last:Int) (s:Int×Dk):Nat→Int×Dk
 | 0=>s
 | i+1=>lvN last i (lvS last s i)
def resC (d:Dk):Cst:=curveS (nxtD (nxtD d 10) 20) (100+nxt d 10) (nxt (nxtD d 10) 20) 40 200 1
def resS (c:Cst):Nat→Int×Dk:=lvS (c.L.getD (c.L.length - 1) default).x ((c.L.getD 0 default).x,c.d)
def resF (d:Dk):Rv×Dk:=(⟨(resC d).L,(resS (resC d) 1).1,(resS (resC d) 2).1,(resS (resC d) 3).1,(resS (resC d) 4).1,(resS (resC d) 5).1⟩,(resS (resC d) 5).2)
theorem lvS_ok {last:Int} {s:Int×Dk} (h:s.1≤last):∀i,i≤5→(s.1≤(lvS last s i).1∧(lvS last s i).1≤last)∧(lvS last s i).2.at_≤s.2.at_+i
 | 0,_=>by simp only [lvS];omega
 | i+1,hi=>by
   have ih:=lvS_ok h i (by omega)
   simp only [lvS,lvN]
   generalize lvS last s i=t at ih⊢
   have hq:0≤(last - t.1) / (5 - (i:Int))∧(last - t.1) / (5 - (i:Int))≤last - t.1:=⟨Int.ediv_nonneg (by omega) (by omega),Int.ediv_le_self _ (by omega)⟩
   have r:=nxt_lt t.2 (n:=lvD last i t.1) (by unfold lvD;omega)
   have a:=nxtD_at t.2 (lvD last i t.1)
   unfold lvD at r a⊢
   omega
theorem made_ends {c:List Pt} (h:MadeC c):0≤(c.getD 0 default).x∧(c.getD 0 default).x≤(c.getD (c.length - 1) default).x∧(c.getD (c.length - 1) default).x≤6000:=by
 have h1:=h.len
 have h2:=(h.good).xs (c.length - 1) 0 (by omega)
 have h3:=h.rng 0 (by omega)
 have h4:=h.rng (c.length - 1) (by omega)
 rw [Nat.zero_add] at h2
 omega
theorem resC_ok (d:Dk):MadeC (resC d).L∧(resC d).d.at_≤d.at_+11:=by
 have r1:=nxt_lt d (n:=10) (by omega)
 have a1:=nxtD_at d 10
 have r2:=nxt_lt (nxtD d 10) (n:=20) (by omega)
 have a2:=nxtD_at (nxtD d 10) 20
 have h:=curve_made (nxtD (nxtD d 10) 20) (x:=100+nxt d 10) (y:=nxt (nxtD d 10) 20) (dx:=40) (dy:=200) (least:=1) (by omega) (by omega) (by omega) (by omega) (by omega)
 unfold resC
 exact ⟨h.1,by omega⟩
theorem resF_at (d:Dk):(resF d).2.at_≤d.at_+16:=by
 have h:=resC_ok d
 have he:=made_ends h.1
 have:=(lvS_ok (last:=((resC d).L.getD ((resC d).L.length - 1) default).x) (s:=(((resC d).L.getD 0 default).x,(resC d).d)) he.2.1 5 (Nat.le_refl _)).2
 unfold resF resS
 dsimp only at this⊢
 omega
theorem call38 (d:Dk) (hd:d.at_≤970000000):PureCall Tryz.prog 38 [.pt 0 0 0] [.box (eDk 1 d)] ⟨.agg (eRv 0 (resF d).1), [.box (eDk 1 (resF d).2)], []⟩:=by
 refine pure_call mix Tryz.func38 fits38 rfl ?_
 conv=>whnf
 have hC:=resC_ok d
 have hCd:resC d=curveS (nxtD (nxtD d 10) 20) (100+nxt d 10) (nxt (nxtD d 10) 20) 40 200 1:=rfl
 refine ⟨_,fun _=>call_next 1 d 10 (by omega) (by omega), ?_⟩
 have r1:=nxt_lt d (n:=10) (by omega)
 have a1:=nxtD_at d 10
 conv=>whnf
 refine ⟨_,fun _=>call_next 1 (nxtD d 10) 20 (by omega) (by omega), ?_⟩
 have r2:=nxt_lt (nxtD d 10) (n:=20) (by omega)
 have a2:=nxtD_at (nxtD d 10) 20
 conv=>whnf
 refine ⟨_,fun _=>call88 (nxtD (nxtD d 10) 20) (100+nxt d 10) (nxt (nxtD d 10) 20) 40 200 true (by omega) (by omega) (by omega) (by omega) (by omega), ?_⟩
 rw [show lst true=1 from rfl,←hCd]
 unfold resF
 have hS:resS (resC d)=lvS ((resC d).L.getD ((resC d).L.length - 1) default).x (((resC d).L.getD 0 default).x,(resC d).d):=rfl
 generalize resC d=c at hC hS⊢
 obtain ⟨hM,hat⟩:=hC
 have hlen:=hM.len
 have he:=made_ends hM
 have hok:=lvS_ok (last:=(c.L.getD (c.L.length - 1) default).x) (s:=((c.L.getD 0 default).x,c.d)) he.2.1
 have hjl:((c.L.length:Int) - 1).toNat=c.L.length - 1:=by omega
 conv=>whnf
 rw [hjl]
 generalize (c.L.getD (c.L.length - 1) default).x=last at he hok hS⊢
 rw [←hS] at hok
 have h0:resS c 0=((c.L.getD 0 default).x,c.d):=by rw [hS];rfl
 have hn:∀i,resS c (i+1)=lvN last i (resS c i):=fun i=>by rw [hS];rfl
 clear hS
 generalize resS c=S at hok h0 hn⊢
 refine ⟨?_, ?_⟩
 ·exact g0
 refine LSem.loop (n:=64) mix (α:=Nat) (fun i=>i≤5)
  (fun i=> [(0, .pt 0 0 0),(2, .pt 32 0 0),(3, .pt 48 0 0),(4, .int .i64 (S i).1),(5, .int .i64 last),(6, .pt 96 0 0),(30, .int .i64 i)])
  (fun i=> [(0, .box (eDk 1 (S i).2)),(32, .box [.nil 2, .int .i64 0, .int .i64 0, .int .i64 0, .int .i64 0, .int .i64 0]),(48, .box [.sl 0 2 c.L.length (fl ePt c.L), .int .i64 0, .int .i64 0, .int .i64 0, .int .i64 0, .int .i64 0]),
   (96, .box [.int .i64 (if 0<i then (S 1).1 else 0), .int .i64 (if 1<i then (S 2).1 else 0), .int .i64 (if 2<i then (S 3).1 else 0), .int .i64 (if 3<i then (S 4).1 else 0), .int .i64 (if 4<i then (S 5).1 else 0)])])
  (fun i=>5 - i) 0 ?_ ?_ ?_
 ·exact Nat.zero_le _
 ·refine ⟨rfl,rfl, ?_, ?_⟩
  all_goals repeat' (first | exact True.intro | refine leF_cons rfl ?_ ?_ | refine leS_cons rfl ?_ ?_ | (show PLe _ _ _ _;conv=>whnf) | (show SLe _ _ _ _;conv=>whnf) | (show PLeL _ _ _ _;conv=>whnf) | apply And.intro | rfl | exact Nat.le_refl _ | exact fun _ _=>rfl | exact rowEq0 _ _)
  all_goals first | (rw [h0];done) | (rw [h0];rfl) | (rw [h0];exact fun _ _=>rfl) | skip
 ·intro i hi
  have h012345:i=0∨i=1∨i=2∨i=3∨i=4∨i=5:=by omega
  have hoi:=hok i hi
  dsimp only at hoi
  have hni:=hn i
  have hq:=fun h5:i<5=>(show 0≤(last - (S i).1) / (5 - (i:Int))∧(last - (S i).1) / (5 - (i:Int))≤last - (S i).1 from ⟨Int.ediv_nonneg (by omega) (by omega),Int.ediv_le_self _ (by omega)⟩)
  rcases h012345 with rfl | rfl | rfl | rfl | rfl | rfl
  ·conv=>whnf
   refine ⟨trivial,fun _=> ?_,fun h=>(by cases h)⟩
   have hdiv:Int.tdiv (last - (S 0).1) (5 - ((0:Nat):Int))=(last - (S 0).1) / (5 - ((0:Nat):Int)):=Int.tdiv_eq_ediv_of_nonneg (by omega)
   have hqi:=hq (by omega)
   conv=>whnf
   rw [hdiv]
   have r:=nxt_lt (S 0).2 (n:=(last - (S 0).1) / (5 - ((0:Nat):Int))+1) (by omega)
   have a:=nxtD_at (S 0).2 ((last - (S 0).1) / (5 - ((0:Nat):Int))+1)
   refine ⟨_,fun _=>call_next 1 (S 0).2 ((last - (S 0).1) / (5 - ((0:Nat):Int))+1) (by omega) (by omega), ?_⟩
   have h1:(S 1).1=(S 0).1+nxt (S 0).2 ((last - (S 0).1) / (5 - ((0:Nat):Int))+1):=by rw [hni];rfl
   have h2:(S 1).2=nxtD (S 0).2 ((last - (S 0).1) / (5 - ((0:Nat):Int))+1):=by rw [hni];rfl
   rw [←h2]
   conv=>whnf
   rw [←h1]
   refine ⟨?_,1,by omega,by omega,rfl,rfl, ?_, ?_⟩
   ·exact g0
   all_goals exact ent
   all_goals first | omega | skip
  ·conv=>whnf
   refine ⟨trivial,fun _=> ?_,fun h=>(by cases h)⟩
   have hdiv:Int.tdiv (last - (S 1).1) (5 - ((1:Nat):Int))=(last - (S 1).1) / (5 - ((1:Nat):Int)):=Int.tdiv_eq_ediv_of_nonneg (by omega)
   have hqi:=hq (by omega)
   conv=>whnf
   rw [hdiv]
   have r:=nxt_lt (S 1).2 (n:=(last - (S 1).1) / (5 - ((1:Nat):Int))+1) (by omega)
   have a:=nxtD_at (S 1).2 ((last - (S 1).1) / (5 - ((1:Nat):Int))+1)
   refine ⟨_,fun _=>call_next 1 (S 1).2 ((last - (S 1).1) / (5 - ((1:Nat):Int))+1) (by omega) (by omega), ?_⟩
   have h1:(S 2).1=(S 1).1+nxt (S 1).2 ((last - (S 1).1) / (5 - ((1:Nat):Int))+1):=by rw [hni];rfl
   have h2:(S 2).2=nxtD (S 1).2 ((last - (S 1).1) / (5 - ((1:Nat):Int))+1):=by rw [hni];rfl
   rw [←h2]
   conv=>whnf
   rw [←h1]
   refine ⟨?_,2,by omega,by omega,rfl,rfl, ?_, ?_⟩
   ·exact g0
   all_goals exact ent
   all_goals first | omega | skip
  ·conv=>whnf
   refine ⟨trivial,fun _=> ?_,fun h=>(by cases h)⟩
   have hdiv:Int.tdiv (last - (S 2).1) (5 - ((2:Nat):Int))=(last - (S 2).1) / (5 - ((2:Nat):Int)):=Int.tdiv_eq_ediv_of_nonneg (by omega)
   have hqi:=hq (by omega)
   conv=>whnf
   rw [hdiv]
   have r:=nxt_lt (S 2).2 (n:=(last - (S 2).1) / (5 - ((2:Nat):Int))+1) (by omega)
   have a:=nxtD_at (S 2).2 ((last - (S 2).1) / (5 - ((2:Nat):Int))+1)
   refine ⟨_,fun _=>call_next 1 (S 2).2 ((last - (S 2).1) / (5 - ((2:Nat):Int))+1) (by omega) (by omega), ?_⟩
   have h1:(S 3).1=(S 2).1+nxt (S 2).2 ((last - (S 2).1) / (5 - ((2:Nat):Int))+1):=by rw [hni];rfl
   have h2:(S 3).2=nxtD (S 2).2 ((last - (S 2).1) / (5 - ((2:Nat):Int))+1):=by rw [hni];rfl
   rw [←h2]
   conv=>whnf
   rw [←h1]
   refine ⟨?_,3,by omega,by omega,rfl,rfl, ?_, ?_⟩
   ·exact g0
   all_goals exact ent
   all_goals first | omega | skip
  ·conv=>whnf
   refine ⟨trivial,fun _=> ?_,fun h=>(by cases h)⟩
   have hdiv:Int.tdiv (last - (S 3).1) (5 - ((3:Nat):Int))=(last - (S 3).1) / (5 - ((3:Nat):Int)):=Int.tdiv_eq_ediv_of_nonneg (by omega)
   have hqi:=hq (by omega)
   conv=>whnf
   rw [hdiv]
   have r:=nxt_lt (S 3).2 (n:=(last - (S 3).1) / (5 - ((3:Nat):Int))+1) (by omega)
   have a:=nxtD_at (S 3).2 ((last - (S 3).1) / (5 - ((3:Nat):Int))+1)
   refine ⟨_,fun _=>call_next 1 (S 3).2 ((last - (S 3).1) / (5 - ((3:Nat):Int))+1) (by omega) (by omega), ?_⟩
   have h1:(S 4).1=(S 3).1+nxt (S 3).2 ((last - (S 3).1) / (5 - ((3:Nat):Int))+1):=by rw [hni];rfl
   have h2:(S 4).2=nxtD (S 3).2 ((last - (S 3).1) / (5 - ((3:Nat):Int))+1):=by rw [hni];rfl
   rw [←h2]
   conv=>whnf
   rw [←h1]
   refine ⟨?_,4,by omega,by omega,rfl,rfl, ?_, ?_⟩
   ·exact g0
   all_goals exact ent
   all_goals first | omega | skip
  ·conv=>whnf
   refine ⟨trivial,fun _=> ?_,fun h=>(by cases h)⟩
   have hdiv:Int.tdiv (last - (S 4).1) (5 - ((4:Nat):Int))=(last - (S 4).1) / (5 - ((4:Nat):Int)):=Int.tdiv_eq_ediv_of_nonneg (by omega)
   have hqi:=hq (by omega)
   conv=>whnf
   rw [hdiv]
   have r:=nxt_lt (S 4).2 (n:=(last - (S 4).1) / (5 - ((4:Nat):Int))+1) (by omega)
   have a:=nxtD_at (S 4).2 ((last - (S 4).1) / (5 - ((4:Nat):Int))+1)
   refine ⟨_,fun _=>call_next 1 (S 4).2 ((last - (S 4).1) / (5 - ((4:Nat):Int))+1) (by omega) (by omega), ?_⟩
   have h1:(S 5).1=(S 4).1+nxt (S 4).2 ((last - (S 4).1) / (5 - ((4:Nat):Int))+1):=by rw [hni];rfl
   have h2:(S 5).2=nxtD (S 4).2 ((last - (S 4).1) / (5 - ((4:Nat):Int))+1):=by rw [hni];rfl
   rw [←h2]
   conv=>whnf
   rw [←h1]
   refine ⟨?_,5,by omega,by omega,rfl,rfl, ?_, ?_⟩
   ·exact g0
   all_goals exact ent
   all_goals first | omega | skip
  ·conv=>whnf
   refine ⟨trivial,fun h=>(by cases h),fun _=> ?_⟩
   conv=>whnf
   refine ⟨rfl, ?_⟩
   conv=>whnf
   refine ⟨?_, [], ?_⟩
   ·exact g0
   conv=>whnf
   refine ⟨rfl, ?_, ?_,trivial⟩
   all_goals exact ent
namespace TE
def c119L1:C:=(sr [kb 29 .lss 28 27] (.seq (.cond 29 .skip (.exit 1)) (.seq (.block 2 (sr [ki 30 1 26 28,kl 31 30,km 6 31] (.seq (sr [km 32 6,kc 33 56 [32,(cn 10000)],kk 34 (.un false .not 33)] (.cond 34 (sr [kk 2 (.mv (cn 1))] .ret) .skip)) (.reg [km 35 4,km 36 6,kb 37 .add 35 36,km 4 37])))) (.reg [kb 38 .add 28 (cn 1),km 28 38]))))
def c119:C:=(sr [kk 1 (.bx 2 0),kk 2 (.mv (cn 0))] (sr [kf 7 0 1,kl 8 7,kk 9 (.len 8),km 3 9] (.seq (.block 0 (sr [km 11 3,kb 12 .eql 11 (cn 0),km 13 12,kg 14 13 false (.fa 0 1),kg 15 13 false (.ld 1 false 14),kg 16 13 false (.mv 3),kg 17 13 false (.bi false .sub 16 (cn 1)),kg 18 13 false (.ia 1 15 17),kg 19 13 false (.ld 1 false 18),kg 20 13 false (.bi false .eql 19 (cn 0)),kk 21 (.pick 13 ct 20),km 10 21] (.cond 10 (sr [kk 2 (.mv (cn 3))] .ret) (sr [km 23 3,kb 24 .gtr 23 (cn 24),km 22 24] (.cond 22 (sr [kk 2 (.mv (cn 10))] .ret) .skip))))) (sr [kk 4 (.mv (cn 0))] (.seq (sr [kf 25 0 1,kl 26 25,kk 27 (.len 26),kk 28 (.mv (cn 0))] (.block 1 (.loop c119L1))) (.seq (sr [km 39 4,kf 40 1 1,kl 41 40,kb 42 .neq 39 41] (.cond 42 (sr [kk 2 (.mv (cn 2))] .ret) .skip)) (sr [kk 2 (.mv (cn 0))] .ret)))))))
theorem fits119:fits Tryz.prog false Tryz.f119 1 43 [(2,none)]=some c119.er:=by kernel_rfl
def c187L1:C:=(sr [kb 33 .lss 32 31] (.seq (.cond 33 .skip (.exit 0)) (.seq (.block 1 (sr [ki 34 1 30 32,kl 35 34,km 7 35] (sr [km 36 7,kc 37 56 [36,(cn 2251799813685248)],kk 38 (.un false .not 37)] (.cond 38 (sr [kk 4 (.mv cf)] .ret) .skip)))) (.reg [kb 39 .add 32 (cn 1),km 32 39]))))
def c187:C:=(sr [kk 2 (.bx 2 0),kk 3 (.bx 1 1),kk 4 (.mv cf)] (sr [kf 8 0 3,kl 9 8,kk 10 (.len 9),km 5 10] (.seq (sr [km 11 5,kf 12 0 2,kl 13 12,kk 14 (.len 13),kb 15 .gtr 11 14,km 16 15,kg 17 16 false (.mv 5),kg 18 16 false (.bi false .gtr 17 (cn 0)),kg 19 16 false (.mv 18),kg 20 19 true (.fa 0 3),kg 21 19 true (.ld 1 false 20),kg 22 19 true (.mv 5),kg 23 19 true (.bi false .sub 22 (cn 1)),kg 24 19 true (.ia 1 21 23),kg 25 19 true (.ld 1 false 24),kg 26 19 true (.bi false .eql 25 (cn 0)),kg 27 16 false (.pick 19 26 cf),kk 28 (.pick 16 ct 27)] (.cond 28 (sr [kk 4 (.mv cf)] .ret) .skip)) (.seq (sr [kf 29 0 3,kl 30 29,kk 31 (.len 30),kk 32 (.mv (cn 0))] (.block 0 (.loop c187L1))) (sr [kk 4 (.mv ct)] .ret)))))
theorem fits187:fits Tryz.prog false Tryz.f187 2 40 [(4,none)]=some c187.er:=by kernel_rfl
def c184:C:=(sr [kk 2 (.bx 2 0),kk 3 (.bx 1 1),kk 4 (.mv cf)] (sr [kt 5 2 2,kc 6 119 [5],kb 7 .eql 6 (cn 0),km 8 7,kg 9 8 true (.ld 2 true 2),kg 10 8 true (.ld 1 true 3),kg 11 8 true (cl 187 [9,10]),kk 12 (.pick 8 11 cf),km 4 12] .ret))
theorem fits184:fits Tryz.prog false Tryz.f184 2 13 [(4,none)]=some c184.er:=by kernel_rfl
def c15L1:C:=(sr [kb 10 .lss 9 8] (.seq (.cond 10 .skip (.exit 0)) (.seq (.block 1 (sr [ki 11 1 7 9,kl 12 11,km 5 12] (.reg [km 13 3,km 14 5,kb 15 .add 13 14,km 3 15]))) (.reg [kb 16 .add 9 (cn 1),km 9 16]))))
def c15:C:=(sr [kk 1 (.bx 1 0),kk 2 (.mv (cn 0))] (sr [kk 3 (.mv (cn 0))] (.seq (sr [kf 6 0 1,kl 7 6,kk 8 (.len 7),kk 9 (.mv (cn 0))] (.block 0 (.loop c15L1))) (sr [km 17 3,km 2 17] .ret))))
theorem fits15:fits Tryz.prog false Tryz.f15 1 18 [(2,none)]=some c15.er:=by kernel_rfl
structure Rch where
 ws:List Int
 den:Int
 deriving Inhabited
def eRch (τ:Nat) (r:Rch):List PV:= [.sl τ 1 r.ws.length (fl eInt r.ws), .int .i64 r.den]
structure RcOK (r:Rch):Prop where
 n:1≤r.ws.length∧r.ws.length≤24
 w:∀i,i<r.ws.length→0≤r.ws.getD i default∧r.ws.getD i default≤10000
 last:r.ws.getD (r.ws.length - 1) default≠0
 sum:r.ws.sum=r.den
theorem take_sum (l:List Int) {i:Nat} (h:i<l.length):(l.take (i+1)).sum=(l.take i).sum+l.getD i default:=by
 rw [List.take_add_one,getD_some h,List.sum_append]
 simp
theorem take_rng {l:List Int} {M:Int} (h:∀i,i<l.length→0≤l.getD i default∧l.getD i default≤M):∀i,i≤l.length→0≤(l.take i).sum∧(l.take i).sum≤M*i
 | 0,_=>by simp
 | i+1,hi=>by
   have h1:=take_rng h i (by omega)
   have h2:=h i (by omega)
   rw [take_sum l (by omega)]
   have e:M*((i+1:Nat):Int)=M*i+M:=by rw [Int.natCast_add,Int.mul_add];omega
   omega
theorem take_all (l:List Int):(l.take l.length).sum=l.sum:=by rw [List.take_length]
theorem RcOK.den {r:Rch} (h:RcOK r):1≤r.den∧r.den≤240000:=by
 have h1:=h.n
 have h2:=take_rng h.w (r.ws.length - 1) (by omega)
 have h3:=take_sum r.ws (i:=r.ws.length - 1) (by omega)
 have h4:=h.w (r.ws.length - 1) (by omega)
 have h5:=h.last
 have h6:=take_rng h.w r.ws.length (Nat.le_refl _)
 rw [show r.ws.length - 1+1=r.ws.length by omega,take_all,h.sum] at h3
 rw [take_all,h.sum] at h6
 omega
theorem call119 (τ:Nat) (r:Rch) (h:RcOK r):PureCall Tryz.prog 119 [.agg (eRch τ r)] [] ⟨.int .i64 0, [], []⟩:=by
 obtain ⟨hn,hw,hl,hs⟩:=h
 have hrng:=take_rng hw
 refine pure_call mix Tryz.func119 fits119 rfl ?_
 conv=>whnf
 have e1:((r.ws.length:Int)==0)=false:=by rw [beq_eq_false_iff_ne];omega
 have ei:((r.ws.length:Int) - 1).toNat=r.ws.length - 1:=by omega
 have e2:(r.ws.getD (r.ws.length - 1) default==0)=false:=by rw [beq_eq_false_iff_ne];exact hl
 rw [ei]
 refine ⟨by exact g0,fun hc=>absurd hc (by simp [e1, -List.getD_eq_getElem?_getD];exact hl),fun _=> ?_⟩
 conv=>whnf
 refine ⟨by exact g0,fun hc=>absurd (of_decide_eq_true hc) (by omega),fun _=> ?_⟩
 conv=>whnf
 refine ⟨by exact g0, ?_⟩
 refine LSem.loop (n:=43) mix (α:=Nat) (fun i=>i≤r.ws.length)
  (fun i=> [(1, .pt 16 0 0),(4, .int .i64 (r.ws.take i).sum),(26, .sl τ 1 r.ws.length (fl eInt r.ws)),(27, .int .i64 r.ws.length),(28, .int .i64 i)])
  (fun i=> [(16, .box (eRch τ r))]) (fun i=>r.ws.length - i) 0 (Nat.zero_le _) ?_ ?_
 ·refine ⟨rfl,rfl, ?_, ?_⟩<;>exact ent
 intro i hi
 have hj:((i:Int)).toNat=i:=by omega
 have hr1:=hrng i hi
 conv=>whnf
 refine ⟨trivial,fun hc=> ?_,fun hc=> ?_⟩
 ·replace hc:=of_decide_eq_true hc
  have hlt:i<r.ws.length:=by
   have h:(i:Int)<r.ws.length:=hc
   omega
  have hwi:=hw i hlt
  have hts:=take_sum r.ws hlt
  conv=>whnf
  rw [hj]
  refine ⟨_,fun _=>G02.call56 (r.ws.getD i default) 10000, ?_⟩
  rw [decide_eq_true hwi]
  conv=>whnf
  refine ⟨by exact g0,fun h=>(by cases h),fun _=> ?_⟩
  conv=>whnf
  generalize (r.ws.take i).sum=s at hr1 hts⊢
  refine ⟨by exact g0,i+1,hlt,by omega,rfl,rfl, ?_, ?_⟩
  ·rw [hts];exact ent
  ·exact ent
 ·replace hc:=of_decide_eq_false hc
  have hk:i=r.ws.length:=by
   have h:¬(i:Int)<r.ws.length:=hc
   omega
  subst hk
  rw [take_all,hs]
  conv=>whnf
  have e3:(r.den != r.den)=false:=by simp
  refine ⟨by exact g0,fun hc=>absurd hc (by simp),fun _=> ?_⟩
  conv=>whnf
  exact ret
def eWv (τ:Nat) (w:List Int):List PV:= [.sl τ 1 w.length (fl eInt w)]
structure WvOK (r:Rch) (w:List Int):Prop where
 le:w.length≤r.ws.length
 last:0<w.length→w.getD (w.length - 1) default≠0
 rng:∀i,i<w.length→0≤w.getD i default∧w.getD i default≤100000000000000
theorem call187 (τ τ':Nat) (r:Rch) (w:List Int) (h:RcOK r) (hw:WvOK r w):PureCall Tryz.prog 187 [.agg (eRch τ r), .agg (eWv τ' w)] [] ⟨.bool true, [], []⟩:=by
 have hn:=h.n
 obtain ⟨h1,h2,h3⟩:=hw
 refine pure_call mix Tryz.func187 fits187 rfl ?_
 conv=>whnf
 have ei:((w.length:Int) - 1).toNat=w.length - 1:=by omega
 rw [ei]
 have e1:decide ((r.ws.length:Int)<w.length)=false:=decide_eq_false (by omega)
 refine ⟨by exact g0,fun hc=> ?_,fun _=> ?_⟩
 ·exfalso
  revert hc
  simp [-List.getD_eq_getElem?_getD]
  exact ⟨h1,h2⟩
 conv=>whnf
 refine ⟨by exact g0, ?_⟩
 refine LSem.loop (n:=40) mix (α:=Nat) (fun i=>i≤w.length)
  (fun i=> [(30, .sl τ' 1 w.length (fl eInt w)),(31, .int .i64 w.length),(32, .int .i64 i)])
  (fun i=> []) (fun i=>w.length - i) 0 (Nat.zero_le _) ?_ ?_
 ·refine ⟨rfl,rfl, ?_, ?_⟩<;>exact ent
 intro i hi
 have hj:((i:Int)).toNat=i:=by omega
 conv=>whnf
 refine ⟨trivial,fun hc=> ?_,fun hc=> ?_⟩
 ·replace hc:=of_decide_eq_true hc
  have hlt:i<w.length:=by
   have h:(i:Int)<w.length:=hc
   omega
  have hwi:=h3 i hlt
  conv=>whnf
  rw [hj]
  refine ⟨_,fun _=>G02.call56 (w.getD i default) 2251799813685248, ?_⟩
  rw [decide_eq_true (show 0≤w.getD i default∧w.getD i default≤2251799813685248 by omega)]
  conv=>whnf
  refine ⟨by exact g0,fun h=>(by cases h),fun _=> ?_⟩
  conv=>whnf
  refine ⟨by exact g0,i+1,hlt,by omega,rfl,rfl, ?_, ?_⟩<;>exact ent
 conv=>whnf
 exact ret
theorem call184 (τ τ':Nat) (r:Rch) (w:List Int) (h:RcOK r) (hw:WvOK r w):PureCall Tryz.prog 184 [.agg (eRch τ r), .agg (eWv τ' w)] [] ⟨.bool true, [], []⟩:=by
 refine pure_call mix Tryz.func184 fits184 rfl ?_
 conv=>whnf
 refine ⟨_,fun _=>call119 _ r h, ?_⟩
 conv=>whnf
 refine ⟨_,fun _=>call187 _ _ r w h hw, ?_⟩
 conv=>whnf
 exact ret
theorem call15 (τ:Nat) (w:List Int) (hn:w.length≤1000) (h:∀i,i<w.length→0≤w.getD i default∧w.getD i default≤100000000000000):PureCall Tryz.prog 15 [.agg (eWv τ w)] [] ⟨.int .i64 w.sum, [], []⟩:=by
 have hrng:=take_rng h
 refine pure_call mix Tryz.func15 fits15 rfl ?_
 conv=>whnf
 refine ⟨by exact g0, ?_⟩
 refine LSem.loop (n:=18) mix (α:=Nat) (fun i=>i≤w.length)
  (fun i=> [(3, .int .i64 (w.take i).sum),(7, .sl τ 1 w.length (fl eInt w)),(8, .int .i64 w.length),(9, .int .i64 i)])
  (fun i=> []) (fun i=>w.length - i) 0 (Nat.zero_le _) ?_ ?_
 ·refine ⟨rfl,rfl, ?_, ?_⟩<;>exact ent
 intro i hi
 have hj:((i:Int)).toNat=i:=by omega
 have hr1:=hrng i hi
 conv=>whnf
 refine ⟨trivial,fun hc=> ?_,fun hc=> ?_⟩
 ·replace hc:=of_decide_eq_true hc
  have hlt:i<w.length:=by
   have h:(i:Int)<w.length:=hc
   omega
  have hwi:=h i hlt
  have hts:=take_sum w hlt
  conv=>whnf
  rw [hj]
  generalize (w.take i).sum=s at hr1 hts⊢
  refine ⟨by exact g0,i+1,hlt,by omega,rfl,rfl, ?_, ?_⟩
  ·rw [hts];exact ent
  ·exact ent
 ·replace hc:=of_decide_eq_false hc
  have hk:i=w.length:=by
   have h:¬(i:Int)<w.length:=hc
   omega
  subst hk
  rw [take_all]
  conv=>whnf
  exact ret
end TE
open Go.RowKit Go.ChangeShapes
inductive Sh where
 | int (k:IntKind)
 | bool
 | str
 | sl (shs:List Sh)
 deriving Inhabited
inductive ShR:Sh→PV→Prop where
 | int (k:IntKind) (n:Int) (h:inR k n):ShR (.int k) (.int k n)
 | bool (b:Bool):ShR .bool (.bool b)
 | str (s:List UInt8) (h:s.length≤maxLen):ShR .str (.str s)
 | sl (shs:List Sh) (n:Nat) (f:Nat→List PV) (hn:n≤maxLen) (h1:∀i,i<n→(f i).length=shs.length)
  (h2:∀(i j:Nat) (s:Sh) (p:PV),i<n→shs[j]? =some s→(f i)[j]? =some p→ShR s p):ShR (.sl shs) (.sl 1 shs.length n f)
def ShL (shs:List Sh) (ps:List PV):Prop:=ps.length=shs.length∧∀(j:Nat) (s:Sh) (p:PV),shs[j]? =some s→ps[j]? =some p→ShR s p
def fieldSh (sh:TypeId→Option (List Sh)) (P:Program):Nat→List Field→Option (List Sh)
 | _, []=>some []
 | off,f::fs=>if f.offset=off then match sh f.type with
   | some s=>if s.length=P.cellsOf f.type then match fieldSh sh P (off+s.length) fs with
     | some r=>some (s++r)
     | none=>none
     else none
   | none=>none
   else none
def shp (P:Program):Nat→TypeId→Option (List Sh)
 | 0,_=>none
 | m+1,t=>match P.underlying t with
   | some .bool=>some [.bool]
   | some (.int k)=>some [.int k]
   | some .string=>some [.str]
   | some (.slice e)=>match shp P m e with
     | some s=>if s.length=P.cellsOf e∧0<s.length then some [.sl s] else none
     | none=>none
   | some (.struct fs)=>match fieldSh (shp P m) P 0 fs.toList with
     | some s=>if s.length=P.cellsOf t then some s else none
     | none=>none
   | _=>none
theorem ShR.flat {s:Sh} {p:PV} (h:ShR s p):p.flat=true:=by cases h<;>rfl
theorem ShR.mark1 {s:Sh} {p:PV} (h:ShR s p):p.mark 1=p:=by cases h<;>rfl
theorem ShL.append {a b:List Sh} {x y:List PV} (h:ShL a x) (h':ShL b y):ShL (a++b) (x++y):=by
 refine ⟨by simp [h.1,h'.1],fun j s p hs hp=> ?_⟩
 rw [List.getElem?_append] at hs hp
 rw [h.1] at hp
 split at hs
 ·rename_i hj;rw [if_pos hj] at hp;exact h.2 j s p hs hp
 ·rename_i hj;rw [if_neg hj] at hp;exact h'.2 _ s p hs hp
section
variable {H:Type} {enc:TypeId×Value→H} {P:Program} {w:World} {sp:Nat→Bool} {held:Bool} {X:Cx} {γ:Gh}
theorem trod_fields {m n:Nat} {cs:List Value} {xs:List (DataW H×List MemPlace)}
  (ih:∀(t:TypeId) (cs:List Value) (x:DataW H×List MemPlace) (shs:List Sh),shp P m t=some shs→DataW.trod enc P w 0 sp held n t cs=some x→∃ps,ShL shs ps∧RepL X γ w ps cs∧∀u∈cs,u.oneCell'=true):
  ∀(fs:List Field) (off k:Nat) (shs:List Sh),fieldSh (shp P m) P off fs=some shs→off+shs.length=cs.length→(∀i f,fs[i]? =some f→DataW.trod enc P w 0 sp held n f.type ((cs.drop f.offset).take (P.cellsOf f.type))=xs[k+i]?)→k+fs.length=xs.length→
   ∃ps,ShL shs ps∧RepL X γ w ps (cs.drop off)∧∀u∈cs.drop off,u.oneCell'=true
 | [],off,k,shs,h,hl,hx,hk=>by
   simp only [fieldSh,Option.some.injEq] at h;subst h
   have e:cs.drop off= []:=List.drop_eq_nil_of_le (by simpa using hl.symm▸Nat.le_refl _)
   rw [e]
   exact ⟨[],⟨rfl,fun j s p hs=>by simp at hs⟩,RepL.nil_,by simp⟩
 | f::fs,off,k,shs,h,hl,hx,hk=>by
   simp only [fieldSh] at h
   split at h
   ·rename_i hoff
    split at h
    ·rename_i s hs
     split at h
     ·rename_i hsl
      split at h
      ·rename_i r hr
       injection h with h;subst h
       simp only [List.length_append] at hl
       obtain ⟨ps',h1,h2,h3⟩:=trod_fields (cs:=cs) ih fs (off+s.length) (k+1) r hr (by omega) (fun i f' hf=>by
        have:=hx (i+1) f' (by simpa using hf)
        rw [show k+(i+1)=k+1+i from by omega] at this;exact this) (by simp only [List.length_cons] at hk;omega)
       have h0:=hx 0 f rfl
       have hk0:k+0<xs.length:=by simp only [List.length_cons] at hk;omega
       rw [List.getElem?_eq_getElem hk0] at h0
       obtain ⟨ps,g1,g2,g3⟩:=ih _ _ _ _ hs h0
       rw [hoff,←hsl] at g2 g3
       have e:cs.drop off=(cs.drop off).take s.length++cs.drop (off+s.length):=by
        rw [←List.drop_drop,List.take_append_drop]
       refine ⟨ps++ps',g1.append h1, ?_, ?_⟩
       ·rw [e];exact g2.append h2
       ·rw [e]
        intro u hu
        rcases List.mem_append.1 hu with hu | hu
        ·exact g3 u hu
        ·exact h3 u hu
      ·cases h
     ·cases h
    ·cases h
   ·cases h
theorem trod_rep (hX:∀b,b<w.heap.size→mayLie X γ 1 b):∀(m fuel:Nat) (t:TypeId) (cs:List Value) (x:DataW H×List MemPlace) (shs:List Sh),shp P m t=some shs→DataW.trod enc P w 0 sp held fuel t cs=some x→
  ∃ps,ShL shs ps∧RepL X γ w ps cs∧∀u∈cs,u.oneCell'=true:=by
 have one:∀(s:Sh) (p:PV) (v:Value),ShR s p→Rep X γ w p v→v.oneCell'=true→∃ps,ShL [s] ps∧RepL X γ w ps [v]∧∀u∈ [v],u.oneCell'=true:=fun s p v h1 h2 h3=>
  ⟨[p],⟨rfl,fun j s' p' hs hp=>by
   cases j with
   | zero=>simp only [List.getElem?_cons_zero,Option.some.injEq] at hs hp;subst hs;subst hp;exact h1
   | succ j=>simp at hs⟩,RepL.cons_ h2 RepL.nil_,by simpa using h3⟩
 intro m
 induction m with
 | zero=>intro fuel t cs x shs h;simp [shp] at h
 | succ m ih=>
   intro fuel t cs x shs h hd
   simp only [shp] at h
   split at h
   ·rename_i ht
    injection h with h;subst h
    obtain ⟨b,rfl,_⟩:=DataW.trod_bool ht hd
    exact one _ _ _ (.bool b) (.bool b) rfl
   ·rename_i k ht
    injection h with h;subst h
    obtain ⟨n,rfl,_,hw⟩:=DataW.trod_int ht hd
    simp only [Lit.wf,Bool.and_eq_true,decide_eq_true_eq] at hw
    exact one _ _ _ (.int k n hw) (.int k n) rfl
   ·rename_i ht
    injection h with h;subst h
    obtain ⟨s,rfl,_,hw⟩:=DataW.trod_string ht hd
    have e:s=⟨s.data.toList.toArray⟩:=by cases s;simp
    refine one _ (.str s.data.toList) _ (.str _ (by rw [Array.length_toList];exact hw)) ?_ rfl
    have:=Rep.str (X:=X) (γ:=γ) (w:=w) s.data.toList
    rwa [←e] at this
   ·rename_i e ht
    split at h
    ·rename_i s hs
     split at h
     ·rename_i hc
      obtain ⟨hsl,hpos⟩:=hc
      injection h with h;subst h
      rcases DataW.trod_slice ht hd with ⟨rfl,_⟩ | ⟨a,len,cap,elems,rest,n,hf,rfl,_,hb,hlc,hcm,hel,helem,_,_⟩
      ·refine one _ (.sl 1 s.length 0 (fun _=> [])) _ (.sl s 0 _ (Nat.zero_le _) (fun i hi=>by omega) (fun i j s p hi=>by omega)) ?_ rfl
       exact .sl 1 _ 0 _ none 0 (fun _=>undef) (Nat.le_refl _) (fun i hi=>by omega) (fun i hi=>by omega) (fun hi=>by omega) (fun i j c hi=>by omega)
      ·have hex:∀i,∃ps,i<len→ShL s ps∧∃cs',w.cells? 0 (a.add (i*P.cellsOf e)) (P.cellsOf e)=some cs'∧RepL X γ w ps cs':=fun i=>by
         by_cases hi:i<len
         ·have h1:=helem i hi
          rw [List.getElem?_eq_getElem (by omega)] at h1
          obtain ⟨cs',h2,h3⟩:=Option.bind_eq_some_iff.1 h1
          obtain ⟨ps,g1,g2,_⟩:=ih _ _ _ _ _ hs h3
          exact ⟨ps,fun _=>⟨g1,cs',h2,g2⟩⟩
         ·exact ⟨[],fun h=>absurd h hi⟩
       let f:Nat→List PV:=fun i=>Classical.choose (hex i)
       have hf':∀i,i<len→ShL s (f i)∧∃cs',w.cells? 0 (a.add (i*P.cellsOf e)) (P.cellsOf e)=some cs'∧RepL X γ w (f i) cs':=fun i=>Classical.choose_spec (hex i)
       have hcell:∀i j,i<len→j<s.length→∃u p,w.cell? (a.add (i*s.length+j))=some u∧(f i)[j]? =some p∧Rep X γ w p u:=fun i j hi hj=>by
        obtain ⟨g1,cs',g2,g3⟩:=hf' i hi
        obtain ⟨_,k2,k3⟩:=World.cells?_some g2
        have hj':j<cs'.length:=by rw [k2,←hsl];exact hj
        have hk:=k3 j (by rw [←hsl];exact hj)
        rw [List.getElem?_eq_getElem hj',add_add_,←hsl] at hk
        have hpj:j<(f i).length:=by rw [g1.1];exact hj
        exact ⟨_,_,hk,List.getElem?_eq_getElem hpj,g3.2 j _ _ (List.getElem?_eq_getElem hpj) (List.getElem?_eq_getElem hj')⟩
       refine one _ (.sl 1 s.length len f) _ (.sl s len f (Nat.le_trans hlc hcm) (fun i hi=>(hf' i hi).1.1) (fun i j s' p hi hs' hp=>(hf' i hi).1.2 j s' p hs' hp)) ?_ rfl
       have hsh:∀i,i<len→∀c∈f i,∃s',ShR s' c:=fun i hi c hc=>by
        obtain ⟨j,hj⟩:=List.getElem?_of_mem hc
        have hlt:=(List.getElem?_eq_some_iff.1 hj).1
        have hlt2:j<s.length:=by rw [←(hf' i hi).1.1];exact hlt
        exact ⟨_,(hf' i hi).1.2 j _ _ (List.getElem?_eq_getElem hlt2) hj⟩
       refine .sl 1 s.length len f (some a) cap (fun k=>(w.cell? (a.add k)).getD undef) hlc (fun i hi=>(hf' i hi).1.1) (fun i hi c hc=>by obtain ⟨s',h⟩:=hsh i hi c hc;exact h.flat) (fun hn=> ?_) (fun i j c hi hc=> ?_)
       ·obtain ⟨u,p,h1,_,_⟩:=hcell 0 0 hn hpos
        have hblk:a.block<w.heap.size:=by
         obtain ⟨_,cs',g2,_⟩:=hf' 0 hn
         have:=World.cells?_block g2 (by omega)
         have e:(a.add (0*P.cellsOf e)).block=a.block:=by unfold Addr.add;split<;>rfl
         rwa [e] at this
        refine ⟨a,rfl,hX _ hblk,hblk,fun k hk=> ?_⟩
        have hk1:k / s.length<len:=by rw [Nat.div_lt_iff_lt_mul hpos];exact hk
        obtain ⟨u,p,h1,_,_⟩:=hcell (k / s.length) (k % s.length) hk1 (Nat.mod_lt _ hpos)
        rw [Nat.mul_comm,Nat.div_add_mod] at h1
        exact cellT_pos (by decide) (by rw [h1];rfl)
       ·have hj:j<s.length:=by rw [←(hf' i hi).1.1];exact (List.getElem?_eq_some_iff.1 hc).1
        obtain ⟨u,p,h1,h2,h3⟩:=hcell i j hi hj
        rw [h2] at hc;injection hc with hc;subst hc
        obtain ⟨s',h⟩:=hsh i hi p (List.mem_of_getElem? h2)
        rw [h.mark1,h1];exact h3
     ·cases h
    ·cases h
   ·rename_i fs ht
    split at h
    ·rename_i s hs
     split at h
     ·rename_i hsl
      injection h with h;subst h
      obtain ⟨xs,n,rfl,_,hcl,hxl,hx⟩:=DataW.trod_struct ht hd
      obtain ⟨ps,h1,h2,h3⟩:=trod_fields (cs:=cs) (xs:=xs) (ih n) fs.toList 0 0 s hs (by omega) (fun i f hf=>by rw [Nat.zero_add];exact hx i f (by simpa using hf)) (by simpa using hxl.symm)
      exact ⟨ps,h1,by simpa using h2,by simpa using h3⟩
     ·cases h
    ·cases h
   ·cases h
end
open Go.RowKit Go.ChangeShapes
section
variable {H:Type} {enc:TypeId×Value→H} {P:Program} {w:World} {sp:Nat→Bool} {held:Bool}
def cx0 (w:World):Cx:=⟨w.heap.size,fun b=>b<w.heap.size,fun _=>False,0,fun _=>none, []⟩
def gh0:Gh:=fun _=>none
theorem gh0_own (b:Nat):¬gh0.own b:=by rintro ⟨r,ge,h,_⟩;cases h
theorem lie0 (b:Nat) (hb:b<w.heap.size):mayLie (cx0 w) gh0 1 b:=⟨gh0_own b, .inr (.inl ⟨Nat.le_refl _,hb⟩)⟩
def GlobOK (w:World):Prop:=∀b p,glob b=some p→∃o,w.heap[b]? =some o∧p o
theorem st0 (hgl:GlobOK w):RepSt (cx0 w) gh0 w (fun r=>([]:List SE)[r]?):=
 ⟨fun r=>by simp [gh0],fun r ge e h=>(by cases h),fun r r' ge ge' b h=>(by cases h),fun b hb=>absurd hb (gh0_own b),fun b hb=>absurd hb (gh0_own b),fun b p hb=>⟨hgl b p hb,gh0_own b,by
  obtain ⟨o,h1,_⟩:=hgl b p hb
  exact (Array.getElem?_eq_some_iff.1 h1).1⟩⟩
theorem law_calls (hgl:GlobOK w) {f:FuncId} {args:List PV} {vals:List Value} (h:PureCall P f args [] ⟨.bool true, [], []⟩) (hr:RepL (cx0 w) gh0 w args vals):
  Calls P f vals.toArray w fun e w'=>e= .returned (.bool true)∧Below w.heap.size w w':=by
 have hst:RepSt ⟨w.heap.size,(cx0 w).as,(cx0 w).ls,([]:List SE).length,gh0, []⟩ gh0 w (fun r=>([]:List SE)[r]?):=
  st0 (w:=w) hgl
 refine (h.2 w gh0 (cx0 w).as (cx0 w).ls vals hst (fun b hb=>hb.elim (fun h=>h) (fun h=>h.elim)) hr).mono ?_
 rintro e w' ⟨v,γ',rfl,hv,_,hk,_,_⟩
 cases hv.bool_inv
 exact ⟨rfl,hk.os,hk.tape,hk.output,hk.size,fun k hk'=>hk.block k hk' (gh0_own k)⟩
theorem arg_one {m:Nat} {t:TypeId} {s:Sh} {v:Value} {d:DataW H} {ps:List MemPlace} (hs:shp P m t=some [s]) (hv:v.oneCell'=true) (h:DataW.Trod enc P w 0 sp held t v d ps):∃p,ShR s p∧Rep (cx0 w) gh0 w p v:=by
 obtain ⟨fuel,hf⟩:=h
 rw [cells_one hv] at hf
 obtain ⟨ps,h1,h2,_⟩:=trod_rep (X:=cx0 w) (γ:=gh0) lie0 _ _ _ _ _ _ hs hf
 obtain ⟨h1,h1'⟩:=h1
 match ps,h1 with
 | [p],_=>
   obtain ⟨u,us,hu,hr,_⟩:=h2.cons_inv
   simp only [List.cons.injEq] at hu
   exact ⟨p,h1' 0 s p rfl rfl,by rw [hu.1];exact hr⟩
theorem Rep.le0 (hgl:GlobOK w) {p q:PV} {v:Value} (h:Rep (cx0 w) gh0 w p v) (hl:PLe (fun r=>([]:List SE)[r]?) (fun _=>true) p q):Rep (cx0 w) gh0 w q v:=
 h.le (γk:=gh0) (st0 hgl) (fun r ge b hr _ _=>(by cases hr)) (fun r ge hr _=>hr) (fun r ge hr=>⟨hr,rfl⟩) q hl
theorem sh_list (hgl:GlobOK w) {α:Type} [Inhabited α] (e:α→List PV) (Q:α→Prop) {shs:List Sh} (hdec:∀ps,ShL shs ps→∃x,ps=e x∧Q x) {p:PV} (h:ShR (.sl shs) p) {v:Value} (hr:Rep (cx0 w) gh0 w p v):
  ∃l:List α,Rep (cx0 w) gh0 w (.sl 1 shs.length l.length (fl e l)) v∧l.length≤maxLen∧∀x∈l,Q x:=by
 cases h with
 | sl _ n f hn h1 h2=>
   have hx:∀i,∃x,i<n→f i=e x∧Q x:=fun i=>by
    by_cases hi:i<n
    ·obtain ⟨x,hx⟩:=hdec (f i) ⟨h1 i hi,fun j s p hs hp=>h2 i j s p hi hs hp⟩
     exact ⟨x,fun _=>hx⟩
    ·exact ⟨default,fun h=>absurd h hi⟩
   let g:Nat→α:=fun i=>Classical.choose (hx i)
   have hg:∀i,i<n→f i=e (g i)∧Q (g i):=fun i=>Classical.choose_spec (hx i)
   refine ⟨(List.range n).map g,hr.le0 hgl ?_,by simpa using hn,fun x hm=> ?_⟩
   ·refine ⟨Nat.le_refl _,rfl,by simp,fun i hi=> ?_⟩
    rw [(hg i hi).1]
    simp [fl,List.getD_eq_getElem?_getD,hi]
   ·obtain ⟨i,hi,rfl⟩:=List.mem_map.1 hm
    exact (hg i (List.mem_range.1 hi)).2
theorem sh_int {k:IntKind} {p:PV} (h:ShR (.int k) p):∃n,p= .int k n∧inR k n:=by cases h with | int _ n h=>exact ⟨n,rfl,h⟩
theorem shl_cons {s:Sh} {ss:List Sh} {ps:List PV} (h:ShL (s::ss) ps):∃p qs,ps=p::qs∧ShR s p∧ShL ss qs:=by
 obtain ⟨h1,h2⟩:=h
 match ps,h1 with
 | p::qs,h1=>exact ⟨p,qs,rfl,h2 0 s p rfl rfl,by simpa using h1,fun j s' p' hs hp=>h2 (j+1) s' p' (by simpa using hs) (by simpa using hp)⟩
theorem shl_nil {ps:List PV} (h:ShL [] ps):ps= []:=List.eq_nil_of_length_eq_zero h.1
end
open Go.RowKit Go.ChangeShapes
open Go.RowKit Go.ChangeShapes
open Go.RowKit
variable {P:Program} {wr:Bool} {np n:Nat} {c:C} {Q:Lv→PS→Prop}
theorem LSem.adoptF {fr:Nat→Option PV} {st:Nat→Option SE} {ok:Prop} {log:Nat→Option LogE} (r k R:Nat) (e:TypeId) (z z':Nat) (l:List PV) (h1:st r=some (.box l)) (hk:l[k]? =some (.nil z')) (h2:st R=none)
  (h:LSem P wr np c Q ⟨n,fr,upd (upd st R (.row 0 e z 0 (fun _=> []))) r (.box (l.set k (.os R))),ok,log⟩):LSem P wr np c Q ⟨n,fr,st,ok,log⟩:=by
 intro hQ code hc X w0 may a w γ hX hR
 have hne:r≠R:=fun e=>by rw [e,h2] at h1;cases h1
 let ge:GE:=⟨none, .slice none 0 0,z⟩
 have hE:EffOK X γ w st (Eff.pure (.os R)) (.slice none 0 0) w (upd γ R ge) (upd st R (.row 0 e z 0 (fun _=> []))):=
  EffOK.add hR.st hR.hX h2 rfl (Keeps.refl _ _) (fun b hb=>by rcases hb with hb | hb<;>cases hb) (fun _=>⟨[],rfl,rfl,rfl,⟨by simp, .inl ⟨rfl,rfl⟩⟩,by simp,fun i hi=>by omega,fun i hi=>by omega,fun i j c u hi=>by omega⟩)
   (fun _=> .os R ge (upd_same _ _ _) rfl rfl)
 have hR2:Rel X w0 may (a.put none (.slice none 0 0)) w ⟨n,fr,upd st R (.row 0 e z 0 (fun _=> [])),ok,log⟩ (upd γ R ge):=
  hR.after (s':=⟨n,fr,upd st R (.row 0 e z 0 (fun _=> [])),ok,log⟩) hE (fun r hr=>by cases hr) rfl fun t p hp=> .inr ⟨by simp,p,hp,(void_nil p).symm⟩
 have hr1:(upd st R (.row 0 e z 0 (fun _=> []))) r=some (.box l):=by rw [upd_ne _ _ hne];exact h1
 refine h hQ code hc X w0 may a w (upd γ R ge) hX ⟨hR2.size,hR2.defers,hR2.fr, ?_,hR2.keeps,hR2.lo,hR2.own,hR2.asLt,fun q hq=> ?_,hR2.mayP,fun q en hq hf=> ?_,fun q τ e z n f hq hs=> ?_⟩
 rotate_right
 ·by_cases hqr:q=r
  ·subst hqr
   simp only [upd_same] at hs;cases hs
  ·simp only [upd_ne _ _ hqr] at hs
   exact hR2.pr q _ _ _ _ _ hq hs
 rotate_left 0
 ·have hst:=hR2.st
  refine ⟨fun q=> ?_,fun q g en hg hen=> ?_,hst.inj,hst.asOff,hst.lt,hst.glob⟩
  ·have:=hst.dom q
   by_cases hqr:q=r
   ·subst hqr
    simp only [upd_same]
    simp only at this
    rw [this,hr1];rfl
   ·simp only [upd_ne _ _ hqr];exact this
  ·by_cases hqr:q=r
   ·subst hqr
    simp only [upd_same,Option.some.injEq] at hen
    subst hen
    obtain ⟨b,g1,hbx⟩:=hst.at_ q g (.box l) hg hr1
    rcases hbx with ⟨T,vs,g3,g5,g4⟩ | ⟨ks,vks,ka,va,hh,ff,es,clock,hl,_⟩
    rotate_left
    ·rw [hl] at hk
     match k,hk with
     | 0,hk=>cases hk
     | k+1,hk=>simp at hk
    refine ⟨b,g1, .inl ⟨T,vs,g3,g5,by rw [List.length_set];exact g4.1,fun j c u hc hu=> ?_⟩⟩
    by_cases hj:j=k
    ·subst hj
     have hlt:j<l.length:=(List.getElem?_eq_some_iff.1 hk).1
     rw [List.getElem?_set_self hlt] at hc
     injection hc with hc;subst hc
     have:=(g4.2 j _ u hk hu).nil_inv
     rw [this]
     exact .os R ge (upd_same _ _ _) rfl rfl
    ·rw [List.getElem?_set_ne (by omega)] at hc
     exact g4.2 j c u hc hu
   ·simp only [upd_ne _ _ hqr] at hen
    exact hst.at_ q g en hg hen
 ·have:=hR2.par q hq
  by_cases hqr:q=r
  ·subst hqr
   simp only [upd_same]
   simp only at this
   rw [hr1] at this
   exact this
  ·simp only [upd_ne _ _ hqr];exact this
 ·by_cases hqr:q=r
  ·subst hqr
   simp only [upd_same,Option.some.injEq] at hq
   subst hq
   cases hf
  ·simp only [upd_ne _ _ hqr] at hq
   exact hR2.fx q en hq hf
theorem LSem.untag {fr:Nat→Option PV} {st:Nat→Option SE} {ok:Prop} {log:Nat→Option LogE} (r τ:Nat) (e:TypeId) (f:Nat→List PV) (l:List Int) (h1:st r=some (.row τ e 1 l.length f)) (hf:RowEq l.length f (fl (fun n:Int=> [PV.int .i64 n]) l))
  (h:LSem P wr np c Q ⟨n,fr,upd st r (.row 0 e 1 l.length (fl (fun n:Int=> [PV.int .i64 n]) l)),ok,log⟩):LSem P wr np c Q ⟨n,fr,st,ok,log⟩:=by
 intro hQ code hc X w0 may a w γ hX hR
 refine h hQ code hc X w0 may a w γ hX ⟨hR.size,hR.defers,hR.fr, ?_,hR.keeps,hR.lo,hR.own,hR.asLt,fun q hq=> ?_,hR.mayP,fun q en hq hf=> ?_,fun q τ e z n f hq hs=> ?_⟩
 rotate_right
 ·by_cases hqr:q=r
  ·subst hqr
   exact hR.pr q _ _ _ _ _ hq h1
  ·simp only [upd_ne _ _ hqr] at hs
   exact hR.pr q _ _ _ _ _ hq hs
 rotate_left 0
 ·have hst:=hR.st
  refine ⟨fun q=> ?_,fun q g en hg hen=> ?_,hst.inj,hst.asOff,hst.lt,hst.glob⟩
  ·have:=hst.dom q
   by_cases hqr:q=r
   ·subst hqr
    simp only [upd_same]
    simp only at this
    rw [this,h1];rfl
   ·simp only [upd_ne _ _ hqr];exact this
  ·by_cases hqr:q=r
   ·subst hqr
    simp only [upd_same,Option.some.injEq] at hen
    subst hen
    obtain ⟨vs,g1,g2,g3,g4,g5,g6,g7,g8⟩:=hst.at_ q g _ hg h1
    refine ⟨vs,g1,g2,g3,g4,g5,fun i _=>rfl,fun i _ c hc=> ?_,fun i j c u hi hc hu=> ?_⟩
    ·have:c= .int .i64 (l.getD i default):=by simpa [fl] using hc
     subst this;rfl
    ·have hc2:(f i)[j]? =some c:=by rw [hf i hi];exact hc
     have h9:=g8 i j c u hi hc2 hu
     have hj:j=0:=by
      have:=(List.getElem?_eq_some_iff.1 hc).1
      simp [fl] at this;omega
     subst hj
     have:c= .int .i64 (l.getD i default):=by
      have h0:some (PV.int .i64 (l.getD i default))=some c:=hc
      injection h0 with h0;exact h0.symm
     subst this
     exact h9
   ·simp only [upd_ne _ _ hqr] at hen
    exact hst.at_ q g en hg hen
 ·have:=hR.par q hq
  by_cases hqr:q=r
  ·subst hqr
   simp only at this
   rw [h1] at this
   simp only [upd_same]
   exact this
  ·simp only [upd_ne _ _ hqr];exact this
 ·by_cases hqr:q=r
  ·subst hqr
   simp only [upd_same,Option.some.injEq] at hq
   subst hq
   cases hf
  ·simp only [upd_ne _ _ hqr] at hq
   exact hR.fx q en hq hf
namespace TE
theorem set_eqI {X:List Int} {i:Nat} {y:Int}:RowEq X.length (fun k=>if k=i then setAt (fl eInt X i) 0 (eInt y) else fl eInt X k) (fl eInt (X.set i y)):=fun k hk=>by
 by_cases e:k=i
 ·subst e
  simp only [if_pos rfl,fl]
  have:(X.set k y).getD k default=y:=by simp [List.getD,List.getElem?_set,hk]
  rw [this];rfl
 ·simp only [if_neg e,fl]
  have:(X.set i y).getD k default=X.getD k default:=by simp [List.getD,List.getElem?_set,Ne.symm e]
  rw [this]
theorem set_get (X:List Int) (i:Nat) (y:Int) (k:Nat) (h:i<X.length):(X.set i y).getD k default=if k=i then y else X.getD k default:=by
 by_cases e:k=i
 ·subst e;simp [List.getD,List.getElem?_set,h]
 ·simp [List.getD,List.getElem?_set,Ne.symm e,e]
theorem set_sum:∀(X:List Int) (i:Nat) (y:Int),i<X.length→(X.set i y).sum=X.sum - X.getD i default+y
 | [],i,y,h=>by simp at h
 | a::X,0,y,h=>by simp;omega
 | a::X,i+1,y,h=>by
   have:=set_sum X i y (by simpa using h)
   simp only [List.set_cons_succ,List.sum_cons,List.getD_cons_succ]
   omega
def wv0 (n:Nat) (w:List Int):List Int:=w++List.replicate (n+1 - w.length) 0
theorem wv0_len {n:Nat} {w:List Int} (h:w.length≤n):(wv0 n w).length=n+1:=by unfold wv0;simp;omega
theorem wv0_get (n:Nat) (w:List Int) (k:Nat):(wv0 n w).getD k default=w.getD k default:=by
 unfold wv0
 by_cases h:k<w.length
 ·rw [List.getD_eq_getElem?_getD,List.getElem?_append_left h,List.getD_eq_getElem?_getD]
 ·rw [List.getD_eq_getElem?_getD,List.getElem?_append_right (by omega),List.getD_eq_getElem?_getD,List.getElem?_eq_none (l:=w) (by omega),List.getElem?_replicate]
  split<;>rfl
theorem wv0_sum (n:Nat) (w:List Int):(wv0 n w).sum=w.sum:=by
 unfold wv0
 rw [List.sum_append]
 have:∀m:Nat,(List.replicate m (0:Int)).sum=0:=fun m=>by
  induction m with
  | zero=>rfl
  | succ m ih=>rw [List.replicate_succ,List.sum_cons,ih];rfl
 rw [this];omega
def pasN (ws:List Int) (q:Int) (L:List Int):Nat→List Int
 | 0=>L
 | i+1=>(pasN ws q L i).set i ((pasN ws q L i).getD i default+q*ws.getD i default)
theorem pasN_len (ws:List Int) (q:Int) (L:List Int):∀i,(pasN ws q L i).length=L.length
 | 0=>rfl
 | i+1=>by rw [pasN,List.length_set,pasN_len ws q L i]
theorem pasN_get (ws:List Int) (q:Int) (L:List Int) (k:Nat):∀i,i≤L.length→(pasN ws q L i).getD k default=L.getD k default+if k<i then q*ws.getD k default else 0
 | 0,_=>by rw [pasN,if_neg (by omega)];omega
 | i+1,h=>by
   rw [pasN,set_get _ _ _ _ (by rw [pasN_len];omega),pasN_get ws q L k i (by omega)]
   by_cases e:k=i
   ·subst e
    rw [if_pos rfl,if_pos (by omega),pasN_get ws q L k k (by omega),if_neg (by omega)]
    omega
   ·rw [if_neg e]
    by_cases h2:k<i
    ·rw [if_pos h2,if_pos (by omega)]
    ·rw [if_neg h2,if_neg (by omega)]
theorem pasN_sum (ws:List Int) (q:Int) (L:List Int):∀i,i≤L.length→i≤ws.length→(pasN ws q L i).sum=L.sum+q*(ws.take i).sum
 | 0,_,_=>by simp [pasN]
 | i+1,h,h2=>by
   rw [pasN,set_sum _ _ _ (by rw [pasN_len];omega),pasN_sum ws q L i (by omega) (by omega),take_sum ws (by omega),Int.mul_add]
   omega
def pasL (r:Rch) (w:List Int) (q:Int):List Int:=pasN r.ws q (wv0 r.ws.length w) r.ws.length
def pasO (r:Rch) (w:List Int) (q:Int):Int:=(pasL r w q).getD 0 default / r.den
def pas2 (r:Rch) (w:List Int) (q:Int):List Int:=(pasL r w q).set 1 ((pasL r w q).getD 1 default+(pasL r w q).getD 0 default % r.den)
def trL (L:List Int):Nat→Nat
 | 0=>0
 | i+1=>if L.getD i default=0 then trL L i else i+1
theorem trL_le (L:List Int):∀i,trL L i≤i
 | 0=>Nat.le_refl _
 | i+1=>by
   unfold trL
   have:=trL_le L i
   split<;>omega
theorem trL_last (L:List Int):∀i,0<trL L i→L.getD (trL L i - 1) default≠0
 | 0,h=>by simp [trL] at h
 | i+1,h=>by
   unfold trL at h⊢
   split
   ·rename_i e
    rw [if_pos e] at h
    exact trL_last L i h
   ·rename_i e
    exact e
theorem trL_sum (L:List Int):∀i,i≤L.length→(L.take (trL L i)).sum=(L.take i).sum
 | 0,_=>rfl
 | i+1,h=>by
   unfold trL
   split
   ·rename_i e
    rw [trL_sum L i (by omega),take_sum L (by omega),e];omega
   ·rfl
def pasW (r:Rch) (w:List Int) (q:Int):List Int:=((pas2 r w q).drop 1).take (trL ((pas2 r w q).drop 1) r.ws.length)
theorem pasL_get {r:Rch} {w:List Int} {q:Int} (h:RcOK r) (hw:WvOK r w) (hq:0≤q∧q≤1073741824) (k:Nat):0≤(pasL r w q).getD k default∧(pasL r w q).getD k default≤(w.getD k default)+10737418240000:=by
 unfold pasL
 rw [pasN_get _ _ _ _ _ (by rw [wv0_len hw.le];omega),wv0_get]
 have hwk:0≤w.getD k default:=by
  by_cases hk:k<w.length
  ·exact (hw.rng k hk).1
  ·rw [List.getD_eq_getElem?_getD,List.getElem?_eq_none (by omega)];exact Int.le_refl _
 split
 ·rename_i hk
  have h1:=h.w k hk
  have h2:=prod_le (a:=q) (b:=r.ws.getD k default) (A:=1073741824) (B:=10000) hq.1 hq.2 h1.1 h1.2 (by decide)
  have h3:q*r.ws.getD k default≤1073741824*10000:=by
   refine Int.le_trans (Int.mul_le_mul_of_nonneg_right hq.2 h1.1) ?_
   omega
  omega
 ·omega
theorem pasL_len {r:Rch} {w:List Int} {q:Int} (hw:WvOK r w):(pasL r w q).length=r.ws.length+1:=by
 unfold pasL;rw [pasN_len,wv0_len hw.le]
theorem pasL_sum {r:Rch} {w:List Int} {q:Int} (h:RcOK r) (hw:WvOK r w):(pasL r w q).sum=w.sum+q*r.den:=by
 unfold pasL
 rw [pasN_sum _ _ _ _ (by rw [wv0_len hw.le];omega) (Nat.le_refl _),wv0_sum,take_all,h.sum]
theorem drop_one (L:List Int):(L.drop 1).sum=L.sum - L.getD 0 default:=by
 cases L with
 | nil=>rfl
 | cons a L=>simp;omega
theorem pas_sum {r:Rch} {w:List Int} {q:Int} (h:RcOK r) (hw:WvOK r w):(pasW r w q).sum+r.den*pasO r w q=w.sum+q*r.den:=by
 have hl:=pasL_len (q:=q) hw
 have hn:=h.n
 have h2:(pas2 r w q).length=r.ws.length+1:=by unfold pas2;rw [List.length_set];exact hl
 unfold pasW
 rw [trL_sum _ _ (by rw [List.length_drop];omega),List.take_of_length_le (by rw [List.length_drop];omega),drop_one]
 have e0:(pas2 r w q).getD 0 default=(pasL r w q).getD 0 default:=by
  unfold pas2;rw [set_get _ _ _ _ (by omega),if_neg (by omega)]
 have es:(pas2 r w q).sum=(pasL r w q).sum+(pasL r w q).getD 0 default % r.den:=by
  unfold pas2;rw [set_sum _ _ _ (by omega)];omega
 rw [e0,es,pasL_sum h hw]
 unfold pasO
 have:=Int.mul_ediv_add_emod ((pasL r w q).getD 0 default) r.den
 omega
theorem pas3_get {r:Rch} {w:List Int} {q:Int} (h:RcOK r) (hw:WvOK r w) (k:Nat):((pas2 r w q).drop 1).getD k default=(pasL r w q).getD (k+1) default+if k=0 then (pasL r w q).getD 0 default % r.den else 0:=by
 have hl:=pasL_len (q:=q) hw
 have hn:=h.n
 rw [List.getD_eq_getElem?_getD,List.getElem?_drop,←List.getD_eq_getElem?_getD,Nat.add_comm 1 k]
 unfold pas2
 rw [set_get _ _ _ _ (by omega)]
 by_cases e:k=0
 ·subst e;rw [if_pos rfl,if_pos rfl]
 ·rw [if_neg (by omega),if_neg e];omega
theorem take_get (L:List Int) (n k:Nat) (h:k<n):(L.take n).getD k default=L.getD k default:=by
 rw [List.getD_eq_getElem?_getD,List.getElem?_take,if_pos h,←List.getD_eq_getElem?_getD]
theorem pasW_len {r:Rch} {w:List Int} {q:Int} (h:RcOK r) (hw:WvOK r w):(pasW r w q).length=trL ((pas2 r w q).drop 1) r.ws.length:=by
 have hl:=pasL_len (q:=q) hw
 have:=trL_le ((pas2 r w q).drop 1) r.ws.length
 have h2:(pas2 r w q).length=r.ws.length+1:=by unfold pas2;rw [List.length_set];exact hl
 unfold pasW
 rw [List.length_take,List.length_drop];omega
theorem le_sum:∀{L:List Int},(∀i,i<L.length→0≤L.getD i default)→∀i,i<L.length→L.getD i default≤L.sum
 | [],_,i,h=>by simp at h
 | a::L,h,i,hi=>by
   have h0:0≤a:=h 0 (by simp)
   have ht:∀j,j<L.length→0≤L.getD j default:=fun j hj=>by simpa using h (j+1) (by simpa using hj)
   have hs:∀{L:List Int},(∀j,j<L.length→0≤L.getD j default)→0≤L.sum:=by
    intro L hL
    induction L with
    | nil=>simp
    | cons b L ih=>
      have h1:0≤b:=hL 0 (by simp)
      have h2:=ih fun j hj=>by simpa using hL (j+1) (by simpa using hj)
      rw [List.sum_cons];omega
   rw [List.sum_cons]
   cases i with
   | zero=>
     have:=hs ht
     simp only [List.getD_cons_zero];omega
   | succ i=>
     have:=le_sum ht i (by simpa using hi)
     simp only [List.getD_cons_succ];omega
theorem pasW_nn {r:Rch} {w:List Int} {q:Int} (h:RcOK r) (hw:WvOK r w) (hq:0≤q∧q≤1073741824):∀i,i<(pasW r w q).length→0≤(pasW r w q).getD i default:=fun i hi=>by
 have hd:=h.den
 rw [pasW_len h hw] at hi
 unfold pasW
 rw [take_get _ _ _ hi,pas3_get h hw]
 have h1:=pasL_get h hw hq (i+1)
 have h3:=Int.emod_nonneg ((pasL r w q).getD 0 default) (show r.den≠0 by omega)
 split<;>omega
theorem pasO_rng {r:Rch} {w:List Int} {q:Int} (h:RcOK r) (hw:WvOK r w) (hq:0≤q∧q≤1073741824):0≤pasO r w q:=by
 have hd:=h.den
 exact Int.ediv_nonneg (pasL_get h hw hq 0).1 (by omega)
theorem pasW_ok {r:Rch} {w:List Int} {q:Int} (h:RcOK r) (hw:WvOK r w) (hq:0≤q∧q≤1073741824) (hs:w.sum+q*r.den≤100000000000000):WvOK r (pasW r w q):=by
 have hn:=h.n
 have hd:=h.den
 have hlen:=pasW_len (q:=q) h hw
 have hle:=trL_le ((pas2 r w q).drop 1) r.ws.length
 have hnn:=pasW_nn h hw hq
 have hps:=pas_sum (q:=q) h hw
 have ho:=pasO_rng h hw hq
 have hdo:0≤r.den*pasO r w q:=Int.mul_nonneg (by omega) ho
 refine ⟨by omega,fun h0=> ?_,fun i hi=>⟨hnn i hi, ?_⟩⟩
 ·rw [hlen] at h0⊢
  unfold pasW
  rw [take_get _ _ _ (by omega)]
  exact trL_last _ _ h0
 ·have:=le_sum hnn i hi
  omega
def c9L1:C:=(.seq (sr [km 8 4,kb 9 .geq 8 (cn 0)] (.cond 9 .skip (.exit 0))) (.seq (.block 1 (sr [km 12 0,kc 13 12 [12,(cn 4)],km 5 13] (.seq (sr [km 14 4,kb 15 .eql 14 (cn 0)] (.cond 15 (.reg [km 16 5,kb 17 .add 16 (cn 1),km 5 17]) .skip)) (.drw [kf 18 0 3,kl 19 18,km 20 5,kk 21 (.bs 3 1 [20]),kk 22 (.app 3 1 8 19 21),kf 23 1 3,kl 24 23,km 25 5,kb 26 .add 24 25,kf 27 0 3,kx 1 27 22,kf 28 1 3,kx 1 28 26] (pl [(0,[2,3,5,6,7,8],18),(1,[2,3,5,6,7,8],19),(2,[5,6,7,8],20),(3,[5,6,7,8],21),(4,[5,6,7,8],22),(5,[7],23),(6,[7],24),(7,[9,10],25),(8,[9,10],26)]))))) (.reg [km 10 4,kb 11 .sub 10 (cn 1),km 4 11])))
def c9:C:=(sr [kk 2 (.al [(.nil 1),z0])] (sr [kk 3 (.al [(.nil 1),z0])] (.seq (sr [km 6 0,kc 7 12 [6,(cn 5)],km 4 7] (.block 0 (.loop c9L1))) (sr [kt 29 2 3,kx 2 2 29] .ret))))
theorem fits9:fits Tryz.prog false Tryz.f9 1 30 [(2,some (2,true))]=some c9.er:=by kernel_rfl
def rcW (n:Nat) (d:Dk):Int:=if n=0 then nxt d 4+1 else nxt d 4
def rcI:Nat→List Int×Int×Dk→List Int×Int×Dk
 | 0,s=>s
 | n+1,s=>rcI n (s.1++ [rcW n s.2.2],s.2.1+rcW n s.2.2,nxtD s.2.2 4)
def reachF (d:Dk):List Int×Int×Dk:=rcI ((nxt d 5).toNat+1) ([],0,nxtD d 5)
theorem rcW_rng (n:Nat) (d:Dk):0≤rcW n d∧rcW n d≤4:=by
 have r:=nxt_lt d (n:=4) (by omega)
 unfold rcW
 split<;>omega
theorem rcI_ok:∀(n:Nat) (s:List Int×Int×Dk),(rcI n s).1.length=s.1.length+n∧(rcI n s).2.2.at_≤s.2.2.at_+n
 | 0,s=>⟨rfl,Nat.le_refl _⟩
 | n+1,s=>by
   have ih:=rcI_ok n (s.1++ [rcW n s.2.2],s.2.1+rcW n s.2.2,nxtD s.2.2 4)
   have a:=nxtD_at s.2.2 4
   unfold rcI
   rw [List.length_append,List.length_cons,List.length_nil] at ih
   generalize rcI n (s.1++ [rcW n s.2.2],s.2.1+rcW n s.2.2,nxtD s.2.2 4)=W at ih⊢
   dsimp only at ih
   omega
theorem reachF_ok (d:Dk):(reachF d).1.length≤5∧(reachF d).2.2.at_≤d.at_+6:=by
 have r:=nxt_lt d (n:=5) (by omega)
 have a:=nxtD_at d 5
 have h:=rcI_ok ((nxt d 5).toNat+1) ([],0,nxtD d 5)
 unfold reachF
 generalize rcI ((nxt d 5).toNat+1) ([],0,nxtD d 5)=W at h⊢
 rw [List.length_nil] at h
 dsimp only at h
 omega
theorem call9 (d:Dk) (hd:d.at_≤960000000):PureCall Tryz.prog 9 [.pt 0 0 0] [.box (eDk 1 d)] ⟨.agg [.sl 0 1 (reachF d).1.length (fl eInt (reachF d).1), .int .i64 (reachF d).2.1], [.box (eDk 1 (reachF d).2.2)], []⟩:=by
 refine pure_call mix Tryz.func9 fits9 rfl ?_
 unfold reachF
 conv=>whnf
 refine ⟨_,fun _=>call_next 1 d 5 (by omega) (by omega), ?_⟩
 have r1:=nxt_lt d (n:=5) (by omega)
 have a1:=nxtD_at d 5
 obtain ⟨m0,hm0⟩:∃m:Nat,(m:Int)=nxt d 5:=⟨(nxt d 5).toNat,by omega⟩
 rw [←hm0] at r1⊢
 rw [Int.toNat_natCast]
 generalize nxtD d 5=e1 at a1⊢
 obtain ⟨R0,hR0⟩:∃R0,R0=rcI (m0+1) ([],0,e1):=⟨_,rfl⟩
 rw [←hR0]
 conv=>whnf
 refine ⟨?_, ?_⟩
 ·exact g0
 refine LSem.adoptF 48 0 1000000 3 1 1 _ rfl rfl rfl ?_
 refine LSem.loop (n:=30) mix (α:=Nat×List Int×Int×Dk) (fun s=>s.1+s.2.1.length=m0+1∧rcI s.1 s.2=R0∧s.2.2.2.at_≤970000000+s.2.1.length∧(0≤s.2.2.1∧s.2.2.1≤4*s.2.1.length))
  (fun s=> [(0, .pt 0 0 0),(2, .pt 32 0 0),(3, .pt 48 0 0),(4, .int .i64 ((s.1:Int) - 1))])
  (fun s=> [(0, .box (eDk 1 s.2.2.2)),(32, .box [.nil 1, .int .i64 0]),(48, .box [.os 1000000, .int .i64 s.2.2.1]),(1000000, .row 0 3 1 s.2.1.length (fl eInt s.2.1))]) (fun s=>s.1) (m0+1, [],0,e1) ?_ ?_ ?_
 ·exact ⟨rfl,hR0.symm,by dsimp only;omega,by dsimp only;omega⟩
 ·refine ⟨rfl,rfl, ?_, ?_⟩
  all_goals exact ent
 ·intro s hs
  obtain ⟨m,l,sm,e⟩:=s
  obtain ⟨k1,k2,k3,k4⟩:=hs
  dsimp only at k1 k2 k3 k4
  conv=>whnf
  refine ⟨trivial,fun hc=> ?_,fun hc=> ?_⟩
  ·replace hc:=of_decide_eq_true hc
   obtain ⟨m,rfl⟩:∃m',m=m'+1:=⟨m - 1,by
    have h:(0:Int)≤(m:Int) - 1:=hc
    omega⟩
   have hst:rcI m (l++ [rcW m e],sm+rcW m e,nxtD e 4)=R0:=k2
   have hw:=rcW_rng m e
   have hwe:rcW m e=if m=0 then nxt e 4+1 else nxt e 4:=rfl
   have q:=fl_push eInt l (rcW m e)
   have hxl:(l++ [rcW m e]).length=l.length+1:=by simp
   conv=>whnf
   refine ⟨_,fun _=>call_next 1 e 4 (by omega) (by omega), ?_⟩
   have a2:=nxtD_at e 4
   generalize rcW m e=w at hst hw hwe q hxl
   generalize nxt e 4=x at hwe⊢
   generalize nxtD e 4=e2 at a2 hst⊢
   conv=>whnf
   refine ⟨?_,fun hz=> ?_,fun hz=> ?_⟩
   ·exact g0
   ·have hz:((m+1:Nat):Int) - 1=0:=beq_iff_eq.1 hz
    rw [if_pos (by omega)] at hwe
    subst hwe
    conv=>whnf
    refine ⟨rfl, ?_⟩
    conv=>whnf
    refine ⟨?_,(m,l++ [x+1],sm+(x+1),e2),⟨?_,hst, ?_, ?_⟩, ?_,rfl,rfl, ?_, ?_⟩
    ·exact g0
    ·dsimp only;rw [hxl];omega
    ·dsimp only;rw [hxl];omega
    ·dsimp only;rw [hxl];omega
    ·dsimp only;omega
    all_goals exact ent
   ·have hz:¬((m+1:Nat):Int) - 1=0:=beq_eq_false_iff_ne.1 hz
    rw [if_neg (by omega)] at hwe
    subst hwe
    conv=>whnf
    refine ⟨rfl, ?_⟩
    conv=>whnf
    refine ⟨?_,(m,l++ [w],sm+w,e2),⟨?_,hst, ?_, ?_⟩, ?_,rfl,rfl, ?_, ?_⟩
    ·exact g0
    ·dsimp only;rw [hxl];omega
    ·dsimp only;rw [hxl];omega
    ·dsimp only;rw [hxl];omega
    ·dsimp only;omega
    all_goals exact ent
  ·replace hc:=of_decide_eq_false hc
   have h0:m=0:=by
    have h:¬(0:Int)≤(m:Int) - 1:=hc
    omega
   subst h0
   have hp:(l,sm,e)=R0:=k2
   rw [←hp]
   conv=>whnf
   refine ⟨?_, [], ?_⟩
   ·exact g0
   conv=>whnf
   refine ⟨rfl, ?_, ?_,trivial⟩
   all_goals exact ent
structure RiOK (s:List Int×Int×Dk):Prop where
 w:∀i,i<s.1.length→0≤s.1.getD i default∧s.1.getD i default≤4
 sum:s.1.sum=s.2.1
theorem rcI_made:∀(n:Nat) (s:List Int×Int×Dk),RiOK s→RiOK (rcI n s)∧(0<n→(rcI n s).1.getD ((rcI n s).1.length - 1) default≠0)
 | 0,s,h=>⟨h,fun h=>absurd h (Nat.lt_irrefl _)⟩
 | n+1,s,h=>by
   have r:=rcW_rng n s.2.2
   have h2:RiOK (s.1++ [rcW n s.2.2],s.2.1+rcW n s.2.2,nxtD s.2.2 4):=by
    refine ⟨fun i hi=> ?_, ?_⟩
    ·dsimp only at hi⊢
     rw [getD_push]
     split
     ·exact h.w i (by assumption)
     ·rw [if_pos (by rw [List.length_append,List.length_singleton] at hi;omega)]
      exact r
    ·dsimp only
     rw [List.sum_append,h.sum]
     simp
   have ih:=rcI_made n _ h2
   unfold rcI
   refine ⟨ih.1,fun _=> ?_⟩
   cases n with
   | succ n=>exact ih.2 (Nat.succ_pos _)
   | zero=>
     have r4:=nxt_lt s.2.2 (n:=4) (by omega)
     have e0:rcW 0 s.2.2=nxt s.2.2 4+1:=rfl
     unfold rcI
     dsimp only
     rw [List.length_append,List.length_singleton,Nat.add_sub_cancel,getD_push,if_neg (Nat.lt_irrefl _),if_pos rfl]
     omega
def rchF (d:Dk):Rch:=⟨(reachF d).1,(reachF d).2.1⟩
theorem rch_made (d:Dk):RcOK (rchF d):=by
 have h:=rcI_made ((nxt d 5).toNat+1) ([],0,nxtD d 5) ⟨fun i hi=>by simp at hi,rfl⟩
 have hl:=(rcI_ok ((nxt d 5).toNat+1) ([],0,nxtD d 5)).1
 have hk:=(reachF_ok d).1
 change (reachF d).1.length=0+((nxt d 5).toNat+1) at hl
 obtain ⟨⟨h1,h2⟩,h3⟩:=h
 refine ⟨?_,fun i hi=> ?_,h3 (Nat.succ_pos _),h2⟩
 ·show 1≤(reachF d).1.length∧(reachF d).1.length≤24
  omega
 ·have:=h1 i hi
  show 0≤(reachF d).1.getD i default∧(reachF d).1.getD i default≤10000
  change 0≤(reachF d).1.getD i default∧(reachF d).1.getD i default≤4 at this
  omega
theorem call9r (d:Dk) (hd:d.at_≤960000000):PureCall Tryz.prog 9 [.pt 0 0 0] [.box (eDk 1 d)] ⟨.agg (eRch 0 (rchF d)), [.box (eDk 1 (reachF d).2.2)], []⟩:=call9 d hd
end TE
def c158L1:C:=(.seq (sr [km 29 5,km 30 4,kb 31 .lss 29 30] (.cond 31 .skip (.exit 1))) (.seq (.block 2 (.seq (.drw [kf 34 0 1,kl 35 34,km 36 5,ki 37 2 35 36,kf 38 1 37,kl 39 38,kf 40 0 1,kl 41 40,km 42 5,kb 43 .sub 42 (cn 1),ki 44 2 41 43,kf 45 1 44,kl 46 45,kb 47 .leq 39 46] (pl [(0,[2,6,7,8,9,10,11,12],34),(1,[2,6,7,8,9,10,11,12],35),(2,[6,7,8,9,10,11,12],36),(3,[6,7,8,9,10,11,12],37),(4,[6,7,8,9,10,11,12],38),(5,[6,7,8,9,10,11,12],39),(6,[8,9],40),(7,[8,9],41)])) (.cond 47 (sr [kk 2 (.mv (cn 4))] .ret) .skip))) (.reg [km 32 5,kb 33 .add 32 (cn 1),km 5 33])))
def c158L2:C:=(.seq (sr [km 71 7,kb 72 .lss 71 (cn 7)] (.cond 72 .skip (.exit 3))) (.seq (.block 4 (.seq (.drw [km 75 7,kk 76 (.iaa 7 1 6 75),kl 77 76,km 78 7,kb 79 .sub 78 (cn 1),kk 80 (.iaa 7 1 6 79),kl 81 80,kb 82 .lss 77 81] (pl [(0,[3,4,5,6],75),(1,[3,4,5,6],76),(2,[3,4,5,6],77)])) (.cond 82 (sr [kk 2 (.mv (cn 4))] .ret) .skip))) (.reg [km 73 7,kb 74 .add 73 (cn 1),km 7 74])))
def c158:C:=(sr [kk 1 (.bx 6 0),kk 2 (.mv (cn 0))] (.seq (sr [kf 8 0 1,kl 9 8,kc 10 152 [9],km 3 10] (sr [km 11 3,kb 12 .neq 11 (cn 0)] (.cond 12 (sr [km 13 3,km 2 13] .ret) .skip))) (sr [kf 14 0 1,kl 15 14,kk 16 (.len 15),km 4 16] (.seq (.block 0 (sr [km 18 4,kb 19 .lss 18 (cn 2),km 17 19] (.cond 17 (sr [kk 2 (.mv (cn 3))] .ret) (sr [kf 21 0 1,kl 22 21,km 23 4,kb 24 .sub 23 (cn 1),ki 25 2 22 24,kf 26 0 25,kl 27 26,kb 28 .gtr 27 (cn 16777216),km 20 28] (.cond 20 (sr [kk 2 (.mv (cn 1))] .ret) .skip))))) (.seq (sr [kk 5 (.mv (cn 1))] (.block 1 (.loop c158L1))) (.seq (.drw [kf 48 0 1,kl 49 48,ki 50 2 49 (cn 0),kf 51 0 50,kl 52 51,kf 53 1 1,kl 54 53,kf 55 2 1,kl 56 55,kf 57 3 1,kl 58 57,kf 59 4 1,kl 60 59,kf 61 5 1,kl 62 61,kf 63 0 1,kl 64 63,km 65 4,kb 66 .sub 65 (cn 1),ki 67 2 64 66,kf 68 0 67,kl 69 68,kk 70 (.bd [z0,z0,z0,z0,z0,z0,z0] [(0,1,52),(1,1,54),(2,1,56),(3,1,58),(4,1,60),(5,1,62),(6,1,69)]),kk 6 (.al [z0,z0,z0,z0,z0,z0,z0]),kx 7 6 70] (pl [(0,[5,6,7,8,9,10,11,12,13,14,15,16,17,18,19,20,21,23],48),(1,[5,6,7,8,9,10,11,12,13,14,15,16,17,18,19,20,21,23],49),(2,[5,6,7,8,9,10,11,12,13,14,15,16,17,18,19,20,21,23],50),(3,[5,6,7,8,9,10,11,12,13,14,15,16,17,18,19,20,21,23],51),(4,[5,6,7,8,9,10,11,12,13,14,15,16,17,18,19,20,21,23],52),(5,[7,8,9,10,11,12,13,14,15,16,17,18,19,20,21,23],53),(6,[7,8,9,10,11,12,13,14,15,16,17,18,19,20,21,23],54),(7,[9,10,11,12,13,14,15,16,17,18,19,20,21,23],55),(8,[9,10,11,12,13,14,15,16,17,18,19,20,21,23],56),(9,[11,12,13,14,15,16,17,18,19,20,21,23],57),(10,[11,12,13,14,15,16,17,18,19,20,21,23],58),(11,[13,14,15,16,17,18,19,20,21,23],59),(12,[13,14,15,16,17,18,19,20,21,23],60),(13,[15,16,17,18,19,20,21,23],61),(14,[15,16,17,18,19,20,21,23],62),(15,[17,18,23],63),(16,[17,18,23],64),(17,[23],65),(18,[23],66),(19,[23],67),(20,[23],68),(21,[23],69),(22,[23],70)])) (.seq (sr [kk 7 (.mv (cn 1))] (.block 3 (.loop c158L2))) (sr [kk 2 (.mv (cn 0))] .ret))))))))
theorem fits158:fits Tryz.prog false Tryz.f158 1 83 [(2,none)]=some c158.er:=by kernel_rfl
structure RvOK (r:Rv):Prop where
 g:GoodC r.st
 n:2≤r.st.length
 p1:resP1 r
 p2:resP2 r
 p3:resP3 r
theorem call158 (τ:Nat) (r:Rv) (h:RvOK r):PureCall Tryz.prog 158 [.agg (eRv τ r)] [] ⟨.int .i64 0, [], []⟩:=by
 obtain ⟨hg,hn,p1,p2,p3⟩:=h
 have hle:=hg.le
 refine pure_call mix Tryz.func158 fits158 rfl ?_
 conv=>whnf
 refine ⟨_,fun _=>G02.call152 _ r.st, ?_⟩
 rw [(check_good r.st).2 hg]
 conv=>whnf
 refine ⟨by exact g0,fun h=>absurd h (by decide),fun _=> ?_⟩
 conv=>whnf
 refine ⟨by exact g0,fun h=> ?_,fun _=> ?_⟩
 ·have h:(r.st.length:Int)<2:=of_decide_eq_true h
  omega
 have e1:((r.st.length:Int) - 1).toNat=r.st.length - 1:=by omega
 have r1:=hg.rng (r.st.length - 1) (by omega)
 have l1:=p1 (r.st.length - 1) (by omega)
 conv=>whnf
 rw [e1]
 refine ⟨by exact g0,fun h=> ?_,fun _=> ?_⟩
 ·have h:16777216<(r.st.getD (r.st.length - 1) default).x:=of_decide_eq_true h
  omega
 conv=>whnf
 refine ⟨by exact g0, ?_⟩
 refine LSem.loop (n:=83) mix (α:=Nat) (fun i=>1≤i∧i≤r.st.length)
  (fun i=> [(1, .pt 16 0 0),(4, .int .i64 r.st.length),(5, .int .i64 i)])
  (fun i=> [(16, .box (eRv τ r))]) (fun i=>r.st.length - i) 1 ⟨Nat.le_refl _,by omega⟩ ?_ ?_
 ·refine ⟨rfl,rfl, ?_, ?_⟩<;>exact ent
 rintro i ⟨hi1,hi⟩
 conv=>whnf
 refine ⟨by exact g0,fun hc=> ?_,fun hc=> ?_⟩
 ·replace hc:=of_decide_eq_true hc
  have hlt:i<r.st.length:=by
   have h:(i:Int)<r.st.length:=hc
   omega
  have hj:((i:Int)).toNat=i:=by omega
  have hj1:((i:Int) - 1).toNat=i - 1:=by omega
  have hp:=p2 i hlt hi1
  conv=>whnf
  rw [hj,hj1]
  refine ⟨rfl, ?_⟩
  conv=>whnf
  refine ⟨by exact g0,fun h=> ?_,fun _=> ?_⟩
  ·have h:(r.st.getD i default).y≤(r.st.getD (i - 1) default).y:=of_decide_eq_true h
   omega
  conv=>whnf
  refine ⟨by exact g0,i+1,⟨by omega,by omega⟩,by omega,rfl,rfl, ?_, ?_⟩<;>exact ent
 conv=>whnf
 rw [e1]
 refine ⟨rfl, ?_⟩
 conv=>whnf
 refine ⟨by exact g0, ?_⟩
 refine LSem.loop (n:=83) mix (α:=Nat) (fun i=>1≤i∧i≤7)
  (fun i=> [(6, .pt 96 0 0),(7, .int .i64 i)])
  (fun i=> [(96, .box [.int .i64 (r.st.getD 0 default).x, .int .i64 r.dead, .int .i64 r.low, .int .i64 r.full, .int .i64 r.sur, .int .i64 r.crest, .int .i64 (r.st.getD (r.st.length - 1) default).x])]) (fun i=>7 - i) 1 ⟨Nat.le_refl _,by omega⟩ ?_ ?_
 ·refine ⟨rfl,rfl, ?_, ?_⟩<;>exact ent
 rintro i ⟨hi1,hi⟩
 conv=>whnf
 refine ⟨by exact g0,fun hc=> ?_,fun hc=> ?_⟩
 ·replace hc:=of_decide_eq_true hc
  have hlt:i<7:=by
   have h:(i:Int)<7:=hc
   omega
  have hp:=p3 i hlt hi1
  obtain rfl | rfl | rfl | rfl | rfl | rfl:i=1∨i=2∨i=3∨i=4∨i=5∨i=6:=by omega
  ·conv=>whnf
   refine ⟨rfl, ?_⟩
   conv=>whnf
   refine ⟨by exact g0,fun h=>absurd (of_decide_eq_true h) (Int.not_lt.2 hp),fun _=> ?_⟩
   conv=>whnf
   refine ⟨by exact g0,2,⟨by omega,by omega⟩,by omega,rfl,rfl, ?_, ?_⟩<;>exact ent
  ·conv=>whnf
   refine ⟨rfl, ?_⟩
   conv=>whnf
   refine ⟨by exact g0,fun h=>absurd (of_decide_eq_true h) (Int.not_lt.2 hp),fun _=> ?_⟩
   conv=>whnf
   refine ⟨by exact g0,3,⟨by omega,by omega⟩,by omega,rfl,rfl, ?_, ?_⟩<;>exact ent
  ·conv=>whnf
   refine ⟨rfl, ?_⟩
   conv=>whnf
   refine ⟨by exact g0,fun h=>absurd (of_decide_eq_true h) (Int.not_lt.2 hp),fun _=> ?_⟩
   conv=>whnf
   refine ⟨by exact g0,4,⟨by omega,by omega⟩,by omega,rfl,rfl, ?_, ?_⟩<;>exact ent
  ·conv=>whnf
   refine ⟨rfl, ?_⟩
   conv=>whnf
   refine ⟨by exact g0,fun h=>absurd (of_decide_eq_true h) (Int.not_lt.2 hp),fun _=> ?_⟩
   conv=>whnf
   refine ⟨by exact g0,5,⟨by omega,by omega⟩,by omega,rfl,rfl, ?_, ?_⟩<;>exact ent
  ·conv=>whnf
   refine ⟨rfl, ?_⟩
   conv=>whnf
   refine ⟨by exact g0,fun h=>absurd (of_decide_eq_true h) (Int.not_lt.2 hp),fun _=> ?_⟩
   conv=>whnf
   refine ⟨by exact g0,6,⟨by omega,by omega⟩,by omega,rfl,rfl, ?_, ?_⟩<;>exact ent
  ·conv=>whnf
   refine ⟨rfl, ?_⟩
   conv=>whnf
   refine ⟨by exact g0,fun h=>absurd (of_decide_eq_true h) (Int.not_lt.2 hp),fun _=> ?_⟩
   conv=>whnf
   refine ⟨by exact g0,7,⟨by omega,by omega⟩,by omega,rfl,rfl, ?_, ?_⟩<;>exact ent
 conv=>whnf
 exact ret
def c214L1:C:=(sr [kb 47 .lss 46 45] (.seq (.cond 47 .skip (.exit 0)) (.seq (.block 1 (sr [ki 48 2 44 46,kt 49 2 48,kk 5 (.al [z0,z0]),kx 2 5 49] (.seq (sr [kf 50 0 5,kl 51 50,kc 52 172 [51,(cn 1073741824)],kk 53 (.un false .not 52),km 54 53,kg 55 54 false (.fa 1 5),kg 56 54 false (.ld 1 false 55),kg 57 54 false (cl 172 [56,(cn 1073741824)]),kg 58 54 false (.un false .not 57),kk 59 (.pick 54 ct 58)] (.cond 59 (sr [kk 2 (.mv (cn 1))] .ret) .skip)) (sr [kf 60 0 5,kl 61 60,kf 62 1 5,kl 63 62,kb 64 .geq 61 63] (.cond 64 (sr [kk 2 (.mv (cn 4))] .ret) .skip))))) (.reg [kb 65 .add 46 (cn 1),km 46 65]))))
def c214:C:=(sr [kk 1 (.bx 6 0),kk 2 (.mv (cn 0))] (.seq (sr [kf 6 0 1,kl 7 6,kc 8 173 [7],km 3 8] (sr [km 9 3,kb 10 .neq 9 (cn 0)] (.cond 10 (sr [km 11 3,km 2 11] .ret) .skip))) (.seq (sr [kf 12 0 1,kl 13 12,kf 14 0 1,kl 15 14,kk 16 (.len 15),kb 17 .sub 16 (cn 1),ki 18 2 13 17,kf 19 1 18,kl 20 19,kb 21 .gtr 20 (cn 1073741824),km 22 21,kg 23 22 false (.fa 1 1),kg 24 22 false (.ld 1 false 23),kg 25 22 false (.bi false .lss 24 (cn 1)),kk 26 (.pick 22 ct 25),km 27 26,kg 28 27 false (.fa 1 1),kg 29 27 false (.ld 1 false 28),kg 30 27 false (.fa 2 1),kg 31 27 false (.ld 1 false 30),kg 32 27 false (.bi false .gtr 29 31),kk 33 (.pick 27 ct 32),km 34 33,kg 35 34 false (.fa 2 1),kg 36 34 false (.ld 1 false 35),kg 37 34 false (.bi false .gtr 36 (cn 1073741824)),kk 38 (.pick 34 ct 37)] (.cond 38 (sr [kk 2 (.mv (cn 1))] .ret) .skip)) (.seq (sr [kf 39 3 1,kl 40 39,kk 41 (.len 40),kb 42 .gtr 41 (cn 10)] (.cond 42 (sr [kk 2 (.mv (cn 10))] .ret) .skip)) (.seq (sr [kf 43 3 1,kl 44 43,kk 45 (.len 44),kk 46 (.mv (cn 0))] (.block 0 (.loop c214L1))) (.seq (sr [kf 66 4 1,kl 67 66,kc 68 172 [67,(cn 1000)],kk 69 (.un false .not 68),km 70 69,kg 71 70 false (.fa 5 1),kg 72 70 false (.ld 1 false 71),kg 73 70 false (cl 172 [72,(cn 1000)]),kg 74 70 false (.un false .not 73),kk 75 (.pick 70 ct 74)] (.cond 75 (sr [kk 2 (.mv (cn 1))] .ret) .skip)) (sr [kk 2 (.mv (cn 0))] .ret)))))))
theorem fits214:fits Tryz.prog false Tryz.f214 1 76 [(2,none)]=some c214.er:=by kernel_rfl
def c215L1:C:=(sr [kb 12 .lss 11 10] (.seq (.cond 12 .skip (.exit 0)) (.seq (.block 1 (sr [ki 13 2 9 11,kt 14 2 13,kk 7 (.al [z0,z0]),kx 2 7 14] (sr [km 15 1,kf 16 0 7,kl 17 16,kb 18 .gtr 15 17,km 19 18,kg 20 19 true (.mv 1),kg 21 19 true (.fa 1 7),kg 22 19 true (.ld 1 false 21),kg 23 19 true (.bi false .lss 20 22),kk 24 (.pick 19 23 cf)] (.cond 24 (sr [kf 25 1 7,kl 26 25,km 4 26,kk 5 (.mv ct)] .ret) .skip)))) (.reg [kb 27 .add 11 (cn 1),km 11 27]))))
def c215:C:=(sr [kk 2 (.bx 6 0),kk 4 (.mv (cn 0)),kk 5 (.mv cf)] (.seq (sr [kf 8 3 2,kl 9 8,kk 10 (.len 9),kk 11 (.mv (cn 0))] (.block 0 (.loop c215L1))) (sr [kk 4 (.mv (cn 0)),kk 5 (.mv cf)] .ret)))
theorem fits215:fits Tryz.prog false Tryz.f215 2 28 [(4,none),(5,none)]=some c215.er:=by kernel_rfl
def c170L1:C:=(.seq (sr [km 31 8,kf 32 2 2,kl 33 32,kb 34 .leq 31 33] (.cond 34 .skip (.exit 0))) (.block 1 (.seq (sr [kt 36 6 2,km 37 8,kc 38 215 [36,37],km 35 38,ke 39 35 0,ke 40 35 1,km 9 39,km 10 40] (sr [km 41 10] (.cond 41 (sr [km 42 9,km 43 1,kb 44 .add 42 43,kb 45 .sub 44 (cn 1),km 46 1,kb 47 .quo 45 46,km 48 1,kb 49 .mul 47 48,km 8 49] (.exit 1)) .skip))) (.seq (sr [km 50 7,kk 51 (.len 50),kb 52 .eql 51 (cn 200)] (.cond 52 (sr [kk 4 (.mv (.c (.nil 1))),kk 5 (.mv (cn 10))] .ret) .skip)) (sr [km 53 7,km 54 8,kk 55 (.bs 3 1 [54]),kk 56 (.app 3 1 8 53 55),km 7 56] (.reg [km 57 8,km 58 1,kb 59 .add 57 58,km 8 59]))))))
def c170:C:=(sr [kk 2 (.bx 6 0),kk 4 (.mv (.c (.nil 1))),kk 5 (.mv (cn 0))] (.seq (sr [kt 11 6 2,kc 12 214 [11],km 6 12] (sr [km 13 6,kb 14 .neq 13 (cn 0)] (.cond 14 (sr [km 15 6,kk 4 (.mv (.c (.nil 1))),km 5 15] .ret) .skip))) (.seq (sr [km 16 1,kb 17 .lss 16 (cn 1),km 18 17,kg 19 18 false (.mv 1),kg 20 18 false (.bi false .gtr 19 (cn 1073741824)),kk 21 (.pick 18 ct 20)] (.cond 21 (sr [kk 4 (.mv (.c (.nil 1))),kk 5 (.mv (cn 1))] .ret) .skip)) (sr [kk 7 (.mv (.c (.nil 1)))] (.seq (sr [kf 22 1 2,kl 23 22,km 24 1,kb 25 .add 23 24,kb 26 .sub 25 (cn 1),km 27 1,kb 28 .quo 26 27,km 29 1,kb 30 .mul 28 29,km 8 30] (.block 0 (.loop c170L1))) (sr [km 60 7,km 4 60,kk 5 (.mv (cn 0))] .ret))))))
theorem fits170:fits Tryz.prog false Tryz.f170 2 61 [(4,none),(5,none)]=some c170.er:=by kernel_rfl
structure Bnd where
 lo:Int
 hi:Int
 deriving Inhabited,DecidableEq
def eBnd (b:Bnd):List PV:= [.int .i64 b.lo, .int .i64 b.hi]
structure Ut where
 tb:List Pt
 least:Int
 most:Int
 rough:List Bnd
 up:Int
 down:Int
 deriving Inhabited
def eUt (τ:Nat) (u:Ut):List PV:= [.sl τ 2 u.tb.length (fl ePt u.tb), .int .i64 u.least, .int .i64 u.most, .sl τ 2 u.rough.length (fl eBnd u.rough), .int .i64 u.up, .int .i64 u.down]
def errB (l:List Bnd) (i:Nat):Int:=if¬(0≤(l.getD i default).lo∧(l.getD i default).lo≤1073741824)∨¬(0≤(l.getD i default).hi∧(l.getD i default).hi≤1073741824) then 1 else if (l.getD i default).hi≤(l.getD i default).lo then 4 else 0
def badU (u:Ut):Prop:=1073741824<(u.tb.getD (u.tb.length - 1) default).y∨u.least<1∨u.most<u.least∨1073741824<u.most
instance (u:Ut):Decidable (badU u):=by unfold badU;infer_instance
def checkU (u:Ut):Int:=if checkC u.tb≠0 then checkC u.tb else if badU u then 1 else if 10<u.rough.length then 10 else if scan (errB u.rough) 0 u.rough.length≠0 then scan (errB u.rough) 0 u.rough.length else
 if¬(0≤u.up∧u.up≤1000)∨¬(0≤u.down∧u.down≤1000) then 1 else 0
def insL (q:Int):List Bnd→Option Int
 | []=>none
 | z::r=>if z.lo<q∧q<z.hi then some z.hi else insL q r
theorem insL_drop {l:List Bnd} {i:Nat} (q:Int) (h:i<l.length):insL q (l.drop i)=if (l.getD i default).lo<q∧q<(l.getD i default).hi then some (l.getD i default).hi else insL q (l.drop (i+1)):=by
 rw [List.drop_eq_getElem_cons h]
 have:l.getD i default=l[i]:=by simp [List.getD,h]
 rw [this];rfl
theorem insL_gt:∀{l:List Bnd} {q e:Int},insL q l=some e→q<e∧∃z∈l,z.hi=e
 | [],q,e,h=>by cases h
 | z::r,q,e,h=>by
   unfold insL at h
   split at h
   ·injection h with h;subst h
    rename_i hh
    exact ⟨hh.2,z,by simp,rfl⟩
   ·obtain ⟨h1,z',hz,he⟩:=insL_gt h
    exact ⟨h1,z',by simp [hz],he⟩
theorem call215 (τ:Nat) (u:Ut) (q:Int) (hl:u.rough.length≤4611686018427387904):PureCall Tryz.prog 215 [.agg (eUt τ u), .int .i64 q] [] ⟨.tup [.int .i64 ((insL q u.rough).getD 0), .bool (insL q u.rough).isSome], [], []⟩:=by
 refine pure_call mix Tryz.func215 fits215 rfl ?_
 conv=>whnf
 refine ⟨trivial, ?_⟩
 refine LSem.loop (n:=28) mix (α:=Nat) (fun i=>i≤u.rough.length∧insL q (u.rough.drop i)=insL q u.rough)
  (fun i=> [(1, .int .i64 q),(9, .sl τ 2 u.rough.length (fl eBnd u.rough)),(10, .int .i64 u.rough.length),(11, .int .i64 i)])
  (fun _=> []) (fun i=>u.rough.length - i) 0 ?_ ?_ ?_
 ·exact ⟨Nat.zero_le _,rfl⟩
 ·refine ⟨rfl,rfl, ?_, ?_⟩
  all_goals exact ent
 ·intro i hi
  obtain ⟨hi,hp⟩:=hi
  have hj:((i:Int)).toNat=i:=by omega
  conv=>whnf
  refine ⟨trivial,fun hc=> ?_,fun hc=> ?_⟩
  ·replace hc:=of_decide_eq_true hc
   have hlt:i<u.rough.length:=by
    have h:(i:Int)<u.rough.length:=hc
    omega
   rw [insL_drop q hlt] at hp
   conv=>whnf
   rw [hj]
   generalize u.rough.getD i default=z at hp⊢
   refine ⟨?_,fun h1=> ?_,fun h1=> ?_⟩
   ·exact g0
   ·have h1:(bif decide (z.lo<q) then decide (q<z.hi) else false)=true:=h1
    simp only [bp] at h1
    rw [if_pos (by omega)] at hp
    rw [←hp]
    conv=>whnf
    refine ⟨?_, [], ?_⟩
    ·exact g0
    conv=>whnf
    refine ⟨rfl, ?_,trivial,trivial⟩
    all_goals exact ent
   ·have h1:(bif decide (z.lo<q) then decide (q<z.hi) else false)=false:=h1
    simp only [bp] at h1
    rw [if_neg (by omega)] at hp
    conv=>whnf
    refine ⟨?_,i+1,⟨hlt,hp⟩,by omega,rfl,rfl, ?_, ?_⟩
    ·exact g0
    all_goals exact ent
    all_goals first | omega | skip
  ·replace hc:=of_decide_eq_false hc
   have hk:i=u.rough.length:=by
    have h:¬(i:Int)<u.rough.length:=hc
    omega
   subst hk
   rw [List.drop_length] at hp
   rw [←hp]
   conv=>whnf
   refine ⟨?_, [], ?_⟩
   ·exact g0
   conv=>whnf
   refine ⟨rfl, ?_,trivial,trivial⟩
   all_goals exact ent
theorem call214 (τ:Nat) (u:Ut) (hl:u.rough.length≤4611686018427387904):PureCall Tryz.prog 214 [.agg (eUt τ u)] [] ⟨.int .i64 (checkU u), [], []⟩:=by
 refine pure_call mix Tryz.func214 fits214 rfl ?_
 conv=>whnf
 refine ⟨_,fun _=>call173 _ u.tb, ?_⟩
 by_cases hk:checkC u.tb=0
 case neg=>
  rw [show checkU u=checkC u.tb by unfold checkU;rw [if_pos hk]]
  generalize checkC u.tb=E at hk⊢
  conv=>whnf
  refine ⟨?_,fun _=> ?_,fun h=> ?_⟩
  ·exact g0
  ·conv=>whnf
   refine ⟨?_, [], ?_⟩
   ·exact g0
   conv=>whnf
   refine ⟨rfl, ?_,trivial,trivial⟩
   all_goals exact ent
  ·exact absurd (show E=0 by simpa using h) hk
 have hg:=(check_good u.tb).1 hk
 have hlen:=hg.le
 have hne:=hg.ne
 have hch:checkU u=if badU u then 1 else if 10<u.rough.length then 10 else if scan (errB u.rough) 0 u.rough.length≠0 then scan (errB u.rough) 0 u.rough.length else
  if¬(0≤u.up∧u.up≤1000)∨¬(0≤u.down∧u.down≤1000) then 1 else 0:=by unfold checkU;rw [if_neg (by rw [hk];decide)]
 have hjl:((u.tb.length:Int) - 1).toNat=u.tb.length - 1:=by omega
 rw [hk]
 conv=>whnf
 refine ⟨?_,fun h=>(by cases h),fun _=> ?_⟩
 ·exact g0
 conv=>whnf
 rw [hjl]
 refine ⟨?_,fun hc=> ?_,fun hc=> ?_⟩
 ·exact g0
 ·have hc:(bif bif bif decide (1073741824<(u.tb.getD (u.tb.length - 1) default).y) then true else decide (u.least<1) then true else decide (u.most<u.least) then true else decide (1073741824<u.most))=true:=hc
  simp only [bp] at hc
  rw [show checkU u=1 by rw [hch,if_pos (by unfold badU;omega)]]
  conv=>whnf
  refine ⟨?_, [], ?_⟩
  ·exact g0
  conv=>whnf
  refine ⟨rfl, ?_,trivial,trivial⟩
  all_goals exact ent
 have hc:(bif bif bif decide (1073741824<(u.tb.getD (u.tb.length - 1) default).y) then true else decide (u.least<1) then true else decide (u.most<u.least) then true else decide (1073741824<u.most))=false:=hc
 simp only [bp] at hc
 rw [if_neg (by unfold badU;omega)] at hch
 clear hc
 conv=>whnf
 refine ⟨trivial,fun hc=> ?_,fun hc=> ?_⟩
 ·have h:(10:Int)<u.rough.length:=of_decide_eq_true hc
  rw [show checkU u=10 by rw [hch,if_pos (by omega)]]
  conv=>whnf
  refine ⟨?_, [], ?_⟩
  ·exact g0
  conv=>whnf
  refine ⟨rfl, ?_,trivial,trivial⟩
  all_goals exact ent
 have h:¬(10:Int)<u.rough.length:=of_decide_eq_false hc
 rw [if_neg (by omega)] at hch
 clear hc
 conv=>whnf
 refine ⟨trivial, ?_⟩
 refine LSem.loop (n:=76) mix (α:=Nat) (fun i=>i≤u.rough.length∧scan (errB u.rough) i (u.rough.length - i)=scan (errB u.rough) 0 u.rough.length)
  (fun i=> [(1, .pt 16 0 0),(44, .sl τ 2 u.rough.length (fl eBnd u.rough)),(45, .int .i64 u.rough.length),(46, .int .i64 i)])
  (fun _=> [(16, .box (eUt τ u))]) (fun i=>u.rough.length - i) 0 ?_ ?_ ?_
 ·exact ⟨Nat.zero_le _,rfl⟩
 ·refine ⟨rfl,rfl, ?_, ?_⟩
  all_goals exact ent
 ·intro i hi
  obtain ⟨hi,hs⟩:=hi
  have hj:((i:Int)).toNat=i:=by omega
  conv=>whnf
  refine ⟨trivial,fun hc=> ?_,fun hc=> ?_⟩
  ·replace hc:=of_decide_eq_true hc
   have hlt:i<u.rough.length:=by
    have h:(i:Int)<u.rough.length:=hc
    omega
   have herr:errB u.rough i≠0→checkU u=errB u.rough i:=fun h=>by
    rw [hch,←hs,scan_hit (by omega) h,if_pos h]
   have hnext:errB u.rough i=0→scan (errB u.rough) (i+1) (u.rough.length - (i+1))=scan (errB u.rough) 0 u.rough.length:=fun h=>by rw [←hs,scan_step (by omega) h];congr 1
   have heq:errB u.rough i=if¬(0≤(u.rough.getD i default).lo∧(u.rough.getD i default).lo≤1073741824)∨¬(0≤(u.rough.getD i default).hi∧(u.rough.getD i default).hi≤1073741824) then 1 else if (u.rough.getD i default).hi≤(u.rough.getD i default).lo then 4 else 0:=rfl
   conv=>whnf
   rw [hj]
   generalize u.rough.getD i default=z at heq⊢
   refine ⟨_,fun _=>call172 z.lo 1073741824, ?_⟩
   conv=>whnf
   refine ⟨_,fun _=>call172 z.hi 1073741824, ?_⟩
   conv=>whnf
   refine ⟨?_,fun h1=> ?_,fun h1=> ?_⟩
   ·exact g0
   ·have h1:(bif !decide (0≤z.lo∧z.lo≤1073741824) then true else !decide (0≤z.hi∧z.hi≤1073741824))=true:=h1
    simp only [bp] at h1
    rw [if_pos (by omega)] at heq
    rw [herr (by rw [heq];decide),heq]
    conv=>whnf
    refine ⟨?_, [], ?_⟩
    ·exact g0
    conv=>whnf
    refine ⟨rfl, ?_,trivial,trivial⟩
    all_goals exact ent
   ·have h1:(bif !decide (0≤z.lo∧z.lo≤1073741824) then true else !decide (0≤z.hi∧z.hi≤1073741824))=false:=h1
    simp only [bp] at h1
    rw [if_neg (by omega)] at heq
    conv=>whnf
    refine ⟨?_,fun h2=> ?_,fun h2=> ?_⟩
    ·exact g0
    ·have h2:z.hi≤z.lo:=of_decide_eq_true h2
     rw [if_pos h2] at heq
     rw [herr (by rw [heq];decide),heq]
     conv=>whnf
     refine ⟨?_, [], ?_⟩
     ·exact g0
     conv=>whnf
     refine ⟨rfl, ?_,trivial,trivial⟩
     all_goals exact ent
    ·have h2:¬z.hi≤z.lo:=of_decide_eq_false h2
     rw [if_neg h2] at heq
     conv=>whnf
     refine ⟨?_,i+1,⟨hlt,hnext heq⟩,by omega,rfl,rfl, ?_, ?_⟩
     ·exact g0
     all_goals exact ent
     all_goals first | omega | skip
  ·replace hc:=of_decide_eq_false hc
   have hk:i=u.rough.length:=by
    have h:¬(i:Int)<u.rough.length:=hc
    omega
   subst hk
   rw [Nat.sub_self] at hs
   have hs0:scan (errB u.rough) 0 u.rough.length=0:=by rw [←hs];rfl
   rw [hs0,if_neg (by decide)] at hch
   conv=>whnf
   refine ⟨_,fun _=>call172 u.up 1000, ?_⟩
   conv=>whnf
   refine ⟨_,fun _=>call172 u.down 1000, ?_⟩
   conv=>whnf
   refine ⟨?_,fun h1=> ?_,fun h1=> ?_⟩
   ·exact g0
   ·have h1:(bif !decide (0≤u.up∧u.up≤1000) then true else !decide (0≤u.down∧u.down≤1000))=true:=h1
    simp only [bp] at h1
    rw [show checkU u=1 by rw [hch,if_pos (by omega)]]
    conv=>whnf
    refine ⟨?_, [], ?_⟩
    ·exact g0
    conv=>whnf
    refine ⟨rfl, ?_,trivial,trivial⟩
    all_goals exact ent
   ·have h1:(bif !decide (0≤u.up∧u.up≤1000) then true else !decide (0≤u.down∧u.down≤1000))=false:=h1
    simp only [bp] at h1
    rw [show checkU u=0 by rw [hch,if_neg (by omega)]]
    conv=>whnf
    refine ⟨?_, [], ?_⟩
    ·exact g0
    conv=>whnf
    refine ⟨rfl, ?_,trivial,trivial⟩
    all_goals exact ent
theorem checkU_ok {u:Ut} (h:checkU u=0):1≤u.least∧u.least≤u.most∧u.most≤1073741824∧u.rough.length≤10∧∀z∈u.rough,0≤z.hi∧z.hi≤1073741824:=by
 unfold checkU at h
 split at h
 ·rename_i hh;exact absurd h hh
 split at h
 ·cases h
 rename_i hb
 split at h
 ·cases h
 split at h
 ·rename_i hh;exact absurd h hh
 rename_i hl hs
 have hs0:scan (errB u.rough) 0 u.rough.length=0:=Classical.not_not.1 hs
 unfold badU at hb
 refine ⟨by omega,by omega,by omega,by omega,fun z hz=> ?_⟩
 obtain ⟨i,hi,rfl⟩:=List.mem_iff_getElem.1 hz
 have:=scan_zero hs0 i (Nat.zero_le _) (by omega)
 unfold errB at this
 simp only [List.getD,List.getElem?_eq_getElem hi,Option.getD_some] at this
 split at this
 ·cases this
 ·omega
def upG (g x:Int):Int:=(x+g - 1) / g*g
def flowL (u:Ut) (g:Int):Nat→Int→List Int→List Int×Int
 | 0,_,out=>(out,0)
 | n+1,q,out=>if q≤u.most then match insL q u.rough with
   | some e=>flowL u g n (upG g e) out
   | none=>if out.length=200 then ([],10) else flowL u g n (q+g) (out++ [q])
   else (out,0)
def flowsU (u:Ut) (g:Int):List Int×Int:=if checkU u≠0 then ([],checkU u) else if g<1∨1073741824<g then ([],1) else flowL u g (u.most+1).toNat (upG g u.least) []
theorem upG_rng {g x:Int} (hg:1≤g) (hx:0≤x):x≤upG g x∧upG g x≤x+g - 1∧0≤(x+g - 1) / g∧(x+g - 1) / g≤x+g - 1:=by
 unfold upG
 have e:=Int.mul_ediv_add_emod (x+g - 1) g
 have e1:=Int.emod_nonneg (x+g - 1) (b:=g) (by omega)
 have e2:=Int.emod_lt_of_pos (x+g - 1) (b:=g) (by omega)
 have h3:0≤(x+g - 1) / g:=Int.ediv_nonneg (by omega) (by omega)
 have h4:(x+g - 1) / g≤x+g - 1:=Int.ediv_le_self _ (by omega)
 rw [Int.mul_comm] at e
 generalize (x+g - 1) / g*g=y at e⊢
 omega
theorem flowL_len (u:Ut) (g:Int):∀(n:Nat) (q:Int) (out:List Int),out.length≤200→(flowL u g n q out).1.length≤200
 | 0,q,out,h=>h
 | n+1,q,out,h=>by
   unfold flowL
   split
   ·split
    ·exact flowL_len u g n _ out h
    ·split
     ·simp
     ·exact flowL_len u g n _ _ (by rw [List.length_append];simp;omega)
   ·exact h
theorem flowsU_len (u:Ut) (g:Int):(flowsU u g).1.length≤200:=by
 unfold flowsU
 split
 ·simp
 split
 ·simp
 ·exact flowL_len _ _ _ _ _ (by simp)
theorem call170 (τ:Nat) (u:Ut) (g:Int) (hl:u.rough.length≤4611686018427387904):PureCall Tryz.prog 170 [.agg (eUt τ u), .int .i64 g] [] ⟨.tup [.sl 0 1 (flowsU u g).1.length (fl eInt (flowsU u g).1), .int .i64 (flowsU u g).2], [], []⟩:=by
 refine pure_call mix Tryz.func170 fits170 rfl ?_
 conv=>whnf
 refine ⟨_,fun _=>call214 _ u hl, ?_⟩
 by_cases hk:checkU u=0
 case neg=>
  rw [show flowsU u g=([],checkU u) by unfold flowsU;rw [if_pos hk]]
  generalize checkU u=E at hk⊢
  conv=>whnf
  refine ⟨?_,fun _=> ?_,fun h=> ?_⟩
  ·exact g0
  ·conv=>whnf
   refine ⟨?_, [], ?_⟩
   ·exact g0
   conv=>whnf
   refine ⟨rfl, ?_,trivial,trivial⟩
   all_goals exact ent
  ·exact absurd (show E=0 by simpa using h) hk
 obtain ⟨u1,u2,u3,u4,u5⟩:=checkU_ok hk
 rw [hk]
 conv=>whnf
 refine ⟨?_,fun h=>(by cases h),fun _=> ?_⟩
 ·exact g0
 conv=>whnf
 refine ⟨?_,fun hc=> ?_,fun hc=> ?_⟩
 ·exact g0
 ·have hc:(bif decide (g<1) then true else decide (1073741824<g))=true:=hc
  simp only [bp] at hc
  rw [show flowsU u g=([],1) by unfold flowsU;rw [if_neg (by rw [hk];decide),if_pos (by omega)]]
  conv=>whnf
  refine ⟨?_, [], ?_⟩
  ·exact g0
  conv=>whnf
  refine ⟨rfl, ?_,trivial,trivial⟩
  all_goals exact ent
 have hc:(bif decide (g<1) then true else decide (1073741824<g))=false:=hc
 simp only [bp] at hc
 rw [show flowsU u g=flowL u g (u.most+1).toNat (upG g u.least) [] by unfold flowsU;rw [if_neg (by rw [hk];decide),if_neg (by omega)]]
 have hq0:=upG_rng (g:=g) (x:=u.least) (by omega) (by omega)
 have hd0:Int.tdiv (u.least+g - 1) g*g=upG g u.least:=by unfold upG;rw [Int.tdiv_eq_ediv_of_nonneg (by omega)]
 obtain ⟨R0,hR0⟩:∃R0,R0=flowL u g (u.most+1).toNat (upG g u.least) []:=⟨_,rfl⟩
 rw [←hR0]
 have hd1:Int.tdiv (u.least+g - 1) g=(u.least+g - 1) / g:=Int.tdiv_eq_ediv_of_nonneg (by omega)
 have hd2:(u.least+g - 1) / g*g=upG g u.least:=rfl
 conv=>whnf
 rw [hd1,hd2]
 refine ⟨?_, ?_⟩
 ·exact g0
 refine LSem.adopt 7 1000000 3 1 1 rfl rfl ?_
 refine LSem.loop (n:=61) mix (α:=Nat×Int×List Int) (fun x=>flowL u g x.1 x.2.1 x.2.2=R0∧u.most+1 - x.2.1≤x.1∧(1≤x.2.1∧x.2.1≤2147483648)∧x.2.2.length≤200)
  (fun x=> [(1, .int .i64 g),(2, .pt 32 0 0),(7, .os 1000000),(8, .int .i64 x.2.1)])
  (fun x=> [(32, .box (eUt τ u)),(1000000, .row 0 3 1 x.2.2.length (fl eInt x.2.2))]) (fun x=>x.1) ((u.most+1).toNat,upG g u.least, []) ?_ ?_ ?_
 ·exact ⟨hR0.symm,by dsimp only;omega,by dsimp only;omega,by simp⟩
 ·refine ⟨rfl,rfl, ?_, ?_⟩
  all_goals exact ent
 ·intro x hx
  obtain ⟨n,q,out⟩:=x
  obtain ⟨h1,h2,h3,h4⟩:=hx
  dsimp only at h1 h2 h3 h4
  conv=>whnf
  refine ⟨trivial,fun hc1=> ?_,fun hc1=> ?_⟩
  ·have hqm:q≤u.most:=of_decide_eq_true hc1
   obtain ⟨n,rfl⟩:∃m,n=m+1:=⟨n - 1,by omega⟩
   unfold flowL at h1
   rw [if_pos hqm] at h1
   conv=>whnf
   refine ⟨_,fun _=>call215 _ u q hl, ?_⟩
   have hgt:=fun e=>insL_gt (l:=u.rough) (q:=q) (e:=e)
   generalize insL q u.rough=I at h1 hgt⊢
   cases I with
   | some e=>
     obtain ⟨hge,z,hz,hze⟩:=hgt e rfl
     have hzr:=u5 z hz
     have hqe:=upG_rng (g:=g) (x:=e) (by omega) (by omega)
     have he1:Int.tdiv (e+g - 1) g=(e+g - 1) / g:=Int.tdiv_eq_ediv_of_nonneg (by omega)
     have he2:(e+g - 1) / g*g=upG g e:=rfl
     rw [show (some e).getD 0=e from rfl,show (some e).isSome=true from rfl]
     conv=>whnf
     refine ⟨?_,fun _=> ?_,fun h=>(by cases h)⟩
     ·exact g0
     conv=>whnf
     rw [he1,he2]
     refine ⟨?_,(n,upG g e,out),⟨h1,by dsimp only;omega,by dsimp only;omega,h4⟩,by dsimp only;omega,rfl,rfl, ?_, ?_⟩
     ·exact g0
     all_goals exact ent
   | none=>
     dsimp only at h1
     conv=>whnf
     refine ⟨?_,fun h=>(by cases h),fun _=> ?_⟩
     ·exact g0
     conv=>whnf
     refine ⟨?_,fun hc2=> ?_,fun hc2=> ?_⟩
     ·exact g0
     ·have hc2:(out.length:Int)=200:=beq_iff_eq.1 hc2
      rw [if_pos (by omega)] at h1
      rw [←h1]
      conv=>whnf
      refine ⟨?_, [], ?_⟩
      ·exact g0
      conv=>whnf
      refine ⟨rfl, ?_,trivial,trivial⟩
      all_goals exact ent
     ·have hc2:¬(out.length:Int)=200:=beq_eq_false_iff_ne.1 hc2
      rw [if_neg (by omega)] at h1
      have qq:=fl_push eInt out q
      have hxl:(out++ [q]).length=out.length+1:=by simp
      conv=>whnf
      refine ⟨?_,(n,q+g,out++ [q]),⟨h1,by dsimp only;omega,by dsimp only;omega,by dsimp only;rw [hxl];omega⟩,by dsimp only;omega,rfl,rfl, ?_, ?_⟩
      ·exact g0
      all_goals exact ent
  ·have hqm:¬q≤u.most:=of_decide_eq_false hc1
   have hf:flowL u g n q out=(out,0):=by
    cases n with
    | zero=>rfl
    | succ n=>unfold flowL;rw [if_neg hqm]
   rw [←h1,hf]
   conv=>whnf
   refine ⟨?_, [], ?_⟩
   ·exact g0
   conv=>whnf
   refine ⟨rfl, ?_,trivial,trivial⟩
   all_goals exact ent
def c113L1:C:=(.seq (sr [km 24 4,kb 25 .gtr 24 (cn 0)] (.cond 25 .skip (.exit 0))) (.seq (.block 1 (sr [km 28 0,kc 29 12 [28,(cn 16)],km 5 29] (.drw [kf 30 3 3,kl 31 30,km 32 5,km 33 5,kb 34 .add 33 (cn 1),km 35 0,kc 36 12 [35,(cn 5)],kb 37 .add 34 36,kk 38 (.bd [z0,z0] [(0,1,32),(1,1,37)]),kk 39 (.bs 71 2 [38]),kk 40 (.app 71 2 16 31 39),kf 41 3 3,kx 1 41 40] (pl [(0,[2,3,4,5,6,7,8,9],30),(1,[2,3,4,5,6,7,8,9],31),(2,[3,4,5,6,7],32),(3,[5,6],33),(4,[5,6],34)])))) (.reg [km 26 4,kb 27 .sub 26 (cn 1),km 4 27])))
def c113:C:=(sr [kk 2 (.al [(.nil 2),z0,z0,(.nil 2),z0,z0])] (sr [km 6 0,kc 7 88 [6,(cn 0),(cn 0),(cn 10),(cn 30),cf],km 8 0,kc 9 12 [8,(cn 8)],kb 10 .add (cn 1) 9,km 11 0,kc 12 12 [11,(cn 3)],km 13 0,kc 14 12 [13,(cn 3)],kk 15 (.bd [(.nil 2),z0,z0,(.nil 2),z0,z0] [(0,1,7),(1,1,10),(4,1,12),(5,1,14)]),kk 3 (.al [(.nil 2),z0,z0,(.nil 2),z0,z0]),kx 6 3 15] (.seq (.drw [kf 16 1 3,kl 17 16,km 18 0,kc 19 12 [18,(cn 12)],kb 20 .add 17 19,kf 21 2 3,kx 1 21 20] (pl [(0,[2,3],16),(1,[2,3],17)])) (.seq (sr [km 22 0,kc 23 12 [22,(cn 3)],km 4 23] (.block 0 (.loop c113L1))) (sr [kt 42 6 3,kx 6 2 42] .ret)))))
theorem fits113:fits Tryz.prog false Tryz.f113 1 43 [(2,some (6,true))]=some c113.er:=by kernel_rfl
def c114:C:=(sr [kk 3 (.bx 6 1),kk 4 (.al [z0,z0,(.bool false)])] (sr [km 8 0,kc 9 12 [8,(cn 5)],km 10 0,kc 11 12 [10,(cn 7)],kb 12 .eql 11 (cn 6),kk 13 (.bd [z0,z0,(.bool false)] [(1,1,9),(2,1,12)]),kk 5 (.al [z0,z0,(.bool false)]),kx 3 5 13] (.seq (sr [kt 15 6 3,kc 16 170 [15,(cn 1)],km 14 16,ke 17 14 0,ke 18 14 1,km 6 17,km 7 18] (sr [km 19 6,kk 20 (.len 19),kb 21 .gtr 20 (cn 0),km 22 21,kg 23 22 true (.fa 2 5),kg 24 22 true (.ld 1 false 23),kg 25 22 true (.un false .not 24),kk 26 (.pick 22 25 cf),km 27 26,kg 28 27 true (.mv 0),kg 29 27 true (cl 12 [28,(cn 2)]),kg 30 27 true (.bi false .eql 29 (cn 0)),kk 31 (.pick 27 30 cf)] (.cond 31 (.reg [km 32 6,km 33 0,km 34 6,kk 35 (.len 34),kc 36 12 [33,35],ki 37 1 32 36,kl 38 37,kf 39 0 5,kx 1 39 38]) .skip))) (sr [kt 40 3 5,kx 3 4 40] .ret))))
theorem fits114:fits Tryz.prog false Tryz.f114 2 41 [(4,some (3,true))]=some c114.er:=by kernel_rfl
def c49L1:C:=(.seq (sr [km 14 8,kb 15 .gtr 14 (cn 0)] (.cond 15 .skip (.exit 0))) (.seq (.block 1 (sr [km 18 0,kc 19 113 [18],kk 9 (.al [(.nil 2),z0,z0,(.nil 2),z0,z0]),kx 6 9 19] (.drw [km 20 6,kt 21 6 9,kk 22 (.bs 243 6 [21]),kk 23 (.app 243 6 80 20 22),km 24 7,km 25 0,kt 26 6 9,kc 27 114 [25,26],kk 28 (.bs 246 3 [27]),kk 29 (.app 246 3 24 24 28),km 6 23,km 7 29] (pl [(0,[1,2,4,5,6],20),(1,[4,5,6],21),(2,[4,5,6],22),(3,[4,5,6],23),(4,[5,6,7,8],24),(5,[6],25)])))) (.reg [km 16 8,kb 17 .sub 16 (cn 1),km 8 17])))
def c49:C:=(sr [kk 4 (.mv (.c (.nil 6))),kk 5 (.mv (.c (.nil 3)))] (sr [kk 6 (.mv (.c (.nil 6)))] (sr [kk 7 (.mv (.c (.nil 3)))] (.seq (sr [km 10 0,km 11 1,kb 12 .add 11 (cn 1),kc 13 12 [10,12],km 8 13] (.block 0 (.loop c49L1))) (sr [km 30 6,km 31 7,km 4 30,km 5 31] .ret)))))
theorem fits49:fits Tryz.prog false Tryz.f49 2 32 [(4,none),(5,none)]=some c49.er:=by kernel_rfl
structure Us where
 flow:Int
 since:Int
 out:Bool
 deriving Inhabited
def eUs (s:Us):List PV:= [.int .i64 s.flow, .int .i64 s.since, .bool s.out]
def rghN (s:List Bnd×Dk):List Bnd×Dk:=(s.1++ [⟨nxt s.2 16,nxt s.2 16+1+nxt (nxtD s.2 16) 5⟩],nxtD (nxtD s.2 16) 5)
def unitC (d:Dk):Cst:=curveS d 0 0 10 30 0
def unitE (d:Dk):Dk:=nxtD (nxtD (nxtD (nxtD (unitC d).d 8) 3) 3) 12
def unitR (d:Dk):List Bnd×Dk:=it rghN (nxt (unitE d) 3).toNat ([],nxtD (unitE d) 3)
def unitF (d:Dk):Ut×Dk:=
 (⟨(unitC d).L,1+nxt (unitC d).d 8,1+nxt (unitC d).d 8+nxt (nxtD (nxtD (nxtD (unitC d).d 8) 3) 3) 12,(unitR d).1,nxt (nxtD (unitC d).d 8) 3,nxt (nxtD (nxtD (unitC d).d 8) 3) 3⟩,(unitR d).2)
def ustF (d:Dk) (u:Ut):Us×Dk:=
 let e:=nxtD (nxtD d 5) 7
 let l:=(flowsU u 1).1
 if 0<l.length∧(nxt (nxtD d 5) 7==6)=false then
  if nxt e 2=0 then (⟨l.getD (nxt (nxtD e 2) l.length).toNat default,nxt d 5,nxt (nxtD d 5) 7==6⟩,nxtD (nxtD e 2) l.length) else (⟨0,nxt d 5,nxt (nxtD d 5) 7==6⟩,nxtD e 2)
 else (⟨0,nxt d 5,nxt (nxtD d 5) 7==6⟩,e)
def unN (s:List Ut×List Us×Dk):List Ut×List Us×Dk:=(s.1++ [(unitF s.2.2).1],s.2.1++ [(ustF (unitF s.2.2).2 (unitF s.2.2).1).1],(ustF (unitF s.2.2).2 (unitF s.2.2).1).2)
def unitsF (d:Dk) (m:Int):List Ut×List Us×Dk:=it unN (nxt d (m+1)).toNat ([], [],nxtD d (m+1))
theorem rgh_ok:∀(n:Nat) (s:List Bnd×Dk),(it rghN n s).1.length=s.1.length+n∧(it rghN n s).2.at_≤s.2.at_+2*n
 | 0,s=>⟨rfl,Nat.le_refl _⟩
 | n+1,s=>by
   have ih:=rgh_ok n (rghN s)
   have e1:(rghN s).1.length=s.1.length+1:=by simp [rghN]
   have e2:(rghN s).2=nxtD (nxtD s.2 16) 5:=rfl
   have a1:=nxtD_at s.2 16
   have a2:=nxtD_at (nxtD s.2 16) 5
   unfold it
   rw [e1,e2] at ih
   omega
theorem unitR_ok (d:Dk):(unitR d).1.length≤2∧(unitR d).2.at_≤(unitE d).at_+5:=by
 have hr:=rgh_ok (nxt (unitE d) 3).toNat ([],nxtD (unitE d) 3)
 have hu:unitR d=it rghN (nxt (unitE d) 3).toNat ([],nxtD (unitE d) 3):=rfl
 rw [←hu] at hr
 rw [List.length_nil] at hr
 generalize unitR d=R at hr⊢
 clear hu
 generalize unitE d=e at hr⊢
 have r1:=nxt_lt e (n:=3) (by omega)
 have a0:=nxtD_at e 3
 generalize nxt e 3=x at r1 hr
 dsimp only at hr
 generalize nxtD e 3=y at a0 hr
 omega
theorem unitE_at (d:Dk):(unitE d).at_≤(unitC d).d.at_+4:=by
 unfold unitE
 generalize (unitC d).d=e
 have a1:=nxtD_at e 8
 generalize nxtD e 8=e1 at a1⊢
 have a2:=nxtD_at e1 3
 generalize nxtD e1 3=e2 at a2⊢
 have a3:=nxtD_at e2 3
 generalize nxtD e2 3=e3 at a3⊢
 have a4:=nxtD_at e3 12
 omega
theorem unitF_tb (d:Dk):(unitF d).1.tb=(unitC d).L:=by unfold unitF;dsimp only
theorem unitF_rough (d:Dk):(unitF d).1.rough=(unitR d).1:=by unfold unitF;dsimp only
theorem unitF_d (d:Dk):(unitF d).2=(unitR d).2:=by unfold unitF;dsimp only
theorem unitC_ok (d:Dk):MadeC (unitC d).L∧(unitC d).d.at_≤d.at_+9:=by
 have h:=curve_made d (x:=0) (y:=0) (dx:=10) (dy:=30) (least:=0) (by omega) (by omega) (by omega) (by omega) (by omega)
 unfold unitC
 exact h
theorem unitF_ok (d:Dk):(unitC d).d.at_≤d.at_+9∧MadeC (unitF d).1.tb∧(unitF d).1.rough.length≤2∧(unitF d).2.at_≤d.at_+20:=by
 have h:=unitC_ok d
 have h2:=unitR_ok d
 have h3:=unitE_at d
 rw [unitF_tb,unitF_rough,unitF_d]
 generalize unitR d=R at h2⊢
 generalize unitE d=E at h2 h3
 generalize unitC d=c at h h3⊢
 exact ⟨h.2,h.1,h2.1,by omega⟩
theorem ustF_at (d:Dk) (u:Ut):(ustF d u).2.at_≤d.at_+4:=by
 have a0:=nxtD_at d 5
 have a1:=nxtD_at (nxtD d 5) 7
 have a2:=nxtD_at (nxtD (nxtD d 5) 7) 2
 have a3:=nxtD_at (nxtD (nxtD (nxtD d 5) 7) 2) (flowsU u 1).1.length
 unfold ustF
 dsimp only
 split
 ·split
  ·dsimp only;omega
  ·dsimp only;omega
 ·dsimp only;omega
theorem un_ok:∀(n:Nat) (s:List Ut×List Us×Dk),(it unN n s).1.length=s.1.length+n∧(it unN n s).2.1.length=s.2.1.length+n∧(it unN n s).2.2.at_≤s.2.2.at_+24*n
 | 0,s=>⟨rfl,rfl,Nat.le_refl _⟩
 | n+1,s=>by
   have ih:=un_ok n (unN s)
   have e1:(unN s).1.length=s.1.length+1:=by simp [unN]
   have e2:(unN s).2.1.length=s.2.1.length+1:=by simp [unN]
   have e3:(unN s).2.2=(ustF (unitF s.2.2).2 (unitF s.2.2).1).2:=rfl
   have h1:=(unitF_ok s.2.2).2.2.2
   have h2:=ustF_at (unitF s.2.2).2 (unitF s.2.2).1
   unfold it
   rw [e1,e2,e3] at ih
   omega
theorem unitsF_ok (d:Dk) {m:Int} (hm:0≤m∧m≤1000):(unitsF d m).1.length≤m∧(unitsF d m).2.1.length=(unitsF d m).1.length∧(unitsF d m).2.2.at_≤d.at_+1+24*m:=by
 have r1:=nxt_lt d (n:=m+1) (by omega)
 have a1:=nxtD_at d (m+1)
 have h:=un_ok (nxt d (m+1)).toNat ([], [],nxtD d (m+1))
 unfold unitsF
 simp only [List.length_nil] at h
 generalize it unN (nxt d (m+1)).toNat ([], [],nxtD d (m+1))=W at h⊢
 omega
theorem call113 (d:Dk) (hd:d.at_≤960000000):PureCall Tryz.prog 113 [.pt 0 0 0] [.box (eDk 1 d)] ⟨.agg (eUt 0 (unitF d).1), [.box (eDk 1 (unitF d).2)], []⟩:=by
 have hok:=unitF_ok d
 refine pure_call mix Tryz.func113 fits113 rfl ?_
 conv=>whnf
 refine ⟨_,fun _=>call88 d 0 0 10 30 false (by omega) (by omega) (by omega) (by omega) (by omega), ?_⟩
 rw [show lst false=0 from rfl,show curveS d 0 0 10 30 0=unitC d from rfl]
 unfold unitF unitR unitE
 have hcl:=hok.2.1.len
 have hc0:=hok.1
 have hcl:(unitC d).L.length≤5:=hcl.2
 generalize unitC d=c at hc0 hcl⊢
 conv=>whnf
 refine ⟨_,fun _=>call_next 1 c.d 8 (by omega) (by omega), ?_⟩
 have r1:=nxt_lt c.d (n:=8) (by omega)
 have a1:=nxtD_at c.d 8
 generalize nxt c.d 8=n1 at r1⊢
 generalize nxtD c.d 8=e1 at a1⊢
 conv=>whnf
 refine ⟨_,fun _=>call_next 1 e1 3 (by omega) (by omega), ?_⟩
 have r2:=nxt_lt e1 (n:=3) (by omega)
 have a2:=nxtD_at e1 3
 generalize nxt e1 3=n2 at r2⊢
 generalize nxtD e1 3=e2 at a2⊢
 conv=>whnf
 refine ⟨_,fun _=>call_next 1 e2 3 (by omega) (by omega), ?_⟩
 have r3:=nxt_lt e2 (n:=3) (by omega)
 have a3:=nxtD_at e2 3
 generalize nxt e2 3=n3 at r3⊢
 generalize nxtD e2 3=e3 at a3⊢
 conv=>whnf
 refine ⟨_,fun _=>call_next 1 e3 12 (by omega) (by omega), ?_⟩
 have r4:=nxt_lt e3 (n:=12) (by omega)
 have a4:=nxtD_at e3 12
 generalize nxt e3 12=n4 at r4⊢
 generalize nxtD e3 12=e4 at a4⊢
 conv=>whnf
 refine ⟨rfl, ?_⟩
 conv=>whnf
 refine ⟨_,fun _=>call_next 1 e4 3 (by omega) (by omega), ?_⟩
 have r5:=nxt_lt e4 (n:=3) (by omega)
 have a5:=nxtD_at e4 3
 obtain ⟨m0,hm0⟩:∃m:Nat,(m:Int)=nxt e4 3:=⟨(nxt e4 3).toNat,by omega⟩
 rw [←hm0] at r5⊢
 rw [Int.toNat_natCast]
 generalize nxtD e4 3=e5 at a5⊢
 conv=>whnf
 refine ⟨?_, ?_⟩
 ·exact g0
 refine LSem.adoptF 48 3 1000000 71 2 2 _ rfl rfl rfl ?_
 refine LSem.loop (n:=43) mix (α:=Nat×List Bnd×Dk) (fun s=>s.1+s.2.1.length=m0∧it rghN s.1 s.2=it rghN m0 ([],e5)∧s.2.2.at_≤970000000+2*s.2.1.length)
  (fun s=> [(0, .pt 0 0 0),(2, .pt 32 0 0),(3, .pt 48 0 0),(4, .int .i64 s.1)])
  (fun s=> [(0, .box (eDk 1 s.2.2)),(32, .box [.nil 2, .int .i64 0, .int .i64 0, .nil 2, .int .i64 0, .int .i64 0]),(48, .box [.sl 0 2 c.L.length (fl ePt c.L), .int .i64 (1+n1), .int .i64 (1+n1+n4), .os 1000000, .int .i64 n2, .int .i64 n3]),
   (1000000, .row 0 71 2 s.2.1.length (fl eBnd s.2.1))]) (fun s=>s.1) (m0, [],e5) ?_ ?_ ?_
 ·exact ⟨rfl,rfl,by dsimp only;omega⟩
 ·refine ⟨rfl,rfl, ?_, ?_⟩
  all_goals exact ent
 ·intro s hs
  obtain ⟨m,l,e⟩:=s
  obtain ⟨k1,k2,k3⟩:=hs
  dsimp only at k1 k2 k3
  conv=>whnf
  refine ⟨trivial,fun hc=> ?_,fun hc=> ?_⟩
  ·replace hc:=of_decide_eq_true hc
   obtain ⟨m,rfl⟩:∃m',m=m'+1:=⟨m - 1,by
    have h:(0:Int)<m:=hc
    omega⟩
   have hst:it rghN m (l++ [⟨nxt e 16,nxt e 16+1+nxt (nxtD e 16) 5⟩],nxtD (nxtD e 16) 5)=it rghN m0 ([],e5):=k2
   conv=>whnf
   refine ⟨_,fun _=>call_next 1 e 16 (by omega) (by omega), ?_⟩
   have q1:=nxt_lt e (n:=16) (by omega)
   have b1:=nxtD_at e 16
   generalize nxt e 16=x1 at q1 hst⊢
   generalize nxtD e 16=e6 at b1 hst⊢
   conv=>whnf
   refine ⟨_,fun _=>call_next 1 e6 5 (by omega) (by omega), ?_⟩
   have q2:=nxt_lt e6 (n:=5) (by omega)
   have b2:=nxtD_at e6 5
   generalize nxt e6 5=x2 at q2 hst⊢
   generalize nxtD e6 5=e7 at b2 hst⊢
   have q:=fl_push eBnd l ⟨x1,x1+1+x2⟩
   have hxl:(l++ [(⟨x1,x1+1+x2⟩:Bnd)]).length=l.length+1:=by simp
   conv=>whnf
   refine ⟨rfl, ?_⟩
   conv=>whnf
   refine ⟨?_,(m,l++ [⟨x1,x1+1+x2⟩],e7),⟨?_,hst, ?_⟩, ?_,rfl,rfl, ?_, ?_⟩
   ·exact g0
   ·dsimp only;rw [hxl];omega
   ·dsimp only;rw [hxl];omega
   ·dsimp only;omega
   all_goals exact ent
  ·replace hc:=of_decide_eq_false hc
   have h0:m=0:=by
    have h:¬(0:Int)<m:=hc
    omega
   subst h0
   have hp:(l,e)=it rghN m0 ([],e5):=k2
   rw [←hp]
   conv=>whnf
   refine ⟨?_, [], ?_⟩
   ·exact g0
   conv=>whnf
   refine ⟨rfl, ?_, ?_,trivial⟩
   all_goals exact ent
theorem call114 (τ:Nat) (d:Dk) (u:Ut) (hd:d.at_≤970000000) (hl:u.rough.length≤4611686018427387904):PureCall Tryz.prog 114 [.pt 0 0 0, .agg (eUt τ u)] [.box (eDk 1 d)] ⟨.agg (eUs (ustF d u).1), [.box (eDk 1 (ustF d u).2)], []⟩:=by
 refine pure_call mix Tryz.func114 fits114 rfl ?_
 unfold ustF
 dsimp only
 conv=>whnf
 refine ⟨_,fun _=>call_next 1 d 5 (by omega) (by omega), ?_⟩
 have r1:=nxt_lt d (n:=5) (by omega)
 have a1:=nxtD_at d 5
 generalize nxt d 5=n1 at r1⊢
 generalize nxtD d 5=e1 at a1⊢
 conv=>whnf
 refine ⟨_,fun _=>call_next 1 e1 7 (by omega) (by omega), ?_⟩
 have a2:=nxtD_at e1 7
 generalize nxtD e1 7=e2 at a2⊢
 generalize hB:(nxt e1 7==6)=B
 conv=>whnf
 refine ⟨_,fun _=>call170 _ u 1 hl, ?_⟩
 have hfl:=flowsU_len u 1
 generalize (flowsU u 1).2=E
 generalize (flowsU u 1).1=l at hfl⊢
 rw [hB]
 conv=>whnf
 refine ⟨_,fun _=>call_next 1 e2 2 (by omega) (by omega), ?_⟩
 have a3:=nxtD_at e2 2
 by_cases h1:(0:Int)<l.length
 case neg=>
  rw [if_neg (fun h=>h1 (by omega)),decide_eq_false h1]
  conv=>whnf
  refine ⟨?_,fun hc=>(by cases hc),fun _=> ?_⟩
  ·exact g0
  conv=>whnf
  refine ⟨?_, [], ?_⟩
  ·exact g0
  conv=>whnf
  refine ⟨rfl, ?_, ?_,trivial⟩
  all_goals exact ent
 rw [decide_eq_true h1]
 cases B with
 | true=>
   rw [if_neg (fun h=>by cases h.2)]
   conv=>whnf
   refine ⟨?_,fun hc=>(by cases hc),fun _=> ?_⟩
   ·exact g0
   conv=>whnf
   refine ⟨?_, [], ?_⟩
   ·exact g0
   conv=>whnf
   refine ⟨rfl, ?_, ?_,trivial⟩
   all_goals exact ent
 | false=>
   rw [if_pos ⟨by omega,rfl⟩]
   generalize nxt e2 2=n3
   generalize nxtD e2 2=e3 at a3⊢
   conv=>whnf
   refine ⟨?_,fun hc=> ?_,fun hc=> ?_⟩
   ·exact g0
   ·have hc:n3=0:=beq_iff_eq.1 hc
    rw [if_pos hc]
    conv=>whnf
    refine ⟨_,fun _=>call_next 1 e3 l.length (by omega) (by omega), ?_⟩
    have r4:=nxt_lt e3 h1
    generalize nxt e3 l.length=n4 at r4⊢
    generalize nxtD e3 l.length=e4
    conv=>whnf
    refine ⟨?_, [], ?_⟩
    ·exact g0
    conv=>whnf
    refine ⟨rfl, ?_, ?_,trivial⟩
    all_goals exact ent
   ·have hc:¬n3=0:=beq_eq_false_iff_ne.1 hc
    rw [if_neg hc]
    conv=>whnf
    refine ⟨?_, [], ?_⟩
    ·exact g0
    conv=>whnf
    refine ⟨rfl, ?_, ?_,trivial⟩
    all_goals exact ent
theorem call49 (d:Dk) (m:Int) (hd:d.at_≤950000000) (hm:0≤m∧m≤1000):PureCall Tryz.prog 49 [.pt 0 0 0, .int .i64 m] [.box (eDk 1 d)]
  ⟨.tup [.sl 0 6 (unitsF d m).1.length (fl (eUt 0) (unitsF d m).1), .sl 0 3 (unitsF d m).2.1.length (fl eUs (unitsF d m).2.1)], [.box (eDk 1 (unitsF d m).2.2)], []⟩:=by
 refine pure_call mix Tryz.func49 fits49 rfl ?_
 conv=>whnf
 refine ⟨_,fun _=>call_next 1 d (m+1) (by omega) (by omega), ?_⟩
 have r0:=nxt_lt d (n:=m+1) (by omega)
 have a0:=nxtD_at d (m+1)
 unfold unitsF
 obtain ⟨m0,hm0⟩:∃m0:Nat,(m0:Int)=nxt d (m+1):=⟨(nxt d (m+1)).toNat,by omega⟩
 rw [←hm0] at r0⊢
 rw [Int.toNat_natCast]
 generalize nxtD d (m+1)=d0 at a0⊢
 conv=>whnf
 refine ⟨?_, ?_⟩
 ·exact g0
 refine LSem.adopt 6 1000000 243 6 6 rfl rfl ?_
 refine LSem.adopt 7 1000001 246 3 3 rfl rfl ?_
 refine LSem.loop (n:=32) mix (α:=Nat×List Ut×List Us×Dk) (fun s=>s.1+s.2.1.length=m0∧s.2.2.1.length=s.2.1.length∧it unN s.1 s.2=it unN m0 ([], [],d0)∧s.2.2.2.at_≤950000001+24*s.2.1.length)
  (fun s=> [(0, .pt 0 0 0),(6, .os 1000000),(7, .os 1000001),(8, .int .i64 s.1)])
  (fun s=> [(0, .box (eDk 1 s.2.2.2)),(1000000, .row 0 243 6 s.2.1.length (fl (eUt 0) s.2.1)),(1000001, .row 0 246 3 s.2.2.1.length (fl eUs s.2.2.1))]) (fun s=>s.1) (m0, [], [],d0) ?_ ?_ ?_
 ·exact ⟨rfl,rfl,rfl,by dsimp only;omega⟩
 ·refine ⟨rfl,rfl, ?_, ?_⟩
  all_goals exact ent
 ·intro s hs
  obtain ⟨n,l,y,e⟩:=s
  obtain ⟨k1,k2,k3,k4⟩:=hs
  dsimp only at k1 k2 k3 k4
  conv=>whnf
  refine ⟨trivial,fun hc=> ?_,fun hc=> ?_⟩
  ·replace hc:=of_decide_eq_true hc
   obtain ⟨n,rfl⟩:∃n',n=n'+1:=⟨n - 1,by
    have h:(0:Int)<n:=hc
    omega⟩
   have hst:it unN n (l++ [(unitF e).1],y++ [(ustF (unitF e).2 (unitF e).1).1],(ustF (unitF e).2 (unitF e).1).2)=it unN m0 ([], [],d0):=k3
   have h1:=unitF_ok e
   conv=>whnf
   refine ⟨_,fun _=>call113 e (by omega), ?_⟩
   generalize unitF e=U at h1 hst⊢
   obtain ⟨u,e1⟩:=U
   obtain ⟨_,h2,h3,h4⟩:=h1
   dsimp only at h2 h3 h4 hst
   have h5:=ustF_at e1 u
   have q:=fl_push (eUt 0) l u
   have hxl:(l++ [u]).length=l.length+1:=by simp
   conv=>whnf
   refine ⟨_,fun _=>call114 _ e1 u (by omega) (by omega), ?_⟩
   generalize ustF e1 u=S at h5 hst⊢
   have q2:=fl_push eUs y S.1
   have hyl:(y++ [S.1]).length=y.length+1:=by simp
   conv=>whnf
   refine ⟨rfl, ?_⟩
   conv=>whnf
   refine ⟨?_,(n,l++ [u],y++ [S.1],S.2),⟨?_, ?_,hst, ?_⟩, ?_,rfl,rfl, ?_, ?_⟩
   ·exact g0
   ·dsimp only;rw [hxl];omega
   ·dsimp only;rw [hxl,hyl];omega
   ·dsimp only;rw [hxl];omega
   ·dsimp only;omega
   all_goals exact ent
  ·replace hc:=of_decide_eq_false hc
   have h0:n=0:=by
    have h:¬(0:Int)<n:=hc
    omega
   subst h0
   have hp:(l,y,e)=it unN m0 ([], [],d0):=k3
   rw [←hp]
   conv=>whnf
   refine ⟨?_, [], ?_⟩
   ·exact g0
   conv=>whnf
   refine ⟨rfl, ?_, ?_,trivial⟩
   all_goals exact ent
def c115L1:C:=(.seq (sr [km 16 5,kb 17 .geq 16 (cn 0)] (.cond 17 .skip (.exit 0))) (.seq (.block 1 (.seq (.drw [kf 20 0 3,kl 21 20,km 22 4,km 23 0,kc 24 88 [23,(cn 0),(cn 0),(cn 6),(cn 20),cf],kk 25 (.bd [z0,(.nil 2)] [(0,1,22),(1,1,24)]),kk 26 (.bs 159 2 [25]),kk 27 (.app 159 2 32 21 26),kf 28 0 3,kx 1 28 27] (pl [(0,[2,3,4,5,6],20),(1,[2,3,4,5,6],21),(2,[3,4],22)])) (.reg [km 29 4,km 30 0,kc 31 12 [30,(cn 40)],kb 32 .add (cn 1) 31,kb 33 .add 29 32,km 4 33]))) (.reg [km 18 5,kb 19 .sub 18 (cn 1),km 5 19])))
def c115:C:=(sr [kk 2 (.al [(.nil 2),z0,z0])] (sr [km 6 0,kc 7 12 [6,(cn 12)],km 8 0,kc 9 12 [8,(cn 6)],kk 10 (.bd [(.nil 2),z0,z0] [(1,1,7),(2,1,9)]),kk 3 (.al [(.nil 2),z0,z0]),kx 3 3 10] (sr [km 11 0,kc 12 12 [11,(cn 40)],kb 13 .add (cn 90) 12,km 4 13] (.seq (sr [km 14 0,kc 15 12 [14,(cn 3)],km 5 15] (.block 0 (.loop c115L1))) (sr [kt 34 3 3,kx 3 2 34] .ret)))))
theorem fits115:fits Tryz.prog false Tryz.f115 1 35 [(2,some (3,true))]=some c115.er:=by kernel_rfl
def c50L1:C:=(.seq (sr [km 14 8,kb 15 .gtr 14 (cn 0)] (.cond 15 .skip (.exit 0))) (.seq (.block 1 (sr [km 18 0,kc 19 115 [18],kk 9 (.al [(.nil 2),z0,z0]),kx 3 9 19] (.drw [km 20 6,kt 21 3 9,kk 22 (.bs 162 3 [21]),kk 23 (.app 162 3 40 20 22),km 24 7,km 25 0,kf 26 1 9,kl 27 26,kb 28 .add 27 (cn 1),kc 29 12 [25,28],km 30 0,kc 31 12 [30,(cn 7)],kb 32 .eql 31 (cn 6),kk 33 (.bd [z0,(.bool false)] [(0,1,29),(1,1,32)]),kk 34 (.bs 250 2 [33]),kk 35 (.app 250 2 16 24 34),km 6 23,km 7 35] (pl [(0,[1,2,4,5,6,7,8,10],20),(1,[4,5,6,7,8,10],21),(2,[4,5,6,7,8,10],22),(3,[4,5,6,7,8,10],23),(4,[5,6,7,8,9,10,11,12,13,14],24),(5,[6,7,8,10],25),(6,[10],26),(7,[10],27),(8,[10],28),(9,[10],29)])))) (.reg [km 16 8,kb 17 .sub 16 (cn 1),km 8 17])))
def c50:C:=(sr [kk 4 (.mv (.c (.nil 3))),kk 5 (.mv (.c (.nil 2)))] (sr [kk 6 (.mv (.c (.nil 3)))] (sr [kk 7 (.mv (.c (.nil 2)))] (.seq (sr [km 10 0,km 11 1,kb 12 .add 11 (cn 1),kc 13 12 [10,12],km 8 13] (.block 0 (.loop c50L1))) (sr [km 36 6,km 37 7,km 4 36,km 5 37] .ret)))))
theorem fits50:fits Tryz.prog false Tryz.f50 2 38 [(4,none),(5,none)]=some c50.er:=by kernel_rfl
def c8:C:=(sr [kk 2 (.al [(.nil 2),z0,z0,z0,z0,z0,(.nil 6),(.nil 3),z0]),kk 3 (.al [z0,z0,(.nil 3),(.nil 2)])] (sr [km 8 0,kc 9 38 [8],km 10 0,kc 11 12 [10,(cn 4)],kb 12 .add (cn 1) 11,kk 13 (.bd [(.nil 2),z0,z0,z0,z0,z0,(.nil 6),(.nil 3),z0] [(0,6,9),(8,1,12)]),kk 4 (.al [(.nil 2),z0,z0,z0,z0,z0,(.nil 6),(.nil 3),z0]),kx 9 4 13] (sr [kk 5 (.al [z0,z0,(.nil 3),(.nil 2)])] (sr [km 15 0,kc 16 49 [15,(cn 2)],km 14 16,ke 17 14 0,ke 18 14 1,kf 19 6 4,kx 1 19 17,kf 20 2 5,kx 1 20 18] (sr [km 22 0,kc 23 50 [22,(cn 2)],km 21 23,ke 24 21 0,ke 25 21 1,kf 26 7 4,kx 1 26 24,kf 27 3 5,kx 1 27 25] (sr [kf 29 0 4,kt 30 6 29,kf 31 0 4,kf 32 5 31,kl 33 32,kc 34 51 [30,33],km 28 34,ke 35 28 0,ke 36 28 1,km 6 35,km 7 36] (sr [km 37 0,km 38 6,kb 39 .add 38 (cn 1),kc 40 12 [37,39],kf 41 0 5,kx 1 41 40] (sr [km 42 0,kc 43 12 [42,(cn 30)],kf 44 1 5,kx 1 44 43] (.seq (.drw [kt 45 9 4,kt 46 4 5,kx 9 2 45,kx 4 3 46] [(0,1,45),(1,2,46)]) .ret)))))))))
theorem fits8:fits Tryz.prog false Tryz.f8 1 47 [(2,some (9,true)),(3,some (4,true))]=some c8.er:=by kernel_rfl
structure Gr where
 lv:Int
 c:List Pt
 deriving Inhabited
structure Ga where
 rt:List Gr
 most:Int
 move:Int
 deriving Inhabited
structure Gs where
 op:Int
 jam:Bool
 deriving Inhabited
def eGr (τ:Nat) (r:Gr):List PV:= [.int .i64 r.lv, .sl τ 2 r.c.length (fl ePt r.c)]
def eGa (τ:Nat) (g:Ga):List PV:= [.sl τ 2 g.rt.length (fl (eGr 0) g.rt), .int .i64 g.most, .int .i64 g.move]
def eGs (s:Gs):List PV:= [.int .i64 s.op, .bool s.jam]
def gtN (s:List Gr×Int×Dk):List Gr×Int×Dk:=(s.1++ [⟨s.2.1,(curveS s.2.2 0 0 6 20 0).L⟩],s.2.1+(1+nxt (curveS s.2.2 0 0 6 20 0).d 40),nxtD (curveS s.2.2 0 0 6 20 0).d 40)
def gateE (d:Dk):Dk:=nxtD (nxtD d 12) 6
def gateR (d:Dk):List Gr×Int×Dk:=it gtN ((nxt (nxtD (gateE d) 40) 3).toNat+1) ([],90+nxt (gateE d) 40,nxtD (nxtD (gateE d) 40) 3)
def gateF (d:Dk):Ga×Dk:=(⟨(gateR d).1,nxt d 12,nxt (nxtD d 12) 6⟩,(gateR d).2.2)
def gsN (s:List Ga×List Gs×Dk):List Ga×List Gs×Dk:=
 (s.1++ [(gateF s.2.2).1],s.2.1++ [⟨nxt (gateF s.2.2).2 ((gateF s.2.2).1.most+1),nxt (nxtD (gateF s.2.2).2 ((gateF s.2.2).1.most+1)) 7==6⟩],nxtD (nxtD (gateF s.2.2).2 ((gateF s.2.2).1.most+1)) 7)
def gatesF (d:Dk) (m:Int):List Ga×List Gs×Dk:=it gsN (nxt d (m+1)).toNat ([], [],nxtD d (m+1))
theorem gt_ok:∀(n:Nat) (s:List Gr×Int×Dk),(it gtN n s).1.length=s.1.length+n∧(it gtN n s).2.2.at_≤s.2.2.at_+10*n
 | 0,s=>⟨rfl,Nat.le_refl _⟩
 | n+1,s=>by
   have ih:=gt_ok n (gtN s)
   have e1:(gtN s).1.length=s.1.length+1:=by simp [gtN]
   have e2:(gtN s).2.2=nxtD (curveS s.2.2 0 0 6 20 0).d 40:=by unfold gtN;dsimp only
   have h:=(curve_made s.2.2 (x:=0) (y:=0) (dx:=6) (dy:=20) (least:=0) (by omega) (by omega) (by omega) (by omega) (by omega)).2
   have a:=nxtD_at (curveS s.2.2 0 0 6 20 0).d 40
   unfold it
   rw [e1,e2] at ih
   generalize it gtN n (gtN s)=W at ih⊢
   generalize nxtD (curveS s.2.2 0 0 6 20 0).d 40=X at ih a
   generalize curveS s.2.2 0 0 6 20 0=Y at h a
   omega
theorem gateE_at (d:Dk):(gateE d).at_≤d.at_+2:=by
 unfold gateE
 have a1:=nxtD_at d 12
 generalize nxtD d 12=e1 at a1⊢
 have a2:=nxtD_at e1 6
 omega
theorem gateR_ok (d:Dk):(gateR d).2.2.at_≤d.at_+40:=by
 have h:=(gt_ok ((nxt (nxtD (gateE d) 40) 3).toNat+1) ([],90+nxt (gateE d) 40,nxtD (nxtD (gateE d) 40) 3)).2
 have hu:gateR d=it gtN ((nxt (nxtD (gateE d) 40) 3).toNat+1) ([],90+nxt (gateE d) 40,nxtD (nxtD (gateE d) 40) 3):=by unfold gateR;dsimp only
 rw [←hu] at h
 have h0:=gateE_at d
 clear hu
 dsimp only at h
 generalize gateR d=R at h⊢
 generalize gateE d=e at h h0
 have a1:=nxtD_at e 40
 generalize nxtD e 40=e1 at a1 h
 have r2:=nxt_lt e1 (n:=3) (by omega)
 have a2:=nxtD_at e1 3
 generalize nxt e1 3=x at r2 h
 generalize nxtD e1 3=e2 at a2 h
 omega
theorem gateF_d (d:Dk):(gateF d).2=(gateR d).2.2:=by unfold gateF;dsimp only
theorem gateF_most (d:Dk):(gateF d).1.most=nxt d 12:=by unfold gateF;dsimp only
theorem gateF_ok (d:Dk):(gateF d).2.at_≤d.at_+40∧0≤(gateF d).1.most∧(gateF d).1.most≤11:=by
 have h:=gateR_ok d
 have r:=nxt_lt d (n:=12) (by omega)
 rw [gateF_d,gateF_most]
 generalize gateR d=R at h⊢
 omega
theorem gs_ok:∀(n:Nat) (s:List Ga×List Gs×Dk),(it gsN n s).1.length=s.1.length+n∧(it gsN n s).2.1.length=s.2.1.length+n∧(it gsN n s).2.2.at_≤s.2.2.at_+42*n
 | 0,s=>⟨rfl,rfl,Nat.le_refl _⟩
 | n+1,s=>by
   have ih:=gs_ok n (gsN s)
   have e1:(gsN s).1.length=s.1.length+1:=by simp [gsN]
   have e2:(gsN s).2.1.length=s.2.1.length+1:=by simp [gsN]
   have e3:(gsN s).2.2=nxtD (nxtD (gateF s.2.2).2 ((gateF s.2.2).1.most+1)) 7:=by unfold gsN;dsimp only
   have h1:=(gateF_ok s.2.2).1
   have a1:=nxtD_at (gateF s.2.2).2 ((gateF s.2.2).1.most+1)
   have a2:=nxtD_at (nxtD (gateF s.2.2).2 ((gateF s.2.2).1.most+1)) 7
   unfold it
   rw [e1,e2,e3] at ih
   generalize it gsN n (gsN s)=W at ih⊢
   generalize nxtD (nxtD (gateF s.2.2).2 ((gateF s.2.2).1.most+1)) 7=X at ih a2
   generalize nxtD (gateF s.2.2).2 ((gateF s.2.2).1.most+1)=Y at a1 a2
   generalize gateF s.2.2=Z at h1 a1
   omega
theorem gatesF_ok (d:Dk) {m:Int} (hm:0≤m∧m≤1000):(gatesF d m).1.length≤m∧(gatesF d m).2.1.length=(gatesF d m).1.length∧(gatesF d m).2.2.at_≤d.at_+1+42*m:=by
 have r1:=nxt_lt d (n:=m+1) (by omega)
 have a1:=nxtD_at d (m+1)
 have h:=gs_ok (nxt d (m+1)).toNat ([], [],nxtD d (m+1))
 unfold gatesF
 simp only [List.length_nil] at h
 generalize it gsN (nxt d (m+1)).toNat ([], [],nxtD d (m+1))=W at h⊢
 omega
theorem call115 (d:Dk) (hd:d.at_≤960000000):PureCall Tryz.prog 115 [.pt 0 0 0] [.box (eDk 1 d)] ⟨.agg (eGa 0 (gateF d).1), [.box (eDk 1 (gateF d).2)], []⟩:=by
 refine pure_call mix Tryz.func115 fits115 rfl ?_
 unfold gateF gateR gateE
 dsimp only
 conv=>whnf
 refine ⟨_,fun _=>call_next 1 d 12 (by omega) (by omega), ?_⟩
 have r1:=nxt_lt d (n:=12) (by omega)
 have a1:=nxtD_at d 12
 generalize nxt d 12=n1 at r1⊢
 generalize nxtD d 12=e1 at a1⊢
 conv=>whnf
 refine ⟨_,fun _=>call_next 1 e1 6 (by omega) (by omega), ?_⟩
 have r2:=nxt_lt e1 (n:=6) (by omega)
 have a2:=nxtD_at e1 6
 generalize nxt e1 6=n2 at r2⊢
 generalize nxtD e1 6=e2 at a2⊢
 conv=>whnf
 refine ⟨_,fun _=>call_next 1 e2 40 (by omega) (by omega), ?_⟩
 have r3:=nxt_lt e2 (n:=40) (by omega)
 have a3:=nxtD_at e2 40
 generalize nxt e2 40=n3 at r3⊢
 generalize nxtD e2 40=e3 at a3⊢
 conv=>whnf
 refine ⟨_,fun _=>call_next 1 e3 3 (by omega) (by omega), ?_⟩
 have r4:=nxt_lt e3 (n:=3) (by omega)
 have a4:=nxtD_at e3 3
 obtain ⟨m0,hm0⟩:∃m:Nat,(m:Int)=nxt e3 3:=⟨(nxt e3 3).toNat,by omega⟩
 rw [←hm0] at r4⊢
 rw [Int.toNat_natCast]
 generalize nxtD e3 3=e4 at a4⊢
 obtain ⟨R0,hR0⟩:∃R0,R0=it gtN (m0+1) ([],90+n3,e4):=⟨_,rfl⟩
 rw [←hR0]
 conv=>whnf
 refine ⟨?_, ?_⟩
 ·exact g0
 refine LSem.adoptF 48 0 1000000 159 2 2 _ rfl rfl rfl ?_
 refine LSem.loop (n:=35) mix (α:=Nat×List Gr×Int×Dk) (fun s=>s.1+s.2.1.length=m0+1∧it gtN s.1 s.2=R0∧s.2.2.2.at_≤970000000+10*s.2.1.length∧(0≤s.2.2.1∧s.2.2.1≤200+40*s.2.1.length))
  (fun s=> [(0, .pt 0 0 0),(2, .pt 32 0 0),(3, .pt 48 0 0),(4, .int .i64 s.2.2.1),(5, .int .i64 ((s.1:Int) - 1))])
  (fun s=> [(0, .box (eDk 1 s.2.2.2)),(32, .box [.nil 2, .int .i64 0, .int .i64 0]),(48, .box [.os 1000000, .int .i64 n1, .int .i64 n2]),(1000000, .row 0 159 2 s.2.1.length (fl (eGr 0) s.2.1))]) (fun s=>s.1) (m0+1, [],90+n3,e4) ?_ ?_ ?_
 ·exact ⟨rfl,hR0.symm,by dsimp only;omega,by dsimp only;simp only [List.length_nil];omega⟩
 ·refine ⟨rfl,rfl, ?_, ?_⟩
  all_goals exact ent
 ·intro s hs
  obtain ⟨m,l,lv,e⟩:=s
  obtain ⟨k1,k2,k3,k4⟩:=hs
  dsimp only at k1 k2 k3 k4
  conv=>whnf
  refine ⟨trivial,fun hc=> ?_,fun hc=> ?_⟩
  ·replace hc:=of_decide_eq_true hc
   obtain ⟨m,rfl⟩:∃m',m=m'+1:=⟨m - 1,by
    have h:(0:Int)≤(m:Int) - 1:=hc
    omega⟩
   have hst:it gtN m (l++ [⟨lv,(curveS e 0 0 6 20 0).L⟩],lv+(1+nxt (curveS e 0 0 6 20 0).d 40),nxtD (curveS e 0 0 6 20 0).d 40)=R0:=k2
   have hcm:=(curve_made e (x:=0) (y:=0) (dx:=6) (dy:=20) (least:=0) (by omega) (by omega) (by omega) (by omega) (by omega))
   conv=>whnf
   refine ⟨_,fun _=>call88 e 0 0 6 20 false (by omega) (by omega) (by omega) (by omega) (by omega), ?_⟩
   rw [show lst false=0 from rfl]
   generalize curveS e 0 0 6 20 0=c at hst hcm⊢
   obtain ⟨hcm,hcd⟩:=hcm
   have hcl:=hcm.len
   have q:=fl_push (eGr 0) l ⟨lv,c.L⟩
   have hxl:(l++ [(⟨lv,c.L⟩:Gr)]).length=l.length+1:=by simp
   conv=>whnf
   refine ⟨rfl, ?_⟩
   conv=>whnf
   refine ⟨_,fun _=>call_next 1 c.d 40 (by omega) (by omega), ?_⟩
   have r5:=nxt_lt c.d (n:=40) (by omega)
   have a5:=nxtD_at c.d 40
   generalize nxt c.d 40=n5 at r5 hst⊢
   generalize nxtD c.d 40=e5 at a5 hst⊢
   conv=>whnf
   refine ⟨?_,(m,l++ [⟨lv,c.L⟩],lv+(1+n5),e5),⟨?_,hst, ?_, ?_⟩, ?_,rfl,rfl, ?_, ?_⟩
   ·exact g0
   ·dsimp only;rw [hxl];omega
   ·dsimp only;rw [hxl];omega
   ·dsimp only;rw [hxl];omega
   ·dsimp only;omega
   all_goals exact ent
  ·replace hc:=of_decide_eq_false hc
   have h0:m=0:=by
    have h:¬(0:Int)≤(m:Int) - 1:=hc
    omega
   subst h0
   have hp:(l,lv,e)=R0:=k2
   rw [←hp]
   conv=>whnf
   refine ⟨?_, [], ?_⟩
   ·exact g0
   conv=>whnf
   refine ⟨rfl, ?_, ?_,trivial⟩
   all_goals exact ent
theorem call50 (d:Dk) (m:Int) (hd:d.at_≤950000000) (hm:0≤m∧m≤1000):PureCall Tryz.prog 50 [.pt 0 0 0, .int .i64 m] [.box (eDk 1 d)]
  ⟨.tup [.sl 0 3 (gatesF d m).1.length (fl (eGa 0) (gatesF d m).1), .sl 0 2 (gatesF d m).2.1.length (fl eGs (gatesF d m).2.1)], [.box (eDk 1 (gatesF d m).2.2)], []⟩:=by
 refine pure_call mix Tryz.func50 fits50 rfl ?_
 conv=>whnf
 refine ⟨_,fun _=>call_next 1 d (m+1) (by omega) (by omega), ?_⟩
 have r0:=nxt_lt d (n:=m+1) (by omega)
 have a0:=nxtD_at d (m+1)
 unfold gatesF
 obtain ⟨m0,hm0⟩:∃m0:Nat,(m0:Int)=nxt d (m+1):=⟨(nxt d (m+1)).toNat,by omega⟩
 rw [←hm0] at r0⊢
 rw [Int.toNat_natCast]
 generalize nxtD d (m+1)=d0 at a0⊢
 obtain ⟨R0,hR0⟩:∃R0,R0=it gsN m0 ([], [],d0):=⟨_,rfl⟩
 rw [←hR0]
 conv=>whnf
 refine ⟨?_, ?_⟩
 ·exact g0
 refine LSem.adopt 6 1000000 162 3 3 rfl rfl ?_
 refine LSem.adopt 7 1000001 250 2 2 rfl rfl ?_
 refine LSem.loop (n:=38) mix (α:=Nat×List Ga×List Gs×Dk) (fun s=>s.1+s.2.1.length=m0∧s.2.2.1.length=s.2.1.length∧it gsN s.1 s.2=R0∧s.2.2.2.at_≤950000001+42*s.2.1.length)
  (fun s=> [(0, .pt 0 0 0),(6, .os 1000000),(7, .os 1000001),(8, .int .i64 s.1)])
  (fun s=> [(0, .box (eDk 1 s.2.2.2)),(1000000, .row 0 162 3 s.2.1.length (fl (eGa 0) s.2.1)),(1000001, .row 0 250 2 s.2.2.1.length (fl eGs s.2.2.1))]) (fun s=>s.1) (m0, [], [],d0) ?_ ?_ ?_
 ·exact ⟨rfl,rfl,hR0.symm,by dsimp only;omega⟩
 ·refine ⟨rfl,rfl, ?_, ?_⟩
  all_goals exact ent
 ·intro s hs
  obtain ⟨n,l,y,e⟩:=s
  obtain ⟨k1,k2,k3,k4⟩:=hs
  dsimp only at k1 k2 k3 k4
  conv=>whnf
  refine ⟨trivial,fun hc=> ?_,fun hc=> ?_⟩
  ·replace hc:=of_decide_eq_true hc
   obtain ⟨n,rfl⟩:∃n',n=n'+1:=⟨n - 1,by
    have h:(0:Int)<n:=hc
    omega⟩
   have hst:it gsN n (l++ [(gateF e).1],y++ [⟨nxt (gateF e).2 ((gateF e).1.most+1),nxt (nxtD (gateF e).2 ((gateF e).1.most+1)) 7==6⟩],nxtD (nxtD (gateF e).2 ((gateF e).1.most+1)) 7)=R0:=k3
   have h1:=gateF_ok e
   conv=>whnf
   refine ⟨_,fun _=>call115 e (by omega), ?_⟩
   generalize gateF e=U at h1 hst⊢
   obtain ⟨u,e1⟩:=U
   dsimp only at h1 hst
   have q:=fl_push (eGa 0) l u
   have hxl:(l++ [u]).length=l.length+1:=by simp
   conv=>whnf
   refine ⟨_,fun _=>call_next 1 e1 (u.most+1) (by omega) (by omega), ?_⟩
   have a1:=nxtD_at e1 (u.most+1)
   generalize nxt e1 (u.most+1)=n1 at hst⊢
   generalize nxtD e1 (u.most+1)=e2 at a1 hst⊢
   conv=>whnf
   refine ⟨_,fun _=>call_next 1 e2 7 (by omega) (by omega), ?_⟩
   have a2:=nxtD_at e2 7
   have hB:(nxt e2 7==6)=(nxt e2 7==6):=rfl
   generalize nxtD e2 7=e3 at a2 hst⊢
   generalize nxt e2 7=n2 at hst⊢
   have q2:=fl_push eGs y ⟨n1,n2==6⟩
   have hyl:(y++ [(⟨n1,n2==6⟩:Gs)]).length=y.length+1:=by simp
   conv=>whnf
   refine ⟨rfl, ?_⟩
   conv=>whnf
   refine ⟨?_,(n,l++ [u],y++ [⟨n1,n2==6⟩],e3),⟨?_, ?_,hst, ?_⟩, ?_,rfl,rfl, ?_, ?_⟩
   ·exact g0
   ·dsimp only;rw [hxl];omega
   ·dsimp only;rw [hxl,hyl];omega
   ·dsimp only;rw [hxl];omega
   ·dsimp only;omega
   all_goals exact ent
  ·replace hc:=of_decide_eq_false hc
   have h0:n=0:=by
    have h:¬(0:Int)<n:=hc
    omega
   subst h0
   have hp:(l,y,e)=R0:=k3
   rw [←hp]
   conv=>whnf
   refine ⟨?_, [], ?_⟩
   ·exact g0
   conv=>whnf
   refine ⟨rfl, ?_, ?_,trivial⟩
   all_goals exact ent
structure Dm where
 r:Rv
 us:List Ut
 gs:List Ga
 grain:Int
 deriving Inhabited
structure Ds where
 vol:Int
 rel:Int
 us:List Us
 gs:List Gs
 deriving Inhabited
def eDm (τ:Nat) (x:Dm):List PV:= [.sl τ 2 x.r.st.length (fl ePt x.r.st), .int .i64 x.r.dead, .int .i64 x.r.low, .int .i64 x.r.full, .int .i64 x.r.sur, .int .i64 x.r.crest,
 .sl τ 6 x.us.length (fl (eUt 0) x.us), .sl τ 3 x.gs.length (fl (eGa 0) x.gs), .int .i64 x.grain]
def eDs (τ:Nat) (s:Ds):List PV:= [.int .i64 s.vol, .int .i64 s.rel, .sl τ 3 s.us.length (fl eUs s.us), .sl τ 2 s.gs.length (fl eGs s.gs)]
def damF (d:Dk):Dm×Ds×Dk:=
 let R:=resF d
 let U:=unitsF (nxtD R.2 4) 2
 let G:=gatesF U.2.2 2
 let v:=(volF R.1 R.1.crest).1+1
 (⟨R.1,U.1,G.1,1+nxt R.2 4⟩,⟨nxt G.2.2 v,nxt (nxtD G.2.2 v) 30,U.2.1,G.2.1⟩,nxtD (nxtD G.2.2 v) 30)
theorem damF_at (d:Dk):(damF d).2.2.at_≤d.at_+200:=by
 unfold damF
 dsimp only
 have h1:=resF_at d
 generalize resF d=R at h1⊢
 have a1:=nxtD_at R.2 4
 generalize nxtD R.2 4=e at a1⊢
 have h2:=(unitsF_ok e (m:=2) (by omega)).2.2
 generalize unitsF e 2=U at h2⊢
 have h3:=(gatesF_ok U.2.2 (m:=2) (by omega)).2.2
 generalize gatesF U.2.2 2=G at h3⊢
 have a2:=nxtD_at G.2.2 ((volF R.1 R.1.crest).1+1)
 generalize nxtD G.2.2 ((volF R.1 R.1.crest).1+1)=e2 at a2⊢
 have a3:=nxtD_at e2 30
 omega
theorem call8 (d:Dk) (hd:d.at_≤940000000):PureCall Tryz.prog 8 [.pt 0 0 0] [.box (eDk 1 d)] ⟨.tup [.agg (eDm 0 (damF d).1), .agg (eDs 0 (damF d).2.1)], [.box (eDk 1 (damF d).2.2)], []⟩:=by
 refine pure_call mix Tryz.func8 fits8 rfl ?_
 unfold damF
 dsimp only
 conv=>whnf
 refine ⟨_,fun _=>call38 d (by omega), ?_⟩
 have h1:=resF_at d
 generalize resF d=R at h1⊢
 obtain ⟨r,e0⟩:=R
 dsimp only at h1⊢
 conv=>whnf
 refine ⟨_,fun _=>call_next 1 e0 4 (by omega) (by omega), ?_⟩
 have r1:=nxt_lt e0 (n:=4) (by omega)
 have a1:=nxtD_at e0 4
 generalize nxt e0 4=n1 at r1⊢
 generalize nxtD e0 4=e at a1⊢
 conv=>whnf
 refine ⟨_,fun _=>call49 e 2 (by omega) (by omega), ?_⟩
 have h2:=unitsF_ok e (m:=2) (by omega)
 generalize unitsF e 2=U at h2⊢
 obtain ⟨us,uss,e1⟩:=U
 dsimp only at h2⊢
 conv=>whnf
 refine ⟨_,fun _=>call50 e1 2 (by omega) (by omega), ?_⟩
 have h3:=gatesF_ok e1 (m:=2) (by omega)
 generalize gatesF e1 2=G at h3⊢
 obtain ⟨gs,gss,e2⟩:=G
 dsimp only at h3⊢
 conv=>whnf
 refine ⟨_,fun _=>call51 _ r r.crest, ?_⟩
 have hv:=volF_rng r r.crest
 generalize (volF r r.crest).2=ev
 generalize (volF r r.crest).1=v at hv⊢
 conv=>whnf
 refine ⟨_,fun _=>call_next 1 e2 (v+1) (by omega) (by omega), ?_⟩
 have a4:=nxtD_at e2 (v+1)
 generalize nxt e2 (v+1)=n4
 generalize nxtD e2 (v+1)=e3 at a4⊢
 conv=>whnf
 refine ⟨_,fun _=>call_next 1 e3 30 (by omega) (by omega), ?_⟩
 conv=>whnf
 refine ⟨rfl, ?_⟩
 conv=>whnf
 refine ⟨?_, [], ?_⟩
 ·exact g0
 conv=>whnf
 refine ⟨rfl, ?_, ?_,trivial⟩
 all_goals exact ent
def c217L1:C:=(sr [kb 48 .lss 47 46] (.seq (.cond 48 .skip (.exit 1)) (.seq (.block 2 (sr [ki 49 2 45 47,kt 50 2 49,kk 5 (.al [z0,z0]),kx 2 5 50] (.block 3 (sr [kf 52 0 5,kl 53 52,kc 54 56 [53,(cn 1073741824)],kk 55 (.un false .not 54),km 56 55,kg 57 56 false (.fa 1 5),kg 58 56 false (.ld 1 false 57),kg 59 56 false (cl 56 [58,(cn 1073741824)]),kg 60 56 false (.un false .not 59),kk 61 (.pick 56 ct 60),km 51 61] (.cond 51 (sr [kk 2 (.mv (cn 1))] .ret) (sr [kf 63 0 5,kl 64 63,kf 65 1 5,kl 66 65,kb 67 .geq 64 66,km 62 67] (.cond 62 (sr [kk 2 (.mv (cn 4))] .ret) .skip))))))) (.reg [kb 68 .add 47 (cn 1),km 47 68]))))
def c217:C:=(sr [kk 1 (.bx 6 0),kk 2 (.mv (cn 0))] (.seq (sr [kf 6 0 1,kl 7 6,kc 8 152 [7],km 3 8] (sr [km 9 3,kb 10 .neq 9 (cn 0)] (.cond 10 (sr [km 11 3,km 2 11] .ret) .skip))) (.seq (.block 0 (sr [kf 13 0 1,kl 14 13,kf 15 0 1,kl 16 15,kk 17 (.len 16),kb 18 .sub 17 (cn 1),ki 19 2 14 18,kf 20 1 19,kl 21 20,kb 22 .gtr 21 (cn 1073741824),km 12 22] (.cond 12 (sr [kk 2 (.mv (cn 1))] .ret) (sr [kf 24 1 1,kl 25 24,kb 26 .lss 25 (cn 1),km 27 26,kg 28 27 false (.fa 1 1),kg 29 27 false (.ld 1 false 28),kg 30 27 false (.fa 2 1),kg 31 27 false (.ld 1 false 30),kg 32 27 false (.bi false .gtr 29 31),kk 33 (.pick 27 ct 32),km 34 33,kg 35 34 false (.fa 2 1),kg 36 34 false (.ld 1 false 35),kg 37 34 false (.bi false .gtr 36 (cn 1073741824)),kk 38 (.pick 34 ct 37),km 23 38] (.cond 23 (sr [kk 2 (.mv (cn 1))] .ret) (sr [kf 40 3 1,kl 41 40,kk 42 (.len 41),kb 43 .gtr 42 (cn 10),km 39 43] (.cond 39 (sr [kk 2 (.mv (cn 10))] .ret) .skip))))))) (.seq (sr [kf 44 3 1,kl 45 44,kk 46 (.len 45),kk 47 (.mv (cn 0))] (.block 1 (.loop c217L1))) (.seq (sr [kf 69 4 1,kl 70 69,kc 71 56 [70,(cn 1000)],kk 72 (.un false .not 71),km 73 72,kg 74 73 false (.fa 5 1),kg 75 73 false (.ld 1 false 74),kg 76 73 false (cl 56 [75,(cn 1000)]),kg 77 73 false (.un false .not 76),kk 78 (.pick 73 ct 77)] (.cond 78 (sr [kk 2 (.mv (cn 1))] .ret) .skip)) (sr [kk 2 (.mv (cn 0))] .ret))))))
theorem fits217:fits Tryz.prog false Tryz.f217 1 79 [(2,none)]=some c217.er:=by kernel_rfl
def c280L2:C:=(sr [kb 11 .lss 10 9] (.seq (.cond 11 .skip (.exit 2)) (.seq (.block 3 (sr [ki 12 2 8 10,kt 13 2 12,kk 6 (.al [z0,z0]),kx 2 6 13] (sr [km 14 1,kf 15 0 6,kl 16 15,kb 17 .gtr 14 16,km 18 17,kg 19 18 true (.mv 1),kg 20 18 true (.fa 1 6),kg 21 18 true (.ld 1 false 20),kg 22 18 true (.bi false .lss 19 21),kk 23 (.pick 18 22 cf)] (.cond 23 (sr [kf 24 1 6,kl 25 24,km 1 25] (.exit 1)) .skip)))) (.reg [kb 26 .add 10 (cn 1),km 10 26]))))
def c280L1:C:=(.block 1 (.seq (sr [kf 7 3 2,kl 8 7,kk 9 (.len 8),kk 10 (.mv (cn 0))] (.block 2 (.loop c280L2))) (.exit 0)))
def c280:C:=(sr [kk 2 (.bx 6 0),kk 4 (.mv (cn 0))] (.scope (.seq (.lab 0) (.seq (.block 0 (.loop c280L1)) (sr [km 27 1,km 4 27] .ret)))))
theorem fits280:fits Tryz.prog false Tryz.f280 2 28 [(4,none)]=some c280.er:=by kernel_rfl
def c232:C:=(sr [kk 2 (.bx 6 0),kk 4 (.mv cf)] (sr [km 5 1,kf 6 1 2,kl 7 6,kb 8 .geq 5 7,km 9 8,kg 10 9 true (.mv 1),kg 11 9 true (.fa 2 2),kg 12 9 true (.ld 1 false 11),kg 13 9 true (.bi false .leq 10 12),kk 14 (.pick 9 13 cf),km 15 14,kg 16 15 true (.ld 6 true 2),kg 17 15 true (.mv 1),kg 18 15 true (cl 280 [16,17]),kg 19 15 true (.mv 1),kg 20 15 true (.bi false .eql 18 19),kk 21 (.pick 15 20 cf),km 4 21] .ret))
theorem fits232:fits Tryz.prog false Tryz.f232 2 22 [(4,none)]=some c232.er:=by kernel_rfl
def c230:C:=(sr [kk 2 (.bx 6 0),kk 3 (.bx 3 1),kk 4 (.mv cf)] (sr [kf 5 1 3,kl 6 5,kc 7 56 [6,(cn 1000)],km 8 7,kg 9 8 true (.fa 0 3),kg 10 8 true (.ld 1 false 9),kg 11 8 true (.bi false .eql 10 (cn 0)),kg 12 8 true (.mv 11),kg 13 12 false (.fa 2 3),kg 14 12 false (.ld 1 false 13),kg 15 12 false (.un false .not 14),kg 16 12 false (.mv 15),kg 17 16 true (.ld 6 true 2),kg 18 16 true (.fa 0 3),kg 19 16 true (.ld 1 false 18),kg 20 16 true (cl 232 [17,19]),kg 21 12 false (.pick 16 20 cf),kg 22 8 true (.pick 12 ct 21),kk 23 (.pick 8 22 cf),km 4 23] .ret))
theorem fits230:fits Tryz.prog false Tryz.f230 2 24 [(4,none)]=some c230.er:=by kernel_rfl
def c219:C:=(sr [kk 2 (.bx 6 0),kk 3 (.bx 3 1),kk 4 (.mv cf)] (sr [kt 5 6 2,kc 6 217 [5],kb 7 .eql 6 (cn 0),km 8 7,kg 9 8 true (.ld 6 true 2),kg 10 8 true (.ld 3 true 3),kg 11 8 true (cl 230 [9,10]),kk 12 (.pick 8 11 cf),km 4 12] .ret))
theorem fits219:fits Tryz.prog false Tryz.f219 2 13 [(4,none)]=some c219.er:=by kernel_rfl
def c231:C:=(sr [kk 3 (.bx 6 0),kk 4 (.bx 3 1),kk 6 (.mv cf)] (.seq (.block 0 (sr [km 8 2,kb 9 .eql 8 (cn 0),km 10 9,kg 11 10 true (.fa 0 4),kg 12 10 true (.ld 1 false 11),kg 13 10 true (.bi false .gtr 12 (cn 0)),kk 14 (.pick 10 13 cf),km 7 14] (.cond 7 (sr [kf 15 1 4,kl 16 15,kf 17 4 3,kl 18 17,kb 19 .geq 16 18,km 6 19] .ret) (sr [km 21 2,kb 22 .eql 21 (cn 0),km 20 22] (.cond 20 (sr [kk 6 (.mv ct)] .ret) (sr [kf 24 2 4,kl 25 24,km 26 25,kg 27 26 false (.fa 0 4),kg 28 26 false (.ld 1 false 27),kg 29 26 false (.bi false .eql 28 (cn 0)),kg 30 26 false (.mv 29),kg 31 30 true (.fa 1 4),kg 32 30 true (.ld 1 false 31),kg 33 30 true (.fa 5 3),kg 34 30 true (.ld 1 false 33),kg 35 30 true (.bi false .lss 32 34),kg 36 26 false (.pick 30 35 cf),kk 37 (.pick 26 ct 36),km 23 37] (.cond 23 (sr [kk 6 (.mv cf)] .ret) .skip))))))) (sr [kt 38 6 3,km 39 2,kc 40 232 [38,39],km 6 40] .ret)))
theorem fits231:fits Tryz.prog false Tryz.f231 3 41 [(6,none)]=some c231.er:=by kernel_rfl
def c316:C:=(sr [kk 3 (.bx 6 0),kk 4 (.bx 3 1),kk 6 (.mv cf)] (sr [kt 7 6 3,kt 8 3 4,kc 9 219 [7,8],km 10 9,kg 11 10 true (.ld 6 true 3),kg 12 10 true (.ld 3 true 4),kg 13 10 true (.mv 2),kg 14 10 true (cl 231 [11,12,13]),kk 15 (.pick 10 14 cf),km 6 15] .ret))
theorem fits316:fits Tryz.prog false Tryz.f316 3 16 [(6,none)]=some c316.er:=by kernel_rfl
def c183:C:=(sr [kk 2 (.bx 6 0),kk 4 (.mv (cn 0)),kk 5 (.mv (cn 0))] (.seq (sr [kt 7 6 2,kc 8 217 [7],km 6 8] (sr [km 9 6,kb 10 .neq 9 (cn 0)] (.cond 10 (sr [km 11 6,kk 4 (.mv (cn 0)),km 5 11] .ret) .skip))) (.seq (.block 0 (sr [km 13 1,kb 14 .eql 13 (cn 0),km 12 14] (.cond 12 (sr [kk 4 (.mv (cn 0)),kk 5 (.mv (cn 0))] .ret) (sr [kt 16 6 2,km 17 1,kc 18 232 [16,17],kk 19 (.un false .not 18),km 15 19] (.cond 15 (sr [kk 4 (.mv (cn 0)),kk 5 (.mv (cn 1))] .ret) .skip))))) (sr [kf 20 0 2,kl 21 20,km 22 1,kc 23 97 [21,22],km 4 23,kk 5 (.mv (cn 0))] .ret))))
theorem fits183:fits Tryz.prog false Tryz.f183 2 24 [(4,none),(5,none)]=some c183.er:=by kernel_rfl
def c182:C:=(sr [kk 3 (.bx 6 0),kk 4 (.bx 3 1),kk 6 (.al [z0,z0,(.bool false)]),kk 7 (.mv cf),kk 8 (.mv (cn 0))] (sr [kt 11 6 3,kc 12 217 [11],km 9 12] (.seq (.block 0 (sr [km 14 9,kb 15 .neq 14 (cn 0),km 13 15] (.cond 13 (sr [kk 16 (.bd [z0,z0,(.bool false)] []),km 17 9,kx 3 6 16,kk 7 (.mv cf),km 8 17] .ret) (sr [kt 19 6 3,kt 20 3 4,kc 21 230 [19,20],kk 22 (.un false .not 21),km 18 22] (.cond 18 (sr [kk 23 (.bd [z0,z0,(.bool false)] []),kx 3 6 23,kk 7 (.mv cf),kk 8 (.mv (cn 3))] .ret) (sr [kt 25 6 3,kt 26 3 4,km 27 2,kc 28 231 [25,26,27],kk 29 (.un false .not 28),km 24 29] (.cond 24 (sr [kk 30 (.bd [z0,z0,(.bool false)] []),kx 3 6 30,kk 7 (.mv cf),kk 8 (.mv (cn 15))] .ret) .skip))))))) (sr [km 31 2,kf 32 1 4,kl 33 32,kb 34 .add 33 (cn 1),kk 35 (.mn [34,(cn 1000)]),kf 36 2 4,kl 37 36,kk 38 (.bd [z0,z0,(.bool false)] [(0,1,31),(1,1,35),(2,1,37)]),kk 10 (.al [z0,z0,(.bool false)]),kx 3 10 38] (.seq (sr [km 39 2,kb 40 .gtr 39 (cn 0),kf 41 0 4,kl 42 41,kb 43 .gtr 42 (cn 0),kk 44 (.bib true 40 43)] (.cond 44 (.reg [kf 45 1 10,kx 1 45 (cn 1)]) .skip)) (.seq (.drw [kt 46 3 10,km 47 2,kb 48 .gtr 47 (cn 0),km 49 48,kg 50 49 true (.fa 0 4),kg 51 49 true (.ld 1 false 50),kg 52 49 true (.bi false .eql 51 (cn 0)),kk 53 (.pick 49 52 cf),kx 3 6 46,km 7 53,kk 8 (.mv (cn 0))] (pl [(0,[1,2,3,4,5,6,7],46),(4,[8],50),(5,[8],51),(6,[8],52),(7,[8],53)])) .ret))))))
theorem fits182:fits Tryz.prog false Tryz.f182 3 54 [(6,some (3,true)),(7,none),(8,none)]=some c182.er:=by kernel_rfl
structure UOK (u:Ut):Prop where
 made:MadeC u.tb
 top:(u.tb.getD (u.tb.length - 1) default).y≤1073741824
 lm:1≤u.least∧u.least≤u.most∧u.most≤1073741824
 sm:u.most<u.least+100
 rl:u.rough.length≤10
 rg:∀i,i<u.rough.length→0≤(u.rough.getD i default).lo∧(u.rough.getD i default).lo<(u.rough.getD i default).hi∧(u.rough.getD i default).hi≤1073741824
 ud:0≤u.up∧u.up≤1000∧0≤u.down∧u.down≤1000
theorem UOK.good {u:Ut} (h:UOK u):GoodC u.tb:=h.made.good
theorem call217 (τ:Nat) (u:Ut) (h:UOK u):PureCall Tryz.prog 217 [.agg (eUt τ u)] [] ⟨.int .i64 0, [], []⟩:=by
 obtain ⟨hM,ht,hm,_,hr,hz,hu⟩:=h
 have hg:=hM.good
 have hl:=hM.len
 refine pure_call mix Tryz.func217 fits217 rfl ?_
 conv=>whnf
 refine ⟨_,fun _=>G02.call152 _ u.tb, ?_⟩
 rw [(check_good u.tb).2 hg]
 conv=>whnf
 refine ⟨by exact g0,fun h=>(by cases h),fun _=> ?_⟩
 conv=>whnf
 have hj:((u.tb.length:Int) - 1).toNat=u.tb.length - 1:=by omega
 rw [hj]
 have e1:decide (1073741824<(u.tb.getD (u.tb.length - 1) default).y)=false:=decide_eq_false (by omega)
 refine ⟨by exact g0,fun hc=>absurd hc (by rw [e1];decide),fun _=> ?_⟩
 conv=>whnf
 refine ⟨by exact g0,fun hc=> ?_,fun _=> ?_⟩
 ·have hc:(bif bif decide (u.least<1) then true else decide (u.most<u.least) then true else decide (1073741824<u.most))=true:=hc
  simp only [bp] at hc
  omega
 conv=>whnf
 have e3:decide ((10:Int)<u.rough.length)=false:=decide_eq_false (by omega)
 refine ⟨by exact g0,fun hc=>absurd hc (by rw [e3];decide),fun _=> ?_⟩
 conv=>whnf
 refine ⟨by exact g0, ?_⟩
 refine LSem.loop (n:=79) mix (α:=Nat) (fun i=>i≤u.rough.length)
  (fun i=> [(1, .pt 16 0 0),(45, .sl τ 2 u.rough.length (fl eBnd u.rough)),(46, .int .i64 u.rough.length),(47, .int .i64 i)])
  (fun _=> [(16, .box (eUt τ u))]) (fun i=>u.rough.length - i) 0 (Nat.zero_le _) ?_ ?_
 ·refine ⟨rfl,rfl, ?_, ?_⟩<;>exact ent
 intro i hi
 have hj:((i:Int)).toNat=i:=by omega
 conv=>whnf
 refine ⟨trivial,fun hc=> ?_,fun hc=> ?_⟩
 ·replace hc:=of_decide_eq_true hc
  have hlt:i<u.rough.length:=by
   have h:(i:Int)<u.rough.length:=hc
   omega
  have hzi:=hz i hlt
  conv=>whnf
  rw [hj]
  generalize u.rough.getD i default=z at hzi⊢
  refine ⟨_,fun _=>G02.call56 z.lo 1073741824, ?_⟩
  rw [decide_eq_true (show 0≤z.lo∧z.lo≤1073741824 by omega)]
  conv=>whnf
  refine ⟨_,fun _=>G02.call56 z.hi 1073741824, ?_⟩
  rw [decide_eq_true (show 0≤z.hi∧z.hi≤1073741824 by omega)]
  conv=>whnf
  refine ⟨by exact g0,fun h=>(by cases h),fun _=> ?_⟩
  conv=>whnf
  have e4:decide (z.hi≤z.lo)=false:=decide_eq_false (by omega)
  refine ⟨by exact g0,fun hc=>absurd hc (by rw [e4];decide),fun _=> ?_⟩
  conv=>whnf
  refine ⟨by exact g0,i+1,hlt,by omega,rfl,rfl, ?_, ?_⟩<;>exact ent
 ·conv=>whnf
  refine ⟨_,fun _=>G02.call56 u.up 1000, ?_⟩
  rw [decide_eq_true (show 0≤u.up∧u.up≤1000 by omega)]
  conv=>whnf
  refine ⟨_,fun _=>G02.call56 u.down 1000, ?_⟩
  rw [decide_eq_true (show 0≤u.down∧u.down≤1000 by omega)]
  conv=>whnf
  refine ⟨by exact g0,fun h=>(by cases h),fun _=> ?_⟩
  conv=>whnf
  exact ret
def bydN (r:List Bnd):Nat→Int→Int
 | 0,q=>q
 | n+1,q=>match insL q r with
   | none=>q
   | some e=>bydN r n e
def byd (r:List Bnd) (q:Int):Int:=bydN r (1073741825 - q).toNat q
theorem bydN_ge (r:List Bnd):∀(n:Nat) (q:Int),q≤bydN r n q
 | 0,q=>Int.le_refl _
 | n+1,q=>by
   unfold bydN
   cases h:insL q r with
   | none=>exact Int.le_refl _
   | some e=>exact Int.le_trans (Int.le_of_lt (insL_gt h).1) (bydN_ge r n e)
def ZOK (r:List Bnd):Prop:=∀z∈r,z.hi≤1073741824
theorem UOK.z {u:Ut} (h:UOK u):ZOK u.rough:=fun z hz=>by
 obtain ⟨i,hi,rfl⟩:=List.getElem_of_mem hz
 have:=(h.rg i hi).2.2
 rwa [List.getD_eq_getElem?_getD,List.getElem?_eq_getElem hi] at this
theorem byd_none {r:List Bnd} {q:Int} (h:insL q r=none):byd r q=q:=by
 unfold byd
 cases (1073741825 - q).toNat with
 | zero=>rfl
 | succ n=>unfold bydN;rw [h]
theorem byd_eq {r:List Bnd} (hz:ZOK r) (q:Int):byd r q=q↔insL q r=none:=by
 refine ⟨fun h=> ?_,byd_none⟩
 cases e:insL q r with
 | none=>rfl
 | some x=>
   exfalso
   obtain ⟨h1,z,hz1,rfl⟩:=insL_gt e
   have h2:=hz z hz1
   have h3:byd r q=bydN r (1073741825 - q).toNat q:=rfl
   obtain ⟨n,hn⟩:∃n,(1073741825 - q).toNat=n+1:=⟨(1073741825 - q).toNat - 1,by omega⟩
   rw [hn,bydN,e] at h3
   have:=bydN_ge r n z.hi
   dsimp only at h3
   omega
theorem call280 (τ:Nat) (u:Ut) (q:Int) (h:UOK u):PureCall Tryz.prog 280 [.agg (eUt τ u), .int .i64 q] [] ⟨.int .i64 (byd u.rough q), [], []⟩:=by
 have hz:=h.z
 have hr:=h.rl
 obtain ⟨R,hR⟩:∃R,R=byd u.rough q:=⟨_,rfl⟩
 rw [←hR]
 refine pure_call mix Tryz.func280 fits280 rfl ?_
 conv=>whnf
 refine ⟨trivial, ?_⟩
 refine LSem.jumps (n:=28) mix (α:=Unit) 0 _ rfl (fun _=>False) (fun _=> []) (fun _=> []) (fun _=>0) ?_ (fun x hx=>hx.elim)
 conv=>whnf
 refine ⟨trivial, ?_⟩
 refine LSem.loop (n:=28) mix (α:=Nat×Int) (fun x=>bydN u.rough x.1 x.2=R∧1073741825 - x.2≤x.1)
  (fun x=> [(1, .int .i64 x.2),(2, .pt 32 0 0)])
  (fun _=> [(32, .box (eUt τ u))]) (fun x=>x.1) ((1073741825 - q).toNat,q) ⟨hR.symm,by dsimp only;omega⟩ ?_ ?_
 ·refine ⟨rfl,rfl, ?_, ?_⟩<;>exact ent
 rintro ⟨n,q⟩ ⟨h1,h2⟩
 dsimp only at h1 h2
 conv=>whnf
 refine ⟨by exact g0, ?_⟩
 refine LSem.loop (n:=28) mix (α:=Nat) (fun i=>i≤u.rough.length∧insL q (u.rough.drop i)=insL q u.rough)
  (fun i=> [(1, .int .i64 q),(2, .pt 32 0 0),(8, .sl τ 2 u.rough.length (fl eBnd u.rough)),(9, .int .i64 u.rough.length),(10, .int .i64 i)])
  (fun _=> [(32, .box (eUt τ u))]) (fun i=>u.rough.length - i) 0 ⟨Nat.zero_le _,rfl⟩ ?_ ?_
 ·refine ⟨rfl,rfl, ?_, ?_⟩<;>exact ent
 rintro i ⟨hi,hp⟩
 have hj:((i:Int)).toNat=i:=by omega
 conv=>whnf
 refine ⟨trivial,fun hc=> ?_,fun hc=> ?_⟩
 ·replace hc:=of_decide_eq_true hc
  have hlt:i<u.rough.length:=by
   have h:(i:Int)<u.rough.length:=hc
   omega
  have hmem:u.rough.getD i default∈u.rough:=by
   rw [List.getD_eq_getElem?_getD,List.getElem?_eq_getElem hlt];exact List.getElem_mem hlt
  have hzi:=hz _ hmem
  rw [insL_drop q hlt] at hp
  conv=>whnf
  rw [hj]
  generalize u.rough.getD i default=z at hp hzi⊢
  refine ⟨by exact g0,fun hc2=> ?_,fun hc2=> ?_⟩
  ·have hc2:(bif decide (z.lo<q) then decide (q<z.hi) else false)=true:=hc2
   simp only [bp] at hc2
   rw [if_pos (by omega)] at hp
   obtain ⟨m,rfl⟩:∃m,n=m+1:=⟨n - 1,by omega⟩
   rw [bydN,←hp] at h1
   conv=>whnf
   refine ⟨by exact g0,(m,z.hi),⟨h1,by dsimp only;omega⟩,by dsimp only;omega,rfl,rfl, ?_, ?_⟩<;>exact ent
  ·have hc2:(bif decide (z.lo<q) then decide (q<z.hi) else false)=false:=hc2
   simp only [bp] at hc2
   rw [if_neg (by omega)] at hp
   conv=>whnf
   refine ⟨by exact g0,i+1,⟨hlt,hp⟩,by omega,rfl,rfl, ?_, ?_⟩<;>exact ent
 ·replace hc:=of_decide_eq_false hc
  have hk:i=u.rough.length:=by
   have h:¬(i:Int)<u.rough.length:=hc
   omega
  subst hk
  rw [List.drop_length] at hp
  have hn:bydN u.rough n q=q:=by
   cases n with
   | zero=>rfl
   | succ n=>rw [bydN,←hp];rfl
  rw [hn] at h1
  subst h1
  conv=>whnf
  exact ret
def runsU (u:Ut) (q:Int):Bool:=bif (bif decide (u.least≤q) then decide (q≤u.most) else false) then byd u.rough q==q else false
theorem runsU_iff {u:Ut} (h:UOK u) (q:Int):runsU u q=true↔u.least≤q∧q≤u.most∧insL q u.rough=none:=by
 have:=byd_eq h.z q
 unfold runsU
 by_cases h1:u.least≤q<;>by_cases h2:q≤u.most<;>simp [h1,h2,this]
theorem call232 (τ:Nat) (u:Ut) (q:Int) (h:UOK u):PureCall Tryz.prog 232 [.agg (eUt τ u), .int .i64 q] [] ⟨.bool (runsU u q), [], []⟩:=by
 obtain ⟨b,hb⟩:∃b,runsU u q=b:=⟨_,rfl⟩
 rw [hb]
 refine pure_call mix Tryz.func232 fits232 rfl ?_
 conv=>whnf
 refine ⟨_,fun _=>call280 _ u q h, ?_⟩
 conv=>whnf
 subst hb
 exact ret
def fitsU (u:Ut) (s:Us):Bool:=bif decide (0≤s.since∧s.since≤1000) then (bif s.flow==0 then true else (bif !s.out then runsU u s.flow else false)) else false
theorem call230 (τ:Nat) (u:Ut) (s:Us) (h:UOK u):PureCall Tryz.prog 230 [.agg (eUt τ u), .agg (eUs s)] [] ⟨.bool (fitsU u s), [], []⟩:=by
 obtain ⟨b,hb⟩:∃b,fitsU u s=b:=⟨_,rfl⟩
 rw [hb]
 refine pure_call mix Tryz.func230 fits230 rfl ?_
 conv=>whnf
 refine ⟨_,fun _=>G02.call56 s.since 1000, ?_⟩
 conv=>whnf
 refine ⟨_,fun _=>call232 _ u s.flow h, ?_⟩
 conv=>whnf
 subst hb
 exact ret
theorem call219 (τ:Nat) (u:Ut) (s:Us) (h:UOK u):PureCall Tryz.prog 219 [.agg (eUt τ u), .agg (eUs s)] [] ⟨.bool (fitsU u s), [], []⟩:=by
 refine pure_call mix Tryz.func219 fits219 rfl ?_
 conv=>whnf
 refine ⟨_,fun _=>call217 _ u h, ?_⟩
 conv=>whnf
 refine ⟨_,fun _=>call230 _ u s h, ?_⟩
 generalize fitsU u s=b
 conv=>whnf
 exact ret
def mayU (u:Ut) (s:Us) (q:Int):Bool:=if q=0∧0<s.flow then decide (u.up≤s.since) else if q=0 then true else if s.out=true∨(s.flow=0∧s.since<u.down) then false else runsU u q
theorem call231 (τ:Nat) (u:Ut) (s:Us) (q:Int) (h:UOK u):PureCall Tryz.prog 231 [.agg (eUt τ u), .agg (eUs s), .int .i64 q] [] ⟨.bool (mayU u s q), [], []⟩:=by
 obtain ⟨b,hb⟩:∃b,mayU u s q=b:=⟨_,rfl⟩
 rw [hb]
 refine pure_call mix Tryz.func231 fits231 rfl ?_
 conv=>whnf
 refine ⟨by exact g0,fun hc=> ?_,fun hc=> ?_⟩
 ·have hc:(bif q==0 then decide (0<s.flow) else false)=true:=hc
  simp only [bp] at hc
  have e:mayU u s q=decide (u.up≤s.since):=by unfold mayU;rw [if_pos (by omega)]
  rw [←hb,e]
  conv=>whnf
  exact ret
 have hc:(bif q==0 then decide (0<s.flow) else false)=false:=hc
 simp only [bp] at hc
 conv=>whnf
 refine ⟨by exact g0,fun hd=> ?_,fun hd=> ?_⟩
 ·have hd:(q==0)=true:=hd
  simp only [bp] at hd
  have e:mayU u s q=true:=by unfold mayU;rw [if_neg (by omega),if_pos (by omega)]
  rw [←hb,e]
  conv=>whnf
  exact ret
 have hd:(q==0)=false:=hd
 simp only [bp] at hd
 conv=>whnf
 refine ⟨by exact g0,fun he=> ?_,fun he=> ?_⟩
 ·have he:(bif s.out then true else bif s.flow==0 then decide (s.since<u.down) else false)=true:=he
  have e:mayU u s q=false:=by
   unfold mayU
   rw [if_neg (by omega),if_neg (by omega),if_pos]
   cases ho:s.out with
   | true=>exact .inl rfl
   | false=>
     rw [ho] at he
     have he:(bif s.flow==0 then decide (s.since<u.down) else false)=true:=he
     simp only [bp] at he
     exact .inr (by omega)
  rw [←hb,e]
  conv=>whnf
  exact ret
 have he:(bif s.out then true else bif s.flow==0 then decide (s.since<u.down) else false)=false:=he
 have e:mayU u s q=runsU u q:=by
  unfold mayU
  rw [if_neg (by omega),if_neg (by omega),if_neg]
  intro ho
  cases hx:s.out with
  | true=>rw [hx] at he;cases he
  | false=>
    rw [hx] at he ho
    have he:(bif s.flow==0 then decide (s.since<u.down) else false)=false:=he
    simp only [bp] at he
    rcases ho with ho | ho
    ·cases ho
    ·omega
 rw [←hb,e]
 conv=>whnf
 refine ⟨_,fun _=>call232 _ u q h, ?_⟩
 conv=>whnf
 exact ret
theorem call316 (τ:Nat) (u:Ut) (s:Us) (q:Int) (h:UOK u):PureCall Tryz.prog 316 [.agg (eUt τ u), .agg (eUs s), .int .i64 q] [] ⟨.bool (fitsU u s&&mayU u s q), [], []⟩:=by
 refine pure_call mix Tryz.func316 fits316 rfl ?_
 conv=>whnf
 refine ⟨_,fun _=>call219 _ u s h, ?_⟩
 conv=>whnf
 refine ⟨_,fun _=>call231 _ u s q h, ?_⟩
 generalize fitsU u s=b
 generalize mayU u s q=c
 conv=>whnf
 cases b<;>exact ret
def powU (u:Ut) (q:Int):Int×Int:=if q=0 then (0,0) else if runsU u q=true then (valC u.tb q,0) else (0,1)
theorem call183 (τ:Nat) (u:Ut) (q:Int) (h:UOK u):PureCall Tryz.prog 183 [.agg (eUt τ u), .int .i64 q] [] ⟨.tup [.int .i64 (powU u q).1, .int .i64 (powU u q).2], [], []⟩:=by
 obtain ⟨b,hb⟩:∃b,powU u q=b:=⟨_,rfl⟩
 rw [hb]
 refine pure_call mix Tryz.func183 fits183 rfl ?_
 conv=>whnf
 refine ⟨_,fun _=>call217 _ u h, ?_⟩
 conv=>whnf
 refine ⟨by exact g0,fun hc=>(by cases hc),fun _=> ?_⟩
 conv=>whnf
 refine ⟨by exact g0,fun hd=> ?_,fun hd=> ?_⟩
 ·have hd:(q==0)=true:=hd
  simp only [bp] at hd
  have e:powU u q=(0,0):=by unfold powU;rw [if_pos (by omega)]
  rw [←hb,e]
  conv=>whnf
  exact ret
 have hd:(q==0)=false:=hd
 simp only [bp] at hd
 conv=>whnf
 refine ⟨_,fun _=>call232 _ u q h, ?_⟩
 conv=>whnf
 refine ⟨by exact g0,fun he=> ?_,fun he=> ?_⟩
 ·have he:(!runsU u q)=true:=he
  have e:powU u q=(0,1):=by
   unfold powU
   rw [if_neg (by omega),if_neg]
   intro h2
   rw [h2] at he
   cases he
  rw [←hb,e]
  conv=>whnf
  exact ret
 have he:(!runsU u q)=false:=he
 have e:powU u q=(valC u.tb q,0):=by
  unfold powU
  rw [if_neg (by omega),if_pos]
  simpa using he
 rw [←hb,e]
 conv=>whnf
 refine ⟨_,fun _=>G02.call97 _ u.tb q h.good, ?_⟩
 conv=>whnf
 exact ret
def nxtU (u:Ut) (s:Us) (q:Int):Us×Bool×Int:=
 if fitsU u s=false then (⟨0,0,false⟩,false,3) else if mayU u s q=false then (⟨0,0,false⟩,false,15) else
  (⟨q,if (decide (0<q) != decide (0<s.flow))=true then 1 else mn (s.since+1) 1000,s.out⟩,(bif decide (0<q) then s.flow==0 else false),0)
theorem call182 (τ:Nat) (u:Ut) (s:Us) (q:Int) (h:UOK u) (hs:s.since≤4611686018427387904∧ -4611686018427387904≤s.since):PureCall Tryz.prog 182 [.agg (eUt τ u), .agg (eUs s), .int .i64 q] [] ⟨.tup [.agg (eUs (nxtU u s q).1), .bool (nxtU u s q).2.1, .int .i64 (nxtU u s q).2.2], [], []⟩:=by
 obtain ⟨b,hb⟩:∃b,nxtU u s q=b:=⟨_,rfl⟩
 rw [hb]
 refine pure_call mix Tryz.func182 fits182 rfl ?_
 conv=>whnf
 refine ⟨_,fun _=>call217 _ u h, ?_⟩
 conv=>whnf
 refine ⟨by exact g0,fun hc=>(by cases hc),fun _=> ?_⟩
 conv=>whnf
 refine ⟨_,fun _=>call230 _ u s h, ?_⟩
 conv=>whnf
 refine ⟨by exact g0,fun he=> ?_,fun he=> ?_⟩
 ·have he:(!fitsU u s)=true:=he
  have e:nxtU u s q=(⟨0,0,false⟩,false,3):=by
   unfold nxtU
   rw [if_pos (by simpa using he)]
  rw [←hb,e]
  conv=>whnf
  exact ret
 have he:(!fitsU u s)=false:=he
 conv=>whnf
 refine ⟨_,fun _=>call231 _ u s q h, ?_⟩
 conv=>whnf
 refine ⟨by exact g0,fun hf=> ?_,fun hf=> ?_⟩
 ·have hf:(!mayU u s q)=true:=hf
  have e:nxtU u s q=(⟨0,0,false⟩,false,15):=by
   unfold nxtU
   rw [if_neg (by simpa using he),if_pos (by simpa using hf)]
  rw [←hb,e]
  conv=>whnf
  exact ret
 have hf:(!mayU u s q)=false:=hf
 have e:nxtU u s q=(⟨q,if (decide (0<q) != decide (0<s.flow))=true then 1 else mn (s.since+1) 1000,s.out⟩,(bif decide (0<q) then s.flow==0 else false),0):=by
  unfold nxtU
  rw [if_neg (by simpa using he),if_neg (by simpa using hf)]
 rw [←hb,e]
 conv=>whnf
 refine ⟨by exact g0,fun hg=> ?_,fun hg=> ?_⟩
 ·have hg:(decide (0<q) != decide (0<s.flow))=true:=hg
  rw [if_pos hg]
  conv=>whnf
  refine ⟨rfl, ?_⟩
  conv=>whnf
  exact ret
 ·have hg:(decide (0<q) != decide (0<s.flow))=false:=hg
  rw [if_neg (by rw [hg];decide)]
  conv=>whnf
  refine ⟨rfl, ?_⟩
  conv=>whnf
  exact ret
def c218L1:C:=(sr [kb 20 .lss 19 18] (.seq (.cond 20 .skip (.exit 1)) (.seq (.block 2 (sr [km 21 19,ki 22 2 17 19,kt 23 2 22,kk 4 (.al [z0,(.nil 2)]),km 3 21,kx 2 4 23] (.seq (.block 3 (sr [kf 25 0 4,kl 26 25,kc 27 56 [26,(cn 16777216)],kk 28 (.un false .not 27),km 24 28] (.cond 24 (sr [kk 2 (.mv (cn 1))] .ret) (.seq (.drw [km 30 3,kb 31 .gtr 30 (cn 0),km 32 31,kg 33 32 true (.fa 0 4),kg 34 32 true (.ld 1 false 33),kg 35 32 true (.fa 0 1),kg 36 32 true (.ld 1 false 35),kg 37 32 true (.mv 3),kg 38 32 true (.bi false .sub 37 (cn 1)),kg 39 32 true (.ia 2 36 38),kg 40 32 true (.fa 0 39),kg 41 32 true (.ld 1 false 40),kg 42 32 true (.bi false .leq 34 41),kk 43 (.pick 32 42 cf),km 29 43] (pl [(3,[5,6,7,8,9,10,11],33),(4,[5,6,7,8,9,10,11],34),(5,[7,8],35),(6,[7,8],36)])) (.cond 29 (sr [kk 2 (.mv (cn 4))] .ret) .skip))))) (.seq (sr [kf 44 1 4,kl 45 44,kc 46 152 [45],km 5 46] (sr [km 47 5,kb 48 .neq 47 (cn 0)] (.cond 48 (sr [km 49 5,km 2 49] .ret) .skip))) (.block 4 (sr [kf 51 1 4,kl 52 51,ki 53 2 52 (cn 0),kt 54 2 53,kk 55 (.bd [z0,z0] []),kk 56 (.eqa true [0,0] 54 55),km 50 56] (.cond 50 (sr [kk 2 (.mv (cn 3))] .ret) (sr [kf 58 1 4,kl 59 58,kf 60 1 4,kl 61 60,kk 62 (.len 61),kb 63 .sub 62 (cn 1),ki 64 2 59 63,kf 65 1 64,kl 66 65,kb 67 .gtr 66 (cn 1073741824),km 57 67] (.cond 57 (sr [kk 2 (.mv (cn 1))] .ret) .skip))))))))) (.reg [kb 68 .add 19 (cn 1),km 19 68]))))
def c218:C:=(sr [kk 1 (.bx 3 0),kk 2 (.mv (cn 0))] (.seq (.block 0 (sr [kf 7 0 1,kl 8 7,kk 9 (.len 8),kb 10 .eql 9 (cn 0),km 6 10] (.cond 6 (sr [kk 2 (.mv (cn 3))] .ret) (sr [kf 12 0 1,kl 13 12,kk 14 (.len 13),kb 15 .gtr 14 (cn 10),km 11 15] (.cond 11 (sr [kk 2 (.mv (cn 10))] .ret) .skip))))) (.seq (sr [kf 16 0 1,kl 17 16,kk 18 (.len 17),kk 19 (.mv (cn 0))] (.block 1 (.loop c218L1))) (.seq (sr [kf 69 1 1,kl 70 69,kc 71 56 [70,(cn 1000)],kk 72 (.un false .not 71),km 73 72,kg 74 73 false (.fa 2 1),kg 75 73 false (.ld 1 false 74),kg 76 73 false (cl 56 [75,(cn 1000)]),kg 77 73 false (.un false .not 76),kk 78 (.pick 73 ct 77)] (.cond 78 (sr [kk 2 (.mv (cn 1))] .ret) .skip)) (sr [kk 2 (.mv (cn 0))] .ret)))))
theorem fits218:fits Tryz.prog false Tryz.f218 1 79 [(2,none)]=some c218.er:=by kernel_rfl
def c222L1:C:=(sr [kb 12 .lss 11 10] (.seq (.cond 12 .skip (.exit 0)) (.seq (.block 1 (sr [ki 13 2 9 11,kt 14 2 13,kk 7 (.al [z0,(.nil 2)]),kx 2 7 14] (sr [kf 15 0 7,kl 16 15,km 17 1,kb 18 .leq 16 17] (.cond 18 (.reg [kf 19 1 7,kl 20 19,kf 21 0 5,kx 1 21 20]) .skip)))) (.reg [kb 22 .add 11 (cn 1),km 11 22]))))
def c222:C:=(sr [kk 2 (.bx 3 0),kk 4 (.al [(.nil 2),z0])] (sr [kk 5 (.al [(.nil 2),z0])] (.seq (sr [kf 8 0 2,kl 9 8,kk 10 (.len 9),kk 11 (.mv (cn 0))] (.block 0 (.loop c222L1))) (sr [kt 23 2 5,kx 2 4 23] .ret))))
theorem fits222:fits Tryz.prog false Tryz.f222 2 24 [(4,some (2,true))]=some c222.er:=by kernel_rfl
def c224:C:=(sr [kk 2 (.bx 2 0),kk 4 (.mv (cn 0))] (.seq (sr [kf 5 0 2,kl 6 5,kk 7 (.len 6),kb 8 .eql 7 (cn 0)] (.cond 8 (sr [kk 4 (.mv (cn 0))] .ret) .skip)) (sr [kf 9 0 2,kl 10 9,km 11 1,kc 12 97 [10,11],km 4 12] .ret)))
theorem fits224:fits Tryz.prog false Tryz.f224 2 13 [(4,none)]=some c224.er:=by kernel_rfl
def c221:C:=(sr [kk 2 (.bx 2 0),kk 4 (.mv cf)] (.seq (.drw [kt 5 2 2,km 6 1,kc 7 224 [5,6],kf 8 1 2,kl 9 8,kb 10 .geq 7 9,km 4 10] (pl [(0,[1,3,4],5),(1,[3,4],6),(2,[3,4],7)])) .ret))
theorem fits221:fits Tryz.prog false Tryz.f221 2 11 [(4,none)]=some c221.er:=by kernel_rfl
def c223:C:=(sr [kk 2 (.bx 3 0),kk 3 (.bx 2 1),kk 4 (.al [z0,z0])] (.seq (sr [kf 5 1 3,kl 6 5] (.cond 6 (sr [kf 7 0 3,kl 8 7,kf 9 0 3,kl 10 9,kk 11 (.bd [z0,z0] [(0,1,8),(1,1,10)]),kx 2 4 11] .ret) .skip)) (sr [kf 12 0 3,kl 13 12,kf 14 2 2,kl 15 14,kb 16 .sub 13 15,kk 17 (.mx [16,(cn 0)]),kf 18 0 3,kl 19 18,kf 20 2 2,kl 21 20,kb 22 .add 19 21,kf 23 1 2,kl 24 23,kk 25 (.mn [22,24]),kk 26 (.bd [z0,z0] [(0,1,17),(1,1,25)]),kx 2 4 26] .ret)))
theorem fits223:fits Tryz.prog false Tryz.f223 2 27 [(4,some (2,true))]=some c223.er:=by kernel_rfl
def c313:C:=(sr [kk 2 (.bx 3 0),kk 3 (.bx 2 1),kk 4 (.mv cf)] (sr [kf 5 0 3,kl 6 5,kf 7 1 2,kl 8 7,kc 9 56 [6,8],km 4 9] .ret))
theorem fits313:fits Tryz.prog false Tryz.f313 2 10 [(4,none)]=some c313.er:=by kernel_rfl
def c275L1:C:=(sr [kb 25 .lss 24 23] (.seq (.cond 25 .skip (.exit 1)) (.seq (.block 2 (sr [km 26 24,ki 27 3 22 24,kt 28 3 27,kk 8 (.al [(.nil 2),z0,z0]),km 7 26,kx 3 8 28] (.seq (.drw [kt 29 3 8,km 30 1,km 31 7,ki 32 2 30 31,kt 33 2 32,kc 34 313 [29,33],kk 35 (.un false .not 34)] (pl [(0,[1,2,3,4],29),(1,[2],30)])) (.cond 35 (sr [kk 6 (.mv (cn 3))] .ret) .skip)))) (.reg [kb 36 .add 24 (cn 1),km 24 36]))))
def c275L2:C:=(sr [kb 40 .lss 39 38] (.seq (.cond 40 .skip (.exit 3)) (.seq (.block 4 (sr [ki 41 3 37 39,kt 42 3 41,kk 10 (.al [(.nil 2),z0,z0]),kx 3 10 42] (sr [kt 43 3 10,kc 44 218 [43],km 11 44] (sr [km 45 11,kb 46 .neq 45 (cn 0)] (.cond 46 (sr [km 47 11,km 6 47] .ret) .skip))))) (.reg [kb 48 .add 39 (cn 1),km 39 48]))))
def c275:C:=(sr [kk 6 (.mv (cn 0))] (.seq (.block 0 (sr [km 13 0,kk 14 (.len 13),kb 15 .gtr 14 (cn 8),km 12 15] (.cond 12 (sr [kk 6 (.mv (cn 10))] .ret) (sr [km 17 0,kk 18 (.len 17),km 19 1,kk 20 (.len 19),kb 21 .neq 18 20,km 16 21] (.cond 16 (sr [kk 6 (.mv (cn 3))] .ret) .skip))))) (.seq (sr [km 22 0,kk 23 (.len 22),kk 24 (.mv (cn 0))] (.block 1 (.loop c275L1))) (.seq (sr [km 37 0,kk 38 (.len 37),kk 39 (.mv (cn 0))] (.block 3 (.loop c275L2))) (.seq (sr [km 49 2,kc 50 56 [49,(cn 16777216)],kk 51 (.un false .not 50)] (.cond 51 (sr [kk 6 (.mv (cn 1))] .ret) .skip)) (sr [kk 6 (.mv (cn 0))] .ret))))))
theorem fits275:fits Tryz.prog false Tryz.f275 3 52 [(6,none)]=some c275.er:=by kernel_rfl
structure GOK (g:Ga):Prop where
 len:1≤g.rt.length∧g.rt.length≤10
 lv:∀i,i<g.rt.length→0≤(g.rt.getD i default).lv∧(g.rt.getD i default).lv≤16777216
 up:∀i,i<g.rt.length→0<i→(g.rt.getD (i - 1) default).lv<(g.rt.getD i default).lv
 made:∀i,i<g.rt.length→MadeC (g.rt.getD i default).c
 zero:∀i,i<g.rt.length→(g.rt.getD i default).c.getD 0 default=⟨0,0⟩
 top:∀i,i<g.rt.length→((g.rt.getD i default).c.getD ((g.rt.getD i default).c.length - 1) default).y≤1073741824
 most:0≤g.most∧g.most≤1000
 move:0≤g.move∧g.move≤1000
theorem call218 (τ:Nat) (g:Ga) (h:GOK g):PureCall Tryz.prog 218 [.agg (eGa τ g)] [] ⟨.int .i64 0, [], []⟩:=by
 obtain ⟨hl,hv,hu,hg,hz,ht,hm,ho⟩:=h
 refine pure_call mix Tryz.func218 fits218 rfl ?_
 conv=>whnf
 refine ⟨by exact g0,fun hc=> ?_,fun _=> ?_⟩
 ·have hc:((g.rt.length:Int)==0)=true:=hc
  simp only [bp] at hc
  omega
 conv=>whnf
 have e3:decide ((10:Int)<g.rt.length)=false:=decide_eq_false (by omega)
 refine ⟨by exact g0,fun hc=>absurd hc (by rw [e3];decide),fun _=> ?_⟩
 conv=>whnf
 refine ⟨by exact g0, ?_⟩
 refine LSem.loop (n:=79) mix (α:=Nat) (fun i=>i≤g.rt.length)
  (fun i=> [(1, .pt 16 0 0),(17, .sl τ 2 g.rt.length (fl (eGr 0) g.rt)),(18, .int .i64 g.rt.length),(19, .int .i64 i)])
  (fun _=> [(16, .box (eGa τ g))]) (fun i=>g.rt.length - i) 0 (Nat.zero_le _) ?_ ?_
 ·refine ⟨rfl,rfl, ?_, ?_⟩<;>exact ent
 intro i hi
 have hj:((i:Int)).toNat=i:=by omega
 conv=>whnf
 refine ⟨trivial,fun hc=> ?_,fun hc=> ?_⟩
 ·replace hc:=of_decide_eq_true hc
  have hlt:i<g.rt.length:=by
   have h:(i:Int)<g.rt.length:=hc
   omega
  have hvi:=hv i hlt
  have hui:=hu i hlt
  have hgi:=hg i hlt
  have hzi:=hz i hlt
  have hti:=ht i hlt
  conv=>whnf
  rw [hj]
  generalize hr:g.rt.getD i default=r at hvi hgi hzi hti hui⊢
  have hgl:=hgi.len
  refine ⟨_,fun _=>G02.call56 r.lv 16777216, ?_⟩
  rw [decide_eq_true (show 0≤r.lv∧r.lv≤16777216 by omega)]
  conv=>whnf
  refine ⟨by exact g0,fun h=>(by cases h),fun _=> ?_⟩
  conv=>whnf
  refine ⟨rfl, ?_⟩
  conv=>whnf
  refine ⟨by exact g0,fun hd=> ?_,fun _=> ?_⟩
  ·exfalso
   by_cases h0:0<(i:Int)
   ·have hj1:((i:Int) - 1).toNat=i - 1:=by omega
    rw [decide_eq_true h0,hj1] at hd
    have:=hui (by omega)
    have hd:decide (r.lv≤(g.rt.getD (i - 1) default).lv)=true:=hd
    simp only [bp] at hd
    omega
   ·rw [decide_eq_false h0] at hd
    cases hd
  conv=>whnf
  refine ⟨_,fun _=>G02.call152 _ r.c, ?_⟩
  rw [(check_good r.c).2 hgi.good]
  conv=>whnf
  refine ⟨by exact g0,fun h=>(by cases h),fun _=> ?_⟩
  conv=>whnf
  refine ⟨by exact g0,fun hd=> ?_,fun _=> ?_⟩
  ·exfalso
   rw [show Int.toNat 0=0 from rfl,hzi] at hd
   exact absurd hd (by decide)
  conv=>whnf
  have hj2:((r.c.length:Int) - 1).toNat=r.c.length - 1:=by omega
  rw [hj2]
  have e5:decide (1073741824<(r.c.getD (r.c.length - 1) default).y)=false:=decide_eq_false (by omega)
  refine ⟨by exact g0,fun hc=>absurd hc (by rw [e5];decide),fun _=> ?_⟩
  conv=>whnf
  refine ⟨by exact g0,i+1,hlt,by omega,rfl,rfl, ?_, ?_⟩<;>exact ent
 ·conv=>whnf
  refine ⟨_,fun _=>G02.call56 g.most 1000, ?_⟩
  rw [decide_eq_true (show 0≤g.most∧g.most≤1000 by omega)]
  conv=>whnf
  refine ⟨_,fun _=>G02.call56 g.move 1000, ?_⟩
  rw [decide_eq_true (show 0≤g.move∧g.move≤1000 by omega)]
  conv=>whnf
  refine ⟨by exact g0,fun h=>(by cases h),fun _=> ?_⟩
  conv=>whnf
  exact ret
def atN (rt:List Gr) (level:Int):Nat→List Pt
 | 0=> []
 | i+1=>if (rt.getD i default).lv≤level then (rt.getD i default).c else atN rt level i
def atG (g:Ga) (level:Int):List Pt:=atN g.rt level g.rt.length
theorem call222 (τ:Nat) (g:Ga) (level:Int) (h:GOK g):PureCall Tryz.prog 222 [.agg (eGa τ g), .int .i64 level] [] ⟨.agg [.sl τ 2 (atG g level).length (fl ePt (atG g level)), .int .i64 0], [], []⟩:=by
 have hl:=h.len
 refine pure_call mix Tryz.func222 fits222 rfl ?_
 conv=>whnf
 refine ⟨by exact g0, ?_⟩
 refine LSem.loop (n:=24) mix (α:=Nat) (fun i=>i≤g.rt.length)
  (fun i=> [(1, .int .i64 level),(2, .pt 32 0 0),(4, .pt 64 0 0),(5, .pt 80 0 0),(9, .sl τ 2 g.rt.length (fl (eGr 0) g.rt)),(10, .int .i64 g.rt.length),(11, .int .i64 i)])
  (fun i=> [(32, .box (eGa τ g)),(64, .box [.nil 2, .int .i64 0]),(80, .box [.sl τ 2 (atN g.rt level i).length (fl ePt (atN g.rt level i)), .int .i64 0])]) (fun i=>g.rt.length - i) 0 (Nat.zero_le _) ?_ ?_
 ·refine ⟨rfl,rfl, ?_, ?_⟩<;>exact ent
 intro i hi
 have hj:((i:Int)).toNat=i:=by omega
 conv=>whnf
 refine ⟨trivial,fun hc=> ?_,fun hc=> ?_⟩
 ·replace hc:=of_decide_eq_true hc
  have hlt:i<g.rt.length:=by
   have h:(i:Int)<g.rt.length:=hc
   omega
  have hs:atN g.rt level (i+1)=if (g.rt.getD i default).lv≤level then (g.rt.getD i default).c else atN g.rt level i:=rfl
  generalize atN g.rt level i=A at hs⊢
  conv=>whnf
  rw [hj]
  generalize g.rt.getD i default=r at hs⊢
  refine ⟨by exact g0,fun hd=> ?_,fun hd=> ?_⟩
  ·have hd:decide (r.lv≤level)=true:=hd
   simp only [bp] at hd
   rw [if_pos hd] at hs
   conv=>whnf
   refine ⟨by exact g0,i+1,hlt,by omega,rfl,rfl, ?_, ?_⟩
   ·exact ent
   ·rw [hs];exact ent
  ·have hd:decide (r.lv≤level)=false:=hd
   simp only [bp] at hd
   rw [if_neg (by omega)] at hs
   conv=>whnf
   refine ⟨by exact g0,i+1,hlt,by omega,rfl,rfl, ?_, ?_⟩
   ·exact ent
   ·rw [hs];exact ent
 ·replace hc:=of_decide_eq_false hc
  have hk:i=g.rt.length:=by
   have h:¬(i:Int)<g.rt.length:=hc
   omega
  subst hk
  have e:atN g.rt level g.rt.length=atG g level:=rfl
  rw [e]
  generalize atG g level=A
  conv=>whnf
  exact ret
theorem atG_ok {g:Ga} (h:GOK g) (level:Int):(atG g level).length=0∨∃i,i<g.rt.length∧atG g level=(g.rt.getD i default).c:=by
 have:∀n,n≤g.rt.length→(atN g.rt level n).length=0∨∃i,i<g.rt.length∧atN g.rt level n=(g.rt.getD i default).c:=by
  intro n
  induction n with
  | zero=>intro _;exact .inl rfl
  | succ n ih=>
    intro hn
    unfold atN
    split
    ·exact .inr ⟨n,hn,rfl⟩
    ·exact ih (by omega)
 exact this _ (Nat.le_refl _)
theorem valM_rng {c:List Pt} (hm:MadeC c) (x:Int):0≤valC c x∧valC c x≤10000:=by
 have h:=hm.good
 have hl:=hm.len
 have hb:∀i,i<c.length→0≤(c.getD i default).y∧(c.getD i default).y≤10000:=fun i hi=>by
  have:=hm.rng i hi
  omega
 have hn:=h.ne
 by_cases h1:x<(c.getD 0 default).x
 ·rw [val_lo h (by omega)];exact hb 0 hn
 by_cases h2:(c.getD (c.length - 1) default).x≤x
 ·rw [val_hi h h2];exact hb _ (by omega)
 obtain ⟨k,a,b,h3,h4⟩:=find_seg (c:=c) (x:=x) (by omega) (c.length - 1) (by omega) (by omega)
 have hu:=h.up k a (by omega)
 rw [val_seg h a (by omega) h3 (by omega)]
 have m1:=line_mono hu.1 hu.2.1 h3
 have m2:=line_mono hu.1 hu.2.1 (Int.le_of_lt h4)
 rw [line_lo] at m1;rw [line_hi hu.1] at m2
 have:=hb k (by omega)
 have:=hb (k - 1) (by omega)
 omega
def flwV (c:List Pt) (o:Int):Int:=if c.length=0 then 0 else valC c o
def VOK (c:List Pt):Prop:=c.length=0∨MadeC c
theorem flwV_rng {c:List Pt} (h:VOK c) (o:Int):0≤flwV c o∧flwV c o≤10000:=by
 unfold flwV
 split
 ·omega
 ·exact valM_rng (h.resolve_left (by assumption)) o
theorem atG_v {g:Ga} (h:GOK g) (level:Int):VOK (atG g level):=(atG_ok h level).imp id fun ⟨i,hi,e⟩=>by rw [e];exact h.made i hi
theorem call224 (τ:Nat) (c:List Pt) (w o:Int) (h:VOK c):PureCall Tryz.prog 224 [.agg [.sl τ 2 c.length (fl ePt c), .int .i64 w], .int .i64 o] [] ⟨.int .i64 (flwV c o), [], []⟩:=by
 obtain ⟨b,hb⟩:∃b,flwV c o=b:=⟨_,rfl⟩
 rw [hb]
 refine pure_call mix Tryz.func224 fits224 rfl ?_
 conv=>whnf
 refine ⟨by exact g0,fun hd=> ?_,fun hd=> ?_⟩
 ·have hd:((c.length:Int)==0)=true:=hd
  simp only [bp] at hd
  have e:flwV c o=0:=by unfold flwV;rw [if_pos (by omega)]
  rw [←hb,e]
  conv=>whnf
  exact ret
 have hd:((c.length:Int)==0)=false:=hd
 simp only [bp] at hd
 have e:flwV c o=valC c o:=by unfold flwV;rw [if_neg (by omega)]
 rw [←hb,e]
 conv=>whnf
 refine ⟨_,fun _=>G02.call97 _ c o (h.resolve_left (by omega)).good, ?_⟩
 conv=>whnf
 exact ret
theorem call221 (τ:Nat) (c:List Pt) (w o:Int) (h:VOK c):PureCall Tryz.prog 221 [.agg [.sl τ 2 c.length (fl ePt c), .int .i64 w], .int .i64 o] [] ⟨.bool (decide (w≤flwV c o)), [], []⟩:=by
 refine pure_call mix Tryz.func221 fits221 rfl ?_
 conv=>whnf
 refine ⟨_,fun _=>call224 _ c w o h, ?_⟩
 conv=>whnf
 refine ⟨rfl, ?_⟩
 conv=>whnf
 exact ret
def rchG (g:Ga) (s:Gs):Bnd:=if s.jam=true then ⟨s.op,s.op⟩ else ⟨mx (s.op - g.move) 0,mn (s.op+g.move) g.most⟩
theorem call223 (τ:Nat) (g:Ga) (s:Gs) (h:GOK g) (hs:0≤s.op∧s.op≤1000):PureCall Tryz.prog 223 [.agg (eGa τ g), .agg (eGs s)] [] ⟨.agg (eBnd (rchG g s)), [], []⟩:=by
 have hm:=h.move
 obtain ⟨b,hb⟩:∃b,rchG g s=b:=⟨_,rfl⟩
 rw [hb]
 refine pure_call mix Tryz.func223 fits223 rfl ?_
 conv=>whnf
 refine ⟨by exact g0,fun hd=> ?_,fun hd=> ?_⟩
 ·have hd:s.jam=true:=hd
  have e:rchG g s=⟨s.op,s.op⟩:=by unfold rchG;rw [if_pos hd]
  rw [←hb,e]
  conv=>whnf
  exact ret
 have hd:s.jam=false:=hd
 have e:rchG g s=⟨mx (s.op - g.move) 0,mn (s.op+g.move) g.most⟩:=by unfold rchG;rw [if_neg (by rw [hd];decide)]
 rw [←hb,e]
 conv=>whnf
 exact ret
theorem call313 (τ:Nat) (g:Ga) (s:Gs):PureCall Tryz.prog 313 [.agg (eGa τ g), .agg (eGs s)] [] ⟨.bool (decide (0≤s.op∧s.op≤g.most)), [], []⟩:=by
 refine pure_call mix Tryz.func313 fits313 rfl ?_
 conv=>whnf
 refine ⟨_,fun _=>G02.call56 s.op g.most, ?_⟩
 conv=>whnf
 exact ret
structure GsOK (gs:List Ga) (ss:List Gs):Prop where
 le:gs.length≤8
 len:gs.length=ss.length
 ok:∀i,i<gs.length→GOK (gs.getD i default)
 op:∀i,i<gs.length→0≤(ss.getD i default).op∧(ss.getD i default).op≤(gs.getD i default).most
theorem call275 (τ τ':Nat) (gs:List Ga) (ss:List Gs) (level:Int) (h:GsOK gs ss) (hv:0≤level∧level≤16777216):PureCall Tryz.prog 275 [.sl τ 3 gs.length (fl (eGa 0) gs), .sl τ' 2 ss.length (fl eGs ss), .int .i64 level] [] ⟨.int .i64 0, [], []⟩:=by
 obtain ⟨hle,hl,hok,hop⟩:=h
 refine pure_call mix Tryz.func275 fits275 rfl ?_
 conv=>whnf
 have e3:decide ((8:Int)<gs.length)=false:=decide_eq_false (by omega)
 refine ⟨by exact g0,fun hc=>absurd hc (by rw [e3];decide),fun _=> ?_⟩
 conv=>whnf
 refine ⟨by exact g0,fun hc=> ?_,fun _=> ?_⟩
 ·have hc:((gs.length:Int) != ss.length)=true:=hc
  simp only [bp] at hc
  omega
 conv=>whnf
 refine ⟨by exact g0, ?_⟩
 refine LSem.loop (n:=52) mix (α:=Nat) (fun i=>i≤gs.length)
  (fun i=> [(0, .sl τ 3 gs.length (fl (eGa 0) gs)),(1, .sl τ' 2 ss.length (fl eGs ss)),(2, .int .i64 level),(22, .sl τ 3 gs.length (fl (eGa 0) gs)),(23, .int .i64 gs.length),(24, .int .i64 i)])
  (fun i=> []) (fun i=>gs.length - i) 0 (Nat.zero_le _) ?_ ?_
 ·refine ⟨rfl,rfl, ?_, ?_⟩<;>exact ent
 intro i hi
 have hj:((i:Int)).toNat=i:=by omega
 conv=>whnf
 refine ⟨trivial,fun hc=> ?_,fun hc=> ?_⟩
 ·replace hc:=of_decide_eq_true hc
  have hlt:i<gs.length:=by
   have h:(i:Int)<gs.length:=hc
   omega
  have hlt2:i<ss.length:=by omega
  have hoi:=hop i hlt
  conv=>whnf
  rw [hj]
  refine ⟨_,fun _=>call313 _ (gs.getD i default) (ss.getD i default), ?_⟩
  rw [decide_eq_true hoi]
  conv=>whnf
  refine ⟨rfl, ?_⟩
  conv=>whnf
  refine ⟨by exact g0,fun h=>(by cases h),fun _=> ?_⟩
  conv=>whnf
  refine ⟨by exact g0,i+1,hlt,by omega,rfl,rfl, ?_, ?_⟩<;>exact ent
 conv=>whnf
 refine ⟨by exact g0, ?_⟩
 refine LSem.loop (n:=52) mix (α:=Nat) (fun i=>i≤gs.length)
  (fun i=> [(2, .int .i64 level),(37, .sl τ 3 gs.length (fl (eGa 0) gs)),(38, .int .i64 gs.length),(39, .int .i64 i)])
  (fun i=> []) (fun i=>gs.length - i) 0 (Nat.zero_le _) ?_ ?_
 ·refine ⟨rfl,rfl, ?_, ?_⟩<;>exact ent
 intro i hi
 have hj:((i:Int)).toNat=i:=by omega
 conv=>whnf
 refine ⟨trivial,fun hc=> ?_,fun hc=> ?_⟩
 ·replace hc:=of_decide_eq_true hc
  have hlt:i<gs.length:=by
   have h:(i:Int)<gs.length:=hc
   omega
  conv=>whnf
  rw [hj]
  refine ⟨_,fun _=>call218 _ (gs.getD i default) (hok i hlt), ?_⟩
  conv=>whnf
  refine ⟨by exact g0,fun h=>(by cases h),fun _=> ?_⟩
  conv=>whnf
  refine ⟨by exact g0,i+1,hlt,by omega,rfl,rfl, ?_, ?_⟩<;>exact ent
 conv=>whnf
 refine ⟨_,fun _=>G02.call56 level 16777216, ?_⟩
 rw [decide_eq_true hv]
 conv=>whnf
 refine ⟨by exact g0,fun h=>(by cases h),fun _=> ?_⟩
 conv=>whnf
 exact ret
end Pv
end Go.Proofs.YtdcgnfkkklbckaaGreatDoor
