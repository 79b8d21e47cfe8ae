/- (*strings.Builder).String OF A BUILDER THAT HOLDS NOTHING: the empty text. -/
import Derived.Test.YtdcgnfkkklbckaaGreatDoorZmf
import Derived.Test.YtdcgnfkkklbckaaGreatDoorZmg
set_option linter.unusedSimpArgs false
set_option linter.unusedVariables false
set_option maxRecDepth 100000
set_option maxHeartbeats 16000000
namespace Go.Proofs.YtdcgnfkkklbckaaGreatDoor
namespace Pv
def c38L1:C:=(sr [kk 31 (.bi false .lss 30 (cn 5))] (.seq (.cond 31 .skip (.exit 0)) (.seq (.block 1 (sr [km 32 30,km 7 32] (sr [km 33 4,km 34 0,km 35 5,km 36 4,kk 37 (.bi false .sub 35 36),km 38 7,kk 39 (.bi false .sub (cn 5) 38),kk 40 (.bi false .quo 37 39),kk 41 (.bi false .add 40 (cn 1)),kk 42 (cl 12 [34,41]),kk 43 (.bi false .add 33 42),km 4 43] (.reg [km 44 7,km 45 4,kk 46 (.iaa 5 1 6 44),kz (.st 1 46 45)])))) (.reg [kk 47 (.bi false .add 30 (cn 1)),km 30 47]))))
def c38:C:=(sr [kk 2 (.al [(.nil 2),(.int .i64 0),(.int .i64 0),(.int .i64 0),(.int .i64 0),(.int .i64 0)])] (sr [km 8 0,km 9 0,kk 10 (cl 12 [9,(cn 10)]),kk 11 (.bi false .add (cn 100) 10),km 12 0,kk 13 (cl 12 [12,(cn 20)]),kk 14 (cl 88 [8,11,13,(cn 40),(cn 200),(.c (.bool true))]),kk 15 (.bd [(.nil 2),(.int .i64 0),(.int .i64 0),(.int .i64 0),(.int .i64 0),(.int .i64 0)] [(0,1,14)]),kk 3 (.al [(.nil 2),(.int .i64 0),(.int .i64 0),(.int .i64 0),(.int .i64 0),(.int .i64 0)]),kz (.st 6 3 15)] (sr [kk 16 (.fa 0 3),kk 17 (.ld 1 false 16),kk 18 (.ia 2 17 (cn 0)),kk 19 (.fa 0 18),kk 20 (.ld 1 false 19),km 4 20] (sr [kk 21 (.fa 0 3),kk 22 (.ld 1 false 21),kk 23 (.fa 0 3),kk 24 (.ld 1 false 23),kk 25 (.len 24),kk 26 (.bi false .sub 25 (cn 1)),kk 27 (.ia 2 22 26),kk 28 (.fa 0 27),kk 29 (.ld 1 false 28),km 5 29] (sr [kk 6 (.al [(.int .i64 0),(.int .i64 0),(.int .i64 0),(.int .i64 0),(.int .i64 0)])] (.seq (sr [kk 30 (.mv (cn 0))] (.block 0 (.loop c38L1))) (.seq (.drw [kk 48 (.iaa 5 1 6 (cn 0)),kk 49 (.ld 1 false 48),kk 50 (.iaa 5 1 6 (cn 1)),kk 51 (.ld 1 false 50),kk 52 (.iaa 5 1 6 (cn 2)),kk 53 (.ld 1 false 52),kk 54 (.iaa 5 1 6 (cn 3)),kk 55 (.ld 1 false 54),kk 56 (.iaa 5 1 6 (cn 4)),kk 57 (.ld 1 false 56),kk 58 (.fa 1 3),kz (.st 1 58 49),kk 59 (.fa 2 3),kz (.st 1 59 51),kk 60 (.fa 3 3),kz (.st 1 60 53),kk 61 (.fa 4 3),kz (.st 1 61 55),kk 62 (.fa 5 3),kz (.st 1 62 57)] (pl [(0,[2,3,4,5,6,7,8,9],48),(1,[2,3,4,5,6,7,8,9],49),(2,[4,5,6,7,8,9,10,11],50),(3,[4,5,6,7,8,9,10,11],51),(4,[6,7,8,9,10,11,12,13],52),(5,[6,7,8,9,10,11,12,13],53),(6,[8,9,10,11,12,13,14,15],54),(7,[8,9,10,11,12,13,14,15],55),(8,[10,11,12,13,14,15,16,17],56),(9,[10,11,12,13,14,15,16,17],57)])) (sr [kk 63 (.ld 6 true 3),kz (.st 6 2 63)] .ret))))))))
theorem fits38:fits Tryz.prog false Tryz.f38 1 64 [(2,some (6,true))]=some c38.er:=by kernel_rfl
structure Rv where
 st:List Pt
 dead:Int
 low:Int
 full:Int
 sur:Int
 crest:Int
 deriving Inhabited
def eRv (τ:Nat) (r:Rv):List PV:= [.sl τ 2 r.st.length (fl ePt r.st), .int .i64 r.dead, .int .i64 r.low, .int .i64 r.full, .int .i64 r.sur, .int .i64 r.crest]
def resL (r:Rv):List Int:= [(r.st.getD 0 default).x,r.dead,r.low,r.full,r.sur,r.crest,(r.st.getD (r.st.length - 1) default).x]
def resP1 (r:Rv):Prop:=∀i,i<r.st.length→(r.st.getD i default).x≤16777216
def resP2 (r:Rv):Prop:=∀i,i<r.st.length→0<i→(r.st.getD (i - 1) default).y<(r.st.getD i default).y
def resP3 (r:Rv):Prop:=∀i,i<7→0<i→(resL r).getD (i - 1) default≤(resL r).getD i default
instance (r:Rv):Decidable (resP1 r):=by unfold resP1;infer_instance
instance (r:Rv):Decidable (resP2 r):=by unfold resP2;infer_instance
instance (r:Rv):Decidable (resP3 r):=by unfold resP3;infer_instance
def lvD (last:Int) (i:Int) (a:Int):Int:=(last - a) / (5 - i)+1
def lvN (last:Int) (i:Int) (s:Int×Dk):Int×Dk:=(s.1+nxt s.2 (lvD last i s.1),nxtD s.2 (lvD last i s.1))
def lvS (last:Int) (s:Int×Dk):Nat→Int×Dk
 | 0=>s
 | i+1=>lvN last i (lvS last s i)
def resC (d:Dk):Cst:=curveS (nxtD (nxtD d 10) 20) (100+nxt d 10) (nxt (nxtD d 10) 20) 40 200 1
def resS (c:Cst):Nat→Int×Dk:=lvS (c.L.getD (c.L.length - 1) default).x ((c.L.getD 0 default).x,c.d)
def resF (d:Dk):Rv×Dk:=(⟨(resC d).L,(resS (resC d) 1).1,(resS (resC d) 2).1,(resS (resC d) 3).1,(resS (resC d) 4).1,(resS (resC d) 5).1⟩,(resS (resC d) 5).2)
theorem lvS_ok {last:Int} {s:Int×Dk} (h:s.1≤last):∀i,i≤5→(s.1≤(lvS last s i).1∧(lvS last s i).1≤last)∧(lvS last s i).2.at_≤s.2.at_+i
 | 0,_=>by simp only [lvS];omega
 | i+1,hi=>by
   have ih:=lvS_ok h i (by omega)
   simp only [lvS,lvN]
   generalize lvS last s i=t at ih⊢
   have hq:0≤(last - t.1) / (5 - (i:Int))∧(last - t.1) / (5 - (i:Int))≤last - t.1:=⟨Int.ediv_nonneg (by omega) (by omega),Int.ediv_le_self _ (by omega)⟩
   have r:=nxt_lt t.2 (n:=lvD last i t.1) (by unfold lvD;omega)
   have a:=nxtD_at t.2 (lvD last i t.1)
   unfold lvD at r a⊢
   omega
theorem made_ends {c:List Pt} (h:MadeC c):0≤(c.getD 0 default).x∧(c.getD 0 default).x≤(c.getD (c.length - 1) default).x∧(c.getD (c.length - 1) default).x≤6000:=by
 have h1:=h.len
 have h2:=(h.good).xs (c.length - 1) 0 (by omega)
 have h3:=h.rng 0 (by omega)
 have h4:=h.rng (c.length - 1) (by omega)
 rw [Nat.zero_add] at h2
 omega
theorem resC_ok (d:Dk):MadeC (resC d).L∧(resC d).d.at_≤d.at_+11:=by
 have r1:=nxt_lt d (n:=10) (by omega)
 have a1:=nxtD_at d 10
 have r2:=nxt_lt (nxtD d 10) (n:=20) (by omega)
 have a2:=nxtD_at (nxtD d 10) 20
 have h:=curve_made (nxtD (nxtD d 10) 20) (x:=100+nxt d 10) (y:=nxt (nxtD d 10) 20) (dx:=40) (dy:=200) (least:=1) (by omega) (by omega) (by omega) (by omega) (by omega)
 unfold resC
 exact ⟨h.1,by omega⟩
theorem resF_at (d:Dk):(resF d).2.at_≤d.at_+16:=by
 have h:=resC_ok d
 have he:=made_ends h.1
 have:=(lvS_ok (last:=((resC d).L.getD ((resC d).L.length - 1) default).x) (s:=(((resC d).L.getD 0 default).x,(resC d).d)) he.2.1 5 (Nat.le_refl _)).2
 unfold resF resS
 dsimp only at this⊢
 omega
theorem call38 (d:Dk) (hd:d.at_≤970000000):PureCall Tryz.prog 38 [.pt 0 0 0] [.box (eDk 1 d)] ⟨.agg (eRv 0 (resF d).1), [.box (eDk 1 (resF d).2)], []⟩:=by
 refine pure_call mix Tryz.func38 fits38 rfl ?_
 conv=>whnf
 have hC:=resC_ok d
 have hCd:resC d=curveS (nxtD (nxtD d 10) 20) (100+nxt d 10) (nxt (nxtD d 10) 20) 40 200 1:=rfl
 refine ⟨_,fun _=>call_next 1 d 10 (by omega) (by omega), ?_⟩
 have r1:=nxt_lt d (n:=10) (by omega)
 have a1:=nxtD_at d 10
 conv=>whnf
 refine ⟨_,fun _=>call_next 1 (nxtD d 10) 20 (by omega) (by omega), ?_⟩
 have r2:=nxt_lt (nxtD d 10) (n:=20) (by omega)
 have a2:=nxtD_at (nxtD d 10) 20
 conv=>whnf
 refine ⟨_,fun _=>call88 (nxtD (nxtD d 10) 20) (100+nxt d 10) (nxt (nxtD d 10) 20) 40 200 true (by omega) (by omega) (by omega) (by omega) (by omega), ?_⟩
 rw [show lst true=1 from rfl,←hCd]
 unfold resF
 have hS:resS (resC d)=lvS ((resC d).L.getD ((resC d).L.length - 1) default).x (((resC d).L.getD 0 default).x,(resC d).d):=rfl
 generalize resC d=c at hC hS⊢
 obtain ⟨hM,hat⟩:=hC
 have hlen:=hM.len
 have he:=made_ends hM
 have hok:=lvS_ok (last:=(c.L.getD (c.L.length - 1) default).x) (s:=((c.L.getD 0 default).x,c.d)) he.2.1
 have hjl:((c.L.length:Int) - 1).toNat=c.L.length - 1:=by omega
 conv=>whnf
 rw [hjl]
 generalize (c.L.getD (c.L.length - 1) default).x=last at he hok hS⊢
 rw [←hS] at hok
 have h0:resS c 0=((c.L.getD 0 default).x,c.d):=by rw [hS];rfl
 have hn:∀i,resS c (i+1)=lvN last i (resS c i):=fun i=>by rw [hS];rfl
 clear hS
 generalize resS c=S at hok h0 hn⊢
 refine ⟨?_, ?_⟩
 ·exact g0
 refine LSem.loop (n:=64) mix (α:=Nat) (fun i=>i≤5)
  (fun i=> [(0, .pt 0 0 0),(2, .pt 32 0 0),(3, .pt 48 0 0),(4, .int .i64 (S i).1),(5, .int .i64 last),(6, .pt 96 0 0),(30, .int .i64 i)])
  (fun i=> [(0, .box (eDk 1 (S i).2)),(32, .box [.nil 2, .int .i64 0, .int .i64 0, .int .i64 0, .int .i64 0, .int .i64 0]),(48, .box [.sl 0 2 c.L.length (fl ePt c.L), .int .i64 0, .int .i64 0, .int .i64 0, .int .i64 0, .int .i64 0]),
   (96, .box [.int .i64 (if 0<i then (S 1).1 else 0), .int .i64 (if 1<i then (S 2).1 else 0), .int .i64 (if 2<i then (S 3).1 else 0), .int .i64 (if 3<i then (S 4).1 else 0), .int .i64 (if 4<i then (S 5).1 else 0)])])
  (fun i=>5 - i) 0 ?_ ?_ ?_
 ·exact Nat.zero_le _
 ·refine ⟨rfl,rfl, ?_, ?_⟩
  all_goals repeat' (first | exact True.intro | refine leF_cons rfl ?_ ?_ | refine leS_cons rfl ?_ ?_ | (show PLe _ _ _ _;conv=>whnf) | (show SLe _ _ _ _;conv=>whnf) | (show PLeL _ _ _ _;conv=>whnf) | apply And.intro | rfl | exact Nat.le_refl _ | exact fun _ _=>rfl | exact rowEq0 _ _)
  all_goals first | (rw [h0];done) | (rw [h0];rfl) | (rw [h0];exact fun _ _=>rfl) | skip
 ·intro i hi
  have h012345:i=0∨i=1∨i=2∨i=3∨i=4∨i=5:=by omega
  have hoi:=hok i hi
  dsimp only at hoi
  have hni:=hn i
  have hq:=fun h5:i<5=>(show 0≤(last - (S i).1) / (5 - (i:Int))∧(last - (S i).1) / (5 - (i:Int))≤last - (S i).1 from ⟨Int.ediv_nonneg (by omega) (by omega),Int.ediv_le_self _ (by omega)⟩)
  rcases h012345 with rfl | rfl | rfl | rfl | rfl | rfl
  ·conv=>whnf
   refine ⟨trivial,fun _=> ?_,fun h=>(by cases h)⟩
   have hdiv:Int.tdiv (last - (S 0).1) (5 - ((0:Nat):Int))=(last - (S 0).1) / (5 - ((0:Nat):Int)):=Int.tdiv_eq_ediv_of_nonneg (by omega)
   have hqi:=hq (by omega)
   conv=>whnf
   rw [hdiv]
   have r:=nxt_lt (S 0).2 (n:=(last - (S 0).1) / (5 - ((0:Nat):Int))+1) (by omega)
   have a:=nxtD_at (S 0).2 ((last - (S 0).1) / (5 - ((0:Nat):Int))+1)
   refine ⟨_,fun _=>call_next 1 (S 0).2 ((last - (S 0).1) / (5 - ((0:Nat):Int))+1) (by omega) (by omega), ?_⟩
   have h1:(S 1).1=(S 0).1+nxt (S 0).2 ((last - (S 0).1) / (5 - ((0:Nat):Int))+1):=by rw [hni];rfl
   have h2:(S 1).2=nxtD (S 0).2 ((last - (S 0).1) / (5 - ((0:Nat):Int))+1):=by rw [hni];rfl
   rw [←h2]
   conv=>whnf
   rw [←h1]
   refine ⟨?_,1,by omega,by omega,rfl,rfl, ?_, ?_⟩
   ·exact g0
   all_goals exact ent
   all_goals first | omega | skip
  ·conv=>whnf
   refine ⟨trivial,fun _=> ?_,fun h=>(by cases h)⟩
   have hdiv:Int.tdiv (last - (S 1).1) (5 - ((1:Nat):Int))=(last - (S 1).1) / (5 - ((1:Nat):Int)):=Int.tdiv_eq_ediv_of_nonneg (by omega)
   have hqi:=hq (by omega)
   conv=>whnf
   rw [hdiv]
   have r:=nxt_lt (S 1).2 (n:=(last - (S 1).1) / (5 - ((1:Nat):Int))+1) (by omega)
   have a:=nxtD_at (S 1).2 ((last - (S 1).1) / (5 - ((1:Nat):Int))+1)
   refine ⟨_,fun _=>call_next 1 (S 1).2 ((last - (S 1).1) / (5 - ((1:Nat):Int))+1) (by omega) (by omega), ?_⟩
   have h1:(S 2).1=(S 1).1+nxt (S 1).2 ((last - (S 1).1) / (5 - ((1:Nat):Int))+1):=by rw [hni];rfl
   have h2:(S 2).2=nxtD (S 1).2 ((last - (S 1).1) / (5 - ((1:Nat):Int))+1):=by rw [hni];rfl
   rw [←h2]
   conv=>whnf
   rw [←h1]
   refine ⟨?_,2,by omega,by omega,rfl,rfl, ?_, ?_⟩
   ·exact g0
   all_goals exact ent
   all_goals first | omega | skip
  ·conv=>whnf
   refine ⟨trivial,fun _=> ?_,fun h=>(by cases h)⟩
   have hdiv:Int.tdiv (last - (S 2).1) (5 - ((2:Nat):Int))=(last - (S 2).1) / (5 - ((2:Nat):Int)):=Int.tdiv_eq_ediv_of_nonneg (by omega)
   have hqi:=hq (by omega)
   conv=>whnf
   rw [hdiv]
   have r:=nxt_lt (S 2).2 (n:=(last - (S 2).1) / (5 - ((2:Nat):Int))+1) (by omega)
   have a:=nxtD_at (S 2).2 ((last - (S 2).1) / (5 - ((2:Nat):Int))+1)
   refine ⟨_,fun _=>call_next 1 (S 2).2 ((last - (S 2).1) / (5 - ((2:Nat):Int))+1) (by omega) (by omega), ?_⟩
   have h1:(S 3).1=(S 2).1+nxt (S 2).2 ((last - (S 2).1) / (5 - ((2:Nat):Int))+1):=by rw [hni];rfl
   have h2:(S 3).2=nxtD (S 2).2 ((last - (S 2).1) / (5 - ((2:Nat):Int))+1):=by rw [hni];rfl
   rw [←h2]
   conv=>whnf
   rw [←h1]
   refine ⟨?_,3,by omega,by omega,rfl,rfl, ?_, ?_⟩
   ·exact g0
   all_goals exact ent
   all_goals first | omega | skip
  ·conv=>whnf
   refine ⟨trivial,fun _=> ?_,fun h=>(by cases h)⟩
   have hdiv:Int.tdiv (last - (S 3).1) (5 - ((3:Nat):Int))=(last - (S 3).1) / (5 - ((3:Nat):Int)):=Int.tdiv_eq_ediv_of_nonneg (by omega)
   have hqi:=hq (by omega)
   conv=>whnf
   rw [hdiv]
   have r:=nxt_lt (S 3).2 (n:=(last - (S 3).1) / (5 - ((3:Nat):Int))+1) (by omega)
   have a:=nxtD_at (S 3).2 ((last - (S 3).1) / (5 - ((3:Nat):Int))+1)
   refine ⟨_,fun _=>call_next 1 (S 3).2 ((last - (S 3).1) / (5 - ((3:Nat):Int))+1) (by omega) (by omega), ?_⟩
   have h1:(S 4).1=(S 3).1+nxt (S 3).2 ((last - (S 3).1) / (5 - ((3:Nat):Int))+1):=by rw [hni];rfl
   have h2:(S 4).2=nxtD (S 3).2 ((last - (S 3).1) / (5 - ((3:Nat):Int))+1):=by rw [hni];rfl
   rw [←h2]
   conv=>whnf
   rw [←h1]
   refine ⟨?_,4,by omega,by omega,rfl,rfl, ?_, ?_⟩
   ·exact g0
   all_goals exact ent
   all_goals first | omega | skip
  ·conv=>whnf
   refine ⟨trivial,fun _=> ?_,fun h=>(by cases h)⟩
   have hdiv:Int.tdiv (last - (S 4).1) (5 - ((4:Nat):Int))=(last - (S 4).1) / (5 - ((4:Nat):Int)):=Int.tdiv_eq_ediv_of_nonneg (by omega)
   have hqi:=hq (by omega)
   conv=>whnf
   rw [hdiv]
   have r:=nxt_lt (S 4).2 (n:=(last - (S 4).1) / (5 - ((4:Nat):Int))+1) (by omega)
   have a:=nxtD_at (S 4).2 ((last - (S 4).1) / (5 - ((4:Nat):Int))+1)
   refine ⟨_,fun _=>call_next 1 (S 4).2 ((last - (S 4).1) / (5 - ((4:Nat):Int))+1) (by omega) (by omega), ?_⟩
   have h1:(S 5).1=(S 4).1+nxt (S 4).2 ((last - (S 4).1) / (5 - ((4:Nat):Int))+1):=by rw [hni];rfl
   have h2:(S 5).2=nxtD (S 4).2 ((last - (S 4).1) / (5 - ((4:Nat):Int))+1):=by rw [hni];rfl
   rw [←h2]
   conv=>whnf
   rw [←h1]
   refine ⟨?_,5,by omega,by omega,rfl,rfl, ?_, ?_⟩
   ·exact g0
   all_goals exact ent
   all_goals first | omega | skip
  ·conv=>whnf
   refine ⟨trivial,fun h=>(by cases h),fun _=> ?_⟩
   conv=>whnf
   refine ⟨rfl, ?_⟩
   conv=>whnf
   refine ⟨?_, [], ?_⟩
   ·exact g0
   conv=>whnf
   refine ⟨rfl, ?_, ?_,trivial⟩
   all_goals exact ent
def c158L1:C:=(.seq (sr [km 29 5,km 30 4,kk 31 (.bi false .lss 29 30)] (.cond 31 .skip (.exit 1))) (.seq (.block 2 (.seq (.drw [kk 34 (.fa 0 1),kk 35 (.ld 1 false 34),km 36 5,kk 37 (.ia 2 35 36),kk 38 (.fa 1 37),kk 39 (.ld 1 false 38),kk 40 (.fa 0 1),kk 41 (.ld 1 false 40),km 42 5,kk 43 (.bi false .sub 42 (cn 1)),kk 44 (.ia 2 41 43),kk 45 (.fa 1 44),kk 46 (.ld 1 false 45),kk 47 (.bi false .leq 39 46)] (pl [(0,[2,6,7,8,9,10,11,12],34),(1,[2,6,7,8,9,10,11,12],35),(2,[6,7,8,9,10,11,12],36),(3,[6,7,8,9,10,11,12],37),(4,[6,7,8,9,10,11,12],38),(5,[6,7,8,9,10,11,12],39),(6,[8,9],40),(7,[8,9],41)])) (.cond 47 (sr [kk 2 (.mv (cn 4))] .ret) .skip))) (.reg [km 32 5,kk 33 (.bi false .add 32 (cn 1)),km 5 33])))
def c158L2:C:=(.seq (sr [km 71 7,kk 72 (.bi false .lss 71 (cn 7))] (.cond 72 .skip (.exit 3))) (.seq (.block 4 (.seq (.drw [km 75 7,kk 76 (.iaa 7 1 6 75),kk 77 (.ld 1 false 76),km 78 7,kk 79 (.bi false .sub 78 (cn 1)),kk 80 (.iaa 7 1 6 79),kk 81 (.ld 1 false 80),kk 82 (.bi false .lss 77 81)] (pl [(0,[3,4,5,6],75),(1,[3,4,5,6],76),(2,[3,4,5,6],77)])) (.cond 82 (sr [kk 2 (.mv (cn 4))] .ret) .skip))) (.reg [km 73 7,kk 74 (.bi false .add 73 (cn 1)),km 7 74])))
def c158:C:=(sr [kk 1 (.bx 6 0),kk 2 (.mv (cn 0))] (.seq (sr [kk 8 (.fa 0 1),kk 9 (.ld 1 false 8),kk 10 (cl 152 [9]),km 3 10] (sr [km 11 3,kk 12 (.bi false .neq 11 (cn 0))] (.cond 12 (sr [km 13 3,km 2 13] .ret) .skip))) (sr [kk 14 (.fa 0 1),kk 15 (.ld 1 false 14),kk 16 (.len 15),km 4 16] (.seq (.block 0 (sr [km 18 4,kk 19 (.bi false .lss 18 (cn 2)),km 17 19] (.cond 17 (sr [kk 2 (.mv (cn 3))] .ret) (sr [kk 21 (.fa 0 1),kk 22 (.ld 1 false 21),km 23 4,kk 24 (.bi false .sub 23 (cn 1)),kk 25 (.ia 2 22 24),kk 26 (.fa 0 25),kk 27 (.ld 1 false 26),kk 28 (.bi false .gtr 27 (cn 16777216)),km 20 28] (.cond 20 (sr [kk 2 (.mv (cn 1))] .ret) .skip))))) (.seq (sr [kk 5 (.mv (cn 1))] (.block 1 (.loop c158L1))) (.seq (.drw [kk 48 (.fa 0 1),kk 49 (.ld 1 false 48),kk 50 (.ia 2 49 (cn 0)),kk 51 (.fa 0 50),kk 52 (.ld 1 false 51),kk 53 (.fa 1 1),kk 54 (.ld 1 false 53),kk 55 (.fa 2 1),kk 56 (.ld 1 false 55),kk 57 (.fa 3 1),kk 58 (.ld 1 false 57),kk 59 (.fa 4 1),kk 60 (.ld 1 false 59),kk 61 (.fa 5 1),kk 62 (.ld 1 false 61),kk 63 (.fa 0 1),kk 64 (.ld 1 false 63),km 65 4,kk 66 (.bi false .sub 65 (cn 1)),kk 67 (.ia 2 64 66),kk 68 (.fa 0 67),kk 69 (.ld 1 false 68),kk 70 (.bd [(.int .i64 0),(.int .i64 0),(.int .i64 0),(.int .i64 0),(.int .i64 0),(.int .i64 0),(.int .i64 0)] [(0,1,52),(1,1,54),(2,1,56),(3,1,58),(4,1,60),(5,1,62),(6,1,69)]),kk 6 (.al [(.int .i64 0),(.int .i64 0),(.int .i64 0),(.int .i64 0),(.int .i64 0),(.int .i64 0),(.int .i64 0)]),kz (.st 7 6 70)] (pl [(0,[5,6,7,8,9,10,11,12,13,14,15,16,17,18,19,20,21,23],48),(1,[5,6,7,8,9,10,11,12,13,14,15,16,17,18,19,20,21,23],49),(2,[5,6,7,8,9,10,11,12,13,14,15,16,17,18,19,20,21,23],50),(3,[5,6,7,8,9,10,11,12,13,14,15,16,17,18,19,20,21,23],51),(4,[5,6,7,8,9,10,11,12,13,14,15,16,17,18,19,20,21,23],52),(5,[7,8,9,10,11,12,13,14,15,16,17,18,19,20,21,23],53),(6,[7,8,9,10,11,12,13,14,15,16,17,18,19,20,21,23],54),(7,[9,10,11,12,13,14,15,16,17,18,19,20,21,23],55),(8,[9,10,11,12,13,14,15,16,17,18,19,20,21,23],56),(9,[11,12,13,14,15,16,17,18,19,20,21,23],57),(10,[11,12,13,14,15,16,17,18,19,20,21,23],58),(11,[13,14,15,16,17,18,19,20,21,23],59),(12,[13,14,15,16,17,18,19,20,21,23],60),(13,[15,16,17,18,19,20,21,23],61),(14,[15,16,17,18,19,20,21,23],62),(15,[17,18,23],63),(16,[17,18,23],64),(17,[23],65),(18,[23],66),(19,[23],67),(20,[23],68),(21,[23],69),(22,[23],70)])) (.seq (sr [kk 7 (.mv (cn 1))] (.block 3 (.loop c158L2))) (sr [kk 2 (.mv (cn 0))] .ret))))))))
theorem fits158:fits Tryz.prog false Tryz.f158 1 83 [(2,none)]=some c158.er:=by kernel_rfl
def c96:C:=(sr [kk 3 (.bx 6 0),kk 6 (.mv (cn 0))] (.seq (sr [kk 8 (.ld 6 true 3),kk 9 (cl 158 [8]),km 7 9] (sr [km 10 7,kk 11 (.bi false .neq 10 (cn 0))] (.cond 11 (sr [km 12 7,km 6 12] .ret) .skip))) (.seq (sr [km 13 1,kk 14 (cl 56 [13,(cn 274877906944)]),kk 15 (.un false .not 14),km 16 15,kg 17 16 false (.mv 2),kg 18 16 false (cl 56 [17,(cn 16777216)]),kg 19 16 false (.un false .not 18),kk 20 (.pick 16 (.c (.bool true)) 19)] (.cond 20 (sr [kk 6 (.mv (cn 1))] .ret) .skip)) (sr [kk 6 (.mv (cn 0))] .ret))))
theorem fits96:fits Tryz.prog false Tryz.f96 3 21 [(6,none)]=some c96.er:=by kernel_rfl
def c39:C:=(sr [kk 2 (.bx 6 0),kk 4 (.mv (cn 0)),kk 5 (.mv (cn 0))] (.seq (sr [kk 7 (.ld 6 true 2),km 8 1,kk 9 (cl 96 [7,(cn 0),8]),km 6 9] (sr [km 10 6,kk 11 (.bi false .neq 10 (cn 0))] (.cond 11 (sr [km 12 6,kk 4 (.mv (cn 0)),km 5 12] .ret) .skip))) (sr [kk 13 (.fa 0 2),kk 14 (.ld 1 false 13),km 15 1,kk 16 (cl 97 [14,15]),km 4 16,kk 5 (.mv (cn 0))] .ret)))
theorem fits39:fits Tryz.prog false Tryz.f39 2 17 [(4,none),(5,none)]=some c39.er:=by kernel_rfl
structure RvOK (r:Rv):Prop where
 g:GoodC r.st
 n:2≤r.st.length
 p1:resP1 r
 p2:resP2 r
 p3:resP3 r
theorem call158 (τ:Nat) (r:Rv) (h:RvOK r):PureCall Tryz.prog 158 [.agg (eRv τ r)] [] ⟨.int .i64 0, [], []⟩:=by
 obtain ⟨hg,hn,p1,p2,p3⟩:=h
 have hle:=hg.le
 refine pure_call mix Tryz.func158 fits158 rfl ?_
 conv=>whnf
 refine ⟨_,fun _=>G02.call152 _ r.st, ?_⟩
 rw [(check_good r.st).2 hg]
 conv=>whnf
 refine ⟨by exact g0,fun h=>absurd h (by decide),fun _=> ?_⟩
 conv=>whnf
 refine ⟨by exact g0,fun h=> ?_,fun _=> ?_⟩
 ·have h:(r.st.length:Int)<2:=of_decide_eq_true h
  omega
 have e1:((r.st.length:Int) - 1).toNat=r.st.length - 1:=by omega
 have r1:=hg.rng (r.st.length - 1) (by omega)
 have l1:=p1 (r.st.length - 1) (by omega)
 conv=>whnf
 rw [e1]
 refine ⟨by exact g0,fun h=> ?_,fun _=> ?_⟩
 ·have h:16777216<(r.st.getD (r.st.length - 1) default).x:=of_decide_eq_true h
  omega
 conv=>whnf
 refine ⟨by exact g0, ?_⟩
 refine LSem.loop (n:=83) mix (α:=Nat) (fun i=>1≤i∧i≤r.st.length)
  (fun i=> [(1, .pt 16 0 0),(4, .int .i64 r.st.length),(5, .int .i64 i)])
  (fun i=> [(16, .box (eRv τ r))]) (fun i=>r.st.length - i) 1 ⟨Nat.le_refl _,by omega⟩ ?_ ?_
 ·refine ⟨rfl,rfl, ?_, ?_⟩<;>exact ent
 rintro i ⟨hi1,hi⟩
 conv=>whnf
 refine ⟨by exact g0,fun hc=> ?_,fun hc=> ?_⟩
 ·replace hc:=of_decide_eq_true hc
  have hlt:i<r.st.length:=by
   have h:(i:Int)<r.st.length:=hc
   omega
  have hj:((i:Int)).toNat=i:=by omega
  have hj1:((i:Int) - 1).toNat=i - 1:=by omega
  have hp:=p2 i hlt hi1
  conv=>whnf
  rw [hj,hj1]
  refine ⟨rfl, ?_⟩
  conv=>whnf
  refine ⟨by exact g0,fun h=> ?_,fun _=> ?_⟩
  ·have h:(r.st.getD i default).y≤(r.st.getD (i - 1) default).y:=of_decide_eq_true h
   omega
  conv=>whnf
  refine ⟨by exact g0,i+1,⟨by omega,by omega⟩,by omega,rfl,rfl, ?_, ?_⟩<;>exact ent
 conv=>whnf
 rw [e1]
 refine ⟨rfl, ?_⟩
 conv=>whnf
 refine ⟨by exact g0, ?_⟩
 refine LSem.loop (n:=83) mix (α:=Nat) (fun i=>1≤i∧i≤7)
  (fun i=> [(6, .pt 96 0 0),(7, .int .i64 i)])
  (fun i=> [(96, .box [.int .i64 (r.st.getD 0 default).x, .int .i64 r.dead, .int .i64 r.low, .int .i64 r.full, .int .i64 r.sur, .int .i64 r.crest, .int .i64 (r.st.getD (r.st.length - 1) default).x])]) (fun i=>7 - i) 1 ⟨Nat.le_refl _,by omega⟩ ?_ ?_
 ·refine ⟨rfl,rfl, ?_, ?_⟩<;>exact ent
 rintro i ⟨hi1,hi⟩
 conv=>whnf
 refine ⟨by exact g0,fun hc=> ?_,fun hc=> ?_⟩
 ·replace hc:=of_decide_eq_true hc
  have hlt:i<7:=by
   have h:(i:Int)<7:=hc
   omega
  have hp:=p3 i hlt hi1
  obtain rfl | rfl | rfl | rfl | rfl | rfl:i=1∨i=2∨i=3∨i=4∨i=5∨i=6:=by omega
  ·conv=>whnf
   refine ⟨rfl, ?_⟩
   conv=>whnf
   refine ⟨by exact g0,fun h=>absurd (of_decide_eq_true h) (Int.not_lt.2 hp),fun _=> ?_⟩
   conv=>whnf
   refine ⟨by exact g0,2,⟨by omega,by omega⟩,by omega,rfl,rfl, ?_, ?_⟩<;>exact ent
  ·conv=>whnf
   refine ⟨rfl, ?_⟩
   conv=>whnf
   refine ⟨by exact g0,fun h=>absurd (of_decide_eq_true h) (Int.not_lt.2 hp),fun _=> ?_⟩
   conv=>whnf
   refine ⟨by exact g0,3,⟨by omega,by omega⟩,by omega,rfl,rfl, ?_, ?_⟩<;>exact ent
  ·conv=>whnf
   refine ⟨rfl, ?_⟩
   conv=>whnf
   refine ⟨by exact g0,fun h=>absurd (of_decide_eq_true h) (Int.not_lt.2 hp),fun _=> ?_⟩
   conv=>whnf
   refine ⟨by exact g0,4,⟨by omega,by omega⟩,by omega,rfl,rfl, ?_, ?_⟩<;>exact ent
  ·conv=>whnf
   refine ⟨rfl, ?_⟩
   conv=>whnf
   refine ⟨by exact g0,fun h=>absurd (of_decide_eq_true h) (Int.not_lt.2 hp),fun _=> ?_⟩
   conv=>whnf
   refine ⟨by exact g0,5,⟨by omega,by omega⟩,by omega,rfl,rfl, ?_, ?_⟩<;>exact ent
  ·conv=>whnf
   refine ⟨rfl, ?_⟩
   conv=>whnf
   refine ⟨by exact g0,fun h=>absurd (of_decide_eq_true h) (Int.not_lt.2 hp),fun _=> ?_⟩
   conv=>whnf
   refine ⟨by exact g0,6,⟨by omega,by omega⟩,by omega,rfl,rfl, ?_, ?_⟩<;>exact ent
  ·conv=>whnf
   refine ⟨rfl, ?_⟩
   conv=>whnf
   refine ⟨by exact g0,fun h=>absurd (of_decide_eq_true h) (Int.not_lt.2 hp),fun _=> ?_⟩
   conv=>whnf
   refine ⟨by exact g0,7,⟨by omega,by omega⟩,by omega,rfl,rfl, ?_, ?_⟩<;>exact ent
 conv=>whnf
 exact ret
theorem call96 (τ:Nat) (r:Rv) (v s:Int) (h:RvOK r) (hv:0≤v∧v≤274877906944) (hs:0≤s∧s≤16777216):PureCall Tryz.prog 96 [.agg (eRv τ r), .int .i64 v, .int .i64 s] [] ⟨.int .i64 0, [], []⟩:=by
 refine pure_call mix Tryz.func96 fits96 rfl ?_
 conv=>whnf
 refine ⟨_,fun _=>call158 _ r h, ?_⟩
 conv=>whnf
 refine ⟨by exact g0,fun h=>absurd h (by decide),fun _=> ?_⟩
 conv=>whnf
 refine ⟨_,fun _=>G02.call56 v 274877906944, ?_⟩
 rw [decide_eq_true hv]
 conv=>whnf
 refine ⟨_,fun _=>G02.call56 s 16777216, ?_⟩
 rw [decide_eq_true hs]
 conv=>whnf
 refine ⟨by exact g0,fun h=>absurd h (by decide),fun _=> ?_⟩
 conv=>whnf
 exact ret
theorem call39 (τ:Nat) (r:Rv) (s:Int) (h:RvOK r) (hs:0≤s∧s≤16777216):PureCall Tryz.prog 39 [.agg (eRv τ r), .int .i64 s] [] ⟨.tup [.int .i64 (valC r.st s), .int .i64 0], [], []⟩:=by
 refine pure_call mix Tryz.func39 fits39 rfl ?_
 conv=>whnf
 refine ⟨_,fun _=>call96 _ r 0 s h ⟨by omega,by omega⟩ hs, ?_⟩
 conv=>whnf
 refine ⟨by exact g0,fun h=>absurd h (by decide),fun _=> ?_⟩
 conv=>whnf
 refine ⟨_,fun _=>G02.call97 _ r.st s h.g, ?_⟩
 conv=>whnf
 exact ret
namespace TX
def c40L1:C:=(sr [kk 10 (.bi false .lss 9 8)] (.seq (.cond 10 .skip (.exit 0)) (.seq (.block 1 (.reg [km 11 7,km 12 0,km 13 2,kk 14 (cl 12 [12,13]),kk 15 (.bs 3 1 [14]),kk 16 (.app 3 1 8 11 15),km 7 16])) (.reg [kk 17 (.bi false .add 9 (cn 1)),km 9 17]))))
def c40:C:=(sr [kk 6 (.mv (.c (.nil 1)))] (sr [kk 7 (.mv (.c (.nil 1)))] (.seq (sr [km 8 1,kk 9 (.mv (cn 0))] (.block 0 (.loop c40L1))) (sr [km 18 7,km 6 18] .ret))))
theorem fits40:fits Tryz.prog false Tryz.f40 3 19 [(6,none)]=some c40.er:=by kernel_rfl
def c206:C:=(sr [kk 3 (.mv (.c (.bool false)))] (sr [km 4 0,kk 5 (.ld 1 false 1),kk 6 (cl 56 [4,5]),kk 7 (.un false .not 6),km 3 7] .ret))
theorem fits206:fits Tryz.prog false Tryz.f206 2 8 [(3,none)]=some c206.er:=by kernel_rfl
def c205:C:=(sr [kk 1 (.bx 1 0),kk 2 (.mv (.c (.raw .nilFunc)))] (sr [kk 3 (.mf (.func 206) [] [1]),km 2 3] .ret))
theorem fits205:fits Tryz.prog false Tryz.f205 1 4 [(2,none)]=some c205.er:=by kernel_rfl
def c122L1:C:=(sr [kk 9 (.bi false .lss 8 7)] (.seq (.cond 9 .skip (.exit 0)) (.seq (.block 1 (sr [km 10 8,km 5 10] (sr [km 11 1,km 12 0,km 13 5,kk 14 (.ia 1 12 13),kk 15 (.ld 1 false 14),kk 16 (.call 11 [15])] (.cond 16 (sr [km 17 5,km 4 17] .ret) .skip)))) (.reg [kk 18 (.bi false .add 8 (cn 1)),km 8 18]))))
def c122:C:=(sr [kk 4 (.mv (cn 0))] (.seq (sr [km 6 0,kk 7 (.len 6),kk 8 (.mv (cn 0))] (.block 0 (.loop c122L1))) (sr [kk 4 (.mv (cn (-1)))] .ret)))
theorem fits122:fits Tryz.prog false Tryz.f122 2 19 [(4,none)]=some c122.er:=by kernel_rfl
def c54:C:=(sr [kk 4 (.mv (.c (.bool false)))] (sr [km 5 0,km 6 1,kk 7 (cl 122 [5,6]),kk 8 (.bi false .geq 7 (cn 0)),km 4 8] .ret))
theorem fits54:fits Tryz.prog false Tryz.f54 2 9 [(4,none)]=some c54.er:=by kernel_rfl
def flsS (n:Int):Nat→List Int×Dk→List Int×Dk
 | 0,s=>s
 | k+1,s=>flsS n k (s.1++ [nxt s.2 n],nxtD s.2 n)
theorem flsS_ok {n:Int} (hn:0<n):∀(k:Nat) (s:List Int×Dk),(∀i,i<s.1.length→0≤s.1.getD i default∧s.1.getD i default<n)→
  (flsS n k s).1.length=s.1.length+k∧(flsS n k s).2.at_≤s.2.at_+k∧∀i,i<(flsS n k s).1.length→0≤(flsS n k s).1.getD i default∧(flsS n k s).1.getD i default<n
 | 0,s,h=>⟨rfl,Nat.le_refl _,h⟩
 | k+1,s,h=>by
   have r:=nxt_lt s.2 hn
   have a:=nxtD_at s.2 n
   have h2:∀i,i<(s.1++ [nxt s.2 n]).length→0≤(s.1++ [nxt s.2 n]).getD i default∧(s.1++ [nxt s.2 n]).getD i default<n:=fun i hi=>by
    rw [getD_push]
    rw [List.length_append,List.length_cons,List.length_nil] at hi
    split
    ·exact h i (by assumption)
    ·rw [if_pos (by omega)];exact r
   have ih:=flsS_ok hn k (s.1++ [nxt s.2 n],nxtD s.2 n) h2
   unfold flsS
   generalize flsS n k (s.1++ [nxt s.2 n],nxtD s.2 n)=W at ih⊢
   rw [List.length_append,List.length_cons,List.length_nil] at ih
   dsimp only at ih
   exact ⟨by omega,by omega,ih.2.2⟩
theorem call40 (d:Dk) (m:Nat) (n:Int) (hd:d.at_≤900000000) (hm:m≤1000000) (hn:0<n∧n≤1000000):PureCall Tryz.prog 40 [.pt 0 0 0, .int .i64 m, .int .i64 n] [.box (eDk 1 d)] ⟨.sl 0 1 (flsS n m ([],d)).1.length (fl eInt (flsS n m ([],d)).1), [.box (eDk 1 (flsS n m ([],d)).2)], []⟩:=by
 refine pure_call mix Tryz.func40 fits40 rfl ?_
 conv=>whnf
 refine ⟨by exact g0, ?_⟩
 refine LSem.adopt 7 1000000 3 1 1 rfl rfl ?_
 refine LSem.loop (n:=19) mix (α:=Nat×List Int×Dk) (fun s=>s.1+s.2.1.length=m∧flsS n s.1 s.2=flsS n m ([],d)∧s.2.2.at_≤900000000+s.2.1.length)
  (fun s=> [(0, .pt 0 0 0),(2, .int .i64 n),(7, .os 1000000),(8, .int .i64 m),(9, .int .i64 s.2.1.length)])
  (fun s=> [(0, .box (eDk 1 s.2.2)),(1000000, .row 0 3 1 s.2.1.length (fl eInt s.2.1))]) (fun s=>s.1) (m, [],d) ⟨rfl,rfl,by dsimp only;omega⟩ ?_ ?_
 ·refine ⟨rfl,rfl, ?_, ?_⟩<;>exact ent
 rintro ⟨k,l,e⟩ ⟨k1,k2,k3⟩
 dsimp only at k1 k2 k3⊢
 conv=>whnf
 refine ⟨trivial,fun hc=> ?_,fun hc=> ?_⟩
 ·replace hc:=of_decide_eq_true hc
  obtain ⟨k,rfl⟩:∃k',k=k'+1:=⟨k - 1,by
   have h:(l.length:Int)<m:=hc
   omega⟩
  have hst:flsS n k (l++ [nxt e n],nxtD e n)=flsS n m ([],d):=k2
  have a1:=nxtD_at e n
  have q:=fl_push eInt l (nxt e n)
  have hxl:(l++ [nxt e n]).length=l.length+1:=by simp
  conv=>whnf
  refine ⟨_,fun _=>call_next 1 e n (by omega) (by omega), ?_⟩
  generalize nxt e n=x at hst q hxl⊢
  generalize nxtD e n=e2 at hst a1⊢
  conv=>whnf
  refine ⟨by exact g0,(k,l++ [x],e2),⟨by dsimp only;omega,hst,by dsimp only;omega⟩,by dsimp only;omega,rfl,rfl, ?_, ?_⟩<;>exact ent
 ·have h0:k=0:=by
    have h:¬(l.length:Int)<m:=of_decide_eq_false hc
    omega
  subst h0
  have hp:(l,e)=flsS n m ([],d):=k2
  rw [←hp]
  conv=>whnf
  exact retB
theorem call206 (n m:Int):PureCall Tryz.prog 206 [.int .i64 n, .pt 0 0 0] [.box [.int .i64 m]] ⟨.bool (!decide (0≤n∧n≤m)), [.box [.int .i64 m]], []⟩:=by
 refine pure_call mix Tryz.func206 fits206 rfl ?_
 conv=>whnf
 refine ⟨_,fun _=>G02.call56 n m, ?_⟩
 conv=>whnf
 exact retB
theorem call205 (m:Int):PureCall Tryz.prog 205 [.int .i64 m] [] ⟨.fn (.func 206) [] [.pt 1000000000 0 0], [], [.box [.int .i64 m]]⟩:=by
 refine pure_call mix Tryz.func205 fits205 rfl ?_
 conv=>whnf
 refine ⟨by exact g0, [16], ?_⟩
 conv=>whnf
 refine ⟨rfl, ?_,trivial, ?_⟩<;>exact ent
theorem call122 (τ:Nat) (l:List Int) (m:Int) (hl:l.length≤4611686018427387904) (hv:∀i,i<l.length→0≤l.getD i default∧l.getD i default≤m):
  PureCall Tryz.prog 122 [.sl τ 1 l.length (fl eInt l), .fn (.func 206) [] [.pt 0 0 0]] [.box [.int .i64 m]] ⟨.int .i64 (-1), [.box [.int .i64 m]], []⟩:=by
 refine pure_call mix Tryz.func122 fits122 rfl ?_
 conv=>whnf
 refine ⟨trivial, ?_⟩
 refine LSem.loop (n:=19) mix (α:=Nat) (fun k=>k≤l.length)
  (fun k=> [(0, .sl τ 1 l.length (fl eInt l)),(1, .fn (.func 206) [] [.pt 0 0 0]),(7, .int .i64 l.length),(8, .int .i64 k)])
  (fun k=> [(0, .box [.int .i64 m])]) (fun k=>l.length - k) 0 (Nat.zero_le _) ?_ ?_
 ·refine ⟨rfl,rfl, ?_, ?_⟩<;>exact ent
 intro k hk
 have hj:((k:Int)).toNat=k:=by omega
 conv=>whnf
 refine ⟨trivial,fun hc=> ?_,fun hc=> ?_⟩
 ·replace hc:=of_decide_eq_true hc
  have hlt:k<l.length:=by
   have h:(k:Int)<l.length:=hc
   omega
  have hvk:=hv k hlt
  conv=>whnf
  rw [hj]
  refine ⟨_,fun _=>call206 (l.getD k default) m, ?_⟩
  rw [decide_eq_true hvk]
  conv=>whnf
  refine ⟨by exact g0,fun h=>absurd h (by decide),fun _=> ?_⟩
  conv=>whnf
  refine ⟨by exact g0,k+1,hlt,by omega,rfl,rfl, ?_, ?_⟩<;>exact ent
 ·conv=>whnf
  exact retB
theorem call54 (τ:Nat) (l:List Int) (m:Int) (hl:l.length≤4611686018427387904) (hv:∀i,i<l.length→0≤l.getD i default∧l.getD i default≤m):
  PureCall Tryz.prog 54 [.sl τ 1 l.length (fl eInt l), .fn (.func 206) [] [.pt 0 0 0]] [.box [.int .i64 m]] ⟨.bool false, [.box [.int .i64 m]], []⟩:=by
 refine pure_call mix Tryz.func54 fits54 rfl ?_
 conv=>whnf
 refine ⟨_,fun _=>call122 _ l m hl hv, ?_⟩
 conv=>whnf
 exact retB
end TX
open TX
def c159:C:=(sr [kk 4 (.mv (cn 0))] (sr [kk 5 (.mv (.c (.fn (.func 205) [] [])))] (.seq (.block 0 (sr [km 7 0,kk 8 (.len 7),km 9 1,kk 10 (.len 9),kk 11 (.bi false .add 10 (cn 1)),kk 12 (.bi false .neq 8 11),km 6 12] (.cond 6 (sr [kk 4 (.mv (cn 3))] .ret) (sr [km 14 1,kk 15 (.len 14),kk 16 (.bi false .gtr 15 (cn 4096)),km 13 16] (.cond 13 (sr [kk 4 (.mv (cn 10))] .ret) (sr [km 18 0,km 19 5,kk 20 (.call 19 [(cn 274877906944)]),kk 21 (cl 54 [18,20]),km 22 21,kg 23 22 false (.mv 1),kg 24 22 false (.mv 5),kg 25 22 false (.call 24 [(cn 1073741824)]),kg 26 22 false (cl 54 [23,25]),kk 27 (.pick 22 (.c (.bool true)) 26),km 17 27] (.cond 17 (sr [kk 4 (.mv (cn 1))] .ret) .skip))))))) (sr [kk 4 (.mv (cn 0))] .ret))))
theorem fits159:fits Tryz.prog false Tryz.f159 2 28 [(4,none)]=some c159.er:=by kernel_rfl
def c98L1:C:=(sr [kk 26 (.bi false .lss 25 24)] (.seq (.cond 26 .skip (.exit 0)) (.seq (.block 1 (sr [km 27 25,kk 28 (.ia 1 23 25),kk 29 (.ld 1 false 28),km 10 27,km 11 29] (.seq (.drw [km 30 0,km 31 10,kk 32 (.ia 1 30 31),kk 33 (.ld 1 false 32),km 34 0,km 35 10,kk 36 (.bi false .add 35 (cn 1)),kk 37 (.ia 1 34 36),kk 38 (.ld 1 false 37),km 12 33,km 13 38] (pl [(0,[1,4,5,6,7,8],30),(1,[4,5,6,7,8],31),(2,[4,5,6,7,8],32),(3,[4,5,6,7,8],33),(4,[5,6,9],34),(5,[9],35),(6,[9],36),(7,[9],37),(8,[9],38)])) (.reg [km 39 9,km 40 13,km 41 2,kk 42 (.bi false .sub 40 41),kk 43 (.mx [42,(cn 0)]),km 44 12,km 45 2,kk 46 (.bi false .add 44 45),kk 47 (.bi false .sub 43 46),km 48 11,kk 49 (.bi false .add 47 48),km 50 13,km 51 2,kk 52 (.bi false .add 50 51),km 53 12,km 54 2,kk 55 (.bi false .sub 53 54),kk 56 (.mx [55,(cn 0)]),kk 57 (.bi false .sub 52 56),km 58 11,kk 59 (.bi false .add 57 58),kk 60 (.bd [(.int .i64 0),(.int .i64 0)] [(0,1,49),(1,1,59)]),kk 61 (.bs 71 2 [60]),kk 62 (.app 71 2 16 39 61),km 9 62])))) (.reg [kk 63 (.bi false .add 25 (cn 1)),km 25 63]))))
def c98:C:=(sr [kk 6 (.mv (.c (.nil 2))),kk 7 (.mv (cn 0))] (.seq (sr [km 14 0,km 15 1,kk 16 (cl 159 [14,15]),km 8 16] (sr [km 17 8,kk 18 (.bi false .neq 17 (cn 0))] (.cond 18 (sr [km 19 8,kk 6 (.mv (.c (.nil 2))),km 7 19] .ret) .skip))) (.seq (sr [km 20 2,kk 21 (cl 56 [20,(cn 274877906944)]),kk 22 (.un false .not 21)] (.cond 22 (sr [kk 6 (.mv (.c (.nil 2))),kk 7 (.mv (cn 1))] .ret) .skip)) (sr [kk 9 (.mv (.c (.nil 2)))] (.seq (sr [km 23 1,kk 24 (.len 23),kk 25 (.mv (cn 0))] (.block 0 (.loop c98L1))) (sr [km 64 9,km 6 64,kk 7 (.mv (cn 0))] .ret))))))
theorem fits98:fits Tryz.prog false Tryz.f98 3 65 [(6,none),(7,none)]=some c98.er:=by kernel_rfl
def c41L1:C:=(sr [kk 23 (.bi false .lss 22 21)] (.seq (.cond 23 .skip (.exit 0)) (.seq (.block 1 (sr [kk 24 (.ia 2 20 22),kk 25 (.ld 2 true 24),kk 10 (.al [(.int .i64 0),(.int .i64 0)]),kz (.st 2 10 25)] (.reg [km 26 8,kk 27 (.fa 0 10),kk 28 (.ld 1 false 27),kk 29 (.bs 3 1 [28]),kk 30 (.app 3 1 8 26 29),km 8 30]))) (.reg [kk 31 (.bi false .add 22 (cn 1)),km 22 31]))))
def c41:C:=(sr [kk 4 (.mv (.c (.nil 1))),kk 5 (.mv (cn 0))] (sr [km 12 0,km 13 1,kk 14 (cl 98 [12,13,(cn 0)]),km 11 14,kk 15 (.ex 11 0),kk 16 (.ex 11 1),km 6 15,km 7 16] (.seq (sr [km 17 7,kk 18 (.bi false .neq 17 (cn 0))] (.cond 18 (sr [km 19 7,kk 4 (.mv (.c (.nil 1))),km 5 19] .ret) .skip)) (sr [kk 8 (.mv (.c (.nil 1)))] (.seq (sr [km 20 6,kk 21 (.len 20),kk 22 (.mv (cn 0))] (.block 0 (.loop c41L1))) (sr [km 32 8,km 4 32,kk 5 (.mv (cn 0))] .ret))))))
theorem fits41:fits Tryz.prog false Tryz.f41 2 33 [(4,none),(5,none)]=some c41.er:=by kernel_rfl
structure BalOK (v out:List Int):Prop where
 n:v.length=out.length+1
 le:out.length≤4096
 v:∀i,i<v.length→0≤v.getD i default∧v.getD i default≤274877906944
 o:∀i,i<out.length→0≤out.getD i default∧out.getD i default≤1073741824
theorem call159 (τ τ':Nat) (v out:List Int) (h:BalOK v out):PureCall Tryz.prog 159 [.sl τ 1 v.length (fl eInt v), .sl τ' 1 out.length (fl eInt out)] [] ⟨.int .i64 0, [], []⟩:=by
 obtain ⟨hn,hle,hv,ho⟩:=h
 refine pure_call mix Tryz.func159 fits159 rfl ?_
 conv=>whnf
 refine ⟨by exact g0,fun h=> ?_,fun _=> ?_⟩
 ·simp only [bp] at h
  omega
 conv=>whnf
 refine ⟨by exact g0,fun h=> ?_,fun _=> ?_⟩
 ·have h:(4096:Int)<out.length:=of_decide_eq_true h
  omega
 conv=>whnf
 refine ⟨_,fun _=>call205 274877906944, ?_⟩
 conv=>whnf
 refine ⟨_,fun _=>call54 _ v 274877906944 (by omega) hv, ?_⟩
 conv=>whnf
 refine ⟨_,fun _=>call205 1073741824, ?_⟩
 conv=>whnf
 refine ⟨_,fun _=>call54 _ out 1073741824 (by omega) ho, ?_⟩
 conv=>whnf
 refine ⟨by exact g0,fun h=>absurd h (by decide),fun _=> ?_⟩
 conv=>whnf
 exact ret
structure Bd2 where
 lo:Int
 hi:Int
 deriving Inhabited
def eBd2 (b:Bd2):List PV:= [.int .i64 b.lo, .int .i64 b.hi]
def unB (v out:List Int) (i:Nat):Bd2:=⟨v.getD (i+1) default - v.getD i default+out.getD i default,v.getD (i+1) default - v.getD i default+out.getD i default⟩
def unL (v out:List Int):Nat→List Bd2
 | 0=> []
 | i+1=>unL v out i++ [unB v out i]
theorem unL_len (v out:List Int):∀i,(unL v out i).length=i
 | 0=>rfl
 | i+1=>by rw [unL,List.length_append,unL_len v out i];rfl
theorem unL_get (v out:List Int):∀n i,i<n→(unL v out n).getD i default=unB v out i
 | n+1,i,h=>by
   rw [unL,getD_push,unL_len]
   split
   ·exact unL_get v out n i (by assumption)
   ·rw [if_pos (by omega),show i=n by omega]
theorem call98 (τ τ':Nat) (v out:List Int) (h:BalOK v out):PureCall Tryz.prog 98 [.sl τ 1 v.length (fl eInt v), .sl τ' 1 out.length (fl eInt out), .int .i64 0] []
  ⟨.tup [.sl 0 2 (unL v out out.length).length (fl eBd2 (unL v out out.length)), .int .i64 0], [], []⟩:=by
 refine pure_call mix Tryz.func98 fits98 rfl ?_
 conv=>whnf
 refine ⟨_,fun _=>call159 _ _ v out h, ?_⟩
 obtain ⟨hn,hle,hv,ho⟩:=h
 conv=>whnf
 refine ⟨by exact g0,fun h=>absurd h (by decide),fun _=> ?_⟩
 conv=>whnf
 refine ⟨_,fun _=>G02.call56 0 274877906944, ?_⟩
 conv=>whnf
 refine ⟨by exact g0,fun h=>absurd h (by decide),fun _=> ?_⟩
 conv=>whnf
 refine ⟨by exact g0, ?_⟩
 refine LSem.adopt 9 1000000 71 2 2 rfl rfl ?_
 refine LSem.loop (n:=65) mix (α:=Nat) (fun i=>i≤out.length)
  (fun i=> [(0, .sl τ 1 v.length (fl eInt v)),(2, .int .i64 0),(9, .os 1000000),(23, .sl τ' 1 out.length (fl eInt out)),(24, .int .i64 out.length),(25, .int .i64 i)])
  (fun i=> [(1000000, .row 0 71 2 (unL v out i).length (fl eBd2 (unL v out i)))]) (fun i=>out.length - i) 0 (Nat.zero_le _) ?_ ?_
 ·refine ⟨rfl,rfl, ?_, ?_⟩<;>exact ent
 intro i hi
 conv=>whnf
 refine ⟨trivial,fun hc=> ?_,fun hc=> ?_⟩
 ·replace hc:=of_decide_eq_true hc
  have hlt:i<out.length:=by
   have h:(i:Int)<out.length:=hc
   omega
  have hj:((i:Int)).toNat=i:=by omega
  have hj1:((i:Int)+1).toNat=i+1:=by omega
  have v0:=hv i (by omega)
  have v1:=hv (i+1) (by omega)
  have o1:=ho i hlt
  have q:RowEq ((unL v out i).length+1) _ (fl eBd2 (unL v out (i+1))):=fl_push eBd2 (unL v out i) (unB v out i)
  have hxl:(unL v out i++ [unB v out i]).length=(unL v out i).length+1:=by simp
  have hul:=unL_len v out i
  have hul2:=unL_len v out (i+1)
  conv=>whnf
  rw [hj,hj1]
  refine ⟨rfl, ?_⟩
  have m1:(if 0>v.getD (i+1) default - 0 then 0 else v.getD (i+1) default - 0)=v.getD (i+1) default:=by rw [if_neg (by omega)];omega
  have m2:(if 0>v.getD i default - 0 then 0 else v.getD i default - 0)=v.getD i default:=by rw [if_neg (by omega)];omega
  have e1:v.getD (i+1) default - (v.getD i default+0)+out.getD i default=(unB v out i).lo:=by unfold unB;dsimp only;omega
  have e2:v.getD (i+1) default+0 - v.getD i default+out.getD i default=(unB v out i).hi:=by unfold unB;dsimp only;omega
  conv=>whnf
  rw [m1,m2]
  refine ⟨by exact g0, ?_⟩
  rw [e1,e2]
  refine ⟨i+1,hlt,by omega,rfl,rfl, ?_, ?_⟩<;>exact ent
 ·have hk:i=out.length:=by
    have h:¬(i:Int)<out.length:=of_decide_eq_false hc
    omega
  subst hk
  conv=>whnf
  exact ret
def balL (v out:List Int):Nat→List Int
 | 0=> []
 | i+1=>balL v out i++ [v.getD (i+1) default - v.getD i default+out.getD i default]
theorem balL_len (v out:List Int):∀i,(balL v out i).length=i
 | 0=>rfl
 | i+1=>by rw [balL,List.length_append,balL_len v out i];rfl
theorem balL_sum (v out:List Int):∀i,i≤out.length→(balL v out i).sum=v.getD i default - v.getD 0 default+(out.take i).sum
 | 0,_=>by simp [balL, -List.getD_eq_getElem?_getD]
 | i+1,h=>by
   rw [balL,List.sum_append,balL_sum v out i (by omega),List.take_add_one,getD_some (show i<out.length by omega),List.sum_append]
   simp only [Option.toList_some,List.sum_cons,List.sum_nil]
   omega
theorem call41 (τ τ':Nat) (v out:List Int) (h:BalOK v out):PureCall Tryz.prog 41 [.sl τ 1 v.length (fl eInt v), .sl τ' 1 out.length (fl eInt out)] []
  ⟨.tup [.sl 0 1 (balL v out out.length).length (fl eInt (balL v out out.length)), .int .i64 0], [], []⟩:=by
 refine pure_call mix Tryz.func41 fits41 rfl ?_
 conv=>whnf
 refine ⟨_,fun _=>call98 _ _ v out h, ?_⟩
 have hg:=unL_get v out out.length
 have hU:=unL_len v out out.length
 generalize unL v out out.length=U at hg hU⊢
 conv=>whnf
 refine ⟨by exact g0,fun h=>absurd h (by decide),fun _=> ?_⟩
 conv=>whnf
 refine ⟨by exact g0, ?_⟩
 refine LSem.adopt 8 1000000 3 1 1 rfl rfl ?_
 refine LSem.loop (n:=33) mix (α:=Nat) (fun i=>i≤U.length)
  (fun i=> [(8, .os 1000000),(20, .sl 0 2 U.length (fl eBd2 U)),(21, .int .i64 U.length),(22, .int .i64 i)])
  (fun i=> [(1000000, .row 0 3 1 (balL v out i).length (fl eInt (balL v out i)))]) (fun i=>U.length - i) 0 (Nat.zero_le _) ?_ ?_
 ·refine ⟨rfl,rfl, ?_, ?_⟩<;>exact ent
 intro i hi
 conv=>whnf
 refine ⟨trivial,fun hc=> ?_,fun hc=> ?_⟩
 ·replace hc:=of_decide_eq_true hc
  have hlt:i<U.length:=by
   have h:(i:Int)<U.length:=hc
   omega
  have hj:((i:Int)).toNat=i:=by omega
  have q:RowEq ((balL v out i).length+1) _ (fl eInt (balL v out (i+1))):=fl_push eInt (balL v out i) (v.getD (i+1) default - v.getD i default+out.getD i default)
  have hul:=balL_len v out i
  have hul2:=balL_len v out (i+1)
  conv=>whnf
  have hle:=h.le
  rw [hj,hg i (by omega)]
  refine ⟨by exact g0,i+1,hlt,by omega,rfl,rfl, ?_, ?_⟩<;>exact ent
 ·have hk:i=out.length:=by
    have h:¬(i:Int)<U.length:=of_decide_eq_false hc
    omega
  subst hk
  conv=>whnf
  exact ret
def evenL (s n:Int):Nat→List Int
 | 0=> []
 | i+1=>evenL s n i++ [if (i:Int)<s - s / n*n then s / n+1 else s / n]
theorem evenL_len (s n:Int):∀i,(evenL s n i).length=i
 | 0=>rfl
 | i+1=>by rw [evenL,List.length_append,evenL_len s n i];rfl
theorem evenL_sum (s n:Int) (h:0≤s - s / n*n):∀i:Nat,(evenL s n i).sum=s / n*i+if (i:Int)≤s - s / n*n then (i:Int) else s - s / n*n
 | 0=>by rw [evenL,if_pos (by omega)];simp
 | i+1=>by
   rw [evenL,List.sum_append,evenL_sum s n h i]
   generalize s / n=q at h⊢
   generalize s - q*n=r at h⊢
   have e:q*((i+1:Nat):Int)=q*i+q:=by rw [Int.natCast_add,Int.mul_add];omega
   rw [e]
   simp only [List.sum_cons,List.sum_nil]
   split<;>split<;>split<;>omega
def evenG (g:List Int):List Int:=evenL g.sum g.length g.length
theorem evenG_ok {g:List Int} (h:g≠ []):(evenG g).length=g.length∧(evenG g).sum=g.sum:=by
 have hn:0<(g.length:Int):=by
  have:=List.length_pos_iff.2 h
  omega
 have h1:=Int.emod_nonneg g.sum (b:=(g.length:Int)) (by omega)
 have h2:=Int.emod_lt_of_pos g.sum hn
 have h3:=Int.mul_ediv_add_emod g.sum g.length
 have e:g.sum - g.sum / (g.length:Int)*g.length=g.sum % (g.length:Int):=by rw [Int.mul_comm];omega
 refine ⟨evenL_len _ _ _, ?_⟩
 unfold evenG
 rw [evenL_sum _ _ (by omega),e,if_neg (by omega)]
 rw [Int.mul_comm]
 omega
def smL (w:Nat):Nat→List Int→List Int
 | 0,_=> []
 | k+1,l=>if l= [] then [] else evenG (l.take w)++smL w k (l.drop w)
theorem smL_ok {w:Nat} (hw:0<w):∀(k:Nat) (l:List Int),l.length≤k→(smL w k l).length=l.length∧(smL w k l).sum=l.sum
 | 0,l,h=>by
   have:l= []:=List.length_eq_zero_iff.1 (by omega)
   subst this;exact ⟨rfl,rfl⟩
 | k+1,l,h=>by
   rw [smL]
   split
   ·rename_i e;subst e;exact ⟨rfl,rfl⟩
   ·rename_i e
    have hl:=List.length_pos_iff.2 e
    have hg:l.take w≠ []:=fun e2=>by
     have:=congrArg List.length e2
     rw [List.length_take,List.length_nil] at this
     omega
    have h1:=evenG_ok hg
    have h2:=smL_ok hw k (l.drop w) (by rw [List.length_drop];omega)
    rw [List.length_append,List.sum_append,h1.1,h1.2,h2.1,h2.2]
    refine ⟨by rw [List.length_take,List.length_drop];omega, ?_⟩
    rw [←List.sum_append,List.take_append_drop]
theorem smL_fuel {w:Nat} (hw:0<w):∀(n m:Nat) (l:List Int),l.length≤n→l.length≤m→smL w n l=smL w m l
 | 0,m,l,h,_=>by
   have:l= []:=List.length_eq_zero_iff.1 (by omega)
   subst this
   cases m<;>simp [smL]
 | n+1,0,l,_,h=>by
   have:l= []:=List.length_eq_zero_iff.1 (by omega)
   subst this
   simp [smL]
 | n+1,m+1,l,h,h'=>by
   rw [smL,smL]
   split
   ·rfl
   ·rename_i e
    have hl:=List.length_pos_iff.2 e
    rw [smL_fuel hw n m (l.drop w) (by rw [List.length_drop];omega) (by rw [List.length_drop];omega)]
theorem smL_step {w:Nat} (hw:0<w) (l:List Int) (p:Nat) (hp:p<l.length):smL w l.length (l.drop p)=evenG ((l.drop p).take w)++smL w l.length (l.drop (p+min w (l.length - p))):=by
 have hne:l.drop p≠ []:=fun e=>by
  have:=congrArg List.length e
  rw [List.length_drop,List.length_nil] at this
  omega
 rw [smL_fuel hw l.length (l.length+1) (l.drop p) (by rw [List.length_drop];omega) (by rw [List.length_drop];omega),smL,if_neg hne,List.drop_drop]
 congr 1
 by_cases h:w≤l.length - p
 ·rw [Nat.min_eq_left h]
 ·rw [Nat.min_eq_right (by omega),show p+(l.length - p)=l.length by omega,List.drop_of_length_le (by omega),List.drop_of_length_le (Nat.le_refl _)]
def StrC (s:Cst):Prop:=1≤s.L.length∧s.L.getD (s.L.length - 1) default=⟨s.x,s.y⟩∧∀i,0<i→i<s.L.length→(s.L.getD (i - 1) default).y<(s.L.getD i default).y
theorem crvN_str {dx dy:Int} {s:Cst} (h:StrC s):StrC (crvN dx dy 1 s):=by
 obtain ⟨h1,h2,h4⟩:=h
 have r2:=nxt_rng (nxtD s.d dx) dy
 have hlen:(crvN dx dy 1 s).L.length=s.L.length+1:=by simp [crvN]
 have hget:∀i,(crvN dx dy 1 s).L.getD i default=if i<s.L.length then s.L.getD i default else if i=s.L.length then ⟨s.x+1+nxt s.d dx,s.y+1+nxt (nxtD s.d dx) dy⟩ else default:=fun i=>getD_push _ _ _
 refine ⟨by omega, ?_, ?_⟩
 ·rw [hget,hlen,Nat.add_sub_cancel,if_neg (by omega),if_pos rfl];rfl
 ·intro i h0 hi
  rw [hlen] at hi
  rw [hget,hget]
  by_cases hh:i<s.L.length
  ·rw [if_pos hh,if_pos (by omega)];exact h4 i h0 hh
  ·rw [if_neg hh,if_pos (by omega),if_pos (by omega),show i - 1=s.L.length - 1 by omega,h2];dsimp only;omega
theorem crvS_str {dx dy:Int}:∀(k:Nat) {s:Cst},StrC s→StrC (crvS dx dy 1 k s)
 | 0,s,h=>h
 | k+1,s,h=>crvS_str k (crvN_str h)
theorem resC_str (d:Dk):∀i,0<i→i<(resC d).L.length→((resC d).L.getD (i - 1) default).y<((resC d).L.getD i default).y:=by
 unfold resC curveS
 refine (crvS_str _ ?_).2.2
 exact ⟨Nat.le_refl _,rfl,fun i h0 hi=>by simp at hi;omega⟩
theorem lvS_mono {last:Int} {s:Int×Dk} (i:Nat):(lvS last s i).1≤(lvS last s (i+1)).1:=by
 have r:=nxt_rng (lvS last s i).2 (lvD last i (lvS last s i).1)
 show _≤(lvN last i (lvS last s i)).1
 unfold lvN
 dsimp only
 omega
theorem res_valid (d:Dk):RvOK (resF d).1:=by
 have hC:=resC_ok d
 have hs:=resC_str d
 have he:=made_ends hC.1
 have e0:(resF d).1.st=(resC d).L:=by unfold resF;dsimp only
 have hl5:=(lvS_ok (last:=((resC d).L.getD ((resC d).L.length - 1) default).x) (s:=(((resC d).L.getD 0 default).x,(resC d).d)) he.2.1 5 (Nat.le_refl _)).1
 refine ⟨by rw [e0];exact hC.1.good,by rw [e0];exact hC.1.len.1, ?_, ?_, ?_⟩
 ·intro i hi
  rw [e0] at hi⊢
  have:=hC.1.rng i hi
  have:=hC.1.len
  omega
 ·intro i hi h0
  rw [e0] at hi⊢
  exact hs i h0 hi
 ·intro i hi h0
  have m:=fun k=>lvS_mono (last:=((resC d).L.getD ((resC d).L.length - 1) default).x) (s:=(((resC d).L.getD 0 default).x,(resC d).d)) k
  have eL:resL (resF d).1= [((resC d).L.getD 0 default).x,(resS (resC d) 1).1,(resS (resC d) 2).1,(resS (resC d) 3).1,(resS (resC d) 4).1,(resS (resC d) 5).1,((resC d).L.getD ((resC d).L.length - 1) default).x]:=by unfold resL resF;dsimp only
  rw [eL]
  obtain rfl | rfl | rfl | rfl | rfl | rfl:i=1∨i=2∨i=3∨i=4∨i=5∨i=6:=by omega
  ·exact m 0
  ·exact m 1
  ·exact m 2
  ·exact m 3
  ·exact m 4
  ·exact hl5.2
namespace G08
def c95L1:C:=(sr [kk 17 (.bi false .lss 16 15)] (.seq (.cond 17 .skip (.exit 0)) (.seq (.block 1 (sr [km 18 16,kk 19 (.ia 1 14 16),kk 20 (.ld 1 false 19),km 7 18,km 8 20] (sr [km 21 1,km 22 7,kk 23 (.ia 1 21 22),kk 24 (.ld 1 false 23)] (.cond 24 (.reg [km 25 6,km 26 8,kk 27 (.bs 3 1 [26]),kk 28 (.app 3 1 8 25 27),km 6 28]) .skip)))) (.reg [kk 29 (.bi false .add 16 (cn 1)),km 16 29]))))
def c95:C:=(sr [kk 4 (.mv (cn 0)),kk 5 (.mv (.c (.bool false)))] (.seq (sr [km 9 0,kk 10 (.len 9),km 11 1,kk 12 (.len 11),kk 13 (.bi false .neq 10 12)] (.cond 13 (sr [kk 4 (.mv (cn 0)),kk 5 (.mv (.c (.bool false)))] .ret) .skip)) (sr [kk 6 (.mv (.c (.nil 1)))] (.seq (sr [km 14 0,kk 15 (.len 14),kk 16 (.mv (cn 0))] (.block 0 (.loop c95L1))) (.seq (sr [km 30 6,kk 31 (.len 30),kk 32 (.bi false .eql 31 (cn 0))] (.cond 32 (sr [kk 4 (.mv (cn 0)),kk 5 (.mv (.c (.bool false)))] .ret) .skip)) (.seq (.cut (.reg [km 33 6,kk 34 (cl 157 [33])])) (sr [km 35 6,km 36 6,kk 37 (.len 36),kk 38 (.bi false .sub 37 (cn 1)),kk 39 (.bi false .quo 38 (cn 2)),kk 40 (.ia 1 35 39),kk 41 (.ld 1 false 40),km 4 41,kk 5 (.mv (.c (.bool true)))] .ret)))))))
theorem fits95:fits Tryz.prog false Tryz.f95 2 42 [(4,none),(5,none)]=some c95.er:=by kernel_rfl
def srt (l:List Int):List Int:=l.mergeSort fun x y=>decide (x≤y)
theorem srt_len (l:List Int):(srt l).length=l.length:=List.length_mergeSort ..
def goodL (v:List Int) (g:List Bool):Nat→List Int
 | 0=> []
 | n+1=>if g.getD n default=true then goodL v g n++ [v.getD n default] else goodL v g n
theorem goodL_len (v:List Int) (g:List Bool):∀n,(goodL v g n).length≤n
 | 0=>Nat.le_refl _
 | n+1=>by
   have:=goodL_len v g n
   unfold goodL;split
   ·rw [List.length_append,List.length_cons,List.length_nil];omega
   ·omega
def voteF (v:List Int) (g:List Bool):Int×Bool:=
 if v.length≠g.length then (0,false) else if (goodL v g v.length).length=0 then (0,false) else ((srt (goodL v g v.length)).getD (((goodL v g v.length).length - 1) / 2) default,true)
theorem call95 (τ τ':Nat) (v:List Int) (g:List Bool) (hl:v.length≤1000000):PureCall Tryz.prog 95 [.sl τ 1 v.length (fl eInt v), .sl τ' 1 g.length (fl eBool g)] [] ⟨.tup [.int .i64 (voteF v g).1, .bool (voteF v g).2], [], []⟩:=by
 refine pure_call mix Tryz.func95 fits95 rfl ?_
 conv=>whnf
 refine ⟨trivial,fun hc=> ?_,fun hc=> ?_⟩
 ·simp only [bp] at hc
  rw [show voteF v g=(0,false) by unfold voteF;rw [if_pos (by omega)]]
  conv=>whnf
  refine ⟨?_, [], ?_⟩
  ·exact g0
  conv=>whnf
  refine ⟨rfl, ?_,trivial,trivial⟩
  all_goals exact ent
 simp only [bp] at hc
 have hlen:v.length=g.length:=by omega
 have hv:voteF v g=if (goodL v g v.length).length=0 then (0,false) else ((srt (goodL v g v.length)).getD (((goodL v g v.length).length - 1) / 2) default,true):=by unfold voteF;rw [if_neg (by omega)]
 rw [hv]
 conv=>whnf
 refine ⟨trivial, ?_⟩
 refine LSem.adopt 6 1000000 3 1 1 rfl rfl ?_
 refine LSem.loop (n:=42) mix (α:=Nat) (fun i=>i≤v.length)
  (fun i=> [(0, .sl τ 1 v.length (fl eInt v)),(1, .sl τ' 1 g.length (fl eBool g)),(6, .os 1000000),(14, .sl τ 1 v.length (fl eInt v)),(15, .int .i64 v.length),(16, .int .i64 i)])
  (fun i=> [(1000000, .row 0 3 1 (goodL v g i).length (fl eInt (goodL v g i)))]) (fun i=>v.length - i) 0 ?_ ?_ ?_
 ·exact Nat.zero_le _
 ·refine ⟨rfl,rfl, ?_, ?_⟩
  all_goals exact ent
 ·intro i hi
  have hj:((i:Int)).toNat=i:=by omega
  have hgl:=goodL_len v g i
  conv=>whnf
  refine ⟨trivial,fun hc2=> ?_,fun hc2=> ?_⟩
  ·replace hc2:=of_decide_eq_true hc2
   have hlt:i<v.length:=by omega
   conv=>whnf
   refine ⟨?_,fun hc3=> ?_,fun hc3=> ?_⟩
   ·exact g0
   ·rw [hj] at hc3
    have hst:goodL v g (i+1)=goodL v g i++ [v.getD i default]:=by rw [goodL,if_pos hc3]
    have hps:=fl_push eInt (goodL v g i) (v.getD i default)
    rw [←hst] at hps
    conv=>whnf
    refine ⟨?_,i+1,(by omega:i+1≤v.length), ?_,rfl,rfl, ?_, ?_⟩
    ·exact g0
    ·omega
    all_goals repeat' (first | exact True.intro | refine leF_cons rfl ?_ ?_ | refine leS_cons rfl ?_ ?_ | (show PLe _ _ _ _;conv=>whnf) | (show SLe _ _ _ _;conv=>whnf) | (show PLeL _ _ _ _;conv=>whnf) | apply And.intro | rfl | exact Nat.le_refl _ | exact fun _ _=>rfl | exact rowEq0 _ _)
    all_goals (try omega)
    ·rw [hst,List.length_append];rfl
    ·rw [hj];exact hps
   ·rw [hj] at hc3
    have hst:goodL v g (i+1)=goodL v g i:=by rw [goodL,if_neg (by rw [hc3];decide)]
    conv=>whnf
    refine ⟨?_,i+1,(by omega:i+1≤v.length), ?_,rfl,rfl, ?_, ?_⟩
    ·exact g0
    ·omega
    all_goals repeat' (first | exact True.intro | refine leF_cons rfl ?_ ?_ | refine leS_cons rfl ?_ ?_ | (show PLe _ _ _ _;conv=>whnf) | (show SLe _ _ _ _;conv=>whnf) | (show PLeL _ _ _ _;conv=>whnf) | apply And.intro | rfl | exact Nat.le_refl _ | exact fun _ _=>rfl | exact rowEq0 _ _)
    all_goals (try rw [hst])
    all_goals first | omega | exact fun _ _=>rfl
  ·replace hc2:=of_decide_eq_false hc2
   have:i=v.length:=by omega
   subst this
   generalize goodL v g v.length=L at hgl⊢
   conv=>whnf
   refine ⟨trivial,fun hc3=> ?_,fun hc3=> ?_⟩
   ·simp only [bp] at hc3
    rw [if_pos (by omega)]
    conv=>whnf
    refine ⟨?_, [], ?_⟩
    ·exact g0
    conv=>whnf
    refine ⟨rfl, ?_,trivial,trivial⟩
    all_goals exact ent
   ·simp only [bp] at hc3
    have h0:¬L.length=0:=by omega
    rw [if_neg h0]
    conv=>whnf
    refine ⟨trivial,LSem.inplace (sort_inplace L (by omega)) (by omega) (fun _=>List.length_mergeSort ..) rfl rfl (fun _ _=>rfl) rfl rfl ?_⟩
    have hsl:=srt_len L
    have hdiv:(Int.tdiv (((srt L).length:Int) - 1) 2).toNat=(L.length - 1) / 2:=by
     rw [hsl,Int.tdiv_eq_ediv_of_nonneg (by omega)];omega
    have hdiv2:0≤Int.tdiv (((srt L).length:Int) - 1) 2∧Int.tdiv (((srt L).length:Int) - 1) 2≤1000000:=by
     rw [hsl,Int.tdiv_eq_ediv_of_nonneg (by omega)];omega
    show evK _ _ _ _ (inplaceSt _ _ _ _ _ _ _ _ (srt L) _) _
    conv=>whnf
    refine ⟨?_, [], ?_⟩
    ·exact g0
    conv=>whnf
    refine ⟨rfl, ?_,trivial,trivial⟩
    all_goals repeat' (first | exact True.intro | refine leF_cons rfl ?_ ?_ | refine leS_cons rfl ?_ ?_ | (show PLe _ _ _ _;conv=>whnf) | (show SLe _ _ _ _;conv=>whnf) | (show PLeL _ _ _ _;conv=>whnf) | apply And.intro | rfl | exact Nat.le_refl _ | exact fun _ _=>rfl | exact rowEq0 _ _)
    rw [hdiv]
end G08
open Go.RowKit
theorem PureCall.of_rp {P:Program} {f:FuncId} {cells args:List PV} {val:PV} (hC:PureCall P f (.rp 2 cells::args) [] ⟨val, [], []⟩)
  (hv:val.plain=true) (hc:∀c∈cells,c.flat=true∧c.tau≤2) (ha:∀c∈args,c.flat=true∧c.tau≤2∧c.mark 2=c) (hnm:mpB cells=false:=by rfl):
  PureCall P f (.pt 0 0 0::args) [.box cells] ⟨val, [.box cells], []⟩:=by
 refine ⟨hC.1,fun w γ aas ls vals hst hX hargs=> ?_⟩
 obtain ⟨u,us,rfl,hu,hus⟩:=hargs.cons_inv
 have hdom:=hst.dom 0
 simp only [List.getElem?_cons_zero,Option.isSome_some] at hdom
 obtain ⟨ge,hge⟩:=Option.isSome_iff_exists.1 hdom
 obtain ⟨b,T,vs,hb,hheap,hone,hrep⟩:=RepS.plain (hst.at_ 0 ge _ hge rfl) hnm
 have hup:u= .pointer (some ⟨b,0,none⟩):=by
  cases hu with
  | pt r i j ge' b' hg' hb'=>
    rw [hge] at hg';injection hg' with hg';subst hg'
    rw [hb.1] at hb';injection hb' with hb';subst hb'
    simp
 subst hup
 have hblt:b<w.heap.size:=hst.lt b ⟨0,ge,hge, .inl hb.1⟩
 have hL:Lent ⟨w.heap.size,aas,ls,1,γ, []⟩ ⟨w.heap.size,aas,fun x=>ls x∨x=b,0,fun _=>none, []⟩ γ (fun _=>none) w:=by
  refine ⟨fun b' _ hm=>⟨fun ⟨r,g,h,_⟩=>(by cases h), ?_⟩,fun τ b' _ hm=>⟨fun ⟨r,g,h,_⟩=>(by cases h), ?_⟩⟩
  ·rcases hm.2 with h | h | h
   ·exact .inl (h.elim .inl (fun h=>absurd h.1 (by show¬(1:Nat)=0;decide)))
   ·exact .inr (.inl h)
   ·exact absurd h.1 (by omega)
  ·rcases hm.2 with h | h | h
   ·exact .inl (h.elim .inl (fun h=>absurd h.1 (by show¬(1:Nat)=0;decide)))
   ·exact .inr (.inl ⟨by omega,h.2⟩)
   ·exact .inr (.inr ⟨Nat.le_refl _, .inl h.2⟩)
 have hlt2:∀n,n≤2→lendT n≤2:=fun n hn=>lendT_mono (b:=2) hn
 have hcell:∀k c,cells[k]? =some c→∃x,vs[k]? =some x∧Rep ⟨w.heap.size,aas,ls,1,γ, []⟩ γ w c x:=fun k c hk=>by
  have hlen:=hrep.1
  have hlt:k<cells.length:=(List.getElem?_eq_some_iff.1 hk).1
  have hx:vs.toList[k]? =some (vs.toList[k]'(by omega)):=List.getElem?_eq_getElem (by omega)
  exact ⟨_,by rw [←Array.getElem?_toList];exact hx,hrep.2 k c _ hk hx⟩
 have key:=hC.2 w (fun _=>none) aas (fun x=>ls x∨x=b) (.pointer (some ⟨b,0,none⟩)::us)
  ⟨fun r=>(by simp),fun r g e h=>(by cases h),fun r r' g g' b' h=>(by cases h),fun b' ⟨r,g,h,_⟩=>(by cases h),fun b' ⟨r,g,h,_⟩=>(by cases h),fun b' p hb=>⟨(hst.glob b' p hb).1,fun ⟨r,g,h,_⟩=>(by cases h),(hst.glob b' p hb).2.2⟩⟩
  (fun b' h=>by rcases h with h | h | h
                ·exact hX b' (.inl h)
                ·exact hX b' (.inr h)
                ·rw [h];exact hblt)
  (RepL.cons_ (.rp 2 cells ⟨b,0,none⟩ (fun k=>(vs[k]?).getD undef) (fun c hc'=>(hc c hc').1) (fun _=>⟨⟨fun ⟨r,g,h,_⟩=>(by cases h), .inr (.inr ⟨Nat.le_refl _, .inr rfl⟩)⟩,hblt⟩)
    (fun k hk=>by
     obtain ⟨x,hx,_⟩:=hcell k _ (List.getElem?_eq_getElem hk)
     refine cellT_pos (by decide) ?_
     rw [cell_plain hheap 0 k,Nat.zero_add,hx];rfl)
    (fun k c hk=>by
     obtain ⟨x,hx,hr⟩:=hcell k c hk
     rw [hx]
     have hm:=List.mem_of_getElem? hk
     exact hr.lend hL (hc c hm).1 2 (hlt2 _ (hc c hm).2)))
   ⟨hus.1,fun k c x hk hx=>by
    have hm:=List.mem_of_getElem? hk
    have h3:=ha c hm
    have:=(hus.2 k c x hk hx).lend hL h3.1 2 (hlt2 _ h3.2.1)
    rwa [h3.2.2] at this⟩)
 refine key.mono ?_
 rintro ev w' ⟨v,γ',he,hv',_,hk,_,_⟩
 have hblk:∀b',b'<w.heap.size→w'.heap[b']? =w.heap[b']? :=fun b' hb'=>hk.block b' hb' (fun ⟨r,g,h,_⟩=>by cases h)
 have hmove:∀c x,Rep ⟨w.heap.size,aas,ls,1,γ, []⟩ γ w c x→Rep ⟨w.heap.size,aas,ls,1,γ, []⟩ γ w' c x:=fun c x h=>by
  have:=h.move (k:= []) (γ':=γ) (w':=w') (fun r g _ h=>h) (fun b' h=> .inl h) hk.size (fun b' _ hb'=>hblk b' hb')
  rwa [void_nil] at this
 refine ⟨v,γ,he,hv'.plain hv,⟨fun r=> ?_,fun r g e h1 h2=> ?_,hst.inj,hst.asOff,fun b' h=>Nat.lt_of_lt_of_le (hst.lt b' h) hk.size,glob_keep hst.glob (fun b' hlt _=>hblk b' hlt) (fun _ h=> .inl h)⟩,hk.mono (fun i _ ⟨r,g,h,_⟩=>(by cases h)),fun r hr=> ?_,fun r g b' h1 h2=> .inr (.inr ⟨g,h1,h2⟩)⟩
 rotate_right
 ·have hr0:r=0:=by have h:r<1:=hr;omega
  subst hr0
  have h2:resSt ⟨val, [.box cells], []⟩ 0=some (.box cells):=by unfold resSt;rw [if_neg (by decide)];rfl
  rw [h2];rfl
 ·have:=hst.dom r
  unfold resSt
  by_cases hr:newBase≤r
  ·rw [if_pos hr]
   have hr0:r≠0:=by
    intro h;rw [h] at hr;exact absurd hr (by decide)
   rw [this]
   cases r with
   | zero=>exact absurd rfl hr0
   | succ r=>simp
  ·rw [if_neg hr];exact this
 ·have hr0:r=0:=by
    have:=hst.dom r
    rw [h1] at this
    cases r with
    | zero=>rfl
    | succ r=>simp at this
  subst hr0
  have h2':e= .box cells:=by
   unfold resSt at h2
   rw [if_neg (by decide)] at h2
   simpa using h2.symm
  subst h2'
  rw [hge] at h1;injection h1 with h1;subst h1
  exact ⟨b,hb, .inl ⟨T,vs,by rw [hblk b hblt];exact hheap,hone,hrep.1,fun k c x hk hx=>hmove c x (hrep.2 k c x hk hx)⟩⟩
namespace G08
def c201:C:=(sr [kk 2 (.mv (.c (.bool false)))] (sr [km 3 0,kk 4 (cl 56 [3,(cn 1073741824)]),km 2 4] .ret))
theorem fits201:fits Tryz.prog false Tryz.f201 1 5 [(2,none)]=some c201.er:=by kernel_rfl
def c155:C:=(sr [kk 1 (.bx 4 0),kk 2 (.mv (cn 0))] (sr [kk 3 (.mv (.c (.fn (.func 201) [] [])))] (.seq (sr [km 4 3,kk 5 (.fa 0 1),kk 6 (.ld 1 false 5),kk 7 (.call 4 [6]),kk 8 (.un false .not 7),km 9 8,kg 10 9 false (.mv 3),kg 11 9 false (.fa 1 1),kg 12 9 false (.ld 1 false 11),kg 13 9 false (.call 10 [12]),kg 14 9 false (.un false .not 13),kk 15 (.pick 9 (.c (.bool true)) 14),km 16 15,kg 17 16 false (.fa 0 1),kg 18 16 false (.ld 1 false 17),kg 19 16 false (.fa 1 1),kg 20 16 false (.ld 1 false 19),kg 21 16 false (.bi false .gtr 18 20),kk 22 (.pick 16 (.c (.bool true)) 21),km 23 22,kg 24 23 false (.mv 3),kg 25 23 false (.fa 2 1),kg 26 23 false (.ld 1 false 25),kg 27 23 false (.call 24 [26]),kg 28 23 false (.un false .not 27),kk 29 (.pick 23 (.c (.bool true)) 28),km 30 29,kg 31 30 false (.fa 3 1),kg 32 30 false (.ld 1 false 31),kg 33 30 false (.bi false .neq 32 (cn 0)),kg 34 30 false (.mv 33),kg 35 34 true (.fa 3 1),kg 36 34 true (.ld 1 false 35),kg 37 34 true (.bi false .lss 36 (cn 2)),kg 38 34 true (.mv 37),kg 39 38 false (.fa 3 1),kg 40 38 false (.ld 1 false 39),kg 41 38 false (.bi false .gtr 40 (cn 4096)),kg 42 34 true (.pick 38 (.c (.bool true)) 41),kg 43 30 false (.pick 34 42 (.c (.bool false))),kk 44 (.pick 30 (.c (.bool true)) 43)] (.cond 44 (sr [kk 2 (.mv (cn 1))] .ret) .skip)) (sr [kk 2 (.mv (cn 0))] .ret))))
theorem fits155:fits Tryz.prog false Tryz.f155 1 45 [(2,none)]=some c155.er:=by kernel_rfl
def c87:C:=(sr [kk 1 (.bx 4 0),kk 2 (.mv (cn 0))] (.seq (.block 0 (sr [kk 4 (.fa 0 1),kk 5 (.ld 1 false 4),kk 6 (cl 56 [5,(cn 255)]),kk 7 (.un false .not 6),km 3 7] (.cond 3 (sr [kk 2 (.mv (cn 1))] .ret) (sr [kk 9 (.fa 1 1),kk 10 (.ld 1 false 9),kk 11 (cl 56 [10,(cn 16777216)]),kk 12 (.un false .not 11),km 8 12] (.cond 8 (sr [kk 2 (.mv (cn 6))] .ret) (sr [kk 14 (.fa 2 1),kk 15 (.ld 1 false 14),kk 16 (cl 56 [15,(cn 1073741824)]),kk 17 (.un false .not 16),km 13 17] (.cond 13 (sr [kk 2 (.mv (cn 1))] .ret) (sr [kk 19 (.fa 3 1),kk 20 (.ld 1 false 19),kk 21 (cl 56 [20,(cn 2)]),kk 22 (.un false .not 21),km 18 22] (.cond 18 (sr [kk 2 (.mv (cn 5))] .ret) .skip))))))))) (sr [kk 2 (.mv (cn 0))] .ret)))
theorem fits87:fits Tryz.prog false Tryz.f87 1 23 [(2,none)]=some c87.er:=by kernel_rfl
def c90L1:C:=(sr [kk 9 (.bi false .lss 8 7)] (.seq (.cond 9 .skip (.exit 0)) (.seq (.block 1 (sr [kk 10 (.ia 4 6 8),kk 11 (.ld 4 true 10),kk 4 (.al [(.int .i64 0),(.int .i64 0),(.int .i64 0),(.int .i64 0)]),kz (.st 4 4 11)] (sr [kk 12 (.ld 4 true 4),kk 13 (cl 87 [12]),km 5 13] (sr [km 14 5,kk 15 (.bi false .neq 14 (cn 0))] (.cond 15 (sr [km 16 5,km 2 16] .ret) .skip))))) (.reg [kk 17 (.bi false .add 8 (cn 1)),km 8 17]))))
def c90:C:=(sr [kk 2 (.mv (cn 0))] (.seq (sr [km 6 0,kk 7 (.len 6),kk 8 (.mv (cn 0))] (.block 0 (.loop c90L1))) (sr [kk 2 (.mv (cn 0))] .ret)))
theorem fits90:fits Tryz.prog false Tryz.f90 1 18 [(2,none)]=some c90.er:=by kernel_rfl
structure Rd where
 g:Int
 t:Int
 v:Int
 f:Int
 deriving Inhabited,DecidableEq
def eRd (r:Rd):List PV:= [.int .i64 r.g, .int .i64 r.t, .int .i64 r.v, .int .i64 r.f]
structure Ck where
 a:Int
 b:Int
 j:Int
 s:Int
 deriving Inhabited,DecidableEq
def eCk (c:Ck):List PV:= [.int .i64 c.a, .int .i64 c.b, .int .i64 c.j, .int .i64 c.s]
theorem call201 (n:Int):PureCall Tryz.prog 201 [.int .i64 n] [] ⟨.bool (decide (0≤n∧n≤1073741824)), [], []⟩:=by
 refine pure_call mix Tryz.func201 fits201 rfl ?_
 conv=>whnf
 refine ⟨_,fun _=>call56 n 1073741824, ?_⟩
 conv=>whnf
 refine ⟨?_, [], ?_⟩
 ·exact g0
 conv=>whnf
 refine ⟨rfl, ?_,trivial,trivial⟩
 all_goals exact ent
def ckOk (c:Ck):Prop:=(0≤c.a∧c.a≤1073741824)∧(0≤c.b∧c.b≤1073741824)∧c.a≤c.b∧(0≤c.j∧c.j≤1073741824)∧(c.s=0∨(2≤c.s∧c.s≤4096))
instance (c:Ck):Decidable (ckOk c):=by unfold ckOk;infer_instance
def ckErr (c:Ck):Int:=if ckOk c then 0 else 1
theorem call155 (c:Ck):PureCall Tryz.prog 155 [.agg (eCk c)] [] ⟨.int .i64 (ckErr c), [], []⟩:=by
 refine pure_call mix Tryz.func155 fits155 rfl ?_
 conv=>whnf
 refine ⟨_,fun _=>call201 c.a, ?_⟩
 conv=>whnf
 refine ⟨_,fun _=>call201 c.b, ?_⟩
 conv=>whnf
 refine ⟨_,fun _=>call201 c.j, ?_⟩
 conv=>whnf
 refine ⟨?_,fun hc=> ?_,fun hc=> ?_⟩
 ·exact g0
 ·simp only [bp] at hc
  rw [show ckErr c=1 by unfold ckErr;rw [if_neg (by unfold ckOk;omega)]]
  conv=>whnf
  refine ⟨?_, [], ?_⟩
  ·exact g0
  conv=>whnf
  refine ⟨rfl, ?_,trivial,trivial⟩
  all_goals exact ent
 ·simp only [bp] at hc
  rw [show ckErr c=0 by unfold ckErr;rw [if_pos (by unfold ckOk;omega)]]
  conv=>whnf
  refine ⟨?_, [], ?_⟩
  ·exact g0
  conv=>whnf
  refine ⟨rfl, ?_,trivial,trivial⟩
  all_goals exact ent
def rdErr (r:Rd):Int:=if¬(0≤r.g∧r.g≤255) then 1 else if¬(0≤r.t∧r.t≤16777216) then 6 else if¬(0≤r.v∧r.v≤1073741824) then 1 else if¬(0≤r.f∧r.f≤2) then 5 else 0
theorem call87 (r:Rd):PureCall Tryz.prog 87 [.agg (eRd r)] [] ⟨.int .i64 (rdErr r), [], []⟩:=by
 unfold rdErr
 refine pure_call mix Tryz.func87 fits87 rfl ?_
 conv=>whnf
 refine ⟨_,fun _=>call56 r.g 255, ?_⟩
 conv=>whnf
 refine ⟨?_,fun hc=> ?_,fun hc=> ?_⟩
 ·exact g0
 ·simp only [bp] at hc
  rw [if_pos hc]
  conv=>whnf
  refine ⟨?_, [], ?_⟩
  ·exact g0
  conv=>whnf
  refine ⟨rfl, ?_,trivial,trivial⟩
  all_goals exact ent
 simp only [bp] at hc
 rw [if_neg (by omega)]
 conv=>whnf
 refine ⟨_,fun _=>call56 r.t 16777216, ?_⟩
 conv=>whnf
 refine ⟨?_,fun hc=> ?_,fun hc=> ?_⟩
 ·exact g0
 ·simp only [bp] at hc
  rw [if_pos hc]
  conv=>whnf
  refine ⟨?_, [], ?_⟩
  ·exact g0
  conv=>whnf
  refine ⟨rfl, ?_,trivial,trivial⟩
  all_goals exact ent
 simp only [bp] at hc
 rw [if_neg (by omega)]
 conv=>whnf
 refine ⟨_,fun _=>call56 r.v 1073741824, ?_⟩
 conv=>whnf
 refine ⟨?_,fun hc=> ?_,fun hc=> ?_⟩
 ·exact g0
 ·simp only [bp] at hc
  rw [if_pos hc]
  conv=>whnf
  refine ⟨?_, [], ?_⟩
  ·exact g0
  conv=>whnf
  refine ⟨rfl, ?_,trivial,trivial⟩
  all_goals exact ent
 simp only [bp] at hc
 rw [if_neg (by omega)]
 conv=>whnf
 refine ⟨_,fun _=>call56 r.f 2, ?_⟩
 conv=>whnf
 refine ⟨?_,fun hc=> ?_,fun hc=> ?_⟩
 ·exact g0
 ·simp only [bp] at hc
  rw [if_pos hc]
  conv=>whnf
  refine ⟨?_, [], ?_⟩
  ·exact g0
  conv=>whnf
  refine ⟨rfl, ?_,trivial,trivial⟩
  all_goals exact ent
 simp only [bp] at hc
 rw [if_neg (by omega)]
 conv=>whnf
 refine ⟨?_, [], ?_⟩
 ·exact g0
 conv=>whnf
 refine ⟨rfl, ?_,trivial,trivial⟩
 all_goals exact ent
def rdE (l:List Rd) (i:Nat):Int:=rdErr (l.getD i default)
def allF (l:List Rd):Int:=scan (rdE l) 0 l.length
theorem call90 (τ:Nat) (l:List Rd) (hl:l.length≤4611686018427387904):PureCall Tryz.prog 90 [.sl τ 4 l.length (fl eRd l)] [] ⟨.int .i64 (allF l), [], []⟩:=by
 refine pure_call mix Tryz.func90 fits90 rfl ?_
 conv=>whnf
 refine ⟨trivial, ?_⟩
 refine LSem.loop (n:=18) mix (α:=Nat) (fun i=>i≤l.length∧scan (rdE l) i (l.length - i)=allF l)
  (fun i=> [(0, .sl τ 4 l.length (fl eRd l)),(6, .sl τ 4 l.length (fl eRd l)),(7, .int .i64 l.length),(8, .int .i64 i)])
  (fun _=> []) (fun i=>l.length - i) 0 ?_ ?_ ?_
 ·exact ⟨Nat.zero_le _,rfl⟩
 ·refine ⟨rfl,rfl, ?_, ?_⟩
  all_goals exact ent
 ·intro i hi
  obtain ⟨hi,hs⟩:=hi
  have hj:((i:Int)).toNat=i:=by omega
  conv=>whnf
  refine ⟨trivial,fun hc=> ?_,fun hc=> ?_⟩
  ·replace hc:=of_decide_eq_true hc
   have hlt:i<l.length:=by omega
   conv=>whnf
   refine ⟨_,fun _=>call87 (l.getD ((i:Int)).toNat default), ?_⟩
   conv=>whnf
   refine ⟨?_,fun hc1=> ?_,fun hc1=> ?_⟩
   ·exact g0
   ·simp only [bp] at hc1
    rw [hj] at hc1
    have hh:allF l=rdE l i:=by rw [←hs];exact scan_hit (show 0<l.length - i by omega) hc1
    rw [hh,hj]
    conv=>whnf
    refine ⟨?_, [], ?_⟩
    ·exact g0
    conv=>whnf
    refine ⟨rfl, ?_,trivial,trivial⟩
    all_goals exact ent
   ·simp only [bp] at hc1
    rw [hj] at hc1
    have hh:scan (rdE l) (i+1) (l.length - (i+1))=allF l:=by rw [←hs,scan_step (show 0<l.length - i by omega) hc1];congr 1
    conv=>whnf
    refine ⟨?_,i+1,⟨by omega,hh⟩, ?_,rfl,rfl, ?_, ?_⟩
    ·exact g0
    ·omega
    all_goals repeat' (first | exact True.intro | refine leF_cons rfl ?_ ?_ | refine leS_cons rfl ?_ ?_ | (show PLe _ _ _ _;conv=>whnf) | (show SLe _ _ _ _;conv=>whnf) | (show PLeL _ _ _ _;conv=>whnf) | apply And.intro | rfl | exact Nat.le_refl _ | exact fun _ _=>rfl | exact rowEq0 _ _)
    all_goals omega
  ·replace hc:=of_decide_eq_false hc
   rw [show l.length - i=0 by omega] at hs
   rw [←hs]
   conv=>whnf
   refine ⟨?_, [], ?_⟩
   ·exact g0
   conv=>whnf
   refine ⟨rfl, ?_,trivial,trivial⟩
   all_goals exact ent
def c255:C:=(sr [kk 4 (.mv (.c (.bool false)))] (.seq (sr [km 6 0,kk 7 (.nc 6),kk 8 (.fa 5 7),kk 9 (.ld 1 false 8),kk 10 (.bi true .lss 9 (cn 0))] (.cond 10 (sr [kk 4 (.mv (.c (.bool false)))] .ret) .skip)) (.seq (.drw [km 11 0,kk 12 (.nc 11),kk 13 (.fa 4 12),kk 14 (.ld 1 false 13),km 15 1,kk 16 (.ia 4 14 15),kk 17 (.fa 2 16),kk 18 (.ld 1 false 17),km 19 0,kk 20 (.nc 19),kk 21 (.fa 4 20),kk 22 (.ld 1 false 21),km 23 0,kk 24 (.nc 23),kk 25 (.fa 5 24),kk 26 (.ld 1 false 25),kk 27 (.ia 4 22 26),kk 28 (.fa 2 27),kk 29 (.ld 1 false 28),kk 30 (.bi true .sub 18 29),km 5 30] (pl [(0,[4,8,9,10,11,12,13,14,15,16,17,18],11),(1,[4,8,9,10,11,12,13,14,15,16,17,18],12),(2,[4,8,9,10,11,12,13,14,15,16,17,18],13),(3,[4,8,9,10,11,12,13,14,15,16,17,18],14),(4,[8,9,10,11,12,13,14,15,16,17,18],15),(5,[8,9,10,11,12,13,14,15,16,17,18],16),(6,[8,9,10,11,12,13,14,15,16,17,18],17),(7,[8,9,10,11,12,13,14,15,16,17,18],18),(8,[12,13,14,15],19),(9,[12,13,14,15],20),(10,[12,13,14,15],21),(11,[12,13,14,15],22)])) (.seq (.drw [km 31 5,km 32 5,kk 33 (.un true .neg 32),kk 34 (.mx [31,33]),km 35 0,kk 36 (.nc 35),kk 37 (.fa 0 36),kk 38 (.fa 2 37),kk 39 (.ld 1 false 38),km 40 1,km 41 0,kk 42 (.nc 41),kk 43 (.fa 5 42),kk 44 (.ld 1 false 43),kk 45 (.bi true .sub 40 44),kk 46 (.bi true .mul 39 45),kk 47 (.bi true .gtr 34 46),km 4 47] (pl [(0,[1,2,4,5,6,7,8,9,10,11,12,13,14,15],31),(1,[4,5,6,7,8,9,10,11,12,13,14,15],32),(2,[4,5,6,7,8,9,10,11,12,13,14,15],33),(3,[4,5,6,7,8,9,10,11,12,13,14,15],34),(4,[9,10,11,12,13,14],35),(5,[9,10,11,12,13,14],36),(6,[9,10,11,12,13,14],37),(7,[9,10,11,12,13,14],38),(8,[9,10,11,12,13,14],39),(9,[10,11,12,13],40)])) .ret))))
theorem fits255:fits Tryz.prog true Tryz.f255 2 48 [(4,none)]=some c255.er:=by kernel_rfl
def c253:C:=(sr [kk 4 (.mv (.c (.bool false)))] (sr [km 5 0,kk 6 (.nc 5),kk 7 (.fa 4 6),kk 8 (.ld 1 false 7),km 9 1,kk 10 (.ia 4 8 9),kk 11 (.fa 3 10),kk 12 (.ld 1 false 11),kk 13 (.bi false .eql 12 (cn 2)),km 4 13] .ret))
theorem fits253:fits Tryz.prog false Tryz.f253 2 14 [(4,none)]=some c253.er:=by kernel_rfl
def c254:C:=(sr [kk 4 (.mv (.c (.bool false)))] (.seq (.drw [km 5 0,kk 6 (.nc 5),kk 7 (.fa 4 6),kk 8 (.ld 1 false 7),km 9 1,kk 10 (.ia 4 8 9),kk 11 (.fa 2 10),kk 12 (.ld 1 false 11),km 13 0,kk 14 (.nc 13),kk 15 (.fa 0 14),kk 16 (.fa 0 15),kk 17 (.ld 1 false 16),kk 18 (.bi false .lss 12 17),km 19 18,kg 20 19 false (.mv 0),kg 21 19 false (.nc 20),kg 22 19 false (.fa 4 21),kg 23 19 false (.ld 1 false 22),kg 24 19 false (.mv 1),kg 25 19 false (.ia 4 23 24),kg 26 19 false (.fa 2 25),kg 27 19 false (.ld 1 false 26),kg 28 19 false (.mv 0),kg 29 19 false (.nc 28),kg 30 19 false (.fa 0 29),kg 31 19 false (.fa 1 30),kg 32 19 false (.ld 1 false 31),kg 33 19 false (.bi false .gtr 27 32),kk 34 (.pick 19 (.c (.bool true)) 33),km 4 34] (pl [(0,[4,8,9,10,11,12],5),(1,[4,8,9,10,11,12],6),(2,[4,8,9,10,11,12],7),(3,[4,8,9,10,11,12],8),(4,[8,9,10,11,12],9),(5,[8,9,10,11,12],10),(6,[8,9,10,11,12],11),(7,[8,9,10,11,12],12),(15,[19,23,24,25,26,27],20),(16,[19,23,24,25,26,27],21),(17,[19,23,24,25,26,27],22),(18,[19,23,24,25,26,27],23),(19,[23,24,25,26,27],24),(20,[23,24,25,26,27],25),(21,[23,24,25,26,27],26),(22,[23,24,25,26,27],27)])) .ret))
theorem fits254:fits Tryz.prog false Tryz.f254 2 35 [(4,none)]=some c254.er:=by kernel_rfl
def c256:C:=(sr [kk 2 (.bx 1 0),kk 3 (.bx 1 1),kk 4 (.mv (.c (.bool false)))] (.seq (.seq (.drw [kk 5 (.ld 1 false 2),kk 6 (.nc 5),kk 7 (.fa 0 6),kk 8 (.fa 3 7),kk 9 (.ld 1 false 8),kk 10 (.bi false .eql 9 (cn 0)),km 11 10,kg 12 11 false (.ld 1 false 3),kg 13 11 false (.bi false .add 12 (cn 1)),kg 14 11 false (.ld 1 false 2),kg 15 11 false (.nc 14),kg 16 11 false (.fa 0 15),kg 17 11 false (.fa 3 16),kg 18 11 false (.ld 1 false 17),kg 19 11 false (.bi false .lss 13 18),kk 20 (.pick 11 (.c (.bool true)) 19)] (pl [(7,[9,10,11,12,13],12),(8,[9,10,11,12,13],13)])) (.cond 20 (sr [kk 4 (.mv (.c (.bool false)))] .ret) .skip)) (.seq (.drw [kk 21 (.ld 1 false 2),kk 22 (.nc 21),kk 23 (.fa 4 22),kk 24 (.ld 1 false 23),kk 25 (.ld 1 false 3),kk 26 (.bi false .add 25 (cn 1)),kk 27 (.ld 1 false 2),kk 28 (.nc 27),kk 29 (.fa 0 28),kk 30 (.fa 3 29),kk 31 (.ld 1 false 30),kk 32 (.bi false .sub 26 31),kk 33 (.ld 1 false 3),kk 34 (.bi false .add 33 (cn 1)),kk 35 (.slc 4 24 (some 32) (some 34)),kk 36 (.mf (.func 258) [] [2,3]),kk 37 (cl 257 [35,36]),kk 38 (.un false .not 37),km 4 38] (pl [(0,[4,5,6,7,8,9,10,11,12,13,15],21),(1,[4,5,6,7,8,9,10,11,12,13,15],22),(2,[4,5,6,7,8,9,10,11,12,13,15],23),(3,[4,5,6,7,8,9,10,11,12,13,15],24),(4,[6,7,8,9,10,12,13,15],25),(5,[6,7,8,9,10,12,13,15],26),(6,[12,13,15],27),(7,[12,13,15],28),(8,[12,13,15],29),(9,[12,13,15],30),(10,[12,13,15],31),(11,[12,13,15],32),(12,[15],33),(13,[15],34),(14,[15],35)])) .ret)))
theorem fits256:fits Tryz.prog false Tryz.f256 2 39 [(4,none)]=some c256.er:=by kernel_rfl
def c258:C:=(sr [kk 3 (.bx 4 0),kk 4 (.mv (.c (.bool false)))] (.seq (.drw [kk 5 (.fa 3 3),kk 6 (.ld 1 false 5),kk 7 (.bi false .eql 6 (cn 2)),km 8 7,kg 9 8 false (.fa 2 3),kg 10 8 false (.ld 1 false 9),kg 11 8 false (.ld 1 false 1),kg 12 8 false (.nc 11),kg 13 8 false (.fa 4 12),kg 14 8 false (.ld 1 false 13),kg 15 8 false (.ld 1 false 2),kg 16 8 false (.ia 4 14 15),kg 17 8 false (.fa 2 16),kg 18 8 false (.ld 1 false 17),kg 19 8 false (.bi false .neq 10 18),kk 20 (.pick 8 (.c (.bool true)) 19),km 4 20] (pl [(4,[6,7,8,9,10,11,12,13],9),(5,[6,7,8,9,10,11,12,13],10),(6,[10],11),(7,[10],12),(8,[10],13),(9,[10],14)])) .ret))
theorem fits258:fits Tryz.prog false Tryz.f258 3 21 [(4,none)]=some c258.er:=by kernel_rfl
def c299L1:C:=(sr [kk 9 (.bi false .lss 8 7)] (.seq (.cond 9 .skip (.exit 0)) (.seq (.block 1 (sr [km 10 8,km 5 10] (sr [km 11 1,km 12 0,km 13 5,kk 14 (.ia 4 12 13),kk 15 (.ld 4 true 14),kk 16 (.call 11 [15])] (.cond 16 (sr [km 17 5,km 4 17] .ret) .skip)))) (.reg [kk 18 (.bi false .add 8 (cn 1)),km 8 18]))))
def c299:C:=(sr [kk 4 (.mv (cn 0))] (.seq (sr [km 6 0,kk 7 (.len 6),kk 8 (.mv (cn 0))] (.block 0 (.loop c299L1))) (sr [kk 4 (.mv (cn (-1)))] .ret)))
theorem fits299:fits Tryz.prog false Tryz.f299 2 19 [(4,none)]=some c299.er:=by kernel_rfl
def c257:C:=(sr [kk 4 (.mv (.c (.bool false)))] (sr [km 5 0,km 6 1,kk 7 (cl 299 [5,6]),kk 8 (.bi false .geq 7 (cn 0)),km 4 8] .ret))
theorem fits257:fits Tryz.prog false Tryz.f257 2 9 [(4,none)]=some c257.er:=by kernel_rfl
def c202:C:=(sr [kk 0 (.mv (.c (.nil 2)))] (sr [kk 1 (.bd [(.int .i64 0),(.raw .nilFunc)] [(0,1,(cn 2)),(1,1,(.c (.fn (.func 253) [] [])))]),kk 2 (.bd [(.int .i64 0),(.raw .nilFunc)] [(0,1,(cn 3)),(1,1,(.c (.fn (.func 254) [] [])))]),kk 3 (.bd [(.int .i64 0),(.raw .nilFunc)] [(0,1,(cn 4)),(1,1,(.c (.fn (.func 255) [] [])))]),kk 4 (.bd [(.int .i64 0),(.raw .nilFunc)] [(0,1,(cn 5)),(1,1,(.c (.fn (.func 256) [] [])))]),kk 5 (.bs 336 2 [1,2,3,4]),km 0 5] .ret))
theorem fits202:fits Tryz.prog false Tryz.f202 0 6 [(0,none)]=some c202.er:=by kernel_rfl
def c156L1:C:=(sr [kk 10 (.bi false .lss 9 8)] (.seq (.cond 10 .skip (.exit 0)) (.seq (.block 1 (sr [kk 11 (.ia 2 7 9),kk 12 (.ld 2 true 11),kk 6 (.al [(.int .i64 0),(.raw .nilFunc)]),kz (.st 2 6 12)] (sr [kk 13 (.fa 1 6),kk 14 (.ld 1 false 13),km 15 0,km 16 1,kk 17 (.call 14 [15,16])] (.cond 17 (sr [kk 18 (.fa 0 6),kk 19 (.ld 1 false 18),km 4 19] .ret) .skip)))) (.reg [kk 20 (.bi false .add 9 (cn 1)),km 9 20]))))
def c156:C:=(sr [kk 4 (.mv (cn 0))] (.seq (sr [kk 7 (cl 202 []),kk 8 (.len 7),kk 9 (.mv (cn 0))] (.block 0 (.loop c156L1))) (sr [km 21 0,km 22 1,kk 23 (.nc 21),kk 24 (.fa 5 23),kz (.st 1 24 22)] (sr [kk 4 (.mv (cn 1))] .ret))))
theorem fits156:fits Tryz.prog false Tryz.f156 2 25 [(4,none)]=some c156.er:=by kernel_rfl
def c94L1:C:=(sr [kk 28 (.bi false .lss 27 26)] (.seq (.cond 28 .skip (.exit 0)) (.seq (.block 1 (sr [km 29 27,km 10 29] (.reg [km 30 9,km 31 8,km 32 10,kk 33 (cl 156 [31,32]),kk 34 (.bs 3 1 [33]),kk 35 (.app 3 1 8 30 34),km 9 35]))) (.reg [kk 36 (.bi false .add 27 (cn 1)),km 27 36]))))
def c94:C:=(sr [kk 2 (.bx 4 0),kk 4 (.mv (.c (.nil 1))),kk 5 (.mv (cn 0))] (.seq (sr [kk 11 (.ld 4 true 2),kk 12 (cl 155 [11]),km 6 12] (sr [km 13 6,kk 14 (.bi false .neq 13 (cn 0))] (.cond 14 (sr [km 15 6,kk 4 (.mv (.c (.nil 1))),km 5 15] .ret) .skip))) (.seq (sr [km 16 1,kk 17 (cl 90 [16]),km 7 17] (sr [km 18 7,kk 19 (.bi false .neq 18 (cn 0))] (.cond 19 (sr [km 20 7,kk 4 (.mv (.c (.nil 1))),km 5 20] .ret) .skip))) (sr [kk 21 (.ld 4 true 2),km 22 1,kk 23 (.bd [(.int .i64 0),(.int .i64 0),(.int .i64 0),(.int .i64 0),(.nil 4),(.int .i64 0)] [(0,4,21),(4,1,22),(5,1,(cn (-1)))]),kk 24 (.bx 6 23),km 8 24] (sr [kk 9 (.mv (.c (.nil 1)))] (.seq (sr [km 25 1,kk 26 (.len 25),kk 27 (.mv (cn 0))] (.block 0 (.loop c94L1))) (sr [km 37 9,km 4 37,kk 5 (.mv (cn 0))] .ret)))))))
theorem fits94:fits Tryz.prog false Tryz.f94 2 38 [(4,none),(5,none)]=some c94.er:=by kernel_rfl
def wC (c:Ck) (l:List Rd) (last:Int):List PV:=eCk c++ [.sl 2 4 l.length (fl eRd l), .int .i64 last]
def t1 (l:List Rd) (i:Nat):Bool:=decide ((l.getD i default).f=2)
def t2 (c:Ck) (l:List Rd) (i:Nat):Bool:=decide ((l.getD i default).v<c.a∨c.b<(l.getD i default).v)
def jumpW (c:Ck) (i:Nat) (last:Int):Int:=IntKind.wrap .i64 (c.j*((i:Int) - last))
def t3 (c:Ck) (l:List Rd) (last:Int) (i:Nat):Bool:=decide (0≤last∧jumpW c i last<mx ((l.getD i default).v - (l.getD last.toNat default).v) (-((l.getD i default).v - (l.getD last.toNat default).v)))
def offP (l:List Rd) (i:Nat) (r:Rd):Bool:=decide (r.f=2∨r.v≠(l.getD i default).v)
def subL (l:List Rd) (c:Ck) (i:Nat):List Rd:=(l.drop ((i:Int)+1 - c.s).toNat).take c.s.toNat
def t4 (c:Ck) (l:List Rd) (i:Nat):Bool:=bif decide (c.s=0∨(i:Int)+1<c.s) then false else !decide (0≤ixG (offP l i) (subL l c i) 0 (subL l c i).length)
theorem wrap64 (n:Int):IntKind.wrap .i64 n=(n+9223372036854775808) % 18446744073709551616 - 9223372036854775808:=by
 simp [IntKind.wrap,IntKind.signed,IntKind.bits]
 omega
theorem wr_id {n:Int} (h: -9223372036854775808≤n∧n≤9223372036854775807):IntKind.wrap .i64 n=n:=by rw [wrap64];omega
theorem bif_or (p q:Prop) [Decidable p] [Decidable q]:(bif decide p then true else decide q)=decide (p∨q):=by
 by_cases h:p<;>simp [h]
def verdF (c:Ck) (l:List Rd) (last:Int) (i:Nat):Int:=if t1 l i=true then 2 else if t2 c l i=true then 3 else if t3 c l last i=true then 4 else if t4 c l i=true then 5 else 1
theorem call253 (c:Ck) (l:List Rd) (last:Int) (i:Nat) (hi:i<l.length):PureCall Tryz.prog 253 [.rp 2 (wC c l last), .int .i64 i] [] ⟨.bool (t1 l i), [], []⟩:=by
 have hj:((i:Int)).toNat=i:=by omega
 refine pure_call mix Tryz.func253 fits253 rfl ?_
 conv=>whnf
 refine ⟨?_, [], ?_⟩
 ·exact g0
 conv=>whnf
 refine ⟨rfl, ?_,trivial,trivial⟩
 all_goals exact ent
theorem call254 (c:Ck) (l:List Rd) (last:Int) (i:Nat) (hi:i<l.length):PureCall Tryz.prog 254 [.rp 2 (wC c l last), .int .i64 i] [] ⟨.bool (t2 c l i), [], []⟩:=by
 have hj:((i:Int)).toNat=i:=by omega
 refine pure_call mix Tryz.func254 fits254 rfl ?_
 conv=>whnf
 refine ⟨rfl, ?_⟩
 conv=>whnf
 refine ⟨?_, [], ?_⟩
 ·exact g0
 conv=>whnf
 refine ⟨rfl, ?_,trivial,trivial⟩
 all_goals repeat' (first | exact True.intro | refine leF_cons rfl ?_ ?_ | refine leS_cons rfl ?_ ?_ | (show PLe _ _ _ _;conv=>whnf) | (show SLe _ _ _ _;conv=>whnf) | (show PLeL _ _ _ _;conv=>whnf) | apply And.intro | rfl | exact Nat.le_refl _ | exact fun _ _=>rfl | exact rowEq0 _ _)
 rw [hj];unfold t2;rw [←bif_or]
theorem call255 (c:Ck) (l:List Rd) (last:Int) (i:Nat) (hi:i<l.length) (hl:l.length≤4611686018427387904) (h1: -1≤last∧last<i) (hv:∀k,k<l.length→0≤(l.getD k default).v∧(l.getD k default).v≤1073741824):
  PureCall Tryz.prog 255 [.rp 2 (wC c l last), .int .i64 i] [] ⟨.bool (t3 c l last i), [], []⟩:=by
 have hj:((i:Int)).toNat=i:=by omega
 refine pure_call mix Tryz.func255 fits255 rfl ?_
 conv=>whnf
 refine ⟨?_,fun hc=> ?_,fun hc=> ?_⟩
 ·exact g0
 ·replace hc:=of_decide_eq_true hc
  rw [show t3 c l last i=false from decide_eq_false (by omega)]
  conv=>whnf
  refine ⟨?_, [], ?_⟩
  ·exact g0
  conv=>whnf
  refine ⟨rfl, ?_,trivial,trivial⟩
  all_goals exact ent
 replace hc:=of_decide_eq_false hc
 conv=>whnf
 refine ⟨rfl, ?_⟩
 conv=>whnf
 refine ⟨rfl, ?_⟩
 conv=>whnf
 refine ⟨?_, [], ?_⟩
 ·exact g0
 conv=>whnf
 refine ⟨rfl, ?_,trivial,trivial⟩
 all_goals repeat' (first | exact True.intro | refine leF_cons rfl ?_ ?_ | refine leS_cons rfl ?_ ?_ | (show PLe _ _ _ _;conv=>whnf) | (show SLe _ _ _ _;conv=>whnf) | (show PLeL _ _ _ _;conv=>whnf) | apply And.intro | rfl | exact Nat.le_refl _ | exact fun _ _=>rfl | exact rowEq0 _ _)
 rw [hj]
 have v1:=hv i hi
 have v2:=hv last.toNat (by omega)
 rw [wr_id (n:=(i:Int) - last) (by omega),wr_id (n:=(l.getD i default).v - (l.getD last.toNat default).v) (by omega),wr_id (n:=0 - ((l.getD i default).v - (l.getD last.toNat default).v)) (by omega),Int.zero_sub]
 unfold t3 jumpW mx
 simp only [show 0≤last by omega,true_and]
theorem call258 (c:Ck) (l:List Rd) (last:Int) (i:Nat) (r:Rd) (hi:i<l.length):
  PureCall Tryz.prog 258 [.agg (eRd r), .pt 0 0 0, .pt 1 0 0] [.box [.rp 2 (wC c l last)], .box [.int .i64 i]] ⟨.bool (offP l i r), [.box [.rp 2 (wC c l last)], .box [.int .i64 i]], []⟩:=by
 have hj:((i:Int)).toNat=i:=by omega
 refine pure_call mix Tryz.func258 fits258 rfl ?_
 conv=>whnf
 refine ⟨rfl, ?_⟩
 conv=>whnf
 refine ⟨?_, [], ?_⟩
 ·exact g0
 conv=>whnf
 refine ⟨rfl, ?_, ?_, ?_⟩
 all_goals repeat' (first | exact True.intro | refine leF_cons rfl ?_ ?_ | refine leS_cons rfl ?_ ?_ | (show PLe _ _ _ _;conv=>whnf) | (show SLe _ _ _ _;conv=>whnf) | (show PLeL _ _ _ _;conv=>whnf) | apply And.intro | rfl | exact Nat.le_refl _ | exact fun _ _=>rfl | exact rowEq0 _ _)
 rw [hj];unfold offP;rw [←bif_or]
 by_cases h:r.f=2<;>by_cases h2:r.v=(l.getD i default).v<;>simp [h,h2, -List.getD_eq_getElem?_getD]
abbrev bxW (c:Ck) (l:List Rd) (last:Int) (i:Nat):List SE:= [.box [.rp 2 (wC c l last)], .box [.int .i64 i]]
theorem call299 (τ:Nat) (c:Ck) (l:List Rd) (last:Int) (i:Nat) (m:List Rd) (hi:i<l.length) (hm:m.length≤4611686018427387904):
  PureCall Tryz.prog 299 [.sl τ 4 m.length (fl eRd m), .fn (.func 258) [] [.pt 0 0 0, .pt 1 0 0]] (bxW c l last i) ⟨.int .i64 (ixG (offP l i) m 0 m.length),bxW c l last i, []⟩:=by
 refine pure_call mix Tryz.func299 fits299 rfl ?_
 conv=>whnf
 refine ⟨trivial, ?_⟩
 refine LSem.loop (n:=19) mix (α:=Nat) (fun k=>k≤m.length∧ixG (offP l i) m k (m.length - k)=ixG (offP l i) m 0 m.length)
  (fun k=> [(0, .sl τ 4 m.length (fl eRd m)),(1, .fn (.func 258) [] [.pt 0 0 0, .pt 1 0 0]),(7, .int .i64 m.length),(8, .int .i64 k)])
  (fun k=> [(0, .box [.rp 2 (wC c l last)]),(1, .box [.int .i64 i])]) (fun k=>m.length - k) 0 ?_ ?_ ?_
 ·exact ⟨Nat.zero_le _,rfl⟩
 ·refine ⟨rfl,rfl, ?_, ?_⟩
  all_goals exact ent
 ·intro k hk
  obtain ⟨hk,hs⟩:=hk
  have hj:((k:Int)).toNat=k:=by omega
  conv=>whnf
  refine ⟨trivial,fun hc=> ?_,fun hc=> ?_⟩
  ·replace hc:=of_decide_eq_true hc
   have hlt:k<m.length:=by omega
   have hst:ixG (offP l i) m k (m.length - k)=if offP l i (m.getD k default)=true then (k:Int) else ixG (offP l i) m (k+1) (m.length - (k+1)):=by
    rw [show m.length - k=(m.length - (k+1))+1 by omega];rfl
   rw [hst] at hs
   conv=>whnf
   refine ⟨_,fun _=>call258 c l last i (m.getD ((k:Int)).toNat default) hi, ?_⟩
   conv=>whnf
   refine ⟨?_,fun hc2=> ?_,fun hc2=> ?_⟩
   ·exact g0
   ·rw [hj] at hc2
    rw [if_pos hc2] at hs
    rw [←hs]
    conv=>whnf
    refine ⟨?_, [], ?_⟩
    ·exact g0
    conv=>whnf
    refine ⟨rfl, ?_, ?_, ?_⟩
    all_goals exact ent
   ·rw [hj] at hc2
    rw [if_neg (by rw [hc2];decide)] at hs
    conv=>whnf
    refine ⟨?_,k+1,⟨by omega,hs⟩, ?_,rfl,rfl, ?_, ?_⟩
    ·exact g0
    ·omega
    all_goals repeat' (first | exact True.intro | refine leF_cons rfl ?_ ?_ | refine leS_cons rfl ?_ ?_ | (show PLe _ _ _ _;conv=>whnf) | (show SLe _ _ _ _;conv=>whnf) | (show PLeL _ _ _ _;conv=>whnf) | apply And.intro | rfl | exact Nat.le_refl _ | exact fun _ _=>rfl | exact rowEq0 _ _)
    all_goals omega
  ·replace hc:=of_decide_eq_false hc
   rw [show m.length - k=0 by omega] at hs
   rw [←hs]
   conv=>whnf
   refine ⟨?_, [], ?_⟩
   ·exact g0
   conv=>whnf
   refine ⟨rfl, ?_, ?_, ?_⟩
   all_goals exact ent
theorem call257 (τ:Nat) (c:Ck) (l:List Rd) (last:Int) (i:Nat) (m:List Rd) (hi:i<l.length) (hm:m.length≤4611686018427387904):
  PureCall Tryz.prog 257 [.sl τ 4 m.length (fl eRd m), .fn (.func 258) [] [.pt 0 0 0, .pt 1 0 0]] (bxW c l last i) ⟨.bool (decide (0≤ixG (offP l i) m 0 m.length)),bxW c l last i, []⟩:=by
 refine pure_call mix Tryz.func257 fits257 rfl ?_
 conv=>whnf
 refine ⟨_,fun _=>call299 _ c l last i m hi hm, ?_⟩
 conv=>whnf
 refine ⟨?_, [], ?_⟩
 ·exact g0
 conv=>whnf
 refine ⟨rfl, ?_, ?_, ?_⟩
 all_goals exact ent
theorem call256 (c:Ck) (l:List Rd) (last:Int) (i:Nat) (hi:i<l.length) (hl:l.length≤4611686018427387904) (hc0:ckOk c):
  PureCall Tryz.prog 256 [.rp 2 (wC c l last), .int .i64 i] [] ⟨.bool (t4 c l i), [], []⟩:=by
 have hj:((i:Int)).toNat=i:=by omega
 unfold ckOk at hc0
 refine pure_call mix Tryz.func256 fits256 rfl ?_
 conv=>whnf
 refine ⟨rfl, ?_⟩
 conv=>whnf
 refine ⟨?_,fun hc=> ?_,fun hc=> ?_⟩
 ·exact g0
 ·simp only [bp] at hc
  rw [show t4 c l i=false by unfold t4;rw [decide_eq_true (by omega)];rfl]
  conv=>whnf
  refine ⟨?_, [], ?_⟩
  ·exact g0
  conv=>whnf
  refine ⟨rfl, ?_,trivial,trivial⟩
  all_goals exact ent
 simp only [bp] at hc
 rw [show t4 c l i= !decide (0≤ixG (offP l i) (subL l c i) 0 (subL l c i).length) by unfold t4;rw [decide_eq_false (by omega)];rfl]
 have hsl:(subL l c i).length=c.s.toNat:=by unfold subL;rw [List.length_take,List.length_drop];omega
 have hsg:∀k,k<c.s.toNat→(subL l c i).getD k default=l.getD (((i:Int)+1 - c.s).toNat+k) default:=fun k hk=>by
  unfold subL
  rw [List.getD_eq_getElem?_getD,List.getElem?_take,if_pos hk,List.getElem?_drop,List.getD_eq_getElem?_getD]
 conv=>whnf
 refine ⟨_,fun _=>PureCall.arg_le (call257 2 c l last i (subL l c i) hi (by omega)) rfl (by
  all_goals repeat' (first | exact True.intro | refine leF_cons rfl ?_ ?_ | refine leS_cons rfl ?_ ?_ | (show PLe _ _ _ _;conv=>whnf) | (show SLe _ _ _ _;conv=>whnf) | (show PLeL _ _ _ _;conv=>whnf) | apply And.intro | rfl | exact Nat.le_refl _ | exact fun _ _=>rfl | exact rowEq0 _ _)
  ·omega
  ·intro k hk
   show eRd _=eRd _
   rw [hsg k (by omega)]), ?_⟩
 conv=>whnf
 refine ⟨rfl, ?_⟩
 conv=>whnf
 refine ⟨?_, [], ?_⟩
 ·exact g0
 conv=>whnf
 refine ⟨rfl, ?_,trivial,trivial⟩
 all_goals exact ent
def testsF:Nat→List PV:=fun i=> [[PV.int .i64 2, .fn (.func 253) [] []], [.int .i64 3, .fn (.func 254) [] []], [.int .i64 4, .fn (.func 255) [] []], [.int .i64 5, .fn (.func 256) [] []]].getD i []
theorem call202:PureCall Tryz.prog 202 [] [] ⟨.sl 0 2 4 testsF, [], []⟩:=by
 refine pure_call mix Tryz.func202 fits202 rfl ?_
 conv=>whnf
 refine ⟨?_, [], ?_⟩
 ·exact g0
 conv=>whnf
 refine ⟨rfl, ?_, ?_, ?_⟩
 all_goals exact ent
theorem wC_flat (c:Ck) (l:List Rd) (last:Int):∀p∈wC c l last,p.flat=true∧p.tau≤2:=fun p hp=>by
 simp only [wC,eCk,List.mem_append,List.mem_cons,List.not_mem_nil,or_false] at hp
 rcases hp with (rfl | rfl | rfl | rfl) | (rfl | rfl)<;>exact ⟨rfl,by first | exact Nat.zero_le _ | exact Nat.le_refl _⟩
theorem int_flat (n:Int):∀p∈ [PV.int .i64 n],p.flat=true∧p.tau≤2∧p.mark 2=p:=fun p hp=>by
 rw [List.mem_singleton.1 hp];exact ⟨rfl,Nat.zero_le _,rfl⟩
theorem call156 (c:Ck) (l:List Rd) (last:Int) (i:Nat) (hi:i<l.length) (hl:l.length≤4611686018427387904) (h1: -1≤last∧last<i) (hv:∀k,k<l.length→0≤(l.getD k default).v∧(l.getD k default).v≤1073741824) (hc0:ckOk c):
  PureCall Tryz.prog 156 [.pt 0 0 0, .int .i64 i] [.box (wC c l last)] ⟨.int .i64 (verdF c l last i), [.box (wC c l (if verdF c l last i=1 then i else last))], []⟩:=by
 refine pure_call mix Tryz.func156 fits156 rfl ?_
 conv=>whnf
 refine ⟨_,fun _=>call202, ?_⟩
 conv=>whnf
 refine ⟨?_, ?_⟩
 ·exact g0
 refine LSem.loop (n:=25) mix (α:=Nat) (fun k=>k≤4∧(0<k→t1 l i=false)∧(1<k→t2 c l i=false)∧(2<k→t3 c l last i=false)∧(3<k→t4 c l i=false))
  (fun k=> [(0, .pt 0 0 0),(1, .int .i64 i),(7, .sl 0 2 4 testsF),(8, .int .i64 4),(9, .int .i64 k)])
  (fun k=> [(0, .box (wC c l last))]) (fun k=>4 - k) 0 ?_ ?_ ?_
 ·exact ⟨by omega,fun h=>by omega,fun h=>by omega,fun h=>by omega,fun h=>by omega⟩
 ·refine ⟨rfl,rfl, ?_, ?_⟩
  all_goals exact ent
 ·intro k hk
  obtain ⟨hk,k1,k2,k3,k4⟩:=hk
  have h01234:k=0∨k=1∨k=2∨k=3∨k=4:=by omega
  rcases h01234 with rfl | rfl | rfl | rfl | rfl
  ·conv=>whnf
   refine ⟨trivial,fun _=> ?_,fun hc=>absurd hc (by decide)⟩
   conv=>whnf
   refine ⟨_,fun _=>PureCall.of_rp (call253 c l last i hi) rfl (wC_flat c l last) (int_flat _), ?_⟩
   cases ht:t1 l i with
   | true=>
     have v5:verdF c l last i=2:=by unfold verdF;rw [ht];rfl
     rw [v5,if_neg (by decide)]
     conv=>whnf
     refine ⟨?_,fun _=> ?_,fun hc=>absurd hc (by decide)⟩
     ·exact g0
     conv=>whnf
     refine ⟨?_, [], ?_⟩
     ·exact g0
     conv=>whnf
     refine ⟨rfl, ?_, ?_, ?_⟩
     all_goals exact ent
   | false=>
     conv=>whnf
     refine ⟨?_,fun hc=>absurd hc (by decide),fun _=> ?_⟩
     ·exact g0
     conv=>whnf
     refine ⟨?_,1,⟨by omega,by first | exact fun _=>ht | exact fun _=>rfl,fun h=>by omega,fun h=>by omega,fun h=>by omega⟩,by omega,rfl,rfl, ?_, ?_⟩
     ·exact g0
     all_goals exact ent
  ·conv=>whnf
   refine ⟨trivial,fun _=> ?_,fun hc=>absurd hc (by decide)⟩
   conv=>whnf
   refine ⟨_,fun _=>PureCall.of_rp (call254 c l last i hi) rfl (wC_flat c l last) (int_flat _), ?_⟩
   cases ht:t2 c l i with
   | true=>
     have v5:verdF c l last i=3:=by unfold verdF;rw [k1 (by omega),ht];rfl
     rw [v5,if_neg (by decide)]
     conv=>whnf
     refine ⟨?_,fun _=> ?_,fun hc=>absurd hc (by decide)⟩
     ·exact g0
     conv=>whnf
     refine ⟨?_, [], ?_⟩
     ·exact g0
     conv=>whnf
     refine ⟨rfl, ?_, ?_, ?_⟩
     all_goals exact ent
   | false=>
     conv=>whnf
     refine ⟨?_,fun hc=>absurd hc (by decide),fun _=> ?_⟩
     ·exact g0
     conv=>whnf
     refine ⟨?_,2,⟨by omega,fun _=>k1 (by omega),by first | exact fun _=>ht | exact fun _=>rfl,fun h=>by omega,fun h=>by omega⟩,by omega,rfl,rfl, ?_, ?_⟩
     ·exact g0
     all_goals exact ent
  ·conv=>whnf
   refine ⟨trivial,fun _=> ?_,fun hc=>absurd hc (by decide)⟩
   conv=>whnf
   refine ⟨_,fun _=>PureCall.of_rp (call255 c l last i hi hl h1 hv) rfl (wC_flat c l last) (int_flat _), ?_⟩
   cases ht:t3 c l last i with
   | true=>
     have v5:verdF c l last i=4:=by unfold verdF;rw [k1 (by omega),k2 (by omega),ht];rfl
     rw [v5,if_neg (by decide)]
     conv=>whnf
     refine ⟨?_,fun _=> ?_,fun hc=>absurd hc (by decide)⟩
     ·exact g0
     conv=>whnf
     refine ⟨?_, [], ?_⟩
     ·exact g0
     conv=>whnf
     refine ⟨rfl, ?_, ?_, ?_⟩
     all_goals exact ent
   | false=>
     conv=>whnf
     refine ⟨?_,fun hc=>absurd hc (by decide),fun _=> ?_⟩
     ·exact g0
     conv=>whnf
     refine ⟨?_,3,⟨by omega,fun _=>k1 (by omega),fun _=>k2 (by omega),by first | exact fun _=>ht | exact fun _=>rfl,fun h=>by omega⟩,by omega,rfl,rfl, ?_, ?_⟩
     ·exact g0
     all_goals exact ent
  ·conv=>whnf
   refine ⟨trivial,fun _=> ?_,fun hc=>absurd hc (by decide)⟩
   conv=>whnf
   refine ⟨_,fun _=>PureCall.of_rp (call256 c l last i hi hl hc0) rfl (wC_flat c l last) (int_flat _), ?_⟩
   cases ht:t4 c l i with
   | true=>
     have v5:verdF c l last i=5:=by unfold verdF;rw [k1 (by omega),k2 (by omega),k3 (by omega),ht];rfl
     rw [v5,if_neg (by decide)]
     conv=>whnf
     refine ⟨?_,fun _=> ?_,fun hc=>absurd hc (by decide)⟩
     ·exact g0
     conv=>whnf
     refine ⟨?_, [], ?_⟩
     ·exact g0
     conv=>whnf
     refine ⟨rfl, ?_, ?_, ?_⟩
     all_goals exact ent
   | false=>
     conv=>whnf
     refine ⟨?_,fun hc=>absurd hc (by decide),fun _=> ?_⟩
     ·exact g0
     conv=>whnf
     refine ⟨?_,4,⟨by omega,fun _=>k1 (by omega),fun _=>k2 (by omega),fun _=>k3 (by omega),by first | exact fun _=>ht | exact fun _=>rfl⟩,by omega,rfl,rfl, ?_, ?_⟩
     ·exact g0
     all_goals exact ent
  ·have v5:verdF c l last i=1:=by unfold verdF;rw [k1 (by omega),k2 (by omega),k3 (by omega),k4 (by omega)];rfl
   rw [v5,if_pos rfl]
   conv=>whnf
   refine ⟨trivial,fun hc=>absurd hc (by decide),fun _=> ?_⟩
   conv=>whnf
   refine ⟨?_, [], ?_⟩
   ·exact g0
   conv=>whnf
   refine ⟨rfl, ?_, ?_, ?_⟩
   all_goals exact ent
def vSt (c:Ck) (l:List Rd):Nat→List Int×Int
 | 0=>([], -1)
 | i+1=>((vSt c l i).1++ [verdF c l (vSt c l i).2 i],if verdF c l (vSt c l i).2 i=1 then (i:Int) else (vSt c l i).2)
theorem vSt_len (c:Ck) (l:List Rd):∀i,(vSt c l i).1.length=i
 | 0=>rfl
 | i+1=>by show (_++ [_]).length=_;rw [List.length_append,vSt_len c l i];rfl
theorem vSt_last (c:Ck) (l:List Rd):∀i, -1≤(vSt c l i).2∧(vSt c l i).2<i
 | 0=>by unfold vSt;omega
 | i+1=>by
   have:=vSt_last c l i
   show -1≤(if _ then _ else _)∧_<_
   simp only [vSt]
   split<;>omega
def verdictsF (c:Ck) (l:List Rd):List Int×Int:=if ckErr c≠0 then ([],ckErr c) else if allF l≠0 then ([],allF l) else ((vSt c l l.length).1,0)
theorem ck_ok {c:Ck} (h:ckErr c=0):ckOk c:=by
 unfold ckErr at h
 split at h
 ·assumption
 ·cases h
theorem rd_ok {l:List Rd} (h:allF l=0) (i:Nat) (hi:i<l.length):rdErr (l.getD i default)=0:=scan_zero h i (by omega) (by omega)
theorem rd_v {r:Rd} (h:rdErr r=0):(0≤r.g∧r.g≤255)∧(0≤r.t∧r.t≤16777216)∧(0≤r.v∧r.v≤1073741824)∧0≤r.f∧r.f≤2:=by
 unfold rdErr at h
 split at h
 ·cases h
 split at h
 ·cases h
 split at h
 ·cases h
 split at h
 ·cases h
 omega
theorem call94 (c:Ck) (l:List Rd) (hl:l.length≤8796093022208):PureCall Tryz.prog 94 [.agg (eCk c), .sl 2 4 l.length (fl eRd l)] [] ⟨.tup [.sl 0 1 (verdictsF c l).1.length (fl eInt (verdictsF c l).1), .int .i64 (verdictsF c l).2], [], []⟩:=by
 refine pure_call mix Tryz.func94 fits94 rfl ?_
 conv=>whnf
 refine ⟨_,fun _=>call155 c, ?_⟩
 conv=>whnf
 refine ⟨?_,fun hc=> ?_,fun hc=> ?_⟩
 ·exact g0
 ·simp only [bp] at hc
  rw [show verdictsF c l=([],ckErr c) by unfold verdictsF;rw [if_pos hc]]
  conv=>whnf
  refine ⟨?_, [], ?_⟩
  ·exact g0
  conv=>whnf
  refine ⟨rfl, ?_,trivial,trivial⟩
  all_goals exact ent
 simp only [bp] at hc
 have hck:ckErr c=0:=by omega
 have hc0:=ck_ok hck
 conv=>whnf
 refine ⟨_,fun _=>call90 _ l (by omega), ?_⟩
 conv=>whnf
 refine ⟨?_,fun hc=> ?_,fun hc=> ?_⟩
 ·exact g0
 ·simp only [bp] at hc
  rw [show verdictsF c l=([],allF l) by unfold verdictsF;rw [if_neg (by omega),if_pos hc]]
  conv=>whnf
  refine ⟨?_, [], ?_⟩
  ·exact g0
  conv=>whnf
  refine ⟨rfl, ?_,trivial,trivial⟩
  all_goals exact ent
 simp only [bp] at hc
 have hal:allF l=0:=by omega
 have hvv:∀k,k<l.length→0≤(l.getD k default).v∧(l.getD k default).v≤1073741824:=fun k hk=>(rd_v (rd_ok hal k hk)).2.2.1
 rw [show verdictsF c l=((vSt c l l.length).1,0) by unfold verdictsF;rw [if_neg (by omega),if_neg (by omega)]]
 conv=>whnf
 refine ⟨?_, ?_⟩
 ·exact g0
 refine LSem.adopt 9 1000000 3 1 1 rfl rfl ?_
 refine LSem.loop (n:=38) mix (α:=Nat) (fun i=>i≤l.length)
  (fun i=> [(1, .sl 2 4 l.length (fl eRd l)),(8, .pt 384 0 0),(9, .os 1000000),(25, .sl 2 4 l.length (fl eRd l)),(26, .int .i64 l.length),(27, .int .i64 i)])
  (fun i=> [(384, .box (wC c l (vSt c l i).2)),(1000000, .row 0 3 1 i (fl eInt (vSt c l i).1))]) (fun i=>l.length - i) 0 ?_ ?_ ?_
 ·exact Nat.zero_le _
 ·refine ⟨rfl,rfl, ?_, ?_⟩
  all_goals exact ent
 ·intro i hi
  have hj:((i:Int)).toNat=i:=by omega
  have hlast:=vSt_last c l i
  conv=>whnf
  refine ⟨trivial,fun hc=> ?_,fun hc=> ?_⟩
  ·replace hc:=of_decide_eq_true hc
   have hlt:i<l.length:=by omega
   have hps:=fl_push eInt (vSt c l i).1 (verdF c l (vSt c l i).2 i)
   rw [vSt_len] at hps
   conv=>whnf
   refine ⟨_,fun _=>call156 c l (vSt c l i).2 i hlt (by omega) hlast hvv hc0, ?_⟩
   conv=>whnf
   refine ⟨?_,i+1,(by omega:i+1≤l.length), ?_,rfl,rfl, ?_, ?_⟩
   ·exact g0
   ·omega
   all_goals repeat' (first | exact True.intro | refine leF_cons rfl ?_ ?_ | refine leS_cons rfl ?_ ?_ | (show PLe _ _ _ _;conv=>whnf) | (show SLe _ _ _ _;conv=>whnf) | (show PLeL _ _ _ _;conv=>whnf) | apply And.intro | rfl | exact Nat.le_refl _ | exact fun _ _=>rfl | exact rowEq0 _ _)
   all_goals first | omega | exact hps | skip
  ·replace hc:=of_decide_eq_false hc
   have:i=l.length:=by omega
   subst this
   have hll:=vSt_len c l l.length
   generalize (vSt c l l.length).1=V at hll⊢
   rw [←hll]
   conv=>whnf
   refine ⟨?_, [], ?_⟩
   ·exact g0
   conv=>whnf
   refine ⟨rfl, ?_,trivial,trivial⟩
   all_goals exact ent
def c36L1:C:=(.seq (sr [km 9 7,km 10 1,kk 11 (.bi false .lss 9 10)] (.cond 11 .skip (.exit 0))) (.seq (.block 1 (.seq (sr [km 14 0,kk 15 (cl 12 [14,(cn 6)])] (.block 2 (sr [kk 17 (.bi false .eql 15 (cn 0)),km 16 17] (.cond 16 (.reg [km 18 0,kk 19 (cl 12 [18,(cn 120)]),km 6 19]) (.seq (sr [kk 21 (.bi false .eql 15 (cn 1)),km 20 21] (.cond 20 .skip (.reg [kk 22 (.bi false .eql 15 (cn 2)),km 20 22]))) (.cond 20 (.reg [km 23 6,km 24 0,kk 25 (cl 12 [24,(cn 5)]),kk 26 (.bi false .add 23 25),km 6 26]) .skip)))))) (sr [km 27 7,km 28 6,kk 29 (.bd [(.int .i64 0),(.int .i64 0),(.int .i64 0),(.int .i64 0)] [(1,1,27),(2,1,28)]),kk 8 (.al [(.int .i64 0),(.int .i64 0),(.int .i64 0),(.int .i64 0)]),kz (.st 4 8 29)] (.seq (sr [km 30 0,kk 31 (cl 12 [30,(cn 9)]),kk 32 (.bi false .eql 31 (cn 8))] (.cond 32 (.reg [kk 33 (.fa 3 8),kz (.st 1 33 (cn 2))]) .skip)) (.reg [km 34 5,kk 35 (.ld 4 true 8),kk 36 (.bs 109 4 [35]),kk 37 (.app 109 4 32 34 36),km 5 37]))))) (.reg [km 12 7,kk 13 (.bi false .add 12 (cn 1)),km 7 13])))
def c36:C:=(sr [kk 4 (.mv (.c (.nil 4)))] (sr [kk 5 (.mv (.c (.nil 4)))] (sr [kk 6 (.mv (cn 50))] (.seq (sr [kk 7 (.mv (cn 0))] (.block 0 (.loop c36L1))) (sr [km 38 5,km 4 38] .ret)))))
theorem fits36:fits Tryz.prog false Tryz.f36 2 39 [(4,none)]=some c36.er:=by kernel_rfl
structure Sst where
 l:List Rd
 v:Int
 d:Dk
def serV (s:Sst):Int:=if nxt s.d 6=0 then nxt (nxtD s.d 6) 120 else if nxt s.d 6=1∨nxt s.d 6=2 then s.v+nxt (nxtD s.d 6) 5 else s.v
def serD (s:Sst):Dk:=if nxt s.d 6=0 then nxtD (nxtD s.d 6) 120 else if nxt s.d 6=1∨nxt s.d 6=2 then nxtD (nxtD s.d 6) 5 else nxtD s.d 6
def serN (s:Sst):Sst:=⟨s.l++ [⟨0,s.l.length,serV s,if nxt (serD s) 9=8 then 2 else 0⟩],serV s,nxtD (serD s) 9⟩
def serS (d:Dk):Nat→Sst
 | 0=>⟨[],50,d⟩
 | n+1=>serN (serS d n)
theorem serN_rng {s:Sst} (hv:0≤s.v∧s.v≤120+5*(s.l.length:Int)):0≤serV s∧serV s≤125+5*(s.l.length:Int):=by
 have r1:=nxt_lt (nxtD s.d 6) (n:=120) (by omega)
 have r2:=nxt_lt (nxtD s.d 6) (n:=5) (by omega)
 unfold serV
 split
 ·omega
 ·split<;>omega
theorem serD_at (s:Sst):(serD s).at_≤s.d.at_+2:=by
 have a1:=nxtD_at s.d 6
 have a2:=nxtD_at (nxtD s.d 6) 120
 have a3:=nxtD_at (nxtD s.d 6) 5
 unfold serD
 split
 ·omega
 ·split<;>omega
theorem serS_props (d:Dk):∀n,(serS d n).l.length=n∧(0≤(serS d n).v∧(serS d n).v≤120+5*(n:Int))∧(serS d n).d.at_≤d.at_+3*n
 | 0=>⟨rfl,⟨by show (0:Int)≤50;omega,by show (50:Int)≤_;omega⟩,Nat.le_refl _⟩
 | n+1=>by
   obtain ⟨h1,h2,h3⟩:=serS_props d n
   have r:=serN_rng (s:=serS d n) (by rw [h1];exact h2)
   have a1:=serD_at (serS d n)
   have a2:=nxtD_at (serD (serS d n)) 9
   rw [h1] at r
   refine ⟨by show (_++ [_]).length=_;rw [List.length_append,h1];rfl,⟨r.1, ?_⟩, ?_⟩
   ·show serV _≤_;omega
   ·show (nxtD (serD (serS d n)) 9).at_≤_;omega
theorem ser_ok (d:Dk):∀n,n≤1000→∀i,i<n→rdErr ((serS d n).l.getD i default)=0
 | 0,_,i,hi=>by omega
 | n+1,hn,i,hi=>by
   obtain ⟨h1,h2,h3⟩:=serS_props d n
   have r:=serN_rng (s:=serS d n) (by rw [h1];exact h2)
   rw [h1] at r
   show rdErr (((serS d n).l++ [_]).getD i default)=0
   rw [List.getD_eq_getElem?_getD,List.getElem?_append]
   by_cases h:i<n
   ·rw [if_pos (by omega),←List.getD_eq_getElem?_getD];exact ser_ok d n (by omega) i h
   ·rw [if_neg (by omega),h1,show i - n=0 by omega]
    show rdErr ⟨0,_,_,_⟩=0
    unfold rdErr
    dsimp only
    rw [if_neg (by omega),if_neg (by omega),if_neg (by omega),if_neg (by split<;>omega)]
def c35L1:C:=(sr [kk 14 (.bi false .lss 13 12)] (.seq (.cond 14 .skip (.exit 0)) (.seq (.block 1 (sr [km 15 13,km 5 15] (.seq (.drw [km 16 0,km 17 5,kk 18 (.ia 1 16 17),kk 19 (.ld 1 false 18),km 20 1,km 21 5,kk 22 (.ia 1 20 21),kk 23 (.ld 1 false 22),kk 24 (.bib true 19 23)] (pl [(0,[1,4,5,6,7],16),(1,[4,5,6,7],17),(2,[4,5,6,7],18),(3,[4,5,6,7],19),(4,[5],20)])) (.cond 24 (sr [kk 4 (.mv (.c (.bool false)))] .ret) .skip)))) (.reg [kk 25 (.bi false .add 13 (cn 1)),km 13 25]))))
def c35:C:=(sr [kk 4 (.mv (.c (.bool false)))] (.seq (sr [km 6 0,kk 7 (.len 6),km 8 1,kk 9 (.len 8),kk 10 (.bi false .neq 7 9)] (.cond 10 (sr [kk 4 (.mv (.c (.bool false)))] .ret) .skip)) (.seq (sr [km 11 0,kk 12 (.len 11),kk 13 (.mv (cn 0))] (.block 0 (.loop c35L1))) (sr [kk 4 (.mv (.c (.bool true)))] .ret))))
theorem fits35:fits Tryz.prog false Tryz.f35 2 26 [(4,none)]=some c35.er:=by kernel_rfl
def c93:C:=(sr [kk 3 (.mv (.c (.bool false)))] (sr [km 4 0,kk 5 (.len 4),kk 6 (.ld 1 false 1),kk 7 (.ia 1 6 (cn 0)),kk 8 (.ld 1 false 7),kk 9 (.len 8),kk 10 (.bi false .neq 5 9),km 3 10] .ret))
theorem fits93:fits Tryz.prog false Tryz.f93 2 11 [(3,none)]=some c93.er:=by kernel_rfl
def c154L1:C:=(sr [kk 9 (.bi false .lss 8 7)] (.seq (.cond 9 .skip (.exit 0)) (.seq (.block 1 (sr [km 10 8,km 5 10] (sr [km 11 1,km 12 0,km 13 5,kk 14 (.ia 1 12 13),kk 15 (.ld 1 false 14),kk 16 (.call 11 [15])] (.cond 16 (sr [km 17 5,km 4 17] .ret) .skip)))) (.reg [kk 18 (.bi false .add 8 (cn 1)),km 8 18]))))
def c154:C:=(sr [kk 4 (.mv (cn 0))] (.seq (sr [km 6 0,kk 7 (.len 6),kk 8 (.mv (cn 0))] (.block 0 (.loop c154L1))) (sr [kk 4 (.mv (cn (-1)))] .ret)))
theorem fits154:fits Tryz.prog false Tryz.f154 2 19 [(4,none)]=some c154.er:=by kernel_rfl
def c92:C:=(sr [kk 4 (.mv (.c (.bool false)))] (sr [km 5 0,km 6 1,kk 7 (cl 154 [5,6]),kk 8 (.bi false .geq 7 (cn 0)),km 4 8] .ret))
theorem fits92:fits Tryz.prog false Tryz.f92 2 9 [(4,none)]=some c92.er:=by kernel_rfl
def c37L1:C:=(sr [kk 44 (.bi false .lss 43 42)] (.seq (.cond 44 .skip (.exit 0)) (.seq (.block 1 (sr [km 45 43,kk 46 (.ia 1 41 43),kk 47 (.ld 1 false 46),km 12 45,km 13 47] (sr [km 49 0,km 50 12,kk 51 (.ia 4 49 50),kk 52 (.ld 4 true 51),km 53 13,kk 54 (cl 94 [52,53]),km 48 54,kk 55 (.ex 48 0),kk 56 (.ex 48 1),km 14 55,km 15 56] (.seq (sr [km 57 15,kk 58 (.bi false .neq 57 (cn 0))] (.cond 58 (sr [km 59 15,kk 6 (.mv (.c (.nil 1))),kk 7 (.mv (.c (.nil 1))),kk 8 (.mv (.c (.nil 1))),km 9 59] .ret) .skip)) (.reg [km 60 11,km 61 14,kk 62 (.bs 22 1 [61]),kk 63 (.app 22 1 24 60 62),km 64 13,kk 65 (.len 64),km 11 63,km 10 65]))))) (.reg [kk 66 (.bi false .add 43 (cn 1)),km 43 66]))))
def c37L3:C:=(sr [kk 74 (.bi false .lss 73 72)] (.seq (.cond 74 .skip (.exit 4)) (.seq (.block 5 (sr [km 75 73,kk 76 (.ia 1 71 73),kk 77 (.ld 1 false 76),km 22 75,km 23 77] (.drw [km 78 20,km 79 23,km 80 19,kk 81 (.ia 4 79 80),kk 82 (.fa 2 81),kk 83 (.ld 1 false 82),kk 84 (.bs 3 1 [83]),kk 85 (.app 3 1 8 78 84),km 86 21,km 87 11,km 88 22,kk 89 (.ia 1 87 88),kk 90 (.ld 1 false 89),km 91 19,kk 92 (.ia 1 90 91),kk 93 (.ld 1 false 92),kk 94 (.bi false .eql 93 (cn 1)),kk 95 (.bs 4 1 [94]),kk 96 (.app 4 1 1 86 95),km 20 85,km 21 96] (pl [(0,[1,2,3,4,5,6,8,9,10,11,12,13,14,15,16,17],78),(1,[2,8,9,10,11,12,13,14,15,16,17],79),(2,[8,9,10,11,12,13,14,15,16,17],80),(3,[8,9,10,11,12,13,14,15,16,17],81),(4,[8,9,10,11,12,13,14,15,16,17],82),(5,[8,9,10,11,12,13,14,15,16,17],83),(6,[8,9,10,11,12,13,14,15,16,17],84),(7,[8,9,10,11,12,13,14,15,16,17],85),(8,[9,10,11,12,13,14,15,16,17],86),(9,[10,13],87),(10,[13],88),(11,[13],89),(12,[13],90)])))) (.reg [kk 97 (.bi false .add 73 (cn 1)),km 73 97]))))
def c37L4:C:=(sr [kk 107 (.bi false .lss 106 105)] (.seq (.cond 107 .skip (.exit 6)) (.seq (.block 7 (sr [km 108 106,kk 109 (.ia 1 104 106),kk 110 (.ld 1 false 109),km 27 108,km 28 110] (sr [km 111 21,km 112 27,kk 113 (.ia 1 111 112),kk 114 (.ld 1 false 113),km 115 114,kg 116 115 true (.mv 28),kg 117 115 true (.mv 24),kg 118 115 true (.bi false .sub 116 117),kg 119 115 true (.mv 24),kg 120 115 true (.mv 28),kg 121 115 true (.bi false .sub 119 120),kg 122 115 true (.mx [118,121]),kg 123 115 true (.mv 2),kg 124 115 true (.bi false .gtr 122 123),kk 125 (.pick 115 124 (.c (.bool false)))] (.cond 125 (.reg [km 126 26,kk 127 (.bi false .add 126 (cn 1)),km 26 127]) .skip)))) (.reg [kk 128 (.bi false .add 106 (cn 1)),km 106 128]))))
def c37L2:C:=(sr [kk 69 (.bi false .lss 68 67)] (.seq (.cond 69 .skip (.exit 2)) (.seq (.block 3 (sr [km 70 68,km 19 70] (sr [kk 20 (.mv (.c (.nil 1)))] (sr [kk 21 (.mv (.c (.nil 1)))] (.seq (sr [kk 71 (.ld 1 false 4),kk 72 (.len 71),kk 73 (.mv (cn 0))] (.block 4 (.loop c37L3))) (sr [km 99 20,km 100 21,kk 101 (cl 95 [99,100]),km 98 101,kk 102 (.ex 98 0),kk 103 (.ex 98 1),km 24 102,km 25 103] (sr [kk 26 (.mv (cn 0))] (.seq (sr [km 104 20,kk 105 (.len 104),kk 106 (.mv (cn 0))] (.block 6 (.loop c37L4))) (.reg [km 129 16,km 130 24,kk 131 (.bs 3 1 [130]),kk 132 (.app 3 1 8 129 131),km 133 18,km 134 25,kk 135 (.bs 4 1 [134]),kk 136 (.app 4 1 1 133 135),km 137 17,km 138 26,kk 139 (.bs 3 1 [138]),kk 140 (.app 3 1 8 137 139),km 16 132,km 18 136,km 17 140]))))))))) (.reg [kk 141 (.bi false .add 68 (cn 1)),km 68 141]))))
def c37:C:=(sr [kk 4 (.bx 1 1),kk 6 (.mv (.c (.nil 1))),kk 7 (.mv (.c (.nil 1))),kk 8 (.mv (.c (.nil 1))),kk 9 (.mv (cn 0))] (.seq (sr [km 29 0,kk 30 (.len 29),kk 31 (.ld 1 false 4),kk 32 (.len 31),kk 33 (.bi false .neq 30 32),km 34 33,kg 35 34 false (.ld 1 false 4),kg 36 34 false (.mf (.func 93) [] [4]),kg 37 34 false (cl 92 [35,36]),kk 38 (.pick 34 (.c (.bool true)) 37)] (.cond 38 (sr [kk 6 (.mv (.c (.nil 1))),kk 7 (.mv (.c (.nil 1))),kk 8 (.mv (.c (.nil 1))),kk 9 (.mv (cn 3))] .ret) .skip)) (.seq (sr [km 39 2,kk 40 (.bi false .lss 39 (cn 0))] (.cond 40 (sr [kk 6 (.mv (.c (.nil 1))),kk 7 (.mv (.c (.nil 1))),kk 8 (.mv (.c (.nil 1))),kk 9 (.mv (cn 1))] .ret) .skip)) (sr [kk 10 (.mv (cn 0))] (sr [kk 11 (.mv (.c (.nil 1)))] (.seq (sr [kk 41 (.ld 1 false 4),kk 42 (.len 41),kk 43 (.mv (cn 0))] (.block 0 (.loop c37L1))) (sr [kk 16 (.mv (.c (.nil 1))),kk 17 (.mv (.c (.nil 1)))] (sr [kk 18 (.mv (.c (.nil 1)))] (.seq (sr [km 67 10,kk 68 (.mv (cn 0))] (.block 2 (.loop c37L2))) (sr [km 142 16,km 143 18,km 144 17,km 6 142,km 7 143,km 8 144,kk 9 (.mv (cn 0))] .ret))))))))))
theorem fits37:fits Tryz.prog false Tryz.f37 3 145 [(6,none),(7,none),(8,none),(9,none)]=some c37.er:=by kernel_rfl
theorem call35 (τ τ':Nat) (a b:List Bool) (hl:a.length≤4611686018427387904):PureCall Tryz.prog 35 [.sl τ 1 a.length (fl eBool a), .sl τ' 1 b.length (fl eBool b)] [] ⟨.bool (decide (a=b)), [], []⟩:=by
 refine pure_call mix Tryz.func35 fits35 rfl ?_
 conv=>whnf
 refine ⟨trivial,fun hc=> ?_,fun hc=> ?_⟩
 ·simp only [bp] at hc
  rw [decide_eq_false (fun e=>hc (by rw [e]))]
  conv=>whnf
  refine ⟨?_, [], ?_⟩
  ·exact g0
  conv=>whnf
  refine ⟨rfl, ?_,trivial,trivial⟩
  all_goals exact ent
 ·simp only [bp] at hc
  have hlen:a.length=b.length:=by omega
  conv=>whnf
  refine ⟨trivial, ?_⟩
  refine LSem.loop (n:=26) mix (α:=Nat) (fun i=>i≤a.length∧∀j,j<i→a.getD j default=b.getD j default)
   (fun i=> [(0, .sl τ 1 a.length (fl eBool a)),(1, .sl τ' 1 b.length (fl eBool b)),(12, .int .i64 a.length),(13, .int .i64 i)])
   (fun i=> []) (fun i=>a.length - i) 0 ?_ ?_ ?_
  ·exact ⟨Nat.zero_le _,fun j hj=>by omega⟩
  ·refine ⟨rfl,rfl, ?_, ?_⟩
   all_goals exact ent
  ·intro i hi
   obtain ⟨hi,hall⟩:=hi
   have hj:((i:Int)).toNat=i:=by omega
   conv=>whnf
   refine ⟨trivial,fun hc2=> ?_,fun hc2=> ?_⟩
   ·replace hc2:=of_decide_eq_true hc2
    have hlt:i<a.length:=by omega
    conv=>whnf
    refine ⟨rfl, ?_⟩
    conv=>whnf
    refine ⟨?_,fun hc3=> ?_,fun hc3=> ?_⟩
    ·exact g0
    ·rw [hj] at hc3
     have hne:a.getD i default≠b.getD i default:=by simpa using hc3
     rw [decide_eq_false (fun e=>hne (by rw [e]))]
     conv=>whnf
     refine ⟨?_, [], ?_⟩
     ·exact g0
     conv=>whnf
     refine ⟨rfl, ?_,trivial,trivial⟩
     all_goals exact ent
    ·rw [hj] at hc3
     have hne:a.getD i default=b.getD i default:=by simpa using hc3
     conv=>whnf
     refine ⟨?_,i+1,⟨by omega,fun j hj=> ?_⟩, ?_,rfl,rfl, ?_, ?_⟩
     ·exact g0
     ·by_cases e:j=i
      ·rw [e];exact hne
      ·exact hall j (by omega)
     ·omega
     all_goals repeat' (first | exact True.intro | refine leF_cons rfl ?_ ?_ | refine leS_cons rfl ?_ ?_ | (show PLe _ _ _ _;conv=>whnf) | (show SLe _ _ _ _;conv=>whnf) | (show PLeL _ _ _ _;conv=>whnf) | apply And.intro | rfl | exact Nat.le_refl _ | exact fun _ _=>rfl | exact rowEq0 _ _)
     all_goals omega
   ·replace hc2:=of_decide_eq_false hc2
    rw [decide_eq_true (ext_getD hlen fun j hj=>hall j (by omega))]
    conv=>whnf
    refine ⟨?_, [], ?_⟩
    ·exact g0
    conv=>whnf
    refine ⟨rfl, ?_,trivial,trivial⟩
    all_goals exact ent
def eLs (σ:Nat) (m:List Rd):List PV:= [.sl σ 4 m.length (fl eRd m)]
abbrev bxL (σ:Nat) (G:List (List Rd)):List SE:= [.box [.sl 2 1 G.length (fl (eLs σ) G)]]
def lenP (G:List (List Rd)) (m:List Rd):Bool:=decide (m.length≠(G.getD 0 default).length)
theorem call93 (σ:Nat) (G:List (List Rd)) (m:List Rd) (hG:0<G.length):PureCall Tryz.prog 93 [.sl 2 4 m.length (fl eRd m), .pt 0 0 0] (bxL σ G) ⟨.bool (lenP G m),bxL σ G, []⟩:=by
 refine pure_call mix Tryz.func93 fits93 rfl ?_
 conv=>whnf
 refine ⟨?_, [], ?_⟩
 ·exact g0
 conv=>whnf
 refine ⟨rfl, ?_, ?_,trivial⟩
 all_goals repeat' (first | exact True.intro | refine leF_cons rfl ?_ ?_ | refine leS_cons rfl ?_ ?_ | (show PLe _ _ _ _;conv=>whnf) | (show SLe _ _ _ _;conv=>whnf) | (show PLeL _ _ _ _;conv=>whnf) | apply And.intro | rfl | exact Nat.le_refl _ | exact fun _ _=>rfl | exact rowEq0 _ _)
 unfold lenP
 by_cases h:m.length=(G.getD 0 default).length
 ·rw [decide_eq_false (by omega)];simp [h, -List.getD_eq_getElem?_getD]
 ·rw [decide_eq_true h];simp [-List.getD_eq_getElem?_getD];omega
theorem call154 (σ:Nat) (G:List (List Rd)) (hl:G.length≤4611686018427387904):PureCall Tryz.prog 154 [.sl 2 1 G.length (fl (eLs σ) G), .fn (.func 93) [] [.pt 0 0 0]] (bxL σ G) ⟨.int .i64 (ixG (lenP G) G 0 G.length),bxL σ G, []⟩:=by
 refine pure_call mix Tryz.func154 fits154 rfl ?_
 conv=>whnf
 refine ⟨trivial, ?_⟩
 refine LSem.loop (n:=19) mix (α:=Nat) (fun k=>k≤G.length∧ixG (lenP G) G k (G.length - k)=ixG (lenP G) G 0 G.length)
  (fun k=> [(0, .sl 2 1 G.length (fl (eLs σ) G)),(1, .fn (.func 93) [] [.pt 0 0 0]),(7, .int .i64 G.length),(8, .int .i64 k)])
  (fun k=> [(0, .box [.sl 2 1 G.length (fl (eLs σ) G)])]) (fun k=>G.length - k) 0 ?_ ?_ ?_
 ·exact ⟨Nat.zero_le _,rfl⟩
 ·refine ⟨rfl,rfl, ?_, ?_⟩
  all_goals exact ent
 ·intro k hk
  obtain ⟨hk,hs⟩:=hk
  have hj:((k:Int)).toNat=k:=by omega
  conv=>whnf
  refine ⟨trivial,fun hc=> ?_,fun hc=> ?_⟩
  ·replace hc:=of_decide_eq_true hc
   have hlt:k<G.length:=by omega
   have hst:ixG (lenP G) G k (G.length - k)=if lenP G (G.getD k default)=true then (k:Int) else ixG (lenP G) G (k+1) (G.length - (k+1)):=by
    rw [show G.length - k=(G.length - (k+1))+1 by omega];rfl
   rw [hst] at hs
   conv=>whnf
   refine ⟨_,fun _=>call93 σ G (G.getD ((k:Int)).toNat default) (by omega), ?_⟩
   conv=>whnf
   refine ⟨?_,fun hc2=> ?_,fun hc2=> ?_⟩
   ·exact g0
   ·rw [hj] at hc2
    rw [if_pos hc2] at hs
    rw [←hs]
    conv=>whnf
    refine ⟨?_, [], ?_⟩
    ·exact g0
    conv=>whnf
    refine ⟨rfl, ?_, ?_, ?_⟩
    all_goals exact ent
   ·rw [hj] at hc2
    rw [if_neg (by rw [hc2];decide)] at hs
    conv=>whnf
    refine ⟨?_,k+1,⟨by omega,hs⟩, ?_,rfl,rfl, ?_, ?_⟩
    ·exact g0
    ·omega
    all_goals repeat' (first | exact True.intro | refine leF_cons rfl ?_ ?_ | refine leS_cons rfl ?_ ?_ | (show PLe _ _ _ _;conv=>whnf) | (show SLe _ _ _ _;conv=>whnf) | (show PLeL _ _ _ _;conv=>whnf) | apply And.intro | rfl | exact Nat.le_refl _ | exact fun _ _=>rfl | exact rowEq0 _ _)
    all_goals omega
  ·replace hc:=of_decide_eq_false hc
   rw [show G.length - k=0 by omega] at hs
   rw [←hs]
   conv=>whnf
   refine ⟨?_, [], ?_⟩
   ·exact g0
   conv=>whnf
   refine ⟨rfl, ?_, ?_, ?_⟩
   all_goals exact ent
theorem call92 (σ:Nat) (G:List (List Rd)) (hl:G.length≤4611686018427387904):PureCall Tryz.prog 92 [.sl 2 1 G.length (fl (eLs σ) G), .fn (.func 93) [] [.pt 0 0 0]] (bxL σ G) ⟨.bool (decide (0≤ixG (lenP G) G 0 G.length)),bxL σ G, []⟩:=by
 refine pure_call mix Tryz.func92 fits92 rfl ?_
 conv=>whnf
 refine ⟨_,fun _=>call154 σ G hl, ?_⟩
 conv=>whnf
 refine ⟨?_, [], ?_⟩
 ·exact g0
 conv=>whnf
 refine ⟨rfl, ?_, ?_, ?_⟩
 all_goals exact ent
theorem srt_perm (l:List Int):(srt l).Perm l:=List.mergeSort_perm ..
def vE (C:List Ck) (G:List (List Rd)) (i:Nat):Int:=(verdictsF (C.getD i default) (G.getD i default)).2
def vL (C:List Ck) (G:List (List Rd)):Nat→List (List Int)
 | 0=> []
 | i+1=>vL C G i++ [(verdictsF (C.getD i default) (G.getD i default)).1]
def stepsF (G:List (List Rd)) (i:Nat):Int:=if i=0 then 0 else (G.getD (i - 1) default).length
def seenL (G:List (List Rd)) (t:Nat):Nat→List Int
 | 0=> []
 | i+1=>seenL G t i++ [((G.getD i default).getD t default).v]
def goodV (V:List (List Int)) (t:Nat):Nat→List Bool
 | 0=> []
 | i+1=>goodV V t i++ [(V.getD i default).getD t default==1]
def oddN (x:List Int) (g:List Bool) (v most:Int):Nat→Nat
 | 0=>0
 | i+1=>if g.getD i default=true∧most<mx (x.getD i default - v) (v - x.getD i default) then oddN x g v most i+1 else oddN x g v most i
def voteT (G:List (List Rd)) (V:List (List Int)) (n t:Nat):Int×Bool:=voteF (seenL G t n) (goodV V t n)
def combT (G:List (List Rd)) (V:List (List Int)) (most:Int) (n:Nat):Nat→List Int×List Bool×List Int
 | 0=>([], [], [])
 | t+1=>((combT G V most n t).1++ [(voteT G V n t).1],(combT G V most n t).2.1++ [(voteT G V n t).2],(combT G V most n t).2.2++ [(oddN (seenL G t n) (goodV V t n) (voteT G V n t).1 most n:Int)])
def combF (C:List Ck) (G:List (List Rd)) (most:Int):List Int×List Bool×List Int×Int:=
 if C.length≠G.length∨0≤ixG (lenP G) G 0 G.length then ([], [], [],3) else if most<0 then ([], [], [],1)
 else if scan (vE C G) 0 G.length≠0 then ([], [], [],scan (vE C G) 0 G.length)
 else ((combT G (vL C G G.length) most G.length (stepsF G G.length).toNat).1,(combT G (vL C G G.length) most G.length (stepsF G G.length).toNat).2.1,(combT G (vL C G G.length) most G.length (stepsF G G.length).toNat).2.2,0)
theorem vL_len (C:List Ck) (G:List (List Rd)):∀i,(vL C G i).length=i
 | 0=>rfl
 | i+1=>by show (_++ [_]).length=_;rw [List.length_append,vL_len C G i];rfl
theorem seenL_len (G:List (List Rd)) (t:Nat):∀i,(seenL G t i).length=i
 | 0=>rfl
 | i+1=>by show (_++ [_]).length=_;rw [List.length_append,seenL_len G t i];rfl
theorem goodV_len (V:List (List Int)) (t:Nat):∀i,(goodV V t i).length=i
 | 0=>rfl
 | i+1=>by show (_++ [_]).length=_;rw [List.length_append,goodV_len V t i];rfl
theorem oddN_le (x:List Int) (g:List Bool) (v most:Int):∀i,oddN x g v most i≤i
 | 0=>Nat.le_refl _
 | i+1=>by have:=oddN_le x g v most i;unfold oddN;split<;>omega
theorem combT_len (G:List (List Rd)) (V:List (List Int)) (most:Int) (n:Nat):∀t,(combT G V most n t).1.length=t∧(combT G V most n t).2.1.length=t∧(combT G V most n t).2.2.length=t
 | 0=>⟨rfl,rfl,rfl⟩
 | t+1=>by
   obtain ⟨h1,h2,h3⟩:=combT_len G V most n t
   refine ⟨?_, ?_, ?_⟩<;>(show (_++ [_]).length=_;rw [List.length_append])<;>first | (rw [h1];rfl) | (rw [h2];rfl) | (rw [h3];rfl)
theorem getD_pushG {α:Type} [Inhabited α] (l:List α) (p:α) (i:Nat):(l++ [p]).getD i default=if i<l.length then l.getD i default else if i=l.length then p else default:=by
 rw [List.getD_eq_getElem?_getD,List.getElem?_append]
 split
 ·rw [List.getD_eq_getElem?_getD]
 ·rename_i h
  split
  ·rename_i h2;rw [h2,Nat.sub_self];rfl
  ·rename_i h2
   rw [List.getElem?_eq_none (by simp;omega)];rfl
theorem vL_get (C:List Ck) (G:List (List Rd)):∀n i,i<n→(vL C G n).getD i default=(verdictsF (C.getD i default) (G.getD i default)).1
 | 0,i,h=>by omega
 | n+1,i,h=>by
   show (_++ [_]).getD i default=_
   rw [getD_pushG,vL_len]
   by_cases c:i<n
   ·rw [if_pos c];exact vL_get C G n i c
   ·rw [if_neg c,if_pos (by omega),show i=n by omega]
theorem verdicts_len {c:Ck} {l:List Rd} (h:(verdictsF c l).2=0):(verdictsF c l).1.length=l.length:=by
 unfold verdictsF at h⊢
 split at h
 ·rename_i h1;exact absurd h h1
 ·rename_i h1
  rw [if_neg h1]
  split at h
  ·rename_i h2;exact absurd h h2
  ·rename_i h2
   rw [if_neg h2,vSt_len]
theorem verdicts_rd {c:Ck} {l:List Rd} (h:(verdictsF c l).2=0):∀t,t<l.length→0≤(l.getD t default).v∧(l.getD t default).v≤1073741824:=fun t ht=>by
 unfold verdictsF at h
 split at h
 ·rename_i h1;exact absurd h h1
 ·split at h
  ·rename_i h2;exact absurd h h2
  ·rename_i h2
   exact (rd_v (rd_ok (by omega) t ht)).2.2.1
theorem seen_get (G:List (List Rd)) (t:Nat):∀n i,i<n→(seenL G t n).getD i default=((G.getD i default).getD t default).v
 | 0,i,h=>by omega
 | n+1,i,h=>by
   show (_++ [_]).getD i default=_
   rw [getD_pushG,seenL_len]
   by_cases c:i<n
   ·rw [if_pos c];exact seen_get G t n i c
   ·rw [if_neg c,if_pos (by omega),show i=n by omega]
theorem goodL_mem {v:List Int} {g:List Bool}:∀n,n≤v.length→∀x∈goodL v g n,x∈v
 | 0,_,x,h=>by simp [goodL] at h
 | n+1,hn,x,h=>by
   unfold goodL at h
   split at h
   ·rcases List.mem_append.1 h with h | h
    ·exact goodL_mem n (by omega) x h
    ·rw [List.mem_singleton.1 h];exact getD_mem (by omega)
   ·exact goodL_mem n (by omega) x h
theorem vote_rng {v:List Int} {g:List Bool} {M:Int} (hM:0≤M) (h:∀i,i<v.length→0≤v.getD i default∧v.getD i default≤M):0≤(voteF v g).1∧(voteF v g).1≤M:=by
 unfold voteF
 split
 ·exact ⟨Int.le_refl _,hM⟩
 ·split
  ·exact ⟨Int.le_refl _,hM⟩
  ·rename_i h0
   have hs:=srt_len (goodL v g v.length)
   have hm:=goodL_mem v.length (Nat.le_refl _) _ ((srt_perm _).mem_iff.1 (getD_mem (l:=srt (goodL v g v.length)) (i:=((goodL v g v.length).length - 1) / 2) (by omega)))
   obtain ⟨i,hi,e⟩:=List.getElem_of_mem hm
   have:=h i hi
   rw [List.getD_eq_getElem?_getD,List.getElem?_eq_getElem hi] at this
   dsimp only
   rw [←e];exact this
def eVs (V:List Int):List PV:= [.sl 0 1 V.length (fl eInt V)]
theorem call37 (σ:Nat) (C:List Ck) (G:List (List Rd)) (most:Int) (hC:C.length≤1000) (hl:G.length≤1000) (hG:∀i,i<G.length→(G.getD i default).length≤8796093022208):
  PureCall Tryz.prog 37 [.sl 2 4 C.length (fl eCk C), .sl 2 1 G.length (fl (eLs σ) G), .int .i64 most] []
   ⟨.tup [.sl 0 1 (combF C G most).1.length (fl eInt (combF C G most).1), .sl 0 1 (combF C G most).2.1.length (fl eBool (combF C G most).2.1), .sl 0 1 (combF C G most).2.2.1.length (fl eInt (combF C G most).2.2.1), .int .i64 (combF C G most).2.2.2], [], []⟩:=by
 refine pure_call mix Tryz.func37 fits37 rfl ?_
 conv=>whnf
 by_cases hlen:C.length=G.length
 rotate_left
 ·rw [show ((C.length:Int) != (G.length:Int))=true by simp;omega]
  rw [show combF C G most=([], [], [],3) by unfold combF;rw [if_pos (by omega)]]
  refine ⟨⟨.bool false, [.box [.sl 2 1 G.length (fl (eLs σ) G)]], []⟩,fun h=>absurd h (by decide), ?_⟩
  conv=>whnf
  refine ⟨?_,fun _=> ?_,fun hc=>absurd hc (by decide)⟩
  ·exact g0
  conv=>whnf
  refine ⟨?_, [], ?_⟩
  ·exact g0
  conv=>whnf
  refine ⟨rfl, ?_,trivial,trivial⟩
  all_goals exact ent
 rw [show ((C.length:Int) != (G.length:Int))=false by simp;omega]
 refine ⟨_,fun _=>call92 σ G (by omega), ?_⟩
 conv=>whnf
 refine ⟨?_,fun hc=> ?_,fun hc=> ?_⟩
 ·exact g0
 ·simp only [bp] at hc
  rw [show combF C G most=([], [], [],3) by unfold combF;rw [if_pos (by omega)]]
  conv=>whnf
  refine ⟨?_, [], ?_⟩
  ·exact g0
  conv=>whnf
  refine ⟨rfl, ?_,trivial,trivial⟩
  all_goals exact ent
 simp only [bp] at hc
 have hsame:∀i,i<G.length→(G.getD i default).length=(G.getD 0 default).length:=fun i hi=>by
  have:=ixG_neg.1 (show ixG (lenP G) G 0 G.length<0 by omega) i (by omega) (by omega)
  unfold lenP at this
  have:=of_decide_eq_false this
  omega
 have hf1:combF C G most=if most<0 then ([], [], [],1)
   else if scan (vE C G) 0 G.length≠0 then ([], [], [],scan (vE C G) 0 G.length)
   else ((combT G (vL C G G.length) most G.length (stepsF G G.length).toNat).1,(combT G (vL C G G.length) most G.length (stepsF G G.length).toNat).2.1,(combT G (vL C G G.length) most G.length (stepsF G G.length).toNat).2.2,0):=by
  unfold combF;rw [if_neg (by omega)]
 rw [hf1]
 clear hf1 hc
 conv=>whnf
 refine ⟨trivial,fun hc=> ?_,fun hc=> ?_⟩
 ·replace hc:=of_decide_eq_true hc
  rw [if_pos hc]
  conv=>whnf
  refine ⟨?_, [], ?_⟩
  ·exact g0
  conv=>whnf
  refine ⟨rfl, ?_,trivial,trivial⟩
  all_goals exact ent
 replace hc:=of_decide_eq_false hc
 rw [if_neg hc]
 have hmost:0≤most:=by
  have h:¬most<0:=hc
  omega
 clear hc
 conv=>whnf
 refine ⟨trivial, ?_⟩
 refine LSem.adopt 11 1000000 22 1 1 rfl rfl ?_
 refine LSem.loop (n:=145) mix (α:=Nat) (fun i=>i≤G.length∧scan (vE C G) i (G.length - i)=scan (vE C G) 0 G.length∧∀j,j<i→vE C G j=0)
  (fun i=> [(0, .sl 2 4 C.length (fl eCk C)),(2, .int .i64 most),(4, .pt 64 0 0),(10, .int .i64 (stepsF G i)),(11, .os 1000000),(41, .sl 2 1 G.length (fl (eLs σ) G)),(42, .int .i64 G.length),(43, .int .i64 i)])
  (fun i=> [(64, .box [.sl 2 1 G.length (fl (eLs σ) G)]),(1000000, .row 0 22 1 i (fl eVs (vL C G i)))]) (fun i=>G.length - i) 0 ?_ ?_ ?_
 ·exact ⟨Nat.zero_le _,rfl,fun j hj=>by omega⟩
 ·refine ⟨rfl,rfl, ?_, ?_⟩
  all_goals exact ent
 ·intro i hi
  obtain ⟨hi,hs,hall⟩:=hi
  have hj:((i:Int)).toNat=i:=by omega
  conv=>whnf
  refine ⟨trivial,fun hc=> ?_,fun hc=> ?_⟩
  ·replace hc:=of_decide_eq_true hc
   have hlt:i<G.length:=by omega
   have hgi:=hG i hlt
   conv=>whnf
   refine ⟨_,fun _=>call94 (C.getD ((i:Int)).toNat default) (G.getD ((i:Int)).toNat default) (by rw [hj];exact hgi), ?_⟩
   rw [hj]
   have hE:vE C G i=(verdictsF (C.getD i default) (G.getD i default)).2:=rfl
   have hps:=fl_push eVs (vL C G i) (verdictsF (C.getD i default) (G.getD i default)).1
   rw [vL_len,show vL C G i++ [(verdictsF (C.getD i default) (G.getD i default)).1]=vL C G (i+1) from rfl] at hps
   generalize verdictsF (C.getD i default) (G.getD i default)=V at hE hps⊢
   conv=>whnf
   refine ⟨?_,fun hc1=> ?_,fun hc1=> ?_⟩
   ·exact g0
   ·simp only [bp] at hc1
    have hh:scan (vE C G) 0 G.length=V.2:=by rw [←hs,←hE];exact scan_hit (show 0<G.length - i by omega) (by rw [hE];exact hc1)
    rw [hh,if_pos hc1]
    conv=>whnf
    refine ⟨?_, [], ?_⟩
    ·exact g0
    conv=>whnf
    refine ⟨rfl, ?_,trivial,trivial⟩
    all_goals exact ent
   ·simp only [bp] at hc1
    have hE0:vE C G i=0:=by rw [hE];omega
    have hh:scan (vE C G) (i+1) (G.length - (i+1))=scan (vE C G) 0 G.length:=by rw [←hs,scan_step (show 0<G.length - i by omega) hE0];congr 1
    have hst:stepsF G (i+1)=(G.getD i default).length:=by unfold stepsF;rw [if_neg (by omega),Nat.add_sub_cancel]
    conv=>whnf
    refine ⟨?_,i+1,⟨by omega,hh,fun j hj2=> ?_⟩, ?_,rfl,rfl, ?_, ?_⟩
    ·exact g0
    ·by_cases e:j=i
     ·rw [e];exact hE0
     ·exact hall j (by omega)
    ·omega
    all_goals repeat' (first | exact True.intro | refine leF_cons rfl ?_ ?_ | refine leS_cons rfl ?_ ?_ | (show PLe _ _ _ _;conv=>whnf) | (show SLe _ _ _ _;conv=>whnf) | (show PLeL _ _ _ _;conv=>whnf) | apply And.intro | rfl | exact Nat.le_refl _ | exact fun _ _=>rfl | exact rowEq0 _ _)
    all_goals first | omega | (rw [hst,hj];done) | exact hps | skip
  ·replace hc:=of_decide_eq_false hc
   have:i=G.length:=by omega
   subst this
   have hz:scan (vE C G) 0 G.length=0:=by rw [←hs,Nat.sub_self];rfl
   rw [if_neg (by rw [hz];simp)]
   clear hs hz hc
   have hst:∃m:Nat,stepsF G G.length=m∧∀i,i<G.length→(G.getD i default).length=m:=by
    by_cases e:G.length=0
    ·exact ⟨0,by unfold stepsF;rw [if_pos e];rfl,fun i hi=>by omega⟩
    ·exact ⟨(G.getD (G.length - 1) default).length,by unfold stepsF;rw [if_neg e],fun i hi=>by rw [hsame i hi,hsame (G.length - 1) (by omega)]⟩
   obtain ⟨m,hm,hml⟩:=hst
   rw [hm,Int.toNat_natCast]
   have hvl:∀i,i<G.length→((vL C G G.length).getD i default).length=m:=fun i hi=>by
    rw [vL_get C G _ i hi,verdicts_len (hall i hi)];exact hml i hi
   have hvl0:=vL_len C G G.length
   have hrd:∀i t,i<G.length→t<m→0≤((G.getD i default).getD t default).v∧((G.getD i default).getD t default).v≤1073741824:=fun i t hi ht=>verdicts_rd (hall i hi) t (by rw [hml i hi];exact ht)
   have hmb:m≤8796093022208∨G.length=0:=by
    by_cases e:G.length=0
    ·exact .inr e
    ·left;have:=hG 0 (by omega);have:=hml 0 (by omega);omega
   have hmb2:m≤8796093022208:=by
    rcases hmb with h | h
    ·exact h
    ·unfold stepsF at hm;rw [if_pos h] at hm;omega
   generalize vL C G G.length=VL at hvl hvl0⊢
   clear hall hsame hG hmb hm
   have hvT:=fun t=>show combT G VL most G.length (t+1)=((combT G VL most G.length t).1++ [(voteT G VL G.length t).1],(combT G VL most G.length t).2.1++ [(voteT G VL G.length t).2],(combT G VL most G.length t).2.2++ [(oddN (seenL G t G.length) (goodV VL t G.length) (voteT G VL G.length t).1 most G.length:Int)]) from rfl
   have hcl:=combT_len G VL most G.length
   conv=>whnf
   refine ⟨trivial, ?_⟩
   refine LSem.adopt 16 1000001 3 1 1 rfl rfl ?_
   refine LSem.adopt 17 1000002 3 1 1 rfl rfl ?_
   refine LSem.adopt 18 1000003 4 1 1 rfl rfl ?_
   refine LSem.loop (n:=145) mix (α:=Nat) (fun t=>t≤m)
    (fun t=> [(2, .int .i64 most),(4, .pt 64 0 0),(11, .os 1000000),(16, .os 1000001),(17, .os 1000002),(18, .os 1000003),(67, .int .i64 m),(68, .int .i64 t)])
    (fun t=> [(64, .box [.sl 2 1 G.length (fl (eLs σ) G)]),(1000000, .row 0 22 1 G.length (fl eVs VL)),(1000001, .row 0 3 1 (combT G VL most G.length t).1.length (fl eInt (combT G VL most G.length t).1)),(1000002, .row 0 3 1 (combT G VL most G.length t).2.2.length (fl eInt (combT G VL most G.length t).2.2)),(1000003, .row 0 4 1 (combT G VL most G.length t).2.1.length (fl eBool (combT G VL most G.length t).2.1))]) (fun t=>m - t) 0 ?_ ?_ ?_
   ·exact Nat.zero_le _
   ·refine ⟨rfl,rfl, ?_, ?_⟩
    all_goals exact ent
   ·intro t ht
    have hjt:((t:Int)).toNat=t:=by omega
    conv=>whnf
    refine ⟨trivial,fun hc=> ?_,fun hc=> ?_⟩
    ·replace hc:=of_decide_eq_true hc
     have hlt:t<m:=by omega
     replace hvT:=hvT t
     obtain ⟨k1,k2,k3⟩:=hcl t
     clear hcl
     conv=>whnf
     refine ⟨trivial, ?_⟩
     refine LSem.adopt 20 1000004 3 1 1 rfl rfl ?_
     refine LSem.adopt 21 1000005 4 1 1 rfl rfl ?_
     refine LSem.loop (n:=145) mix (α:=Nat) (fun i=>i≤G.length)
      (fun i=> [(2, .int .i64 most),(4, .pt 64 0 0),(11, .os 1000000),(16, .os 1000001),(17, .os 1000002),(18, .os 1000003),(19, .int .i64 t),(20, .os 1000004),(21, .os 1000005),(67, .int .i64 m),(68, .int .i64 t),(71, .sl 2 1 G.length (fl (eLs σ) G)),(72, .int .i64 G.length),(73, .int .i64 i)])
      (fun i=> [(64, .box [.sl 2 1 G.length (fl (eLs σ) G)]),(1000000, .row 0 22 1 G.length (fl eVs VL)),(1000001, .row 0 3 1 (combT G VL most G.length t).1.length (fl eInt (combT G VL most G.length t).1)),(1000002, .row 0 3 1 (combT G VL most G.length t).2.2.length (fl eInt (combT G VL most G.length t).2.2)),(1000003, .row 0 4 1 (combT G VL most G.length t).2.1.length (fl eBool (combT G VL most G.length t).2.1)),(1000004, .row 0 3 1 (seenL G t i).length (fl eInt (seenL G t i))),(1000005, .row 0 4 1 (goodV VL t i).length (fl eBool (goodV VL t i)))]) (fun i=>G.length - i) 0 ?_ ?_ ?_
     ·exact Nat.zero_le _
     ·refine ⟨rfl,rfl, ?_, ?_⟩
      all_goals exact ent
     ·intro i hi
      have hji:((i:Int)).toNat=i:=by omega
      conv=>whnf
      refine ⟨trivial,fun hc2=> ?_,fun hc2=> ?_⟩
      ·replace hc2:=of_decide_eq_true hc2
       have hli:i<G.length:=by omega
       have hlm:=hml i hli
       have hvm:=hvl i hli
       have z1:=seenL_len G t i
       have z2:=goodV_len VL t i
       have z3:=seenL_len G t (i+1)
       have z4:=goodV_len VL t (i+1)
       have q1:=fl_push eInt (seenL G t i) ((G.getD i default).getD t default).v
       rw [show seenL G t i++ [((G.getD i default).getD t default).v]=seenL G t (i+1) from rfl] at q1
       have q2:=fl_push eBool (goodV VL t i) ((VL.getD i default).getD t default==1)
       rw [show goodV VL t i++ [((VL.getD i default).getD t default==1)]=goodV VL t (i+1) from rfl] at q2
       conv=>whnf
       refine ⟨rfl, ?_⟩
       conv=>whnf
       refine ⟨?_,i+1,(by omega:i+1≤G.length), ?_,rfl,rfl, ?_, ?_⟩
       ·rw [hji,hjt]
        exact g0
       ·omega
       all_goals repeat' (first | exact True.intro | refine leF_cons rfl ?_ ?_ | refine leS_cons rfl ?_ ?_ | (show PLe _ _ _ _;conv=>whnf) | (show SLe _ _ _ _;conv=>whnf) | (show PLeL _ _ _ _;conv=>whnf) | apply And.intro | rfl | exact Nat.le_refl _ | exact fun _ _=>rfl | exact rowEq0 _ _)
       all_goals (try rw [hji,hjt])
       all_goals first | omega | exact q1 | exact q2 | (simp only [List.length_cons,List.length_nil];omega)
      ·replace hc2:=of_decide_eq_false hc2
       have:i=G.length:=by omega
       subst this
       have z1:=seenL_len G t G.length
       have z2:=goodV_len VL t G.length
       have hsg:∀i,i<(seenL G t G.length).length→0≤(seenL G t G.length).getD i default∧(seenL G t G.length).getD i default≤1073741824:=fun i hi=>by
        rw [seen_get G t G.length i (by omega)];exact hrd i t (by omega) hlt
       unfold voteT at hvT
       generalize hSd:seenL G t G.length=S at z1 hsg hvT⊢
       generalize goodV VL t G.length=B at z2 hvT⊢
       have hvr:=vote_rng (v:=S) (g:=B) (M:=1073741824) (by decide) hsg
       conv=>whnf
       refine ⟨_,fun _=>call95 _ _ S B (by omega), ?_⟩
       generalize voteF S B=P at hvr hvT⊢
       obtain ⟨v,ok⟩:=P
       dsimp only at hvr hvT
       conv=>whnf
       refine ⟨?_, ?_⟩
       ·exact g0
       refine LSem.loop (n:=145) mix (α:=Nat) (fun i=>i≤S.length)
        (fun i=> [(2, .int .i64 most),(4, .pt 64 0 0),(11, .os 1000000),(16, .os 1000001),(17, .os 1000002),(18, .os 1000003),(21, .os 1000005),(24, .int .i64 v),(25, .bool ok),(26, .int .i64 (oddN S B v most i)),(67, .int .i64 m),(68, .int .i64 t),(104, .os 1000004),(105, .int .i64 S.length),(106, .int .i64 i)])
        (fun i=> [(64, .box [.sl 2 1 G.length (fl (eLs σ) G)]),(1000000, .row 0 22 1 G.length (fl eVs VL)),(1000001, .row 0 3 1 (combT G VL most G.length t).1.length (fl eInt (combT G VL most G.length t).1)),(1000002, .row 0 3 1 (combT G VL most G.length t).2.2.length (fl eInt (combT G VL most G.length t).2.2)),(1000003, .row 0 4 1 (combT G VL most G.length t).2.1.length (fl eBool (combT G VL most G.length t).2.1)),(1000004, .row 0 3 1 S.length (fl eInt S)),(1000005, .row 0 4 1 B.length (fl eBool B))]) (fun i=>S.length - i) 0 ?_ ?_ ?_
       ·exact Nat.zero_le _
       ·refine ⟨rfl,rfl, ?_, ?_⟩
        all_goals exact ent
       ·intro i hi
        have hji:((i:Int)).toNat=i:=by omega
        have hod:=oddN_le S B v most i
        conv=>whnf
        refine ⟨trivial,fun hc3=> ?_,fun hc3=> ?_⟩
        ·replace hc3:=of_decide_eq_true hc3
         have hli:i<S.length:=by omega
         have hsi:=hsg i hli
         conv=>whnf
         refine ⟨?_,fun hc4=> ?_,fun hc4=> ?_⟩
         ·rw [hji]
          exact g0
         ·rw [hji] at hc4
          have hst:oddN S B v most (i+1)=oddN S B v most i+1:=by
           rw [oddN,if_pos]
           cases hb:B.getD i default with
           | false=>rw [hb] at hc4;cases hc4
           | true=>rw [hb] at hc4;exact ⟨rfl,of_decide_eq_true hc4⟩
          conv=>whnf
          refine ⟨?_,i+1,(by omega:i+1≤S.length), ?_,rfl,rfl, ?_, ?_⟩
          ·exact g0
          ·omega
          all_goals repeat' (first | exact True.intro | refine leF_cons rfl ?_ ?_ | refine leS_cons rfl ?_ ?_ | (show PLe _ _ _ _;conv=>whnf) | (show SLe _ _ _ _;conv=>whnf) | (show PLeL _ _ _ _;conv=>whnf) | apply And.intro | rfl | exact Nat.le_refl _ | exact fun _ _=>rfl | exact rowEq0 _ _)
          all_goals (try rw [hst])
          all_goals first | omega | skip
         ·rw [hji] at hc4
          have hst:oddN S B v most (i+1)=oddN S B v most i:=by
           rw [oddN,if_neg]
           rintro ⟨h1,h2⟩
           rw [h1] at hc4
           exact (of_decide_eq_false hc4) h2
          conv=>whnf
          refine ⟨?_,i+1,(by omega:i+1≤S.length), ?_,rfl,rfl, ?_, ?_⟩
          ·exact g0
          ·omega
          all_goals repeat' (first | exact True.intro | refine leF_cons rfl ?_ ?_ | refine leS_cons rfl ?_ ?_ | (show PLe _ _ _ _;conv=>whnf) | (show SLe _ _ _ _;conv=>whnf) | (show PLeL _ _ _ _;conv=>whnf) | apply And.intro | rfl | exact Nat.le_refl _ | exact fun _ _=>rfl | exact rowEq0 _ _)
          all_goals (try rw [hst])
          all_goals first | omega | skip
        ·replace hc3:=of_decide_eq_false hc3
         have:i=S.length:=by omega
         subst this
         rw [z1] at hod
         rw [show oddN S B v most S.length=oddN S B v most G.length by rw [z1]]
         generalize oddN S B v most G.length=od at hvT hod⊢
         have q3:=fl_push eInt (combT G VL most G.length t).1 v
         have q4:=fl_push eBool (combT G VL most G.length t).2.1 ok
         have q5:=fl_push eInt (combT G VL most G.length t).2.2 (od:Int)
         conv=>whnf
         refine ⟨?_,t+1,(by omega:t+1≤m), ?_,rfl,rfl, ?_, ?_⟩
         ·exact g0
         ·omega
         all_goals repeat' (first | exact True.intro | refine leF_cons rfl ?_ ?_ | refine leS_cons rfl ?_ ?_ | (show PLe _ _ _ _;conv=>whnf) | (show SLe _ _ _ _;conv=>whnf) | (show PLeL _ _ _ _;conv=>whnf) | apply And.intro | rfl | exact Nat.le_refl _ | exact fun _ _=>rfl | exact rowEq0 _ _)
         all_goals (try rw [hvT])
         all_goals first | omega | exact q3 | exact q4 | exact q5 | (simp only [List.length_append,List.length_cons,List.length_nil];done) | skip
    ·replace hc:=of_decide_eq_false hc
     have:t=m:=by omega
     subst this
     conv=>whnf
     refine ⟨?_, [], ?_⟩
     ·exact g0
     conv=>whnf
     refine ⟨rfl, ?_,trivial,trivial⟩
     all_goals exact ent
def cM:Ck:=⟨0,1073741824,1073741824,0⟩
structure GdS (L:List Rd):Prop where
 n:L.length≤1000
 r:∀i,i<L.length→rdErr (L.getD i default)=0
 f:∀i,i<L.length→(L.getD i default).f=0
theorem verd_good {L:List Rd} (h:GdS L) {i:Nat} (hi:i<L.length):verdF cM L ((i:Int) - 1) i=1:=by
 have r1:=rd_v (h.r i hi)
 have f1:=h.f i hi
 have e1:t1 L i=false:=decide_eq_false (by omega)
 have e2:t2 cM L i=false:=decide_eq_false (by show¬(_<(0:Int)∨(1073741824:Int)<_);omega)
 have e4:t4 cM L i=false:=by unfold t4;rw [decide_eq_true (show cM.s=0∨(i:Int)+1<cM.s from .inl rfl)];rfl
 have e3:t3 cM L ((i:Int) - 1) i=false:=by
  refine decide_eq_false ?_
  rintro ⟨h0,h1⟩
  have ej:jumpW cM i ((i:Int) - 1)=1073741824:=by
   unfold jumpW
   rw [show (i:Int) - ((i:Int) - 1)=1 by omega]
   exact wr_id (by show _≤(1073741824:Int)*1∧(1073741824:Int)*1≤_;omega)
  rw [ej] at h1
  have r2:=rd_v (h.r ((i:Int) - 1).toNat (by omega))
  unfold mx at h1
  split at h1<;>omega
 unfold verdF
 rw [e1,e2,e3,e4]
 rfl
theorem vSt_good {L:List Rd} (h:GdS L):∀i,i≤L.length→vSt cM L i=(List.replicate i 1,(i:Int) - 1)
 | 0,_=>rfl
 | i+1,hi=>by
   rw [vSt,vSt_good h i (by omega)]
   dsimp only
   rw [verd_good h (by omega),if_pos rfl,List.replicate_succ']
   congr 1
   omega
theorem verds_good {L:List Rd} (h:GdS L):verdictsF cM L=(List.replicate L.length 1,0):=by
 have h1:ckErr cM=0:=by decide
 have h2:allF L=0:=by
  unfold allF
  exact scan_allz fun k _ hk=>h.r k (by omega)
 unfold verdictsF
 rw [h1,h2,if_neg (fun h=>h rfl),if_neg (fun h=>h rfl),vSt_good h _ (Nat.le_refl _)]
theorem srt3 (x y:Int):(srt [x,y,x]).getD 1 default=x:=by
 unfold srt
 by_cases h:x≤y
 ·by_cases h2:y≤x
  ·have:x=y:=by omega
   subst this
   simp [List.mergeSort,List.MergeSort.Internal.splitInTwo,List.merge]
  ·simp [List.mergeSort,List.MergeSort.Internal.splitInTwo,List.merge,h,h2]
 ·have h2:y≤x:=by omega
  simp [List.mergeSort,List.MergeSort.Internal.splitInTwo,List.merge,h,h2]
theorem vote3 (x y:Int):voteF [x,y,x] [true,true,true]=(x,true):=by
 have e:goodL [x,y,x] [true,true,true] [x,y,x].length= [x,y,x]:=rfl
 unfold voteF
 rw [if_neg (fun h=>h rfl),e,if_neg (by simp)]
 have e2:([x,y,x].length - 1) / 2=1:=by simp
 rw [e2,srt3 x y]
theorem comb3 {A B:List Rd} (hA:GdS A) (hB:GdS B) (hn:B.length=A.length):
  (combF [cM,cM,cM] [A,B,A] 0).2.2.2=0∧(combF [cM,cM,cM] [A,B,A] 0).1.length=A.length∧(combF [cM,cM,cM] [A,B,A] 0).2.1.length=A.length∧
  ∀i,i<A.length→(combF [cM,cM,cM] [A,B,A] 0).1.getD i default=(A.getD i default).v∧(combF [cM,cM,cM] [A,B,A] 0).2.1.getD i default=true:=by
 have hx:ixG (lenP [A,B,A]) [A,B,A] 0 3<0:=ixG_neg.2 fun j _ hj=>by
  obtain rfl | rfl | rfl:j=0∨j=1∨j=2:=by omega
  ·exact decide_eq_false (fun h=>h rfl)
  ·exact decide_eq_false (fun h=>h hn)
  ·exact decide_eq_false (fun h=>h rfl)
 have hs:scan (vE [cM,cM,cM] [A,B,A]) 0 3=0:=scan_allz fun k _ hk=>by
  obtain rfl | rfl | rfl:k=0∨k=1∨k=2:=by omega
  ·show (verdictsF cM A).2=0;rw [verds_good hA]
  ·show (verdictsF cM B).2=0;rw [verds_good hB]
  ·show (verdictsF cM A).2=0;rw [verds_good hA]
 have hV:vL [cM,cM,cM] [A,B,A] 3= [List.replicate A.length 1,List.replicate A.length 1,List.replicate A.length 1]:=by
  show [(verdictsF cM A).1,(verdictsF cM B).1,(verdictsF cM A).1]=_
  rw [verds_good hA,verds_good hB,hn]
 have hF:combF [cM,cM,cM] [A,B,A] 0=((combT [A,B,A] [List.replicate A.length 1,List.replicate A.length 1,List.replicate A.length 1] 0 3 A.length).1,(combT [A,B,A] [List.replicate A.length 1,List.replicate A.length 1,List.replicate A.length 1] 0 3 A.length).2.1,(combT [A,B,A] [List.replicate A.length 1,List.replicate A.length 1,List.replicate A.length 1] 0 3 A.length).2.2,0):=by
  unfold combF
  rw [if_neg (by rintro (h | h);exact h rfl;exact absurd h (Int.not_le.2 hx)),if_neg (by omega),if_neg (by rw [show ([A,B,A]:List (List Rd)).length=3 from rfl,hs];exact fun h=>h rfl)]
  rw [show ([A,B,A]:List (List Rd)).length=3 from rfl,hV]
  rfl
 rw [hF]
 dsimp only
 generalize hVV: [List.replicate A.length (1:Int),List.replicate A.length 1,List.replicate A.length 1]=V at hF⊢
 have hl:=combT_len [A,B,A] V 0 3 A.length
 refine ⟨rfl,hl.1,hl.2.1, ?_⟩
 have key:∀t,t≤A.length→∀i,i<t→(combT [A,B,A] V 0 3 t).1.getD i default=(A.getD i default).v∧(combT [A,B,A] V 0 3 t).2.1.getD i default=true:=by
  intro t
  induction t with
  | zero=>intro _ i hi;omega
  | succ t ih=>
    intro ht i hi
    have hl:=combT_len [A,B,A] V 0 3 t
    have hg:(List.replicate A.length (1:Int)).getD t default=1:=by simp [List.getD,show t<A.length by omega]
    have hv:voteT [A,B,A] V 3 t=((A.getD t default).v,true):=by
     unfold voteT
     have e1:seenL [A,B,A] t 3= [(A.getD t default).v,(B.getD t default).v,(A.getD t default).v]:=rfl
     have e2:goodV V t 3= [true,true,true]:=by
      rw [←hVV]
      show [(List.replicate A.length (1:Int)).getD t default==1,(List.replicate A.length (1:Int)).getD t default==1,(List.replicate A.length (1:Int)).getD t default==1]=_
      rw [hg];rfl
     rw [e1,e2]
     exact vote3 _ _
    show (_++ [_]).getD i default=_∧(_++ [_]).getD i default=_
    rw [getD_pushG,getD_pushG,hl.1,hl.2.1,hv]
    by_cases c:i<t
    ·rw [if_pos c,if_pos c];exact ih (by omega) i c
    ·have:i=t:=by omega
     subst this
     rw [if_neg c,if_neg c,if_pos rfl,if_pos rfl]
     exact ⟨rfl,rfl⟩
 exact key A.length (Nat.le_refl _)
theorem call36o (d:Dk) (n:Int) (hd:d.at_≤1000000) (hn:0≤n∧n≤1000):PureCall Tryz.prog 36 [.pt 0 0 0, .int .i64 n] [.box (eDk 1 d)] ⟨.os 1000000000, [.box (eDk 1 (serS d n.toNat).d)], [.row 0 109 4 (serS d n.toNat).l.length (fl eRd (serS d n.toNat).l)]⟩:=by
 refine pure_call mix Tryz.func36 fits36 rfl ?_
 conv=>whnf
 refine ⟨trivial, ?_⟩
 refine LSem.adopt 5 1000000 109 4 4 rfl rfl ?_
 refine LSem.loop (n:=39) mix (α:=Nat) (fun i=>(i:Int)≤n)
  (fun i=> [(0, .pt 0 0 0),(1, .int .i64 n),(5, .os 1000000),(6, .int .i64 (serS d i).v),(7, .int .i64 i)])
  (fun i=> [(0, .box (eDk 1 (serS d i).d)),(1000000, .row 0 109 4 i (fl eRd (serS d i).l))]) (fun i=>n.toNat - i) 0 ?_ ?_ ?_
 ·show (0:Int)≤n;omega
 ·refine ⟨rfl,rfl, ?_, ?_⟩
  all_goals exact ent
 ·intro i hi
  have hj:((i:Int)).toNat=i:=by omega
  obtain ⟨p1,p2,p3⟩:=serS_props d i
  conv=>whnf
  refine ⟨trivial,fun hc=> ?_,fun hc=> ?_⟩
  ·replace hc:=of_decide_eq_true hc
   have e0:serS d (i+1)=serN (serS d i):=rfl
   have rv:=serN_rng (s:=serS d i) (by rw [p1];exact p2)
   have hat:=serD_at (serS d i)
   have hps:=fl_push eRd (serS d i).l ⟨0,(serS d i).l.length,serV (serS d i),if nxt (serD (serS d i)) 9=8 then 2 else 0⟩
   generalize hs:serS d i=s at*
   rw [p1] at hps rv
   have hV:serV s=if nxt s.d 6=0 then nxt (nxtD s.d 6) 120 else if nxt s.d 6=1∨nxt s.d 6=2 then s.v+nxt (nxtD s.d 6) 5 else s.v:=rfl
   have hD:serD s=if nxt s.d 6=0 then nxtD (nxtD s.d 6) 120 else if nxt s.d 6=1∨nxt s.d 6=2 then nxtD (nxtD s.d 6) 5 else nxtD s.d 6:=rfl
   have e1:(serN s).v=serV s:=rfl
   have e2:(serN s).d=nxtD (serD s) 9:=rfl
   have e3:(serN s).l=s.l++ [⟨0,s.l.length,serV s,if nxt (serD s) 9=8 then 2 else 0⟩]:=rfl
   rw [p1] at e3
   rw [←e3] at hps
   have a1:=nxtD_at s.d 6
   have r1:=nxt_lt (nxtD s.d 6) (n:=120) (by omega)
   have r2:=nxt_lt (nxtD s.d 6) (n:=5) (by omega)
   have r9:=nxt_lt (serD s) (n:=9) (by omega)
   have a9:=nxtD_at (serD s) 9
   conv=>whnf
   refine ⟨_,fun _=>call_next 1 s.d 6 (by omega) (by omega), ?_⟩
   conv=>whnf
   refine ⟨?_,fun h0=> ?_,fun h0=> ?_⟩
   ·exact g0
   ·simp only [bp] at h0
    rw [if_pos h0] at hV hD
    conv=>whnf
    refine ⟨_,fun _=>call_next 1 (nxtD s.d 6) 120 (by omega) (by omega), ?_⟩
    have hat':(nxtD (nxtD s.d 6) 120).at_≤1005000:=by rw [←hD];omega
    conv=>whnf
    refine ⟨_,fun _=>call_next 1 (nxtD (nxtD s.d 6) 120) 9 (by omega) (by omega), ?_⟩
    rw [←hD]
    conv=>whnf
    refine ⟨?_,fun hf=> ?_,fun hf=> ?_⟩
    ·exact g0
    ·simp only [bp] at hf
     rw [if_pos hf] at e3 hps
     conv=>whnf
     refine ⟨?_,i+1,(by omega:((i+1:Nat):Int)≤n), ?_,rfl,rfl, ?_, ?_⟩
     ·exact g0
     ·omega
     all_goals repeat' (first | exact True.intro | refine leF_cons rfl ?_ ?_ | refine leS_cons rfl ?_ ?_ | (show PLe _ _ _ _;conv=>whnf) | (show SLe _ _ _ _;conv=>whnf) | (show PLeL _ _ _ _;conv=>whnf) | apply And.intro | rfl | exact Nat.le_refl _ | exact fun _ _=>rfl | exact rowEq0 _ _)
     all_goals (try rw [e0])
     all_goals first | omega | rfl | (rw [e2];exact fun _ _=>rfl) | (rw [e1,hV];done) | (rw [←hV];exact hps) | exact hps | skip
    ·simp only [bp] at hf
     rw [if_neg hf] at e3 hps
     conv=>whnf
     refine ⟨?_,i+1,(by omega:((i+1:Nat):Int)≤n), ?_,rfl,rfl, ?_, ?_⟩
     ·exact g0
     ·omega
     all_goals repeat' (first | exact True.intro | refine leF_cons rfl ?_ ?_ | refine leS_cons rfl ?_ ?_ | (show PLe _ _ _ _;conv=>whnf) | (show SLe _ _ _ _;conv=>whnf) | (show PLeL _ _ _ _;conv=>whnf) | apply And.intro | rfl | exact Nat.le_refl _ | exact fun _ _=>rfl | exact rowEq0 _ _)
     all_goals (try rw [e0])
     all_goals first | omega | rfl | (rw [e2];exact fun _ _=>rfl) | (rw [e1,hV];done) | (rw [←hV];exact hps) | exact hps | skip
   simp only [bp] at h0
   rw [if_neg h0] at hV hD
   conv=>whnf
   refine ⟨?_,fun h1=> ?_,fun h1=> ?_⟩
   ·exact g0
   ·simp only [bp] at h1
    rw [if_pos (.inl h1)] at hV hD
    conv=>whnf
    refine ⟨trivial,fun _=> ?_,fun h=>absurd h (by rw [h1];decide)⟩
    conv=>whnf
    refine ⟨_,fun _=>call_next 1 (nxtD s.d 6) 5 (by omega) (by omega), ?_⟩
    have hat':(nxtD (nxtD s.d 6) 5).at_≤1005000:=by rw [←hD];omega
    conv=>whnf
    refine ⟨_,fun _=>call_next 1 (nxtD (nxtD s.d 6) 5) 9 (by omega) (by omega), ?_⟩
    rw [←hD]
    conv=>whnf
    refine ⟨?_,fun hf=> ?_,fun hf=> ?_⟩
    ·exact g0
    ·simp only [bp] at hf
     rw [if_pos hf] at e3 hps
     conv=>whnf
     refine ⟨?_,i+1,(by omega:((i+1:Nat):Int)≤n), ?_,rfl,rfl, ?_, ?_⟩
     ·exact g0
     ·omega
     all_goals repeat' (first | exact True.intro | refine leF_cons rfl ?_ ?_ | refine leS_cons rfl ?_ ?_ | (show PLe _ _ _ _;conv=>whnf) | (show SLe _ _ _ _;conv=>whnf) | (show PLeL _ _ _ _;conv=>whnf) | apply And.intro | rfl | exact Nat.le_refl _ | exact fun _ _=>rfl | exact rowEq0 _ _)
     all_goals (try rw [e0])
     all_goals first | omega | rfl | (rw [e2];exact fun _ _=>rfl) | (rw [e1,hV];done) | (rw [←hV];exact hps) | exact hps | skip
    ·simp only [bp] at hf
     rw [if_neg hf] at e3 hps
     conv=>whnf
     refine ⟨?_,i+1,(by omega:((i+1:Nat):Int)≤n), ?_,rfl,rfl, ?_, ?_⟩
     ·exact g0
     ·omega
     all_goals repeat' (first | exact True.intro | refine leF_cons rfl ?_ ?_ | refine leS_cons rfl ?_ ?_ | (show PLe _ _ _ _;conv=>whnf) | (show SLe _ _ _ _;conv=>whnf) | (show PLeL _ _ _ _;conv=>whnf) | apply And.intro | rfl | exact Nat.le_refl _ | exact fun _ _=>rfl | exact rowEq0 _ _)
     all_goals (try rw [e0])
     all_goals first | omega | rfl | (rw [e2];exact fun _ _=>rfl) | (rw [e1,hV];done) | (rw [←hV];exact hps) | exact hps | skip
   simp only [bp] at h1
   conv=>whnf
   refine ⟨?_,fun h2=> ?_,fun h2=> ?_⟩
   ·exact g0
   ·simp only [bp] at h2
    rw [if_pos (.inr h2)] at hV hD
    conv=>whnf
    refine ⟨_,fun _=>call_next 1 (nxtD s.d 6) 5 (by omega) (by omega), ?_⟩
    have hat':(nxtD (nxtD s.d 6) 5).at_≤1005000:=by rw [←hD];omega
    conv=>whnf
    refine ⟨_,fun _=>call_next 1 (nxtD (nxtD s.d 6) 5) 9 (by omega) (by omega), ?_⟩
    rw [←hD]
    conv=>whnf
    refine ⟨?_,fun hf=> ?_,fun hf=> ?_⟩
    ·exact g0
    ·simp only [bp] at hf
     rw [if_pos hf] at e3 hps
     conv=>whnf
     refine ⟨?_,i+1,(by omega:((i+1:Nat):Int)≤n), ?_,rfl,rfl, ?_, ?_⟩
     ·exact g0
     ·omega
     all_goals repeat' (first | exact True.intro | refine leF_cons rfl ?_ ?_ | refine leS_cons rfl ?_ ?_ | (show PLe _ _ _ _;conv=>whnf) | (show SLe _ _ _ _;conv=>whnf) | (show PLeL _ _ _ _;conv=>whnf) | apply And.intro | rfl | exact Nat.le_refl _ | exact fun _ _=>rfl | exact rowEq0 _ _)
     all_goals (try rw [e0])
     all_goals first | omega | rfl | (rw [e2];exact fun _ _=>rfl) | (rw [e1,hV];done) | (rw [←hV];exact hps) | exact hps | skip
    ·simp only [bp] at hf
     rw [if_neg hf] at e3 hps
     conv=>whnf
     refine ⟨?_,i+1,(by omega:((i+1:Nat):Int)≤n), ?_,rfl,rfl, ?_, ?_⟩
     ·exact g0
     ·omega
     all_goals repeat' (first | exact True.intro | refine leF_cons rfl ?_ ?_ | refine leS_cons rfl ?_ ?_ | (show PLe _ _ _ _;conv=>whnf) | (show SLe _ _ _ _;conv=>whnf) | (show PLeL _ _ _ _;conv=>whnf) | apply And.intro | rfl | exact Nat.le_refl _ | exact fun _ _=>rfl | exact rowEq0 _ _)
     all_goals (try rw [e0])
     all_goals first | omega | rfl | (rw [e2];exact fun _ _=>rfl) | (rw [e1,hV];done) | (rw [←hV];exact hps) | exact hps | skip
   simp only [bp] at h2
   rw [if_neg (by omega)] at hV hD
   have hat':(nxtD s.d 6).at_≤1005000:=by rw [←hD];omega
   conv=>whnf
   refine ⟨_,fun _=>call_next 1 (nxtD s.d 6) 9 (by omega) (by omega), ?_⟩
   rw [←hD]
   conv=>whnf
   refine ⟨?_,fun hf=> ?_,fun hf=> ?_⟩
   ·exact g0
   ·simp only [bp] at hf
    rw [if_pos hf] at e3 hps
    conv=>whnf
    refine ⟨?_,i+1,(by omega:((i+1:Nat):Int)≤n), ?_,rfl,rfl, ?_, ?_⟩
    ·exact g0
    ·omega
    all_goals repeat' (first | exact True.intro | refine leF_cons rfl ?_ ?_ | refine leS_cons rfl ?_ ?_ | (show PLe _ _ _ _;conv=>whnf) | (show SLe _ _ _ _;conv=>whnf) | (show PLeL _ _ _ _;conv=>whnf) | apply And.intro | rfl | exact Nat.le_refl _ | exact fun _ _=>rfl | exact rowEq0 _ _)
    all_goals (try rw [e0])
    all_goals first | omega | rfl | (rw [e2];exact fun _ _=>rfl) | (rw [e1,hV];done) | (rw [←hV];exact hps) | exact hps | skip
   ·simp only [bp] at hf
    rw [if_neg hf] at e3 hps
    conv=>whnf
    refine ⟨?_,i+1,(by omega:((i+1:Nat):Int)≤n), ?_,rfl,rfl, ?_, ?_⟩
    ·exact g0
    ·omega
    all_goals repeat' (first | exact True.intro | refine leF_cons rfl ?_ ?_ | refine leS_cons rfl ?_ ?_ | (show PLe _ _ _ _;conv=>whnf) | (show SLe _ _ _ _;conv=>whnf) | (show PLeL _ _ _ _;conv=>whnf) | apply And.intro | rfl | exact Nat.le_refl _ | exact fun _ _=>rfl | exact rowEq0 _ _)
    all_goals (try rw [e0])
    all_goals first | omega | rfl | (rw [e2];exact fun _ _=>rfl) | (rw [e1,hV];done) | (rw [←hV];exact hps) | exact hps | skip
  ·replace hc:=of_decide_eq_false hc
   have:n.toNat=i:=by omega
   rw [this]
   generalize serS d i=s at p1⊢
   rw [←p1]
   conv=>whnf
   refine ⟨?_, [1000000], ?_⟩
   ·exact g0
   conv=>whnf
   refine ⟨rfl, ?_, ?_, ?_⟩
   all_goals exact ent
end G08
namespace TX
def c99:C:=(sr [kk 2 (.mv (.c (.bool false)))] (sr [km 3 0,kk 4 (.bi false .lss 3 (cn (-274877906944))),km 5 4,kg 6 5 false (.mv 0),kg 7 5 false (.bi false .gtr 6 (cn 274877906944)),kk 8 (.pick 5 (.c (.bool true)) 7),km 2 8] .ret))
theorem fits99:fits Tryz.prog false Tryz.f99 1 9 [(2,none)]=some c99.er:=by kernel_rfl
theorem call99 (n:Int) (h: -274877906944≤n∧n≤274877906944):PureCall Tryz.prog 99 [.int .i64 n] [] ⟨.bool false, [], []⟩:=by
 refine pure_call mix Tryz.func99 fits99 rfl ?_
 conv=>whnf
 have e1:decide (n< -274877906944)=false:=decide_eq_false (by omega)
 have e2:decide (274877906944<n)=false:=decide_eq_false (by omega)
 refine ⟨by exact g0, [], ?_⟩
 conv=>whnf
 refine ⟨rfl, ?_,trivial,trivial⟩
 have e3:(bif decide (n< -274877906944) then true else decide (274877906944<n))=false:=by rw [e1,e2];rfl
 exact ent
theorem call122s (τ:Nat) (l:List Int) (hl:l.length≤4611686018427387904) (hv:∀i,i<l.length→ -274877906944≤l.getD i default∧l.getD i default≤274877906944):
  PureCall Tryz.prog 122 [.sl τ 1 l.length (fl eInt l), .fn (.func 99) [] []] [] ⟨.int .i64 (-1), [], []⟩:=by
 refine pure_call mix Tryz.func122 fits122 rfl ?_
 conv=>whnf
 refine ⟨trivial, ?_⟩
 refine LSem.loop (n:=19) mix (α:=Nat) (fun k=>k≤l.length)
  (fun k=> [(0, .sl τ 1 l.length (fl eInt l)),(1, .fn (.func 99) [] []),(7, .int .i64 l.length),(8, .int .i64 k)])
  (fun k=> []) (fun k=>l.length - k) 0 (Nat.zero_le _) ?_ ?_
 ·refine ⟨rfl,rfl, ?_, ?_⟩<;>exact ent
 intro k hk
 have hj:((k:Int)).toNat=k:=by omega
 conv=>whnf
 refine ⟨trivial,fun hc=> ?_,fun hc=> ?_⟩
 ·replace hc:=of_decide_eq_true hc
  have hlt:k<l.length:=by
   have h:(k:Int)<l.length:=hc
   omega
  have hvk:=hv k hlt
  conv=>whnf
  rw [hj]
  refine ⟨_,fun _=>call99 (l.getD k default) hvk, ?_⟩
  conv=>whnf
  refine ⟨by exact g0,fun h=>absurd h (by decide),fun _=> ?_⟩
  conv=>whnf
  refine ⟨by exact g0,k+1,hlt,by omega,rfl,rfl, ?_, ?_⟩<;>exact ent
 ·conv=>whnf
  exact ret
theorem call54s (τ:Nat) (l:List Int) (hl:l.length≤4611686018427387904) (hv:∀i,i<l.length→ -274877906944≤l.getD i default∧l.getD i default≤274877906944):
  PureCall Tryz.prog 54 [.sl τ 1 l.length (fl eInt l), .fn (.func 99) [] []] [] ⟨.bool false, [], []⟩:=by
 refine pure_call mix Tryz.func54 fits54 rfl ?_
 conv=>whnf
 refine ⟨_,fun _=>call122s _ l hl hv, ?_⟩
 conv=>whnf
 exact ret
end TX
theorem val_small {c:List Pt} (hm:MadeC c) (x:Int):0≤valC c x∧valC c x≤10000:=by
 have h:=hm.good
 have hl:=hm.len
 have hb:∀i,i<c.length→0≤(c.getD i default).y∧(c.getD i default).y≤10000:=fun i hi=>by
  have:=hm.rng i hi
  omega
 have hn:=h.ne
 by_cases h1:x<(c.getD 0 default).x
 ·rw [val_lo h (by omega)];exact hb 0 hn
 by_cases h2:(c.getD (c.length - 1) default).x≤x
 ·rw [val_hi h h2];exact hb _ (by omega)
 obtain ⟨k,a,b,h3,h4⟩:=find_seg (c:=c) (x:=x) (by omega) (c.length - 1) (by omega) (by omega)
 have hu:=h.up k a (by omega)
 rw [val_seg h a (by omega) h3 (by omega)]
 have m1:=line_mono hu.1 hu.2.1 h3
 have m2:=line_mono hu.1 hu.2.1 (Int.le_of_lt h4)
 rw [line_lo] at m1;rw [line_hi hu.1] at m2
 have:=hb k (by omega)
 have:=hb (k - 1) (by omega)
 omega
theorem balL_get (v out:List Int):∀n i,i<n→(balL v out n).getD i default=v.getD (i+1) default - v.getD i default+out.getD i default
 | n+1,i,h=>by
   rw [balL,getD_push,balL_len]
   split
   ·exact balL_get v out n i (by assumption)
   ·rw [if_pos (by omega),show i=n by omega]
theorem sum_rng {M:Int}:∀(l:List Int),(∀k,k<l.length→ -M≤l.getD k default∧l.getD k default≤M)→ -(M*l.length)≤l.sum∧l.sum≤M*l.length
 | [],_=>by simp
 | x::l,h=>by
   have h0:=h 0 (by simp)
   have ih:=sum_rng (M:=M) l fun k hk=>by simpa using h (k+1) (by simpa using hk)
   simp only [List.getD_cons_zero] at h0
   rw [List.sum_cons,List.length_cons,show ((l.length+1:Nat):Int)=(l.length:Int)+1 from rfl,Int.mul_add,Int.mul_one]
   omega
theorem evenL_rng {s n lo hi:Int} (h1:lo≤s / n) (h2:s / n≤hi) (h3:0<s - s / n*n→s / n+1≤hi):∀(m i:Nat),i<m→lo≤(evenL s n m).getD i default∧(evenL s n m).getD i default≤hi
 | m+1,i,h=>by
   rw [evenL,getD_push,evenL_len]
   split
   ·exact evenL_rng h1 h2 h3 m i (by assumption)
   ·rw [if_pos (by omega)]
    split
    ·have:=h3 (by omega);omega
    ·exact ⟨h1,h2⟩
theorem evenG_rng {M:Int} {g:List Int} (hg:g≠ []) (h:∀k,k<g.length→ -M≤g.getD k default∧g.getD k default≤M):∀i,i<(evenG g).length→ -M≤(evenG g).getD i default∧(evenG g).getD i default≤M:=fun i hi=>by
 have hs:=sum_rng g h
 have hn:0<(g.length:Int):=by
  have:=List.length_pos_iff.2 hg
  omega
 unfold evenG at hi⊢
 rw [evenL_len] at hi
 refine evenL_rng ?_ ?_ (fun hp=> ?_) g.length i hi
 ·rw [Int.le_ediv_iff_mul_le hn,Int.neg_mul];exact hs.1
 ·have:=Int.ediv_le_ediv hn hs.2
  rwa [Int.mul_ediv_cancel _ (by omega)] at this
 ·have:g.sum / (g.length:Int)<M:=by
    by_cases h:g.sum / (g.length:Int)<M
    ·exact h
    ·have h:M≤g.sum / (g.length:Int):=Int.not_lt.1 h
     have h5:=Int.mul_le_mul_of_nonneg_right h (Int.le_of_lt hn)
     omega
  omega
theorem getD_take {l:List Int} {w k:Nat} (h:k<(l.take w).length):(l.take w).getD k default=l.getD k default:=by
 rw [List.length_take] at h
 simp [List.getD,List.getElem?_take,show k<w by omega]
theorem getD_drop {l:List Int} {w k:Nat}:(l.drop w).getD k default=l.getD (w+k) default:=by
 simp [List.getD,List.getElem?_drop]
theorem smL_rng {M:Int} {w:Nat} (hw:0<w):∀(k:Nat) (l:List Int),(∀i,i<l.length→ -M≤l.getD i default∧l.getD i default≤M)→∀i,i<(smL w k l).length→ -M≤(smL w k l).getD i default∧(smL w k l).getD i default≤M
 | 0,l,_,i,hi=>by simp [smL] at hi
 | k+1,l,h,i,hi=>by
   rw [smL] at hi⊢
   split at hi
   ·simp at hi
   ·rename_i e
    rw [if_neg e]
    have hl:=List.length_pos_iff.2 e
    have hg:l.take w≠ []:=fun e2=>by
     have:=congrArg List.length e2
     rw [List.length_take,List.length_nil] at this
     omega
    have h1:=evenG_rng (M:=M) hg fun k hk=>by
     rw [getD_take hk]
     rw [List.length_take] at hk
     exact h k (by omega)
    have h2:=smL_rng (M:=M) hw k (l.drop w) fun k hk=>by
     rw [getD_drop]
     rw [List.length_drop] at hk
     exact h _ (by omega)
    rw [List.length_append] at hi
    rw [List.getD_eq_getElem?_getD,List.getElem?_append]
    split
    ·have:=h1 i (by assumption)
     rwa [List.getD_eq_getElem?_getD] at this
    ·have:=h2 (i - (evenG (l.take w)).length) (by omega)
     rwa [List.getD_eq_getElem?_getD] at this
namespace G06
theorem w8_nat (n:Int):((w8 n).toNat:Int)=n % 256:=by
 have h2:(w8 n).toNat=(n % 256).toNat % 256:=UInt8.toNat_ofNat'
 rw [h2];omega
theorem sum_split {s:Int} (h:0≤s∧s≤65520):((w8 (s / 2 ^ Int.toNat 8)).toNat:Int)*256+((w8 s).toNat:Int)=s:=by
 rw [w8_nat,w8_nat,pw8];omega
theorem w4_word {n:Int} (h:0≤n∧n<4294967296):((w8 (n / 2 ^ Int.toNat 24)).toNat:Int)*16777216+((w8 (n / 2 ^ Int.toNat 16)).toNat:Int)*65536+((w8 (n / 2 ^ Int.toNat 8)).toNat:Int)*256+((w8 n).toNat:Int)=n:=by
 rw [w8_nat,w8_nat,w8_nat,w8_nat,pw24,pw16,pw8];omega
theorem recV_C {r:Rd} (h:RdV r):recV (recC r)=r:=by
 obtain ⟨g,t,v,f⟩:=r
 obtain ⟨h1,h2,h3,h4⟩:=h
 dsimp only at h1 h2 h3 h4
 have e0:gB (recC ⟨g,t,v,f⟩) 0=g:=by
  show ((w8 g).toNat:Int)=g
  rw [w8_nat];omega
 have e9:gB (recC ⟨g,t,v,f⟩) 9=f:=by
  show ((w8 f).toNat:Int)=f
  rw [w8_nat];omega
 have e1:wordF (recC ⟨g,t,v,f⟩) 1=t:=w4_word (n:=t) (by omega)
 have e5:wordF (recC ⟨g,t,v,f⟩) 5=v:=w4_word (n:=v) (by omega)
 unfold recV
 rw [e0,e1,e5,e9]
theorem recF_C {r:Rd} (h:RdV r):recF (recC r)=(r,0):=by
 have hs:sumF ((recC r).take 10)=gB (recC r) 10*256+gB (recC r) 11:=by
  have e:(recC r).take 10=bodyB r:=rfl
  rw [e]
  exact (sum_split (sumF_rng (bodyB r))).symm
 unfold recF
 rw [if_neg (by rw [recC_len];decide),if_neg (fun hh=>hh hs),recV_C h,V_checkR h]
theorem encL_cons (r:Rd) (l:List Rd):encL (r::l)=recC r++encL l:=rfl
theorem decG_enc:∀(l:List Rd) (m:Nat) (a:Int) (out:List Rd) (X:List UInt8),(∀r∈l,RdV r)→decG (m+l.length) a out (encL l++X)=decG m (a+12*l.length) (out++l) X
 | [],m,a,out,X,_=>by simp [encL]
 | r::l,m,a,out,X,h=>by
   have hr:=h r (List.mem_cons_self ..)
   have ht:(encL (r::l)++X).take 12=recC r:=by
    rw [encL_cons,List.append_assoc]
    exact List.take_left' (recC_len r)
   have hd:(encL (r::l)++X).drop 12=encL l++X:=by
    rw [encL_cons,List.append_assoc]
    exact List.drop_left' (recC_len r)
   have hl:(encL (r::l)++X).length≠0:=by
    rw [encL_cons,List.append_assoc,List.length_append,recC_len];omega
   have e:m+(r::l).length=(m+l.length)+1:=by simp only [List.length_cons];omega
   rw [e]
   simp only [decG]
   rw [if_neg hl,ht,hd,recF_C hr,if_neg (fun hh=>hh rfl),decG_enc l m _ _ X (fun x hx=>h x (List.mem_cons_of_mem _ hx))]
   congr 1
   ·simp only [List.length_cons];omega
   ·simp
theorem decG_nil (m:Nat) (a:Int) (out:List Rd):decG (m+1) a out []=(out,0,0):=by simp [decG]
theorem decF_enc {l:List Rd} (hl:l.length≤4096) (h:∀r∈l,RdV r):decF (encL l)=(l,0,0):=by
 unfold decF
 rw [if_neg (by rw [encL_len];omega),encL_len]
 have e:12*l.length+1=(11*l.length+1)+l.length:=by omega
 have:=decG_enc l (11*l.length+1) 0 [] [] h
 rw [List.append_nil] at this
 rw [e,this,decG_nil]
 simp
theorem ok_valid {l:List Rd} (h:RdsOK l):∀r∈l,RdV r:=fun r hr=>by
 obtain ⟨k,hk⟩:=List.getElem?_of_mem hr
 have hlt:=(List.getElem?_eq_some_iff.1 hk).1
 have:=h k hlt
 rw [List.getD_eq_getElem?_getD,hk] at this
 obtain ⟨h1,h2,h3,h4⟩:=this
 simp only [Option.getD_some] at h1 h2 h3 h4
 exact ⟨by omega,by omega,by omega,h4⟩
theorem valid_getD {l:List Rd} (h:∀r∈l,RdV r):∀i,i<l.length→RdV (l.getD i default):=fun i hi=>h _ (getD_mem hi)
theorem lim_valid {l:List Rd} (hl:l.length≤4096) (h:∀r∈l,RdV r):limR l=0:=by
 unfold limR
 rw [if_neg (by omega)]
 unfold allR
 have hz:∀k,k<l.length→checkR (l.getD k default)=0:=fun k hk=>V_checkR (valid_getD h k hk)
 have key:∀n i,i+n≤l.length→scan (fun k=>checkR (l.getD k default)) i n=0:=by
  intro n
  induction n with
  | zero=>intros;rfl
  | succ n ih=>
    intro i hi
    simp only [scan]
    rw [if_neg (fun hh=>hh (hz i (by omega)))]
    exact ih (i+1) (by omega)
 exact key l.length 0 (by omega)
end G06
open Go.RowKit Go.Shelf
variable {P:Program} {ρ:Ren}
theorem Held.drew {T e:TypeId} {b:Nat} {p v:Value} {s:List UInt8} {w:World} (h:Held T e b p v s w):Held T e b p v s w.drew:=⟨h.cells,h.own,h.ne⟩
theorem Held.alloc0 {T e:TypeId} {b:Nat} {p v:Value} {s:List UInt8} {w:World} (h:Held T e b p v s w) (o:Obj):Held T e b p v s (w.alloc o):=by
 refine ⟨(Lib.alloc_old w o b h.lt).trans h.cells, ?_,h.ne⟩
 obtain ⟨hl,ho⟩:=h.own
 refine ⟨hl, ?_⟩
 rcases ho with ho | ⟨g,cap,cur,fz,hv,h0,hg,rest⟩
 ·exact .inl ho
 ·exact .inr ⟨g,cap,cur,fz,hv,h0,(Lib.alloc_old w o g (Array.getElem?_eq_some_iff.1 hg).1).trans hg,rest⟩
theorem held_nil (L:Lays.n169 P ρ) (X:Builder.Extra P ρ) {b:Nat} {p:Value} {w:World} (h:Held (ρ.t 72) (ρ.t 5) b p (.slice none 0 0) [] w):
  Calls P (ρ.f 169) #[.pointer (some ⟨b,0,none⟩)] w fun e w'=>e= .returned (.string ⟨[].toArray⟩)∧Held (ρ.t 72) (ρ.t 5) b p (.slice none 0 0) [] w'∧Keeps (fun k=>k=b∨(Value.slice none 0 0).ownBlock=some k) w w':=by
 have hUS:=Any.unsafeString_none L X
 have c1:w.drew.cell? ⟨b,1,none⟩=some (.slice none 0 0):=by
  have:w.drew.heap[b]? =some (.cells #[p, .slice none 0 0] (ρ.t 72) (0,0)):=h.cells
  rw [Lib.cell_of_heap this];rfl
 have hSD:(Builtin.unsafeSliceData_ #[(ρ.t 37)] (ρ.t 127) #[.slice none 0 0]).run P w.drew= .ok (.pointer none) w.drew:=rfl
 have mixed:=L.mixed
 have t72:=L.t72;have a72:=L.a72;have z72:=L.z72;have v72:=L.v72;have u72:=run_underlying L.t72
 have t70:=L.t70;have a70:=L.a70;have z70:=L.z70;have v70:=L.v70;have u70:=run_underlying L.t70
 have t37:=L.t37;have a37:=L.a37;have z37:=L.z37;have v37:=L.v37;have u37:=run_underlying L.t37
 have t127:=L.t127;have a127:=L.a127;have z127:=L.z127;have v127:=L.v127;have u127:=run_underlying L.t127
 have t3:=L.t3;have a3:=L.a3;have z3:=L.z3;have v3:=L.v3;have u3:=run_underlying L.t3
 have t9:=L.t9;have a9:=L.a9;have z9:=L.z9;have v9:=L.v9;have u9:=run_underlying L.t9
 have t5:=X.t5;have a5:=X.a5;have z5:=X.z5;have v5:=X.v5;have u5:=run_underlying X.t5
 go_enter L.f169,Body.n169_ntmps ρ
 go_wp2
 go_region_o
 all_goals (go_wp2;go_ret;exact ⟨rfl,h.drew,Keeps.drew _ w⟩)
theorem held_noroom (L:Lays.n169 P ρ) (X:Builder.Extra P ρ) {b g:Nat} {p:Value} {cur:Array Value} {fz:Nat×Nat} {w:World} (h:Held (ρ.t 72) (ρ.t 5) b p (.slice (some ⟨g,0,none⟩) 0 0) [] w) (hg:w.heap[g]? =some (.cells cur (ρ.t 5) fz)):
  Calls P (ρ.f 169) #[.pointer (some ⟨b,0,none⟩)] w fun e w'=>e= .returned (.string ⟨[].toArray⟩)∧Held (ρ.t 72) (ρ.t 5) b p (.slice (some ⟨g,0,none⟩) 0 0) [] w'∧Keeps (fun k=>k=b∨(Value.slice (some ⟨g,0,none⟩) 0 0).ownBlock=some k) w w':=by
 have hUS:=Any.unsafeString_none L X
 have hlt:=h.lt
 have c1:w.drew.cell? ⟨b,1,none⟩=some (.slice (some ⟨g,0,none⟩) 0 0):=by
  have:w.drew.heap[b]? =some (.cells #[p, .slice (some ⟨g,0,none⟩) 0 0] (ρ.t 72) (0,0)):=h.cells
  rw [Lib.cell_of_heap this];rfl
 have hSD:(Builtin.unsafeSliceData_ #[(ρ.t 37)] (ρ.t 127) #[.slice (some ⟨g,0,none⟩) 0 0]).run P w.drew= .ok (.pointer (some ⟨w.drew.heap.size,0,none⟩)) (w.drew.alloc (.view ⟨g,0,none⟩ (ρ.t 5))):=
  Lib.run_unsafeSliceData_zero w.drew _ _ (ρ.t 5) L.t127 ⟨g,0,none⟩ 0 ((ρ.t 5),cur.size) (by have hg':w.drew.heap[g]? =some (.cells cur (ρ.t 5) fz):=hg;simp [World.shape?,hg'])
 have c2:(w.drew.alloc (.view ⟨g,0,none⟩ (ρ.t 5))).cell? ⟨b,1,none⟩=some (.slice (some ⟨g,0,none⟩) 0 0):=by
  have:(w.drew.alloc (.view ⟨g,0,none⟩ (ρ.t 5))).heap[b]? =_:=(Lib.alloc_old w.drew _ b hlt).trans h.cells
  rw [Lib.cell_of_heap this];rfl
 have c3:(w.alloc (.view ⟨g,0,none⟩ (ρ.t 5))).drew.cell? ⟨b,1,none⟩=some (.slice (some ⟨g,0,none⟩) 0 0):=c2
 have c0:w.cell? ⟨b,1,none⟩=some (.slice (some ⟨g,0,none⟩) 0 0):=c1
 have mixed:=L.mixed
 have t72:=L.t72;have a72:=L.a72;have z72:=L.z72;have v72:=L.v72;have u72:=run_underlying L.t72
 have t70:=L.t70;have a70:=L.a70;have z70:=L.z70;have v70:=L.v70;have u70:=run_underlying L.t70
 have t37:=L.t37;have a37:=L.a37;have z37:=L.z37;have v37:=L.v37;have u37:=run_underlying L.t37
 have t127:=L.t127;have a127:=L.a127;have z127:=L.z127;have v127:=L.v127;have u127:=run_underlying L.t127
 have t3:=L.t3;have a3:=L.a3;have z3:=L.z3;have v3:=L.v3;have u3:=run_underlying L.t3
 have t9:=L.t9;have a9:=L.a9;have z9:=L.z9;have v9:=L.v9;have u9:=run_underlying L.t9
 have t5:=X.t5;have a5:=X.a5;have z5:=X.z5;have v5:=X.v5;have u5:=run_underlying X.t5
 go_enter L.f169,Body.n169_ntmps ρ
 go_wp2
 go_region_o
 all_goals (go_wp2;go_ret;exact ⟨rfl,h.drew.alloc0 _,(Keeps.drew _ w).trans (Keeps.alloc _ w.drew _)⟩)
theorem held_room (L:Lays.n169 P ρ) (X:Builder.Extra P ρ) {b g cap:Nat} {p:Value} {w:World} (hc0:cap≠0) (h:Held (ρ.t 72) (ρ.t 5) b p (.slice (some ⟨g,0,none⟩) 0 cap) [] w):
  Calls P (ρ.f 169) #[.pointer (some ⟨b,0,none⟩)] w fun e w'=>e= .returned (.string ⟨[].toArray⟩)∧Held (ρ.t 72) (ρ.t 5) b p (.slice (some ⟨g,0,none⟩) 0 cap) [] w'∧Keeps (fun k=>k=b∨(Value.slice (some ⟨g,0,none⟩) 0 cap).ownBlock=some k) w w':=by
 have hUS:=Any.unsafeString_none L X
 have c1:w.drew.cell? ⟨b,1,none⟩=some (.slice (some ⟨g,0,none⟩) 0 cap):=by
  have:w.drew.heap[b]? =some (.cells #[p, .slice (some ⟨g,0,none⟩) 0 cap] (ρ.t 72) (0,0)):=h.cells
  rw [Lib.cell_of_heap this];rfl
 have hSD:(Builtin.unsafeSliceData_ #[(ρ.t 37)] (ρ.t 127) #[.slice (some ⟨g,0,none⟩) 0 cap]).run P w.drew= .ok (.pointer (some ⟨g,0,none⟩)) w.drew:=
  Lib.run_unsafeSliceData_row _ _ _ _ _ _ hc0
 clear hc0
 have mixed:=L.mixed
 have t72:=L.t72;have a72:=L.a72;have z72:=L.z72;have v72:=L.v72;have u72:=run_underlying L.t72
 have t70:=L.t70;have a70:=L.a70;have z70:=L.z70;have v70:=L.v70;have u70:=run_underlying L.t70
 have t37:=L.t37;have a37:=L.a37;have z37:=L.z37;have v37:=L.v37;have u37:=run_underlying L.t37
 have t127:=L.t127;have a127:=L.a127;have z127:=L.z127;have v127:=L.v127;have u127:=run_underlying L.t127
 have t3:=L.t3;have a3:=L.a3;have z3:=L.z3;have v3:=L.v3;have u3:=run_underlying L.t3
 have t9:=L.t9;have a9:=L.a9;have z9:=L.z9;have v9:=L.v9;have u9:=run_underlying L.t9
 have t5:=X.t5;have a5:=X.a5;have z5:=X.z5;have v5:=X.v5;have u5:=run_underlying X.t5
 go_enter L.f169,Body.n169_ntmps ρ
 go_wp2
 go_region_o
 all_goals (go_wp2;go_ret;exact ⟨rfl,h.drew,Keeps.drew _ w⟩)
theorem held_empty (L:Lays.n169 P ρ) (X:Builder.Extra P ρ) {b:Nat} {p v:Value} {w:World} (h:Held (ρ.t 72) (ρ.t 5) b p v [] w):
  Calls P (ρ.f 169) #[.pointer (some ⟨b,0,none⟩)] w fun e w'=>e= .returned (.string ⟨[].toArray⟩)∧Held (ρ.t 72) (ρ.t 5) b p v [] w'∧Keeps (fun k=>k=b∨v.ownBlock=some k) w w':=by
 rcases h.own.2 with ⟨rfl,_⟩ | ⟨g,cap,cur,fz,rfl,_,hg,_⟩
 ·exact held_nil L X h
 ·by_cases hc0:cap=0
  ·subst hc0;exact held_noroom L X h hg
  ·exact held_room L X hc0 h
theorem call67z (s:List UInt8):PureCall Tryz.prog 67 [.pt 0 0 0] [.bld 169 5 s] ⟨.str s, [.bld 169 5 s], []⟩:=by
 cases s with
 | nil=>exact pure_bld ⟨_,Tryz.func67,rfl,rfl⟩ args_nil (fun _ _ _=> .str []) fun w b p v hp hH=>
   (held_empty Sh.lays169 Sh.bX_169 hH).mono fun ev w' ⟨he,h1,h2⟩=>⟨he,p,v,hp,h1,h2,fun g hg=> .inl hg⟩
 | cons x r=>exact call67 (x::r) (by simp)
end Pv
end Go.Proofs.YtdcgnfkkklbckaaGreatDoor
