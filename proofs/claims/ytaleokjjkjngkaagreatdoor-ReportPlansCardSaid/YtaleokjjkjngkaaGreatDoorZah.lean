/- LAW 42, THE WALKS: the flows that units may have. -/
import Derived.Test.YtaleokjjkjngkaaGreatDoorZag
import Derived.Test.YtaleokjjkjngkaaGreatDoorZaf
set_option linter.unusedSimpArgs false
set_option linter.unusedVariables false
set_option maxRecDepth 100000
set_option maxHeartbeats 8000000
namespace Go.Proofs.YtaleokjjkjngkaaGreatDoor
namespace Pv
def c55L1:C:=(.seq (sr [km 8 4,kk 9 (.bi false .geq 8 (cn 0))] (.cond 9 .skip (.exit 0))) (.seq (.block 1 (sr [km 12 0,kk 13 (cl 8 [12,(cn 4)]),km 5 13] (.seq (sr [km 14 4,kk 15 (.bi false .eql 14 (cn 0))] (.cond 15 (.reg [km 16 5,kk 17 (.bi false .add 16 (cn 1)),km 5 17]) .skip)) (.drw [kk 18 (.fa 0 3),kk 19 (.ld 1 false 18),km 20 5,kk 21 (.bs 3 1 [20]),kk 22 (.app 3 1 8 19 21),kk 23 (.fa 1 3),kk 24 (.ld 1 false 23),km 25 5,kk 26 (.bi false .add 24 25),kk 27 (.fa 0 3),kz (.st 1 27 22),kk 28 (.fa 1 3),kz (.st 1 28 26)] (pl [(0,[2,3,5,6,7,8],18),(1,[2,3,5,6,7,8],19),(2,[5,6,7,8],20),(3,[5,6,7,8],21),(4,[5,6,7,8],22),(5,[7],23),(6,[7],24),(7,[9,10],25),(8,[9,10],26)]))))) (.reg [km 10 4,kk 11 (.bi false .sub 10 (cn 1)),km 4 11])))
def c55:C:=(sr [kk 2 (.al [(.nil 1),(.int .i64 0)])] (sr [kk 3 (.al [(.nil 1),(.int .i64 0)])] (.seq (sr [km 6 0,kk 7 (cl 8 [6,(cn 5)]),km 4 7] (.block 0 (.loop c55L1))) (sr [kk 29 (.ld 2 true 3),kz (.st 2 2 29)] .ret))))
theorem fits55:fits Tryz.prog false Tryz.f55 1 30 [(2,some (2,true))]=some c55.er:=by kernel_rfl
def c34L1:C:=(.seq (sr [km 9 4,kk 10 (.bi false .add 9 (cn 1)),kk 11 (.fa 0 3),kk 12 (.ld 1 false 11),kk 13 (.bi false .lss 10 12)] (.cond 13 .skip (.exit 0))) (.seq (.block 1 (sr [km 16 0,kk 17 (cl 8 [16,(cn 6)]),kk 18 (.bi false .gtr 17 (cn 0))] (.cond 18 (.drw [kk 19 (.fa 1 3),kk 20 (.ld 1 false 19),km 21 4,km 22 4,kk 23 (.bi false .add 22 (cn 1)),km 24 0,kk 25 (.fa 0 3),kk 26 (.ld 1 false 25),km 27 4,kk 28 (.bi false .sub 26 27),kk 29 (.bi false .sub 28 (cn 1)),kk 30 (cl 8 [24,29]),kk 31 (.bi false .add 23 30),km 32 0,kk 33 (cl 55 [32]),kk 34 (.bd [(.int .i64 0),(.int .i64 0),(.nil 1),(.int .i64 0)] [(0,1,21),(1,1,31),(2,2,33)]),kk 35 (.bs 154 4 [34]),kk 36 (.app 154 4 48 20 35),kk 37 (.fa 1 3),kz (.st 1 37 36)] (pl [(0,[2,3,4,5,6,7,8,9,10,11,12,13,14,15,16],19),(1,[2,3,4,5,6,7,8,9,10,11,12,13,14,15,16],20),(2,[3,4,5,6,7,8,9,10,11,12,13,14],21),(3,[5,6,7,8,9,10,11,13,14],22),(4,[5,6,7,8,9,10,11,13,14],23),(5,[6,7,8,9,10,13],24),(6,[8,13],25),(7,[8,13],26),(8,[13],27),(9,[13],28),(10,[13],29),(11,[13],30),(12,[13,14],31)])) .skip))) (.reg [km 14 4,kk 15 (.bi false .add 14 (cn 1)),km 4 15])))
def c34:C:=(sr [kk 2 (.al [(.int .i64 0),(.nil 4)])] (sr [km 5 0,kk 6 (cl 8 [5,(cn 6)]),kk 7 (.bi false .add (cn 1) 6),kk 8 (.bd [(.int .i64 0),(.nil 4)] [(0,1,7)]),kk 3 (.al [(.int .i64 0),(.nil 4)]),kz (.st 2 3 8)] (.seq (sr [kk 4 (.mv (cn 0))] (.block 0 (.loop c34L1))) (sr [kk 38 (.ld 2 true 3),kz (.st 2 2 38)] .ret))))
theorem fits34:fits Tryz.prog false Tryz.f34 1 39 [(2,some (2,true))]=some c34.er:=by kernel_rfl
def c18L1:C:=(.seq (sr [km 12 6,kk 13 (.fa 0 4),kk 14 (.fa 0 13),kk 15 (.ld 1 false 14),kk 16 (.bi false .lss 12 15),km 17 16,kg 18 17 true (.fa 2 4),kg 19 17 true (.ld 1 false 18),kg 20 17 true (.len 19),kg 21 17 true (.bi false .lss 20 (cn 3)),kk 22 (.pick 17 21 (.c (.bool false)))] (.cond 22 .skip (.exit 0))) (.seq (.block 1 (sr [km 25 0,kk 26 (cl 8 [25,(cn 2)]),kk 27 (.bi false .eql 26 (cn 0))] (.cond 27 (sr [km 29 0,kk 30 (cl 35 [29]),km 28 30,kk 31 (.ex 28 0),kk 32 (.ex 28 1),kk 7 (.al [(.nil 2),(.int .i64 0),(.int .i64 0),(.int .i64 0),(.int .i64 0),(.int .i64 0),(.nil 6),(.nil 3),(.int .i64 0)]),kk 8 (.al [(.int .i64 0),(.int .i64 0),(.nil 3),(.nil 2)]),kz (.st 9 7 31),kz (.st 4 8 32)] (.drw [kk 33 (.fa 2 4),kk 34 (.ld 1 false 33),km 35 6,kk 36 (.ld 9 true 7),kk 37 (.bd [(.int .i64 0),(.nil 2),(.int .i64 0),(.int .i64 0),(.int .i64 0),(.int .i64 0),(.int .i64 0),(.nil 6),(.nil 3),(.int .i64 0)] [(0,1,35),(1,9,36)]),kk 38 (.bs 84 10 [37]),kk 39 (.app 84 10 128 34 38),km 40 5,kk 41 (.ld 4 true 8),kk 42 (.bs 95 4 [41]),kk 43 (.app 95 4 64 40 42),kk 44 (.fa 2 4),kz (.st 1 44 39),km 5 43] (pl [(0,[2,3,4,5,7,8,9],33),(1,[2,3,4,5,7,8,9],34),(2,[3,7,8,9],35),(3,[7,8,9],36),(4,[7,8,9],37),(5,[7,8,9],38),(6,[7,8,9],39),(7,[8,9,11],40),(8,[11],41),(9,[11],42),(10,[11],43)]))) .skip))) (.reg [km 23 6,kk 24 (.bi false .add 23 (cn 1)),km 6 24])))
def c18:C:=(sr [kk 2 (.al [(.int .i64 0),(.nil 4),(.nil 10)]),kk 3 (.mv (.c (.nil 4)))] (sr [km 9 0,kk 10 (cl 34 [9]),kk 11 (.bd [(.int .i64 0),(.nil 4),(.nil 10)] [(0,2,10)]),kk 4 (.al [(.int .i64 0),(.nil 4),(.nil 10)]),kz (.st 3 4 11)] (sr [kk 5 (.mv (.c (.nil 4)))] (.seq (sr [kk 6 (.mv (cn 0))] (.block 0 (.loop c18L1))) (sr [kk 45 (.ld 3 true 4),km 46 5,kz (.st 3 2 45),km 3 46] .ret)))))
theorem fits18:fits Tryz.prog false Tryz.f18 1 47 [(2,some (3,true)),(3,none)]=some c18.er:=by kernel_rfl
structure Lk where
 a:Int
 b:Int
 ws:List Int
 den:Int
 deriving Inhabited
def eLk (τ:Nat) (l:Lk):List PV:= [.int .i64 l.a, .int .i64 l.b, .sl τ 1 l.ws.length (fl eInt l.ws), .int .i64 l.den]
def rcW (n:Nat) (d:Dk):Int:=if n=0 then nxt d 4+1 else nxt d 4
def rcI:Nat→List Int×Int×Dk→List Int×Int×Dk
 | 0,s=>s
 | n+1,s=>rcI n (s.1++ [rcW n s.2.2],s.2.1+rcW n s.2.2,nxtD s.2.2 4)
def reachF (d:Dk):List Int×Int×Dk:=rcI ((nxt d 5).toNat+1) ([],0,nxtD d 5)
theorem rcW_rng (n:Nat) (d:Dk):0≤rcW n d∧rcW n d≤4:=by
 have r:=nxt_lt d (n:=4) (by omega)
 unfold rcW
 split<;>omega
theorem rcI_ok:∀(n:Nat) (s:List Int×Int×Dk),(rcI n s).1.length=s.1.length+n∧(rcI n s).2.2.at_≤s.2.2.at_+n
 | 0,s=>⟨rfl,Nat.le_refl _⟩
 | n+1,s=>by
   have ih:=rcI_ok n (s.1++ [rcW n s.2.2],s.2.1+rcW n s.2.2,nxtD s.2.2 4)
   have a:=nxtD_at s.2.2 4
   unfold rcI
   rw [List.length_append,List.length_cons,List.length_nil] at ih
   generalize rcI n (s.1++ [rcW n s.2.2],s.2.1+rcW n s.2.2,nxtD s.2.2 4)=W at ih⊢
   dsimp only at ih
   omega
theorem reachF_ok (d:Dk):(reachF d).1.length≤5∧(reachF d).2.2.at_≤d.at_+6:=by
 have r:=nxt_lt d (n:=5) (by omega)
 have a:=nxtD_at d 5
 have h:=rcI_ok ((nxt d 5).toNat+1) ([],0,nxtD d 5)
 unfold reachF
 generalize rcI ((nxt d 5).toNat+1) ([],0,nxtD d 5)=W at h⊢
 rw [List.length_nil] at h
 dsimp only at h
 omega
def rvN (N:Int) (n:Int) (s:List Lk×Dk):List Lk×Dk:=
 if 0<nxt s.2 6 then
  (s.1++ [⟨n,n+1+nxt (nxtD s.2 6) (N - n - 1),(reachF (nxtD (nxtD s.2 6) (N - n - 1))).1,(reachF (nxtD (nxtD s.2 6) (N - n - 1))).2.1⟩],(reachF (nxtD (nxtD s.2 6) (N - n - 1))).2.2)
 else (s.1,nxtD s.2 6)
def rvI (N:Int):Nat→Int→List Lk×Dk→List Lk×Dk
 | 0,_,s=>s
 | k+1,n,s=>rvI N k (n+1) (rvN N n s)
def riverF (d:Dk):Int×List Lk×Dk:=(1+nxt d 6,rvI (1+nxt d 6) (nxt d 6).toNat 0 ([],nxtD d 6))
theorem rvN_ok (N n:Int) (s:List Lk×Dk):(rvN N n s).1.length≤s.1.length+1∧(rvN N n s).2.at_≤s.2.at_+8:=by
 have a:=nxtD_at s.2 6
 have a1:=nxtD_at (nxtD s.2 6) (N - n - 1)
 have h:=(reachF_ok (nxtD (nxtD s.2 6) (N - n - 1))).2
 unfold rvN
 generalize reachF (nxtD (nxtD s.2 6) (N - n - 1))=R at h⊢
 generalize nxtD (nxtD s.2 6) (N - n - 1)=e1 at a1 h
 generalize nxtD s.2 6=e at a a1⊢
 split
 ·dsimp only;rw [List.length_append,List.length_cons,List.length_nil];omega
 ·dsimp only;omega
theorem rvI_ok (N:Int):∀(k:Nat) (n:Int) (s:List Lk×Dk),(rvI N k n s).1.length≤s.1.length+k∧(rvI N k n s).2.at_≤s.2.at_+8*k
 | 0,n,s=>⟨Nat.le_refl _,Nat.le_refl _⟩
 | k+1,n,s=>by
   have ih:=rvI_ok N k (n+1) (rvN N n s)
   have h:=rvN_ok N n s
   unfold rvI
   generalize rvI N k (n+1) (rvN N n s)=W at ih⊢
   generalize rvN N n s=V at ih h
   omega
theorem riverF_ok (d:Dk):(1≤(riverF d).1∧(riverF d).1≤6)∧(riverF d).2.1.length≤5∧(riverF d).2.2.at_≤d.at_+41:=by
 have r:=nxt_lt d (n:=6) (by omega)
 have a:=nxtD_at d 6
 have h:=rvI_ok (1+nxt d 6) (nxt d 6).toNat 0 ([],nxtD d 6)
 unfold riverF
 dsimp only
 generalize rvI (1+nxt d 6) (nxt d 6).toNat 0 ([],nxtD d 6)=W at h⊢
 rw [List.length_nil] at h
 dsimp only at h
 omega
theorem call55 (d:Dk) (hd:d.at_≤960000000):PureCall Tryz.prog 55 [.pt 0 0 0] [.box (eDk 1 d)] ⟨.agg [.sl 0 1 (reachF d).1.length (fl eInt (reachF d).1), .int .i64 (reachF d).2.1], [.box (eDk 1 (reachF d).2.2)], []⟩:=by
 refine pure_call mix Tryz.func55 fits55 rfl ?_
 unfold reachF
 conv=>whnf
 refine ⟨_,fun _=>call_next 1 d 5 (by omega) (by omega), ?_⟩
 have r1:=nxt_lt d (n:=5) (by omega)
 have a1:=nxtD_at d 5
 obtain ⟨m0,hm0⟩:∃m:Nat,(m:Int)=nxt d 5:=⟨(nxt d 5).toNat,by omega⟩
 rw [←hm0] at r1⊢
 rw [Int.toNat_natCast]
 generalize nxtD d 5=e1 at a1⊢
 obtain ⟨R0,hR0⟩:∃R0,R0=rcI (m0+1) ([],0,e1):=⟨_,rfl⟩
 rw [←hR0]
 conv=>whnf
 refine ⟨?_, ?_⟩
 ·(try conv=>whnf)
  (repeat' (first | exact True.intro | exact fun _ h=>h | refine inR64_of ?_ ?_ | apply And.intro | refine maxLen_ge ?_))<;>(first | omega | (dsimp only;omega))
 refine LSem.adoptF 48 0 1000000 3 1 1 _ rfl rfl rfl ?_
 refine LSem.loop (n:=30) mix (α:=Nat×List Int×Int×Dk) (fun s=>s.1+s.2.1.length=m0+1∧rcI s.1 s.2=R0∧s.2.2.2.at_≤970000000+s.2.1.length∧(0≤s.2.2.1∧s.2.2.1≤4*s.2.1.length))
  (fun s=> [(0, .pt 0 0 0),(2, .pt 32 0 0),(3, .pt 48 0 0),(4, .int .i64 ((s.1:Int) - 1))])
  (fun s=> [(0, .box (eDk 1 s.2.2.2)),(32, .box [.nil 1, .int .i64 0]),(48, .box [.os 1000000, .int .i64 s.2.2.1]),(1000000, .row 0 3 1 s.2.1.length (fl eInt s.2.1))]) (fun s=>s.1) (m0+1, [],0,e1) ?_ ?_ ?_
 ·exact ⟨rfl,hR0.symm,by dsimp only;omega,by dsimp only;omega⟩
 ·refine ⟨rfl,rfl, ?_, ?_⟩
  all_goals repeat' (first | exact True.intro | refine leF_cons rfl ?_ ?_ | refine leS_cons rfl ?_ ?_ | (show PLe _ _ _ _;conv=>whnf) | (show SLe _ _ _ _;conv=>whnf) | (show PLeL _ _ _ _;conv=>whnf) | apply And.intro | rfl | exact Nat.le_refl _ | exact fun _ _=>rfl | exact rowEq0 _ _)
  all_goals first | omega | (dsimp only;omega) | skip
 ·intro s hs
  obtain ⟨m,l,sm,e⟩:=s
  obtain ⟨k1,k2,k3,k4⟩:=hs
  dsimp only at k1 k2 k3 k4
  conv=>whnf
  refine ⟨trivial,fun hc=> ?_,fun hc=> ?_⟩
  ·replace hc:=of_decide_eq_true hc
   obtain ⟨m,rfl⟩:∃m',m=m'+1:=⟨m - 1,by
    have h:(0:Int)≤(m:Int) - 1:=hc
    omega⟩
   have hst:rcI m (l++ [rcW m e],sm+rcW m e,nxtD e 4)=R0:=k2
   have hw:=rcW_rng m e
   have hwe:rcW m e=if m=0 then nxt e 4+1 else nxt e 4:=rfl
   have q:=fl_push eInt l (rcW m e)
   have hxl:(l++ [rcW m e]).length=l.length+1:=by simp
   conv=>whnf
   refine ⟨_,fun _=>call_next 1 e 4 (by omega) (by omega), ?_⟩
   have a2:=nxtD_at e 4
   generalize rcW m e=w at hst hw hwe q hxl
   generalize nxt e 4=x at hwe⊢
   generalize nxtD e 4=e2 at a2 hst⊢
   conv=>whnf
   refine ⟨?_,fun hz=> ?_,fun hz=> ?_⟩
   ·(try conv=>whnf)
    (repeat' (first | exact True.intro | exact fun _ h=>h | refine inR64_of ?_ ?_ | apply And.intro | refine maxLen_ge ?_))<;>(first | omega | (dsimp only;omega))
   ·have hz:((m+1:Nat):Int) - 1=0:=beq_iff_eq.1 hz
    rw [if_pos (by omega)] at hwe
    subst hwe
    conv=>whnf
    refine ⟨rfl, ?_⟩
    conv=>whnf
    refine ⟨?_,(m,l++ [x+1],sm+(x+1),e2),⟨?_,hst, ?_, ?_⟩, ?_,rfl,rfl, ?_, ?_⟩
    ·(try conv=>whnf)
     (repeat' (first | exact True.intro | exact fun _ h=>h | refine inR64_of ?_ ?_ | apply And.intro | refine maxLen_ge ?_))<;>(first | omega | decide | (dsimp only;omega) | (dsimp only [List.length_cons,List.length_nil];omega) | (intro hg;rw [hg];rfl) | (intro hg hh;rw [hg,hh];rfl) | (intro hg;simp [-List.getD_eq_getElem?_getD, -Int.default_eq_zero] at hg;first | omega | (refine inR64_of ?_ ?_<;>omega) | (constructor<;>omega)) | (simp [-List.getD_eq_getElem?_getD, -Int.default_eq_zero];done))
    ·dsimp only;rw [hxl];omega
    ·dsimp only;rw [hxl];omega
    ·dsimp only;rw [hxl];omega
    ·dsimp only;omega
    all_goals repeat' (first | exact True.intro | refine leF_cons rfl ?_ ?_ | refine leS_cons rfl ?_ ?_ | (show PLe _ _ _ _;conv=>whnf) | (show SLe _ _ _ _;conv=>whnf) | (show PLeL _ _ _ _;conv=>whnf) | apply And.intro | rfl | exact Nat.le_refl _ | exact fun _ _=>rfl | exact rowEq0 _ _)
    all_goals first | exact q | (dsimp only;rw [hxl];rfl) | (dsimp only;rw [hxl];done) | (dsimp only;omega) | omega | skip
   ·have hz:¬((m+1:Nat):Int) - 1=0:=beq_eq_false_iff_ne.1 hz
    rw [if_neg (by omega)] at hwe
    subst hwe
    conv=>whnf
    refine ⟨rfl, ?_⟩
    conv=>whnf
    refine ⟨?_,(m,l++ [w],sm+w,e2),⟨?_,hst, ?_, ?_⟩, ?_,rfl,rfl, ?_, ?_⟩
    ·(try conv=>whnf)
     (repeat' (first | exact True.intro | exact fun _ h=>h | refine inR64_of ?_ ?_ | apply And.intro | refine maxLen_ge ?_))<;>(first | omega | decide | (dsimp only;omega) | (dsimp only [List.length_cons,List.length_nil];omega) | (intro hg;rw [hg];rfl) | (intro hg hh;rw [hg,hh];rfl) | (intro hg;simp [-List.getD_eq_getElem?_getD, -Int.default_eq_zero] at hg;first | omega | (refine inR64_of ?_ ?_<;>omega) | (constructor<;>omega)) | (simp [-List.getD_eq_getElem?_getD, -Int.default_eq_zero];done))
    ·dsimp only;rw [hxl];omega
    ·dsimp only;rw [hxl];omega
    ·dsimp only;rw [hxl];omega
    ·dsimp only;omega
    all_goals repeat' (first | exact True.intro | refine leF_cons rfl ?_ ?_ | refine leS_cons rfl ?_ ?_ | (show PLe _ _ _ _;conv=>whnf) | (show SLe _ _ _ _;conv=>whnf) | (show PLeL _ _ _ _;conv=>whnf) | apply And.intro | rfl | exact Nat.le_refl _ | exact fun _ _=>rfl | exact rowEq0 _ _)
    all_goals first | exact q | (dsimp only;rw [hxl];rfl) | (dsimp only;rw [hxl];done) | (dsimp only;omega) | omega | skip
  ·replace hc:=of_decide_eq_false hc
   have h0:m=0:=by
    have h:¬(0:Int)≤(m:Int) - 1:=hc
    omega
   subst h0
   have hp:(l,sm,e)=R0:=k2
   rw [←hp]
   conv=>whnf
   refine ⟨?_, [], ?_⟩
   ·(try conv=>whnf)
    (repeat' (first | exact True.intro | exact fun _ h=>h | refine inR64_of ?_ ?_ | apply And.intro | refine maxLen_ge ?_))<;>(first | omega | (dsimp only;omega))
   conv=>whnf
   refine ⟨rfl, ?_, ?_,trivial⟩
   all_goals repeat' (first | exact True.intro | refine leF_cons rfl ?_ ?_ | refine leS_cons rfl ?_ ?_ | (show PLe _ _ _ _;conv=>whnf) | (show SLe _ _ _ _;conv=>whnf) | (show PLeL _ _ _ _;conv=>whnf) | apply And.intro | rfl | exact Nat.le_refl _ | exact fun _ _=>rfl | exact rowEq0 _ _)
theorem call34 (d:Dk) (hd:d.at_≤940000000):PureCall Tryz.prog 34 [.pt 0 0 0] [.box (eDk 1 d)] ⟨.agg [.int .i64 (riverF d).1, .sl 0 4 (riverF d).2.1.length (fl (eLk 0) (riverF d).2.1)], [.box (eDk 1 (riverF d).2.2)], []⟩:=by
 refine pure_call mix Tryz.func34 fits34 rfl ?_
 unfold riverF
 dsimp only
 conv=>whnf
 refine ⟨_,fun _=>call_next 1 d 6 (by omega) (by omega), ?_⟩
 have r1:=nxt_lt d (n:=6) (by omega)
 have a1:=nxtD_at d 6
 obtain ⟨m0,hm0⟩:∃m:Nat,(m:Int)=nxt d 6:=⟨(nxt d 6).toNat,by omega⟩
 rw [←hm0] at r1⊢
 rw [Int.toNat_natCast]
 generalize nxtD d 6=e1 at a1⊢
 obtain ⟨R0,hR0⟩:∃R0,R0=rvI (1+(m0:Int)) m0 0 ([],e1):=⟨_,rfl⟩
 rw [←hR0]
 conv=>whnf
 refine ⟨?_, ?_⟩
 ·(try conv=>whnf)
  (repeat' (first | exact True.intro | exact fun _ h=>h | refine inR64_of ?_ ?_ | apply And.intro | refine maxLen_ge ?_))<;>(first | omega | (dsimp only;omega))
 refine LSem.adoptF 48 1 1000000 154 4 4 _ rfl rfl rfl ?_
 refine LSem.loop (n:=39) mix (α:=Nat×Nat×List Lk×Dk) (fun s=>s.1+s.2.1=m0∧rvI (1+(m0:Int)) s.1 (s.2.1:Int) s.2.2=R0∧s.2.2.2.at_≤950000000+8*s.2.1∧s.2.2.1.length≤s.2.1)
  (fun s=> [(0, .pt 0 0 0),(2, .pt 32 0 0),(3, .pt 48 0 0),(4, .int .i64 s.2.1)])
  (fun s=> [(0, .box (eDk 1 s.2.2.2)),(32, .box [.int .i64 0, .nil 4]),(48, .box [.int .i64 (1+m0), .os 1000000]),(1000000, .row 0 154 4 s.2.2.1.length (fl (eLk 0) s.2.2.1))]) (fun s=>s.1) (m0,0, [],e1) ?_ ?_ ?_
 ·exact ⟨Nat.add_zero _,hR0.symm,by dsimp only;omega,Nat.le_refl _⟩
 ·refine ⟨rfl,rfl, ?_, ?_⟩
  all_goals repeat' (first | exact True.intro | refine leF_cons rfl ?_ ?_ | refine leS_cons rfl ?_ ?_ | (show PLe _ _ _ _;conv=>whnf) | (show SLe _ _ _ _;conv=>whnf) | (show PLeL _ _ _ _;conv=>whnf) | apply And.intro | rfl | exact Nat.le_refl _ | exact fun _ _=>rfl | exact rowEq0 _ _)
 ·intro s hs
  obtain ⟨k,n,l,e⟩:=s
  obtain ⟨k1,k2,k3,k4⟩:=hs
  dsimp only at k1 k2 k3 k4
  conv=>whnf
  refine ⟨?_,fun hc=> ?_,fun hc=> ?_⟩
  ·(try conv=>whnf)
   (repeat' (first | exact True.intro | exact fun _ h=>h | refine inR64_of ?_ ?_ | apply And.intro | refine maxLen_ge ?_))<;>(first | omega | (dsimp only;omega))
  ·replace hc:=of_decide_eq_true hc
   obtain ⟨k,rfl⟩:∃k',k=k'+1:=⟨k - 1,by
    have h:(n:Int)+1<1+m0:=hc
    omega⟩
   have hst:rvI (1+(m0:Int)) k ((n:Int)+1) (rvN (1+(m0:Int)) n (l,e))=R0:=k2
   have hrv:rvN (1+(m0:Int)) n (l,e)=if 0<nxt e 6 then
     (l++ [⟨n,n+1+nxt (nxtD e 6) (1+(m0:Int) - n - 1),(reachF (nxtD (nxtD e 6) (1+(m0:Int) - n - 1))).1,(reachF (nxtD (nxtD e 6) (1+(m0:Int) - n - 1))).2.1⟩],(reachF (nxtD (nxtD e 6) (1+(m0:Int) - n - 1))).2.2)
    else (l,nxtD e 6):=rfl
   rw [hrv] at hst
   clear hrv k2
   have hni:(n:Int)+1=((n+1:Nat):Int):=by omega
   conv=>whnf
   refine ⟨_,fun _=>call_next 1 e 6 (by omega) (by omega), ?_⟩
   have a2:=nxtD_at e 6
   generalize nxt e 6=x at hst⊢
   generalize nxtD e 6=e2 at a2 hst⊢
   conv=>whnf
   refine ⟨?_,fun hx=> ?_,fun hx=> ?_⟩
   ·(try conv=>whnf)
    (repeat' (first | exact True.intro | exact fun _ h=>h | refine inR64_of ?_ ?_ | apply And.intro | refine maxLen_ge ?_))<;>(first | omega | (dsimp only;omega))
   ·have hx:0<x:=of_decide_eq_true hx
    rw [if_pos hx] at hst
    conv=>whnf
    refine ⟨_,fun _=>call_next 1 e2 (1+(m0:Int) - n - 1) (by omega) (by omega), ?_⟩
    have r3:=nxt_rng e2 (1+(m0:Int) - n - 1)
    have a3:=nxtD_at e2 (1+(m0:Int) - n - 1)
    generalize nxt e2 (1+(m0:Int) - n - 1)=y at r3 hst⊢
    generalize nxtD e2 (1+(m0:Int) - n - 1)=e3 at a3 hst⊢
    conv=>whnf
    refine ⟨_,fun _=>call55 e3 (by omega), ?_⟩
    have h4:=reachF_ok e3
    generalize reachF e3=R at h4 hst⊢
    obtain ⟨ws,den,e4⟩:=R
    dsimp only at h4 hst
    have q:=fl_push (eLk 0) l ⟨n,n+1+y,ws,den⟩
    have hxl:(l++ [(⟨n,n+1+y,ws,den⟩:Lk)]).length=l.length+1:=by simp
    conv=>whnf
    refine ⟨rfl, ?_⟩
    conv=>whnf
    refine ⟨?_,(k,n+1,l++ [⟨n,n+1+y,ws,den⟩],e4),⟨?_, ?_, ?_, ?_⟩, ?_,rfl,rfl, ?_, ?_⟩
    ·(try conv=>whnf)
     (repeat' (first | exact True.intro | exact fun _ h=>h | refine inR64_of ?_ ?_ | apply And.intro | refine maxLen_ge ?_))<;>(first | omega | decide | (dsimp only;omega) | (dsimp only [List.length_cons,List.length_nil];omega) | (intro hg;rw [hg];rfl) | (intro hg hh;rw [hg,hh];rfl) | (intro hg;simp [-List.getD_eq_getElem?_getD, -Int.default_eq_zero] at hg;first | omega | (refine inR64_of ?_ ?_<;>omega) | (constructor<;>omega)) | (simp [-List.getD_eq_getElem?_getD, -Int.default_eq_zero];done))
    ·dsimp only;omega
    ·dsimp only;rw [←hni];exact hst
    ·dsimp only;omega
    ·dsimp only;rw [hxl];omega
    ·dsimp only;omega
    all_goals repeat' (first | exact True.intro | refine leF_cons rfl ?_ ?_ | refine leS_cons rfl ?_ ?_ | (show PLe _ _ _ _;conv=>whnf) | (show SLe _ _ _ _;conv=>whnf) | (show PLeL _ _ _ _;conv=>whnf) | apply And.intro | rfl | exact Nat.le_refl _ | exact fun _ _=>rfl | exact rowEq0 _ _)
    all_goals first | exact q | (dsimp only;rw [hxl];rfl) | (dsimp only;rw [hxl];done) | (dsimp only;omega) | omega | skip
   ·have hx:¬0<x:=of_decide_eq_false hx
    rw [if_neg hx] at hst
    conv=>whnf
    refine ⟨?_,(k,n+1,l,e2),⟨?_, ?_, ?_, ?_⟩, ?_,rfl,rfl, ?_, ?_⟩
    ·(try conv=>whnf)
     (repeat' (first | exact True.intro | exact fun _ h=>h | refine inR64_of ?_ ?_ | apply And.intro | refine maxLen_ge ?_))<;>(first | omega | (dsimp only;omega))
    ·dsimp only;omega
    ·dsimp only;rw [←hni];exact hst
    ·dsimp only;omega
    ·dsimp only;omega
    ·dsimp only;omega
    all_goals repeat' (first | exact True.intro | refine leF_cons rfl ?_ ?_ | refine leS_cons rfl ?_ ?_ | (show PLe _ _ _ _;conv=>whnf) | (show SLe _ _ _ _;conv=>whnf) | (show PLeL _ _ _ _;conv=>whnf) | apply And.intro | rfl | exact Nat.le_refl _ | exact fun _ _=>rfl | exact rowEq0 _ _)
    all_goals first | (dsimp only;omega) | omega | skip
  ·replace hc:=of_decide_eq_false hc
   have h0:k=0:=by
    have h:¬(n:Int)+1<1+m0:=hc
    omega
   subst h0
   have hp:(l,e)=R0:=k2
   rw [←hp]
   conv=>whnf
   refine ⟨?_, [], ?_⟩
   ·(try conv=>whnf)
    (repeat' (first | exact True.intro | exact fun _ h=>h | refine inR64_of ?_ ?_ | apply And.intro | refine maxLen_ge ?_))<;>(first | omega | (dsimp only;omega))
   conv=>whnf
   refine ⟨rfl, ?_, ?_,trivial⟩
   all_goals repeat' (first | exact True.intro | refine leF_cons rfl ?_ ?_ | refine leS_cons rfl ?_ ?_ | (show PLe _ _ _ _;conv=>whnf) | (show SLe _ _ _ _;conv=>whnf) | (show PLeL _ _ _ _;conv=>whnf) | apply And.intro | rfl | exact Nat.le_refl _ | exact fun _ _=>rfl | exact rowEq0 _ _)
structure Site where
 node:Int
 x:Dm
 deriving Inhabited
def eSite (τ:Nat) (s:Site):List PV:= [.int .i64 s.node, .sl τ 2 s.x.r.st.length (fl ePt s.x.r.st), .int .i64 s.x.r.dead, .int .i64 s.x.r.low, .int .i64 s.x.r.full, .int .i64 s.x.r.sur, .int .i64 s.x.r.crest,
 .sl τ 6 s.x.us.length (fl (eUt 0) s.x.us), .sl τ 3 s.x.gs.length (fl (eGa 0) s.x.gs), .int .i64 s.x.grain]
def csN (n:Int) (s:List Site×List Ds×Dk):List Site×List Ds×Dk:=
 if nxt s.2.2 2=0 then (s.1++ [⟨n,(damF (nxtD s.2.2 2)).1⟩],s.2.1++ [(damF (nxtD s.2.2 2)).2.1],(damF (nxtD s.2.2 2)).2.2) else (s.1,s.2.1,nxtD s.2.2 2)
def csI:Nat→Int→List Site×List Ds×Dk→List Site×List Ds×Dk
 | 0,_,s=>s
 | k+1,n,s=>if s.1.length<3 then csI k (n+1) (csN n s) else s
def cascF (d:Dk):(Int×List Lk×List Site)×List Ds×Dk:=
 let R:=riverF d
 let W:=csI R.1.toNat 0 ([], [],R.2.2)
 ((R.1,R.2.1,W.1),W.2.1,W.2.2)
theorem csN_eq (n:Int) (l:List Site) (y:List Ds) (e:Dk):csN n (l,y,e)=if nxt e 2=0 then (l++ [⟨n,(damF (nxtD e 2)).1⟩],y++ [(damF (nxtD e 2)).2.1],(damF (nxtD e 2)).2.2) else (l,y,nxtD e 2):=by unfold csN;dsimp only
theorem csI_succ (k:Nat) (n:Int) (l:List Site) (y:List Ds) (e:Dk):csI (k+1) n (l,y,e)=if l.length<3 then csI k (n+1) (csN n (l,y,e)) else (l,y,e):=by rw [csI]
theorem csN_ok (n:Int) (s:List Site×List Ds×Dk):(csN n s).1.length≤s.1.length+1∧((csN n s).2.1.length=(csN n s).1.length↔s.2.1.length=s.1.length)∧(csN n s).2.2.at_≤s.2.2.at_+201:=by
 have a:=nxtD_at s.2.2 2
 have h:=damF_at (nxtD s.2.2 2)
 unfold csN
 generalize damF (nxtD s.2.2 2)=D at h⊢
 generalize nxtD s.2.2 2=e at a h⊢
 split
 ·dsimp only;simp only [List.length_append,List.length_cons,List.length_nil];omega
 ·dsimp only;omega
theorem csI_ok:∀(k:Nat) (n:Int) (s:List Site×List Ds×Dk),s.1.length≤3→s.2.1.length=s.1.length→(csI k n s).1.length≤3∧(csI k n s).2.1.length=(csI k n s).1.length∧(csI k n s).2.2.at_≤s.2.2.at_+201*k
 | 0,n,s,h,h2=>⟨h,h2,Nat.le_refl _⟩
 | k+1,n,s,h,h2=>by
   unfold csI
   split
   ·have hn:=csN_ok n s
    have ih:=csI_ok k (n+1) (csN n s) (by omega) (hn.2.1.2 h2)
    generalize csI k (n+1) (csN n s)=W at ih⊢
    generalize csN n s=V at hn ih
    omega
   ·exact ⟨h,h2,by omega⟩
theorem cascF_ok (d:Dk):(1≤(cascF d).1.1∧(cascF d).1.1≤6)∧(cascF d).1.2.1.length≤5∧(cascF d).1.2.2.length≤3∧(cascF d).2.1.length=(cascF d).1.2.2.length∧(cascF d).2.2.at_≤d.at_+1300:=by
 have h:=riverF_ok d
 unfold cascF
 dsimp only
 generalize riverF d=R at h⊢
 have h2:=csI_ok R.1.toNat 0 ([], [],R.2.2) (by simp) rfl
 generalize csI R.1.toNat 0 ([], [],R.2.2)=W at h2⊢
 dsimp only at h2
 omega
theorem call18 (d:Dk) (hd:d.at_≤900000000):PureCall Tryz.prog 18 [.pt 0 0 0] [.box (eDk 1 d)]
  ⟨.tup [.agg [.int .i64 (cascF d).1.1, .sl 0 4 (cascF d).1.2.1.length (fl (eLk 0) (cascF d).1.2.1), .sl 0 10 (cascF d).1.2.2.length (fl (eSite 0) (cascF d).1.2.2)], .sl 0 4 (cascF d).2.1.length (fl (eDs 0) (cascF d).2.1)], [.box (eDk 1 (cascF d).2.2)], []⟩:=by
 refine pure_call mix Tryz.func18 fits18 rfl ?_
 unfold cascF
 dsimp only
 conv=>whnf
 refine ⟨_,fun _=>call34 d (by omega), ?_⟩
 have h:=riverF_ok d
 generalize riverF d=R at h⊢
 obtain ⟨N,lk,e1⟩:=R
 dsimp only at h⊢
 obtain ⟨N,rfl⟩:∃m:Nat,N=m:=⟨N.toNat,by omega⟩
 rw [Int.toNat_natCast]
 obtain ⟨R0,hR0⟩:∃R0,R0=csI N 0 ([], [],e1):=⟨_,rfl⟩
 rw [←hR0]
 conv=>whnf
 refine ⟨?_, ?_⟩
 ·(try conv=>whnf)
  (repeat' (first | exact True.intro | exact fun _ h=>h | refine inR64_of ?_ ?_ | apply And.intro | refine maxLen_ge ?_))<;>(first | omega | (dsimp only;omega))
 refine LSem.adopt 5 1000001 95 4 4 rfl rfl ?_
 refine LSem.adoptF 64 2 1000000 84 10 10 _ rfl rfl rfl ?_
 refine LSem.loop (n:=47) mix (α:=Nat×Nat×List Site×List Ds×Dk) (fun s=>s.1+s.2.1=N∧csI s.1 (s.2.1:Int) s.2.2=R0∧s.2.2.2.2.at_≤900001000+201*s.2.1∧s.2.2.1.length≤s.2.1∧s.2.2.2.1.length=s.2.2.1.length)
  (fun s=> [(0, .pt 0 0 0),(2, .pt 32 0 0),(4, .pt 64 0 0),(5, .os 1000001),(6, .int .i64 s.2.1)])
  (fun s=> [(0, .box (eDk 1 s.2.2.2.2)),(32, .box [.int .i64 0, .nil 4, .nil 10]),(64, .box [.int .i64 N, .sl 0 4 lk.length (fl (eLk 0) lk), .os 1000000]),(1000000, .row 0 84 10 s.2.2.1.length (fl (eSite 0) s.2.2.1)),(1000001, .row 0 95 4 s.2.2.2.1.length (fl (eDs 0) s.2.2.2.1))]) (fun s=>s.1) (N,0, [], [],e1) ?_ ?_ ?_
 ·exact ⟨Nat.add_zero _,hR0.symm,by dsimp only;omega,Nat.le_refl _,rfl⟩
 ·refine ⟨rfl,rfl, ?_, ?_⟩
  all_goals repeat' (first | exact True.intro | refine leF_cons rfl ?_ ?_ | refine leS_cons rfl ?_ ?_ | (show PLe _ _ _ _;conv=>whnf) | (show SLe _ _ _ _;conv=>whnf) | (show PLeL _ _ _ _;conv=>whnf) | apply And.intro | rfl | exact Nat.le_refl _ | exact fun _ _=>rfl | exact rowEq0 _ _)
 ·intro s hs
  obtain ⟨k,n,l,y,e⟩:=s
  obtain ⟨k1,k2,k3,k4,k5⟩:=hs
  dsimp only at k1 k2 k3 k4 k5
  conv=>whnf
  refine ⟨?_,fun hc=> ?_,fun hc=> ?_⟩
  ·(try conv=>whnf)
   (repeat' (first | exact True.intro | exact fun _ h=>h | refine inR64_of ?_ ?_ | apply And.intro | refine maxLen_ge ?_))<;>(first | omega | decide | (dsimp only;omega) | (dsimp only [List.length_cons,List.length_nil];omega) | (intro hg;rw [hg];rfl) | (intro hg hh;rw [hg,hh];rfl) | (intro hg;simp [-List.getD_eq_getElem?_getD, -Int.default_eq_zero] at hg;first | omega | (refine inR64_of ?_ ?_<;>omega) | (constructor<;>omega)) | (simp [-List.getD_eq_getElem?_getD, -Int.default_eq_zero];done))
  ·have hc:(bif decide ((n:Int)<N) then decide ((l.length:Int)<3) else false)=true:=hc
   simp only [bif_t,bif_f,decide_eq_true_eq,decide_eq_false_iff_not,Bool.not_eq_true',Bool.not_eq_false',Bool.and_eq_true,Bool.or_eq_true,Bool.and_eq_false_iff,Bool.or_eq_false_iff,beq_iff_eq,bne_iff_ne,beq_eq_false_iff_ne,bne_eq_false_iff_eq,reduceCtorEq,false_and,and_false,true_and,and_true,or_false,false_or,or_true,true_or,not_true_eq_false,not_false_eq_true,Int.toNat_zero] at hc
   obtain ⟨k,rfl⟩:∃k',k=k'+1:=⟨k - 1,by omega⟩
   have hst:=k2
   rw [csI_succ,if_pos (by omega),csN_eq] at hst
   clear k2
   have hni:(n:Int)+1=((n+1:Nat):Int):=by omega
   conv=>whnf
   refine ⟨_,fun _=>call_next 1 e 2 (by omega) (by omega), ?_⟩
   have a2:=nxtD_at e 2
   generalize nxt e 2=x at hst⊢
   generalize nxtD e 2=e2 at a2 hst⊢
   conv=>whnf
   refine ⟨?_,fun hx=> ?_,fun hx=> ?_⟩
   ·(try conv=>whnf)
    (repeat' (first | exact True.intro | exact fun _ h=>h | refine inR64_of ?_ ?_ | apply And.intro | refine maxLen_ge ?_))<;>(first | omega | (dsimp only;omega))
   ·have hx:x=0:=beq_iff_eq.1 hx
    rw [if_pos hx] at hst
    conv=>whnf
    refine ⟨_,fun _=>call35 e2 (by omega), ?_⟩
    have h4:=damF_at e2
    generalize damF e2=D at h4 hst⊢
    obtain ⟨dm,ds,e3⟩:=D
    dsimp only at h4 hst
    have q:=fl_push (eSite 0) l ⟨n,dm⟩
    have hxl:(l++ [(⟨n,dm⟩:Site)]).length=l.length+1:=by simp
    have q2:=fl_push (eDs 0) y ds
    have hyl:(y++ [ds]).length=y.length+1:=by simp
    conv=>whnf
    refine ⟨rfl, ?_⟩
    conv=>whnf
    refine ⟨?_,(k,n+1,l++ [⟨n,dm⟩],y++ [ds],e3),⟨?_, ?_, ?_, ?_, ?_⟩, ?_,rfl,rfl, ?_, ?_⟩
    ·(try conv=>whnf)
     (repeat' (first | exact True.intro | exact fun _ h=>h | refine inR64_of ?_ ?_ | apply And.intro | refine maxLen_ge ?_))<;>(first | omega | decide | (dsimp only;omega) | (dsimp only [List.length_cons,List.length_nil];omega) | (intro hg;rw [hg];rfl) | (intro hg hh;rw [hg,hh];rfl) | (intro hg;simp [-List.getD_eq_getElem?_getD, -Int.default_eq_zero] at hg;first | omega | (refine inR64_of ?_ ?_<;>omega) | (constructor<;>omega)) | (simp [-List.getD_eq_getElem?_getD, -Int.default_eq_zero];done))
    ·dsimp only;omega
    ·dsimp only;rw [←hni];exact hst
    ·dsimp only;omega
    ·dsimp only;rw [hxl];omega
    ·dsimp only;rw [hxl,hyl];omega
    ·dsimp only;omega
    all_goals repeat' (first | exact True.intro | refine leF_cons rfl ?_ ?_ | refine leS_cons rfl ?_ ?_ | (show PLe _ _ _ _;conv=>whnf) | (show SLe _ _ _ _;conv=>whnf) | (show PLeL _ _ _ _;conv=>whnf) | apply And.intro | rfl | exact Nat.le_refl _ | exact fun _ _=>rfl | exact rowEq0 _ _)
    all_goals first | exact q | exact q2 | (dsimp only;rw [hxl];rfl) | (dsimp only;rw [hyl];rfl) | (dsimp only;rw [hxl];done) | (dsimp only;rw [hyl];done) | (dsimp only;omega) | omega | skip
   ·have hx:¬x=0:=beq_eq_false_iff_ne.1 hx
    rw [if_neg hx] at hst
    conv=>whnf
    refine ⟨?_,(k,n+1,l,y,e2),⟨?_, ?_, ?_, ?_, ?_⟩, ?_,rfl,rfl, ?_, ?_⟩
    ·(try conv=>whnf)
     (repeat' (first | exact True.intro | exact fun _ h=>h | refine inR64_of ?_ ?_ | apply And.intro | refine maxLen_ge ?_))<;>(first | omega | (dsimp only;omega))
    ·dsimp only;omega
    ·dsimp only;rw [←hni];exact hst
    ·dsimp only;omega
    ·dsimp only;omega
    ·dsimp only;omega
    ·dsimp only;omega
    all_goals repeat' (first | exact True.intro | refine leF_cons rfl ?_ ?_ | refine leS_cons rfl ?_ ?_ | (show PLe _ _ _ _;conv=>whnf) | (show SLe _ _ _ _;conv=>whnf) | (show PLeL _ _ _ _;conv=>whnf) | apply And.intro | rfl | exact Nat.le_refl _ | exact fun _ _=>rfl | exact rowEq0 _ _)
    all_goals first | (dsimp only;omega) | omega | skip
  ·have hc:(bif decide ((n:Int)<N) then decide ((l.length:Int)<3) else false)=false:=hc
   simp only [bif_t,bif_f,decide_eq_true_eq,decide_eq_false_iff_not,Bool.not_eq_true',Bool.not_eq_false',Bool.and_eq_true,Bool.or_eq_true,Bool.and_eq_false_iff,Bool.or_eq_false_iff,beq_iff_eq,bne_iff_ne,beq_eq_false_iff_ne,bne_eq_false_iff_eq,reduceCtorEq,false_and,and_false,true_and,and_true,or_false,false_or,or_true,true_or,not_true_eq_false,not_false_eq_true,Int.toNat_zero] at hc
   have hp:(l,y,e)=R0:=by
    cases k with
    | zero=>rw [csI] at k2;exact k2
    | succ k=>
      rw [csI_succ,if_neg (by omega)] at k2
      exact k2
   rw [←hp]
   conv=>whnf
   refine ⟨?_, [], ?_⟩
   ·(try conv=>whnf)
    (repeat' (first | exact True.intro | exact fun _ h=>h | refine inR64_of ?_ ?_ | apply And.intro | refine maxLen_ge ?_))<;>(first | omega | (dsimp only;omega))
   conv=>whnf
   refine ⟨rfl, ?_, ?_,trivial⟩
   all_goals repeat' (first | exact True.intro | refine leF_cons rfl ?_ ?_ | refine leS_cons rfl ?_ ?_ | (show PLe _ _ _ _;conv=>whnf) | (show SLe _ _ _ _;conv=>whnf) | (show PLeL _ _ _ _;conv=>whnf) | apply And.intro | rfl | exact Nat.le_refl _ | exact fun _ _=>rfl | exact rowEq0 _ _)
open Go.RowKit
section
variable {P:Program} {X:Cx} {γ:Gh} {w w0:World} {st st':Nat→Option SE} {may:Nat→Prop} {a:Act} {s s':PS} {ops:Array Oper} {K:Act→World→Prop} {Qx:Exit→Act→World→Prop}
def PureCallQ (P:Program) (f:FuncId) (args:List PV) (bs:List SE) (Q:CallRes→Prop):Prop:=
 (∃fn,P.funcs[f]? =some fn∧fn.body.isSome=true∧(fn.name== "runtime.NumGoroutine")=false)∧
 ∀(w:World) (γ:Gh) (aas ls:Nat→Prop) (vals:List Value),RepSt ⟨w.heap.size,aas,ls,nbx bs,γ, []⟩ γ w (fun r=>bs[r]?)→(∀b,aas b∨ls b→b<w.heap.size)→
  RepL ⟨w.heap.size,aas,ls,nbx bs,γ, []⟩ γ w args vals→
  Calls P f vals.toArray w fun e w'=>∃c,Q c∧∃v γ',e= .returned v∧Rep ⟨w.heap.size,aas,ls,nbx bs,γ, []⟩ γ' w' c.val v∧RepSt ⟨w.heap.size,aas,ls,nbx bs,γ, []⟩ γ' w' (resSt c)∧
   Keeps γ.own w w'∧(∀r,r<parN bs c→ParR (γ' r) (γ r) (resSt c r))∧(∀r ge b,γ' r=some ge→ge.has b→w.heap.size≤b∨(nbx bs=0∧γ.own b)∨∃ge0,γ r=some ge0∧ge0.has b)
theorem PureCall.toQ {f:FuncId} {args:List PV} {bs:List SE} {c:CallRes} (h:PureCall P f args bs c):PureCallQ P f args bs (fun c'=>c'=c):=
 ⟨h.1,fun w γ aas ls vals h1 h2 h3=>(h.2 w γ aas ls vals h1 h2 h3).mono fun _ _ hp=>⟨c,rfl,hp⟩⟩
theorem PureCallQ.arg_le {f:FuncId} {args args':List PV} {bs:List SE} {Q:CallRes→Prop} (h:PureCallQ P f args' bs Q) (hl:PLeL (fun r=>bs[r]?) (fun _=>true) args args'):PureCallQ P f args bs Q:=
 ⟨h.1,fun w γ aas ls vals hst hX ha=>h.2 w γ aas ls vals hst hX (ha.le hst (fun r ge b _ hk _=>by cases hk) (fun r ge hr _=>hr) (fun r ge hr=>⟨hr,rfl⟩) hl)⟩
abbrev CondQ (cs:List SE) (bs:List (Nat×SE)) (c:CallRes):Prop:=
 c.news.length≤16∧c.st.length=bs.length∧sameKinds (bs.map (·.2)) c.st=true∧c.st.any SE.isRow=false∧bs.length≤newBase∧fixAny c.news=false∧(cs.any SE.isRow=true→PV.freshB c.val=true∧c.st.all SE.freshB=true∧c.news.all SE.freshB=true)
abbrev EffQ (bs:List (Nat×SE)) (d:Nat) (c:CallRes):Eff:=
 ⟨PV.ren (backName bs d) c.val, [],(bs.map (·.1)).zip (c.st.map (SE.ren (backName bs d))),c.news.map (SE.ren (backName bs d)), [], []⟩
theorem call_Q {wr:Bool} {o:Oper} {y:A} {ys:List A} {vs0 args0 first caps args':List PV} {cs:List SE} {bs:List (Nat×SE)} {d:Nat} {id:FuncId} {Q:CallRes→Prop}
  (hR:Rel X w0 may a w s γ) (hc:compI P wr o=some (.call y ys)) (hv:valL s.fr (I.call y ys).opr=some vs0) (hsd:allP (stripS true vs0).1) (hvs:(stripS true vs0).2= .fn (.func id) first caps::args0)
  (hcs:getL s.st ((I.call y ys).acc (stripS true vs0).2)=some cs) (hla:lendL ((I.call y ys).acc (stripS true vs0).2) cs (first++args0++caps)=some args')
  (hbs:boxesOf ((I.call y ys).acc (stripS true vs0).2) cs=some bs) (hQ:PureCallQ P id args' (bs.map (·.2)) Q):
  o.wp P a w (fun a' w'=>∃c,Q c∧∀st',CondQ cs bs c→newSt d [] [] ((bs.map (·.1)).zip (c.st.map (SE.ren (backName bs d)))) (c.news.map (SE.ren (backName bs d))) s.st=some st'→
   ∃v γ',a'=a.put o.dst v∧EffOK X γ w s.st (EffQ bs d c) v w' γ' st') Qx:=by
 have H:=eval_opd hR
 have hcall:∃cl f,o.op= .call cl∧cl.callee= .value f∧arg f=some y∧mapO (fun (q:Operand×TypeId)=>argT P q.2 q.1) (cl.args.toList.zip cl.argTypes.toList)=some ys∧cl.args.size=cl.argTypes.size:=by
  revert hc
  unfold compI
  intro hc
  repeat' (split at hc)
  all_goals first
   | (cases hc;done)
   | (injection hc with hc;cases hc;done)
   | (obtain ⟨y,hy,hyy⟩:=Option.map_eq_some_iff.1 hc;cases hyy;done)
   | (injection hc with hc;injection hc with h1 h2;subst h1;subst h2
      rename_i _ cl hop _ f hcal _ _ y ys hy hys hsz
      exact ⟨_,_,hop,hcal,hy,hys,by simpa using hsz⟩)
 obtain ⟨cl,f,hop,hcal,hy,hys,hsz⟩:=hcall
 have hz:(cl.args.toList.zip cl.argTypes.toList).map (fun q=>a.eval q.1)=(cl.args.map a.eval).toList:=by
  have hl:cl.args.toList.length=cl.argTypes.toList.length:=by simpa using hsz
  have h1:(cl.args.toList.zip cl.argTypes.toList).map (fun q=>q.1)=cl.args.toList:=List.map_fst_zip (by omega)
  rw [show (fun q:Operand×TypeId=>a.eval q.1)=a.eval∘(fun q=>q.1) from rfl,←List.map_map,h1]
  simp
 have hR0:RepL X γ w vs0 (a.eval f::(cl.args.map a.eval).toList):=by
  simp only [I.opr,valL] at hv
  split at hv
  ·rename_i p ps hp hps
   injection hv with hv;subst hv
   refine RepL.cons_ (arg_rep H hy hp) ?_
   have:=argsT_rep (P:=P) (α:=Operand×TypeId) H (fun q=>q.2) (fun q=>q.1) (xs:=cl.args.toList.zip cl.argTypes.toList) (ys:=ys) (ps:=ps) hys hps
   rwa [hz] at this
  ·cases hv
 have hRs:=stripS_sound hR0 hsd
 rw [hvs] at hRs
 obtain ⟨fv,avs,hfv,hr1,hr2⟩:=hRs.cons_inv
 injection hfv with hfv1 hfv2
 cases hr1 with
 | fn _ _ _ fvs cvs hfl hcl hfr hcr=>
 obtain ⟨⟨fn,hfn,hbody,hname⟩,hcallq⟩:=hQ
 obtain ⟨γc,aas',ls',hstc,hbb,hargs,hback⟩:=call_norm (d:=d) hR.st hR.hX hR.heapLe idsL_acc hcs ((RepL.append ⟨hfl,hfr⟩ hr2).append ⟨hcl,hcr⟩) hla hbs
 have hrun:(execOp a.eval o).run P w= .ok (.enter id ((fvs.toArray++avs.toArray)++cvs.toArray)) w:=by
  unfold execOp
  rw [hop]
  have hb:fn.body≠none:=by intro h;rw [h] at hbody;cases hbody
  have hnm:fn.name≠ "runtime.NumGoroutine":=by simpa using hname
  have hav:cl.args.map a.eval=avs.toArray:=by rw [←hfv2]
  simp [resolve,hcal,hfv1,Deferred.ofValue,invoke,callFunc,hfn,hb,hnm,hav]
 unfold Oper.wp
 rw [hrun]
 simp only [Oper.upon]
 have hvals:((fvs.toArray++avs.toArray)++cvs.toArray)=((fvs++avs)++cvs).toArray:=by simp
 rw [hvals]
 refine (hcallq w γc aas' ls' _ hstc hbb hargs).mono fun e w' hp=> ?_
 obtain ⟨c,hqc,hpost⟩:=hp
 obtain ⟨v,γ',hev,hpost⟩:=hpost
 subst hev
 refine ⟨c,hqc,fun st' hcond hnew=> ?_⟩
 obtain ⟨v2,γ'',h1,h2⟩:=hback c st' hcond hnew _ w' ⟨v,γ',rfl,hpost⟩
 injection h1 with h1
 subst h1
 exact ⟨_,γ'',rfl,h2⟩
end
open Go.RowKit
section
variable {P:Program} {X:Cx} {γ:Gh} {w w0:World} {may:Nat→Prop} {a:Act} {s s':PS} {ops:Array Oper} {K:Act→World→Prop} {Qx:Exit→Act→World→Prop}
def stripOK (x:Ins) (s:PS):Prop:=match valL s.fr x.i.opr with
 | some vs0=>allP (stripS true vs0).1
 | none=>False
theorem stepX_none {S:FuncId→List PV→List SE→CallRes→Prop} {lg:Bool} {c:CallRes} {i:Nat} {x:Ins} (hg:x.g=none) (hc:x.i.isCall=true) (h:stepX S lg c i x s=some s'):stepI S lg c i x s=some s':=by
 cases lg with
 | true=>simpa only [stepX] using h
 | false=>
   obtain ⟨od,oid,og,oi⟩:=x
   obtain ⟨n,fr,st,ok,log⟩:=s
   simp only at hg;subst hg
   simpa only [stepX,stepG] using h
theorem callA_norm {f:PV} {args args':List PV} {ids:List Nat} {cs:List SE} {id:FuncId} {bs:List (Nat×SE)} (h:callA f args ids cs=some (id,args',bs)) (hng:(natIn id givers || natIn id readers)=false):
  ∃first caps,f= .fn (.func id) first caps∧natIn id givers=false∧natIn id readers=false∧lendL ids cs (first++args++caps)=some args'∧boxesOf ids cs=some bs:=by
 obtain ⟨hg,hr⟩:=Bool.or_eq_false_iff.1 hng
 unfold callA at h
 split at h
 ·rename_i id0 first caps
  have key:id0=id→natIn id0 givers=false∧natIn id0 readers=false:=fun e=>by subst e;exact ⟨hg,hr⟩
  cases h1:natIn id0 givers with
  | true=>
    rw [h1] at h
    simp only at h
    unfold givA at h
    split at h
    ·split at h
     ·split at h
      ·simp only [Option.some.injEq,Prod.mk.injEq] at h
       rw [(key h.1).1] at h1;cases h1
      ·cases h
     ·cases h
    ·cases h
  | false=>
    rw [h1] at h
    simp only at h
    cases h2:natIn id0 readers with
    | true=>
      rw [h2] at h
      simp only at h
      unfold readA at h
      split at h
      ·simp only [Option.some.injEq,Prod.mk.injEq] at h
       rw [(key h.1).2] at h2;cases h2
      ·cases h
    | false=>
      rw [h2] at h
      simp only at h
      split at h
      ·rename_i a0 b0 h3 h4
       simp only [Option.some.injEq,Prod.mk.injEq] at h
       obtain ⟨rfl,rfl,rfl⟩:=h
       exact ⟨first,caps,rfl,h1,h2,h3,h4⟩
      ·cases h
 ·cases h
theorem stepQ_sound {lg wr:Bool} {o:Oper} {x:Ins} {i k:Nat} {G:Bool} {id:FuncId} {a0:List PV} {b0:List SE} {Q:CallRes→Prop} (hk:ops[k]? =some o) (hR:Rel X w0 may a w s γ) (ho:compO P wr ops o=some x)
  (hg:x.g=none) (hcall:x.i.isCall=true) (hat:callAt x s=some (G,id,a0,b0)) (hng:(natIn id givers || natIn id readers)=false) (hsd:stripOK x s) (hQ:PureCallQ P id a0 b0 Q)
  (h:∀c,Q c→∃s',stepX Any lg c i x s=some s'∧∀a' w' γ',Rel X w0 may a' w' s' γ'→K a' w'):wpOp P ops Qx k K a w:=by
 obtain ⟨hgd,hi,hd⟩:=compO_parts ho
 obtain ⟨od,oid,og,oi⟩:=x
 simp only at hg;subst hg
 cases oi with
 | call cf xs=>
   unfold callAt at hat
   simp only [guardV] at hat
   unfold stripOK at hsd
   simp only at hsd
   cases hvs:valL s.fr (I.call cf xs).opr with
   | none=>rw [hvs] at hsd;exact hsd.elim
   | some vs0=>
   rw [hvs] at hsd hat
   simp only at hsd hat
   rcases hss:stripS true vs0 with ⟨sd,vs⟩
   rw [hss] at hat
   simp only at hat
   cases vs with
   | nil=>cases hat
   | cons f0 args=>
   simp only at hat
   cases hcs:getL s.st ((I.call cf xs).acc (f0::args)) with
   | none=>rw [hcs] at hat;cases hat
   | some cs=>
   rw [hcs] at hat
   simp only at hat
   cases hca:callA f0 args ((I.call cf xs).acc (f0::args)) cs with
   | none=>rw [hca] at hat;cases hat
   | some r=>
   obtain ⟨id',args',bs⟩:=r
   rw [hca] at hat
   simp only [norm_someL,snorm_someL,Option.some.injEq,Prod.mk.injEq] at hat
   obtain ⟨_,rfl,rfl,rfl⟩:=hat
   obtain ⟨first,caps,rfl,h1,h2,h3,h4⟩:=callA_norm hca hng
   have e2:(stripS true vs0).2= .fn (.func id') first caps::args:=by rw [hss]
   unfold wpOp
   rw [hk]
   simp only
   rw [guard_none hgd rfl,if_pos rfl]
   refine .inl (Oper.wp_mono ?_ (call_Q (d:=oid) hR hi hvs hsd e2 (by rw [e2];exact hcs) (by rw [e2];exact h3) (by rw [e2];exact h4) hQ))
   rintro a' w' ⟨c,hqc,hcq⟩
   obtain ⟨s',hst1,hK⟩:=h c hqc
   obtain ⟨G2,vs2,cs2,E,H⟩:=stepI_parts (stepX_none rfl rfl hst1)
   obtain ⟨vs3,hv3,hvs3,_⟩:=H.vals
   have hG2:G2=true:=by have:=H.guard;simpa [guardV] using this.symm
   subst hG2
   simp only at hv3
   rw [hvs] at hv3
   injection hv3 with hv3
   subst hv3
   have e3:stripI (.call cf xs) true vs0=stripS true vs0:=rfl
   simp only [e3,hss,Prod.mk.injEq] at hvs3
   obtain ⟨_,rfl⟩:=hvs3
   have hent:=H.ent
   simp only at hent
   rw [hcs] at hent
   injection hent with hent
   subst hent
   have heff:=H.eff
   simp only [eff,eCall,callV,hca,h1,h2] at heff
   split at heff
   ·rename_i hcond
    injection heff with heff
    have hst:=H.st
    rw [←heff] at hst
    obtain ⟨v,γ',rfl,hE⟩:=hcq s'.st hcond hst
    have hE2:EffOK X γ w s.st E v w' γ' s'.st:=by
     rw [←heff]
     exact ⟨hE.val,hE.old,hE.sto,hE.keeps,hE.ownE,hE.box,hE.bld,hE.fix⟩
    refine hK _ _ γ' (hR.after hE2 H.n fun t p hp=> ?_)
    rw [H.fr] at hp
    cases od with
    | none=>
      right
      refine ⟨by rw [←hd];simp, ?_⟩
      simp only [voidF] at hp
      obtain ⟨q,hq,rfl⟩:=Option.map_eq_some_iff.1 hp
      exact ⟨q,hq,rfl⟩
    | some d=>
      simp only at hp
      by_cases htd:t=d
      ·subst htd
       rw [upd_same] at hp;injection hp with hp;subst hp
       exact .inl ⟨by rw [←hd],H.dlt _ rfl,hE2.val⟩
      ·rw [upd_ne _ _ htd] at hp
       right
       refine ⟨by rw [←hd];simpa using fun h=>htd h.symm, ?_⟩
       simp only [voidF] at hp
       obtain ⟨q,hq,rfl⟩:=Option.map_eq_some_iff.1 hp
       exact ⟨q,hq,rfl⟩
   ·cases heff
 | _=>simp [I.isCall] at hcall
def evQ (P:Program) (lg:Bool):Nat→List Ins→PS→(PS→Prop)→Prop
 | _, [],s,K=>s.ok∧K s
 | i,o::r,s,K=>match o.i.isCall&&(lg || !skipJ o s) with
   | true=>match o.g with
     | some _=>match callAt o s with
       | some (G,id,args,bs)=>∃c:CallRes,(G=true→PureCall P id args bs c)∧(match stepX Any lg c i o s with
         | some s'=>evQ P lg (i+1) r s' K
         | none=>False)
       | none=>False
     | none=>match callAt o s with
       | some (_,id,args,bs)=>match natIn id givers || natIn id readers with
         | true=>∃c:CallRes,PureCall P id args bs c∧(match stepX Any lg c i o s with
           | some s'=>evQ P lg (i+1) r s' K
           | none=>False)
         | false=>∃Q:CallRes→Prop,PureCallQ P id args bs Q∧(s.ok∧stripOK o s)∧∀c,Q c→(match stepX Any lg c i o s with
           | some s'=>evQ P lg (i+1) r s' K
           | none=>False)
       | none=>False
   | false=>match stepX Any lg default i o s with
     | some s'=>evQ P lg (i+1) r s' K
     | none=>False
theorem evQ_ok {lg:Bool}:∀{l:List Ins} {i:Nat} {s:PS} {K:PS→Prop},evQ P lg i l s K→s.ok
 | [],i,s,K,h=>h.1
 | x::l,i,s,K,h=>by
   simp only [evQ] at h
   split at h
   ·split at h
    ·split at h
     ·obtain ⟨c,_,h⟩:=h
      split at h
      ·rename_i h1;exact stepX_ok h1 (evQ_ok h)
      ·exact h.elim
     ·exact h.elim
    ·split at h
     ·split at h
      ·obtain ⟨c,_,h⟩:=h
       split at h
       ·rename_i h1;exact stepX_ok h1 (evQ_ok h)
       ·exact h.elim
      ·obtain ⟨_,_,h,_⟩:=h;exact h.1
     ·exact h.elim
   ·split at h
    ·rename_i h1;exact stepX_ok h1 (evQ_ok h)
    ·exact h.elim
theorem evQ_sound {lg wr:Bool} {K0:PS→Prop} (hK:∀a' w' γ' s',K0 s'→s'.ok→Rel X w0 may a' w' s' γ'→Qx .normal a' w'):∀{l:List Ins} {i:Nat} {a:Act} {w:World} {s:PS} {γ:Gh},
  (∀p∈num i l,∃o,ops[p.1]? =some o∧compO P wr ops o=some p.2)→Rel X w0 may a w s γ→evQ P lg i l s K0→wpOps P ops Qx ((num i l).map (·.1)) a w
 | [],i,a,w,s,γ,hl,hR,h=>by
   simpa [num,wpOps] using hK _ _ _ _ h.2 h.1 hR
 | x::l,i,a,w,s,γ,hl,hR,h=>by
   obtain ⟨o,ho,hx⟩:=hl (i,x) (by simp [num])
   have hl2:∀p∈num (i+1) l,∃o,ops[p.1]? =some o∧compO P wr ops o=some p.2:=fun p hp=>hl p (by simp [num,hp])
   simp only [num,List.map_cons]
   rw [wpOps_cons]
   simp only [evQ] at h
   split at h
   ·rename_i hc
    have hc:=(Bool.and_eq_true_iff.1 hc).1
    split at h
    ·split at h
     ·rename_i G id args bs hat
      obtain ⟨c,hp,h⟩:=h
      split at h
      ·rename_i s1 h1
       refine stepX_sound (lg:=lg) (c:=c) ho hR hx (by rw [stepX_call hc hat hp];exact h1) (evQ_ok h) fun a' w' γ' hR'=>evQ_sound hK hl2 hR' h
      ·exact h.elim
     ·exact h.elim
    ·rename_i hg
     split at h
     ·rename_i G id args bs hat
      split at h
      ·obtain ⟨c,hp,h⟩:=h
       split at h
       ·rename_i s1 h1
        refine stepX_sound (lg:=lg) (c:=c) ho hR hx (by rw [stepX_call hc hat (fun _=>hp)];exact h1) (evQ_ok h) fun a' w' γ' hR'=>evQ_sound hK hl2 hR' h
       ·exact h.elim
      ·rename_i hng
       obtain ⟨Q,hQ,⟨_,hsd⟩,h⟩:=h
       refine stepQ_sound (lg:=lg) (i:=i) ho hR hx hg hc hat hng hsd hQ fun c hqc=> ?_
       have h2:=h c hqc
       split at h2
       ·rename_i s1 h1
        exact ⟨s1,h1,fun a' w' γ' hR'=>evQ_sound hK hl2 hR' h2⟩
       ·exact h2.elim
     ·exact h.elim
   ·rename_i hc
    split at h
    ·rename_i s1 h1
     refine stepX_sound (lg:=lg) (c:=default) ho hR hx (by rw [stepX_skip (S':=Any) hc];exact h1) (evQ_ok h) fun a' w' γ' hR'=>evQ_sound hK hl2 hR' h
    ·exact h.elim
theorem LSem.regQ {wr:Bool} {np:Nat} {ins:List Ins} {Q:Lv→PS→Prop} (h:evQ P false 0 ins s (fun s'=>Q .nrm s')):LSem P wr np (.reg ins) Q s:=by
 intro hQ code hc X w0 may a w γ hX hR
 have:∃id ops,code= .region id ops false∧mapO (compO P wr ops) ops.toList=some ins:=by
  cases code with
  | region id ops dr=>
    cases dr with
    | false=>
      simp only [comp,C.er] at hc
      split at hc
      ·rename_i hm
       simp only [Option.some.injEq,C.reg.injEq] at hc
       subst hc
       exact ⟨id,ops,rfl,hm⟩
      ·cases hc
    | true=>simp only [comp,C.er] at hc;(repeat' (split at hc))<;>cases hc
  | _=>simp only [comp,C.er] at hc<;>(repeat' (split at hc))<;>simp_all
 obtain ⟨id,ops,rfl,hm⟩:=this
 refine wp_region ?_
 have hlen:ops.size=ins.length:=by have:=mapO_length hm;simpa using this.symm
 have:=evQ_sound (ops:=ops) (wr:=wr) (Qx:=post X w0 may Q) (X:=X) (w0:=w0) (may:=may) (fun a' w' γ' s' h2 hok hR'=>⟨_,_,_,rfl,h2,hR'⟩) (l:=ins) (i:=0) (fun p hp=>by
  obtain ⟨_,hg⟩:=num_get ins 0 p hp
  have hlt:=(List.getElem?_eq_some_iff.1 hg).1
  have ho:ops[p.1]? =some (ops[p.1]'(by omega)):=Array.getElem?_eq_getElem (by omega)
  obtain ⟨x,hx,hco⟩:=comp_ins hm _ _ ho
  rw [show p.1 - 0=p.1 from rfl,hx] at hg
  injection hg with hg;subst hg
  exact ⟨_,ho,hco⟩) hR h
 rw [num_fst,←hlen,←List.range_eq_range'] at this
 exact this
structure FinQ (rs:List RV) (np:Nat) (Q:CallRes→Prop) (lv:Lv) (s:PS):Prop where
 h:∃c,Q c∧Fin rs np c lv s
theorem pure_callQ {wr:Bool} {f:FuncId} {fn:Func} {cc:C} {args:List PV} {bs:List SE} {Q:CallRes→Prop} {rs:List RV} {n:Nat} (hmix:P.follows .mixedOrders=true)
  (hf:P.funcs[f]? =some fn) (hfits:fits P wr fn args.length n rs=some cc.er) (hbox:okBs bs=true)
  (h:vc (PureCall P) (LSem P wr (nbx bs)) cc (FinQ rs (nbx bs) Q) (St n (argF 0 args) (boxF 0 bs))):PureCallQ P f args bs Q:=by
 have hparts:∃code,fn.body=some code∧mapO (compR P) fn.results.toList=some rs∧args.length+(fn.ntmps - args.length)=n∧(fn.name== "runtime.NumGoroutine")=false∧comp P wr code=some cc.er:=by
  unfold fits at hfits
  split at hfits
  ·rename_i code rs' h1 h2
   split at hfits
   ·rename_i hc
    obtain ⟨rfl,hc2,hc3⟩:=hc
    exact ⟨code,h1,h2,hc2,hc3,hfits⟩
   ·cases hfits
  ·cases hfits
 obtain ⟨code,hb,hres,hn,hnm,hcomp⟩:=hparts
 refine ⟨⟨fn,hf,by rw [hb];rfl,hnm⟩, ?_⟩
 intro w γ aas ls vals hst hX hargs
 refine calls_of_wp hf hb ?_
 have hR:=rel_start (n:=n) hst hX hargs hn hbox
 have hfinOk:∀lv s,FinQ rs (nbx bs) Q lv s→s.ok:=fun lv s ⟨⟨c,_,hs⟩⟩=>by cases lv<;>first | exact hs.1 | exact hs.elim
 refine wp_mono ((vc_sound hmix cc code _ _ hfinOk hcomp h).2 _ _ _ _ _ _ rfl hR) ?_
 rintro e a' w' ⟨lv,s',γ',he,⟨⟨c,hqc,hq⟩⟩,hR'⟩
 have key:Fin rs (nbx bs) c .ret s'→∃v,(results fn a'.tmps).run P w'= .ok v w'∧∃c,Q c∧∃v' γ',Ending.returned v= .returned v'∧Rep ⟨w.heap.size,aas,ls,nbx bs,γ, []⟩ γ' w' c.val v'∧RepSt ⟨w.heap.size,aas,ls,nbx bs,γ, []⟩ γ' w' (resSt c)∧
   Keeps γ.own w w'∧(∀r,r<parN bs c→ParR (γ' r) (γ r) (resSt c r))∧(∀r ge b,γ' r=some ge→ge.has b→w.heap.size≤b∨(nbx bs=0∧γ.own b)∨∃ge0,γ r=some ge0∧ge0.has b):=fun hq=>by
  obtain ⟨v,h1,h2⟩:=res_key hres hR' hq.2
  exact ⟨v,h1,c,hqc,h2⟩
 cases e
 ·cases he;exact ⟨hR'.defers,key hq⟩
 ·obtain ⟨hb,rfl⟩:=lvOf_exit he;exact hq.elim
 ·cases he;exact hq.elim
 ·cases he;exact ⟨hR'.defers,key hq⟩
 ·cases he
 ·cases he
end
open Go.RowKit
section
variable {P:Program} {X:Cx} {γ:Gh} {w w0:World} {may:Nat→Prop} {a:Act} {s s':PS} {ops:Array Oper} {Qx:Exit→Act→World→Prop}
def SQ (P:Program) (Q:CallRes→Prop):FuncId→List PV→List SE→CallRes→Prop:=fun id args bs _=>PureCallQ P id args bs Q∧(natIn id givers || natIn id readers)=false
def noCall:List Ins→Bool
 | []=>true
 | x::r=>match x.i.isCall with
   | true=>false
   | false=>noCall r
theorem call_at {S:FuncId→List PV→List SE→CallRes→Prop} {lg:Bool} {c:CallRes} {i:Nat} {x:Ins} (hc:x.i.isCall=true) (hg:x.g=none) (h:stepI S lg c i x s=some s') (hok:s'.ok):
  ∃id a b,callAt x s=some (true,id,a,b)∧S id a b c∧stripOK x s:=by
 obtain ⟨G,vs,cs,E,H⟩:=stepI_parts h
 obtain ⟨od,oid,og,oi⟩:=x
 simp only at hg;subst hg
 cases oi with
 | call cf xs=>
   have hG:G=true:=by have:=H.guard;simpa [guardV] using this.symm
   subst hG
   obtain ⟨vs0,hv,hvs,hok1⟩:=H.vals
   simp only at hv hvs hok1
   have e3:stripI (.call cf xs) true vs0=stripS true vs0:=rfl
   rw [e3] at hvs hok1
   have hall:=(hok1.1 hok).2.2 (by trivial)
   obtain ⟨ha1,ha2⟩:=(allP_append _ _).1 hall
   have hent:=H.ent
   simp only at hent
   have heff:=H.eff
   simp only [eff] at heff
   cases vs with
   | nil=>simp [eCall] at heff
   | cons f0 args=>
     simp only [eCall,callV] at heff
     cases hca:callA f0 args ((I.call cf xs).acc (f0::args)) cs with
     | none=>rw [hca] at heff;cases heff
     | some r=>
       obtain ⟨id,args',bs⟩:=r
       rw [hca] at heff
       simp only at heff
       have hS:S id args' (bs.map (·.2)) c:=by
        split at heff
        ·unfold givV at heff
         split at heff
         ·split at heff
          ·injection heff with heff;rw [←heff] at ha2;exact ha2.1
          ·cases heff
         ·split at heff
          ·injection heff with heff;rw [←heff] at ha2;exact ha2.1
          ·cases heff
         ·cases heff
        ·split at heff
         ·split at heff
          ·injection heff with heff;rw [←heff] at ha2;exact ha2.1
          ·cases heff
         ·split at heff
          ·injection heff with heff;rw [←heff] at ha2;exact ha2.1
          ·cases heff
       refine ⟨id,args',bs.map (·.2), ?_,hS, ?_⟩
       ·unfold callAt
        simp only [guardV,hv]
        rcases hss:stripS true vs0 with ⟨sd,vs'⟩
        rw [hss] at hvs
        simp only [Prod.mk.injEq] at hvs
        obtain ⟨_,rfl⟩:=hvs
        simp only [hent,hca,norm_someL,snorm_someL]
       ·unfold stripOK
        simp only [hv]
        exact ha1
 | _=>simp [I.isCall] at hc
theorem stepI_any {S S':FuncId→List PV→List SE→CallRes→Prop} {lg:Bool} {c c':CallRes} {i:Nat} {o:Ins} {s:PS} (h:o.i.isCall=false):stepI S lg c i o s=stepI S' lg c' i o s:=by
 have e:∀(d:Nat) (vs:List PV) (ids:List Nat) (cs:List SE),eff S c d o.i vs ids cs=eff S' c' d o.i vs ids cs:=fun d vs ids cs=>by
  revert h
  cases o.i<;>intro h<;>first | rfl | simp [I.isCall] at h
 obtain ⟨n,fr,st,ok,log⟩:=s
 obtain ⟨od,oid,og,oi⟩:=o
 unfold stepI
 simp only [e]
def evD (P:Program):Nat→List Ins→PS→(PS→Prop)→Prop
 | _, [],s,K=>s.ok∧K s
 | i,o::r,s,K=>match o.i.isCall with
   | true=>match o.g with
     | some _=>False
     | none=>match callAt o s with
       | some (_,id,args,bs)=>match natIn id givers || natIn id readers with
         | true=>False
         | false=>∃Q:CallRes→Prop,PureCallQ P id args bs Q∧(∃c,Q c)∧noCall r=true∧∀c,Q c→(match stepX Any true c i o s with
           | some s'=>evD P (i+1) r s' K
           | none=>False)
       | none=>False
   | false=>match stepX Any true default i o s with
     | some s'=>evD P (i+1) r s' K
     | none=>False
theorem noCall_mem:∀{l:List Ins},noCall l=true→∀x∈l,x.i.isCall=false
 | y::l,h,x,hx=>by
   unfold noCall at h
   split at h
   ·cases h
   ·rename_i hy
    rcases List.mem_cons.1 hx with rfl | hx
    ·exact hy
    ·exact noCall_mem h x hx
theorem evD_no {S:FuncId→List PV→List SE→CallRes→Prop} {cr:Nat→CallRes}:∀{l:List Ins} {i:Nat} {s:PS} {K:PS→Prop},noCall l=true→evD P i l s K→∃s',evL S true cr (num i l) s=some s'∧s'.ok∧K s'
 | [],i,s,K,hn,h=>⟨s,rfl,h.1,h.2⟩
 | x::l,i,s,K,hn,h=>by
   have hx:=noCall_mem hn x (by simp)
   have hl:noCall l=true:=by
    unfold noCall at hn
    rw [hx] at hn;exact hn
   unfold evD at h
   rw [hx] at h
   simp only at h
   split at h
   ·rename_i s1 h1
    obtain ⟨s',h2,h3⟩:=evD_no (S:=S) (cr:=cr) hl h
    refine ⟨s', ?_,h3⟩
    simp only [num,evL]
    simp only [stepX] at h1⊢
    rw [stepI_any (S':=Any) (c':=default) hx,h1]
    exact h2
   ·exact h.elim
theorem evD_evL:∀{l:List Ins} {i:Nat} {s:PS} {K:PS→Prop},evD P i l s K→
  ∃(Q:CallRes→Prop) (j:Nat),(∃c,Q c)∧(∀p∈num i l,p.2.i.isCall=true→p.1=j∧p.2.g=none)∧∀c,Q c→∃s',evL (SQ P Q) true (fun _=>c) (num i l) s=some s'∧s'.ok∧K s'
 | [],i,s,K,h=>⟨fun _=>True,0,⟨default,trivial⟩,fun p hp=>by simp [num] at hp,fun c _=>⟨s,rfl,h.1,h.2⟩⟩
 | x::l,i,s,K,h=>by
   unfold evD at h
   split at h
   ·rename_i hx
    split at h
    ·exact h.elim
    ·rename_i hg
     split at h
     ·rename_i G id args bs hat
      split at h
      ·exact h.elim
      ·rename_i hng
       obtain ⟨Q,hQ,hne,hn,h⟩:=h
       refine ⟨Q,i,hne,fun p hp hpc=> ?_,fun c hc=> ?_⟩
       ·simp only [num,List.mem_cons] at hp
        rcases hp with rfl | hp
        ·exact ⟨rfl,hg⟩
        ·obtain ⟨_,h2⟩:=num_get l (i+1) p hp
         rw [noCall_mem hn p.2 (List.mem_of_getElem? h2)] at hpc;cases hpc
       ·have h2:=h c hc
        split at h2
        ·rename_i s1 h1
         obtain ⟨s',h3,h4⟩:=evD_no (S:=SQ P Q) (cr:=fun _=>c) hn h2
         refine ⟨s', ?_,h4⟩
         simp only [num,evL]
         simp only [stepX] at h1⊢
         rw [stepI_call (S:=SQ P Q) hx hat (fun _=>⟨hQ,hng⟩),h1]
         exact h3
        ·exact h2.elim
     ·exact h.elim
   ·rename_i hx
    split at h
    ·rename_i s1 h1
     obtain ⟨Q,j,hne,hj,hc⟩:=evD_evL h
     refine ⟨Q,j,hne,fun p hp hpc=> ?_,fun c hqc=> ?_⟩
     ·simp only [num,List.mem_cons] at hp
      rcases hp with rfl | hp
      ·simp only at hpc;rw [hx] at hpc;cases hpc
      ·exact hj p hp hpc
     ·obtain ⟨s',h3,h4⟩:=hc c hqc
      refine ⟨s', ?_,h4⟩
      simp only [num,evL]
      simp only [stepX] at h1⊢
      rw [stepI_any (S':=Any) (c':=default) hx,h1]
      exact h3
    ·exact h.elim
theorem any_soundQ {wr:Bool} {Q:CallRes→Prop} {j:Nat} {ins:List Ins} {ps:List (Nat×Nat×Nat)} (hcomp:∀(k:Nat) (o:Oper),ops[k]? =some o→∃x,ins[k]? =some x∧compO P wr ops o=some x)
  (hps:pairs (Region.before ops) ins=some ps) (hed:∀(k:Nat) (o:Oper),ops[k]? =some o→∀e∈o.after,Region.binds .any e=true→e.on<k)
  (hcall:∀k x,ins[k]? =some x→x.i.isCall=true→k=j∧x.g=none):
  ∀(fuel:Nat) (l:List (Nat×Ins)) (listed:Array Bool) (D:CallRes→Prop) (a:Act) (w:World) (s:PS) (γ:Gh),l.length≤fuel→Left ops listed l→(∀p∈l,ins[p.1]? =some p.2)→
  (∃c,D c)→(j∈l.map (·.1)→∀c,Q c→D c)→Rel X w0 may a w s γ→
  (∀c,D c→∃s',evL (SQ P Q) true (fun _=>c) l s=some s'∧s'.ok∧apartOk s'.log ps=true∧∀a' w' s'' γ',Sim s' s''→Rel X w0 may a' w' s'' γ'→Qx .normal a' w')→wpAny P .any ops Qx fuel listed a w:=by
 have first:∀{l:List (Nat×Ins)} {listed:Array Bool},Left ops listed l→Region.ready .any ops listed= []→l= []:=by
  intro l listed hL hr
  cases l with
  | nil=>rfl
  | cons p l=>
    exfalso
    have hm:=(hL.mem p.1).1 (by simp)
    have:p.1∈Region.ready .any ops listed:=by
     refine mem_ready.2 ⟨hm.2,ops[p.1],Array.getElem?_eq_getElem hm.1,fun e he hb=> ?_⟩
     have hlt:=hed p.1 _ (Array.getElem?_eq_getElem hm.1) e he hb
     have hni:e.on∉(p::l).map (·.1):=fun hme=>by
      simp only [List.map_cons,List.mem_cons] at hme
      rcases hme with hme | hme
      ·omega
      ·have:=hL.sorted
       simp only [List.map_cons,List.pairwise_cons] at this
       have:=this.1 _ hme
       omega
     have hlt2:e.on<listed.size:=by rw [hL.size];omega
     have:=mt (hL.mem e.on).2 hni
     simp only [Array.getD_eq_getD_getElem?,hlt2,Array.getElem?_eq_getElem,Option.getD_some] at this⊢
     cases hh:listed[e.on] with
     | true=>rfl
     | false=>exact absurd ⟨by omega,hh⟩ this
    rw [hr] at this;simp at this
 intro fuel
 induction fuel with
 | zero=>
   intro l listed D a w s γ hle hL hin hD hDQ hR H
   have:l= []:=List.eq_nil_of_length_eq_zero (Nat.le_zero.1 hle)
   subst this
   obtain ⟨c,hc⟩:=hD
   obtain ⟨s',hev,hok,hap,hK⟩:=H c hc
   simp only [evL,Option.some.injEq] at hev;subst hev
   refine ⟨?_,hK _ _ _ _ (Sim.refl _) hR⟩
   cases hr:Region.ready .any ops listed with
   | nil=>rfl
   | cons j _=>
     exfalso
     have hj:j∈Region.ready .any ops listed:=by rw [hr];simp
     obtain ⟨h1,o,h2,_⟩:=mem_ready.1 hj
     have:=(hL.mem j).2 ⟨(Array.getElem?_eq_some_iff.1 h2).1,h1⟩
     simp at this
 | succ fuel ih=>
   intro l listed D a w s γ hle hL hin hD hDQ hR H
   refine ⟨fun hr=> ?_,fun i hi=> ?_⟩
   ·have:=first hL hr
    subst this
    obtain ⟨c,hc⟩:=hD
    obtain ⟨s',hev,hok,hap,hK⟩:=H c hc
    simp only [evL,Option.some.injEq] at hev;subst hev
    exact hK _ _ _ _ (Sim.refl _) hR
   ·obtain ⟨h1,o,h2,h3⟩:=mem_ready.1 hi
    have hisz:=(Array.getElem?_eq_some_iff.1 h2).1
    have hil:=(hL.mem i).2 ⟨hisz,h1⟩
    obtain ⟨⟨i',x⟩,hq,hqi⟩:=List.mem_map.1 hil
    simp only at hqi;subst hqi
    obtain ⟨l1,l2,rfl⟩:=List.append_of_mem hq
    have hnd:((l1++(i',x)::l2).map (·.1)).Nodup:=hL.sorted.imp Nat.ne_of_lt
    have hx:=hin (i',x) (by simp)
    simp only at hx
    obtain ⟨x',hx',hco⟩:=hcomp i' o h2
    rw [hx] at hx';injection hx' with hx';subst hx'
    have hsub:∀k,k∈(l1++l2).map (·.1)↔k∈(l1++(i',x)::l2).map (·.1)∧k≠i':=fun k=>by
     have:=hnd
     simp only [List.map_append,List.map_cons] at this
     rw [List.nodup_append] at this
     obtain ⟨_,g5,g6⟩:=this
     simp only [List.nodup_cons] at g5
     simp only [List.map_append,List.map_cons,List.mem_append,List.mem_cons]
     constructor
     ·rintro (h | h)
      ·exact ⟨.inl h,fun e=>g6 k h i' (by simp) e⟩
      ·exact ⟨.inr (.inr h),fun e=>g5.1 (e▸h)⟩
     ·rintro ⟨h | h | h,hne⟩
      ·exact .inl h
      ·exact absurd h hne
      ·exact .inr h
    have hbef:∀k,k∈(l1++(i',x)::l2).map (·.1)→bit (Region.before ops) k i'=false:=fun k hk=>by
     cases hb:bit (Region.before ops) k i' with
     | false=>rfl
     | true=>
       exfalso
       obtain ⟨e,he,heb,hor⟩:=before_bit h2 (hed i' o h2) hb
       have hlt:=hed i' o h2 e he heb
       have hlist:=h3 e he heb
       have hnot:e.on∉(l1++(i',x)::l2).map (·.1):=fun hm=>by
        have:=((hL.mem _).1 hm).2
        have hlt2:e.on<listed.size:=by rw [hL.size];omega
        simp only [Array.getD_eq_getD_getElem?,hlt2,Array.getElem?_eq_getElem,Option.getD_some] at this hlist
        rw [this] at hlist;cases hlist
       rcases hor with rfl | hor
       ·exact hnot hk
       ·exact hL.down e.on (by omega) hnot k hor hk
    have hApart:∀log,apartOk log ps=true→∀p∈l1,Apart log p (i',x):=fun log hap p hp=>by
     have hpl:p∈l1++(i',x)::l2:=by simp [hp]
     have hlt:p.1<i':=by
      have:=hL.sorted
      simp only [List.map_append,List.map_cons] at this
      exact (List.pairwise_append.1 this).2.2 _ (List.mem_map.2 ⟨p,hp,rfl⟩) _ (by simp)
     have hpsz:=((hL.mem p.1).1 (List.mem_map.2 ⟨p,hpl,rfl⟩)).1
     obtain ⟨xp,hxp,hcp⟩:=hcomp p.1 _ (Array.getElem?_eq_getElem hpsz)
     rw [hin p hpl] at hxp;injection hxp with hxp;subst hxp
     obtain ⟨g1,g2⟩:=pairs_mem hps (hin p hpl) hx hlt (hbef p.1 (List.mem_map.2 ⟨p,hpl,rfl⟩))
     refine ⟨Nat.ne_of_lt hlt, ?_,g1,apartOk_mem hap _ _ _ g2⟩
     unfold compO at hcp
     split at hcp
     ·injection hcp with hcp;rw [←hcp]
     ·cases hcp

    have hfront:∀c,D c→∃s1 s'',stepI (SQ P Q) true c i' x s=some s1∧s1.ok∧evL (SQ P Q) true (fun _=>c) (l1++l2) s1=some s''∧s''.ok∧apartOk s''.log ps=true∧
      ∀a' w' s3 γ',Sim s'' s3→Rel X w0 may a' w' s3 γ'→Qx .normal a' w':=fun c hc=>by
     obtain ⟨s',hev,hok,hap,hK⟩:=H c hc
     obtain ⟨s'',hev',hS⟩:=bubble hev hnd (hApart _ hap)
     simp only [evL,stepX] at hev'
     split at hev'
     ·rename_i s1 hs1
      have hok'':=hS.ok.1 hok
      exact ⟨s1,s'',hs1,evL_ok hev' hok'',hev',hok'',by rw [←hS.log];exact hap,fun a' w' s3 γ' h4 h5=>hK a' w' s3 γ' (hS.trans h4) h5⟩
     ·cases hev'
    have hL':Left ops (listed.setIfInBounds i' true) (l1++l2):=by
     refine ⟨by simp [hL.size],fun k=> ?_, ?_,fun k hk hnk j hb hj=> ?_⟩
     ·rw [hsub,hL.mem]
      by_cases hki:k=i'
      ·subst hki
       have:k<listed.size:=by rw [hL.size];exact hisz
       simp [this]
      ·rw [getD_set_ne true (Ne.symm hki)]
       simp [hki]
     ·have:=hL.sorted
      simp only [List.map_append,List.map_cons] at this⊢
      obtain ⟨g1,g2,g3⟩:=List.pairwise_append.1 this
      exact List.pairwise_append.2 ⟨g1,(List.pairwise_cons.1 g2).2,fun a ha b hb=>g3 a ha b (by simp [hb])⟩
     ·have hjl:=((hsub j).1 hj).1
      by_cases hki:k=i'
      ·subst hki
       rw [hbef j hjl] at hb;cases hb
      ·exact hL.down k hk (fun hm=>hnk ((hsub k).2 ⟨hm,hki⟩)) j hb hjl
    have hin':∀p∈l1++l2,ins[p.1]? =some p.2:=by
     intro p hp
     refine hin p ?_
     simp only [List.mem_append,List.mem_cons] at hp⊢
     rcases hp with hp | hp
     ·exact .inl hp
     ·exact .inr (.inr hp)
    have hle':(l1++l2).length≤fuel:=by simp only [List.length_append,List.length_cons] at hle⊢;omega
    cases hcx:x.i.isCall with
    | false=>
      obtain ⟨c0,hc0⟩:=hD
      obtain ⟨s1,_,hs1,hok1,_⟩:=hfront c0 hc0
      have hs1':stepI (PureCall P) true c0 i' x s=some s1:=by rw [stepI_any (S':=SQ P Q) (c':=c0) hcx];exact hs1
      refine step_sound h2 hR hco hs1' hok1 fun a' w' γ' hR'=> ?_
      refine ih (l1++l2) _ D a' w' s1 γ' hle' hL' hin' ⟨c0,hc0⟩ (fun hj=>hDQ ((hsub j).1 hj).1) hR' fun c hc=> ?_
      obtain ⟨s2,s'',g1,_,g2,g3,g4,g5⟩:=hfront c hc
      rw [stepI_any (S':=SQ P Q) (c':=c0) hcx,hs1] at g1
      injection g1 with g1;subst g1
      exact ⟨s'',g2,g3,g4,g5⟩
    | true=>
      obtain ⟨hj,hg⟩:=hcall i' x hx hcx
      subst hj
      have hDQ':=hDQ (List.mem_map.2 ⟨(i',x),by simp,rfl⟩)
      obtain ⟨c0,hc0⟩:=hD
      obtain ⟨s1,_,hs1,hok1,_⟩:=hfront c0 hc0
      obtain ⟨id,b0,d0,hat,⟨hQ,hng⟩,hsd⟩:=call_at hcx hg hs1 hok1
      refine stepQ_sound (lg:=true) (i:=i') h2 hR hco hg hcx hat hng hsd hQ fun c hqc=> ?_
      obtain ⟨s2,s'',g1,_,g2,g3,g4,g5⟩:=hfront c (hDQ' c hqc)
      refine ⟨s2, ?_,fun a' w' γ' hR'=> ?_⟩
      ·simp only [stepX]
       rw [←stepI_call (S:=SQ P Q) hcx hat (fun _=>⟨hQ,hng⟩)];exact g1
      ·refine ih (l1++l2) _ (fun c'=>c'=c) a' w' s2 γ' hle' hL' hin' ⟨c,rfl⟩ (fun hj=>absurd rfl ((hsub i').1 hj).2) hR' fun c' hc'=> ?_
       subst hc'
       exact ⟨s'',g2,g3,g4,g5⟩
theorem LSem.drwQ {wr:Bool} {np:Nat} (hmix:P.follows .mixedOrders=true) {ins:List Ins} {ps:List (Nat×Nat×Nat)} {Q:Lv→PS→Prop} {n:Nat} {fr:Nat→Option PV} {st:Nat→Option SE} {ok:Prop} {log:Nat→Option LogE}
  (h:evD P 0 ins ⟨n,fr,st,ok,fun _=>none⟩ (fun s'=>match s' with
   | ⟨n',fr',st',ok',log'⟩=>apartOk log' ps=true∧Q .nrm ⟨n',fr',st',ok',fun _=>none⟩)):LSem P wr np (.drw ins ps) Q ⟨n,fr,st,ok,log⟩:=by
 intro hQ code hc X w0 may a w γ hX hR
 obtain ⟨Qc,j,hne,hcall,hev⟩:=evD_evL h
 have:∃id ops,code= .region id ops true∧mapO (compO P wr ops) ops.toList=some ins∧pairs (Region.before ops) ins=some ps∧edgesOk ops.toList=true:=by
  cases code with
  | region id ops dr=>
    cases dr with
    | false=>simp only [comp,C.er] at hc;split at hc<;>cases hc
    | true=>
      simp only [comp,C.er] at hc
      split at hc
      ·rename_i ins' hm
       split at hc
       ·rename_i ps' hp
        split at hc
        ·rename_i he
         simp only [Option.some.injEq,C.drw.injEq] at hc
         obtain ⟨rfl,rfl⟩:=hc
         exact ⟨id,ops,rfl,hm,hp,he⟩
        ·cases hc
       ·cases hc
      ·cases hc
  | _=>simp only [comp,C.er] at hc<;>(repeat' (split at hc))<;>simp_all
 obtain ⟨id,ops,rfl,hm,hp,he⟩:=this
 have hlen:ops.size=ins.length:=by have:=mapO_length hm;simpa using this.symm
 have hnum:∀p∈num 0 ins,ins[p.1]? =some p.2:=fun p hp=>by
  have:=(num_get ins 0 p hp).2
  simpa using this
 refine wp_region_any hmix ?_
 refine any_soundQ (Q:=Qc) (j:=j) (wr:=wr) (fun k o hk=>comp_ins hm k o hk) hp (fun k o hk e hem heb=> ?_) (fun k x hk hx=> ?_) ops.size (num 0 ins) _ Qc a _ _ γ ?_ ?_ hnum hne (fun _ c hc=>hc) (hR.drew.same (s':=⟨n,fr,st,ok,fun _=>none⟩) rfl rfl rfl) fun c hc=> ?_
 ·have h3:=List.all_eq_true.1 he (o,k) (List.mk_mem_zipIdx_iff_getElem?.2 (by simpa using hk))
  have h4:=Array.all_eq_true_iff_forall_mem.1 h3 e hem
  simp only [heb,Bool.not_true,Bool.false_or,decide_eq_true_eq] at h4
  exact h4
 ·have hm1:k∈(num 0 ins).map (·.1):=by
    rw [num_fst,←List.range_eq_range',List.mem_range]
    exact (List.getElem?_eq_some_iff.1 hk).1
  obtain ⟨p,hp1,hp2⟩:=List.mem_map.1 hm1
  have h5:=hnum p hp1
  rw [hp2,hk] at h5
  injection h5 with h5
  have h6:=hcall p hp1 (by rw [←h5];exact hx)
  rw [hp2,←h5] at h6
  exact h6
 ·have:=congrArg List.length (num_fst ins 0)
  simp only [List.length_map,List.length_range'] at this
  omega
 ·refine ⟨by simp,fun k=> ?_, ?_,fun k hk hnk=> ?_⟩
  ·rw [num_fst,←hlen,←List.range_eq_range',List.mem_range]
   constructor
   ·intro h;exact ⟨h,by simp [h]⟩
   ·rintro ⟨h,_⟩;exact h
  ·rw [num_fst,←List.range_eq_range'];exact List.pairwise_lt_range
  ·rw [num_fst,←hlen,←List.range_eq_range',List.mem_range] at hnk;exact absurd hk hnk
 ·obtain ⟨s',h1,hok,hK⟩:=hev c hc
  obtain ⟨n',fr',st',ok',log'⟩:=s'
  simp only at hK
  obtain ⟨hap,h2⟩:=hK
  refine ⟨_,h1,hok,hap,fun a' w' s'' γ' hS hR'=> ?_⟩
  have e1:s''.ok=ok':=propext hS.ok.symm
  obtain ⟨n2,fr2,st2,ok2,log2⟩:=s''
  have a1:=hS.n;have a2:=hS.fr;have a3:=hS.st
  simp only at e1 a1 a2 a3
  subst e1 a1 a2 a3
  exact ⟨_,_,_,rfl,h2,hR'.same rfl rfl rfl⟩
end
def QI (c:CallRes):Prop:=∃n:Int,c=⟨.int .i64 n, [], []⟩
def QB (c:CallRes):Prop:=∃b:Bool,c=⟨.bool b, [], []⟩
theorem retQ {rs:List RV} {np:Nat} {Q:CallRes→Prop} {s:PS} (c:CallRes) (hq:Q c) (h:Fin rs np c .ret s:=by
 conv=>whnf
 exact ret):FinQ rs np Q .ret s:=⟨⟨c,hq,h⟩⟩
theorem g2 {P:Prop} (h:P:=by
 (try conv=>whnf)
 (try simp only [bp,beq_true,beq_false,beq_self_eq_true,imp_self,implies_true])
 all_goals ((repeat' (first | exact True.intro | exact fun _ h=>h | refine inR64_of ?_ ?_ | apply And.intro | refine maxLen_ge ?_ | intro _))<;>(first | assumption | omega | (dsimp only;omega) | (simp at *;omega)))):P:=h
theorem g3 {P:Prop} (h:P:=by first | exact g0 | exact g2 | (conv=>whnf;simp;done)):P:=h
def c63:C:=(sr [kk 4 (.mv (.c (.bool false)))] (sr [km 5 0,kk 6 (.bi false .geq 5 (cn 0)),km 7 6,kg 8 7 true (.mv 0),kg 9 7 true (.mv 1),kg 10 7 true (.bi false .leq 8 9),kk 11 (.pick 7 10 (.c (.bool false))),km 4 11] .ret))
theorem fits63:fits Tryz.prog false Tryz.f63 2 12 [(4,none)]=some c63.er:=by kernel_rfl
def c98:C:=(sr [kk 2 (.mv (.c (.bool false)))] (sr [km 3 0,kk 4 (cl 77 [3,(cn 364)]),km 2 4] .ret))
theorem fits98:fits Tryz.prog false Tryz.f98 1 5 [(2,none)]=some c98.er:=by kernel_rfl
def c95:C:=(sr [kk 1 (.bx 2 0),kk 2 (.mv (.c (.bool false)))] (sr [kk 3 (.fa 0 1),kk 4 (.ld 1 false 3),kk 5 (cl 98 [4]),km 6 5,kg 7 6 true (.fa 1 1),kg 8 6 true (.ld 1 false 7),kg 9 6 true (cl 98 [8]),kk 10 (.pick 6 9 (.c (.bool false))),km 2 10] .ret))
theorem fits95:fits Tryz.prog false Tryz.f95 1 11 [(2,none)]=some c95.er:=by kernel_rfl
def c125:C:=(sr [kk 2 (.bx 2 0),kk 4 (.mv (.c (.bool false)))] (.seq (sr [kk 5 (.ld 2 true 2),kk 6 (cl 95 [5]),kk 7 (.un false .not 6),km 8 7,kg 9 8 false (.mv 1),kg 10 8 false (cl 98 [9]),kg 11 8 false (.un false .not 10),kk 12 (.pick 8 (.c (.bool true)) 11)] (.cond 12 (sr [kk 4 (.mv (.c (.bool false)))] .ret) .skip)) (.seq (sr [kk 13 (.fa 0 2),kk 14 (.ld 1 false 13),kk 15 (.fa 1 2),kk 16 (.ld 1 false 15),kk 17 (.bi false .leq 14 16)] (.cond 17 (sr [km 18 1,kk 19 (.fa 0 2),kk 20 (.ld 1 false 19),kk 21 (.bi false .geq 18 20),km 22 21,kg 23 22 true (.mv 1),kg 24 22 true (.fa 1 2),kg 25 22 true (.ld 1 false 24),kg 26 22 true (.bi false .leq 23 25),kk 27 (.pick 22 26 (.c (.bool false))),km 4 27] .ret) .skip)) (sr [km 28 1,kk 29 (.fa 0 2),kk 30 (.ld 1 false 29),kk 31 (.bi false .geq 28 30),km 32 31,kg 33 32 false (.mv 1),kg 34 32 false (.fa 1 2),kg 35 32 false (.ld 1 false 34),kg 36 32 false (.bi false .leq 33 35),kk 37 (.pick 32 (.c (.bool true)) 36),km 4 37] .ret))))
theorem fits125:fits Tryz.prog false Tryz.f125 2 38 [(4,none)]=some c125.er:=by kernel_rfl
def c66:C:=(sr [kk 1 (.bx 7 0),kk 2 (.mv (cn 0))] (.seq (sr [kk 3 (.fa 0 1),kk 4 (.ld 1 false 3),kk 5 (.bi false .lss 4 (cn 1)),km 6 5,kg 7 6 false (.fa 0 1),kg 8 6 false (.ld 1 false 7),kg 9 6 false (.bi false .gtr 8 (cn 9)),kk 10 (.pick 6 (.c (.bool true)) 9)] (.cond 10 (sr [kk 2 (.mv (cn 1))] .ret) .skip)) (.seq (sr [kk 11 (.fa 1 1),kk 12 (.ld 1 false 11),kk 13 (.bi false .lss 12 (cn 1)),km 14 13,kg 15 14 false (.fa 1 1),kg 16 14 false (.ld 1 false 15),kg 17 14 false (.bi false .gtr 16 (cn 4)),kk 18 (.pick 14 (.c (.bool true)) 17)] (.cond 18 (sr [kk 2 (.mv (cn 5))] .ret) .skip)) (.seq (sr [kk 19 (.fa 2 1),kk 20 (.ld 1 false 19),kk 21 (cl 77 [20,(cn 1073741824)]),kk 22 (.un false .not 21),km 23 22,kg 24 23 false (.fa 3 1),kg 25 23 false (.ld 2 true 24),kg 26 23 false (cl 95 [25]),kg 27 23 false (.un false .not 26),kk 28 (.pick 23 (.c (.bool true)) 27),km 29 28,kg 30 29 false (.fa 5 1),kg 31 29 false (.ld 1 false 30),kg 32 29 false (cl 77 [31,(cn 16777216)]),kg 33 29 false (.un false .not 32),kk 34 (.pick 29 (.c (.bool true)) 33),km 35 34,kg 36 35 false (.fa 6 1),kg 37 35 false (.ld 1 false 36),kg 38 35 false (cl 77 [37,(cn 16777216)]),kg 39 35 false (.un false .not 38),kk 40 (.pick 35 (.c (.bool true)) 39),km 41 40,kg 42 41 false (.fa 5 1),kg 43 41 false (.ld 1 false 42),kg 44 41 false (.fa 6 1),kg 45 41 false (.ld 1 false 44),kg 46 41 false (.bi false .gtr 43 45),kk 47 (.pick 41 (.c (.bool true)) 46)] (.cond 47 (sr [kk 2 (.mv (cn 1))] .ret) .skip)) (sr [kk 2 (.mv (cn 0))] .ret)))))
theorem fits66:fits Tryz.prog false Tryz.f66 1 48 [(2,none)]=some c66.er:=by kernel_rfl
def c73:C:=(sr [kk 2 (.bx 2 0),kk 3 (.bx 2 1),kk 4 (.al [(.int .i64 0),(.int .i64 0)]),kk 5 (.mv (.c (.bool false)))] (sr [kk 7 (.fa 0 2),kk 8 (.ld 1 false 7),kk 9 (.fa 0 3),kk 10 (.ld 1 false 9),kk 11 (.mx [8,10]),kk 12 (.fa 1 2),kk 13 (.ld 1 false 12),kk 14 (.fa 1 3),kk 15 (.ld 1 false 14),kk 16 (.mn [13,15]),kk 17 (.bd [(.int .i64 0),(.int .i64 0)] [(0,1,11),(1,1,16)]),kk 6 (.al [(.int .i64 0),(.int .i64 0)]),kz (.st 2 6 17)] (.seq (sr [kk 18 (.fa 0 2),kk 19 (.ld 1 false 18),kk 20 (.fa 1 2),kk 21 (.ld 1 false 20),kk 22 (.bi false .gtr 19 21),km 23 22,kg 24 23 false (.fa 0 3),kg 25 23 false (.ld 1 false 24),kg 26 23 false (.fa 1 3),kg 27 23 false (.ld 1 false 26),kg 28 23 false (.bi false .gtr 25 27),kk 29 (.pick 23 (.c (.bool true)) 28),km 30 29,kg 31 30 false (.fa 0 6),kg 32 30 false (.ld 1 false 31),kg 33 30 false (.fa 1 6),kg 34 30 false (.ld 1 false 33),kg 35 30 false (.bi false .gtr 32 34),kk 36 (.pick 30 (.c (.bool true)) 35)] (.cond 36 (sr [kk 37 (.bd [(.int .i64 0),(.int .i64 0)] []),kz (.st 2 4 37),kk 5 (.mv (.c (.bool false)))] .ret) .skip)) (sr [kk 38 (.ld 2 true 6),kz (.st 2 4 38),kk 5 (.mv (.c (.bool true)))] .ret))))
theorem fits73:fits Tryz.prog false Tryz.f73 2 39 [(4,some (2,true)),(5,none)]=some c73.er:=by kernel_rfl
def c74:C:=(sr [kk 3 (.bx 2 1),kk 4 (.mv (cn 0))] (.seq (sr [kk 5 (.fa 0 3),kk 6 (.ld 1 false 5),kk 7 (.fa 1 3),kk 8 (.ld 1 false 7),kk 9 (.bi false .gtr 6 8)] (.cond 9 (sr [kk 10 (.fa 0 3),kk 11 (.ld 1 false 10),km 4 11] .ret) .skip)) (sr [kk 12 (.fa 0 3),kk 13 (.ld 1 false 12),km 14 0,kk 15 (.fa 1 3),kk 16 (.ld 1 false 15),kk 17 (.mn [14,16]),kk 18 (.mx [13,17]),km 4 18] .ret)))
theorem fits74:fits Tryz.prog false Tryz.f74 2 19 [(4,none)]=some c74.er:=by kernel_rfl
def c45L1:C:=(sr [kk 10 (.bi false .lss 9 8)] (.seq (.cond 10 .skip (.exit 0)) (.seq (.block 1 (sr [kk 11 (.ia 1 7 9),kk 12 (.ld 1 false 11),km 6 12] (sr [km 13 6,km 14 1,kk 15 (cl 63 [13,14]),kk 16 (.un false .not 15)] (.cond 16 (sr [kk 4 (.mv (.c (.bool false)))] .ret) .skip)))) (.reg [kk 17 (.bi false .add 9 (cn 1)),km 9 17]))))
def c45:C:=(sr [kk 4 (.mv (.c (.bool false)))] (.seq (sr [km 7 0,kk 8 (.len 7),kk 9 (.mv (cn 0))] (.block 0 (.loop c45L1))) (sr [kk 4 (.mv (.c (.bool true)))] .ret)))
theorem fits45:fits Tryz.prog false Tryz.f45 2 18 [(4,none)]=some c45.er:=by kernel_rfl
def c67:C:=(sr [kk 2 (.mv (cn 0)),kk 3 (.mv (cn 0)),kk 4 (.mv (cn 0)),kk 5 (.mv (cn 0))] (.seq (sr [km 7 0,kk 8 (cl 77 [7,(cn 16777216)]),kk 9 (.un true .not 8)] (.cond 9 (sr [kk 2 (.mv (cn 0)),kk 3 (.mv (cn 0)),kk 4 (.mv (cn 0)),kk 5 (.mv (cn 6))] .ret) .skip)) (sr [km 10 0,kk 11 (.bi true .quo 10 (cn 96)),km 6 11] (sr [km 12 6,kk 13 (.bi true .quo 12 (cn 365)),km 14 6,kk 15 (.bi true .rem 14 (cn 365)),km 16 0,kk 17 (.bi true .rem 16 (cn 96)),km 2 13,km 3 15,km 4 17,kk 5 (.mv (cn 0))] .ret))))
theorem fits67:fits Tryz.prog true Tryz.f67 1 18 [(2,none),(3,none),(4,none),(5,none)]=some c67.er:=by kernel_rfl
def c72:C:=(sr [kk 2 (.bx 7 0),kk 4 (.al [(.int .i64 0),(.int .i64 0)]),kk 5 (.mv (.c (.bool false)))] (.seq (.seq (.cut (.reg [kk 7 (.ld 7 true 2),kk 8 (cl 66 [7]),kk 9 (.bi true .neq 8 (cn 0)),km 10 9,kg 11 10 false (.mv 1),kg 12 10 false (cl 77 [11,(cn 1073741824)]),kg 13 10 false (.un true .not 12),kk 14 (.pick 10 (.c (.bool true)) 13)])) (.cond 14 (sr [kk 15 (.bd [(.int .i64 0),(.int .i64 0)] []),kz (.st 2 4 15),kk 5 (.mv (.c (.bool false)))] .ret) .skip)) (sr [kk 16 (.bd [(.int .i64 0),(.int .i64 0)] [(1,1,(cn 1073741824))]),kk 6 (.al [(.int .i64 0),(.int .i64 0)]),kz (.st 2 6 16)] (.seq (sr [kk 17 (.fa 1 2),kk 18 (.ld 1 false 17)] (.block 0 (sr [kk 20 (.bi true .eql 18 (cn 1)),km 19 20] (.cond 19 (.reg [kk 21 (.fa 2 2),kk 22 (.ld 1 false 21),kk 23 (.fa 0 6),kz (.st 1 23 22)]) (sr [kk 25 (.bi true .eql 18 (cn 2)),km 24 25] (.cond 24 (.reg [kk 26 (.fa 2 2),kk 27 (.ld 1 false 26),kk 28 (.fa 1 6),kz (.st 1 28 27)]) (sr [kk 30 (.bi true .eql 18 (cn 3)),km 29 30] (.cond 29 (.reg [km 31 1,kk 32 (.fa 2 2),kk 33 (.ld 1 false 32),kk 34 (.bi true .add 31 33),kk 35 (.mn [(cn 1073741824),34]),kk 36 (.fa 1 6),kz (.st 1 36 35)]) (sr [kk 38 (.bi true .eql 18 (cn 4)),km 37 38] (.cond 37 (.reg [km 39 1,kk 40 (.fa 2 2),kk 41 (.ld 1 false 40),kk 42 (.bi true .sub 39 41),kk 43 (.mx [(cn 0),42]),kk 44 (.fa 0 6),kz (.st 1 44 43)]) .skip)))))))))) (sr [kk 45 (.ld 2 true 6),kz (.st 2 4 45),kk 5 (.mv (.c (.bool true)))] .ret)))))
theorem fits72:fits Tryz.prog true Tryz.f72 2 46 [(4,some (2,true)),(5,none)]=some c72.er:=by kernel_rfl
def c41:C:=(sr [kk 2 (.mv (cn 0)),kk 3 (.mv (cn 0))] (.seq (.cut (.reg [km 9 0,kk 10 (cl 67 [9]),km 8 10,kk 11 (.ex 8 0),kk 12 (.ex 8 1),kk 13 (.ex 8 2),kk 14 (.ex 8 3),km 4 11,km 5 12,km 6 13,km 7 14])) (sr [km 15 5,km 16 7,km 2 15,km 3 16] .ret)))
theorem fits41:fits Tryz.prog false Tryz.f41 1 17 [(2,none),(3,none)]=some c41.er:=by kernel_rfl
def c100:C:=(sr [kk 3 (.bx 7 0),kk 6 (.mv (.c (.bool false)))] (.seq (.cut (.reg [kk 7 (.ld 7 true 3),kk 8 (cl 66 [7]),kk 9 (.bi false .eql 8 (cn 0)),km 10 9,kg 11 10 true (.fa 3 3),kg 12 10 true (.ld 2 true 11),kg 13 10 true (.mv 1),kg 14 10 true (cl 125 [12,13]),kk 15 (.pick 10 14 (.c (.bool false))),km 16 15,kg 17 16 true (.mv 2),kg 18 16 true (.fa 5 3),kg 19 16 true (.ld 1 false 18),kg 20 16 true (.bi false .geq 17 19),kk 21 (.pick 16 20 (.c (.bool false))),km 22 21,kg 23 22 true (.mv 2),kg 24 22 true (.fa 6 3),kg 25 22 true (.ld 1 false 24),kg 26 22 true (.bi false .leq 23 25),kk 27 (.pick 22 26 (.c (.bool false))),km 6 27])) .ret))
theorem fits100:fits Tryz.prog false Tryz.f100 3 28 [(6,none)]=some c100.er:=by kernel_rfl
def c40L1:C:=(sr [kk 12 (.bi false .lss 11 10)] (.seq (.cond 12 .skip (.exit 0)) (.seq (.block 1 (sr [kk 13 (.ia 7 9 11),kk 14 (.ld 7 true 13),kk 4 (.al [(.int .i64 0),(.int .i64 0),(.int .i64 0),(.int .i64 0),(.int .i64 0),(.int .i64 0),(.int .i64 0)]),kz (.st 7 4 14)] (.seq (.cut (.reg [kk 15 (.ld 7 true 4),kk 16 (cl 66 [15]),km 5 16])) (sr [km 17 5,kk 18 (.bi false .neq 17 (cn 0))] (.cond 18 (sr [km 19 5,km 2 19] .ret) .skip))))) (.reg [kk 20 (.bi false .add 11 (cn 1)),km 11 20]))))
def c40:C:=(sr [kk 2 (.mv (cn 0))] (.seq (sr [km 6 0,kk 7 (.len 6),kk 8 (.bi false .gtr 7 (cn 200))] (.cond 8 (sr [kk 2 (.mv (cn 10))] .ret) .skip)) (.seq (sr [km 9 0,kk 10 (.len 9),kk 11 (.mv (cn 0))] (.block 0 (.loop c40L1))) (sr [kk 2 (.mv (cn 0))] .ret))))
theorem fits40:fits Tryz.prog false Tryz.f40 1 21 [(2,none)]=some c40.er:=by kernel_rfl
theorem call63 (n m:Int):PureCall Tryz.prog 63 [.int .i64 n, .int .i64 m] [] ⟨.bool (decide (0≤n)&&decide (n≤m)), [], []⟩:=by
 refine pure_call mix Tryz.func63 fits63 rfl ?_
 conv=>whnf
 refine ⟨?_, [], ?_⟩
 ·exact g0
 conv=>whnf
 refine ⟨rfl, ?_,trivial,trivial⟩
 show PLe _ _ _ _
 conv=>whnf
 cases decide (0≤n)<;>rfl
theorem call98 (n:Int):PureCall Tryz.prog 98 [.int .i64 n] [] ⟨.bool (decide (0≤n∧n≤364)), [], []⟩:=by
 refine pure_call mix Tryz.func98 fits98 rfl ?_
 conv=>whnf
 refine ⟨_,fun _=>call77 n 364, ?_⟩
 conv=>whnf
 refine ⟨?_, [], ?_⟩
 ·exact g0
 conv=>whnf
 refine ⟨rfl, ?_,trivial,trivial⟩
 all_goals repeat' (first | exact True.intro | refine leF_cons rfl ?_ ?_ | refine leS_cons rfl ?_ ?_ | (show PLe _ _ _ _;conv=>whnf) | (show SLe _ _ _ _;conv=>whnf) | (show PLeL _ _ _ _;conv=>whnf) | apply And.intro | rfl | exact Nat.le_refl _ | exact fun _ _=>rfl | exact rowEq0 _ _)
def dayB (f u:Int):Bool:=bif decide (0≤f∧f≤364) then decide (0≤u∧u≤364) else false
theorem call95 (f u:Int):PureCall Tryz.prog 95 [.agg [.int .i64 f, .int .i64 u]] [] ⟨.bool (dayB f u), [], []⟩:=by
 refine pure_call mix Tryz.func95 fits95 rfl ?_
 conv=>whnf
 refine ⟨_,fun _=>call98 f, ?_⟩
 conv=>whnf
 refine ⟨_,fun _=>call98 u, ?_⟩
 conv=>whnf
 refine ⟨?_, [], ?_⟩
 ·exact g0
 conv=>whnf
 refine ⟨rfl, ?_,trivial,trivial⟩
 all_goals repeat' (first | exact True.intro | refine leF_cons rfl ?_ ?_ | refine leS_cons rfl ?_ ?_ | (show PLe _ _ _ _;conv=>whnf) | (show SLe _ _ _ _;conv=>whnf) | (show PLeL _ _ _ _;conv=>whnf) | apply And.intro | rfl | exact Nat.le_refl _ | exact fun _ _=>rfl | exact rowEq0 _ _)
def inD (f u n:Int):Bool:=bif (bif !dayB f u then true else !decide (0≤n∧n≤364)) then false else bif decide (f≤u) then (bif decide (f≤n) then decide (n≤u) else false) else bif decide (f≤n) then true else decide (n≤u)
theorem call125 (f u n:Int):PureCall Tryz.prog 125 [.agg [.int .i64 f, .int .i64 u], .int .i64 n] [] ⟨.bool (inD f u n), [], []⟩:=by
 refine pure_call mix Tryz.func125 fits125 rfl ?_
 unfold inD
 conv=>whnf
 refine ⟨_,fun _=>call95 f u, ?_⟩
 conv=>whnf
 refine ⟨_,fun _=>call98 n, ?_⟩
 conv=>whnf
 refine ⟨?_,fun hc=> ?_,fun hc=> ?_⟩
 ·exact g0
 ·rw [hc]
  conv=>whnf
  refine ⟨?_, [], ?_⟩
  ·exact g0
  conv=>whnf
  refine ⟨rfl, ?_,trivial,trivial⟩
  all_goals repeat' (first | exact True.intro | refine leF_cons rfl ?_ ?_ | refine leS_cons rfl ?_ ?_ | (show PLe _ _ _ _;conv=>whnf) | (show SLe _ _ _ _;conv=>whnf) | (show PLeL _ _ _ _;conv=>whnf) | apply And.intro | rfl | exact Nat.le_refl _ | exact fun _ _=>rfl | exact rowEq0 _ _)
 rw [hc]
 conv=>whnf
 refine ⟨?_,fun hc=> ?_,fun hc=> ?_⟩
 ·exact g0
 ·rw [hc]
  conv=>whnf
  refine ⟨?_, [], ?_⟩
  ·exact g0
  conv=>whnf
  refine ⟨rfl, ?_,trivial,trivial⟩
  all_goals repeat' (first | exact True.intro | refine leF_cons rfl ?_ ?_ | refine leS_cons rfl ?_ ?_ | (show PLe _ _ _ _;conv=>whnf) | (show SLe _ _ _ _;conv=>whnf) | (show PLeL _ _ _ _;conv=>whnf) | apply And.intro | rfl | exact Nat.le_refl _ | exact fun _ _=>rfl | exact rowEq0 _ _)
 rw [hc]
 conv=>whnf
 refine ⟨?_, [], ?_⟩
 ·exact g0
 conv=>whnf
 refine ⟨rfl, ?_,trivial,trivial⟩
 all_goals repeat' (first | exact True.intro | refine leF_cons rfl ?_ ?_ | refine leS_cons rfl ?_ ?_ | (show PLe _ _ _ _;conv=>whnf) | (show SLe _ _ _ _;conv=>whnf) | (show PLeL _ _ _ _;conv=>whnf) | apply And.intro | rfl | exact Nat.le_refl _ | exact fun _ _=>rfl | exact rowEq0 _ _)
theorem q66 (c:Cd):PureCallQ Tryz.prog 66 [.agg (eCd c)] [] QI:=by
 refine pure_callQ mix Tryz.func66 fits66 rfl ?_
 repeat' (first
  | exact retQ _ (⟨_,rfl⟩)
  | exact retQn _ (⟨_,rfl⟩)
  | (conv=>whnf
     first
     | refine ⟨_,fun _=>call77 _ _, ?_⟩
     | refine ⟨_,fun _=>call95 _ _, ?_⟩
     | refine ⟨by exact g0,LSem.regQ ?_⟩ | refine ⟨by exact g0,LSem.drwQ mix ?_⟩
     | (refine ⟨by exact g0,fun hc=> ?_,fun hc=> ?_⟩<;>(try simp only [bp] at hc)) | refine ⟨rfl, ?_⟩ | refine ⟨by exact g0, ?_⟩))
def QBI (c:CallRes):Prop:=∃(x y:Int) (b:Bool),c=⟨.tup [.agg [.int .i64 x, .int .i64 y], .bool b], [], []⟩
def QII (c:CallRes):Prop:=∃(x y:Int),c=⟨.tup [.int .i64 x, .int .i64 y], [], []⟩
theorem q73 (a b c d:Int):PureCallQ Tryz.prog 73 [.agg [.int .i64 a, .int .i64 b], .agg [.int .i64 c, .int .i64 d]] [] QBI:=by
 refine pure_callQ mix Tryz.func73 fits73 rfl ?_
 repeat' (first
  | exact retQ _ (⟨_,_,_,rfl⟩)
  | exact retQn _ (⟨_,_,_,rfl⟩)
  | (conv=>whnf
     first
     | refine ⟨by exact g0,LSem.regQ ?_⟩ | refine ⟨by exact g0,LSem.drwQ mix ?_⟩
     | (refine ⟨by exact g0,fun hc=> ?_,fun hc=> ?_⟩<;>(try simp only [bp] at hc)) | refine ⟨rfl, ?_⟩ | refine ⟨by exact g0, ?_⟩))
theorem q74 (a b c:Int):PureCallQ Tryz.prog 74 [.int .i64 a, .agg [.int .i64 b, .int .i64 c]] [] QI:=by
 refine pure_callQ mix Tryz.func74 fits74 rfl ?_
 repeat' (first
  | exact retQ _ (⟨_,rfl⟩)
  | exact retQn _ (⟨_,rfl⟩)
  | (conv=>whnf
     first
     | refine ⟨by exact g0,LSem.regQ ?_⟩ | refine ⟨by exact g0,LSem.drwQ mix ?_⟩
     | (refine ⟨by exact g0,fun hc=> ?_,fun hc=> ?_⟩<;>(try simp only [bp] at hc)) | refine ⟨rfl, ?_⟩ | refine ⟨by exact g0, ?_⟩))
def QI4 (c:CallRes):Prop:=∃(x y z t:Int),c=⟨.tup [.int .i64 x, .int .i64 y, .int .i64 z, .int .i64 t], [], []⟩
theorem q67 (n:Int):PureCallQ Tryz.prog 67 [.int .i64 n] [] QI4:=by
 refine pure_callQ mix Tryz.func67 fits67 rfl ?_
 repeat' (first
  | exact retQ _ (⟨_,_,_,_,rfl⟩)
  | exact retQn _ (⟨_,_,_,_,rfl⟩)
  | (conv=>whnf
     first
     | refine ⟨_,fun _=>call77 _ _, ?_⟩
     | refine ⟨by exact g0,LSem.regQ ?_⟩ | refine ⟨by exact g0,LSem.drwQ mix ?_⟩
     | (refine ⟨by exact g0,fun hc=> ?_,fun hc=> ?_⟩<;>(try simp only [bp] at hc)) | refine ⟨rfl, ?_⟩ | refine ⟨by exact g0, ?_⟩))
theorem q41 (n:Int):PureCallQ Tryz.prog 41 [.int .i64 n] [] QII:=by
 refine pure_callQ mix Tryz.func41 fits41 rfl ?_
 repeat' (first
  | exact retQ _ (⟨_,_,rfl⟩)
  | exact retQn _ (⟨_,_,rfl⟩)
  | (conv=>whnf
     first
     | (refine ⟨_,q67 _,⟨by exact g0,by exact g0⟩, ?_⟩;rintro _ ⟨_,_,_,_,rfl⟩)
     | refine ⟨by exact g0,LSem.regQ ?_⟩ | refine ⟨by exact g0,LSem.drwQ mix ?_⟩
     | (refine ⟨by exact g0,fun hc=> ?_,fun hc=> ?_⟩<;>(try simp only [bp] at hc)) | refine ⟨rfl, ?_⟩ | refine ⟨by exact g0, ?_⟩))
theorem q100 (c:Cd) (d v:Int):PureCallQ Tryz.prog 100 [.agg (eCd c), .int .i64 d, .int .i64 v] [] QB:=by
 refine pure_callQ mix Tryz.func100 fits100 rfl ?_
 repeat' (first
  | exact retQ _ (⟨_,rfl⟩)
  | exact retQn _ (⟨_,rfl⟩)
  | (conv=>whnf
     first
     | refine ⟨_,fun _=>call125 _ _ _, ?_⟩
     | (refine ⟨_,q66 _,⟨by exact g0,by exact g0⟩, ?_⟩;rintro _ ⟨_,rfl⟩)
     | refine ⟨by exact g0,LSem.regQ ?_⟩ | refine ⟨by exact g0,LSem.drwQ mix ?_⟩
     | (refine ⟨by exact g0,fun hc=> ?_,fun hc=> ?_⟩<;>(try simp only [bp] at hc)) | refine ⟨rfl, ?_⟩ | refine ⟨by exact g0, ?_⟩))
theorem q72 (c:Cd) (d:Int):PureCallQ Tryz.prog 72 [.agg (eCd c), .int .i64 d] [] QBI:=by
 refine pure_callQ mix Tryz.func72 fits72 rfl ?_
 repeat' (first
  | exact retQ _ (⟨_,_,_,rfl⟩)
  | exact retQn _ (⟨_,_,_,rfl⟩)
  | (conv=>whnf
     first
     | refine ⟨_,fun _=>call77 _ _, ?_⟩
     | (refine ⟨_,q66 _,⟨by exact g0,by exact g0⟩, ?_⟩;rintro _ ⟨_,rfl⟩)
     | refine ⟨by exact g0,LSem.regQ ?_⟩ | refine ⟨by exact g0,LSem.drwQ mix ?_⟩
     | (refine ⟨by exact g0,fun hc=> ?_,fun hc=> ?_⟩<;>(try simp only [bp] at hc)) | refine ⟨rfl, ?_⟩ | refine ⟨by exact g0, ?_⟩))
theorem q40 (τ:Nat) (l:List Cd):PureCallQ Tryz.prog 40 [.sl τ 7 l.length (fl eCd l)] [] QI:=by
 refine pure_callQ mix Tryz.func40 fits40 rfl ?_
 conv=>whnf
 refine ⟨by exact g0,fun hc=> ?_,fun hc=> ?_⟩
 ·exact retQ _ ⟨_,rfl⟩
 simp only [bp] at hc
 conv=>whnf
 refine ⟨by exact g0, ?_⟩
 refine LSem.loop (n:=21) mix (α:=Nat) (fun i=>i≤l.length)
  (fun i=> [(9, .sl τ 7 l.length (fl eCd l)),(10, .int .i64 l.length),(11, .int .i64 i)])
  (fun i=> []) (fun i=>l.length - i) 0 (Nat.zero_le _) ?_ ?_
 ·refine ⟨rfl,rfl, ?_, ?_⟩<;>exact ent
 intro i hi
 conv=>whnf
 refine ⟨trivial,fun hc=> ?_,fun hc=> ?_⟩
 ·replace hc:=of_decide_eq_true hc
  have hlt:i<l.length:=by
   have h:(i:Int)<l.length:=hc
   omega
  have hj:((i:Int)).toNat=i:=by omega
  conv=>whnf
  refine ⟨by exact g0,LSem.regQ ?_⟩
  conv=>whnf
  rw [hj]
  refine ⟨_,q66 _,⟨by exact g0,by exact g0⟩, ?_⟩
  rintro _ ⟨e,rfl⟩
  conv=>whnf
  refine ⟨by exact g0, ?_⟩
  conv=>whnf
  refine ⟨by exact g0,fun h=> ?_,fun h=> ?_⟩
  ·exact retQ _ ⟨_,rfl⟩
  ·conv=>whnf
   refine ⟨by exact g0,i+1,hlt,by omega,rfl,rfl, ?_, ?_⟩<;>exact ent
 ·exact retQ _ ⟨_,rfl⟩
def c99L2:C:=(.seq (.seq (.drw [km 16 6,kk 17 (.bi false .gtr 16 (cn 0)),km 18 17,kg 19 18 true (.mv 0),kg 20 18 true (.mv 3),kg 21 18 true (.mv 6),kg 22 18 true (.bi false .sub 21 (cn 1)),kg 23 18 true (.ia 1 20 22),kg 24 18 true (.ld 1 false 23),kg 25 18 true (.ia 7 19 24),kg 26 18 true (.fa 0 25),kg 27 18 true (.ld 1 false 26),kg 28 18 true (.fa 0 5),kg 29 18 true (.ld 1 false 28),kg 30 18 true (.bi false .gtr 27 29),kk 31 (.pick 18 30 (.c (.bool false)))] (pl [(3,[4,5,6,7,8,12,13],19),(4,[5,6,12,13],20),(5,[12,13],21),(6,[12,13],22),(7,[12,13],23),(8,[12,13],24),(9,[12,13],25),(10,[12,13],26),(11,[12,13],27)])) (.cond 31 .skip (.exit 2))) (.block 3 (.reg [km 32 6,kk 33 (.bi false .sub 32 (cn 1)),km 6 33])))
def c99L1:C:=(sr [kk 10 (.bi false .lss 9 8)] (.seq (.cond 10 .skip (.exit 0)) (.seq (.block 1 (sr [km 11 9,kk 12 (.ia 7 7 9),kk 13 (.ld 7 true 12),kk 5 (.al [(.int .i64 0),(.int .i64 0),(.int .i64 0),(.int .i64 0),(.int .i64 0),(.int .i64 0),(.int .i64 0)]),km 4 11,kz (.st 7 5 13)] (sr [km 14 3,kk 15 (.len 14),km 6 15] (.seq (.block 2 (.loop c99L2)) (.drw [km 34 3,km 35 6,kk 36 (.slc 1 34 none (some 35)),km 37 4,kk 38 (.bs 3 1 [37]),km 39 3,km 40 6,kk 41 (.slc 1 39 (some 40) none),kk 42 (.app 3 1 8 38 41),kk 43 (.app 3 1 8 36 42),km 3 43] (pl [(0,[1,3,4,5,6,7,8],34),(1,[3,4,5,6,7,8],35),(2,[3,4,5,6,7,8],36),(3,[5,6,7],37),(4,[5,6,7],38),(5,[6],39)])))))) (.reg [kk 44 (.bi false .add 9 (cn 1)),km 9 44]))))
def c99:C:=(sr [kk 2 (.mv (.c (.nil 1)))] (sr [kk 3 (.mv (.c (.nil 1)))] (.seq (sr [km 7 0,kk 8 (.len 7),kk 9 (.mv (cn 0))] (.block 0 (.loop c99L1))) (sr [km 45 3,km 2 45] .ret))))
theorem fits99:fits Tryz.prog false Tryz.f99 1 46 [(2,none)]=some c99.er:=by kernel_rfl
def c71L1:C:=(sr [kk 29 (.bi false .lss 28 27)] (.seq (.cond 29 .skip (.exit 0)) (.seq (.block 1 (sr [kk 30 (.ia 1 26 28),kk 31 (.ld 1 false 30),km 11 31] (.seq (.cut (.reg [km 32 0,km 33 11,kk 34 (.ia 7 32 33),kk 35 (.ld 7 true 34),km 36 1,km 37 2,kk 38 (cl 100 [35,36,37])])) (.cond 38 (.reg [km 39 9,km 40 11,kk 41 (.bs 3 1 [40]),kk 42 (.app 3 1 8 39 41),km 9 42]) .skip)))) (.reg [kk 43 (.bi false .add 28 (cn 1)),km 28 43]))))
def c71:C:=(sr [kk 6 (.mv (.c (.nil 1))),kk 7 (.mv (cn 0))] (.seq (.seq (.cut (.reg [km 12 0,kk 13 (cl 40 [12]),km 8 13])) (sr [km 14 8,kk 15 (.bi false .neq 14 (cn 0))] (.cond 15 (sr [km 16 8,kk 6 (.mv (.c (.nil 1))),km 7 16] .ret) .skip))) (.seq (sr [km 17 1,kk 18 (cl 98 [17]),kk 19 (.un false .not 18),km 20 19,kg 21 20 false (.mv 2),kg 22 20 false (cl 77 [21,(cn 16777216)]),kg 23 20 false (.un false .not 22),kk 24 (.pick 20 (.c (.bool true)) 23)] (.cond 24 (sr [kk 6 (.mv (.c (.nil 1))),kk 7 (.mv (cn 1))] .ret) .skip)) (sr [kk 9 (.mv (.c (.nil 1)))] (.seq (.seq (.cut (.reg [km 25 0,kk 26 (cl 99 [25]),kk 27 (.len 26),kk 28 (.mv (cn 0))])) (.block 0 (.loop c71L1))) (sr [km 44 9,km 6 44,kk 7 (.mv (cn 0))] .ret))))))
theorem fits71:fits Tryz.prog false Tryz.f71 3 45 [(6,none),(7,none)]=some c71.er:=by kernel_rfl
def ltC (l:List Cd) (a b:Int):Prop:=(l.getD a.toNat default).r<(l.getD b.toNat default).r∨(l.getD a.toNat default).r=(l.getD b.toNat default).r∧a<b
def OrdP (l:List Cd) (n:Int) (o:List Int):Prop:=(∀x∈o,0≤x∧x<n)∧o.Pairwise (ltC l)
def QOrd (l:List Cd) (c:CallRes):Prop:=∃o:List Int,c=⟨.sl 0 1 o.length (fl eInt o), [], []⟩∧OrdP l l.length o∧o.length=l.length
theorem OrdP.ins {l:List Cd} {n:Nat} {o:List Int} {k:Nat} (h:OrdP l n o) (hk:k≤o.length) (h1:∀j,k≤j→j<o.length→(l.getD n default).r<(l.getD (o.getD j default).toNat default).r)
  (h2:k=0∨(l.getD (o.getD (k - 1) default).toNat default).r≤(l.getD n default).r):OrdP l (n+1:Nat) (o.take k++ [(n:Int)]++o.drop k):=by
 obtain ⟨a,b⟩:=h
 have hsplit:o.take k++o.drop k=o:=List.take_append_drop k o
 have b':=b
 rw [←hsplit,List.pairwise_append] at b'
 obtain ⟨b1,b2,b3⟩:=b'
 have ht:∀x∈o.take k,ltC l x n:=by
  intro x hx
  have hxo:=a x (List.mem_of_mem_take hx)
  rcases h2 with h2 | h2
  ·subst h2;simp at hx
  ·obtain ⟨j,hj,rfl⟩:=List.mem_iff_getElem.1 hx
   rw [List.length_take] at hj
   rw [List.getElem_take]
   have hle:(l.getD (o[j]'(by omega)).toNat default).r≤(l.getD n default).r:=by
    by_cases e:j=k - 1
    ·subst e
     have:o.getD (k - 1) default=o[k - 1]'(by omega):=by simp [List.getD,show k - 1<o.length by omega]
     rw [this] at h2;exact h2
    ·have:=(List.pairwise_iff_getElem.1 b) j (k - 1) (by omega) (by omega) (by omega)
     have e2:o.getD (k - 1) default=o[k - 1]'(by omega):=by simp [List.getD,show k - 1<o.length by omega]
     rw [e2] at h2
     unfold ltC at this
     omega
   have hxo:=a (o[j]'(by omega)) (List.getElem_mem _)
   unfold ltC
   rw [Int.toNat_natCast]
   omega
 have hd:∀x∈o.drop k,ltC l n x:=by
  intro x hx
  obtain ⟨j,hj,rfl⟩:=List.mem_iff_getElem.1 hx
  rw [List.length_drop] at hj
  rw [List.getElem_drop]
  have:=h1 (k+j) (by omega) (by omega)
  have e2:o.getD (k+j) default=o[k+j]'(by omega):=by simp [List.getD,show k+j<o.length by omega]
  rw [e2] at this
  unfold ltC
  rw [Int.toNat_natCast]
  exact .inl this
 refine ⟨?_, ?_⟩
 ·intro x hx
  rw [List.append_assoc,List.mem_append,List.mem_append] at hx
  rcases hx with hx | hx | hx
  ·have:=a x (List.mem_of_mem_take hx);omega
  ·simp at hx;omega
  ·have:=a x (List.mem_of_mem_drop hx);omega
 ·rw [List.append_assoc,List.pairwise_append]
  refine ⟨b1, ?_, ?_⟩
  ·rw [List.singleton_append,List.pairwise_cons]
   exact ⟨hd,b2⟩
  ·intro x hx y hy
   rw [List.singleton_append,List.mem_cons] at hy
   rcases hy with rfl | hy
   ·exact ht x hx
   ·exact b3 x hx y hy
theorem ins_row (o:List Int) (k i:Nat) (hk:k≤o.length):RowEq ((k:Int).toNat+(1+(o.length - (k:Int).toNat))) (appF (k:Int).toNat (fl eInt o) (appF 1 (fun j=> [[PV.int .i64 (i:Int)]].getD j []) fun j=>fl eInt o ((k:Int).toNat+j))) (fl eInt (o.take k++ [(i:Int)]++o.drop k)):=fun j hj=>by
 rw [Int.toNat_natCast] at hj⊢
 unfold appF fl
 by_cases h:j<k
 ·rw [if_pos h,List.append_assoc]
  simp only [List.getD_eq_getElem?_getD]
  rw [List.getElem?_append_left (by rw [List.length_take];omega),List.getElem?_take_of_lt h]
 ·rw [if_neg h]
  by_cases h2:j - k<1
  ·rw [if_pos h2]
   have:j=k:=by omega
   subst this
   simp only [List.getD_eq_getElem?_getD]
   rw [List.append_assoc,List.getElem?_append_right (by rw [List.length_take];omega)]
   simp [List.length_take,Nat.min_eq_left hk,eInt]
  ·rw [if_neg h2]
   simp only [List.getD_eq_getElem?_getD]
   rw [List.getElem?_append_right (by simp [List.length_take];omega)]
   simp only [List.length_append,List.length_take,List.length_cons,List.length_nil,Nat.min_eq_left hk,List.getElem?_drop]
   rw [show k+(j - k - 1)=k+(j - (k+(0+1))) by omega]
theorem q99 (τ:Nat) (l:List Cd) (hl:l.length≤1000000000):PureCallQ Tryz.prog 99 [.sl τ 7 l.length (fl eCd l)] [] (QOrd l):=by
 refine pure_callQ mix Tryz.func99 fits99 rfl ?_
 conv=>whnf
 refine ⟨by exact g0, ?_⟩
 refine LSem.adopt 3 1000000 3 1 1 rfl rfl ?_
 refine LSem.loop (n:=46) mix (α:=Nat×List Int) (fun s=>s.1≤l.length∧s.2.length=s.1∧OrdP l s.1 s.2)
  (fun s=> [(3, .os 1000000),(7, .sl τ 7 l.length (fl eCd l)),(8, .int .i64 l.length),(9, .int .i64 s.1),(0, .sl τ 7 l.length (fl eCd l))])
  (fun s=> [(1000000, .row 0 3 1 s.2.length (fl eInt s.2))]) (fun s=>l.length - s.1) (0, []) ⟨Nat.zero_le _,rfl,fun x hx=>(by cases hx),List.Pairwise.nil⟩ ?_ ?_
 ·refine ⟨rfl,rfl, ?_, ?_⟩<;>exact ent
 rintro ⟨i,o⟩ ⟨hi,ho,hp⟩
 dsimp only at hi ho hp⊢
 conv=>whnf
 refine ⟨trivial,fun hc=> ?_,fun hc=> ?_⟩
 ·replace hc:=of_decide_eq_true hc
  have hlt:i<l.length:=by
   have h:(i:Int)<l.length:=hc
   omega
  have hj:((i:Int)).toNat=i:=by omega
  conv=>whnf
  refine ⟨by exact g0, ?_⟩
  refine LSem.loop (n:=46) mix (α:=Nat) (fun k=>k≤o.length∧∀j,k≤j→j<o.length→(l.getD i default).r<(l.getD (o.getD j default).toNat default).r)
   (fun k=> [(3, .os 1000000),(4, .int .i64 i),(5, .pt 80 0 0),(6, .int .i64 k),(7, .sl τ 7 l.length (fl eCd l)),(8, .int .i64 l.length),(9, .int .i64 i),(0, .sl τ 7 l.length (fl eCd l))])
   (fun k=> [(1000000, .row 0 3 1 o.length (fl eInt o)),(80, .box (eCd (l.getD i default)))]) (fun k=>k) o.length ⟨Nat.le_refl _,fun j h1 h2=>by omega⟩ ?_ ?_
  ·refine ⟨rfl,rfl, ?_, ?_⟩<;>exact ent
  rintro k ⟨hk,hgt⟩
  have e1:((k:Int) - 1).toNat=k - 1:=by omega
  have hb:0<k→0≤o.getD (k - 1) default∧(o.getD (k - 1) default).toNat<l.length:=fun h0=>by
   have e2:o.getD (k - 1) default=o[k - 1]'(by omega):=by simp [List.getD,show k - 1<o.length by omega]
   have:=hp.1 (o[k - 1]'(by omega)) (List.getElem_mem _)
   rw [e2];omega
  conv=>whnf
  refine ⟨rfl, ?_⟩
  conv=>whnf
  refine ⟨?_,fun hc=> ?_,fun hc=> ?_⟩
  ·rw [e1];exact g0
  ·rw [e1] at hc
   simp only [bp] at hc
   conv=>whnf
   refine ⟨by exact g0,k - 1,⟨by omega,fun j h1 h2=> ?_⟩,by omega,rfl,rfl, ?_, ?_⟩
   ·by_cases e:j=k - 1
    ·subst e;omega
    ·exact hgt j (by omega) h2
   ·exact ent
   ·exact ent
  rw [e1] at hc
  simp only [bp] at hc
  have hp2:=OrdP.ins hp hk hgt (by
   by_cases e:k=0
   ·exact .inl e
   ·right;omega)
  have q:=ins_row o k i hk
  have q2:(k:Int).toNat+(1+(o.length - (k:Int).toNat))=(o.take k++ [(i:Int)]++o.drop k).length:=by simp;omega
  conv=>whnf
  refine ⟨rfl, ?_⟩
  conv=>whnf
  refine ⟨?_,(i+1,o.take k++ [(i:Int)]++o.drop k),⟨hlt, ?_,hp2⟩, ?_,rfl,rfl, ?_, ?_⟩
  ·rw [Int.toNat_natCast];exact g0
  ·simp;omega
  ·dsimp only;omega
  ·exact ent
  ·exact ent
 ·exact retQ _ ⟨o,rfl,by
   have:i=l.length:=by
    have h:¬(i:Int)<l.length:=of_decide_eq_false hc
    omega
   rw [←this];exact ⟨hp,ho⟩⟩
theorem OrdP.snoc {l:List Cd} {n:Int} {o a:List Int} {i:Nat} (h:OrdP l n o) (ha:a.Sublist (o.take i)) (hi:i<o.length):(a++ [o.getD i default]).Sublist (o.take (i+1)):=by
 rw [List.take_succ_eq_append_getElem hi]
 have:o.getD i default=o[i]:=by simp [List.getD,hi]
 rw [this]
 exact ha.append (List.Sublist.refl _)
theorem OrdP.sub {l:List Cd} {n:Int} {o a:List Int} (h:OrdP l n o) (ha:a.Sublist o):OrdP l n a:=⟨fun x hx=>h.1 x (ha.subset hx),h.2.sublist ha⟩
theorem getD_memI {o:List Int} {i:Nat} (h:i<o.length):o.getD i default∈o:=getD_mem h
def QAct (l:List Cd) (c:CallRes):Prop:=∃(a:List Int) (e:Int),c=⟨.tup [.sl 0 1 a.length (fl eInt a), .int .i64 e], [], []⟩∧OrdP l l.length a∧a.length≤l.length
theorem ordP_nil (l:List Cd) (n:Int):OrdP l n []:=⟨fun x hx=>(by cases hx),List.Pairwise.nil⟩
theorem q71 (τ:Nat) (l:List Cd) (d v:Int) (hl:l.length≤1000000000):PureCallQ Tryz.prog 71 [.sl τ 7 l.length (fl eCd l), .int .i64 d, .int .i64 v] [] (QAct l):=by
 refine pure_callQ mix Tryz.func71 fits71 rfl ?_
 conv=>whnf
 refine ⟨by exact g0,LSem.regQ ?_⟩
 conv=>whnf
 refine ⟨_,q40 _ _,⟨by exact g0,by exact g0⟩, ?_⟩
 rintro _ ⟨e,rfl⟩
 conv=>whnf
 refine ⟨by exact g0, ?_⟩
 conv=>whnf
 refine ⟨by exact g0,fun hc=> ?_,fun hc=> ?_⟩
 ·exact retQ _ ⟨[],_,rfl,ordP_nil _ _,Nat.zero_le _⟩
 conv=>whnf
 refine ⟨_,fun _=>call98 _, ?_⟩
 conv=>whnf
 refine ⟨_,fun _=>call77 _ _, ?_⟩
 conv=>whnf
 refine ⟨by exact g0,fun hc=> ?_,fun hc=> ?_⟩
 ·exact retQ _ ⟨[],_,rfl,ordP_nil _ _,Nat.zero_le _⟩
 conv=>whnf
 refine ⟨by exact g0,LSem.regQ ?_⟩
 conv=>whnf
 refine ⟨_,q99 _ _ hl,⟨by exact g0,by exact g0⟩, ?_⟩
 rintro _ ⟨o,rfl,ho,hol⟩
 conv=>whnf
 refine ⟨by exact g0, ?_⟩
 conv=>whnf
 refine ⟨by exact g0, ?_⟩
 refine LSem.adopt 9 1000000 3 1 1 rfl rfl ?_
 refine LSem.loop (n:=45) mix (α:=Nat×List Int) (fun s=>s.1≤o.length∧s.2.Sublist (o.take s.1))
  (fun s=> [(0, .sl τ 7 l.length (fl eCd l)),(1, .int .i64 d),(2, .int .i64 v),(9, .os 1000000),(26, .sl 0 1 o.length (fl eInt o)),(27, .int .i64 o.length),(28, .int .i64 s.1)])
  (fun s=> [(1000000, .row 0 3 1 s.2.length (fl eInt s.2))]) (fun s=>o.length - s.1) (0, []) ⟨Nat.zero_le _,List.nil_sublist _⟩ ?_ ?_
 ·refine ⟨rfl,rfl, ?_, ?_⟩<;>exact ent
 rintro ⟨i,a⟩ ⟨hi,ha⟩
 dsimp only at hi ha⊢
 conv=>whnf
 refine ⟨trivial,fun hc=> ?_,fun hc=> ?_⟩
 ·replace hc:=of_decide_eq_true hc
  have hlt:i<o.length:=by
   have h:(i:Int)<o.length:=hc
   omega
  have hj:((i:Int)).toNat=i:=by omega
  have hm:=ho.1 _ (getD_memI hlt)
  have hn:=OrdP.snoc ho ha hlt
  have hal:=ha.length_le
  rw [List.length_take] at hal
  have hq:=fl_push eInt a (o.getD i default)
  have hxl:(a++ [o.getD i default]).length=a.length+1:=by simp
  conv=>whnf
  rw [hj]
  generalize o.getD i default=x at hm hn hq hxl⊢
  refine ⟨by exact g0,LSem.regQ ?_⟩
  conv=>whnf
  refine ⟨_,q100 _ _ _,⟨by exact g0,by exact g0⟩, ?_⟩
  rintro _ ⟨b,rfl⟩
  conv=>whnf
  refine ⟨by exact g0, ?_⟩
  conv=>whnf
  refine ⟨by exact g0,fun h=> ?_,fun h=> ?_⟩
  ·conv=>whnf
   refine ⟨?_,(i+1,a++ [x]),⟨hlt,hn⟩, ?_,rfl,rfl, ?_, ?_⟩
   ·exact g0
   ·dsimp only;omega
   ·exact ent
   ·exact ent
  ·conv=>whnf
   refine ⟨?_,(i+1,a),⟨hlt,ha.trans (List.take_sublist_take_left (by omega))⟩, ?_,rfl,rfl, ?_, ?_⟩
   ·exact g0
   ·dsimp only;omega
   ·exact ent
   ·exact ent
 ·have h1:=(ha.trans (List.take_sublist _ _)).length_le
  exact retQ _ ⟨a,_,rfl,ho.sub (ha.trans (List.take_sublist _ _)),by omega⟩
def c70L1:C:=(sr [kk 36 (.bi false .lss 35 34)] (.seq (.cond 36 .skip (.exit 0)) (.seq (.block 1 (sr [kk 37 (.ia 1 33 35),kk 38 (.ld 1 false 37),km 16 38] (sr [km 39 16,kk 40 (cl 77 [39,(cn 1073741824)]),kk 41 (.un false .not 40)] (.cond 41 (sr [kk 12 (.mv (cn 1))] .ret) .skip)))) (.reg [kk 42 (.bi false .add 35 (cn 1)),km 35 42]))))
def c70:C:=(sr [kk 10 (.bx 2 4),kk 12 (.mv (cn 0))] (.seq (.seq (.cut (.reg [km 18 0,km 19 1,km 20 2,kk 21 (cl 71 [18,19,20]),km 17 21,kk 22 (.ex 17 0),kk 23 (.ex 17 1),km 13 22,km 14 23])) (sr [km 24 14,kk 25 (.bi false .neq 24 (cn 0))] (.cond 25 (sr [km 26 14,km 12 26] .ret) .skip))) (.seq (sr [km 27 3,km 28 5,kk 29 (.fa 0 10),kk 30 (.ld 1 false 29),kk 31 (.fa 1 10),kk 32 (.ld 1 false 31),kk 33 (.bs 3 1 [27,28,30,32]),kk 34 (.len 33),kk 35 (.mv (cn 0))] (.block 0 (.loop c70L1))) (.seq (sr [kk 43 (.fa 0 10),kk 44 (.ld 1 false 43),kk 45 (.fa 1 10),kk 46 (.ld 1 false 45),kk 47 (.bi false .gtr 44 46)] (.cond 47 (sr [kk 12 (.mv (cn 3))] .ret) .skip)) (sr [kk 12 (.mv (cn 0))] .ret)))))
theorem fits70:fits Tryz.prog false Tryz.f70 6 48 [(12,none)]=some c70.er:=by kernel_rfl
def c43L1:C:=(sr [kk 51 (.bi false .lss 50 49)] (.seq (.cond 51 .skip (.exit 0)) (.seq (.block 1 (sr [kk 52 (.ia 1 48 50),kk 53 (.ld 1 false 52),km 22 53] (.seq (.cut (.reg [km 55 0,km 56 22,kk 57 (.ia 7 55 56),kk 58 (.ld 7 true 57),km 59 3,kk 60 (cl 72 [58,59]),km 54 60,kk 61 (.ex 54 0),kk 62 (.ex 54 1),kk 23 (.al [(.int .i64 0),(.int .i64 0)]),kz (.st 2 23 61),km 24 62])) (.seq (.cut (.reg [kk 64 (.fa 1 15),kk 65 (.ld 2 true 64),kk 66 (.ld 2 true 23),kk 67 (cl 73 [65,66]),km 63 67,kk 68 (.ex 63 0),kk 69 (.ex 63 1),kk 25 (.al [(.int .i64 0),(.int .i64 0)]),kz (.st 2 25 68),km 26 69])) (.seq (sr [km 70 26,kk 71 (.un false .not 70)] (.cond 71 (sr [km 72 22,km 73 17,kk 74 (.bd [(.int .i64 0),(.int .i64 0)] [(0,1,72),(1,1,73)]),kk 27 (.al [(.int .i64 0),(.int .i64 0)]),kz (.st 2 27 74)] (.seq (sr [kk 75 (.fa 1 23),kk 76 (.ld 1 false 75),kk 77 (.fa 1 15),kk 78 (.fa 0 77),kk 79 (.ld 1 false 78),kk 80 (.bi false .lss 76 79)] (.cond 80 (.reg [km 81 16,kk 82 (.fa 1 27),kz (.st 1 82 81)]) .skip)) (.seq (sr [kk 83 (.fa 3 15),kk 84 (.ld 1 false 83),kk 85 (.len 84),kk 86 (.bi false .eql 85 (cn 0))] (.cond 86 (.reg [kk 87 (.ld 2 true 23),kz (.st 2 18 87)]) .skip)) (sr [kk 88 (.fa 3 15),kk 89 (.ld 1 false 88),kk 90 (.ld 2 true 27),kk 91 (.bs 97 2 [90]),kk 92 (.app 97 2 16 89 91),kk 93 (.fa 3 15),kz (.st 1 93 92)] (.exit 1))))) .skip)) (.seq (sr [kk 94 (.fa 0 25),kk 95 (.ld 1 false 94),kk 96 (.fa 1 15),kk 97 (.fa 0 96),kk 98 (.ld 1 false 97),kk 99 (.bi false .gtr 95 98)] (.cond 99 (.reg [km 100 22,km 16 100]) .skip)) (.seq (sr [kk 101 (.fa 1 25),kk 102 (.ld 1 false 101),kk 103 (.fa 1 15),kk 104 (.fa 1 103),kk 105 (.ld 1 false 104),kk 106 (.bi false .lss 102 105)] (.cond 106 (.reg [km 107 22,km 17 107]) .skip)) (.reg [kk 108 (.ld 2 true 25),kk 109 (.fa 1 15),kz (.st 2 109 108)])))))))) (.reg [kk 110 (.bi false .add 50 (cn 1)),km 50 110]))))
def c43:C:=(sr [kk 10 (.bx 2 4),kk 12 (.al [(.int .i64 0),(.int .i64 0),(.int .i64 0),(.nil 2)]),kk 13 (.mv (cn 0))] (.seq (.seq (.cut (.reg [km 28 0,km 29 1,km 30 2,km 31 3,kk 32 (.ld 2 true 10),km 33 5,kk 34 (cl 70 [28,29,30,31,32,33]),km 14 34])) (sr [km 35 14,kk 36 (.bi false .neq 35 (cn 0))] (.cond 36 (sr [kk 37 (.bd [(.int .i64 0),(.int .i64 0),(.int .i64 0),(.nil 2)] []),km 38 14,kz (.st 4 12 37),km 13 38] .ret) .skip))) (sr [kk 39 (.ld 2 true 10),kk 40 (.bd [(.int .i64 0),(.int .i64 0),(.int .i64 0),(.nil 2)] [(1,2,39)]),kk 15 (.al [(.int .i64 0),(.int .i64 0),(.int .i64 0),(.nil 2)]),kz (.st 4 15 40)] (sr [kk 16 (.mv (cn (-1))),kk 17 (.mv (cn (-1)))] (sr [kk 18 (.al [(.int .i64 0),(.int .i64 0)])] (.seq (.cut (.reg [km 42 0,km 43 1,km 44 2,kk 45 (cl 71 [42,43,44]),km 41 45,kk 46 (.ex 41 0),kk 47 (.ex 41 1),km 19 46,km 20 47])) (.seq (sr [km 48 19,kk 49 (.len 48),kk 50 (.mv (cn 0))] (.block 0 (.loop c43L1))) (.seq (.cut (.reg [km 111 5,kk 112 (.fa 1 15),kk 113 (.ld 2 true 112),kk 114 (cl 74 [111,113]),kk 115 (.fa 0 15),kz (.st 1 115 114)])) (.seq (sr [kk 116 (.fa 3 15),kk 117 (.ld 1 false 116),kk 118 (.len 117),kk 119 (.bi false .gtr 118 (cn 0))] (.cond 119 (sr [kk 120 (.fa 1 15),kk 121 (.fa 1 120),kk 122 (.ld 1 false 121),kk 123 (.fa 0 15),kz (.st 1 123 122)] (sr [kk 124 (.fa 1 18),kk 125 (.ld 1 false 124),kk 126 (.fa 1 15),kk 127 (.fa 0 126),kk 128 (.ld 1 false 127),kk 129 (.bi false .lss 125 128)] (.cond 129 (.reg [kk 130 (.fa 1 15),kk 131 (.fa 0 130),kk 132 (.ld 1 false 131),kk 133 (.fa 0 15),kz (.st 1 133 132)]) .skip))) .skip)) (sr [kk 134 (.ld 4 true 15),kz (.st 4 12 134),kk 13 (.mv (cn 0))] .ret))))))))))
theorem fits43:fits Tryz.prog false Tryz.f43 6 135 [(12,some (4,true)),(13,none)]=some c43.er:=by kernel_rfl
theorem q70 (τ:Nat) (l:List Cd) (d v b g0_ g1 w:Int) (hl:l.length≤1000000000):PureCallQ Tryz.prog 70 [.sl τ 7 l.length (fl eCd l), .int .i64 d, .int .i64 v, .int .i64 b, .agg [.int .i64 g0_, .int .i64 g1], .int .i64 w] [] QI:=by
 refine pure_callQ mix Tryz.func70 fits70 rfl ?_
 conv=>whnf
 refine ⟨by exact g0,LSem.regQ ?_⟩
 conv=>whnf
 refine ⟨_,q71 _ _ _ _ hl,⟨by exact g0,by exact g0⟩, ?_⟩
 rintro _ ⟨a,e,rfl,ha,hal⟩
 conv=>whnf
 refine ⟨by exact g0, ?_⟩
 conv=>whnf
 refine ⟨by exact g0,fun hc=> ?_,fun hc=> ?_⟩
 ·exact retQ _ ⟨_,rfl⟩
 conv=>whnf
 refine ⟨by exact g0, ?_⟩
 refine LSem.loop (n:=48) mix (α:=Nat) (fun i=>i≤4)
  (fun i=> [(10, .pt 160 0 0),(33, .os 528),(34, .int .i64 4),(35, .int .i64 i)])
  (fun i=> [(160, .box [.int .i64 g0_, .int .i64 g1]),(528, .row 0 3 1 4 (fl eInt [b,w,g0_,g1]))]) (fun i=>4 - i) 0 (Nat.zero_le _) ?_ ?_
 ·have q:RowEq 4 (fun i=> [[PV.int .i64 b], [PV.int .i64 w], [PV.int .i64 g0_], [PV.int .i64 g1]].getD i []) (fl eInt [b,w,g0_,g1]):=fun i hi=>by
    match i,hi with
    | 0,_=>rfl
    | 1,_=>rfl
    | 2,_=>rfl
    | 3,_=>rfl
  refine ⟨rfl,rfl, ?_, ?_⟩<;>exact ent
 intro i hi
 conv=>whnf
 refine ⟨trivial,fun hc=> ?_,fun hc=> ?_⟩
 ·replace hc:=of_decide_eq_true hc
  have hlt:i<4:=by
   have h:(i:Int)<4:=hc
   omega
  have hj:((i:Int)).toNat=i:=by omega
  conv=>whnf
  refine ⟨_,fun _=>call77 _ _, ?_⟩
  conv=>whnf
  refine ⟨by exact g0,fun h=> ?_,fun h=> ?_⟩
  ·exact retQ _ ⟨_,rfl⟩
  ·conv=>whnf
   refine ⟨by exact g0,i+1,hlt,by omega,rfl,rfl, ?_, ?_⟩<;>exact ent
 ·conv=>whnf
  refine ⟨by exact g0,fun h=> ?_,fun h=> ?_⟩
  ·exact retQ _ ⟨_,rfl⟩
  ·exact retQ _ ⟨_,rfl⟩
structure Yd where
 c:Int
 b:Int
 deriving Inhabited
def eYd (y:Yd):List PV:= [.int .i64 y.c, .int .i64 y.b]
def YldOK (l:List Cd) (y:Yd):Prop:=(0≤y.c∧y.c<l.length)∧(y.b= -1∨(0≤y.b∧y.b<l.length)∧ltC l y.b y.c)
def QCho (l:List Cd) (c:CallRes):Prop:=∃(r x y:Int) (ys:List Yd) (e:Int),c=⟨.tup [.agg [.int .i64 r, .int .i64 x, .int .i64 y, .sl 0 2 ys.length (fl eYd ys)], .int .i64 e], [], []⟩∧(∀y∈ys,YldOK l y)∧ys.length≤l.length
structure Cst14 where
 i:Nat
 ys:List Yd
 r:Int
 x:Int
 y:Int
 fa:Int
 fb:Int
 ls:Int
 ms:Int
structure Inv14 (l:List Cd) (a:List Int) (s:Cst14):Prop where
 hi:s.i≤a.length
 ok:∀y∈s.ys,YldOK l y
 ly:s.ys.length≤s.i
 hl:s.ls= -1∨s.ls∈a.take s.i
 hm:s.ms= -1∨s.ms∈a.take s.i
theorem take_mem1 {a:List Int} {i:Nat} {z:Int} (h:z= -1∨z∈a.take i):z= -1∨z∈a.take (i+1):=h.imp_right fun h=>(List.take_sublist_take_left (Nat.le_succ i)).subset h
theorem take_mem2 {a:List Int} {i:Nat} (h:i<a.length):a.getD i default∈a.take (i+1):=by
 rw [List.take_succ_eq_append_getElem h]
 have:a.getD i default=a[i]:=by simp [List.getD,h]
 rw [this];exact List.mem_append_right _ (List.mem_singleton.2 rfl)
theorem yld_ok {l:List Cd} {a:List Int} {i:Nat} {z:Int} (h:OrdP l l.length a) (hi:i<a.length) (hz:z= -1∨z∈a.take i):YldOK l ⟨a.getD i default,z⟩:=by
 refine ⟨h.1 _ (getD_memI hi), ?_⟩
 rcases hz with rfl | hz
 ·exact .inl rfl
 ·right
  obtain ⟨j,hj,rfl⟩:=List.mem_iff_getElem.1 hz
  rw [List.length_take] at hj
  rw [List.getElem_take]
  have:a.getD i default=a[i]:=by simp [List.getD,hi]
  rw [this]
  exact ⟨h.1 _ (List.getElem_mem _),(List.pairwise_iff_getElem.1 h.2) j i (by omega) hi (by omega)⟩
theorem inv14_push {l:List Cd} {a:List Int} {s:Cst14} (h:Inv14 l a s) (ho:OrdP l l.length a) (hi:s.i<a.length) {z:Int} (hz:z= -1∨z∈a.take s.i) (r x y fa fb:Int):
  Inv14 l a ⟨s.i+1,s.ys++ [⟨a.getD s.i default,z⟩],r,x,y,fa,fb,s.ls,s.ms⟩ where
 hi:=hi
 ok:=fun q hq=>by
  rcases List.mem_append.1 hq with hq | hq
  ·exact h.ok q hq
  ·rw [List.mem_singleton] at hq;subst hq;exact yld_ok ho hi hz
 ly:=by have:=h.ly;simp;omega
 hl:=take_mem1 h.hl
 hm:=take_mem1 h.hm
theorem inv14_keep {l:List Cd} {a:List Int} {s:Cst14} (h:Inv14 l a s) (hi:s.i<a.length) {z z':Int} (hz:z=s.ls∨z=a.getD s.i default) (hz':z'=s.ms∨z'=a.getD s.i default) (r x y fa fb:Int):
  Inv14 l a ⟨s.i+1,s.ys,r,x,y,fa,fb,z,z'⟩ where
 hi:=hi
 ok:=h.ok
 ly:=Nat.le_succ_of_le h.ly
 hl:=by
  rcases hz with rfl | rfl
  ·exact take_mem1 h.hl
  ·exact .inr (take_mem2 hi)
 hm:=by
  rcases hz' with rfl | rfl
  ·exact take_mem1 h.hm
  ·exact .inr (take_mem2 hi)
theorem q43 (τ:Nat) (l:List Cd) (d v b g1 g2 w:Int) (hl:l.length≤1000000000):PureCallQ Tryz.prog 43 [.sl τ 7 l.length (fl eCd l), .int .i64 d, .int .i64 v, .int .i64 b, .agg [.int .i64 g1, .int .i64 g2], .int .i64 w] [] (QCho l):=by
 refine pure_callQ mix Tryz.func43 fits43 rfl ?_
 conv=>whnf
 refine ⟨by exact g0,LSem.regQ ?_⟩
 conv=>whnf
 refine ⟨_,q70 _ _ _ _ _ _ _ _ hl,⟨by exact g0,by exact g0⟩, ?_⟩
 rintro _ ⟨e,rfl⟩
 conv=>whnf
 refine ⟨by exact g0, ?_⟩
 conv=>whnf
 refine ⟨by exact g0,fun hc=> ?_,fun hc=> ?_⟩
 ·exact retQ _ ⟨_,_,_, [],_,rfl,fun y hy=>(by cases hy),Nat.zero_le _⟩
 conv=>whnf
 refine ⟨by exact g0,LSem.regQ ?_⟩
 conv=>whnf
 refine ⟨_,q71 _ _ _ _ hl,⟨by exact g0,by exact g0⟩, ?_⟩
 rintro _ ⟨a,e2,rfl,ha,hal⟩
 conv=>whnf
 refine ⟨by exact g0, ?_⟩
 conv=>whnf
 refine ⟨by exact g0, ?_⟩
 refine LSem.adoptF 240 3 1000000 97 2 2 _ rfl rfl rfl ?_
 refine LSem.loop (n:=135) mix (α:=Cst14) (Inv14 l a)
  (fun s=> [(0, .sl τ 7 l.length (fl eCd l)),(3, .int .i64 b),(5, .int .i64 w),(12, .pt 192 0 0),(15, .pt 240 0 0),(16, .int .i64 s.ls),(17, .int .i64 s.ms),(18, .pt 288 0 0),(48, .sl 0 1 a.length (fl eInt a)),(49, .int .i64 a.length),(50, .int .i64 s.i)])
  (fun s=> [(192, .box [.int .i64 0, .int .i64 0, .int .i64 0, .nil 2]),(240, .box [.int .i64 s.r, .int .i64 s.x, .int .i64 s.y, .os 1000000]),(288, .box [.int .i64 s.fa, .int .i64 s.fb]),(1000000, .row 0 97 2 s.ys.length (fl eYd s.ys))]) (fun s=>a.length - s.i) ⟨0, [],0,g1,g2,0,0, -1, -1⟩
  ⟨Nat.zero_le _,fun y hy=>(by cases hy),Nat.zero_le _, .inl rfl, .inl rfl⟩ ?_ ?_
 ·refine ⟨rfl,rfl, ?_, ?_⟩<;>exact ent
 rintro ⟨i,ys,r,x,y,fa,fb,ls,ms⟩ hI
 dsimp only
 have hi:i≤a.length:=hI.hi
 have hly:ys.length≤i:=hI.ly
 conv=>whnf
 refine ⟨trivial,fun hc=> ?_,fun hc=> ?_⟩
 ·replace hc:=of_decide_eq_true hc
  have hlt:i<a.length:=by
   have h:(i:Int)<a.length:=hc
   omega
  have hj:((i:Int)).toNat=i:=by omega
  have hm:=ha.1 _ (getD_memI hlt)
  have hP:=fun z hz r x y fa fb=>inv14_push hI ha hlt (z:=z) hz r x y fa fb
  have hK:=fun z z' hz hz' r x y fa fb=>inv14_keep hI hlt (z:=z) (z':=z') hz hz' r x y fa fb
  have hL:=hI.hl
  have hM:=hI.hm
  dsimp only at hP hK hL hM
  conv=>whnf
  rw [hj]
  generalize a.getD i default=n at hm hP hK⊢
  refine ⟨by exact g0,LSem.regQ ?_⟩
  conv=>whnf
  refine ⟨_,q72 _ _,⟨by exact g0,by exact g0⟩, ?_⟩
  rintro _ ⟨b1,b2,bb,rfl⟩
  conv=>whnf
  refine ⟨by exact g0, ?_⟩
  conv=>whnf
  refine ⟨by exact g0,LSem.regQ ?_⟩
  conv=>whnf
  refine ⟨_,q73 _ _ _ _,⟨by exact g0,by exact g0⟩, ?_⟩
  rintro _ ⟨m1,m2,mb,rfl⟩
  conv=>whnf
  refine ⟨by exact g0, ?_⟩
  conv=>whnf
  refine ⟨by exact g0,fun h=> ?_,fun h=> ?_⟩
  ·clear hK
   have hq:=fun z=>fl_push eYd ys ⟨n,z⟩
   have hxl:∀z,(ys++ [(⟨n,z⟩:Yd)]).length=ys.length+1:=fun z=>by simp
   conv=>whnf
   refine ⟨by exact g0,fun h=> ?_,fun h=> ?_⟩
   ·have q:=hq ls
    conv=>whnf
    refine ⟨by exact g0,fun h=> ?_,fun h=> ?_⟩
    ·conv=>whnf
     refine ⟨by exact g0,_,hP ls hL r x y b1 b2,by dsimp only;omega,rfl,rfl, ?_, ?_⟩<;>exact ent
    ·conv=>whnf
     refine ⟨by exact g0,_,hP ls hL r x y fa fb,by dsimp only;omega,rfl,rfl, ?_, ?_⟩<;>exact ent
   ·have q:=hq ms
    conv=>whnf
    refine ⟨by exact g0,fun h=> ?_,fun h=> ?_⟩
    ·conv=>whnf
     refine ⟨by exact g0,_,hP ms hM r x y b1 b2,by dsimp only;omega,rfl,rfl, ?_, ?_⟩<;>exact ent
    ·conv=>whnf
     refine ⟨by exact g0,_,hP ms hM r x y fa fb,by dsimp only;omega,rfl,rfl, ?_, ?_⟩<;>exact ent
  ·clear hP
   conv=>whnf
   refine ⟨by exact g0,fun h=> ?_,fun h=> ?_⟩
   ·conv=>whnf
    refine ⟨by exact g0,fun h=> ?_,fun h=> ?_⟩
    ·conv=>whnf
     refine ⟨by exact g0,_,hK n n (.inr rfl) (.inr rfl) r m1 m2 fa fb,by dsimp only;omega,rfl,rfl, ?_, ?_⟩<;>exact ent
    ·conv=>whnf
     refine ⟨by exact g0,_,hK n ms (.inr rfl) (.inl rfl) r m1 m2 fa fb,by dsimp only;omega,rfl,rfl, ?_, ?_⟩<;>exact ent
   ·conv=>whnf
    refine ⟨by exact g0,fun h=> ?_,fun h=> ?_⟩
    ·conv=>whnf
     refine ⟨by exact g0,_,hK ls n (.inl rfl) (.inr rfl) r m1 m2 fa fb,by dsimp only;omega,rfl,rfl, ?_, ?_⟩<;>exact ent
    ·conv=>whnf
     refine ⟨by exact g0,_,hK ls ms (.inl rfl) (.inl rfl) r m1 m2 fa fb,by dsimp only;omega,rfl,rfl, ?_, ?_⟩<;>exact ent
 ·have hok:=hI.ok
  dsimp only at hok
  have hlen:ys.length≤l.length:=by omega
  conv=>whnf
  refine ⟨by exact g0,LSem.regQ ?_⟩
  conv=>whnf
  refine ⟨_,q74 _ _ _,⟨by exact g0,by exact g0⟩, ?_⟩
  rintro _ ⟨t,rfl⟩
  conv=>whnf
  refine ⟨by exact g0, ?_⟩
  conv=>whnf
  refine ⟨by exact g0,fun h=> ?_,fun h=> ?_⟩
  ·conv=>whnf
   refine ⟨by exact g0,fun h=> ?_,fun h=> ?_⟩
   ·exact retQ _ ⟨_,_,_,ys,_,rfl,hok,hlen⟩
   ·exact retQ _ ⟨_,_,_,ys,_,rfl,hok,hlen⟩
  ·exact retQ _ ⟨_,_,_,ys,_,rfl,hok,hlen⟩
def c94L1:C:=(sr [kk 27 (.bi false .lss 26 25)] (.seq (.cond 27 .skip (.exit 0)) (.seq (.block 1 (sr [kk 28 (.ia 1 24 26),kk 29 (.ld 1 false 28),km 6 29] (.seq (sr [km 30 6,kk 31 (cl 77 [30,(cn 10000)]),kk 32 (.un false .not 31)] (.cond 32 (sr [kk 2 (.mv (cn 1))] .ret) .skip)) (.reg [km 33 4,km 34 6,kk 35 (.bi false .add 33 34),km 4 35])))) (.reg [kk 36 (.bi false .add 26 (cn 1)),km 26 36]))))
def c94:C:=(sr [kk 1 (.bx 2 0),kk 2 (.mv (cn 0))] (sr [kk 7 (.fa 0 1),kk 8 (.ld 1 false 7),kk 9 (.len 8),km 3 9] (.seq (sr [km 10 3,kk 11 (.bi false .eql 10 (cn 0)),km 12 11,kg 13 12 false (.fa 0 1),kg 14 12 false (.ld 1 false 13),kg 15 12 false (.mv 3),kg 16 12 false (.bi false .sub 15 (cn 1)),kg 17 12 false (.ia 1 14 16),kg 18 12 false (.ld 1 false 17),kg 19 12 false (.bi false .eql 18 (cn 0)),kk 20 (.pick 12 (.c (.bool true)) 19)] (.cond 20 (sr [kk 2 (.mv (cn 3))] .ret) .skip)) (.seq (sr [km 21 3,kk 22 (.bi false .gtr 21 (cn 24))] (.cond 22 (sr [kk 2 (.mv (cn 10))] .ret) .skip)) (sr [kk 4 (.mv (cn 0))] (.seq (sr [kk 23 (.fa 0 1),kk 24 (.ld 1 false 23),kk 25 (.len 24),kk 26 (.mv (cn 0))] (.block 0 (.loop c94L1))) (.seq (sr [km 37 4,kk 38 (.fa 1 1),kk 39 (.ld 1 false 38),kk 40 (.bi false .neq 37 39)] (.cond 40 (sr [kk 2 (.mv (cn 2))] .ret) .skip)) (sr [kk 2 (.mv (cn 0))] .ret))))))))
theorem fits94:fits Tryz.prog false Tryz.f94 1 41 [(2,none)]=some c94.er:=by kernel_rfl
def c65L1:C:=(sr [kk 38 (.bi false .lss 37 36)] (.seq (.cond 38 .skip (.exit 0)) (.seq (.block 1 (sr [kk 39 (.ia 1 35 37),kk 40 (.ld 1 false 39),km 7 40] (sr [km 41 7,kk 42 (cl 77 [41,(cn 2251799813685248)]),kk 43 (.un false .not 42)] (.cond 43 (sr [kk 4 (.mv (.c (.bool false)))] .ret) .skip)))) (.reg [kk 44 (.bi false .add 37 (cn 1)),km 37 44]))))
def c65:C:=(sr [kk 2 (.bx 2 0),kk 3 (.bx 1 1),kk 4 (.mv (.c (.bool false)))] (sr [kk 8 (.fa 0 3),kk 9 (.ld 1 false 8),kk 10 (.len 9),km 5 10] (.seq (.seq (.cut (.reg [kk 11 (.ld 2 true 2),kk 12 (cl 94 [11]),kk 13 (.bi false .neq 12 (cn 0)),km 14 13,kg 15 14 false (.mv 5),kg 16 14 false (.fa 0 2),kg 17 14 false (.ld 1 false 16),kg 18 14 false (.len 17),kg 19 14 false (.bi false .gtr 15 18),kk 20 (.pick 14 (.c (.bool true)) 19),km 21 20,kg 22 21 false (.mv 5),kg 23 21 false (.bi false .gtr 22 (cn 0)),kg 24 21 false (.mv 23),kg 25 24 true (.fa 0 3),kg 26 24 true (.ld 1 false 25),kg 27 24 true (.mv 5),kg 28 24 true (.bi false .sub 27 (cn 1)),kg 29 24 true (.ia 1 26 28),kg 30 24 true (.ld 1 false 29),kg 31 24 true (.bi false .eql 30 (cn 0)),kg 32 21 false (.pick 24 31 (.c (.bool false))),kk 33 (.pick 21 (.c (.bool true)) 32)])) (.cond 33 (sr [kk 4 (.mv (.c (.bool false)))] .ret) .skip)) (.seq (sr [kk 34 (.fa 0 3),kk 35 (.ld 1 false 34),kk 36 (.len 35),kk 37 (.mv (cn 0))] (.block 0 (.loop c65L1))) (sr [kk 4 (.mv (.c (.bool true)))] .ret)))))
theorem fits65:fits Tryz.prog false Tryz.f65 2 45 [(4,none)]=some c65.er:=by kernel_rfl
def c80:C:=(sr [kk 2 (.bx 2 0),kk 3 (.bx 1 1),kk 4 (.mv (cn 0))] (.seq (.seq (.cut (.reg [kk 6 (.ld 2 true 2),kk 7 (cl 94 [6]),km 5 7])) (sr [km 8 5,kk 9 (.bi false .neq 8 (cn 0))] (.cond 9 (sr [km 10 5,km 4 10] .ret) .skip))) (.seq (.seq (.cut (.reg [kk 11 (.ld 2 true 2),kk 12 (.ld 1 true 3),kk 13 (cl 65 [11,12]),kk 14 (.un false .not 13)])) (.cond 14 (sr [kk 4 (.mv (cn 3))] .ret) .skip)) (sr [kk 4 (.mv (cn 0))] .ret))))
theorem fits80:fits Tryz.prog false Tryz.f80 2 15 [(4,none)]=some c80.er:=by kernel_rfl
def c75L1:C:=(sr [kk 18 (.bi false .lss 17 16)] (.seq (.cond 18 .skip (.exit 0)) (.seq (.block 1 (sr [km 19 17,kk 20 (.ia 4 15 17),kk 21 (.ld 4 true 20),kk 4 (.al [(.int .i64 0),(.int .i64 0),(.nil 1),(.int .i64 0)]),km 3 19,kz (.st 4 4 21)] (.seq (sr [kk 22 (.fa 0 4),kk 23 (.ld 1 false 22),kk 24 (.fa 0 1),kk 25 (.ld 1 false 24),kk 26 (.bi false .sub 25 (cn 1)),kk 27 (cl 77 [23,26]),kk 28 (.un false .not 27),km 29 28,kg 30 29 false (.fa 1 4),kg 31 29 false (.ld 1 false 30),kg 32 29 false (.fa 0 1),kg 33 29 false (.ld 1 false 32),kg 34 29 false (.bi false .sub 33 (cn 1)),kg 35 29 false (cl 77 [31,34]),kg 36 29 false (.un false .not 35),kk 37 (.pick 29 (.c (.bool true)) 36)] (.cond 37 (sr [kk 2 (.mv (cn 11))] .ret) .skip)) (.seq (sr [kk 38 (.fa 1 4),kk 39 (.ld 1 false 38),kk 40 (.fa 0 4),kk 41 (.ld 1 false 40),kk 42 (.bi false .leq 39 41)] (.cond 42 (sr [kk 2 (.mv (cn 12))] .ret) .skip)) (.seq (.seq (.drw [km 43 3,kk 44 (.bi false .gtr 43 (cn 0)),km 45 44,kg 46 45 true (.fa 0 4),kg 47 45 true (.ld 1 false 46),kg 48 45 true (.fa 1 1),kg 49 45 true (.ld 1 false 48),kg 50 45 true (.mv 3),kg 51 45 true (.bi false .sub 50 (cn 1)),kg 52 45 true (.ia 4 49 51),kg 53 45 true (.fa 0 52),kg 54 45 true (.ld 1 false 53),kg 55 45 true (.bi false .leq 47 54),kk 56 (.pick 45 55 (.c (.bool false)))] (pl [(3,[5,6,7,8,9,10,11],46),(4,[5,6,7,8,9,10,11],47),(5,[7,8],48),(6,[7,8],49)])) (.cond 56 (sr [kk 2 (.mv (cn 4))] .ret) .skip)) (.seq (.cut (.reg [kk 57 (.fa 2 4),kk 58 (.ld 2 true 57),kk 59 (cl 94 [58]),km 5 59])) (sr [km 60 5,kk 61 (.bi false .neq 60 (cn 0))] (.cond 61 (sr [km 62 5,km 2 62] .ret) .skip)))))))) (.reg [kk 63 (.bi false .add 17 (cn 1)),km 17 63]))))
def c75:C:=(sr [kk 1 (.bx 2 0),kk 2 (.mv (cn 0))] (.seq (sr [kk 6 (.fa 0 1),kk 7 (.ld 1 false 6),kk 8 (.bi false .lss 7 (cn 1)),km 9 8,kg 10 9 false (.fa 0 1),kg 11 9 false (.ld 1 false 10),kg 12 9 false (.bi false .gtr 11 (cn 40)),kk 13 (.pick 9 (.c (.bool true)) 12)] (.cond 13 (sr [kk 2 (.mv (cn 3))] .ret) .skip)) (.seq (sr [kk 14 (.fa 1 1),kk 15 (.ld 1 false 14),kk 16 (.len 15),kk 17 (.mv (cn 0))] (.block 0 (.loop c75L1))) (sr [kk 2 (.mv (cn 0))] .ret))))
theorem fits75:fits Tryz.prog false Tryz.f75 1 64 [(2,none)]=some c75.er:=by kernel_rfl
def c60:C:=(sr [kk 1 (.bx 2 0),kk 2 (.mv (.c (.nil 1))),kk 3 (.mv (cn 0))] (.seq (.seq (.cut (.reg [kk 5 (.ld 2 true 1),kk 6 (cl 75 [5]),km 4 6])) (sr [km 7 4,kk 8 (.bi false .neq 7 (cn 0))] (.cond 8 (sr [km 9 4,kk 2 (.mv (.c (.nil 1))),km 3 9] .ret) .skip))) (sr [kk 10 (.fa 1 1),kk 11 (.ld 1 false 10),kk 12 (.len 11),kk 13 (.mks 156 1 24 [(.sl 0 1 0 (fun _=> []))] 12 12),km 2 13,kk 3 (.mv (cn 0))] .ret)))
theorem fits60:fits Tryz.prog false Tryz.f60 1 14 [(2,none),(3,none)]=some c60.er:=by kernel_rfl
def RchOK (ws:List Int) (den:Int):Prop:=1≤ws.length∧ws.length≤24∧0<den
def QRch (ws:List Int) (den:Int) (c:CallRes):Prop:=∃e:Int,c=⟨.int .i64 e, [], []⟩∧(e=0→RchOK ws den)
theorem imp_ne {e:Int} {P:Prop} (h:e≠0):e=0→P:=fun h'=>absurd h' h
theorem imp_c {e:Int} {P:Prop} (h:e≠0:=by decide):e=0→P:=fun h'=>absurd h' h
theorem q94 (τ:Nat) (ws:List Int) (den:Int) (hl:ws.length≤4611686018427387904):PureCallQ Tryz.prog 94 [.agg [.sl τ 1 ws.length (fl eInt ws), .int .i64 den]] [] (QRch ws den):=by
 refine pure_callQ mix Tryz.func94 fits94 rfl ?_
 conv=>whnf
 have e1:((ws.length:Int) - 1).toNat=ws.length - 1:=by omega
 cases hb:((ws.length:Int)==0) with
 | true=>
   rw [e1]
   refine ⟨by exact g0,fun hc=> ?_,fun hc=> ?_⟩
   ·exact retQ _ ⟨3,rfl,imp_c⟩
   ·cases hc
 | false=>
 have hb2:ws.length≠0:=by simp only [bp] at hb;omega
 rw [e1]
 refine ⟨by exact g0,fun hc=> ?_,fun hc=> ?_⟩
 ·exact retQ _ ⟨3,rfl,imp_c⟩
 simp only [bp] at hc
 conv=>whnf
 refine ⟨by exact g0,fun hc=> ?_,fun hc=> ?_⟩
 ·exact retQ _ ⟨10,rfl,imp_c⟩
 rename_i hc2
 simp only [bp] at hc
 conv=>whnf
 refine ⟨by exact g0, ?_⟩
 refine LSem.loop (n:=41) mix (α:=Nat×Int) (fun s=>s.1≤ws.length∧0≤s.2∧s.2≤10000*s.1∧∀j,j<s.1→0≤ws.getD j default∧ws.getD j default≤s.2)
  (fun s=> [(1, .pt 16 0 0),(4, .int .i64 s.2),(24, .sl τ 1 ws.length (fl eInt ws)),(25, .int .i64 ws.length),(26, .int .i64 s.1)])
  (fun s=> [(16, .box [.sl τ 1 ws.length (fl eInt ws), .int .i64 den])]) (fun s=>ws.length - s.1) (0,0) ⟨Nat.zero_le _,Int.le_refl _,by decide,fun j hj=>by omega⟩ ?_ ?_
 ·refine ⟨rfl,rfl, ?_, ?_⟩<;>exact ent
 rintro ⟨i,sm⟩ ⟨hi,h0,h1,h2⟩
 dsimp only at hi h0 h1 h2⊢
 conv=>whnf
 refine ⟨trivial,fun hc=> ?_,fun hc=> ?_⟩
 ·replace hc:=of_decide_eq_true hc
  have hlt:i<ws.length:=by
   have h:(i:Int)<ws.length:=hc
   omega
  have hj:((i:Int)).toNat=i:=by omega
  conv=>whnf
  rw [hj]
  refine ⟨_,fun _=>call77 _ _, ?_⟩
  conv=>whnf
  refine ⟨by exact g0,fun h=> ?_,fun h=> ?_⟩
  ·exact retQ _ ⟨1,rfl,imp_c⟩
  ·simp only [bp] at h
   conv=>whnf
   refine ⟨by exact g0,(i+1,sm+ws.getD i default),⟨hlt,by dsimp only;omega,by dsimp only;omega,fun j hj=> ?_⟩,by dsimp only;omega,rfl,rfl, ?_, ?_⟩
   ·dsimp only at hj⊢
    by_cases e:j=i
    ·subst e;omega
    ·have:=h2 j (by omega);omega
   ·exact ent
   ·exact ent
 ·have hk:i=ws.length:=by
    have h:¬(i:Int)<ws.length:=of_decide_eq_false hc
    omega
  have hl:=h2 (ws.length - 1)
  conv=>whnf
  refine ⟨by exact g0,fun h=> ?_,fun h=> ?_⟩
  ·exact retQ _ ⟨2,rfl,imp_c⟩
  ·simp only [bp] at h
   exact retQ _ ⟨_,rfl,fun _=>⟨by omega,by omega,by
    have h3:=hl (by omega)
    omega⟩⟩
def QVal (P:Prop) (c:CallRes):Prop:=∃b:Bool,c=⟨.bool b, [], []⟩∧(b=true→P)
def QErr (P:Prop) (c:CallRes):Prop:=∃e:Int,c=⟨.int .i64 e, [], []⟩∧(e=0→P)
theorem imp_f {P:Prop}:false=true→P:=fun h=>by cases h
theorem q65 (τ τ':Nat) (ws:List Int) (den:Int) (ps:List Int) (hl:ws.length≤4611686018427387904) (hp:ps.length≤4611686018427387904):
  PureCallQ Tryz.prog 65 [.agg [.sl τ 1 ws.length (fl eInt ws), .int .i64 den], .agg [.sl τ' 1 ps.length (fl eInt ps)]] [] (QVal (RchOK ws den∧ps.length≤ws.length)):=by
 refine pure_callQ mix Tryz.func65 fits65 rfl ?_
 conv=>whnf
 refine ⟨by exact g0,LSem.regQ ?_⟩
 conv=>whnf
 refine ⟨_,q94 _ _ _ hl,⟨by exact g0,by exact g0⟩, ?_⟩
 rintro _ ⟨e,rfl,he⟩
 conv=>whnf
 have e1:((ps.length:Int) - 1).toNat=ps.length - 1:=by omega
 rw [e1]
 have hb:0<ps.length→ps.length - 1<ps.length:=by omega
 refine ⟨by exact g2, ?_⟩
 conv=>whnf
 refine ⟨by exact g0,fun h=> ?_,fun h=> ?_⟩
 ·exact retQ _ ⟨false,rfl,imp_f⟩
 simp only [bp] at h
 conv=>whnf
 refine ⟨by exact g0, ?_⟩
 refine LSem.loop (n:=45) mix (α:=Nat) (fun i=>i≤ps.length)
  (fun i=> [(35, .sl τ' 1 ps.length (fl eInt ps)),(36, .int .i64 ps.length),(37, .int .i64 i)])
  (fun i=> []) (fun i=>ps.length - i) 0 (Nat.zero_le _) ?_ ?_
 ·refine ⟨rfl,rfl, ?_, ?_⟩<;>exact ent
 intro i hi
 conv=>whnf
 refine ⟨trivial,fun hc=> ?_,fun hc=> ?_⟩
 ·replace hc:=of_decide_eq_true hc
  have hlt:i<ps.length:=by
   have h:(i:Int)<ps.length:=hc
   omega
  have hj:((i:Int)).toNat=i:=by omega
  conv=>whnf
  rw [hj]
  refine ⟨_,fun _=>call77 _ _, ?_⟩
  conv=>whnf
  refine ⟨by exact g0,fun h=> ?_,fun h=> ?_⟩
  ·exact retQ _ ⟨false,rfl,imp_f⟩
  ·conv=>whnf
   refine ⟨by exact g0,i+1,hlt,by omega,rfl,rfl, ?_, ?_⟩<;>exact ent
 ·exact retQ _ ⟨true,rfl,fun _=>⟨he (by omega),by omega⟩⟩
theorem q80 (τ τ':Nat) (ws:List Int) (den:Int) (ps:List Int) (hl:ws.length≤4611686018427387904) (hp:ps.length≤4611686018427387904):
  PureCallQ Tryz.prog 80 [.agg [.sl τ 1 ws.length (fl eInt ws), .int .i64 den], .agg [.sl τ' 1 ps.length (fl eInt ps)]] [] (QErr (RchOK ws den∧ps.length≤ws.length)):=by
 refine pure_callQ mix Tryz.func80 fits80 rfl ?_
 conv=>whnf
 refine ⟨by exact g0,LSem.regQ ?_⟩
 conv=>whnf
 refine ⟨_,q94 _ _ _ hl,⟨by exact g0,by exact g0⟩, ?_⟩
 rintro _ ⟨e,rfl,he⟩
 conv=>whnf
 refine ⟨by exact g0, ?_⟩
 conv=>whnf
 refine ⟨by exact g0,fun h=> ?_,fun h=> ?_⟩
 ·simp only [bp] at h
  exact retQ _ ⟨e,rfl,imp_ne h⟩
 conv=>whnf
 refine ⟨by exact g0,LSem.regQ ?_⟩
 conv=>whnf
 refine ⟨_,q65 _ _ _ _ _ hl hp,⟨by exact g0,by exact g0⟩, ?_⟩
 rintro _ ⟨b,rfl,hb⟩
 conv=>whnf
 refine ⟨by exact g0, ?_⟩
 conv=>whnf
 refine ⟨by exact g0,fun h=> ?_,fun h=> ?_⟩
 ·exact retQ _ ⟨3,rfl,imp_c⟩
 ·simp only [bp] at h
  exact retQ _ ⟨0,rfl,fun _=>hb h⟩
structure RivOK (N:Int) (lk:List Lk):Prop where
 n1:1≤N
 n2:N≤40
 ab:∀i,i<lk.length→(0≤(lk.getD i default).a∧(lk.getD i default).a<N)∧0≤(lk.getD i default).b∧(lk.getD i default).b<N
theorem q75 (τ:Nat) (N:Int) (lk:List Lk) (hl:lk.length≤1000000000) (hw:∀i,i<lk.length→(lk.getD i default).ws.length≤1000000000):
  PureCallQ Tryz.prog 75 [.agg [.int .i64 N, .sl τ 4 lk.length (fl (eLk 0) lk)]] [] (QErr (RivOK N lk)):=by
 refine pure_callQ mix Tryz.func75 fits75 rfl ?_
 conv=>whnf
 refine ⟨by exact g0,fun h=> ?_,fun h=> ?_⟩
 ·exact retQ _ ⟨3,rfl,imp_c⟩
 simp only [bp] at h
 conv=>whnf
 refine ⟨by exact g0, ?_⟩
 refine LSem.loop (n:=64) mix (α:=Nat) (fun i=>i≤lk.length∧∀j,j<i→(0≤(lk.getD j default).a∧(lk.getD j default).a<N)∧0≤(lk.getD j default).b∧(lk.getD j default).b<N)
  (fun i=> [(1, .pt 16 0 0),(15, .sl τ 4 lk.length (fl (eLk 0) lk)),(16, .int .i64 lk.length),(17, .int .i64 i)])
  (fun i=> [(16, .box [.int .i64 N, .sl τ 4 lk.length (fl (eLk 0) lk)])]) (fun i=>lk.length - i) 0 ⟨Nat.zero_le _,fun j hj=>by omega⟩ ?_ ?_
 ·refine ⟨rfl,rfl, ?_, ?_⟩<;>exact ent
 rintro i ⟨hi,hI⟩
 conv=>whnf
 refine ⟨trivial,fun hc=> ?_,fun hc=> ?_⟩
 ·replace hc:=of_decide_eq_true hc
  have hlt:i<lk.length:=by
   have h:(i:Int)<lk.length:=hc
   omega
  have hj:((i:Int)).toNat=i:=by omega
  have hw1:=hw i hlt
  conv=>whnf
  rw [hj]
  refine ⟨_,fun _=>call77 _ _, ?_⟩
  conv=>whnf
  refine ⟨_,fun _=>call77 _ _, ?_⟩
  conv=>whnf
  refine ⟨by exact g2,fun h=> ?_,fun h=> ?_⟩
  ·exact retQ _ ⟨11,rfl,imp_c⟩
  simp only [bp] at h
  conv=>whnf
  refine ⟨by exact g0,fun h=> ?_,fun h=> ?_⟩
  ·exact retQ _ ⟨12,rfl,imp_c⟩
  conv=>whnf
  refine ⟨rfl, ?_⟩
  have e1:((i:Int) - 1).toNat=i - 1:=by omega
  have hb:0<i→i - 1<lk.length:=by omega
  conv=>whnf
  rw [e1]
  refine ⟨by exact g2,fun h=> ?_,fun h=> ?_⟩
  ·exact retQ _ ⟨4,rfl,imp_c⟩
  conv=>whnf
  refine ⟨by exact g0,LSem.regQ ?_⟩
  conv=>whnf
  refine ⟨_,q94 _ _ _ (by omega),⟨by exact g0,by exact g0⟩, ?_⟩
  rintro _ ⟨e,rfl,he⟩
  conv=>whnf
  refine ⟨by exact g0, ?_⟩
  conv=>whnf
  refine ⟨by exact g0,fun h=> ?_,fun h=> ?_⟩
  ·simp only [bp] at h
   exact retQ _ ⟨e,rfl,imp_ne h⟩
  ·conv=>whnf
   refine ⟨by exact g0,i+1,⟨hlt,fun j hj=> ?_⟩,by omega,rfl,rfl, ?_, ?_⟩
   ·by_cases e:j=i
    ·subst e;omega
    ·exact hI j (by omega)
   ·exact ent
   ·exact ent
 ·have hk:i=lk.length:=by
    have h:¬(i:Int)<lk.length:=of_decide_eq_false hc
    omega
  exact retQ _ ⟨0,rfl,fun _=>⟨by omega,by omega,fun j hj=>hI j (by omega)⟩⟩
structure Wv where
 n:Nat
 f:Nat→List PV
 ok:∃ps:List Int,ps.length=n∧RowEq n f (fl eInt ps)
def wv0:Wv:=⟨0,fun _=> [], [],rfl,rowEq0 _ _⟩
instance:Inhabited Wv:=⟨wv0⟩
def eWv (τ:Nat) (w:Wv):List PV:= [.sl τ 1 w.n w.f]
structure Wt where
 w:Wv
 t:Nat
 deriving Inhabited
def eWt (x:Wt):List PV:=eWv x.t x.w
def QEmp (n:Nat) (c:CallRes):Prop:=∃(w:List Wt) (e:Int),c=⟨.tup [.sl 0 1 w.length (fl eWt w), .int .i64 e], [], []⟩∧(e=0→w.length=n)∧w.length≤n∧∀i,i<w.length→(w.getD i default).w.n≤1000000
theorem q60 (τ:Nat) (N:Int) (lk:List Lk) (hl:lk.length≤1000000000) (hw:∀i,i<lk.length→(lk.getD i default).ws.length≤1000000000):
  PureCallQ Tryz.prog 60 [.agg [.int .i64 N, .sl τ 4 lk.length (fl (eLk 0) lk)]] [] (QEmp lk.length):=by
 refine pure_callQ mix Tryz.func60 fits60 rfl ?_
 conv=>whnf
 refine ⟨by exact g0,LSem.regQ ?_⟩
 conv=>whnf
 refine ⟨_,q75 _ _ _ hl hw,⟨by exact g0,by exact g0⟩, ?_⟩
 rintro _ ⟨e,rfl,he⟩
 conv=>whnf
 refine ⟨by exact g0, ?_⟩
 conv=>whnf
 refine ⟨by exact g0,fun h=> ?_,fun h=> ?_⟩
 ·simp only [bp] at h
  exact retQ _ ⟨[],e,rfl,imp_ne h,Nat.zero_le _,fun i hi=>absurd hi (Nat.not_lt_zero _)⟩
 conv=>whnf
 have q:RowEq lk.length (fun _=> [.sl 0 1 0 (fun _=> [])]) (fl eWt (List.replicate lk.length (⟨wv0,0⟩:Wt))):=fun j hj=>by
  have:(List.replicate lk.length (⟨wv0,0⟩:Wt)).getD j default=⟨wv0,0⟩:=by simp [List.getD,hj]
  unfold fl
  rw [this];rfl
 have q2:lk.length=(List.replicate lk.length (⟨wv0,0⟩:Wt)).length:=by simp
 refine retQ ⟨.tup [.sl 0 1 (List.replicate lk.length (⟨wv0,0⟩:Wt)).length (fl eWt (List.replicate lk.length (⟨wv0,0⟩:Wt))), .int .i64 0], [], []⟩ ⟨_,0,rfl,fun _=>q2.symm,by simp,fun i hi=>by
  rw [List.length_replicate] at hi
  rw [show (List.replicate lk.length (⟨wv0,0⟩:Wt)).getD i default=⟨wv0,0⟩ by simp [List.getD,hi]]
  exact Nat.zero_le _⟩ ?_
 conv=>whnf
 have hm:lk.length≤maxLen:=maxLen_ge (by omega)
 refine ⟨by exact g2, [], ?_⟩
 conv=>whnf
 refine ⟨rfl, ?_,trivial,trivial⟩
 exact ent
def c81L1:C:=(sr [kk 30 (.bi true .lss 29 28)] (.seq (.cond 30 .skip (.exit 0)) (.seq (.block 1 (sr [km 31 29,kk 32 (.ia 1 27 29),kk 33 (.ld 1 false 32),km 10 31,km 11 33] (sr [km 34 9,km 35 10,kk 36 (.ia 1 34 35),kk 37 (.ld 1 false 36),km 38 2,km 39 11,kk 40 (.bi true .mul 38 39),kk 41 (.bi true .add 37 40),kk 42 (.ia 1 34 35),kz (.st 1 42 41)] (.cut (sr [km 43 9,km 44 10,kk 45 (.ia 1 43 44),kk 46 (.ld 1 false 45),kk 47 (.bi true .gtr 46 (cn 1125899906842624))] (.cond 47 (sr [kk 48 (.bd [(.nil 1)] []),kz (.st 1 6 48),kk 7 (.mv (cn 0)),kk 8 (.mv (cn 1))] .ret) .skip)))))) (.reg [kk 49 (.bi true .add 29 (cn 1)),km 29 49]))))
def c81L2:C:=(.seq (sr [km 69 9,kk 70 (.len 69),kk 71 (.bi true .gtr 70 (cn 0)),km 72 71,kg 73 72 true (.mv 9),kg 74 72 true (.mv 9),kg 75 72 true (.len 74),kg 76 72 true (.bi true .sub 75 (cn 1)),kg 77 72 true (.ia 1 73 76),kg 78 72 true (.ld 1 false 77),kg 79 72 true (.bi true .eql 78 (cn 0)),kk 80 (.pick 72 79 (.c (.bool false)))] (.cond 80 .skip (.exit 2))) (.block 3 (.reg [km 81 9,km 82 9,kk 83 (.len 82),kk 84 (.bi true .sub 83 (cn 1)),kk 85 (.slc 1 81 none (some 84)),km 9 85])))
def c81:C:=(sr [kk 3 (.bx 2 0),kk 4 (.bx 1 1),kk 6 (.al [(.nil 1)]),kk 7 (.mv (cn 0)),kk 8 (.mv (cn 0))] (.seq (sr [km 13 2,kk 14 (cl 77 [13,(cn 1073741824)]),kk 15 (.un true .not 14)] (.cond 15 (sr [kk 16 (.bd [(.nil 1)] []),kz (.st 1 6 16),kk 7 (.mv (cn 0)),kk 8 (.mv (cn 1))] .ret) .skip)) (sr [kk 17 (.fa 0 3),kk 18 (.ld 1 false 17),kk 19 (.len 18),kk 20 (.bi true .add 19 (cn 1)),kk 21 (.mks 3 1 8 [(.int .i64 0)] 20 20),km 9 21] (sr [km 22 9,kk 23 (.fa 0 4),kk 24 (.ld 1 false 23),kk 25 (.cpy 1 22 24)] (.seq (sr [kk 26 (.fa 0 3),kk 27 (.ld 1 false 26),kk 28 (.len 27),kk 29 (.mv (cn 0))] (.block 0 (.loop c81L1))) (.seq (.drw [km 50 9,kk 51 (.ia 1 50 (cn 0)),kk 52 (.ld 1 false 51),kk 53 (.fa 1 3),kk 54 (.ld 1 false 53),kk 55 (.bi true .quo 52 54),km 12 55] (pl [(0,[3,4],50),(1,[3,4],51),(2,[3,4],52)])) (.seq (.drw [km 56 9,kk 57 (.ia 1 56 (cn 1)),kk 58 (.ld 1 false 57),km 59 9,kk 60 (.ia 1 59 (cn 0)),kk 61 (.ld 1 false 60),kk 62 (.fa 1 3),kk 63 (.ld 1 false 62),kk 64 (.bi true .rem 61 63),kk 65 (.bi true .add 58 64),kk 66 (.ia 1 56 (cn 1)),kz (.st 1 66 65)] (pl [(0,[3,4,5,6,7,8],56),(1,[3,4,5,6,7,8],57),(2,[3,4,5,6,7,8],58),(3,[6,7],59),(4,[6,7],60),(5,[6,7],61)])) (sr [km 67 9,kk 68 (.slc 1 67 (some (cn 1)) none),km 9 68] (.seq (.block 2 (.loop c81L2)) (sr [km 86 9,kk 87 (.bd [(.nil 1)] [(0,1,86)]),km 88 12,kz (.st 1 6 87),km 7 88,kk 8 (.mv (cn 0))] .ret))))))))))
theorem fits81:fits Tryz.prog true Tryz.f81 3 89 [(6,some (1,true)),(7,none),(8,none)]=some c81.er:=by kernel_rfl
def c49:C:=(sr [kk 3 (.bx 2 0),kk 4 (.bx 1 1),kk 6 (.al [(.nil 1)]),kk 7 (.mv (cn 0)),kk 8 (.mv (cn 0))] (.seq (.seq (.cut (.reg [kk 10 (.ld 2 true 3),kk 11 (.ld 1 true 4),kk 12 (cl 80 [10,11]),km 9 12])) (sr [km 13 9,kk 14 (.bi false .neq 13 (cn 0))] (.cond 14 (sr [kk 15 (.bd [(.nil 1)] []),km 16 9,kz (.st 1 6 15),kk 7 (.mv (cn 0)),km 8 16] .ret) .skip))) (.seq (.cut (.reg [kk 17 (.ld 2 true 3),kk 18 (.ld 1 true 4),km 19 2,kk 20 (cl 81 [17,18,19]),kk 21 (.ex 20 0),kk 22 (.ex 20 1),kk 23 (.ex 20 2),kz (.st 1 6 21),km 7 22,km 8 23])) .ret)))
theorem fits49:fits Tryz.prog false Tryz.f49 3 24 [(6,some (1,true)),(7,none),(8,none)]=some c49.er:=by kernel_rfl
theorem plainR_int (l:List Int):∀k,plainR (fl eInt l) k=true
 | 0=>rfl
 | k+1=>by
   unfold plainR
   rw [plainR_int l k]
   rfl
theorem cpT_int (τ τ':Nat) (l:List Int) (k:Nat):cpT τ τ' (fl eInt l) k=τ:=by
 unfold cpT
 rw [plainR_int]
theorem wrap64' (n:Int):IntKind.wrap .i64 n=(n+9223372036854775808) % 18446744073709551616 - 9223372036854775808:=by
 simp [IntKind.wrap,IntKind.signed,IntKind.bits]
 omega
def QWv (c:CallRes):Prop:=∃(w:Wv) (x e:Int),c=⟨.tup [.agg (eWv 0 w), .int .i64 x, .int .i64 e], [], []⟩∧w.n≤1000000
theorem q81 (τ:Nat) (ws:List Int) (den:Int) (ps:List Int) (q:Int) (hr:RchOK ws den) (hp:ps.length≤ws.length):
  PureCallQ Tryz.prog 81 [.agg [.sl τ 1 ws.length (fl eInt ws), .int .i64 den], .agg [.sl 2 1 ps.length (fl eInt ps)], .int .i64 q] [] QWv:=by
 obtain ⟨r1,r2,r3⟩:=hr
 have hm:ws.length+1≤maxLen:=maxLen_ge (by omega)
 refine pure_callQ mix Tryz.func81 fits81 rfl ?_
 conv=>whnf
 refine ⟨_,fun _=>call77 _ _, ?_⟩
 conv=>whnf
 refine ⟨by exact g0,fun h=> ?_,fun h=> ?_⟩
 ·exact retQ _ ⟨wv0,_,_,rfl,Nat.zero_le _⟩
 conv=>whnf
 have hw:IntKind.i64.wrap ((ws.length:Int)+1)=(ws.length:Int)+1:=by rw [wrap64'];omega
 rw [hw]
 have hn:((ws.length:Int)+1).toNat=ws.length+1:=by omega
 rw [hn]
 obtain ⟨X0,hX0,hX1⟩:∃X:List Int,X.length=ws.length+1∧RowEq (ws.length+1) (fun k=>if k<min ps.length (ws.length+1) then fl eInt ps k else [PV.int .i64 0]) (fl eInt X):=by
  refine ⟨ps++List.replicate (ws.length+1 - ps.length) 0,by simp;omega,fun k hk=> ?_⟩
  have hmin:min ps.length (ws.length+1)=ps.length:=by omega
  rw [hmin]
  unfold fl
  simp only [List.getD_eq_getElem?_getD]
  by_cases h:k<ps.length
  ·rw [if_pos h,List.getElem?_append_left h]
  ·rw [if_neg h,List.getElem?_append_right (by omega),List.getElem?_replicate,if_pos (by omega)]
   rfl
 have hcp:=cpT_int 0 2 ps (min ps.length (ws.length+1))
 refine ⟨⟨⟨⟨⟨trivial,by omega⟩,by omega⟩,by omega⟩,by omega⟩, ?_⟩
 refine LSem.loop (n:=89) mix (α:=Nat×List Int) (fun s=>s.1≤ws.length∧s.2.length=ws.length+1)
  (fun s=> [(2, .int .i64 q),(3, .pt 48 0 0),(6, .pt 96 0 0),(9, .os 336),(27, .sl τ 1 ws.length (fl eInt ws)),(28, .int .i64 ws.length),(29, .int .i64 s.1)])
  (fun s=> [(48, .box [.sl τ 1 ws.length (fl eInt ws), .int .i64 den]),(96, .box [.nil 1]),(336, .row 0 3 1 (ws.length+1) (fl eInt s.2))]) (fun s=>ws.length - s.1) (0,X0) ⟨Nat.zero_le _,hX0⟩ ?_ ?_
 ·refine ⟨rfl,rfl, ?_, ?_⟩
  ·exact ent
  ·rw [hcp];exact ent
 rintro ⟨i,X⟩ ⟨hi,hX⟩
 dsimp only at hi hX⊢
 conv=>whnf
 refine ⟨trivial,fun hc=> ?_,fun hc=> ?_⟩
 ·replace hc:=of_decide_eq_true hc
  have hlt:i<ws.length:=by
   have h:(i:Int)<ws.length:=hc
   omega
  have hj:((i:Int)).toNat=i:=by omega
  have hwi:IntKind.i64.wrap ((i:Int)+1)=(i:Int)+1:=by rw [wrap64'];omega
  conv=>whnf
  rw [hj]
  generalize IntKind.i64.wrap (X.getD i default+IntKind.i64.wrap (q*ws.getD i default))=y
  have hXy:(X.set i y).length=ws.length+1:=by simpa using hX
  have hq:=set_eqI (X:=X) (i:=i) (y:=y)
  rw [hX] at hq
  refine ⟨by exact g0, ?_⟩
  refine LSem.cut mix (n:=89) (fl:= [(2, .int .i64 q),(3, .pt 48 0 0),(6, .pt 96 0 0),(9, .os 336),(10, .int .i64 i),(27, .sl τ 1 ws.length (fl eInt ws)),(28, .int .i64 ws.length),(29, .int .i64 i)])
   (sl:= [(48, .box [.sl τ 1 ws.length (fl eInt ws), .int .i64 den]),(96, .box [.nil 1]),(336, .row 0 3 1 (ws.length+1) (fl eInt (X.set i y)))]) ?_ ?_
  ·refine ⟨rfl,rfl, ?_, ?_⟩<;>exact ent
  conv=>whnf
  rw [hj]
  refine ⟨by exact g0,fun h=> ?_,fun h=> ?_⟩
  ·exact retQ _ ⟨wv0,_,_,rfl,Nat.zero_le _⟩
  ·conv=>whnf
   rw [hwi]
   refine ⟨by exact g0,(i+1,X.set i y),⟨hlt,hXy⟩,by dsimp only;omega,rfl,rfl, ?_, ?_⟩<;>exact ent
 ·conv=>whnf
  refine ⟨rfl, ?_⟩
  conv=>whnf
  refine ⟨rfl, ?_⟩
  conv=>whnf
  generalize IntKind.i64.wrap (X.getD (Int.toNat 1) default+(X.getD (Int.toNat 0) default).tmod den)=y
  generalize IntKind.i64.wrap ((X.getD (Int.toNat 0) default).tdiv den)=x
  refine ⟨by exact g0, ?_⟩
  have hXy:(X.set 1 y).length=ws.length+1:=by simpa using hX
  have hq:=set_eqI (X:=X) (i:=1) (y:=y)
  rw [hX] at hq
  have hz:RowEq ws.length (fun i=>(fun k=>if k=1 then setAt (fl eInt X 1) 0 (eInt y) else fl eInt X k) (1+i)) (fl eInt ((X.set 1 y).drop 1)):=fun i hi=>by
   rw [hq (1+i) (by omega)]
   unfold fl
   simp only [List.getD_eq_getElem?_getD,List.getElem?_drop]
  have hYl:((X.set 1 y).drop 1).length=ws.length:=by rw [List.length_drop];omega
  generalize (X.set 1 y).drop 1=Y at hz hYl
  refine LSem.loop (n:=89) mix (α:=Nat) (fun m=>m≤ws.length)
   (fun m=> [(6, .pt 96 0 0),(9, .sl 0 1 m (fl eInt Y)),(12, .int .i64 x)])
   (fun m=> [(96, .box [.nil 1])]) (fun m=>m) ws.length (Nat.le_refl _) ?_ ?_
  ·refine ⟨rfl,rfl, ?_, ?_⟩<;>exact ent
  intro m hmm
  have hwm:IntKind.i64.wrap ((m:Int) - 1)=(m:Int) - 1:=by rw [wrap64'];omega
  have e1:((m:Int) - 1).toNat=m - 1:=by omega
  have hb:0<m→m - 1<m:=by omega
  conv=>whnf
  rw [hwm,e1]
  refine ⟨by exact g2,fun h=> ?_,fun h=> ?_⟩
  ·have h1:(0:Int)<m:=of_decide_eq_true (show decide ((0:Int)<m)=true by
     revert h;cases decide ((0:Int)<m)<;>simp)
   conv=>whnf
   rw [hwm,e1]
   refine ⟨by exact g2,m - 1,by omega,by omega,rfl,rfl, ?_, ?_⟩<;>exact ent
  ·have hw:∃ps:List Int,ps.length=m∧RowEq m (fl eInt Y) (fl eInt ps):=⟨Y.take m,by rw [List.length_take];omega,fun i hi=>by
     unfold fl
     simp only [List.getD_eq_getElem?_getD]
     rw [List.getElem?_take_of_lt hi]⟩
   exact retQ _ ⟨⟨m,fl eInt Y,hw⟩,_,_,rfl,by dsimp only;omega⟩
theorem wv_le {st:Nat→Option SE} {kp:Nat→Bool} {τ:Nat} (w:Wv):∃ps:List Int,ps.length=w.n∧PLe st kp (.agg (eWv τ w)) (.agg [.sl τ 1 ps.length (fl eInt ps)]):=by
 obtain ⟨ps,h1,h2⟩:=w.ok
 refine ⟨ps,h1, ?_⟩
 show PLe _ _ _ _
 conv=>whnf
 refine ⟨?_,trivial⟩
 conv=>whnf
 exact ⟨Nat.le_refl _,rfl,h1.symm,h2⟩
theorem q65w (τ τ':Nat) (ws:List Int) (den:Int) (w:Wv) (hl:ws.length≤4611686018427387904) (hp:w.n≤4611686018427387904):
  PureCallQ Tryz.prog 65 [.agg [.sl τ 1 ws.length (fl eInt ws), .int .i64 den], .agg (eWv τ' w)] [] (QVal (RchOK ws den∧w.n≤ws.length)):=by
 obtain ⟨ps,h1,h2⟩:=wv_le (st:=fun r=>([]:List SE)[r]?) (kp:=fun _=>true) (τ:=τ') w
 rw [←h1]
 refine (q65 τ τ' ws den ps hl (by omega)).arg_le ?_
 refine ⟨?_,h2,trivial⟩
 exact ent
theorem q49 (τ τ':Nat) (ht:lendT τ'≤2) (ws:List Int) (den:Int) (w:Wv) (q:Int) (hl:ws.length≤4611686018427387904) (hp:w.n≤4611686018427387904):
  PureCallQ Tryz.prog 49 [.agg [.sl τ 1 ws.length (fl eInt ws), .int .i64 den], .agg (eWv τ' w), .int .i64 q] [] QWv:=by
 obtain ⟨ps,h1,h2⟩:=wv_le (st:=fun r=>([]:List SE)[r]?) (kp:=fun _=>true) (τ:=τ') w
 have key:PureCallQ Tryz.prog 49 [.agg [.sl τ 1 ws.length (fl eInt ws), .int .i64 den], .agg [.sl τ' 1 ps.length (fl eInt ps)], .int .i64 q] [] QWv:=by
  refine pure_callQ mix Tryz.func49 fits49 rfl ?_
  conv=>whnf
  refine ⟨by exact g0,LSem.regQ ?_⟩
  conv=>whnf
  refine ⟨_,q80 _ _ ws den ps hl (by omega),⟨by exact g0,by exact g0⟩, ?_⟩
  rintro _ ⟨e,rfl,he⟩
  conv=>whnf
  refine ⟨by exact g0, ?_⟩
  conv=>whnf
  refine ⟨by exact g0,fun h=> ?_,fun h=> ?_⟩
  ·exact retQ _ ⟨wv0,_,_,rfl,Nat.zero_le _⟩
  simp only [bp] at h
  obtain ⟨hr,hle⟩:=he h
  conv=>whnf
  refine ⟨by exact g0,LSem.regQ ?_⟩
  conv=>whnf
  refine ⟨_,(q81 _ ws den ps q hr hle).arg_le ⟨by exact ent,by exact ent,by exact ent,trivial⟩,⟨by exact g0,by exact g0⟩, ?_⟩
  rintro _ ⟨w',x,e2,rfl,hw'⟩
  conv=>whnf
  refine ⟨by exact g0, ?_⟩
  exact retQ _ ⟨w',x,e2,rfl,hw'⟩
 refine key.arg_le ?_
 refine ⟨?_,h2, ?_,trivial⟩<;>exact ent
def c124:C:=(sr [kk 2 (.bx 6 0),kk 4 (.mv (.c (.bool false)))] (.seq (sr [kk 7 (.ld 6 true 2),kk 8 (cl 101 [7]),kk 9 (.bi false .neq 8 (cn 0)),km 10 9,kg 11 10 false (.mv 1),kg 12 10 false (.fa 1 2),kg 13 10 false (.ld 1 false 12),kg 14 10 false (.bi false .lss 11 13),kk 15 (.pick 10 (.c (.bool true)) 14),km 16 15,kg 17 16 false (.mv 1),kg 18 16 false (.fa 2 2),kg 19 16 false (.ld 1 false 18),kg 20 16 false (.bi false .gtr 17 19),kk 21 (.pick 16 (.c (.bool true)) 20)] (.cond 21 (sr [kk 4 (.mv (.c (.bool false)))] .ret) .skip)) (sr [kk 23 (.ld 6 true 2),km 24 1,kk 25 (cl 143 [23,24]),km 22 25,kk 26 (.ex 22 0),kk 27 (.ex 22 1),km 5 26,km 6 27] (sr [km 28 6,kk 29 (.un false .not 28),km 4 29] .ret))))
theorem fits124:fits Tryz.prog false Tryz.f124 2 30 [(4,none)]=some c124.er:=by kernel_rfl
def c92:C:=(sr [kk 2 (.bx 6 0),kk 3 (.bx 3 1),kk 4 (.mv (.c (.bool false)))] (sr [kk 5 (.ld 6 true 2),kk 6 (cl 101 [5]),kk 7 (.bi false .eql 6 (cn 0)),km 8 7,kg 9 8 true (.fa 1 3),kg 10 8 true (.ld 1 false 9),kg 11 8 true (cl 77 [10,(cn 1000)]),kk 12 (.pick 8 11 (.c (.bool false))),km 13 12,kg 14 13 true (.fa 0 3),kg 15 13 true (.ld 1 false 14),kg 16 13 true (.bi false .eql 15 (cn 0)),kg 17 13 true (.mv 16),kg 18 17 false (.ld 6 true 2),kg 19 17 false (.fa 0 3),kg 20 17 false (.ld 1 false 19),kg 21 17 false (cl 124 [18,20]),kg 22 17 false (.mv 21),kg 23 22 true (.fa 2 3),kg 24 22 true (.ld 1 false 23),kg 25 22 true (.un false .not 24),kg 26 17 false (.pick 22 25 (.c (.bool false))),kg 27 13 true (.pick 17 (.c (.bool true)) 26),kk 28 (.pick 13 27 (.c (.bool false))),km 4 28] .ret))
theorem fits92:fits Tryz.prog false Tryz.f92 2 29 [(4,none)]=some c92.er:=by kernel_rfl
def c130:C:=(sr [kk 3 (.bx 6 0),kk 4 (.bx 3 1),kk 6 (.mv (.c (.bool false)))] (.seq (sr [kk 7 (.ld 6 true 3),kk 8 (.ld 3 true 4),kk 9 (cl 92 [7,8]),kk 10 (.un false .not 9),km 11 10,kg 12 11 false (.mv 2),kg 13 11 false (.bi false .neq 12 (cn 0)),kg 14 11 false (.mv 13),kg 15 14 true (.fa 2 4),kg 16 14 true (.ld 1 false 15),kg 17 14 true (.mv 16),kg 18 17 false (.ld 6 true 3),kg 19 17 false (.mv 2),kg 20 17 false (cl 124 [18,19]),kg 21 17 false (.un false .not 20),kg 22 14 true (.pick 17 (.c (.bool true)) 21),kg 23 11 false (.pick 14 22 (.c (.bool false))),kk 24 (.pick 11 (.c (.bool true)) 23)] (.cond 24 (sr [kk 6 (.mv (.c (.bool false)))] .ret) .skip)) (.seq (sr [kk 25 (.fa 0 4),kk 26 (.ld 1 false 25),kk 27 (.bi false .gtr 26 (cn 0)),km 28 27,kg 29 28 true (.mv 2),kg 30 28 true (.bi false .eql 29 (cn 0)),kk 31 (.pick 28 30 (.c (.bool false)))] (.cond 31 (sr [kk 32 (.fa 1 4),kk 33 (.ld 1 false 32),kk 34 (.fa 4 3),kk 35 (.ld 1 false 34),kk 36 (.bi false .geq 33 35),km 6 36] .ret) .skip)) (.seq (sr [kk 37 (.fa 0 4),kk 38 (.ld 1 false 37),kk 39 (.bi false .eql 38 (cn 0)),km 40 39,kg 41 40 true (.mv 2),kg 42 40 true (.bi false .gtr 41 (cn 0)),kk 43 (.pick 40 42 (.c (.bool false)))] (.cond 43 (sr [kk 44 (.fa 1 4),kk 45 (.ld 1 false 44),kk 46 (.fa 5 3),kk 47 (.ld 1 false 46),kk 48 (.bi false .geq 45 47),km 6 48] .ret) .skip)) (sr [kk 6 (.mv (.c (.bool true)))] .ret)))))
theorem fits130:fits Tryz.prog false Tryz.f130 3 49 [(6,none)]=some c130.er:=by kernel_rfl
def c129:C:=(sr [kk 2 (.bx 6 0),kk 4 (.mv (cn 0)),kk 5 (.mv (cn 0))] (.seq (sr [kk 9 (.ld 6 true 2),kk 10 (cl 101 [9]),km 6 10] (sr [km 11 6,kk 12 (.bi false .neq 11 (cn 0))] (.cond 12 (sr [km 13 6,kk 4 (.mv (cn 0)),km 5 13] .ret) .skip))) (.seq (sr [km 14 1,kk 15 (.bi false .eql 14 (cn 0))] (.cond 15 (sr [kk 4 (.mv (cn 0)),kk 5 (.mv (cn 0))] .ret) .skip)) (.seq (sr [kk 16 (.ld 6 true 2),km 17 1,kk 18 (cl 124 [16,17]),kk 19 (.un false .not 18)] (.cond 19 (sr [kk 4 (.mv (cn 0)),kk 5 (.mv (cn 1))] .ret) .skip)) (sr [kk 21 (.fa 0 2),kk 22 (.ld 1 false 21),km 23 1,kk 24 (cl 91 [22,23]),km 20 24,kk 25 (.ex 20 0),kk 26 (.ex 20 1),km 7 25,km 8 26] (sr [km 27 7,km 4 27,kk 5 (.mv (cn 0))] .ret))))))
theorem fits129:fits Tryz.prog false Tryz.f129 2 28 [(4,none),(5,none)]=some c129.er:=by kernel_rfl
def c106:C:=(sr [kk 3 (.bx 6 0),kk 4 (.bx 3 1),kk 6 (.al [(.int .i64 0),(.int .i64 0),(.bool false)]),kk 7 (.mv (.c (.bool false))),kk 8 (.mv (cn 0))] (.seq (sr [kk 11 (.ld 6 true 3),kk 12 (cl 101 [11]),km 9 12] (sr [km 13 9,kk 14 (.bi true .neq 13 (cn 0))] (.cond 14 (sr [kk 15 (.bd [(.int .i64 0),(.int .i64 0),(.bool false)] []),km 16 9,kz (.st 3 6 15),kk 7 (.mv (.c (.bool false))),km 8 16] .ret) .skip))) (.seq (sr [kk 17 (.ld 6 true 3),kk 18 (.ld 3 true 4),kk 19 (cl 92 [17,18]),kk 20 (.un true .not 19)] (.cond 20 (sr [kk 21 (.bd [(.int .i64 0),(.int .i64 0),(.bool false)] []),kz (.st 3 6 21),kk 7 (.mv (.c (.bool false))),kk 8 (.mv (cn 3))] .ret) .skip)) (.seq (sr [kk 22 (.ld 6 true 3),kk 23 (.ld 3 true 4),km 24 2,kk 25 (cl 130 [22,23,24]),kk 26 (.un true .not 25)] (.cond 26 (sr [kk 27 (.bd [(.int .i64 0),(.int .i64 0),(.bool false)] []),kz (.st 3 6 27),kk 7 (.mv (.c (.bool false))),kk 8 (.mv (cn 15))] .ret) .skip)) (sr [km 28 2,kk 29 (.fa 1 4),kk 30 (.ld 1 false 29),kk 31 (.bi true .add 30 (cn 1)),kk 32 (.mn [(cn 1000),31]),kk 33 (.fa 2 4),kk 34 (.ld 1 false 33),kk 35 (.bd [(.int .i64 0),(.int .i64 0),(.bool false)] [(0,1,28),(1,1,32),(2,1,34)]),kk 10 (.al [(.int .i64 0),(.int .i64 0),(.bool false)]),kz (.st 3 10 35)] (.seq (sr [kk 36 (.fa 0 4),kk 37 (.ld 1 false 36),kk 38 (.bi true .gtr 37 (cn 0)),km 39 2,kk 40 (.bi true .gtr 39 (cn 0)),kk 41 (.bib true 38 40)] (.cond 41 (.reg [kk 42 (.fa 1 10),kz (.st 1 42 (cn 1))]) .skip)) (sr [kk 43 (.ld 3 true 10),kk 44 (.fa 0 4),kk 45 (.ld 1 false 44),kk 46 (.bi true .eql 45 (cn 0)),km 47 46,kg 48 47 true (.mv 2),kg 49 47 true (.bi true .gtr 48 (cn 0)),kk 50 (.pick 47 49 (.c (.bool false))),kz (.st 3 6 43),km 7 50,kk 8 (.mv (cn 0))] .ret)))))))
theorem fits106:fits Tryz.prog true Tryz.f106 3 51 [(6,some (3,true)),(7,none),(8,none)]=some c106.er:=by kernel_rfl
def runsB (u:Ut) (q:Int):Bool:=bif (bif (bif checkU u != 0 then true else decide (q<u.least)) then true else decide (u.most<q)) then false else !(insL q u.rough).isSome
theorem call124 (τ:Nat) (u:Ut) (q:Int) (hl:u.rough.length≤4611686018427387904):PureCall Tryz.prog 124 [.agg (eUt τ u), .int .i64 q] [] ⟨.bool (runsB u q), [], []⟩:=by
 refine pure_call mix Tryz.func124 fits124 rfl ?_
 unfold runsB
 conv=>whnf
 refine ⟨_,fun _=>call101 _ u hl, ?_⟩
 conv=>whnf
 refine ⟨by exact g3,fun hc=> ?_,fun hc=> ?_⟩
 ·rw [hc]
  conv=>whnf
  refine ⟨?_, [], ?_⟩
  ·exact g0
  conv=>whnf
  refine ⟨rfl, ?_,trivial,trivial⟩
  all_goals repeat' (first | exact True.intro | refine leF_cons rfl ?_ ?_ | refine leS_cons rfl ?_ ?_ | (show PLe _ _ _ _;conv=>whnf) | (show SLe _ _ _ _;conv=>whnf) | (show PLeL _ _ _ _;conv=>whnf) | apply And.intro | rfl | exact Nat.le_refl _ | exact fun _ _=>rfl | exact rowEq0 _ _)
 rw [hc]
 conv=>whnf
 refine ⟨_,fun _=>call143 _ u q hl, ?_⟩
 conv=>whnf
 refine ⟨?_, [], ?_⟩
 ·exact g0
 conv=>whnf
 refine ⟨rfl, ?_,trivial,trivial⟩
 all_goals repeat' (first | exact True.intro | refine leF_cons rfl ?_ ?_ | refine leS_cons rfl ?_ ?_ | (show PLe _ _ _ _;conv=>whnf) | (show SLe _ _ _ _;conv=>whnf) | (show PLeL _ _ _ _;conv=>whnf) | apply And.intro | rfl | exact Nat.le_refl _ | exact fun _ _=>rfl | exact rowEq0 _ _)
def validB (u:Ut) (s:Us):Bool:=bif (bif checkU u==0 then decide (0≤s.since∧s.since≤1000) else false) then (bif s.flow==0 then true else bif runsB u s.flow then !s.out else false) else false
theorem call92 (τ:Nat) (u:Ut) (s:Us) (hl:u.rough.length≤4611686018427387904):PureCall Tryz.prog 92 [.agg (eUt τ u), .agg (eUs s)] [] ⟨.bool (validB u s), [], []⟩:=by
 refine pure_call mix Tryz.func92 fits92 rfl ?_
 unfold validB
 conv=>whnf
 refine ⟨_,fun _=>call101 _ u hl, ?_⟩
 conv=>whnf
 refine ⟨_,fun _=>call77 _ _, ?_⟩
 conv=>whnf
 refine ⟨_,fun _=>call124 _ u _ hl, ?_⟩
 conv=>whnf
 refine ⟨by exact g3, [], ?_⟩
 conv=>whnf
 refine ⟨rfl, ?_,trivial,trivial⟩
 all_goals repeat' (first | exact True.intro | refine leF_cons rfl ?_ ?_ | refine leS_cons rfl ?_ ?_ | (show PLe _ _ _ _;conv=>whnf) | (show SLe _ _ _ _;conv=>whnf) | (show PLeL _ _ _ _;conv=>whnf) | apply And.intro | rfl | exact Nat.le_refl _ | exact fun _ _=>rfl | exact rowEq0 _ _)
def mayB (u:Ut) (s:Us) (q:Int):Bool:=bif (bif !validB u s then true else bif q != 0 then (bif s.out then true else !runsB u q) else false) then false else
 bif (bif decide (0<s.flow) then q==0 else false) then decide (u.up≤s.since) else bif (bif s.flow==0 then decide (0<q) else false) then decide (u.down≤s.since) else true
theorem call130 (τ:Nat) (u:Ut) (s:Us) (q:Int) (hl:u.rough.length≤4611686018427387904):PureCall Tryz.prog 130 [.agg (eUt τ u), .agg (eUs s), .int .i64 q] [] ⟨.bool (mayB u s q), [], []⟩:=by
 refine pure_call mix Tryz.func130 fits130 rfl ?_
 unfold mayB
 conv=>whnf
 refine ⟨_,fun _=>call92 _ u s hl, ?_⟩
 conv=>whnf
 refine ⟨_,fun _=>call124 _ u _ hl, ?_⟩
 conv=>whnf
 refine ⟨by exact g3,fun hc=> ?_,fun hc=> ?_⟩
 ·rw [hc]
  conv=>whnf
  refine ⟨?_, [], ?_⟩
  ·exact g0
  conv=>whnf
  refine ⟨rfl, ?_,trivial,trivial⟩
  all_goals repeat' (first | exact True.intro | refine leF_cons rfl ?_ ?_ | refine leS_cons rfl ?_ ?_ | (show PLe _ _ _ _;conv=>whnf) | (show SLe _ _ _ _;conv=>whnf) | (show PLeL _ _ _ _;conv=>whnf) | apply And.intro | rfl | exact Nat.le_refl _ | exact fun _ _=>rfl | exact rowEq0 _ _)
 rw [hc]
 conv=>whnf
 refine ⟨by exact g3,fun hc=> ?_,fun hc=> ?_⟩
 ·rw [hc]
  conv=>whnf
  refine ⟨?_, [], ?_⟩
  ·exact g0
  conv=>whnf
  refine ⟨rfl, ?_,trivial,trivial⟩
  all_goals repeat' (first | exact True.intro | refine leF_cons rfl ?_ ?_ | refine leS_cons rfl ?_ ?_ | (show PLe _ _ _ _;conv=>whnf) | (show SLe _ _ _ _;conv=>whnf) | (show PLeL _ _ _ _;conv=>whnf) | apply And.intro | rfl | exact Nat.le_refl _ | exact fun _ _=>rfl | exact rowEq0 _ _)
 rw [hc]
 conv=>whnf
 refine ⟨by exact g3,fun hc=> ?_,fun hc=> ?_⟩
 ·rw [hc]
  conv=>whnf
  refine ⟨?_, [], ?_⟩
  ·exact g0
  conv=>whnf
  refine ⟨rfl, ?_,trivial,trivial⟩
  all_goals repeat' (first | exact True.intro | refine leF_cons rfl ?_ ?_ | refine leS_cons rfl ?_ ?_ | (show PLe _ _ _ _;conv=>whnf) | (show SLe _ _ _ _;conv=>whnf) | (show PLeL _ _ _ _;conv=>whnf) | apply And.intro | rfl | exact Nat.le_refl _ | exact fun _ _=>rfl | exact rowEq0 _ _)
 rw [hc]
 conv=>whnf
 refine ⟨?_, [], ?_⟩
 ·exact g0
 conv=>whnf
 refine ⟨rfl, ?_,trivial,trivial⟩
 all_goals repeat' (first | exact True.intro | refine leF_cons rfl ?_ ?_ | refine leS_cons rfl ?_ ?_ | (show PLe _ _ _ _;conv=>whnf) | (show SLe _ _ _ _;conv=>whnf) | (show PLeL _ _ _ _;conv=>whnf) | apply And.intro | rfl | exact Nat.le_refl _ | exact fun _ _=>rfl | exact rowEq0 _ _)
theorem bif_and {a b:Bool} (h:(bif a then b else false)=true):a=true∧b=true:=by cases a<;>simp_all
theorem may_own {u:Ut} {s:Us} (h:validB u s=true):mayB u s s.flow=true:=by
 have h2:=(bif_and (show (bif (bif checkU u==0 then decide (0≤s.since∧s.since≤1000) else false) then (bif s.flow==0 then true else bif runsB u s.flow then !s.out else false) else false)=true from h)).2
 unfold mayB
 rw [h]
 cases e:(s.flow==0) with
 | true=>
   have:s.flow=0:=beq_iff_eq.1 e
   rw [this];rfl
 | false=>
   rw [e] at h2
   have h3:=bif_and h2
   rw [h3.1]
   have h4:s.out=false:=by simpa using h3.2
   rw [h4]
   have e2:(s.flow != 0)=true:=by simp only [bne,e,Bool.not_false]
   rw [e2]
   cases decide (0<s.flow)<;>rfl
theorem q129 (τ:Nat) (u:Ut) (q:Int) (hl:u.rough.length≤4611686018427387904):PureCallQ Tryz.prog 129 [.agg (eUt τ u), .int .i64 q] [] QII:=by
 refine pure_callQ mix Tryz.func129 fits129 rfl ?_
 repeat' (first
  | exact retQ _ (⟨_,_,rfl⟩)
  | exact retQn _ (⟨_,_,rfl⟩)
  | (conv=>whnf
     first
     | refine ⟨_,fun _=>call101 _ _ hl, ?_⟩
     | refine ⟨_,fun _=>call124 _ _ _ hl, ?_⟩
     | refine ⟨_,fun _=>call91 _ _ _, ?_⟩
     | refine ⟨by exact g0,LSem.regQ ?_⟩ | refine ⟨by exact g0,LSem.drwQ mix ?_⟩
     | (refine ⟨by exact g0,fun hc=> ?_,fun hc=> ?_⟩<;>(try simp only [bp] at hc)) | refine ⟨rfl, ?_⟩ | refine ⟨by exact g0, ?_⟩))
def QNxt (c:CallRes):Prop:=∃(s:Us) (b:Bool) (e:Int),c=⟨.tup [.agg (eUs s), .bool b, .int .i64 e], [], []⟩
theorem q106 (τ:Nat) (u:Ut) (s:Us) (q:Int) (hl:u.rough.length≤4611686018427387904):PureCallQ Tryz.prog 106 [.agg (eUt τ u), .agg (eUs s), .int .i64 q] [] QNxt:=by
 refine pure_callQ mix Tryz.func106 fits106 rfl ?_
 repeat' (first
  | exact retQ _ (⟨⟨_,_,_⟩,_,_,rfl⟩)
  | exact retQn _ (⟨⟨_,_,_⟩,_,_,rfl⟩)
  | (conv=>whnf
     first
     | refine ⟨_,fun _=>call101 _ _ hl, ?_⟩
     | refine ⟨_,fun _=>call92 _ _ _ hl, ?_⟩
     | refine ⟨_,fun _=>call130 _ _ _ _ hl, ?_⟩
     | refine ⟨by exact g0,LSem.regQ ?_⟩ | refine ⟨by exact g0,LSem.drwQ mix ?_⟩
     | (refine ⟨by exact g0,fun hc=> ?_,fun hc=> ?_⟩<;>(try simp only [bp] at hc)) | refine ⟨rfl, ?_⟩ | refine ⟨by exact g0, ?_⟩))
def c145L1:C:=(sr [kk 9 (.bi false .lss 8 7)] (.seq (.cond 9 .skip (.exit 0)) (.seq (.block 1 (sr [km 10 8,km 5 10] (.seq (.drw [km 11 5,km 12 1,kk 13 (.len 12),kk 14 (.bi false .geq 11 13),km 15 14,kg 16 15 false (.mv 0),kg 17 15 false (.mv 5),kg 18 15 false (.ia 1 16 17),kg 19 15 false (.ld 1 false 18),kg 20 15 false (.mv 1),kg 21 15 false (.mv 5),kg 22 15 false (.ia 1 20 21),kg 23 15 false (.ld 1 false 22),kg 24 15 false (.bi false .neq 19 23),kk 25 (.pick 15 (.c (.bool true)) 24)] (pl [(0,[1,2],11),(5,[6,9,10,11,12],16),(6,[9,10,11,12],17),(7,[9,10,11,12],18),(8,[9,10,11,12],19),(9,[10],20)])) (.cond 25 (.seq (.drw [km 26 5,km 27 1,kk 28 (.len 27),kk 29 (.bi false .lss 26 28),km 30 29,kg 31 30 true (.mv 0),kg 32 30 true (.mv 5),kg 33 30 true (.ia 1 31 32),kg 34 30 true (.ld 1 false 33),kg 35 30 true (.mv 1),kg 36 30 true (.mv 5),kg 37 30 true (.ia 1 35 36),kg 38 30 true (.ld 1 false 37),kg 39 30 true (.bi false .lss 34 38),kk 40 (.pick 30 39 (.c (.bool false))),km 4 40] (pl [(0,[1,2],26),(5,[6,9,10,11,12],31),(6,[9,10,11,12],32),(7,[9,10,11,12],33),(8,[9,10,11,12],34),(9,[10],35)])) .ret) .skip)))) (.reg [kk 41 (.bi false .add 8 (cn 1)),km 8 41]))))
def c145:C:=(sr [kk 4 (.mv (.c (.bool false)))] (.seq (sr [km 6 0,kk 7 (.len 6),kk 8 (.mv (cn 0))] (.block 0 (.loop c145L1))) (sr [km 42 0,kk 43 (.len 42),km 44 1,kk 45 (.len 44),kk 46 (.bi false .lss 43 45),km 4 46] .ret)))
theorem fits145:fits Tryz.prog false Tryz.f145 2 47 [(4,none)]=some c145.er:=by kernel_rfl
def c128:C:=(sr [kk 4 (.bx 2 0),kk 5 (.bx 2 1),kk 8 (.mv (.c (.bool false)))] (.seq (sr [kk 9 (.iaa 2 1 4 (cn 0)),kk 10 (.ld 1 false 9),kk 11 (.iaa 2 1 5 (cn 0)),kk 12 (.ld 1 false 11),kk 13 (.bi false .neq 10 12)] (.cond 13 (sr [kk 14 (.iaa 2 1 4 (cn 0)),kk 15 (.ld 1 false 14),kk 16 (.iaa 2 1 5 (cn 0)),kk 17 (.ld 1 false 16),kk 18 (.bi false .gtr 15 17),km 8 18] .ret) .skip)) (.seq (sr [kk 19 (.iaa 2 1 4 (cn 1)),kk 20 (.ld 1 false 19),kk 21 (.iaa 2 1 5 (cn 1)),kk 22 (.ld 1 false 21),kk 23 (.bi false .neq 20 22)] (.cond 23 (sr [kk 24 (.iaa 2 1 4 (cn 1)),kk 25 (.ld 1 false 24),kk 26 (.iaa 2 1 5 (cn 1)),kk 27 (.ld 1 false 26),kk 28 (.bi false .lss 25 27),km 8 28] .ret) .skip)) (sr [km 29 2,km 30 3,kk 31 (cl 145 [29,30]),km 8 31] .ret))))
theorem fits128:fits Tryz.prog false Tryz.f128 4 32 [(8,none)]=some c128.er:=by kernel_rfl
def c126L1:C:=(sr [kk 20 (.bi false .lss 19 18)] (.seq (.cond 20 .skip (.exit 0)) (.seq (.block 1 (sr [km 21 19,kk 22 (.ia 6 17 19),kk 23 (.ld 6 true 22),kk 8 (.al [(.nil 2),(.int .i64 0),(.int .i64 0),(.nil 2),(.int .i64 0),(.int .i64 0)]),km 7 21,kz (.st 6 8 23)] (.seq (.cut (.drw [kk 24 (.ld 6 true 8),km 25 1,km 26 7,kk 27 (.ia 3 25 26),kk 28 (.ld 3 true 27),kk 29 (cl 92 [24,28]),kk 30 (.un false .not 29)] (pl [(0,[1,2,3,4],24),(1,[2],25)]))) (.cond 30 (sr [kk 6 (.mv (cn 3))] .ret) .skip)))) (.reg [kk 31 (.bi false .add 19 (cn 1)),km 19 31]))))
def c126:C:=(sr [kk 6 (.mv (cn 0))] (.seq (sr [km 9 0,kk 10 (.len 9),kk 11 (.bi false .gtr 10 (cn 6))] (.cond 11 (sr [kk 6 (.mv (cn 10))] .ret) .skip)) (.seq (sr [km 12 0,kk 13 (.len 12),km 14 1,kk 15 (.len 14),kk 16 (.bi false .neq 13 15)] (.cond 16 (sr [kk 6 (.mv (cn 3))] .ret) .skip)) (.seq (sr [km 17 0,kk 18 (.len 17),kk 19 (.mv (cn 0))] (.block 0 (.loop c126L1))) (.seq (sr [km 32 2,kk 33 (.bi false .lss 32 (cn 1)),km 34 33,kg 35 34 false (.mv 2),kg 36 34 false (.bi false .gtr 35 (cn 1073741824)),kk 37 (.pick 34 (.c (.bool true)) 36)] (.cond 37 (sr [kk 6 (.mv (cn 1))] .ret) .skip)) (sr [kk 6 (.mv (cn 0))] .ret))))))
theorem fits126:fits Tryz.prog false Tryz.f126 3 38 [(6,none)]=some c126.er:=by kernel_rfl
def c105L1:C:=(sr [kk 35 (.bi true .lss 34 33)] (.seq (.cond 35 .skip (.exit 0)) (.seq (.block 1 (sr [km 36 34,kk 37 (.ia 6 32 34),kk 38 (.ld 6 true 37),kk 14 (.al [(.nil 2),(.int .i64 0),(.int .i64 0),(.nil 2),(.int .i64 0),(.int .i64 0)]),km 13 36,kz (.st 6 14 38)] (.seq (.cut (.drw [kk 40 (.ld 6 true 14),km 41 1,km 42 13,kk 43 (.ia 3 41 42),kk 44 (.ld 3 true 43),km 45 2,km 46 13,kk 47 (.ia 1 45 46),kk 48 (.ld 1 false 47),kk 49 (cl 106 [40,44,48]),km 39 49,kk 50 (.ex 39 0),kk 51 (.ex 39 1),kk 52 (.ex 39 2),kk 15 (.al [(.int .i64 0),(.int .i64 0),(.bool false)]),kz (.st 3 15 50),km 16 51,km 17 52] (pl [(0,[1,2,3,4,5,6,7,8,14],40),(1,[2,5,6,7,8,14],41),(2,[5,6,7,8,14],42),(3,[5,6,7,8,14],43),(4,[5,6,7,8,14],44),(5,[6,14],45),(6,[14],46),(7,[14],47),(8,[14],48),(9,[14],49),(10,[14],39),(11,[12,13,14],50),(12,[13,14,15],51),(13,[14,15,16],52)]))) (.seq (sr [km 53 17,kk 54 (.bi true .neq 53 (cn 0))] (.cond 54 (sr [kk 6 (.mv (cn 0)),kk 7 (.mv (cn 0)),kk 8 (.mv (cn 0)),kk 9 (.mv (.c (.bool false)))] .ret) .skip)) (.seq (.cut (.drw [kk 56 (.ld 6 true 14),km 57 2,km 58 13,kk 59 (.ia 1 57 58),kk 60 (.ld 1 false 59),kk 61 (cl 129 [56,60]),km 55 61,kk 62 (.ex 55 0),kk 63 (.ex 55 1),km 18 62,km 19 63] (pl [(0,[1,2,3,4],56),(1,[2],57),(7,[8],62),(8,[9],63)]))) (sr [km 64 10,km 65 2,km 66 13,kk 67 (.ia 1 65 66),kk 68 (.ld 1 false 67),kk 69 (.bi true .add 64 68),km 70 11,km 71 18,kk 72 (.bi true .add 70 71),km 10 69,km 11 72] (sr [km 73 16] (.cond 73 (.reg [km 74 12,kk 75 (.bi true .add 74 (cn 1)),km 12 75]) .skip)))))))) (.reg [kk 76 (.bi true .add 34 (cn 1)),km 34 76]))))
def c105:C:=(sr [kk 6 (.mv (cn 0)),kk 7 (.mv (cn 0)),kk 8 (.mv (cn 0)),kk 9 (.mv (.c (.bool false)))] (.seq (sr [km 20 0,kk 21 (.len 20),km 22 1,kk 23 (.len 22),kk 24 (.bi true .neq 21 23),km 25 24,kg 26 25 false (.mv 0),kg 27 25 false (.len 26),kg 28 25 false (.mv 2),kg 29 25 false (.len 28),kg 30 25 false (.bi true .neq 27 29),kk 31 (.pick 25 (.c (.bool true)) 30)] (.cond 31 (sr [kk 6 (.mv (cn 0)),kk 7 (.mv (cn 0)),kk 8 (.mv (cn 0)),kk 9 (.mv (.c (.bool false)))] .ret) .skip)) (sr [kk 10 (.mv (cn 0)),kk 11 (.mv (cn 0)),kk 12 (.mv (cn 0))] (.seq (sr [km 32 0,kk 33 (.len 32),kk 34 (.mv (cn 0))] (.block 0 (.loop c105L1))) (sr [km 77 10,km 78 11,km 79 12,km 6 77,km 7 78,km 8 79,kk 9 (.mv (.c (.bool true)))] .ret)))))
theorem fits105:fits Tryz.prog true Tryz.f105 3 80 [(6,none),(7,none),(8,none),(9,none)]=some c105.er:=by kernel_rfl
def bef:List Int→List Int→Bool
 | [], []=>false
 | [],_::_=>true
 | _::_, []=>false
 | x::p,y::q=>bif x != y then decide (x<y) else bef p q
theorem bef_nil (q:List Int):bef [] q=decide (0<q.length):=by cases q<;>simp [bef]
theorem bef_end {p:List Int} {i:Nat} (h:i<p.length):bef (p.drop i) []=false:=by
 rw [List.drop_eq_getElem_cons h];rfl
theorem bef_drop {p q:List Int} {i:Nat} (h:i<p.length) (h2:i<q.length):bef (p.drop i) (q.drop i)=bif p.getD i default != q.getD i default then decide (p.getD i default<q.getD i default) else bef (p.drop (i+1)) (q.drop (i+1)):=by
 rw [List.drop_eq_getElem_cons h,List.drop_eq_getElem_cons h2]
 have e1:p.getD i default=p[i]:=by simp [List.getD,h]
 have e2:q.getD i default=q[i]:=by simp [List.getD,h2]
 rw [e1,e2];rfl
theorem call145 (τ τ':Nat) (p q:List Int) (hp:p.length≤4611686018427387904) (hq:q.length≤4611686018427387904):
  PureCall Tryz.prog 145 [.sl τ 1 p.length (fl eInt p), .sl τ' 1 q.length (fl eInt q)] [] ⟨.bool (bef p q), [], []⟩:=by
 refine pure_call mix Tryz.func145 fits145 rfl ?_
 conv=>whnf
 refine ⟨trivial, ?_⟩
 refine LSem.loop (n:=47) mix (α:=Nat) (fun i=>i≤p.length∧bef (p.drop i) (q.drop i)=bef p q)
  (fun i=> [(0, .sl τ 1 p.length (fl eInt p)),(1, .sl τ' 1 q.length (fl eInt q)),(7, .int .i64 p.length),(8, .int .i64 i)])
  (fun i=> []) (fun i=>p.length - i) 0 ⟨Nat.zero_le _,rfl⟩ ?_ ?_
 ·refine ⟨rfl,rfl, ?_, ?_⟩<;>exact ent
 rintro i ⟨hi,hI⟩
 conv=>whnf
 refine ⟨trivial,fun hc=> ?_,fun hc=> ?_⟩
 ·replace hc:=of_decide_eq_true hc
  have hlt:i<p.length:=by
   have h:(i:Int)<p.length:=hc
   omega
  have hj:((i:Int)).toNat=i:=by omega
  by_cases h2:i<q.length
  ·rw [bef_drop hlt h2] at hI
   have hb:decide ((q.length:Int)≤i)=false:=by simp;omega
   conv=>whnf
   rw [hj]
   refine ⟨rfl, ?_⟩
   conv=>whnf
   rw [hb]
   refine ⟨by exact g3,fun h=> ?_,fun h=> ?_⟩
   ·have h:(p.getD i default != q.getD i default)=true:=h
    rw [h] at hI
    have hb2:decide ((i:Int)<q.length)=true:=by simp;omega
    conv=>whnf
    refine ⟨rfl, ?_⟩
    conv=>whnf
    rw [hb2,hj]
    refine ⟨by exact g3, [], ?_⟩
    conv=>whnf
    refine ⟨rfl, ?_,trivial,trivial⟩
    rw [←hI]
    exact ent
   ·have h:(p.getD i default != q.getD i default)=false:=h
    rw [h] at hI
    conv=>whnf
    refine ⟨by exact g0,i+1,⟨hlt,hI⟩,by omega,rfl,rfl, ?_, ?_⟩<;>exact ent
  ·have hq0:q.drop i= []:=List.drop_eq_nil_of_le (by omega)
   rw [hq0,bef_end hlt] at hI
   have hb:decide ((q.length:Int)≤i)=true:=by simp;omega
   conv=>whnf
   rw [hj]
   refine ⟨rfl, ?_⟩
   conv=>whnf
   rw [hb]
   refine ⟨by exact g3,fun h=> ?_,fun h=> ?_⟩
   ·have hb2:decide ((i:Int)<q.length)=false:=by simp;omega
    conv=>whnf
    refine ⟨rfl, ?_⟩
    conv=>whnf
    rw [hb2,hj]
    refine ⟨by exact g3, [], ?_⟩
    conv=>whnf
    refine ⟨rfl, ?_,trivial,trivial⟩
    rw [←hI]
    exact ent
   ·cases h
 ·have hk:i=p.length:=by
    have h:¬(i:Int)<p.length:=of_decide_eq_false hc
    omega
  subst hk
  rw [List.drop_length,bef_nil,List.length_drop] at hI
  have hb:decide ((p.length:Int)<q.length)=decide (0<q.length - p.length):=by
   rw [decide_eq_decide];omega
  conv=>whnf
  rw [hb,hI]
  refine ⟨?_, [], ?_⟩
  ·exact g0
  conv=>whnf
  refine ⟨rfl, ?_,trivial,trivial⟩
  all_goals repeat' (first | exact True.intro | refine leF_cons rfl ?_ ?_ | refine leS_cons rfl ?_ ?_ | (show PLe _ _ _ _;conv=>whnf) | (show SLe _ _ _ _;conv=>whnf) | (show PLeL _ _ _ _;conv=>whnf) | apply And.intro | rfl | exact Nat.le_refl _ | exact fun _ _=>rfl | exact rowEq0 _ _)
def betB (a b c d:Int) (p q:List Int):Bool:=bif a != c then decide (c<a) else bif b != d then decide (b<d) else bef p q
theorem call128 (τ τ':Nat) (a b c d:Int) (p q:List Int) (hp:p.length≤4611686018427387904) (hq:q.length≤4611686018427387904):
  PureCall Tryz.prog 128 [.agg [.int .i64 a, .int .i64 b], .agg [.int .i64 c, .int .i64 d], .sl τ 1 p.length (fl eInt p), .sl τ' 1 q.length (fl eInt q)] [] ⟨.bool (betB a b c d p q), [], []⟩:=by
 refine pure_call mix Tryz.func128 fits128 rfl ?_
 unfold betB
 conv=>whnf
 refine ⟨by exact g0,fun h=> ?_,fun h=> ?_⟩
 ·rw [h]
  conv=>whnf
  refine ⟨?_, [], ?_⟩
  ·exact g0
  conv=>whnf
  refine ⟨rfl, ?_,trivial,trivial⟩
  all_goals repeat' (first | exact True.intro | refine leF_cons rfl ?_ ?_ | refine leS_cons rfl ?_ ?_ | (show PLe _ _ _ _;conv=>whnf) | (show SLe _ _ _ _;conv=>whnf) | (show PLeL _ _ _ _;conv=>whnf) | apply And.intro | rfl | exact Nat.le_refl _ | exact fun _ _=>rfl | exact rowEq0 _ _)
 rw [h]
 conv=>whnf
 refine ⟨by exact g0,fun h=> ?_,fun h=> ?_⟩
 ·rw [h]
  conv=>whnf
  refine ⟨?_, [], ?_⟩
  ·exact g0
  conv=>whnf
  refine ⟨rfl, ?_,trivial,trivial⟩
  all_goals repeat' (first | exact True.intro | refine leF_cons rfl ?_ ?_ | refine leS_cons rfl ?_ ?_ | (show PLe _ _ _ _;conv=>whnf) | (show SLe _ _ _ _;conv=>whnf) | (show PLeL _ _ _ _;conv=>whnf) | apply And.intro | rfl | exact Nat.le_refl _ | exact fun _ _=>rfl | exact rowEq0 _ _)
 rw [h]
 conv=>whnf
 refine ⟨_,fun _=>call145 _ _ p q hp hq, ?_⟩
 conv=>whnf
 refine ⟨?_, [], ?_⟩
 ·exact g0
 conv=>whnf
 refine ⟨rfl, ?_,trivial,trivial⟩
 all_goals repeat' (first | exact True.intro | refine leF_cons rfl ?_ ?_ | refine leS_cons rfl ?_ ?_ | (show PLe _ _ _ _;conv=>whnf) | (show SLe _ _ _ _;conv=>whnf) | (show PLeL _ _ _ _;conv=>whnf) | apply And.intro | rfl | exact Nat.le_refl _ | exact fun _ _=>rfl | exact rowEq0 _ _)
structure WrU (us:List Ut) (ss:List Us) (g:Int):Prop where
 len:us.length=ss.length
 le:us.length≤6
 val:∀i,i<us.length→validB (us.getD i default) (ss.getD i default)=true
 g1:1≤g
 g2:g≤1073741824
abbrev RgU (us:List Ut):Prop:=∀i,i<us.length→(us.getD i default).rough.length≤4611686018427387904
theorem q126 (τ τ':Nat) (us:List Ut) (ss:List Us) (g:Int) (hu:us.length≤4611686018427387904) (hs:ss.length≤4611686018427387904) (hr:RgU us):
  PureCallQ Tryz.prog 126 [.sl τ 6 us.length (fl (eUt 0) us), .sl τ' 3 ss.length (fl eUs ss), .int .i64 g] [] (QErr (WrU us ss g)):=by
 refine pure_callQ mix Tryz.func126 fits126 rfl ?_
 conv=>whnf
 refine ⟨by exact g0,fun h6=> ?_,fun h6=> ?_⟩
 ·exact retQ _ ⟨10,rfl,imp_c⟩
 simp only [bp] at h6
 conv=>whnf
 refine ⟨by exact g0,fun h=> ?_,fun h=> ?_⟩
 ·exact retQ _ ⟨3,rfl,imp_c⟩
 simp only [bp] at h
 have hlen:us.length=ss.length:=by omega
 conv=>whnf
 refine ⟨by exact g0, ?_⟩
 refine LSem.loop (n:=38) mix (α:=Nat) (fun i=>i≤us.length∧∀j,j<i→validB (us.getD j default) (ss.getD j default)=true)
  (fun i=> [(1, .sl τ' 3 ss.length (fl eUs ss)),(2, .int .i64 g),(17, .sl τ 6 us.length (fl (eUt 0) us)),(18, .int .i64 us.length),(19, .int .i64 i)])
  (fun i=> []) (fun i=>us.length - i) 0 ⟨Nat.zero_le _,fun j hj=>by omega⟩ ?_ ?_
 ·refine ⟨rfl,rfl, ?_, ?_⟩<;>exact ent
 rintro i ⟨hi,hI⟩
 conv=>whnf
 refine ⟨trivial,fun hc=> ?_,fun hc=> ?_⟩
 ·replace hc:=of_decide_eq_true hc
  have hlt:i<us.length:=by
   have h:(i:Int)<us.length:=hc
   omega
  have hj:((i:Int)).toNat=i:=by omega
  have hri:=hr i hlt
  conv=>whnf
  rw [hj]
  refine ⟨by exact g0,LSem.drwQ mix ?_⟩
  conv=>whnf
  rw [hj]
  refine ⟨_,(call92 _ _ _ hri).toQ,⟨_,rfl⟩,rfl, ?_⟩
  rintro _ rfl
  conv=>whnf
  refine ⟨by exact g0,rfl, ?_⟩
  conv=>whnf
  refine ⟨by exact g0,fun h=> ?_,fun h=> ?_⟩
  ·exact retQ _ ⟨3,rfl,imp_c⟩
  ·have h:validB (us.getD i default) (ss.getD i default)=true:=by simpa using h
   conv=>whnf
   refine ⟨by exact g0,i+1,⟨hlt,fun j hj=> ?_⟩,by omega,rfl,rfl, ?_, ?_⟩
   ·by_cases e:j=i
    ·subst e;exact h
    ·exact hI j (by omega)
   ·exact ent
   ·exact ent
 ·have hk:i=us.length:=by
    have h:¬(i:Int)<us.length:=of_decide_eq_false hc
    omega
  conv=>whnf
  refine ⟨by exact g0,fun h=> ?_,fun h=> ?_⟩
  ·exact retQ _ ⟨1,rfl,imp_c⟩
  ·simp only [bp] at h
   exact retQ _ ⟨0,rfl,fun _=>⟨hlen,by omega,fun j hj=>hI j (by omega),by omega,by omega⟩⟩
def QVu (c:CallRes):Prop:=∃(x y z:Int) (b:Bool),c=⟨.tup [.int .i64 x, .int .i64 y, .int .i64 z, .bool b], [], []⟩
theorem q105 (τ τ' σ:Nat) (us:List Ut) (ss:List Us) (fs:List Int) (hu:us.length≤1000000) (hr:RgU us):
  PureCallQ Tryz.prog 105 [.sl τ 6 us.length (fl (eUt 0) us), .sl τ' 3 ss.length (fl eUs ss), .sl σ 1 fs.length (fl eInt fs)] [] QVu:=by
 refine pure_callQ mix Tryz.func105 fits105 rfl ?_
 conv=>whnf
 refine ⟨by exact g3,fun h=> ?_,fun h=> ?_⟩
 ·exact retQ _ ⟨_,_,_,_,rfl⟩
 have hlen:us.length=ss.length∧us.length=fs.length:=by
  cases hb:((us.length:Int) != ss.length) with
  | true=>rw [hb] at h;cases h
  | false=>
    rw [hb] at h
    simp only [bp] at hb
    have h:((us.length:Int) != fs.length)=false:=h
    simp only [bp] at h
    omega
 conv=>whnf
 refine ⟨by exact g0, ?_⟩
 refine LSem.loop (n:=80) mix (α:=Nat×Int×Int×Int) (fun s=>s.1≤us.length)
  (fun s=> [(1, .sl τ' 3 ss.length (fl eUs ss)),(2, .sl σ 1 fs.length (fl eInt fs)),(10, .int .i64 s.2.1),(11, .int .i64 s.2.2.1),(12, .int .i64 s.2.2.2),(32, .sl τ 6 us.length (fl (eUt 0) us)),(33, .int .i64 us.length),(34, .int .i64 s.1)])
  (fun s=> []) (fun s=>us.length - s.1) (0,0,0,0) (Nat.zero_le _) ?_ ?_
 ·refine ⟨rfl,rfl, ?_, ?_⟩<;>exact ent
 rintro ⟨i,x,y,z⟩ hi
 dsimp only at hi⊢
 conv=>whnf
 refine ⟨trivial,fun hc=> ?_,fun hc=> ?_⟩
 ·replace hc:=of_decide_eq_true hc
  have hlt:i<us.length:=by
   have h:(i:Int)<us.length:=hc
   omega
  have hj:((i:Int)).toNat=i:=by omega
  have hwi:IntKind.i64.wrap ((i:Int)+1)=(i:Int)+1:=by rw [wrap64'];omega
  have hri:=hr i hlt
  conv=>whnf
  rw [hj]
  refine ⟨by exact g0,LSem.drwQ mix ?_⟩
  conv=>whnf
  rw [hj]
  refine ⟨_,q106 _ _ _ _ hri,⟨_,⟨0,0,false⟩,false,0,rfl⟩,rfl, ?_⟩
  rintro _ ⟨u',b,e,rfl⟩
  conv=>whnf
  refine ⟨by exact g0,rfl, ?_⟩
  conv=>whnf
  refine ⟨by exact g0,fun h=> ?_,fun h=> ?_⟩
  ·exact retQ _ ⟨_,_,_,_,rfl⟩
  conv=>whnf
  refine ⟨by exact g0,LSem.drwQ mix ?_⟩
  conv=>whnf
  rw [hj]
  refine ⟨_,q129 _ _ _ hri,⟨_,0,0,rfl⟩,rfl, ?_⟩
  rintro _ ⟨x1,x2,rfl⟩
  conv=>whnf
  refine ⟨by exact g0,rfl, ?_⟩
  conv=>whnf
  rw [hj]
  refine ⟨by exact g0,fun h=> ?_,fun h=> ?_⟩
  ·conv=>whnf
   rw [hwi]
   refine ⟨by exact g0,(i+1,IntKind.i64.wrap (x+fs.getD i default),IntKind.i64.wrap (y+x1),IntKind.i64.wrap (z+1)),hlt,by dsimp only;omega,rfl,rfl, ?_, ?_⟩<;>exact ent
  ·conv=>whnf
   rw [hwi]
   refine ⟨by exact g0,(i+1,IntKind.i64.wrap (x+fs.getD i default),IntKind.i64.wrap (y+x1),z),hlt,by dsimp only;omega,rfl,rfl, ?_, ?_⟩<;>exact ent
 ·exact retQ _ ⟨_,_,_,_,rfl⟩
def c144L1:C:=(sr [kk 29 (.bi false .lss 28 27)] (.seq (.cond 29 .skip (.exit 0)) (.seq (.block 1 (sr [kk 30 (.ia 1 26 28),kk 31 (.ld 1 false 30),km 12 31] (sr [kk 32 (.ld 6 true 3),kk 33 (.ld 3 true 4),km 34 12,kk 35 (cl 130 [32,33,34])] (.cond 35 (.reg [km 36 10,km 37 12,kk 38 (.bs 3 1 [37]),kk 39 (.app 3 1 8 36 38),km 10 39]) .skip)))) (.reg [kk 40 (.bi false .add 28 (cn 1)),km 28 40]))))
def c144:C:=(sr [kk 3 (.bx 6 0),kk 4 (.bx 3 1),kk 6 (.mv (.c (.nil 1))),kk 7 (.mv (cn 0))] (sr [kk 14 (.ld 6 true 3),km 15 2,kk 16 (cl 121 [14,15]),km 13 16,kk 17 (.ex 13 0),kk 18 (.ex 13 1),km 8 17,km 9 18] (.seq (sr [km 19 9,kk 20 (.bi false .neq 19 (cn 0))] (.cond 20 (sr [km 21 9,kk 6 (.mv (.c (.nil 1))),km 7 21] .ret) .skip)) (sr [kk 10 (.mv (.c (.nil 1)))] (.seq (sr [kk 22 (.fa 0 4),kk 23 (.ld 1 false 22),kk 24 (.bs 3 1 [(cn 0),23]),km 25 8,kk 26 (.app 3 1 8 24 25),kk 27 (.len 26),kk 28 (.mv (cn 0))] (.block 0 (.loop c144L1))) (sr [km 41 10,km 6 41,kk 7 (.mv (cn 0))] .ret))))))
theorem fits144:fits Tryz.prog false Tryz.f144 3 42 [(6,none),(7,none)]=some c144.er:=by kernel_rfl
def c127L1:C:=(sr [kk 16 (.bi false .lss 15 14)] (.seq (.cond 16 .skip (.exit 0)) (.seq (.block 1 (sr [km 17 15,kk 18 (.ia 6 13 15),kk 19 (.ld 6 true 18),kk 10 (.al [(.nil 2),(.int .i64 0),(.int .i64 0),(.nil 2),(.int .i64 0),(.int .i64 0)]),km 9 17,kz (.st 6 10 19)] (.seq (.cut (.drw [kk 21 (.ld 6 true 10),km 22 1,km 23 9,kk 24 (.ia 3 22 23),kk 25 (.ld 3 true 24),km 26 2,kk 27 (cl 144 [21,25,26]),km 20 27,kk 28 (.ex 20 0),kk 29 (.ex 20 1),km 11 28,km 12 29] (pl [(0,[1,2,3,4,5],21),(1,[2,5],22),(2,[5],23),(3,[5],24),(4,[5],25),(8,[9],28),(9,[10],29)]))) (.seq (sr [km 30 12,kk 31 (.bi false .neq 30 (cn 0))] (.cond 31 (sr [kk 6 (.mv (.c (.nil 1))),kk 7 (.mv (cn 10))] .ret) .skip)) (.reg [km 32 8,km 33 11,kk 34 (.bs 22 1 [33]),kk 35 (.app 22 1 24 32 34),km 8 35]))))) (.reg [kk 36 (.bi false .add 15 (cn 1)),km 15 36]))))
def c127:C:=(sr [kk 6 (.mv (.c (.nil 1))),kk 7 (.mv (cn 0))] (sr [kk 8 (.mv (.c (.nil 1)))] (.seq (sr [km 13 0,kk 14 (.len 13),kk 15 (.mv (cn 0))] (.block 0 (.loop c127L1))) (sr [km 37 8,km 6 37,kk 7 (.mv (cn 0))] .ret))))
theorem fits127:fits Tryz.prog false Tryz.f127 3 38 [(6,none),(7,none)]=some c127.er:=by kernel_rfl
def QOpt (P:Prop) (c:CallRes):Prop:=∃(l:List Int) (e:Int),c=⟨.tup [.sl 0 1 l.length (fl eInt l), .int .i64 e], [], []⟩∧l.length≤202∧(e=0→P→1≤l.length)
theorem q144 (τ:Nat) (u:Ut) (s:Us) (g:Int) (hr:u.rough.length≤4611686018427387904):
  PureCallQ Tryz.prog 144 [.agg (eUt τ u), .agg (eUs s), .int .i64 g] [] (QOpt (validB u s=true)):=by
 refine pure_callQ mix Tryz.func144 fits144 rfl ?_
 have hfl:=flowsU_len u g
 conv=>whnf
 refine ⟨_,fun _=>call121 _ u g hr, ?_⟩
 generalize flowsU u g=R at hfl⊢
 obtain ⟨fs,e⟩:=R
 dsimp only at hfl⊢
 conv=>whnf
 refine ⟨by exact g0,fun h=> ?_,fun h=> ?_⟩
 ·simp only [bp] at h
  exact retQ _ ⟨[],e,rfl,Nat.zero_le _,imp_ne h⟩
 have q:RowEq (2+fs.length) (appF 2 (fun i=> [[PV.int .i64 0], [PV.int .i64 s.flow]].getD i []) (fl eInt fs)) (fl eInt (0::s.flow::fs)):=fun i hi=>by
  match i,hi with
  | 0,_=>rfl
  | 1,_=>rfl
  | i+2,_=>
    unfold appF
    rw [if_neg (by omega),show i+2 - 2=i by omega]
    rfl
 conv=>whnf
 refine ⟨by exact g0, ?_⟩
 refine LSem.adopt 10 1000000 3 1 1 rfl rfl ?_
 refine LSem.loop (n:=42) mix (α:=Nat×List Int) (fun x=>x.1≤2+fs.length∧x.2.length≤x.1∧(validB u s=true→2≤x.1→1≤x.2.length))
  (fun x=> [(3, .pt 48 0 0),(4, .pt 64 0 0),(10, .os 1000000),(26, .sl 0 1 (2+fs.length) (fl eInt (0::s.flow::fs))),(27, .int .i64 ((2+fs.length:Nat):Int)),(28, .int .i64 x.1)])
  (fun x=> [(48, .box (eUt τ u)),(64, .box (eUs s)),(1000000, .row 0 3 1 x.2.length (fl eInt x.2))]) (fun x=>2+fs.length - x.1) (0, []) ⟨Nat.zero_le _,Nat.le_refl _,fun _ h=>by simp at h⟩ ?_ ?_
 ·refine ⟨rfl,rfl, ?_, ?_⟩
  ·exact ent
  ·exact ent
 rintro ⟨i,l⟩ ⟨hi,hl,hI⟩
 dsimp only at hi hl hI⊢
 conv=>whnf
 refine ⟨trivial,fun hc=> ?_,fun hc=> ?_⟩
 ·replace hc:=of_decide_eq_true hc
  have hlt:i<2+fs.length:=by
   have h:(i:Int)<((2+fs.length:Nat):Int):=hc
   omega
  have hj:((i:Int)).toNat=i:=by omega
  conv=>whnf
  rw [hj]
  refine ⟨_,fun _=>call130 _ u s _ hr, ?_⟩
  conv=>whnf
  have hq:=fl_push eInt l ((0::s.flow::fs).getD i default)
  have hxl:(l++ [(0::s.flow::fs).getD i default]).length=l.length+1:=by simp
  refine ⟨by exact g0,fun h=> ?_,fun h=> ?_⟩
  ·conv=>whnf
   refine ⟨by exact g0,(i+1,l++ [(0::s.flow::fs).getD i default]),⟨hlt,by dsimp only;omega,fun _ _=>by dsimp only;omega⟩,by dsimp only;omega,rfl,rfl, ?_, ?_⟩<;>exact ent
  ·conv=>whnf
   refine ⟨by exact g0,(i+1,l),⟨hlt,by dsimp only;omega,fun hv h2=> ?_⟩,by dsimp only;omega,rfl,rfl, ?_, ?_⟩
   ·dsimp only at h2⊢
    by_cases e1:i=1
    ·subst e1
     have h:mayB u s s.flow=false:=h
     rw [may_own hv] at h;cases h
    ·exact hI hv (by omega)
   ·exact ent
   ·exact ent
 ·have hk:i=2+fs.length:=by
    have h:¬(i:Int)<((2+fs.length:Nat):Int):=of_decide_eq_false hc
    omega
  exact retQ _ ⟨l,0,rfl,by omega,fun _ hv=>hI hv (by omega)⟩
def eLi (l:List Int):List PV:= [.sl 0 1 l.length (fl eInt l)]
def QAll (n:Nat) (P:Prop) (c:CallRes):Prop:=∃(L:List (List Int)) (e:Int),c=⟨.tup [.sl 0 1 L.length (fl eLi L), .int .i64 e], [], []⟩∧L.length≤n∧(∀i,i<L.length→(L.getD i default).length≤202)∧
 (e=0→P→L.length=n∧∀i,i<L.length→1≤(L.getD i default).length)
theorem q127 (τ τ':Nat) (us:List Ut) (ss:List Us) (g:Int) (hu:us.length≤1000000) (hlen:us.length=ss.length) (hr:RgU us):
  PureCallQ Tryz.prog 127 [.sl τ 6 us.length (fl (eUt 0) us), .sl τ' 3 ss.length (fl eUs ss), .int .i64 g] [] (QAll us.length (WrU us ss g)):=by
 refine pure_callQ mix Tryz.func127 fits127 rfl ?_
 conv=>whnf
 refine ⟨by exact g0, ?_⟩
 refine LSem.adopt 8 1000000 22 1 1 rfl rfl ?_
 refine LSem.loop (n:=38) mix (α:=Nat×List (List Int)) (fun x=>x.1≤us.length∧x.2.length=x.1∧(∀i,i<x.2.length→(x.2.getD i default).length≤202)∧(WrU us ss g→∀i,i<x.2.length→1≤(x.2.getD i default).length))
  (fun x=> [(1, .sl τ' 3 ss.length (fl eUs ss)),(2, .int .i64 g),(8, .os 1000000),(13, .sl τ 6 us.length (fl (eUt 0) us)),(14, .int .i64 us.length),(15, .int .i64 x.1)])
  (fun x=> [(1000000, .row 0 22 1 x.2.length (fl eLi x.2))]) (fun x=>us.length - x.1) (0, []) ⟨Nat.zero_le _,rfl,(fun _ h=>absurd h (Nat.not_lt_zero _)),(fun _ _ h=>absurd h (Nat.not_lt_zero _))⟩ ?_ ?_
 ·refine ⟨rfl,rfl, ?_, ?_⟩<;>exact ent
 rintro ⟨i,L⟩ ⟨hi,hl,hI1,hI2⟩
 dsimp only at hi hl hI1 hI2⊢
 conv=>whnf
 refine ⟨trivial,fun hc=> ?_,fun hc=> ?_⟩
 ·replace hc:=of_decide_eq_true hc
  have hlt:i<us.length:=by
   have h:(i:Int)<us.length:=hc
   omega
  have hj:((i:Int)).toNat=i:=by omega
  have hri:=hr i hlt
  conv=>whnf
  rw [hj]
  refine ⟨by exact g0,LSem.drwQ mix ?_⟩
  conv=>whnf
  rw [hj]
  refine ⟨_,q144 _ _ _ _ hri,⟨_, [],1,rfl,Nat.zero_le _,fun h=>absurd h (by decide)⟩,rfl, ?_⟩
  rintro _ ⟨l,e,rfl,h1,h2⟩
  have hq:=fl_push eLi L l
  have hxl:(L++ [l]).length=L.length+1:=by simp
  have hget:∀k,k<(L++ [l]).length→(L++ [l]).getD k default=if k<L.length then L.getD k default else l:=fun k hk=>by
   simp only [List.getD_eq_getElem?_getD]
   by_cases hkl:k<L.length
   ·rw [if_pos hkl,List.getElem?_append_left hkl]
   ·rw [if_neg hkl,List.getElem?_append_right (by omega),show k - L.length=0 by omega];rfl
  conv=>whnf
  refine ⟨by exact g0,rfl, ?_⟩
  conv=>whnf
  refine ⟨by exact g0,fun h=> ?_,fun h=> ?_⟩
  ·exact retQ _ ⟨[],10,rfl,Nat.zero_le _,(fun _ h=>absurd h (Nat.not_lt_zero _)),imp_c⟩
  ·simp only [bp] at h
   conv=>whnf
   refine ⟨by exact g0,(i+1,L++ [l]),⟨hlt,by dsimp only;omega,fun k hk=> ?_,fun hw k hk=> ?_⟩,by dsimp only;omega,rfl,rfl, ?_, ?_⟩
   ·dsimp only at hk⊢
    rw [hget k hk]
    split
    ·exact hI1 k (by assumption)
    ·exact h1
   ·dsimp only at hk⊢
    rw [hget k hk]
    split
    ·exact hI2 hw k (by assumption)
    ·exact h2 h (hw.val i hlt)
   ·exact ent
   ·exact ent
 ·have hk:i=us.length:=by
    have h:¬(i:Int)<us.length:=of_decide_eq_false hc
    omega
  exact retQ _ ⟨L,0,rfl,by omega,hI1,fun _ hw=>⟨by omega,hI2 hw⟩⟩
end Pv
end Go.Proofs.YtaleokjjkjngkaaGreatDoor
