/- CALLS THAT WRITE INTO A SLICE OF THE CALLER's OWN (numbers, one cell each): a rule for a region that begins with one. -/
import Derived.Test.YtaleokjjkjngkaaGreatDoorZai
import Derived.Test.YtaleokjjkjngkaaGreatDoorZaf
set_option linter.unusedSimpArgs false
set_option linter.unusedVariables false
set_option maxRecDepth 100000
set_option maxHeartbeats 8000000
namespace Go.Proofs.YtaleokjjkjngkaaGreatDoor
namespace Pv
def c26L1:C:=(sr [kk 10 (.bi false .lss 9 8)] (.seq (.cond 10 .skip (.exit 0)) (.seq (.block 1 (.drw [kk 11 (.fa 0 5),kk 12 (.ld 1 false 11),km 13 0,kk 14 (cl 8 [13,(cn 14)]),kk 15 (.bs 3 1 [14]),kk 16 (.app 3 1 8 12 15),kk 17 (.fa 0 5),kz (.st 1 17 16)] (pl [(0,[2,3,4],11),(1,[2,3,4],12)]))) (.reg [kk 18 (.bi false .add 9 (cn 1)),km 9 18]))))
def c26L2:C:=(sr [kk 23 (.bi false .lss 22 21)] (.seq (.cond 23 .skip (.exit 2)) (.seq (.block 3 (.drw [kk 24 (.fa 1 5),kk 25 (.ld 1 false 24),km 26 0,kk 27 (cl 8 [26,(cn 3)]),kk 28 (.bs 3 1 [27]),kk 29 (.app 3 1 8 25 28),kk 30 (.fa 2 5),kk 31 (.ld 1 false 30),km 32 0,kk 33 (cl 8 [32,(cn 30)]),kk 34 (.bs 3 1 [33]),kk 35 (.app 3 1 8 31 34),kk 36 (.fa 1 5),kz (.st 1 36 29),kk 37 (.fa 2 5),kz (.st 1 37 35)] (pl [(0,[2,3,4,6,7,8],24),(1,[2,3,4,6,7,8],25),(2,[6,7,8],26),(3,[6,7,8],27),(4,[6,7,8],28),(5,[6,7,8],29),(6,[8,9,10],30),(7,[8,9,10],31),(8,[12],32),(9,[12],33),(10,[12],34),(11,[12],35)]))) (.reg [kk 38 (.bi false .add 22 (cn 1)),km 22 38]))))
def c26:C:=(sr [kk 3 (.bx 3 1),kk 4 (.al [(.nil 1),(.nil 1),(.nil 1)])] (sr [kk 5 (.al [(.nil 1),(.nil 1),(.nil 1)])] (.seq (sr [kk 6 (.fa 0 3),kk 7 (.fa 0 6),kk 8 (.ld 1 false 7),kk 9 (.mv (cn 0))] (.block 0 (.loop c26L1))) (.seq (sr [kk 19 (.fa 2 3),kk 20 (.ld 1 false 19),kk 21 (.len 20),kk 22 (.mv (cn 0))] (.block 2 (.loop c26L2))) (sr [kk 39 (.ld 3 true 5),kz (.st 3 4 39)] .ret)))))
theorem fits26:fits Tryz.prog false Tryz.f26 2 40 [(4,some (3,true))]=some c26.er:=by kernel_rfl
def c12L1:C:=(sr [kk 10 (.bi false .lss 9 8)] (.seq (.cond 10 .skip (.exit 0)) (.seq (.block 1 (.reg [km 11 7,km 12 0,kk 13 (.ld 3 true 4),kk 14 (cl 26 [12,13]),kk 15 (.bs 75 3 [14]),kk 16 (.app 75 3 72 11 15),km 7 16])) (.reg [kk 17 (.bi false .add 9 (cn 1)),km 9 17]))))
def c12:C:=(sr [kk 4 (.bx 3 1),kk 6 (.mv (.c (.nil 3)))] (sr [kk 7 (.mv (.c (.nil 3)))] (.seq (sr [km 8 2,kk 9 (.mv (cn 0))] (.block 0 (.loop c12L1))) (sr [km 18 7,km 6 18] .ret))))
theorem fits12:fits Tryz.prog false Tryz.f12 3 19 [(6,none)]=some c12.er:=by kernel_rfl
def c11L1:C:=(sr [kk 14 (.bi false .lss 13 12)] (.seq (.cond 14 .skip (.exit 0)) (.seq (.block 1 (.drw [kk 15 (.fa 1 9),kk 16 (.ld 1 false 15),km 17 0,kk 18 (.ld 3 true 5),kk 19 (cl 26 [17,18]),kk 20 (.fd 2 1 false 19),kk 21 (.bs 22 1 [20]),kk 22 (.app 22 1 24 16 21),kk 23 (.fa 1 9),kz (.st 1 23 22)] (pl [(0,[2,3,4,5,6],15),(1,[2,3,4,5,6],16),(2,[3],17)]))) (.reg [kk 24 (.bi false .add 13 (cn 1)),km 13 24]))))
def c11:C:=(sr [kk 5 (.bx 3 1),kk 8 (.al [(.int .i64 0),(.nil 1)])] (sr [km 10 2,kk 11 (.bd [(.int .i64 0),(.nil 1)] [(0,1,10)]),kk 9 (.al [(.int .i64 0),(.nil 1)]),kz (.st 2 9 11)] (.seq (sr [km 12 3,kk 13 (.mv (cn 0))] (.block 0 (.loop c11L1))) (sr [kk 25 (.ld 2 true 9),kz (.st 2 8 25)] .ret))))
theorem fits11:fits Tryz.prog false Tryz.f11 4 26 [(8,some (2,true))]=some c11.er:=by kernel_rfl
def c19L1:C:=(.seq (sr [km 21 9,kk 22 (.bi false .gtr 21 (cn 0))] (.cond 22 .skip (.exit 0))) (.seq (.block 1 (.seq (.cut (.drw [kk 26 (.ld 3 true 4),kk 27 (.ld 3 true 7),km 28 0,kk 29 (.ld 3 true 4),kk 30 (cl 26 [28,29]),kk 31 (cl 25 [26,27,30]),km 25 31,kk 32 (.ex 25 0),kk 33 (.ex 25 1),kk 34 (.ex 25 2),kk 10 (.al [(.int .i64 0),(.nil 4),(.nil 1)]),kk 11 (.al [(.nil 7),(.nil 1),(.nil 1)]),kz (.st 3 10 32),kz (.st 3 11 33),km 12 34] (pl [(0,[1,2,3,4,10,11],26),(1,[2,3,4,10,11],27),(2,[3,10,11],28),(3,[10,11],29),(4,[10,11],30),(5,[10,11],31),(6,[10,11],25),(7,[8,9,10,11],32),(8,[9,10,11,12],33),(9,[10,11,12,13],34),(10,[11],10)]))) (sr [km 35 12,kk 36 (.bi false .eql 35 (cn 0))] (.cond 36 (.reg [kk 37 (.ld 3 true 10),kz (.st 3 7 37)]) .skip)))) (.reg [km 23 9,kk 24 (.bi false .sub 23 (cn 1)),km 9 24])))
def c19:C:=(sr [kk 4 (.bx 3 1),kk 6 (.al [(.int .i64 0),(.nil 4),(.nil 1)])] (.seq (.cut (.reg [kk 14 (.ld 3 true 4),km 15 2,kk 16 (cl 36 [14,15]),km 13 16,kk 17 (.ex 13 0),kk 18 (.ex 13 1),kk 7 (.al [(.int .i64 0),(.nil 4),(.nil 1)]),kz (.st 3 7 17),km 8 18])) (.seq (sr [km 19 0,kk 20 (cl 8 [19,(cn 6)]),km 9 20] (.block 0 (.loop c19L1))) (sr [kk 38 (.ld 3 true 7),kz (.st 3 6 38)] .ret))))
theorem fits19:fits Tryz.prog false Tryz.f19 3 39 [(6,some (3,true))]=some c19.er:=by kernel_rfl
def c7:C:=(sr [kk 2 (.al [(.int .i64 0),(.nil 4),(.nil 10)]),kk 3 (.al [(.int .i64 0),(.nil 4),(.nil 1)])] (sr [km 7 0,kk 8 (cl 18 [7]),km 6 8,kk 9 (.ex 6 0),kk 10 (.ex 6 1),kk 4 (.al [(.int .i64 0),(.nil 4),(.nil 10)]),kz (.st 3 4 9),km 5 10] (.seq (.cut (.drw [kk 11 (.ld 3 true 4),km 12 0,kk 13 (.ld 3 true 4),km 14 5,kk 15 (cl 19 [12,13,14]),kz (.st 3 2 11),kz (.st 3 3 15)] (pl [(0,[1,2,3,4],11),(1,[2,3],12),(2,[3],13)]))) .ret)))
theorem fits7:fits Tryz.prog false Tryz.f7 1 16 [(2,some (3,true)),(3,some (3,true))]=some c7.er:=by kernel_rfl
def infS:Nat→List Int×Dk→List Int×Dk
 | 0,s=>s
 | k+1,s=>infS k (s.1++ [nxt s.2 14],nxtD s.2 14)
def ltS:Nat→List Int×List Int×Dk→List Int×List Int×Dk
 | 0,s=>s
 | k+1,s=>ltS k (s.1++ [nxt s.2.2 3],s.2.1++ [nxt (nxtD s.2.2 3) 30],nxtD (nxtD s.2.2 3) 30)
def supF (N n:Nat) (d:Dk):Sp×Dk:=(⟨(infS N ([],d)).1,(ltS n ([], [],(infS N ([],d)).2)).1,(ltS n ([], [],(infS N ([],d)).2)).2.1⟩,(ltS n ([], [],(infS N ([],d)).2)).2.2)
theorem infS_ok:∀(k:Nat) (s:List Int×Dk),(infS k s).1.length=s.1.length+k∧(infS k s).2.at_≤s.2.at_+k
 | 0,s=>⟨rfl,Nat.le_refl _⟩
 | k+1,s=>by
   have ih:=infS_ok k (s.1++ [nxt s.2 14],nxtD s.2 14)
   have a:=nxtD_at s.2 14
   unfold infS
   generalize infS k (s.1++ [nxt s.2 14],nxtD s.2 14)=W at ih⊢
   rw [List.length_append,List.length_cons,List.length_nil] at ih
   dsimp only at ih
   omega
theorem ltS_ok:∀(k:Nat) (s:List Int×List Int×Dk),(ltS k s).1.length=s.1.length+k∧(ltS k s).2.1.length=s.2.1.length+k∧(ltS k s).2.2.at_≤s.2.2.at_+2*k
 | 0,s=>⟨rfl,rfl,Nat.le_refl _⟩
 | k+1,s=>by
   have ih:=ltS_ok k (s.1++ [nxt s.2.2 3],s.2.1++ [nxt (nxtD s.2.2 3) 30],nxtD (nxtD s.2.2 3) 30)
   have a:=nxtD_at s.2.2 3
   have b:=nxtD_at (nxtD s.2.2 3) 30
   unfold ltS
   generalize ltS k (s.1++ [nxt s.2.2 3],s.2.1++ [nxt (nxtD s.2.2 3) 30],nxtD (nxtD s.2.2 3) 30)=W at ih⊢
   rw [List.length_append,List.length_cons,List.length_nil,List.length_append,List.length_cons,List.length_nil] at ih
   dsimp only at ih
   omega
theorem supF_ok (N n:Nat) (d:Dk):(supF N n d).1.inf.length=N∧(supF N n d).1.los.length=n∧(supF N n d).1.tar.length=n∧(supF N n d).2.at_≤d.at_+N+2*n:=by
 have h:=infS_ok N ([],d)
 have h2:=ltS_ok n ([], [],(infS N ([],d)).2)
 unfold supF
 dsimp only at h h2⊢
 rw [List.length_nil] at h h2
 omega
theorem call26 (τ:Nat) (c:Cs) (N:Nat) (d:Dk) (hN:c.N=N) (hN2:N≤1000000) (hs:c.ss.length≤1000000) (hd:d.at_≤900000000):PureCall Tryz.prog 26 [.pt 0 0 0, .agg (eCas τ c)] [.box (eDk 1 d)] ⟨.agg (eSu (supF N c.ss.length d).1), [.box (eDk 1 (supF N c.ss.length d).2)], []⟩:=by
 refine pure_call mix Tryz.func26 fits26 rfl ?_
 have hi1:=infS_ok N ([],d)
 conv=>whnf
 rw [hN]
 refine ⟨by exact g0, ?_⟩
 refine LSem.adoptF 80 0 1000000 3 1 1 _ rfl rfl rfl ?_
 refine LSem.adoptF 80 1 1000001 3 1 1 _ rfl rfl rfl ?_
 refine LSem.adoptF 80 2 1000002 3 1 1 _ rfl rfl rfl ?_
 refine LSem.loop (n:=40) mix (α:=Nat×List Int×Dk) (fun s=>s.1+s.2.1.length=N∧infS s.1 s.2=infS N ([],d)∧s.2.2.at_≤900000000+s.2.1.length)
  (fun s=> [(0, .pt 0 0 0),(3, .pt 48 0 0),(4, .pt 64 0 0),(5, .pt 80 0 0),(8, .int .i64 N),(9, .int .i64 s.2.1.length)])
  (fun s=> [(0, .box (eDk 1 s.2.2)),(48, .box (eCas τ c)),(64, .box [.nil 1, .nil 1, .nil 1]),(80, .box [.os 1000000, .os 1000001, .os 1000002]),(1000000, .row 0 3 1 s.2.1.length (fl eInt s.2.1)),(1000001, .row 0 3 1 0 (fl eInt [])),(1000002, .row 0 3 1 0 (fl eInt []))])
  (fun s=>s.1) (N, [],d) ⟨rfl,rfl,by dsimp only;omega⟩ ?_ ?_
 ·refine ⟨rfl,rfl, ?_, ?_⟩<;>exact ent
 ·rintro ⟨k,l,e⟩ ⟨k1,k2,k3⟩
  dsimp only at k1 k2 k3⊢
  conv=>whnf
  refine ⟨trivial,fun hc=> ?_,fun hc=> ?_⟩
  ·replace hc:=of_decide_eq_true hc
   obtain ⟨k,rfl⟩:∃k',k=k'+1:=⟨k - 1,by
    have h:(l.length:Int)<N:=hc
    omega⟩
   have hst:infS k (l++ [nxt e 14],nxtD e 14)=infS N ([],d):=k2
   have a1:=nxtD_at e 14
   have q:=fl_push eInt l (nxt e 14)
   have hxl:(l++ [nxt e 14]).length=l.length+1:=by simp
   conv=>whnf
   refine ⟨_,fun _=>call_next 1 e 14 (by omega) (by omega), ?_⟩
   generalize nxt e 14=x at hst q hxl⊢
   generalize nxtD e 14=e2 at hst a1⊢
   conv=>whnf
   refine ⟨rfl, ?_⟩
   conv=>whnf
   refine ⟨by exact g0,(k,l++ [x],e2),⟨by dsimp only;omega,hst,by dsimp only;omega⟩,by dsimp only;omega,rfl,rfl, ?_, ?_⟩<;>exact ent
  ·have h0:k=0:=by
     have h:¬(l.length:Int)<N:=of_decide_eq_false hc
     omega
   subst h0
   have hp:(l,e)=infS N ([],d):=k2
   unfold supF
   rw [←hp]
   dsimp only
   conv=>whnf
   refine ⟨by exact g0, ?_⟩
   refine LSem.loop (n:=40) mix (α:=Nat×List Int×List Int×Dk) (fun s=>s.1+s.2.1.length=c.ss.length∧s.2.2.1.length=s.2.1.length∧ltS s.1 s.2=ltS c.ss.length ([], [],e)∧s.2.2.2.at_≤901000000+2*s.2.1.length)
    (fun s=> [(0, .pt 0 0 0),(4, .pt 64 0 0),(5, .pt 80 0 0),(21, .int .i64 c.ss.length),(22, .int .i64 s.2.1.length)])
    (fun s=> [(0, .box (eDk 1 s.2.2.2)),(64, .box [.nil 1, .nil 1, .nil 1]),(80, .box [.os 1000000, .os 1000001, .os 1000002]),(1000000, .row 0 3 1 l.length (fl eInt l)),(1000001, .row 0 3 1 s.2.1.length (fl eInt s.2.1)),(1000002, .row 0 3 1 s.2.2.1.length (fl eInt s.2.2.1))])
    (fun s=>s.1) (c.ss.length, [], [],e) ⟨rfl,rfl,rfl,by dsimp only;omega⟩ ?_ ?_
   ·refine ⟨rfl,rfl, ?_, ?_⟩<;>exact ent
   rintro ⟨k,A,B,e⟩ ⟨k1,k4,k2,k3⟩
   dsimp only at k1 k2 k3 k4⊢
   conv=>whnf
   refine ⟨trivial,fun hc=> ?_,fun hc=> ?_⟩
   ·replace hc:=of_decide_eq_true hc
    obtain ⟨k,rfl⟩:∃k',k=k'+1:=⟨k - 1,by
     have h:(A.length:Int)<c.ss.length:=hc
     omega⟩
    have hst:ltS k (A++ [nxt e 3],B++ [nxt (nxtD e 3) 30],nxtD (nxtD e 3) 30)=_:=k2
    have a1:=nxtD_at e 3
    have a2:=nxtD_at (nxtD e 3) 30
    have q:=fl_push eInt A (nxt e 3)
    have hxl:(A++ [nxt e 3]).length=A.length+1:=by simp
    have q2:=fl_push eInt B (nxt (nxtD e 3) 30)
    have hyl:(B++ [nxt (nxtD e 3) 30]).length=B.length+1:=by simp
    conv=>whnf
    refine ⟨_,fun _=>call_next 1 e 3 (by omega) (by omega), ?_⟩
    generalize nxt e 3=x at hst q hxl⊢
    generalize nxtD e 3=e2 at hst a1 a2 q2 hyl⊢
    conv=>whnf
    refine ⟨_,fun _=>call_next 1 e2 30 (by omega) (by omega), ?_⟩
    generalize nxt e2 30=y at hst q2 hyl⊢
    generalize nxtD e2 30=e3 at hst a2⊢
    conv=>whnf
    refine ⟨rfl, ?_⟩
    conv=>whnf
    refine ⟨by exact g0,(k,A++ [x],B++ [y],e3),⟨by dsimp only;omega,by dsimp only;omega,hst,by dsimp only;omega⟩,by dsimp only;omega,rfl,rfl, ?_, ?_⟩<;>exact ent
   ·have h0:k=0:=by
      have h:¬(A.length:Int)<c.ss.length:=of_decide_eq_false hc
      omega
    subst h0
    have hp:(A,B,e)=_:=k2
    rw [←hp]
    dsimp only
    conv=>whnf
    exact retB
def spsS (N n:Nat):Nat→List Sp×Dk→List Sp×Dk
 | 0,s=>s
 | k+1,s=>spsS N n k (s.1++ [(supF N n s.2).1],(supF N n s.2).2)
theorem spsS_ok (N n:Nat):∀(k:Nat) (s:List Sp×Dk),(∀i,i<s.1.length→(s.1.getD i default).inf.length=N∧(s.1.getD i default).los.length=n∧(s.1.getD i default).tar.length=n)→
  (spsS N n k s).1.length=s.1.length+k∧(spsS N n k s).2.at_≤s.2.at_+(N+2*n)*k∧∀i,i<(spsS N n k s).1.length→((spsS N n k s).1.getD i default).inf.length=N∧((spsS N n k s).1.getD i default).los.length=n∧((spsS N n k s).1.getD i default).tar.length=n
 | 0,s,h=>⟨rfl,Nat.le_refl _,h⟩
 | k+1,s,h=>by
   have hs:=supF_ok N n s.2
   have ih:=spsS_ok N n k (s.1++ [(supF N n s.2).1],(supF N n s.2).2) (all_push (P:=fun x:Sp=>x.inf.length=N∧x.los.length=n∧x.tar.length=n) h ⟨hs.1,hs.2.1,hs.2.2.1⟩)
   unfold spsS
   generalize spsS N n k (s.1++ [(supF N n s.2).1],(supF N n s.2).2)=W at ih⊢
   rw [List.length_append,List.length_cons,List.length_nil] at ih
   dsimp only at ih
   refine ⟨by omega, ?_,ih.2.2⟩
   rw [Nat.mul_add]
   omega
theorem call12 (τ:Nat) (c:Cs) (N m:Nat) (d:Dk) (hN:c.N=N) (hN2:N≤12) (hs:c.ss.length≤3) (hm:m≤100) (hd:d.at_≤890000000):
  PureCall Tryz.prog 12 [.pt 0 0 0, .agg (eCas τ c), .int .i64 m] [.box (eDk 1 d)] ⟨.sl 0 3 (spsS N c.ss.length m ([],d)).1.length (fl eSu (spsS N c.ss.length m ([],d)).1), [.box (eDk 1 (spsS N c.ss.length m ([],d)).2)], []⟩:=by
 refine pure_call mix Tryz.func12 fits12 rfl ?_
 conv=>whnf
 refine ⟨by exact g0, ?_⟩
 refine LSem.adopt 7 1000000 75 3 3 rfl rfl ?_
 refine LSem.loop (n:=19) mix (α:=Nat×List Sp×Dk) (fun s=>s.1+s.2.1.length=m∧spsS N c.ss.length s.1 s.2=spsS N c.ss.length m ([],d)∧s.2.2.at_≤890000000+18*s.2.1.length)
  (fun s=> [(0, .pt 0 0 0),(4, .pt 64 0 0),(7, .os 1000000),(8, .int .i64 m),(9, .int .i64 s.2.1.length)])
  (fun s=> [(0, .box (eDk 1 s.2.2)),(64, .box (eCas τ c)),(1000000, .row 0 75 3 s.2.1.length (fl eSu s.2.1))])
  (fun s=>s.1) (m, [],d) ⟨rfl,rfl,by dsimp only;omega⟩ ?_ ?_
 ·refine ⟨rfl,rfl, ?_, ?_⟩<;>exact ent
 rintro ⟨k,l,e⟩ ⟨k1,k2,k3⟩
 dsimp only at k1 k2 k3⊢
 conv=>whnf
 refine ⟨trivial,fun hc=> ?_,fun hc=> ?_⟩
 ·replace hc:=of_decide_eq_true hc
  obtain ⟨k,rfl⟩:∃k',k=k'+1:=⟨k - 1,by
   have h:(l.length:Int)<m:=hc
   omega⟩
  have hst:spsS N c.ss.length k (l++ [(supF N c.ss.length e).1],(supF N c.ss.length e).2)=_:=k2
  have hs:=supF_ok N c.ss.length e
  have q:=fl_push eSu l (supF N c.ss.length e).1
  have hxl:(l++ [(supF N c.ss.length e).1]).length=l.length+1:=by simp
  conv=>whnf
  refine ⟨_,fun _=>call26 _ c N e hN (by omega) (by omega) (by omega), ?_⟩
  generalize supF N c.ss.length e=W at hst q hxl hs⊢
  obtain ⟨p,e2⟩:=W
  dsimp only at hst q hxl hs⊢
  conv=>whnf
  refine ⟨by exact g0,(k,l++ [p],e2),⟨by dsimp only;omega,hst,by dsimp only;omega⟩,by dsimp only;omega,rfl,rfl, ?_, ?_⟩<;>exact ent
 ·have h0:k=0:=by
    have h:¬(l.length:Int)<m:=of_decide_eq_false hc
    omega
  subst h0
  have hp:(l,e)=_:=k2
  rw [←hp]
  dsimp only
  conv=>whnf
  exact retB
def plnS (N n:Nat):Nat→List (List Int)×Dk→List (List Int)×Dk
 | 0,s=>s
 | k+1,s=>plnS N n k (s.1++ [(supF N n s.2).1.tar],(supF N n s.2).2)
theorem plnS_ok (N n:Nat):∀(k:Nat) (s:List (List Int)×Dk),(∀i,i<s.1.length→(s.1.getD i default).length=n)→
  (plnS N n k s).1.length=s.1.length+k∧(plnS N n k s).2.at_≤s.2.at_+(N+2*n)*k∧∀i,i<(plnS N n k s).1.length→((plnS N n k s).1.getD i default).length=n
 | 0,s,h=>⟨rfl,Nat.le_refl _,h⟩
 | k+1,s,h=>by
   have hs:=supF_ok N n s.2
   have ih:=plnS_ok N n k (s.1++ [(supF N n s.2).1.tar],(supF N n s.2).2) (all_push (P:=fun x:List Int=>x.length=n) h hs.2.2.1)
   unfold plnS
   generalize plnS N n k (s.1++ [(supF N n s.2).1.tar],(supF N n s.2).2)=W at ih⊢
   rw [List.length_append,List.length_cons,List.length_nil] at ih
   dsimp only at ih
   refine ⟨by omega, ?_,ih.2.2⟩
   rw [Nat.mul_add]
   omega
theorem call11 (τ:Nat) (c:Cs) (N m:Nat) (t:Int) (d:Dk) (hN:c.N=N) (hN2:N≤12) (hs:c.ss.length≤3) (hm:m≤100) (hd:d.at_≤890000000):
  PureCall Tryz.prog 11 [.pt 0 0 0, .agg (eCas τ c), .int .i64 t, .int .i64 m] [.box (eDk 1 d)] ⟨.agg [.int .i64 t, .sl 0 1 (plnS N c.ss.length m ([],d)).1.length (fl eLi (plnS N c.ss.length m ([],d)).1)], [.box (eDk 1 (plnS N c.ss.length m ([],d)).2)], []⟩:=by
 refine pure_call mix Tryz.func11 fits11 rfl ?_
 conv=>whnf
 refine ⟨by exact g0, ?_⟩
 refine LSem.adoptF 144 1 1000000 22 1 1 _ rfl rfl rfl ?_
 refine LSem.loop (n:=26) mix (α:=Nat×List (List Int)×Dk) (fun s=>s.1+s.2.1.length=m∧plnS N c.ss.length s.1 s.2=plnS N c.ss.length m ([],d)∧s.2.2.at_≤890000000+18*s.2.1.length)
  (fun s=> [(0, .pt 0 0 0),(5, .pt 80 0 0),(8, .pt 128 0 0),(9, .pt 144 0 0),(12, .int .i64 m),(13, .int .i64 s.2.1.length)])
  (fun s=> [(0, .box (eDk 1 s.2.2)),(80, .box (eCas τ c)),(128, .box [.int .i64 0, .nil 1]),(144, .box [.int .i64 t, .os 1000000]),(1000000, .row 0 22 1 s.2.1.length (fl eLi s.2.1))])
  (fun s=>s.1) (m, [],d) ⟨rfl,rfl,by dsimp only;omega⟩ ?_ ?_
 ·refine ⟨rfl,rfl, ?_, ?_⟩<;>exact ent
 rintro ⟨k,l,e⟩ ⟨k1,k2,k3⟩
 dsimp only at k1 k2 k3⊢
 conv=>whnf
 refine ⟨trivial,fun hc=> ?_,fun hc=> ?_⟩
 ·replace hc:=of_decide_eq_true hc
  obtain ⟨k,rfl⟩:∃k',k=k'+1:=⟨k - 1,by
   have h:(l.length:Int)<m:=hc
   omega⟩
  have hst:plnS N c.ss.length k (l++ [(supF N c.ss.length e).1.tar],(supF N c.ss.length e).2)=_:=k2
  have hs:=supF_ok N c.ss.length e
  have q:=fl_push eLi l (supF N c.ss.length e).1.tar
  have hxl:(l++ [(supF N c.ss.length e).1.tar]).length=l.length+1:=by simp
  conv=>whnf
  refine ⟨_,fun _=>call26 _ c N e hN (by omega) (by omega) (by omega), ?_⟩
  generalize supF N c.ss.length e=W at hst q hxl hs⊢
  obtain ⟨p,e2⟩:=W
  dsimp only at hst q hxl hs⊢
  conv=>whnf
  refine ⟨rfl, ?_⟩
  conv=>whnf
  refine ⟨by exact g0,(k,l++ [p.tar],e2),⟨by dsimp only;omega,hst,by dsimp only;omega⟩,by dsimp only;omega,rfl,rfl, ?_, ?_⟩<;>exact ent
 ·have h0:k=0:=by
    have h:¬(l.length:Int)<m:=of_decide_eq_false hc
    omega
  subst h0
  have hp:(l,e)=_:=k2
  rw [←hp]
  dsimp only
  conv=>whnf
  exact retB
theorem un_all:∀(n:Nat) (s:List Ut×List Us×Dk),(∀i,i<s.1.length→(s.1.getD i default).rough.length≤2)→∀i,i<(it unN n s).1.length→((it unN n s).1.getD i default).rough.length≤2
 | 0,s,h=>h
 | n+1,s,h=>by
   unfold it
   exact un_all n (unN s) (all_push (P:=fun u:Ut=>u.rough.length≤2) h (unitF_ok s.2.2).2.2.1)
theorem units_rg (d:Dk) (m:Int):∀i,i<(unitsF d m).1.length→((unitsF d m).1.getD i default).rough.length≤2:=by
 unfold unitsF
 exact un_all _ _ fun i hi=>absurd hi (Nat.not_lt_zero _)
theorem gt_all:∀(n:Nat) (s:List Gr×Int×Dk),(∀i,i<s.1.length→(s.1.getD i default).c.length≤5)→∀i,i<(it gtN n s).1.length→((it gtN n s).1.getD i default).c.length≤5
 | 0,s,h=>h
 | n+1,s,h=>by
   unfold it
   have hc:=(curve_made s.2.2 (x:=0) (y:=0) (dx:=6) (dy:=20) (least:=0) (by omega) (by omega) (by omega) (by omega) (by omega)).1
   exact gt_all n (gtN s) (all_push (P:=fun g:Gr=>g.c.length≤5) h hc.len.2)
def GaOK (g:Ga):Prop:=g.rt.length≤3∧∀j,j<g.rt.length→(g.rt.getD j default).c.length≤5
theorem gate_rg (d:Dk):GaOK (gateF d).1:=by
 have e1:(gateF d).1.rt=(gateR d).1:=by unfold gateF;dsimp only
 have e2:gateR d=it gtN ((nxt (nxtD (gateE d) 40) 3).toNat+1) ([],90+nxt (gateE d) 40,nxtD (nxtD (gateE d) 40) 3):=by unfold gateR;dsimp only
 have r:=nxt_lt (nxtD (gateE d) 40) (n:=3) (by omega)
 have h1:=(gt_ok ((nxt (nxtD (gateE d) 40) 3).toNat+1) ([],90+nxt (gateE d) 40,nxtD (nxtD (gateE d) 40) 3)).1
 have h2:=gt_all ((nxt (nxtD (gateE d) 40) 3).toNat+1) ([],90+nxt (gateE d) 40,nxtD (nxtD (gateE d) 40) 3) fun i hi=>absurd hi (Nat.not_lt_zero _)
 rw [←e2] at h1 h2
 rw [List.length_nil] at h1
 unfold GaOK
 rw [e1]
 exact ⟨by omega,h2⟩
theorem gs_all:∀(n:Nat) (s:List Ga×List Gs×Dk),(∀i,i<s.1.length→GaOK (s.1.getD i default))→∀i,i<(it gsN n s).1.length→GaOK ((it gsN n s).1.getD i default)
 | 0,s,h=>h
 | n+1,s,h=>by
   unfold it
   exact gs_all n (gsN s) (all_push h (gate_rg s.2.2))
theorem gates_rg (d:Dk) (m:Int):∀i,i<(gatesF d m).1.length→GaOK ((gatesF d m).1.getD i default):=by
 unfold gatesF
 exact gs_all _ _ fun i hi=>absurd hi (Nat.not_lt_zero _)
theorem dam_rg (d:Dk):RgD (damF d).1∧RgS (damF d).2.1:=by
 have u1:=unitsF_ok (nxtD (resF d).2 4) (m:=2) (by omega)
 have u2:=units_rg (nxtD (resF d).2 4) 2
 have g1:=gatesF_ok (unitsF (nxtD (resF d).2 4) 2).2.2 (m:=2) (by omega)
 have g2:=gates_rg (unitsF (nxtD (resF d).2 4) 2).2.2 2
 have e1:(damF d).1.us=(unitsF (nxtD (resF d).2 4) 2).1:=by unfold damF;dsimp only
 have e2:(damF d).1.gs=(gatesF (unitsF (nxtD (resF d).2 4) 2).2.2 2).1:=by unfold damF;dsimp only
 have e3:(damF d).2.1.us=(unitsF (nxtD (resF d).2 4) 2).2.1:=by unfold damF;dsimp only
 have e4:(damF d).2.1.gs=(gatesF (unitsF (nxtD (resF d).2 4) 2).2.2 2).2.1:=by unfold damF;dsimp only
 generalize damF d=D at e1 e2 e3 e4⊢
 generalize gatesF (unitsF (nxtD (resF d).2 4) 2).2.2 2=G at g1 g2 e2 e4
 generalize unitsF (nxtD (resF d).2 4) 2=U at u1 u2 e1 e3
 refine ⟨⟨by rw [e1];omega,by rw [e2];omega, ?_, ?_⟩,⟨by rw [e3];omega,by rw [e4];omega⟩⟩
 ·rw [e1]
  intro i hi
  have:=u2 i hi
  omega
 ·rw [e2]
  intro i hi
  have:=g2 i hi
  exact ⟨by have:=this.1;omega,fun j hj=>by have:=this.2 j hj;omega⟩
theorem cs_all:∀(k:Nat) (n:Int) (s:List Site×List Ds×Dk),(∀i,i<s.1.length→RgD (s.1.getD i default).x)→(∀i,i<s.2.1.length→RgS (s.2.1.getD i default))→
  (∀i,i<(csI k n s).1.length→RgD ((csI k n s).1.getD i default).x)∧(∀i,i<(csI k n s).2.1.length→RgS ((csI k n s).2.1.getD i default))
 | 0,n,s,h,h2=>⟨h,h2⟩
 | k+1,n,s,h,h2=>by
   unfold csI
   split
   ·have hd:=dam_rg (nxtD s.2.2 2)
    have:(∀i,i<(csN n s).1.length→RgD ((csN n s).1.getD i default).x)∧(∀i,i<(csN n s).2.1.length→RgS ((csN n s).2.1.getD i default)):=by
     unfold csN
     split
     ·exact ⟨all_push (P:=fun x:Site=>RgD x.x) h hd.1,all_push h2 hd.2⟩
     ·exact ⟨h,h2⟩
    exact cs_all k (n+1) (csN n s) this.1 this.2
   ·exact ⟨h,h2⟩
theorem rv_all (N:Int):∀(k:Nat) (n:Int) (s:List Lk×Dk),(∀i,i<s.1.length→(s.1.getD i default).ws.length≤5)→∀i,i<(rvI N k n s).1.length→((rvI N k n s).1.getD i default).ws.length≤5
 | 0,n,s,h=>h
 | k+1,n,s,h=>by
   unfold rvI
   refine rv_all N k (n+1) (rvN N n s) ?_
   unfold rvN
   split
   ·exact all_push (P:=fun x:Lk=>x.ws.length≤5) h (reachF_ok _).1
   ·exact h
theorem river_rg (d:Dk):∀i,i<(riverF d).2.1.length→((riverF d).2.1.getD i default).ws.length≤5:=by
 unfold riverF
 dsimp only
 exact rv_all _ _ _ _ fun i hi=>absurd hi (Nat.not_lt_zero _)
theorem casc_rg (d:Dk):RgC ⟨(cascF d).1.1,(cascF d).1.2.1,(cascF d).1.2.2⟩∧∀i,i<(cascF d).2.1.length→RgS ((cascF d).2.1.getD i default):=by
 have h:=cascF_ok d
 have h1:=river_rg d
 have h2:=cs_all (riverF d).1.toNat 0 ([], [],(riverF d).2.2) (fun i hi=>absurd hi (Nat.not_lt_zero _)) (fun i hi=>absurd hi (Nat.not_lt_zero _))
 have e1:(cascF d).1.2.1=(riverF d).2.1:=by unfold cascF;dsimp only
 have e2:(cascF d).1.2.2=(csI (riverF d).1.toNat 0 ([], [],(riverF d).2.2)).1:=by unfold cascF;dsimp only
 have e3:(cascF d).2.1=(csI (riverF d).1.toNat 0 ([], [],(riverF d).2.2)).2.1:=by unfold cascF;dsimp only
 rw [←e2,←e3] at h2
 rw [←e1] at h1
 refine ⟨⟨by dsimp only;omega,by dsimp only;omega, ?_,h2.1⟩,h2.2⟩
 intro i hi
 have:=h1 i hi
 dsimp only
 omega
def nof (_:Nat):List PV:= []
def QFlo (d:Dk) (r:CallRes):Prop:=∃(F:Fw) (d':Dk),r=⟨.agg (eFw 1 F), [.box (eDk 1 d')], []⟩∧RgF F∧d'.at_≤d.at_+100
theorem q19 (τ:Nat) (c:Cs) (N:Nat) (d:Dk) (l:List Dt) (hc:RgC c) (hN:c.N=N) (hN2:N≤6) (hs:c.ss.length≤3) (hl:l.length≤1000000) (hd:∀i,i<l.length→RgS (l.getD i default).s) (hat:d.at_≤880000000):
  PureCallQ Tryz.prog 19 [.pt 0 0 0, .agg (eCas τ c), .sl 1 4 l.length (fl eDt l)] [.box (eDk 1 d)] (QFlo d):=by
 refine pure_callQ mix Tryz.func19 fits19 rfl ?_
 conv=>whnf
 refine ⟨by exact g0,LSem.regQ ?_⟩
 conv=>whnf
 refine ⟨_,q36 _ c l hc hl hd,⟨by exact g0,by exact g0⟩, ?_⟩
 rintro _ ⟨f,e,rfl,hf⟩
 conv=>whnf
 refine ⟨by exact g0, ?_⟩
 conv=>whnf
 refine ⟨_,fun _=>call_next 1 d 6 (by omega) (by omega), ?_⟩
 have r1:=nxt_lt d (n:=6) (by omega)
 have a1:=nxtD_at d 6
 generalize nxt d 6=x at r1⊢
 generalize nxtD d 6=d1 at a1⊢
 conv=>whnf
 refine ⟨by exact g0, ?_⟩
 refine LSem.loop (n:=39) mix (α:=Nat×Fw×Dk) (fun s=>s.1≤5∧RgF s.2.1∧s.2.2.at_+18*s.1≤d.at_+91)
  (fun s=> [(0, .pt 0 0 0),(4, .pt 64 0 0),(6, .pt 96 0 0),(7, .pt 112 0 0),(9, .int .i64 s.1)])
  (fun s=> [(0, .box (eDk 1 s.2.2)),(64, .box (eCas τ c)),(96, .box [.int .i64 0, .nil 4, .nil 1]),(112, .box (eFw 1 s.2.1))])
  (fun s=>s.1) (x.toNat,f,d1) ⟨by dsimp only;omega,hf,by dsimp only;omega⟩ ?_ ?_
 ·have hx:((x.toNat:Nat):Int)=x:=by omega
  refine ⟨rfl,rfl, ?_, ?_⟩<;>exact ent
 rintro ⟨k,f,e⟩ ⟨k1,hf,k3⟩
 dsimp only at k1 hf k3⊢
 conv=>whnf
 refine ⟨by exact g0,fun hc1=> ?_,fun hc1=> ?_⟩
 ·replace hc1:=of_decide_eq_true hc1
  have hk:0<k:=by
   have h:(0:Int)<k:=hc1
   omega
  have hs:=supF_ok N c.ss.length e
  conv=>whnf
  refine ⟨by exact g0,LSem.drwE 25 mix ?_⟩
  conv=>whnf
  refine ⟨_,call26 _ c N e hN (by omega) (by omega) (by omega),rfl, ?_⟩
  generalize supF N c.ss.length e=W at hs⊢
  obtain ⟨p,e2⟩:=W
  dsimp only at hs⊢
  have hp:RgP p:=⟨by omega,by omega,by omega⟩
  have h02:lendT 0≤2:=by decide
  conv=>whnf
  refine ⟨_,(q25 _ c f p hc hf hp).arg_le ⟨by exact ent,by exact ent,by exact ent,trivial⟩,⟨_,f,0,0,0,nof,nof,nof,1,rfl,hf,fun h=>absurd h (by decide)⟩,rfl, ?_⟩
  rintro _ ⟨F,n1,n2,n3,f1,f2,f3,e3,rfl,hF,_⟩
  conv=>whnf
  refine ⟨by exact g0,rfl, ?_⟩
  conv=>whnf
  refine ⟨by exact g0,fun h=> ?_,fun h=> ?_⟩
  ·conv=>whnf
   refine ⟨by exact g0, ?_⟩
   conv=>whnf
   refine ⟨(k - 1,F,e2),⟨by dsimp only;omega,hF,by dsimp only;omega⟩,by dsimp only;omega,rfl,rfl, ?_, ?_⟩<;>exact ent
  ·conv=>whnf
   refine ⟨by exact g0,(k - 1,f,e2),⟨by dsimp only;omega,hf,by dsimp only;omega⟩,by dsimp only;omega,rfl,rfl, ?_, ?_⟩<;>exact ent
 ·refine ⟨⟨_,⟨f,e,rfl,hf,by omega⟩, ?_⟩⟩
  conv=>whnf
  refine ⟨by exact g0, [], ?_⟩
  conv=>whnf
  refine ⟨rfl, ?_, ?_,trivial⟩<;>exact ent
def dtsF (l:List Ds):List Dt:=l.map fun x=>⟨x,0⟩
theorem dtsF_len (l:List Ds):(dtsF l).length=l.length:=List.length_map _
theorem dtsF_get (l:List Ds) {i:Nat} (h:i<l.length):(dtsF l).getD i default=⟨l.getD i default,0⟩:=by
 unfold dtsF
 simp [List.getD,h]
theorem dts_row (l:List Ds):RowEq l.length (fl (eDs 0) l) (fl eDt (dtsF l)):=fun i hi=>by
 show eDs 0 (l.getD i default)=eDt ((dtsF l).getD i default)
 rw [dtsF_get l hi];rfl
theorem q19r (τ:Nat) (c:Cs) (N:Nat) (d:Dk) (l:List Ds) (hc:RgC c) (hN:c.N=N) (hN2:N≤6) (hs:c.ss.length≤3) (hl:l.length≤1000000) (hd:∀i,i<l.length→RgS (l.getD i default)) (hat:d.at_≤880000000):
  PureCallQ Tryz.prog 19 [.pt 0 0 0, .agg (eCas τ c), .sl 1 4 l.length (fl (eDs 0) l)] [.box (eDk 1 d)] (QFlo d):=by
 have h:=q19 τ c N d (dtsF l) hc hN hN2 hs (by rw [dtsF_len];exact hl) (fun i hi=>by rw [dtsF_len] at hi;rw [dtsF_get l hi];exact hd i hi) hat
 rw [dtsF_len] at h
 have hr:=dts_row l
 exact h.arg_le ⟨by exact ent,by exact ent,by exact ent,trivial⟩
def QRiv (d:Dk) (r:CallRes):Prop:=∃(F:Fw) (d':Dk),r=⟨.tup [.agg (eCas 0 ⟨(cascF d).1.1,(cascF d).1.2.1,(cascF d).1.2.2⟩), .agg (eFw 1 F)], [.box (eDk 1 d')], []⟩∧RgF F∧d'.at_≤d.at_+1400
theorem q7 (d:Dk) (hat:d.at_≤870000000):PureCallQ Tryz.prog 7 [.pt 0 0 0] [.box (eDk 1 d)] (QRiv d):=by
 refine pure_callQ mix Tryz.func7 fits7 rfl ?_
 conv=>whnf
 refine ⟨_,fun _=>call18 d (by omega), ?_⟩
 have h:=cascF_ok d
 obtain ⟨hc,hS⟩:=casc_rg d
 unfold QRiv
 generalize cascF d=W at h hc hS⊢
 obtain ⟨⟨N,lk,ss⟩,ds,d1⟩:=W
 dsimp only at h hc hS⊢
 obtain ⟨N,rfl⟩:∃m:Nat,N=m:=⟨N.toNat,by omega⟩
 conv=>whnf
 refine ⟨by exact g0,LSem.drwQ mix ?_⟩
 conv=>whnf
 refine ⟨_,q19r (lendT 0) ⟨N,lk,ss⟩ N d1 ds hc rfl (by omega) (by dsimp only;omega) (by omega) hS (by omega),⟨_,⟨0, [], []⟩,d1,rfl,rgF0,Nat.le_add_right _ _⟩,rfl, ?_⟩
 rintro _ ⟨F,d2,rfl,hF,hat2⟩
 conv=>whnf
 refine ⟨by exact g0,rfl, ?_⟩
 conv=>whnf
 trace_state
 refine ⟨⟨_,⟨F,d2,rfl,hF,by omega⟩, ?_⟩⟩
 conv=>whnf
 refine ⟨by exact g0, [], ?_⟩
 conv=>whnf
 refine ⟨rfl, ?_, ?_,trivial⟩<;>exact ent
theorem sum_set:∀(l:List Int) (i:Nat),i<l.length→(l.set i (l.getD i default+1)).sum=l.sum+1
 | x::l,0,_=>by
   simp only [List.set_cons_zero,List.sum_cons,List.getD_cons_zero];omega
 | x::l,i+1,h=>by
   have ih:=sum_set l i (by simpa using h)
   simp only [List.set_cons_succ,List.sum_cons,List.getD_cons_succ]
   omega
theorem set_nn (l:List Int) (i:Nat) (h:∀k,k<l.length→0≤l.getD k default) (hi:i<l.length):∀k,k<(l.set i (l.getD i default+1)).length→0≤(l.set i (l.getD i default+1)).getD k default:=fun k hk=>by
 rw [List.length_set] at hk
 by_cases e:k=i
 ·subst e
  have h0:=h k hk
  rw [show (l.set k (l.getD k default+1)).getD k default=l.getD k default+1 by simp [List.getD,List.getElem?_set,hk]]
  omega
 ·rw [show (l.set i (l.getD i default+1)).getD k default=l.getD k default by simp [List.getD,List.getElem?_set,Ne.symm e]]
  exact h k hk
theorem cnt_sum {C:List (List Cd)}:∀(l:List Vi) (out:List Int),out.length=9→(∀k,k<out.length→0≤out.getD k default)→(∀v∈l,belV C v∧1≤(cdV C v).r∧(cdV C v).r≤9)→
  ∃o,cntL C out l=(o,0)∧o.length=9∧(∀k,k<o.length→0≤o.getD k default)∧o.sum=out.sum+l.length
 | [],out,h9,h0,_=>⟨out,rfl,h9,h0,by simp⟩
 | v::l,out,h9,h0,h=>by
   have hv:=h v (by simp)
   have hi:((cdV C v).r - 1).toNat<out.length:=by omega
   obtain ⟨o,h1,h2,h3,h4⟩:=cnt_sum (C:=C) l (out.set ((cdV C v).r - 1).toNat (out.getD ((cdV C v).r - 1).toNat default+1)) (by rw [List.length_set];exact h9) (set_nn out _ h0 hi) (fun w hw=>h w (by simp [hw]))
   refine ⟨o, ?_,h2,h3, ?_⟩
   ·rw [cntL,if_neg (fun h=>h hv.1),if_neg (by omega)]
    exact h1
   ·rw [h4,sum_set out _ hi,List.length_cons]
    omega
theorem sum_nn:∀(l:List Int),(∀k,k<l.length→0≤l.getD k default)→0≤l.sum
 | [],_=>Int.le_refl _
 | x::l,h=>by
   have h0:=h 0 (by simp)
   have ih:=sum_nn l fun k hk=>by simpa using h (k+1) (by simpa using hk)
   simp only [List.getD_cons_zero] at h0
   rw [List.sum_cons]
   omega
theorem sum_drop {l:List Int} {i:Nat} (h:i<l.length):(l.drop i).sum=l.getD i default+(l.drop (i+1)).sum:=by
 rw [List.drop_eq_getElem_cons h,List.sum_cons]
 simp [List.getD,h]
theorem drop_nn {l:List Int} (h:∀k,k<l.length→0≤l.getD k default) (i:Nat):0≤(l.drop i).sum:=sum_nn _ fun k hk=>by
 have:=h (i+k) (by simp at hk;omega)
 simpa [List.getD] using this
theorem list_all:∀(n:Nat) (s:List (List Cd)×Dk),(∀i,i<s.1.length→∀j,j<(s.1.getD i default).length→CondOK ((s.1.getD i default).getD j default))→
  ∀i,i<(it listN n s).1.length→∀j,j<((it listN n s).1.getD i default).length→CondOK (((it listN n s).1.getD i default).getD j default)
 | 0,s,h=>h
 | n+1,s,h=>by
   unfold it
   exact list_all n (listN s) (all_push (P:=fun l:List Cd=>∀j,j<l.length→CondOK (l.getD j default)) h (condsF_ok s.2).2.1)
structure LisOK (C:List (List Cd)):Prop where
 len:C.length≤3
 six:∀i,i<C.length→(C.getD i default).length≤6
 cd:∀i,i<C.length→∀j,j<(C.getD i default).length→CondOK ((C.getD i default).getD j default)
theorem lists_lis {n:Nat} (hn:n≤3) (d:Dk):LisOK (listsF n d).1:=by
 have h:=listsF_ok n d
 have h2:=list_all n ([],d) fun i hi=>absurd hi (Nat.not_lt_zero _)
 exact ⟨by omega,h.2.1,h2⟩
theorem LisOK.bel {C:List (List Cd)} (h:LisOK C) {v:Vi} (hb:belV C v):belV C v∧1≤(cdV C v).r∧(cdV C v).r≤9:=by
 have hb2:=hb
 obtain ⟨⟨b1,b2⟩,b3,b4⟩:=hb2
 have:=h.cd v.s.toNat (by omega) v.c.toNat (by omega)
 have h2:=this.r
 exact ⟨hb,by unfold cdV;omega,by unfold cdV;omega⟩
theorem count_ok {C:List (List Cd)} (h:LisOK C) {l:List Vi} (hl:∀k,k<l.length→prvS C (l.getD k default)):∃o,countF C l=(o,0)∧o.length=9∧(∀k,k<o.length→0≤o.getD k default)∧o.sum=l.length:=by
 have:=h.len
 unfold countF
 rw [if_neg (by omega)]
 obtain ⟨o,h1,h2,h3,h4⟩:=cnt_sum (C:=C) l (List.replicate 9 0) rfl (fun k hk=>by rw [rep9 (by simpa using hk)];exact Int.le_refl _) fun v hv=>by
  obtain ⟨i,hi,rfl⟩:=List.mem_iff_getElem.1 hv
  have:=(hl i hi).1
  rw [show l.getD i default=l[i] by simp [List.getD,hi]] at this
  exact h.bel this
 exact ⟨o,h1,h2,h3,by rw [h4];simp⟩
theorem not_prv {C:List (List Cd)} {l:List Vi} {i:Nat} (hi:i<l.length) (h:prvS C (l.getD i default)):prvF C (l.set i { l.getD i default with b:=(l.getD i default).c })=false:=by
 refine prv_not (k:=i) (by rw [List.length_set];exact hi) ?_
 rw [show (l.set i { l.getD i default with b:=(l.getD i default).c }).getD i default={ l.getD i default with b:=(l.getD i default).c } by simp [List.getD,List.getElem?_set,hi]]
 generalize l.getD i default=v at h⊢
 obtain ⟨t,s,c,b⟩:=v
 obtain ⟨⟨_,h1,_⟩,_⟩:=h
 rintro ⟨_,h2 | h2⟩
 ·dsimp only at h1 h2;omega
 ·refine h2.2 (.inr ⟨?_, ?_⟩)
  ·rfl
  ·dsimp only;omega
def c28L1:C:=(.seq (sr [km 6 0,kk 7 (.ld 3 true 3),kk 8 (.mpg [(.i .i64),(.i .i64),(.i .i64)] [.b] true false false 6 7)] (.cond 8 .skip (.exit 0))) (.block 1 (sr [km 9 5,kk 10 (.bi false .add 9 (cn 1)),km 5 10] (.seq (sr [kk 11 (.fa 0 3),kk 12 (.ld 1 false 11),kk 13 (.bi false .eql 12 (cn 9223372036854775807))] (.cond 13 (.exit 0) .skip)) (.reg [kk 14 (.fa 0 3),kk 15 (.ld 1 false 14),kk 16 (.bi false .add 15 (cn 1)),kk 17 (.fa 0 3),kz (.st 1 17 16)])))))
def c28:C:=(sr [kk 3 (.bx 3 1),kk 4 (.mv (cn 0))] (sr [kk 5 (.mv (cn 0))] (.seq (.block 0 (.loop c28L1)) (sr [km 18 5,km 4 18] .ret))))
theorem fits28:fits Tryz.prog false Tryz.f28 2 19 [(4,none)]=some c28.er:=by kernel_rfl
def kI (j:Nat) (kc:List PC):Int:=intP (kc.getD j default)
def hV (l:List Vi):List PC→Bool:=fun kc=>inV l (kI 0 kc) (kI 1 kc) (kI 2 kc)
def fV (l:List Vi):List PC→List PC:=fun kc=> [.b (inV l (kI 0 kc) (kI 1 kc) (kI 2 kc))]
abbrev K3:List KK:= [.i .i64, .i .i64, .i .i64]
abbrev mpV (l:List Vi):SE:= .box [.mpv K3 [.b] true false (hV l) (fV l)]
def runL (l:List Vi) (s c:Int):Nat→Int→Nat
 | 0,_=>0
 | n+1,t=>if inV l t s c=true then if t=9223372036854775807 then 1 else 1+runL l s c n (t+1) else 0
def runV (l:List Vi) (t s c:Int):Nat:=runL l s c (l.length+1) t
theorem nodup_sub:∀(a b:List Int),a.Nodup→(∀x∈a,x∈b)→a.length≤b.length
 | [],_,_,_=>Nat.zero_le _
 | x::a,b,hn,h=>by
   have hx:=h x (by simp)
   have hn':=List.nodup_cons.1 hn
   have h1:=nodup_sub a (b.erase x) hn'.2 (fun y hy=>(List.mem_erase_of_ne (fun e=>hn'.1 (by rw [←e];exact hy))).2 (h y (by simp [hy])))
   have h2:=List.length_erase_of_mem hx
   have h3:=List.length_pos_of_mem hx
   simp only [List.length_cons];omega
theorem inV_mem {l:List Vi} {t s c:Int} (h:inV l t s c=true):∃v∈l,v.t=t∧v.s=s∧v.c=c:=by
 unfold inV at h
 obtain ⟨v,hv,ha⟩:=List.any_eq_true.1 h
 refine ⟨v,hv, ?_⟩
 unfold atV at ha
 by_cases h1:v.s=s
 ·by_cases h2:v.c=c
  ·simp only [h1,h2,beq_self_eq_true,cond_true] at ha
   exact ⟨by simpa using ha,h1,h2⟩
  ·rw [beq_iff_eq.2 h1,beq_eq_false_iff_ne.2 h2] at ha;cases ha
 ·rw [beq_eq_false_iff_ne.2 h1] at ha;cases ha
theorem inV_run {l:List Vi} {t s c:Int} {k:Nat} (h:∀i:Nat,i<k→inV l (t+i) s c=true):k≤l.length:=by
 have:=nodup_sub ((List.range k).map fun i:Nat=>t+(i:Int)) (l.map (·.t)) (by
   rw [List.Nodup,List.pairwise_map]
   exact List.nodup_range.imp fun {a b} hab e=>hab (by omega)) (fun x hx=>by
  obtain ⟨i,hi,rfl⟩:=List.mem_map.1 hx
  obtain ⟨v,hv,h1,_⟩:=inV_mem (h i (List.mem_range.1 hi))
  exact List.mem_map.2 ⟨v,hv,h1⟩)
 simpa using this
theorem inV_any (l:List Vi) (v:Vi) (t s c:Int):inV (l++ [v]) t s c=(inV l t s c || atV t s c v):=by simp [inV]
theorem runL_rng (l:List Vi) (s c:Int):∀(n:Nat) (t:Int),runL l s c n t≤n
 | 0,_=>Nat.le_refl _
 | n+1,t=>by
   have:=runL_rng l s c n (t+1)
   unfold runL
   split
   ·split<;>omega
   ·omega
theorem call28 (l:List Vi) (t s c:Int) (ht:t≤9223372036854775807) (ht0: -9223372036854775808≤t) (hl:l.length≤4611686018427387904):PureCall Tryz.prog 28 [.rf none 0, .agg [.int .i64 t, .int .i64 s, .int .i64 c]] [mpV l] ⟨.int .i64 (runV l t s c), [mpV l], []⟩:=by
 refine pure_call mix Tryz.func28 fits28 rfl ?_
 conv=>whnf
 refine ⟨trivial, ?_⟩
 refine LSem.loop (n:=19) mix (α:=Nat) (fun k=>t+k≤9223372036854775807∧(∀i:Nat,i<k→inV l (t+i) s c=true)∧k+runL l s c (l.length+1 - k) (t+k)=runV l t s c)
  (fun k=> [(0, .rf none 0),(3, .pt 48 0 0),(5, .int .i64 k)])
  (fun k=> [(0,mpV l),(48, .box [.int .i64 (t+k), .int .i64 s, .int .i64 c])]) (fun k=>l.length+1 - k) 0 ?_ ?_ ?_
 ·exact ⟨by simpa using ht,fun i hi=>absurd hi (Nat.not_lt_zero i),by simp [runV]⟩
 ·refine ⟨rfl,rfl, ?_, ?_⟩
  all_goals repeat' (first | exact True.intro | refine leF_cons rfl ?_ ?_ | refine leS_cons rfl ?_ ?_ | (show PLe _ _ _ _;conv=>whnf) | (show SLe _ _ _ _;conv=>whnf) | (show PLeL _ _ _ _;conv=>whnf) | apply And.intro | rfl | exact Nat.le_refl _ | exact fun _ _=>rfl | exact rowEq0 _ _)
  all_goals first | exact fun kl _=>⟨rfl,rfl⟩ | omega | skip
 ·intro k hk
  obtain ⟨hk1,hk2,hk3⟩:=hk
  have hkl:=inV_run hk2
  obtain ⟨m,hm⟩:∃m,l.length+1 - k=m+1:=⟨l.length - k,by omega⟩
  rw [hm] at hk3
  unfold runL at hk3
  conv=>whnf
  refine ⟨?_,fun hc=> ?_,fun hc=> ?_⟩
  ·(try conv=>whnf)
   (repeat' (first | exact True.intro | exact fun _ h=>h | refine inR64_of ?_ ?_ | apply And.intro | refine maxLen_ge ?_))<;>(first | omega | (dsimp only;omega))
  ·have hin:inV l (t+k) s c=true:=hc
   rw [if_pos hin] at hk3
   conv=>whnf
   refine ⟨?_,fun hc2=> ?_,fun hc2=> ?_⟩
   ·(try conv=>whnf)
    (repeat' (first | exact True.intro | exact fun _ h=>h | refine inR64_of ?_ ?_ | apply And.intro | refine maxLen_ge ?_))<;>(first | omega | (dsimp only;omega))
   ·have he:t+(k:Int)=9223372036854775807:=by simpa using hc2
    rw [if_pos he] at hk3
    rw [←hk3]
    conv=>whnf
    refine ⟨?_, [], ?_⟩
    ·(try conv=>whnf)
     (repeat' (first | exact True.intro | exact fun _ h=>h | refine inR64_of ?_ ?_ | apply And.intro | refine maxLen_ge ?_))<;>(first | omega | (dsimp only;omega))
    conv=>whnf
    refine ⟨rfl, ?_, ?_,trivial⟩
    all_goals repeat' (first | exact True.intro | refine leF_cons rfl ?_ ?_ | refine leS_cons rfl ?_ ?_ | (show PLe _ _ _ _;conv=>whnf) | (show SLe _ _ _ _;conv=>whnf) | (show PLeL _ _ _ _;conv=>whnf) | apply And.intro | rfl | exact Nat.le_refl _ | exact fun _ _=>rfl | exact rowEq0 _ _)
    all_goals first | exact fun kl _=>⟨rfl,rfl⟩ | omega | skip
   ·have he:¬t+(k:Int)=9223372036854775807:=by simpa using hc2
    rw [if_neg he] at hk3
    conv=>whnf
    refine ⟨?_,k+1,⟨by omega,fun i hi=> ?_, ?_⟩, ?_,rfl,rfl, ?_, ?_⟩
    ·(try conv=>whnf)
     (repeat' (first | exact True.intro | exact fun _ h=>h | refine inR64_of ?_ ?_ | apply And.intro | refine maxLen_ge ?_))<;>(first | omega | (dsimp only;omega))
    ·rcases Nat.lt_or_ge i k with h | h
     ·exact hk2 i h
     ·rw [show i=k by omega];exact hin
    ·rw [←hk3,show l.length+1 - (k+1)=m by omega,show t+((k+1:Nat):Int)=t+k+1 by omega];omega
    ·omega
    all_goals repeat' (first | exact True.intro | refine leF_cons rfl ?_ ?_ | refine leS_cons rfl ?_ ?_ | (show PLe _ _ _ _;conv=>whnf) | (show SLe _ _ _ _;conv=>whnf) | (show PLeL _ _ _ _;conv=>whnf) | apply And.intro | rfl | exact Nat.le_refl _ | exact fun _ _=>rfl | exact rowEq0 _ _)
    all_goals first | exact fun kl _=>⟨rfl,rfl⟩ | omega | skip
  ·have hin:¬inV l (t+k) s c=true:=fun h=>by
     have hc':inV l (t+k) s c=false:=hc
     rw [h] at hc';cases hc'
   rw [if_neg hin] at hk3
   have hk4:runV l t s c=k:=by omega
   rw [hk4]
   conv=>whnf
   refine ⟨?_, [], ?_⟩
   ·(try conv=>whnf)
    (repeat' (first | exact True.intro | exact fun _ h=>h | refine inR64_of ?_ ?_ | apply And.intro | refine maxLen_ge ?_))<;>(first | omega | (dsimp only;omega))
   conv=>whnf
   refine ⟨rfl, ?_, ?_,trivial⟩
   all_goals repeat' (first | exact True.intro | refine leF_cons rfl ?_ ?_ | refine leS_cons rfl ?_ ?_ | (show PLe _ _ _ _;conv=>whnf) | (show SLe _ _ _ _;conv=>whnf) | (show PLeL _ _ _ _;conv=>whnf) | apply And.intro | rfl | exact Nat.le_refl _ | exact fun _ _=>rfl | exact rowEq0 _ _)
   all_goals first | exact fun kl _=>⟨rfl,rfl⟩ | skip
def c15L1:C:=(sr [kk 20 (.bi false .lss 19 18)] (.seq (.cond 20 .skip (.exit 0)) (.seq (.block 1 (sr [kk 21 (.ia 4 17 19),kk 22 (.ld 4 true 21),kk 7 (.al [(.int .i64 0),(.int .i64 0),(.int .i64 0),(.int .i64 0)]),kz (.st 4 7 22)] (.reg [km 23 5,kk 24 (.fa 0 7),kk 25 (.ld 1 false 24),kk 26 (.fa 1 7),kk 27 (.ld 1 false 26),kk 28 (.fa 2 7),kk 29 (.ld 1 false 28),kk 30 (.bd [(.int .i64 0),(.int .i64 0),(.int .i64 0)] [(0,1,25),(1,1,27),(2,1,29)]),kz (.mpu [(.i .i64),(.i .i64),(.i .i64)] [.b] true false 23 30 (.c (.bool true)))]))) (.reg [kk 31 (.bi false .add 19 (cn 1)),km 19 31]))))
def c15L2:C:=(sr [kk 36 (.bi false .lss 35 34)] (.seq (.cond 36 .skip (.exit 2)) (.seq (.block 3 (sr [kk 37 (.ia 4 33 35),kk 38 (.ld 4 true 37),kk 12 (.al [(.int .i64 0),(.int .i64 0),(.int .i64 0),(.int .i64 0)]),kz (.st 4 12 38)] (sr [kk 39 (.fa 0 12),kk 40 (.ld 1 false 39),kk 41 (.fa 1 12),kk 42 (.ld 1 false 41),kk 43 (.fa 2 12),kk 44 (.ld 1 false 43),kk 45 (.bd [(.int .i64 0),(.int .i64 0),(.int .i64 0)] [(0,1,40),(1,1,42),(2,1,44)]),kk 13 (.al [(.int .i64 0),(.int .i64 0),(.int .i64 0)]),kz (.st 3 13 45)] (sr [km 47 8,kk 48 (.ld 3 true 13),kk 49 (.mpg [(.i .i64),(.i .i64),(.i .i64)] [(.i .i64)] true false true 47 48),km 46 49,kk 50 (.ex 46 0),kk 51 (.ex 46 1),km 14 50,km 15 51] (.seq (sr [km 52 15,kk 53 (.un false .not 52)] (.cond 53 (sr [km 54 5,kk 55 (.ld 3 true 13),kk 56 (cl 28 [54,55]),km 14 56] (.reg [km 57 8,kk 58 (.ld 3 true 13),km 59 14,kz (.mpu [(.i .i64),(.i .i64),(.i .i64)] [(.i .i64)] true false 57 58 59)])) .skip)) (sr [km 60 14,km 61 10,kk 62 (.bi false .gtr 60 61)] (.cond 62 (.reg [kk 63 (.ld 4 true 12),km 64 14,kz (.st 4 9 63),km 10 64]) .skip))))))) (.reg [kk 65 (.bi false .add 35 (cn 1)),km 35 65]))))
def c15:C:=(sr [kk 2 (.al [(.int .i64 0),(.int .i64 0),(.int .i64 0),(.int .i64 0)]),kk 3 (.mv (cn 0)),kk 4 (.mv (.c (.bool false)))] (sr [kk 16 (.mkm [(.i .i64),(.i .i64),(.i .i64)] [.b] true false),km 5 16] (.seq (sr [km 17 0,kk 18 (.len 17),kk 19 (.mv (cn 0))] (.block 0 (.loop c15L1))) (sr [kk 32 (.mkm [(.i .i64),(.i .i64),(.i .i64)] [(.i .i64)] true false),km 8 32] (sr [kk 9 (.al [(.int .i64 0),(.int .i64 0),(.int .i64 0),(.int .i64 0)])] (sr [kk 10 (.mv (cn 0))] (.seq (sr [km 33 0,kk 34 (.len 33),kk 35 (.mv (cn 0))] (.block 2 (.loop c15L2))) (sr [kk 66 (.ld 4 true 9),km 67 10,km 68 10,kk 69 (.bi false .gtr 68 (cn 0)),kz (.st 4 2 66),km 3 67,km 4 69] .ret))))))))
theorem fits15:fits Tryz.prog false Tryz.f15 1 70 [(2,some (4,true)),(3,none),(4,none)]=some c15.er:=by kernel_rfl
def gV (l:List Vi) (i:Nat):List PC→List PC:=fun kc=> [.i (if inV (l.take i) (kI 0 kc) (kI 1 kc) (kI 2 kc)=true then (runV l (kI 0 kc) (kI 1 kc) (kI 2 kc):Int) else 0)]
abbrev mpG (l:List Vi) (i:Nat):SE:= .box [.mpv K3 [.i .i64] true false (hV (l.take i)) (gV l i)]
def vi0:Vi:=⟨0,0,0,0⟩
def bestS (l:List Vi) (x:Vi×Int) (v:Vi):Vi×Int:=if (runV l v.t v.s v.c:Int)>x.2 then (v,(runV l v.t v.s v.c:Int)) else x
def bestF (l:List Vi) (i:Nat):Vi×Int:=(l.take i).foldl (bestS l) (vi0,0)
theorem bestF_push {l:List Vi} {i:Nat} (h:i<l.length):bestF l (i+1)=bestS l (bestF l i) (l.getD i default):=by
 unfold bestF
 rw [List.take_add_one,getD_some h]
 simp
theorem key3 {kl:List PC} (h:okK K3 kl=true):∃t s c,kl= [.i t, .i s, .i c]:=by
 match kl,okK_len h with
 | [a,b,c],_=>
   obtain ⟨h1,h⟩:=okK_cons h
   obtain ⟨h2,h⟩:=okK_cons h
   obtain ⟨h3,_⟩:=okK_cons h
   have one:∀x:PC,okC (.i .i64) x=true→∃n,x= .i n:=fun x hx=>by
    cases x with
    | i n=>exact ⟨n,rfl⟩
    | b _=>cases hx
    | s _=>cases hx
   obtain ⟨t,rfl⟩:=one a h1
   obtain ⟨s,rfl⟩:=one b h2
   obtain ⟨c,rfl⟩:=one c h3
   exact ⟨t,s,c,rfl⟩
theorem eqK3 (t s c t' s' c':Int):eqK [.i t, .i s, .i c] [.i t', .i s', .i c']=decide (t=t'∧s=s'∧c=c'):=by
 simp only [eqK,eqC]
 by_cases h1:t=t'<;>by_cases h2:s=s'<;>by_cases h3:c=c'<;>simp [h1,h2,h3]
theorem atV_dec (t s c:Int) (v:Vi):atV t s c v=decide (t=v.t∧s=v.s∧c=v.c):=by
 unfold atV
 by_cases h2:v.s=s
 ·by_cases h3:v.c=c
  ·by_cases h1:v.t=t
   ·rw [beq_iff_eq.2 h1,beq_iff_eq.2 h2,beq_iff_eq.2 h3,decide_eq_true ⟨h1.symm,h2.symm,h3.symm⟩];rfl
   ·rw [beq_eq_false_iff_ne.2 h1,beq_iff_eq.2 h2,beq_iff_eq.2 h3,decide_eq_false (fun h=>h1 h.1.symm)];rfl
  ·rw [beq_iff_eq.2 h2,beq_eq_false_iff_ne.2 h3,decide_eq_false (fun h=>h3 h.2.2.symm)];rfl
 ·rw [beq_eq_false_iff_ne.2 h2,decide_eq_false (fun h=>h2 h.2.1.symm)];rfl
theorem take_pushV {l:List Vi} {i:Nat} (h:i<l.length):l.take (i+1)=l.take i++ [l.getD i default]:=by
 rw [List.take_add_one,getD_some h];rfl
theorem mpV_put {l:List Vi} {v:Vi}:MpEq K3 (fun c=>eqK c [.i v.t, .i v.s, .i v.c] || hV l c) (fun c=>bif eqK c [.i v.t, .i v.s, .i v.c] then [.b true] else fV l c) (hV (l++ [v])) (fV (l++ [v])):=fun kl hk=>by
 obtain ⟨t,s,c,rfl⟩:=key3 hk
 dsimp only
 rw [eqK3]
 have e:hV (l++ [v]) [.i t, .i s, .i c]=(inV l t s c || decide (t=v.t∧s=v.s∧c=v.c)):=by
  show inV (l++ [v]) t s c=_
  rw [inV_any,atV_dec]
 have e2:fV (l++ [v]) [.i t, .i s, .i c]= [.b (inV l t s c || decide (t=v.t∧s=v.s∧c=v.c))]:=by
  show [PC.b (inV (l++ [v]) t s c)]=_
  rw [inV_any,atV_dec]
 rw [e,e2]
 have e3:hV l [.i t, .i s, .i c]=inV l t s c:=rfl
 have e4:fV l [.i t, .i s, .i c]= [.b (inV l t s c)]:=rfl
 rw [e3,e4]
 by_cases h:t=v.t∧s=v.s∧c=v.c
 ·rw [decide_eq_true h];simp
 ·rw [decide_eq_false h];simp
theorem mpG_put {l:List Vi} {i:Nat} (hi:i<l.length):MpEq K3 (fun c=>eqK c [.i (l.getD i default).t, .i (l.getD i default).s, .i (l.getD i default).c] || hV (l.take i) c) (fun c=>bif eqK c [.i (l.getD i default).t, .i (l.getD i default).s, .i (l.getD i default).c] then [.i (runV l (l.getD i default).t (l.getD i default).s (l.getD i default).c:Int)] else gV l i c)
  (hV (l.take (i+1))) (gV l (i+1)):=fun kl hk=>by
 obtain ⟨t,s,c,rfl⟩:=key3 hk
 rw [take_pushV hi]
 dsimp only
 have e2:gV l (i+1) [.i t, .i s, .i c]= [.i (if (inV (l.take i) t s c || decide (t=(l.getD i default).t∧s=(l.getD i default).s∧c=(l.getD i default).c))=true then (runV l t s c:Int) else 0)]:=by
  show [PC.i (if inV (l.take (i+1)) t s c=true then (runV l t s c:Int) else 0)]=_
  rw [take_pushV hi,inV_any,atV_dec]
 rw [e2]
 generalize l.getD i default=v
 have e:hV (l.take i++ [v]) [.i t, .i s, .i c]=(inV (l.take i) t s c || decide (t=v.t∧s=v.s∧c=v.c)):=by
  show inV (l.take i++ [v]) t s c=_
  rw [inV_any,atV_dec]
 rw [e,eqK3]
 have e3:hV (l.take i) [.i t, .i s, .i c]=inV (l.take i) t s c:=rfl
 have e4:gV l i [.i t, .i s, .i c]= [.i (if inV (l.take i) t s c=true then (runV l t s c:Int) else 0)]:=rfl
 rw [e3,e4]
 by_cases h:t=v.t∧s=v.s∧c=v.c
 ·rw [decide_eq_true h]
  obtain ⟨rfl,rfl,rfl⟩:=h
  simp
 ·rw [decide_eq_false h];simp
theorem mpG_same {l:List Vi} {i:Nat} (hi:i<l.length) (hin:inV (l.take i) (l.getD i default).t (l.getD i default).s (l.getD i default).c=true):MpEq K3 (hV (l.take i)) (gV l i) (hV (l.take (i+1))) (gV l (i+1)):=fun kl hk=>by
 obtain ⟨t,s,c,rfl⟩:=key3 hk
 have e:inV (l.take (i+1)) t s c=inV (l.take i) t s c:=by
  rw [take_pushV hi,inV_any,atV_dec]
  by_cases h:t=(l.getD i default).t∧s=(l.getD i default).s∧c=(l.getD i default).c
  ·rw [decide_eq_true h,h.1,h.2.1,h.2.2,hin];rfl
  ·rw [decide_eq_false h,Bool.or_false]
 constructor
 ·show inV (l.take i) t s c=inV (l.take (i+1)) t s c
  rw [e]
 ·show [PC.i (if inV (l.take i) t s c=true then (runV l t s c:Int) else 0)]= [PC.i (if inV (l.take (i+1)) t s c=true then (runV l t s c:Int) else 0)]
  rw [e]
theorem call15 (τ:Nat) (l:List Vi) (hl:l.length≤4611686018427387904) (hV64:∀i,i<l.length→ -9223372036854775808≤(l.getD i default).t∧(l.getD i default).t≤9223372036854775807):
  PureCall Tryz.prog 15 [.sl τ 4 l.length (fl eVi l)] [] ⟨.tup [.agg (eVi (bestF l l.length).1), .int .i64 (bestF l l.length).2, .bool (decide (0<(bestF l l.length).2))], [], []⟩:=by
 refine pure_call mix Tryz.func15 fits15 rfl ?_
 conv=>whnf
 refine ⟨trivial, ?_⟩
 refine LSem.loop (n:=70) mix (α:=Nat) (fun i=>i≤l.length)
  (fun i=> [(0, .sl τ 4 l.length (fl eVi l)),(2, .pt 32 0 0),(5, .rf none 256),(17, .sl τ 4 l.length (fl eVi l)),(18, .int .i64 l.length),(19, .int .i64 i)])
  (fun i=> [(32, .box (eVi vi0)),(256,mpV (l.take i))]) (fun i=>l.length - i) 0 ?_ ?_ ?_
 ·exact Nat.zero_le _
 ·refine ⟨rfl,rfl, ?_, ?_⟩
  all_goals repeat' (first | exact True.intro | refine leF_cons rfl ?_ ?_ | refine leS_cons rfl ?_ ?_ | (show PLe _ _ _ _;conv=>whnf) | (show SLe _ _ _ _;conv=>whnf) | (show PLeL _ _ _ _;conv=>whnf) | apply And.intro | rfl | exact Nat.le_refl _ | exact fun _ _=>rfl | exact rowEq0 _ _)
  all_goals first | exact fun kl _=>⟨rfl,rfl⟩ | skip
 ·intro i hi
  have hj:((i:Int)).toNat=i:=by omega
  conv=>whnf
  refine ⟨trivial,fun hc=> ?_,fun hc=> ?_⟩
  ·replace hc:=of_decide_eq_true hc
   have hlt:i<l.length:=by
    have h:(i:Int)<l.length:=hc
    omega
   have hq:=mpV_put (l:=l.take i) (v:=l.getD i default)
   rw [←take_pushV hlt] at hq
   conv=>whnf
   rw [hj]
   refine ⟨?_,i+1,hlt, ?_,rfl,rfl, ?_, ?_⟩
   ·(try conv=>whnf)
    (repeat' (first | exact True.intro | exact fun _ h=>h | refine inR64_of ?_ ?_ | apply And.intro | refine maxLen_ge ?_))<;>(first | omega | (dsimp only;omega))
   ·omega
   all_goals repeat' (first | exact True.intro | refine leF_cons rfl ?_ ?_ | refine leS_cons rfl ?_ ?_ | (show PLe _ _ _ _;conv=>whnf) | (show SLe _ _ _ _;conv=>whnf) | (show PLeL _ _ _ _;conv=>whnf) | apply And.intro | rfl | exact Nat.le_refl _ | exact fun _ _=>rfl | exact rowEq0 _ _)
   all_goals first | exact hq | omega | skip
  ·replace hc:=of_decide_eq_false hc
   have hk:i=l.length:=by
    have h:¬(i:Int)<l.length:=hc
    omega
   subst hk
   rw [List.take_length]
   conv=>whnf
   refine ⟨?_, ?_⟩
   ·(try conv=>whnf)
    (repeat' (first | exact True.intro | exact fun _ h=>h | refine inR64_of ?_ ?_ | apply And.intro | refine maxLen_ge ?_))<;>(first | omega | (dsimp only;omega))
   refine LSem.loop (n:=70) mix (α:=Nat) (fun i=>i≤l.length)
    (fun i=> [(2, .pt 32 0 0),(5, .rf none 256),(8, .rf none 512),(9, .pt 144 0 0),(10, .int .i64 (bestF l i).2),(33, .sl τ 4 l.length (fl eVi l)),(34, .int .i64 l.length),(35, .int .i64 i)])
    (fun i=> [(32, .box (eVi vi0)),(256,mpV l),(512,mpG l i),(144, .box (eVi (bestF l i).1))]) (fun i=>l.length - i) 0 ?_ ?_ ?_
   ·exact Nat.zero_le _
   ·refine ⟨rfl,rfl, ?_, ?_⟩
    all_goals repeat' (first | exact True.intro | refine leF_cons rfl ?_ ?_ | refine leS_cons rfl ?_ ?_ | (show PLe _ _ _ _;conv=>whnf) | (show SLe _ _ _ _;conv=>whnf) | (show PLeL _ _ _ _;conv=>whnf) | apply And.intro | rfl | exact Nat.le_refl _ | exact fun _ _=>rfl | exact rowEq0 _ _)
    all_goals first | exact fun kl _=>⟨rfl,rfl⟩ | skip
   ·intro i hi
    have hj:((i:Int)).toNat=i:=by omega
    conv=>whnf
    refine ⟨trivial,fun hc2=> ?_,fun hc2=> ?_⟩
    ·replace hc2:=of_decide_eq_true hc2
     have hlt:i<l.length:=by
      have h:(i:Int)<l.length:=hc2
      omega
     have hput:=mpG_put hlt
     have hsame:=mpG_same hlt
     have hbp:=bestF_push hlt
     have hv64:=hV64 i hlt
     conv=>whnf
     rw [hj]
     generalize l.getD i default=v at hput hsame hbp hv64⊢
     have hr0:(0:Int)≤runV l v.t v.s v.c∧(runV l v.t v.s v.c:Int)≤l.length+1:=by
      have:=runL_rng l v.s v.c (l.length+1) v.t
      have e:runV l v.t v.s v.c=runL l v.s v.c (l.length+1) v.t:=rfl
      omega
     unfold bestS at hbp
     refine ⟨?_,fun hk=> ?_,fun hk=> ?_⟩
     ·(try conv=>whnf)
      (repeat' (first | exact True.intro | exact fun _ h=>h | refine inR64_of ?_ ?_ | apply And.intro | refine maxLen_ge ?_))<;>(first | omega | (dsimp only;omega))
     ·have hno:inV (l.take i) v.t v.s v.c=false:=by
        have hk':(!(inV (l.take i) v.t v.s v.c))=true:=hk
        simpa using hk'
      conv=>whnf
      refine ⟨_,fun _=>call28 l v.t v.s v.c hv64.2 hv64.1 hl, ?_⟩
      generalize runV l v.t v.s v.c=R at hput hbp hr0⊢
      conv=>whnf
      refine ⟨?_,fun hg=> ?_,fun hg=> ?_⟩
      ·(try conv=>whnf)
       (repeat' (first | exact True.intro | exact fun _ h=>h | refine inR64_of ?_ ?_ | apply And.intro | refine maxLen_ge ?_))<;>(first | omega | (dsimp only;omega))
      ·have hg':(R:Int)>(bestF l i).2:=of_decide_eq_true hg
       rw [if_pos hg'] at hbp
       conv=>whnf
       refine ⟨?_,i+1,hlt, ?_,rfl,rfl, ?_, ?_⟩
       ·(try conv=>whnf)
        (repeat' (first | exact True.intro | exact fun _ h=>h | refine inR64_of ?_ ?_ | apply And.intro | refine maxLen_ge ?_))<;>(first | omega | (dsimp only;omega))
       ·omega
       all_goals repeat' (first | exact True.intro | refine leF_cons rfl ?_ ?_ | refine leS_cons rfl ?_ ?_ | (show PLe _ _ _ _;conv=>whnf) | (show SLe _ _ _ _;conv=>whnf) | (show PLeL _ _ _ _;conv=>whnf) | apply And.intro | rfl | exact Nat.le_refl _ | exact fun _ _=>rfl | exact rowEq0 _ _)
       all_goals first | exact hput | (rw [hbp];done) | exact fun kl _=>⟨rfl,rfl⟩ | omega | skip
      ·have hg':¬(R:Int)>(bestF l i).2:=of_decide_eq_false hg
       rw [if_neg hg'] at hbp
       conv=>whnf
       refine ⟨?_,i+1,hlt, ?_,rfl,rfl, ?_, ?_⟩
       ·(try conv=>whnf)
        (repeat' (first | exact True.intro | exact fun _ h=>h | refine inR64_of ?_ ?_ | apply And.intro | refine maxLen_ge ?_))<;>(first | omega | (dsimp only;omega))
       ·omega
       all_goals repeat' (first | exact True.intro | refine leF_cons rfl ?_ ?_ | refine leS_cons rfl ?_ ?_ | (show PLe _ _ _ _;conv=>whnf) | (show SLe _ _ _ _;conv=>whnf) | (show PLeL _ _ _ _;conv=>whnf) | apply And.intro | rfl | exact Nat.le_refl _ | exact fun _ _=>rfl | exact rowEq0 _ _)
       all_goals first | exact hput | (rw [hbp];done) | exact fun kl _=>⟨rfl,rfl⟩ | omega | skip
     ·have hin:inV (l.take i) v.t v.s v.c=true:=by
        have hk':(!(inV (l.take i) v.t v.s v.c))=false:=hk
        simpa using hk'
      have hq:=hsame hin
      have hgv:gV l i [.i v.t, .i v.s, .i v.c]= [.i (runV l v.t v.s v.c:Int)]:=by
       show [PC.i (if inV (l.take i) v.t v.s v.c=true then (runV l v.t v.s v.c:Int) else 0)]=_
       rw [if_pos hin]
      have hX:intP ((gV l i [.i v.t, .i v.s, .i v.c]).headD default)=(runV l v.t v.s v.c:Int):=by rw [hgv];rfl
      generalize runV l v.t v.s v.c=R at hX hbp
      conv=>whnf
      refine ⟨trivial,fun hg=> ?_,fun hg=> ?_⟩
      ·have hg0:(bestF l i).2<intP ((gV l i [.i v.t, .i v.s, .i v.c]).headD default):=of_decide_eq_true hg
       rw [hX] at hg0
       rw [if_pos hg0] at hbp
       have hb2:intP ((gV l i [.i v.t, .i v.s, .i v.c]).headD default)=(bestF l (i+1)).2:=by rw [hX,hbp]
       conv=>whnf
       refine ⟨?_,i+1,hlt, ?_,rfl,rfl, ?_, ?_⟩
       ·(try conv=>whnf)
        (repeat' (first | exact True.intro | exact fun _ h=>h | refine inR64_of ?_ ?_ | apply And.intro | refine maxLen_ge ?_))<;>(first | omega | (dsimp only;omega))
       ·omega
       all_goals repeat' (first | exact True.intro | refine leF_cons rfl ?_ ?_ | refine leS_cons rfl ?_ ?_ | (show PLe _ _ _ _;conv=>whnf) | (show SLe _ _ _ _;conv=>whnf) | (show PLeL _ _ _ _;conv=>whnf) | apply And.intro | rfl | exact Nat.le_refl _ | exact fun _ _=>rfl | exact rowEq0 _ _)
       all_goals first | exact hq | (rw [hbp];done) | exact hb2 | exact fun kl _=>⟨rfl,rfl⟩ | omega | skip
      ·have hg0:¬(bestF l i).2<intP ((gV l i [.i v.t, .i v.s, .i v.c]).headD default):=of_decide_eq_false hg
       rw [hX] at hg0
       rw [if_neg hg0] at hbp
       conv=>whnf
       refine ⟨?_,i+1,hlt, ?_,rfl,rfl, ?_, ?_⟩
       ·(try conv=>whnf)
        (repeat' (first | exact True.intro | exact fun _ h=>h | refine inR64_of ?_ ?_ | apply And.intro | refine maxLen_ge ?_))<;>(first | omega | (dsimp only;omega))
       ·omega
       all_goals repeat' (first | exact True.intro | refine leF_cons rfl ?_ ?_ | refine leS_cons rfl ?_ ?_ | (show PLe _ _ _ _;conv=>whnf) | (show SLe _ _ _ _;conv=>whnf) | (show PLeL _ _ _ _;conv=>whnf) | apply And.intro | rfl | exact Nat.le_refl _ | exact fun _ _=>rfl | exact rowEq0 _ _)
       all_goals first | exact hq | (rw [hbp];done) | exact fun kl _=>⟨rfl,rfl⟩ | omega | skip
    ·replace hc2:=of_decide_eq_false hc2
     have hk:i=l.length:=by
      have h:¬(i:Int)<l.length:=hc2
      omega
     subst hk
     conv=>whnf
     refine ⟨?_, [], ?_⟩
     ·(try conv=>whnf)
      (repeat' (first | exact True.intro | exact fun _ h=>h | refine inR64_of ?_ ?_ | apply And.intro | refine maxLen_ge ?_))<;>(first | omega | (dsimp only;omega))
     conv=>whnf
     refine ⟨rfl, ?_,trivial,trivial⟩
     all_goals repeat' (first | exact True.intro | refine leF_cons rfl ?_ ?_ | refine leS_cons rfl ?_ ?_ | (show PLe _ _ _ _;conv=>whnf) | (show SLe _ _ _ _;conv=>whnf) | (show PLeL _ _ _ _;conv=>whnf) | apply And.intro | rfl | exact Nat.le_refl _ | exact fun _ _=>rfl | exact rowEq0 _ _)
def c54L1:C:=(sr [kk 27 (.bi false .lss 26 25)] (.seq (.cond 27 .skip (.exit 0)) (.seq (.block 1 (sr [km 28 26,km 5 28] (.seq (sr [km 29 0,km 30 5,kk 31 (.ixs 29 30),kk 32 (.bi false .lss 31 (.c (.int .u8 48))),km 33 32,kg 34 33 false (.mv 0),kg 35 33 false (.mv 5),kg 36 33 false (.ixs 34 35),kg 37 33 false (.bi false .gtr 36 (.c (.int .u8 57))),kk 38 (.pick 33 (.c (.bool true)) 37)] (.cond 38 (sr [kk 2 (.mv (cn 0)),kk 3 (.mv (.c (.bool false)))] .ret) .skip)) (.reg [km 39 4,kk 40 (.bi false .mul (cn 10) 39),km 41 0,km 42 5,kk 43 (.ixs 41 42),kk 44 (.bi false .sub 43 (.c (.int .u8 48))),kk 45 (.cv false .i64 44),kk 46 (.bi false .add 40 45),km 4 46])))) (.reg [kk 47 (.bi false .add 26 (cn 1)),km 26 47]))))
def c54:C:=(sr [kk 2 (.mv (cn 0)),kk 3 (.mv (.c (.bool false)))] (.seq (sr [km 6 0,kk 7 (.lens 6),kk 8 (.bi false .lss 7 (cn 1)),km 9 8,kg 10 9 false (.mv 0),kg 11 9 false (.lens 10),kg 12 9 false (.bi false .gtr 11 (cn 8)),kk 13 (.pick 9 (.c (.bool true)) 12),km 14 13,kg 15 14 false (.mv 0),kg 16 14 false (.lens 15),kg 17 14 false (.bi false .gtr 16 (cn 1)),kg 18 14 false (.mv 17),kg 19 18 true (.mv 0),kg 20 18 true (.ixs 19 (cn 0)),kg 21 18 true (.bi false .eql 20 (.c (.int .u8 48))),kg 22 14 false (.pick 18 21 (.c (.bool false))),kk 23 (.pick 14 (.c (.bool true)) 22)] (.cond 23 (sr [kk 2 (.mv (cn 0)),kk 3 (.mv (.c (.bool false)))] .ret) .skip)) (sr [kk 4 (.mv (cn 0))] (.seq (sr [km 24 0,kk 25 (.lens 24),kk 26 (.mv (cn 0))] (.block 0 (.loop c54L1))) (sr [km 48 4,km 2 48,kk 3 (.mv (.c (.bool true)))] .ret)))))
theorem fits54:fits Tryz.prog false Tryz.f54 1 49 [(2,none),(3,none)]=some c54.er:=by kernel_rfl
def digs:Int→List UInt8→Option Int
 | a, []=>some a
 | a,c::cs=>if c.toNat<48∨57<c.toNat then none else digs (10*a+((c.toNat:Int) - 48)) cs
def numberF (s:List UInt8):Option Int:=if s.length<1∨8<s.length∨(1<s.length∧(s.getD 0 0).toNat=48) then none else digs 0 s
theorem digs_drop {s:List UInt8} {i:Nat} (a:Int) (h:i<s.length):digs a (s.drop i)=if (s.getD i 0).toNat<48∨57<(s.getD i 0).toNat then none else digs (10*a+(((s.getD i 0).toNat:Int) - 48)) (s.drop (i+1)):=by
 rw [List.drop_eq_getElem_cons h]
 have:s.getD i 0=s[i]:=by simp [List.getD,h]
 rw [this];rfl
theorem call54 (s:List UInt8) (hs:s.length≤4611686018427387904):PureCall Tryz.prog 54 [.str s] [] ⟨.tup [.int .i64 ((numberF s).getD 0), .bool (numberF s).isSome], [], []⟩:=by
 refine pure_call mix Tryz.func54 fits54 rfl ?_
 conv=>whnf
 refine ⟨?_,fun hc=> ?_,fun hc=> ?_⟩
 ·(try conv=>whnf)
  (repeat' (first | exact True.intro | exact fun _ h=>h | refine inR64_of ?_ ?_ | apply And.intro | refine maxLen_ge ?_))<;>(first | omega | decide | (dsimp only;omega) | (dsimp only [List.length_cons,List.length_nil];omega) | (intro hg;rw [hg];rfl) | (intro hg hh;rw [hg,hh];rfl) | (intro hg;simp [-List.getD_eq_getElem?_getD, -Int.default_eq_zero] at hg;first | omega | (refine inR64_of ?_ ?_<;>omega) | (constructor<;>omega)) | (simp [-List.getD_eq_getElem?_getD, -Int.default_eq_zero];done))
 ·simp only [bif_t,bif_f,decide_eq_true_eq,decide_eq_false_iff_not,Bool.not_eq_true',Bool.not_eq_false',Bool.and_eq_true,Bool.or_eq_true,Bool.and_eq_false_iff,Bool.or_eq_false_iff,beq_iff_eq,bne_iff_ne,beq_eq_false_iff_ne,bne_eq_false_iff_eq,reduceCtorEq,false_and,and_false,true_and,and_true,or_false,false_or,or_true,true_or,not_true_eq_false,not_false_eq_true,Int.toNat_zero] at hc
  have hn:numberF s=none:=by unfold numberF;rw [if_pos (by omega)]
  rw [hn]
  conv=>whnf
  refine ⟨?_, [], ?_⟩
  ·(try conv=>whnf)
   (repeat' (first | exact True.intro | exact fun _ h=>h | refine inR64_of ?_ ?_ | apply And.intro | refine maxLen_ge ?_))<;>(first | omega | (dsimp only;omega))
  conv=>whnf
  refine ⟨rfl, ?_,trivial,trivial⟩
  all_goals repeat' (first | exact True.intro | refine leF_cons rfl ?_ ?_ | refine leS_cons rfl ?_ ?_ | (show PLe _ _ _ _;conv=>whnf) | (show SLe _ _ _ _;conv=>whnf) | (show PLeL _ _ _ _;conv=>whnf) | apply And.intro | rfl | exact Nat.le_refl _ | exact fun _ _=>rfl | exact rowEq0 _ _)
 simp only [bif_t,bif_f,decide_eq_true_eq,decide_eq_false_iff_not,Bool.not_eq_true',Bool.not_eq_false',Bool.and_eq_true,Bool.or_eq_true,Bool.and_eq_false_iff,Bool.or_eq_false_iff,beq_iff_eq,bne_iff_ne,beq_eq_false_iff_ne,bne_eq_false_iff_eq,reduceCtorEq,false_and,and_false,true_and,and_true,or_false,false_or,or_true,true_or,not_true_eq_false,not_false_eq_true,Int.toNat_zero] at hc
 have hn:numberF s=digs 0 s:=by unfold numberF;rw [if_neg (by omega)]
 have hl:1≤s.length∧s.length≤8:=by omega
 rw [hn]
 clear hn hc hs
 conv=>whnf
 refine ⟨?_, ?_⟩
 ·(try conv=>whnf)
  (repeat' (first | exact True.intro | exact fun _ h=>h | refine inR64_of ?_ ?_ | apply And.intro | refine maxLen_ge ?_))<;>(first | omega | (dsimp only;omega))
 refine LSem.loop (n:=49) mix (α:=Nat×Int) (fun x=>x.1≤s.length∧digs x.2 (s.drop x.1)=digs 0 s∧0≤x.2∧x.2<(10:Int) ^ x.1)
  (fun x=> [(0, .str s),(4, .int .i64 x.2),(25, .int .i64 s.length),(26, .int .i64 x.1)])
  (fun x=> []) (fun x=>s.length - x.1) (0,0) ?_ ?_ ?_
 ·exact ⟨Nat.zero_le _,rfl,Int.le_refl _,by decide⟩
 ·refine ⟨rfl,rfl, ?_, ?_⟩
  all_goals repeat' (first | exact True.intro | refine leF_cons rfl ?_ ?_ | refine leS_cons rfl ?_ ?_ | (show PLe _ _ _ _;conv=>whnf) | (show SLe _ _ _ _;conv=>whnf) | (show PLeL _ _ _ _;conv=>whnf) | apply And.intro | rfl | exact Nat.le_refl _ | exact fun _ _=>rfl | exact rowEq0 _ _)
 ·intro x hx
  obtain ⟨i,a⟩:=x
  obtain ⟨h1,h2,h3,h4⟩:=hx
  dsimp only at h1 h2 h3 h4
  have hj:((i:Int)).toNat=i:=by omega
  have hpow:(10:Int) ^ i≤10 ^ 13:=(show∀i:Nat,i<14→(10:Int) ^ i≤10 ^ 13 by decide) i (by omega)
  have hu1:IntKind.u8.min=0:=by decide
  have hu2:IntKind.u8.max=255:=by decide
  have hpow2:(10:Int) ^ (i+1)=10*10 ^ i:=by rw [Int.pow_succ,Int.mul_comm]
  have hp13:(10:Int) ^ 13=10000000000000:=by decide
  rw [hp13] at hpow
  conv=>whnf
  refine ⟨trivial,fun hc=> ?_,fun hc=> ?_⟩
  ·replace hc:=of_decide_eq_true hc
   have hlt:i<s.length:=by
    have h:(i:Int)<s.length:=hc
    omega
   have hd:=digs_drop a hlt
   have hb:(s.getD i 0).toNat<256:=UInt8.toNat_lt _
   conv=>whnf
   refine ⟨?_,fun hc2=> ?_,fun hc2=> ?_⟩
   ·(try conv=>whnf)
    (repeat' (first | exact True.intro | exact fun _ h=>h | refine inR64_of ?_ ?_ | apply And.intro | refine maxLen_ge ?_))<;>(first | omega | decide | (dsimp only;omega) | (dsimp only [List.length_cons,List.length_nil];omega) | (intro hg;rw [hg];rfl) | (intro hg hh;rw [hg,hh];rfl) | (intro hg;simp [-List.getD_eq_getElem?_getD, -Int.default_eq_zero] at hg;first | omega | (refine inR64_of ?_ ?_<;>omega) | (constructor<;>omega)) | (simp [-List.getD_eq_getElem?_getD, -Int.default_eq_zero];done))
   ·simp only [bif_t,bif_f,decide_eq_true_eq,decide_eq_false_iff_not,Bool.not_eq_true',Bool.not_eq_false',Bool.and_eq_true,Bool.or_eq_true,Bool.and_eq_false_iff,Bool.or_eq_false_iff,beq_iff_eq,bne_iff_ne,beq_eq_false_iff_ne,bne_eq_false_iff_eq,reduceCtorEq,false_and,and_false,true_and,and_true,or_false,false_or,or_true,true_or,not_true_eq_false,not_false_eq_true,Int.toNat_zero] at hc2
    rw [hj] at hc2
    have hd0:digs 0 s=none:=by rw [←h2,hd,if_pos (by omega)]
    rw [hd0]
    conv=>whnf
    refine ⟨?_, [], ?_⟩
    ·(try conv=>whnf)
     (repeat' (first | exact True.intro | exact fun _ h=>h | refine inR64_of ?_ ?_ | apply And.intro | refine maxLen_ge ?_))<;>(first | omega | (dsimp only;omega))
    conv=>whnf
    refine ⟨rfl, ?_,trivial,trivial⟩
    all_goals repeat' (first | exact True.intro | refine leF_cons rfl ?_ ?_ | refine leS_cons rfl ?_ ?_ | (show PLe _ _ _ _;conv=>whnf) | (show SLe _ _ _ _;conv=>whnf) | (show PLeL _ _ _ _;conv=>whnf) | apply And.intro | rfl | exact Nat.le_refl _ | exact fun _ _=>rfl | exact rowEq0 _ _)
   ·simp only [bif_t,bif_f,decide_eq_true_eq,decide_eq_false_iff_not,Bool.not_eq_true',Bool.not_eq_false',Bool.and_eq_true,Bool.or_eq_true,Bool.and_eq_false_iff,Bool.or_eq_false_iff,beq_iff_eq,bne_iff_ne,beq_eq_false_iff_ne,bne_eq_false_iff_eq,reduceCtorEq,false_and,and_false,true_and,and_true,or_false,false_or,or_true,true_or,not_true_eq_false,not_false_eq_true,Int.toNat_zero] at hc2
    rw [hj] at hc2
    rw [if_neg (by omega)] at hd
    conv=>whnf
    refine ⟨?_,(i+1,10*a+(((s.getD i 0).toNat:Int) - 48)),⟨hlt,by rw [←hd];exact h2, ?_, ?_⟩, ?_,rfl,rfl, ?_, ?_⟩
    ·(try conv=>whnf)
     rw [hj]
     (repeat' (first | exact True.intro | exact fun _ h=>h | refine inR64_of ?_ ?_ | apply And.intro))<;>(first | omega | (rw [hu1];omega) | (rw [hu2];omega))
    ·dsimp only;omega
    ·dsimp only;rw [hpow2];omega
    ·dsimp only;omega
    all_goals repeat' (first | exact True.intro | refine leF_cons rfl ?_ ?_ | refine leS_cons rfl ?_ ?_ | (show PLe _ _ _ _;conv=>whnf) | (show SLe _ _ _ _;conv=>whnf) | (show PLeL _ _ _ _;conv=>whnf) | apply And.intro | rfl | exact Nat.le_refl _ | exact fun _ _=>rfl | exact rowEq0 _ _)
    all_goals first | omega | (rw [hj];done) | skip
  ·replace hc:=of_decide_eq_false hc
   have hk:i=s.length:=by
    have h:¬(i:Int)<s.length:=hc
    omega
   subst hk
   rw [←h2,List.drop_length]
   conv=>whnf
   refine ⟨?_, [], ?_⟩
   ·(try conv=>whnf)
    (repeat' (first | exact True.intro | exact fun _ h=>h | refine inR64_of ?_ ?_ | apply And.intro | refine maxLen_ge ?_))<;>(first | omega | (dsimp only;omega))
   conv=>whnf
   refine ⟨rfl, ?_,trivial,trivial⟩
   all_goals repeat' (first | exact True.intro | refine leF_cons rfl ?_ ?_ | refine leS_cons rfl ?_ ?_ | (show PLe _ _ _ _;conv=>whnf) | (show SLe _ _ _ _;conv=>whnf) | (show PLeL _ _ _ _;conv=>whnf) | apply And.intro | rfl | exact Nat.le_refl _ | exact fun _ _=>rfl | exact rowEq0 _ _)
open Go.RowKit
section
variable {P:Program} {X:Cx} {γ:Gh} {w w0:World} {may:Nat→Prop} {a:Act} {s:PS}
end
end Pv
end Go.Proofs.YtaleokjjkjngkaaGreatDoor
