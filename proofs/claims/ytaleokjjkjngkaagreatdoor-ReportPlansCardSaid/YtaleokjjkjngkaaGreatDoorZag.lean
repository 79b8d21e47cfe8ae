/- GATES AND DAMS that are made. -/
import Derived.Test.YtaleokjjkjngkaaGreatDoorZaf
import Derived.ProofKit
import Derived.ChangeOld
import Derived.DataElems
import Derived.Below
import Derived.SizedLaws
set_option linter.unusedSimpArgs false
set_option linter.unusedVariables false
set_option maxRecDepth 100000
set_option maxHeartbeats 8000000
namespace Go.Proofs.YtaleokjjkjngkaaGreatDoor
namespace Pv
def c103:C:=(sr [kk 4 (.mv (.c (.bool false)))] (sr [km 5 0,kk 6 (.bi false .geq 5 (cn 0)),km 7 6,kg 8 7 true (.mv 0),kg 9 7 true (.mv 1),kg 10 7 true (.bi false .leq 8 9),kk 11 (.pick 7 10 (.c (.bool false))),km 4 11] .ret))
theorem fits103:fits Tryz.prog false Tryz.f103 2 12 [(4,none)]=some c103.er:=by kernel_rfl
def c77:C:=(sr [kk 4 (.mv (.c (.bool false)))] (sr [km 5 0,km 6 1,kk 7 (cl 103 [5,6]),km 4 7] .ret))
theorem fits77:fits Tryz.prog false Tryz.f77 2 8 [(4,none)]=some c77.er:=by kernel_rfl
def c122L1:C:=(sr [kk 16 (.bi false .lss 15 14)] (.seq (.cond 16 .skip (.exit 0)) (.seq (.block 1 (sr [km 17 15,kk 18 (.ia 2 13 15),kk 19 (.ld 2 true 18),kk 4 (.al [(.int .i64 0),(.int .i64 0)]),km 3 17,kz (.st 2 4 19)] (.seq (sr [kk 20 (.fa 0 4),kk 21 (.ld 1 false 20),kk 22 (cl 77 [21,(cn 1073741824)]),kk 23 (.un false .not 22),km 24 23,kg 25 24 false (.fa 1 4),kg 26 24 false (.ld 1 false 25),kg 27 24 false (cl 77 [26,(cn 274877906944)]),kg 28 24 false (.un false .not 27),kk 29 (.pick 24 (.c (.bool true)) 28)] (.cond 29 (sr [kk 2 (.mv (cn 1))] .ret) .skip)) (.seq (sr [km 30 3,kk 31 (.bi false .eql 30 (cn 0))] (.cond 31 (.exit 1) .skip)) (.seq (.drw [kk 32 (.fa 0 4),kk 33 (.ld 1 false 32),km 34 0,km 35 3,kk 36 (.bi false .sub 35 (cn 1)),kk 37 (.ia 2 34 36),kk 38 (.fa 0 37),kk 39 (.ld 1 false 38),kk 40 (.bi false .sub 33 39),kk 41 (.fa 1 4),kk 42 (.ld 1 false 41),km 43 0,km 44 3,kk 45 (.bi false .sub 44 (cn 1)),kk 46 (.ia 2 43 45),kk 47 (.fa 1 46),kk 48 (.ld 1 false 47),kk 49 (.bi false .sub 42 48),km 5 40,km 6 49] (pl [(0,[2,3,4,5,6,7,9,10,11,12,13,14,15,16,17],32),(1,[2,3,4,5,6,7,9,10,11,12,13,14,15,16,17],33),(2,[3,4,9,10,11,12,13,14,15,16,17],34),(3,[9,10,11,12,13,14,15,16,17],35),(4,[9,10,11,12,13,14,15,16,17],36),(5,[9,10,11,12,13,14,15,16,17],37),(6,[9,10,11,12,13,14,15,16,17],38),(7,[9,10,11,12,13,14,15,16,17],39),(8,[9,10,11,12,13,14,15,16,17],40),(9,[11,12,13,14,15,16,18],41),(10,[11,12,13,14,15,16,18],42),(11,[12,13,18],43),(12,[18],44),(13,[18],45),(14,[18],46),(15,[18],47),(16,[18],48),(17,[18],49)])) (.seq (sr [km 50 5,kk 51 (.bi false .leq 50 (cn 0)),km 52 51,kg 53 52 false (.mv 6),kg 54 52 false (.bi false .lss 53 (cn 0)),kk 55 (.pick 52 (.c (.bool true)) 54)] (.cond 55 (sr [kk 2 (.mv (cn 4))] .ret) .skip)) (sr [km 56 6,km 57 5,kk 58 (.bi false .quo (cn 4611686018427387904) 57),kk 59 (.bi false .gtr 56 58)] (.cond 59 (sr [kk 2 (.mv (cn 1))] .ret) .skip)))))))) (.reg [kk 60 (.bi false .add 15 (cn 1)),km 15 60]))))
def c122:C:=(sr [kk 2 (.mv (cn 0))] (.seq (sr [km 7 0,kk 8 (.len 7),kk 9 (.bi false .eql 8 (cn 0))] (.cond 9 (sr [kk 2 (.mv (cn 3))] .ret) .skip)) (.seq (sr [km 10 0,kk 11 (.len 10),kk 12 (.bi false .gtr 11 (cn 100))] (.cond 12 (sr [kk 2 (.mv (cn 10))] .ret) .skip)) (.seq (sr [km 13 0,kk 14 (.len 13),kk 15 (.mv (cn 0))] (.block 0 (.loop c122L1))) (sr [kk 2 (.mv (cn 0))] .ret)))))
theorem fits122:fits Tryz.prog false Tryz.f122 1 61 [(2,none)]=some c122.er:=by kernel_rfl
def c123L1:C:=(.seq (sr [km 18 5,km 19 0,kk 20 (.len 19),kk 21 (.bi false .lss 18 20)] (.cond 21 .skip (.exit 0))) (.seq (.block 1 (sr [km 24 1,km 25 0,km 26 5,kk 27 (.ia 2 25 26),kk 28 (.fa 0 27),kk 29 (.ld 1 false 28),kk 30 (.bi false .lss 24 29)] (.cond 30 (.seq (.drw [km 31 0,km 32 5,kk 33 (.bi false .sub 32 (cn 1)),kk 34 (.ia 2 31 33),kk 35 (.ld 2 true 34),km 36 0,km 37 5,kk 38 (.ia 2 36 37),kk 39 (.ld 2 true 38),kk 6 (.al [(.int .i64 0),(.int .i64 0)]),kk 7 (.al [(.int .i64 0),(.int .i64 0)]),kz (.st 2 6 35),kz (.st 2 7 39)] (pl [(0,[1,2,5,6,7,8,9,10],31),(1,[5,6,7,8,9,10],32),(2,[5,6,7,8,9,10],33),(3,[5,6,7,8,9,10],34),(4,[5,6,7,8,9,10],35),(5,[6,9,10,11],36),(6,[9,10,11],37),(7,[9,10,11],38),(8,[9,10,11],39),(9,[10],6)])) (.seq (.drw [kk 40 (.fa 1 6),kk 41 (.ld 1 false 40),kk 42 (.fa 1 7),kk 43 (.ld 1 false 42),kk 44 (.fa 1 6),kk 45 (.ld 1 false 44),kk 46 (.bi false .sub 43 45),km 47 1,kk 48 (.fa 0 6),kk 49 (.ld 1 false 48),kk 50 (.bi false .sub 47 49),kk 51 (.bi false .mul 46 50),kk 52 (.fa 0 7),kk 53 (.ld 1 false 52),kk 54 (.fa 0 6),kk 55 (.ld 1 false 54),kk 56 (.bi false .sub 53 55),kk 57 (.bi false .quo 51 56),kk 58 (.bi false .add 41 57),km 4 58] (pl [(0,[2,3,4,5,6,7,8,9,10,11,12,13,14,15,16,17],40),(1,[2,3,4,5,6,7,8,9,10,11,12,13,14,15,16,17],41),(2,[4,5,7,8,9,10,12,13,14,15,16],42),(3,[4,5,7,8,9,10,12,13,14,15,16],43),(4,[7,8,9,10,12,13,14,15,16],44),(5,[7,8,9,10,12,13,14,15,16],45),(6,[7,8,9,10,12,13,14,15,16],46),(7,[8,9,12,13,14,15,16],47),(8,[12,13,14,15,16],48),(9,[12,13,14,15,16],49),(10,[12,13,14,15,16],50),(11,[12,13,14,15,16],51),(12,[14,15],52),(13,[14,15],53)])) .ret)) .skip))) (.reg [km 22 5,kk 23 (.bi false .add 22 (cn 1)),km 5 23])))
def c123:C:=(sr [kk 4 (.mv (cn 0))] (.seq (sr [km 8 1,km 9 0,kk 10 (.ia 2 9 (cn 0)),kk 11 (.fa 0 10),kk 12 (.ld 1 false 11),kk 13 (.bi false .leq 8 12)] (.cond 13 (sr [km 14 0,kk 15 (.ia 2 14 (cn 0)),kk 16 (.fa 1 15),kk 17 (.ld 1 false 16),km 4 17] .ret) .skip)) (.seq (sr [kk 5 (.mv (cn 1))] (.block 0 (.loop c123L1))) (sr [km 59 0,km 60 0,kk 61 (.len 60),kk 62 (.bi false .sub 61 (cn 1)),kk 63 (.ia 2 59 62),kk 64 (.fa 1 63),kk 65 (.ld 1 false 64),km 4 65] .ret))))
theorem fits123:fits Tryz.prog false Tryz.f123 2 66 [(4,none)]=some c123.er:=by kernel_rfl
def c91:C:=(sr [kk 4 (.mv (cn 0)),kk 5 (.mv (cn 0))] (.seq (sr [km 7 0,kk 8 (cl 122 [7]),km 6 8] (sr [km 9 6,kk 10 (.bi false .neq 9 (cn 0))] (.cond 10 (sr [km 11 6,kk 4 (.mv (cn 0)),km 5 11] .ret) .skip))) (sr [km 12 0,km 13 1,kk 14 (cl 123 [12,13]),km 4 14,kk 5 (.mv (cn 0))] .ret)))
theorem fits91:fits Tryz.prog false Tryz.f91 2 15 [(4,none),(5,none)]=some c91.er:=by kernel_rfl
def c86L1:C:=(.seq (sr [km 24 15,kk 25 (.bi false .gtr 24 (cn 0))] (.cond 25 .skip (.exit 0))) (.seq (.block 1 (sr [km 28 1,kk 29 (.bi false .add 28 (cn 1)),km 30 0,km 31 3,kk 32 (cl 8 [30,31]),kk 33 (.bi false .add 29 32),km 34 2,km 35 13,kk 36 (.bi false .add 34 35),km 37 0,km 38 4,kk 39 (cl 8 [37,38]),kk 40 (.bi false .add 36 39),km 1 33,km 2 40] (.reg [km 41 14,km 42 1,km 43 2,kk 44 (.bd [(.int .i64 0),(.int .i64 0)] [(0,1,42),(1,1,43)]),kk 45 (.bs 203 2 [44]),kk 46 (.app 203 2 16 41 45),km 14 46]))) (.reg [km 26 15,kk 27 (.bi false .sub 26 (cn 1)),km 15 27])))
def c86:C:=(sr [kk 12 (.mv (.c (.nil 2)))] (sr [kk 13 (.mv (cn 0))] (.seq (sr [km 16 5] (.cond 16 (.reg [kk 13 (.mv (cn 1))]) .skip)) (sr [km 17 1,km 18 2,kk 19 (.bd [(.int .i64 0),(.int .i64 0)] [(0,1,17),(1,1,18)]),kk 20 (.bs 203 2 [19]),km 14 20] (.seq (sr [km 21 0,kk 22 (cl 8 [21,(cn 4)]),kk 23 (.bi false .add (cn 1) 22),km 15 23] (.block 0 (.loop c86L1))) (sr [km 47 14,km 12 47] .ret))))))
theorem fits86:fits Tryz.prog false Tryz.f86 6 48 [(12,none)]=some c86.er:=by kernel_rfl
structure Pt where
 x:Int
 y:Int
 deriving Inhabited,DecidableEq
def ePt (p:Pt):List PV:= [.int .i64 p.x, .int .i64 p.y]
def steepF (dx dy:Int):Bool:=decide (0<dx∧dy>4611686018427387904 / dx)
def errC (c:List Pt) (i:Nat):Int:=
 if¬(0≤(c.getD i default).x∧(c.getD i default).x≤1073741824)∨¬(0≤(c.getD i default).y∧(c.getD i default).y≤274877906944) then 1
 else if i=0 then 0
 else if (c.getD i default).x≤(c.getD (i - 1) default).x∨(c.getD i default).y<(c.getD (i - 1) default).y then 4
 else if steepF ((c.getD i default).x - (c.getD (i - 1) default).x) ((c.getD i default).y - (c.getD (i - 1) default).y)=true then 1 else 0
def checkC (c:List Pt):Int:=if c.length=0 then 3 else if c.length>100 then 10 else scan (errC c) 0 c.length
structure GoodC (c:List Pt):Prop where
 ne:0<c.length
 le:c.length≤100
 rng:∀i,i<c.length→0≤(c.getD i default).x∧(c.getD i default).x≤1073741824∧0≤(c.getD i default).y∧(c.getD i default).y≤274877906944
 up:∀i,0<i→i<c.length→(c.getD (i - 1) default).x<(c.getD i default).x∧(c.getD (i - 1) default).y≤(c.getD i default).y∧
  ((c.getD i default).y - (c.getD (i - 1) default).y)*((c.getD i default).x - (c.getD (i - 1) default).x)≤4611686018427387904
theorem errC_zero (c:List Pt) (i:Nat):errC c i=0↔(0≤(c.getD i default).x∧(c.getD i default).x≤1073741824∧0≤(c.getD i default).y∧(c.getD i default).y≤274877906944)∧(0<i→(c.getD (i - 1) default).x<(c.getD i default).x∧(c.getD (i - 1) default).y≤(c.getD i default).y∧
  ((c.getD i default).y - (c.getD (i - 1) default).y)*((c.getD i default).x - (c.getD (i - 1) default).x)≤4611686018427387904):=by
 unfold errC
 by_cases h1:¬(0≤(c.getD i default).x∧(c.getD i default).x≤1073741824)∨¬(0≤(c.getD i default).y∧(c.getD i default).y≤274877906944)
 ·rw [if_pos h1];constructor
  ·intro h;cases h
  ·intro h;omega
 rw [if_neg h1]
 by_cases h2:i=0
 ·rw [if_pos h2];constructor
  ·intro _;exact ⟨by omega,fun h=>by omega⟩
  ·intro _;rfl
 rw [if_neg h2]
 by_cases h3:(c.getD i default).x≤(c.getD (i - 1) default).x∨(c.getD i default).y<(c.getD (i - 1) default).y
 ·rw [if_pos h3];constructor
  ·intro h;cases h
  ·intro h;have:=h.2 (by omega);omega
 rw [if_neg h3]
 have hpos:0<(c.getD i default).x - (c.getD (i - 1) default).x:=by omega
 have key:=Int.le_ediv_iff_mul_le (a:=(c.getD i default).y - (c.getD (i - 1) default).y) (b:=4611686018427387904) hpos
 unfold steepF
 by_cases h4:0<(c.getD i default).x - (c.getD (i - 1) default).x∧(c.getD i default).y - (c.getD (i - 1) default).y>4611686018427387904 / ((c.getD i default).x - (c.getD (i - 1) default).x)
 ·rw [if_pos (decide_eq_true h4)];constructor
  ·intro h;cases h
  ·intro h;have:=(h.2 (by omega)).2.2;have:=key.2 this;omega
 ·rw [if_neg (by rw [decide_eq_false h4];decide)];constructor
  ·intro _;exact ⟨by omega,fun _=>⟨by omega,by omega,key.1 (by omega)⟩⟩
  ·intro _;rfl
theorem scan_allz {f:Nat→Int}:∀{i n:Nat},(∀k,i≤k→k<i+n→f k=0)→scan f i n=0
 | i,0,_=>rfl
 | i,n+1,h=>by
   rw [scan_step (by omega) (h i (by omega) (by omega))]
   exact scan_allz fun k h1 h2=>h k (by omega) (by omega)
theorem check_good (c:List Pt):checkC c=0↔GoodC c:=by
 unfold checkC
 by_cases h1:c.length=0
 ·rw [if_pos h1];constructor
  ·intro h;cases h
  ·intro h;have:=h.ne;omega
 rw [if_neg h1]
 by_cases h2:c.length>100
 ·rw [if_pos h2];constructor
  ·intro h;cases h
  ·intro h;have:=h.le;omega
 rw [if_neg h2]
 constructor
 ·intro h
  have hz:=fun i (hi:i<c.length)=>(errC_zero c i).1 (scan_zero h i (by omega) (by omega))
  exact ⟨by omega,by omega,fun i hi=>(hz i hi).1,fun i h0 hi=>(hz i hi).2 h0⟩
 ·intro h
  exact scan_allz fun k _ hk=>(errC_zero c k).2 ⟨h.rng k (by omega),fun h0=>h.up k h0 (by omega)⟩
def lineF (p q:Pt) (x:Int):Int:=q.y+((p.y - q.y)*(x - q.x)) / (p.x - q.x)
def valA (c:List Pt) (x:Int):Nat→Nat→Int
 | _,0=>(c.getD (c.length - 1) default).y
 | i,n+1=>if x≤(c.getD i default).x then (if i=0 then (c.getD i default).y else lineF (c.getD i default) (c.getD (i - 1) default) x) else valA c x (i+1) n
def valC (c:List Pt) (x:Int):Int:=valA c x 0 c.length
theorem prod_le {a b A B:Int} (h0:0≤a) (h1:a≤A) (h2:0≤b) (h3:b≤B) (h:A*B≤4611686018427387904):0≤a*b∧a*b≤4611686018427387904:=by
 have:=mul_rng h0 h1 h2 h3;omega
def atC (c:List Pt) (x:Int):Int×Int:=if checkC c=0 then (valC c x,0) else (0,checkC c)
theorem fl_one {α:Type} [Inhabited α] (e:α→List PV) (x:α):RowEq 1 (fun i=> [e x].getD i []) (fl e [x]):=fun i hi=>by
 have:i=0:=by omega
 subst this;rfl
structure Cst where
 L:List Pt
 x:Int
 y:Int
 d:Dk
def crvN (dx dy least:Int) (s:Cst):Cst:=⟨s.L++ [⟨s.x+1+nxt s.d dx,s.y+least+nxt (nxtD s.d dx) dy⟩],s.x+1+nxt s.d dx,s.y+least+nxt (nxtD s.d dx) dy,nxtD (nxtD s.d dx) dy⟩
def crvS (dx dy least:Int):Nat→Cst→Cst
 | 0,s=>s
 | k+1,s=>crvS dx dy least k (crvN dx dy least s)
def curveS (d:Dk) (x y dx dy least:Int):Cst:=crvS dx dy least (1+nxt d 4).toNat ⟨[⟨x,y⟩],x,y,nxtD d 4⟩
theorem GoodC.xs {c:List Pt} (h:GoodC c):∀(d i:Nat),i+d<c.length→(c.getD i default).x≤(c.getD (i+d) default).x
 | 0,i,_=>Int.le_refl _
 | d+1,i,hi=>by
   have h1:=GoodC.xs h d i (by omega)
   have h2:=h.up (i+d+1) (by omega) hi
   rw [Nat.add_sub_cancel] at h2
   rw [show i+(d+1)=i+d+1 from rfl];omega
theorem valA_skip {c:List Pt} {x:Int}:∀(m i:Nat),i+m≤c.length→(∀j,i≤j→j<i+m→(c.getD j default).x<x)→valA c x i (c.length - i)=valA c x (i+m) (c.length - (i+m))
 | 0,i,_,_=>rfl
 | m+1,i,hi,h=>by
   have h1:=h i (by omega) (by omega)
   have e:valA c x i (c.length - i)=valA c x (i+1) (c.length - (i+1)):=by
    rw [show c.length - i=(c.length - (i+1))+1 by omega]
    show (if x≤(c.getD i default).x then _ else _)=_
    rw [if_neg (by omega)]
   rw [e,valA_skip m (i+1) (by omega) (fun j h1 h2=>h j (by omega) (by omega))]
   rw [show i+1+m=i+(m+1) by omega]
theorem val_lo {c:List Pt} (h:GoodC c) {x:Int} (hx:x≤(c.getD 0 default).x):valC c x=(c.getD 0 default).y:=by
 have:=h.ne
 unfold valC
 rw [show c.length=(c.length - 1)+1 by omega]
 show (if x≤(c.getD 0 default).x then _ else _)=_
 rw [if_pos hx];rfl
theorem val_seg' {c:List Pt} (h:GoodC c) {x:Int} {k:Nat} (h0:0<k) (hk:k<c.length) (h1:(c.getD (k - 1) default).x<x) (h2:x≤(c.getD k default).x):valC c x=lineF (c.getD k default) (c.getD (k - 1) default) x:=by
 unfold valC
 have:=valA_skip (c:=c) (x:=x) k 0 (by omega) (fun j _ hj=>by
  have:=h.xs (k - 1 - j) j (by omega)
  rw [show j+(k - 1 - j)=k - 1 by omega] at this;omega)
 rw [Nat.sub_zero,Nat.zero_add] at this
 rw [this,show c.length - k=(c.length - (k+1))+1 by omega]
 show (if x≤(c.getD k default).x then (if k=0 then _ else _) else _)=_
 rw [if_pos h2,if_neg (by omega)]
theorem line_lo (p q:Pt):lineF p q q.x=q.y:=by unfold lineF;rw [Int.sub_self,Int.mul_zero,Int.zero_ediv,Int.add_zero]
theorem line_hi {p q:Pt} (h:q.x<p.x):lineF p q p.x=p.y:=by
 unfold lineF;rw [Int.mul_ediv_cancel _ (by omega)];omega
theorem val_seg {c:List Pt} (h:GoodC c) {x:Int} {k:Nat} (h0:0<k) (hk:k<c.length) (h1:(c.getD (k - 1) default).x≤x) (h2:x≤(c.getD k default).x):valC c x=lineF (c.getD k default) (c.getD (k - 1) default) x:=by
 rcases Int.lt_or_eq_of_le h1 with h1 | h1
 ·exact val_seg' h h0 hk h1 h2
 ·rw [←h1,line_lo]
  by_cases hk1:k - 1=0
  ·rw [hk1];exact val_lo h (Int.le_refl _)
  ·have hu:=h.up (k - 1) (by omega) (by omega)
   rw [val_seg' h (k:=k - 1) (by omega) (by omega) hu.1 (Int.le_refl _),line_hi hu.1]
theorem val_hi {c:List Pt} (h:GoodC c) {x:Int} (hx:(c.getD (c.length - 1) default).x≤x):valC c x=(c.getD (c.length - 1) default).y:=by
 have hn:=h.ne
 rcases Int.lt_or_eq_of_le hx with h1 | h1
 ·unfold valC
  have:=valA_skip (c:=c) (x:=x) c.length 0 (by omega) (fun j _ hj=>by
   have:=h.xs (c.length - 1 - j) j (by omega)
   rw [show j+(c.length - 1 - j)=c.length - 1 by omega] at this;omega)
  rw [Nat.sub_zero,Nat.zero_add,Nat.sub_self] at this
  rw [this];rfl
 ·rw [←h1]
  by_cases hk1:c.length - 1=0
  ·rw [hk1];exact val_lo h (Int.le_refl _)
  ·have hu:=h.up (c.length - 1) (by omega) (by omega)
   rw [val_seg' h (k:=c.length - 1) (by omega) (by omega) hu.1 (Int.le_refl _),line_hi hu.1]
theorem find_seg {c:List Pt} {x:Int} (h0:(c.getD 0 default).x≤x):∀n,n<c.length→x<(c.getD n default).x→∃k,0<k∧k≤n∧(c.getD (k - 1) default).x≤x∧x<(c.getD k default).x
 | 0,_,h=>by omega
 | n+1,hn,h=>by
   by_cases hh:x<(c.getD n default).x
   ·obtain ⟨k,a,b,c,d⟩:=find_seg h0 n (by omega) hh
    exact ⟨k,a,by omega,c,d⟩
   ·exact ⟨n+1,by omega,Nat.le_refl _,by rw [Nat.add_sub_cancel];omega,h⟩
theorem line_mono {p q:Pt} (h:q.x<p.x) (hy:q.y≤p.y) {x x':Int} (hx:x≤x'):lineF p q x≤lineF p q x':=by
 unfold lineF
 have:(p.y - q.y)*(x - q.x)≤(p.y - q.y)*(x' - q.x):=Int.mul_le_mul_of_nonneg_left (by omega) (by omega)
 have:=Int.ediv_le_ediv (c:=p.x - q.x) (by omega) this
 omega
structure MadeC (c:List Pt):Prop where
 len:2≤c.length∧c.length≤5
 rng:∀i,i<c.length→0≤(c.getD i default).x∧(c.getD i default).x≤1000+1001*i∧0≤(c.getD i default).y∧(c.getD i default).y≤1000+1001*i
 up:∀i,0<i→i<c.length→(c.getD (i - 1) default).x<(c.getD i default).x∧(c.getD i default).x≤(c.getD (i - 1) default).x+1001∧(c.getD (i - 1) default).y≤(c.getD i default).y∧(c.getD i default).y≤(c.getD (i - 1) default).y+1001
theorem MadeC.good {c:List Pt} (h:MadeC c):GoodC c:=by
 obtain ⟨⟨l1,l2⟩,h1,h2⟩:=h
 refine ⟨by omega,by omega,fun i hi=>by have:=h1 i hi;omega,fun i h0 hi=> ?_⟩
 have h3:=h2 i h0 hi
 have:=mul_rng (a:=(c.getD i default).y - (c.getD (i - 1) default).y) (b:=(c.getD i default).x - (c.getD (i - 1) default).x) (A:=1001) (B:=1001) (by omega) (by omega) (by omega) (by omega)
 exact ⟨by omega,by omega,by omega⟩
theorem getD_push {α:Type} [Inhabited α] (l:List α) (p:α) (i:Nat):(l++ [p]).getD i default=if i<l.length then l.getD i default else if i=l.length then p else default:=by
 by_cases h:i<l.length
 ·rw [if_pos h,List.getD_eq_getElem?_getD,List.getD_eq_getElem?_getD,List.getElem?_append_left h]
 ·rw [if_neg h]
  by_cases h2:i=l.length
  ·rw [if_pos h2,h2,List.getD_eq_getElem?_getD,List.getElem?_append_right (Nat.le_refl _)];simp
  ·rw [if_neg h2,List.getD_eq_getElem?_getD,List.getElem?_eq_none (by simp;omega)];rfl
def CInv (s:Cst):Prop:=1≤s.L.length∧s.L.getD (s.L.length - 1) default=⟨s.x,s.y⟩∧
 (∀i,i<s.L.length→0≤(s.L.getD i default).x∧(s.L.getD i default).x≤1000+1001*i∧0≤(s.L.getD i default).y∧(s.L.getD i default).y≤1000+1001*i)∧
 (∀i,0<i→i<s.L.length→(s.L.getD (i - 1) default).x<(s.L.getD i default).x∧(s.L.getD i default).x≤(s.L.getD (i - 1) default).x+1001∧(s.L.getD (i - 1) default).y≤(s.L.getD i default).y∧(s.L.getD i default).y≤(s.L.getD (i - 1) default).y+1001)
theorem crvN_inv {dx dy least:Int} (hdx:1≤dx∧dx≤1000) (hdy:1≤dy∧dy≤1000) (hl:0≤least∧least≤1) {s:Cst} (h:CInv s):CInv (crvN dx dy least s):=by
 obtain ⟨h1,h2,h3,h4⟩:=h
 have r1:=nxt_lt s.d (n:=dx) (by omega)
 have r2:=nxt_lt (nxtD s.d dx) (n:=dy) (by omega)
 have hlast:=h3 (s.L.length - 1) (by omega)
 rw [h2] at hlast
 dsimp only at hlast
 have hlen:(crvN dx dy least s).L.length=s.L.length+1:=by simp [crvN]
 have hget:∀i,(crvN dx dy least s).L.getD i default=if i<s.L.length then s.L.getD i default else if i=s.L.length then ⟨s.x+1+nxt s.d dx,s.y+least+nxt (nxtD s.d dx) dy⟩ else default:=fun i=>getD_push _ _ _
 refine ⟨by omega, ?_, ?_, ?_⟩
 ·rw [hget,hlen,Nat.add_sub_cancel,if_neg (by omega),if_pos rfl];rfl
 ·intro i hi
  rw [hlen] at hi
  rw [hget]
  by_cases hh:i<s.L.length
  ·rw [if_pos hh];exact h3 i hh
  ·rw [if_neg hh,if_pos (by omega)];dsimp only;omega
 ·intro i h0 hi
  rw [hlen] at hi
  rw [hget,hget]
  by_cases hh:i<s.L.length
  ·rw [if_pos hh,if_pos (by omega)];exact h4 i h0 hh
  ·rw [if_neg hh,if_pos (by omega),if_pos (by omega),show i - 1=s.L.length - 1 by omega,h2];dsimp only;omega
theorem crvS_inv {dx dy least:Int} (hdx:1≤dx∧dx≤1000) (hdy:1≤dy∧dy≤1000) (hl:0≤least∧least≤1):∀(k:Nat) {s:Cst},CInv s→CInv (crvS dx dy least k s)∧(crvS dx dy least k s).L.length=s.L.length+k∧(crvS dx dy least k s).d.at_≤s.d.at_+2*k
 | 0,s,h=>⟨h,rfl,Nat.le_refl _⟩
 | k+1,s,h=>by
   obtain ⟨a,b,c⟩:=crvS_inv hdx hdy hl k (crvN_inv hdx hdy hl h)
   have hlen:(crvN dx dy least s).L.length=s.L.length+1:=by simp [crvN]
   have h1:=nxtD_at s.d dx
   have h2:=nxtD_at (nxtD s.d dx) dy
   have hd:(crvN dx dy least s).d=nxtD (nxtD s.d dx) dy:=rfl
   rw [hd] at c
   exact ⟨a,by show (crvS dx dy least k _).L.length=_;omega,by show (crvS dx dy least k _).d.at_≤_;omega⟩
theorem curve_made (d:Dk) {x y dx dy least:Int} (hx:0≤x∧x≤1000) (hy:0≤y∧y≤1000) (hdx:1≤dx∧dx≤1000) (hdy:1≤dy∧dy≤1000) (hl:0≤least∧least≤1):MadeC (curveS d x y dx dy least).L∧(curveS d x y dx dy least).d.at_≤d.at_+9:=by
 have r1:=nxt_lt d (n:=4) (by omega)
 have a1:=nxtD_at d 4
 have h0:CInv ⟨[⟨x,y⟩],x,y,nxtD d 4⟩:=by
  refine ⟨Nat.le_refl _,rfl, ?_, ?_⟩
  ·intro i hi
   have:i=0:=by simpa using hi
   subst this
   show 0≤x∧_∧0≤y∧_
   exact ⟨by omega,by show x≤_;omega,by omega,by show y≤_;omega⟩
  ·intro i h0 hi
   have:i<1:=by simpa using hi
   omega
 obtain ⟨⟨b1,b2,b3,b4⟩,b5,b6⟩:=crvS_inv hdx hdy hl (1+nxt d 4).toNat h0
 have e:(1:Nat)=([⟨x,y⟩]:List Pt).length:=rfl
 dsimp only at b6
 refine ⟨⟨?_,b3,b4⟩, ?_⟩
 ·show 2≤(crvS dx dy least _ _).L.length∧(crvS dx dy least _ _).L.length≤5
  rw [b5,←e];omega
 ·show (crvS dx dy least _ _).d.at_≤_;omega
theorem val_rng {c:List Pt} (h:GoodC c) (x:Int):0≤valC c x∧valC c x≤274877906944:=by
 have hn:=h.ne
 by_cases h1:x<(c.getD 0 default).x
 ·rw [val_lo h (by omega)];have:=h.rng 0 hn;omega
 by_cases h2:(c.getD (c.length - 1) default).x≤x
 ·rw [val_hi h h2];have:=h.rng (c.length - 1) (by omega);omega
 obtain ⟨k,a,b,h3,h4⟩:=find_seg (c:=c) (x:=x) (by omega) (c.length - 1) (by omega) (by omega)
 have hu:=h.up k a (by omega)
 rw [val_seg h a (by omega) h3 (by omega)]
 have m1:=line_mono hu.1 hu.2.1 h3
 have m2:=line_mono hu.1 hu.2.1 (Int.le_of_lt h4)
 rw [line_lo] at m1;rw [line_hi hu.1] at m2
 have:=h.rng k (by omega)
 have:=h.rng (k - 1) (by omega)
 omega
theorem call103 (n m:Int):PureCall Tryz.prog 103 [.int .i64 n, .int .i64 m] [] ⟨.bool (decide (0≤n∧n≤m)), [], []⟩:=by
 refine pure_call mix Tryz.func103 fits103 rfl ?_
 conv=>whnf
 refine ⟨?_, [], ?_⟩
 ·(try conv=>whnf)
  (repeat' (first | exact True.intro | exact fun _ h=>h | refine inR64_of ?_ ?_ | apply And.intro | refine maxLen_ge ?_))<;>(first | omega | decide | (dsimp only;omega) | (dsimp only [List.length_cons,List.length_nil];omega) | (intro hg;rw [hg];rfl) | (intro hg hh;rw [hg,hh];rfl) | (intro hg;simp [-List.getD_eq_getElem?_getD, -Int.default_eq_zero] at hg;first | omega | (refine inR64_of ?_ ?_<;>omega) | (constructor<;>omega)) | (simp [-List.getD_eq_getElem?_getD, -Int.default_eq_zero];done))
 conv=>whnf
 refine ⟨rfl, ?_,trivial,trivial⟩
 all_goals repeat' (first | exact True.intro | refine leF_cons rfl ?_ ?_ | refine leS_cons rfl ?_ ?_ | (show PLe _ _ _ _;conv=>whnf) | (show SLe _ _ _ _;conv=>whnf) | (show PLeL _ _ _ _;conv=>whnf) | apply And.intro | rfl | exact Nat.le_refl _ | exact fun _ _=>rfl | exact rowEq0 _ _)
 by_cases h:0≤n<;>simp [h]
theorem call77 (n m:Int):PureCall Tryz.prog 77 [.int .i64 n, .int .i64 m] [] ⟨.bool (decide (0≤n∧n≤m)), [], []⟩:=by
 refine pure_call mix Tryz.func77 fits77 rfl ?_
 conv=>whnf
 refine ⟨_,fun _=>call103 n m, ?_⟩
 conv=>whnf
 refine ⟨?_, [], ?_⟩
 ·(try conv=>whnf)
  (repeat' (first | exact True.intro | exact fun _ h=>h | refine inR64_of ?_ ?_ | apply And.intro | refine maxLen_ge ?_))<;>(first | omega | decide | (dsimp only;omega) | (dsimp only [List.length_cons,List.length_nil];omega) | (intro hg;rw [hg];rfl) | (intro hg hh;rw [hg,hh];rfl) | (intro hg;simp [-List.getD_eq_getElem?_getD, -Int.default_eq_zero] at hg;first | omega | (refine inR64_of ?_ ?_<;>omega) | (constructor<;>omega)) | (simp [-List.getD_eq_getElem?_getD, -Int.default_eq_zero];done))
 conv=>whnf
 refine ⟨rfl, ?_,trivial,trivial⟩
 all_goals repeat' (first | exact True.intro | refine leF_cons rfl ?_ ?_ | refine leS_cons rfl ?_ ?_ | (show PLe _ _ _ _;conv=>whnf) | (show SLe _ _ _ _;conv=>whnf) | (show PLeL _ _ _ _;conv=>whnf) | apply And.intro | rfl | exact Nat.le_refl _ | exact fun _ _=>rfl | exact rowEq0 _ _)
theorem call122 (τ:Nat) (c:List Pt):PureCall Tryz.prog 122 [.sl τ 2 c.length (fl ePt c)] [] ⟨.int .i64 (checkC c), [], []⟩:=by
 refine pure_call mix Tryz.func122 fits122 rfl ?_
 conv=>whnf
 refine ⟨?_,fun hc=> ?_,fun hc=> ?_⟩
 ·(try conv=>whnf)
  (repeat' (first | exact True.intro | exact fun _ h=>h | refine inR64_of ?_ ?_ | apply And.intro | refine maxLen_ge ?_))<;>(first | omega | decide | (dsimp only;omega) | (dsimp only [List.length_cons,List.length_nil];omega) | (intro hg;rw [hg];rfl) | (intro hg hh;rw [hg,hh];rfl) | (intro hg;simp [-List.getD_eq_getElem?_getD, -Int.default_eq_zero] at hg;first | omega | (refine inR64_of ?_ ?_<;>omega) | (constructor<;>omega)) | (simp [-List.getD_eq_getElem?_getD, -Int.default_eq_zero];done))
 ·simp [-List.getD_eq_getElem?_getD, -Int.default_eq_zero] at hc
  rw [show checkC c=3 by unfold checkC;rw [if_pos (by rw [hc];rfl)]]
  conv=>whnf
  refine ⟨?_, [], ?_⟩
  ·(try conv=>whnf)
   (repeat' (first | exact True.intro | exact fun _ h=>h | refine inR64_of ?_ ?_ | apply And.intro | refine maxLen_ge ?_))<;>(first | omega | decide | (dsimp only;omega) | (dsimp only [List.length_cons,List.length_nil];omega) | (intro hg;rw [hg];rfl) | (intro hg hh;rw [hg,hh];rfl) | (intro hg;simp [-List.getD_eq_getElem?_getD, -Int.default_eq_zero] at hg;first | omega | (refine inR64_of ?_ ?_<;>omega) | (constructor<;>omega)) | (simp [-List.getD_eq_getElem?_getD, -Int.default_eq_zero];done))
  conv=>whnf
  refine ⟨rfl, ?_,trivial,trivial⟩
  all_goals repeat' (first | exact True.intro | refine leF_cons rfl ?_ ?_ | refine leS_cons rfl ?_ ?_ | (show PLe _ _ _ _;conv=>whnf) | (show SLe _ _ _ _;conv=>whnf) | (show PLeL _ _ _ _;conv=>whnf) | apply And.intro | rfl | exact Nat.le_refl _ | exact fun _ _=>rfl | exact rowEq0 _ _)
 simp [-List.getD_eq_getElem?_getD, -Int.default_eq_zero] at hc
 have h0:¬c.length=0:=by simpa using hc
 conv=>whnf
 refine ⟨?_,fun hc=> ?_,fun hc=> ?_⟩
 ·(try conv=>whnf)
  (repeat' (first | exact True.intro | exact fun _ h=>h | refine inR64_of ?_ ?_ | apply And.intro | refine maxLen_ge ?_))<;>(first | omega | decide | (dsimp only;omega) | (dsimp only [List.length_cons,List.length_nil];omega) | (intro hg;rw [hg];rfl) | (intro hg hh;rw [hg,hh];rfl) | (intro hg;simp [-List.getD_eq_getElem?_getD, -Int.default_eq_zero] at hg;first | omega | (refine inR64_of ?_ ?_<;>omega) | (constructor<;>omega)) | (simp [-List.getD_eq_getElem?_getD, -Int.default_eq_zero];done))
 ·replace hc:=of_decide_eq_true hc
  rw [show checkC c=10 by unfold checkC;rw [if_neg h0,if_pos (by omega)]]
  conv=>whnf
  refine ⟨?_, [], ?_⟩
  ·(try conv=>whnf)
   (repeat' (first | exact True.intro | exact fun _ h=>h | refine inR64_of ?_ ?_ | apply And.intro | refine maxLen_ge ?_))<;>(first | omega | decide | (dsimp only;omega) | (dsimp only [List.length_cons,List.length_nil];omega) | (intro hg;rw [hg];rfl) | (intro hg hh;rw [hg,hh];rfl) | (intro hg;simp [-List.getD_eq_getElem?_getD, -Int.default_eq_zero] at hg;first | omega | (refine inR64_of ?_ ?_<;>omega) | (constructor<;>omega)) | (simp [-List.getD_eq_getElem?_getD, -Int.default_eq_zero];done))
  conv=>whnf
  refine ⟨rfl, ?_,trivial,trivial⟩
  all_goals repeat' (first | exact True.intro | refine leF_cons rfl ?_ ?_ | refine leS_cons rfl ?_ ?_ | (show PLe _ _ _ _;conv=>whnf) | (show SLe _ _ _ _;conv=>whnf) | (show PLeL _ _ _ _;conv=>whnf) | apply And.intro | rfl | exact Nat.le_refl _ | exact fun _ _=>rfl | exact rowEq0 _ _)
 replace hc:=of_decide_eq_false hc
 have h1:¬c.length>100:=by omega
 have hck:checkC c=scan (errC c) 0 c.length:=by unfold checkC;rw [if_neg h0,if_neg h1]
 rw [hck]
 conv=>whnf
 refine ⟨trivial, ?_⟩
 refine LSem.loop (n:=61) mix (α:=Nat) (fun i=>i≤c.length∧scan (errC c) i (c.length - i)=scan (errC c) 0 c.length∧∀j,j<i→errC c j=0)
  (fun i=> [(0, .sl τ 2 c.length (fl ePt c)),(13, .sl τ 2 c.length (fl ePt c)),(14, .int .i64 c.length),(15, .int .i64 i)])
  (fun _=> []) (fun i=>c.length - i) 0 ?_ ?_ ?_
 ·exact ⟨Nat.zero_le _,rfl,fun j hj=>by omega⟩
 ·refine ⟨rfl,rfl, ?_, ?_⟩
  all_goals repeat' (first | exact True.intro | refine leF_cons rfl ?_ ?_ | refine leS_cons rfl ?_ ?_ | (show PLe _ _ _ _;conv=>whnf) | (show SLe _ _ _ _;conv=>whnf) | (show PLeL _ _ _ _;conv=>whnf) | apply And.intro | rfl | exact Nat.le_refl _ | exact fun _ _=>rfl | exact rowEq0 _ _)
 ·intro i hi
  obtain ⟨hi,hs,hall⟩:=hi
  have hj:((i:Int)).toNat=i:=by omega
  conv=>whnf
  refine ⟨trivial,fun hc=> ?_,fun hc=> ?_⟩
  ·replace hc:=of_decide_eq_true hc
   have hlt:i<c.length:=by omega
   have hall':errC c i=0→∀j,j<i+1→errC c j=0:=fun h j hj=>by
    by_cases e:j=i
    ·subst e;exact h
    ·exact hall j (by omega)
   have herr:errC c i≠0→scan (errC c) 0 c.length=errC c i:=fun h=>by rw [←hs];exact scan_hit (by omega) h
   have hnext:errC c i=0→scan (errC c) (i+1) (c.length - (i+1))=scan (errC c) 0 c.length:=fun h=>by rw [←hs,scan_step (by omega) h];congr 1
   conv=>whnf
   refine ⟨_,fun _=>call77 (c.getD ((i:Int)).toNat default).x 1073741824, ?_⟩
   conv=>whnf
   refine ⟨_,fun _=>call77 (c.getD ((i:Int)).toNat default).y 274877906944, ?_⟩
   conv=>whnf
   refine ⟨?_,fun hc1=> ?_,fun hc1=> ?_⟩
   ·(try conv=>whnf)
    (repeat' (first | exact True.intro | exact fun _ h=>h | refine inR64_of ?_ ?_ | apply And.intro | refine maxLen_ge ?_))<;>(first | omega | decide | (dsimp only;omega) | (dsimp only [List.length_cons,List.length_nil];omega) | (intro hg;rw [hg];rfl) | (intro hg hh;rw [hg,hh];rfl) | (intro hg;simp [-List.getD_eq_getElem?_getD, -Int.default_eq_zero] at hg;first | omega | (refine inR64_of ?_ ?_<;>omega) | (constructor<;>omega)) | (simp [-List.getD_eq_getElem?_getD, -Int.default_eq_zero];done))
   ·have he:errC c i=1:=by
      rw [hj] at hc1
      unfold errC
      rw [if_pos (by simp only [bif_t,bif_f,decide_eq_true_eq,decide_eq_false_iff_not,Bool.not_eq_true',Bool.not_eq_false',Bool.and_eq_true,Bool.or_eq_true,Bool.and_eq_false_iff,Bool.or_eq_false_iff,beq_iff_eq,bne_iff_ne,beq_eq_false_iff_ne,bne_eq_false_iff_eq,reduceCtorEq,false_and,and_false,true_and,and_true,or_false,false_or,or_true,true_or,not_true_eq_false,not_false_eq_true,Int.toNat_zero] at hc1;omega)]
    rw [herr (by rw [he];decide),he]
    conv=>whnf
    refine ⟨?_, [], ?_⟩
    ·(try conv=>whnf)
     (repeat' (first | exact True.intro | exact fun _ h=>h | refine inR64_of ?_ ?_ | apply And.intro | refine maxLen_ge ?_))<;>(first | omega | decide | (dsimp only;omega) | (dsimp only [List.length_cons,List.length_nil];omega) | (intro hg;rw [hg];rfl) | (intro hg hh;rw [hg,hh];rfl) | (intro hg;simp [-List.getD_eq_getElem?_getD, -Int.default_eq_zero] at hg;first | omega | (refine inR64_of ?_ ?_<;>omega) | (constructor<;>omega)) | (simp [-List.getD_eq_getElem?_getD, -Int.default_eq_zero];done))
    conv=>whnf
    refine ⟨rfl, ?_,trivial,trivial⟩
    all_goals repeat' (first | exact True.intro | refine leF_cons rfl ?_ ?_ | refine leS_cons rfl ?_ ?_ | (show PLe _ _ _ _;conv=>whnf) | (show SLe _ _ _ _;conv=>whnf) | (show PLeL _ _ _ _;conv=>whnf) | apply And.intro | rfl | exact Nat.le_refl _ | exact fun _ _=>rfl | exact rowEq0 _ _)
   have hr:(0≤(c.getD i default).x∧(c.getD i default).x≤1073741824)∧(0≤(c.getD i default).y∧(c.getD i default).y≤274877906944):=by
    rw [hj] at hc1
    simp only [bif_t,bif_f,decide_eq_true_eq,decide_eq_false_iff_not,Bool.not_eq_true',Bool.not_eq_false',Bool.and_eq_true,Bool.or_eq_true,Bool.and_eq_false_iff,Bool.or_eq_false_iff,beq_iff_eq,bne_iff_ne,beq_eq_false_iff_ne,bne_eq_false_iff_eq,reduceCtorEq,false_and,and_false,true_and,and_true,or_false,false_or,or_true,true_or,not_true_eq_false,not_false_eq_true,Int.toNat_zero] at hc1
    omega
   conv=>whnf
   refine ⟨trivial,fun hc2=> ?_,fun hc2=> ?_⟩
   ·have h0:i=0:=by simpa using hc2
    conv=>whnf
    have he:errC c i=0:=by unfold errC;rw [if_neg (by omega),if_pos h0]
    refine ⟨?_,i+1,⟨by omega,hnext he,hall' he⟩, ?_,rfl,rfl, ?_, ?_⟩
    ·(try conv=>whnf)
     (repeat' (first | exact True.intro | exact fun _ h=>h | refine inR64_of ?_ ?_ | apply And.intro | refine maxLen_ge ?_))<;>(first | omega | decide | (dsimp only;omega) | (dsimp only [List.length_cons,List.length_nil];omega) | (intro hg;rw [hg];rfl) | (intro hg hh;rw [hg,hh];rfl) | (intro hg;simp [-List.getD_eq_getElem?_getD, -Int.default_eq_zero] at hg;first | omega | (refine inR64_of ?_ ?_<;>omega) | (constructor<;>omega)) | (simp [-List.getD_eq_getElem?_getD, -Int.default_eq_zero];done))
    ·omega
    all_goals repeat' (first | exact True.intro | refine leF_cons rfl ?_ ?_ | refine leS_cons rfl ?_ ?_ | (show PLe _ _ _ _;conv=>whnf) | (show SLe _ _ _ _;conv=>whnf) | (show PLeL _ _ _ _;conv=>whnf) | apply And.intro | rfl | exact Nat.le_refl _ | exact fun _ _=>rfl | exact rowEq0 _ _)
    all_goals omega
   have h0:¬i=0:=by simpa using hc2
   have hj1:((i:Int) - 1).toNat=i - 1:=by omega
   have hm1:(0≤(c.getD (i - 1) default).x∧(c.getD (i - 1) default).x≤1073741824)∧(0≤(c.getD (i - 1) default).y∧(c.getD (i - 1) default).y≤274877906944):=by
    have:=hall (i - 1) (by omega)
    unfold errC at this
    split at this
    ·cases this
    ·omega
   conv=>whnf
   refine ⟨rfl, ?_⟩
   conv=>whnf
   refine ⟨?_,fun hc3=> ?_,fun hc3=> ?_⟩
   ·rw [hj,hj1]
    (try conv=>whnf)
    (repeat' (first | exact True.intro | exact fun _ h=>h | refine inR64_of ?_ ?_ | apply And.intro | refine maxLen_ge ?_))<;>(first | omega | decide | (dsimp only;omega) | (dsimp only [List.length_cons,List.length_nil];omega) | (intro hg;rw [hg];rfl) | (intro hg hh;rw [hg,hh];rfl) | (intro hg;simp [-List.getD_eq_getElem?_getD, -Int.default_eq_zero] at hg;first | omega | (refine inR64_of ?_ ?_<;>omega) | (constructor<;>omega)) | (simp [-List.getD_eq_getElem?_getD, -Int.default_eq_zero];done))
   ·have he:errC c i=4:=by
      rw [hj,hj1] at hc3
      unfold errC
      rw [if_neg (by omega),if_neg h0,if_pos (by simp only [bif_t,bif_f,decide_eq_true_eq,decide_eq_false_iff_not,Bool.not_eq_true',Bool.not_eq_false',Bool.and_eq_true,Bool.or_eq_true,Bool.and_eq_false_iff,Bool.or_eq_false_iff,beq_iff_eq,bne_iff_ne,beq_eq_false_iff_ne,bne_eq_false_iff_eq,reduceCtorEq,false_and,and_false,true_and,and_true,or_false,false_or,or_true,true_or,not_true_eq_false,not_false_eq_true,Int.toNat_zero] at hc3;omega)]
    rw [herr (by rw [he];decide),he]
    conv=>whnf
    refine ⟨?_, [], ?_⟩
    ·(try conv=>whnf)
     (repeat' (first | exact True.intro | exact fun _ h=>h | refine inR64_of ?_ ?_ | apply And.intro | refine maxLen_ge ?_))<;>(first | omega | decide | (dsimp only;omega) | (dsimp only [List.length_cons,List.length_nil];omega) | (intro hg;rw [hg];rfl) | (intro hg hh;rw [hg,hh];rfl) | (intro hg;simp [-List.getD_eq_getElem?_getD, -Int.default_eq_zero] at hg;first | omega | (refine inR64_of ?_ ?_<;>omega) | (constructor<;>omega)) | (simp [-List.getD_eq_getElem?_getD, -Int.default_eq_zero];done))
    conv=>whnf
    refine ⟨rfl, ?_,trivial,trivial⟩
    all_goals repeat' (first | exact True.intro | refine leF_cons rfl ?_ ?_ | refine leS_cons rfl ?_ ?_ | (show PLe _ _ _ _;conv=>whnf) | (show SLe _ _ _ _;conv=>whnf) | (show PLeL _ _ _ _;conv=>whnf) | apply And.intro | rfl | exact Nat.le_refl _ | exact fun _ _=>rfl | exact rowEq0 _ _)
   have hle:¬((c.getD i default).x≤(c.getD (i - 1) default).x∨(c.getD i default).y<(c.getD (i - 1) default).y):=by
    rw [hj,hj1] at hc3
    simp only [bif_t,bif_f,decide_eq_true_eq,decide_eq_false_iff_not,Bool.not_eq_true',Bool.not_eq_false',Bool.and_eq_true,Bool.or_eq_true,Bool.and_eq_false_iff,Bool.or_eq_false_iff,beq_iff_eq,bne_iff_ne,beq_eq_false_iff_ne,bne_eq_false_iff_eq,reduceCtorEq,false_and,and_false,true_and,and_true,or_false,false_or,or_true,true_or,not_true_eq_false,not_false_eq_true,Int.toNat_zero] at hc3
    omega
   have hdiv:Int.tdiv 4611686018427387904 ((c.getD i default).x - (c.getD (i - 1) default).x)=4611686018427387904 / ((c.getD i default).x - (c.getD (i - 1) default).x):=Int.tdiv_eq_ediv_of_nonneg (by omega)
   have d1:0≤4611686018427387904 / ((c.getD i default).x - (c.getD (i - 1) default).x):=Int.ediv_nonneg (by omega) (by omega)
   have d2:4611686018427387904 / ((c.getD i default).x - (c.getD (i - 1) default).x)≤4611686018427387904:=Int.ediv_le_self _ (by omega)
   conv=>whnf
   refine ⟨?_,fun hc4=> ?_,fun hc4=> ?_⟩
   ·rw [hj,hj1,hdiv]
    (try conv=>whnf)
    (repeat' (first | exact True.intro | exact fun _ h=>h | refine inR64_of ?_ ?_ | apply And.intro | refine maxLen_ge ?_))<;>(first | omega | decide | (dsimp only;omega) | (dsimp only [List.length_cons,List.length_nil];omega) | (intro hg;rw [hg];rfl) | (intro hg hh;rw [hg,hh];rfl) | (intro hg;simp [-List.getD_eq_getElem?_getD, -Int.default_eq_zero] at hg;first | omega | (refine inR64_of ?_ ?_<;>omega) | (constructor<;>omega)) | (simp [-List.getD_eq_getElem?_getD, -Int.default_eq_zero];done))
   ·replace hc4:=of_decide_eq_true hc4
    rw [hj,hj1,hdiv] at hc4
    have he:errC c i=1:=by
     unfold errC
     rw [if_neg (by omega),if_neg h0,if_neg hle,if_pos (by unfold steepF;exact decide_eq_true ⟨by omega,hc4⟩)]
    rw [herr (by rw [he];decide),he]
    conv=>whnf
    refine ⟨?_, [], ?_⟩
    ·(try conv=>whnf)
     (repeat' (first | exact True.intro | exact fun _ h=>h | refine inR64_of ?_ ?_ | apply And.intro | refine maxLen_ge ?_))<;>(first | omega | decide | (dsimp only;omega) | (dsimp only [List.length_cons,List.length_nil];omega) | (intro hg;rw [hg];rfl) | (intro hg hh;rw [hg,hh];rfl) | (intro hg;simp [-List.getD_eq_getElem?_getD, -Int.default_eq_zero] at hg;first | omega | (refine inR64_of ?_ ?_<;>omega) | (constructor<;>omega)) | (simp [-List.getD_eq_getElem?_getD, -Int.default_eq_zero];done))
    conv=>whnf
    refine ⟨rfl, ?_,trivial,trivial⟩
    all_goals repeat' (first | exact True.intro | refine leF_cons rfl ?_ ?_ | refine leS_cons rfl ?_ ?_ | (show PLe _ _ _ _;conv=>whnf) | (show SLe _ _ _ _;conv=>whnf) | (show PLeL _ _ _ _;conv=>whnf) | apply And.intro | rfl | exact Nat.le_refl _ | exact fun _ _=>rfl | exact rowEq0 _ _)
   ·replace hc4:=of_decide_eq_false hc4
    rw [hj,hj1,hdiv] at hc4
    have he:errC c i=0:=by
     unfold errC
     rw [if_neg (by omega),if_neg h0,if_neg hle,if_neg (by unfold steepF;intro h;exact hc4 (of_decide_eq_true h).2)]
    conv=>whnf
    refine ⟨?_,i+1,⟨by omega,hnext he,hall' he⟩, ?_,rfl,rfl, ?_, ?_⟩
    ·(try conv=>whnf)
     (repeat' (first | exact True.intro | exact fun _ h=>h | refine inR64_of ?_ ?_ | apply And.intro | refine maxLen_ge ?_))<;>(first | omega | decide | (dsimp only;omega) | (dsimp only [List.length_cons,List.length_nil];omega) | (intro hg;rw [hg];rfl) | (intro hg hh;rw [hg,hh];rfl) | (intro hg;simp [-List.getD_eq_getElem?_getD, -Int.default_eq_zero] at hg;first | omega | (refine inR64_of ?_ ?_<;>omega) | (constructor<;>omega)) | (simp [-List.getD_eq_getElem?_getD, -Int.default_eq_zero];done))
    ·omega
    all_goals repeat' (first | exact True.intro | refine leF_cons rfl ?_ ?_ | refine leS_cons rfl ?_ ?_ | (show PLe _ _ _ _;conv=>whnf) | (show SLe _ _ _ _;conv=>whnf) | (show PLeL _ _ _ _;conv=>whnf) | apply And.intro | rfl | exact Nat.le_refl _ | exact fun _ _=>rfl | exact rowEq0 _ _)
    all_goals omega
  ·replace hc:=of_decide_eq_false hc
   rw [show c.length - i=0 by omega] at hs
   rw [←hs]
   conv=>whnf
   refine ⟨?_, [], ?_⟩
   ·(try conv=>whnf)
    (repeat' (first | exact True.intro | exact fun _ h=>h | refine inR64_of ?_ ?_ | apply And.intro | refine maxLen_ge ?_))<;>(first | omega | decide | (dsimp only;omega) | (dsimp only [List.length_cons,List.length_nil];omega) | (intro hg;rw [hg];rfl) | (intro hg hh;rw [hg,hh];rfl) | (intro hg;simp [-List.getD_eq_getElem?_getD, -Int.default_eq_zero] at hg;first | omega | (refine inR64_of ?_ ?_<;>omega) | (constructor<;>omega)) | (simp [-List.getD_eq_getElem?_getD, -Int.default_eq_zero];done))
   conv=>whnf
   refine ⟨rfl, ?_,trivial,trivial⟩
   all_goals repeat' (first | exact True.intro | refine leF_cons rfl ?_ ?_ | refine leS_cons rfl ?_ ?_ | (show PLe _ _ _ _;conv=>whnf) | (show SLe _ _ _ _;conv=>whnf) | (show PLeL _ _ _ _;conv=>whnf) | apply And.intro | rfl | exact Nat.le_refl _ | exact fun _ _=>rfl | exact rowEq0 _ _)
theorem call123 (τ:Nat) (c:List Pt) (x:Int) (hg:GoodC c):PureCall Tryz.prog 123 [.sl τ 2 c.length (fl ePt c), .int .i64 x] [] ⟨.int .i64 (valC c x), [], []⟩:=by
 have hle:=hg.le
 have hne:=hg.ne
 refine pure_call mix Tryz.func123 fits123 rfl ?_
 conv=>whnf
 refine ⟨?_,fun hc=> ?_,fun hc=> ?_⟩
 ·(try conv=>whnf)
  (repeat' (first | exact True.intro | exact fun _ h=>h | refine inR64_of ?_ ?_ | apply And.intro | refine maxLen_ge ?_))<;>(first | omega | decide | (dsimp only;omega) | (dsimp only [List.length_cons,List.length_nil];omega) | (intro hg;rw [hg];rfl) | (intro hg hh;rw [hg,hh];rfl) | (intro hg;simp [-List.getD_eq_getElem?_getD, -Int.default_eq_zero] at hg;first | omega | (refine inR64_of ?_ ?_<;>omega) | (constructor<;>omega)) | (simp [-List.getD_eq_getElem?_getD, -Int.default_eq_zero];done))
 ·replace hc:=of_decide_eq_true hc
  rw [val_lo hg hc]
  conv=>whnf
  refine ⟨?_, [], ?_⟩
  ·(try conv=>whnf)
   (repeat' (first | exact True.intro | exact fun _ h=>h | refine inR64_of ?_ ?_ | apply And.intro | refine maxLen_ge ?_))<;>(first | omega | decide | (dsimp only;omega) | (dsimp only [List.length_cons,List.length_nil];omega) | (intro hg;rw [hg];rfl) | (intro hg hh;rw [hg,hh];rfl) | (intro hg;simp [-List.getD_eq_getElem?_getD, -Int.default_eq_zero] at hg;first | omega | (refine inR64_of ?_ ?_<;>omega) | (constructor<;>omega)) | (simp [-List.getD_eq_getElem?_getD, -Int.default_eq_zero];done))
  conv=>whnf
  refine ⟨rfl, ?_,trivial,trivial⟩
  all_goals repeat' (first | exact True.intro | refine leF_cons rfl ?_ ?_ | refine leS_cons rfl ?_ ?_ | (show PLe _ _ _ _;conv=>whnf) | (show SLe _ _ _ _;conv=>whnf) | (show PLeL _ _ _ _;conv=>whnf) | apply And.intro | rfl | exact Nat.le_refl _ | exact fun _ _=>rfl | exact rowEq0 _ _)
 replace hc:=of_decide_eq_false hc
 have hlo:(c.getD 0 default).x<x:=by
  have h:¬x≤(c.getD 0 default).x:=hc
  omega
 clear hc
 conv=>whnf
 refine ⟨trivial, ?_⟩
 refine LSem.loop (n:=66) mix (α:=Nat) (fun i=>1≤i∧i≤c.length∧(c.getD (i - 1) default).x≤x)
  (fun i=> [(0, .sl τ 2 c.length (fl ePt c)),(1, .int .i64 x),(5, .int .i64 i)])
  (fun _=> []) (fun i=>c.length - i) 1 ?_ ?_ ?_
 ·exact ⟨Nat.le_refl _,by omega,Int.le_of_lt hlo⟩
 ·refine ⟨rfl,rfl, ?_, ?_⟩
  all_goals repeat' (first | exact True.intro | refine leF_cons rfl ?_ ?_ | refine leS_cons rfl ?_ ?_ | (show PLe _ _ _ _;conv=>whnf) | (show SLe _ _ _ _;conv=>whnf) | (show PLeL _ _ _ _;conv=>whnf) | apply And.intro | rfl | exact Nat.le_refl _ | exact fun _ _=>rfl | exact rowEq0 _ _)
 ·intro i hi
  obtain ⟨h1,hi,hx⟩:=hi
  have hj:((i:Int)).toNat=i:=by omega
  have hj1:((i:Int) - 1).toNat=i - 1:=by omega
  conv=>whnf
  refine ⟨trivial,fun hc=> ?_,fun hc=> ?_⟩
  ·replace hc:=of_decide_eq_true hc
   have hlt:i<c.length:=by omega
   conv=>whnf
   refine ⟨?_,fun hc1=> ?_,fun hc1=> ?_⟩
   ·(try conv=>whnf)
    (repeat' (first | exact True.intro | exact fun _ h=>h | refine inR64_of ?_ ?_ | apply And.intro | refine maxLen_ge ?_))<;>(first | omega | decide | (dsimp only;omega) | (dsimp only [List.length_cons,List.length_nil];omega) | (intro hg;rw [hg];rfl) | (intro hg hh;rw [hg,hh];rfl) | (intro hg;simp [-List.getD_eq_getElem?_getD, -Int.default_eq_zero] at hg;first | omega | (refine inR64_of ?_ ?_<;>omega) | (constructor<;>omega)) | (simp [-List.getD_eq_getElem?_getD, -Int.default_eq_zero];done))
   ·replace hc1:=of_decide_eq_true hc1
    rw [hj] at hc1
    rw [val_seg hg (by omega) hlt hx (by omega)]
    unfold lineF
    have hr:=hg.rng i hlt
    have hr1:=hg.rng (i - 1) (by omega)
    have hu:=hg.up i (by omega) hlt
    conv=>whnf
    refine ⟨rfl, ?_⟩
    conv=>whnf
    refine ⟨rfl, ?_⟩
    conv=>whnf
    have hp:0≤((c.getD ((i:Int)).toNat default).y - (c.getD ((i:Int) - 1).toNat default).y)*(x - (c.getD ((i:Int) - 1).toNat default).x)∧((c.getD ((i:Int)).toNat default).y - (c.getD ((i:Int) - 1).toNat default).y)*(x - (c.getD ((i:Int) - 1).toNat default).x)≤4611686018427387904:=by
     rw [hj,hj1]
     exact prod_le (by omega) (Int.le_refl _) (by omega) (by omega) hu.2.2
    have hq:Int.tdiv (((c.getD ((i:Int)).toNat default).y - (c.getD ((i:Int) - 1).toNat default).y)*(x - (c.getD ((i:Int) - 1).toNat default).x)) ((c.getD ((i:Int)).toNat default).x - (c.getD ((i:Int) - 1).toNat default).x)=(((c.getD ((i:Int)).toNat default).y - (c.getD ((i:Int) - 1).toNat default).y)*(x - (c.getD ((i:Int) - 1).toNat default).x)) / ((c.getD ((i:Int)).toNat default).x - (c.getD ((i:Int) - 1).toNat default).x):=Int.tdiv_eq_ediv_of_nonneg hp.1
    have hq2:0≤(((c.getD ((i:Int)).toNat default).y - (c.getD ((i:Int) - 1).toNat default).y)*(x - (c.getD ((i:Int) - 1).toNat default).x)) / ((c.getD ((i:Int)).toNat default).x - (c.getD ((i:Int) - 1).toNat default).x):=Int.ediv_nonneg hp.1 (by rw [hj,hj1];omega)
    have hq3:(((c.getD ((i:Int)).toNat default).y - (c.getD ((i:Int) - 1).toNat default).y)*(x - (c.getD ((i:Int) - 1).toNat default).x)) / ((c.getD ((i:Int)).toNat default).x - (c.getD ((i:Int) - 1).toNat default).x)≤((c.getD ((i:Int)).toNat default).y - (c.getD ((i:Int) - 1).toNat default).y):=by
     rw [hj,hj1]
     refine Int.ediv_le_of_le_mul (by omega) (Int.mul_le_mul_of_nonneg_left (by omega) (by omega))
    refine ⟨?_, [], ?_⟩
    ·rw [hq]
     rw [hj,hj1] at hq2 hq3 hp⊢
     (try conv=>whnf)
     (repeat' (first | exact True.intro | exact fun _ h=>h | refine inR64_of ?_ ?_ | apply And.intro | refine maxLen_ge ?_))<;>(first | omega | decide | (dsimp only;omega) | (dsimp only [List.length_cons,List.length_nil];omega) | (intro hg;rw [hg];rfl) | (intro hg hh;rw [hg,hh];rfl) | (intro hg;simp [-List.getD_eq_getElem?_getD, -Int.default_eq_zero] at hg;first | omega | (refine inR64_of ?_ ?_<;>omega) | (constructor<;>omega)) | (simp [-List.getD_eq_getElem?_getD, -Int.default_eq_zero];done))
    conv=>whnf
    refine ⟨rfl, ?_,trivial,trivial⟩
    all_goals repeat' (first | exact True.intro | refine leF_cons rfl ?_ ?_ | refine leS_cons rfl ?_ ?_ | (show PLe _ _ _ _;conv=>whnf) | (show SLe _ _ _ _;conv=>whnf) | (show PLeL _ _ _ _;conv=>whnf) | apply And.intro | rfl | exact Nat.le_refl _ | exact fun _ _=>rfl | exact rowEq0 _ _)
    rw [hq,hj,hj1]
   ·replace hc1:=of_decide_eq_false hc1
    rw [hj] at hc1
    conv=>whnf
    refine ⟨?_,i+1,⟨by omega,by omega,by rw [Nat.add_sub_cancel];omega⟩, ?_,rfl,rfl, ?_, ?_⟩
    ·(try conv=>whnf)
     (repeat' (first | exact True.intro | exact fun _ h=>h | refine inR64_of ?_ ?_ | apply And.intro | refine maxLen_ge ?_))<;>(first | omega | decide | (dsimp only;omega) | (dsimp only [List.length_cons,List.length_nil];omega) | (intro hg;rw [hg];rfl) | (intro hg hh;rw [hg,hh];rfl) | (intro hg;simp [-List.getD_eq_getElem?_getD, -Int.default_eq_zero] at hg;first | omega | (refine inR64_of ?_ ?_<;>omega) | (constructor<;>omega)) | (simp [-List.getD_eq_getElem?_getD, -Int.default_eq_zero];done))
    ·omega
    all_goals repeat' (first | exact True.intro | refine leF_cons rfl ?_ ?_ | refine leS_cons rfl ?_ ?_ | (show PLe _ _ _ _;conv=>whnf) | (show SLe _ _ _ _;conv=>whnf) | (show PLeL _ _ _ _;conv=>whnf) | apply And.intro | rfl | exact Nat.le_refl _ | exact fun _ _=>rfl | exact rowEq0 _ _)
    all_goals omega
  ·replace hc:=of_decide_eq_false hc
   have:i=c.length:=by omega
   subst this
   rw [val_hi hg hx]
   conv=>whnf
   refine ⟨?_, [], ?_⟩
   ·(try conv=>whnf)
    (repeat' (first | exact True.intro | exact fun _ h=>h | refine inR64_of ?_ ?_ | apply And.intro | refine maxLen_ge ?_))<;>(first | omega | decide | (dsimp only;omega) | (dsimp only [List.length_cons,List.length_nil];omega) | (intro hg;rw [hg];rfl) | (intro hg hh;rw [hg,hh];rfl) | (intro hg;simp [-List.getD_eq_getElem?_getD, -Int.default_eq_zero] at hg;first | omega | (refine inR64_of ?_ ?_<;>omega) | (constructor<;>omega)) | (simp [-List.getD_eq_getElem?_getD, -Int.default_eq_zero];done))
   conv=>whnf
   refine ⟨rfl, ?_,trivial,trivial⟩
   all_goals repeat' (first | exact True.intro | refine leF_cons rfl ?_ ?_ | refine leS_cons rfl ?_ ?_ | (show PLe _ _ _ _;conv=>whnf) | (show SLe _ _ _ _;conv=>whnf) | (show PLeL _ _ _ _;conv=>whnf) | apply And.intro | rfl | exact Nat.le_refl _ | exact fun _ _=>rfl | exact rowEq0 _ _)
   rw [hj1]
theorem call91 (τ:Nat) (c:List Pt) (x:Int):PureCall Tryz.prog 91 [.sl τ 2 c.length (fl ePt c), .int .i64 x] [] ⟨.tup [.int .i64 (atC c x).1, .int .i64 (atC c x).2], [], []⟩:=by
 refine pure_call mix Tryz.func91 fits91 rfl ?_
 conv=>whnf
 refine ⟨_,fun _=>call122 _ c, ?_⟩
 by_cases hc:checkC c=0
 ·rw [show atC c x=(valC c x,0) by unfold atC;rw [if_pos hc],hc]
  conv=>whnf
  refine ⟨?_,fun h=>(by cases h),fun _=> ?_⟩
  ·(try conv=>whnf)
   (repeat' (first | exact True.intro | exact fun _ h=>h | refine inR64_of ?_ ?_ | apply And.intro | refine maxLen_ge ?_))<;>(first | omega | decide | (dsimp only;omega) | (dsimp only [List.length_cons,List.length_nil];omega) | (intro hg;rw [hg];rfl) | (intro hg hh;rw [hg,hh];rfl) | (intro hg;simp [-List.getD_eq_getElem?_getD, -Int.default_eq_zero] at hg;first | omega | (refine inR64_of ?_ ?_<;>omega) | (constructor<;>omega)) | (simp [-List.getD_eq_getElem?_getD, -Int.default_eq_zero];done))
  conv=>whnf
  refine ⟨_,fun _=>call123 _ c x ((check_good c).1 hc), ?_⟩
  conv=>whnf
  refine ⟨?_, [], ?_⟩
  ·(try conv=>whnf)
   (repeat' (first | exact True.intro | exact fun _ h=>h | refine inR64_of ?_ ?_ | apply And.intro | refine maxLen_ge ?_))<;>(first | omega | decide | (dsimp only;omega) | (dsimp only [List.length_cons,List.length_nil];omega) | (intro hg;rw [hg];rfl) | (intro hg hh;rw [hg,hh];rfl) | (intro hg;simp [-List.getD_eq_getElem?_getD, -Int.default_eq_zero] at hg;first | omega | (refine inR64_of ?_ ?_<;>omega) | (constructor<;>omega)) | (simp [-List.getD_eq_getElem?_getD, -Int.default_eq_zero];done))
  conv=>whnf
  refine ⟨rfl, ?_,trivial,trivial⟩
  all_goals repeat' (first | exact True.intro | refine leF_cons rfl ?_ ?_ | refine leS_cons rfl ?_ ?_ | (show PLe _ _ _ _;conv=>whnf) | (show SLe _ _ _ _;conv=>whnf) | (show PLeL _ _ _ _;conv=>whnf) | apply And.intro | rfl | exact Nat.le_refl _ | exact fun _ _=>rfl | exact rowEq0 _ _)
 ·rw [show atC c x=(0,checkC c) by unfold atC;rw [if_neg hc]]
  generalize checkC c=E at hc⊢
  conv=>whnf
  refine ⟨?_,fun h=> ?_,fun h=> ?_⟩
  ·(try conv=>whnf)
   (repeat' (first | exact True.intro | exact fun _ h=>h | refine inR64_of ?_ ?_ | apply And.intro | refine maxLen_ge ?_))<;>(first | omega | decide | (dsimp only;omega) | (dsimp only [List.length_cons,List.length_nil];omega) | (intro hg;rw [hg];rfl) | (intro hg hh;rw [hg,hh];rfl) | (intro hg;simp [-List.getD_eq_getElem?_getD, -Int.default_eq_zero] at hg;first | omega | (refine inR64_of ?_ ?_<;>omega) | (constructor<;>omega)) | (simp [-List.getD_eq_getElem?_getD, -Int.default_eq_zero];done))
  ·conv=>whnf
   refine ⟨?_, [], ?_⟩
   ·(try conv=>whnf)
    (repeat' (first | exact True.intro | exact fun _ h=>h | refine inR64_of ?_ ?_ | apply And.intro | refine maxLen_ge ?_))<;>(first | omega | decide | (dsimp only;omega) | (dsimp only [List.length_cons,List.length_nil];omega) | (intro hg;rw [hg];rfl) | (intro hg hh;rw [hg,hh];rfl) | (intro hg;simp [-List.getD_eq_getElem?_getD, -Int.default_eq_zero] at hg;first | omega | (refine inR64_of ?_ ?_<;>omega) | (constructor<;>omega)) | (simp [-List.getD_eq_getElem?_getD, -Int.default_eq_zero];done))
   conv=>whnf
   refine ⟨rfl, ?_,trivial,trivial⟩
   all_goals repeat' (first | exact True.intro | refine leF_cons rfl ?_ ?_ | refine leS_cons rfl ?_ ?_ | (show PLe _ _ _ _;conv=>whnf) | (show SLe _ _ _ _;conv=>whnf) | (show PLeL _ _ _ _;conv=>whnf) | apply And.intro | rfl | exact Nat.le_refl _ | exact fun _ _=>rfl | exact rowEq0 _ _)
  ·exact absurd (show E=0 by simpa using h) hc
def lst (st:Bool):Int:=bif st then 1 else 0
theorem call86 (d:Dk) (x y dx dy:Int) (st:Bool) (hd:d.at_≤980000000) (hx:0≤x∧x≤1000000) (hy:0≤y∧y≤1000000) (hdx:1≤dx∧dx≤1000000) (hdy:1≤dy∧dy≤1000000):
  PureCall Tryz.prog 86 [.pt 0 0 0, .int .i64 x, .int .i64 y, .int .i64 dx, .int .i64 dy, .bool st] [.box (eDk 1 d)] ⟨.sl 0 2 (curveS d x y dx dy (lst st)).L.length (fl ePt (curveS d x y dx dy (lst st)).L), [.box (eDk 1 (curveS d x y dx dy (lst st)).d)], []⟩:=by
 have hls:0≤lst st∧lst st≤1:=by cases st<;>decide
 refine pure_call mix Tryz.func86 fits86 rfl ?_
 have r1:=nxt_lt d (n:=4) (by omega)
 have a1:=nxtD_at d 4
 cases st
 ·conv=>whnf
  refine ⟨trivial,fun hc=>absurd hc (by decide),fun _=> ?_⟩
  conv=>whnf
  refine ⟨_,fun _=>call_next 1 d 4 (by omega) (by omega), ?_⟩
  conv=>whnf
  refine ⟨?_, ?_⟩
  ·(try conv=>whnf)
   (repeat' (first | exact True.intro | exact fun _ h=>h | refine inR64_of ?_ ?_ | apply And.intro | refine maxLen_ge ?_))<;>(first | omega | decide | (dsimp only;omega) | (dsimp only [List.length_cons,List.length_nil];omega) | (intro hg;rw [hg];rfl) | (intro hg hh;rw [hg,hh];rfl) | (intro hg;simp [-List.getD_eq_getElem?_getD, -Int.default_eq_zero] at hg;first | omega | (refine inR64_of ?_ ?_<;>omega) | (constructor<;>omega)) | (simp [-List.getD_eq_getElem?_getD, -Int.default_eq_zero];done))
  refine LSem.loop (n:=48) mix (α:=Nat×Cst) (fun s=>s.1≤4∧crvS dx dy 0 s.1 s.2=curveS d x y dx dy 0∧s.2.d.at_+2*s.1≤980000020∧s.2.L.length+s.1≤10∧(0≤s.2.x∧s.2.x+1000001*s.1≤5000010)∧(0≤s.2.y∧s.2.y+1000002*s.1≤5000010))
   (fun s=> [(0, .pt 0 0 0),(1, .int .i64 s.2.x),(2, .int .i64 s.2.y),(3, .int .i64 dx),(4, .int .i64 dy),(13, .int .i64 0),(14, .os 320),(15, .int .i64 s.1)])
   (fun s=> [(0, .box (eDk 1 s.2.d)),(320, .row 0 203 2 s.2.L.length (fl ePt s.2.L))]) (fun s=>s.1) ((1+nxt d 4).toNat,⟨[⟨x,y⟩],x,y,nxtD d 4⟩) ?_ ?_ ?_
  ·refine ⟨by dsimp only;omega,rfl, ?_, ?_, ?_, ?_⟩
   all_goals (dsimp only [List.length_cons,List.length_nil];omega)
  ·refine ⟨rfl,rfl, ?_, ?_⟩
   all_goals repeat' (first | exact True.intro | refine leF_cons rfl ?_ ?_ | refine leS_cons rfl ?_ ?_ | (show PLe _ _ _ _;conv=>whnf) | (show SLe _ _ _ _;conv=>whnf) | (show PLeL _ _ _ _;conv=>whnf) | apply And.intro | rfl | exact Nat.le_refl _ | exact fun _ _=>rfl | exact rowEq0 _ _)
   ·dsimp only;omega
   ·exact fl_one ePt ⟨x,y⟩
  ·intro s hs
   obtain ⟨h1,h2,h3,h4,h5,h6⟩:=hs
   conv=>whnf
   refine ⟨trivial,fun hc=> ?_,fun hc=> ?_⟩
   ·replace hc:=of_decide_eq_true hc
    have h0:0<s.1:=by omega
    conv=>whnf
    have r2:=nxt_lt s.2.d (n:=dx) (by omega)
    have a2:=nxtD_at s.2.d dx
    refine ⟨_,fun _=>call_next 1 s.2.d dx (by omega) (by omega), ?_⟩
    conv=>whnf
    have r3:=nxt_lt (nxtD s.2.d dx) (n:=dy) (by omega)
    have a3:=nxtD_at (nxtD s.2.d dx) dy
    refine ⟨_,fun _=>call_next 1 (nxtD s.2.d dx) dy (by omega) (by omega), ?_⟩
    conv=>whnf
    refine ⟨?_,(s.1 - 1,crvN dx dy 0 s.2),⟨?_, ?_, ?_, ?_, ?_, ?_⟩, ?_,rfl,rfl, ?_, ?_⟩
    ·(try conv=>whnf)
     (repeat' (first | exact True.intro | exact fun _ h=>h | refine inR64_of ?_ ?_ | apply And.intro | refine maxLen_ge ?_))<;>(first | omega | decide | (dsimp only;omega) | (dsimp only [List.length_cons,List.length_nil];omega) | (intro hg;rw [hg];rfl) | (intro hg hh;rw [hg,hh];rfl) | (intro hg;simp [-List.getD_eq_getElem?_getD, -Int.default_eq_zero] at hg;first | omega | (refine inR64_of ?_ ?_<;>omega) | (constructor<;>omega)) | (simp [-List.getD_eq_getElem?_getD, -Int.default_eq_zero];done))
    ·dsimp only;omega
    ·rw [←h2];dsimp only
     rw [show s.1=(s.1 - 1)+1 by omega];rfl
    ·dsimp only [crvN];omega
    ·dsimp only [crvN];rw [List.length_append,List.length_cons,List.length_nil];omega
    ·dsimp only [crvN];omega
    ·dsimp only [crvN];omega
    ·dsimp only;omega
    all_goals repeat' (first | exact True.intro | refine leF_cons rfl ?_ ?_ | refine leS_cons rfl ?_ ?_ | (show PLe _ _ _ _;conv=>whnf) | (show SLe _ _ _ _;conv=>whnf) | (show PLeL _ _ _ _;conv=>whnf) | apply And.intro | rfl | exact Nat.le_refl _ | exact fun _ _=>rfl | exact rowEq0 _ _)
    all_goals (try dsimp only)
    all_goals (try omega)
    ·simp [crvN]
    ·exact fl_push ePt s.2.L ⟨s.2.x+1+nxt s.2.d dx,s.2.y+0+nxt (nxtD s.2.d dx) dy⟩
   ·replace hc:=of_decide_eq_false hc
    rw [show s.1=0 by omega] at h2
    rw [show lst false=0 from rfl,←h2]
    conv=>whnf
    refine ⟨?_, [], ?_⟩
    ·(try conv=>whnf)
     (repeat' (first | exact True.intro | exact fun _ h=>h | refine inR64_of ?_ ?_ | apply And.intro | refine maxLen_ge ?_))<;>(first | omega | decide | (dsimp only;omega) | (dsimp only [List.length_cons,List.length_nil];omega) | (intro hg;rw [hg];rfl) | (intro hg hh;rw [hg,hh];rfl) | (intro hg;simp [-List.getD_eq_getElem?_getD, -Int.default_eq_zero] at hg;first | omega | (refine inR64_of ?_ ?_<;>omega) | (constructor<;>omega)) | (simp [-List.getD_eq_getElem?_getD, -Int.default_eq_zero];done))
    conv=>whnf
    refine ⟨rfl, ?_, ?_,trivial⟩
    all_goals repeat' (first | exact True.intro | refine leF_cons rfl ?_ ?_ | refine leS_cons rfl ?_ ?_ | (show PLe _ _ _ _;conv=>whnf) | (show SLe _ _ _ _;conv=>whnf) | (show PLeL _ _ _ _;conv=>whnf) | apply And.intro | rfl | exact Nat.le_refl _ | exact fun _ _=>rfl | exact rowEq0 _ _)
 ·conv=>whnf
  refine ⟨trivial,fun _=> ?_,fun hc=>absurd hc (by decide)⟩
  conv=>whnf
  refine ⟨_,fun _=>call_next 1 d 4 (by omega) (by omega), ?_⟩
  conv=>whnf
  refine ⟨?_, ?_⟩
  ·(try conv=>whnf)
   (repeat' (first | exact True.intro | exact fun _ h=>h | refine inR64_of ?_ ?_ | apply And.intro | refine maxLen_ge ?_))<;>(first | omega | decide | (dsimp only;omega) | (dsimp only [List.length_cons,List.length_nil];omega) | (intro hg;rw [hg];rfl) | (intro hg hh;rw [hg,hh];rfl) | (intro hg;simp [-List.getD_eq_getElem?_getD, -Int.default_eq_zero] at hg;first | omega | (refine inR64_of ?_ ?_<;>omega) | (constructor<;>omega)) | (simp [-List.getD_eq_getElem?_getD, -Int.default_eq_zero];done))
  refine LSem.loop (n:=48) mix (α:=Nat×Cst) (fun s=>s.1≤4∧crvS dx dy 1 s.1 s.2=curveS d x y dx dy 1∧s.2.d.at_+2*s.1≤980000020∧s.2.L.length+s.1≤10∧(0≤s.2.x∧s.2.x+1000001*s.1≤5000010)∧(0≤s.2.y∧s.2.y+1000002*s.1≤5000010))
   (fun s=> [(0, .pt 0 0 0),(1, .int .i64 s.2.x),(2, .int .i64 s.2.y),(3, .int .i64 dx),(4, .int .i64 dy),(13, .int .i64 1),(14, .os 320),(15, .int .i64 s.1)])
   (fun s=> [(0, .box (eDk 1 s.2.d)),(320, .row 0 203 2 s.2.L.length (fl ePt s.2.L))]) (fun s=>s.1) ((1+nxt d 4).toNat,⟨[⟨x,y⟩],x,y,nxtD d 4⟩) ?_ ?_ ?_
  ·refine ⟨by dsimp only;omega,rfl, ?_, ?_, ?_, ?_⟩
   all_goals (dsimp only [List.length_cons,List.length_nil];omega)
  ·refine ⟨rfl,rfl, ?_, ?_⟩
   all_goals repeat' (first | exact True.intro | refine leF_cons rfl ?_ ?_ | refine leS_cons rfl ?_ ?_ | (show PLe _ _ _ _;conv=>whnf) | (show SLe _ _ _ _;conv=>whnf) | (show PLeL _ _ _ _;conv=>whnf) | apply And.intro | rfl | exact Nat.le_refl _ | exact fun _ _=>rfl | exact rowEq0 _ _)
   ·dsimp only;omega
   ·exact fl_one ePt ⟨x,y⟩
  ·intro s hs
   obtain ⟨h1,h2,h3,h4,h5,h6⟩:=hs
   conv=>whnf
   refine ⟨trivial,fun hc=> ?_,fun hc=> ?_⟩
   ·replace hc:=of_decide_eq_true hc
    have h0:0<s.1:=by omega
    conv=>whnf
    have r2:=nxt_lt s.2.d (n:=dx) (by omega)
    have a2:=nxtD_at s.2.d dx
    refine ⟨_,fun _=>call_next 1 s.2.d dx (by omega) (by omega), ?_⟩
    conv=>whnf
    have r3:=nxt_lt (nxtD s.2.d dx) (n:=dy) (by omega)
    have a3:=nxtD_at (nxtD s.2.d dx) dy
    refine ⟨_,fun _=>call_next 1 (nxtD s.2.d dx) dy (by omega) (by omega), ?_⟩
    conv=>whnf
    refine ⟨?_,(s.1 - 1,crvN dx dy 1 s.2),⟨?_, ?_, ?_, ?_, ?_, ?_⟩, ?_,rfl,rfl, ?_, ?_⟩
    ·(try conv=>whnf)
     (repeat' (first | exact True.intro | exact fun _ h=>h | refine inR64_of ?_ ?_ | apply And.intro | refine maxLen_ge ?_))<;>(first | omega | decide | (dsimp only;omega) | (dsimp only [List.length_cons,List.length_nil];omega) | (intro hg;rw [hg];rfl) | (intro hg hh;rw [hg,hh];rfl) | (intro hg;simp [-List.getD_eq_getElem?_getD, -Int.default_eq_zero] at hg;first | omega | (refine inR64_of ?_ ?_<;>omega) | (constructor<;>omega)) | (simp [-List.getD_eq_getElem?_getD, -Int.default_eq_zero];done))
    ·dsimp only;omega
    ·rw [←h2];dsimp only
     rw [show s.1=(s.1 - 1)+1 by omega];rfl
    ·dsimp only [crvN];omega
    ·dsimp only [crvN];rw [List.length_append,List.length_cons,List.length_nil];omega
    ·dsimp only [crvN];omega
    ·dsimp only [crvN];omega
    ·dsimp only;omega
    all_goals repeat' (first | exact True.intro | refine leF_cons rfl ?_ ?_ | refine leS_cons rfl ?_ ?_ | (show PLe _ _ _ _;conv=>whnf) | (show SLe _ _ _ _;conv=>whnf) | (show PLeL _ _ _ _;conv=>whnf) | apply And.intro | rfl | exact Nat.le_refl _ | exact fun _ _=>rfl | exact rowEq0 _ _)
    all_goals (try dsimp only)
    all_goals (try omega)
    ·simp [crvN]
    ·exact fl_push ePt s.2.L ⟨s.2.x+1+nxt s.2.d dx,s.2.y+1+nxt (nxtD s.2.d dx) dy⟩
   ·replace hc:=of_decide_eq_false hc
    rw [show s.1=0 by omega] at h2
    rw [show lst true=1 from rfl,←h2]
    conv=>whnf
    refine ⟨?_, [], ?_⟩
    ·(try conv=>whnf)
     (repeat' (first | exact True.intro | exact fun _ h=>h | refine inR64_of ?_ ?_ | apply And.intro | refine maxLen_ge ?_))<;>(first | omega | decide | (dsimp only;omega) | (dsimp only [List.length_cons,List.length_nil];omega) | (intro hg;rw [hg];rfl) | (intro hg hh;rw [hg,hh];rfl) | (intro hg;simp [-List.getD_eq_getElem?_getD, -Int.default_eq_zero] at hg;first | omega | (refine inR64_of ?_ ?_<;>omega) | (constructor<;>omega)) | (simp [-List.getD_eq_getElem?_getD, -Int.default_eq_zero];done))
    conv=>whnf
    refine ⟨rfl, ?_, ?_,trivial⟩
    all_goals repeat' (first | exact True.intro | refine leF_cons rfl ?_ ?_ | refine leS_cons rfl ?_ ?_ | (show PLe _ _ _ _;conv=>whnf) | (show SLe _ _ _ _;conv=>whnf) | (show PLeL _ _ _ _;conv=>whnf) | apply And.intro | rfl | exact Nat.le_refl _ | exact fun _ _=>rfl | exact rowEq0 _ _)
def c96L1:C:=(sr [kk 25 (.bi false .lss 24 23)] (.seq (.cond 25 .skip (.exit 0)) (.seq (.block 1 (sr [kk 26 (.ia 2 22 24),kk 27 (.ld 2 true 26),kk 6 (.al [(.int .i64 0),(.int .i64 0)]),kz (.st 2 6 27)] (sr [kk 28 (.fa 0 6),kk 29 (.ld 1 false 28),kk 30 (.bi false .gtr 29 (cn 16777216))] (.cond 30 (sr [kk 2 (.mv (cn 1))] .ret) .skip)))) (.reg [kk 31 (.bi false .add 24 (cn 1)),km 24 31]))))
def c96L2:C:=(.seq (sr [km 32 7,km 33 4,kk 34 (.bi false .lss 32 33)] (.cond 34 .skip (.exit 2))) (.seq (.block 3 (.seq (.drw [kk 37 (.fa 0 1),kk 38 (.ld 1 false 37),km 39 7,kk 40 (.ia 2 38 39),kk 41 (.fa 1 40),kk 42 (.ld 1 false 41),kk 43 (.fa 0 1),kk 44 (.ld 1 false 43),km 45 7,kk 46 (.bi false .sub 45 (cn 1)),kk 47 (.ia 2 44 46),kk 48 (.fa 1 47),kk 49 (.ld 1 false 48),kk 50 (.bi false .leq 42 49)] (pl [(0,[2,6,7,8,9,10,11,12],37),(1,[2,6,7,8,9,10,11,12],38),(2,[6,7,8,9,10,11,12],39),(3,[6,7,8,9,10,11,12],40),(4,[6,7,8,9,10,11,12],41),(5,[6,7,8,9,10,11,12],42),(6,[8,9],43),(7,[8,9],44)])) (.cond 50 (sr [kk 2 (.mv (cn 4))] .ret) .skip))) (.reg [km 35 7,kk 36 (.bi false .add 35 (cn 1)),km 7 36])))
def c96L3:C:=(.seq (sr [km 74 9,km 75 8,kk 76 (.len 75),kk 77 (.bi false .lss 74 76)] (.cond 77 .skip (.exit 4))) (.seq (.block 5 (.seq (.drw [km 80 8,km 81 9,kk 82 (.ia 1 80 81),kk 83 (.ld 1 false 82),km 84 8,km 85 9,kk 86 (.bi false .sub 85 (cn 1)),kk 87 (.ia 1 84 86),kk 88 (.ld 1 false 87),kk 89 (.bi false .lss 83 88)] (pl [(0,[1,4,5,6,7,8],80),(1,[4,5,6,7,8],81),(2,[4,5,6,7,8],82),(3,[4,5,6,7,8],83),(4,[5,6],84)])) (.cond 89 (sr [kk 2 (.mv (cn 4))] .ret) .skip))) (.reg [km 78 9,kk 79 (.bi false .add 78 (cn 1)),km 9 79])))
def c96:C:=(sr [kk 1 (.bx 6 0),kk 2 (.mv (cn 0))] (.seq (sr [kk 10 (.fa 0 1),kk 11 (.ld 1 false 10),kk 12 (cl 122 [11]),km 3 12] (sr [km 13 3,kk 14 (.bi false .neq 13 (cn 0))] (.cond 14 (sr [km 15 3,km 2 15] .ret) .skip))) (sr [kk 16 (.fa 0 1),kk 17 (.ld 1 false 16),kk 18 (.len 17),km 4 18] (.seq (sr [km 19 4,kk 20 (.bi false .lss 19 (cn 2))] (.cond 20 (sr [kk 2 (.mv (cn 3))] .ret) .skip)) (.seq (sr [kk 21 (.fa 0 1),kk 22 (.ld 1 false 21),kk 23 (.len 22),kk 24 (.mv (cn 0))] (.block 0 (.loop c96L1))) (.seq (sr [kk 7 (.mv (cn 1))] (.block 2 (.loop c96L2))) (.seq (.drw [kk 51 (.fa 0 1),kk 52 (.ld 1 false 51),kk 53 (.ia 2 52 (cn 0)),kk 54 (.fa 0 53),kk 55 (.ld 1 false 54),kk 56 (.fa 1 1),kk 57 (.ld 1 false 56),kk 58 (.fa 2 1),kk 59 (.ld 1 false 58),kk 60 (.fa 3 1),kk 61 (.ld 1 false 60),kk 62 (.fa 4 1),kk 63 (.ld 1 false 62),kk 64 (.fa 5 1),kk 65 (.ld 1 false 64),kk 66 (.fa 0 1),kk 67 (.ld 1 false 66),km 68 4,kk 69 (.bi false .sub 68 (cn 1)),kk 70 (.ia 2 67 69),kk 71 (.fa 0 70),kk 72 (.ld 1 false 71),kk 73 (.bs 3 1 [55,57,59,61,63,65,72]),km 8 73] (pl [(0,[5,6,7,8,9,10,11,12,13,14,15,16,17,18,19,20,21],51),(1,[5,6,7,8,9,10,11,12,13,14,15,16,17,18,19,20,21],52),(2,[5,6,7,8,9,10,11,12,13,14,15,16,17,18,19,20,21],53),(3,[5,6,7,8,9,10,11,12,13,14,15,16,17,18,19,20,21],54),(4,[5,6,7,8,9,10,11,12,13,14,15,16,17,18,19,20,21],55),(5,[7,8,9,10,11,12,13,14,15,16,17,18,19,20,21],56),(6,[7,8,9,10,11,12,13,14,15,16,17,18,19,20,21],57),(7,[9,10,11,12,13,14,15,16,17,18,19,20,21],58),(8,[9,10,11,12,13,14,15,16,17,18,19,20,21],59),(9,[11,12,13,14,15,16,17,18,19,20,21],60),(10,[11,12,13,14,15,16,17,18,19,20,21],61),(11,[13,14,15,16,17,18,19,20,21],62),(12,[13,14,15,16,17,18,19,20,21],63),(13,[15,16,17,18,19,20,21],64),(14,[15,16,17,18,19,20,21],65),(15,[17,18],66),(16,[17,18],67)])) (.seq (sr [kk 9 (.mv (cn 1))] (.block 4 (.loop c96L3))) (sr [kk 2 (.mv (cn 0))] .ret)))))))))
theorem fits96:fits Tryz.prog false Tryz.f96 1 90 [(2,none)]=some c96.er:=by kernel_rfl
def c90:C:=(sr [kk 2 (.bx 6 0),kk 4 (.mv (cn 0))] (.seq (sr [kk 6 (.ld 6 true 2),kk 7 (cl 96 [6]),km 5 7] (sr [km 8 5,kk 9 (.bi false .neq 8 (cn 0))] (.cond 9 (sr [km 10 5,km 4 10] .ret) .skip))) (.seq (sr [km 11 1,kk 12 (cl 77 [11,(cn 16777216)]),kk 13 (.un false .not 12)] (.cond 13 (sr [kk 4 (.mv (cn 1))] .ret) .skip)) (sr [kk 4 (.mv (cn 0))] .ret))))
theorem fits90:fits Tryz.prog false Tryz.f90 2 14 [(4,none)]=some c90.er:=by kernel_rfl
def c59:C:=(sr [kk 2 (.bx 6 0),kk 4 (.mv (cn 0)),kk 5 (.mv (cn 0))] (.seq (sr [kk 9 (.ld 6 true 2),km 10 1,kk 11 (cl 90 [9,10]),km 6 11] (sr [km 12 6,kk 13 (.bi false .neq 12 (cn 0))] (.cond 13 (sr [km 14 6,kk 4 (.mv (cn 0)),km 5 14] .ret) .skip))) (sr [kk 16 (.fa 0 2),kk 17 (.ld 1 false 16),km 18 1,kk 19 (cl 91 [17,18]),km 15 19,kk 20 (.ex 15 0),kk 21 (.ex 15 1),km 7 20,km 8 21] (sr [km 22 7,km 4 22,kk 5 (.mv (cn 0))] .ret))))
theorem fits59:fits Tryz.prog false Tryz.f59 2 23 [(4,none),(5,none)]=some c59.er:=by kernel_rfl
def c56L1:C:=(sr [kk 31 (.bi false .lss 30 (cn 5))] (.seq (.cond 31 .skip (.exit 0)) (.seq (.block 1 (sr [km 32 30,km 7 32] (sr [km 33 4,km 34 0,km 35 5,km 36 4,kk 37 (.bi false .sub 35 36),km 38 7,kk 39 (.bi false .sub (cn 5) 38),kk 40 (.bi false .quo 37 39),kk 41 (.bi false .add 40 (cn 1)),kk 42 (cl 8 [34,41]),kk 43 (.bi false .add 33 42),km 4 43] (.reg [km 44 7,km 45 4,kk 46 (.iaa 5 1 6 44),kz (.st 1 46 45)])))) (.reg [kk 47 (.bi false .add 30 (cn 1)),km 30 47]))))
def c56:C:=(sr [kk 2 (.al [(.nil 2),(.int .i64 0),(.int .i64 0),(.int .i64 0),(.int .i64 0),(.int .i64 0)])] (sr [km 8 0,km 9 0,kk 10 (cl 8 [9,(cn 10)]),kk 11 (.bi false .add (cn 100) 10),km 12 0,kk 13 (cl 8 [12,(cn 20)]),kk 14 (cl 86 [8,11,13,(cn 40),(cn 200),(.c (.bool true))]),kk 15 (.bd [(.nil 2),(.int .i64 0),(.int .i64 0),(.int .i64 0),(.int .i64 0),(.int .i64 0)] [(0,1,14)]),kk 3 (.al [(.nil 2),(.int .i64 0),(.int .i64 0),(.int .i64 0),(.int .i64 0),(.int .i64 0)]),kz (.st 6 3 15)] (sr [kk 16 (.fa 0 3),kk 17 (.ld 1 false 16),kk 18 (.ia 2 17 (cn 0)),kk 19 (.fa 0 18),kk 20 (.ld 1 false 19),km 4 20] (sr [kk 21 (.fa 0 3),kk 22 (.ld 1 false 21),kk 23 (.fa 0 3),kk 24 (.ld 1 false 23),kk 25 (.len 24),kk 26 (.bi false .sub 25 (cn 1)),kk 27 (.ia 2 22 26),kk 28 (.fa 0 27),kk 29 (.ld 1 false 28),km 5 29] (sr [kk 6 (.al [(.int .i64 0),(.int .i64 0),(.int .i64 0),(.int .i64 0),(.int .i64 0)])] (.seq (sr [kk 30 (.mv (cn 0))] (.block 0 (.loop c56L1))) (.seq (.drw [kk 48 (.iaa 5 1 6 (cn 0)),kk 49 (.ld 1 false 48),kk 50 (.iaa 5 1 6 (cn 1)),kk 51 (.ld 1 false 50),kk 52 (.iaa 5 1 6 (cn 2)),kk 53 (.ld 1 false 52),kk 54 (.iaa 5 1 6 (cn 3)),kk 55 (.ld 1 false 54),kk 56 (.iaa 5 1 6 (cn 4)),kk 57 (.ld 1 false 56),kk 58 (.fa 1 3),kz (.st 1 58 49),kk 59 (.fa 2 3),kz (.st 1 59 51),kk 60 (.fa 3 3),kz (.st 1 60 53),kk 61 (.fa 4 3),kz (.st 1 61 55),kk 62 (.fa 5 3),kz (.st 1 62 57)] (pl [(0,[2,3,4,5,6,7,8,9],48),(1,[2,3,4,5,6,7,8,9],49),(2,[4,5,6,7,8,9,10,11],50),(3,[4,5,6,7,8,9,10,11],51),(4,[6,7,8,9,10,11,12,13],52),(5,[6,7,8,9,10,11,12,13],53),(6,[8,9,10,11,12,13,14,15],54),(7,[8,9,10,11,12,13,14,15],55),(8,[10,11,12,13,14,15,16,17],56),(9,[10,11,12,13,14,15,16,17],57)])) (sr [kk 63 (.ld 6 true 3),kz (.st 6 2 63)] .ret))))))))
theorem fits56:fits Tryz.prog false Tryz.f56 1 64 [(2,some (6,true))]=some c56.er:=by kernel_rfl
structure Rv where
 st:List Pt
 dead:Int
 low:Int
 full:Int
 sur:Int
 crest:Int
 deriving Inhabited
def eRv (τ:Nat) (r:Rv):List PV:= [.sl τ 2 r.st.length (fl ePt r.st), .int .i64 r.dead, .int .i64 r.low, .int .i64 r.full, .int .i64 r.sur, .int .i64 r.crest]
def resL (r:Rv):List Int:= [(r.st.getD 0 default).x,r.dead,r.low,r.full,r.sur,r.crest,(r.st.getD (r.st.length - 1) default).x]
def resP1 (r:Rv):Prop:=∀i,i<r.st.length→(r.st.getD i default).x≤16777216
def resP2 (r:Rv):Prop:=∀i,i<r.st.length→0<i→(r.st.getD (i - 1) default).y<(r.st.getD i default).y
def resP3 (r:Rv):Prop:=∀i,i<7→0<i→(resL r).getD (i - 1) default≤(resL r).getD i default
instance (r:Rv):Decidable (resP1 r):=by unfold resP1;infer_instance
instance (r:Rv):Decidable (resP2 r):=by unfold resP2;infer_instance
instance (r:Rv):Decidable (resP3 r):=by unfold resP3;infer_instance
def checkRv (r:Rv):Int:=if checkC r.st≠0 then checkC r.st else if r.st.length<2 then 3 else if¬resP1 r then 1 else if¬resP2 r then 4 else if¬resP3 r then 4 else 0
def wrongRv (r:Rv) (level:Int):Int:=if checkRv r≠0 then checkRv r else if¬(0≤level∧level≤16777216) then 1 else 0
def volF (r:Rv) (level:Int):Int×Int:=if wrongRv r level≠0 then (0,wrongRv r level) else ((atC r.st level).1,0)
theorem rows7 (a b c d e f g:Int):RowEq 7 (fun i=> [[PV.int .i64 a], [PV.int .i64 b], [PV.int .i64 c], [PV.int .i64 d], [PV.int .i64 e], [PV.int .i64 f], [PV.int .i64 g]].getD i []) (fl eInt [a,b,c,d,e,f,g]):=fun i hi=>by
 match i,hi with
 | 0,_=>rfl
 | 1,_=>rfl
 | 2,_=>rfl
 | 3,_=>rfl
 | 4,_=>rfl
 | 5,_=>rfl
 | 6,_=>rfl
theorem call96 (τ:Nat) (r:Rv):PureCall Tryz.prog 96 [.agg (eRv τ r)] [] ⟨.int .i64 (checkRv r), [], []⟩:=by
 refine pure_call mix Tryz.func96 fits96 rfl ?_
 conv=>whnf
 refine ⟨_,fun _=>call122 _ r.st, ?_⟩
 by_cases hk:checkC r.st=0
 case neg=>
  rw [show checkRv r=checkC r.st by unfold checkRv;rw [if_pos hk]]
  generalize checkC r.st=E at hk⊢
  conv=>whnf
  refine ⟨?_,fun _=> ?_,fun h=> ?_⟩
  ·(try conv=>whnf)
   (repeat' (first | exact True.intro | exact fun _ h=>h | refine inR64_of ?_ ?_ | apply And.intro | refine maxLen_ge ?_))<;>(first | omega | (dsimp only;omega))
  ·conv=>whnf
   refine ⟨?_, [], ?_⟩
   ·(try conv=>whnf)
    (repeat' (first | exact True.intro | exact fun _ h=>h | refine inR64_of ?_ ?_ | apply And.intro | refine maxLen_ge ?_))<;>(first | omega | (dsimp only;omega))
   conv=>whnf
   refine ⟨rfl, ?_,trivial,trivial⟩
   all_goals repeat' (first | exact True.intro | refine leF_cons rfl ?_ ?_ | refine leS_cons rfl ?_ ?_ | (show PLe _ _ _ _;conv=>whnf) | (show SLe _ _ _ _;conv=>whnf) | (show PLeL _ _ _ _;conv=>whnf) | apply And.intro | rfl | exact Nat.le_refl _ | exact fun _ _=>rfl | exact rowEq0 _ _)
  ·exact absurd (show E=0 by simpa using h) hk
 have hg:=(check_good r.st).1 hk
 have hlen:=hg.le
 rw [hk]
 conv=>whnf
 refine ⟨?_,fun h=>(by cases h),fun _=> ?_⟩
 ·(try conv=>whnf)
  (repeat' (first | exact True.intro | exact fun _ h=>h | refine inR64_of ?_ ?_ | apply And.intro | refine maxLen_ge ?_))<;>(first | omega | (dsimp only;omega))
 conv=>whnf
 refine ⟨?_,fun hc=> ?_,fun hc=> ?_⟩
 ·(try conv=>whnf)
  (repeat' (first | exact True.intro | exact fun _ h=>h | refine inR64_of ?_ ?_ | apply And.intro | refine maxLen_ge ?_))<;>(first | omega | (dsimp only;omega))
 ·have h2:(r.st.length:Int)<2:=of_decide_eq_true hc
  rw [show checkRv r=3 by unfold checkRv;rw [if_neg (by rw [hk];decide),if_pos (by omega)]]
  conv=>whnf
  refine ⟨?_, [], ?_⟩
  ·(try conv=>whnf)
   (repeat' (first | exact True.intro | exact fun _ h=>h | refine inR64_of ?_ ?_ | apply And.intro | refine maxLen_ge ?_))<;>(first | omega | (dsimp only;omega))
  conv=>whnf
  refine ⟨rfl, ?_,trivial,trivial⟩
  all_goals repeat' (first | exact True.intro | refine leF_cons rfl ?_ ?_ | refine leS_cons rfl ?_ ?_ | (show PLe _ _ _ _;conv=>whnf) | (show SLe _ _ _ _;conv=>whnf) | (show PLeL _ _ _ _;conv=>whnf) | apply And.intro | rfl | exact Nat.le_refl _ | exact fun _ _=>rfl | exact rowEq0 _ _)
 have h2:¬(r.st.length:Int)<2:=of_decide_eq_false hc
 have hch:checkRv r=if¬resP1 r then 1 else if¬resP2 r then 4 else if¬resP3 r then 4 else 0:=by unfold checkRv;rw [if_neg (by rw [hk];decide),if_neg (by omega)]
 clear hc
 conv=>whnf
 refine ⟨trivial, ?_⟩
 refine LSem.loop (n:=90) mix (α:=Nat) (fun i=>i≤r.st.length∧∀k,k<i→(r.st.getD k default).x≤16777216)
  (fun i=> [(1, .pt 16 0 0),(4, .int .i64 r.st.length),(22, .sl τ 2 r.st.length (fl ePt r.st)),(23, .int .i64 r.st.length),(24, .int .i64 i)])
  (fun _=> [(16, .box (eRv τ r))]) (fun i=>r.st.length - i) 0 ?_ ?_ ?_
 ·exact ⟨Nat.zero_le _,fun k hk=>absurd hk (Nat.not_lt_zero _)⟩
 ·refine ⟨rfl,rfl, ?_, ?_⟩
  all_goals repeat' (first | exact True.intro | refine leF_cons rfl ?_ ?_ | refine leS_cons rfl ?_ ?_ | (show PLe _ _ _ _;conv=>whnf) | (show SLe _ _ _ _;conv=>whnf) | (show PLeL _ _ _ _;conv=>whnf) | apply And.intro | rfl | exact Nat.le_refl _ | exact fun _ _=>rfl | exact rowEq0 _ _)
 ·intro i hi
  obtain ⟨hi,hall⟩:=hi
  have hj:((i:Int)).toNat=i:=by omega
  conv=>whnf
  refine ⟨trivial,fun hc=> ?_,fun hc=> ?_⟩
  ·replace hc:=of_decide_eq_true hc
   have hlt:i<r.st.length:=by
    have h:(i:Int)<r.st.length:=hc
    omega
   conv=>whnf
   rw [hj]
   refine ⟨?_,fun h1=> ?_,fun h1=> ?_⟩
   ·(try conv=>whnf)
    (repeat' (first | exact True.intro | exact fun _ h=>h | refine inR64_of ?_ ?_ | apply And.intro | refine maxLen_ge ?_))<;>(first | omega | (dsimp only;omega))
   ·have h1:16777216<(r.st.getD i default).x:=of_decide_eq_true h1
    rw [show checkRv r=1 by rw [hch,if_pos (fun h=>by have:=h i hlt;omega)]]
    conv=>whnf
    refine ⟨?_, [], ?_⟩
    ·(try conv=>whnf)
     (repeat' (first | exact True.intro | exact fun _ h=>h | refine inR64_of ?_ ?_ | apply And.intro | refine maxLen_ge ?_))<;>(first | omega | (dsimp only;omega))
    conv=>whnf
    refine ⟨rfl, ?_,trivial,trivial⟩
    all_goals repeat' (first | exact True.intro | refine leF_cons rfl ?_ ?_ | refine leS_cons rfl ?_ ?_ | (show PLe _ _ _ _;conv=>whnf) | (show SLe _ _ _ _;conv=>whnf) | (show PLeL _ _ _ _;conv=>whnf) | apply And.intro | rfl | exact Nat.le_refl _ | exact fun _ _=>rfl | exact rowEq0 _ _)
   ·have h1:¬16777216<(r.st.getD i default).x:=of_decide_eq_false h1
    conv=>whnf
    refine ⟨?_,i+1,⟨hlt,fun k hk=> ?_⟩,by omega,rfl,rfl, ?_, ?_⟩
    ·(try conv=>whnf)
     (repeat' (first | exact True.intro | exact fun _ h=>h | refine inR64_of ?_ ?_ | apply And.intro | refine maxLen_ge ?_))<;>(first | omega | (dsimp only;omega))
    ·rcases Nat.lt_or_ge k i with h | h
     ·exact hall k h
     ·rw [show k=i by omega];omega
    all_goals repeat' (first | exact True.intro | refine leF_cons rfl ?_ ?_ | refine leS_cons rfl ?_ ?_ | (show PLe _ _ _ _;conv=>whnf) | (show SLe _ _ _ _;conv=>whnf) | (show PLeL _ _ _ _;conv=>whnf) | apply And.intro | rfl | exact Nat.le_refl _ | exact fun _ _=>rfl | exact rowEq0 _ _)
    all_goals first | omega | skip
  ·replace hc:=of_decide_eq_false hc
   have hk:i=r.st.length:=by
    have h:¬(i:Int)<r.st.length:=hc
    omega
   subst hk
   have hp1:resP1 r:=hall
   rw [if_neg (fun h=>h hp1)] at hch
   clear hall hc
   conv=>whnf
   refine ⟨trivial, ?_⟩
   refine LSem.loop (n:=90) mix (α:=Nat) (fun i=>1≤i∧i≤r.st.length∧∀k,k<i→0<k→(r.st.getD (k - 1) default).y<(r.st.getD k default).y)
    (fun i=> [(1, .pt 16 0 0),(4, .int .i64 r.st.length),(7, .int .i64 i)])
    (fun _=> [(16, .box (eRv τ r))]) (fun i=>r.st.length - i) 1 ?_ ?_ ?_
   ·exact ⟨Nat.le_refl _,by omega,fun k hk h0=>by omega⟩
   ·refine ⟨rfl,rfl, ?_, ?_⟩
    all_goals repeat' (first | exact True.intro | refine leF_cons rfl ?_ ?_ | refine leS_cons rfl ?_ ?_ | (show PLe _ _ _ _;conv=>whnf) | (show SLe _ _ _ _;conv=>whnf) | (show PLeL _ _ _ _;conv=>whnf) | apply And.intro | rfl | exact Nat.le_refl _ | exact fun _ _=>rfl | exact rowEq0 _ _)
   ·intro i hi
    obtain ⟨hi1,hi,hall⟩:=hi
    have hj:((i:Int)).toNat=i:=by omega
    have hj1:((i:Int) - 1).toNat=i - 1:=by omega
    conv=>whnf
    refine ⟨trivial,fun hc=> ?_,fun hc=> ?_⟩
    ·replace hc:=of_decide_eq_true hc
     have hlt:i<r.st.length:=by
      have h:(i:Int)<r.st.length:=hc
      omega
     conv=>whnf
     refine ⟨rfl, ?_⟩
     conv=>whnf
     rw [hj,hj1]
     refine ⟨?_,fun h1=> ?_,fun h1=> ?_⟩
     ·(try conv=>whnf)
      (repeat' (first | exact True.intro | exact fun _ h=>h | refine inR64_of ?_ ?_ | apply And.intro | refine maxLen_ge ?_))<;>(first | omega | (dsimp only;omega))
     ·have h1:(r.st.getD i default).y≤(r.st.getD (i - 1) default).y:=of_decide_eq_true h1
      rw [show checkRv r=4 by rw [hch,if_pos (fun h=>by have:=h i hlt (by omega);omega)]]
      conv=>whnf
      refine ⟨?_, [], ?_⟩
      ·(try conv=>whnf)
       (repeat' (first | exact True.intro | exact fun _ h=>h | refine inR64_of ?_ ?_ | apply And.intro | refine maxLen_ge ?_))<;>(first | omega | (dsimp only;omega))
      conv=>whnf
      refine ⟨rfl, ?_,trivial,trivial⟩
      all_goals repeat' (first | exact True.intro | refine leF_cons rfl ?_ ?_ | refine leS_cons rfl ?_ ?_ | (show PLe _ _ _ _;conv=>whnf) | (show SLe _ _ _ _;conv=>whnf) | (show PLeL _ _ _ _;conv=>whnf) | apply And.intro | rfl | exact Nat.le_refl _ | exact fun _ _=>rfl | exact rowEq0 _ _)
     ·have h1:¬(r.st.getD i default).y≤(r.st.getD (i - 1) default).y:=of_decide_eq_false h1
      conv=>whnf
      refine ⟨?_,i+1,⟨by omega,hlt,fun k hk h0=> ?_⟩,by omega,rfl,rfl, ?_, ?_⟩
      ·(try conv=>whnf)
       (repeat' (first | exact True.intro | exact fun _ h=>h | refine inR64_of ?_ ?_ | apply And.intro | refine maxLen_ge ?_))<;>(first | omega | (dsimp only;omega))
      ·rcases Nat.lt_or_ge k i with h | h
       ·exact hall k h h0
       ·rw [show k=i by omega];omega
      all_goals repeat' (first | exact True.intro | refine leF_cons rfl ?_ ?_ | refine leS_cons rfl ?_ ?_ | (show PLe _ _ _ _;conv=>whnf) | (show SLe _ _ _ _;conv=>whnf) | (show PLeL _ _ _ _;conv=>whnf) | apply And.intro | rfl | exact Nat.le_refl _ | exact fun _ _=>rfl | exact rowEq0 _ _)
      all_goals first | omega | skip
    ·replace hc:=of_decide_eq_false hc
     have hk:i=r.st.length:=by
      have h:¬(i:Int)<r.st.length:=hc
      omega
     subst hk
     have hp2:resP2 r:=hall
     rw [if_neg (fun h=>h hp2)] at hch
     clear hall hc
     conv=>whnf
     refine ⟨rfl, ?_⟩
     conv=>whnf
     have hjl:((r.st.length:Int) - 1).toNat=r.st.length - 1:=by omega
     refine ⟨?_, ?_⟩
     ·(try conv=>whnf)
      (repeat' (first | exact True.intro | exact fun _ h=>h | refine inR64_of ?_ ?_ | apply And.intro | refine maxLen_ge ?_))<;>(first | omega | (dsimp only;omega))
     refine LSem.loop (n:=90) mix (α:=Nat) (fun i=>1≤i∧i≤7∧∀k,k<i→0<k→(resL r).getD (k - 1) default≤(resL r).getD k default)
      (fun i=> [(8, .os 1168),(9, .int .i64 i)])
      (fun _=> [(1168, .row 0 3 1 7 (fl eInt (resL r)))]) (fun i=>7 - i) 1 ?_ ?_ ?_
     ·exact ⟨Nat.le_refl _,by omega,fun k hk h0=>by omega⟩
     ·refine ⟨rfl,rfl, ?_, ?_⟩
      all_goals repeat' (first | exact True.intro | refine leF_cons rfl ?_ ?_ | refine leS_cons rfl ?_ ?_ | (show PLe _ _ _ _;conv=>whnf) | (show SLe _ _ _ _;conv=>whnf) | (show PLeL _ _ _ _;conv=>whnf) | apply And.intro | rfl | exact Nat.le_refl _ | exact fun _ _=>rfl | exact rowEq0 _ _)
      all_goals first | (rw [hjl];exact rows7 _ _ _ _ _ _ _) | skip
     ·intro i hi
      obtain ⟨hi1,hi,hall⟩:=hi
      have hj:((i:Int)).toNat=i:=by omega
      have hj1:((i:Int) - 1).toNat=i - 1:=by omega
      generalize hRL:resL r=RL at hall
      conv=>whnf
      refine ⟨?_,fun hc=> ?_,fun hc=> ?_⟩
      ·(try conv=>whnf)
       (repeat' (first | exact True.intro | exact fun _ h=>h | refine inR64_of ?_ ?_ | apply And.intro | refine maxLen_ge ?_))<;>(first | omega | (dsimp only;omega))
      ·replace hc:=of_decide_eq_true hc
       have hlt:i<7:=by
        have h:(i:Int)<7:=hc
        omega
       conv=>whnf
       refine ⟨rfl, ?_⟩
       conv=>whnf
       rw [hj,hj1]
       refine ⟨?_,fun h1=> ?_,fun h1=> ?_⟩
       ·(try conv=>whnf)
        (repeat' (first | exact True.intro | exact fun _ h=>h | refine inR64_of ?_ ?_ | apply And.intro | refine maxLen_ge ?_))<;>(first | omega | (dsimp only;omega))
       ·have h1:RL.getD i default<RL.getD (i - 1) default:=of_decide_eq_true h1
        rw [show checkRv r=4 by rw [hch,if_pos (fun h=>by have:=h i hlt (by omega);rw [hRL] at this;omega)]]
        conv=>whnf
        refine ⟨?_, [], ?_⟩
        ·(try conv=>whnf)
         (repeat' (first | exact True.intro | exact fun _ h=>h | refine inR64_of ?_ ?_ | apply And.intro | refine maxLen_ge ?_))<;>(first | omega | (dsimp only;omega))
        conv=>whnf
        refine ⟨rfl, ?_,trivial,trivial⟩
        all_goals repeat' (first | exact True.intro | refine leF_cons rfl ?_ ?_ | refine leS_cons rfl ?_ ?_ | (show PLe _ _ _ _;conv=>whnf) | (show SLe _ _ _ _;conv=>whnf) | (show PLeL _ _ _ _;conv=>whnf) | apply And.intro | rfl | exact Nat.le_refl _ | exact fun _ _=>rfl | exact rowEq0 _ _)
       ·have h1:¬RL.getD i default<RL.getD (i - 1) default:=of_decide_eq_false h1
        conv=>whnf
        refine ⟨?_,i+1,⟨by omega,hlt,fun k hk h0=> ?_⟩,by omega,rfl,rfl, ?_, ?_⟩
        ·(try conv=>whnf)
         (repeat' (first | exact True.intro | exact fun _ h=>h | refine inR64_of ?_ ?_ | apply And.intro | refine maxLen_ge ?_))<;>(first | omega | (dsimp only;omega))
        ·rcases Nat.lt_or_ge k i with h | h
         ·exact hall k h h0
         ·rw [show k=i by omega];omega
        all_goals repeat' (first | exact True.intro | refine leF_cons rfl ?_ ?_ | refine leS_cons rfl ?_ ?_ | (show PLe _ _ _ _;conv=>whnf) | (show SLe _ _ _ _;conv=>whnf) | (show PLeL _ _ _ _;conv=>whnf) | apply And.intro | rfl | exact Nat.le_refl _ | exact fun _ _=>rfl | exact rowEq0 _ _)
        all_goals first | omega | (rw [hRL];done) | (rw [hRL];exact fun _ _=>rfl) | skip
      ·replace hc:=of_decide_eq_false hc
       have hk:i=7:=by
        have h:¬(i:Int)<7:=hc
        omega
       subst hk
       have hp3:resP3 r:=by rw [←hRL] at hall;exact hall
       rw [if_neg (fun h=>h hp3)] at hch
       rw [hch]
       conv=>whnf
       refine ⟨?_, [], ?_⟩
       ·(try conv=>whnf)
        (repeat' (first | exact True.intro | exact fun _ h=>h | refine inR64_of ?_ ?_ | apply And.intro | refine maxLen_ge ?_))<;>(first | omega | (dsimp only;omega))
       conv=>whnf
       refine ⟨rfl, ?_,trivial,trivial⟩
       all_goals repeat' (first | exact True.intro | refine leF_cons rfl ?_ ?_ | refine leS_cons rfl ?_ ?_ | (show PLe _ _ _ _;conv=>whnf) | (show SLe _ _ _ _;conv=>whnf) | (show PLeL _ _ _ _;conv=>whnf) | apply And.intro | rfl | exact Nat.le_refl _ | exact fun _ _=>rfl | exact rowEq0 _ _)
theorem call90 (τ:Nat) (r:Rv) (level:Int):PureCall Tryz.prog 90 [.agg (eRv τ r), .int .i64 level] [] ⟨.int .i64 (wrongRv r level), [], []⟩:=by
 refine pure_call mix Tryz.func90 fits90 rfl ?_
 conv=>whnf
 refine ⟨_,fun _=>call96 _ r, ?_⟩
 unfold wrongRv
 generalize checkRv r=E
 by_cases hk:E=0
 ·subst hk
  rw [if_neg (by decide)]
  conv=>whnf
  refine ⟨?_,fun h=>(by cases h),fun _=> ?_⟩
  ·(try conv=>whnf)
   (repeat' (first | exact True.intro | exact fun _ h=>h | refine inR64_of ?_ ?_ | apply And.intro | refine maxLen_ge ?_))<;>(first | omega | (dsimp only;omega))
  conv=>whnf
  refine ⟨_,fun _=>call77 level 16777216, ?_⟩
  by_cases hl:0≤level∧level≤16777216
  ·rw [if_neg (fun h=>h hl),decide_eq_true hl]
   conv=>whnf
   refine ⟨?_,fun h=>(by cases h),fun _=> ?_⟩
   ·(try conv=>whnf)
    (repeat' (first | exact True.intro | exact fun _ h=>h | refine inR64_of ?_ ?_ | apply And.intro | refine maxLen_ge ?_))<;>(first | omega | (dsimp only;omega))
   conv=>whnf
   refine ⟨?_, [], ?_⟩
   ·(try conv=>whnf)
    (repeat' (first | exact True.intro | exact fun _ h=>h | refine inR64_of ?_ ?_ | apply And.intro | refine maxLen_ge ?_))<;>(first | omega | (dsimp only;omega))
   conv=>whnf
   refine ⟨rfl, ?_,trivial,trivial⟩
   all_goals repeat' (first | exact True.intro | refine leF_cons rfl ?_ ?_ | refine leS_cons rfl ?_ ?_ | (show PLe _ _ _ _;conv=>whnf) | (show SLe _ _ _ _;conv=>whnf) | (show PLeL _ _ _ _;conv=>whnf) | apply And.intro | rfl | exact Nat.le_refl _ | exact fun _ _=>rfl | exact rowEq0 _ _)
  ·rw [if_pos hl,decide_eq_false hl]
   conv=>whnf
   refine ⟨?_,fun _=> ?_,fun h=>(by cases h)⟩
   ·(try conv=>whnf)
    (repeat' (first | exact True.intro | exact fun _ h=>h | refine inR64_of ?_ ?_ | apply And.intro | refine maxLen_ge ?_))<;>(first | omega | (dsimp only;omega))
   conv=>whnf
   refine ⟨?_, [], ?_⟩
   ·(try conv=>whnf)
    (repeat' (first | exact True.intro | exact fun _ h=>h | refine inR64_of ?_ ?_ | apply And.intro | refine maxLen_ge ?_))<;>(first | omega | (dsimp only;omega))
   conv=>whnf
   refine ⟨rfl, ?_,trivial,trivial⟩
   all_goals repeat' (first | exact True.intro | refine leF_cons rfl ?_ ?_ | refine leS_cons rfl ?_ ?_ | (show PLe _ _ _ _;conv=>whnf) | (show SLe _ _ _ _;conv=>whnf) | (show PLeL _ _ _ _;conv=>whnf) | apply And.intro | rfl | exact Nat.le_refl _ | exact fun _ _=>rfl | exact rowEq0 _ _)
 ·rw [if_pos hk]
  conv=>whnf
  refine ⟨?_,fun _=> ?_,fun h=> ?_⟩
  ·(try conv=>whnf)
   (repeat' (first | exact True.intro | exact fun _ h=>h | refine inR64_of ?_ ?_ | apply And.intro | refine maxLen_ge ?_))<;>(first | omega | (dsimp only;omega))
  ·conv=>whnf
   refine ⟨?_, [], ?_⟩
   ·(try conv=>whnf)
    (repeat' (first | exact True.intro | exact fun _ h=>h | refine inR64_of ?_ ?_ | apply And.intro | refine maxLen_ge ?_))<;>(first | omega | (dsimp only;omega))
   conv=>whnf
   refine ⟨rfl, ?_,trivial,trivial⟩
   all_goals repeat' (first | exact True.intro | refine leF_cons rfl ?_ ?_ | refine leS_cons rfl ?_ ?_ | (show PLe _ _ _ _;conv=>whnf) | (show SLe _ _ _ _;conv=>whnf) | (show PLeL _ _ _ _;conv=>whnf) | apply And.intro | rfl | exact Nat.le_refl _ | exact fun _ _=>rfl | exact rowEq0 _ _)
  ·exact absurd (show E=0 by simpa using h) hk
theorem call59 (τ:Nat) (r:Rv) (level:Int):PureCall Tryz.prog 59 [.agg (eRv τ r), .int .i64 level] [] ⟨.tup [.int .i64 (volF r level).1, .int .i64 (volF r level).2], [], []⟩:=by
 refine pure_call mix Tryz.func59 fits59 rfl ?_
 conv=>whnf
 refine ⟨_,fun _=>call90 _ r level, ?_⟩
 unfold volF
 generalize wrongRv r level=E
 by_cases hk:E=0
 ·subst hk
  rw [if_neg (by decide)]
  conv=>whnf
  refine ⟨?_,fun h=>(by cases h),fun _=> ?_⟩
  ·(try conv=>whnf)
   (repeat' (first | exact True.intro | exact fun _ h=>h | refine inR64_of ?_ ?_ | apply And.intro | refine maxLen_ge ?_))<;>(first | omega | (dsimp only;omega))
  conv=>whnf
  refine ⟨_,fun _=>call91 _ r.st level, ?_⟩
  conv=>whnf
  refine ⟨?_, [], ?_⟩
  ·(try conv=>whnf)
   (repeat' (first | exact True.intro | exact fun _ h=>h | refine inR64_of ?_ ?_ | apply And.intro | refine maxLen_ge ?_))<;>(first | omega | (dsimp only;omega))
  conv=>whnf
  refine ⟨rfl, ?_,trivial,trivial⟩
  all_goals repeat' (first | exact True.intro | refine leF_cons rfl ?_ ?_ | refine leS_cons rfl ?_ ?_ | (show PLe _ _ _ _;conv=>whnf) | (show SLe _ _ _ _;conv=>whnf) | (show PLeL _ _ _ _;conv=>whnf) | apply And.intro | rfl | exact Nat.le_refl _ | exact fun _ _=>rfl | exact rowEq0 _ _)
 ·rw [if_pos hk]
  conv=>whnf
  refine ⟨?_,fun _=> ?_,fun h=> ?_⟩
  ·(try conv=>whnf)
   (repeat' (first | exact True.intro | exact fun _ h=>h | refine inR64_of ?_ ?_ | apply And.intro | refine maxLen_ge ?_))<;>(first | omega | (dsimp only;omega))
  ·conv=>whnf
   refine ⟨?_, [], ?_⟩
   ·(try conv=>whnf)
    (repeat' (first | exact True.intro | exact fun _ h=>h | refine inR64_of ?_ ?_ | apply And.intro | refine maxLen_ge ?_))<;>(first | omega | (dsimp only;omega))
   conv=>whnf
   refine ⟨rfl, ?_,trivial,trivial⟩
   all_goals repeat' (first | exact True.intro | refine leF_cons rfl ?_ ?_ | refine leS_cons rfl ?_ ?_ | (show PLe _ _ _ _;conv=>whnf) | (show SLe _ _ _ _;conv=>whnf) | (show PLeL _ _ _ _;conv=>whnf) | apply And.intro | rfl | exact Nat.le_refl _ | exact fun _ _=>rfl | exact rowEq0 _ _)
  ·exact absurd (show E=0 by simpa using h) hk
theorem volF_rng (r:Rv) (level:Int):0≤(volF r level).1∧(volF r level).1≤274877906944:=by
 unfold volF
 split
 ·dsimp only;omega
 ·unfold atC
  split
  ·rename_i h
   exact val_rng ((check_good r.st).1 h) level
  ·dsimp only;omega
def lvD (last:Int) (i:Int) (a:Int):Int:=(last - a) / (5 - i)+1
def lvN (last:Int) (i:Int) (s:Int×Dk):Int×Dk:=(s.1+nxt s.2 (lvD last i s.1),nxtD s.2 (lvD last i s.1))
def lvS (last:Int) (s:Int×Dk):Nat→Int×Dk
 | 0=>s
 | i+1=>lvN last i (lvS last s i)
def resC (d:Dk):Cst:=curveS (nxtD (nxtD d 10) 20) (100+nxt d 10) (nxt (nxtD d 10) 20) 40 200 1
def resS (c:Cst):Nat→Int×Dk:=lvS (c.L.getD (c.L.length - 1) default).x ((c.L.getD 0 default).x,c.d)
def resF (d:Dk):Rv×Dk:=(⟨(resC d).L,(resS (resC d) 1).1,(resS (resC d) 2).1,(resS (resC d) 3).1,(resS (resC d) 4).1,(resS (resC d) 5).1⟩,(resS (resC d) 5).2)
theorem lvS_ok {last:Int} {s:Int×Dk} (h:s.1≤last):∀i,i≤5→(s.1≤(lvS last s i).1∧(lvS last s i).1≤last)∧(lvS last s i).2.at_≤s.2.at_+i
 | 0,_=>by simp only [lvS];omega
 | i+1,hi=>by
   have ih:=lvS_ok h i (by omega)
   simp only [lvS,lvN]
   generalize lvS last s i=t at ih⊢
   have hq:0≤(last - t.1) / (5 - (i:Int))∧(last - t.1) / (5 - (i:Int))≤last - t.1:=⟨Int.ediv_nonneg (by omega) (by omega),Int.ediv_le_self _ (by omega)⟩
   have r:=nxt_lt t.2 (n:=lvD last i t.1) (by unfold lvD;omega)
   have a:=nxtD_at t.2 (lvD last i t.1)
   unfold lvD at r a⊢
   omega
theorem made_ends {c:List Pt} (h:MadeC c):0≤(c.getD 0 default).x∧(c.getD 0 default).x≤(c.getD (c.length - 1) default).x∧(c.getD (c.length - 1) default).x≤6000:=by
 have h1:=h.len
 have h2:=(h.good).xs (c.length - 1) 0 (by omega)
 have h3:=h.rng 0 (by omega)
 have h4:=h.rng (c.length - 1) (by omega)
 rw [Nat.zero_add] at h2
 omega
theorem resC_ok (d:Dk):MadeC (resC d).L∧(resC d).d.at_≤d.at_+11:=by
 have r1:=nxt_lt d (n:=10) (by omega)
 have a1:=nxtD_at d 10
 have r2:=nxt_lt (nxtD d 10) (n:=20) (by omega)
 have a2:=nxtD_at (nxtD d 10) 20
 have h:=curve_made (nxtD (nxtD d 10) 20) (x:=100+nxt d 10) (y:=nxt (nxtD d 10) 20) (dx:=40) (dy:=200) (least:=1) (by omega) (by omega) (by omega) (by omega) (by omega)
 unfold resC
 exact ⟨h.1,by omega⟩
theorem resF_at (d:Dk):(resF d).2.at_≤d.at_+16:=by
 have h:=resC_ok d
 have he:=made_ends h.1
 have:=(lvS_ok (last:=((resC d).L.getD ((resC d).L.length - 1) default).x) (s:=(((resC d).L.getD 0 default).x,(resC d).d)) he.2.1 5 (Nat.le_refl _)).2
 unfold resF resS
 dsimp only at this⊢
 omega
theorem call56 (d:Dk) (hd:d.at_≤970000000):PureCall Tryz.prog 56 [.pt 0 0 0] [.box (eDk 1 d)] ⟨.agg (eRv 0 (resF d).1), [.box (eDk 1 (resF d).2)], []⟩:=by
 refine pure_call mix Tryz.func56 fits56 rfl ?_
 conv=>whnf
 have hC:=resC_ok d
 have hCd:resC d=curveS (nxtD (nxtD d 10) 20) (100+nxt d 10) (nxt (nxtD d 10) 20) 40 200 1:=rfl
 refine ⟨_,fun _=>call_next 1 d 10 (by omega) (by omega), ?_⟩
 have r1:=nxt_lt d (n:=10) (by omega)
 have a1:=nxtD_at d 10
 conv=>whnf
 refine ⟨_,fun _=>call_next 1 (nxtD d 10) 20 (by omega) (by omega), ?_⟩
 have r2:=nxt_lt (nxtD d 10) (n:=20) (by omega)
 have a2:=nxtD_at (nxtD d 10) 20
 conv=>whnf
 refine ⟨_,fun _=>call86 (nxtD (nxtD d 10) 20) (100+nxt d 10) (nxt (nxtD d 10) 20) 40 200 true (by omega) (by omega) (by omega) (by omega) (by omega), ?_⟩
 rw [show lst true=1 from rfl,←hCd]
 unfold resF
 have hS:resS (resC d)=lvS ((resC d).L.getD ((resC d).L.length - 1) default).x (((resC d).L.getD 0 default).x,(resC d).d):=rfl
 generalize resC d=c at hC hS⊢
 obtain ⟨hM,hat⟩:=hC
 have hlen:=hM.len
 have he:=made_ends hM
 have hok:=lvS_ok (last:=(c.L.getD (c.L.length - 1) default).x) (s:=((c.L.getD 0 default).x,c.d)) he.2.1
 have hjl:((c.L.length:Int) - 1).toNat=c.L.length - 1:=by omega
 conv=>whnf
 rw [hjl]
 generalize (c.L.getD (c.L.length - 1) default).x=last at he hok hS⊢
 rw [←hS] at hok
 have h0:resS c 0=((c.L.getD 0 default).x,c.d):=by rw [hS];rfl
 have hn:∀i,resS c (i+1)=lvN last i (resS c i):=fun i=>by rw [hS];rfl
 clear hS
 generalize resS c=S at hok h0 hn⊢
 refine ⟨?_, ?_⟩
 ·(try conv=>whnf)
  (repeat' (first | exact True.intro | exact fun _ h=>h | refine inR64_of ?_ ?_ | apply And.intro | refine maxLen_ge ?_))<;>(first | omega | (dsimp only;omega))
 refine LSem.loop (n:=64) mix (α:=Nat) (fun i=>i≤5)
  (fun i=> [(0, .pt 0 0 0),(2, .pt 32 0 0),(3, .pt 48 0 0),(4, .int .i64 (S i).1),(5, .int .i64 last),(6, .pt 96 0 0),(30, .int .i64 i)])
  (fun i=> [(0, .box (eDk 1 (S i).2)),(32, .box [.nil 2, .int .i64 0, .int .i64 0, .int .i64 0, .int .i64 0, .int .i64 0]),(48, .box [.sl 0 2 c.L.length (fl ePt c.L), .int .i64 0, .int .i64 0, .int .i64 0, .int .i64 0, .int .i64 0]),
   (96, .box [.int .i64 (if 0<i then (S 1).1 else 0), .int .i64 (if 1<i then (S 2).1 else 0), .int .i64 (if 2<i then (S 3).1 else 0), .int .i64 (if 3<i then (S 4).1 else 0), .int .i64 (if 4<i then (S 5).1 else 0)])])
  (fun i=>5 - i) 0 ?_ ?_ ?_
 ·exact Nat.zero_le _
 ·refine ⟨rfl,rfl, ?_, ?_⟩
  all_goals repeat' (first | exact True.intro | refine leF_cons rfl ?_ ?_ | refine leS_cons rfl ?_ ?_ | (show PLe _ _ _ _;conv=>whnf) | (show SLe _ _ _ _;conv=>whnf) | (show PLeL _ _ _ _;conv=>whnf) | apply And.intro | rfl | exact Nat.le_refl _ | exact fun _ _=>rfl | exact rowEq0 _ _)
  all_goals first | (rw [h0];done) | (rw [h0];rfl) | (rw [h0];exact fun _ _=>rfl) | skip
 ·intro i hi
  have h012345:i=0∨i=1∨i=2∨i=3∨i=4∨i=5:=by omega
  have hoi:=hok i hi
  dsimp only at hoi
  have hni:=hn i
  have hq:=fun h5:i<5=>(show 0≤(last - (S i).1) / (5 - (i:Int))∧(last - (S i).1) / (5 - (i:Int))≤last - (S i).1 from ⟨Int.ediv_nonneg (by omega) (by omega),Int.ediv_le_self _ (by omega)⟩)
  rcases h012345 with rfl | rfl | rfl | rfl | rfl | rfl
  ·conv=>whnf
   refine ⟨trivial,fun _=> ?_,fun h=>(by cases h)⟩
   have hdiv:Int.tdiv (last - (S 0).1) (5 - ((0:Nat):Int))=(last - (S 0).1) / (5 - ((0:Nat):Int)):=Int.tdiv_eq_ediv_of_nonneg (by omega)
   have hqi:=hq (by omega)
   conv=>whnf
   rw [hdiv]
   have r:=nxt_lt (S 0).2 (n:=(last - (S 0).1) / (5 - ((0:Nat):Int))+1) (by omega)
   have a:=nxtD_at (S 0).2 ((last - (S 0).1) / (5 - ((0:Nat):Int))+1)
   refine ⟨_,fun _=>call_next 1 (S 0).2 ((last - (S 0).1) / (5 - ((0:Nat):Int))+1) (by omega) (by omega), ?_⟩
   have h1:(S 1).1=(S 0).1+nxt (S 0).2 ((last - (S 0).1) / (5 - ((0:Nat):Int))+1):=by rw [hni];rfl
   have h2:(S 1).2=nxtD (S 0).2 ((last - (S 0).1) / (5 - ((0:Nat):Int))+1):=by rw [hni];rfl
   rw [←h2]
   conv=>whnf
   rw [←h1]
   refine ⟨?_,1,by omega,by omega,rfl,rfl, ?_, ?_⟩
   ·(try conv=>whnf)
    (repeat' (first | exact True.intro | exact fun _ h=>h | refine inR64_of ?_ ?_ | apply And.intro | refine maxLen_ge ?_))<;>(first | omega | (dsimp only;omega))
   all_goals repeat' (first | exact True.intro | refine leF_cons rfl ?_ ?_ | refine leS_cons rfl ?_ ?_ | (show PLe _ _ _ _;conv=>whnf) | (show SLe _ _ _ _;conv=>whnf) | (show PLeL _ _ _ _;conv=>whnf) | apply And.intro | rfl | exact Nat.le_refl _ | exact fun _ _=>rfl | exact rowEq0 _ _)
   all_goals first | omega | skip
  ·conv=>whnf
   refine ⟨trivial,fun _=> ?_,fun h=>(by cases h)⟩
   have hdiv:Int.tdiv (last - (S 1).1) (5 - ((1:Nat):Int))=(last - (S 1).1) / (5 - ((1:Nat):Int)):=Int.tdiv_eq_ediv_of_nonneg (by omega)
   have hqi:=hq (by omega)
   conv=>whnf
   rw [hdiv]
   have r:=nxt_lt (S 1).2 (n:=(last - (S 1).1) / (5 - ((1:Nat):Int))+1) (by omega)
   have a:=nxtD_at (S 1).2 ((last - (S 1).1) / (5 - ((1:Nat):Int))+1)
   refine ⟨_,fun _=>call_next 1 (S 1).2 ((last - (S 1).1) / (5 - ((1:Nat):Int))+1) (by omega) (by omega), ?_⟩
   have h1:(S 2).1=(S 1).1+nxt (S 1).2 ((last - (S 1).1) / (5 - ((1:Nat):Int))+1):=by rw [hni];rfl
   have h2:(S 2).2=nxtD (S 1).2 ((last - (S 1).1) / (5 - ((1:Nat):Int))+1):=by rw [hni];rfl
   rw [←h2]
   conv=>whnf
   rw [←h1]
   refine ⟨?_,2,by omega,by omega,rfl,rfl, ?_, ?_⟩
   ·(try conv=>whnf)
    (repeat' (first | exact True.intro | exact fun _ h=>h | refine inR64_of ?_ ?_ | apply And.intro | refine maxLen_ge ?_))<;>(first | omega | (dsimp only;omega))
   all_goals repeat' (first | exact True.intro | refine leF_cons rfl ?_ ?_ | refine leS_cons rfl ?_ ?_ | (show PLe _ _ _ _;conv=>whnf) | (show SLe _ _ _ _;conv=>whnf) | (show PLeL _ _ _ _;conv=>whnf) | apply And.intro | rfl | exact Nat.le_refl _ | exact fun _ _=>rfl | exact rowEq0 _ _)
   all_goals first | omega | skip
  ·conv=>whnf
   refine ⟨trivial,fun _=> ?_,fun h=>(by cases h)⟩
   have hdiv:Int.tdiv (last - (S 2).1) (5 - ((2:Nat):Int))=(last - (S 2).1) / (5 - ((2:Nat):Int)):=Int.tdiv_eq_ediv_of_nonneg (by omega)
   have hqi:=hq (by omega)
   conv=>whnf
   rw [hdiv]
   have r:=nxt_lt (S 2).2 (n:=(last - (S 2).1) / (5 - ((2:Nat):Int))+1) (by omega)
   have a:=nxtD_at (S 2).2 ((last - (S 2).1) / (5 - ((2:Nat):Int))+1)
   refine ⟨_,fun _=>call_next 1 (S 2).2 ((last - (S 2).1) / (5 - ((2:Nat):Int))+1) (by omega) (by omega), ?_⟩
   have h1:(S 3).1=(S 2).1+nxt (S 2).2 ((last - (S 2).1) / (5 - ((2:Nat):Int))+1):=by rw [hni];rfl
   have h2:(S 3).2=nxtD (S 2).2 ((last - (S 2).1) / (5 - ((2:Nat):Int))+1):=by rw [hni];rfl
   rw [←h2]
   conv=>whnf
   rw [←h1]
   refine ⟨?_,3,by omega,by omega,rfl,rfl, ?_, ?_⟩
   ·(try conv=>whnf)
    (repeat' (first | exact True.intro | exact fun _ h=>h | refine inR64_of ?_ ?_ | apply And.intro | refine maxLen_ge ?_))<;>(first | omega | (dsimp only;omega))
   all_goals repeat' (first | exact True.intro | refine leF_cons rfl ?_ ?_ | refine leS_cons rfl ?_ ?_ | (show PLe _ _ _ _;conv=>whnf) | (show SLe _ _ _ _;conv=>whnf) | (show PLeL _ _ _ _;conv=>whnf) | apply And.intro | rfl | exact Nat.le_refl _ | exact fun _ _=>rfl | exact rowEq0 _ _)
   all_goals first | omega | skip
  ·conv=>whnf
   refine ⟨trivial,fun _=> ?_,fun h=>(by cases h)⟩
   have hdiv:Int.tdiv (last - (S 3).1) (5 - ((3:Nat):Int))=(last - (S 3).1) / (5 - ((3:Nat):Int)):=Int.tdiv_eq_ediv_of_nonneg (by omega)
   have hqi:=hq (by omega)
   conv=>whnf
   rw [hdiv]
   have r:=nxt_lt (S 3).2 (n:=(last - (S 3).1) / (5 - ((3:Nat):Int))+1) (by omega)
   have a:=nxtD_at (S 3).2 ((last - (S 3).1) / (5 - ((3:Nat):Int))+1)
   refine ⟨_,fun _=>call_next 1 (S 3).2 ((last - (S 3).1) / (5 - ((3:Nat):Int))+1) (by omega) (by omega), ?_⟩
   have h1:(S 4).1=(S 3).1+nxt (S 3).2 ((last - (S 3).1) / (5 - ((3:Nat):Int))+1):=by rw [hni];rfl
   have h2:(S 4).2=nxtD (S 3).2 ((last - (S 3).1) / (5 - ((3:Nat):Int))+1):=by rw [hni];rfl
   rw [←h2]
   conv=>whnf
   rw [←h1]
   refine ⟨?_,4,by omega,by omega,rfl,rfl, ?_, ?_⟩
   ·(try conv=>whnf)
    (repeat' (first | exact True.intro | exact fun _ h=>h | refine inR64_of ?_ ?_ | apply And.intro | refine maxLen_ge ?_))<;>(first | omega | (dsimp only;omega))
   all_goals repeat' (first | exact True.intro | refine leF_cons rfl ?_ ?_ | refine leS_cons rfl ?_ ?_ | (show PLe _ _ _ _;conv=>whnf) | (show SLe _ _ _ _;conv=>whnf) | (show PLeL _ _ _ _;conv=>whnf) | apply And.intro | rfl | exact Nat.le_refl _ | exact fun _ _=>rfl | exact rowEq0 _ _)
   all_goals first | omega | skip
  ·conv=>whnf
   refine ⟨trivial,fun _=> ?_,fun h=>(by cases h)⟩
   have hdiv:Int.tdiv (last - (S 4).1) (5 - ((4:Nat):Int))=(last - (S 4).1) / (5 - ((4:Nat):Int)):=Int.tdiv_eq_ediv_of_nonneg (by omega)
   have hqi:=hq (by omega)
   conv=>whnf
   rw [hdiv]
   have r:=nxt_lt (S 4).2 (n:=(last - (S 4).1) / (5 - ((4:Nat):Int))+1) (by omega)
   have a:=nxtD_at (S 4).2 ((last - (S 4).1) / (5 - ((4:Nat):Int))+1)
   refine ⟨_,fun _=>call_next 1 (S 4).2 ((last - (S 4).1) / (5 - ((4:Nat):Int))+1) (by omega) (by omega), ?_⟩
   have h1:(S 5).1=(S 4).1+nxt (S 4).2 ((last - (S 4).1) / (5 - ((4:Nat):Int))+1):=by rw [hni];rfl
   have h2:(S 5).2=nxtD (S 4).2 ((last - (S 4).1) / (5 - ((4:Nat):Int))+1):=by rw [hni];rfl
   rw [←h2]
   conv=>whnf
   rw [←h1]
   refine ⟨?_,5,by omega,by omega,rfl,rfl, ?_, ?_⟩
   ·(try conv=>whnf)
    (repeat' (first | exact True.intro | exact fun _ h=>h | refine inR64_of ?_ ?_ | apply And.intro | refine maxLen_ge ?_))<;>(first | omega | (dsimp only;omega))
   all_goals repeat' (first | exact True.intro | refine leF_cons rfl ?_ ?_ | refine leS_cons rfl ?_ ?_ | (show PLe _ _ _ _;conv=>whnf) | (show SLe _ _ _ _;conv=>whnf) | (show PLeL _ _ _ _;conv=>whnf) | apply And.intro | rfl | exact Nat.le_refl _ | exact fun _ _=>rfl | exact rowEq0 _ _)
   all_goals first | omega | skip
  ·conv=>whnf
   refine ⟨trivial,fun h=>(by cases h),fun _=> ?_⟩
   conv=>whnf
   refine ⟨rfl, ?_⟩
   conv=>whnf
   refine ⟨?_, [], ?_⟩
   ·(try conv=>whnf)
    (repeat' (first | exact True.intro | exact fun _ h=>h | refine inR64_of ?_ ?_ | apply And.intro | refine maxLen_ge ?_))<;>(first | omega | (dsimp only;omega))
   conv=>whnf
   refine ⟨rfl, ?_, ?_,trivial⟩
   all_goals repeat' (first | exact True.intro | refine leF_cons rfl ?_ ?_ | refine leS_cons rfl ?_ ?_ | (show PLe _ _ _ _;conv=>whnf) | (show SLe _ _ _ _;conv=>whnf) | (show PLeL _ _ _ _;conv=>whnf) | apply And.intro | rfl | exact Nat.le_refl _ | exact fun _ _=>rfl | exact rowEq0 _ _)
def c101L1:C:=(sr [kk 47 (.bi false .lss 46 45)] (.seq (.cond 47 .skip (.exit 0)) (.seq (.block 1 (sr [kk 48 (.ia 2 44 46),kk 49 (.ld 2 true 48),kk 5 (.al [(.int .i64 0),(.int .i64 0)]),kz (.st 2 5 49)] (.seq (sr [kk 50 (.fa 0 5),kk 51 (.ld 1 false 50),kk 52 (cl 77 [51,(cn 1073741824)]),kk 53 (.un false .not 52),km 54 53,kg 55 54 false (.fa 1 5),kg 56 54 false (.ld 1 false 55),kg 57 54 false (cl 77 [56,(cn 1073741824)]),kg 58 54 false (.un false .not 57),kk 59 (.pick 54 (.c (.bool true)) 58)] (.cond 59 (sr [kk 2 (.mv (cn 1))] .ret) .skip)) (sr [kk 60 (.fa 0 5),kk 61 (.ld 1 false 60),kk 62 (.fa 1 5),kk 63 (.ld 1 false 62),kk 64 (.bi false .geq 61 63)] (.cond 64 (sr [kk 2 (.mv (cn 4))] .ret) .skip))))) (.reg [kk 65 (.bi false .add 46 (cn 1)),km 46 65]))))
def c101:C:=(sr [kk 1 (.bx 6 0),kk 2 (.mv (cn 0))] (.seq (sr [kk 6 (.fa 0 1),kk 7 (.ld 1 false 6),kk 8 (cl 122 [7]),km 3 8] (sr [km 9 3,kk 10 (.bi false .neq 9 (cn 0))] (.cond 10 (sr [km 11 3,km 2 11] .ret) .skip))) (.seq (sr [kk 12 (.fa 0 1),kk 13 (.ld 1 false 12),kk 14 (.fa 0 1),kk 15 (.ld 1 false 14),kk 16 (.len 15),kk 17 (.bi false .sub 16 (cn 1)),kk 18 (.ia 2 13 17),kk 19 (.fa 1 18),kk 20 (.ld 1 false 19),kk 21 (.bi false .gtr 20 (cn 1073741824)),km 22 21,kg 23 22 false (.fa 1 1),kg 24 22 false (.ld 1 false 23),kg 25 22 false (.bi false .lss 24 (cn 1)),kk 26 (.pick 22 (.c (.bool true)) 25),km 27 26,kg 28 27 false (.fa 1 1),kg 29 27 false (.ld 1 false 28),kg 30 27 false (.fa 2 1),kg 31 27 false (.ld 1 false 30),kg 32 27 false (.bi false .gtr 29 31),kk 33 (.pick 27 (.c (.bool true)) 32),km 34 33,kg 35 34 false (.fa 2 1),kg 36 34 false (.ld 1 false 35),kg 37 34 false (.bi false .gtr 36 (cn 1073741824)),kk 38 (.pick 34 (.c (.bool true)) 37)] (.cond 38 (sr [kk 2 (.mv (cn 1))] .ret) .skip)) (.seq (sr [kk 39 (.fa 3 1),kk 40 (.ld 1 false 39),kk 41 (.len 40),kk 42 (.bi false .gtr 41 (cn 10))] (.cond 42 (sr [kk 2 (.mv (cn 10))] .ret) .skip)) (.seq (sr [kk 43 (.fa 3 1),kk 44 (.ld 1 false 43),kk 45 (.len 44),kk 46 (.mv (cn 0))] (.block 0 (.loop c101L1))) (.seq (sr [kk 66 (.fa 4 1),kk 67 (.ld 1 false 66),kk 68 (cl 77 [67,(cn 1000)]),kk 69 (.un false .not 68),km 70 69,kg 71 70 false (.fa 5 1),kg 72 70 false (.ld 1 false 71),kg 73 70 false (cl 77 [72,(cn 1000)]),kg 74 70 false (.un false .not 73),kk 75 (.pick 70 (.c (.bool true)) 74)] (.cond 75 (sr [kk 2 (.mv (cn 1))] .ret) .skip)) (sr [kk 2 (.mv (cn 0))] .ret)))))))
theorem fits101:fits Tryz.prog false Tryz.f101 1 76 [(2,none)]=some c101.er:=by kernel_rfl
def c143L1:C:=(sr [kk 12 (.bi false .lss 11 10)] (.seq (.cond 12 .skip (.exit 0)) (.seq (.block 1 (sr [kk 13 (.ia 2 9 11),kk 14 (.ld 2 true 13),kk 7 (.al [(.int .i64 0),(.int .i64 0)]),kz (.st 2 7 14)] (sr [km 15 1,kk 16 (.fa 0 7),kk 17 (.ld 1 false 16),kk 18 (.bi false .gtr 15 17),km 19 18,kg 20 19 true (.mv 1),kg 21 19 true (.fa 1 7),kg 22 19 true (.ld 1 false 21),kg 23 19 true (.bi false .lss 20 22),kk 24 (.pick 19 23 (.c (.bool false)))] (.cond 24 (sr [kk 25 (.fa 1 7),kk 26 (.ld 1 false 25),km 4 26,kk 5 (.mv (.c (.bool true)))] .ret) .skip)))) (.reg [kk 27 (.bi false .add 11 (cn 1)),km 11 27]))))
def c143:C:=(sr [kk 2 (.bx 6 0),kk 4 (.mv (cn 0)),kk 5 (.mv (.c (.bool false)))] (.seq (sr [kk 8 (.fa 3 2),kk 9 (.ld 1 false 8),kk 10 (.len 9),kk 11 (.mv (cn 0))] (.block 0 (.loop c143L1))) (sr [kk 4 (.mv (cn 0)),kk 5 (.mv (.c (.bool false)))] .ret)))
theorem fits143:fits Tryz.prog false Tryz.f143 2 28 [(4,none),(5,none)]=some c143.er:=by kernel_rfl
def c121L1:C:=(.seq (sr [km 31 8,kk 32 (.fa 2 2),kk 33 (.ld 1 false 32),kk 34 (.bi false .leq 31 33)] (.cond 34 .skip (.exit 0))) (.block 1 (.seq (sr [kk 36 (.ld 6 true 2),km 37 8,kk 38 (cl 143 [36,37]),km 35 38,kk 39 (.ex 35 0),kk 40 (.ex 35 1),km 9 39,km 10 40] (sr [km 41 10] (.cond 41 (sr [km 42 9,km 43 1,kk 44 (.bi false .add 42 43),kk 45 (.bi false .sub 44 (cn 1)),km 46 1,kk 47 (.bi false .quo 45 46),km 48 1,kk 49 (.bi false .mul 47 48),km 8 49] (.exit 1)) .skip))) (.seq (sr [km 50 7,kk 51 (.len 50),kk 52 (.bi false .eql 51 (cn 200))] (.cond 52 (sr [kk 4 (.mv (.c (.nil 1))),kk 5 (.mv (cn 10))] .ret) .skip)) (sr [km 53 7,km 54 8,kk 55 (.bs 3 1 [54]),kk 56 (.app 3 1 8 53 55),km 7 56] (.reg [km 57 8,km 58 1,kk 59 (.bi false .add 57 58),km 8 59]))))))
def c121:C:=(sr [kk 2 (.bx 6 0),kk 4 (.mv (.c (.nil 1))),kk 5 (.mv (cn 0))] (.seq (sr [kk 11 (.ld 6 true 2),kk 12 (cl 101 [11]),km 6 12] (sr [km 13 6,kk 14 (.bi false .neq 13 (cn 0))] (.cond 14 (sr [km 15 6,kk 4 (.mv (.c (.nil 1))),km 5 15] .ret) .skip))) (.seq (sr [km 16 1,kk 17 (.bi false .lss 16 (cn 1)),km 18 17,kg 19 18 false (.mv 1),kg 20 18 false (.bi false .gtr 19 (cn 1073741824)),kk 21 (.pick 18 (.c (.bool true)) 20)] (.cond 21 (sr [kk 4 (.mv (.c (.nil 1))),kk 5 (.mv (cn 1))] .ret) .skip)) (sr [kk 7 (.mv (.c (.nil 1)))] (.seq (sr [kk 22 (.fa 1 2),kk 23 (.ld 1 false 22),km 24 1,kk 25 (.bi false .add 23 24),kk 26 (.bi false .sub 25 (cn 1)),km 27 1,kk 28 (.bi false .quo 26 27),km 29 1,kk 30 (.bi false .mul 28 29),km 8 30] (.block 0 (.loop c121L1))) (sr [km 60 7,km 4 60,kk 5 (.mv (cn 0))] .ret))))))
theorem fits121:fits Tryz.prog false Tryz.f121 2 61 [(4,none),(5,none)]=some c121.er:=by kernel_rfl
structure Bnd where
 lo:Int
 hi:Int
 deriving Inhabited,DecidableEq
def eBnd (b:Bnd):List PV:= [.int .i64 b.lo, .int .i64 b.hi]
structure Ut where
 tb:List Pt
 least:Int
 most:Int
 rough:List Bnd
 up:Int
 down:Int
 deriving Inhabited
def eUt (τ:Nat) (u:Ut):List PV:= [.sl τ 2 u.tb.length (fl ePt u.tb), .int .i64 u.least, .int .i64 u.most, .sl τ 2 u.rough.length (fl eBnd u.rough), .int .i64 u.up, .int .i64 u.down]
def errB (l:List Bnd) (i:Nat):Int:=if¬(0≤(l.getD i default).lo∧(l.getD i default).lo≤1073741824)∨¬(0≤(l.getD i default).hi∧(l.getD i default).hi≤1073741824) then 1 else if (l.getD i default).hi≤(l.getD i default).lo then 4 else 0
def badU (u:Ut):Prop:=1073741824<(u.tb.getD (u.tb.length - 1) default).y∨u.least<1∨u.most<u.least∨1073741824<u.most
instance (u:Ut):Decidable (badU u):=by unfold badU;infer_instance
def checkU (u:Ut):Int:=if checkC u.tb≠0 then checkC u.tb else if badU u then 1 else if 10<u.rough.length then 10 else if scan (errB u.rough) 0 u.rough.length≠0 then scan (errB u.rough) 0 u.rough.length else
 if¬(0≤u.up∧u.up≤1000)∨¬(0≤u.down∧u.down≤1000) then 1 else 0
def insL (q:Int):List Bnd→Option Int
 | []=>none
 | z::r=>if z.lo<q∧q<z.hi then some z.hi else insL q r
theorem insL_drop {l:List Bnd} {i:Nat} (q:Int) (h:i<l.length):insL q (l.drop i)=if (l.getD i default).lo<q∧q<(l.getD i default).hi then some (l.getD i default).hi else insL q (l.drop (i+1)):=by
 rw [List.drop_eq_getElem_cons h]
 have:l.getD i default=l[i]:=by simp [List.getD,h]
 rw [this];rfl
theorem insL_gt:∀{l:List Bnd} {q e:Int},insL q l=some e→q<e∧∃z∈l,z.hi=e
 | [],q,e,h=>by cases h
 | z::r,q,e,h=>by
   unfold insL at h
   split at h
   ·injection h with h;subst h
    rename_i hh
    exact ⟨hh.2,z,by simp,rfl⟩
   ·obtain ⟨h1,z',hz,he⟩:=insL_gt h
    exact ⟨h1,z',by simp [hz],he⟩
theorem call143 (τ:Nat) (u:Ut) (q:Int) (hl:u.rough.length≤4611686018427387904):PureCall Tryz.prog 143 [.agg (eUt τ u), .int .i64 q] [] ⟨.tup [.int .i64 ((insL q u.rough).getD 0), .bool (insL q u.rough).isSome], [], []⟩:=by
 refine pure_call mix Tryz.func143 fits143 rfl ?_
 conv=>whnf
 refine ⟨trivial, ?_⟩
 refine LSem.loop (n:=28) mix (α:=Nat) (fun i=>i≤u.rough.length∧insL q (u.rough.drop i)=insL q u.rough)
  (fun i=> [(1, .int .i64 q),(9, .sl τ 2 u.rough.length (fl eBnd u.rough)),(10, .int .i64 u.rough.length),(11, .int .i64 i)])
  (fun _=> []) (fun i=>u.rough.length - i) 0 ?_ ?_ ?_
 ·exact ⟨Nat.zero_le _,rfl⟩
 ·refine ⟨rfl,rfl, ?_, ?_⟩
  all_goals repeat' (first | exact True.intro | refine leF_cons rfl ?_ ?_ | refine leS_cons rfl ?_ ?_ | (show PLe _ _ _ _;conv=>whnf) | (show SLe _ _ _ _;conv=>whnf) | (show PLeL _ _ _ _;conv=>whnf) | apply And.intro | rfl | exact Nat.le_refl _ | exact fun _ _=>rfl | exact rowEq0 _ _)
 ·intro i hi
  obtain ⟨hi,hp⟩:=hi
  have hj:((i:Int)).toNat=i:=by omega
  conv=>whnf
  refine ⟨trivial,fun hc=> ?_,fun hc=> ?_⟩
  ·replace hc:=of_decide_eq_true hc
   have hlt:i<u.rough.length:=by
    have h:(i:Int)<u.rough.length:=hc
    omega
   rw [insL_drop q hlt] at hp
   conv=>whnf
   rw [hj]
   generalize u.rough.getD i default=z at hp⊢
   refine ⟨?_,fun h1=> ?_,fun h1=> ?_⟩
   ·(try conv=>whnf)
    (repeat' (first | exact True.intro | exact fun _ h=>h | refine inR64_of ?_ ?_ | apply And.intro | refine maxLen_ge ?_))<;>(first | omega | decide | (dsimp only;omega) | (dsimp only [List.length_cons,List.length_nil];omega) | (intro hg;rw [hg];rfl) | (intro hg hh;rw [hg,hh];rfl) | (intro hg;simp [-List.getD_eq_getElem?_getD, -Int.default_eq_zero] at hg;first | omega | (refine inR64_of ?_ ?_<;>omega) | (constructor<;>omega)) | (simp [-List.getD_eq_getElem?_getD, -Int.default_eq_zero];done))
   ·have h1:(bif decide (z.lo<q) then decide (q<z.hi) else false)=true:=h1
    simp only [bif_t,bif_f,decide_eq_true_eq,decide_eq_false_iff_not,Bool.not_eq_true',Bool.not_eq_false',Bool.and_eq_true,Bool.or_eq_true,Bool.and_eq_false_iff,Bool.or_eq_false_iff,beq_iff_eq,bne_iff_ne,beq_eq_false_iff_ne,bne_eq_false_iff_eq,reduceCtorEq,false_and,and_false,true_and,and_true,or_false,false_or,or_true,true_or,not_true_eq_false,not_false_eq_true,Int.toNat_zero] at h1
    rw [if_pos (by omega)] at hp
    rw [←hp]
    conv=>whnf
    refine ⟨?_, [], ?_⟩
    ·(try conv=>whnf)
     (repeat' (first | exact True.intro | exact fun _ h=>h | refine inR64_of ?_ ?_ | apply And.intro | refine maxLen_ge ?_))<;>(first | omega | (dsimp only;omega))
    conv=>whnf
    refine ⟨rfl, ?_,trivial,trivial⟩
    all_goals repeat' (first | exact True.intro | refine leF_cons rfl ?_ ?_ | refine leS_cons rfl ?_ ?_ | (show PLe _ _ _ _;conv=>whnf) | (show SLe _ _ _ _;conv=>whnf) | (show PLeL _ _ _ _;conv=>whnf) | apply And.intro | rfl | exact Nat.le_refl _ | exact fun _ _=>rfl | exact rowEq0 _ _)
   ·have h1:(bif decide (z.lo<q) then decide (q<z.hi) else false)=false:=h1
    simp only [bif_t,bif_f,decide_eq_true_eq,decide_eq_false_iff_not,Bool.not_eq_true',Bool.not_eq_false',Bool.and_eq_true,Bool.or_eq_true,Bool.and_eq_false_iff,Bool.or_eq_false_iff,beq_iff_eq,bne_iff_ne,beq_eq_false_iff_ne,bne_eq_false_iff_eq,reduceCtorEq,false_and,and_false,true_and,and_true,or_false,false_or,or_true,true_or,not_true_eq_false,not_false_eq_true,Int.toNat_zero] at h1
    rw [if_neg (by omega)] at hp
    conv=>whnf
    refine ⟨?_,i+1,⟨hlt,hp⟩,by omega,rfl,rfl, ?_, ?_⟩
    ·(try conv=>whnf)
     (repeat' (first | exact True.intro | exact fun _ h=>h | refine inR64_of ?_ ?_ | apply And.intro | refine maxLen_ge ?_))<;>(first | omega | (dsimp only;omega))
    all_goals repeat' (first | exact True.intro | refine leF_cons rfl ?_ ?_ | refine leS_cons rfl ?_ ?_ | (show PLe _ _ _ _;conv=>whnf) | (show SLe _ _ _ _;conv=>whnf) | (show PLeL _ _ _ _;conv=>whnf) | apply And.intro | rfl | exact Nat.le_refl _ | exact fun _ _=>rfl | exact rowEq0 _ _)
    all_goals first | omega | skip
  ·replace hc:=of_decide_eq_false hc
   have hk:i=u.rough.length:=by
    have h:¬(i:Int)<u.rough.length:=hc
    omega
   subst hk
   rw [List.drop_length] at hp
   rw [←hp]
   conv=>whnf
   refine ⟨?_, [], ?_⟩
   ·(try conv=>whnf)
    (repeat' (first | exact True.intro | exact fun _ h=>h | refine inR64_of ?_ ?_ | apply And.intro | refine maxLen_ge ?_))<;>(first | omega | (dsimp only;omega))
   conv=>whnf
   refine ⟨rfl, ?_,trivial,trivial⟩
   all_goals repeat' (first | exact True.intro | refine leF_cons rfl ?_ ?_ | refine leS_cons rfl ?_ ?_ | (show PLe _ _ _ _;conv=>whnf) | (show SLe _ _ _ _;conv=>whnf) | (show PLeL _ _ _ _;conv=>whnf) | apply And.intro | rfl | exact Nat.le_refl _ | exact fun _ _=>rfl | exact rowEq0 _ _)
theorem call101 (τ:Nat) (u:Ut) (hl:u.rough.length≤4611686018427387904):PureCall Tryz.prog 101 [.agg (eUt τ u)] [] ⟨.int .i64 (checkU u), [], []⟩:=by
 refine pure_call mix Tryz.func101 fits101 rfl ?_
 conv=>whnf
 refine ⟨_,fun _=>call122 _ u.tb, ?_⟩
 by_cases hk:checkC u.tb=0
 case neg=>
  rw [show checkU u=checkC u.tb by unfold checkU;rw [if_pos hk]]
  generalize checkC u.tb=E at hk⊢
  conv=>whnf
  refine ⟨?_,fun _=> ?_,fun h=> ?_⟩
  ·(try conv=>whnf)
   (repeat' (first | exact True.intro | exact fun _ h=>h | refine inR64_of ?_ ?_ | apply And.intro | refine maxLen_ge ?_))<;>(first | omega | (dsimp only;omega))
  ·conv=>whnf
   refine ⟨?_, [], ?_⟩
   ·(try conv=>whnf)
    (repeat' (first | exact True.intro | exact fun _ h=>h | refine inR64_of ?_ ?_ | apply And.intro | refine maxLen_ge ?_))<;>(first | omega | (dsimp only;omega))
   conv=>whnf
   refine ⟨rfl, ?_,trivial,trivial⟩
   all_goals repeat' (first | exact True.intro | refine leF_cons rfl ?_ ?_ | refine leS_cons rfl ?_ ?_ | (show PLe _ _ _ _;conv=>whnf) | (show SLe _ _ _ _;conv=>whnf) | (show PLeL _ _ _ _;conv=>whnf) | apply And.intro | rfl | exact Nat.le_refl _ | exact fun _ _=>rfl | exact rowEq0 _ _)
  ·exact absurd (show E=0 by simpa using h) hk
 have hg:=(check_good u.tb).1 hk
 have hlen:=hg.le
 have hne:=hg.ne
 have hch:checkU u=if badU u then 1 else if 10<u.rough.length then 10 else if scan (errB u.rough) 0 u.rough.length≠0 then scan (errB u.rough) 0 u.rough.length else
  if¬(0≤u.up∧u.up≤1000)∨¬(0≤u.down∧u.down≤1000) then 1 else 0:=by unfold checkU;rw [if_neg (by rw [hk];decide)]
 have hjl:((u.tb.length:Int) - 1).toNat=u.tb.length - 1:=by omega
 rw [hk]
 conv=>whnf
 refine ⟨?_,fun h=>(by cases h),fun _=> ?_⟩
 ·(try conv=>whnf)
  (repeat' (first | exact True.intro | exact fun _ h=>h | refine inR64_of ?_ ?_ | apply And.intro | refine maxLen_ge ?_))<;>(first | omega | (dsimp only;omega))
 conv=>whnf
 rw [hjl]
 refine ⟨?_,fun hc=> ?_,fun hc=> ?_⟩
 ·(try conv=>whnf)
  (repeat' (first | exact True.intro | exact fun _ h=>h | refine inR64_of ?_ ?_ | apply And.intro | refine maxLen_ge ?_))<;>(first | omega | decide | (dsimp only;omega) | (dsimp only [List.length_cons,List.length_nil];omega) | (intro hg;rw [hg];rfl) | (intro hg hh;rw [hg,hh];rfl) | (intro hg;simp [-List.getD_eq_getElem?_getD, -Int.default_eq_zero] at hg;first | omega | (refine inR64_of ?_ ?_<;>omega) | (constructor<;>omega)) | (simp [-List.getD_eq_getElem?_getD, -Int.default_eq_zero];done))
 ·have hc:(bif bif bif decide (1073741824<(u.tb.getD (u.tb.length - 1) default).y) then true else decide (u.least<1) then true else decide (u.most<u.least) then true else decide (1073741824<u.most))=true:=hc
  simp only [bif_t,bif_f,decide_eq_true_eq,decide_eq_false_iff_not,Bool.not_eq_true',Bool.not_eq_false',Bool.and_eq_true,Bool.or_eq_true,Bool.and_eq_false_iff,Bool.or_eq_false_iff,beq_iff_eq,bne_iff_ne,beq_eq_false_iff_ne,bne_eq_false_iff_eq,reduceCtorEq,false_and,and_false,true_and,and_true,or_false,false_or,or_true,true_or,not_true_eq_false,not_false_eq_true,Int.toNat_zero] at hc
  rw [show checkU u=1 by rw [hch,if_pos (by unfold badU;omega)]]
  conv=>whnf
  refine ⟨?_, [], ?_⟩
  ·(try conv=>whnf)
   (repeat' (first | exact True.intro | exact fun _ h=>h | refine inR64_of ?_ ?_ | apply And.intro | refine maxLen_ge ?_))<;>(first | omega | (dsimp only;omega))
  conv=>whnf
  refine ⟨rfl, ?_,trivial,trivial⟩
  all_goals repeat' (first | exact True.intro | refine leF_cons rfl ?_ ?_ | refine leS_cons rfl ?_ ?_ | (show PLe _ _ _ _;conv=>whnf) | (show SLe _ _ _ _;conv=>whnf) | (show PLeL _ _ _ _;conv=>whnf) | apply And.intro | rfl | exact Nat.le_refl _ | exact fun _ _=>rfl | exact rowEq0 _ _)
 have hc:(bif bif bif decide (1073741824<(u.tb.getD (u.tb.length - 1) default).y) then true else decide (u.least<1) then true else decide (u.most<u.least) then true else decide (1073741824<u.most))=false:=hc
 simp only [bif_t,bif_f,decide_eq_true_eq,decide_eq_false_iff_not,Bool.not_eq_true',Bool.not_eq_false',Bool.and_eq_true,Bool.or_eq_true,Bool.and_eq_false_iff,Bool.or_eq_false_iff,beq_iff_eq,bne_iff_ne,beq_eq_false_iff_ne,bne_eq_false_iff_eq,reduceCtorEq,false_and,and_false,true_and,and_true,or_false,false_or,or_true,true_or,not_true_eq_false,not_false_eq_true,Int.toNat_zero] at hc
 rw [if_neg (by unfold badU;omega)] at hch
 clear hc
 conv=>whnf
 refine ⟨trivial,fun hc=> ?_,fun hc=> ?_⟩
 ·have h:(10:Int)<u.rough.length:=of_decide_eq_true hc
  rw [show checkU u=10 by rw [hch,if_pos (by omega)]]
  conv=>whnf
  refine ⟨?_, [], ?_⟩
  ·(try conv=>whnf)
   (repeat' (first | exact True.intro | exact fun _ h=>h | refine inR64_of ?_ ?_ | apply And.intro | refine maxLen_ge ?_))<;>(first | omega | (dsimp only;omega))
  conv=>whnf
  refine ⟨rfl, ?_,trivial,trivial⟩
  all_goals repeat' (first | exact True.intro | refine leF_cons rfl ?_ ?_ | refine leS_cons rfl ?_ ?_ | (show PLe _ _ _ _;conv=>whnf) | (show SLe _ _ _ _;conv=>whnf) | (show PLeL _ _ _ _;conv=>whnf) | apply And.intro | rfl | exact Nat.le_refl _ | exact fun _ _=>rfl | exact rowEq0 _ _)
 have h:¬(10:Int)<u.rough.length:=of_decide_eq_false hc
 rw [if_neg (by omega)] at hch
 clear hc
 conv=>whnf
 refine ⟨trivial, ?_⟩
 refine LSem.loop (n:=76) mix (α:=Nat) (fun i=>i≤u.rough.length∧scan (errB u.rough) i (u.rough.length - i)=scan (errB u.rough) 0 u.rough.length)
  (fun i=> [(1, .pt 16 0 0),(44, .sl τ 2 u.rough.length (fl eBnd u.rough)),(45, .int .i64 u.rough.length),(46, .int .i64 i)])
  (fun _=> [(16, .box (eUt τ u))]) (fun i=>u.rough.length - i) 0 ?_ ?_ ?_
 ·exact ⟨Nat.zero_le _,rfl⟩
 ·refine ⟨rfl,rfl, ?_, ?_⟩
  all_goals repeat' (first | exact True.intro | refine leF_cons rfl ?_ ?_ | refine leS_cons rfl ?_ ?_ | (show PLe _ _ _ _;conv=>whnf) | (show SLe _ _ _ _;conv=>whnf) | (show PLeL _ _ _ _;conv=>whnf) | apply And.intro | rfl | exact Nat.le_refl _ | exact fun _ _=>rfl | exact rowEq0 _ _)
 ·intro i hi
  obtain ⟨hi,hs⟩:=hi
  have hj:((i:Int)).toNat=i:=by omega
  conv=>whnf
  refine ⟨trivial,fun hc=> ?_,fun hc=> ?_⟩
  ·replace hc:=of_decide_eq_true hc
   have hlt:i<u.rough.length:=by
    have h:(i:Int)<u.rough.length:=hc
    omega
   have herr:errB u.rough i≠0→checkU u=errB u.rough i:=fun h=>by
    rw [hch,←hs,scan_hit (by omega) h,if_pos h]
   have hnext:errB u.rough i=0→scan (errB u.rough) (i+1) (u.rough.length - (i+1))=scan (errB u.rough) 0 u.rough.length:=fun h=>by rw [←hs,scan_step (by omega) h];congr 1
   have heq:errB u.rough i=if¬(0≤(u.rough.getD i default).lo∧(u.rough.getD i default).lo≤1073741824)∨¬(0≤(u.rough.getD i default).hi∧(u.rough.getD i default).hi≤1073741824) then 1 else if (u.rough.getD i default).hi≤(u.rough.getD i default).lo then 4 else 0:=rfl
   conv=>whnf
   rw [hj]
   generalize u.rough.getD i default=z at heq⊢
   refine ⟨_,fun _=>call77 z.lo 1073741824, ?_⟩
   conv=>whnf
   refine ⟨_,fun _=>call77 z.hi 1073741824, ?_⟩
   conv=>whnf
   refine ⟨?_,fun h1=> ?_,fun h1=> ?_⟩
   ·(try conv=>whnf)
    (repeat' (first | exact True.intro | exact fun _ h=>h | refine inR64_of ?_ ?_ | apply And.intro | refine maxLen_ge ?_))<;>(first | omega | decide | (dsimp only;omega) | (dsimp only [List.length_cons,List.length_nil];omega) | (intro hg;rw [hg];rfl) | (intro hg hh;rw [hg,hh];rfl) | (intro hg;simp [-List.getD_eq_getElem?_getD, -Int.default_eq_zero] at hg;first | omega | (refine inR64_of ?_ ?_<;>omega) | (constructor<;>omega)) | (simp [-List.getD_eq_getElem?_getD, -Int.default_eq_zero];done))
   ·have h1:(bif !decide (0≤z.lo∧z.lo≤1073741824) then true else !decide (0≤z.hi∧z.hi≤1073741824))=true:=h1
    simp only [bif_t,bif_f,decide_eq_true_eq,decide_eq_false_iff_not,Bool.not_eq_true',Bool.not_eq_false',Bool.and_eq_true,Bool.or_eq_true,Bool.and_eq_false_iff,Bool.or_eq_false_iff,beq_iff_eq,bne_iff_ne,beq_eq_false_iff_ne,bne_eq_false_iff_eq,reduceCtorEq,false_and,and_false,true_and,and_true,or_false,false_or,or_true,true_or,not_true_eq_false,not_false_eq_true,Int.toNat_zero] at h1
    rw [if_pos (by omega)] at heq
    rw [herr (by rw [heq];decide),heq]
    conv=>whnf
    refine ⟨?_, [], ?_⟩
    ·(try conv=>whnf)
     (repeat' (first | exact True.intro | exact fun _ h=>h | refine inR64_of ?_ ?_ | apply And.intro | refine maxLen_ge ?_))<;>(first | omega | (dsimp only;omega))
    conv=>whnf
    refine ⟨rfl, ?_,trivial,trivial⟩
    all_goals repeat' (first | exact True.intro | refine leF_cons rfl ?_ ?_ | refine leS_cons rfl ?_ ?_ | (show PLe _ _ _ _;conv=>whnf) | (show SLe _ _ _ _;conv=>whnf) | (show PLeL _ _ _ _;conv=>whnf) | apply And.intro | rfl | exact Nat.le_refl _ | exact fun _ _=>rfl | exact rowEq0 _ _)
   ·have h1:(bif !decide (0≤z.lo∧z.lo≤1073741824) then true else !decide (0≤z.hi∧z.hi≤1073741824))=false:=h1
    simp only [bif_t,bif_f,decide_eq_true_eq,decide_eq_false_iff_not,Bool.not_eq_true',Bool.not_eq_false',Bool.and_eq_true,Bool.or_eq_true,Bool.and_eq_false_iff,Bool.or_eq_false_iff,beq_iff_eq,bne_iff_ne,beq_eq_false_iff_ne,bne_eq_false_iff_eq,reduceCtorEq,false_and,and_false,true_and,and_true,or_false,false_or,or_true,true_or,not_true_eq_false,not_false_eq_true,Int.toNat_zero] at h1
    rw [if_neg (by omega)] at heq
    conv=>whnf
    refine ⟨?_,fun h2=> ?_,fun h2=> ?_⟩
    ·(try conv=>whnf)
     (repeat' (first | exact True.intro | exact fun _ h=>h | refine inR64_of ?_ ?_ | apply And.intro | refine maxLen_ge ?_))<;>(first | omega | (dsimp only;omega))
    ·have h2:z.hi≤z.lo:=of_decide_eq_true h2
     rw [if_pos h2] at heq
     rw [herr (by rw [heq];decide),heq]
     conv=>whnf
     refine ⟨?_, [], ?_⟩
     ·(try conv=>whnf)
      (repeat' (first | exact True.intro | exact fun _ h=>h | refine inR64_of ?_ ?_ | apply And.intro | refine maxLen_ge ?_))<;>(first | omega | (dsimp only;omega))
     conv=>whnf
     refine ⟨rfl, ?_,trivial,trivial⟩
     all_goals repeat' (first | exact True.intro | refine leF_cons rfl ?_ ?_ | refine leS_cons rfl ?_ ?_ | (show PLe _ _ _ _;conv=>whnf) | (show SLe _ _ _ _;conv=>whnf) | (show PLeL _ _ _ _;conv=>whnf) | apply And.intro | rfl | exact Nat.le_refl _ | exact fun _ _=>rfl | exact rowEq0 _ _)
    ·have h2:¬z.hi≤z.lo:=of_decide_eq_false h2
     rw [if_neg h2] at heq
     conv=>whnf
     refine ⟨?_,i+1,⟨hlt,hnext heq⟩,by omega,rfl,rfl, ?_, ?_⟩
     ·(try conv=>whnf)
      (repeat' (first | exact True.intro | exact fun _ h=>h | refine inR64_of ?_ ?_ | apply And.intro | refine maxLen_ge ?_))<;>(first | omega | (dsimp only;omega))
     all_goals repeat' (first | exact True.intro | refine leF_cons rfl ?_ ?_ | refine leS_cons rfl ?_ ?_ | (show PLe _ _ _ _;conv=>whnf) | (show SLe _ _ _ _;conv=>whnf) | (show PLeL _ _ _ _;conv=>whnf) | apply And.intro | rfl | exact Nat.le_refl _ | exact fun _ _=>rfl | exact rowEq0 _ _)
     all_goals first | omega | skip
  ·replace hc:=of_decide_eq_false hc
   have hk:i=u.rough.length:=by
    have h:¬(i:Int)<u.rough.length:=hc
    omega
   subst hk
   rw [Nat.sub_self] at hs
   have hs0:scan (errB u.rough) 0 u.rough.length=0:=by rw [←hs];rfl
   rw [hs0,if_neg (by decide)] at hch
   conv=>whnf
   refine ⟨_,fun _=>call77 u.up 1000, ?_⟩
   conv=>whnf
   refine ⟨_,fun _=>call77 u.down 1000, ?_⟩
   conv=>whnf
   refine ⟨?_,fun h1=> ?_,fun h1=> ?_⟩
   ·(try conv=>whnf)
    (repeat' (first | exact True.intro | exact fun _ h=>h | refine inR64_of ?_ ?_ | apply And.intro | refine maxLen_ge ?_))<;>(first | omega | decide | (dsimp only;omega) | (dsimp only [List.length_cons,List.length_nil];omega) | (intro hg;rw [hg];rfl) | (intro hg hh;rw [hg,hh];rfl) | (intro hg;simp [-List.getD_eq_getElem?_getD, -Int.default_eq_zero] at hg;first | omega | (refine inR64_of ?_ ?_<;>omega) | (constructor<;>omega)) | (simp [-List.getD_eq_getElem?_getD, -Int.default_eq_zero];done))
   ·have h1:(bif !decide (0≤u.up∧u.up≤1000) then true else !decide (0≤u.down∧u.down≤1000))=true:=h1
    simp only [bif_t,bif_f,decide_eq_true_eq,decide_eq_false_iff_not,Bool.not_eq_true',Bool.not_eq_false',Bool.and_eq_true,Bool.or_eq_true,Bool.and_eq_false_iff,Bool.or_eq_false_iff,beq_iff_eq,bne_iff_ne,beq_eq_false_iff_ne,bne_eq_false_iff_eq,reduceCtorEq,false_and,and_false,true_and,and_true,or_false,false_or,or_true,true_or,not_true_eq_false,not_false_eq_true,Int.toNat_zero] at h1
    rw [show checkU u=1 by rw [hch,if_pos (by omega)]]
    conv=>whnf
    refine ⟨?_, [], ?_⟩
    ·(try conv=>whnf)
     (repeat' (first | exact True.intro | exact fun _ h=>h | refine inR64_of ?_ ?_ | apply And.intro | refine maxLen_ge ?_))<;>(first | omega | (dsimp only;omega))
    conv=>whnf
    refine ⟨rfl, ?_,trivial,trivial⟩
    all_goals repeat' (first | exact True.intro | refine leF_cons rfl ?_ ?_ | refine leS_cons rfl ?_ ?_ | (show PLe _ _ _ _;conv=>whnf) | (show SLe _ _ _ _;conv=>whnf) | (show PLeL _ _ _ _;conv=>whnf) | apply And.intro | rfl | exact Nat.le_refl _ | exact fun _ _=>rfl | exact rowEq0 _ _)
   ·have h1:(bif !decide (0≤u.up∧u.up≤1000) then true else !decide (0≤u.down∧u.down≤1000))=false:=h1
    simp only [bif_t,bif_f,decide_eq_true_eq,decide_eq_false_iff_not,Bool.not_eq_true',Bool.not_eq_false',Bool.and_eq_true,Bool.or_eq_true,Bool.and_eq_false_iff,Bool.or_eq_false_iff,beq_iff_eq,bne_iff_ne,beq_eq_false_iff_ne,bne_eq_false_iff_eq,reduceCtorEq,false_and,and_false,true_and,and_true,or_false,false_or,or_true,true_or,not_true_eq_false,not_false_eq_true,Int.toNat_zero] at h1
    rw [show checkU u=0 by rw [hch,if_neg (by omega)]]
    conv=>whnf
    refine ⟨?_, [], ?_⟩
    ·(try conv=>whnf)
     (repeat' (first | exact True.intro | exact fun _ h=>h | refine inR64_of ?_ ?_ | apply And.intro | refine maxLen_ge ?_))<;>(first | omega | (dsimp only;omega))
    conv=>whnf
    refine ⟨rfl, ?_,trivial,trivial⟩
    all_goals repeat' (first | exact True.intro | refine leF_cons rfl ?_ ?_ | refine leS_cons rfl ?_ ?_ | (show PLe _ _ _ _;conv=>whnf) | (show SLe _ _ _ _;conv=>whnf) | (show PLeL _ _ _ _;conv=>whnf) | apply And.intro | rfl | exact Nat.le_refl _ | exact fun _ _=>rfl | exact rowEq0 _ _)
theorem checkU_ok {u:Ut} (h:checkU u=0):1≤u.least∧u.least≤u.most∧u.most≤1073741824∧u.rough.length≤10∧∀z∈u.rough,0≤z.hi∧z.hi≤1073741824:=by
 unfold checkU at h
 split at h
 ·rename_i hh;exact absurd h hh
 split at h
 ·cases h
 rename_i hb
 split at h
 ·cases h
 split at h
 ·rename_i hh;exact absurd h hh
 rename_i hl hs
 have hs0:scan (errB u.rough) 0 u.rough.length=0:=Classical.not_not.1 hs
 unfold badU at hb
 refine ⟨by omega,by omega,by omega,by omega,fun z hz=> ?_⟩
 obtain ⟨i,hi,rfl⟩:=List.mem_iff_getElem.1 hz
 have:=scan_zero hs0 i (Nat.zero_le _) (by omega)
 unfold errB at this
 simp only [List.getD,List.getElem?_eq_getElem hi,Option.getD_some] at this
 split at this
 ·cases this
 ·omega
def upG (g x:Int):Int:=(x+g - 1) / g*g
def flowL (u:Ut) (g:Int):Nat→Int→List Int→List Int×Int
 | 0,_,out=>(out,0)
 | n+1,q,out=>if q≤u.most then match insL q u.rough with
   | some e=>flowL u g n (upG g e) out
   | none=>if out.length=200 then ([],10) else flowL u g n (q+g) (out++ [q])
   else (out,0)
def flowsU (u:Ut) (g:Int):List Int×Int:=if checkU u≠0 then ([],checkU u) else if g<1∨1073741824<g then ([],1) else flowL u g (u.most+1).toNat (upG g u.least) []
theorem upG_rng {g x:Int} (hg:1≤g) (hx:0≤x):x≤upG g x∧upG g x≤x+g - 1∧0≤(x+g - 1) / g∧(x+g - 1) / g≤x+g - 1:=by
 unfold upG
 have e:=Int.mul_ediv_add_emod (x+g - 1) g
 have e1:=Int.emod_nonneg (x+g - 1) (b:=g) (by omega)
 have e2:=Int.emod_lt_of_pos (x+g - 1) (b:=g) (by omega)
 have h3:0≤(x+g - 1) / g:=Int.ediv_nonneg (by omega) (by omega)
 have h4:(x+g - 1) / g≤x+g - 1:=Int.ediv_le_self _ (by omega)
 rw [Int.mul_comm] at e
 generalize (x+g - 1) / g*g=y at e⊢
 omega
theorem flowL_len (u:Ut) (g:Int):∀(n:Nat) (q:Int) (out:List Int),out.length≤200→(flowL u g n q out).1.length≤200
 | 0,q,out,h=>h
 | n+1,q,out,h=>by
   unfold flowL
   split
   ·split
    ·exact flowL_len u g n _ out h
    ·split
     ·simp
     ·exact flowL_len u g n _ _ (by rw [List.length_append];simp;omega)
   ·exact h
theorem flowsU_len (u:Ut) (g:Int):(flowsU u g).1.length≤200:=by
 unfold flowsU
 split
 ·simp
 split
 ·simp
 ·exact flowL_len _ _ _ _ _ (by simp)
theorem call121 (τ:Nat) (u:Ut) (g:Int) (hl:u.rough.length≤4611686018427387904):PureCall Tryz.prog 121 [.agg (eUt τ u), .int .i64 g] [] ⟨.tup [.sl 0 1 (flowsU u g).1.length (fl eInt (flowsU u g).1), .int .i64 (flowsU u g).2], [], []⟩:=by
 refine pure_call mix Tryz.func121 fits121 rfl ?_
 conv=>whnf
 refine ⟨_,fun _=>call101 _ u hl, ?_⟩
 by_cases hk:checkU u=0
 case neg=>
  rw [show flowsU u g=([],checkU u) by unfold flowsU;rw [if_pos hk]]
  generalize checkU u=E at hk⊢
  conv=>whnf
  refine ⟨?_,fun _=> ?_,fun h=> ?_⟩
  ·(try conv=>whnf)
   (repeat' (first | exact True.intro | exact fun _ h=>h | refine inR64_of ?_ ?_ | apply And.intro | refine maxLen_ge ?_))<;>(first | omega | (dsimp only;omega))
  ·conv=>whnf
   refine ⟨?_, [], ?_⟩
   ·(try conv=>whnf)
    (repeat' (first | exact True.intro | exact fun _ h=>h | refine inR64_of ?_ ?_ | apply And.intro | refine maxLen_ge ?_))<;>(first | omega | (dsimp only;omega))
   conv=>whnf
   refine ⟨rfl, ?_,trivial,trivial⟩
   all_goals repeat' (first | exact True.intro | refine leF_cons rfl ?_ ?_ | refine leS_cons rfl ?_ ?_ | (show PLe _ _ _ _;conv=>whnf) | (show SLe _ _ _ _;conv=>whnf) | (show PLeL _ _ _ _;conv=>whnf) | apply And.intro | rfl | exact Nat.le_refl _ | exact fun _ _=>rfl | exact rowEq0 _ _)
  ·exact absurd (show E=0 by simpa using h) hk
 obtain ⟨u1,u2,u3,u4,u5⟩:=checkU_ok hk
 rw [hk]
 conv=>whnf
 refine ⟨?_,fun h=>(by cases h),fun _=> ?_⟩
 ·(try conv=>whnf)
  (repeat' (first | exact True.intro | exact fun _ h=>h | refine inR64_of ?_ ?_ | apply And.intro | refine maxLen_ge ?_))<;>(first | omega | (dsimp only;omega))
 conv=>whnf
 refine ⟨?_,fun hc=> ?_,fun hc=> ?_⟩
 ·(try conv=>whnf)
  (repeat' (first | exact True.intro | exact fun _ h=>h | refine inR64_of ?_ ?_ | apply And.intro | refine maxLen_ge ?_))<;>(first | omega | decide | (dsimp only;omega) | (dsimp only [List.length_cons,List.length_nil];omega) | (intro hg;rw [hg];rfl) | (intro hg hh;rw [hg,hh];rfl) | (intro hg;simp [-List.getD_eq_getElem?_getD, -Int.default_eq_zero] at hg;first | omega | (refine inR64_of ?_ ?_<;>omega) | (constructor<;>omega)) | (simp [-List.getD_eq_getElem?_getD, -Int.default_eq_zero];done))
 ·have hc:(bif decide (g<1) then true else decide (1073741824<g))=true:=hc
  simp only [bif_t,bif_f,decide_eq_true_eq,decide_eq_false_iff_not,Bool.not_eq_true',Bool.not_eq_false',Bool.and_eq_true,Bool.or_eq_true,Bool.and_eq_false_iff,Bool.or_eq_false_iff,beq_iff_eq,bne_iff_ne,beq_eq_false_iff_ne,bne_eq_false_iff_eq,reduceCtorEq,false_and,and_false,true_and,and_true,or_false,false_or,or_true,true_or,not_true_eq_false,not_false_eq_true,Int.toNat_zero] at hc
  rw [show flowsU u g=([],1) by unfold flowsU;rw [if_neg (by rw [hk];decide),if_pos (by omega)]]
  conv=>whnf
  refine ⟨?_, [], ?_⟩
  ·(try conv=>whnf)
   (repeat' (first | exact True.intro | exact fun _ h=>h | refine inR64_of ?_ ?_ | apply And.intro | refine maxLen_ge ?_))<;>(first | omega | (dsimp only;omega))
  conv=>whnf
  refine ⟨rfl, ?_,trivial,trivial⟩
  all_goals repeat' (first | exact True.intro | refine leF_cons rfl ?_ ?_ | refine leS_cons rfl ?_ ?_ | (show PLe _ _ _ _;conv=>whnf) | (show SLe _ _ _ _;conv=>whnf) | (show PLeL _ _ _ _;conv=>whnf) | apply And.intro | rfl | exact Nat.le_refl _ | exact fun _ _=>rfl | exact rowEq0 _ _)
 have hc:(bif decide (g<1) then true else decide (1073741824<g))=false:=hc
 simp only [bif_t,bif_f,decide_eq_true_eq,decide_eq_false_iff_not,Bool.not_eq_true',Bool.not_eq_false',Bool.and_eq_true,Bool.or_eq_true,Bool.and_eq_false_iff,Bool.or_eq_false_iff,beq_iff_eq,bne_iff_ne,beq_eq_false_iff_ne,bne_eq_false_iff_eq,reduceCtorEq,false_and,and_false,true_and,and_true,or_false,false_or,or_true,true_or,not_true_eq_false,not_false_eq_true,Int.toNat_zero] at hc
 rw [show flowsU u g=flowL u g (u.most+1).toNat (upG g u.least) [] by unfold flowsU;rw [if_neg (by rw [hk];decide),if_neg (by omega)]]
 have hq0:=upG_rng (g:=g) (x:=u.least) (by omega) (by omega)
 have hd0:Int.tdiv (u.least+g - 1) g*g=upG g u.least:=by unfold upG;rw [Int.tdiv_eq_ediv_of_nonneg (by omega)]
 obtain ⟨R0,hR0⟩:∃R0,R0=flowL u g (u.most+1).toNat (upG g u.least) []:=⟨_,rfl⟩
 rw [←hR0]
 have hd1:Int.tdiv (u.least+g - 1) g=(u.least+g - 1) / g:=Int.tdiv_eq_ediv_of_nonneg (by omega)
 have hd2:(u.least+g - 1) / g*g=upG g u.least:=rfl
 conv=>whnf
 rw [hd1,hd2]
 refine ⟨?_, ?_⟩
 ·(try conv=>whnf)
  (repeat' (first | exact True.intro | exact fun _ h=>h | refine inR64_of ?_ ?_ | apply And.intro | refine maxLen_ge ?_))<;>(first | omega | (dsimp only;omega))
 refine LSem.adopt 7 1000000 3 1 1 rfl rfl ?_
 refine LSem.loop (n:=61) mix (α:=Nat×Int×List Int) (fun x=>flowL u g x.1 x.2.1 x.2.2=R0∧u.most+1 - x.2.1≤x.1∧(1≤x.2.1∧x.2.1≤2147483648)∧x.2.2.length≤200)
  (fun x=> [(1, .int .i64 g),(2, .pt 32 0 0),(7, .os 1000000),(8, .int .i64 x.2.1)])
  (fun x=> [(32, .box (eUt τ u)),(1000000, .row 0 3 1 x.2.2.length (fl eInt x.2.2))]) (fun x=>x.1) ((u.most+1).toNat,upG g u.least, []) ?_ ?_ ?_
 ·exact ⟨hR0.symm,by dsimp only;omega,by dsimp only;omega,by simp⟩
 ·refine ⟨rfl,rfl, ?_, ?_⟩
  all_goals repeat' (first | exact True.intro | refine leF_cons rfl ?_ ?_ | refine leS_cons rfl ?_ ?_ | (show PLe _ _ _ _;conv=>whnf) | (show SLe _ _ _ _;conv=>whnf) | (show PLeL _ _ _ _;conv=>whnf) | apply And.intro | rfl | exact Nat.le_refl _ | exact fun _ _=>rfl | exact rowEq0 _ _)
 ·intro x hx
  obtain ⟨n,q,out⟩:=x
  obtain ⟨h1,h2,h3,h4⟩:=hx
  dsimp only at h1 h2 h3 h4
  conv=>whnf
  refine ⟨trivial,fun hc1=> ?_,fun hc1=> ?_⟩
  ·have hqm:q≤u.most:=of_decide_eq_true hc1
   obtain ⟨n,rfl⟩:∃m,n=m+1:=⟨n - 1,by omega⟩
   unfold flowL at h1
   rw [if_pos hqm] at h1
   conv=>whnf
   refine ⟨_,fun _=>call143 _ u q hl, ?_⟩
   have hgt:=fun e=>insL_gt (l:=u.rough) (q:=q) (e:=e)
   generalize insL q u.rough=I at h1 hgt⊢
   cases I with
   | some e=>
     obtain ⟨hge,z,hz,hze⟩:=hgt e rfl
     have hzr:=u5 z hz
     have hqe:=upG_rng (g:=g) (x:=e) (by omega) (by omega)
     have he1:Int.tdiv (e+g - 1) g=(e+g - 1) / g:=Int.tdiv_eq_ediv_of_nonneg (by omega)
     have he2:(e+g - 1) / g*g=upG g e:=rfl
     rw [show (some e).getD 0=e from rfl,show (some e).isSome=true from rfl]
     conv=>whnf
     refine ⟨?_,fun _=> ?_,fun h=>(by cases h)⟩
     ·(try conv=>whnf)
      (repeat' (first | exact True.intro | exact fun _ h=>h | refine inR64_of ?_ ?_ | apply And.intro | refine maxLen_ge ?_))<;>(first | omega | (dsimp only;omega))
     conv=>whnf
     rw [he1,he2]
     refine ⟨?_,(n,upG g e,out),⟨h1,by dsimp only;omega,by dsimp only;omega,h4⟩,by dsimp only;omega,rfl,rfl, ?_, ?_⟩
     ·(try conv=>whnf)
      (repeat' (first | exact True.intro | exact fun _ h=>h | refine inR64_of ?_ ?_ | apply And.intro | refine maxLen_ge ?_))<;>(first | omega | (dsimp only;omega))
     all_goals repeat' (first | exact True.intro | refine leF_cons rfl ?_ ?_ | refine leS_cons rfl ?_ ?_ | (show PLe _ _ _ _;conv=>whnf) | (show SLe _ _ _ _;conv=>whnf) | (show PLeL _ _ _ _;conv=>whnf) | apply And.intro | rfl | exact Nat.le_refl _ | exact fun _ _=>rfl | exact rowEq0 _ _)
     all_goals first | (rw [he1];rfl) | skip
   | none=>
     dsimp only at h1
     conv=>whnf
     refine ⟨?_,fun h=>(by cases h),fun _=> ?_⟩
     ·(try conv=>whnf)
      (repeat' (first | exact True.intro | exact fun _ h=>h | refine inR64_of ?_ ?_ | apply And.intro | refine maxLen_ge ?_))<;>(first | omega | (dsimp only;omega))
     conv=>whnf
     refine ⟨?_,fun hc2=> ?_,fun hc2=> ?_⟩
     ·(try conv=>whnf)
      (repeat' (first | exact True.intro | exact fun _ h=>h | refine inR64_of ?_ ?_ | apply And.intro | refine maxLen_ge ?_))<;>(first | omega | (dsimp only;omega))
     ·have hc2:(out.length:Int)=200:=beq_iff_eq.1 hc2
      rw [if_pos (by omega)] at h1
      rw [←h1]
      conv=>whnf
      refine ⟨?_, [], ?_⟩
      ·(try conv=>whnf)
       (repeat' (first | exact True.intro | exact fun _ h=>h | refine inR64_of ?_ ?_ | apply And.intro | refine maxLen_ge ?_))<;>(first | omega | (dsimp only;omega))
      conv=>whnf
      refine ⟨rfl, ?_,trivial,trivial⟩
      all_goals repeat' (first | exact True.intro | refine leF_cons rfl ?_ ?_ | refine leS_cons rfl ?_ ?_ | (show PLe _ _ _ _;conv=>whnf) | (show SLe _ _ _ _;conv=>whnf) | (show PLeL _ _ _ _;conv=>whnf) | apply And.intro | rfl | exact Nat.le_refl _ | exact fun _ _=>rfl | exact rowEq0 _ _)
     ·have hc2:¬(out.length:Int)=200:=beq_eq_false_iff_ne.1 hc2
      rw [if_neg (by omega)] at h1
      have qq:=fl_push eInt out q
      have hxl:(out++ [q]).length=out.length+1:=by simp
      conv=>whnf
      refine ⟨?_,(n,q+g,out++ [q]),⟨h1,by dsimp only;omega,by dsimp only;omega,by dsimp only;rw [hxl];omega⟩,by dsimp only;omega,rfl,rfl, ?_, ?_⟩
      ·(try conv=>whnf)
       (repeat' (first | exact True.intro | exact fun _ h=>h | refine inR64_of ?_ ?_ | apply And.intro | refine maxLen_ge ?_))<;>(first | omega | decide | (dsimp only;omega) | (dsimp only [List.length_cons,List.length_nil];omega) | (intro hg;rw [hg];rfl) | (intro hg hh;rw [hg,hh];rfl) | (intro hg;simp [-List.getD_eq_getElem?_getD, -Int.default_eq_zero] at hg;first | omega | (refine inR64_of ?_ ?_<;>omega) | (constructor<;>omega)) | (simp [-List.getD_eq_getElem?_getD, -Int.default_eq_zero];done))
      all_goals repeat' (first | exact True.intro | refine leF_cons rfl ?_ ?_ | refine leS_cons rfl ?_ ?_ | (show PLe _ _ _ _;conv=>whnf) | (show SLe _ _ _ _;conv=>whnf) | (show PLeL _ _ _ _;conv=>whnf) | apply And.intro | rfl | exact Nat.le_refl _ | exact fun _ _=>rfl | exact rowEq0 _ _)
      all_goals first | exact qq | (dsimp only;rw [hxl];rfl) | (dsimp only;rw [hxl];done) | skip
  ·have hqm:¬q≤u.most:=of_decide_eq_false hc1
   have hf:flowL u g n q out=(out,0):=by
    cases n with
    | zero=>rfl
    | succ n=>unfold flowL;rw [if_neg hqm]
   rw [←h1,hf]
   conv=>whnf
   refine ⟨?_, [], ?_⟩
   ·(try conv=>whnf)
    (repeat' (first | exact True.intro | exact fun _ h=>h | refine inR64_of ?_ ?_ | apply And.intro | refine maxLen_ge ?_))<;>(first | omega | (dsimp only;omega))
   conv=>whnf
   refine ⟨rfl, ?_,trivial,trivial⟩
   all_goals repeat' (first | exact True.intro | refine leF_cons rfl ?_ ?_ | refine leS_cons rfl ?_ ?_ | (show PLe _ _ _ _;conv=>whnf) | (show SLe _ _ _ _;conv=>whnf) | (show PLeL _ _ _ _;conv=>whnf) | apply And.intro | rfl | exact Nat.le_refl _ | exact fun _ _=>rfl | exact rowEq0 _ _)
open Go.RowKit Go.ChangeShapes
inductive Sh where
 | int (k:IntKind)
 | bool
 | str
 | sl (shs:List Sh)
 deriving Inhabited
inductive ShR:Sh→PV→Prop where
 | int (k:IntKind) (n:Int) (h:inR k n):ShR (.int k) (.int k n)
 | bool (b:Bool):ShR .bool (.bool b)
 | str (s:List UInt8) (h:s.length≤maxLen):ShR .str (.str s)
 | sl (shs:List Sh) (n:Nat) (f:Nat→List PV) (hn:n≤maxLen) (h1:∀i,i<n→(f i).length=shs.length)
  (h2:∀(i j:Nat) (s:Sh) (p:PV),i<n→shs[j]? =some s→(f i)[j]? =some p→ShR s p):ShR (.sl shs) (.sl 1 shs.length n f)
def ShL (shs:List Sh) (ps:List PV):Prop:=ps.length=shs.length∧∀(j:Nat) (s:Sh) (p:PV),shs[j]? =some s→ps[j]? =some p→ShR s p
def fieldSh (sh:TypeId→Option (List Sh)) (P:Program):Nat→List Field→Option (List Sh)
 | _, []=>some []
 | off,f::fs=>if f.offset=off then match sh f.type with
   | some s=>if s.length=P.cellsOf f.type then match fieldSh sh P (off+s.length) fs with
     | some r=>some (s++r)
     | none=>none
     else none
   | none=>none
   else none
def shp (P:Program):Nat→TypeId→Option (List Sh)
 | 0,_=>none
 | m+1,t=>match P.underlying t with
   | some .bool=>some [.bool]
   | some (.int k)=>some [.int k]
   | some .string=>some [.str]
   | some (.slice e)=>match shp P m e with
     | some s=>if s.length=P.cellsOf e∧0<s.length then some [.sl s] else none
     | none=>none
   | some (.struct fs)=>match fieldSh (shp P m) P 0 fs.toList with
     | some s=>if s.length=P.cellsOf t then some s else none
     | none=>none
   | _=>none
theorem ShR.flat {s:Sh} {p:PV} (h:ShR s p):p.flat=true:=by cases h<;>rfl
theorem ShR.mark1 {s:Sh} {p:PV} (h:ShR s p):p.mark 1=p:=by cases h<;>rfl
theorem ShL.append {a b:List Sh} {x y:List PV} (h:ShL a x) (h':ShL b y):ShL (a++b) (x++y):=by
 refine ⟨by simp [h.1,h'.1],fun j s p hs hp=> ?_⟩
 rw [List.getElem?_append] at hs hp
 rw [h.1] at hp
 split at hs
 ·rename_i hj;rw [if_pos hj] at hp;exact h.2 j s p hs hp
 ·rename_i hj;rw [if_neg hj] at hp;exact h'.2 _ s p hs hp
section
variable {H:Type} {enc:TypeId×Value→H} {P:Program} {w:World} {sp:Nat→Bool} {held:Bool} {X:Cx} {γ:Gh}
theorem trod_fields {m n:Nat} {cs:List Value} {xs:List (DataW H×List MemPlace)}
  (ih:∀(t:TypeId) (cs:List Value) (x:DataW H×List MemPlace) (shs:List Sh),shp P m t=some shs→DataW.trod enc P w 0 sp held n t cs=some x→∃ps,ShL shs ps∧RepL X γ w ps cs∧∀u∈cs,u.oneCell'=true):
  ∀(fs:List Field) (off k:Nat) (shs:List Sh),fieldSh (shp P m) P off fs=some shs→off+shs.length=cs.length→(∀i f,fs[i]? =some f→DataW.trod enc P w 0 sp held n f.type ((cs.drop f.offset).take (P.cellsOf f.type))=xs[k+i]?)→k+fs.length=xs.length→
   ∃ps,ShL shs ps∧RepL X γ w ps (cs.drop off)∧∀u∈cs.drop off,u.oneCell'=true
 | [],off,k,shs,h,hl,hx,hk=>by
   simp only [fieldSh,Option.some.injEq] at h;subst h
   have e:cs.drop off= []:=List.drop_eq_nil_of_le (by simpa using hl.symm▸Nat.le_refl _)
   rw [e]
   exact ⟨[],⟨rfl,fun j s p hs=>by simp at hs⟩,RepL.nil_,by simp⟩
 | f::fs,off,k,shs,h,hl,hx,hk=>by
   simp only [fieldSh] at h
   split at h
   ·rename_i hoff
    split at h
    ·rename_i s hs
     split at h
     ·rename_i hsl
      split at h
      ·rename_i r hr
       injection h with h;subst h
       simp only [List.length_append] at hl
       obtain ⟨ps',h1,h2,h3⟩:=trod_fields (cs:=cs) ih fs (off+s.length) (k+1) r hr (by omega) (fun i f' hf=>by
        have:=hx (i+1) f' (by simpa using hf)
        rw [show k+(i+1)=k+1+i from by omega] at this;exact this) (by simp only [List.length_cons] at hk;omega)
       have h0:=hx 0 f rfl
       have hk0:k+0<xs.length:=by simp only [List.length_cons] at hk;omega
       rw [List.getElem?_eq_getElem hk0] at h0
       obtain ⟨ps,g1,g2,g3⟩:=ih _ _ _ _ hs h0
       rw [hoff,←hsl] at g2 g3
       have e:cs.drop off=(cs.drop off).take s.length++cs.drop (off+s.length):=by
        rw [←List.drop_drop,List.take_append_drop]
       refine ⟨ps++ps',g1.append h1, ?_, ?_⟩
       ·rw [e];exact g2.append h2
       ·rw [e]
        intro u hu
        rcases List.mem_append.1 hu with hu | hu
        ·exact g3 u hu
        ·exact h3 u hu
      ·cases h
     ·cases h
    ·cases h
   ·cases h
theorem trod_rep (hX:∀b,b<w.heap.size→mayLie X γ 1 b):∀(m fuel:Nat) (t:TypeId) (cs:List Value) (x:DataW H×List MemPlace) (shs:List Sh),shp P m t=some shs→DataW.trod enc P w 0 sp held fuel t cs=some x→
  ∃ps,ShL shs ps∧RepL X γ w ps cs∧∀u∈cs,u.oneCell'=true:=by
 have one:∀(s:Sh) (p:PV) (v:Value),ShR s p→Rep X γ w p v→v.oneCell'=true→∃ps,ShL [s] ps∧RepL X γ w ps [v]∧∀u∈ [v],u.oneCell'=true:=fun s p v h1 h2 h3=>
  ⟨[p],⟨rfl,fun j s' p' hs hp=>by
   cases j with
   | zero=>simp only [List.getElem?_cons_zero,Option.some.injEq] at hs hp;subst hs;subst hp;exact h1
   | succ j=>simp at hs⟩,RepL.cons_ h2 RepL.nil_,by simpa using h3⟩
 intro m
 induction m with
 | zero=>intro fuel t cs x shs h;simp [shp] at h
 | succ m ih=>
   intro fuel t cs x shs h hd
   simp only [shp] at h
   split at h
   ·rename_i ht
    injection h with h;subst h
    obtain ⟨b,rfl,_⟩:=DataW.trod_bool ht hd
    exact one _ _ _ (.bool b) (.bool b) rfl
   ·rename_i k ht
    injection h with h;subst h
    obtain ⟨n,rfl,_,hw⟩:=DataW.trod_int ht hd
    simp only [Lit.wf,Bool.and_eq_true,decide_eq_true_eq] at hw
    exact one _ _ _ (.int k n hw) (.int k n) rfl
   ·rename_i ht
    injection h with h;subst h
    obtain ⟨s,rfl,_,hw⟩:=DataW.trod_string ht hd
    have e:s=⟨s.data.toList.toArray⟩:=by cases s;simp
    refine one _ (.str s.data.toList) _ (.str _ (by rw [Array.length_toList];exact hw)) ?_ rfl
    have:=Rep.str (X:=X) (γ:=γ) (w:=w) s.data.toList
    rwa [←e] at this
   ·rename_i e ht
    split at h
    ·rename_i s hs
     split at h
     ·rename_i hc
      obtain ⟨hsl,hpos⟩:=hc
      injection h with h;subst h
      rcases DataW.trod_slice ht hd with ⟨rfl,_⟩ | ⟨a,len,cap,elems,rest,n,hf,rfl,_,hb,hlc,hcm,hel,helem,_,_⟩
      ·refine one _ (.sl 1 s.length 0 (fun _=> [])) _ (.sl s 0 _ (Nat.zero_le _) (fun i hi=>by omega) (fun i j s p hi=>by omega)) ?_ rfl
       exact .sl 1 _ 0 _ none 0 (fun _=>undef) (Nat.le_refl _) (fun i hi=>by omega) (fun i hi=>by omega) (fun hi=>by omega) (fun i j c hi=>by omega)
      ·have hex:∀i,∃ps,i<len→ShL s ps∧∃cs',w.cells? 0 (a.add (i*P.cellsOf e)) (P.cellsOf e)=some cs'∧RepL X γ w ps cs':=fun i=>by
         by_cases hi:i<len
         ·have h1:=helem i hi
          rw [List.getElem?_eq_getElem (by omega)] at h1
          obtain ⟨cs',h2,h3⟩:=Option.bind_eq_some_iff.1 h1
          obtain ⟨ps,g1,g2,_⟩:=ih _ _ _ _ _ hs h3
          exact ⟨ps,fun _=>⟨g1,cs',h2,g2⟩⟩
         ·exact ⟨[],fun h=>absurd h hi⟩
       let f:Nat→List PV:=fun i=>Classical.choose (hex i)
       have hf':∀i,i<len→ShL s (f i)∧∃cs',w.cells? 0 (a.add (i*P.cellsOf e)) (P.cellsOf e)=some cs'∧RepL X γ w (f i) cs':=fun i=>Classical.choose_spec (hex i)
       have hcell:∀i j,i<len→j<s.length→∃u p,w.cell? (a.add (i*s.length+j))=some u∧(f i)[j]? =some p∧Rep X γ w p u:=fun i j hi hj=>by
        obtain ⟨g1,cs',g2,g3⟩:=hf' i hi
        obtain ⟨_,k2,k3⟩:=World.cells?_some g2
        have hj':j<cs'.length:=by rw [k2,←hsl];exact hj
        have hk:=k3 j (by rw [←hsl];exact hj)
        rw [List.getElem?_eq_getElem hj',add_add_,←hsl] at hk
        have hpj:j<(f i).length:=by rw [g1.1];exact hj
        exact ⟨_,_,hk,List.getElem?_eq_getElem hpj,g3.2 j _ _ (List.getElem?_eq_getElem hpj) (List.getElem?_eq_getElem hj')⟩
       refine one _ (.sl 1 s.length len f) _ (.sl s len f (Nat.le_trans hlc hcm) (fun i hi=>(hf' i hi).1.1) (fun i j s' p hi hs' hp=>(hf' i hi).1.2 j s' p hs' hp)) ?_ rfl
       have hsh:∀i,i<len→∀c∈f i,∃s',ShR s' c:=fun i hi c hc=>by
        obtain ⟨j,hj⟩:=List.getElem?_of_mem hc
        have hlt:=(List.getElem?_eq_some_iff.1 hj).1
        have hlt2:j<s.length:=by rw [←(hf' i hi).1.1];exact hlt
        exact ⟨_,(hf' i hi).1.2 j _ _ (List.getElem?_eq_getElem hlt2) hj⟩
       refine .sl 1 s.length len f (some a) cap (fun k=>(w.cell? (a.add k)).getD undef) hlc (fun i hi=>(hf' i hi).1.1) (fun i hi c hc=>by obtain ⟨s',h⟩:=hsh i hi c hc;exact h.flat) (fun hn=> ?_) (fun i j c hi hc=> ?_)
       ·obtain ⟨u,p,h1,_,_⟩:=hcell 0 0 hn hpos
        have hblk:a.block<w.heap.size:=by
         obtain ⟨_,cs',g2,_⟩:=hf' 0 hn
         have:=World.cells?_block g2 (by omega)
         have e:(a.add (0*P.cellsOf e)).block=a.block:=by unfold Addr.add;split<;>rfl
         rwa [e] at this
        refine ⟨a,rfl,hX _ hblk,hblk,fun k hk=> ?_⟩
        have hk1:k / s.length<len:=by rw [Nat.div_lt_iff_lt_mul hpos];exact hk
        obtain ⟨u,p,h1,_,_⟩:=hcell (k / s.length) (k % s.length) hk1 (Nat.mod_lt _ hpos)
        rw [Nat.mul_comm,Nat.div_add_mod] at h1
        exact cellT_pos (by decide) (by rw [h1];rfl)
       ·have hj:j<s.length:=by rw [←(hf' i hi).1.1];exact (List.getElem?_eq_some_iff.1 hc).1
        obtain ⟨u,p,h1,h2,h3⟩:=hcell i j hi hj
        rw [h2] at hc;injection hc with hc;subst hc
        obtain ⟨s',h⟩:=hsh i hi p (List.mem_of_getElem? h2)
        rw [h.mark1,h1];exact h3
     ·cases h
    ·cases h
   ·rename_i fs ht
    split at h
    ·rename_i s hs
     split at h
     ·rename_i hsl
      injection h with h;subst h
      obtain ⟨xs,n,rfl,_,hcl,hxl,hx⟩:=DataW.trod_struct ht hd
      obtain ⟨ps,h1,h2,h3⟩:=trod_fields (cs:=cs) (xs:=xs) (ih n) fs.toList 0 0 s hs (by omega) (fun i f hf=>by rw [Nat.zero_add];exact hx i f (by simpa using hf)) (by simpa using hxl.symm)
      exact ⟨ps,h1,by simpa using h2,by simpa using h3⟩
     ·cases h
    ·cases h
   ·cases h
end
open Go.RowKit Go.ChangeShapes
section
variable {H:Type} {enc:TypeId×Value→H} {P:Program} {w:World} {sp:Nat→Bool} {held:Bool}
def cx0 (w:World):Cx:=⟨w.heap.size,fun b=>b<w.heap.size,fun _=>False,0,fun _=>none, []⟩
def gh0:Gh:=fun _=>none
theorem gh0_own (b:Nat):¬gh0.own b:=by rintro ⟨r,ge,h,_⟩;cases h
theorem lie0 (b:Nat) (hb:b<w.heap.size):mayLie (cx0 w) gh0 1 b:=⟨gh0_own b, .inr (.inl ⟨Nat.le_refl _,hb⟩)⟩
def GlobOK (w:World):Prop:=∀b p,glob b=some p→∃o,w.heap[b]? =some o∧p o
theorem st0 (hgl:GlobOK w):RepSt (cx0 w) gh0 w (fun r=>([]:List SE)[r]?):=
 ⟨fun r=>by simp [gh0],fun r ge e h=>(by cases h),fun r r' ge ge' b h=>(by cases h),fun b hb=>absurd hb (gh0_own b),fun b hb=>absurd hb (gh0_own b),fun b p hb=>⟨hgl b p hb,gh0_own b,by
  obtain ⟨o,h1,_⟩:=hgl b p hb
  exact (Array.getElem?_eq_some_iff.1 h1).1⟩⟩
theorem law_calls (hgl:GlobOK w) {f:FuncId} {args:List PV} {vals:List Value} (h:PureCall P f args [] ⟨.bool true, [], []⟩) (hr:RepL (cx0 w) gh0 w args vals):
  Calls P f vals.toArray w fun e w'=>e= .returned (.bool true)∧Below w.heap.size w w':=by
 have hst:RepSt ⟨w.heap.size,(cx0 w).as,(cx0 w).ls,([]:List SE).length,gh0, []⟩ gh0 w (fun r=>([]:List SE)[r]?):=
  st0 (w:=w) hgl
 refine (h.2 w gh0 (cx0 w).as (cx0 w).ls vals hst (fun b hb=>hb.elim (fun h=>h) (fun h=>h.elim)) hr).mono ?_
 rintro e w' ⟨v,γ',rfl,hv,_,hk,_,_⟩
 cases hv.bool_inv
 exact ⟨rfl,hk.os,hk.tape,hk.output,hk.size,fun k hk'=>hk.block k hk' (gh0_own k)⟩
theorem arg_one {m:Nat} {t:TypeId} {s:Sh} {v:Value} {d:DataW H} {ps:List MemPlace} (hs:shp P m t=some [s]) (hv:v.oneCell'=true) (h:DataW.Trod enc P w 0 sp held t v d ps):∃p,ShR s p∧Rep (cx0 w) gh0 w p v:=by
 obtain ⟨fuel,hf⟩:=h
 rw [cells_one hv] at hf
 obtain ⟨ps,h1,h2,_⟩:=trod_rep (X:=cx0 w) (γ:=gh0) lie0 _ _ _ _ _ _ hs hf
 obtain ⟨h1,h1'⟩:=h1
 match ps,h1 with
 | [p],_=>
   obtain ⟨u,us,hu,hr,_⟩:=h2.cons_inv
   simp only [List.cons.injEq] at hu
   exact ⟨p,h1' 0 s p rfl rfl,by rw [hu.1];exact hr⟩
theorem Rep.le0 (hgl:GlobOK w) {p q:PV} {v:Value} (h:Rep (cx0 w) gh0 w p v) (hl:PLe (fun r=>([]:List SE)[r]?) (fun _=>true) p q):Rep (cx0 w) gh0 w q v:=
 h.le (γk:=gh0) (st0 hgl) (fun r ge b hr _ _=>(by cases hr)) (fun r ge hr _=>hr) (fun r ge hr=>⟨hr,rfl⟩) q hl
theorem sh_list (hgl:GlobOK w) {α:Type} [Inhabited α] (e:α→List PV) (Q:α→Prop) {shs:List Sh} (hdec:∀ps,ShL shs ps→∃x,ps=e x∧Q x) {p:PV} (h:ShR (.sl shs) p) {v:Value} (hr:Rep (cx0 w) gh0 w p v):
  ∃l:List α,Rep (cx0 w) gh0 w (.sl 1 shs.length l.length (fl e l)) v∧l.length≤maxLen∧∀x∈l,Q x:=by
 cases h with
 | sl _ n f hn h1 h2=>
   have hx:∀i,∃x,i<n→f i=e x∧Q x:=fun i=>by
    by_cases hi:i<n
    ·obtain ⟨x,hx⟩:=hdec (f i) ⟨h1 i hi,fun j s p hs hp=>h2 i j s p hi hs hp⟩
     exact ⟨x,fun _=>hx⟩
    ·exact ⟨default,fun h=>absurd h hi⟩
   let g:Nat→α:=fun i=>Classical.choose (hx i)
   have hg:∀i,i<n→f i=e (g i)∧Q (g i):=fun i=>Classical.choose_spec (hx i)
   refine ⟨(List.range n).map g,hr.le0 hgl ?_,by simpa using hn,fun x hm=> ?_⟩
   ·refine ⟨Nat.le_refl _,rfl,by simp,fun i hi=> ?_⟩
    rw [(hg i hi).1]
    simp [fl,List.getD_eq_getElem?_getD,hi]
   ·obtain ⟨i,hi,rfl⟩:=List.mem_map.1 hm
    exact (hg i (List.mem_range.1 hi)).2
theorem sh_int {k:IntKind} {p:PV} (h:ShR (.int k) p):∃n,p= .int k n∧inR k n:=by cases h with | int _ n h=>exact ⟨n,rfl,h⟩
theorem shl_cons {s:Sh} {ss:List Sh} {ps:List PV} (h:ShL (s::ss) ps):∃p qs,ps=p::qs∧ShR s p∧ShL ss qs:=by
 obtain ⟨h1,h2⟩:=h
 match ps,h1 with
 | p::qs,h1=>exact ⟨p,qs,rfl,h2 0 s p rfl rfl,by simpa using h1,fun j s' p' hs hp=>h2 (j+1) s' p' (by simpa using hs) (by simpa using hp)⟩
theorem shl_nil {ps:List PV} (h:ShL [] ps):ps= []:=List.eq_nil_of_length_eq_zero h.1
end
open Go.RowKit Go.ChangeShapes
open Go.RowKit Go.ChangeShapes
open Go.RowKit
variable {P:Program} {wr:Bool} {np n:Nat} {c:C} {Q:Lv→PS→Prop}
theorem LSem.adoptF {fr:Nat→Option PV} {st:Nat→Option SE} {ok:Prop} {log:Nat→Option LogE} (r k R:Nat) (e:TypeId) (z z':Nat) (l:List PV) (h1:st r=some (.box l)) (hk:l[k]? =some (.nil z')) (h2:st R=none)
  (h:LSem P wr np c Q ⟨n,fr,upd (upd st R (.row 0 e z 0 (fun _=> []))) r (.box (l.set k (.os R))),ok,log⟩):LSem P wr np c Q ⟨n,fr,st,ok,log⟩:=by
 intro hQ code hc X w0 may a w γ hX hR
 have hne:r≠R:=fun e=>by rw [e,h2] at h1;cases h1
 let ge:GE:=⟨none, .slice none 0 0,z⟩
 have hE:EffOK X γ w st (Eff.pure (.os R)) (.slice none 0 0) w (upd γ R ge) (upd st R (.row 0 e z 0 (fun _=> []))):=
  EffOK.add hR.st hR.hX h2 rfl (Keeps.refl _ _) (fun b hb=>by rcases hb with hb | hb<;>cases hb) (fun _=>⟨[],rfl,rfl,rfl,⟨by simp, .inl ⟨rfl,rfl⟩⟩,by simp,fun i hi=>by omega,fun i hi=>by omega,fun i j c u hi=>by omega⟩)
   (fun _=> .os R ge (upd_same _ _ _) rfl rfl)
 have hR2:Rel X w0 may (a.put none (.slice none 0 0)) w ⟨n,fr,upd st R (.row 0 e z 0 (fun _=> [])),ok,log⟩ (upd γ R ge):=
  hR.after (s':=⟨n,fr,upd st R (.row 0 e z 0 (fun _=> [])),ok,log⟩) hE rfl fun t p hp=> .inr ⟨by simp,p,hp,(void_nil p).symm⟩
 have hr1:(upd st R (.row 0 e z 0 (fun _=> []))) r=some (.box l):=by rw [upd_ne _ _ hne];exact h1
 refine h hQ code hc X w0 may a w (upd γ R ge) hX ⟨hR2.size,hR2.defers,hR2.fr, ?_,hR2.keeps,hR2.lo,hR2.own,hR2.asLt,fun q hq=> ?_,hR2.mayP,fun q en hq hf=> ?_⟩
 ·have hst:=hR2.st
  refine ⟨fun q=> ?_,fun q g en hg hen=> ?_,hst.inj,hst.asOff,hst.lt,hst.glob⟩
  ·have:=hst.dom q
   by_cases hqr:q=r
   ·subst hqr
    simp only [upd_same]
    simp only at this
    rw [this,hr1];rfl
   ·simp only [upd_ne _ _ hqr];exact this
  ·by_cases hqr:q=r
   ·subst hqr
    simp only [upd_same,Option.some.injEq] at hen
    subst hen
    obtain ⟨b,g1,hbx⟩:=hst.at_ q g (.box l) hg hr1
    rcases hbx with ⟨T,vs,g3,g5,g4⟩ | ⟨ks,vks,ka,va,hh,ff,es,clock,hl,_⟩
    rotate_left
    ·rw [hl] at hk
     match k,hk with
     | 0,hk=>cases hk
     | k+1,hk=>simp at hk
    refine ⟨b,g1, .inl ⟨T,vs,g3,g5,by rw [List.length_set];exact g4.1,fun j c u hc hu=> ?_⟩⟩
    by_cases hj:j=k
    ·subst hj
     have hlt:j<l.length:=(List.getElem?_eq_some_iff.1 hk).1
     rw [List.getElem?_set_self hlt] at hc
     injection hc with hc;subst hc
     have:=(g4.2 j _ u hk hu).nil_inv
     rw [this]
     exact .os R ge (upd_same _ _ _) rfl rfl
    ·rw [List.getElem?_set_ne (by omega)] at hc
     exact g4.2 j c u hc hu
   ·simp only [upd_ne _ _ hqr] at hen
    exact hst.at_ q g en hg hen
 ·have:=hR2.par q hq
  by_cases hqr:q=r
  ·subst hqr
   simp only [upd_same]
   simp only at this
   rw [hr1] at this
   exact this
  ·simp only [upd_ne _ _ hqr];exact this
 ·by_cases hqr:q=r
  ·subst hqr
   simp only [upd_same,Option.some.injEq] at hq
   subst hq
   cases hf
  ·simp only [upd_ne _ _ hqr] at hq
   exact hR2.fx q en hq hf
def c87L1:C:=(.seq (sr [km 24 4,kk 25 (.bi false .gtr 24 (cn 0))] (.cond 25 .skip (.exit 0))) (.seq (.block 1 (sr [km 28 0,kk 29 (cl 8 [28,(cn 16)]),km 5 29] (.drw [kk 30 (.fa 3 3),kk 31 (.ld 1 false 30),km 32 5,km 33 5,kk 34 (.bi false .add 33 (cn 1)),km 35 0,kk 36 (cl 8 [35,(cn 5)]),kk 37 (.bi false .add 34 36),kk 38 (.bd [(.int .i64 0),(.int .i64 0)] [(0,1,32),(1,1,37)]),kk 39 (.bs 86 2 [38]),kk 40 (.app 86 2 16 31 39),kk 41 (.fa 3 3),kz (.st 1 41 40)] (pl [(0,[2,3,4,5,6,7,8,9],30),(1,[2,3,4,5,6,7,8,9],31),(2,[3,4,5,6,7],32),(3,[5,6],33),(4,[5,6],34)])))) (.reg [km 26 4,kk 27 (.bi false .sub 26 (cn 1)),km 4 27])))
def c87:C:=(sr [kk 2 (.al [(.nil 2),(.int .i64 0),(.int .i64 0),(.nil 2),(.int .i64 0),(.int .i64 0)])] (sr [km 6 0,kk 7 (cl 86 [6,(cn 0),(cn 0),(cn 10),(cn 30),(.c (.bool false))]),km 8 0,kk 9 (cl 8 [8,(cn 8)]),kk 10 (.bi false .add (cn 1) 9),km 11 0,kk 12 (cl 8 [11,(cn 3)]),km 13 0,kk 14 (cl 8 [13,(cn 3)]),kk 15 (.bd [(.nil 2),(.int .i64 0),(.int .i64 0),(.nil 2),(.int .i64 0),(.int .i64 0)] [(0,1,7),(1,1,10),(4,1,12),(5,1,14)]),kk 3 (.al [(.nil 2),(.int .i64 0),(.int .i64 0),(.nil 2),(.int .i64 0),(.int .i64 0)]),kz (.st 6 3 15)] (.seq (.drw [kk 16 (.fa 1 3),kk 17 (.ld 1 false 16),km 18 0,kk 19 (cl 8 [18,(cn 12)]),kk 20 (.bi false .add 17 19),kk 21 (.fa 2 3),kz (.st 1 21 20)] (pl [(0,[2,3],16),(1,[2,3],17)])) (.seq (sr [km 22 0,kk 23 (cl 8 [22,(cn 3)]),km 4 23] (.block 0 (.loop c87L1))) (sr [kk 42 (.ld 6 true 3),kz (.st 6 2 42)] .ret)))))
theorem fits87:fits Tryz.prog false Tryz.f87 1 43 [(2,some (6,true))]=some c87.er:=by kernel_rfl
def c88:C:=(sr [kk 3 (.bx 6 1),kk 4 (.al [(.int .i64 0),(.int .i64 0),(.bool false)])] (sr [km 8 0,kk 9 (cl 8 [8,(cn 5)]),km 10 0,kk 11 (cl 8 [10,(cn 7)]),kk 12 (.bi false .eql 11 (cn 6)),kk 13 (.bd [(.int .i64 0),(.int .i64 0),(.bool false)] [(1,1,9),(2,1,12)]),kk 5 (.al [(.int .i64 0),(.int .i64 0),(.bool false)]),kz (.st 3 5 13)] (.seq (sr [kk 15 (.ld 6 true 3),kk 16 (cl 121 [15,(cn 1)]),km 14 16,kk 17 (.ex 14 0),kk 18 (.ex 14 1),km 6 17,km 7 18] (sr [km 19 6,kk 20 (.len 19),kk 21 (.bi false .gtr 20 (cn 0)),km 22 21,kg 23 22 true (.fa 2 5),kg 24 22 true (.ld 1 false 23),kg 25 22 true (.un false .not 24),kk 26 (.pick 22 25 (.c (.bool false))),km 27 26,kg 28 27 true (.mv 0),kg 29 27 true (cl 8 [28,(cn 2)]),kg 30 27 true (.bi false .eql 29 (cn 0)),kk 31 (.pick 27 30 (.c (.bool false)))] (.cond 31 (.reg [km 32 6,km 33 0,km 34 6,kk 35 (.len 34),kk 36 (cl 8 [33,35]),kk 37 (.ia 1 32 36),kk 38 (.ld 1 false 37),kk 39 (.fa 0 5),kz (.st 1 39 38)]) .skip))) (sr [kk 40 (.ld 3 true 5),kz (.st 3 4 40)] .ret))))
theorem fits88:fits Tryz.prog false Tryz.f88 2 41 [(4,some (3,true))]=some c88.er:=by kernel_rfl
def c57L1:C:=(.seq (sr [km 14 8,kk 15 (.bi false .gtr 14 (cn 0))] (.cond 15 .skip (.exit 0))) (.seq (.block 1 (sr [km 18 0,kk 19 (cl 87 [18]),kk 9 (.al [(.nil 2),(.int .i64 0),(.int .i64 0),(.nil 2),(.int .i64 0),(.int .i64 0)]),kz (.st 6 9 19)] (.drw [km 20 6,kk 21 (.ld 6 true 9),kk 22 (.bs 207 6 [21]),kk 23 (.app 207 6 80 20 22),km 24 7,km 25 0,kk 26 (.ld 6 true 9),kk 27 (cl 88 [25,26]),kk 28 (.bs 210 3 [27]),kk 29 (.app 210 3 24 24 28),km 6 23,km 7 29] (pl [(0,[1,2,4,5,6],20),(1,[4,5,6],21),(2,[4,5,6],22),(3,[4,5,6],23),(4,[5,6,7,8],24),(5,[6],25)])))) (.reg [km 16 8,kk 17 (.bi false .sub 16 (cn 1)),km 8 17])))
def c57:C:=(sr [kk 4 (.mv (.c (.nil 6))),kk 5 (.mv (.c (.nil 3)))] (sr [kk 6 (.mv (.c (.nil 6)))] (sr [kk 7 (.mv (.c (.nil 3)))] (.seq (sr [km 10 0,km 11 1,kk 12 (.bi false .add 11 (cn 1)),kk 13 (cl 8 [10,12]),km 8 13] (.block 0 (.loop c57L1))) (sr [km 30 6,km 31 7,km 4 30,km 5 31] .ret)))))
theorem fits57:fits Tryz.prog false Tryz.f57 2 32 [(4,none),(5,none)]=some c57.er:=by kernel_rfl
structure Us where
 flow:Int
 since:Int
 out:Bool
 deriving Inhabited
def eUs (s:Us):List PV:= [.int .i64 s.flow, .int .i64 s.since, .bool s.out]
def rghN (s:List Bnd×Dk):List Bnd×Dk:=(s.1++ [⟨nxt s.2 16,nxt s.2 16+1+nxt (nxtD s.2 16) 5⟩],nxtD (nxtD s.2 16) 5)
def unitC (d:Dk):Cst:=curveS d 0 0 10 30 0
def unitE (d:Dk):Dk:=nxtD (nxtD (nxtD (nxtD (unitC d).d 8) 3) 3) 12
def unitR (d:Dk):List Bnd×Dk:=it rghN (nxt (unitE d) 3).toNat ([],nxtD (unitE d) 3)
def unitF (d:Dk):Ut×Dk:=
 (⟨(unitC d).L,1+nxt (unitC d).d 8,1+nxt (unitC d).d 8+nxt (nxtD (nxtD (nxtD (unitC d).d 8) 3) 3) 12,(unitR d).1,nxt (nxtD (unitC d).d 8) 3,nxt (nxtD (nxtD (unitC d).d 8) 3) 3⟩,(unitR d).2)
def ustF (d:Dk) (u:Ut):Us×Dk:=
 let e:=nxtD (nxtD d 5) 7
 let l:=(flowsU u 1).1
 if 0<l.length∧(nxt (nxtD d 5) 7==6)=false then
  if nxt e 2=0 then (⟨l.getD (nxt (nxtD e 2) l.length).toNat default,nxt d 5,nxt (nxtD d 5) 7==6⟩,nxtD (nxtD e 2) l.length) else (⟨0,nxt d 5,nxt (nxtD d 5) 7==6⟩,nxtD e 2)
 else (⟨0,nxt d 5,nxt (nxtD d 5) 7==6⟩,e)
def unN (s:List Ut×List Us×Dk):List Ut×List Us×Dk:=(s.1++ [(unitF s.2.2).1],s.2.1++ [(ustF (unitF s.2.2).2 (unitF s.2.2).1).1],(ustF (unitF s.2.2).2 (unitF s.2.2).1).2)
def unitsF (d:Dk) (m:Int):List Ut×List Us×Dk:=it unN (nxt d (m+1)).toNat ([], [],nxtD d (m+1))
theorem rgh_ok:∀(n:Nat) (s:List Bnd×Dk),(it rghN n s).1.length=s.1.length+n∧(it rghN n s).2.at_≤s.2.at_+2*n
 | 0,s=>⟨rfl,Nat.le_refl _⟩
 | n+1,s=>by
   have ih:=rgh_ok n (rghN s)
   have e1:(rghN s).1.length=s.1.length+1:=by simp [rghN]
   have e2:(rghN s).2=nxtD (nxtD s.2 16) 5:=rfl
   have a1:=nxtD_at s.2 16
   have a2:=nxtD_at (nxtD s.2 16) 5
   unfold it
   rw [e1,e2] at ih
   omega
theorem unitR_ok (d:Dk):(unitR d).1.length≤2∧(unitR d).2.at_≤(unitE d).at_+5:=by
 have hr:=rgh_ok (nxt (unitE d) 3).toNat ([],nxtD (unitE d) 3)
 have hu:unitR d=it rghN (nxt (unitE d) 3).toNat ([],nxtD (unitE d) 3):=rfl
 rw [←hu] at hr
 rw [List.length_nil] at hr
 generalize unitR d=R at hr⊢
 clear hu
 generalize unitE d=e at hr⊢
 have r1:=nxt_lt e (n:=3) (by omega)
 have a0:=nxtD_at e 3
 generalize nxt e 3=x at r1 hr
 dsimp only at hr
 generalize nxtD e 3=y at a0 hr
 omega
theorem unitE_at (d:Dk):(unitE d).at_≤(unitC d).d.at_+4:=by
 unfold unitE
 generalize (unitC d).d=e
 have a1:=nxtD_at e 8
 generalize nxtD e 8=e1 at a1⊢
 have a2:=nxtD_at e1 3
 generalize nxtD e1 3=e2 at a2⊢
 have a3:=nxtD_at e2 3
 generalize nxtD e2 3=e3 at a3⊢
 have a4:=nxtD_at e3 12
 omega
theorem unitF_tb (d:Dk):(unitF d).1.tb=(unitC d).L:=by unfold unitF;dsimp only
theorem unitF_rough (d:Dk):(unitF d).1.rough=(unitR d).1:=by unfold unitF;dsimp only
theorem unitF_d (d:Dk):(unitF d).2=(unitR d).2:=by unfold unitF;dsimp only
theorem unitC_ok (d:Dk):MadeC (unitC d).L∧(unitC d).d.at_≤d.at_+9:=by
 have h:=curve_made d (x:=0) (y:=0) (dx:=10) (dy:=30) (least:=0) (by omega) (by omega) (by omega) (by omega) (by omega)
 unfold unitC
 exact h
theorem unitF_ok (d:Dk):(unitC d).d.at_≤d.at_+9∧MadeC (unitF d).1.tb∧(unitF d).1.rough.length≤2∧(unitF d).2.at_≤d.at_+20:=by
 have h:=unitC_ok d
 have h2:=unitR_ok d
 have h3:=unitE_at d
 rw [unitF_tb,unitF_rough,unitF_d]
 generalize unitR d=R at h2⊢
 generalize unitE d=E at h2 h3
 generalize unitC d=c at h h3⊢
 exact ⟨h.2,h.1,h2.1,by omega⟩
theorem ustF_at (d:Dk) (u:Ut):(ustF d u).2.at_≤d.at_+4:=by
 have a0:=nxtD_at d 5
 have a1:=nxtD_at (nxtD d 5) 7
 have a2:=nxtD_at (nxtD (nxtD d 5) 7) 2
 have a3:=nxtD_at (nxtD (nxtD (nxtD d 5) 7) 2) (flowsU u 1).1.length
 unfold ustF
 dsimp only
 split
 ·split
  ·dsimp only;omega
  ·dsimp only;omega
 ·dsimp only;omega
theorem un_ok:∀(n:Nat) (s:List Ut×List Us×Dk),(it unN n s).1.length=s.1.length+n∧(it unN n s).2.1.length=s.2.1.length+n∧(it unN n s).2.2.at_≤s.2.2.at_+24*n
 | 0,s=>⟨rfl,rfl,Nat.le_refl _⟩
 | n+1,s=>by
   have ih:=un_ok n (unN s)
   have e1:(unN s).1.length=s.1.length+1:=by simp [unN]
   have e2:(unN s).2.1.length=s.2.1.length+1:=by simp [unN]
   have e3:(unN s).2.2=(ustF (unitF s.2.2).2 (unitF s.2.2).1).2:=rfl
   have h1:=(unitF_ok s.2.2).2.2.2
   have h2:=ustF_at (unitF s.2.2).2 (unitF s.2.2).1
   unfold it
   rw [e1,e2,e3] at ih
   omega
theorem unitsF_ok (d:Dk) {m:Int} (hm:0≤m∧m≤1000):(unitsF d m).1.length≤m∧(unitsF d m).2.1.length=(unitsF d m).1.length∧(unitsF d m).2.2.at_≤d.at_+1+24*m:=by
 have r1:=nxt_lt d (n:=m+1) (by omega)
 have a1:=nxtD_at d (m+1)
 have h:=un_ok (nxt d (m+1)).toNat ([], [],nxtD d (m+1))
 unfold unitsF
 simp only [List.length_nil] at h
 generalize it unN (nxt d (m+1)).toNat ([], [],nxtD d (m+1))=W at h⊢
 omega
theorem call87 (d:Dk) (hd:d.at_≤960000000):PureCall Tryz.prog 87 [.pt 0 0 0] [.box (eDk 1 d)] ⟨.agg (eUt 0 (unitF d).1), [.box (eDk 1 (unitF d).2)], []⟩:=by
 have hok:=unitF_ok d
 refine pure_call mix Tryz.func87 fits87 rfl ?_
 conv=>whnf
 refine ⟨_,fun _=>call86 d 0 0 10 30 false (by omega) (by omega) (by omega) (by omega) (by omega), ?_⟩
 rw [show lst false=0 from rfl,show curveS d 0 0 10 30 0=unitC d from rfl]
 unfold unitF unitR unitE
 have hcl:=hok.2.1.len
 have hc0:=hok.1
 have hcl:(unitC d).L.length≤5:=hcl.2
 generalize unitC d=c at hc0 hcl⊢
 conv=>whnf
 refine ⟨_,fun _=>call_next 1 c.d 8 (by omega) (by omega), ?_⟩
 have r1:=nxt_lt c.d (n:=8) (by omega)
 have a1:=nxtD_at c.d 8
 generalize nxt c.d 8=n1 at r1⊢
 generalize nxtD c.d 8=e1 at a1⊢
 conv=>whnf
 refine ⟨_,fun _=>call_next 1 e1 3 (by omega) (by omega), ?_⟩
 have r2:=nxt_lt e1 (n:=3) (by omega)
 have a2:=nxtD_at e1 3
 generalize nxt e1 3=n2 at r2⊢
 generalize nxtD e1 3=e2 at a2⊢
 conv=>whnf
 refine ⟨_,fun _=>call_next 1 e2 3 (by omega) (by omega), ?_⟩
 have r3:=nxt_lt e2 (n:=3) (by omega)
 have a3:=nxtD_at e2 3
 generalize nxt e2 3=n3 at r3⊢
 generalize nxtD e2 3=e3 at a3⊢
 conv=>whnf
 refine ⟨_,fun _=>call_next 1 e3 12 (by omega) (by omega), ?_⟩
 have r4:=nxt_lt e3 (n:=12) (by omega)
 have a4:=nxtD_at e3 12
 generalize nxt e3 12=n4 at r4⊢
 generalize nxtD e3 12=e4 at a4⊢
 conv=>whnf
 refine ⟨rfl, ?_⟩
 conv=>whnf
 refine ⟨_,fun _=>call_next 1 e4 3 (by omega) (by omega), ?_⟩
 have r5:=nxt_lt e4 (n:=3) (by omega)
 have a5:=nxtD_at e4 3
 obtain ⟨m0,hm0⟩:∃m:Nat,(m:Int)=nxt e4 3:=⟨(nxt e4 3).toNat,by omega⟩
 rw [←hm0] at r5⊢
 rw [Int.toNat_natCast]
 generalize nxtD e4 3=e5 at a5⊢
 conv=>whnf
 refine ⟨?_, ?_⟩
 ·(try conv=>whnf)
  (repeat' (first | exact True.intro | exact fun _ h=>h | refine inR64_of ?_ ?_ | apply And.intro | refine maxLen_ge ?_))<;>(first | omega | (dsimp only;omega))
 refine LSem.adoptF 48 3 1000000 86 2 2 _ rfl rfl rfl ?_
 refine LSem.loop (n:=43) mix (α:=Nat×List Bnd×Dk) (fun s=>s.1+s.2.1.length=m0∧it rghN s.1 s.2=it rghN m0 ([],e5)∧s.2.2.at_≤970000000+2*s.2.1.length)
  (fun s=> [(0, .pt 0 0 0),(2, .pt 32 0 0),(3, .pt 48 0 0),(4, .int .i64 s.1)])
  (fun s=> [(0, .box (eDk 1 s.2.2)),(32, .box [.nil 2, .int .i64 0, .int .i64 0, .nil 2, .int .i64 0, .int .i64 0]),(48, .box [.sl 0 2 c.L.length (fl ePt c.L), .int .i64 (1+n1), .int .i64 (1+n1+n4), .os 1000000, .int .i64 n2, .int .i64 n3]),
   (1000000, .row 0 86 2 s.2.1.length (fl eBnd s.2.1))]) (fun s=>s.1) (m0, [],e5) ?_ ?_ ?_
 ·exact ⟨rfl,rfl,by dsimp only;omega⟩
 ·refine ⟨rfl,rfl, ?_, ?_⟩
  all_goals repeat' (first | exact True.intro | refine leF_cons rfl ?_ ?_ | refine leS_cons rfl ?_ ?_ | (show PLe _ _ _ _;conv=>whnf) | (show SLe _ _ _ _;conv=>whnf) | (show PLeL _ _ _ _;conv=>whnf) | apply And.intro | rfl | exact Nat.le_refl _ | exact fun _ _=>rfl | exact rowEq0 _ _)
 ·intro s hs
  obtain ⟨m,l,e⟩:=s
  obtain ⟨k1,k2,k3⟩:=hs
  dsimp only at k1 k2 k3
  conv=>whnf
  refine ⟨trivial,fun hc=> ?_,fun hc=> ?_⟩
  ·replace hc:=of_decide_eq_true hc
   obtain ⟨m,rfl⟩:∃m',m=m'+1:=⟨m - 1,by
    have h:(0:Int)<m:=hc
    omega⟩
   have hst:it rghN m (l++ [⟨nxt e 16,nxt e 16+1+nxt (nxtD e 16) 5⟩],nxtD (nxtD e 16) 5)=it rghN m0 ([],e5):=k2
   conv=>whnf
   refine ⟨_,fun _=>call_next 1 e 16 (by omega) (by omega), ?_⟩
   have q1:=nxt_lt e (n:=16) (by omega)
   have b1:=nxtD_at e 16
   generalize nxt e 16=x1 at q1 hst⊢
   generalize nxtD e 16=e6 at b1 hst⊢
   conv=>whnf
   refine ⟨_,fun _=>call_next 1 e6 5 (by omega) (by omega), ?_⟩
   have q2:=nxt_lt e6 (n:=5) (by omega)
   have b2:=nxtD_at e6 5
   generalize nxt e6 5=x2 at q2 hst⊢
   generalize nxtD e6 5=e7 at b2 hst⊢
   have q:=fl_push eBnd l ⟨x1,x1+1+x2⟩
   have hxl:(l++ [(⟨x1,x1+1+x2⟩:Bnd)]).length=l.length+1:=by simp
   conv=>whnf
   refine ⟨rfl, ?_⟩
   conv=>whnf
   refine ⟨?_,(m,l++ [⟨x1,x1+1+x2⟩],e7),⟨?_,hst, ?_⟩, ?_,rfl,rfl, ?_, ?_⟩
   ·(try conv=>whnf)
    (repeat' (first | exact True.intro | exact fun _ h=>h | refine inR64_of ?_ ?_ | apply And.intro | refine maxLen_ge ?_))<;>(first | omega | decide | (dsimp only;omega) | (dsimp only [List.length_cons,List.length_nil];omega) | (intro hg;rw [hg];rfl) | (intro hg hh;rw [hg,hh];rfl) | (intro hg;simp [-List.getD_eq_getElem?_getD, -Int.default_eq_zero] at hg;first | omega | (refine inR64_of ?_ ?_<;>omega) | (constructor<;>omega)) | (simp [-List.getD_eq_getElem?_getD, -Int.default_eq_zero];done))
   ·dsimp only;rw [hxl];omega
   ·dsimp only;rw [hxl];omega
   ·dsimp only;omega
   all_goals repeat' (first | exact True.intro | refine leF_cons rfl ?_ ?_ | refine leS_cons rfl ?_ ?_ | (show PLe _ _ _ _;conv=>whnf) | (show SLe _ _ _ _;conv=>whnf) | (show PLeL _ _ _ _;conv=>whnf) | apply And.intro | rfl | exact Nat.le_refl _ | exact fun _ _=>rfl | exact rowEq0 _ _)
   all_goals first | exact q | (dsimp only;rw [hxl];rfl) | (dsimp only;rw [hxl];done) | (dsimp only;omega) | omega | skip
  ·replace hc:=of_decide_eq_false hc
   have h0:m=0:=by
    have h:¬(0:Int)<m:=hc
    omega
   subst h0
   have hp:(l,e)=it rghN m0 ([],e5):=k2
   rw [←hp]
   conv=>whnf
   refine ⟨?_, [], ?_⟩
   ·(try conv=>whnf)
    (repeat' (first | exact True.intro | exact fun _ h=>h | refine inR64_of ?_ ?_ | apply And.intro | refine maxLen_ge ?_))<;>(first | omega | (dsimp only;omega))
   conv=>whnf
   refine ⟨rfl, ?_, ?_,trivial⟩
   all_goals repeat' (first | exact True.intro | refine leF_cons rfl ?_ ?_ | refine leS_cons rfl ?_ ?_ | (show PLe _ _ _ _;conv=>whnf) | (show SLe _ _ _ _;conv=>whnf) | (show PLeL _ _ _ _;conv=>whnf) | apply And.intro | rfl | exact Nat.le_refl _ | exact fun _ _=>rfl | exact rowEq0 _ _)
theorem call88 (τ:Nat) (d:Dk) (u:Ut) (hd:d.at_≤970000000) (hl:u.rough.length≤4611686018427387904):PureCall Tryz.prog 88 [.pt 0 0 0, .agg (eUt τ u)] [.box (eDk 1 d)] ⟨.agg (eUs (ustF d u).1), [.box (eDk 1 (ustF d u).2)], []⟩:=by
 refine pure_call mix Tryz.func88 fits88 rfl ?_
 unfold ustF
 dsimp only
 conv=>whnf
 refine ⟨_,fun _=>call_next 1 d 5 (by omega) (by omega), ?_⟩
 have r1:=nxt_lt d (n:=5) (by omega)
 have a1:=nxtD_at d 5
 generalize nxt d 5=n1 at r1⊢
 generalize nxtD d 5=e1 at a1⊢
 conv=>whnf
 refine ⟨_,fun _=>call_next 1 e1 7 (by omega) (by omega), ?_⟩
 have a2:=nxtD_at e1 7
 generalize nxtD e1 7=e2 at a2⊢
 generalize hB:(nxt e1 7==6)=B
 conv=>whnf
 refine ⟨_,fun _=>call121 _ u 1 hl, ?_⟩
 have hfl:=flowsU_len u 1
 generalize (flowsU u 1).2=E
 generalize (flowsU u 1).1=l at hfl⊢
 rw [hB]
 conv=>whnf
 refine ⟨_,fun _=>call_next 1 e2 2 (by omega) (by omega), ?_⟩
 have a3:=nxtD_at e2 2
 by_cases h1:(0:Int)<l.length
 case neg=>
  rw [if_neg (fun h=>h1 (by omega)),decide_eq_false h1]
  conv=>whnf
  refine ⟨?_,fun hc=>(by cases hc),fun _=> ?_⟩
  ·(try conv=>whnf)
   (repeat' (first | exact True.intro | exact fun _ h=>h | refine inR64_of ?_ ?_ | apply And.intro | refine maxLen_ge ?_))<;>(first | omega | decide | (dsimp only;omega) | (dsimp only [List.length_cons,List.length_nil];omega) | (intro hg;rw [hg];rfl) | (intro hg hh;rw [hg,hh];rfl) | (intro hg;simp [-List.getD_eq_getElem?_getD, -Int.default_eq_zero] at hg;first | omega | (refine inR64_of ?_ ?_<;>omega) | (constructor<;>omega)) | (simp [-List.getD_eq_getElem?_getD, -Int.default_eq_zero];done))
  conv=>whnf
  refine ⟨?_, [], ?_⟩
  ·(try conv=>whnf)
   (repeat' (first | exact True.intro | exact fun _ h=>h | refine inR64_of ?_ ?_ | apply And.intro | refine maxLen_ge ?_))<;>(first | omega | (dsimp only;omega))
  conv=>whnf
  refine ⟨rfl, ?_, ?_,trivial⟩
  all_goals repeat' (first | exact True.intro | refine leF_cons rfl ?_ ?_ | refine leS_cons rfl ?_ ?_ | (show PLe _ _ _ _;conv=>whnf) | (show SLe _ _ _ _;conv=>whnf) | (show PLeL _ _ _ _;conv=>whnf) | apply And.intro | rfl | exact Nat.le_refl _ | exact fun _ _=>rfl | exact rowEq0 _ _)
 rw [decide_eq_true h1]
 cases B with
 | true=>
   rw [if_neg (fun h=>by cases h.2)]
   conv=>whnf
   refine ⟨?_,fun hc=>(by cases hc),fun _=> ?_⟩
   ·(try conv=>whnf)
    (repeat' (first | exact True.intro | exact fun _ h=>h | refine inR64_of ?_ ?_ | apply And.intro | refine maxLen_ge ?_))<;>(first | omega | decide | (dsimp only;omega) | (dsimp only [List.length_cons,List.length_nil];omega) | (intro hg;rw [hg];rfl) | (intro hg hh;rw [hg,hh];rfl) | (intro hg;simp [-List.getD_eq_getElem?_getD, -Int.default_eq_zero] at hg;first | omega | (refine inR64_of ?_ ?_<;>omega) | (constructor<;>omega)) | (simp [-List.getD_eq_getElem?_getD, -Int.default_eq_zero];done))
   conv=>whnf
   refine ⟨?_, [], ?_⟩
   ·(try conv=>whnf)
    (repeat' (first | exact True.intro | exact fun _ h=>h | refine inR64_of ?_ ?_ | apply And.intro | refine maxLen_ge ?_))<;>(first | omega | (dsimp only;omega))
   conv=>whnf
   refine ⟨rfl, ?_, ?_,trivial⟩
   all_goals repeat' (first | exact True.intro | refine leF_cons rfl ?_ ?_ | refine leS_cons rfl ?_ ?_ | (show PLe _ _ _ _;conv=>whnf) | (show SLe _ _ _ _;conv=>whnf) | (show PLeL _ _ _ _;conv=>whnf) | apply And.intro | rfl | exact Nat.le_refl _ | exact fun _ _=>rfl | exact rowEq0 _ _)
 | false=>
   rw [if_pos ⟨by omega,rfl⟩]
   generalize nxt e2 2=n3
   generalize nxtD e2 2=e3 at a3⊢
   conv=>whnf
   refine ⟨?_,fun hc=> ?_,fun hc=> ?_⟩
   ·(try conv=>whnf)
    (repeat' (first | exact True.intro | exact fun _ h=>h | refine inR64_of ?_ ?_ | apply And.intro | refine maxLen_ge ?_))<;>(first | omega | decide | (dsimp only;omega) | (dsimp only [List.length_cons,List.length_nil];omega) | (intro hg;rw [hg];rfl) | (intro hg hh;rw [hg,hh];rfl) | (intro hg;simp [-List.getD_eq_getElem?_getD, -Int.default_eq_zero] at hg;first | omega | (refine inR64_of ?_ ?_<;>omega) | (constructor<;>omega)) | (simp [-List.getD_eq_getElem?_getD, -Int.default_eq_zero];done))
   ·have hc:n3=0:=beq_iff_eq.1 hc
    rw [if_pos hc]
    conv=>whnf
    refine ⟨_,fun _=>call_next 1 e3 l.length (by omega) (by omega), ?_⟩
    have r4:=nxt_lt e3 h1
    generalize nxt e3 l.length=n4 at r4⊢
    generalize nxtD e3 l.length=e4
    conv=>whnf
    refine ⟨?_, [], ?_⟩
    ·(try conv=>whnf)
     (repeat' (first | exact True.intro | exact fun _ h=>h | refine inR64_of ?_ ?_ | apply And.intro | refine maxLen_ge ?_))<;>(first | omega | (dsimp only;omega))
    conv=>whnf
    refine ⟨rfl, ?_, ?_,trivial⟩
    all_goals repeat' (first | exact True.intro | refine leF_cons rfl ?_ ?_ | refine leS_cons rfl ?_ ?_ | (show PLe _ _ _ _;conv=>whnf) | (show SLe _ _ _ _;conv=>whnf) | (show PLeL _ _ _ _;conv=>whnf) | apply And.intro | rfl | exact Nat.le_refl _ | exact fun _ _=>rfl | exact rowEq0 _ _)
   ·have hc:¬n3=0:=beq_eq_false_iff_ne.1 hc
    rw [if_neg hc]
    conv=>whnf
    refine ⟨?_, [], ?_⟩
    ·(try conv=>whnf)
     (repeat' (first | exact True.intro | exact fun _ h=>h | refine inR64_of ?_ ?_ | apply And.intro | refine maxLen_ge ?_))<;>(first | omega | (dsimp only;omega))
    conv=>whnf
    refine ⟨rfl, ?_, ?_,trivial⟩
    all_goals repeat' (first | exact True.intro | refine leF_cons rfl ?_ ?_ | refine leS_cons rfl ?_ ?_ | (show PLe _ _ _ _;conv=>whnf) | (show SLe _ _ _ _;conv=>whnf) | (show PLeL _ _ _ _;conv=>whnf) | apply And.intro | rfl | exact Nat.le_refl _ | exact fun _ _=>rfl | exact rowEq0 _ _)
theorem call57 (d:Dk) (m:Int) (hd:d.at_≤950000000) (hm:0≤m∧m≤1000):PureCall Tryz.prog 57 [.pt 0 0 0, .int .i64 m] [.box (eDk 1 d)]
  ⟨.tup [.sl 0 6 (unitsF d m).1.length (fl (eUt 0) (unitsF d m).1), .sl 0 3 (unitsF d m).2.1.length (fl eUs (unitsF d m).2.1)], [.box (eDk 1 (unitsF d m).2.2)], []⟩:=by
 refine pure_call mix Tryz.func57 fits57 rfl ?_
 conv=>whnf
 refine ⟨_,fun _=>call_next 1 d (m+1) (by omega) (by omega), ?_⟩
 have r0:=nxt_lt d (n:=m+1) (by omega)
 have a0:=nxtD_at d (m+1)
 unfold unitsF
 obtain ⟨m0,hm0⟩:∃m0:Nat,(m0:Int)=nxt d (m+1):=⟨(nxt d (m+1)).toNat,by omega⟩
 rw [←hm0] at r0⊢
 rw [Int.toNat_natCast]
 generalize nxtD d (m+1)=d0 at a0⊢
 conv=>whnf
 refine ⟨?_, ?_⟩
 ·(try conv=>whnf)
  (repeat' (first | exact True.intro | exact fun _ h=>h | refine inR64_of ?_ ?_ | apply And.intro | refine maxLen_ge ?_))<;>(first | omega | (dsimp only;omega))
 refine LSem.adopt 6 1000000 207 6 6 rfl rfl ?_
 refine LSem.adopt 7 1000001 210 3 3 rfl rfl ?_
 refine LSem.loop (n:=32) mix (α:=Nat×List Ut×List Us×Dk) (fun s=>s.1+s.2.1.length=m0∧s.2.2.1.length=s.2.1.length∧it unN s.1 s.2=it unN m0 ([], [],d0)∧s.2.2.2.at_≤950000001+24*s.2.1.length)
  (fun s=> [(0, .pt 0 0 0),(6, .os 1000000),(7, .os 1000001),(8, .int .i64 s.1)])
  (fun s=> [(0, .box (eDk 1 s.2.2.2)),(1000000, .row 0 207 6 s.2.1.length (fl (eUt 0) s.2.1)),(1000001, .row 0 210 3 s.2.2.1.length (fl eUs s.2.2.1))]) (fun s=>s.1) (m0, [], [],d0) ?_ ?_ ?_
 ·exact ⟨rfl,rfl,rfl,by dsimp only;omega⟩
 ·refine ⟨rfl,rfl, ?_, ?_⟩
  all_goals repeat' (first | exact True.intro | refine leF_cons rfl ?_ ?_ | refine leS_cons rfl ?_ ?_ | (show PLe _ _ _ _;conv=>whnf) | (show SLe _ _ _ _;conv=>whnf) | (show PLeL _ _ _ _;conv=>whnf) | apply And.intro | rfl | exact Nat.le_refl _ | exact fun _ _=>rfl | exact rowEq0 _ _)
 ·intro s hs
  obtain ⟨n,l,y,e⟩:=s
  obtain ⟨k1,k2,k3,k4⟩:=hs
  dsimp only at k1 k2 k3 k4
  conv=>whnf
  refine ⟨trivial,fun hc=> ?_,fun hc=> ?_⟩
  ·replace hc:=of_decide_eq_true hc
   obtain ⟨n,rfl⟩:∃n',n=n'+1:=⟨n - 1,by
    have h:(0:Int)<n:=hc
    omega⟩
   have hst:it unN n (l++ [(unitF e).1],y++ [(ustF (unitF e).2 (unitF e).1).1],(ustF (unitF e).2 (unitF e).1).2)=it unN m0 ([], [],d0):=k3
   have h1:=unitF_ok e
   conv=>whnf
   refine ⟨_,fun _=>call87 e (by omega), ?_⟩
   generalize unitF e=U at h1 hst⊢
   obtain ⟨u,e1⟩:=U
   obtain ⟨_,h2,h3,h4⟩:=h1
   dsimp only at h2 h3 h4 hst
   have h5:=ustF_at e1 u
   have q:=fl_push (eUt 0) l u
   have hxl:(l++ [u]).length=l.length+1:=by simp
   conv=>whnf
   refine ⟨_,fun _=>call88 _ e1 u (by omega) (by omega), ?_⟩
   generalize ustF e1 u=S at h5 hst⊢
   have q2:=fl_push eUs y S.1
   have hyl:(y++ [S.1]).length=y.length+1:=by simp
   conv=>whnf
   refine ⟨rfl, ?_⟩
   conv=>whnf
   refine ⟨?_,(n,l++ [u],y++ [S.1],S.2),⟨?_, ?_,hst, ?_⟩, ?_,rfl,rfl, ?_, ?_⟩
   ·(try conv=>whnf)
    (repeat' (first | exact True.intro | exact fun _ h=>h | refine inR64_of ?_ ?_ | apply And.intro | refine maxLen_ge ?_))<;>(first | omega | decide | (dsimp only;omega) | (dsimp only [List.length_cons,List.length_nil];omega) | (intro hg;rw [hg];rfl) | (intro hg hh;rw [hg,hh];rfl) | (intro hg;simp [-List.getD_eq_getElem?_getD, -Int.default_eq_zero] at hg;first | omega | (refine inR64_of ?_ ?_<;>omega) | (constructor<;>omega)) | (simp [-List.getD_eq_getElem?_getD, -Int.default_eq_zero];done))
   ·dsimp only;rw [hxl];omega
   ·dsimp only;rw [hxl,hyl];omega
   ·dsimp only;rw [hxl];omega
   ·dsimp only;omega
   all_goals repeat' (first | exact True.intro | refine leF_cons rfl ?_ ?_ | refine leS_cons rfl ?_ ?_ | (show PLe _ _ _ _;conv=>whnf) | (show SLe _ _ _ _;conv=>whnf) | (show PLeL _ _ _ _;conv=>whnf) | apply And.intro | rfl | exact Nat.le_refl _ | exact fun _ _=>rfl | exact rowEq0 _ _)
   all_goals first | exact q | exact q2 | (dsimp only;rw [hxl];rfl) | (dsimp only;rw [hyl];rfl) | (dsimp only;rw [hxl];done) | (dsimp only;rw [hyl];done) | (dsimp only;omega) | omega | skip
  ·replace hc:=of_decide_eq_false hc
   have h0:n=0:=by
    have h:¬(0:Int)<n:=hc
    omega
   subst h0
   have hp:(l,y,e)=it unN m0 ([], [],d0):=k3
   rw [←hp]
   conv=>whnf
   refine ⟨?_, [], ?_⟩
   ·(try conv=>whnf)
    (repeat' (first | exact True.intro | exact fun _ h=>h | refine inR64_of ?_ ?_ | apply And.intro | refine maxLen_ge ?_))<;>(first | omega | (dsimp only;omega))
   conv=>whnf
   refine ⟨rfl, ?_, ?_,trivial⟩
   all_goals repeat' (first | exact True.intro | refine leF_cons rfl ?_ ?_ | refine leS_cons rfl ?_ ?_ | (show PLe _ _ _ _;conv=>whnf) | (show SLe _ _ _ _;conv=>whnf) | (show PLeL _ _ _ _;conv=>whnf) | apply And.intro | rfl | exact Nat.le_refl _ | exact fun _ _=>rfl | exact rowEq0 _ _)
def c89L1:C:=(.seq (sr [km 16 5,kk 17 (.bi false .geq 16 (cn 0))] (.cond 17 .skip (.exit 0))) (.seq (.block 1 (.seq (.drw [kk 20 (.fa 0 3),kk 21 (.ld 1 false 20),km 22 4,km 23 0,kk 24 (cl 86 [23,(cn 0),(cn 0),(cn 6),(cn 20),(.c (.bool false))]),kk 25 (.bd [(.int .i64 0),(.nil 2)] [(0,1,22),(1,1,24)]),kk 26 (.bs 252 2 [25]),kk 27 (.app 252 2 32 21 26),kk 28 (.fa 0 3),kz (.st 1 28 27)] (pl [(0,[2,3,4,5,6],20),(1,[2,3,4,5,6],21),(2,[3,4],22)])) (.reg [km 29 4,km 30 0,kk 31 (cl 8 [30,(cn 40)]),kk 32 (.bi false .add (cn 1) 31),kk 33 (.bi false .add 29 32),km 4 33]))) (.reg [km 18 5,kk 19 (.bi false .sub 18 (cn 1)),km 5 19])))
def c89:C:=(sr [kk 2 (.al [(.nil 2),(.int .i64 0),(.int .i64 0)])] (sr [km 6 0,kk 7 (cl 8 [6,(cn 12)]),km 8 0,kk 9 (cl 8 [8,(cn 6)]),kk 10 (.bd [(.nil 2),(.int .i64 0),(.int .i64 0)] [(1,1,7),(2,1,9)]),kk 3 (.al [(.nil 2),(.int .i64 0),(.int .i64 0)]),kz (.st 3 3 10)] (sr [km 11 0,kk 12 (cl 8 [11,(cn 40)]),kk 13 (.bi false .add (cn 90) 12),km 4 13] (.seq (sr [km 14 0,kk 15 (cl 8 [14,(cn 3)]),km 5 15] (.block 0 (.loop c89L1))) (sr [kk 34 (.ld 3 true 3),kz (.st 3 2 34)] .ret)))))
theorem fits89:fits Tryz.prog false Tryz.f89 1 35 [(2,some (3,true))]=some c89.er:=by kernel_rfl
def c58L1:C:=(.seq (sr [km 14 8,kk 15 (.bi false .gtr 14 (cn 0))] (.cond 15 .skip (.exit 0))) (.seq (.block 1 (sr [km 18 0,kk 19 (cl 89 [18]),kk 9 (.al [(.nil 2),(.int .i64 0),(.int .i64 0)]),kz (.st 3 9 19)] (.drw [km 20 6,kk 21 (.ld 3 true 9),kk 22 (.bs 214 3 [21]),kk 23 (.app 214 3 40 20 22),km 24 7,km 25 0,kk 26 (.fa 1 9),kk 27 (.ld 1 false 26),kk 28 (.bi false .add 27 (cn 1)),kk 29 (cl 8 [25,28]),km 30 0,kk 31 (cl 8 [30,(cn 7)]),kk 32 (.bi false .eql 31 (cn 6)),kk 33 (.bd [(.int .i64 0),(.bool false)] [(0,1,29),(1,1,32)]),kk 34 (.bs 217 2 [33]),kk 35 (.app 217 2 16 24 34),km 6 23,km 7 35] (pl [(0,[1,2,4,5,6,7,8,10],20),(1,[4,5,6,7,8,10],21),(2,[4,5,6,7,8,10],22),(3,[4,5,6,7,8,10],23),(4,[5,6,7,8,9,10,11,12,13,14],24),(5,[6,7,8,10],25),(6,[10],26),(7,[10],27),(8,[10],28),(9,[10],29)])))) (.reg [km 16 8,kk 17 (.bi false .sub 16 (cn 1)),km 8 17])))
def c58:C:=(sr [kk 4 (.mv (.c (.nil 3))),kk 5 (.mv (.c (.nil 2)))] (sr [kk 6 (.mv (.c (.nil 3)))] (sr [kk 7 (.mv (.c (.nil 2)))] (.seq (sr [km 10 0,km 11 1,kk 12 (.bi false .add 11 (cn 1)),kk 13 (cl 8 [10,12]),km 8 13] (.block 0 (.loop c58L1))) (sr [km 36 6,km 37 7,km 4 36,km 5 37] .ret)))))
theorem fits58:fits Tryz.prog false Tryz.f58 2 38 [(4,none),(5,none)]=some c58.er:=by kernel_rfl
def c35:C:=(sr [kk 2 (.al [(.nil 2),(.int .i64 0),(.int .i64 0),(.int .i64 0),(.int .i64 0),(.int .i64 0),(.nil 6),(.nil 3),(.int .i64 0)]),kk 3 (.al [(.int .i64 0),(.int .i64 0),(.nil 3),(.nil 2)])] (sr [km 8 0,kk 9 (cl 56 [8]),km 10 0,kk 11 (cl 8 [10,(cn 4)]),kk 12 (.bi false .add (cn 1) 11),kk 13 (.bd [(.nil 2),(.int .i64 0),(.int .i64 0),(.int .i64 0),(.int .i64 0),(.int .i64 0),(.nil 6),(.nil 3),(.int .i64 0)] [(0,6,9),(8,1,12)]),kk 4 (.al [(.nil 2),(.int .i64 0),(.int .i64 0),(.int .i64 0),(.int .i64 0),(.int .i64 0),(.nil 6),(.nil 3),(.int .i64 0)]),kz (.st 9 4 13)] (sr [kk 5 (.al [(.int .i64 0),(.int .i64 0),(.nil 3),(.nil 2)])] (sr [km 15 0,kk 16 (cl 57 [15,(cn 2)]),km 14 16,kk 17 (.ex 14 0),kk 18 (.ex 14 1),kk 19 (.fa 6 4),kz (.st 1 19 17),kk 20 (.fa 2 5),kz (.st 1 20 18)] (sr [km 22 0,kk 23 (cl 58 [22,(cn 2)]),km 21 23,kk 24 (.ex 21 0),kk 25 (.ex 21 1),kk 26 (.fa 7 4),kz (.st 1 26 24),kk 27 (.fa 3 5),kz (.st 1 27 25)] (sr [kk 29 (.fa 0 4),kk 30 (.ld 6 true 29),kk 31 (.fa 0 4),kk 32 (.fa 5 31),kk 33 (.ld 1 false 32),kk 34 (cl 59 [30,33]),km 28 34,kk 35 (.ex 28 0),kk 36 (.ex 28 1),km 6 35,km 7 36] (sr [km 37 0,km 38 6,kk 39 (.bi false .add 38 (cn 1)),kk 40 (cl 8 [37,39]),kk 41 (.fa 0 5),kz (.st 1 41 40)] (sr [km 42 0,kk 43 (cl 8 [42,(cn 30)]),kk 44 (.fa 1 5),kz (.st 1 44 43)] (.seq (.drw [kk 45 (.ld 9 true 4),kk 46 (.ld 4 true 5),kz (.st 9 2 45),kz (.st 4 3 46)] [(0,1,45),(1,2,46)]) .ret)))))))))
theorem fits35:fits Tryz.prog false Tryz.f35 1 47 [(2,some (9,true)),(3,some (4,true))]=some c35.er:=by kernel_rfl
structure Gr where
 lv:Int
 c:List Pt
 deriving Inhabited
structure Ga where
 rt:List Gr
 most:Int
 move:Int
 deriving Inhabited
structure Gs where
 op:Int
 jam:Bool
 deriving Inhabited
def eGr (τ:Nat) (r:Gr):List PV:= [.int .i64 r.lv, .sl τ 2 r.c.length (fl ePt r.c)]
def eGa (τ:Nat) (g:Ga):List PV:= [.sl τ 2 g.rt.length (fl (eGr 0) g.rt), .int .i64 g.most, .int .i64 g.move]
def eGs (s:Gs):List PV:= [.int .i64 s.op, .bool s.jam]
def gtN (s:List Gr×Int×Dk):List Gr×Int×Dk:=(s.1++ [⟨s.2.1,(curveS s.2.2 0 0 6 20 0).L⟩],s.2.1+(1+nxt (curveS s.2.2 0 0 6 20 0).d 40),nxtD (curveS s.2.2 0 0 6 20 0).d 40)
def gateE (d:Dk):Dk:=nxtD (nxtD d 12) 6
def gateR (d:Dk):List Gr×Int×Dk:=it gtN ((nxt (nxtD (gateE d) 40) 3).toNat+1) ([],90+nxt (gateE d) 40,nxtD (nxtD (gateE d) 40) 3)
def gateF (d:Dk):Ga×Dk:=(⟨(gateR d).1,nxt d 12,nxt (nxtD d 12) 6⟩,(gateR d).2.2)
def gsN (s:List Ga×List Gs×Dk):List Ga×List Gs×Dk:=
 (s.1++ [(gateF s.2.2).1],s.2.1++ [⟨nxt (gateF s.2.2).2 ((gateF s.2.2).1.most+1),nxt (nxtD (gateF s.2.2).2 ((gateF s.2.2).1.most+1)) 7==6⟩],nxtD (nxtD (gateF s.2.2).2 ((gateF s.2.2).1.most+1)) 7)
def gatesF (d:Dk) (m:Int):List Ga×List Gs×Dk:=it gsN (nxt d (m+1)).toNat ([], [],nxtD d (m+1))
theorem gt_ok:∀(n:Nat) (s:List Gr×Int×Dk),(it gtN n s).1.length=s.1.length+n∧(it gtN n s).2.2.at_≤s.2.2.at_+10*n
 | 0,s=>⟨rfl,Nat.le_refl _⟩
 | n+1,s=>by
   have ih:=gt_ok n (gtN s)
   have e1:(gtN s).1.length=s.1.length+1:=by simp [gtN]
   have e2:(gtN s).2.2=nxtD (curveS s.2.2 0 0 6 20 0).d 40:=by unfold gtN;dsimp only
   have h:=(curve_made s.2.2 (x:=0) (y:=0) (dx:=6) (dy:=20) (least:=0) (by omega) (by omega) (by omega) (by omega) (by omega)).2
   have a:=nxtD_at (curveS s.2.2 0 0 6 20 0).d 40
   unfold it
   rw [e1,e2] at ih
   generalize it gtN n (gtN s)=W at ih⊢
   generalize nxtD (curveS s.2.2 0 0 6 20 0).d 40=X at ih a
   generalize curveS s.2.2 0 0 6 20 0=Y at h a
   omega
theorem gateE_at (d:Dk):(gateE d).at_≤d.at_+2:=by
 unfold gateE
 have a1:=nxtD_at d 12
 generalize nxtD d 12=e1 at a1⊢
 have a2:=nxtD_at e1 6
 omega
theorem gateR_ok (d:Dk):(gateR d).2.2.at_≤d.at_+40:=by
 have h:=(gt_ok ((nxt (nxtD (gateE d) 40) 3).toNat+1) ([],90+nxt (gateE d) 40,nxtD (nxtD (gateE d) 40) 3)).2
 have hu:gateR d=it gtN ((nxt (nxtD (gateE d) 40) 3).toNat+1) ([],90+nxt (gateE d) 40,nxtD (nxtD (gateE d) 40) 3):=by unfold gateR;dsimp only
 rw [←hu] at h
 have h0:=gateE_at d
 clear hu
 dsimp only at h
 generalize gateR d=R at h⊢
 generalize gateE d=e at h h0
 have a1:=nxtD_at e 40
 generalize nxtD e 40=e1 at a1 h
 have r2:=nxt_lt e1 (n:=3) (by omega)
 have a2:=nxtD_at e1 3
 generalize nxt e1 3=x at r2 h
 generalize nxtD e1 3=e2 at a2 h
 omega
theorem gateF_d (d:Dk):(gateF d).2=(gateR d).2.2:=by unfold gateF;dsimp only
theorem gateF_most (d:Dk):(gateF d).1.most=nxt d 12:=by unfold gateF;dsimp only
theorem gateF_ok (d:Dk):(gateF d).2.at_≤d.at_+40∧0≤(gateF d).1.most∧(gateF d).1.most≤11:=by
 have h:=gateR_ok d
 have r:=nxt_lt d (n:=12) (by omega)
 rw [gateF_d,gateF_most]
 generalize gateR d=R at h⊢
 omega
theorem gs_ok:∀(n:Nat) (s:List Ga×List Gs×Dk),(it gsN n s).1.length=s.1.length+n∧(it gsN n s).2.1.length=s.2.1.length+n∧(it gsN n s).2.2.at_≤s.2.2.at_+42*n
 | 0,s=>⟨rfl,rfl,Nat.le_refl _⟩
 | n+1,s=>by
   have ih:=gs_ok n (gsN s)
   have e1:(gsN s).1.length=s.1.length+1:=by simp [gsN]
   have e2:(gsN s).2.1.length=s.2.1.length+1:=by simp [gsN]
   have e3:(gsN s).2.2=nxtD (nxtD (gateF s.2.2).2 ((gateF s.2.2).1.most+1)) 7:=by unfold gsN;dsimp only
   have h1:=(gateF_ok s.2.2).1
   have a1:=nxtD_at (gateF s.2.2).2 ((gateF s.2.2).1.most+1)
   have a2:=nxtD_at (nxtD (gateF s.2.2).2 ((gateF s.2.2).1.most+1)) 7
   unfold it
   rw [e1,e2,e3] at ih
   generalize it gsN n (gsN s)=W at ih⊢
   generalize nxtD (nxtD (gateF s.2.2).2 ((gateF s.2.2).1.most+1)) 7=X at ih a2
   generalize nxtD (gateF s.2.2).2 ((gateF s.2.2).1.most+1)=Y at a1 a2
   generalize gateF s.2.2=Z at h1 a1
   omega
theorem gatesF_ok (d:Dk) {m:Int} (hm:0≤m∧m≤1000):(gatesF d m).1.length≤m∧(gatesF d m).2.1.length=(gatesF d m).1.length∧(gatesF d m).2.2.at_≤d.at_+1+42*m:=by
 have r1:=nxt_lt d (n:=m+1) (by omega)
 have a1:=nxtD_at d (m+1)
 have h:=gs_ok (nxt d (m+1)).toNat ([], [],nxtD d (m+1))
 unfold gatesF
 simp only [List.length_nil] at h
 generalize it gsN (nxt d (m+1)).toNat ([], [],nxtD d (m+1))=W at h⊢
 omega
theorem call89 (d:Dk) (hd:d.at_≤960000000):PureCall Tryz.prog 89 [.pt 0 0 0] [.box (eDk 1 d)] ⟨.agg (eGa 0 (gateF d).1), [.box (eDk 1 (gateF d).2)], []⟩:=by
 refine pure_call mix Tryz.func89 fits89 rfl ?_
 unfold gateF gateR gateE
 dsimp only
 conv=>whnf
 refine ⟨_,fun _=>call_next 1 d 12 (by omega) (by omega), ?_⟩
 have r1:=nxt_lt d (n:=12) (by omega)
 have a1:=nxtD_at d 12
 generalize nxt d 12=n1 at r1⊢
 generalize nxtD d 12=e1 at a1⊢
 conv=>whnf
 refine ⟨_,fun _=>call_next 1 e1 6 (by omega) (by omega), ?_⟩
 have r2:=nxt_lt e1 (n:=6) (by omega)
 have a2:=nxtD_at e1 6
 generalize nxt e1 6=n2 at r2⊢
 generalize nxtD e1 6=e2 at a2⊢
 conv=>whnf
 refine ⟨_,fun _=>call_next 1 e2 40 (by omega) (by omega), ?_⟩
 have r3:=nxt_lt e2 (n:=40) (by omega)
 have a3:=nxtD_at e2 40
 generalize nxt e2 40=n3 at r3⊢
 generalize nxtD e2 40=e3 at a3⊢
 conv=>whnf
 refine ⟨_,fun _=>call_next 1 e3 3 (by omega) (by omega), ?_⟩
 have r4:=nxt_lt e3 (n:=3) (by omega)
 have a4:=nxtD_at e3 3
 obtain ⟨m0,hm0⟩:∃m:Nat,(m:Int)=nxt e3 3:=⟨(nxt e3 3).toNat,by omega⟩
 rw [←hm0] at r4⊢
 rw [Int.toNat_natCast]
 generalize nxtD e3 3=e4 at a4⊢
 obtain ⟨R0,hR0⟩:∃R0,R0=it gtN (m0+1) ([],90+n3,e4):=⟨_,rfl⟩
 rw [←hR0]
 conv=>whnf
 refine ⟨?_, ?_⟩
 ·(try conv=>whnf)
  (repeat' (first | exact True.intro | exact fun _ h=>h | refine inR64_of ?_ ?_ | apply And.intro | refine maxLen_ge ?_))<;>(first | omega | (dsimp only;omega))
 refine LSem.adoptF 48 0 1000000 252 2 2 _ rfl rfl rfl ?_
 refine LSem.loop (n:=35) mix (α:=Nat×List Gr×Int×Dk) (fun s=>s.1+s.2.1.length=m0+1∧it gtN s.1 s.2=R0∧s.2.2.2.at_≤970000000+10*s.2.1.length∧(0≤s.2.2.1∧s.2.2.1≤200+40*s.2.1.length))
  (fun s=> [(0, .pt 0 0 0),(2, .pt 32 0 0),(3, .pt 48 0 0),(4, .int .i64 s.2.2.1),(5, .int .i64 ((s.1:Int) - 1))])
  (fun s=> [(0, .box (eDk 1 s.2.2.2)),(32, .box [.nil 2, .int .i64 0, .int .i64 0]),(48, .box [.os 1000000, .int .i64 n1, .int .i64 n2]),(1000000, .row 0 252 2 s.2.1.length (fl (eGr 0) s.2.1))]) (fun s=>s.1) (m0+1, [],90+n3,e4) ?_ ?_ ?_
 ·exact ⟨rfl,hR0.symm,by dsimp only;omega,by dsimp only;simp only [List.length_nil];omega⟩
 ·refine ⟨rfl,rfl, ?_, ?_⟩
  all_goals repeat' (first | exact True.intro | refine leF_cons rfl ?_ ?_ | refine leS_cons rfl ?_ ?_ | (show PLe _ _ _ _;conv=>whnf) | (show SLe _ _ _ _;conv=>whnf) | (show PLeL _ _ _ _;conv=>whnf) | apply And.intro | rfl | exact Nat.le_refl _ | exact fun _ _=>rfl | exact rowEq0 _ _)
  all_goals first | omega | (dsimp only;omega) | skip
 ·intro s hs
  obtain ⟨m,l,lv,e⟩:=s
  obtain ⟨k1,k2,k3,k4⟩:=hs
  dsimp only at k1 k2 k3 k4
  conv=>whnf
  refine ⟨trivial,fun hc=> ?_,fun hc=> ?_⟩
  ·replace hc:=of_decide_eq_true hc
   obtain ⟨m,rfl⟩:∃m',m=m'+1:=⟨m - 1,by
    have h:(0:Int)≤(m:Int) - 1:=hc
    omega⟩
   have hst:it gtN m (l++ [⟨lv,(curveS e 0 0 6 20 0).L⟩],lv+(1+nxt (curveS e 0 0 6 20 0).d 40),nxtD (curveS e 0 0 6 20 0).d 40)=R0:=k2
   have hcm:=(curve_made e (x:=0) (y:=0) (dx:=6) (dy:=20) (least:=0) (by omega) (by omega) (by omega) (by omega) (by omega))
   conv=>whnf
   refine ⟨_,fun _=>call86 e 0 0 6 20 false (by omega) (by omega) (by omega) (by omega) (by omega), ?_⟩
   rw [show lst false=0 from rfl]
   generalize curveS e 0 0 6 20 0=c at hst hcm⊢
   obtain ⟨hcm,hcd⟩:=hcm
   have hcl:=hcm.len
   have q:=fl_push (eGr 0) l ⟨lv,c.L⟩
   have hxl:(l++ [(⟨lv,c.L⟩:Gr)]).length=l.length+1:=by simp
   conv=>whnf
   refine ⟨rfl, ?_⟩
   conv=>whnf
   refine ⟨_,fun _=>call_next 1 c.d 40 (by omega) (by omega), ?_⟩
   have r5:=nxt_lt c.d (n:=40) (by omega)
   have a5:=nxtD_at c.d 40
   generalize nxt c.d 40=n5 at r5 hst⊢
   generalize nxtD c.d 40=e5 at a5 hst⊢
   conv=>whnf
   refine ⟨?_,(m,l++ [⟨lv,c.L⟩],lv+(1+n5),e5),⟨?_,hst, ?_, ?_⟩, ?_,rfl,rfl, ?_, ?_⟩
   ·(try conv=>whnf)
    (repeat' (first | exact True.intro | exact fun _ h=>h | refine inR64_of ?_ ?_ | apply And.intro | refine maxLen_ge ?_))<;>(first | omega | decide | (dsimp only;omega) | (dsimp only [List.length_cons,List.length_nil];omega) | (intro hg;rw [hg];rfl) | (intro hg hh;rw [hg,hh];rfl) | (intro hg;simp [-List.getD_eq_getElem?_getD, -Int.default_eq_zero] at hg;first | omega | (refine inR64_of ?_ ?_<;>omega) | (constructor<;>omega)) | (simp [-List.getD_eq_getElem?_getD, -Int.default_eq_zero];done))
   ·dsimp only;rw [hxl];omega
   ·dsimp only;rw [hxl];omega
   ·dsimp only;rw [hxl];omega
   ·dsimp only;omega
   all_goals repeat' (first | exact True.intro | refine leF_cons rfl ?_ ?_ | refine leS_cons rfl ?_ ?_ | (show PLe _ _ _ _;conv=>whnf) | (show SLe _ _ _ _;conv=>whnf) | (show PLeL _ _ _ _;conv=>whnf) | apply And.intro | rfl | exact Nat.le_refl _ | exact fun _ _=>rfl | exact rowEq0 _ _)
   all_goals first | exact q | (dsimp only;rw [hxl];rfl) | (dsimp only;rw [hxl];done) | (dsimp only;omega) | omega | skip
  ·replace hc:=of_decide_eq_false hc
   have h0:m=0:=by
    have h:¬(0:Int)≤(m:Int) - 1:=hc
    omega
   subst h0
   have hp:(l,lv,e)=R0:=k2
   rw [←hp]
   conv=>whnf
   refine ⟨?_, [], ?_⟩
   ·(try conv=>whnf)
    (repeat' (first | exact True.intro | exact fun _ h=>h | refine inR64_of ?_ ?_ | apply And.intro | refine maxLen_ge ?_))<;>(first | omega | (dsimp only;omega))
   conv=>whnf
   refine ⟨rfl, ?_, ?_,trivial⟩
   all_goals repeat' (first | exact True.intro | refine leF_cons rfl ?_ ?_ | refine leS_cons rfl ?_ ?_ | (show PLe _ _ _ _;conv=>whnf) | (show SLe _ _ _ _;conv=>whnf) | (show PLeL _ _ _ _;conv=>whnf) | apply And.intro | rfl | exact Nat.le_refl _ | exact fun _ _=>rfl | exact rowEq0 _ _)
theorem call58 (d:Dk) (m:Int) (hd:d.at_≤950000000) (hm:0≤m∧m≤1000):PureCall Tryz.prog 58 [.pt 0 0 0, .int .i64 m] [.box (eDk 1 d)]
  ⟨.tup [.sl 0 3 (gatesF d m).1.length (fl (eGa 0) (gatesF d m).1), .sl 0 2 (gatesF d m).2.1.length (fl eGs (gatesF d m).2.1)], [.box (eDk 1 (gatesF d m).2.2)], []⟩:=by
 refine pure_call mix Tryz.func58 fits58 rfl ?_
 conv=>whnf
 refine ⟨_,fun _=>call_next 1 d (m+1) (by omega) (by omega), ?_⟩
 have r0:=nxt_lt d (n:=m+1) (by omega)
 have a0:=nxtD_at d (m+1)
 unfold gatesF
 obtain ⟨m0,hm0⟩:∃m0:Nat,(m0:Int)=nxt d (m+1):=⟨(nxt d (m+1)).toNat,by omega⟩
 rw [←hm0] at r0⊢
 rw [Int.toNat_natCast]
 generalize nxtD d (m+1)=d0 at a0⊢
 obtain ⟨R0,hR0⟩:∃R0,R0=it gsN m0 ([], [],d0):=⟨_,rfl⟩
 rw [←hR0]
 conv=>whnf
 refine ⟨?_, ?_⟩
 ·(try conv=>whnf)
  (repeat' (first | exact True.intro | exact fun _ h=>h | refine inR64_of ?_ ?_ | apply And.intro | refine maxLen_ge ?_))<;>(first | omega | (dsimp only;omega))
 refine LSem.adopt 6 1000000 214 3 3 rfl rfl ?_
 refine LSem.adopt 7 1000001 217 2 2 rfl rfl ?_
 refine LSem.loop (n:=38) mix (α:=Nat×List Ga×List Gs×Dk) (fun s=>s.1+s.2.1.length=m0∧s.2.2.1.length=s.2.1.length∧it gsN s.1 s.2=R0∧s.2.2.2.at_≤950000001+42*s.2.1.length)
  (fun s=> [(0, .pt 0 0 0),(6, .os 1000000),(7, .os 1000001),(8, .int .i64 s.1)])
  (fun s=> [(0, .box (eDk 1 s.2.2.2)),(1000000, .row 0 214 3 s.2.1.length (fl (eGa 0) s.2.1)),(1000001, .row 0 217 2 s.2.2.1.length (fl eGs s.2.2.1))]) (fun s=>s.1) (m0, [], [],d0) ?_ ?_ ?_
 ·exact ⟨rfl,rfl,hR0.symm,by dsimp only;omega⟩
 ·refine ⟨rfl,rfl, ?_, ?_⟩
  all_goals repeat' (first | exact True.intro | refine leF_cons rfl ?_ ?_ | refine leS_cons rfl ?_ ?_ | (show PLe _ _ _ _;conv=>whnf) | (show SLe _ _ _ _;conv=>whnf) | (show PLeL _ _ _ _;conv=>whnf) | apply And.intro | rfl | exact Nat.le_refl _ | exact fun _ _=>rfl | exact rowEq0 _ _)
 ·intro s hs
  obtain ⟨n,l,y,e⟩:=s
  obtain ⟨k1,k2,k3,k4⟩:=hs
  dsimp only at k1 k2 k3 k4
  conv=>whnf
  refine ⟨trivial,fun hc=> ?_,fun hc=> ?_⟩
  ·replace hc:=of_decide_eq_true hc
   obtain ⟨n,rfl⟩:∃n',n=n'+1:=⟨n - 1,by
    have h:(0:Int)<n:=hc
    omega⟩
   have hst:it gsN n (l++ [(gateF e).1],y++ [⟨nxt (gateF e).2 ((gateF e).1.most+1),nxt (nxtD (gateF e).2 ((gateF e).1.most+1)) 7==6⟩],nxtD (nxtD (gateF e).2 ((gateF e).1.most+1)) 7)=R0:=k3
   have h1:=gateF_ok e
   conv=>whnf
   refine ⟨_,fun _=>call89 e (by omega), ?_⟩
   generalize gateF e=U at h1 hst⊢
   obtain ⟨u,e1⟩:=U
   dsimp only at h1 hst
   have q:=fl_push (eGa 0) l u
   have hxl:(l++ [u]).length=l.length+1:=by simp
   conv=>whnf
   refine ⟨_,fun _=>call_next 1 e1 (u.most+1) (by omega) (by omega), ?_⟩
   have a1:=nxtD_at e1 (u.most+1)
   generalize nxt e1 (u.most+1)=n1 at hst⊢
   generalize nxtD e1 (u.most+1)=e2 at a1 hst⊢
   conv=>whnf
   refine ⟨_,fun _=>call_next 1 e2 7 (by omega) (by omega), ?_⟩
   have a2:=nxtD_at e2 7
   have hB:(nxt e2 7==6)=(nxt e2 7==6):=rfl
   generalize nxtD e2 7=e3 at a2 hst⊢
   generalize nxt e2 7=n2 at hst⊢
   have q2:=fl_push eGs y ⟨n1,n2==6⟩
   have hyl:(y++ [(⟨n1,n2==6⟩:Gs)]).length=y.length+1:=by simp
   conv=>whnf
   refine ⟨rfl, ?_⟩
   conv=>whnf
   refine ⟨?_,(n,l++ [u],y++ [⟨n1,n2==6⟩],e3),⟨?_, ?_,hst, ?_⟩, ?_,rfl,rfl, ?_, ?_⟩
   ·(try conv=>whnf)
    (repeat' (first | exact True.intro | exact fun _ h=>h | refine inR64_of ?_ ?_ | apply And.intro | refine maxLen_ge ?_))<;>(first | omega | decide | (dsimp only;omega) | (dsimp only [List.length_cons,List.length_nil];omega) | (intro hg;rw [hg];rfl) | (intro hg hh;rw [hg,hh];rfl) | (intro hg;simp [-List.getD_eq_getElem?_getD, -Int.default_eq_zero] at hg;first | omega | (refine inR64_of ?_ ?_<;>omega) | (constructor<;>omega)) | (simp [-List.getD_eq_getElem?_getD, -Int.default_eq_zero];done))
   ·dsimp only;rw [hxl];omega
   ·dsimp only;rw [hxl,hyl];omega
   ·dsimp only;rw [hxl];omega
   ·dsimp only;omega
   all_goals repeat' (first | exact True.intro | refine leF_cons rfl ?_ ?_ | refine leS_cons rfl ?_ ?_ | (show PLe _ _ _ _;conv=>whnf) | (show SLe _ _ _ _;conv=>whnf) | (show PLeL _ _ _ _;conv=>whnf) | apply And.intro | rfl | exact Nat.le_refl _ | exact fun _ _=>rfl | exact rowEq0 _ _)
   all_goals first | exact q | exact q2 | (dsimp only;rw [hxl];rfl) | (dsimp only;rw [hyl];rfl) | (dsimp only;rw [hxl];done) | (dsimp only;rw [hyl];done) | (dsimp only;omega) | omega | skip
  ·replace hc:=of_decide_eq_false hc
   have h0:n=0:=by
    have h:¬(0:Int)<n:=hc
    omega
   subst h0
   have hp:(l,y,e)=R0:=k3
   rw [←hp]
   conv=>whnf
   refine ⟨?_, [], ?_⟩
   ·(try conv=>whnf)
    (repeat' (first | exact True.intro | exact fun _ h=>h | refine inR64_of ?_ ?_ | apply And.intro | refine maxLen_ge ?_))<;>(first | omega | (dsimp only;omega))
   conv=>whnf
   refine ⟨rfl, ?_, ?_,trivial⟩
   all_goals repeat' (first | exact True.intro | refine leF_cons rfl ?_ ?_ | refine leS_cons rfl ?_ ?_ | (show PLe _ _ _ _;conv=>whnf) | (show SLe _ _ _ _;conv=>whnf) | (show PLeL _ _ _ _;conv=>whnf) | apply And.intro | rfl | exact Nat.le_refl _ | exact fun _ _=>rfl | exact rowEq0 _ _)
structure Dm where
 r:Rv
 us:List Ut
 gs:List Ga
 grain:Int
 deriving Inhabited
structure Ds where
 vol:Int
 rel:Int
 us:List Us
 gs:List Gs
 deriving Inhabited
def eDm (τ:Nat) (x:Dm):List PV:= [.sl τ 2 x.r.st.length (fl ePt x.r.st), .int .i64 x.r.dead, .int .i64 x.r.low, .int .i64 x.r.full, .int .i64 x.r.sur, .int .i64 x.r.crest,
 .sl τ 6 x.us.length (fl (eUt 0) x.us), .sl τ 3 x.gs.length (fl (eGa 0) x.gs), .int .i64 x.grain]
def eDs (τ:Nat) (s:Ds):List PV:= [.int .i64 s.vol, .int .i64 s.rel, .sl τ 3 s.us.length (fl eUs s.us), .sl τ 2 s.gs.length (fl eGs s.gs)]
def damF (d:Dk):Dm×Ds×Dk:=
 let R:=resF d
 let U:=unitsF (nxtD R.2 4) 2
 let G:=gatesF U.2.2 2
 let v:=(volF R.1 R.1.crest).1+1
 (⟨R.1,U.1,G.1,1+nxt R.2 4⟩,⟨nxt G.2.2 v,nxt (nxtD G.2.2 v) 30,U.2.1,G.2.1⟩,nxtD (nxtD G.2.2 v) 30)
theorem damF_at (d:Dk):(damF d).2.2.at_≤d.at_+200:=by
 unfold damF
 dsimp only
 have h1:=resF_at d
 generalize resF d=R at h1⊢
 have a1:=nxtD_at R.2 4
 generalize nxtD R.2 4=e at a1⊢
 have h2:=(unitsF_ok e (m:=2) (by omega)).2.2
 generalize unitsF e 2=U at h2⊢
 have h3:=(gatesF_ok U.2.2 (m:=2) (by omega)).2.2
 generalize gatesF U.2.2 2=G at h3⊢
 have a2:=nxtD_at G.2.2 ((volF R.1 R.1.crest).1+1)
 generalize nxtD G.2.2 ((volF R.1 R.1.crest).1+1)=e2 at a2⊢
 have a3:=nxtD_at e2 30
 omega
theorem call35 (d:Dk) (hd:d.at_≤940000000):PureCall Tryz.prog 35 [.pt 0 0 0] [.box (eDk 1 d)] ⟨.tup [.agg (eDm 0 (damF d).1), .agg (eDs 0 (damF d).2.1)], [.box (eDk 1 (damF d).2.2)], []⟩:=by
 refine pure_call mix Tryz.func35 fits35 rfl ?_
 unfold damF
 dsimp only
 conv=>whnf
 refine ⟨_,fun _=>call56 d (by omega), ?_⟩
 have h1:=resF_at d
 generalize resF d=R at h1⊢
 obtain ⟨r,e0⟩:=R
 dsimp only at h1⊢
 conv=>whnf
 refine ⟨_,fun _=>call_next 1 e0 4 (by omega) (by omega), ?_⟩
 have r1:=nxt_lt e0 (n:=4) (by omega)
 have a1:=nxtD_at e0 4
 generalize nxt e0 4=n1 at r1⊢
 generalize nxtD e0 4=e at a1⊢
 conv=>whnf
 refine ⟨_,fun _=>call57 e 2 (by omega) (by omega), ?_⟩
 have h2:=unitsF_ok e (m:=2) (by omega)
 generalize unitsF e 2=U at h2⊢
 obtain ⟨us,uss,e1⟩:=U
 dsimp only at h2⊢
 conv=>whnf
 refine ⟨_,fun _=>call58 e1 2 (by omega) (by omega), ?_⟩
 have h3:=gatesF_ok e1 (m:=2) (by omega)
 generalize gatesF e1 2=G at h3⊢
 obtain ⟨gs,gss,e2⟩:=G
 dsimp only at h3⊢
 conv=>whnf
 refine ⟨_,fun _=>call59 _ r r.crest, ?_⟩
 have hv:=volF_rng r r.crest
 generalize (volF r r.crest).2=ev
 generalize (volF r r.crest).1=v at hv⊢
 conv=>whnf
 refine ⟨_,fun _=>call_next 1 e2 (v+1) (by omega) (by omega), ?_⟩
 have a4:=nxtD_at e2 (v+1)
 generalize nxt e2 (v+1)=n4
 generalize nxtD e2 (v+1)=e3 at a4⊢
 conv=>whnf
 refine ⟨_,fun _=>call_next 1 e3 30 (by omega) (by omega), ?_⟩
 conv=>whnf
 refine ⟨rfl, ?_⟩
 conv=>whnf
 refine ⟨?_, [], ?_⟩
 ·(try conv=>whnf)
  (repeat' (first | exact True.intro | exact fun _ h=>h | refine inR64_of ?_ ?_ | apply And.intro | refine maxLen_ge ?_))<;>(first | omega | (dsimp only;omega))
 conv=>whnf
 refine ⟨rfl, ?_, ?_,trivial⟩
 all_goals repeat' (first | exact True.intro | refine leF_cons rfl ?_ ?_ | refine leS_cons rfl ?_ ?_ | (show PLe _ _ _ _;conv=>whnf) | (show SLe _ _ _ _;conv=>whnf) | (show PLeL _ _ _ _;conv=>whnf) | apply And.intro | rfl | exact Nat.le_refl _ | exact fun _ _=>rfl | exact rowEq0 _ _)
end Pv
end Go.Proofs.YtaleokjjkjngkaaGreatDoor
