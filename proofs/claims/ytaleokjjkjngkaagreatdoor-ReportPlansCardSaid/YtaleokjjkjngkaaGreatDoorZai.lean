/- CONTRACTS THAT LEAVE A CHOICE: regions that draw their order, with one such call behind others. -/
import Derived.Test.YtaleokjjkjngkaaGreatDoorZah
set_option linter.unusedSimpArgs false
set_option linter.unusedVariables false
set_option maxRecDepth 100000
set_option maxHeartbeats 8000000
namespace Go.Proofs.YtaleokjjkjngkaaGreatDoor
namespace Pv
def c104L2:C:=(sr [kk 60 (.bi true .lss 59 58)] (.seq (.cond 60 .skip (.exit 2)) (.seq (.block 3 (sr [km 61 59,kk 62 (.ia 1 57 59),kk 63 (.ld 1 false 62),km 19 61,km 20 63] (sr [km 64 17,km 65 19,km 66 11,km 67 19,kk 68 (.ia 1 66 67),kk 69 (.ld 1 false 68),km 70 20,kk 71 (.ia 1 69 70),kk 72 (.ld 1 false 71),kk 73 (.ia 1 64 65),kz (.st 1 73 72)] (.cut (.reg [km 74 18,km 75 17,km 76 19,kk 77 (.ia 1 75 76),kk 78 (.ld 1 false 77),kk 79 (.bi true .add 74 78),km 18 79]))))) (.reg [kk 80 (.bi true .add 59 (cn 1)),km 59 80]))))
def c104L3:C:=(.seq (.seq (.drw [km 110 26,kk 111 (.bi true .geq 110 (cn 0)),km 112 111,kg 113 112 true (.mv 16),kg 114 112 true (.mv 26),kg 115 112 true (.ia 1 113 114),kg 116 112 true (.ld 1 false 115),kg 117 112 true (.mv 11),kg 118 112 true (.mv 26),kg 119 112 true (.ia 1 117 118),kg 120 112 true (.ld 1 false 119),kg 121 112 true (.len 120),kg 122 112 true (.bi true .sub 121 (cn 1)),kg 123 112 true (.bi true .eql 116 122),kk 124 (.pick 112 123 (.c (.bool false)))] (pl [(3,[4,7,8,9,10,11,12],113),(4,[7,8,9,10,11,12],114),(5,[7,8,9,10,11,12],115),(6,[7,8,9,10,11,12],116),(7,[8],117)])) (.cond 124 .skip (.exit 4))) (.block 5 (sr [km 125 16,km 126 26,kk 127 (.ia 1 125 126),kz (.st 1 127 (cn 0))] (.reg [km 128 26,kk 129 (.bi true .sub 128 (cn 1)),km 26 129]))))
def c104L1:C:=(.block 1 (sr [km 54 11,kk 55 (.len 54),kk 56 (.mks 3 1 8 [(.int .i64 0)] 55 55),km 17 56] (sr [kk 18 (.mv (cn 0))] (.seq (sr [km 57 16,kk 58 (.len 57),kk 59 (.mv (cn 0))] (.block 2 (.loop c104L2))) (.cut (.seq (sr [km 81 18,km 82 3,kk 83 (.bi true .leq 81 82)] (.cond 83 (.seq (.cut (.reg [km 85 0,km 86 1,km 87 17,kk 88 (cl 105 [85,86,87]),km 84 88,kk 89 (.ex 84 0),kk 90 (.ex 84 1),kk 91 (.ex 84 2),kk 92 (.ex 84 3),km 21 89,km 22 90,km 23 91,km 24 92])) (sr [km 93 22,km 94 23,kk 95 (.bd [(.int .i64 0),(.int .i64 0)] [(0,1,93),(1,1,94)]),kk 25 (.al [(.int .i64 0),(.int .i64 0)]),kz (.st 2 25 95)] (sr [km 96 13,kk 97 (.un true .not 96),km 98 97,kg 99 98 false (.ld 2 true 25),kg 100 98 false (.ld 2 true 15),kg 101 98 false (.mv 17),kg 102 98 false (.mv 14),kg 103 98 false (cl 128 [99,100,101,102]),kk 104 (.pick 98 (.c (.bool true)) 103)] (.cond 104 (.drw [km 105 17,kk 106 (.ld 2 true 25),kk 13 (.mv (.c (.bool true))),km 14 105,kz (.st 2 15 106)] (pl [(0,[1,2],105),(1,[2,3],106)])) .skip)))) .skip)) (sr [km 107 16,kk 108 (.len 107),kk 109 (.bi true .sub 108 (cn 1)),km 26 109] (.seq (.block 4 (.loop c104L3)) (.seq (sr [km 130 26,kk 131 (.bi true .lss 130 (cn 0))] (.cond 131 (.exit 0) .skip)) (.reg [km 132 16,km 133 26,kk 134 (.ia 1 132 133),kk 135 (.ld 1 false 134),kk 136 (.bi true .add 135 (cn 1)),kk 137 (.ia 1 132 133),kz (.st 1 137 136)]))))))))))
def c104:C:=(sr [kk 8 (.mv (.c (.nil 1))),kk 9 (.mv (cn 0))] (.seq (.seq (.cut (.reg [km 27 0,km 28 1,km 29 2,kk 30 (cl 126 [27,28,29]),km 10 30])) (sr [km 31 10,kk 32 (.bi true .neq 31 (cn 0))] (.cond 32 (sr [km 33 10,kk 8 (.mv (.c (.nil 1))),km 9 33] .ret) .skip))) (.seq (sr [km 34 3,kk 35 (cl 77 [34,(cn 1073741824)]),kk 36 (.un true .not 35)] (.cond 36 (sr [kk 8 (.mv (.c (.nil 1))),kk 9 (.mv (cn 1))] .ret) .skip)) (.seq (sr [km 37 3,km 38 2,kk 39 (.bi true .mul (cn 200) 38),kk 40 (.bi true .gtr 37 39)] (.cond 40 (sr [kk 8 (.mv (.c (.nil 1))),kk 9 (.mv (cn 10))] .ret) .skip)) (.seq (.cut (.reg [km 42 0,km 43 1,km 44 2,kk 45 (cl 127 [42,43,44]),km 41 45,kk 46 (.ex 41 0),kk 47 (.ex 41 1),km 11 46,km 12 47])) (.seq (sr [km 48 12,kk 49 (.bi true .neq 48 (cn 0))] (.cond 49 (sr [km 50 12,kk 8 (.mv (.c (.nil 1))),km 9 50] .ret) .skip)) (sr [kk 13 (.mv (.c (.bool false)))] (sr [kk 14 (.mv (.c (.nil 1)))] (sr [kk 15 (.al [(.int .i64 0),(.int .i64 0)])] (sr [km 51 11,kk 52 (.len 51),kk 53 (.mks 3 1 8 [(.int .i64 0)] 52 52),km 16 53] (.seq (.block 0 (.loop c104L1)) (.seq (sr [km 138 13,kk 139 (.un true .not 138)] (.cond 139 (sr [kk 8 (.mv (.c (.nil 1))),kk 9 (.mv (cn 9))] .ret) .skip)) (sr [km 140 14,km 8 140,kk 9 (.mv (cn 0))] .ret)))))))))))))
theorem fits104:fits Tryz.prog true Tryz.f104 4 141 [(8,none),(9,none)]=some c104.er:=by kernel_rfl
def prd:List (List Int)→Nat
 | []=>1
 | x::xs=>x.length*prd xs
def rem:List (List Int)→List Int→Nat
 | x::xs,a::as'=>(x.length - 1 - a.toNat)*prd xs+rem xs as'
 | _,_=>0
def zf (A:List Int) (k:Nat):List Int:=A.take k++List.replicate (A.length - k) 0
theorem zf_len (A:List Int) {k:Nat} (h:k≤A.length):(zf A k).length=A.length:=by unfold zf;simp;omega
theorem zf_all (A:List Int):zf A A.length=A:=by unfold zf;simp
theorem zf_get (A:List Int) {k j:Nat} (h:j<k) (hk:k≤A.length):(zf A k).getD j default=A.getD j default:=by
 unfold zf
 simp only [List.getD_eq_getElem?_getD]
 rw [List.getElem?_append_left (by rw [List.length_take];omega),List.getElem?_take_of_lt h]
theorem zf_set:∀(A:List Int) (k:Nat),k<A.length→(zf A (k+1)).set k 0=zf A k
 | [],k,h=>by cases h
 | a::A,0,h=>by
   unfold zf
   simp [List.replicate_succ]
 | a::A,k+1,h=>by
   have:=zf_set A k (by simpa using h)
   unfold zf at this⊢
   simpa using this
theorem rem_zero:∀(L:List (List Int)),(∀x∈L,1≤x.length)→rem L (List.replicate L.length 0)+1=prd L
 | [],_=>rfl
 | x::L,h=>by
   have ih:=rem_zero L fun y hy=>h y (by simp [hy])
   have h1:=h x (by simp)
   simp only [List.length_cons,List.replicate_succ,rem,prd]
   obtain ⟨d,hd⟩:∃d,x.length=d+1:=⟨x.length - 1,by omega⟩
   rw [hd,Nat.add_mul,←ih]
   simp
   omega
theorem rem_dec:∀(L:List (List Int)) (A:List Int) (k:Nat),A.length=L.length→k<L.length→(∀x∈L,1≤x.length)→0≤A.getD k default→A.getD k default+1<(L.getD k default).length→
  rem L ((zf A (k+1)).set k (A.getD k default+1))<rem L A
 | [],A,k,_,h,_,_,_=>by cases h
 | x::L, [],k,h,_,_,_,_=>by cases h
 | x::L,a::A,0,hA,hk,h1,h0,h2=>by
   have hz:=rem_zero L fun y hy=>h1 y (by simp [hy])
   have hA':A.length=L.length:=by simpa using hA
   have h0:0≤a:=h0
   have h2:a+1<(x.length:Int):=h2
   have e:(zf (a::A) (0+1)).set 0 ((a::A).getD 0 default+1)=(a+1)::List.replicate L.length 0:=by
    unfold zf
    simp [hA']
   rw [e]
   simp only [rem]
   obtain ⟨d,hd⟩:∃d,x.length - 1 - a.toNat=d+1:=⟨x.length - 1 - a.toNat - 1,by omega⟩
   have hd2:x.length - 1 - (a+1).toNat=d:=by omega
   rw [hd,hd2,Nat.add_mul]
   omega
 | x::L,a::A,k+1,hA,hk,h1,h0,h2=>by
   have ih:=rem_dec L A k (by simpa using hA) (by simpa using hk) (fun y hy=>h1 y (by simp [hy])) h0 h2
   have e:(zf (a::A) (k+1+1)).set (k+1) ((a::A).getD (k+1) default+1)=a::(zf A (k+1)).set k (A.getD k default+1):=by
    unfold zf
    simp
   rw [e]
   simp only [rem]
   omega
structure OdoOK (L:List (List Int)) (A:List Int):Prop where
 len:A.length=L.length
 rng:∀i,i<L.length→0≤A.getD i default∧A.getD i default<(L.getD i default).length
def QBest (n:Nat) (c:CallRes):Prop:=∃(b:List Int) (e:Int),c=⟨.tup [.sl 0 1 b.length (fl eInt b), .int .i64 e], [], []⟩∧(e=0→b.length=n)
theorem q104 (τ τ':Nat) (us:List Ut) (ss:List Us) (g r:Int) (hu:us.length≤1000000) (hs:ss.length≤1000000) (hr:RgU us):
  PureCallQ Tryz.prog 104 [.sl τ 6 us.length (fl (eUt 0) us), .sl τ' 3 ss.length (fl eUs ss), .int .i64 g, .int .i64 r] [] (QBest us.length):=by
 refine pure_callQ mix Tryz.func104 fits104 rfl ?_
 conv=>whnf
 refine ⟨by exact g0,LSem.regQ ?_⟩
 conv=>whnf
 refine ⟨_,q126 _ _ _ _ _ (by omega) (by omega) hr,⟨by exact g0,by exact g0⟩, ?_⟩
 rintro _ ⟨e,rfl,hw⟩
 conv=>whnf
 refine ⟨by exact g0, ?_⟩
 conv=>whnf
 refine ⟨by exact g0,fun h=> ?_,fun h=> ?_⟩
 ·simp only [bp] at h
  exact retQ _ ⟨[],e,rfl,imp_ne h⟩
 simp only [bp] at h
 have hw:=hw h
 conv=>whnf
 refine ⟨_,fun _=>call77 _ _, ?_⟩
 conv=>whnf
 refine ⟨by exact g0,fun h=> ?_,fun h=> ?_⟩
 ·exact retQ _ ⟨[],1,rfl,imp_c⟩
 conv=>whnf
 refine ⟨by exact g0,fun h=> ?_,fun h=> ?_⟩
 ·exact retQ _ ⟨[],10,rfl,imp_c⟩
 conv=>whnf
 refine ⟨by exact g0,LSem.regQ ?_⟩
 conv=>whnf
 refine ⟨_,q127 _ _ _ _ _ hu hw.len hr,⟨by exact g0,by exact g0⟩, ?_⟩
 rintro _ ⟨L,e2,rfl,hL1,hL2,hL3⟩
 conv=>whnf
 refine ⟨by exact g0, ?_⟩
 conv=>whnf
 refine ⟨by exact g0,fun h=> ?_,fun h=> ?_⟩
 ·simp only [bp] at h
  exact retQ _ ⟨[],e2,rfl,imp_ne h⟩
 simp only [bp] at h
 obtain ⟨hn,hpos⟩:=hL3 h hw
 have h6:=hw.le
 have hm:L.length≤maxLen:=maxLen_ge (by omega)
 have hposM:∀x∈L,1≤x.length:=fun x hx=>by
  obtain ⟨i,hi,rfl⟩:=List.mem_iff_getElem.1 hx
  have:=hpos i hi
  rwa [show L.getD i default=L[i] by simp [List.getD,hi]] at this
 have q0:RowEq L.length (fun _=> [PV.int .i64 0]) (fl eInt (List.replicate L.length 0)):=fun i hi=>by
  unfold fl
  rw [show (List.replicate L.length (0:Int)).getD i default=0 by simp [List.getD,hi]]
  rfl
 have qn:L.length=(List.replicate L.length (0:Int)).length:=by simp
 conv=>whnf
 refine ⟨by exact g2, ?_⟩
 refine LSem.loop (n:=141) mix (α:=List Int×Bool×List Int×Int×Int) (fun s=>OdoOK L s.1∧(s.2.1=true→s.2.2.1.length=us.length)∧s.2.2.1.length≤1000000)
  (fun s=> [(0, .sl τ 6 us.length (fl (eUt 0) us)),(1, .sl τ' 3 ss.length (fl eUs ss)),(3, .int .i64 r),(11, .sl 0 1 L.length (fl eLi L)),(13, .bool s.2.1),(14, .sl 0 1 s.2.2.1.length (fl eInt s.2.2.1)),(15, .pt 240 0 0),(16, .os 848)])
  (fun s=> [(240, .box [.int .i64 s.2.2.2.1, .int .i64 s.2.2.2.2]),(848, .row 0 3 1 L.length (fl eInt s.1))]) (fun s=>rem L s.1) (List.replicate L.length 0,false, [],0,0) ⟨⟨by simp,fun i hi=> ?_⟩,(fun h=>by cases h),Nat.zero_le _⟩ ?_ ?_
 ·have:=hpos i hi
  dsimp only
  rw [show (List.replicate L.length (0:Int)).getD i default=0 by simp [List.getD,hi]]
  omega
 ·refine ⟨rfl,rfl, ?_, ?_⟩<;>exact ent
 rintro ⟨A,f,b,v0,v1⟩ ⟨hA,hf,hb⟩
 dsimp only at hA hf hb⊢
 obtain ⟨hA1,hA2⟩:=hA
 conv=>whnf
 refine ⟨by exact g2, ?_⟩
 have hAn:A.length=L.length:=hA1
 refine LSem.loop (n:=141) mix (α:=Nat×List Int×Int) (fun s=>s.1≤L.length∧s.2.1.length=L.length)
  (fun s=> [(0, .sl τ 6 us.length (fl (eUt 0) us)),(1, .sl τ' 3 ss.length (fl eUs ss)),(3, .int .i64 r),(11, .sl 0 1 L.length (fl eLi L)),(13, .bool f),(14, .sl 0 1 b.length (fl eInt b)),(15, .pt 240 0 0),(16, .os 848),
   (17, .os 896),(18, .int .i64 s.2.2),(57, .os 848),(58, .int .i64 L.length),(59, .int .i64 s.1)])
  (fun s=> [(240, .box [.int .i64 v0, .int .i64 v1]),(848, .row 0 3 1 L.length (fl eInt A)),(896, .row 0 3 1 L.length (fl eInt s.2.1))]) (fun s=>L.length - s.1) (0,List.replicate L.length 0,0) ⟨Nat.zero_le _,by simp⟩ ?_ ?_
 ·refine ⟨rfl,rfl, ?_, ?_⟩<;>exact ent
 rintro ⟨i,P,sm⟩ ⟨hi,hP⟩
 dsimp only at hi hP⊢
 conv=>whnf
 refine ⟨trivial,fun hc=> ?_,fun hc=> ?_⟩
 ·replace hc:=of_decide_eq_true hc
  have hlt:i<L.length:=by
   have h:(i:Int)<L.length:=hc
   omega
  have hj:((i:Int)).toNat=i:=by omega
  have hwi:IntKind.i64.wrap ((i:Int)+1)=(i:Int)+1:=by rw [wrap64'];omega
  have hr1:=hA2 i hlt
  conv=>whnf
  rw [hj]
  have hr2:(A.getD i default).toNat<(L.getD i default).length:=by omega
  generalize (L.getD i default).getD (A.getD i default).toNat default=y
  have hPy:(P.set i y).length=L.length:=by simpa using hP
  have hq:=set_eqI (X:=P) (i:=i) (y:=y)
  rw [hP] at hq
  refine ⟨by exact g3, ?_⟩
  refine LSem.cut mix (n:=141) (fl:= [(0, .sl τ 6 us.length (fl (eUt 0) us)),(1, .sl τ' 3 ss.length (fl eUs ss)),(3, .int .i64 r),(11, .sl 0 1 L.length (fl eLi L)),(13, .bool f),(14, .sl 0 1 b.length (fl eInt b)),(15, .pt 240 0 0),(16, .os 848),
   (17, .os 896),(18, .int .i64 sm),(19, .int .i64 i),(57, .os 848),(58, .int .i64 L.length),(59, .int .i64 i)])
   (sl:= [(240, .box [.int .i64 v0, .int .i64 v1]),(848, .row 0 3 1 L.length (fl eInt A)),(896, .row 0 3 1 L.length (fl eInt (P.set i y)))]) ?_ ?_
  ·refine ⟨rfl,rfl, ?_, ?_⟩<;>exact ent
  conv=>whnf
  rw [hwi]
  refine ⟨by exact g0,(i+1,P.set i y,IntKind.i64.wrap (sm+(P.set i y).getD (i:Int).toNat default)),⟨hlt,hPy⟩,by dsimp only;omega,rfl,rfl, ?_, ?_⟩<;>exact ent
 conv=>whnf
 refine ⟨by exact g0, ?_⟩
 refine LSem.meet (n:=141) mix (α:=Bool×List Int×Int×Int) (fun s=>(s.1=true→s.2.1.length=us.length)∧s.2.1.length≤1000000)
  (fun s=> [(0, .sl τ 6 us.length (fl (eUt 0) us)),(1, .sl τ' 3 ss.length (fl eUs ss)),(3, .int .i64 r),(11, .sl 0 1 L.length (fl eLi L)),(13, .bool s.1),(14, .sl 0 1 s.2.1.length (fl eInt s.2.1)),(15, .pt 240 0 0),(16, .os 848)])
  (fun s=> [(240, .box [.int .i64 s.2.2.1, .int .i64 s.2.2.2]),(848, .row 0 3 1 L.length (fl eInt A))]) ?_ ?_
 ·conv=>whnf
  refine ⟨by exact g0,fun h=> ?_,fun h=> ?_⟩
  ·conv=>whnf
   refine ⟨by exact g0,LSem.regQ ?_⟩
   conv=>whnf
   rw [←hP]
   refine ⟨_,q105 _ _ _ us ss P hu hr,⟨by exact g0,by exact g0⟩, ?_⟩
   rintro _ ⟨x1,x2,x3,x4,rfl⟩
   conv=>whnf
   refine ⟨by exact g0, ?_⟩
   conv=>whnf
   refine ⟨_,fun _=>call128 _ _ _ _ _ _ P b (by omega) (by omega), ?_⟩
   conv=>whnf
   refine ⟨by exact g3,fun h=> ?_,fun h=> ?_⟩
   ·conv=>whnf
    refine ⟨rfl, ?_⟩
    conv=>whnf
    refine ⟨by exact g0,(true,P,x2,x3),⟨fun _=>by dsimp only;omega,by dsimp only;omega⟩,rfl,rfl, ?_, ?_⟩<;>exact ent
   ·conv=>whnf
    refine ⟨by exact g0,(f,b,v0,v1),⟨hf,hb⟩,rfl,rfl, ?_, ?_⟩<;>exact ent
  ·conv=>whnf
   refine ⟨by exact g0,(f,b,v0,v1),⟨hf,hb⟩,rfl,rfl, ?_, ?_⟩<;>exact ent
 clear hf hb f b v0 v1 hi hP hc P sm i
 rintro ⟨f,b,v0,v1⟩ ⟨hf,hb⟩
 dsimp only at hf hb⊢
 conv=>whnf
 refine ⟨by exact g0, ?_⟩
 have hwn:IntKind.i64.wrap ((L.length:Int) - 1)=(L.length:Int) - 1:=by rw [wrap64'];omega
 refine LSem.loop (n:=141) mix (α:=Nat) (fun k=>k≤L.length)
  (fun k=> [(0, .sl τ 6 us.length (fl (eUt 0) us)),(1, .sl τ' 3 ss.length (fl eUs ss)),(3, .int .i64 r),(11, .sl 0 1 L.length (fl eLi L)),(13, .bool f),(14, .sl 0 1 b.length (fl eInt b)),(15, .pt 240 0 0),(16, .os 848),(26, .int .i64 ((k:Int) - 1))])
  (fun k=> [(240, .box [.int .i64 v0, .int .i64 v1]),(848, .row 0 3 1 L.length (fl eInt (zf A k)))]) (fun k=>k) L.length (Nat.le_refl _) ?_ ?_
 ·have hz:zf A L.length=A:=by rw [←hAn];exact zf_all A
  rw [hz]
  refine ⟨rfl,rfl, ?_, ?_⟩<;>exact ent
 intro k hk
 have hkl:(zf A k).length=L.length:=by rw [zf_len A (by omega)];exact hAn
 have e1:((k:Int) - 1).toNat=k - 1:=by omega
 have hwk:IntKind.i64.wrap ((k:Int) - 1 - 1)=(k:Int) - 1 - 1:=by rw [wrap64'];omega
 have hb1:0≤(k:Int) - 1→k - 1<L.length:=by omega
 conv=>whnf
 refine ⟨rfl, ?_⟩
 conv=>whnf
 rw [e1]
 refine ⟨by exact g2,fun h=> ?_,fun h=> ?_⟩
 ·have h1:=(bif_and h).1
  have h1:0≤(k:Int) - 1:=of_decide_eq_true h1
  obtain ⟨k,rfl⟩:∃k',k=k'+1:=⟨k - 1,by omega⟩
  have hs:=zf_set A k (by omega)
  have hq:=set_eqI (X:=zf A (k+1)) (i:=k) (y:=0)
  rw [hkl,hs] at hq
  have e2:k+1 - 1=k:=rfl
  have e3:((k+1:Nat):Int) - 1=k:=by omega
  rw [e3] at hwk⊢
  have hj:((k:Int)).toNat=k:=by omega
  conv=>whnf
  rw [hwk,hj]
  refine ⟨by exact g0,k,by omega,by omega,rfl,rfl, ?_, ?_⟩<;>exact ent
 ·conv=>whnf
  refine ⟨by exact g0,fun h0=> ?_,fun h0=> ?_⟩
  ·
   conv=>whnf
   refine ⟨by exact g0,fun h2=> ?_,fun h2=> ?_⟩
   ·exact retQ _ ⟨[],9,rfl,imp_c⟩
   ·have h2:f=true:=by simpa using h2
    exact retQ _ ⟨b,0,rfl,fun _=>hf h2⟩
  ·simp only [bp] at h0
   obtain ⟨k,rfl⟩:∃k',k=k'+1:=⟨k - 1,by omega⟩
   have e3:((k+1:Nat):Int) - 1=k:=by omega
   rw [e3] at h⊢
   have hj:((k:Int)).toNat=k:=by omega
   have hr1:=hA2 k (by omega)
   have hzg:=zf_get A (k:=k+1) (j:=k) (by omega) (by omega)
   have hmx:A.getD k default+1<((L.getD k default).length:Int):=by
    have h3:(bif decide (0≤(k:Int)) then (zf A (k+1)).getD (k+1 - 1) default==IntKind.i64.wrap (((L.getD (k+1 - 1) default).length:Int) - 1) else false)=false:=h
    have h4:decide (0≤(k:Int))=true:=by simp
    rw [h4] at h3
    have h5:((zf A (k+1)).getD k default==IntKind.i64.wrap (((L.getD k default).length:Int) - 1))=false:=h3
    have h6:=hL2 k (by omega)
    have h7:IntKind.i64.wrap (((L.getD k default).length:Int) - 1)=((L.getD k default).length:Int) - 1:=by rw [wrap64'];omega
    rw [h7,hzg] at h5
    simp only [bp] at h5
    omega
   have hdec:=rem_dec L A k hAn (by omega) hposM hr1.1 hmx
   have hw1:IntKind.i64.wrap (A.getD k default+1)=A.getD k default+1:=by
    have h6:=hL2 k (by omega)
    rw [wrap64'];omega
   have hq:=set_eqI (X:=zf A (k+1)) (i:=k) (y:=A.getD k default+1)
   rw [hkl] at hq
   conv=>whnf
   rw [hj,hzg,hw1]
   refine ⟨by exact g2,((zf A (k+1)).set k (A.getD k default+1),f,b,v0,v1),⟨⟨by simpa using hkl,fun i hi=> ?_⟩,hf,hb⟩,hdec,rfl,rfl, ?_, ?_⟩
   ·dsimp only
    have hpi:=hpos i hi
    by_cases e:i=k
    ·subst e
     rw [show ((zf A (i+1)).set i (A.getD i default+1)).getD i default=A.getD i default+1 by simp [List.getD,hkl,hi]]
     omega
    ·have e4:((zf A (k+1)).set k (A.getD k default+1)).getD i default=(zf A (k+1)).getD i default:=by
       simp only [List.getD_eq_getElem?_getD]
       rw [List.getElem?_set_ne (Ne.symm e)]
     rw [e4]
     by_cases e5:i<k+1
     ·rw [zf_get A e5 (by omega)];exact hA2 i hi
     ·have e6:(zf A (k+1)).getD i default=0:=by
        unfold zf
        simp only [List.getD_eq_getElem?_getD]
        rw [List.getElem?_append_right (by rw [List.length_take];omega),List.getElem?_replicate,if_pos (by rw [List.length_take];omega)]
        rfl
      rw [e6];omega
   ·exact ent
   ·exact ent
def c102L1:C:=(sr [kk 18 (.bi false .lss 17 16)] (.seq (.cond 18 .skip (.exit 0)) (.seq (.block 1 (sr [km 19 17,kk 20 (.ia 2 15 17),kk 21 (.ld 2 true 20),kk 4 (.al [(.int .i64 0),(.nil 2)]),km 3 19,kz (.st 2 4 21)] (.seq (sr [kk 22 (.fa 0 4),kk 23 (.ld 1 false 22),kk 24 (cl 77 [23,(cn 16777216)]),kk 25 (.un false .not 24)] (.cond 25 (sr [kk 2 (.mv (cn 1))] .ret) .skip)) (.seq (.seq (.drw [km 26 3,kk 27 (.bi false .gtr 26 (cn 0)),km 28 27,kg 29 28 true (.fa 0 4),kg 30 28 true (.ld 1 false 29),kg 31 28 true (.fa 0 1),kg 32 28 true (.ld 1 false 31),kg 33 28 true (.mv 3),kg 34 28 true (.bi false .sub 33 (cn 1)),kg 35 28 true (.ia 2 32 34),kg 36 28 true (.fa 0 35),kg 37 28 true (.ld 1 false 36),kg 38 28 true (.bi false .leq 30 37),kk 39 (.pick 28 38 (.c (.bool false)))] (pl [(3,[5,6,7,8,9,10,11],29),(4,[5,6,7,8,9,10,11],30),(5,[7,8],31),(6,[7,8],32)])) (.cond 39 (sr [kk 2 (.mv (cn 4))] .ret) .skip)) (.seq (sr [kk 40 (.fa 1 4),kk 41 (.ld 1 false 40),kk 42 (cl 122 [41]),km 5 42] (sr [km 43 5,kk 44 (.bi false .neq 43 (cn 0))] (.cond 44 (sr [km 45 5,km 2 45] .ret) .skip))) (.seq (sr [kk 46 (.fa 1 4),kk 47 (.ld 1 false 46),kk 48 (.ia 2 47 (cn 0)),kk 49 (.ld 2 true 48),kk 50 (.bd [(.int .i64 0),(.int .i64 0)] []),kk 51 (.eqa true [0,0] 49 50)] (.cond 51 (sr [kk 2 (.mv (cn 3))] .ret) .skip)) (sr [kk 52 (.fa 1 4),kk 53 (.ld 1 false 52),kk 54 (.fa 1 4),kk 55 (.ld 1 false 54),kk 56 (.len 55),kk 57 (.bi false .sub 56 (cn 1)),kk 58 (.ia 2 53 57),kk 59 (.fa 1 58),kk 60 (.ld 1 false 59),kk 61 (.bi false .gtr 60 (cn 1073741824))] (.cond 61 (sr [kk 2 (.mv (cn 1))] .ret) .skip)))))))) (.reg [kk 62 (.bi false .add 17 (cn 1)),km 17 62]))))
def c102:C:=(sr [kk 1 (.bx 3 0),kk 2 (.mv (cn 0))] (.seq (sr [kk 6 (.fa 0 1),kk 7 (.ld 1 false 6),kk 8 (.len 7),kk 9 (.bi false .eql 8 (cn 0))] (.cond 9 (sr [kk 2 (.mv (cn 3))] .ret) .skip)) (.seq (sr [kk 10 (.fa 0 1),kk 11 (.ld 1 false 10),kk 12 (.len 11),kk 13 (.bi false .gtr 12 (cn 10))] (.cond 13 (sr [kk 2 (.mv (cn 10))] .ret) .skip)) (.seq (sr [kk 14 (.fa 0 1),kk 15 (.ld 1 false 14),kk 16 (.len 15),kk 17 (.mv (cn 0))] (.block 0 (.loop c102L1))) (.seq (sr [kk 63 (.fa 1 1),kk 64 (.ld 1 false 63),kk 65 (cl 77 [64,(cn 1000)]),kk 66 (.un false .not 65),km 67 66,kg 68 67 false (.fa 2 1),kg 69 67 false (.ld 1 false 68),kg 70 67 false (cl 77 [69,(cn 1000)]),kg 71 67 false (.un false .not 70),kk 72 (.pick 67 (.c (.bool true)) 71)] (.cond 72 (sr [kk 2 (.mv (cn 1))] .ret) .skip)) (sr [kk 2 (.mv (cn 0))] .ret))))))
theorem fits102:fits Tryz.prog false Tryz.f102 1 73 [(2,none)]=some c102.er:=by kernel_rfl
def c132L1:C:=(sr [kk 14 (.bi false .lss 13 12)] (.seq (.cond 14 .skip (.exit 0)) (.seq (.block 1 (sr [kk 15 (.ia 2 11 13),kk 16 (.ld 2 true 15),kk 9 (.al [(.int .i64 0),(.nil 2)]),kz (.st 2 9 16)] (sr [kk 17 (.fa 0 9),kk 18 (.ld 1 false 17),km 19 2,kk 20 (.bi false .leq 18 19)] (.cond 20 (.reg [kk 22 (.fa 1 9),kk 23 (.ld 1 false 22),km 24 1,kk 25 (cl 91 [23,24]),km 21 25,kk 26 (.ex 21 0),kk 27 (.ex 21 1),km 7 26]) .skip)))) (.reg [kk 28 (.bi false .add 13 (cn 1)),km 13 28]))))
def c132:C:=(sr [kk 3 (.bx 3 0),kk 6 (.mv (cn 0))] (sr [kk 7 (.mv (cn 0))] (.seq (sr [kk 10 (.fa 0 3),kk 11 (.ld 1 false 10),kk 12 (.len 11),kk 13 (.mv (cn 0))] (.block 0 (.loop c132L1))) (sr [km 29 7,km 6 29] .ret))))
theorem fits132:fits Tryz.prog false Tryz.f132 3 30 [(6,none)]=some c132.er:=by kernel_rfl
def c93:C:=(sr [kk 2 (.bx 3 0),kk 3 (.bx 2 1),kk 4 (.mv (.c (.bool false)))] (sr [kk 5 (.fa 0 3),kk 6 (.ld 1 false 5),kk 7 (.fa 1 2),kk 8 (.ld 1 false 7),kk 9 (cl 77 [6,8]),km 4 9] .ret))
theorem fits93:fits Tryz.prog false Tryz.f93 2 10 [(4,none)]=some c93.er:=by kernel_rfl
def c131:C:=(sr [kk 2 (.bx 3 0),kk 3 (.bx 2 1),kk 4 (.al [(.int .i64 0),(.int .i64 0)])] (.seq (sr [kk 5 (.fa 1 3),kk 6 (.ld 1 false 5)] (.cond 6 (sr [kk 7 (.fa 0 3),kk 8 (.ld 1 false 7),kk 9 (.fa 0 3),kk 10 (.ld 1 false 9),kk 11 (.bd [(.int .i64 0),(.int .i64 0)] [(0,1,8),(1,1,10)]),kz (.st 2 4 11)] .ret) .skip)) (sr [kk 12 (.fa 0 3),kk 13 (.ld 1 false 12),kk 14 (.fa 2 2),kk 15 (.ld 1 false 14),kk 16 (.bi false .sub 13 15),kk 17 (.mx [(cn 0),16]),kk 18 (.fa 1 2),kk 19 (.ld 1 false 18),kk 20 (.fa 0 3),kk 21 (.ld 1 false 20),kk 22 (.fa 2 2),kk 23 (.ld 1 false 22),kk 24 (.bi false .add 21 23),kk 25 (.mn [19,24]),kk 26 (.bd [(.int .i64 0),(.int .i64 0)] [(0,1,17),(1,1,25)]),kz (.st 2 4 26)] .ret)))
theorem fits131:fits Tryz.prog false Tryz.f131 2 27 [(4,some (2,true))]=some c131.er:=by kernel_rfl
def c109L1:C:=(sr [kk 13 (.bi true .lss 12 11)] (.seq (.cond 13 .skip (.exit 0)) (.seq (.block 1 (sr [km 14 12,kk 15 (.ia 3 10 12),kk 16 (.ld 3 true 15),kk 9 (.al [(.nil 2),(.int .i64 0),(.int .i64 0)]),km 8 14,kz (.st 3 9 16)] (.drw [km 17 7,kk 18 (.ld 3 true 9),km 19 1,km 20 8,kk 21 (.ia 1 19 20),kk 22 (.ld 1 false 21),km 23 2,kk 24 (cl 132 [18,22,23]),kk 25 (.bi true .add 17 24),km 7 25] (pl [(0,[1,2,3,4,5,6,7],17),(1,[2,3,4,5,6],18),(2,[3,6],19),(3,[6],20),(4,[6],21),(5,[6],22)])))) (.reg [kk 26 (.bi true .add 12 (cn 1)),km 12 26]))))
def c109:C:=(sr [kk 6 (.mv (cn 0))] (sr [kk 7 (.mv (cn 0))] (.seq (sr [km 10 0,kk 11 (.len 10),kk 12 (.mv (cn 0))] (.block 0 (.loop c109L1))) (sr [km 27 7,km 6 27] .ret))))
theorem fits109:fits Tryz.prog true Tryz.f109 3 28 [(6,none)]=some c109.er:=by kernel_rfl
def c107L1:C:=(sr [kk 23 (.bi false .lss 22 21)] (.seq (.cond 23 .skip (.exit 0)) (.seq (.block 1 (sr [km 24 22,kk 25 (.ia 3 20 22),kk 26 (.ld 3 true 25),kk 8 (.al [(.nil 2),(.int .i64 0),(.int .i64 0)]),km 7 24,kz (.st 3 8 26)] (.seq (.cut (.drw [kk 27 (.ld 3 true 8),km 28 1,km 29 7,kk 30 (.ia 2 28 29),kk 31 (.ld 2 true 30),kk 32 (cl 93 [27,31]),kk 33 (.un false .not 32)] (pl [(0,[1,2,3,4],27),(1,[2],28)]))) (.cond 33 (sr [kk 6 (.mv (cn 3))] .ret) .skip)))) (.reg [kk 34 (.bi false .add 22 (cn 1)),km 22 34]))))
def c107L2:C:=(sr [kk 38 (.bi false .lss 37 36)] (.seq (.cond 38 .skip (.exit 2)) (.seq (.block 3 (sr [kk 39 (.ia 3 35 37),kk 40 (.ld 3 true 39),kk 10 (.al [(.nil 2),(.int .i64 0),(.int .i64 0)]),kz (.st 3 10 40)] (.seq (.cut (.reg [kk 41 (.ld 3 true 10),kk 42 (cl 102 [41]),km 11 42])) (sr [km 43 11,kk 44 (.bi false .neq 43 (cn 0))] (.cond 44 (sr [km 45 11,km 6 45] .ret) .skip))))) (.reg [kk 46 (.bi false .add 37 (cn 1)),km 37 46]))))
def c107:C:=(sr [kk 6 (.mv (cn 0))] (.seq (sr [km 12 0,kk 13 (.len 12),kk 14 (.bi false .gtr 13 (cn 8))] (.cond 14 (sr [kk 6 (.mv (cn 10))] .ret) .skip)) (.seq (sr [km 15 0,kk 16 (.len 15),km 17 1,kk 18 (.len 17),kk 19 (.bi false .neq 16 18)] (.cond 19 (sr [kk 6 (.mv (cn 3))] .ret) .skip)) (.seq (sr [km 20 0,kk 21 (.len 20),kk 22 (.mv (cn 0))] (.block 0 (.loop c107L1))) (.seq (sr [km 35 0,kk 36 (.len 35),kk 37 (.mv (cn 0))] (.block 2 (.loop c107L2))) (.seq (sr [km 47 2,kk 48 (cl 77 [47,(cn 16777216)]),kk 49 (.un false .not 48)] (.cond 49 (sr [kk 6 (.mv (cn 1))] .ret) .skip)) (sr [kk 6 (.mv (cn 0))] .ret)))))))
theorem fits107:fits Tryz.prog false Tryz.f107 3 50 [(6,none)]=some c107.er:=by kernel_rfl
structure GtOK (g:Ga):Prop where
 m0:0≤g.most
 m1:g.most≤1000
 v0:0≤g.move
 v1:g.move≤1000
theorem checkC_pos {c:List Pt} (h:checkC c=0):1≤c.length:=by
 unfold checkC at h
 split at h
 ·cases h
 ·omega
theorem q102 (τ:Nat) (g:Ga) (hl:g.rt.length≤4611686018427387904) (hcl:∀i,i<g.rt.length→(g.rt.getD i default).c.length≤4611686018427387904):PureCallQ Tryz.prog 102 [.agg (eGa τ g)] [] (QErr (GtOK g)):=by
 refine pure_callQ mix Tryz.func102 fits102 rfl ?_
 conv=>whnf
 refine ⟨by exact g0,fun h=> ?_,fun h=> ?_⟩
 ·exact retQ _ ⟨3,rfl,imp_c⟩
 conv=>whnf
 refine ⟨by exact g0,fun h=> ?_,fun h=> ?_⟩
 ·exact retQ _ ⟨10,rfl,imp_c⟩
 conv=>whnf
 refine ⟨by exact g0, ?_⟩
 refine LSem.loop (n:=73) mix (α:=Nat) (fun i=>i≤g.rt.length)
  (fun i=> [(1, .pt 16 0 0),(15, .sl τ 2 g.rt.length (fl (eGr 0) g.rt)),(16, .int .i64 g.rt.length),(17, .int .i64 i)])
  (fun i=> [(16, .box (eGa τ g))]) (fun i=>g.rt.length - i) 0 (Nat.zero_le _) ?_ ?_
 ·refine ⟨rfl,rfl, ?_, ?_⟩<;>exact ent
 intro i hi
 conv=>whnf
 refine ⟨trivial,fun hc=> ?_,fun hc=> ?_⟩
 ·replace hc:=of_decide_eq_true hc
  have hlt:i<g.rt.length:=by
   have h:(i:Int)<g.rt.length:=hc
   omega
  have hj:((i:Int)).toNat=i:=by omega
  conv=>whnf
  rw [hj]
  refine ⟨_,fun _=>call77 _ _, ?_⟩
  conv=>whnf
  refine ⟨by exact g0,fun h=> ?_,fun h=> ?_⟩
  ·exact retQ _ ⟨1,rfl,imp_c⟩
  conv=>whnf
  refine ⟨rfl, ?_⟩
  have e1:((i:Int) - 1).toNat=i - 1:=by omega
  have hb:0<i→i - 1<g.rt.length:=by omega
  conv=>whnf
  rw [e1]
  refine ⟨by exact g2,fun h=> ?_,fun h=> ?_⟩
  ·exact retQ _ ⟨4,rfl,imp_c⟩
  conv=>whnf
  refine ⟨_,fun _=>call122 _ _, ?_⟩
  conv=>whnf
  refine ⟨by exact g0,fun h=> ?_,fun h=> ?_⟩
  ·simp only [bp] at h
   exact retQ _ ⟨_,rfl,imp_ne h⟩
  simp only [bp] at h
  have hp:=checkC_pos h
  have hci:=hcl i hlt
  conv=>whnf
  refine ⟨by exact g0,fun h=> ?_,fun h=> ?_⟩
  ·exact retQ _ ⟨3,rfl,imp_c⟩
  have e2:(((g.rt.getD i default).c.length:Int) - 1).toNat=(g.rt.getD i default).c.length - 1:=by omega
  conv=>whnf
  rw [e2]
  refine ⟨by exact g2,fun h=> ?_,fun h=> ?_⟩
  ·exact retQ _ ⟨1,rfl,imp_c⟩
  conv=>whnf
  refine ⟨by exact g0,i+1,hlt,by omega,rfl,rfl, ?_, ?_⟩<;>exact ent
 ·conv=>whnf
  refine ⟨_,fun _=>call77 _ _, ?_⟩
  conv=>whnf
  refine ⟨_,fun _=>call77 _ _, ?_⟩
  conv=>whnf
  refine ⟨by exact g3,fun h=> ?_,fun h=> ?_⟩
  ·exact retQ _ ⟨1,rfl,imp_c⟩
  ·simp only [bp] at h
   exact retQ _ ⟨0,rfl,fun _=>⟨by omega,by omega,by omega,by omega⟩⟩
def flwS (op lv:Int) (q:Int) (r:Gr):Int:=if r.lv≤lv then (atC r.c op).1 else q
def flowG (g:Ga) (op lv:Int):Int:=g.rt.foldl (flwS op lv) 0
theorem foldl_take {α β:Type} [Inhabited α] (f:β→α→β) (b:β) (l:List α) {i:Nat} (h:i<l.length):(l.take (i+1)).foldl f b=f ((l.take i).foldl f b) (l.getD i default):=by
 rw [List.take_succ_eq_append_getElem h,List.foldl_append]
 have:l.getD i default=l[i]:=by simp [List.getD,h]
 rw [this];rfl
theorem call132 (τ:Nat) (g:Ga) (op lv:Int) (hl:g.rt.length≤4611686018427387904):PureCall Tryz.prog 132 [.agg (eGa τ g), .int .i64 op, .int .i64 lv] [] ⟨.int .i64 (flowG g op lv), [], []⟩:=by
 refine pure_call mix Tryz.func132 fits132 rfl ?_
 conv=>whnf
 refine ⟨by exact g0, ?_⟩
 refine LSem.loop (n:=30) mix (α:=Nat) (fun i=>i≤g.rt.length)
  (fun i=> [(1, .int .i64 op),(2, .int .i64 lv),(7, .int .i64 ((g.rt.take i).foldl (flwS op lv) 0)),(11, .sl τ 2 g.rt.length (fl (eGr 0) g.rt)),(12, .int .i64 g.rt.length),(13, .int .i64 i)])
  (fun i=> []) (fun i=>g.rt.length - i) 0 (Nat.zero_le _) ?_ ?_
 ·refine ⟨rfl,rfl, ?_, ?_⟩<;>exact ent
 intro i hi
 conv=>whnf
 refine ⟨trivial,fun hc=> ?_,fun hc=> ?_⟩
 ·replace hc:=of_decide_eq_true hc
  have hlt:i<g.rt.length:=by
   have h:(i:Int)<g.rt.length:=hc
   omega
  have hj:((i:Int)).toNat=i:=by omega
  have hs:=foldl_take (flwS op lv) 0 g.rt hlt
  conv=>whnf
  rw [hj]
  refine ⟨by exact g0,fun h=> ?_,fun h=> ?_⟩
  ·simp only [bp] at h
   have h1:flwS op lv ((g.rt.take i).foldl (flwS op lv) 0) (g.rt.getD i default)=(atC (g.rt.getD i default).c op).1:=if_pos h
   rw [h1] at hs
   conv=>whnf
   refine ⟨_,fun _=>call91 _ _ _, ?_⟩
   conv=>whnf
   rw [←hs]
   refine ⟨by exact g0,i+1,hlt,by omega,rfl,rfl, ?_, ?_⟩<;>exact ent
  ·simp only [bp] at h
   have h1:flwS op lv ((g.rt.take i).foldl (flwS op lv) 0) (g.rt.getD i default)=(g.rt.take i).foldl (flwS op lv) 0:=if_neg (by omega)
   rw [h1] at hs
   conv=>whnf
   rw [←hs]
   refine ⟨by exact g0,i+1,hlt,by omega,rfl,rfl, ?_, ?_⟩<;>exact ent
 ·have hk:i=g.rt.length:=by
    have h:¬(i:Int)<g.rt.length:=of_decide_eq_false hc
    omega
  subst hk
  rw [List.take_length]
  conv=>whnf
  refine ⟨?_, [], ?_⟩
  ·exact g0
  conv=>whnf
  refine ⟨rfl, ?_,trivial,trivial⟩
  all_goals repeat' (first | exact True.intro | refine leF_cons rfl ?_ ?_ | refine leS_cons rfl ?_ ?_ | (show PLe _ _ _ _;conv=>whnf) | (show SLe _ _ _ _;conv=>whnf) | (show PLeL _ _ _ _;conv=>whnf) | apply And.intro | rfl | exact Nat.le_refl _ | exact fun _ _=>rfl | exact rowEq0 _ _)
def gvB (g:Ga) (s:Gs):Bool:=decide (0≤s.op∧s.op≤g.most)
theorem call93 (τ:Nat) (g:Ga) (s:Gs):PureCall Tryz.prog 93 [.agg (eGa τ g), .agg (eGs s)] [] ⟨.bool (gvB g s), [], []⟩:=by
 refine pure_call mix Tryz.func93 fits93 rfl ?_
 conv=>whnf
 refine ⟨_,fun _=>call77 _ _, ?_⟩
 conv=>whnf
 refine ⟨?_, [], ?_⟩
 ·exact g0
 conv=>whnf
 refine ⟨rfl, ?_,trivial,trivial⟩
 all_goals repeat' (first | exact True.intro | refine leF_cons rfl ?_ ?_ | refine leS_cons rfl ?_ ?_ | (show PLe _ _ _ _;conv=>whnf) | (show SLe _ _ _ _;conv=>whnf) | (show PLeL _ _ _ _;conv=>whnf) | apply And.intro | rfl | exact Nat.le_refl _ | exact fun _ _=>rfl | exact rowEq0 _ _)
abbrev RgG (gs:List Ga):Prop:=∀i,i<gs.length→(gs.getD i default).rt.length≤4611686018427387904∧∀j,j<(gs.getD i default).rt.length→((gs.getD i default).rt.getD j default).c.length≤4611686018427387904
def totG (lv:Int):Int→List Ga→List Int→Int
 | a,g::gs,x::l=>totG lv (IntKind.wrap .i64 (a+flowG g x lv)) gs l
 | a,_,_=>a
theorem totG_drop {lv a:Int} {gs:List Ga} {l:List Int} {i:Nat} (h:i<gs.length) (h2:i<l.length):totG lv a (gs.drop i) (l.drop i)=totG lv (IntKind.wrap .i64 (a+flowG (gs.getD i default) (l.getD i default) lv)) (gs.drop (i+1)) (l.drop (i+1)):=by
 rw [List.drop_eq_getElem_cons h,List.drop_eq_getElem_cons h2]
 have e1:gs.getD i default=gs[i]:=by simp [List.getD,h]
 have e2:l.getD i default=l[i]:=by simp [List.getD,h2]
 rw [e1,e2];rfl
theorem totG_nil (lv a:Int) (l:List Int):totG lv a [] l=a:=by unfold totG;rfl
theorem call109 (τ τ':Nat) (gs:List Ga) (l:List Int) (lv:Int) (hg:gs.length≤1000000) (hle:gs.length≤l.length) (hr:RgG gs):
  PureCall Tryz.prog 109 [.sl τ 3 gs.length (fl (eGa 0) gs), .sl τ' 1 l.length (fl eInt l), .int .i64 lv] [] ⟨.int .i64 (totG lv 0 gs l), [], []⟩:=by
 refine pure_call mix Tryz.func109 fits109 rfl ?_
 conv=>whnf
 refine ⟨by exact g0, ?_⟩
 refine LSem.loop (n:=28) mix (α:=Nat×Int) (fun s=>s.1≤gs.length∧totG lv s.2 (gs.drop s.1) (l.drop s.1)=totG lv 0 gs l)
  (fun s=> [(1, .sl τ' 1 l.length (fl eInt l)),(2, .int .i64 lv),(7, .int .i64 s.2),(10, .sl τ 3 gs.length (fl (eGa 0) gs)),(11, .int .i64 gs.length),(12, .int .i64 s.1)])
  (fun s=> []) (fun s=>gs.length - s.1) (0,0) ⟨Nat.zero_le _,rfl⟩ ?_ ?_
 ·refine ⟨rfl,rfl, ?_, ?_⟩<;>exact ent
 rintro ⟨i,a⟩ ⟨hi,hI⟩
 dsimp only at hi hI⊢
 conv=>whnf
 refine ⟨trivial,fun hc=> ?_,fun hc=> ?_⟩
 ·replace hc:=of_decide_eq_true hc
  have hlt:i<gs.length:=by
   have h:(i:Int)<gs.length:=hc
   omega
  have hj:((i:Int)).toNat=i:=by omega
  have hwi:IntKind.i64.wrap ((i:Int)+1)=(i:Int)+1:=by rw [wrap64'];omega
  rw [totG_drop hlt (by omega)] at hI
  conv=>whnf
  rw [hj]
  refine ⟨_,fun _=>call132 _ _ _ _ (hr i hlt).1, ?_⟩
  conv=>whnf
  refine ⟨rfl, ?_⟩
  conv=>whnf
  rw [hwi]
  refine ⟨by exact g0,(i+1,_),⟨hlt,hI⟩,by dsimp only;omega,rfl,rfl, ?_, ?_⟩<;>exact ent
 ·have hk:i=gs.length:=by
    have h:¬(i:Int)<gs.length:=of_decide_eq_false hc
    omega
  subst hk
  rw [List.drop_length,totG_nil] at hI
  rw [hI]
  conv=>whnf
  refine ⟨?_, [], ?_⟩
  ·exact g0
  conv=>whnf
  refine ⟨rfl, ?_,trivial,trivial⟩
  all_goals repeat' (first | exact True.intro | refine leF_cons rfl ?_ ?_ | refine leS_cons rfl ?_ ?_ | (show PLe _ _ _ _;conv=>whnf) | (show SLe _ _ _ _;conv=>whnf) | (show PLeL _ _ _ _;conv=>whnf) | apply And.intro | rfl | exact Nat.le_refl _ | exact fun _ _=>rfl | exact rowEq0 _ _)
structure WrG (gs:List Ga) (ss:List Gs):Prop where
 len:gs.length=ss.length
 le:gs.length≤8
 ok:∀i,i<gs.length→GtOK (gs.getD i default)
 val:∀i,i<gs.length→0≤(ss.getD i default).op∧(ss.getD i default).op≤(gs.getD i default).most
theorem q107 (τ τ':Nat) (gs:List Ga) (ss:List Gs) (lv:Int) (hg:gs.length≤1000000) (hs:ss.length≤1000000) (hr:RgG gs):
  PureCallQ Tryz.prog 107 [.sl τ 3 gs.length (fl (eGa 0) gs), .sl τ' 2 ss.length (fl eGs ss), .int .i64 lv] [] (QErr (WrG gs ss)):=by
 refine pure_callQ mix Tryz.func107 fits107 rfl ?_
 conv=>whnf
 refine ⟨by exact g0,fun h6=> ?_,fun h6=> ?_⟩
 ·exact retQ _ ⟨10,rfl,imp_c⟩
 simp only [bp] at h6
 conv=>whnf
 refine ⟨by exact g0,fun h=> ?_,fun h=> ?_⟩
 ·exact retQ _ ⟨3,rfl,imp_c⟩
 simp only [bp] at h
 have hlen:gs.length=ss.length:=by omega
 conv=>whnf
 refine ⟨by exact g0, ?_⟩
 refine LSem.loop (n:=50) mix (α:=Nat) (fun i=>i≤gs.length∧∀j,j<i→gvB (gs.getD j default) (ss.getD j default)=true)
  (fun i=> [(0, .sl τ 3 gs.length (fl (eGa 0) gs)),(1, .sl τ' 2 ss.length (fl eGs ss)),(2, .int .i64 lv),(20, .sl τ 3 gs.length (fl (eGa 0) gs)),(21, .int .i64 gs.length),(22, .int .i64 i)])
  (fun i=> []) (fun i=>gs.length - i) 0 ⟨Nat.zero_le _,fun j hj=>by omega⟩ ?_ ?_
 ·refine ⟨rfl,rfl, ?_, ?_⟩<;>exact ent
 rintro i ⟨hi,hI⟩
 conv=>whnf
 refine ⟨trivial,fun hc=> ?_,fun hc=> ?_⟩
 ·replace hc:=of_decide_eq_true hc
  have hlt:i<gs.length:=by
   have h:(i:Int)<gs.length:=hc
   omega
  have hj:((i:Int)).toNat=i:=by omega
  conv=>whnf
  rw [hj]
  refine ⟨by exact g0,LSem.drwQ mix ?_⟩
  conv=>whnf
  rw [hj]
  refine ⟨_,(call93 _ _ _).toQ,⟨_,rfl⟩,rfl, ?_⟩
  rintro _ rfl
  conv=>whnf
  refine ⟨by exact g0,rfl, ?_⟩
  conv=>whnf
  refine ⟨by exact g0,fun h=> ?_,fun h=> ?_⟩
  ·exact retQ _ ⟨3,rfl,imp_c⟩
  ·have h:gvB (gs.getD i default) (ss.getD i default)=true:=by simpa using h
   conv=>whnf
   refine ⟨by exact g0,i+1,⟨hlt,fun j hj=> ?_⟩,by omega,rfl,rfl, ?_, ?_⟩
   ·by_cases e:j=i
    ·subst e;exact h
    ·exact hI j (by omega)
   ·exact ent
   ·exact ent
 have hv:∀j,j<gs.length→gvB (gs.getD j default) (ss.getD j default)=true:=fun j hj=>hI j (by
  have h:¬(i:Int)<gs.length:=of_decide_eq_false hc
  omega)
 conv=>whnf
 refine ⟨by exact g0, ?_⟩
 refine LSem.loop (n:=50) mix (α:=Nat) (fun i=>i≤gs.length∧∀j,j<i→GtOK (gs.getD j default))
  (fun i=> [(2, .int .i64 lv),(35, .sl τ 3 gs.length (fl (eGa 0) gs)),(36, .int .i64 gs.length),(37, .int .i64 i)])
  (fun i=> []) (fun i=>gs.length - i) 0 ⟨Nat.zero_le _,fun j hj=>by omega⟩ ?_ ?_
 ·refine ⟨rfl,rfl, ?_, ?_⟩<;>exact ent
 clear hI hi hc i
 rintro i ⟨hi,hI⟩
 conv=>whnf
 refine ⟨trivial,fun hc=> ?_,fun hc=> ?_⟩
 ·replace hc:=of_decide_eq_true hc
  have hlt:i<gs.length:=by
   have h:(i:Int)<gs.length:=hc
   omega
  have hj:((i:Int)).toNat=i:=by omega
  conv=>whnf
  rw [hj]
  refine ⟨by exact g0,LSem.regQ ?_⟩
  conv=>whnf
  refine ⟨_,q102 _ _ (hr i hlt).1 (hr i hlt).2,⟨by exact g0,by exact g0⟩, ?_⟩
  rintro _ ⟨e,rfl,he⟩
  conv=>whnf
  refine ⟨by exact g0, ?_⟩
  conv=>whnf
  refine ⟨by exact g0,fun h=> ?_,fun h=> ?_⟩
  ·simp only [bp] at h
   exact retQ _ ⟨e,rfl,imp_ne h⟩
  ·simp only [bp] at h
   conv=>whnf
   refine ⟨by exact g0,i+1,⟨hlt,fun j hj=> ?_⟩,by omega,rfl,rfl, ?_, ?_⟩
   ·by_cases e:j=i
    ·subst e;exact he h
    ·exact hI j (by omega)
   ·exact ent
   ·exact ent
 ·have hk:i=gs.length:=by
    have h:¬(i:Int)<gs.length:=of_decide_eq_false hc
    omega
  conv=>whnf
  refine ⟨_,fun _=>call77 _ _, ?_⟩
  conv=>whnf
  refine ⟨by exact g0,fun h=> ?_,fun h=> ?_⟩
  ·exact retQ _ ⟨1,rfl,imp_c⟩
  ·exact retQ _ ⟨0,rfl,fun _=>⟨hlen,by omega,fun j hj=>hI j (by omega),fun j hj=>of_decide_eq_true (hv j hj)⟩⟩
def QRea (c:CallRes):Prop:=∃a b:Int,c=⟨.agg [.int .i64 a, .int .i64 b], [], []⟩∧0≤a∧a≤b∧b≤1000
theorem q131 (τ:Nat) (g:Ga) (s:Gs) (hg:GtOK g) (h0:0≤s.op) (h1:s.op≤g.most):PureCallQ Tryz.prog 131 [.agg (eGa τ g), .agg (eGs s)] [] QRea:=by
 obtain ⟨m0,m1,v0,v1⟩:=hg
 refine pure_callQ mix Tryz.func131 fits131 rfl ?_
 conv=>whnf
 refine ⟨by exact g0,fun h=> ?_,fun h=> ?_⟩
 ·exact retQ _ ⟨s.op,s.op,rfl,h0,Int.le_refl _,by omega⟩
 ·exact retQ _ ⟨mx 0 (s.op - g.move),mn g.most (s.op+g.move),rfl,by unfold mx;split<;>omega,by unfold mx mn;split<;>split<;>omega,by unfold mn;split<;>omega⟩
def c108L1:C:=(sr [kk 14 (.bi false .lss 13 12)] (.seq (.cond 14 .skip (.exit 0)) (.seq (.block 1 (sr [km 15 13,kk 16 (.ia 3 11 13),kk 17 (.ld 3 true 16),kk 9 (.al [(.nil 2),(.int .i64 0),(.int .i64 0)]),km 8 15,kz (.st 3 9 17)] (.seq (.cut (.drw [kk 18 (.ld 3 true 9),km 19 1,km 20 8,kk 21 (.ia 2 19 20),kk 22 (.ld 2 true 21),kk 23 (cl 131 [18,22]),kk 10 (.al [(.int .i64 0),(.int .i64 0)]),kz (.st 2 10 23)] (pl [(0,[1,2,3,4,6],18),(1,[2,6],19),(2,[6],20),(3,[6],21),(4,[6],22),(5,[6],23)]))) (.drw [km 24 6,kk 25 (.fa 0 10),kk 26 (.ld 1 false 25),kk 27 (.bs 3 1 [26]),kk 28 (.app 3 1 8 24 27),km 29 7,kk 30 (.fa 1 10),kk 31 (.ld 1 false 30),kk 32 (.bs 3 1 [31]),kk 33 (.app 3 1 8 29 32),km 6 28,km 7 33] (pl [(0,[1,2,3,5,6,7,8],24),(1,[5,6,7,8],25),(2,[5,6,7,8],26),(3,[5,6,7,8],27),(4,[5,6,7,8],28),(5,[6,7,8],29)]))))) (.reg [kk 34 (.bi false .add 13 (cn 1)),km 13 34]))))
def c108:C:=(sr [kk 4 (.mv (.c (.nil 1))),kk 5 (.mv (.c (.nil 1)))] (sr [kk 6 (.mv (.c (.nil 1))),kk 7 (.mv (.c (.nil 1)))] (.seq (sr [km 11 0,kk 12 (.len 11),kk 13 (.mv (cn 0))] (.block 0 (.loop c108L1))) (sr [km 35 6,km 36 7,km 4 35,km 5 36] .ret))))
theorem fits108:fits Tryz.prog false Tryz.f108 2 37 [(4,none),(5,none)]=some c108.er:=by kernel_rfl
def c79L2:C:=(.seq (.seq (.drw [km 57 12,km 58 14,kk 59 (.ia 1 57 58),kk 60 (.ld 1 false 59),km 61 13,km 62 14,kk 63 (.ia 1 61 62),kk 64 (.ld 1 false 63),kk 65 (.bi false .lss 60 64),km 66 65,kg 67 66 true (.mv 0),kg 68 66 true (.mv 12),kg 69 66 true (.mv 2),kg 70 66 true (cl 109 [67,68,69]),kg 71 66 true (.mv 3),kg 72 66 true (.bi false .lss 70 71),kk 73 (.pick 66 72 (.c (.bool false)))] (pl [(0,[1,4,5,6,7],57),(1,[4,5,6,7],58),(2,[4,5,6,7],59),(3,[4,5,6,7],60),(4,[5],61),(10,[11,12,14],67),(11,[12,14],68),(12,[14],69),(13,[14],70)])) (.cond 73 .skip (.exit 2))) (.block 3 (.reg [km 74 12,km 75 14,kk 76 (.ia 1 74 75),kk 77 (.ld 1 false 76),kk 78 (.bi false .add 77 (cn 1)),kk 79 (.ia 1 74 75),kz (.st 1 79 78)])))
def c79L1:C:=(.seq (sr [km 34 14,km 35 0,kk 36 (.len 35),kk 37 (.bi false .lss 34 36),km 38 37,kg 39 38 true (.mv 0),kg 40 38 true (.mv 12),kg 41 38 true (.mv 2),kg 42 38 true (cl 109 [39,40,41]),kg 43 38 true (.mv 3),kg 44 38 true (.bi false .lss 42 43),kk 45 (.pick 38 44 (.c (.bool false)))] (.cond 45 .skip (.exit 0))) (.block 1 (.seq (.seq (.drw [km 46 12,km 47 14,kk 48 (.ia 1 46 47),kk 49 (.ld 1 false 48),km 50 13,km 51 14,kk 52 (.ia 1 50 51),kk 53 (.ld 1 false 52),kk 54 (.bi false .eql 49 53)] (pl [(0,[1,4,5,6,7],46),(1,[4,5,6,7],47),(2,[4,5,6,7],48),(3,[4,5,6,7],49),(4,[5],50)])) (.cond 54 (sr [km 55 14,kk 56 (.bi false .add 55 (cn 1)),km 14 56] (.exit 1)) .skip)) (.block 2 (.loop c79L2)))))
def c79L3:C:=(sr [kk 83 (.bi false .lss 82 81)] (.seq (.cond 83 .skip (.exit 4)) (.seq (.block 5 (sr [km 84 82,kk 85 (.ia 2 80 82),kk 86 (.ld 2 true 85),kk 17 (.al [(.int .i64 0),(.bool false)]),km 16 84,kz (.st 2 17 86)] (.drw [km 87 15,km 88 12,km 89 16,kk 90 (.ia 1 88 89),kk 91 (.ld 1 false 90),kk 92 (.fa 1 17),kk 93 (.ld 1 false 92),kk 94 (.bd [(.int .i64 0),(.bool false)] [(0,1,91),(1,1,93)]),kk 95 (.bs 217 2 [94]),kk 96 (.app 217 2 16 87 95),km 15 96] (pl [(0,[1,2,3,4,5,6,7,8],87),(1,[2,5,6],88),(2,[5,6],89),(3,[5,6],90),(4,[5,6],91)])))) (.reg [kk 97 (.bi false .add 82 (cn 1)),km 82 97]))))
def c79:C:=(sr [kk 8 (.mv (.c (.nil 2))),kk 9 (.mv (cn 0)),kk 10 (.mv (cn 0))] (.seq (.seq (.cut (.reg [km 18 0,km 19 1,km 20 2,kk 21 (cl 107 [18,19,20]),km 11 21])) (sr [km 22 11,kk 23 (.bi false .neq 22 (cn 0))] (.cond 23 (sr [km 24 11,kk 8 (.mv (.c (.nil 2))),kk 9 (.mv (cn 0)),km 10 24] .ret) .skip))) (.seq (sr [km 25 3,kk 26 (cl 77 [25,(cn 1073741824)]),kk 27 (.un false .not 26)] (.cond 27 (sr [kk 8 (.mv (.c (.nil 2))),kk 9 (.mv (cn 0)),kk 10 (.mv (cn 1))] .ret) .skip)) (.seq (.cut (.reg [km 29 0,km 30 1,kk 31 (cl 108 [29,30]),km 28 31,kk 32 (.ex 28 0),kk 33 (.ex 28 1),km 12 32,km 13 33])) (.seq (sr [kk 14 (.mv (cn 0))] (.block 0 (.loop c79L1))) (sr [kk 15 (.mv (.c (.nil 2)))] (.seq (sr [km 80 1,kk 81 (.len 80),kk 82 (.mv (cn 0))] (.block 4 (.loop c79L3))) (sr [km 98 15,km 99 0,km 100 12,km 101 2,kk 102 (cl 109 [99,100,101]),km 8 98,km 9 102,kk 10 (.mv (cn 0))] .ret))))))))
theorem fits79:fits Tryz.prog false Tryz.f79 4 103 [(8,none),(9,none),(10,none)]=some c79.er:=by kernel_rfl
structure EndOK (n:Nat) (A B:List Int):Prop where
 la:A.length=n
 lb:B.length=n
 le:∀i,i<n→0≤A.getD i default∧A.getD i default≤B.getD i default∧B.getD i default≤1000
def QEnd (n:Nat) (c:CallRes):Prop:=∃A B:List Int,c=⟨.tup [.os 1000000000, .sl 0 1 B.length (fl eInt B)], [], [.row 0 3 1 A.length (fl eInt A)]⟩∧EndOK n A B
theorem EndOK.push {n:Nat} {A B:List Int} (h:EndOK n A B) {a b:Int} (ha:0≤a) (hab:a≤b) (hb:b≤1000):EndOK (n+1) (A++ [a]) (B++ [b]):=by
 obtain ⟨h1,h2,h3⟩:=h
 refine ⟨by simp [h1],by simp [h2],fun i hi=> ?_⟩
 by_cases e:i<n
 ·have:=h3 i e
  simp only [List.getD_eq_getElem?_getD] at this⊢
  rw [List.getElem?_append_left (by omega),List.getElem?_append_left (by omega)]
  exact this
 ·have e2:i=n:=by omega
  subst e2
  simp only [List.getD_eq_getElem?_getD]
  rw [List.getElem?_append_right (by omega),List.getElem?_append_right (by omega),h1,h2,Nat.sub_self]
  exact ⟨ha,hab,hb⟩
theorem q108 (τ τ':Nat) (gs:List Ga) (ss:List Gs) (hw:WrG gs ss):
  PureCallQ Tryz.prog 108 [.sl τ 3 gs.length (fl (eGa 0) gs), .sl τ' 2 ss.length (fl eGs ss)] [] (QEnd gs.length):=by
 obtain ⟨w1,w2,w3,w4⟩:=hw
 refine pure_callQ mix Tryz.func108 fits108 rfl ?_
 conv=>whnf
 refine ⟨by exact g0, ?_⟩
 refine LSem.adopt 6 1000000 3 1 1 rfl rfl ?_
 refine LSem.adopt 7 1000001 3 1 1 rfl rfl ?_
 refine LSem.loop (n:=37) mix (α:=Nat×List Int×List Int) (fun s=>s.1≤gs.length∧EndOK s.1 s.2.1 s.2.2)
  (fun s=> [(1, .sl τ' 2 ss.length (fl eGs ss)),(6, .os 1000000),(7, .os 1000001),(11, .sl τ 3 gs.length (fl (eGa 0) gs)),(12, .int .i64 gs.length),(13, .int .i64 s.1)])
  (fun s=> [(1000000, .row 0 3 1 s.2.1.length (fl eInt s.2.1)),(1000001, .row 0 3 1 s.2.2.length (fl eInt s.2.2))]) (fun s=>gs.length - s.1) (0, [], []) ⟨Nat.zero_le _,rfl,rfl,fun i hi=>absurd hi (Nat.not_lt_zero _)⟩ ?_ ?_
 ·refine ⟨rfl,rfl, ?_, ?_⟩<;>exact ent
 rintro ⟨i,A,B⟩ ⟨hi,hI⟩
 dsimp only at hi hI⊢
 have hA:=hI.la
 have hB:=hI.lb
 conv=>whnf
 refine ⟨trivial,fun hc=> ?_,fun hc=> ?_⟩
 ·replace hc:=of_decide_eq_true hc
  have hlt:i<gs.length:=by
   have h:(i:Int)<gs.length:=hc
   omega
  have hj:((i:Int)).toNat=i:=by omega
  have hv:=w4 i hlt
  conv=>whnf
  rw [hj]
  refine ⟨by exact g0,LSem.drwQ mix ?_⟩
  conv=>whnf
  rw [hj]
  refine ⟨_,q131 _ _ _ (w3 i hlt) hv.1 hv.2,⟨_,0,0,rfl,Int.le_refl _,Int.le_refl _,by decide⟩,rfl, ?_⟩
  rintro _ ⟨a,b,rfl,h0,h1,h2⟩
  have hP:=hI.push h0 h1 h2
  have hq:=fl_push eInt A a
  have hxl:(A++ [a]).length=A.length+1:=by simp
  have hq2:=fl_push eInt B b
  have hyl:(B++ [b]).length=B.length+1:=by simp
  conv=>whnf
  refine ⟨by exact g0,rfl, ?_⟩
  conv=>whnf
  refine ⟨rfl, ?_⟩
  conv=>whnf
  refine ⟨by exact g0,(i+1,A++ [a],B++ [b]),⟨hlt,hP⟩,by dsimp only;omega,rfl,rfl, ?_, ?_⟩<;>exact ent
 ·have hk:i=gs.length:=by
    have h:¬(i:Int)<gs.length:=of_decide_eq_false hc
    omega
  subst hk
  refine ⟨⟨_,⟨A,B,rfl,hI⟩, ?_⟩⟩
  conv=>whnf
  refine ⟨by exact g0, [1000000], ?_⟩
  conv=>whnf
  refine ⟨rfl, ?_,trivial, ?_⟩<;>exact ent
def gap:List Int→List Int→Nat
 | b::B,a::A=>(b - a).toNat+gap B A
 | _,_=>0
theorem gap_set:∀(B A:List Int) (i:Nat),i<A.length→i<B.length→A.getD i default<B.getD i default→gap B (A.set i (A.getD i default+1))+1=gap B A
 | [],A,i,_,h,_=>by cases h
 | b::B, [],i,h,_,_=>by cases h
 | b::B,a::A,0,_,_,h=>by
   have h:a<b:=h
   have e:(a::A).set 0 ((a::A).getD 0 default+1)=(a+1)::A:=rfl
   rw [e]
   unfold gap
   omega
 | b::B,a::A,i+1,h1,h2,h=>by
   have ih:=gap_set B A i (by simpa using h1) (by simpa using h2) h
   have e:(a::A).set (i+1) ((a::A).getD (i+1) default+1)=a::A.set i (A.getD i default+1):=rfl
   rw [e]
   unfold gap
   omega
theorem EndOK.inc {n:Nat} {A B:List Int} (h:EndOK n A B) {i:Nat} (hi:i<n) (hlt:A.getD i default<B.getD i default):EndOK n (A.set i (A.getD i default+1)) B:=by
 obtain ⟨h1,h2,h3⟩:=h
 refine ⟨by simpa using h1,h2,fun k hk=> ?_⟩
 by_cases e:k=i
 ·subst e
  have:=h3 k hk
  rw [show (A.set k (A.getD k default+1)).getD k default=A.getD k default+1 by simp [List.getD,h1,hk]]
  omega
 ·have e4:(A.set i (A.getD i default+1)).getD k default=A.getD k default:=by
    simp only [List.getD_eq_getElem?_getD]
    rw [List.getElem?_set_ne (Ne.symm e)]
  rw [e4];exact h3 k hk
def QSet (c:CallRes):Prop:=∃(g:List Gs) (x e:Int),c=⟨.tup [.sl 0 2 g.length (fl eGs g), .int .i64 x, .int .i64 e], [], []⟩∧g.length≤1000000
theorem q79 (τ τ':Nat) (gs:List Ga) (ss:List Gs) (lv wn:Int) (hg:gs.length≤1000000) (hs:ss.length≤1000000) (hr:RgG gs):
  PureCallQ Tryz.prog 79 [.sl τ 3 gs.length (fl (eGa 0) gs), .sl τ' 2 ss.length (fl eGs ss), .int .i64 lv, .int .i64 wn] [] QSet:=by
 refine pure_callQ mix Tryz.func79 fits79 rfl ?_
 conv=>whnf
 refine ⟨by exact g0,LSem.regQ ?_⟩
 conv=>whnf
 refine ⟨_,q107 _ _ _ _ _ hg hs hr,⟨by exact g0,by exact g0⟩, ?_⟩
 rintro _ ⟨e,rfl,he⟩
 conv=>whnf
 refine ⟨by exact g0, ?_⟩
 conv=>whnf
 refine ⟨by exact g0,fun h=> ?_,fun h=> ?_⟩
 ·exact retQ _ ⟨[],_,_,rfl,Nat.zero_le _⟩
 simp only [bp] at h
 have hw:=he h
 have hlen:=hw.len
 have hle:=hw.le
 conv=>whnf
 refine ⟨_,fun _=>call77 _ _, ?_⟩
 conv=>whnf
 refine ⟨by exact g0,fun h=> ?_,fun h=> ?_⟩
 ·exact retQ _ ⟨[],_,_,rfl,Nat.zero_le _⟩
 conv=>whnf
 refine ⟨by exact g0,LSem.regQ ?_⟩
 conv=>whnf
 refine ⟨_,q108 _ _ _ _ hw,⟨by exact g0,by exact g0⟩, ?_⟩
 rintro _ ⟨A0,B,rfl,hE⟩
 have hB:=hE.lb
 conv=>whnf
 refine ⟨by exact g0, ?_⟩
 conv=>whnf
 refine ⟨by exact g0, ?_⟩
 refine LSem.loop (n:=103) mix (α:=Nat×List Int) (fun s=>s.1≤gs.length∧EndOK gs.length s.2 B)
  (fun s=> [(0, .sl τ 3 gs.length (fl (eGa 0) gs)),(1, .sl τ' 2 ss.length (fl eGs ss)),(2, .int .i64 lv),(3, .int .i64 wn),(12, .os 496),(13, .sl 0 1 B.length (fl eInt B)),(14, .int .i64 s.1)])
  (fun s=> [(496, .row 0 3 1 s.2.length (fl eInt s.2))]) (fun s=>gap B s.2+(gs.length - s.1)) (0,A0) ⟨Nat.zero_le _,hE⟩ ?_ ?_
 ·refine ⟨rfl,rfl, ?_, ?_⟩<;>exact ent
 clear hE A0
 rintro ⟨i,A⟩ ⟨hi,hE⟩
 dsimp only at hi hE⊢
 have hA:=hE.la
 conv=>whnf
 refine ⟨_,fun _=>call109 _ _ gs A lv hg (by omega) hr, ?_⟩
 conv=>whnf
 refine ⟨by exact g3,fun hc=> ?_,fun hc=> ?_⟩
 ·have h1:=bif_and hc
  have hlt:i<gs.length:=by
   have h:(i:Int)<gs.length:=of_decide_eq_true h1.1
   omega
  have hwn:totG lv 0 gs A<wn:=of_decide_eq_true h1.2
  have hj:((i:Int)).toNat=i:=by omega
  have hr1:=hE.le i hlt
  conv=>whnf
  refine ⟨rfl, ?_⟩
  conv=>whnf
  rw [hj]
  refine ⟨by exact g0,fun h=> ?_,fun h=> ?_⟩
  ·conv=>whnf
   refine ⟨by exact g0,(i+1,A),⟨hlt,hE⟩,by dsimp only;omega,rfl,rfl, ?_, ?_⟩<;>exact ent
  have hne:A.getD i default<B.getD i default:=by
   have h:(A.getD i default==B.getD i default)=false:=h
   simp only [bp] at h
   omega
  conv=>whnf
  refine ⟨by exact g0, ?_⟩
  refine LSem.loop (n:=103) mix (α:=List Int) (fun C=>EndOK gs.length C B∧(C=A∨gap B C<gap B A))
   (fun C=> [(0, .sl τ 3 gs.length (fl (eGa 0) gs)),(1, .sl τ' 2 ss.length (fl eGs ss)),(2, .int .i64 lv),(3, .int .i64 wn),(12, .os 496),(13, .sl 0 1 B.length (fl eInt B)),(14, .int .i64 i)])
   (fun C=> [(496, .row 0 3 1 C.length (fl eInt C))]) (fun C=>gap B C) A ⟨hE, .inl rfl⟩ ?_ ?_
  ·refine ⟨rfl,rfl, ?_, ?_⟩<;>exact ent
  rintro C ⟨hC,hCA⟩
  have hCl:=hC.la
  have hr2:=hC.le i hlt
  conv=>whnf
  rw [hj]
  refine ⟨_,fun _=>call109 _ _ gs C lv hg (by omega) hr, ?_⟩
  conv=>whnf
  refine ⟨rfl, ?_⟩
  conv=>whnf
  refine ⟨by exact g3,fun hx=> ?_,fun hx=> ?_⟩
  ·have h3:C.getD i default<B.getD i default:=of_decide_eq_true (bif_and hx).1
   have hle2:gap B C≤gap B A:=by
    rcases hCA with h4 | h4
    ·rw [h4];exact Nat.le_refl _
    ·omega
   have hinc:=hC.inc hlt h3
   have hgs:=gap_set B C i (by omega) (by omega) h3
   have hq:=set_eqI (X:=C) (i:=i) (y:=C.getD i default+1)
   have hxl:C.length=(C.set i (C.getD i default+1)).length:=by simp
   conv=>whnf
   rw [hj]
   refine ⟨by exact g0,C.set i (C.getD i default+1),⟨hinc, .inr (by omega)⟩,by omega,rfl,rfl, ?_, ?_⟩<;>exact ent
  ·have hdec:gap B C<gap B A:=by
     rcases hCA with rfl | h4
     ·have h5:(bif decide (C.getD i default<B.getD i default) then decide (totG lv 0 gs C<wn) else false)=false:=hx
      rw [decide_eq_true hne,decide_eq_true hwn] at h5
      cases h5
     ·exact h4
   conv=>whnf
   refine ⟨by exact g0,(i,C),⟨hi,hC⟩,by dsimp only;omega,rfl,rfl, ?_, ?_⟩<;>exact ent
 conv=>whnf
 refine ⟨by exact g0, ?_⟩
 refine LSem.adopt 15 1000000 217 2 2 rfl rfl ?_
 refine LSem.loop (n:=103) mix (α:=Nat×List Gs) (fun s=>s.1≤ss.length∧s.2.length=s.1)
  (fun s=> [(0, .sl τ 3 gs.length (fl (eGa 0) gs)),(2, .int .i64 lv),(12, .os 496),(15, .os 1000000),(80, .sl τ' 2 ss.length (fl eGs ss)),(81, .int .i64 ss.length),(82, .int .i64 s.1)])
  (fun s=> [(496, .row 0 3 1 A.length (fl eInt A)),(1000000, .row 0 217 2 s.2.length (fl eGs s.2))]) (fun s=>ss.length - s.1) (0, []) ⟨Nat.zero_le _,rfl⟩ ?_ ?_
 ·refine ⟨rfl,rfl, ?_, ?_⟩<;>exact ent
 rintro ⟨i,G⟩ ⟨hi,hG⟩
 dsimp only at hi hG⊢
 conv=>whnf
 refine ⟨trivial,fun hc=> ?_,fun hc=> ?_⟩
 ·replace hc:=of_decide_eq_true hc
  have hlt:i<ss.length:=by
   have h:(i:Int)<ss.length:=hc
   omega
  have hj:((i:Int)).toNat=i:=by omega
  have hq:=fl_push eGs G ⟨A.getD i default,(ss.getD i default).jam⟩
  have hxl:(G++ [(⟨A.getD i default,(ss.getD i default).jam⟩:Gs)]).length=G.length+1:=by simp
  conv=>whnf
  rw [hj]
  refine ⟨rfl, ?_⟩
  conv=>whnf
  refine ⟨by exact g0,(i+1,G++ [⟨A.getD i default,(ss.getD i default).jam⟩]),⟨hlt,by dsimp only;omega⟩,by dsimp only;omega,rfl,rfl, ?_, ?_⟩<;>exact ent
 ·conv=>whnf
  refine ⟨_,fun _=>call109 _ _ gs A lv hg (by omega) hr, ?_⟩
  exact retQ _ ⟨G,_,_,rfl,by omega⟩
def c97L1:C:=(.seq (sr [km 32 8,km 33 9,kk 34 (.bi false .lss 32 33)] (.cond 34 .skip (.exit 0))) (.block 1 (sr [km 35 9,km 36 9,km 37 8,kk 38 (.bi false .sub 36 37),kk 39 (.bi false .quo 38 (cn 2)),kk 40 (.bi false .sub 35 39),km 10 40] (sr [km 41 0,km 42 10,kk 43 (cl 123 [41,42]),km 44 1,kk 45 (.bi false .leq 43 44)] (.cond 45 (.reg [km 46 10,km 8 46]) (.reg [km 47 10,kk 48 (.bi false .sub 47 (cn 1)),km 9 48]))))))
def c97:C:=(sr [kk 4 (.mv (cn 0)),kk 5 (.mv (.c (.bool false))),kk 6 (.mv (cn 0))] (.seq (sr [km 11 0,kk 12 (cl 122 [11]),km 7 12] (sr [km 13 7,kk 14 (.bi false .neq 13 (cn 0))] (.cond 14 (sr [km 15 7,kk 4 (.mv (cn 0)),kk 5 (.mv (.c (.bool false))),km 6 15] .ret) .skip))) (.seq (.drw [km 16 0,kk 17 (.ia 2 16 (cn 0)),kk 18 (.fa 0 17),kk 19 (.ld 1 false 18),km 20 0,km 21 0,kk 22 (.len 21),kk 23 (.bi false .sub 22 (cn 1)),kk 24 (.ia 2 20 23),kk 25 (.fa 0 24),kk 26 (.ld 1 false 25),km 8 19,km 9 26] (pl [(0,[4,5,6,7,8,9,10],16),(1,[4,5,6,7,8,9,10],17),(2,[4,5,6,7,8,9,10],18),(3,[4,5,6,7,8,9,10],19),(4,[5,6,7,11],20),(5,[11],21),(6,[11],22),(7,[11],23),(8,[11],24),(9,[11],25),(10,[11],26)])) (.seq (sr [km 27 0,km 28 8,kk 29 (cl 123 [27,28]),km 30 1,kk 31 (.bi false .gtr 29 30)] (.cond 31 (sr [kk 4 (.mv (cn 0)),kk 5 (.mv (.c (.bool false))),kk 6 (.mv (cn 0))] .ret) .skip)) (.seq (.block 0 (.loop c97L1)) (sr [km 49 8,km 4 49,kk 5 (.mv (.c (.bool true))),kk 6 (.mv (cn 0))] .ret))))))
theorem fits97:fits Tryz.prog false Tryz.f97 2 50 [(4,none),(5,none),(6,none)]=some c97.er:=by kernel_rfl
def c69:C:=(sr [kk 2 (.bx 6 0),kk 4 (.mv (cn 0)),kk 5 (.mv (cn 0))] (.seq (sr [kk 10 (.ld 6 true 2),kk 11 (cl 96 [10]),km 6 11] (sr [km 12 6,kk 13 (.bi false .neq 12 (cn 0))] (.cond 13 (sr [km 14 6,kk 4 (.mv (cn 0)),km 5 14] .ret) .skip))) (.seq (sr [km 15 1,kk 16 (cl 77 [15,(cn 274877906944)]),kk 17 (.un false .not 16)] (.cond 17 (sr [kk 4 (.mv (cn 0)),kk 5 (.mv (cn 1))] .ret) .skip)) (.seq (.cut (.reg [kk 19 (.fa 0 2),kk 20 (.ld 1 false 19),km 21 1,kk 22 (cl 97 [20,21]),km 18 22,kk 23 (.ex 18 0),kk 24 (.ex 18 1),kk 25 (.ex 18 2),km 7 23,km 8 24,km 9 25])) (.seq (sr [km 26 8,kk 27 (.un false .not 26)] (.cond 27 (sr [kk 28 (.fa 0 2),kk 29 (.ld 1 false 28),kk 30 (.ia 2 29 (cn 0)),kk 31 (.fa 0 30),kk 32 (.ld 1 false 31),km 4 32,kk 5 (.mv (cn 0))] .ret) .skip)) (sr [km 33 7,km 4 33,kk 5 (.mv (cn 0))] .ret))))))
theorem fits69:fits Tryz.prog false Tryz.f69 2 34 [(4,none),(5,none)]=some c69.er:=by kernel_rfl
def c76L1:C:=(sr [kk 30 (.bi false .lss 29 28)] (.seq (.cond 30 .skip (.exit 0)) (.seq (.block 1 (sr [kk 31 (.ia 6 27 29),kk 32 (.ld 6 true 31),kk 5 (.al [(.nil 2),(.int .i64 0),(.int .i64 0),(.nil 2),(.int .i64 0),(.int .i64 0)]),kz (.st 6 5 32)] (.seq (.cut (.reg [kk 33 (.ld 6 true 5),kk 34 (cl 101 [33]),km 6 34])) (sr [km 35 6,kk 36 (.bi false .neq 35 (cn 0))] (.cond 36 (sr [km 37 6,km 2 37] .ret) .skip))))) (.reg [kk 38 (.bi false .add 29 (cn 1)),km 29 38]))))
def c76L2:C:=(sr [kk 43 (.bi false .lss 42 41)] (.seq (.cond 43 .skip (.exit 2)) (.seq (.block 3 (sr [kk 44 (.ia 3 40 42),kk 45 (.ld 3 true 44),kk 8 (.al [(.nil 2),(.int .i64 0),(.int .i64 0)]),kz (.st 3 8 45)] (.seq (.cut (.reg [kk 46 (.ld 3 true 8),kk 47 (cl 102 [46]),km 9 47])) (sr [km 48 9,kk 49 (.bi false .neq 48 (cn 0))] (.cond 49 (sr [km 50 9,km 2 50] .ret) .skip))))) (.reg [kk 51 (.bi false .add 42 (cn 1)),km 42 51]))))
def c76:C:=(sr [kk 1 (.bx 9 0),kk 2 (.mv (cn 0))] (.seq (sr [kk 10 (.fa 0 1),kk 11 (.ld 6 true 10),kk 12 (cl 96 [11]),km 3 12] (sr [km 13 3,kk 14 (.bi false .neq 13 (cn 0))] (.cond 14 (sr [km 15 3,km 2 15] .ret) .skip))) (.seq (sr [kk 16 (.fa 6 1),kk 17 (.ld 1 false 16),kk 18 (.len 17),kk 19 (.bi false .gtr 18 (cn 6)),km 20 19,kg 21 20 false (.fa 7 1),kg 22 20 false (.ld 1 false 21),kg 23 20 false (.len 22),kg 24 20 false (.bi false .gtr 23 (cn 8)),kk 25 (.pick 20 (.c (.bool true)) 24)] (.cond 25 (sr [kk 2 (.mv (cn 10))] .ret) .skip)) (.seq (sr [kk 26 (.fa 6 1),kk 27 (.ld 1 false 26),kk 28 (.len 27),kk 29 (.mv (cn 0))] (.block 0 (.loop c76L1))) (.seq (sr [kk 39 (.fa 7 1),kk 40 (.ld 1 false 39),kk 41 (.len 40),kk 42 (.mv (cn 0))] (.block 2 (.loop c76L2))) (.seq (sr [kk 52 (.fa 8 1),kk 53 (.ld 1 false 52),kk 54 (.bi false .lss 53 (cn 1)),km 55 54,kg 56 55 false (.fa 8 1),kg 57 55 false (.ld 1 false 56),kg 58 55 false (.bi false .gtr 57 (cn 1073741824)),kk 59 (.pick 55 (.c (.bool true)) 58)] (.cond 59 (sr [kk 2 (.mv (cn 1))] .ret) .skip)) (sr [kk 2 (.mv (cn 0))] .ret)))))))
theorem fits76:fits Tryz.prog false Tryz.f76 1 60 [(2,none)]=some c76.er:=by kernel_rfl
def c64L1:C:=(sr [kk 56 (.bi false .lss 55 54)] (.seq (.cond 56 .skip (.exit 0)) (.seq (.block 1 (sr [km 57 55,kk 58 (.ia 6 53 55),kk 59 (.ld 6 true 58),kk 8 (.al [(.nil 2),(.int .i64 0),(.int .i64 0),(.nil 2),(.int .i64 0),(.int .i64 0)]),km 7 57,kz (.st 6 8 59)] (.seq (.cut (.drw [kk 60 (.ld 6 true 8),kk 61 (.fa 2 3),kk 62 (.ld 1 false 61),km 63 7,kk 64 (.ia 3 62 63),kk 65 (.ld 3 true 64),kk 66 (cl 92 [60,65]),kk 67 (.un false .not 66)] (pl [(0,[1,2,3,4,5],60),(1,[3],61),(2,[3],62)]))) (.cond 67 (sr [kk 4 (.mv (.c (.bool false)))] .ret) .skip)))) (.reg [kk 68 (.bi false .add 55 (cn 1)),km 55 68]))))
def c64L2:C:=(sr [kk 73 (.bi false .lss 72 71)] (.seq (.cond 73 .skip (.exit 2)) (.seq (.block 3 (sr [km 74 72,kk 75 (.ia 3 70 72),kk 76 (.ld 3 true 75),kk 10 (.al [(.nil 2),(.int .i64 0),(.int .i64 0)]),km 9 74,kz (.st 3 10 76)] (.seq (.cut (.drw [kk 77 (.ld 3 true 10),kk 78 (.fa 3 3),kk 79 (.ld 1 false 78),km 80 9,kk 81 (.ia 2 79 80),kk 82 (.ld 2 true 81),kk 83 (cl 93 [77,82]),kk 84 (.un false .not 83)] (pl [(0,[1,2,3,4,5],77),(1,[3],78),(2,[3],79)]))) (.cond 84 (sr [kk 4 (.mv (.c (.bool false)))] .ret) .skip)))) (.reg [kk 85 (.bi false .add 72 (cn 1)),km 72 85]))))
def c64:C:=(sr [kk 2 (.bx 9 0),kk 3 (.bx 4 1),kk 4 (.mv (.c (.bool false)))] (.seq (.seq (.cut (.reg [kk 11 (.ld 9 true 2),kk 12 (cl 76 [11]),kk 13 (.bi false .neq 12 (cn 0)),km 14 13,kg 15 14 false (.fa 2 3),kg 16 14 false (.ld 1 false 15),kg 17 14 false (.len 16),kg 18 14 false (.fa 6 2),kg 19 14 false (.ld 1 false 18),kg 20 14 false (.len 19),kg 21 14 false (.bi false .neq 17 20),kk 22 (.pick 14 (.c (.bool true)) 21),km 23 22,kg 24 23 false (.fa 3 3),kg 25 23 false (.ld 1 false 24),kg 26 23 false (.len 25),kg 27 23 false (.fa 7 2),kg 28 23 false (.ld 1 false 27),kg 29 23 false (.len 28),kg 30 23 false (.bi false .neq 26 29),kk 31 (.pick 23 (.c (.bool true)) 30),km 32 31,kg 33 32 false (.fa 1 3),kg 34 32 false (.ld 1 false 33),kg 35 32 false (cl 77 [34,(cn 1073741824)]),kg 36 32 false (.un false .not 35),kk 37 (.pick 32 (.c (.bool true)) 36)])) (.cond 37 (sr [kk 4 (.mv (.c (.bool false)))] .ret) .skip)) (sr [kk 39 (.fa 0 2),kk 40 (.ld 6 true 39),kk 41 (.fa 0 2),kk 42 (.fa 5 41),kk 43 (.ld 1 false 42),kk 44 (cl 59 [40,43]),km 38 44,kk 45 (.ex 38 0),kk 46 (.ex 38 1),km 5 45,km 6 46] (.seq (sr [kk 47 (.fa 0 3),kk 48 (.ld 1 false 47),km 49 5,kk 50 (cl 77 [48,49]),kk 51 (.un false .not 50)] (.cond 51 (sr [kk 4 (.mv (.c (.bool false)))] .ret) .skip)) (.seq (sr [kk 52 (.fa 6 2),kk 53 (.ld 1 false 52),kk 54 (.len 53),kk 55 (.mv (cn 0))] (.block 0 (.loop c64L1))) (.seq (sr [kk 69 (.fa 7 2),kk 70 (.ld 1 false 69),kk 71 (.len 70),kk 72 (.mv (cn 0))] (.block 2 (.loop c64L2))) (sr [kk 4 (.mv (.c (.bool true)))] .ret)))))))
theorem fits64:fits Tryz.prog false Tryz.f64 2 86 [(4,none)]=some c64.er:=by kernel_rfl
def c68:C:=(sr [kk 2 (.bx 9 0),kk 3 (.bx 4 1),kk 4 (.mv (cn 0))] (.seq (.seq (.cut (.reg [kk 6 (.ld 9 true 2),kk 7 (cl 76 [6]),km 5 7])) (sr [km 8 5,kk 9 (.bi false .neq 8 (cn 0))] (.cond 9 (sr [km 10 5,km 4 10] .ret) .skip))) (.seq (.seq (.cut (.reg [kk 11 (.ld 9 true 2),kk 12 (.ld 4 true 3),kk 13 (cl 64 [11,12]),kk 14 (.un false .not 13)])) (.cond 14 (sr [kk 4 (.mv (cn 3))] .ret) .skip)) (sr [kk 4 (.mv (cn 0))] .ret))))
theorem fits68:fits Tryz.prog false Tryz.f68 2 15 [(4,none)]=some c68.er:=by kernel_rfl
def c42:C:=(sr [kk 2 (.bx 9 0),kk 3 (.bx 4 1),kk 4 (.mv (cn 0)),kk 5 (.mv (cn 0))] (.seq (.seq (.cut (.reg [kk 7 (.ld 9 true 2),kk 8 (.ld 4 true 3),kk 9 (cl 68 [7,8]),km 6 9])) (sr [km 10 6,kk 11 (.bi false .neq 10 (cn 0))] (.cond 11 (sr [km 12 6,kk 4 (.mv (cn 0)),km 5 12] .ret) .skip))) (.seq (.cut (.reg [kk 13 (.fa 0 2),kk 14 (.ld 6 true 13),kk 15 (.fa 0 3),kk 16 (.ld 1 false 15),kk 17 (cl 69 [14,16]),kk 18 (.ex 17 0),kk 19 (.ex 17 1),km 4 18,km 5 19])) .ret)))
theorem fits42:fits Tryz.prog false Tryz.f42 2 20 [(4,none),(5,none)]=some c42.er:=by kernel_rfl
def QIBI (c:CallRes):Prop:=∃(x:Int) (b:Bool) (e:Int),c=⟨.tup [.int .i64 x, .bool b, .int .i64 e], [], []⟩
theorem q97 (τ:Nat) (c:List Pt) (y:Int):PureCallQ Tryz.prog 97 [.sl τ 2 c.length (fl ePt c), .int .i64 y] [] QIBI:=by
 refine pure_callQ mix Tryz.func97 fits97 rfl ?_
 conv=>whnf
 refine ⟨_,fun _=>call122 _ _, ?_⟩
 conv=>whnf
 refine ⟨by exact g0,fun h=> ?_,fun h=> ?_⟩
 ·exact retQ _ ⟨_,_,_,rfl⟩
 simp only [bp] at h
 have hg:=(check_good c).1 h
 have hne:=hg.ne
 have hle:=hg.le
 have e1:((c.length:Int) - 1).toNat=c.length - 1:=by omega
 have r1:=hg.rng 0 (by omega)
 have r2:=hg.rng (c.length - 1) (by omega)
 have hxs:=hg.xs (c.length - 1) 0 (by omega)
 rw [Nat.zero_add] at hxs
 conv=>whnf
 refine ⟨rfl, ?_⟩
 conv=>whnf
 rw [e1]
 refine ⟨_,fun _=>call123 _ _ _ hg, ?_⟩
 conv=>whnf
 refine ⟨by exact g2,fun h=> ?_,fun h=> ?_⟩
 ·exact retQ _ ⟨_,_,_,rfl⟩
 conv=>whnf
 refine ⟨by exact g0, ?_⟩
 refine LSem.loop (n:=50) mix (α:=Int×Int) (fun s=>0≤s.1∧s.1≤s.2∧s.2≤1073741824)
  (fun s=> [(0, .sl τ 2 c.length (fl ePt c)),(1, .int .i64 y),(8, .int .i64 s.1),(9, .int .i64 s.2)])
  (fun s=> []) (fun s=>(s.2 - s.1).toNat) ((c.getD 0 default).x,(c.getD (c.length - 1) default).x) ⟨r1.1,hxs,r2.2.1⟩ ?_ ?_
 ·refine ⟨rfl,rfl, ?_, ?_⟩<;>exact ent
 rintro ⟨lo,hi⟩ ⟨h0,h1,h2⟩
 dsimp only at h0 h1 h2⊢
 conv=>whnf
 refine ⟨trivial,fun hc=> ?_,fun hc=> ?_⟩
 ·have hc:lo<hi:=of_decide_eq_true hc
  have ht:(hi - lo).tdiv 2=(hi - lo) / 2:=Int.tdiv_eq_ediv_of_nonneg (by omega)
  conv=>whnf
  rw [ht]
  refine ⟨_,fun _=>call123 _ _ _ hg, ?_⟩
  conv=>whnf
  refine ⟨by exact g2,fun h=> ?_,fun h=> ?_⟩
  ·conv=>whnf
   refine ⟨by exact g0,(hi - (hi - lo) / 2,hi),⟨by dsimp only;omega,by dsimp only;omega,h2⟩,by dsimp only;omega,rfl,rfl, ?_, ?_⟩<;>exact ent
  ·conv=>whnf
   refine ⟨by exact g0,(lo,hi - (hi - lo) / 2 - 1),⟨h0,by dsimp only;omega,by dsimp only;omega⟩,by dsimp only;omega,rfl,rfl, ?_, ?_⟩<;>exact ent
 ·exact retQ _ ⟨_,_,_,rfl⟩
theorem q69 (τ:Nat) (r:Rv) (v:Int):PureCallQ Tryz.prog 69 [.agg (eRv τ r), .int .i64 v] [] QII:=by
 refine pure_callQ mix Tryz.func69 fits69 rfl ?_
 conv=>whnf
 refine ⟨_,fun _=>call96 _ r, ?_⟩
 conv=>whnf
 refine ⟨by exact g0,fun h=> ?_,fun h=> ?_⟩
 ·exact retQ _ ⟨_,_,rfl⟩
 simp only [bp] at h
 have hp:1≤r.st.length:=by
  refine checkC_pos ?_
  unfold checkRv at h
  split at h
  ·rename_i h2;exact absurd h h2
  ·rename_i h2;omega
 conv=>whnf
 refine ⟨_,fun _=>call77 _ _, ?_⟩
 conv=>whnf
 refine ⟨by exact g0,fun h=> ?_,fun h=> ?_⟩
 ·exact retQ _ ⟨_,_,rfl⟩
 conv=>whnf
 refine ⟨by exact g0,LSem.regQ ?_⟩
 conv=>whnf
 refine ⟨_,q97 _ r.st _,⟨by exact g0,by exact g0⟩, ?_⟩
 rintro _ ⟨x,b,e,rfl⟩
 conv=>whnf
 refine ⟨by exact g0, ?_⟩
 conv=>whnf
 refine ⟨by exact g0,fun h=> ?_,fun h=> ?_⟩
 ·exact retQ _ ⟨_,_,rfl⟩
 ·exact retQ _ ⟨_,_,rfl⟩
structure RgD (x:Dm):Prop where
 ul:x.us.length≤1000000
 gl:x.gs.length≤1000000
 ru:RgU x.us
 rg:RgG x.gs
structure RgS (s:Ds):Prop where
 ul:s.us.length≤1000000
 gl:s.gs.length≤1000000
theorem q76 (τ:Nat) (x:Dm) (hx:RgD x):PureCallQ Tryz.prog 76 [.agg (eDm τ x)] [] QI:=by
 obtain ⟨ul,gl,ru,rg⟩:=hx
 refine pure_callQ mix Tryz.func76 fits76 rfl ?_
 conv=>whnf
 refine ⟨_,fun _=>call96 _ x.r, ?_⟩
 conv=>whnf
 refine ⟨by exact g0,fun h=> ?_,fun h=> ?_⟩
 ·exact retQ _ ⟨_,rfl⟩
 conv=>whnf
 refine ⟨by exact g3,fun h=> ?_,fun h=> ?_⟩
 ·exact retQ _ ⟨_,rfl⟩
 conv=>whnf
 refine ⟨by exact g0, ?_⟩
 refine LSem.loop (n:=60) mix (α:=Nat) (fun i=>i≤x.us.length)
  (fun i=> [(1, .pt 16 0 0),(27, .sl τ 6 x.us.length (fl (eUt 0) x.us)),(28, .int .i64 x.us.length),(29, .int .i64 i)])
  (fun i=> [(16, .box (eDm τ x))]) (fun i=>x.us.length - i) 0 (Nat.zero_le _) ?_ ?_
 ·refine ⟨rfl,rfl, ?_, ?_⟩<;>exact ent
 intro i hi
 conv=>whnf
 refine ⟨trivial,fun hc=> ?_,fun hc=> ?_⟩
 ·replace hc:=of_decide_eq_true hc
  have hlt:i<x.us.length:=by
   have h:(i:Int)<x.us.length:=hc
   omega
  have hj:((i:Int)).toNat=i:=by omega
  conv=>whnf
  rw [hj]
  refine ⟨by exact g0,LSem.regQ ?_⟩
  conv=>whnf
  refine ⟨_,(call101 _ _ (ru i hlt)).toQ,⟨by exact g0,by exact g0⟩, ?_⟩
  rintro _ rfl
  conv=>whnf
  refine ⟨by exact g0, ?_⟩
  conv=>whnf
  refine ⟨by exact g0,fun h=> ?_,fun h=> ?_⟩
  ·exact retQ _ ⟨_,rfl⟩
  ·conv=>whnf
   refine ⟨by exact g0,i+1,hlt,by omega,rfl,rfl, ?_, ?_⟩<;>exact ent
 conv=>whnf
 refine ⟨by exact g0, ?_⟩
 refine LSem.loop (n:=60) mix (α:=Nat) (fun i=>i≤x.gs.length)
  (fun i=> [(1, .pt 16 0 0),(40, .sl τ 3 x.gs.length (fl (eGa 0) x.gs)),(41, .int .i64 x.gs.length),(42, .int .i64 i)])
  (fun i=> [(16, .box (eDm τ x))]) (fun i=>x.gs.length - i) 0 (Nat.zero_le _) ?_ ?_
 ·refine ⟨rfl,rfl, ?_, ?_⟩<;>exact ent
 clear hc hi i
 intro i hi
 conv=>whnf
 refine ⟨trivial,fun hc=> ?_,fun hc=> ?_⟩
 ·replace hc:=of_decide_eq_true hc
  have hlt:i<x.gs.length:=by
   have h:(i:Int)<x.gs.length:=hc
   omega
  have hj:((i:Int)).toNat=i:=by omega
  conv=>whnf
  rw [hj]
  refine ⟨by exact g0,LSem.regQ ?_⟩
  conv=>whnf
  refine ⟨_,q102 _ _ (rg i hlt).1 (rg i hlt).2,⟨by exact g0,by exact g0⟩, ?_⟩
  rintro _ ⟨e,rfl,_⟩
  conv=>whnf
  refine ⟨by exact g0, ?_⟩
  conv=>whnf
  refine ⟨by exact g0,fun h=> ?_,fun h=> ?_⟩
  ·exact retQ _ ⟨_,rfl⟩
  ·conv=>whnf
   refine ⟨by exact g0,i+1,hlt,by omega,rfl,rfl, ?_, ?_⟩<;>exact ent
 ·conv=>whnf
  refine ⟨by exact g3,fun h=> ?_,fun h=> ?_⟩
  ·exact retQ _ ⟨_,rfl⟩
  ·exact retQ _ ⟨_,rfl⟩
structure VlD (x:Dm) (s:Ds):Prop where
 u:s.us.length=x.us.length
 g:s.gs.length=x.gs.length
theorem bif_or {a b:Bool} (h:(bif a then true else b)=false):a=false∧b=false:=by cases a<;>simp_all
theorem q64 (τ τ':Nat) (x:Dm) (s:Ds) (hx:RgD x) (hs:RgS s):PureCallQ Tryz.prog 64 [.agg (eDm τ x), .agg (eDs τ' s)] [] (QVal (VlD x s)):=by
 have hx':=hx
 obtain ⟨ul,gl,ru,rg⟩:=hx
 obtain ⟨sul,sgl⟩:=hs
 refine pure_callQ mix Tryz.func64 fits64 rfl ?_
 conv=>whnf
 refine ⟨by exact g0,LSem.regQ ?_⟩
 conv=>whnf
 refine ⟨_,q76 _ x hx',⟨by exact g0,by exact g0⟩, ?_⟩
 rintro _ ⟨e,rfl⟩
 conv=>whnf
 refine ⟨_,fun _=>call77 _ _, ?_⟩
 conv=>whnf
 refine ⟨by exact g3, ?_⟩
 conv=>whnf
 refine ⟨by exact g0,fun h=> ?_,fun h=> ?_⟩
 ·exact retQ _ ⟨false,rfl,imp_f⟩
 have h3:=bif_or (bif_or h).1
 have hug:s.us.length=x.us.length∧s.gs.length=x.gs.length:=by
  have h4:=(bif_or h3.1).2
  have h5:=h3.2
  have h4:((s.us.length:Int) != x.us.length)=false:=h4
  have h5:((s.gs.length:Int) != x.gs.length)=false:=h5
  simp only [bp] at h4 h5
  omega
 obtain ⟨hu,hgg⟩:=hug
 conv=>whnf
 refine ⟨_,fun _=>call59 _ x.r _, ?_⟩
 conv=>whnf
 refine ⟨_,fun _=>call77 _ _, ?_⟩
 conv=>whnf
 refine ⟨by exact g0,fun h=> ?_,fun h=> ?_⟩
 ·exact retQ _ ⟨false,rfl,imp_f⟩
 conv=>whnf
 refine ⟨by exact g0, ?_⟩
 refine LSem.loop (n:=86) mix (α:=Nat) (fun i=>i≤x.us.length)
  (fun i=> [(2, .pt 32 0 0),(3, .pt 48 0 0),(53, .sl τ 6 x.us.length (fl (eUt 0) x.us)),(54, .int .i64 x.us.length),(55, .int .i64 i)])
  (fun i=> [(32, .box (eDm τ x)),(48, .box (eDs τ' s))]) (fun i=>x.us.length - i) 0 (Nat.zero_le _) ?_ ?_
 ·refine ⟨rfl,rfl, ?_, ?_⟩<;>exact ent
 intro i hi
 conv=>whnf
 refine ⟨trivial,fun hc=> ?_,fun hc=> ?_⟩
 ·replace hc:=of_decide_eq_true hc
  have hlt:i<x.us.length:=by
   have h:(i:Int)<x.us.length:=hc
   omega
  have hj:((i:Int)).toNat=i:=by omega
  conv=>whnf
  rw [hj]
  refine ⟨by exact g0,LSem.drwQ mix ?_⟩
  conv=>whnf
  rw [hj]
  refine ⟨_,(call92 _ _ _ (ru i hlt)).toQ,⟨_,rfl⟩,rfl, ?_⟩
  rintro _ rfl
  conv=>whnf
  refine ⟨by exact g0,rfl, ?_⟩
  conv=>whnf
  refine ⟨by exact g0,fun h=> ?_,fun h=> ?_⟩
  ·exact retQ _ ⟨false,rfl,imp_f⟩
  ·conv=>whnf
   refine ⟨by exact g0,i+1,hlt,by omega,rfl,rfl, ?_, ?_⟩<;>exact ent
 conv=>whnf
 refine ⟨by exact g0, ?_⟩
 refine LSem.loop (n:=86) mix (α:=Nat) (fun i=>i≤x.gs.length)
  (fun i=> [(2, .pt 32 0 0),(3, .pt 48 0 0),(70, .sl τ 3 x.gs.length (fl (eGa 0) x.gs)),(71, .int .i64 x.gs.length),(72, .int .i64 i)])
  (fun i=> [(32, .box (eDm τ x)),(48, .box (eDs τ' s))]) (fun i=>x.gs.length - i) 0 (Nat.zero_le _) ?_ ?_
 ·refine ⟨rfl,rfl, ?_, ?_⟩<;>exact ent
 clear hc hi i
 intro i hi
 conv=>whnf
 refine ⟨trivial,fun hc=> ?_,fun hc=> ?_⟩
 ·replace hc:=of_decide_eq_true hc
  have hlt:i<x.gs.length:=by
   have h:(i:Int)<x.gs.length:=hc
   omega
  have hj:((i:Int)).toNat=i:=by omega
  conv=>whnf
  rw [hj]
  refine ⟨by exact g0,LSem.drwQ mix ?_⟩
  conv=>whnf
  rw [hj]
  refine ⟨_,(call93 _ _ _).toQ,⟨_,rfl⟩,rfl, ?_⟩
  rintro _ rfl
  conv=>whnf
  refine ⟨by exact g0,rfl, ?_⟩
  conv=>whnf
  refine ⟨by exact g0,fun h=> ?_,fun h=> ?_⟩
  ·exact retQ _ ⟨false,rfl,imp_f⟩
  ·conv=>whnf
   refine ⟨by exact g0,i+1,hlt,by omega,rfl,rfl, ?_, ?_⟩<;>exact ent
 ·exact retQ _ ⟨true,rfl,fun _=>⟨hu,hgg⟩⟩
theorem q68 (τ τ':Nat) (x:Dm) (s:Ds) (hx:RgD x) (hs:RgS s):PureCallQ Tryz.prog 68 [.agg (eDm τ x), .agg (eDs τ' s)] [] (QErr (VlD x s)):=by
 refine pure_callQ mix Tryz.func68 fits68 rfl ?_
 conv=>whnf
 refine ⟨by exact g0,LSem.regQ ?_⟩
 conv=>whnf
 refine ⟨_,q76 _ x hx,⟨by exact g0,by exact g0⟩, ?_⟩
 rintro _ ⟨e,rfl⟩
 conv=>whnf
 refine ⟨by exact g0, ?_⟩
 conv=>whnf
 refine ⟨by exact g0,fun h=> ?_,fun h=> ?_⟩
 ·simp only [bp] at h
  exact retQ _ ⟨e,rfl,imp_ne h⟩
 conv=>whnf
 refine ⟨by exact g0,LSem.regQ ?_⟩
 conv=>whnf
 refine ⟨_,q64 _ _ x s hx hs,⟨by exact g0,by exact g0⟩, ?_⟩
 rintro _ ⟨b,rfl,hb⟩
 conv=>whnf
 refine ⟨by exact g0, ?_⟩
 conv=>whnf
 refine ⟨by exact g0,fun h=> ?_,fun h=> ?_⟩
 ·exact retQ _ ⟨3,rfl,imp_c⟩
 ·simp only [bp] at h
  exact retQ _ ⟨0,rfl,fun _=>hb h⟩
def QLev (P:Prop) (c:CallRes):Prop:=∃v e:Int,c=⟨.tup [.int .i64 v, .int .i64 e], [], []⟩∧(e=0→P)
theorem q42 (τ τ':Nat) (x:Dm) (s:Ds) (hx:RgD x) (hs:RgS s):PureCallQ Tryz.prog 42 [.agg (eDm τ x), .agg (eDs τ' s)] [] (QLev (VlD x s)):=by
 refine pure_callQ mix Tryz.func42 fits42 rfl ?_
 conv=>whnf
 refine ⟨by exact g0,LSem.regQ ?_⟩
 conv=>whnf
 refine ⟨_,q68 _ _ x s hx hs,⟨by exact g0,by exact g0⟩, ?_⟩
 rintro _ ⟨e,rfl,he⟩
 conv=>whnf
 refine ⟨by exact g0, ?_⟩
 conv=>whnf
 refine ⟨by exact g0,fun h=> ?_,fun h=> ?_⟩
 ·simp only [bp] at h
  exact retQ _ ⟨_,e,rfl,imp_ne h⟩
 simp only [bp] at h
 have hv:=he h
 conv=>whnf
 refine ⟨by exact g0,LSem.regQ ?_⟩
 conv=>whnf
 refine ⟨_,q69 _ x.r _,⟨by exact g0,by exact g0⟩, ?_⟩
 rintro _ ⟨v,e2,rfl⟩
 conv=>whnf
 refine ⟨by exact g0, ?_⟩
 exact retQ _ ⟨v,e2,rfl,fun _=>hv⟩
def c78L1:C:=(sr [kk 46 (.bi true .lss 45 44)] (.seq (.cond 46 .skip (.exit 0)) (.seq (.block 1 (sr [kk 47 (.ia 3 43 45),kk 48 (.ld 3 true 47),kk 14 (.al [(.int .i64 0),(.int .i64 0),(.bool false)]),kz (.st 3 14 48)] (sr [kk 49 (.fa 1 14),kk 50 (.ld 1 false 49),kk 51 (.bi true .add 50 (cn 1)),kk 52 (.mn [(cn 1000),51]),kk 53 (.fa 2 14),kk 54 (.ld 1 false 53),kk 55 (.bd [(.int .i64 0),(.int .i64 0),(.bool false)] [(1,1,52),(2,1,54)]),kk 15 (.al [(.int .i64 0),(.int .i64 0),(.bool false)]),kz (.st 3 15 55)] (.seq (sr [kk 56 (.fa 0 14),kk 57 (.ld 1 false 56),kk 58 (.bi true .gtr 57 (cn 0))] (.cond 58 (.reg [kk 59 (.fa 1 15),kz (.st 1 59 (cn 1))]) .skip)) (.reg [km 60 12,kk 61 (.ld 3 true 15),kk 62 (.bs 210 3 [61]),kk 63 (.app 210 3 24 60 62),km 12 63]))))) (.reg [kk 64 (.bi true .add 45 (cn 1)),km 45 64]))))
def c78L2:C:=(sr [kk 81 (.bi true .lss 80 79)] (.seq (.cond 81 .skip (.exit 2)) (.seq (.block 3 (sr [km 82 80,kk 83 (.ia 6 78 80),kk 84 (.ld 6 true 83),kk 21 (.al [(.nil 2),(.int .i64 0),(.int .i64 0),(.nil 2),(.int .i64 0),(.int .i64 0)]),km 20 82,kz (.st 6 21 84)] (.seq (.cut (.drw [kk 86 (.ld 6 true 21),kk 87 (.fa 2 4),kk 88 (.ld 1 false 87),km 89 20,kk 90 (.ia 3 88 89),kk 91 (.ld 3 true 90),km 92 10,km 93 20,kk 94 (.ia 1 92 93),kk 95 (.ld 1 false 94),kk 96 (cl 106 [86,91,95]),km 85 96,kk 97 (.ex 85 0),kk 98 (.ex 85 1),kk 99 (.ex 85 2),kk 22 (.al [(.int .i64 0),(.int .i64 0),(.bool false)]),kz (.st 3 22 97),km 23 98,km 24 99] (pl [(0,[1,2,3,4,5,6,7,8,9,15],86),(1,[3,6,7,8,9,15],87),(2,[3,6,7,8,9,15],88),(3,[6,7,8,9,15],89),(4,[6,7,8,9,15],90),(5,[6,7,8,9,15],91),(6,[7,15],92),(7,[15],93),(8,[15],94),(9,[15],95),(10,[15],96),(11,[15],85),(12,[13,14,15],97),(13,[14,15,16],98),(14,[15,16,17],99)]))) (.reg [km 100 12,kk 101 (.ld 3 true 22),kk 102 (.bs 210 3 [101]),kk 103 (.app 210 3 24 100 102),km 12 103])))) (.reg [kk 104 (.bi true .add 80 (cn 1)),km 80 104]))))
def c78:C:=(sr [kk 3 (.bx 9 0),kk 4 (.bx 4 1),kk 6 (.mv (.c (.nil 3))),kk 7 (.mv (cn 0)),kk 8 (.mv (cn 0)),kk 9 (.mv (cn 0))] (.seq (.cut (.reg [kk 26 (.fa 6 3),kk 27 (.ld 1 false 26),kk 28 (.fa 2 4),kk 29 (.ld 1 false 28),kk 30 (.fa 8 3),kk 31 (.ld 1 false 30),km 32 2,kk 33 (.fa 8 3),kk 34 (.ld 1 false 33),kk 35 (.bi true .mul (cn 200) 34),kk 36 (.mn [32,35]),kk 37 (cl 104 [27,29,31,36]),km 25 37,kk 38 (.ex 25 0),kk 39 (.ex 25 1),km 10 38,km 11 39])) (sr [kk 12 (.mv (.c (.nil 3)))] (.seq (sr [km 40 11,kk 41 (.bi true .neq 40 (cn 0))] (.cond 41 (.seq (sr [kk 42 (.fa 2 4),kk 43 (.ld 1 false 42),kk 44 (.len 43),kk 45 (.mv (cn 0))] (.block 0 (.loop c78L1))) (sr [km 65 12,km 6 65,kk 7 (.mv (cn 0)),kk 8 (.mv (cn 0)),kk 9 (.mv (cn 0))] .ret)) .skip)) (.seq (.cut (.reg [kk 67 (.fa 6 3),kk 68 (.ld 1 false 67),kk 69 (.fa 2 4),kk 70 (.ld 1 false 69),km 71 10,kk 72 (cl 105 [68,70,71]),km 66 72,kk 73 (.ex 66 0),kk 74 (.ex 66 1),kk 75 (.ex 66 2),kk 76 (.ex 66 3),km 16 73,km 17 74,km 18 75,km 19 76])) (.seq (sr [kk 77 (.fa 6 3),kk 78 (.ld 1 false 77),kk 79 (.len 78),kk 80 (.mv (cn 0))] (.block 2 (.loop c78L2))) (sr [km 105 12,km 106 16,km 107 17,km 108 18,km 6 105,km 7 106,km 8 107,km 9 108] .ret)))))))
theorem fits78:fits Tryz.prog true Tryz.f78 3 109 [(6,none),(7,none),(8,none),(9,none)]=some c78.er:=by kernel_rfl
def c47:C:=(sr [kk 5 (.bx 9 0),kk 6 (.bx 4 1),kk 10 (.al [(.int .i64 0),(.int .i64 0),(.nil 3),(.nil 2)]),kk 11 (.al [(.int .i64 0),(.int .i64 0),(.int .i64 0),(.int .i64 0),(.int .i64 0),(.int .i64 0),(.int .i64 0)]),kk 12 (.mv (cn 0))] (.seq (.cut (.reg [kk 28 (.ld 9 true 5),kk 29 (.ld 4 true 6),kk 30 (cl 42 [28,29]),km 27 30,kk 31 (.ex 27 0),kk 32 (.ex 27 1),km 13 31,km 14 32])) (.seq (sr [km 33 14,kk 34 (.bi true .neq 33 (cn 0))] (.cond 34 (sr [kk 35 (.bd [(.int .i64 0),(.int .i64 0),(.nil 3),(.nil 2)] []),kk 36 (.bd [(.int .i64 0),(.int .i64 0),(.int .i64 0),(.int .i64 0),(.int .i64 0),(.int .i64 0),(.int .i64 0)] []),km 37 14,kz (.st 4 10 35),kz (.st 7 11 36),km 12 37] .ret) .skip)) (.seq (sr [km 38 2,kk 39 (cl 77 [38,(cn 1073741824)]),kk 40 (.un true .not 39),km 41 40,kg 42 41 false (.mv 3),kg 43 41 false (cl 77 [42,(cn 1073741824)]),kg 44 41 false (.un true .not 43),kk 45 (.pick 41 (.c (.bool true)) 44),km 46 45,kg 47 46 false (.mv 4),kg 48 46 false (cl 77 [47,(cn 1073741824)]),kg 49 46 false (.un true .not 48),kk 50 (.pick 46 (.c (.bool true)) 49)] (.cond 50 (sr [kk 51 (.bd [(.int .i64 0),(.int .i64 0),(.nil 3),(.nil 2)] []),kk 52 (.bd [(.int .i64 0),(.int .i64 0),(.int .i64 0),(.int .i64 0),(.int .i64 0),(.int .i64 0),(.int .i64 0)] []),kz (.st 4 10 51),kz (.st 7 11 52),kk 12 (.mv (cn 1))] .ret) .skip)) (sr [km 53 2,km 54 3,kk 55 (.fa 0 6),kk 56 (.ld 1 false 55),km 57 2,kk 58 (.bi true .add 56 57),kk 59 (.mn [54,58]),kk 60 (.bd [(.int .i64 0),(.int .i64 0),(.int .i64 0),(.int .i64 0),(.int .i64 0),(.int .i64 0),(.int .i64 0)] [(0,1,53),(1,1,59)]),kk 15 (.al [(.int .i64 0),(.int .i64 0),(.int .i64 0),(.int .i64 0),(.int .i64 0),(.int .i64 0),(.int .i64 0)]),kz (.st 7 15 60)] (sr [kk 61 (.fa 0 6),kk 62 (.ld 1 false 61),km 63 2,kk 64 (.bi true .add 62 63),kk 65 (.fa 1 15),kk 66 (.ld 1 false 65),kk 67 (.bi true .sub 64 66),km 16 67] (sr [kk 69 (.fa 0 5),kk 70 (.ld 6 true 69),kk 71 (.fa 0 5),kk 72 (.fa 1 71),kk 73 (.ld 1 false 72),kk 74 (cl 59 [70,73]),km 68 74,kk 75 (.ex 68 0),kk 76 (.ex 68 1),km 17 75,km 18 76] (sr [kk 78 (.fa 0 5),kk 79 (.ld 6 true 78),kk 80 (.fa 0 5),kk 81 (.fa 5 80),kk 82 (.ld 1 false 81),kk 83 (cl 59 [79,82]),km 77 83,kk 84 (.ex 77 0),kk 85 (.ex 77 1),km 19 84,km 20 85] (sr [km 86 16,km 87 17,kk 88 (.bi true .sub 86 87),kk 89 (.mx [(cn 0),88]),km 21 89] (sr [kk 22 (.al [(.int .i64 0),(.int .i64 0),(.nil 3),(.nil 2)])] (.seq (.cut (.reg [kk 91 (.ld 9 true 5),kk 92 (.ld 4 true 6),km 93 4,km 94 21,kk 95 (.mn [93,94]),kk 96 (cl 78 [91,92,95]),km 90 96,kk 97 (.ex 90 0),kk 98 (.ex 90 1),kk 99 (.ex 90 2),kk 100 (.ex 90 3),kk 101 (.fa 2 22),kz (.st 1 101 97),kk 102 (.fa 2 15),kz (.st 1 102 98),kk 103 (.fa 5 15),kz (.st 1 103 99),kk 104 (.fa 6 15),kz (.st 1 104 100)])) (sr [km 105 4,km 106 21,kk 107 (.mn [105,106]),kk 108 (.fa 2 15),kk 109 (.ld 1 false 108),kk 110 (.bi true .sub 107 109),km 23 110] (.seq (.cut (.reg [kk 112 (.fa 7 5),kk 113 (.ld 1 false 112),kk 114 (.fa 3 6),kk 115 (.ld 1 false 114),km 116 13,km 117 23,kk 118 (cl 79 [113,115,116,117]),km 111 118,kk 119 (.ex 111 0),kk 120 (.ex 111 1),kk 121 (.ex 111 2),km 24 119,km 25 120,km 26 121])) (sr [km 122 24,kk 123 (.fa 3 22),kz (.st 1 123 122)] (sr [km 124 25,km 125 21,kk 126 (.fa 2 15),kk 127 (.ld 1 false 126),kk 128 (.bi true .sub 125 127),kk 129 (.mn [124,128]),kk 130 (.fa 3 15),kz (.st 1 130 129)] (sr [km 131 16,kk 132 (.fa 2 15),kk 133 (.ld 1 false 132),kk 134 (.fa 3 15),kk 135 (.ld 1 false 134),kk 136 (.bi true .add 133 135),kk 137 (.bi true .sub 131 136),km 16 137] (sr [km 138 16,km 139 19,kk 140 (.bi true .sub 138 139),kk 141 (.mx [(cn 0),140]),kk 142 (.fa 4 15),kz (.st 1 142 141)] (.seq (.drw [km 143 16,kk 144 (.fa 4 15),kk 145 (.ld 1 false 144),kk 146 (.bi true .sub 143 145),kk 147 (.fa 2 15),kk 148 (.ld 1 false 147),kk 149 (.fa 3 15),kk 150 (.ld 1 false 149),kk 151 (.bi true .add 148 150),kk 152 (.mn [(cn 1073741824),151]),kk 153 (.fa 0 22),kz (.st 1 153 146),kk 154 (.fa 1 22),kz (.st 1 154 152)] (pl [(0,[1,2,4,5,6,7,8,9],143),(1,[4,5,6,7,8,9],144),(2,[4,5,6,7,8,9],145),(3,[4,5,6,7,8,9],146),(4,[6,7,10,11],147),(5,[6,7,10,11],148),(6,[10,11],149),(7,[10,11],150),(8,[10,11],151),(9,[10,11],152)])) (.seq (.drw [kk 155 (.ld 4 true 22),kk 156 (.ld 7 true 15),kz (.st 4 10 155),kz (.st 7 11 156),kk 12 (.mv (cn 0))] [(0,1,155),(1,2,156)]) .ret)))))))))))))))))))
theorem fits47:fits Tryz.prog true Tryz.f47 5 157 [(10,some (4,true)),(11,some (7,true)),(12,none)]=some c47.er:=by kernel_rfl
def c48:C:=(sr [kk 1 (.bx 7 0),kk 2 (.mv (cn 0))] (sr [kk 3 (.fa 2 1),kk 4 (.ld 1 false 3),kk 5 (.fa 3 1),kk 6 (.ld 1 false 5),kk 7 (.bi true .add 4 6),kk 8 (.fa 4 1),kk 9 (.ld 1 false 8),kk 10 (.bi true .add 7 9),km 2 10] .ret))
theorem fits48:fits Tryz.prog true Tryz.f48 1 11 [(2,none)]=some c48.er:=by kernel_rfl
def QUn (c:CallRes):Prop:=∃(l:List Us) (a b d:Int),c=⟨.tup [.sl 0 3 l.length (fl eUs l), .int .i64 a, .int .i64 b, .int .i64 d], [], []⟩∧l.length≤1000000
theorem q78 (τ τ':Nat) (x:Dm) (s:Ds) (r:Int) (hx:RgD x) (hs:RgS s) (hv:VlD x s):PureCallQ Tryz.prog 78 [.agg (eDm τ x), .agg (eDs τ' s), .int .i64 r] [] QUn:=by
 obtain ⟨ul,gl,ru,rg⟩:=hx
 obtain ⟨sul,sgl⟩:=hs
 obtain ⟨hvu,hvg⟩:=hv
 refine pure_callQ mix Tryz.func78 fits78 rfl ?_
 conv=>whnf
 refine ⟨by exact g0,LSem.regQ ?_⟩
 conv=>whnf
 refine ⟨_,q104 _ _ x.us s.us _ _ ul sul ru,⟨by exact g0,by exact g0⟩, ?_⟩
 rintro _ ⟨b,e,rfl,he⟩
 conv=>whnf
 refine ⟨by exact g0, ?_⟩
 conv=>whnf
 refine ⟨by exact g0,fun h=> ?_,fun h=> ?_⟩
 ·conv=>whnf
  refine ⟨by exact g0, ?_⟩
  refine LSem.adopt 12 1000000 210 3 3 rfl rfl ?_
  refine LSem.loop (n:=109) mix (α:=Nat×List Us) (fun y=>y.1≤s.us.length∧y.2.length=y.1)
   (fun y=> [(12, .os 1000000),(43, .sl τ' 3 s.us.length (fl eUs s.us)),(44, .int .i64 s.us.length),(45, .int .i64 y.1)])
   (fun y=> [(1000000, .row 0 210 3 y.2.length (fl eUs y.2))]) (fun y=>s.us.length - y.1) (0, []) ⟨Nat.zero_le _,rfl⟩ ?_ ?_
  ·refine ⟨rfl,rfl, ?_, ?_⟩<;>exact ent
  rintro ⟨i,l⟩ ⟨hi,hl⟩
  dsimp only at hi hl⊢
  conv=>whnf
  refine ⟨trivial,fun hc=> ?_,fun hc=> ?_⟩
  ·replace hc:=of_decide_eq_true hc
   have hlt:i<s.us.length:=by
    have h:(i:Int)<s.us.length:=hc
    omega
   have hj:((i:Int)).toNat=i:=by omega
   have hwi:IntKind.i64.wrap ((i:Int)+1)=(i:Int)+1:=by rw [wrap64'];omega
   have hq:=fun y=>fl_push eUs l y
   have hxl:∀y,(l++ [y]).length=l.length+1:=fun y=>by simp
   conv=>whnf
   rw [hj]
   refine ⟨by exact g0,fun h=> ?_,fun h=> ?_⟩
   ·have q:=hq ⟨0,1,(s.us.getD i default).out⟩
    conv=>whnf
    rw [hwi]
    refine ⟨by exact g0,(i+1,l++ [⟨0,1,(s.us.getD i default).out⟩]),⟨hlt,by dsimp only;rw [hxl];omega⟩,by dsimp only;omega,rfl,rfl, ?_, ?_⟩<;>exact ent
   ·have q:=hq ⟨0,mn 1000 (IntKind.i64.wrap ((s.us.getD i default).since+1)),(s.us.getD i default).out⟩
    conv=>whnf
    rw [hwi]
    refine ⟨by exact g0,(i+1,l++ [⟨0,mn 1000 (IntKind.i64.wrap ((s.us.getD i default).since+1)),(s.us.getD i default).out⟩]),⟨hlt,by dsimp only;rw [hxl];omega⟩,by dsimp only;omega,rfl,rfl, ?_, ?_⟩<;>exact ent
  ·exact retQ _ ⟨l,_,_,_,rfl,by omega⟩
 simp only [bp] at h
 have hb:=he h
 conv=>whnf
 refine ⟨by exact g0,LSem.regQ ?_⟩
 conv=>whnf
 refine ⟨_,q105 _ _ _ x.us s.us b ul ru,⟨by exact g0,by exact g0⟩, ?_⟩
 rintro _ ⟨x1,x2,x3,x4,rfl⟩
 conv=>whnf
 refine ⟨by exact g0, ?_⟩
 conv=>whnf
 refine ⟨by exact g0, ?_⟩
 refine LSem.adopt 12 1000000 210 3 3 rfl rfl ?_
 refine LSem.loop (n:=109) mix (α:=Nat×List Us) (fun y=>y.1≤x.us.length∧y.2.length=y.1)
  (fun y=> [(4, .pt 64 0 0),(10, .sl 0 1 b.length (fl eInt b)),(12, .os 1000000),(16, .int .i64 x1),(17, .int .i64 x2),(18, .int .i64 x3),(78, .sl τ 6 x.us.length (fl (eUt 0) x.us)),(79, .int .i64 x.us.length),(80, .int .i64 y.1)])
  (fun y=> [(64, .box (eDs τ' s)),(1000000, .row 0 210 3 y.2.length (fl eUs y.2))]) (fun y=>x.us.length - y.1) (0, []) ⟨Nat.zero_le _,rfl⟩ ?_ ?_
 ·refine ⟨rfl,rfl, ?_, ?_⟩<;>exact ent
 rintro ⟨i,l⟩ ⟨hi,hl⟩
 dsimp only at hi hl⊢
 conv=>whnf
 refine ⟨trivial,fun hc=> ?_,fun hc=> ?_⟩
 ·replace hc:=of_decide_eq_true hc
  have hlt:i<x.us.length:=by
   have h:(i:Int)<x.us.length:=hc
   omega
  have hj:((i:Int)).toNat=i:=by omega
  have hwi:IntKind.i64.wrap ((i:Int)+1)=(i:Int)+1:=by rw [wrap64'];omega
  conv=>whnf
  rw [hj]
  refine ⟨by exact g0,LSem.drwQ mix ?_⟩
  conv=>whnf
  rw [hj]
  refine ⟨_,q106 _ _ _ _ (ru i hlt),⟨_,⟨0,0,false⟩,false,0,rfl⟩,rfl, ?_⟩
  rintro _ ⟨u',bb,e2,rfl⟩
  have hq:=fl_push eUs l u'
  have hxl:(l++ [u']).length=l.length+1:=by simp
  conv=>whnf
  refine ⟨by exact g0,rfl, ?_⟩
  conv=>whnf
  rw [hwi]
  refine ⟨by exact g0,(i+1,l++ [u']),⟨hlt,by dsimp only;omega⟩,by dsimp only;omega,rfl,rfl, ?_, ?_⟩<;>exact ent
 ·exact retQ _ ⟨l,_,_,_,rfl,by omega⟩
structure Dr where
 a:Int
 b:Int
 c:Int
 d:Int
 e:Int
 f:Int
 g:Int
 deriving Inhabited
def eDr (r:Dr):List PV:= [.int .i64 r.a, .int .i64 r.b, .int .i64 r.c, .int .i64 r.d, .int .i64 r.e, .int .i64 r.f, .int .i64 r.g]
def QDst (c:CallRes):Prop:=∃(s:Ds) (r:Dr) (e:Int),c=⟨.tup [.agg (eDs 0 s), .agg (eDr r), .int .i64 e], [], []⟩∧RgS s
theorem q47 (τ τ':Nat) (x:Dm) (s:Ds) (a l r:Int) (hx:RgD x) (hs:RgS s):PureCallQ Tryz.prog 47 [.agg (eDm τ x), .agg (eDs τ' s), .int .i64 a, .int .i64 l, .int .i64 r] [] QDst:=by
 have hx':=hx
 have hs':=hs
 obtain ⟨ul,gl,ru,rg⟩:=hx
 obtain ⟨sul,sgl⟩:=hs
 have z0:RgS ⟨0,0, [], []⟩:=⟨Nat.zero_le _,Nat.zero_le _⟩
 refine pure_callQ mix Tryz.func47 fits47 rfl ?_
 conv=>whnf
 refine ⟨by exact g0,LSem.regQ ?_⟩
 conv=>whnf
 refine ⟨_,q42 _ _ x s hx' hs',⟨by exact g0,by exact g0⟩, ?_⟩
 rintro _ ⟨lv,e,rfl,he⟩
 conv=>whnf
 refine ⟨by exact g0, ?_⟩
 conv=>whnf
 refine ⟨by exact g0,fun h=> ?_,fun h=> ?_⟩
 ·exact retQ _ ⟨⟨0,0, [], []⟩,⟨0,0,0,0,0,0,0⟩,_,rfl,z0⟩
 simp only [bp] at h
 have hv:=he h
 conv=>whnf
 refine ⟨_,fun _=>call77 _ _, ?_⟩
 conv=>whnf
 refine ⟨_,fun _=>call77 _ _, ?_⟩
 conv=>whnf
 refine ⟨_,fun _=>call77 _ _, ?_⟩
 conv=>whnf
 refine ⟨by exact g3,fun h=> ?_,fun h=> ?_⟩
 ·exact retQ _ ⟨⟨0,0, [], []⟩,⟨0,0,0,0,0,0,0⟩,_,rfl,z0⟩
 conv=>whnf
 refine ⟨_,fun _=>call59 _ x.r _, ?_⟩
 conv=>whnf
 refine ⟨_,fun _=>call59 _ x.r _, ?_⟩
 conv=>whnf
 refine ⟨by exact g0,LSem.regQ ?_⟩
 conv=>whnf
 refine ⟨_,q78 _ _ x s _ hx' hs' hv,⟨by exact g0,by exact g0⟩, ?_⟩
 rintro _ ⟨us',y1,y2,y3,rfl,hul⟩
 conv=>whnf
 refine ⟨by exact g0, ?_⟩
 conv=>whnf
 refine ⟨by exact g0,LSem.regQ ?_⟩
 conv=>whnf
 refine ⟨_,q79 _ _ x.gs s.gs _ _ gl sgl rg,⟨by exact g0,by exact g0⟩, ?_⟩
 rintro _ ⟨gs',y4,y5,rfl,hgl⟩
 conv=>whnf
 refine ⟨by exact g0, ?_⟩
 conv=>whnf
 refine ⟨rfl, ?_⟩
 conv=>whnf
 refine ⟨rfl, ?_⟩
 exact retQ _ ⟨⟨_,_,us',gs'⟩,⟨_,_,_,_,_,_,_⟩,_,rfl,⟨hul,hgl⟩⟩
def c44L1:C:=(sr [kk 25 (.bi false .lss 24 23)] (.seq (.cond 25 .skip (.exit 0)) (.seq (.block 1 (sr [km 26 24,kk 27 (.ia 10 22 24),kk 28 (.ld 10 true 27),kk 5 (.al [(.int .i64 0),(.nil 2),(.int .i64 0),(.int .i64 0),(.int .i64 0),(.int .i64 0),(.int .i64 0),(.nil 6),(.nil 3),(.int .i64 0)]),km 4 26,kz (.st 10 5 28)] (.seq (sr [kk 29 (.fa 0 5),kk 30 (.ld 1 false 29),kk 31 (.bi false .lss 30 (cn 0)),km 32 31,kg 33 32 false (.fa 0 5),kg 34 32 false (.ld 1 false 33),kg 35 32 false (.fa 0 1),kg 36 32 false (.fa 0 35),kg 37 32 false (.ld 1 false 36),kg 38 32 false (.bi false .geq 34 37),kk 39 (.pick 32 (.c (.bool true)) 38)] (.cond 39 (sr [kk 2 (.mv (cn 41))] .ret) .skip)) (.seq (.seq (.drw [km 40 4,kk 41 (.bi false .gtr 40 (cn 0)),km 42 41,kg 43 42 true (.fa 0 5),kg 44 42 true (.ld 1 false 43),kg 45 42 true (.fa 2 1),kg 46 42 true (.ld 1 false 45),kg 47 42 true (.mv 4),kg 48 42 true (.bi false .sub 47 (cn 1)),kg 49 42 true (.ia 10 46 48),kg 50 42 true (.fa 0 49),kg 51 42 true (.ld 1 false 50),kg 52 42 true (.bi false .leq 44 51),kk 53 (.pick 42 52 (.c (.bool false)))] (pl [(3,[5,6,7,8,9,10,11],43),(4,[5,6,7,8,9,10,11],44),(5,[7,8],45),(6,[7,8],46)])) (.cond 53 (sr [kk 2 (.mv (cn 4))] .ret) .skip)) (.seq (.cut (.reg [kk 54 (.fa 1 5),kk 55 (.ld 9 true 54),kk 56 (cl 76 [55]),km 6 56])) (sr [km 57 6,kk 58 (.bi false .neq 57 (cn 0))] (.cond 58 (sr [km 59 6,km 2 59] .ret) .skip))))))) (.reg [kk 60 (.bi false .add 24 (cn 1)),km 24 60]))))
def c44:C:=(sr [kk 1 (.bx 3 0),kk 2 (.mv (cn 0))] (.seq (.seq (.cut (.reg [kk 7 (.fa 0 1),kk 8 (.ld 2 true 7),kk 9 (cl 75 [8]),km 3 9])) (sr [km 10 3,kk 11 (.bi false .neq 10 (cn 0))] (.cond 11 (sr [km 12 3,km 2 12] .ret) .skip))) (.seq (sr [kk 13 (.fa 0 1),kk 14 (.fa 0 13),kk 15 (.ld 1 false 14),kk 16 (.bi false .gtr 15 (cn 12))] (.cond 16 (sr [kk 2 (.mv (cn 41))] .ret) .skip)) (.seq (sr [kk 17 (.fa 2 1),kk 18 (.ld 1 false 17),kk 19 (.len 18),kk 20 (.bi false .gtr 19 (cn 6))] (.cond 20 (sr [kk 2 (.mv (cn 10))] .ret) .skip)) (.seq (sr [kk 21 (.fa 2 1),kk 22 (.ld 1 false 21),kk 23 (.len 22),kk 24 (.mv (cn 0))] (.block 0 (.loop c44L1))) (sr [kk 2 (.mv (cn 0))] .ret))))))
theorem fits44:fits Tryz.prog false Tryz.f44 1 61 [(2,none)]=some c44.er:=by kernel_rfl
def c39L1:C:=(sr [kk 41 (.bi false .lss 40 39)] (.seq (.cond 41 .skip (.exit 0)) (.seq (.block 1 (sr [km 42 40,kk 43 (.ia 10 38 40),kk 44 (.ld 10 true 43),kk 6 (.al [(.int .i64 0),(.nil 2),(.int .i64 0),(.int .i64 0),(.int .i64 0),(.int .i64 0),(.int .i64 0),(.nil 6),(.nil 3),(.int .i64 0)]),km 5 42,kz (.st 10 6 44)] (.seq (.cut (.drw [kk 45 (.fa 1 6),kk 46 (.ld 9 true 45),kk 47 (.fa 1 3),kk 48 (.ld 1 false 47),km 49 5,kk 50 (.ia 4 48 49),kk 51 (.ld 4 true 50),kk 52 (cl 64 [46,51]),kk 53 (.un false .not 52)] (pl [(0,[2,3,4,5,6],45),(1,[2,3,4,5,6],46),(2,[4],47),(3,[4],48)]))) (.cond 53 (sr [kk 4 (.mv (.c (.bool false)))] .ret) .skip)))) (.reg [kk 54 (.bi false .add 40 (cn 1)),km 40 54]))))
def c39L2:C:=(sr [kk 60 (.bi false .lss 59 58)] (.seq (.cond 60 .skip (.exit 2)) (.seq (.block 3 (sr [km 61 59,kk 62 (.ia 4 57 59),kk 63 (.ld 4 true 62),kk 8 (.al [(.int .i64 0),(.int .i64 0),(.nil 1),(.int .i64 0)]),km 7 61,kz (.st 4 8 63)] (.seq (.cut (.drw [kk 64 (.fa 2 8),kk 65 (.ld 2 true 64),kk 66 (.fa 2 3),kk 67 (.ld 1 false 66),km 68 7,kk 69 (.ia 1 67 68),kk 70 (.ld 1 true 69),kk 71 (cl 65 [65,70]),kk 72 (.un false .not 71)] (pl [(0,[2,3,4,5,6],64),(1,[2,3,4,5,6],65),(2,[4],66),(3,[4],67)]))) (.cond 72 (sr [kk 4 (.mv (.c (.bool false)))] .ret) .skip)))) (.reg [kk 73 (.bi false .add 59 (cn 1)),km 59 73]))))
def c39:C:=(sr [kk 2 (.bx 3 0),kk 3 (.bx 3 1),kk 4 (.mv (.c (.bool false)))] (.seq (.seq (.cut (.reg [kk 9 (.ld 3 true 2),kk 10 (cl 44 [9]),kk 11 (.bi false .neq 10 (cn 0)),km 12 11,kg 13 12 false (.fa 0 3),kg 14 12 false (.ld 1 false 13),kg 15 12 false (cl 63 [14,(cn 16777216)]),kg 16 12 false (.un false .not 15),kk 17 (.pick 12 (.c (.bool true)) 16),km 18 17,kg 19 18 false (.fa 1 3),kg 20 18 false (.ld 1 false 19),kg 21 18 false (.len 20),kg 22 18 false (.fa 2 2),kg 23 18 false (.ld 1 false 22),kg 24 18 false (.len 23),kg 25 18 false (.bi false .neq 21 24),kk 26 (.pick 18 (.c (.bool true)) 25),km 27 26,kg 28 27 false (.fa 2 3),kg 29 27 false (.ld 1 false 28),kg 30 27 false (.len 29),kg 31 27 false (.fa 0 2),kg 32 27 false (.fa 1 31),kg 33 27 false (.ld 1 false 32),kg 34 27 false (.len 33),kg 35 27 false (.bi false .neq 30 34),kk 36 (.pick 27 (.c (.bool true)) 35)])) (.cond 36 (sr [kk 4 (.mv (.c (.bool false)))] .ret) .skip)) (.seq (sr [kk 37 (.fa 2 2),kk 38 (.ld 1 false 37),kk 39 (.len 38),kk 40 (.mv (cn 0))] (.block 0 (.loop c39L1))) (.seq (sr [kk 55 (.fa 0 2),kk 56 (.fa 1 55),kk 57 (.ld 1 false 56),kk 58 (.len 57),kk 59 (.mv (cn 0))] (.block 2 (.loop c39L2))) (sr [kk 4 (.mv (.c (.bool true)))] .ret)))))
theorem fits39:fits Tryz.prog false Tryz.f39 2 74 [(4,none)]=some c39.er:=by kernel_rfl
def allB (m:Int):List Int→Bool
 | []=>true
 | x::r=>bif (decide (0≤x)&&decide (x≤m)) then allB m r else false
theorem allB_drop {m:Int} {l:List Int} {i:Nat} (h:i<l.length):allB m (l.drop i)=bif (decide (0≤l.getD i default)&&decide (l.getD i default≤m)) then allB m (l.drop (i+1)) else false:=by
 rw [List.drop_eq_getElem_cons h]
 have e1:l.getD i default=l[i]:=by simp [List.getD,h]
 rw [e1];rfl
theorem call45 (τ:Nat) (l:List Int) (m:Int) (hl:l.length≤4611686018427387904):PureCall Tryz.prog 45 [.sl τ 1 l.length (fl eInt l), .int .i64 m] [] ⟨.bool (allB m l), [], []⟩:=by
 refine pure_call mix Tryz.func45 fits45 rfl ?_
 conv=>whnf
 refine ⟨trivial, ?_⟩
 refine LSem.loop (n:=18) mix (α:=Nat) (fun i=>i≤l.length∧allB m (l.drop i)=allB m l)
  (fun i=> [(1, .int .i64 m),(7, .sl τ 1 l.length (fl eInt l)),(8, .int .i64 l.length),(9, .int .i64 i)])
  (fun i=> []) (fun i=>l.length - i) 0 ⟨Nat.zero_le _,rfl⟩ ?_ ?_
 ·refine ⟨rfl,rfl, ?_, ?_⟩<;>exact ent
 rintro i ⟨hi,hI⟩
 conv=>whnf
 refine ⟨trivial,fun hc=> ?_,fun hc=> ?_⟩
 ·replace hc:=of_decide_eq_true hc
  have hlt:i<l.length:=by
   have h:(i:Int)<l.length:=hc
   omega
  have hj:((i:Int)).toNat=i:=by omega
  rw [allB_drop hlt] at hI
  conv=>whnf
  rw [hj]
  refine ⟨_,fun _=>call63 _ _, ?_⟩
  generalize (decide (0≤l.getD i default)&&decide (l.getD i default≤m))=b at hI⊢
  conv=>whnf
  refine ⟨by exact g0,fun h=> ?_,fun h=> ?_⟩
  ·have hb:b=false:=by simpa using h
   rw [hb] at hI
   rw [←hI]
   conv=>whnf
   refine ⟨?_, [], ?_⟩
   ·exact g0
   conv=>whnf
   refine ⟨rfl, ?_,trivial,trivial⟩
   all_goals repeat' (first | exact True.intro | refine leF_cons rfl ?_ ?_ | refine leS_cons rfl ?_ ?_ | (show PLe _ _ _ _;conv=>whnf) | (show SLe _ _ _ _;conv=>whnf) | (show PLeL _ _ _ _;conv=>whnf) | apply And.intro | rfl | exact Nat.le_refl _ | exact fun _ _=>rfl | exact rowEq0 _ _)
  ·have hb:b=true:=by simpa using h
   rw [hb] at hI
   conv=>whnf
   refine ⟨by exact g0,i+1,⟨hlt,hI⟩,by omega,rfl,rfl, ?_, ?_⟩<;>exact ent
 ·have hk:i=l.length:=by
    have h:¬(i:Int)<l.length:=of_decide_eq_false hc
    omega
  subst hk
  rw [List.drop_length] at hI
  rw [←hI]
  conv=>whnf
  refine ⟨?_, [], ?_⟩
  ·exact g0
  conv=>whnf
  refine ⟨rfl, ?_,trivial,trivial⟩
  all_goals repeat' (first | exact True.intro | refine leF_cons rfl ?_ ?_ | refine leS_cons rfl ?_ ?_ | (show PLe _ _ _ _;conv=>whnf) | (show SLe _ _ _ _;conv=>whnf) | (show PLeL _ _ _ _;conv=>whnf) | apply And.intro | rfl | exact Nat.le_refl _ | exact fun _ _=>rfl | exact rowEq0 _ _)
structure Cs where
 N:Int
 lk:List Lk
 ss:List Site
def eCas (τ:Nat) (c:Cs):List PV:= [.int .i64 c.N, .sl τ 4 c.lk.length (fl (eLk 0) c.lk), .sl τ 10 c.ss.length (fl (eSite 0) c.ss)]
structure RgC (c:Cs):Prop where
 ll:c.lk.length≤1000000
 sl:c.ss.length≤1000000
 lw:∀i,i<c.lk.length→(c.lk.getD i default).ws.length≤1000000
 sd:∀i,i<c.ss.length→RgD (c.ss.getD i default).x
structure CasOK (c:Cs):Prop where
 riv:RivOK c.N c.lk
 nd:∀i,i<c.ss.length→0≤(c.ss.getD i default).node∧(c.ss.getD i default).node<c.N
theorem q44 (τ:Nat) (c:Cs) (hc:RgC c):PureCallQ Tryz.prog 44 [.agg (eCas τ c)] [] (QErr (CasOK c)):=by
 obtain ⟨ll,sl,lw,sd⟩:=hc
 refine pure_callQ mix Tryz.func44 fits44 rfl ?_
 conv=>whnf
 refine ⟨by exact g0,LSem.regQ ?_⟩
 conv=>whnf
 refine ⟨_,q75 _ c.N c.lk (by omega) (fun i hi=>by have:=lw i hi;omega),⟨by exact g0,by exact g0⟩, ?_⟩
 rintro _ ⟨e,rfl,he⟩
 conv=>whnf
 refine ⟨by exact g0, ?_⟩
 conv=>whnf
 refine ⟨by exact g0,fun h=> ?_,fun h=> ?_⟩
 ·simp only [bp] at h
  exact retQ _ ⟨e,rfl,imp_ne h⟩
 simp only [bp] at h
 have hriv:=he h
 conv=>whnf
 refine ⟨by exact g0,fun h=> ?_,fun h=> ?_⟩
 ·exact retQ _ ⟨41,rfl,imp_c⟩
 conv=>whnf
 refine ⟨by exact g0,fun h=> ?_,fun h=> ?_⟩
 ·exact retQ _ ⟨10,rfl,imp_c⟩
 conv=>whnf
 refine ⟨by exact g0, ?_⟩
 refine LSem.loop (n:=61) mix (α:=Nat) (fun i=>i≤c.ss.length∧∀j,j<i→0≤(c.ss.getD j default).node∧(c.ss.getD j default).node<c.N)
  (fun i=> [(1, .pt 16 0 0),(22, .sl τ 10 c.ss.length (fl (eSite 0) c.ss)),(23, .int .i64 c.ss.length),(24, .int .i64 i)])
  (fun i=> [(16, .box (eCas τ c))]) (fun i=>c.ss.length - i) 0 ⟨Nat.zero_le _,fun j hj=>by omega⟩ ?_ ?_
 ·refine ⟨rfl,rfl, ?_, ?_⟩<;>exact ent
 rintro i ⟨hi,hI⟩
 conv=>whnf
 refine ⟨trivial,fun hc=> ?_,fun hc=> ?_⟩
 ·replace hc:=of_decide_eq_true hc
  have hlt:i<c.ss.length:=by
   have h:(i:Int)<c.ss.length:=hc
   omega
  have hj:((i:Int)).toNat=i:=by omega
  have hsd:=sd i hlt
  conv=>whnf
  rw [hj]
  refine ⟨by exact g3,fun h=> ?_,fun h=> ?_⟩
  ·exact retQ _ ⟨41,rfl,imp_c⟩
  simp only [bp] at h
  conv=>whnf
  refine ⟨rfl, ?_⟩
  have e1:((i:Int) - 1).toNat=i - 1:=by omega
  have hb:0<i→i - 1<c.ss.length:=by omega
  conv=>whnf
  rw [e1]
  refine ⟨by exact g2,fun h=> ?_,fun h=> ?_⟩
  ·exact retQ _ ⟨4,rfl,imp_c⟩
  conv=>whnf
  refine ⟨by exact g0,LSem.regQ ?_⟩
  conv=>whnf
  refine ⟨_,q76 _ (c.ss.getD i default).x hsd,⟨by exact g0,by exact g0⟩, ?_⟩
  rintro _ ⟨e,rfl⟩
  conv=>whnf
  refine ⟨by exact g0, ?_⟩
  conv=>whnf
  refine ⟨by exact g0,fun h=> ?_,fun h=> ?_⟩
  ·simp only [bp] at h
   exact retQ _ ⟨e,rfl,imp_ne h⟩
  ·conv=>whnf
   refine ⟨by exact g0,i+1,⟨hlt,fun j hj=> ?_⟩,by omega,rfl,rfl, ?_, ?_⟩
   ·by_cases e:j=i
    ·subst e;omega
    ·exact hI j (by omega)
   ·exact ent
   ·exact ent
 ·have hk:i=c.ss.length:=by
    have h:¬(i:Int)<c.ss.length:=of_decide_eq_false hc
    omega
  exact retQ _ ⟨0,rfl,fun _=>⟨hriv,fun j hj=>hI j (by omega)⟩⟩
structure Dt where
 s:Ds
 t:Nat
 deriving Inhabited
def eDt (x:Dt):List PV:=eDs x.t x.s
structure Fw where
 t:Int
 ds:List Dt
 wv:List Wt
def eFw (τ:Nat) (f:Fw):List PV:= [.int .i64 f.t, .sl τ 4 f.ds.length (fl eDt f.ds), .sl τ 1 f.wv.length (fl eWt f.wv)]
structure RgF (f:Fw):Prop where
 dl:f.ds.length≤1000000
 wl:f.wv.length≤1000000
 dd:∀i,i<f.ds.length→RgS (f.ds.getD i default).s
 ww:∀i,i<f.wv.length→(f.wv.getD i default).w.n≤1000000
structure VlF (c:Cs) (f:Fw):Prop where
 d:f.ds.length=c.ss.length
 w:f.wv.length=c.lk.length
theorem q39 (τ τ':Nat) (c:Cs) (f:Fw) (hc:RgC c) (hf:RgF f):PureCallQ Tryz.prog 39 [.agg (eCas τ c), .agg (eFw τ' f)] [] (QVal (VlF c f)):=by
 have hc':=hc
 obtain ⟨ll,sl,lw,sd⟩:=hc
 obtain ⟨dl,wl,dd,ww⟩:=hf
 refine pure_callQ mix Tryz.func39 fits39 rfl ?_
 conv=>whnf
 refine ⟨by exact g0,LSem.regQ ?_⟩
 conv=>whnf
 refine ⟨_,q44 _ c hc',⟨by exact g0,by exact g0⟩, ?_⟩
 rintro _ ⟨e,rfl,_⟩
 conv=>whnf
 refine ⟨_,fun _=>call63 _ _, ?_⟩
 conv=>whnf
 refine ⟨by exact g3, ?_⟩
 conv=>whnf
 refine ⟨by exact g0,fun h=> ?_,fun h=> ?_⟩
 ·exact retQ _ ⟨false,rfl,imp_f⟩
 have h3:=bif_or h
 have hug:f.ds.length=c.ss.length∧f.wv.length=c.lk.length:=by
  have h4:=(bif_or h3.1).2
  have h5:=h3.2
  have h4:((f.ds.length:Int) != c.ss.length)=false:=h4
  have h5:((f.wv.length:Int) != c.lk.length)=false:=h5
  simp only [bp] at h4 h5
  omega
 obtain ⟨hu,hgg⟩:=hug
 conv=>whnf
 refine ⟨by exact g0, ?_⟩
 refine LSem.loop (n:=74) mix (α:=Nat) (fun i=>i≤c.ss.length)
  (fun i=> [(2, .pt 32 0 0),(3, .pt 48 0 0),(38, .sl τ 10 c.ss.length (fl (eSite 0) c.ss)),(39, .int .i64 c.ss.length),(40, .int .i64 i)])
  (fun i=> [(32, .box (eCas τ c)),(48, .box (eFw τ' f))]) (fun i=>c.ss.length - i) 0 (Nat.zero_le _) ?_ ?_
 ·refine ⟨rfl,rfl, ?_, ?_⟩<;>exact ent
 intro i hi
 conv=>whnf
 refine ⟨trivial,fun hc=> ?_,fun hc=> ?_⟩
 ·replace hc:=of_decide_eq_true hc
  have hlt:i<c.ss.length:=by
   have h:(i:Int)<c.ss.length:=hc
   omega
  have hj:((i:Int)).toNat=i:=by omega
  conv=>whnf
  rw [hj]
  refine ⟨by exact g0,LSem.drwQ mix ?_⟩
  conv=>whnf
  rw [hj]
  refine ⟨_,q64 _ _ (c.ss.getD i default).x (f.ds.getD i default).s (sd i hlt) (dd i (by omega)),⟨_,false,rfl,imp_f⟩,rfl, ?_⟩
  rintro _ ⟨b,rfl,_⟩
  conv=>whnf
  refine ⟨by exact g0,rfl, ?_⟩
  conv=>whnf
  refine ⟨by exact g0,fun h=> ?_,fun h=> ?_⟩
  ·exact retQ _ ⟨false,rfl,imp_f⟩
  ·conv=>whnf
   refine ⟨by exact g0,i+1,hlt,by omega,rfl,rfl, ?_, ?_⟩<;>exact ent
 conv=>whnf
 refine ⟨by exact g0, ?_⟩
 refine LSem.loop (n:=74) mix (α:=Nat) (fun i=>i≤c.lk.length)
  (fun i=> [(3, .pt 48 0 0),(57, .sl τ 4 c.lk.length (fl (eLk 0) c.lk)),(58, .int .i64 c.lk.length),(59, .int .i64 i)])
  (fun i=> [(48, .box (eFw τ' f))]) (fun i=>c.lk.length - i) 0 (Nat.zero_le _) ?_ ?_
 ·refine ⟨rfl,rfl, ?_, ?_⟩<;>exact ent
 clear hc hi i
 intro i hi
 conv=>whnf
 refine ⟨trivial,fun hc=> ?_,fun hc=> ?_⟩
 ·replace hc:=of_decide_eq_true hc
  have hlt:i<c.lk.length:=by
   have h:(i:Int)<c.lk.length:=hc
   omega
  have hj:((i:Int)).toNat=i:=by omega
  have hlw:=lw i hlt
  have hww:=ww i (by omega)
  conv=>whnf
  rw [hj]
  refine ⟨by exact g0,LSem.drwQ mix ?_⟩
  conv=>whnf
  rw [hj]
  refine ⟨_,q65w _ _ (c.lk.getD i default).ws (c.lk.getD i default).den (f.wv.getD i default).w (by omega) (by omega),⟨_,false,rfl,imp_f⟩,rfl, ?_⟩
  rintro _ ⟨b,rfl,_⟩
  conv=>whnf
  refine ⟨by exact g0,rfl, ?_⟩
  conv=>whnf
  refine ⟨by exact g0,fun h=> ?_,fun h=> ?_⟩
  ·exact retQ _ ⟨false,rfl,imp_f⟩
  ·conv=>whnf
   refine ⟨by exact g0,i+1,hlt,by omega,rfl,rfl, ?_, ?_⟩<;>exact ent
 ·exact retQ _ ⟨true,rfl,fun _=>⟨hu,hgg⟩⟩
def c61L1:C:=(sr [kk 9 (.bi false .lss 8 7)] (.seq (.cond 9 .skip (.exit 0)) (.seq (.block 1 (sr [kk 10 (.ia 4 6 8),kk 11 (.ld 4 true 10),kk 5 (.al [(.int .i64 0),(.int .i64 0),(.nil 3),(.nil 2)]),kz (.st 4 5 11)] (sr [kk 12 (.fa 2 5),kk 13 (.ld 1 false 12),kk 14 (.app 210 3 24 (.c (.nil 3)) 13),kk 15 (.fa 2 5),kz (.st 1 15 14)] (sr [kk 16 (.fa 3 5),kk 17 (.ld 1 false 16),kk 18 (.app 217 2 16 (.c (.nil 2)) 17),kk 19 (.fa 3 5),kz (.st 1 19 18)] (.reg [km 20 3,kk 21 (.ld 4 true 5),kk 22 (.bs 95 4 [21]),kk 23 (.app 95 4 64 20 22),km 3 23]))))) (.reg [kk 24 (.bi false .add 8 (cn 1)),km 8 24]))))
def c61:C:=(sr [kk 2 (.mv (.c (.nil 4)))] (sr [kk 3 (.mv (.c (.nil 4)))] (.seq (sr [km 6 0,kk 7 (.len 6),kk 8 (.mv (cn 0))] (.block 0 (.loop c61L1))) (sr [km 25 3,km 2 25] .ret))))
theorem fits61:fits Tryz.prog false Tryz.f61 1 26 [(2,none)]=some c61.er:=by kernel_rfl
def c46L1:C:=(sr [kk 14 (.bi false .lss 13 12)] (.seq (.cond 14 .skip (.exit 0)) (.seq (.block 1 (sr [kk 15 (.ia 1 11 13),kk 16 (.ld 1 true 15),kk 5 (.al [(.nil 1)]),kz (.st 1 5 16)] (.reg [km 17 3,kk 18 (.fa 0 5),kk 19 (.ld 1 false 18),kk 20 (.app 3 1 8 (.c (.nil 1)) 19),kk 21 (.bd [(.nil 1)] [(0,1,20)]),kk 22 (.bs 156 1 [21]),kk 23 (.app 156 1 24 17 22),km 3 23]))) (.reg [kk 24 (.bi false .add 13 (cn 1)),km 13 24]))))
def c46:C:=(sr [kk 1 (.bx 3 0),kk 2 (.al [(.int .i64 0),(.nil 4),(.nil 1)])] (.seq (.cut (.reg [kk 6 (.fa 1 1),kk 7 (.ld 1 false 6),kk 8 (cl 61 [7]),kk 9 (.fa 1 1),kz (.st 1 9 8)])) (sr [kk 3 (.mv (.c (.nil 1)))] (.seq (sr [kk 10 (.fa 2 1),kk 11 (.ld 1 false 10),kk 12 (.len 11),kk 13 (.mv (cn 0))] (.block 0 (.loop c46L1))) (sr [km 25 3,kk 26 (.fa 2 1),kz (.st 1 26 25)] (sr [kk 27 (.ld 3 true 1),kz (.st 3 2 27)] .ret))))))
theorem fits46:fits Tryz.prog false Tryz.f46 1 28 [(2,some (3,true))]=some c46.er:=by kernel_rfl
def c36:C:=(sr [kk 2 (.bx 3 0),kk 4 (.al [(.int .i64 0),(.nil 4),(.nil 1)]),kk 5 (.mv (cn 0))] (.seq (.seq (.cut (.reg [kk 10 (.ld 3 true 2),kk 11 (cl 44 [10]),km 6 11])) (sr [km 12 6,kk 13 (.bi false .neq 12 (cn 0))] (.cond 13 (sr [kk 14 (.bd [(.int .i64 0),(.nil 4),(.nil 1)] []),km 15 6,kz (.st 3 4 14),km 5 15] .ret) .skip))) (.seq (.cut (.reg [kk 17 (.fa 0 2),kk 18 (.ld 2 true 17),kk 19 (cl 60 [18]),km 16 19,kk 20 (.ex 16 0),kk 21 (.ex 16 1),km 7 20,km 8 21])) (.seq (.cut (.reg [km 22 1,kk 23 (cl 61 [22]),km 24 7,kk 25 (.bd [(.int .i64 0),(.nil 4),(.nil 1)] [(1,1,23),(2,1,24)]),kk 9 (.al [(.int .i64 0),(.nil 4),(.nil 1)]),kz (.st 3 9 25)])) (.seq (.seq (.cut (.reg [kk 26 (.ld 3 true 2),kk 27 (.ld 3 true 9),kk 28 (cl 39 [26,27]),kk 29 (.un false .not 28)])) (.cond 29 (sr [kk 30 (.bd [(.int .i64 0),(.nil 4),(.nil 1)] []),kz (.st 3 4 30),kk 5 (.mv (cn 3))] .ret) .skip)) (sr [kk 31 (.ld 3 true 9),kz (.st 3 4 31),kk 5 (.mv (cn 0))] .ret))))))
theorem fits36:fits Tryz.prog false Tryz.f36 2 32 [(4,some (3,true)),(5,none)]=some c36.er:=by kernel_rfl
def QDam (n:Nat) (c:CallRes):Prop:=∃l:List Dt,c=⟨.os 1000000000, [], [.row 1 95 4 l.length (fl eDt l)]⟩∧l.length=n∧∀i,i<l.length→RgS (l.getD i default).s
theorem gd_push {α:Type} [Inhabited α] (l:List α) (x:α) {k:Nat} (hk:k<(l++ [x]).length):(l++ [x]).getD k default=if k<l.length then l.getD k default else x:=by
 simp only [List.getD_eq_getElem?_getD]
 by_cases hkl:k<l.length
 ·rw [if_pos hkl,List.getElem?_append_left hkl]
 ·rw [List.length_append,List.length_cons,List.length_nil] at hk
  rw [if_neg hkl,List.getElem?_append_right (by omega),show k - l.length=0 by omega];rfl
theorem all_push {α:Type} [Inhabited α] {P:α→Prop} {l:List α} {x:α} (h:∀i,i<l.length→P (l.getD i default)) (hx:P x):∀i,i<(l++ [x]).length→P ((l++ [x]).getD i default):=fun i hi=>by
 rw [gd_push l x hi]
 split
 ·exact h i (by assumption)
 ·exact hx
theorem q61 (l:List Dt) (hl:l.length≤1000000) (hd:∀i,i<l.length→RgS (l.getD i default).s):PureCallQ Tryz.prog 61 [.sl 1 4 l.length (fl eDt l)] [] (QDam l.length):=by
 refine pure_callQ mix Tryz.func61 fits61 rfl ?_
 conv=>whnf
 refine ⟨by exact g0, ?_⟩
 refine LSem.adopt 3 1000000 95 4 4 rfl rfl ?_
 refine LSem.loop (n:=26) mix (α:=Nat×List Dt) (fun s=>s.1≤l.length∧s.2.length=s.1∧∀i,i<s.2.length→RgS (s.2.getD i default).s)
  (fun s=> [(3, .os 1000000),(6, .sl 1 4 l.length (fl eDt l)),(7, .int .i64 l.length),(8, .int .i64 s.1)])
  (fun s=> [(1000000, .row 1 95 4 s.2.length (fl eDt s.2))]) (fun s=>l.length - s.1) (0, []) ⟨Nat.zero_le _,rfl,fun i hi=>absurd hi (Nat.not_lt_zero _)⟩ ?_ ?_
 ·refine ⟨rfl,rfl, ?_, ?_⟩<;>exact ent
 rintro ⟨i,D⟩ ⟨hi,hD,hR⟩
 dsimp only at hi hD hR⊢
 conv=>whnf
 refine ⟨trivial,fun hc=> ?_,fun hc=> ?_⟩
 ·replace hc:=of_decide_eq_true hc
  have hlt:i<l.length:=by
   have h:(i:Int)<l.length:=hc
   omega
  have hj:((i:Int)).toNat=i:=by omega
  have hdi:=hd i hlt
  have hul:=hdi.ul
  have hgl:=hdi.gl
  have hq:=fl_push eDt D ⟨(l.getD i default).s,1⟩
  have hxl:(D++ [(⟨(l.getD i default).s,1⟩:Dt)]).length=D.length+1:=by simp
  conv=>whnf
  rw [hj]
  refine ⟨?_,(i+1,D++ [⟨(l.getD i default).s,1⟩]),⟨hlt,by dsimp only;omega,all_push (P:=fun x:Dt=>RgS x.s) hR hdi⟩,by dsimp only;omega,rfl,rfl, ?_, ?_⟩
  ·exact g0
  ·exact ent
  ·exact ent
 ·have hk:i=l.length:=by
    have h:¬(i:Int)<l.length:=of_decide_eq_false hc
    omega
  refine ⟨⟨_,⟨D,rfl,by omega,hR⟩, ?_⟩⟩
  conv=>whnf
  refine ⟨by exact g0, [1000000], ?_⟩
  conv=>whnf
  refine ⟨rfl, ?_,trivial, ?_⟩<;>exact ent
def QCpy (f:Fw) (c:CallRes):Prop:=∃(D:List Dt) (W:List Wt),c=⟨.agg [.int .i64 f.t, .os 1000000000, .os 1000000001], [], [.row 1 95 4 D.length (fl eDt D), .row 1 156 1 W.length (fl eWt W)]⟩∧
 D.length=f.ds.length∧W.length=f.wv.length∧(∀i,i<D.length→RgS (D.getD i default).s)∧∀i,i<W.length→(W.getD i default).w.n≤1000000
theorem q46 (f:Fw) (hf:RgF f):PureCallQ Tryz.prog 46 [.agg (eFw 1 f)] [] (QCpy f):=by
 obtain ⟨dl,wl,dd,ww⟩:=hf
 refine pure_callQ mix Tryz.func46 fits46 rfl ?_
 conv=>whnf
 refine ⟨by exact g0,LSem.regQ ?_⟩
 conv=>whnf
 refine ⟨_,q61 f.ds dl dd,⟨by exact g0,by exact g0⟩, ?_⟩
 rintro _ ⟨D,rfl,hD,hR⟩
 conv=>whnf
 refine ⟨by exact g0, ?_⟩
 conv=>whnf
 refine ⟨by exact g0, ?_⟩
 refine LSem.adopt 3 1000000 156 1 1 rfl rfl ?_
 refine LSem.loop (n:=28) mix (α:=Nat×List Wt) (fun s=>s.1≤f.wv.length∧s.2.length=s.1∧∀i,i<s.2.length→(s.2.getD i default).w.n≤1000000)
  (fun s=> [(1, .pt 16 0 0),(2, .pt 32 0 0),(3, .os 1000000),(11, .sl 1 1 f.wv.length (fl eWt f.wv)),(12, .int .i64 f.wv.length),(13, .int .i64 s.1)])
  (fun s=> [(16, .box [.int .i64 f.t, .os 128, .sl 1 1 f.wv.length (fl eWt f.wv)]),(32, .box [.int .i64 0, .nil 4, .nil 1]),(128, .row 1 95 4 D.length (fl eDt D)),(1000000, .row 1 156 1 s.2.length (fl eWt s.2))]) (fun s=>f.wv.length - s.1) (0, []) ⟨Nat.zero_le _,rfl,fun i hi=>absurd hi (Nat.not_lt_zero _)⟩ ?_ ?_
 ·refine ⟨rfl,rfl, ?_, ?_⟩<;>exact ent
 rintro ⟨i,W⟩ ⟨hi,hW,hn⟩
 dsimp only at hi hW hn⊢
 conv=>whnf
 refine ⟨trivial,fun hc=> ?_,fun hc=> ?_⟩
 ·replace hc:=of_decide_eq_true hc
  have hlt:i<f.wv.length:=by
   have h:(i:Int)<f.wv.length:=hc
   omega
  have hj:((i:Int)).toNat=i:=by omega
  have hwi:=ww i hlt
  have hm:(f.wv.getD i default).w.n≤maxLen:=maxLen_ge (by omega)
  have hq:=fl_push eWt W ⟨(f.wv.getD i default).w,1⟩
  have hxl:(W++ [(⟨(f.wv.getD i default).w,1⟩:Wt)]).length=W.length+1:=by simp
  conv=>whnf
  rw [hj]
  refine ⟨by exact g0,(i+1,W++ [⟨(f.wv.getD i default).w,1⟩]),⟨hlt,by dsimp only;omega,all_push (P:=fun x:Wt=>x.w.n≤1000000) hn hwi⟩,by dsimp only;omega,rfl,rfl, ?_, ?_⟩<;>exact ent
 ·have hk:i=f.wv.length:=by
    have h:¬(i:Int)<f.wv.length:=of_decide_eq_false hc
    omega
  refine ⟨⟨_,⟨D,W,rfl,by omega,by omega,hR,hn⟩, ?_⟩⟩
  conv=>whnf
  refine ⟨by exact g0, [128,1000000], ?_⟩
  conv=>whnf
  refine ⟨rfl, ?_,trivial, ?_⟩<;>exact ent
def QFw (n m:Nat) (c:CallRes):Prop:=∃(f:Fw) (e:Int),c=⟨.tup [.agg (eFw 1 f), .int .i64 e], [], []⟩∧RgF f
theorem rgF0:RgF ⟨0, [], []⟩:=⟨Nat.zero_le _,Nat.zero_le _,fun i hi=>absurd hi (Nat.not_lt_zero _),fun i hi=>absurd hi (Nat.not_lt_zero _)⟩
theorem q36 (τ:Nat) (c:Cs) (l:List Dt) (hc:RgC c) (hl:l.length≤1000000) (hd:∀i,i<l.length→RgS (l.getD i default).s):PureCallQ Tryz.prog 36 [.agg (eCas τ c), .sl 1 4 l.length (fl eDt l)] [] (QFw 0 0):=by
 have hc':=hc
 obtain ⟨ll,sl,lw,sd⟩:=hc
 refine pure_callQ mix Tryz.func36 fits36 rfl ?_
 conv=>whnf
 refine ⟨by exact g0,LSem.regQ ?_⟩
 conv=>whnf
 refine ⟨_,q44 _ c hc',⟨by exact g0,by exact g0⟩, ?_⟩
 rintro _ ⟨e,rfl,_⟩
 conv=>whnf
 refine ⟨by exact g0, ?_⟩
 conv=>whnf
 refine ⟨by exact g0,fun h=> ?_,fun h=> ?_⟩
 ·exact retQ _ ⟨⟨0, [], []⟩,_,rfl,rgF0⟩
 conv=>whnf
 refine ⟨by exact g0,LSem.regQ ?_⟩
 conv=>whnf
 refine ⟨_,q60 _ c.N c.lk (by omega) (fun i hi=>by have:=lw i hi;omega),⟨by exact g0,by exact g0⟩, ?_⟩
 rintro _ ⟨w,e2,rfl,_,hwl,hwn⟩
 conv=>whnf
 refine ⟨by exact g0, ?_⟩
 conv=>whnf
 refine ⟨by exact g0,LSem.regQ ?_⟩
 conv=>whnf
 refine ⟨_,q61 l hl hd,⟨by exact g0,by exact g0⟩, ?_⟩
 rintro _ ⟨D,rfl,hD,hR⟩
 have h12:lendT 0≤2:=by decide
 have hF:RgF ⟨0,D,w⟩:=⟨by dsimp only;omega,by dsimp only;omega,hR,hwn⟩
 conv=>whnf
 refine ⟨by exact g0, ?_⟩
 conv=>whnf
 refine ⟨by exact g0,LSem.regQ ?_⟩
 conv=>whnf
 refine ⟨_,(q39 _ 2 c ⟨0,D,w⟩ hc' hF).arg_le ⟨by exact ent,by exact ent,trivial⟩,⟨by exact g0,by exact g0⟩, ?_⟩
 rintro _ ⟨b,rfl,_⟩
 conv=>whnf
 refine ⟨by exact g0, ?_⟩
 conv=>whnf
 refine ⟨by exact g0,fun h=> ?_,fun h=> ?_⟩
 ·exact retQ _ ⟨⟨0, [], []⟩,_,rfl,rgF0⟩
 ·exact retQ _ ⟨⟨0,D,w⟩,_,rfl,hF⟩
def c25L2:C:=(sr [kk 126 (.bi true .lss 125 124)] (.seq (.cond 126 .skip (.exit 2)) (.seq (.block 3 (sr [km 127 125,kk 128 (.ia 10 123 125),kk 129 (.ld 10 true 128),kk 16 (.al [(.int .i64 0),(.nil 2),(.int .i64 0),(.int .i64 0),(.int .i64 0),(.int .i64 0),(.int .i64 0),(.nil 6),(.nil 3),(.int .i64 0)]),km 15 127,kz (.st 10 16 129)] (sr [kk 130 (.fa 0 16),kk 131 (.ld 1 false 130),km 132 13,kk 133 (.bi true .eql 131 132)] (.cond 133 (.seq (.cut (.drw [kk 135 (.fa 1 16),kk 136 (.ld 9 true 135),kk 137 (.fa 1 4),kk 138 (.ld 1 false 137),km 139 15,kk 140 (.ia 4 138 139),kk 141 (.ld 4 true 140),km 142 11,km 143 13,kk 144 (.ia 1 142 143),kk 145 (.ld 1 false 144),kk 146 (.fa 1 5),kk 147 (.ld 1 false 146),km 148 15,kk 149 (.ia 1 147 148),kk 150 (.ld 1 false 149),kk 151 (.fa 2 5),kk 152 (.ld 1 false 151),km 153 15,kk 154 (.ia 1 152 153),kk 155 (.ld 1 false 154),kk 156 (cl 47 [136,141,145,150,155]),km 134 156,kk 157 (.ex 134 0),kk 158 (.ex 134 1),kk 159 (.ex 134 2),kk 17 (.al [(.int .i64 0),(.int .i64 0),(.nil 3),(.nil 2)]),kk 18 (.al [(.int .i64 0),(.int .i64 0),(.int .i64 0),(.int .i64 0),(.int .i64 0),(.int .i64 0),(.int .i64 0)]),kz (.st 4 17 157),kz (.st 7 18 158),km 19 159] (pl [(0,[2,3,4,5,6,7,8,9,10,11,12,13,14,15,16,17,18,19,20,26,27],135),(1,[2,3,4,5,6,7,8,9,10,11,12,13,14,15,16,17,18,19,20,26,27],136),(2,[4,7,8,9,10,11,12,13,14,15,16,17,18,19,20,26,27],137),(3,[4,7,8,9,10,11,12,13,14,15,16,17,18,19,20,26,27],138),(4,[7,8,9,10,11,12,13,14,15,16,17,18,19,20,26,27],139),(5,[7,8,9,10,11,12,13,14,15,16,17,18,19,20,26,27],140),(6,[7,8,9,10,11,12,13,14,15,16,17,18,19,20,26,27],141),(7,[8,11,12,13,14,15,16,17,18,19,20,26,27],142),(8,[11,12,13,14,15,16,17,18,19,20,26,27],143),(9,[11,12,13,14,15,16,17,18,19,20,26,27],144),(10,[11,12,13,14,15,16,17,18,19,20,26,27],145),(11,[13,16,17,18,19,20,26,27],146),(12,[13,16,17,18,19,20,26,27],147),(13,[16,17,18,19,20,26,27],148),(14,[16,17,18,19,20,26,27],149),(15,[16,17,18,19,20,26,27],150),(16,[18,26,27],151),(17,[18,26,27],152),(18,[26,27],153),(19,[26,27],154),(20,[26,27],155),(21,[26,27],156),(22,[26,27],134),(23,[24,25,26,27],157),(24,[25,26,27,28],158),(25,[26,27,28,29],159),(26,[27],17)]))) (.seq (sr [km 160 19,kk 161 (.bi true .neq 160 (cn 0))] (.cond 161 (sr [kk 162 (.bd [(.int .i64 0),(.nil 4),(.nil 1)] []),kk 163 (.bd [(.nil 7),(.nil 1),(.nil 1)] []),km 164 19,kz (.st 3 6 162),kz (.st 3 7 163),km 8 164] .ret) .skip)) (.drw [kk 165 (.fa 1 10),kk 166 (.ld 1 false 165),km 167 15,kk 168 (.fa 0 12),kk 169 (.ld 1 false 168),km 170 15,kk 171 (.ld 4 true 17),kk 172 (.ld 7 true 18),kk 173 (.ld 7 true 18),kk 174 (cl 48 [173]),kk 175 (.ia 4 166 167),kz (.st 4 175 171),kk 176 (.ia 7 169 170),kz (.st 7 176 172),km 14 174] (pl [(0,[2,3,4,5,6,7,8,9],165),(1,[2,3,4,5,6,7,8,9],166),(2,[3,4,5,6,7,8,9],167),(3,[5,6,7,8,9,10,11],168),(4,[5,6,7,8,9,10,11],169),(5,[6,7,8,9,10,11],170),(6,[7,8,9],171),(7,[8,9,10,11],172)])))) .skip)))) (.reg [kk 177 (.bi true .add 125 (cn 1)),km 125 177]))))
def c25L3:C:=(sr [kk 188 (.bi true .lss 187 186)] (.seq (.cond 188 .skip (.exit 4)) (.seq (.block 5 (sr [km 189 187,kk 190 (.ia 4 185 187),kk 191 (.ld 4 true 190),kk 21 (.al [(.int .i64 0),(.int .i64 0),(.nil 1),(.int .i64 0)]),km 20 189,kz (.st 4 21 191)] (sr [kk 192 (.fa 0 21),kk 193 (.ld 1 false 192),km 194 13,kk 195 (.bi true .eql 193 194)] (.cond 195 (.seq (.cut (.drw [kk 197 (.fa 2 21),kk 198 (.ld 2 true 197),kk 199 (.fa 2 4),kk 200 (.ld 1 false 199),km 201 20,kk 202 (.ia 1 200 201),kk 203 (.ld 1 true 202),km 204 14,kk 205 (cl 49 [198,203,204]),km 196 205,kk 206 (.ex 196 0),kk 207 (.ex 196 1),kk 208 (.ex 196 2),kk 22 (.al [(.nil 1)]),kz (.st 1 22 206),km 23 207,km 24 208] (pl [(0,[2,3,4,5,6,7,13],197),(1,[2,3,4,5,6,7,13],198),(2,[4,7,13],199),(3,[4,7,13],200),(4,[7,13],201),(5,[7,13],202),(6,[7,13],203),(7,[13],204),(8,[13],205),(9,[13],196),(10,[11,12,13],206),(11,[12,13,14],207),(12,[13,14,15],208)]))) (.seq (sr [km 209 24,kk 210 (.bi true .neq 209 (cn 0))] (.cond 210 (sr [kk 211 (.bd [(.int .i64 0),(.nil 4),(.nil 1)] []),kk 212 (.bd [(.nil 7),(.nil 1),(.nil 1)] []),km 213 24,kz (.st 3 6 211),kz (.st 3 7 212),km 8 213] .ret) .skip)) (.seq (.drw [kk 214 (.fa 2 10),kk 215 (.ld 1 false 214),km 216 20,kk 217 (.fa 2 12),kk 218 (.ld 1 false 217),km 219 20,kk 220 (.ld 1 true 22),km 221 23,kk 222 (.ia 1 215 216),kz (.st 1 222 220),kk 223 (.ia 1 218 219),kz (.st 1 223 221)] (pl [(0,[2,3,4,5,6,7],214),(1,[2,3,4,5,6,7],215),(2,[3,4,5,6,7],216),(3,[5,6,7,8,9],217),(4,[5,6,7,8,9],218),(5,[6,7,8,9],219),(6,[7],220),(7,[8,9],221)])) (.reg [km 224 11,kk 225 (.fa 1 21),kk 226 (.ld 1 false 225),kk 227 (.ia 1 224 226),kk 228 (.ld 1 false 227),km 229 23,kk 230 (.bi true .add 228 229),kk 231 (.ia 1 224 226),kz (.st 1 231 230)])))) .skip)))) (.reg [kk 232 (.bi true .add 187 (cn 1)),km 187 232]))))
def c25L1:C:=(.seq (sr [km 111 13,kk 112 (.fa 0 3),kk 113 (.fa 0 112),kk 114 (.ld 1 false 113),kk 115 (.bi true .lss 111 114)] (.cond 115 .skip (.exit 0))) (.seq (.block 1 (sr [km 118 11,km 119 13,kk 120 (.ia 1 118 119),kk 121 (.ld 1 false 120),km 14 121] (.seq (sr [kk 122 (.fa 2 3),kk 123 (.ld 1 false 122),kk 124 (.len 123),kk 125 (.mv (cn 0))] (.block 2 (.loop c25L2))) (sr [kk 178 (.fa 1 12),kk 179 (.ld 1 false 178),km 180 13,km 181 14,kk 182 (.ia 1 179 180),kz (.st 1 182 181)] (sr [kk 183 (.fa 0 3),kk 184 (.fa 1 183),kk 185 (.ld 1 false 184),kk 186 (.len 185),kk 187 (.mv (cn 0))] (.block 4 (.loop c25L3))))))) (.reg [km 116 13,kk 117 (.bi true .add 116 (cn 1)),km 13 117])))
def c25:C:=(sr [kk 3 (.bx 3 0),kk 4 (.bx 3 1),kk 5 (.bx 3 2),kk 6 (.al [(.int .i64 0),(.nil 4),(.nil 1)]),kk 7 (.al [(.nil 7),(.nil 1),(.nil 1)]),kk 8 (.mv (cn 0))] (.seq (.seq (.cut (.reg [kk 25 (.ld 3 true 3),kk 26 (cl 44 [25]),km 9 26])) (sr [km 27 9,kk 28 (.bi true .neq 27 (cn 0))] (.cond 28 (sr [kk 29 (.bd [(.int .i64 0),(.nil 4),(.nil 1)] []),kk 30 (.bd [(.nil 7),(.nil 1),(.nil 1)] []),km 31 9,kz (.st 3 6 29),kz (.st 3 7 30),km 8 31] .ret) .skip))) (.seq (.seq (.cut (.reg [kk 32 (.ld 3 true 3),kk 33 (.ld 3 true 4),kk 34 (cl 39 [32,33]),kk 35 (.un true .not 34)])) (.cond 35 (sr [kk 36 (.bd [(.int .i64 0),(.nil 4),(.nil 1)] []),kk 37 (.bd [(.nil 7),(.nil 1),(.nil 1)] []),kz (.st 3 6 36),kz (.st 3 7 37),kk 8 (.mv (cn 50))] .ret) .skip)) (.seq (sr [kk 38 (.fa 0 5),kk 39 (.ld 1 false 38),kk 40 (.len 39),kk 41 (.fa 0 3),kk 42 (.fa 0 41),kk 43 (.ld 1 false 42),kk 44 (.bi true .neq 40 43),km 45 44,kg 46 45 false (.fa 1 5),kg 47 45 false (.ld 1 false 46),kg 48 45 false (.len 47),kg 49 45 false (.fa 2 3),kg 50 45 false (.ld 1 false 49),kg 51 45 false (.len 50),kg 52 45 false (.bi true .neq 48 51),kk 53 (.pick 45 (.c (.bool true)) 52),km 54 53,kg 55 54 false (.fa 2 5),kg 56 54 false (.ld 1 false 55),kg 57 54 false (.len 56),kg 58 54 false (.fa 2 3),kg 59 54 false (.ld 1 false 58),kg 60 54 false (.len 59),kg 61 54 false (.bi true .neq 57 60),kk 62 (.pick 54 (.c (.bool true)) 61)] (.cond 62 (sr [kk 63 (.bd [(.int .i64 0),(.nil 4),(.nil 1)] []),kk 64 (.bd [(.nil 7),(.nil 1),(.nil 1)] []),kz (.st 3 6 63),kz (.st 3 7 64),kk 8 (.mv (cn 3))] .ret) .skip)) (.seq (sr [kk 65 (.fa 0 5),kk 66 (.ld 1 false 65),kk 67 (cl 45 [66,(cn 1073741824)]),kk 68 (.un true .not 67),km 69 68,kg 70 69 false (.fa 1 5),kg 71 69 false (.ld 1 false 70),kg 72 69 false (cl 45 [71,(cn 1073741824)]),kg 73 69 false (.un true .not 72),kk 74 (.pick 69 (.c (.bool true)) 73),km 75 74,kg 76 75 false (.fa 2 5),kg 77 75 false (.ld 1 false 76),kg 78 75 false (cl 45 [77,(cn 1073741824)]),kg 79 75 false (.un true .not 78),kk 80 (.pick 75 (.c (.bool true)) 79)] (.cond 80 (sr [kk 81 (.bd [(.int .i64 0),(.nil 4),(.nil 1)] []),kk 82 (.bd [(.nil 7),(.nil 1),(.nil 1)] []),kz (.st 3 6 81),kz (.st 3 7 82),kk 8 (.mv (cn 1))] .ret) .skip)) (.seq (sr [kk 83 (.fa 0 4),kk 84 (.ld 1 false 83),kk 85 (.bi true .eql 84 (cn 16777216))] (.cond 85 (sr [kk 86 (.bd [(.int .i64 0),(.nil 4),(.nil 1)] []),kk 87 (.bd [(.nil 7),(.nil 1),(.nil 1)] []),kz (.st 3 6 86),kz (.st 3 7 87),kk 8 (.mv (cn 6))] .ret) .skip)) (.seq (.cut (.reg [kk 88 (.ld 3 true 4),kk 89 (cl 46 [88]),kk 10 (.al [(.int .i64 0),(.nil 4),(.nil 1)]),kz (.st 3 10 89)])) (sr [kk 90 (.fa 0 10),kk 91 (.ld 1 false 90),kk 92 (.bi true .add 91 (cn 1)),kk 93 (.fa 0 10),kz (.st 1 93 92)] (sr [kk 94 (.fa 0 5),kk 95 (.ld 1 false 94),kk 96 (.app 3 1 8 (.c (.nil 1)) 95),km 11 96] (.seq (.drw [kk 97 (.fa 2 3),kk 98 (.ld 1 false 97),kk 99 (.len 98),kk 100 (.mks 147 7 56 [(.int .i64 0),(.int .i64 0),(.int .i64 0),(.int .i64 0),(.int .i64 0),(.int .i64 0),(.int .i64 0)] 99 99),kk 101 (.fa 0 3),kk 102 (.fa 0 101),kk 103 (.ld 1 false 102),kk 104 (.mks 3 1 8 [(.int .i64 0)] 103 103),kk 105 (.fa 0 3),kk 106 (.fa 1 105),kk 107 (.ld 1 false 106),kk 108 (.len 107),kk 109 (.mks 3 1 8 [(.int .i64 0)] 108 108),kk 110 (.bd [(.nil 7),(.nil 1),(.nil 1)] [(0,1,100),(1,1,104),(2,1,109)]),kk 12 (.al [(.nil 7),(.nil 1),(.nil 1)]),kz (.st 3 12 110)] (pl [(0,[4,5,6,7,8,9,10,11,12,14],97),(1,[4,5,6,7,8,9,10,11,12,14],98),(2,[4,5,6,7,8,9,10,11,12,14],99),(3,[4,5,6,7,8,9,10,11,12,14],100),(4,[8,9,10,11,12,14],101),(5,[8,9,10,11,12,14],102),(6,[8,9,10,11,12,14],103),(7,[8,9,10,11,12,14],104),(8,[14],105),(9,[14],106),(10,[14],107),(11,[14],108),(12,[14],109),(13,[14],110)])) (.seq (sr [kk 13 (.mv (cn 0))] (.block 0 (.loop c25L1))) (.seq (.drw [kk 233 (.ld 3 true 10),kk 234 (.ld 3 true 12),kz (.st 3 6 233),kz (.st 3 7 234),kk 8 (.mv (cn 0))] [(0,1,233),(1,2,234)]) .ret))))))))))))
theorem fits25:fits Tryz.prog true Tryz.f25 3 235 [(6,some (3,true)),(7,some (3,true)),(8,none)]=some c25.er:=by kernel_rfl
theorem call48 (r:Dr):PureCall Tryz.prog 48 [.agg (eDr r)] [] ⟨.int .i64 (IntKind.wrap .i64 (IntKind.wrap .i64 (r.c+r.d)+r.e)), [], []⟩:=by
 refine pure_call mix Tryz.func48 fits48 rfl ?_
 conv=>whnf
 refine ⟨?_, [], ?_⟩
 ·exact g0
 conv=>whnf
 refine ⟨rfl, ?_,trivial,trivial⟩
 all_goals repeat' (first | exact True.intro | refine leF_cons rfl ?_ ?_ | refine leS_cons rfl ?_ ?_ | (show PLe _ _ _ _;conv=>whnf) | (show SLe _ _ _ _;conv=>whnf) | (show PLeL _ _ _ _;conv=>whnf) | apply And.intro | rfl | exact Nat.le_refl _ | exact fun _ _=>rfl | exact rowEq0 _ _)
theorem set_eqD {X:List Dt} {i:Nat} {y:Dt}:RowEq X.length (fun k=>if k=i then setAt (fl eDt X i) 0 (eDt y) else fl eDt X k) (fl eDt (X.set i y)):=fun k hk=>by
 by_cases e:k=i
 ·subst e
  simp only [if_pos rfl,fl]
  have:(X.set k y).getD k default=y:=by simp [List.getD,List.getElem?_set,hk]
  rw [this];rfl
 ·simp only [if_neg e,fl]
  have:(X.set i y).getD k default=X.getD k default:=by simp [List.getD,List.getElem?_set,Ne.symm e]
  rw [this]
theorem set_eqW {X:List Wt} {i:Nat} {y:Wt}:RowEq X.length (fun k=>if k=i then setAt (fl eWt X i) 0 (eWt y) else fl eWt X k) (fl eWt (X.set i y)):=fun k hk=>by
 by_cases e:k=i
 ·subst e
  simp only [if_pos rfl,fl]
  have:(X.set k y).getD k default=y:=by simp [List.getD,List.getElem?_set,hk]
  rw [this];rfl
 ·simp only [if_neg e,fl]
  have:(X.set i y).getD k default=X.getD k default:=by simp [List.getD,List.getElem?_set,Ne.symm e]
  rw [this]
theorem set_eqR {X:List Dr} {i:Nat} {y:Dr}:RowEq X.length (fun k=>if k=i then setAt (fl eDr X i) 0 (eDr y) else fl eDr X k) (fl eDr (X.set i y)):=fun k hk=>by
 by_cases e:k=i
 ·subst e
  simp only [if_pos rfl,fl]
  have:(X.set k y).getD k default=y:=by simp [List.getD,List.getElem?_set,hk]
  rw [this];rfl
 ·simp only [if_neg e,fl]
  have:(X.set i y).getD k default=X.getD k default:=by simp [List.getD,List.getElem?_set,Ne.symm e]
  rw [this]
theorem all_set {α:Type} [Inhabited α] {P:α→Prop} {l:List α} {x:α} {i:Nat} (h:∀k,k<l.length→P (l.getD k default)) (hx:P x):∀k,k<(l.set i x).length→P ((l.set i x).getD k default):=fun k hk=>by
 rw [List.length_set] at hk
 by_cases e:k=i
 ·subst e
  rw [show (l.set k x).getD k default=x by simp [List.getD,List.getElem?_set,hk]]
  exact hx
 ·rw [show (l.set i x).getD k default=l.getD k default by simp [List.getD,List.getElem?_set,Ne.symm e]]
  exact h k hk
structure Sp where
 inf:List Int
 los:List Int
 tar:List Int
def eSp (τ:Nat) (p:Sp):List PV:= [.sl 1 1 p.inf.length (fl eInt p.inf), .sl 1 1 p.los.length (fl eInt p.los), .sl τ 1 p.tar.length (fl eInt p.tar)]
structure RgP (p:Sp):Prop where
 i:p.inf.length≤1000000
 l:p.los.length≤1000000
 t:p.tar.length≤1000000
def QStp (c:Cs) (r:CallRes):Prop:=∃(F:Fw) (n1 n2 n3:Nat) (f1 f2 f3:Nat→List PV) (e:Int),r=⟨.tup [.agg (eFw 1 F), .agg [.sl 0 7 n1 f1, .sl 0 1 n2 f2, .sl 0 1 n3 f3], .int .i64 e], [], []⟩∧RgF F∧(e=0→VlF c F)
structure Stp where
 D:List Dt
 W:List Wt
 A:List Int
 R:List Dr
 L:List Int
 C:List Int
structure StOK (c:Cs) (N:Nat) (s:Stp):Prop where
 d:s.D.length=c.ss.length
 w:s.W.length=c.lk.length
 a:s.A.length=N
 r:s.R.length=c.ss.length
 l:s.L.length=N
 c:s.C.length=c.lk.length
 dd:∀i,i<s.D.length→RgS (s.D.getD i default).s
 ww:∀i,i<s.W.length→(s.W.getD i default).w.n≤1000000
theorem q25 (τ:Nat) (c:Cs) (f:Fw) (p:Sp) (hc:RgC c) (hf:RgF f) (hp:RgP p):PureCallQ Tryz.prog 25 [.agg (eCas τ c), .agg (eFw 1 f), .agg (eSp 2 p)] [] (QStp c):=by
 have hc':=hc
 have hf':=hf
 obtain ⟨ll,sl,lw,sd⟩:=hc
 obtain ⟨dl,wl,dd,ww⟩:=hf
 obtain ⟨pi,pl,pt⟩:=hp
 refine pure_callQ mix Tryz.func25 fits25 rfl ?_
 conv=>whnf
 refine ⟨by exact g0,LSem.regQ ?_⟩
 conv=>whnf
 refine ⟨_,q44 _ c hc',⟨by exact g0,by exact g0⟩, ?_⟩
 rintro _ ⟨e,rfl,he⟩
 conv=>whnf
 refine ⟨by exact g0, ?_⟩
 conv=>whnf
 refine ⟨by exact g0,fun h=> ?_,fun h=> ?_⟩
 ·simp only [bp] at h
  exact retQ _ ⟨⟨0, [], []⟩,0,0,0,fun _=> [],fun _=> [],fun _=> [],e,rfl,rgF0,imp_ne h⟩
 simp only [bp] at h
 have hok:=he h
 conv=>whnf
 refine ⟨by exact g0,LSem.regQ ?_⟩
 conv=>whnf
 refine ⟨_,q39 _ _ c f hc' hf',⟨by exact g0,by exact g0⟩, ?_⟩
 rintro _ ⟨b,rfl,hb⟩
 conv=>whnf
 refine ⟨by exact g0, ?_⟩
 conv=>whnf
 refine ⟨by exact g0,fun h=> ?_,fun h=> ?_⟩
 ·exact retQ _ ⟨⟨0, [], []⟩,0,0,0,fun _=> [],fun _=> [],fun _=> [],50,rfl,rgF0,imp_c⟩
 simp only [bp] at h
 have hv:=hb h
 conv=>whnf
 refine ⟨by exact g3,fun h=> ?_,fun h=> ?_⟩
 ·exact retQ _ ⟨⟨0, [], []⟩,0,0,0,fun _=> [],fun _=> [],fun _=> [],3,rfl,rgF0,imp_c⟩
 have hlen:(p.inf.length:Int)=c.N∧p.los.length=c.ss.length∧p.tar.length=c.ss.length:=by
  have h3:=bif_or h
  have h4:=bif_or h3.1
  have h5:((p.inf.length:Int) != c.N)=false:=h4.1
  have h6:((p.los.length:Int) != c.ss.length)=false:=h4.2
  have h7:((p.tar.length:Int) != c.ss.length)=false:=h3.2
  simp only [bp] at h5 h6 h7
  omega
 obtain ⟨hi1,hl1,ht1⟩:=hlen
 conv=>whnf
 refine ⟨_,fun _=>call45 _ _ _ (by omega), ?_⟩
 conv=>whnf
 refine ⟨_,fun _=>call45 _ _ _ (by omega), ?_⟩
 conv=>whnf
 refine ⟨_,fun _=>call45 _ _ _ (by omega), ?_⟩
 conv=>whnf
 refine ⟨by exact g3,fun h=> ?_,fun h=> ?_⟩
 ·exact retQ _ ⟨⟨0, [], []⟩,0,0,0,fun _=> [],fun _=> [],fun _=> [],1,rfl,rgF0,imp_c⟩
 conv=>whnf
 refine ⟨by exact g0,fun h=> ?_,fun h=> ?_⟩
 ·exact retQ _ ⟨⟨0, [], []⟩,0,0,0,fun _=> [],fun _=> [],fun _=> [],6,rfl,rgF0,imp_c⟩
 conv=>whnf
 refine ⟨by exact g0,LSem.regQ ?_⟩
 conv=>whnf
 refine ⟨_,q46 f hf',⟨by exact g0,by exact g0⟩, ?_⟩
 rintro _ ⟨D,W,rfl,hD,hW,hDd,hWw⟩
 conv=>whnf
 refine ⟨by exact g0, ?_⟩
 conv=>whnf
 refine ⟨rfl, ?_⟩
 obtain ⟨hvd,hvw⟩:=hv
 obtain ⟨hriv,hnd⟩:=hok
 obtain ⟨hn1,hn2,hab⟩:=hriv
 have hN:(c.N).toNat=p.inf.length:=by omega
 have hm1:p.inf.length≤maxLen:=maxLen_ge (by omega)
 have hm2:c.ss.length≤maxLen:=maxLen_ge (by omega)
 have hm3:c.lk.length≤maxLen:=maxLen_ge (by omega)
 have qR:RowEq c.ss.length (fun _=> [PV.int .i64 0, .int .i64 0, .int .i64 0, .int .i64 0, .int .i64 0, .int .i64 0, .int .i64 0]) (fl eDr (List.replicate c.ss.length ⟨0,0,0,0,0,0,0⟩)):=fun i hi=>by
  unfold fl
  rw [show (List.replicate c.ss.length (⟨0,0,0,0,0,0,0⟩:Dr)).getD i default=⟨0,0,0,0,0,0,0⟩ by simp [List.getD,hi]]
  rfl
 have qI:∀n,RowEq n (fun _=> [PV.int .i64 0]) (fl eInt (List.replicate n 0)):=fun n i hi=>by
  unfold fl
  rw [show (List.replicate n (0:Int)).getD i default=0 by simp [List.getD,hi]]
  rfl
 have qL:=qI p.inf.length
 have qC:=qI c.lk.length
 conv=>whnf
 rw [←hi1,Int.toNat_natCast]
 refine ⟨by exact g3, ?_⟩
 refine LSem.loop (n:=235) mix (α:=Nat×Stp) (fun s=>s.1≤p.inf.length∧StOK c p.inf.length s.2)
  (fun s=> [(3, .pt 48 0 0),(4, .pt 64 0 0),(5, .pt 80 0 0),(6, .pt 96 0 0),(7, .pt 112 0 0),(10, .pt 160 0 0),(11, .os 1536),(12, .pt 192 0 0),(13, .int .i64 s.1)])
  (fun s=> [(48, .box (eCas τ c)),(64, .box (eFw 1 f)),(80, .box (eSp 2 p)),(96, .box [.int .i64 0, .nil 4, .nil 1]),(112, .box [.nil 7, .nil 1, .nil 1]),(160, .box [.int .i64 (IntKind.wrap .i64 (f.t+1)), .os 1424, .os 1425]),
   (192, .box [.os 1600, .os 1664, .os 1744]),(1424, .row 1 95 4 c.ss.length (fl eDt s.2.D)),(1425, .row 1 156 1 c.lk.length (fl eWt s.2.W)),(1536, .row 1 3 1 p.inf.length (fl eInt s.2.A)),
   (1600, .row 0 147 7 c.ss.length (fl eDr s.2.R)),(1664, .row 0 3 1 p.inf.length (fl eInt s.2.L)),(1744, .row 0 3 1 c.lk.length (fl eInt s.2.C))]) (fun s=>p.inf.length - s.1)
  (0,⟨D,W,p.inf,List.replicate c.ss.length ⟨0,0,0,0,0,0,0⟩,List.replicate p.inf.length 0,List.replicate c.lk.length 0⟩)
  ⟨Nat.zero_le _,by dsimp only;omega,by dsimp only;omega,rfl,by simp,by simp,by simp,hDd,hWw⟩ ?_ ?_
 ·refine ⟨rfl,rfl, ?_, ?_⟩
  ·exact ent
  ·exact ent
 rintro ⟨n,s⟩ ⟨hn,hS⟩
 dsimp only at hn hS⊢
 have hSa:=hS.a
 conv=>whnf
 refine ⟨trivial,fun hc=> ?_,fun hc=> ?_⟩
 ·replace hc:=of_decide_eq_true hc
  have hlt:n<p.inf.length:=by
   have h:(n:Int)<c.N:=hc
   omega
  have hj:((n:Int)).toNat=n:=by omega
  have hwn:IntKind.i64.wrap ((n:Int)+1)=(n:Int)+1:=by rw [wrap64'];omega
  conv=>whnf
  rw [hj]
  refine ⟨by exact g0, ?_⟩
  refine LSem.loop (n:=235) mix (α:=Nat×Stp×Int) (fun y=>y.1≤c.ss.length∧StOK c p.inf.length y.2.1)
   (fun y=> [(3, .pt 48 0 0),(4, .pt 64 0 0),(5, .pt 80 0 0),(6, .pt 96 0 0),(7, .pt 112 0 0),(10, .pt 160 0 0),(11, .os 1536),(12, .pt 192 0 0),(13, .int .i64 n),(14, .int .i64 y.2.2),
    (123, .sl τ 10 c.ss.length (fl (eSite 0) c.ss)),(124, .int .i64 c.ss.length),(125, .int .i64 y.1)])
   (fun y=> [(48, .box (eCas τ c)),(64, .box (eFw 1 f)),(80, .box (eSp 2 p)),(96, .box [.int .i64 0, .nil 4, .nil 1]),(112, .box [.nil 7, .nil 1, .nil 1]),(160, .box [.int .i64 (IntKind.wrap .i64 (f.t+1)), .os 1424, .os 1425]),
    (192, .box [.os 1600, .os 1664, .os 1744]),(1424, .row 1 95 4 c.ss.length (fl eDt y.2.1.D)),(1425, .row 1 156 1 c.lk.length (fl eWt y.2.1.W)),(1536, .row 1 3 1 p.inf.length (fl eInt y.2.1.A)),
    (1600, .row 0 147 7 c.ss.length (fl eDr y.2.1.R)),(1664, .row 0 3 1 p.inf.length (fl eInt y.2.1.L)),(1744, .row 0 3 1 c.lk.length (fl eInt y.2.1.C))]) (fun y=>c.ss.length - y.1)
   (0,s,s.A.getD n default) ⟨Nat.zero_le _,hS⟩ ?_ ?_
  ·refine ⟨rfl,rfl, ?_, ?_⟩<;>exact ent
  clear hS hSa s
  rintro ⟨i,s,lv⟩ ⟨hi,hS⟩
  dsimp only at hi hS⊢
  obtain ⟨sd1,sw1,sa1,sr1,sl1,sc1,sdd,sww⟩:=hS
  conv=>whnf
  refine ⟨trivial,fun hc=> ?_,fun hc=> ?_⟩
  ·replace hc:=of_decide_eq_true hc
   have hlt2:i<c.ss.length:=by
    have h:(i:Int)<c.ss.length:=hc
    omega
   have hji:((i:Int)).toNat=i:=by omega
   have hwi:IntKind.i64.wrap ((i:Int)+1)=(i:Int)+1:=by rw [wrap64'];omega
   have hsd:=sd i hlt2
   have hdd:=dd i (by omega)
   conv=>whnf
   rw [hji]
   refine ⟨by exact g0,fun h=> ?_,fun h=> ?_⟩
   ·conv=>whnf
    refine ⟨by exact g0,LSem.drwQ mix ?_⟩
    conv=>whnf
    rw [hji,hj]
    refine ⟨_,q47 _ _ (c.ss.getD i default).x (f.ds.getD i default).s _ _ _ hsd hdd,⟨_,⟨0,0, [], []⟩,⟨0,0,0,0,0,0,0⟩,1,rfl,⟨Nat.zero_le _,Nat.zero_le _⟩⟩,rfl, ?_⟩
    rintro _ ⟨s',r',e',rfl,hs'⟩
    conv=>whnf
    refine ⟨by exact g0,rfl, ?_⟩
    conv=>whnf
    refine ⟨by exact g0,fun h=> ?_,fun h=> ?_⟩
    ·simp only [bp] at h
     exact retQ _ ⟨⟨0, [], []⟩,0,0,0,fun _=> [],fun _=> [],fun _=> [],e',rfl,rgF0,imp_ne h⟩
    conv=>whnf
    refine ⟨_,fun _=>call48 r', ?_⟩
    conv=>whnf
    refine ⟨rfl, ?_⟩
    have q1:=set_eqD (X:=s.D) (i:=i) (y:=⟨s',0⟩)
    have q2:=set_eqR (X:=s.R) (i:=i) (y:=r')
    rw [sd1] at q1
    rw [sr1] at q2
    conv=>whnf
    rw [hji,hwi]
    refine ⟨by exact g0,(i+1,⟨s.D.set i ⟨s',0⟩,s.W,s.A,s.R.set i r',s.L,s.C⟩,IntKind.wrap .i64 (IntKind.wrap .i64 (r'.c+r'.d)+r'.e)),⟨hlt2,by simpa using sd1,sw1,sa1,by simpa using sr1,sl1,sc1,all_set (P:=fun x:Dt=>RgS x.s) sdd hs',sww⟩,by dsimp only;omega,rfl,rfl, ?_, ?_⟩
    ·exact ent
    ·exact ent
   ·conv=>whnf
    rw [hwi]
    refine ⟨by exact g0,(i+1,s,lv),⟨hlt2,sd1,sw1,sa1,sr1,sl1,sc1,sdd,sww⟩,by dsimp only;omega,rfl,rfl, ?_, ?_⟩<;>exact ent
  have qL2:=set_eqI (X:=s.L) (i:=n) (y:=lv)
  rw [sl1] at qL2
  conv=>whnf
  rw [hj]
  refine ⟨by exact g0, ?_⟩
  refine LSem.loop (n:=235) mix (α:=Nat×Stp) (fun y=>y.1≤c.lk.length∧StOK c p.inf.length y.2)
   (fun y=> [(3, .pt 48 0 0),(4, .pt 64 0 0),(5, .pt 80 0 0),(6, .pt 96 0 0),(7, .pt 112 0 0),(10, .pt 160 0 0),(11, .os 1536),(12, .pt 192 0 0),(13, .int .i64 n),(14, .int .i64 lv),
    (185, .sl τ 4 c.lk.length (fl (eLk 0) c.lk)),(186, .int .i64 c.lk.length),(187, .int .i64 y.1)])
   (fun y=> [(48, .box (eCas τ c)),(64, .box (eFw 1 f)),(80, .box (eSp 2 p)),(96, .box [.int .i64 0, .nil 4, .nil 1]),(112, .box [.nil 7, .nil 1, .nil 1]),(160, .box [.int .i64 (IntKind.wrap .i64 (f.t+1)), .os 1424, .os 1425]),
    (192, .box [.os 1600, .os 1664, .os 1744]),(1424, .row 1 95 4 c.ss.length (fl eDt y.2.D)),(1425, .row 1 156 1 c.lk.length (fl eWt y.2.W)),(1536, .row 1 3 1 p.inf.length (fl eInt y.2.A)),
    (1600, .row 0 147 7 c.ss.length (fl eDr y.2.R)),(1664, .row 0 3 1 p.inf.length (fl eInt y.2.L)),(1744, .row 0 3 1 c.lk.length (fl eInt y.2.C))]) (fun y=>c.lk.length - y.1)
   (0,⟨s.D,s.W,s.A,s.R,s.L.set n lv,s.C⟩) ⟨Nat.zero_le _,sd1,sw1,sa1,sr1,by simpa using sl1,sc1,sdd,sww⟩ ?_ ?_
  ·refine ⟨rfl,rfl, ?_, ?_⟩<;>exact ent
  rintro ⟨i,s⟩ ⟨hi,hS⟩
  dsimp only at hi hS⊢
  obtain ⟨sd1,sw1,sa1,sr1,sl1,sc1,sdd,sww⟩:=hS
  conv=>whnf
  refine ⟨trivial,fun hc=> ?_,fun hc=> ?_⟩
  ·replace hc:=of_decide_eq_true hc
   have hlt2:i<c.lk.length:=by
    have h:(i:Int)<c.lk.length:=hc
    omega
   have hji:((i:Int)).toNat=i:=by omega
   have hwi:IntKind.i64.wrap ((i:Int)+1)=(i:Int)+1:=by rw [wrap64'];omega
   have hlw:=lw i hlt2
   have hww:=ww i (by omega)
   have habi:=hab i hlt2
   have hbN:(c.lk.getD i default).b.toNat<p.inf.length:=by omega
   have h12:lendT 1≤2:=by decide
   conv=>whnf
   rw [hji]
   refine ⟨by exact g0,fun h=> ?_,fun h=> ?_⟩
   ·conv=>whnf
    refine ⟨by exact g0,LSem.drwQ mix ?_⟩
    conv=>whnf
    rw [hji]
    refine ⟨_,q49 _ _ h12 (c.lk.getD i default).ws (c.lk.getD i default).den (f.wv.getD i default).w _ (by omega) (by omega),⟨_,wv0,0,1,rfl,Nat.zero_le _⟩,rfl, ?_⟩
    rintro _ ⟨w',x',e',rfl,hw'⟩
    conv=>whnf
    refine ⟨by exact g0,rfl, ?_⟩
    conv=>whnf
    refine ⟨by exact g0,fun h=> ?_,fun h=> ?_⟩
    ·simp only [bp] at h
     exact retQ _ ⟨⟨0, [], []⟩,0,0,0,fun _=> [],fun _=> [],fun _=> [],e',rfl,rgF0,imp_ne h⟩
    conv=>whnf
    refine ⟨rfl, ?_⟩
    have q1:=set_eqW (X:=s.W) (i:=i) (y:=⟨w',0⟩)
    have q2:=set_eqI (X:=s.C) (i:=i) (y:=x')
    have q3:=fun y=>set_eqI (X:=s.A) (i:=(c.lk.getD i default).b.toNat) (y:=y)
    rw [sw1] at q1
    rw [sc1] at q2
    rw [sa1] at q3
    have q3':=q3 (IntKind.wrap .i64 (s.A.getD (c.lk.getD i default).b.toNat default+x'))
    conv=>whnf
    rw [hji,hwi]
    refine ⟨by exact g3,(i+1,⟨s.D,s.W.set i ⟨w',0⟩,s.A.set (c.lk.getD i default).b.toNat (IntKind.wrap .i64 (s.A.getD (c.lk.getD i default).b.toNat default+x')),s.R,s.L,s.C.set i x'⟩),⟨hlt2,sd1,by simpa using sw1,by simpa using sa1,sr1,sl1,by simpa using sc1,sdd,all_set (P:=fun x:Wt=>x.w.n≤1000000) sww hw'⟩,by dsimp only;omega,rfl,rfl, ?_, ?_⟩
    ·exact ent
    ·exact ent
   ·conv=>whnf
    rw [hwi]
    refine ⟨by exact g0,(i+1,s),⟨hlt2,sd1,sw1,sa1,sr1,sl1,sc1,sdd,sww⟩,by dsimp only;omega,rfl,rfl, ?_, ?_⟩<;>exact ent
  ·conv=>whnf
   rw [hwn]
   refine ⟨by exact g0,(n+1,s),⟨hlt,sd1,sw1,sa1,sr1,sl1,sc1,sdd,sww⟩,by dsimp only;omega,rfl,rfl, ?_, ?_⟩<;>exact ent
 ·obtain ⟨sd1,sw1,sa1,sr1,sl1,sc1,sdd,sww⟩:=hS
  conv=>whnf
  refine ⟨rfl, ?_⟩
  exact retQ _ ⟨⟨_,s.D,s.W⟩,c.ss.length,p.inf.length,c.lk.length,_,_,_,0,rfl,⟨by dsimp only;omega,by dsimp only;omega,sdd,sww⟩,fun _=>⟨sd1,sw1⟩⟩
def c38L2:C:=(sr [kk 43 (.bi false .lss 42 41)] (.seq (.cond 43 .skip (.exit 2)) (.seq (.block 3 (sr [kk 44 (.ia 1 40 42),kk 45 (.ld 1 false 44),km 9 45] (sr [km 46 9,kk 47 (.bi false .lss 46 (cn 0)),km 48 47,kg 49 48 false (.mv 9),kg 50 48 false (.bi false .gtr 49 (cn 1073741824)),kk 51 (.pick 48 (.c (.bool true)) 50)] (.cond 51 (sr [kk 4 (.mv (cn 1))] .ret) .skip)))) (.reg [kk 52 (.bi false .add 42 (cn 1)),km 42 52]))))
def c38L1:C:=(sr [kk 31 (.bi false .lss 30 29)] (.seq (.cond 31 .skip (.exit 0)) (.seq (.block 1 (sr [kk 32 (.ia 1 28 30),kk 33 (.ld 1 false 32),km 7 33] (.seq (sr [km 34 7,kk 35 (.len 34),kk 36 (.fa 2 2),kk 37 (.ld 1 false 36),kk 38 (.len 37),kk 39 (.bi false .neq 35 38)] (.cond 39 (sr [kk 4 (.mv (cn 51))] .ret) .skip)) (sr [km 40 7,kk 41 (.len 40),kk 42 (.mv (cn 0))] (.block 2 (.loop c38L2)))))) (.reg [kk 53 (.bi false .add 30 (cn 1)),km 30 53]))))
def c38:C:=(sr [kk 2 (.bx 3 0),kk 3 (.bx 2 1),kk 4 (.mv (cn 0))] (.seq (.seq (.cut (.reg [kk 10 (.ld 3 true 2),kk 11 (cl 44 [10]),km 5 11])) (sr [km 12 5,kk 13 (.bi false .neq 12 (cn 0))] (.cond 13 (sr [km 14 5,km 4 14] .ret) .skip))) (.seq (sr [kk 15 (.fa 0 3),kk 16 (.ld 1 false 15),kk 17 (.bi false .lss 16 (cn 0)),km 18 17,kg 19 18 false (.fa 0 3),kg 20 18 false (.ld 1 false 19),kg 21 18 false (.bi false .gtr 20 (cn 16777216)),kk 22 (.pick 18 (.c (.bool true)) 21)] (.cond 22 (sr [kk 4 (.mv (cn 6))] .ret) .skip)) (.seq (sr [kk 23 (.fa 1 3),kk 24 (.ld 1 false 23),kk 25 (.len 24),kk 26 (.bi false .gtr 25 (cn 96))] (.cond 26 (sr [kk 4 (.mv (cn 10))] .ret) .skip)) (.seq (sr [kk 27 (.fa 1 3),kk 28 (.ld 1 false 27),kk 29 (.len 28),kk 30 (.mv (cn 0))] (.block 0 (.loop c38L1))) (sr [kk 4 (.mv (cn 0))] .ret))))))
theorem fits38:fits Tryz.prog false Tryz.f38 2 54 [(4,none)]=some c38.er:=by kernel_rfl
def c22:C:=(sr [kk 4 (.bx 3 0),kk 5 (.bx 3 1),kk 6 (.bx 2 2),kk 8 (.mv (cn 0))] (.seq (.seq (.cut (.reg [kk 10 (.ld 3 true 4),kk 11 (.ld 2 true 6),kk 12 (cl 38 [10,11]),km 9 12])) (sr [km 13 9,kk 14 (.bi false .neq 13 (cn 0))] (.cond 14 (sr [km 15 9,km 8 15] .ret) .skip))) (.seq (.seq (.cut (.reg [kk 16 (.ld 3 true 4),kk 17 (.ld 3 true 5),kk 18 (cl 39 [16,17]),kk 19 (.un false .not 18)])) (.cond 19 (sr [kk 8 (.mv (cn 50))] .ret) .skip)) (.seq (sr [kk 20 (.fa 0 6),kk 21 (.ld 1 false 20),kk 22 (.fa 0 5),kk 23 (.ld 1 false 22),kk 24 (.bi false .neq 21 23)] (.cond 24 (sr [kk 8 (.mv (cn 6))] .ret) .skip)) (.seq (sr [km 25 3,kk 26 (.len 25),kk 27 (.fa 1 6),kk 28 (.ld 1 false 27),kk 29 (.len 28),kk 30 (.bi false .neq 26 29)] (.cond 30 (sr [kk 8 (.mv (cn 3))] .ret) .skip)) (sr [kk 8 (.mv (cn 0))] .ret))))))
theorem fits22:fits Tryz.prog false Tryz.f22 4 31 [(8,none)]=some c22.er:=by kernel_rfl
def c23L1:C:=(sr [kk 17 (.bi false .lss 16 15)] (.seq (.cond 17 .skip (.exit 0)) (.seq (.block 1 (sr [kk 18 (.ia 1 14 16),kk 19 (.ld 1 false 18),km 6 19] (.seq (.cut (.reg [km 20 6,kk 21 (cl 40 [20]),km 7 21])) (sr [km 22 7,kk 23 (.bi false .neq 22 (cn 0))] (.cond 23 (sr [km 24 7,km 4 24] .ret) .skip))))) (.reg [kk 25 (.bi false .add 16 (cn 1)),km 16 25]))))
def c23:C:=(sr [kk 2 (.bx 3 0),kk 4 (.mv (cn 0))] (.seq (sr [km 8 1,kk 9 (.len 8),kk 10 (.fa 2 2),kk 11 (.ld 1 false 10),kk 12 (.len 11),kk 13 (.bi false .neq 9 12)] (.cond 13 (sr [kk 4 (.mv (cn 3))] .ret) .skip)) (.seq (sr [km 14 1,kk 15 (.len 14),kk 16 (.mv (cn 0))] (.block 0 (.loop c23L1))) (sr [kk 4 (.mv (cn 0))] .ret))))
theorem fits23:fits Tryz.prog false Tryz.f23 2 26 [(4,none)]=some c23.er:=by kernel_rfl
def c24:C:=(sr [kk 6 (.bx 9 1),kk 7 (.bx 4 2),kk 10 (.al [(.int .i64 0),(.int .i64 0),(.int .i64 0),(.nil 2)]),kk 11 (.mv (cn 0))] (.seq (.cut (.reg [km 16 3,kk 17 (cl 41 [16]),km 15 17,kk 18 (.ex 15 0),kk 19 (.ex 15 1),km 12 18,km 13 19])) (.seq (sr [km 20 13,kk 21 (.bi false .neq 20 (cn 0))] (.cond 21 (sr [kk 22 (.bd [(.int .i64 0),(.int .i64 0),(.int .i64 0),(.nil 2)] []),km 23 13,kz (.st 4 10 22),km 11 23] .ret) .skip)) (.seq (.cut (.reg [kk 25 (.ld 9 true 6),kk 26 (.ld 4 true 7),kk 27 (cl 42 [25,26]),km 24 27,kk 28 (.ex 24 0),kk 29 (.ex 24 1),km 14 28,km 13 29])) (.seq (sr [km 30 13,kk 31 (.bi false .neq 30 (cn 0))] (.cond 31 (sr [kk 32 (.bd [(.int .i64 0),(.int .i64 0),(.int .i64 0),(.nil 2)] []),km 33 13,kz (.st 4 10 32),km 11 33] .ret) .skip)) (.seq (.cut (.reg [km 34 0,km 35 12,km 36 14,kk 37 (.fa 1 7),kk 38 (.ld 1 false 37),kk 39 (.bd [(.int .i64 0),(.int .i64 0)] [(1,1,(cn 1073741824))]),km 40 4,kk 41 (cl 43 [34,35,36,38,39,40]),kk 42 (.ex 41 0),kk 43 (.ex 41 1),kz (.st 4 10 42),km 11 43])) .ret))))))
theorem fits24:fits Tryz.prog false Tryz.f24 5 44 [(10,some (4,true)),(11,none)]=some c24.er:=by kernel_rfl
def c10L3:C:=(sr [kk 101 (.bi false .lss 100 99)] (.seq (.cond 101 .skip (.exit 4)) (.seq (.block 5 (sr [kk 102 (.ia 2 98 100),kk 103 (.ld 2 true 102),kk 25 (.al [(.int .i64 0),(.int .i64 0)]),kz (.st 2 25 103)] (.reg [km 104 16,kk 105 (.fa 0 6),kk 106 (.ld 1 false 105),km 107 20,kk 108 (.fa 0 25),kk 109 (.ld 1 false 108),kk 110 (.fa 1 25),kk 111 (.ld 1 false 110),kk 112 (.bd [(.int .i64 0),(.int .i64 0),(.int .i64 0),(.int .i64 0)] [(0,1,106),(1,1,107),(2,1,109),(3,1,111)]),kk 113 (.bs 56 4 [112]),kk 114 (.app 56 4 32 104 113),km 16 114]))) (.reg [kk 115 (.bi false .add 100 (cn 1)),km 100 115]))))
def c10L2:C:=(sr [kk 59 (.bi false .lss 58 57)] (.seq (.cond 59 .skip (.exit 2)) (.seq (.block 3 (sr [km 60 58,kk 61 (.ia 10 56 58),kk 62 (.ld 10 true 61),kk 21 (.al [(.int .i64 0),(.nil 2),(.int .i64 0),(.int .i64 0),(.int .i64 0),(.int .i64 0),(.int .i64 0),(.nil 6),(.nil 3),(.int .i64 0)]),km 20 60,kz (.st 10 21 62)] (.seq (.cut (.drw [km 64 2,km 65 20,kk 66 (.ia 1 64 65),kk 67 (.ld 1 false 66),kk 68 (.fa 1 21),kk 69 (.ld 9 true 68),kk 70 (.fa 1 6),kk 71 (.ld 1 false 70),km 72 20,kk 73 (.ia 4 71 72),kk 74 (.ld 4 true 73),kk 75 (.fa 0 6),kk 76 (.ld 1 false 75),kk 77 (.fa 1 8),kk 78 (.ld 1 false 77),km 79 17,kk 80 (.ia 1 78 79),kk 81 (.ld 1 false 80),km 82 20,kk 83 (.ia 1 81 82),kk 84 (.ld 1 false 83),kk 85 (cl 24 [67,69,74,76,84]),km 63 85,kk 86 (.ex 63 0),kk 87 (.ex 63 1),kk 22 (.al [(.int .i64 0),(.int .i64 0),(.int .i64 0),(.nil 2)]),kz (.st 4 22 86),km 23 87] (pl [(0,[1,4,5,6,7,8,9,10,11,12,13,14,15,16,17,18,19,20,25],64),(1,[4,5,6,7,8,9,10,11,12,13,14,15,16,17,18,19,20,25],65),(2,[4,5,6,7,8,9,10,11,12,13,14,15,16,17,18,19,20,25],66),(3,[4,5,6,7,8,9,10,11,12,13,14,15,16,17,18,19,20,25],67),(4,[6,7,8,9,10,11,12,13,14,15,16,17,18,19,20,25],68),(5,[6,7,8,9,10,11,12,13,14,15,16,17,18,19,20,25],69),(6,[8,11,12,13,14,15,16,17,18,19,20,25],70),(7,[8,11,12,13,14,15,16,17,18,19,20,25],71),(8,[11,12,13,14,15,16,17,18,19,20,25],72),(9,[11,12,13,14,15,16,17,18,19,20,25],73),(10,[11,12,13,14,15,16,17,18,19,20,25],74),(11,[13,14,15,16,17,18,19,20,25],75),(12,[13,14,15,16,17,18,19,20,25],76),(13,[15,18,25],77),(14,[15,18,25],78),(15,[18,25],79),(16,[18,25],80),(17,[18,25],81),(18,[25],82),(19,[25],83),(20,[25],84),(21,[25],85),(22,[25],63),(23,[24,25],86),(24,[25,26],87)]))) (.seq (sr [km 88 23,kk 89 (.bi false .neq 88 (cn 0))] (.cond 89 (sr [kk 90 (.bd [(.int .i64 0),(.nil 1)] []),km 91 23,kz (.st 2 10 90),kk 11 (.mv (.c (.nil 4))),km 12 91] .ret) .skip)) (sr [km 92 19,kk 93 (.fa 0 22),kk 94 (.ld 1 false 93),kk 95 (.bs 3 1 [94]),kk 96 (.app 3 1 8 92 95),km 19 96] (sr [kk 97 (.fa 3 22),kk 98 (.ld 1 false 97),kk 99 (.len 98),kk 100 (.mv (cn 0))] (.block 4 (.loop c10L3)))))))) (.reg [kk 116 (.bi false .add 58 (cn 1)),km 58 116]))))
def c10L1:C:=(sr [kk 51 (.bi false .lss 50 49)] (.seq (.cond 51 .skip (.exit 0)) (.seq (.block 1 (sr [km 52 50,kk 53 (.ia 3 48 50),kk 54 (.ld 3 true 53),kk 18 (.al [(.nil 1),(.nil 1),(.nil 1)]),km 17 52,kz (.st 3 18 54)] (sr [kk 19 (.mv (.c (.nil 1)))] (.seq (sr [kk 55 (.fa 2 5),kk 56 (.ld 1 false 55),kk 57 (.len 56),kk 58 (.mv (cn 0))] (.block 2 (.loop c10L2))) (.seq (.cut (.reg [kk 118 (.ld 3 true 5),kk 119 (.ld 3 true 6),kk 120 (.fa 0 18),kk 121 (.ld 1 false 120),kk 122 (.fa 1 18),kk 123 (.ld 1 false 122),km 124 19,kk 125 (.bd [(.nil 1),(.nil 1),(.nil 1)] [(0,1,121),(1,1,123),(2,1,124)]),kk 126 (cl 25 [118,119,125]),km 117 126,kk 127 (.ex 117 0),kk 128 (.ex 117 1),kk 129 (.ex 117 2),kk 26 (.al [(.int .i64 0),(.nil 4),(.nil 1)]),kk 27 (.al [(.nil 7),(.nil 1),(.nil 1)]),kz (.st 3 26 127),kz (.st 3 27 128),km 28 129])) (.seq (sr [km 130 28,kk 131 (.bi false .neq 130 (cn 0))] (.cond 131 (sr [kk 132 (.bd [(.int .i64 0),(.nil 1)] []),km 133 28,kz (.st 2 10 132),kk 11 (.mv (.c (.nil 4))),km 12 133] .ret) .skip)) (sr [kk 134 (.ld 3 true 26),kz (.st 3 6 134)] (.reg [kk 135 (.fa 1 15),kk 136 (.ld 1 false 135),km 137 19,kk 138 (.bs 22 1 [137]),kk 139 (.app 22 1 24 136 138),kk 140 (.fa 1 15),kz (.st 1 140 139)])))))))) (.reg [kk 141 (.bi false .add 50 (cn 1)),km 50 141]))))
def c10:C:=(sr [kk 5 (.bx 3 0),kk 6 (.bx 3 1),kk 8 (.bx 2 3),kk 10 (.al [(.int .i64 0),(.nil 1)]),kk 11 (.mv (.c (.nil 4))),kk 12 (.mv (cn 0))] (.seq (.seq (.cut (.reg [kk 29 (.ld 3 true 5),kk 30 (.ld 3 true 6),kk 31 (.ld 2 true 8),km 32 4,kk 33 (cl 22 [29,30,31,32]),km 13 33])) (sr [km 34 13,kk 35 (.bi false .neq 34 (cn 0))] (.cond 35 (sr [kk 36 (.bd [(.int .i64 0),(.nil 1)] []),km 37 13,kz (.st 2 10 36),kk 11 (.mv (.c (.nil 4))),km 12 37] .ret) .skip))) (.seq (.seq (.cut (.reg [kk 38 (.ld 3 true 5),km 39 2,kk 40 (cl 23 [38,39]),km 14 40])) (sr [km 41 14,kk 42 (.bi false .neq 41 (cn 0))] (.cond 42 (sr [kk 43 (.bd [(.int .i64 0),(.nil 1)] []),km 44 14,kz (.st 2 10 43),kk 11 (.mv (.c (.nil 4))),km 12 44] .ret) .skip))) (sr [kk 45 (.fa 0 8),kk 46 (.ld 1 false 45),kk 47 (.bd [(.int .i64 0),(.nil 1)] [(0,1,46)]),kk 15 (.al [(.int .i64 0),(.nil 1)]),kz (.st 2 15 47)] (sr [kk 16 (.mv (.c (.nil 4)))] (.seq (sr [km 48 4,kk 49 (.len 48),kk 50 (.mv (cn 0))] (.block 0 (.loop c10L1))) (sr [kk 142 (.ld 2 true 15),km 143 16,kz (.st 2 10 142),km 11 143,kk 12 (.mv (cn 0))] .ret)))))))
theorem fits10:fits Tryz.prog false Tryz.f10 5 144 [(10,some (2,true)),(11,none),(12,none)]=some c10.er:=by kernel_rfl
abbrev PlnOK (c:Cs) (T:List (List Int)):Prop:=∀i,i<T.length→(T.getD i default).length=c.ss.length
theorem q38 (τ τ':Nat) (c:Cs) (t:Int) (T:List (List Int)) (hc:RgC c) (hT:T.length≤1000000) (hTT:∀i,i<T.length→(T.getD i default).length≤1000000):
  PureCallQ Tryz.prog 38 [.agg (eCas τ c), .agg [.int .i64 t, .sl τ' 1 T.length (fl eLi T)]] [] (QErr (PlnOK c T)):=by
 refine pure_callQ mix Tryz.func38 fits38 rfl ?_
 conv=>whnf
 refine ⟨by exact g0,LSem.regQ ?_⟩
 conv=>whnf
 refine ⟨_,q44 _ c hc,⟨by exact g0,by exact g0⟩, ?_⟩
 rintro _ ⟨e,rfl,_⟩
 conv=>whnf
 refine ⟨by exact g0, ?_⟩
 conv=>whnf
 refine ⟨by exact g0,fun h=> ?_,fun h=> ?_⟩
 ·simp only [bp] at h
  exact retQ _ ⟨e,rfl,imp_ne h⟩
 have hsl:=hc.sl
 conv=>whnf
 refine ⟨by exact g3,fun h=> ?_,fun h=> ?_⟩
 ·exact retQ _ ⟨6,rfl,imp_c⟩
 conv=>whnf
 refine ⟨by exact g0,fun h=> ?_,fun h=> ?_⟩
 ·exact retQ _ ⟨10,rfl,imp_c⟩
 conv=>whnf
 refine ⟨by exact g0, ?_⟩
 refine LSem.loop (n:=54) mix (α:=Nat) (fun i=>i≤T.length∧∀j,j<i→(T.getD j default).length=c.ss.length)
  (fun i=> [(2, .pt 32 0 0),(28, .sl τ' 1 T.length (fl eLi T)),(29, .int .i64 T.length),(30, .int .i64 i)])
  (fun i=> [(32, .box (eCas τ c))]) (fun i=>T.length - i) 0 ⟨Nat.zero_le _,fun j hj=>absurd hj (Nat.not_lt_zero _)⟩ ?_ ?_
 ·refine ⟨rfl,rfl, ?_, ?_⟩<;>exact ent
 rintro i ⟨hi,hI⟩
 conv=>whnf
 refine ⟨trivial,fun hc=> ?_,fun hc=> ?_⟩
 ·replace hc:=of_decide_eq_true hc
  have hlt:i<T.length:=by
   have h:(i:Int)<T.length:=hc
   omega
  have hj:((i:Int)).toNat=i:=by omega
  have hTi:=hTT i hlt
  have hnext:∀(hl:(T.getD i default).length=c.ss.length) (j:Nat),j<i+1→(T.getD j default).length=c.ss.length:=fun hl j hj=>by
   by_cases e:j=i
   ·subst e;exact hl
   ·exact hI j (by omega)
  conv=>whnf
  rw [hj]
  generalize T.getD i default=L at hTi hnext⊢
  refine ⟨by exact g0,fun h=> ?_,fun h=> ?_⟩
  ·exact retQ _ ⟨51,rfl,imp_c⟩
  simp only [bp] at h
  have hL:L.length=c.ss.length:=by omega
  conv=>whnf
  refine ⟨by exact g0, ?_⟩
  refine LSem.loop (n:=54) mix (α:=Nat) (fun k=>k≤L.length)
   (fun k=> [(2, .pt 32 0 0),(28, .sl τ' 1 T.length (fl eLi T)),(29, .int .i64 T.length),(30, .int .i64 i),(40, .sl τ' 1 L.length (fl eInt L)),(41, .int .i64 L.length),(42, .int .i64 k)])
   (fun k=> [(32, .box (eCas τ c))]) (fun k=>L.length - k) 0 (Nat.zero_le _) ?_ ?_
  ·refine ⟨rfl,rfl, ?_, ?_⟩<;>exact ent
  intro k hk
  conv=>whnf
  refine ⟨trivial,fun hc=> ?_,fun hc=> ?_⟩
  ·replace hc:=of_decide_eq_true hc
   have hlt2:k<L.length:=by
    have h:(k:Int)<L.length:=hc
    omega
   have hjk:((k:Int)).toNat=k:=by omega
   conv=>whnf
   rw [hjk]
   refine ⟨by exact g3,fun h=> ?_,fun h=> ?_⟩
   ·exact retQ _ ⟨1,rfl,imp_c⟩
   conv=>whnf
   refine ⟨by exact g0,k+1,hlt2,by omega,rfl,rfl, ?_, ?_⟩<;>exact ent
  ·conv=>whnf
   refine ⟨by exact g0,i+1,⟨hlt,hnext hL⟩,by omega,rfl,rfl, ?_, ?_⟩<;>exact ent
 ·have hk:i=T.length:=by
    have h:¬(i:Int)<T.length:=of_decide_eq_false hc
    omega
  exact retQ _ ⟨0,rfl,fun _ j hj=>hI j (by omega)⟩
structure BegOK (c:Cs) (f:Fw) (T:List (List Int)) (n:Nat):Prop where
 p:PlnOK c T
 v:VlF c f
 n:n=T.length
theorem q22 (τ τ' τ2 σ:Nat) (c:Cs) (f:Fw) (t:Int) (T:List (List Int)) (n:Nat) (g:Nat→List PV) (hc:RgC c) (hf:RgF f) (hT:T.length≤1000000) (hTT:∀i,i<T.length→(T.getD i default).length≤1000000) (hn:n≤1000000):
  PureCallQ Tryz.prog 22 [.agg (eCas τ c), .agg (eFw τ2 f), .agg [.int .i64 t, .sl τ' 1 T.length (fl eLi T)], .sl σ 3 n g] [] (QErr (BegOK c f T n)):=by
 refine pure_callQ mix Tryz.func22 fits22 rfl ?_
 conv=>whnf
 refine ⟨by exact g0,LSem.regQ ?_⟩
 conv=>whnf
 refine ⟨_,q38 _ _ c t T hc hT hTT,⟨by exact g0,by exact g0⟩, ?_⟩
 rintro _ ⟨e,rfl,he⟩
 conv=>whnf
 refine ⟨by exact g0, ?_⟩
 conv=>whnf
 refine ⟨by exact g0,fun h=> ?_,fun h=> ?_⟩
 ·simp only [bp] at h
  exact retQ _ ⟨e,rfl,imp_ne h⟩
 simp only [bp] at h
 have hp:=he h
 conv=>whnf
 refine ⟨by exact g0,LSem.regQ ?_⟩
 conv=>whnf
 refine ⟨_,q39 _ _ c f hc hf,⟨by exact g0,by exact g0⟩, ?_⟩
 rintro _ ⟨b,rfl,hb⟩
 conv=>whnf
 refine ⟨by exact g0, ?_⟩
 conv=>whnf
 refine ⟨by exact g0,fun h=> ?_,fun h=> ?_⟩
 ·exact retQ _ ⟨50,rfl,imp_c⟩
 simp only [bp] at h
 have hv:=hb h
 conv=>whnf
 refine ⟨by exact g0,fun h=> ?_,fun h=> ?_⟩
 ·exact retQ _ ⟨6,rfl,imp_c⟩
 conv=>whnf
 refine ⟨by exact g0,fun h=> ?_,fun h=> ?_⟩
 ·exact retQ _ ⟨3,rfl,imp_c⟩
 simp only [bp] at h
 exact retQ _ ⟨0,rfl,fun _=>⟨hp,hv,by omega⟩⟩
theorem q23 (τ τ' σ:Nat) (c:Cs) (C:List (List Cd)) (hsl:c.ss.length≤1000000) (hC:C.length≤1000000):PureCallQ Tryz.prog 23 [.agg (eCas τ c), .sl τ' 1 C.length (fl (eCs σ) C)] [] (QErr (C.length=c.ss.length)):=by
 refine pure_callQ mix Tryz.func23 fits23 rfl ?_
 conv=>whnf
 refine ⟨by exact g0,fun h=> ?_,fun h=> ?_⟩
 ·exact retQ _ ⟨3,rfl,imp_c⟩
 simp only [bp] at h
 have hl:C.length=c.ss.length:=by omega
 conv=>whnf
 refine ⟨by exact g0, ?_⟩
 refine LSem.loop (n:=26) mix (α:=Nat) (fun i=>i≤C.length)
  (fun i=> [(14, .sl τ' 1 C.length (fl (eCs σ) C)),(15, .int .i64 C.length),(16, .int .i64 i)])
  (fun i=> []) (fun i=>C.length - i) 0 (Nat.zero_le _) ?_ ?_
 ·refine ⟨rfl,rfl, ?_, ?_⟩<;>exact ent
 intro i hi
 conv=>whnf
 refine ⟨trivial,fun hc=> ?_,fun hc=> ?_⟩
 ·replace hc:=of_decide_eq_true hc
  have hlt:i<C.length:=by
   have h:(i:Int)<C.length:=hc
   omega
  have hj:((i:Int)).toNat=i:=by omega
  conv=>whnf
  rw [hj]
  refine ⟨by exact g0,LSem.regQ ?_⟩
  conv=>whnf
  refine ⟨_,q40 _ (C.getD i default),⟨by exact g0,by exact g0⟩, ?_⟩
  rintro _ ⟨e,rfl⟩
  conv=>whnf
  refine ⟨by exact g0, ?_⟩
  conv=>whnf
  refine ⟨by exact g0,fun h=> ?_,fun h=> ?_⟩
  ·simp only [bp] at h
   exact retQ _ ⟨e,rfl,imp_ne h⟩
  ·conv=>whnf
   refine ⟨by exact g0,i+1,hlt,by omega,rfl,rfl, ?_, ?_⟩<;>exact ent
 ·exact retQ _ ⟨0,rfl,fun _=>hl⟩
theorem q24 (τ τ' τ2:Nat) (l:List Cd) (x:Dm) (s:Ds) (t w:Int) (hl:l.length≤1000000000) (hx:RgD x) (hs:RgS s):PureCallQ Tryz.prog 24 [.sl τ 7 l.length (fl eCd l), .agg (eDm τ' x), .agg (eDs τ2 s), .int .i64 t, .int .i64 w] [] (QCho l):=by
 refine pure_callQ mix Tryz.func24 fits24 rfl ?_
 conv=>whnf
 refine ⟨by exact g0,LSem.regQ ?_⟩
 conv=>whnf
 refine ⟨_,q41 _,⟨by exact g0,by exact g0⟩, ?_⟩
 rintro _ ⟨d,e,rfl⟩
 conv=>whnf
 refine ⟨by exact g0, ?_⟩
 conv=>whnf
 refine ⟨by exact g0,fun h=> ?_,fun h=> ?_⟩
 ·exact retQ _ ⟨_,_,_, [],_,rfl,fun y hy=>(by cases hy),Nat.zero_le _⟩
 conv=>whnf
 refine ⟨by exact g0,LSem.regQ ?_⟩
 conv=>whnf
 refine ⟨_,q42 _ _ x s hx hs,⟨by exact g0,by exact g0⟩, ?_⟩
 rintro _ ⟨lv,e2,rfl,_⟩
 conv=>whnf
 refine ⟨by exact g0, ?_⟩
 conv=>whnf
 refine ⟨by exact g0,fun h=> ?_,fun h=> ?_⟩
 ·exact retQ _ ⟨_,_,_, [],_,rfl,fun y hy=>(by cases hy),Nat.zero_le _⟩
 conv=>whnf
 refine ⟨by exact g0,LSem.regQ ?_⟩
 conv=>whnf
 refine ⟨_,q43 _ l _ _ _ _ _ _ hl,⟨by exact g0,by exact g0⟩, ?_⟩
 rintro _ ⟨r,a,b,ys,e3,rfl,h1,h2⟩
 conv=>whnf
 refine ⟨by exact g0, ?_⟩
 exact retQ _ ⟨_,_,_,ys,_,rfl,h1,h2⟩
theorem prv_of {C:List (List Cd)} {t:Int} {k:Nat} {y:Yd} (hk:k<C.length) (h:YldOK (C.getD k default) y):prvS C ⟨t,k,y.c,y.b⟩:=by
 obtain ⟨⟨h1,h2⟩,h3⟩:=h
 have hj:((k:Int)).toNat=k:=by omega
 refine ⟨⟨⟨by dsimp only;omega,by dsimp only;omega⟩,h1,by dsimp only;rw [hj];exact h2⟩, ?_⟩
 rcases h3 with h3 | ⟨⟨h4,h5⟩,h6⟩
 ·exact .inl h3
 ·right
  refine ⟨⟨h4,by dsimp only;rw [hj];exact h5⟩, ?_⟩
  unfold ltC at h6
  unfold cdV
  dsimp only
  rw [hj]
  omega
instance:Inhabited Sp:=⟨⟨[], [], []⟩⟩
def eSu (p:Sp):List PV:= [.sl 0 1 p.inf.length (fl eInt p.inf), .sl 0 1 p.los.length (fl eInt p.los), .sl 0 1 p.tar.length (fl eInt p.tar)]
def QMak (C:List (List Cd)) (r:CallRes):Prop:=∃(t:Int) (T:List (List Int)) (B:List Vi) (e:Int),r=⟨.tup [.agg [.int .i64 t, .sl 0 1 T.length (fl eLi T)], .sl 0 4 B.length (fl eVi B), .int .i64 e], [], []⟩∧
 (∀i,i<B.length→prvS C (B.getD i default))∧B.length≤2100
theorem q10 (τ τ' τ2 σ:Nat) (c:Cs) (f0:Fw) (C:List (List Cd)) (t:Int) (T:List (List Int)) (S:List Sp) (hc:RgC c) (hf:RgF f0) (h3:c.ss.length≤3) (hC:C.length≤1000000) (hC7:∀i,i<C.length→(C.getD i default).length≤7)
  (hT:T.length≤1000000) (hTT:∀i,i<T.length→(T.getD i default).length≤1000000) (hS:S.length≤100) (hSS:∀i,i<S.length→RgP (S.getD i default)):
  PureCallQ Tryz.prog 10 [.agg (eCas τ c), .agg (eFw 1 f0), .sl τ' 1 C.length (fl (eCs σ) C), .agg [.int .i64 t, .sl τ2 1 T.length (fl eLi T)], .sl 1 3 S.length (fl eSu S)] [] (QMak C):=by
 have z0:∀i,i<([]:List Vi).length→prvS C (([]:List Vi).getD i default):=fun i hi=>absurd hi (Nat.not_lt_zero _)
 refine pure_callQ mix Tryz.func10 fits10 rfl ?_
 conv=>whnf
 refine ⟨by exact g0,LSem.regQ ?_⟩
 conv=>whnf
 refine ⟨_,q22 _ _ _ _ c f0 t T S.length (fl eSu S) hc hf hT hTT (by omega),⟨by exact g0,by exact g0⟩, ?_⟩
 rintro _ ⟨e,rfl,he⟩
 conv=>whnf
 refine ⟨by exact g0, ?_⟩
 conv=>whnf
 refine ⟨by exact g0,fun h=> ?_,fun h=> ?_⟩
 ·exact retQ _ ⟨0, [], [],_,rfl,z0,Nat.zero_le _⟩
 simp only [bp] at h
 obtain ⟨hp,hv,hn⟩:=he h
 conv=>whnf
 refine ⟨by exact g0,LSem.regQ ?_⟩
 conv=>whnf
 refine ⟨_,q23 _ _ _ c C hc.sl hC,⟨by exact g0,by exact g0⟩, ?_⟩
 rintro _ ⟨e,rfl,he⟩
 conv=>whnf
 refine ⟨by exact g0, ?_⟩
 conv=>whnf
 refine ⟨by exact g0,fun h=> ?_,fun h=> ?_⟩
 ·exact retQ _ ⟨0, [], [],_,rfl,z0,Nat.zero_le _⟩
 simp only [bp] at h
 have hCl:=he h
 conv=>whnf
 refine ⟨by exact g0, ?_⟩
 refine LSem.adopt 16 1000000 56 4 4 rfl rfl ?_
 refine LSem.adoptF 240 1 1000001 22 1 1 _ rfl rfl rfl ?_
 refine LSem.loop (n:=144) mix (α:=Nat×Fw×List (List Int)×List Vi) (fun s=>s.1≤S.length∧RgF s.2.1∧VlF c s.2.1∧s.2.2.1.length=s.1∧(∀i,i<s.2.2.2.length→prvS C (s.2.2.2.getD i default))∧s.2.2.2.length≤21*s.1)
  (fun s=> [(2, .sl τ' 1 C.length (fl (eCs σ) C)),(5, .pt 80 0 0),(6, .pt 96 0 0),(8, .pt 128 0 0),(10, .pt 160 0 0),(15, .pt 240 0 0),(16, .os 1000000),(48, .sl 1 3 S.length (fl eSu S)),(49, .int .i64 S.length),(50, .int .i64 s.1)])
  (fun s=> [(80, .box (eCas τ c)),(96, .box (eFw 1 s.2.1)),(128, .box [.int .i64 t, .sl τ2 1 T.length (fl eLi T)]),(160, .box [.int .i64 0, .nil 1]),(240, .box [.int .i64 t, .os 1000001]),
   (1000000, .row 0 56 4 s.2.2.2.length (fl eVi s.2.2.2)),(1000001, .row 0 22 1 s.2.2.1.length (fl eLi s.2.2.1))]) (fun s=>S.length - s.1) (0,f0, [], []) ⟨Nat.zero_le _,hf,hv,rfl,z0,Nat.zero_le _⟩ ?_ ?_
 ·refine ⟨rfl,rfl, ?_, ?_⟩<;>exact ent
 clear hv hf
 rintro ⟨i,f,O,B⟩ ⟨hi,hf,hv,hO,hB,hBl⟩
 dsimp only at hi hf hv hO hB hBl⊢
 conv=>whnf
 refine ⟨trivial,fun hc1=> ?_,fun hc1=> ?_⟩
 ·replace hc1:=of_decide_eq_true hc1
  have hlt:i<S.length:=by
   have h:(i:Int)<S.length:=hc1
   omega
  have hj:((i:Int)).toNat=i:=by omega
  have hSi:=hSS i hlt
  have hpi:=hp i (by omega)
  conv=>whnf
  rw [hj]
  refine ⟨by exact g0, ?_⟩
  refine LSem.adopt 19 1000002 3 1 1 rfl rfl ?_
  refine LSem.loop (n:=144) mix (α:=Nat×List Int×List Vi) (fun y=>y.1≤c.ss.length∧y.2.1.length=y.1∧(∀i,i<y.2.2.length→prvS C (y.2.2.getD i default))∧y.2.2.length≤21*i+7*y.1)
   (fun y=> [(2, .sl τ' 1 C.length (fl (eCs σ) C)),(5, .pt 80 0 0),(6, .pt 96 0 0),(8, .pt 128 0 0),(10, .pt 160 0 0),(15, .pt 240 0 0),(16, .os 1000000),(48, .sl 1 3 S.length (fl eSu S)),(49, .int .i64 S.length),(50, .int .i64 i),
    (17, .int .i64 i),(18, .pt 288 0 0),(19, .os 1000002),(56, .sl τ 10 c.ss.length (fl (eSite 0) c.ss)),(57, .int .i64 c.ss.length),(58, .int .i64 y.1)])
   (fun y=> [(80, .box (eCas τ c)),(96, .box (eFw 1 f)),(128, .box [.int .i64 t, .sl τ2 1 T.length (fl eLi T)]),(160, .box [.int .i64 0, .nil 1]),(240, .box [.int .i64 t, .os 1000001]),(288, .box (eSp 1 (S.getD i default))),
    (1000000, .row 0 56 4 y.2.2.length (fl eVi y.2.2)),(1000001, .row 0 22 1 O.length (fl eLi O)),(1000002, .row 0 3 1 y.2.1.length (fl eInt y.2.1))]) (fun y=>c.ss.length - y.1) (0, [],B) ⟨Nat.zero_le _,rfl,hB,by dsimp only;omega⟩ ?_ ?_
  ·refine ⟨rfl,rfl, ?_, ?_⟩<;>exact ent
  clear hB hBl B
  rintro ⟨k,tg,B⟩ ⟨hk,htg,hB,hBl⟩
  dsimp only at hk htg hB hBl⊢
  conv=>whnf
  refine ⟨trivial,fun hc2=> ?_,fun hc2=> ?_⟩
  ·replace hc2:=of_decide_eq_true hc2
   have hlt2:k<c.ss.length:=by
    have h:(k:Int)<c.ss.length:=hc2
    omega
   have hjk:((k:Int)).toNat=k:=by omega
   have hsd:=hc.sd k hlt2
   have hdd:=hf.dd k (by rw [hv.d];exact hlt2)
   have hvd:=hv.d
   have hCk:=hC7 k (by omega)
   conv=>whnf
   rw [hjk]
   refine ⟨by exact g0,LSem.drwQ mix ?_⟩
   conv=>whnf
   rw [hjk,hj]
   refine ⟨_,q24 _ _ _ (C.getD k default) (c.ss.getD k default).x (f.ds.getD k default).s _ _ (by omega) hsd hdd,⟨_,0,0,0, [],1,rfl,fun y hy=>(by cases hy),Nat.zero_le _⟩,rfl, ?_⟩
   rintro _ ⟨r,a,b,ys,e2,rfl,hy1,hy2⟩
   have hq:=fl_push eInt tg r
   have hxl:(tg++ [r]).length=tg.length+1:=by simp
   conv=>whnf
   refine ⟨by exact g0,rfl, ?_⟩
   conv=>whnf
   refine ⟨by exact g0,fun h=> ?_,fun h=> ?_⟩
   ·exact retQ _ ⟨0, [], [],_,rfl,z0,Nat.zero_le _⟩
   conv=>whnf
   refine ⟨by exact g0, ?_⟩
   refine LSem.loop (n:=144) mix (α:=Nat×List Vi) (fun z=>z.1≤ys.length∧(∀i,i<z.2.length→prvS C (z.2.getD i default))∧z.2.length≤21*i+7*k+z.1)
    (fun z=> [(2, .sl τ' 1 C.length (fl (eCs σ) C)),(5, .pt 80 0 0),(6, .pt 96 0 0),(8, .pt 128 0 0),(10, .pt 160 0 0),(15, .pt 240 0 0),(16, .os 1000000),(48, .sl 1 3 S.length (fl eSu S)),(49, .int .i64 S.length),(50, .int .i64 i),
     (17, .int .i64 i),(18, .pt 288 0 0),(19, .os 1000002),(20, .int .i64 k),(56, .sl τ 10 c.ss.length (fl (eSite 0) c.ss)),(57, .int .i64 c.ss.length),(58, .int .i64 k),(98, .sl 0 2 ys.length (fl eYd ys)),(99, .int .i64 ys.length),(100, .int .i64 z.1)])
    (fun z=> [(80, .box (eCas τ c)),(96, .box (eFw 1 f)),(128, .box [.int .i64 t, .sl τ2 1 T.length (fl eLi T)]),(160, .box [.int .i64 0, .nil 1]),(240, .box [.int .i64 t, .os 1000001]),(288, .box (eSp 1 (S.getD i default))),
     (1000000, .row 0 56 4 z.2.length (fl eVi z.2)),(1000001, .row 0 22 1 O.length (fl eLi O)),(1000002, .row 0 3 1 (tg++ [r]).length (fl eInt (tg++ [r])))]) (fun z=>ys.length - z.1) (0,B) ⟨Nat.zero_le _,hB,by dsimp only;omega⟩ ?_ ?_
   ·refine ⟨rfl,rfl, ?_, ?_⟩<;>exact ent
   clear hB hBl B
   rintro ⟨j,B⟩ ⟨hjy,hB,hBl⟩
   dsimp only at hjy hB hBl⊢
   conv=>whnf
   refine ⟨trivial,fun hc3=> ?_,fun hc3=> ?_⟩
   ·replace hc3:=of_decide_eq_true hc3
    have hlt3:j<ys.length:=by
     have h:(j:Int)<ys.length:=hc3
     omega
    have hjj:((j:Int)).toNat=j:=by omega
    have hprv:=prv_of (t:=f.t) (show k<C.length by omega) (hy1 _ (getD_mem hlt3))
    have hq2:=fl_push eVi B ⟨f.t,k,(ys.getD j default).c,(ys.getD j default).b⟩
    have hyl:(B++ [(⟨f.t,k,(ys.getD j default).c,(ys.getD j default).b⟩:Vi)]).length=B.length+1:=by simp
    conv=>whnf
    rw [hjj]
    refine ⟨by exact g0,(j+1,B++ [⟨f.t,k,(ys.getD j default).c,(ys.getD j default).b⟩]),⟨hlt3,all_push hB hprv,by dsimp only;omega⟩,by dsimp only;omega,rfl,rfl, ?_, ?_⟩<;>exact ent
   ·conv=>whnf
    refine ⟨by exact g0,(k+1,tg++ [r],B),⟨hlt2,by dsimp only;omega,hB,by dsimp only;omega⟩,by dsimp only;omega,rfl,rfl, ?_, ?_⟩<;>exact ent
  ·have hkk:k=c.ss.length:=by
     have h:¬(k:Int)<c.ss.length:=of_decide_eq_false hc2
     omega
   have hq:=fl_push eLi O tg
   have hxl:(O++ [tg]).length=O.length+1:=by simp
   conv=>whnf
   refine ⟨by exact g0,LSem.regQ ?_⟩
   conv=>whnf
   refine ⟨_,q25 _ c f ⟨(S.getD i default).inf,(S.getD i default).los,tg⟩ hc hf ⟨hSi.i,hSi.l,by dsimp only;omega⟩,⟨by exact g0,by exact g0⟩, ?_⟩
   rintro _ ⟨F,n1,n2,n3,g1,g2,g3',e2,rfl,hF,hVF⟩
   conv=>whnf
   refine ⟨by exact g0, ?_⟩
   conv=>whnf
   refine ⟨by exact g0,fun h=> ?_,fun h=> ?_⟩
   ·exact retQ _ ⟨0, [], [],_,rfl,z0,Nat.zero_le _⟩
   simp only [bp] at h
   conv=>whnf
   refine ⟨by exact g0,(i+1,F,O++ [tg],B),⟨hlt,hF,hVF h,by dsimp only;omega,hB,by dsimp only;omega⟩,by dsimp only;omega,rfl,rfl, ?_, ?_⟩<;>exact ent
 ·exact retQ _ ⟨t,O,B,0,rfl,hB,by omega⟩
open Go.RowKit
section
variable {P:Program} {X:Cx} {γ:Gh} {w w0:World} {may:Nat→Prop} {a:Act} {s s':PS} {ops:Array Oper} {Qx:Exit→Act→World→Prop}
def SE2 (P:Program) (q:FuncId) (Q:CallRes→Prop):FuncId→List PV→List SE→CallRes→Prop:=fun id args bs c=>(id=q→PureCallQ P id args bs Q∧(natIn id givers || natIn id readers)=false)∧(id≠q→PureCall P id args bs c)
def fidI:I→Option FuncId
 | .call (.c (.fn (.func f) _ _)) _=>some f
 | _=>none
def noQ (q:FuncId) (x:Ins):Bool:=match fidI x.i with
 | some f=> !(Nat.beq f q)
 | none=>false
def isQ (q:FuncId) (x:Ins):Bool:=match fidI x.i with
 | some f=>Nat.beq f q
 | none=>false
theorem callA_id {f:FuncId} {p q args args':List PV} {ids:List Nat} {cs:List SE} {id:FuncId} {bs:List (Nat×SE)} (h:callA (.fn (.func f) p q) args ids cs=some (id,args',bs)):id=f:=by
 unfold callA at h
 simp only at h
 cases h1:natIn f givers with
 | true=>
   rw [h1] at h
   simp only at h
   unfold givA at h
   cases h2:rowOf ids cs with
   | none=>rw [h2] at h;cases h
   | some r=>
     rw [h2] at h
     obtain ⟨r,τ,e,z,n,g⟩:=r
     simp only at h
     cases h3:givL r ids cs (p++args++q) with
     | none=>rw [h3] at h;cases h
     | some a=>
       rw [h3] at h
       simp only at h
       split at h
       ·simp only [Option.some.injEq,Prod.mk.injEq] at h;exact h.1.symm
       ·cases h
 | false=>
   rw [h1] at h
   simp only at h
   cases h2:natIn f readers with
   | true=>
     rw [h2] at h
     simp only at h
     unfold readA at h
     cases h3:rdL ids cs (p++args++q) with
     | none=>rw [h3] at h;cases h
     | some a=>
       rw [h3] at h
       simp only [Option.some.injEq,Prod.mk.injEq] at h;exact h.1.symm
   | false=>
     rw [h2] at h
     simp only at h
     cases h3:lendL ids cs (p++args++q) with
     | none=>rw [h3] at h;cases h
     | some a=>
       cases h4:boxesOf ids cs with
       | none=>rw [h3,h4] at h;cases h
       | some b=>
         rw [h3,h4] at h
         simp only [Option.some.injEq,Prod.mk.injEq] at h;exact h.1.symm
theorem stripS_fn (G:Bool) (f:Fn) (p q l:List PV):∃r,(stripS G (.fn f p q::l)).2= .fn f p q::r:=by
 unfold stripS
 split
 ·exact ⟨_,rfl⟩
 ·exact ⟨_,rfl⟩
theorem fid_at {x:Ins} {f:FuncId} {G:Bool} {id:FuncId} {a:List PV} {b:List SE} (hf:fidI x.i=some f) (hat:callAt x s=some (G,id,a,b)):id=f:=by
 obtain ⟨od,oid,og,oi⟩:=x
 simp only at hf
 unfold fidI at hf
 split at hf
 ·rename_i f' p q xs
  injection hf with hf
  subst hf
  unfold callAt at hat
  simp only at hat
  split at hat
  ·cases hat
  ·rename_i G' hG
   split at hat
   ·cases hat
   ·rename_i vs0 hvs
    simp only [I.opr,valL,A.val] at hvs
    split at hvs
    ·rename_i p1 ps1 hp1 hps1
     injection hp1 with hp1
     injection hvs with hvs
     subst hp1;subst hvs
     obtain ⟨r,hr⟩:=stripS_fn G' (.func f') p q ps1
     rcases hst:stripS G' (.fn (.func f') p q::ps1) with ⟨sd,vs⟩
     rw [hst] at hr hat
     simp only at hr
     subst hr
     simp only at hat
     split at hat
     ·cases hat
     ·split at hat
      ·rename_i id2 args2 bs2 hca
       have:=callA_id hca
       subst this
       simp only [norm_someL,snorm_someL,Option.some.injEq,Prod.mk.injEq] at hat
       exact hat.2.1.symm
      ·cases hat
    ·cases hvs
 ·cases hf
def evE (P:Program) (q:FuncId):Nat→List Ins→PS→(PS→Prop)→Prop
 | _, [],s,K=>s.ok∧K s
 | i,o::r,s,K=>match o.i.isCall with
   | true=>match o.g with
     | some _=>False
     | none=>match callAt o s with
       | some (_,id,args,bs)=>match isQ q o with
         | true=>match natIn id givers || natIn id readers with
           | true=>False
           | false=>∃Q:CallRes→Prop,PureCallQ P id args bs Q∧(∃c,Q c)∧noCall r=true∧∀c,Q c→(match stepX Any true c i o s with
             | some s'=>evD P (i+1) r s' K
             | none=>False)
         | false=>∃c:CallRes,PureCall P id args bs c∧noQ q o=true∧(match stepX Any true c i o s with
           | some s'=>evE P q (i+1) r s' K
           | none=>False)
       | none=>False
   | false=>match stepX Any true default i o s with
     | some s'=>evE P q (i+1) r s' K
     | none=>False
def upC (cr:Nat→CallRes) (j:Nat) (c:CallRes):Nat→CallRes:=fun k=>if k=j then c else cr k
theorem evE_evL {q:FuncId}:∀{l:List Ins} {i:Nat} {s:PS} {K:PS→Prop},evE P q i l s K→
  ∃(Q:CallRes→Prop) (j:Nat) (cr:Nat→CallRes),i≤j∧(∃c,Q c)∧(∀p∈num i l,p.2.i.isCall=true→p.2.g=none∧((p.1=j∧isQ q p.2=true)∨(p.1≠j∧noQ q p.2=true)))∧∀c,Q c→∃s',evL (SE2 P q Q) true (upC cr j c) (num i l) s=some s'∧s'.ok∧K s'
 | [],i,s,K,h=>⟨fun _=>True,i,fun _=>default,Nat.le_refl _,⟨default,trivial⟩,fun p hp=>by simp [num] at hp,fun c _=>⟨s,rfl,h.1,h.2⟩⟩
 | x::l,i,s,K,h=>by
   unfold evE at h
   split at h
   ·rename_i hx
    split at h
    ·exact h.elim
    ·rename_i hg
     split at h
     ·rename_i G id args bs hat
      split at h
      ·rename_i hq
       split at h
       ·exact h.elim
       ·rename_i hng
        obtain ⟨Q,hQ,hne,hn,h⟩:=h
        have hid:id=q:=by
         unfold isQ at hq
         split at hq
         ·rename_i f hf
          have:=Nat.eq_of_beq_eq_true hq
          rw [←this];exact fid_at hf hat
         ·cases hq
        refine ⟨Q,i,fun _=>default,Nat.le_refl _,hne,fun p hp hpc=> ?_,fun c hc=> ?_⟩
        ·simp only [num,List.mem_cons] at hp
         rcases hp with rfl | hp
         ·exact ⟨hg, .inl ⟨rfl,hq⟩⟩
         ·obtain ⟨_,h2⟩:=num_get l (i+1) p hp
          rw [noCall_mem hn p.2 (List.mem_of_getElem? h2)] at hpc;cases hpc
        ·have h2:=h c hc
         split at h2
         ·rename_i s1 h1
          obtain ⟨s',h3,h4⟩:=evD_no (S:=SE2 P q Q) (cr:=upC (fun _=>default) i c) hn h2
          refine ⟨s', ?_,h4⟩
          simp only [num,evL]
          have e1:upC (fun _=>default) i c i=c:=if_pos rfl
          rw [e1]
          simp only [stepX] at h1⊢
          rw [stepI_call (S:=SE2 P q Q) hx hat (fun _=>⟨fun _=>⟨hQ,hng⟩,fun hne=>absurd hid hne⟩),h1]
          exact h3
         ·exact h2.elim
      ·rename_i hq
       obtain ⟨c1,hP,hnq,h⟩:=h
       split at h
       ·rename_i s1 h1
        obtain ⟨Q,j,cr,hij,hne,hj,hc⟩:=evE_evL h
        have hid:id≠q:=by
         unfold noQ at hnq
         split at hnq
         ·rename_i f hf
          have:=fid_at hf hat
          subst this
          intro e
          subst e
          rw [Nat.beq_refl] at hnq;cases hnq
         ·cases hnq
        have hji:j≠i:=by omega
        refine ⟨Q,j,upC cr i c1,by omega,hne,fun p hp hpc=> ?_,fun c hqc=> ?_⟩
        ·simp only [num,List.mem_cons] at hp
         rcases hp with rfl | hp
         ·exact ⟨hg, .inr ⟨fun e=>hji e.symm,hnq⟩⟩
         ·exact hj p hp hpc
        ·obtain ⟨s',h3,h4⟩:=hc c hqc
         refine ⟨s', ?_,h4⟩
         simp only [num,evL]
         have e1:upC (upC cr i c1) j c i=c1:=by
          unfold upC
          rw [if_neg (fun e=>hji e.symm),if_pos rfl]
         rw [e1]
         simp only [stepX] at h1⊢
         rw [stepI_call (S:=SE2 P q Q) hx hat (fun _=>⟨fun e=>absurd e hid,fun _=>hP⟩),h1]
         simp only
         rw [←h3]
         refine evL_cr fun p hp=> ?_
         have:=(num_get l (i+1) p hp).1
         unfold upC
         by_cases e2:p.1=j
         ·rw [if_pos e2,if_pos e2]
         ·rw [if_neg e2,if_neg e2,if_neg (by omega)]
       ·exact h.elim
     ·exact h.elim
   ·rename_i hx
    split at h
    ·rename_i s1 h1
     obtain ⟨Q,j,cr,hij,hne,hj,hc⟩:=evE_evL h
     refine ⟨Q,j,cr,by omega,hne,fun p hp hpc=> ?_,fun c hqc=> ?_⟩
     ·simp only [num,List.mem_cons] at hp
      rcases hp with rfl | hp
      ·simp only at hpc;rw [hx] at hpc;cases hpc
      ·exact hj p hp hpc
     ·obtain ⟨s',h3,h4⟩:=hc c hqc
      refine ⟨s', ?_,h4⟩
      simp only [num,evL]
      simp only [stepX] at h1⊢
      rw [stepI_any (S':=Any) (c':=default) hx,h1]
      exact h3
    ·exact h.elim
theorem any_soundE {wr:Bool} {Q:CallRes→Prop} {q:FuncId} {cr:Nat→CallRes} {j:Nat} {ins:List Ins} {ps:List (Nat×Nat×Nat)} (hcomp:∀(k:Nat) (o:Oper),ops[k]? =some o→∃x,ins[k]? =some x∧compO P wr ops o=some x)
  (hps:pairs (Region.before ops) ins=some ps) (hed:∀(k:Nat) (o:Oper),ops[k]? =some o→∀e∈o.after,Region.binds .any e=true→e.on<k)
  (hcall:∀k x,ins[k]? =some x→x.i.isCall=true→x.g=none∧((k=j∧isQ q x=true)∨(k≠j∧noQ q x=true))):
  ∀(fuel:Nat) (l:List (Nat×Ins)) (listed:Array Bool) (D:CallRes→Prop) (a:Act) (w:World) (s:PS) (γ:Gh),l.length≤fuel→Left ops listed l→(∀p∈l,ins[p.1]? =some p.2)→
  (∃c,D c)→(j∈l.map (·.1)→∀c,Q c→D c)→Rel X w0 may a w s γ→
  (∀c,D c→∃s',evL (SE2 P q Q) true (upC cr j c) l s=some s'∧s'.ok∧apartOk s'.log ps=true∧∀a' w' s'' γ',Sim s' s''→Rel X w0 may a' w' s'' γ'→Qx .normal a' w')→wpAny P .any ops Qx fuel listed a w:=by
 have first:∀{l:List (Nat×Ins)} {listed:Array Bool},Left ops listed l→Region.ready .any ops listed= []→l= []:=by
  intro l listed hL hr
  cases l with
  | nil=>rfl
  | cons p l=>
    exfalso
    have hm:=(hL.mem p.1).1 (by simp)
    have:p.1∈Region.ready .any ops listed:=by
     refine mem_ready.2 ⟨hm.2,ops[p.1],Array.getElem?_eq_getElem hm.1,fun e he hb=> ?_⟩
     have hlt:=hed p.1 _ (Array.getElem?_eq_getElem hm.1) e he hb
     have hni:e.on∉(p::l).map (·.1):=fun hme=>by
      simp only [List.map_cons,List.mem_cons] at hme
      rcases hme with hme | hme
      ·omega
      ·have:=hL.sorted
       simp only [List.map_cons,List.pairwise_cons] at this
       have:=this.1 _ hme
       omega
     have hlt2:e.on<listed.size:=by rw [hL.size];omega
     have:=mt (hL.mem e.on).2 hni
     simp only [Array.getD_eq_getD_getElem?,hlt2,Array.getElem?_eq_getElem,Option.getD_some] at this⊢
     cases hh:listed[e.on] with
     | true=>rfl
     | false=>exact absurd ⟨by omega,hh⟩ this
    rw [hr] at this;simp at this
 intro fuel
 induction fuel with
 | zero=>
   intro l listed D a w s γ hle hL hin hD hDQ hR H
   have:l= []:=List.eq_nil_of_length_eq_zero (Nat.le_zero.1 hle)
   subst this
   obtain ⟨c,hc⟩:=hD
   obtain ⟨s',hev,hok,hap,hK⟩:=H c hc
   simp only [evL,Option.some.injEq] at hev;subst hev
   refine ⟨?_,hK _ _ _ _ (Sim.refl _) hR⟩
   cases hr:Region.ready .any ops listed with
   | nil=>rfl
   | cons j _=>
     exfalso
     have hj:j∈Region.ready .any ops listed:=by rw [hr];simp
     obtain ⟨h1,o,h2,_⟩:=mem_ready.1 hj
     have:=(hL.mem j).2 ⟨(Array.getElem?_eq_some_iff.1 h2).1,h1⟩
     simp at this
 | succ fuel ih=>
   intro l listed D a w s γ hle hL hin hD hDQ hR H
   refine ⟨fun hr=> ?_,fun i hi=> ?_⟩
   ·have:=first hL hr
    subst this
    obtain ⟨c,hc⟩:=hD
    obtain ⟨s',hev,hok,hap,hK⟩:=H c hc
    simp only [evL,Option.some.injEq] at hev;subst hev
    exact hK _ _ _ _ (Sim.refl _) hR
   ·obtain ⟨h1,o,h2,h3⟩:=mem_ready.1 hi
    have hisz:=(Array.getElem?_eq_some_iff.1 h2).1
    have hil:=(hL.mem i).2 ⟨hisz,h1⟩
    obtain ⟨⟨i',x⟩,hq,hqi⟩:=List.mem_map.1 hil
    simp only at hqi;subst hqi
    obtain ⟨l1,l2,rfl⟩:=List.append_of_mem hq
    have hnd:((l1++(i',x)::l2).map (·.1)).Nodup:=hL.sorted.imp Nat.ne_of_lt
    have hx:=hin (i',x) (by simp)
    simp only at hx
    obtain ⟨x',hx',hco⟩:=hcomp i' o h2
    rw [hx] at hx';injection hx' with hx';subst hx'
    have hsub:∀k,k∈(l1++l2).map (·.1)↔k∈(l1++(i',x)::l2).map (·.1)∧k≠i':=fun k=>by
     have:=hnd
     simp only [List.map_append,List.map_cons] at this
     rw [List.nodup_append] at this
     obtain ⟨_,g5,g6⟩:=this
     simp only [List.nodup_cons] at g5
     simp only [List.map_append,List.map_cons,List.mem_append,List.mem_cons]
     constructor
     ·rintro (h | h)
      ·exact ⟨.inl h,fun e=>g6 k h i' (by simp) e⟩
      ·exact ⟨.inr (.inr h),fun e=>g5.1 (e▸h)⟩
     ·rintro ⟨h | h | h,hne⟩
      ·exact .inl h
      ·exact absurd h hne
      ·exact .inr h
    have hbef:∀k,k∈(l1++(i',x)::l2).map (·.1)→bit (Region.before ops) k i'=false:=fun k hk=>by
     cases hb:bit (Region.before ops) k i' with
     | false=>rfl
     | true=>
       exfalso
       obtain ⟨e,he,heb,hor⟩:=before_bit h2 (hed i' o h2) hb
       have hlt:=hed i' o h2 e he heb
       have hlist:=h3 e he heb
       have hnot:e.on∉(l1++(i',x)::l2).map (·.1):=fun hm=>by
        have:=((hL.mem _).1 hm).2
        have hlt2:e.on<listed.size:=by rw [hL.size];omega
        simp only [Array.getD_eq_getD_getElem?,hlt2,Array.getElem?_eq_getElem,Option.getD_some] at this hlist
        rw [this] at hlist;cases hlist
       rcases hor with rfl | hor
       ·exact hnot hk
       ·exact hL.down e.on (by omega) hnot k hor hk
    have hApart:∀log,apartOk log ps=true→∀p∈l1,Apart log p (i',x):=fun log hap p hp=>by
     have hpl:p∈l1++(i',x)::l2:=by simp [hp]
     have hlt:p.1<i':=by
      have:=hL.sorted
      simp only [List.map_append,List.map_cons] at this
      exact (List.pairwise_append.1 this).2.2 _ (List.mem_map.2 ⟨p,hp,rfl⟩) _ (by simp)
     have hpsz:=((hL.mem p.1).1 (List.mem_map.2 ⟨p,hpl,rfl⟩)).1
     obtain ⟨xp,hxp,hcp⟩:=hcomp p.1 _ (Array.getElem?_eq_getElem hpsz)
     rw [hin p hpl] at hxp;injection hxp with hxp;subst hxp
     obtain ⟨g1,g2⟩:=pairs_mem hps (hin p hpl) hx hlt (hbef p.1 (List.mem_map.2 ⟨p,hpl,rfl⟩))
     refine ⟨Nat.ne_of_lt hlt, ?_,g1,apartOk_mem hap _ _ _ g2⟩
     unfold compO at hcp
     split at hcp
     ·injection hcp with hcp;rw [←hcp]
     ·cases hcp

    have hfront:∀c,D c→∃s1 s'',stepI (SE2 P q Q) true (upC cr j c i') i' x s=some s1∧s1.ok∧evL (SE2 P q Q) true (upC cr j c) (l1++l2) s1=some s''∧s''.ok∧apartOk s''.log ps=true∧
      ∀a' w' s3 γ',Sim s'' s3→Rel X w0 may a' w' s3 γ'→Qx .normal a' w':=fun c hc=>by
     obtain ⟨s',hev,hok,hap,hK⟩:=H c hc
     obtain ⟨s'',hev',hS⟩:=bubble hev hnd (hApart _ hap)
     simp only [evL,stepX] at hev'
     split at hev'
     ·rename_i s1 hs1
      have hok'':=hS.ok.1 hok
      exact ⟨s1,s'',hs1,evL_ok hev' hok'',hev',hok'',by rw [←hS.log];exact hap,fun a' w' s3 γ' h4 h5=>hK a' w' s3 γ' (hS.trans h4) h5⟩
     ·cases hev'
    have hL':Left ops (listed.setIfInBounds i' true) (l1++l2):=by
     refine ⟨by simp [hL.size],fun k=> ?_, ?_,fun k hk hnk j hb hj=> ?_⟩
     ·rw [hsub,hL.mem]
      by_cases hki:k=i'
      ·subst hki
       have:k<listed.size:=by rw [hL.size];exact hisz
       simp [this]
      ·rw [getD_set_ne true (Ne.symm hki)]
       simp [hki]
     ·have:=hL.sorted
      simp only [List.map_append,List.map_cons] at this⊢
      obtain ⟨g1,g2,g3⟩:=List.pairwise_append.1 this
      exact List.pairwise_append.2 ⟨g1,(List.pairwise_cons.1 g2).2,fun a ha b hb=>g3 a ha b (by simp [hb])⟩
     ·have hjl:=((hsub j).1 hj).1
      by_cases hki:k=i'
      ·subst hki
       rw [hbef j hjl] at hb;cases hb
      ·exact hL.down k hk (fun hm=>hnk ((hsub k).2 ⟨hm,hki⟩)) j hb hjl
    have hin':∀p∈l1++l2,ins[p.1]? =some p.2:=by
     intro p hp
     refine hin p ?_
     simp only [List.mem_append,List.mem_cons] at hp⊢
     rcases hp with hp | hp
     ·exact .inl hp
     ·exact .inr (.inr hp)
    have hle':(l1++l2).length≤fuel:=by simp only [List.length_append,List.length_cons] at hle⊢;omega
    have hstep:∀c,D c→(i'≠j∨x.i.isCall=false)→∃s1,stepI (PureCall P) true (upC cr j c i') i' x s=some s1∧s1.ok:=fun c hc hor=>by
     obtain ⟨s1,_,hs1,hok1,_⟩:=hfront c hc
     refine ⟨s1, ?_,hok1⟩
     cases hcx:x.i.isCall with
     | false=>rw [stepI_any (S':=SE2 P q Q) (c':=upC cr j c i') hcx];exact hs1
     | true=>
       obtain ⟨hg,hor2⟩:=hcall i' x hx hcx
       rcases hor2 with ⟨e,_⟩ | ⟨_,hnq⟩
       ·rcases hor with h | h
        ·exact absurd e h
        ·rw [hcx] at h;cases h
       ·obtain ⟨id,b0,d0,hat,⟨_,hP⟩,_⟩:=call_at hcx hg hs1 hok1
        have hid:id≠q:=by
         unfold noQ at hnq
         split at hnq
         ·rename_i f hf
          have:=fid_at hf hat
          subst this
          intro e
          subst e
          rw [Nat.beq_refl] at hnq;cases hnq
         ·cases hnq
        rw [stepI_call (S:=PureCall P) hcx hat (fun _=>hP hid),←stepI_call (S:=SE2 P q Q) hcx hat (fun _=>⟨fun e=>absurd e hid,hP⟩)]
        exact hs1
    have hsame:∀c c',(i'≠j∨x.i.isCall=false)→stepI (SE2 P q Q) true (upC cr j c i') i' x s=stepI (SE2 P q Q) true (upC cr j c' i') i' x s:=fun c c' hor=>by
     rcases hor with h | h
     ·have:upC cr j c i'=upC cr j c' i':=by unfold upC;rw [if_neg h,if_neg h]
      rw [this]
     ·exact stepI_any h
    have hdec:(i'≠j∨x.i.isCall=false)∨(i'=j∧x.i.isCall=true):=by
     by_cases e:i'=j
     ·cases hcx:x.i.isCall with
      | false=>exact .inl (.inr rfl)
      | true=>exact .inr ⟨e,rfl⟩
     ·exact .inl (.inl e)
    rcases hdec with hor | ⟨hj,hcx⟩
    ·obtain ⟨c0,hc0⟩:=hD
     obtain ⟨s1,_,hs1,_⟩:=hfront c0 hc0
     obtain ⟨s1',hs1',hok1⟩:=hstep c0 hc0 hor
     have e1:s1'=s1:=by
      obtain ⟨s1,_,hs1b,hok1b,_⟩:=hfront c0 hc0
      cases hcx:x.i.isCall with
      | false=>
        rw [stepI_any (S':=SE2 P q Q) (c':=upC cr j c0 i') hcx,hs1] at hs1'
        exact (Option.some.inj hs1').symm
      | true=>
        obtain ⟨hg,_⟩:=hcall i' x hx hcx
        obtain ⟨id,b0,d0,hat,hSS,_⟩:=call_at hcx hg hs1b hok1b
        have hSS2:(upC cr j c0 i')=(upC cr j c0 i'):=rfl
        obtain ⟨id2,b2,d2,hat2,hPP,_⟩:=call_at hcx hg hs1' hok1
        rw [hat] at hat2
        simp only [Option.some.injEq,Prod.mk.injEq] at hat2
        obtain ⟨_,rfl,rfl,rfl⟩:=hat2
        rw [stepI_call (S:=PureCall P) hcx hat (fun _=>hPP)] at hs1'
        rw [stepI_call (S:=SE2 P q Q) hcx hat (fun _=>hSS)] at hs1
        rw [hs1] at hs1'
        exact (Option.some.inj hs1').symm
     subst e1
     refine step_sound h2 hR hco hs1' hok1 fun a' w' γ' hR'=> ?_
     refine ih (l1++l2) _ D a' w' s1' γ' hle' hL' hin' ⟨c0,hc0⟩ (fun hj=>hDQ ((hsub j).1 hj).1) hR' fun c hc=> ?_
     obtain ⟨s2,s'',g1,_,g2,g3,g4,g5⟩:=hfront c hc
     rw [hsame c c0 hor,hs1] at g1
     injection g1 with g1;subst g1
     exact ⟨s'',g2,g3,g4,g5⟩
    ·subst hj
     obtain ⟨hg,hor2⟩:=hcall i' x hx hcx
     have hDQ':=hDQ (List.mem_map.2 ⟨(i',x),by simp,rfl⟩)
     obtain ⟨c0,hc0⟩:=hD
     obtain ⟨s1,_,hs1,hok1,_⟩:=hfront c0 hc0
     obtain ⟨id,b0,d0,hat,⟨hQ',_⟩,hsd⟩:=call_at hcx hg hs1 hok1
     have hid:id=q:=by
      rcases hor2 with ⟨_,hq⟩ | ⟨e,_⟩
      ·unfold isQ at hq
       split at hq
       ·rename_i f hf
        have:=Nat.eq_of_beq_eq_true hq
        rw [←this];exact fid_at hf hat
       ·cases hq
      ·exact absurd rfl e
     obtain ⟨hQ,hng⟩:=hQ' hid
     refine stepQ_sound (lg:=true) (i:=i') h2 hR hco hg hcx hat hng hsd hQ fun c hqc=> ?_
     obtain ⟨s2,s'',g1,_,g2,g3,g4,g5⟩:=hfront c (hDQ' c hqc)
     have e1:upC cr i' c i'=c:=if_pos rfl
     rw [e1] at g1
     refine ⟨s2, ?_,fun a' w' γ' hR'=> ?_⟩
     ·simp only [stepX]
      rw [←stepI_call (S:=SE2 P q Q) hcx hat (fun _=>⟨fun _=>⟨hQ,hng⟩,fun e=>absurd hid e⟩)];exact g1
     ·refine ih (l1++l2) _ (fun c'=>c'=c) a' w' s2 γ' hle' hL' hin' ⟨c,rfl⟩ (fun hj=>absurd rfl ((hsub i').1 hj).2) hR' fun c' hc'=> ?_
      subst hc'
      exact ⟨s'',g2,g3,g4,g5⟩
theorem LSem.drwE (q:FuncId) {wr:Bool} {np:Nat} (hmix:P.follows .mixedOrders=true) {ins:List Ins} {ps:List (Nat×Nat×Nat)} {Q:Lv→PS→Prop} {n:Nat} {fr:Nat→Option PV} {st:Nat→Option SE} {ok:Prop} {log:Nat→Option LogE}
  (h:evE P q 0 ins ⟨n,fr,st,ok,fun _=>none⟩ (fun s'=>match s' with
   | ⟨n',fr',st',ok',log'⟩=>apartOk log' ps=true∧Q .nrm ⟨n',fr',st',ok',fun _=>none⟩)):LSem P wr np (.drw ins ps) Q ⟨n,fr,st,ok,log⟩:=by
 intro hQ code hc X w0 may a w γ hX hR
 obtain ⟨Qc,j,cr,_,hne,hcall,hev⟩:=evE_evL h
 have:∃id ops,code= .region id ops true∧mapO (compO P wr ops) ops.toList=some ins∧pairs (Region.before ops) ins=some ps∧edgesOk ops.toList=true:=by
  cases code with
  | region id ops dr=>
    cases dr with
    | false=>simp only [comp,C.er] at hc;split at hc<;>cases hc
    | true=>
      simp only [comp,C.er] at hc
      split at hc
      ·rename_i ins' hm
       split at hc
       ·rename_i ps' hp
        split at hc
        ·rename_i he
         simp only [Option.some.injEq,C.drw.injEq] at hc
         obtain ⟨rfl,rfl⟩:=hc
         exact ⟨id,ops,rfl,hm,hp,he⟩
        ·cases hc
       ·cases hc
      ·cases hc
  | _=>simp only [comp,C.er] at hc<;>(repeat' (split at hc))<;>simp_all
 obtain ⟨id,ops,rfl,hm,hp,he⟩:=this
 have hlen:ops.size=ins.length:=by have:=mapO_length hm;simpa using this.symm
 have hnum:∀p∈num 0 ins,ins[p.1]? =some p.2:=fun p hp=>by
  have:=(num_get ins 0 p hp).2
  simpa using this
 refine wp_region_any hmix ?_
 refine any_soundE (Q:=Qc) (q:=q) (cr:=cr) (j:=j) (wr:=wr) (fun k o hk=>comp_ins hm k o hk) hp (fun k o hk e hem heb=> ?_) (fun k x hk hx=> ?_) ops.size (num 0 ins) _ Qc a _ _ γ ?_ ?_ hnum hne (fun _ c hc=>hc) (hR.drew.same (s':=⟨n,fr,st,ok,fun _=>none⟩) rfl rfl rfl) fun c hc=> ?_
 ·have h3:=List.all_eq_true.1 he (o,k) (List.mk_mem_zipIdx_iff_getElem?.2 (by simpa using hk))
  have h4:=Array.all_eq_true_iff_forall_mem.1 h3 e hem
  simp only [heb,Bool.not_true,Bool.false_or,decide_eq_true_eq] at h4
  exact h4
 ·have hm1:k∈(num 0 ins).map (·.1):=by
    rw [num_fst,←List.range_eq_range',List.mem_range]
    exact (List.getElem?_eq_some_iff.1 hk).1
  obtain ⟨p,hp1,hp2⟩:=List.mem_map.1 hm1
  have h5:=hnum p hp1
  rw [hp2,hk] at h5
  injection h5 with h5
  have h6:=hcall p hp1 (by rw [←h5];exact hx)
  rw [hp2,←h5] at h6
  exact h6
 ·have:=congrArg List.length (num_fst ins 0)
  simp only [List.length_map,List.length_range'] at this
  omega
 ·refine ⟨by simp,fun k=> ?_, ?_,fun k hk hnk=> ?_⟩
  ·rw [num_fst,←hlen,←List.range_eq_range',List.mem_range]
   constructor
   ·intro h;exact ⟨h,by simp [h]⟩
   ·rintro ⟨h,_⟩;exact h
  ·rw [num_fst,←List.range_eq_range'];exact List.pairwise_lt_range
  ·rw [num_fst,←hlen,←List.range_eq_range',List.mem_range] at hnk;exact absurd hk hnk
 ·obtain ⟨s',h1,hok,hK⟩:=hev c hc
  obtain ⟨n',fr',st',ok',log'⟩:=s'
  simp only at hK
  obtain ⟨hap,h2⟩:=hK
  refine ⟨_,h1,hok,hap,fun a' w' s'' γ' hS hR'=> ?_⟩
  have e1:s''.ok=ok':=propext hS.ok.symm
  obtain ⟨n2,fr2,st2,ok2,log2⟩:=s''
  have a1:=hS.n;have a2:=hS.fr;have a3:=hS.st
  simp only at e1 a1 a2 a3
  subst e1 a1 a2 a3
  exact ⟨_,_,_,rfl,h2,hR'.same rfl rfl rfl⟩
end
end Pv
end Go.Proofs.YtaleokjjkjngkaaGreatDoor
