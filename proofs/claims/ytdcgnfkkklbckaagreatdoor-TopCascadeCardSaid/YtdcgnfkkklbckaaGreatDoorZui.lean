/- RUNS: a call that is run on known values has a contract. -/
import Derived.Shelf.Sort.Plain
import Derived.Shelf.Slices.Clone
import Derived.Shelf.Slices.In.SortNone
import Derived.Test.YtdcgnfkkklbckaaGreatDoorRows
import Derived.Test.YtdcgnfkkklbckaaGreatDoorZuh
import Derived.Sort.OwnSortedInts
import Derived.Shelf.Slices.CompactI
import Derived.Test.YtdcgnfkkklbckaaGreatDoorZug
import Derived.Test.YtdcgnfkkklbckaaGreatDoorZuf
set_option linter.unusedSimpArgs false
set_option linter.unusedVariables false
set_option maxRecDepth 100000
set_option maxHeartbeats 16000000
namespace Go.Proofs.YtdcgnfkkklbckaaGreatDoor
namespace Sh
open Go.Shelf
def lays189_ren:Go.Shelf.Ren:=⟨fun | 189=>157 | 125=>204 | 257=>203 | 128=>268 | 129=>269 | 294=>259 | 295=>260 | 296=>261 | 297=>262 | 298=>263 | 299=>264 | 216=>265 | 300=>266 | 301=>267 | 328=>300 | 329=>301 | 330=>302 | 331=>303 | 332=>304 | 215=>209 | 343=>330 | n=>n,fun | 28=>22 | 3=>3 | 46=>201 | 0=>0 | 51=>399 | 53=>372 | 4=>4 | 183=>393 | 182=>392 | 131=>215 | 5=>5 | 9=>9 | 218=>427 | 222=>283 | 228=>444 | 229=>445 | n=>n,fun | n=>n⟩
theorem lays189:Go.Proofs.Lays.n189 Tryz.prog lays189_ren:={
 mixed:=by kernel_rfl
 f125:=Tryz.func204.trans (congrArg some (by kernel_rfl))
 f128:=Tryz.func268.trans (congrArg some (by kernel_rfl))
 f129:=Tryz.func269.trans (congrArg some (by kernel_rfl))
 f189:=Tryz.func157.trans (congrArg some (by kernel_rfl))
 f215:=Tryz.func209.trans (congrArg some (by kernel_rfl))
 f216:=Tryz.func265.trans (congrArg some (by kernel_rfl))
 f257:=Tryz.func203.trans (congrArg some (by kernel_rfl))
 f294:=Tryz.func259.trans (congrArg some (by kernel_rfl))
 f295:=Tryz.func260.trans (congrArg some (by kernel_rfl))
 f296:=Tryz.func261.trans (congrArg some (by kernel_rfl))
 f297:=Tryz.func262.trans (congrArg some (by kernel_rfl))
 f298:=Tryz.func263.trans (congrArg some (by kernel_rfl))
 f299:=Tryz.func264.trans (congrArg some (by kernel_rfl))
 f300:=Tryz.func266.trans (congrArg some (by kernel_rfl))
 f301:=Tryz.func267.trans (congrArg some (by kernel_rfl))
 f328:=Tryz.func300.trans (congrArg some (by kernel_rfl))
 f329:=Tryz.func301.trans (congrArg some (by kernel_rfl))
 f330:=Tryz.func302.trans (congrArg some (by kernel_rfl))
 f331:=Tryz.func303.trans (congrArg some (by kernel_rfl))
 f332:=Tryz.func304.trans (congrArg some (by kernel_rfl))
 f343:=Tryz.func330.trans (congrArg some (by kernel_rfl))
 t0:=Tryz.underlying0
 a0:=Tryz.isAgg0
 z0:=Tryz.sizeOf0
 v0:=Tryz.zeroValue0
 t3:=Tryz.underlying3
 a3:=Tryz.isAgg3
 z3:=Tryz.sizeOf3
 v3:=Tryz.zeroValue3
 t4:=Tryz.underlying4
 a4:=Tryz.isAgg4
 z4:=Tryz.sizeOf4
 v4:=Tryz.zeroValue4
 t5:=Tryz.underlying5
 a5:=Tryz.isAgg5
 z5:=Tryz.sizeOf5
 v5:=Tryz.zeroValue5
 t9:=Tryz.underlying9
 a9:=Tryz.isAgg9
 z9:=Tryz.sizeOf9
 v9:=Tryz.zeroValue9
 t28:=Tryz.underlying22
 a28:=Tryz.isAgg22
 z28:=Tryz.sizeOf22
 v28:=Tryz.zeroValue22
 t46:=Tryz.underlying201
 a46:=Tryz.isAgg201
 z46:=Tryz.sizeOf201
 v46:=Tryz.zeroValue201
 t51:=Tryz.underlying399
 a51:=Tryz.isAgg399
 z51:=Tryz.sizeOf399
 v51:=Tryz.zeroValue399
 t53:=Tryz.underlying372
 a53:=Tryz.isAgg372
 z53:=Tryz.sizeOf372
 v53:=Tryz.zeroValue372
 t131:=Tryz.underlying215
 a131:=Tryz.isAgg215
 z131:=Tryz.sizeOf215
 v131:=Tryz.zeroValue215
 t182:=Tryz.underlying392
 a182:=Tryz.isAgg392
 z182:=Tryz.sizeOf392
 v182:=Tryz.zeroValue392
 t183:=Tryz.underlying393
 a183:=Tryz.isAgg393
 z183:=Tryz.sizeOf393
 v183:=Tryz.zeroValue393
 t218:=Tryz.underlying427
 a218:=Tryz.isAgg427
 z218:=Tryz.sizeOf427
 v218:=Tryz.zeroValue427
 t222:=Tryz.underlying283
 a222:=Tryz.isAgg283
 z222:=Tryz.sizeOf283
 v222:=Tryz.zeroValue283
 t228:=Tryz.underlying444
 a228:=Tryz.isAgg444
 z228:=Tryz.sizeOf444
 v228:=Tryz.zeroValue444
 t229:=Tryz.underlying445
 a229:=Tryz.isAgg445
 z229:=Tryz.sizeOf445
 v229:=Tryz.zeroValue445 }
def laysNm215_ren:Go.Shelf.Ren:=⟨fun | 15=>127 | n=>n,fun | 22=>22 | 3=>3 | 4=>4 | n=>n,fun | n=>n⟩
theorem laysNm215:Go.Proofs.Lays2.n15 Tryz.prog laysNm215_ren:={
 mixed:=by kernel_rfl
 f15:=Tryz.func127.trans (congrArg some (by kernel_rfl))
 t3:=Tryz.underlying3
 a3:=Tryz.isAgg3
 z3:=Tryz.sizeOf3
 v3:=Tryz.zeroValue3
 t4:=Tryz.underlying4
 a4:=Tryz.isAgg4
 z4:=Tryz.sizeOf4
 v4:=Tryz.zeroValue4
 t22:=Tryz.underlying22
 a22:=Tryz.isAgg22
 z22:=Tryz.sizeOf22
 v22:=Tryz.zeroValue22
 i3:=by kernel_rfl }
open Go.Sort Go.RowKit in
theorem slices_Sort_int (blk off cap:Nat) (zs:List Int) (w:World) (hH:Holds (Value.int .i64) w blk off zs.toArray) (hblk:blk<w.heap.size) (hsz:zs.length<4611686018427387904):
 Calls Tryz.prog 157 #[.slice (some ⟨blk,off,none⟩) zs.length cap] w fun e w'=>
  e= .returned (.tuple #[])∧∃n os,w'=grow (putRow (Value.int .i64) (Sort.ahead w n) blk off (zs.mergeSort fun x y=>decide (x≤y)).toArray) os:=Any.slices_Sort_int lays189 blk off cap zs w hH hblk hsz
open Go.RowKit Go.Lib in
theorem slices_Clone_int (b off n c:Nat) (zs:List Int) (w:World) (hz:n≤zs.length) (hbig:n*8≤140737488355328) (hc:∀j,j<zs.length→w.cell? ⟨b,off+j,none⟩=some (.int .i64 (zs.getD j 0))):
 Calls Tryz.prog 127 #[.slice (some ⟨b,off,none⟩) n c] w fun e w'=>∃v',e= .returned v'∧w'.ownsRow w.heap.size 3 1 v' n ((zs.take n).map (Value.int .i64))∧v'≠ .slice none 0 0∧Below w.heap.size w w':=Any.slices_Clone_int laysNm215 b off n c zs w hz hbig hc
open Go.RowKit Go.Lib in
theorem slices_Clone_int_nil (n c:Nat) (w:World):
 Calls Tryz.prog 127 #[.slice none n c] w fun e w'=>e= .returned (.slice none 0 0)∧w'=w:=Any.slices_Clone_int_nil laysNm215 n c w
open Go.RowKit Go.Lib in
theorem slices_Clone_int_zero (a:Addr) (c:Nat) (w:World):
 Calls Tryz.prog 127 #[.slice (some a) 0 c] w fun e w'=>∃v',e= .returned v'∧w'.ownsRow w.heap.size 3 1 v' 0 []∧v'≠ .slice none 0 0∧Below w.heap.size w w':=Any.slices_Clone_int_zero laysNm215 a c w
end Sh
namespace Pv
open Go.Sort Go.RowKit
theorem ints_holds {w:World} {g T cap:Nat} {l:List Int} (h:IntsIn w g T cap l):Holds (Value.int .i64) w g 0 l.toArray∧g<w.heap.size:=by
 obtain ⟨cur,fz,hg,hfz,hnc,hcm,hsz,htk⟩:=h
 rw [Nat.mul_one] at htk
 refine ⟨fun j hj=> ?_,(Array.getElem?_eq_some_iff.1 hg).1⟩
 have hj':j<l.length:=by simpa using hj
 refine ⟨?_, ?_⟩
 ·have h1:(cur.toList.take l.length)[j]? =(l.map (Value.int .i64))[j]? :=by rw [htk]
  rw [List.getElem?_take_of_lt hj'] at h1
  simp only [World.cell?,hg,Nat.zero_add]
  simp only [Option.isSome_none,Bool.false_eq_true,if_false]
  rw [←Array.getElem?_toList,h1]
  simp [hj']
 ·obtain ⟨lo,hi⟩:=fz
  unfold fzOff at hfz
  simp only [World.frozen?,hg,Bool.and_eq_false_iff,decide_eq_false_iff_not]
  simp only at hfz
  omega
theorem ints_put {w:World} {g T cap n:Nat} {os:Array Obj} {l l' d:List Int} (h:IntsIn w g T cap l) (hd:d.length=l.length) (hp:d.take l'.length=l'):Keeps (· =g) w (grow (putRow (Value.int .i64) (Sort.ahead w n) g 0 d.toArray) os)∧IntsIn (grow (putRow (Value.int .i64) (Sort.ahead w n) g 0 d.toArray) os) g T cap l':=by
 obtain ⟨cur,fz,hg,hfz,hnc,hcm,hsz,htk⟩:=h
 have hgb:=grownBy_sortedI (w:=w) (g:=g) (n:=n) (os:=os) d.toArray
 have hl':l'.length≤d.length:=by rw [←hp,List.length_take];omega
 refine ⟨⟨hgb.os,hgb.tape,hgb.output,hgb.size,fun b hb hne=>hgb.block b hb (fun h=>hne (by injection h))⟩,_,fz,heap_sortedI _ hg,by simpa [putCells] using hfz,by omega,hcm,by simp [putCells,hsz], ?_⟩
 have:=take_putCellsI cur d (by omega)
 rw [Nat.mul_one]
 rw [show l'.length=min l'.length d.length by omega,←List.take_take,this,←List.map_take,hp]
theorem sort_inplace (l:List Int) (hb:l.length<4611686018427387904):InPlace Tryz.prog 157 l (l.mergeSort fun x y=>decide (x≤y)) false:=by
 refine ⟨⟨_,Tryz.func157,rfl,rfl⟩,fun w g cap T h=> ?_⟩
 obtain ⟨h1,h2⟩:=ints_holds h
 refine (Sh.slices_Sort_int g 0 cap l w h1 h2 hb).mono ?_
 rintro e w' ⟨he,n,os,rfl⟩
 have hlen:(l.mergeSort fun x y=>decide (x≤y)).length=l.length:=List.length_mergeSort ..
 obtain ⟨k1,k2⟩:=ints_put (n:=n) (os:=os) (d:=l.mergeSort fun x y=>decide (x≤y)) (l':=l.mergeSort fun x y=>decide (x≤y)) h hlen (List.take_length ..)
 exact ⟨by rw [he];rfl,k1,k2⟩
end Pv
namespace Sh
open Go.Shelf
def laysNm220_ren:Go.Shelf.Ren:=⟨fun | 20=>315 | n=>n,fun | 22=>22 | 3=>3 | 4=>4 | 0=>0 | n=>n,fun | n=>n⟩
theorem laysNm220:Go.Proofs.Lays2.n20 Tryz.prog laysNm220_ren:={
 mixed:=by kernel_rfl
 f20:=Tryz.func315.trans (congrArg some (by kernel_rfl))
 t0:=Tryz.underlying0
 a0:=Tryz.isAgg0
 z0:=Tryz.sizeOf0
 v0:=Tryz.zeroValue0
 t3:=Tryz.underlying3
 a3:=Tryz.isAgg3
 z3:=Tryz.sizeOf3
 v3:=Tryz.zeroValue3
 t4:=Tryz.underlying4
 a4:=Tryz.isAgg4
 z4:=Tryz.sizeOf4
 v4:=Tryz.zeroValue4
 t22:=Tryz.underlying22
 a22:=Tryz.isAgg22
 z22:=Tryz.sizeOf22
 v22:=Tryz.zeroValue22
 i3:=by kernel_rfl }
open Go.RowKit Go.Lib Go.Sort in
theorem slices_Compact_int (blk off cap:Nat) (zs:List Int) (w:World) (hH:Holds (Value.int .i64) w blk off zs.toArray) (hsz:zs.length≤9223372036854775807) (hcap:zs.length≤cap):
 Calls Tryz.prog 315 #[.slice (some ⟨blk,off,none⟩) zs.length cap] w fun e w'=>e= .returned (.slice (some ⟨blk,off,none⟩) (Lib.compact zs).length cap)∧∃q,w'=putRow (Value.int .i64) (Sort.ahead w q) blk off (Lib.compact zs++List.replicate (zs.length - (Lib.compact zs).length) 0).toArray:=Any.slices_Compact_int laysNm220 blk off cap zs w hH hsz hcap
end Sh
namespace Pv
open Go.Sort Go.RowKit
theorem compact_inplace (l:List Int) (hb:l.length≤9223372036854775807):InPlace Tryz.prog 315 l (Lib.compact l) true:=by
 refine ⟨⟨_,Tryz.func315,rfl,rfl⟩,fun w g cap T h=> ?_⟩
 obtain ⟨h1,h2⟩:=ints_holds h
 have hcap:l.length≤cap:=by obtain ⟨_,_,_,_,h,_⟩:=h;exact h
 refine (Sh.slices_Compact_int g 0 cap l w h1 hb hcap).mono ?_
 rintro e w' ⟨he,n,rfl⟩
 have hle:(Lib.compact l).length≤l.length:=by
  unfold Lib.compact Lib.compactUpTo
  rw [List.length_map]
  exact Nat.le_trans (List.length_filter_le ..) (by simp)
 obtain ⟨k1,k2⟩:=ints_put (n:=n) (os:= #[]) (d:=Lib.compact l++List.replicate (l.length - (Lib.compact l).length) 0) (l':=Lib.compact l) h (by simp;omega) (by simp)
 rw [grow_empty] at k1 k2
 exact ⟨by rw [he];rfl,k1,k2⟩
def c314L1:C:=(.block 1 (sr [km 23 8,km 24 1,kb 25 .add 23 24,kb 26 .sub 25 (cn 1),km 27 1,kb 28 .quo 26 27,km 29 1,kb 30 .mul 28 29,km 8 30] (.seq (sr [km 31 8,kf 32 2 2,kl 33 32,kb 34 .gtr 31 33] (.cond 34 (sr [km 35 7,km 4 35,kk 5 (.mv (cn 0))] .ret) .skip)) (.seq (sr [kt 36 6 2,km 37 8,kc 38 280 [36,37],km 9 38] (sr [km 39 9,km 40 8,kb 41 .neq 39 40] (.cond 41 (sr [km 42 9,km 8 42] (.exit 1)) .skip))) (.seq (sr [km 43 7,kk 44 (.len 43),kb 45 .eql 44 (cn 200)] (.cond 45 (sr [kk 4 (.mv (.c (.nil 1))),kk 5 (.mv (cn 10))] .ret) .skip)) (sr [km 46 7,km 47 8,kk 48 (.bs 3 1 [47]),kk 49 (.app 3 1 8 46 48),km 7 49] (.reg [km 50 8,kb 51 .add 50 (cn 1),km 8 51])))))))
def c314:C:=(sr [kk 2 (.bx 6 0),kk 4 (.mv (.c (.nil 1))),kk 5 (.mv (cn 0))] (.seq (sr [kt 10 6 2,kc 11 217 [10],km 6 11] (sr [km 12 6,kb 13 .neq 12 (cn 0)] (.cond 13 (sr [km 14 6,kk 4 (.mv (.c (.nil 1))),km 5 14] .ret) .skip))) (.seq (sr [km 15 1,kb 16 .lss 15 (cn 1),km 17 16,kg 18 17 false (.mv 1),kg 19 17 false (.bi false .gtr 18 (cn 1073741824)),kk 20 (.pick 17 ct 19)] (.cond 20 (sr [kk 4 (.mv (.c (.nil 1))),kk 5 (.mv (cn 1))] .ret) .skip)) (sr [kk 7 (.mv (.c (.nil 1)))] (sr [kf 21 1 2,kl 22 21,km 8 22] (.block 0 (.loop c314L1)))))))
theorem fits314:fits Tryz.prog false Tryz.f314 2 52 [(4,none),(5,none)]=some c314.er:=by kernel_rfl
def c278L1:C:=(sr [kb 33 .lss 32 31] (.seq (.cond 33 .skip (.exit 0)) (.seq (.block 1 (sr [ki 34 1 30 32,kl 35 34,km 12 35] (.seq (sr [kt 36 6 3,kt 37 3 4,km 38 12,kc 39 316 [36,37,38],kk 40 (.un false .not 39)] (.cond 40 (.exit 1) .skip)) (sr [km 41 12,kk 42 (.bd [z0,z0,z0] [(0,1,41)]),kk 13 (.al [z0,z0,z0]),kx 3 13 42] (sr [kt 44 6 3,km 45 12,kc 46 183 [44,45],km 43 46,ke 47 43 0,ke 48 43 1,kf 49 1 13,kx 1 49 47] (.seq (sr [km 50 12,kb 51 .gtr 50 (cn 0),km 52 51,kg 53 52 true (.fa 0 4),kg 54 52 true (.ld 1 false 53),kg 55 52 true (.bi false .eql 54 (cn 0)),kk 56 (.pick 52 55 cf)] (.cond 56 (.reg [kf 57 2 13,kx 1 57 (cn 1)]) .skip)) (.reg [km 58 10,kt 59 3 13,kk 60 (.bs 365 3 [59]),kk 61 (.app 365 3 24 58 60),km 10 61]))))))) (.reg [kb 62 .add 32 (cn 1),km 32 62]))))
def c278:C:=(sr [kk 3 (.bx 6 0),kk 4 (.bx 3 1),kk 6 (.mv (.c (.nil 3))),kk 7 (.mv cf)] (sr [kt 15 6 3,km 16 2,kc 17 314 [15,16],km 14 17,ke 18 14 0,ke 19 14 1,km 8 18,km 9 19] (.seq (sr [km 20 9,kb 21 .neq 20 (cn 0)] (.cond 21 (sr [kk 6 (.mv (.c (.nil 3))),kk 7 (.mv cf)] .ret) .skip)) (sr [km 22 8,kf 23 0 4,kl 24 23,kk 25 (.bs 3 1 [(cn 0),24]),kk 26 (.app 3 1 8 22 25),km 8 26] (.seq (.cut (.reg [km 27 8,kc 28 157 [27]])) (sr [kk 10 (.mv (.c (.nil 3)))] (.seq (.seq (.cut (.reg [km 29 8,kc 30 315 [29],kk 31 (.len 30),kk 32 (.mv (cn 0))])) (.block 0 (.loop c278L1))) (sr [km 63 10,km 6 63,kk 7 (.mv ct)] .ret))))))))
theorem fits278:fits Tryz.prog false Tryz.f278 3 64 [(6,none),(7,none)]=some c278.er:=by kernel_rfl
def flP (u:Ut) (g:Int):Nat→Int→List Int→List Int
 | 0,_,out=>out
 | n+1,q,out=>if upG g q≤u.most then (if insL (upG g q) u.rough=none then flP u g n (upG g q+1) (out++ [upG g q]) else flP u g n (byd u.rough (upG g q)) out) else out
def flowsP (u:Ut) (g:Int):List Int:=flP u g (u.most+1 - u.least).toNat u.least []
theorem byd_gt {r:List Bnd} {q:Int} (hz:ZOK r) (h:insL q r≠none):q<byd r q:=by
 have h1:=byd_eq hz q
 have h2:q≤byd r q:=bydN_ge r _ q
 have h3:byd r q≠q:=fun e=>h (h1.1 e)
 omega
theorem bydN_le {r:List Bnd} (hz:ZOK r):∀(n:Nat) (q:Int),q≤1073741824→bydN r n q≤1073741824
 | 0,q,h=>h
 | n+1,q,h=>by
   unfold bydN
   cases e:insL q r with
   | none=>exact h
   | some x=>
     obtain ⟨_,z,hz1,rfl⟩:=insL_gt e
     exact bydN_le hz n _ (hz z hz1)
theorem call314 (τ:Nat) (u:Ut) (g:Int) (h:UOK u) (hg:1≤g∧g≤1073741824):PureCall Tryz.prog 314 [.agg (eUt τ u), .int .i64 g] [] ⟨.tup [.os 1000000000, .int .i64 0], [], [.row 0 3 1 (flowsP u g).length (fl eInt (flowsP u g))]⟩:=by
 have hz:=h.z
 have hlm:=h.lm
 have hsm:=h.sm
 have hr:=h.rl
 obtain ⟨R0,hR0⟩:∃R0,R0=flowsP u g:=⟨_,rfl⟩
 rw [←hR0]
 refine pure_call mix Tryz.func314 fits314 rfl ?_
 conv=>whnf
 refine ⟨_,fun _=>call217 _ u h, ?_⟩
 conv=>whnf
 refine ⟨by exact g0,fun h=>(by cases h),fun _=> ?_⟩
 conv=>whnf
 refine ⟨by exact g0,fun hc=> ?_,fun hc=> ?_⟩
 ·have hc:(bif decide (g<1) then true else decide (1073741824<g))=true:=hc
  simp only [bp] at hc
  omega
 conv=>whnf
 refine ⟨by exact g0, ?_⟩
 refine LSem.adopt 7 1000000 3 1 1 rfl rfl ?_
 refine LSem.loop (n:=52) mix (α:=Nat×Int×List Int) (fun x=>flP u g x.1 x.2.1 x.2.2=R0∧u.most+1 - x.2.1≤x.1∧(u.least≤x.2.1∧x.2.1≤1073741825)∧x.2.2.length≤x.2.1 - u.least∧x.2.2.length≤100)
  (fun x=> [(1, .int .i64 g),(2, .pt 32 0 0),(7, .os 1000000),(8, .int .i64 x.2.1)])
  (fun x=> [(32, .box (eUt τ u)),(1000000, .row 0 3 1 x.2.2.length (fl eInt x.2.2))]) (fun x=>x.1) ((u.most+1 - u.least).toNat,u.least, []) ⟨hR0.symm,by dsimp only;omega,by dsimp only;omega,by simp,by simp⟩ ?_ ?_
 ·refine ⟨rfl,rfl, ?_, ?_⟩<;>exact ent
 rintro ⟨n,q,out⟩ ⟨h1,h2,h3,h4,h5⟩
 dsimp only at h1 h2 h3 h4 h5
 have hq0:=upG_rng (g:=g) (x:=q) (by omega) (by omega)
 have hd0:Int.tdiv (q+g - 1) g=(q+g - 1) / g:=Int.tdiv_eq_ediv_of_nonneg (by omega)
 have hd2:(q+g - 1) / g*g=upG g q:=rfl
 conv=>whnf
 dsimp only
 rw [hd0,hd2]
 refine ⟨by exact g0,fun hc=> ?_,fun hc=> ?_⟩
 ·have hc:decide (u.most<upG g q)=true:=hc
  simp only [bp] at hc
  have e:flP u g n q out=out:=by
   cases n with
   | zero=>rfl
   | succ n=>rw [flP,if_neg (by omega)]
  rw [e] at h1
  rw [←h1]
  conv=>whnf
  refine ⟨by exact g0, [1000000], ?_⟩
  conv=>whnf
  refine ⟨rfl, ?_, ?_, ?_⟩<;>exact ent
 have hc:decide (u.most<upG g q)=false:=hc
 simp only [bp] at hc
 obtain ⟨n,rfl⟩:∃m,n=m+1:=⟨n - 1,by omega⟩
 rw [flP,if_pos (by omega)] at h1
 conv=>whnf
 refine ⟨_,fun _=>call280 _ u (upG g q) h, ?_⟩
 have hb:=byd_eq hz (upG g q)
 have hgt:=byd_gt (q:=upG g q) hz
 have hle:byd u.rough (upG g q)≤1073741824:=bydN_le hz _ _ (by omega)
 conv=>whnf
 refine ⟨by exact g0,fun hd=> ?_,fun hd=> ?_⟩
 ·have hd:(byd u.rough (upG g q) != upG g q)=true:=hd
  simp only [bp] at hd
  have hn:insL (upG g q) u.rough≠none:=fun e=>hd (hb.2 e)
  have:=hgt hn
  rw [if_neg hn] at h1
  conv=>whnf
  refine ⟨by exact g0,(n,byd u.rough (upG g q),out),⟨h1,by dsimp only;omega,by dsimp only;omega,by dsimp only;omega,h5⟩,by dsimp only;omega,rfl,rfl, ?_, ?_⟩<;>exact ent
 have hd:(byd u.rough (upG g q) != upG g q)=false:=hd
 simp only [bp] at hd
 rw [if_pos (hb.1 hd)] at h1
 conv=>whnf
 refine ⟨by exact g0,fun he=> ?_,fun he=> ?_⟩
 ·have he:((out.length:Int)==200)=true:=he
  simp only [bp] at he
  omega
 have qq:=fl_push eInt out (upG g q)
 have hxl:(out++ [upG g q]).length=out.length+1:=by simp
 conv=>whnf
 refine ⟨by exact g0,(n,upG g q+1,out++ [upG g q]),⟨h1,by dsimp only;omega,by dsimp only;omega,by dsimp only;rw [hxl];omega,by dsimp only;rw [hxl];omega⟩,by dsimp only;omega,rfl,rfl, ?_, ?_⟩<;>exact ent
theorem fl_push2 {α:Type} [Inhabited α] (e:α→List PV) (l:List α) (x y:α):RowEq (l.length+2) (appF l.length (fl e l) (fun i=> [e x,e y].getD i [])) (fl e (l++ [x,y])):=fun i hi=>by
 have:=fl_append e l [x,y] i (by simpa using hi)
 rw [←this]
 unfold appF
 split
 ·rfl
 ·obtain h | h:i - l.length=0∨i - l.length=1:=by omega
  ·rw [h];rfl
  ·rw [h];rfl
structure Ch where
 fl:Int
 pw:Int
 st:Int
 deriving Inhabited
def eCh (c:Ch):List PV:= [.int .i64 c.fl, .int .i64 c.pw, .int .i64 c.st]
def srtI (l:List Int):List Int:=l.mergeSort fun x y=>decide (x≤y)
theorem srtI_len (l:List Int):(srtI l).length=l.length:=List.length_mergeSort ..
def chC (u:Ut) (s:Us) (q:Int):Ch:=⟨q,(powU u q).1,if 0<q∧s.flow=0 then 1 else 0⟩
def chN (u:Ut) (s:Us) (L:List Int):Nat→List Ch
 | 0=> []
 | i+1=>if (fitsU u s&&mayU u s (L.getD i default))=true then chN u s L i++ [chC u s (L.getD i default)] else chN u s L i
def chL0 (u:Ut) (s:Us) (g:Int):List Int:=Lib.compact (srtI (flowsP u g++ [0,s.flow]))
def chL (u:Ut) (s:Us) (g:Int):List Ch:=chN u s (chL0 u s g) (chL0 u s g).length
theorem compact_le (l:List Int):(Lib.compact l).length≤l.length:=by
 unfold Lib.compact Lib.compactUpTo
 rw [List.length_map]
 exact Nat.le_trans (List.length_filter_le ..) (by simp)
theorem flP_le {u:Ut} {g:Int} (hz:ZOK u.rough) (hm:u.most≤1073741824) (hg:1≤g):∀(n:Nat) (q:Int) (out:List Int),u.least≤q→0≤q→u.most<u.least+100→(out.length:Int)≤q - u.least→out.length≤100→(flP u g n q out).length≤100
 | 0,q,out,_,_,_,_,h=>h
 | n+1,q,out,h0,h1,h2,h3,h4=>by
   have hq:=upG_rng (g:=g) (x:=q) hg h1
   unfold flP
   split
   ·split
    ·refine flP_le hz hm hg n _ _ (by omega) (by omega) h2 ?_ ?_<;>rw [List.length_append,List.length_singleton]<;>omega
    ·have:=byd_gt (q:=upG g q) hz (by assumption)
     exact flP_le hz hm hg n _ _ (by omega) (by omega) h2 (by omega) h4
   ·exact h4
theorem flowsP_le {u:Ut} {g:Int} (h:UOK u) (hg:1≤g):(flowsP u g).length≤100:=by
 have:=h.lm
 exact flP_le h.z this.2.2 hg _ _ _ (Int.le_refl _) (by omega) h.sm (by simp) (by simp)
theorem powU_rng {u:Ut} (h:UOK u) (q:Int):0≤(powU u q).1∧(powU u q).1≤10000:=by
 unfold powU
 split
 ·dsimp only;omega
 ·split
  ·exact valM_rng h.made q
  ·dsimp only;omega
theorem chN_le (u:Ut) (s:Us) (L:List Int):∀i,(chN u s L i).length≤i
 | 0=>Nat.le_refl _
 | i+1=>by
   have:=chN_le u s L i
   unfold chN
   split
   ·rw [List.length_append,List.length_singleton];omega
   ·omega
theorem chN_mem {u:Ut} {s:Us} {L:List Int} {c:Ch}:∀i,c∈chN u s L i→∃q,c=chC u s q∧fitsU u s=true∧mayU u s q=true
 | 0,h=>by cases h
 | i+1,h=>by
   unfold chN at h
   split at h
   ·rename_i hb
    rcases List.mem_append.1 h with h | h
    ·exact chN_mem i h
    ·simp at h hb
     exact ⟨_,h,hb.1,hb.2⟩
   ·exact chN_mem i h
theorem call278 (τ:Nat) (u:Ut) (s:Us) (g:Int) (h:UOK u) (hg:1≤g∧g≤1073741824):PureCall Tryz.prog 278 [.agg (eUt τ u), .agg (eUs s), .int .i64 g] [] ⟨.tup [.sl 0 3 (chL u s g).length (fl eCh (chL u s g)), .bool true], [], []⟩:=by
 have hfl:=flowsP_le (g:=g) h hg.1
 obtain ⟨R0,hR0⟩:∃R0,R0=chL u s g:=⟨_,rfl⟩
 rw [←hR0]
 have hR1:R0=chN u s (Lib.compact (srtI (flowsP u g++ [0,s.flow]))) (Lib.compact (srtI (flowsP u g++ [0,s.flow]))).length:=hR0
 refine pure_call mix Tryz.func278 fits278 rfl ?_
 conv=>whnf
 refine ⟨_,fun _=>call314 _ u g h hg, ?_⟩
 generalize flowsP u g=F at hfl hR1⊢
 conv=>whnf
 refine ⟨by exact g0,fun h=>(by cases h),fun _=> ?_⟩
 conv=>whnf
 have hxl:F.length+2=(F++ [0,s.flow]).length:=by rw [List.length_append];rfl
 have hq:=fl_push2 eInt F 0 s.flow
 rw [hxl] at hq
 refine ⟨by exact g0,LSem.inplace (sort_inplace (F++ [0,s.flow]) (by omega)) (by omega) (fun _=>List.length_mergeSort ..) rfl (congrArg (fun n=>some (SE.row 0 3 1 n (appF F.length (fl eInt F) fun i=> [[PV.int .i64 0], [PV.int .i64 s.flow]].getD i []))) hxl) hq rfl rfl ?_⟩
 have hsl:=srtI_len (F++ [0,s.flow])
 have hS:List.mergeSort (F++ [0,s.flow]) (fun x y=>decide (x≤y))=srtI (F++ [0,s.flow]):=rfl
 rw [hS]
 generalize srtI (F++ [0,s.flow])=S at hR1 hsl⊢
 conv=>whnf
 refine ⟨trivial,LSem.inplace (compact_inplace S (by omega)) (by omega) (fun h=>by cases h) rfl rfl (fun _ _=>rfl) rfl rfl ?_⟩
 have hcl:=compact_le S
 generalize Lib.compact S=L at hR1 hcl⊢
 conv=>whnf
 refine ⟨trivial, ?_⟩
 refine LSem.adopt 10 1000000 365 3 3 rfl rfl ?_
 refine LSem.loop (n:=64) mix (α:=Nat) (fun i=>i≤L.length)
  (fun i=> [(3, .pt 48 0 0),(4, .pt 64 0 0),(10, .os 1000000),(30, .sl 0 1 L.length (fl eInt L)),(31, .int .i64 L.length),(32, .int .i64 i)])
  (fun i=> [(48, .box (eUt τ u)),(64, .box (eUs s)),(1000000, .row 0 365 3 (chN u s L i).length (fl eCh (chN u s L i)))]) (fun i=>L.length - i) 0 (Nat.zero_le _) ?_ ?_
 ·refine ⟨rfl,rfl, ?_, ?_⟩<;>exact ent
 intro i hi
 have hj:((i:Int)).toNat=i:=by omega
 have hcn:=chN_le u s L i
 conv=>whnf
 refine ⟨trivial,fun hc=> ?_,fun hc=> ?_⟩
 ·replace hc:=of_decide_eq_true hc
  have hlt:i<L.length:=by
   have h:(i:Int)<L.length:=hc
   omega
  have hs:chN u s L (i+1)=if (fitsU u s&&mayU u s (L.getD i default))=true then chN u s L i++ [chC u s (L.getD i default)] else chN u s L i:=rfl
  generalize chN u s L i=A at hs hcn⊢
  conv=>whnf
  rw [hj]
  generalize L.getD i default=q at hs⊢
  refine ⟨_,fun _=>call316 _ u s q h, ?_⟩
  generalize (fitsU u s&&mayU u s q)=b at hs⊢
  conv=>whnf
  refine ⟨by exact g0,fun hd=> ?_,fun hd=> ?_⟩
  ·have hd:(!b)=true:=hd
   rw [if_neg (by simpa using hd)] at hs
   conv=>whnf
   refine ⟨by exact g0,i+1,hlt,by omega,rfl,rfl, ?_, ?_⟩
   ·exact ent
   ·rw [hs];exact ent
  ·have hd:(!b)=false:=hd
   rw [if_pos (by simpa using hd)] at hs
   conv=>whnf
   refine ⟨_,fun _=>call183 _ u q h, ?_⟩
   have hcc:chC u s q=⟨q,(powU u q).1,if 0<q∧s.flow=0 then 1 else 0⟩:=rfl
   rw [hcc] at hs
   generalize powU u q=pw at hs⊢
   conv=>whnf
   refine ⟨by exact g0,fun he=> ?_,fun he=> ?_⟩
   ·have he:(bif decide (0<q) then s.flow==0 else false)=true:=he
    simp only [bp] at he
    rw [if_pos (by omega)] at hs
    have qq:=fl_push eCh A ⟨q,pw.1,1⟩
    have hxl:(A++ [(⟨q,pw.1,1⟩:Ch)]).length=A.length+1:=by simp
    conv=>whnf
    refine ⟨by exact g0,i+1,hlt,by omega,rfl,rfl, ?_, ?_⟩
    ·exact ent
    ·rw [hs];exact ent
   ·have he:(bif decide (0<q) then s.flow==0 else false)=false:=he
    simp only [bp] at he
    rw [if_neg (by omega)] at hs
    have qq:=fl_push eCh A ⟨q,pw.1,0⟩
    have hxl:(A++ [(⟨q,pw.1,0⟩:Ch)]).length=A.length+1:=by simp
    conv=>whnf
    refine ⟨by exact g0,i+1,hlt,by omega,rfl,rfl, ?_, ?_⟩
    ·exact ent
    ·rw [hs];exact ent
 ·replace hc:=of_decide_eq_false hc
  have hk:i=L.length:=by
   have h:¬(i:Int)<L.length:=hc
   omega
  subst hk
  rw [←hR1] at*
  conv=>whnf
  exact ret
def c227L1:C:=(sr [kb 28 .lss 27 26] (.seq (.cond 28 .skip (.exit 0)) (.seq (.block 1 (sr [km 29 27,ki 30 6 25 27,kt 31 6 30,kk 11 (.al [(.nil 2),z0,z0,(.nil 2),z0,z0]),km 10 29,kx 6 11 31] (.seq (.drw [kt 32 6 11,km 33 1,km 34 10,ki 35 3 33 34,kt 36 3 35,kc 37 219 [32,36],kk 38 (.un false .not 37)] (pl [(0,[1,2,3,4],32),(1,[2],33)])) (.cond 38 (sr [kk 8 (.mv (.c (.nil 1))),kk 9 (.mv (cn 3))] .ret) .skip)))) (.reg [kb 39 .add 27 (cn 1),km 27 39]))))
def c227L2:C:=(sr [kb 60 .lss 59 58] (.seq (.cond 60 .skip (.exit 3)) (.seq (.block 4 (sr [km 61 59,ki 62 6 57 59,kt 63 6 62,kk 14 (.al [(.nil 2),z0,z0,(.nil 2),z0,z0]),km 13 61,kx 6 14 63] (.seq (.drw [kt 65 6 14,km 66 1,km 67 13,ki 68 3 66 67,kt 69 3 68,km 70 2,kc 71 278 [65,69,70],km 64 71,ke 72 64 0,ke 73 64 1,km 15 72,km 16 73] (pl [(0,[1,2,3,4,5],65),(1,[2,5],66),(2,[5],67),(3,[5],68),(4,[5],69),(8,[9],72),(9,[10],73)])) (.seq (sr [km 74 16,kk 75 (.un false .not 74)] (.cond 75 (sr [kk 8 (.mv (.c (.nil 1))),kk 9 (.mv (cn 10))] .ret) .skip)) (.reg [km 76 12,km 77 15,kk 78 (.bs 363 1 [77]),kk 79 (.app 363 1 24 76 78),km 12 79]))))) (.reg [kb 80 .add 59 (cn 1),km 59 80]))))
def c227:C:=(sr [kk 8 (.mv (.c (.nil 1))),kk 9 (.mv (cn 0))] (.seq (sr [km 17 0,kk 18 (.len 17),kb 19 .gtr 18 (cn 6)] (.cond 19 (sr [kk 8 (.mv (.c (.nil 1))),kk 9 (.mv (cn 10))] .ret) .skip)) (.seq (sr [km 20 0,kk 21 (.len 20),km 22 1,kk 23 (.len 22),kb 24 .neq 21 23] (.cond 24 (sr [kk 8 (.mv (.c (.nil 1))),kk 9 (.mv (cn 3))] .ret) .skip)) (.seq (sr [km 25 0,kk 26 (.len 25),kk 27 (.mv (cn 0))] (.block 0 (.loop c227L1))) (.seq (.block 2 (sr [km 41 2,kb 42 .lss 41 (cn 1),km 43 42,kg 44 43 false (.mv 2),kg 45 43 false (.bi false .gtr 44 (cn 1073741824)),kk 46 (.pick 43 ct 45),km 47 46,kg 48 47 false (.mv 3),kg 49 47 false (cl 56 [48,(cn 1073741824)]),kg 50 47 false (.un false .not 49),kk 51 (.pick 47 ct 50),km 40 51] (.cond 40 (sr [kk 8 (.mv (.c (.nil 1))),kk 9 (.mv (cn 1))] .ret) (sr [km 53 3,km 54 2,kb 55 .mul (cn 200) 54,kb 56 .gtr 53 55,km 52 56] (.cond 52 (sr [kk 8 (.mv (.c (.nil 1))),kk 9 (.mv (cn 10))] .ret) .skip))))) (sr [kk 12 (.mv (.c (.nil 1)))] (.seq (sr [km 57 0,kk 58 (.len 57),kk 59 (.mv (cn 0))] (.block 3 (.loop c227L2))) (sr [km 81 12,km 8 81,kk 9 (.mv (cn 0))] .ret))))))))
theorem fits227:fits Tryz.prog false Tryz.f227 4 82 [(8,none),(9,none)]=some c227.er:=by kernel_rfl
def c279L1:C:=(sr [kb 12 .lss 11 10] (.seq (.cond 12 .skip (.exit 0)) (.seq (.block 1 (sr [km 13 11,ki 14 1 9 11,kl 15 14,km 5 13,km 6 15] (.seq (sr [km 16 5,km 17 1,kk 18 (.len 17),kb 19 .geq 16 18] (.cond 19 (sr [kk 4 (.mv (cn 1))] .ret) .skip)) (sr [km 20 1,km 21 5,ki 22 1 20 21,kl 23 22,km 7 23] (sr [km 24 6,km 25 7,kc 26 165 [24,25],km 8 26] (sr [km 27 8,kb 28 .neq 27 (cn 0)] (.cond 28 (sr [km 29 8,km 4 29] .ret) .skip))))))) (.reg [kb 30 .add 11 (cn 1),km 11 30]))))
def c279:C:=(sr [kk 4 (.mv (cn 0))] (.seq (sr [km 9 0,kk 10 (.len 9),kk 11 (.mv (cn 0))] (.block 0 (.loop c279L1))) (.seq (sr [km 31 0,kk 32 (.len 31),km 33 1,kk 34 (.len 33),kb 35 .lss 32 34] (.cond 35 (sr [kk 4 (.mv (cn (-1)))] .ret) .skip)) (sr [kk 4 (.mv (cn 0))] .ret))))
theorem fits279:fits Tryz.prog false Tryz.f279 2 36 [(4,none)]=some c279.er:=by kernel_rfl
def c229:C:=(sr [kk 4 (.bx 2 0),kk 5 (.bx 2 1),kk 8 (.mv cf)] (.seq (.block 0 (sr [kk 10 (.iaa 2 1 4 (cn 0)),kl 11 10,kk 12 (.iaa 2 1 5 (cn 0)),kl 13 12,kb 14 .neq 11 13,km 9 14] (.cond 9 (sr [kk 15 (.iaa 2 1 4 (cn 0)),kl 16 15,kk 17 (.iaa 2 1 5 (cn 0)),kl 18 17,kb 19 .gtr 16 18,km 8 19] .ret) (sr [kk 21 (.iaa 2 1 4 (cn 1)),kl 22 21,kk 23 (.iaa 2 1 5 (cn 1)),kl 24 23,kb 25 .neq 22 24,km 20 25] (.cond 20 (sr [kk 26 (.iaa 2 1 4 (cn 1)),kl 27 26,kk 28 (.iaa 2 1 5 (cn 1)),kl 29 28,kb 30 .lss 27 29,km 8 30] .ret) .skip))))) (sr [km 31 2,km 32 3,kc 33 279 [31,32],kb 34 .lss 33 (cn 0),km 8 34] .ret)))
theorem fits229:fits Tryz.prog false Tryz.f229 4 35 [(8,none)]=some c229.er:=by kernel_rfl
def eChs (l:List Ch):List PV:= [.sl 0 3 l.length (fl eCh l)]
structure UsOK (us:List Ut) (ss:List Us):Prop where
 le:us.length≤6
 len:us.length=ss.length
 ok:∀i,i<us.length→UOK (us.getD i default)
 fit:∀i,i<us.length→fitsU (us.getD i default) (ss.getD i default)=true
def stN (us:List Ut) (ss:List Us) (g:Int):Nat→List (List Ch)
 | 0=> []
 | i+1=>stN us ss g i++ [chL (us.getD i default) (ss.getD i default) g]
theorem stN_len (us:List Ut) (ss:List Us) (g:Int):∀i,(stN us ss g i).length=i
 | 0=>rfl
 | i+1=>by rw [stN,List.length_append,stN_len us ss g i];rfl
theorem stN_get (us:List Ut) (ss:List Us) (g:Int):∀n i,i<n→(stN us ss g n).getD i default=chL (us.getD i default) (ss.getD i default) g
 | n+1,i,h=>by
   rw [stN,getD_push,stN_len]
   split
   ·exact stN_get us ss g n i (by assumption)
   ·rw [if_pos (by omega),show i=n by omega]
theorem call227 (τ τ':Nat) (us:List Ut) (ss:List Us) (g rel:Int) (h:UsOK us ss) (hg:1≤g∧g≤1073741824) (hr:0≤rel∧rel≤1073741824∧rel≤200*g):
  PureCall Tryz.prog 227 [.sl τ 6 us.length (fl (eUt 0) us), .sl τ' 3 ss.length (fl eUs ss), .int .i64 g, .int .i64 rel] [] ⟨.tup [.sl 0 1 us.length (fl eChs (stN us ss g us.length)), .int .i64 0], [], []⟩:=by
 have hle:=h.le
 have hl:=h.len
 have hsl:=stN_len us ss g
 refine pure_call mix Tryz.func227 fits227 rfl ?_
 conv=>whnf
 have e3:decide ((6:Int)<us.length)=false:=decide_eq_false (by omega)
 refine ⟨by exact g0,fun hc=>absurd hc (by rw [e3];decide),fun _=> ?_⟩
 conv=>whnf
 refine ⟨by exact g0,fun hc=> ?_,fun _=> ?_⟩
 ·have hc:((us.length:Int) != ss.length)=true:=hc
  simp only [bp] at hc
  omega
 conv=>whnf
 refine ⟨by exact g0, ?_⟩
 refine LSem.loop (n:=82) mix (α:=Nat) (fun i=>i≤us.length)
  (fun i=> [(0, .sl τ 6 us.length (fl (eUt 0) us)),(1, .sl τ' 3 ss.length (fl eUs ss)),(2, .int .i64 g),(3, .int .i64 rel),(25, .sl τ 6 us.length (fl (eUt 0) us)),(26, .int .i64 us.length),(27, .int .i64 i)])
  (fun i=> []) (fun i=>us.length - i) 0 (Nat.zero_le _) ?_ ?_
 ·refine ⟨rfl,rfl, ?_, ?_⟩<;>exact ent
 intro i hi
 have hj:((i:Int)).toNat=i:=by omega
 conv=>whnf
 refine ⟨trivial,fun hc=> ?_,fun hc=> ?_⟩
 ·replace hc:=of_decide_eq_true hc
  have hlt:i<us.length:=by
   have h:(i:Int)<us.length:=hc
   omega
  have hlt2:i<ss.length:=by omega
  have hu:=h.ok i hlt
  have hf:=h.fit i hlt
  conv=>whnf
  rw [hj]
  refine ⟨_,fun _=>call219 _ (us.getD i default) (ss.getD i default) hu, ?_⟩
  rw [hf]
  conv=>whnf
  refine ⟨rfl, ?_⟩
  conv=>whnf
  refine ⟨by exact g0,fun h=>(by cases h),fun _=> ?_⟩
  conv=>whnf
  refine ⟨by exact g0,i+1,hlt,by omega,rfl,rfl, ?_, ?_⟩<;>exact ent
 conv=>whnf
 refine ⟨_,fun _=>G02.call56 rel 1073741824, ?_⟩
 rw [decide_eq_true (show 0≤rel∧rel≤1073741824 by omega)]
 conv=>whnf
 refine ⟨by exact g0,fun hd=> ?_,fun _=> ?_⟩
 ·exfalso
  have e1:decide (g<1)=false:=decide_eq_false (by omega)
  have e2:decide (1073741824<g)=false:=decide_eq_false (by omega)
  rw [e1,e2] at hd
  exact absurd hd (by decide)
 conv=>whnf
 have e4:decide (200*g<rel)=false:=decide_eq_false (by omega)
 refine ⟨by exact g0,fun hc=>absurd hc (by rw [e4];decide),fun _=> ?_⟩
 conv=>whnf
 refine ⟨by exact g0, ?_⟩
 refine LSem.adopt 12 1000000 363 1 1 rfl rfl ?_
 refine LSem.loop (n:=82) mix (α:=Nat) (fun i=>i≤us.length)
  (fun i=> [(1, .sl τ' 3 ss.length (fl eUs ss)),(2, .int .i64 g),(12, .os 1000000),(57, .sl τ 6 us.length (fl (eUt 0) us)),(58, .int .i64 us.length),(59, .int .i64 i)])
  (fun i=> [(1000000, .row 0 363 1 i (fl eChs (stN us ss g i)))]) (fun i=>us.length - i) 0 (Nat.zero_le _) ?_ ?_
 ·refine ⟨rfl,rfl, ?_, ?_⟩<;>exact ent
 intro i hi
 have hj:((i:Int)).toNat=i:=by omega
 conv=>whnf
 refine ⟨trivial,fun hc=> ?_,fun hc=> ?_⟩
 ·replace hc:=of_decide_eq_true hc
  have hlt:i<us.length:=by
   have h:(i:Int)<us.length:=hc
   omega
  have hlt2:i<ss.length:=by omega
  have hu:=h.ok i hlt
  have hs:stN us ss g (i+1)=stN us ss g i++ [chL (us.getD i default) (ss.getD i default) g]:=rfl
  have hli:=hsl i
  generalize stN us ss g i=A at hs hli⊢
  conv=>whnf
  rw [hj]
  refine ⟨_,fun _=>call278 _ (us.getD i default) (ss.getD i default) g hu hg, ?_⟩
  generalize chL (us.getD i default) (ss.getD i default) g=C at hs⊢
  conv=>whnf
  refine ⟨rfl, ?_⟩
  conv=>whnf
  refine ⟨by exact g0,fun h=>(by cases h),fun _=> ?_⟩
  have q:=fl_push eChs A C
  rw [hli] at q
  conv=>whnf
  refine ⟨by exact g0,i+1,hlt,by omega,rfl,rfl, ?_, ?_⟩
  ·exact ent
  ·rw [hs];exact ent
 ·replace hc:=of_decide_eq_false hc
  have hk:i=us.length:=by
   have h:¬(i:Int)<us.length:=hc
   omega
  subst hk
  generalize stN us ss g us.length=A
  conv=>whnf
  exact ret
theorem call279:PureCall Tryz.prog 279 [.nil 1, .nil 1] [] ⟨.int .i64 0, [], []⟩:=by
 refine pure_call mix Tryz.func279 fits279 rfl ?_
 conv=>whnf
 refine ⟨by exact g0, ?_⟩
 refine LSem.loop (n:=36) mix (α:=Unit) (fun _=>True) (fun _=> [(0, .nil 1),(1, .nil 1),(9, .nil 1),(10, .int .i64 0),(11, .int .i64 0)]) (fun _=> []) (fun _=>0) () trivial ?_ ?_
 ·refine ⟨rfl,rfl, ?_, ?_⟩<;>exact ent
 intro _ _
 conv=>whnf
 refine ⟨trivial,fun hc=>(by cases hc),fun _=> ?_⟩
 conv=>whnf
 refine ⟨by exact g0,fun hc=>(by cases hc),fun _=> ?_⟩
 conv=>whnf
 exact ret
def betF (a b:Int×Int):Bool:=if a.1≠b.1 then decide (b.1<a.1) else if a.2≠b.2 then decide (a.2<b.2) else false
def eII (a:Int×Int):List PV:= [.int .i64 a.1, .int .i64 a.2]
theorem call229 (a b:Int×Int):PureCall Tryz.prog 229 [.agg (eII a), .agg (eII b), .nil 1, .nil 1] [] ⟨.bool (betF a b), [], []⟩:=by
 obtain ⟨r,hr⟩:∃r,betF a b=r:=⟨_,rfl⟩
 rw [hr]
 refine pure_call mix Tryz.func229 fits229 rfl ?_
 conv=>whnf
 refine ⟨by exact g0,fun hc=> ?_,fun hc=> ?_⟩
 ·have hc:(a.1 != b.1)=true:=hc
  simp only [bp] at hc
  have e:betF a b=decide (b.1<a.1):=by unfold betF;rw [if_pos hc]
  rw [←hr,e]
  conv=>whnf
  exact ret
 have hc:(a.1 != b.1)=false:=hc
 simp only [bp] at hc
 conv=>whnf
 refine ⟨by exact g0,fun hd=> ?_,fun hd=> ?_⟩
 ·have hd:(a.2 != b.2)=true:=hd
  simp only [bp] at hd
  have e:betF a b=decide (a.2<b.2):=by unfold betF;rw [if_neg (by omega),if_pos hd]
  rw [←hr,e]
  conv=>whnf
  exact ret
 have hd:(a.2 != b.2)=false:=hd
 simp only [bp] at hd
 have e:betF a b=false:=by unfold betF;rw [if_neg (by omega),if_neg (by omega)]
 rw [←hr,e]
 conv=>whnf
 refine ⟨_,fun _=>call279, ?_⟩
 conv=>whnf
 exact ret
section
variable {P:Program} {X:Cx} {γ:Gh} {w w0:World} {st:Nat→Option SE}
theorem Rep.plainA {X X':Cx} {γ γ':Gh} {w w':World} {cs:List PV} {v:Value} (hp:∀c∈cs,c.plain=true) (h:Rep X γ w (.agg cs) v):Rep X' γ' w' (.agg cs) v:=by
 cases h with
 | agg _ vs hl hc h=>exact .agg cs vs hl hc fun k c u hk hu=>(h k c u hk hu).plain (hp c (List.mem_of_getElem? hk))
theorem box_norm {rs:List Nat} {cin cout:List (List PV)} (hst:RepSt X γ w st) (hX:∀b,X.as b∨X.ls b→b<w.heap.size) (hlo:X.lo≤w.heap.size) (hnd:rs.Nodup) (hl1:cin.length=rs.length) (hl2:cout.length=rs.length)
  (hbx:∀r∈rs,∃l,st r=some (.box l))
  (hin:∀(X':Cx) (γc:Gh),Lent X X' γ γc w→(∀(k r:Nat),rs[k]? =some r→γc k=γ r)→∀(k r:Nat) (l:List PV) (ge:GE),rs[k]? =some r→cin[k]? =some l→γ r=some ge→RepS X' γc w ge (.box l))
  {st':Nat→Option SE} (h1:∀(k r:Nat) (l:List PV),rs[k]? =some r→cout[k]? =some l→st' r=some (.box (PV.renL (fun j=>(rs[j]?).getD 0) l))) (h2:∀r,r∉rs→st' r=st r):
  ∃(γc:Gh) (aas' ls':Nat→Prop),RepSt ⟨w.heap.size,aas',ls',rs.length,γc, []⟩ γc w (fun r=>(cin.map SE.box)[r]?)∧(∀b,aas' b∨ls' b→b<w.heap.size)∧
   Lent X ⟨w.heap.size,aas',ls',rs.length,γc, []⟩ γ γc w∧(∀(k r:Nat),rs[k]? =some r→γc k=γ r)∧
   ∀(cs:List PV) (e:Ending) (w':World),(∀c∈cs,c.plain=true)→
    (∃v γ',e= .returned v∧Rep ⟨w.heap.size,aas',ls',rs.length,γc, []⟩ γ' w' (.agg cs) v∧RepSt ⟨w.heap.size,aas',ls',rs.length,γc, []⟩ γ' w' (fun r=>(cout.map SE.box)[r]?)∧
     Keeps γc.own w w'∧(∀r,r<rs.length→γ' r=γc r))→∃v,e= .returned v∧EffOK X γ w st ⟨.agg cs, [], [], [], [], []⟩ v w' γ st':=by
 let γc:Gh:=fun k=>(rs[k]?).bind γ
 let aas':Nat→Prop:=fun b=>b<w.heap.size∧mayLie X γ 1 b
 let ls':Nat→Prop:=fun b=>b<w.heap.size∧∃τ,mayLie X γ τ b
 let X':Cx:=⟨w.heap.size,aas',ls',rs.length,γc, []⟩
 have hγc:∀k r,rs[k]? =some r→γc k=γ r:=fun k r hk=>by
  show (rs[k]?).bind γ=_
  rw [hk];rfl
 have hγc':∀k ge,γc k=some ge→∃r,rs[k]? =some r∧γ r=some ge:=fun k ge hk=>by
  have hk:(rs[k]?).bind γ=some ge:=hk
  cases hr:rs[k]? with
  | none=>rw [hr] at hk;cases hk
  | some r=>rw [hr] at hk;exact ⟨r,rfl,hk⟩
 have hcown:∀b,γc.own b→γ.own b:=fun b ⟨k,ge,hk,hb⟩=>by
  obtain ⟨r,_,hr⟩:=hγc' k ge hk
  exact ⟨r,ge,hr,hb⟩
 have hL:Lent X X' γ γc w:=⟨fun b hb hm=>⟨fun ho=>hm.1 (hcown b ho), .inr (.inl ⟨Nat.le_refl _,hb,hm⟩)⟩,
  fun τ b hb hm=>⟨fun ho=>hm.1 (hcown b ho), .inr (.inr ⟨Nat.le_refl _,hb,τ,hm⟩)⟩⟩
 have hget:∀k r,rs[k]? =some r→∃ge,γ r=some ge:=fun k r hk=>by
  obtain ⟨l,hl⟩:=hbx r (List.mem_of_getElem? hk)
  exact hst.get hl
 have hstc:RepSt X' γc w (fun r=>(cin.map SE.box)[r]?):=by
  refine ⟨fun r=> ?_,fun r ge e hgr her=> ?_,fun r r' ge ge' b hgr hgr' hb hb'=> ?_,fun b hb=>⟨fun ha=>ha.2.1 (hcown b hb),fun ha=> ?_⟩,fun b hb=>hst.lt b (hcown b hb),fun b p hb=>⟨(hst.glob b p hb).1,fun ho=>(hst.glob b p hb).2.1 (hcown b ho), ?_⟩⟩
  ·by_cases hlt:r<rs.length
   ·have hr:rs[r]? =some rs[r]:=List.getElem?_eq_getElem hlt
    obtain ⟨ge,hge⟩:=hget r _ hr
    rw [hγc r _ hr,hge]
    simp [hl1,hlt]
   ·show ((rs[r]?).bind γ).isSome=_
    rw [List.getElem?_eq_none (by omega)]
    simp [hl1,hlt]
  ·obtain ⟨r0,hr0,hge⟩:=hγc' r ge hgr
   simp only [List.getElem?_map] at her
   obtain ⟨l,hl,rfl⟩:=Option.map_eq_some_iff.1 her
   exact hin X' γc hL hγc r r0 l ge hr0 hl hge
  ·obtain ⟨r0,hr0,hge⟩:=hγc' r ge hgr
   obtain ⟨r1,hr1,hge1⟩:=hγc' r' ge' hgr'
   have:=hst.inj r0 r1 ge ge' b hge hge1 hb hb'
   subst this
   exact (List.getElem?_inj (List.getElem?_eq_some_iff.1 hr0).1 hnd).1 (hr0.trans hr1.symm)
  ·obtain ⟨τ,hm⟩:=ha.2
   exact hm.1 (hcown b hb)
  ·obtain ⟨⟨o,h1,_⟩,h3,h4⟩:=hst.glob b p hb
   exact ⟨(Array.getElem?_eq_some_iff.1 h1).1,h3, .inr (.inl ⟨Nat.le_refl _,h4⟩)⟩
 refine ⟨γc,aas',ls',hstc,fun b hb=>hb.elim (fun h=>h.1) (fun h=>h.1),hL,hγc, ?_⟩
 rintro cs e w' hpl ⟨v,γ',he,hval,hst',hk,hpar⟩
 have hγ'n:∀r,rs.length≤r→γ' r=none:=fun r hr=>by
  have:=hst'.dom r
  simp [hl2,hr] at this
  exact this
 have hγ'c:∀r,γ' r=γc r:=fun r=>by
  rcases Nat.lt_or_ge r rs.length with h | h
  ·exact hpar r h
  ·rw [hγ'n r h]
   show none=(rs[r]?).bind γ
   rw [List.getElem?_eq_none h];rfl
 have hback:∀r ge,γ' r=some ge→γ ((rs[r]?).getD 0)=some ge:=fun r ge hr=>by
  rw [hγ'c] at hr
  obtain ⟨r0,h3,h4⟩:=hγc' r ge hr
  rw [h3];exact h4
 have hown':∀b,γ'.own b→γc.own b:=fun b ⟨r,ge,hr,hb⟩=>⟨r,ge,by rw [←hγ'c];exact hr,hb⟩
 have hlie:∀τ b,(true=true∨τ≤1)→b<w'.heap.size→mayLie X' γ' τ b→mayLie X γ τ b:=fun τ b _ hbl hm=>by
  obtain ⟨hm1,hm2⟩:=hm
  rcases hm2 with (hm2 | ⟨r0,ge0,h1,_,h1b⟩) | ⟨ht,hb1,hm2⟩ | ⟨ht,hb1,τ',hm2⟩
  ·exact ⟨fun ho=>absurd (hst.lt b ho) (Nat.not_lt.2 hm2), .inl (.inl (Nat.le_trans hlo hm2))⟩
  ·obtain ⟨r1,hr1,hg1⟩:=hγc' r0 ge0 h1
   obtain ⟨l,hl⟩:=hbx r1 (List.mem_of_getElem? hr1)
   obtain ⟨_,⟨_,m2⟩,_⟩:=hst.at_ r1 ge0 _ hg1 hl
   rw [m2] at h1b;cases h1b
  ·exact hm2.mono ht
  ·refine ⟨hm2.1, ?_⟩
   rcases hm2.2 with h | ⟨h1,h2⟩ | ⟨h1,h2⟩
   ·exact .inl h
   ·exact .inr (.inl ⟨by omega,h2⟩)
   ·exact .inr (.inr ⟨ht,h2⟩)
 have hmono:∀p u,Rep X γ w p u→Rep X γ w' p u:=fun p u h=>h.monoG (fun r ge hr=>⟨ge,hr,rfl,rfl,fun _=>rfl⟩) (fun b hb=> .inl hb) hk.size (fun b hb hlt=>hk.block b hlt (fun ho=>hb (hcown b ho)))
 refine ⟨v,he,⟨hval.plainA hpl,fun p u h=>by rw [void_nil];exact hmono p u h,⟨fun r=> ?_,fun r ge e hgr her=> ?_,hst.inj,hst.asOff,fun b hb=>Nat.lt_of_lt_of_le (hst.lt b hb) hk.size,glob_keep hst.glob (fun b hlt ho=>hk.block b hlt (fun h=>ho (hcown b h))) (fun b hb=> .inl hb)⟩,hk.mono (fun b _ h=>hcown b h),fun r ge b hr hb=> .inr ⟨ge,hr,hb⟩,fun r l hr=>⟨rfl, ?_⟩,fun r T t s hr=> ?_,fun r e' hre hf=>⟨?_,by simp⟩⟩⟩
 ·by_cases hr:r∈rs
  ·obtain ⟨k,hk2⟩:=List.getElem?_of_mem hr
   have hlt:k<cout.length:=by rw [hl2];exact (List.getElem?_eq_some_iff.1 hk2).1
   rw [h1 k r _ hk2 (List.getElem?_eq_getElem hlt)]
   obtain ⟨ge,hge⟩:=hget k r hk2
   rw [hge];rfl
  ·rw [h2 r hr];exact hst.dom r
 ·by_cases hr:r∈rs
  ·obtain ⟨k,hk2⟩:=List.getElem?_of_mem hr
   have hlt:k<cout.length:=by rw [hl2];exact (List.getElem?_eq_some_iff.1 hk2).1
   have hc:=List.getElem?_eq_getElem hlt
   rw [h1 k r _ hk2 hc] at her
   injection her with her
   subst her
   have hg':γ' k=some ge:=by rw [hγ'c,hγc k r hk2];exact hgr
   exact (hst'.at_ k ge (.box cout[k]) hg' (by simp [hlt])).back (nr:=true) hback hlie (.inl rfl)
  ·rw [h2 r hr] at her
   refine (hst.at_ r ge e hgr her).mono hmono fun b hb=>hk.block b (hst.lt b ⟨r,ge,hgr,hb⟩) (fun ho=> ?_)
   obtain ⟨k,ge1,hk1,hb1⟩:=ho
   obtain ⟨r1,hr1,hge1⟩:=hγc' k ge1 hk1
   have:=hst.inj r r1 ge ge1 b hgr hge1 hb hb1
   subst this
   exact hr (List.mem_of_getElem? hr1)
 ·by_cases hr2:r∈rs
  ·obtain ⟨k,hk2⟩:=List.getElem?_of_mem hr2
   have hlt:k<cout.length:=by rw [hl2];exact (List.getElem?_eq_some_iff.1 hk2).1
   exact ⟨_,h1 k r _ hk2 (List.getElem?_eq_getElem hlt)⟩
  ·exact ⟨l,by rw [h2 r hr2];exact hr⟩
 ·have hr2:r∉rs:=fun hm=>by
    obtain ⟨l,hl⟩:=hbx r hm
    rw [hr] at hl;cases hl
  obtain ⟨ge,hge⟩:=hst.get hr
  exact ⟨ge,ge,hge,hge,rfl,rfl,T,t,s,by rw [h2 r hr2];exact hr⟩
 ·by_cases hr2:r∈rs
  ·obtain ⟨k,hk2⟩:=List.getElem?_of_mem hr2
   have hlt:k<cout.length:=by rw [hl2];exact (List.getElem?_eq_some_iff.1 hk2).1
   rw [h1 k r _ hk2 (List.getElem?_eq_getElem hlt)] at hre
   injection hre with hre
   subst hre;cases hf
  ·exact ⟨e',by rw [←h2 r hr2];exact hre,hf⟩
theorem call_wp2 {may:Nat→Prop} {a:Act} {s:PS} {wr:Bool} {o:Oper} {F:FuncId} {y:A} {ys:List A} {caps ps:List PV} {K:Act→World→Prop} {Q:Exit→Act→World→Prop} {R:Value→World→Prop}
  (hR:Rel X w0 may a w s γ) (hc:compI P wr o=some (.call y ys)) (hy0:A.val s.fr y=some (.fn (.func F) [] caps)) (hv:valL s.fr ys=some ps)
  (hfn:∃fn,P.funcs[F]? =some fn∧fn.body.isSome=true∧(fn.name== "runtime.NumGoroutine")=false)
  (hC:∀vs us,RepL X γ w ps vs→RepL X γ w caps us→Calls P F (vs++us).toArray w fun e w'=>∃u,e= .returned u∧R u w') (hK:∀u w',R u w'→K (a.put o.dst u) w'):o.wp P a w K Q:=by
 have H:=eval_opd hR
 have hcall:∃cl f y' ys',o.op= .call cl∧cl.callee= .value f∧arg f=some y'∧mapO (fun (q:Operand×TypeId)=>argT P q.2 q.1) (cl.args.toList.zip cl.argTypes.toList)=some ys'∧cl.args.size=cl.argTypes.size∧y'=y∧ys'=ys:=by
  revert hc
  unfold compI
  intro hc
  repeat' (split at hc)
  all_goals first
   | (cases hc;done)
   | (injection hc with hc;injection hc;done)
   | (obtain ⟨y,hy,hh⟩:=Option.map_eq_some_iff.1 hc;cases hh;done)
   | (injection hc with hc;injection hc with e1 e2
      rename_i _ cl hop _ f hcal _ _ y' ys hy hys hsz
      exact ⟨_,_,_,_,hop,hcal,hy,hys,by simpa using hsz,e1,e2⟩)
 obtain ⟨cl,f,y',ys',hop,hcal,hy,hys,hsz,rfl,rfl⟩:=hcall
 have hz:(cl.args.toList.zip cl.argTypes.toList).map (fun q=>a.eval q.1)=(cl.args.map a.eval).toList:=by
  have hl:cl.args.toList.length=cl.argTypes.toList.length:=by simpa using hsz
  have h1:(cl.args.toList.zip cl.argTypes.toList).map (fun q=>q.1)=cl.args.toList:=List.map_fst_zip (by omega)
  rw [show (fun q:Operand×TypeId=>a.eval q.1)=a.eval∘(fun q=>q.1) from rfl,←List.map_map,h1]
  simp
 have hr1:Rep X γ w (.fn (.func F) [] caps) (a.eval f):=arg_rep H hy hy0
 have hr2:RepL X γ w ps (cl.args.map a.eval).toList:=by
  have:=argsT_rep (P:=P) (α:=Operand×TypeId) H (fun q=>q.2) (fun q=>q.1) (xs:=cl.args.toList.zip cl.argTypes.toList) (ys:=ys') (ps:=ps) hys hv
  rwa [hz] at this
 obtain ⟨fn,hfn1,hbody,hname⟩:=hfn
 have hfe:∀fv,Rep X γ w (.fn (.func F) [] caps) fv→∃us:List Value,fv= .func (.func F) #[] us.toArray∧RepL X γ w caps us:=by
  intro fv h
  cases h with
  | fn _ _ _ vs us hvl hul h h'=>
    have e1:vs= []:=List.eq_nil_of_length_eq_zero hvl
    subst e1
    exact ⟨us,rfl,hul,h'⟩
 obtain ⟨us,hfe,hus⟩:=hfe _ hr1
 have hrun:(execOp a.eval o).run P w= .ok (.enter F (cl.args.map a.eval++us.toArray)) w:=by
  unfold execOp
  rw [hop]
  have hb:fn.body≠none:=by intro h;rw [h] at hbody;cases hbody
  have hnm:fn.name≠ "runtime.NumGoroutine":=by simpa using hname
  simp [resolve,hcal,hfe,Deferred.ofValue,invoke,callFunc,hfn1,hb,hnm]
 unfold Oper.wp
 rw [hrun]
 simp only [Oper.upon]
 have e:cl.args.map a.eval++us.toArray=((cl.args.map a.eval).toList++us).toArray:=by simp
 rw [e]
 refine (hC _ us hr2 hus).mono ?_
 rintro e w' ⟨u,rfl,hu⟩
 exact hK u w' hu
theorem pre_sound {may:Nat→Prop} {ops:Array Oper} {Q:Exit→Act→World→Prop} {wr:Bool} {cr:Nat→CallRes} {tail:List Nat}:∀{l:List (Nat×Ins)} {a:Act} {w:World} {s s':PS} {γ:Gh},(∀p∈l,∃o,ops[p.1]? =some o∧compO P wr ops o=some p.2)→
  Rel X w0 may a w s γ→evL (PureCall P) false cr l s=some s'→s'.ok→(∀a' w' γ',Rel X w0 may a' w' s' γ'→wpOps P ops Q tail a' w')→wpOps P ops Q (l.map (·.1)++tail) a w
 | [],a,w,s,s',γ,hl,hR,h,hok,hK=>by
   simp only [evL,Option.some.injEq] at h;subst h
   exact hK _ _ _ hR
 | (i,x)::r,a,w,s,s',γ,hl,hR,h,hok,hK=>by
   simp only [evL] at h
   split at h
   ·rename_i s1 h1
    obtain ⟨o,ho,hx⟩:=hl (i,x) (by simp)
    rw [List.map_cons,List.cons_append,wpOps_cons]
    exact stepX_sound ho hR hx h1 (evL_ok h hok) fun a' w' γ' hR'=>pre_sound (fun p hp=>hl p (by simp [hp])) hR' h hok hK
   ·cases h
def slfC (F:FuncId) (ks vks:List KK) (n:Nat) (L:Nat→List PV) (r0 r1 r2 r3:Nat) (h:List PC→Bool) (f:List PC→List PC):List (List PV):=
 [[.sl 1 1 n L], [.rf none r3], [.fn (.func F) [] [.pt r0 0 0, .pt r1 0 0, .pt r2 0 0]], [.mpv ks vks true true h f]]
def SlfCall (P:Program) (F:FuncId) (ks vks:List KK) (n:Nat) (L:Nat→List PV) (i left:Int) (h:List PC→Bool) (f:List PC→List PC) (cs:List PV) (h':List PC→Bool) (f':List PC→List PC):Prop:=
 PureCall P F [.int .i64 i, .int .i64 left, .pt 0 0 0, .pt 1 0 0, .pt 2 0 0] ((slfC F ks vks n L 0 1 2 3 h f).map SE.box) ⟨.agg cs,(slfC F ks vks n L 0 1 2 3 h' f').map SE.box, []⟩
theorem repL_one {X':Cx} {γ':Gh} {w':World} {p q:PV} (h:∀v,Rep X γ w p v→Rep X' γ' w' q v) {us:List Value} (hr:RepL X γ w [p] us):RepL X' γ' w' [q] us:=by
 obtain ⟨v,us',rfl,hv,hus⟩:=hr.cons_inv
 cases hus.nil_inv
 exact RepL.cons_ (h v hv) RepL.nil_
theorem pt_move {X':Cx} {γ':Gh} {w':World} {r r':Nat} (h:∀ge,γ r=some ge→γ' r'=some ge) {v:Value} (hr:Rep X γ w (.pt r 0 0) v):Rep X' γ' w' (.pt r' 0 0) v:=by
 cases hr with
 | pt _ _ _ ge b hg hb=>exact .pt r' 0 0 ge b (h ge hg) hb
theorem slf_calls {F:FuncId} {ks vks:List KK} {n:Nat} {L:Nat→List PV} {i left:Int} {h h':List PC→Bool} {f f':List PC→List PC} {cs:List PV} {r0 r1 r2 r3:Nat}
  (hst:RepSt X γ w st) (hX:∀b,X.as b∨X.ls b→b<w.heap.size) (hlo:X.lo≤w.heap.size) (hnd: [r0,r1,r2,r3].Nodup)
  (h0:st r0=some (.box [.sl 1 1 n L])) (h1:st r1=some (.box [.rf none r3])) (h2:st r2=some (.box [.fn (.func F) [] [.pt r0 0 0, .pt r1 0 0, .pt r2 0 0]])) (h3:st r3=some (.box [.mpv ks vks true true h f]))
  (hc:SlfCall P F ks vks n L i left h f cs h' f') (hpl:∀c∈cs,c.plain=true) {vs us:List Value} (hvs:RepL X γ w [.int .i64 i, .int .i64 left] vs) (hus:RepL X γ w [.pt r0 0 0, .pt r1 0 0, .pt r2 0 0] us):
  Calls P F (vs++us).toArray w fun e w'=>∃v,e= .returned v∧EffOK X γ w st ⟨.agg cs, [], [], [], [], []⟩ v w' γ (upd st r3 (.box [.mpv ks vks true true h' f'])):=by
 have hne:r0≠r3∧r1≠r3∧r2≠r3:=by simp at hnd;omega
 have hrs:∀k r,([r0,r1,r2,r3]:List Nat)[k]? =some r→(k=0∧r=r0)∨(k=1∧r=r1)∨(k=2∧r=r2)∨(k=3∧r=r3):=fun k r hk=>by
  match k,hk with
  | 0,hk=>cases hk;exact .inl ⟨rfl,rfl⟩
  | 1,hk=>cases hk;exact .inr (.inl ⟨rfl,rfl⟩)
  | 2,hk=>cases hk;exact .inr (.inr (.inl ⟨rfl,rfl⟩))
  | 3,hk=>cases hk;exact .inr (.inr (.inr ⟨rfl,rfl⟩))
  | k+4,hk=>cases hk
 obtain ⟨γc,aas',ls',k1,k2,hL,k4,k5⟩:=box_norm (rs:= [r0,r1,r2,r3]) (cin:=slfC F ks vks n L 0 1 2 3 h f) (cout:=slfC F ks vks n L 0 1 2 3 h' f') (st':=upd st r3 (.box [.mpv ks vks true true h' f'])) hst hX hlo hnd rfl rfl
  (fun r hr=>by
   simp at hr
   rcases hr with rfl | rfl | rfl | rfl
   ·exact ⟨_,h0⟩
   ·exact ⟨_,h1⟩
   ·exact ⟨_,h2⟩
   ·exact ⟨_,h3⟩)
  (fun X' γc hL hγ k r l ge hk hl hg=>by
   have g0:∀ge,γ r0=some ge→γc 0=some ge:=fun ge h=>(hγ 0 r0 rfl).trans h
   have g1:∀ge,γ r1=some ge→γc 1=some ge:=fun ge h=>(hγ 1 r1 rfl).trans h
   have g2:∀ge,γ r2=some ge→γc 2=some ge:=fun ge h=>(hγ 2 r2 rfl).trans h
   have g3:∀ge,γ r3=some ge→γc 3=some ge:=fun ge h=>(hγ 3 r3 rfl).trans h
   rcases hrs k r hk with ⟨rfl,rfl⟩ | ⟨rfl,rfl⟩ | ⟨rfl,rfl⟩ | ⟨rfl,rfl⟩
   ·cases hl
    obtain ⟨b,m1,m2⟩:=hst.at_ r ge _ hg h0
    exact ⟨b,m1,m2.map_ rfl (fun us hr=>repL_one (fun v hv=>(lendCell_sound hv hL rfl).1) hr) (fun _ _ _ _ _ _ e=>by cases e)⟩
   ·cases hl
    obtain ⟨b,m1,m2⟩:=hst.at_ r ge _ hg h1
    refine ⟨b,m1,m2.map_ rfl (fun us hr=>repL_one (fun v hv=> ?_) hr) (fun _ _ _ _ _ _ e=>by cases e)⟩
    cases hv with
    | rf _ ge' b' hg' hb'=>exact .rf 3 ge' b' (g3 ge' hg') hb'
   ·cases hl
    obtain ⟨b,m1,m2⟩:=hst.at_ r ge _ hg h2
    refine ⟨b,m1,m2.map_ rfl (fun us hr=>repL_one (fun v hv=> ?_) hr) (fun _ _ _ _ _ _ e=>by cases e)⟩
    cases hv with
    | fn _ _ _ vs us hvl hul hh hh'=>
      refine .fn (.func F) [] _ vs us hvl hul (fun k c u hk=>by cases hk) (fun k c u hk hu=> ?_)
      match k,hk with
      | 0,hk=>cases hk;exact pt_move g0 (hh' 0 _ u rfl hu)
      | 1,hk=>cases hk;exact pt_move g1 (hh' 1 _ u rfl hu)
      | 2,hk=>cases hk;exact pt_move g2 (hh' 2 _ u rfl hu)
   ·cases hl
    obtain ⟨b,m1,m2⟩:=hst.at_ r ge _ hg h3
    refine ⟨b,m1,m2.map_ rfl (fun us hr=>repL_one (fun v hv=> ?_) hr) (fun _ _ _ _ _ _ e=>e)⟩
    cases hv)
  (fun k r l hk hl=>by
   rcases hrs k r hk with ⟨rfl,rfl⟩ | ⟨rfl,rfl⟩ | ⟨rfl,rfl⟩ | ⟨rfl,rfl⟩
   ·cases hl;rw [upd_ne _ _ hne.1,h0];rfl
   ·cases hl;rw [upd_ne _ _ hne.2.1,h1];rfl
   ·cases hl;rw [upd_ne _ _ hne.2.2,h2];rfl
   ·cases hl;rw [upd_same];rfl)
  (fun r hr=>upd_ne _ _ (fun e=>hr (by simp [e])))
 have hnx:nbx ((slfC F ks vks n L 0 1 2 3 h f).map SE.box)=4:=rfl
 obtain ⟨hfn,hcall⟩:=hc
 rw [hnx] at hcall
 refine (hcall w γc aas' ls' (vs++us) k1 k2 ?_).mono ?_
 ·obtain ⟨v0,vs0,rfl,a0,hvs0⟩:=hvs.cons_inv
  obtain ⟨v1,vs1,rfl,a1,hvs1⟩:=hvs0.cons_inv
  cases hvs1.nil_inv
  obtain ⟨u0,us0,rfl,b0,hus0⟩:=hus.cons_inv
  obtain ⟨u1,us1,rfl,b1,hus1⟩:=hus0.cons_inv
  obtain ⟨u2,us2,rfl,b2,hus2⟩:=hus1.cons_inv
  cases hus2.nil_inv
  exact RepL.cons_ (a0.plain rfl) (RepL.cons_ (a1.plain rfl) (RepL.cons_ (pt_move (fun ge hg=>(k4 0 r0 rfl).trans hg) b0) (RepL.cons_ (pt_move (fun ge hg=>(k4 1 r1 rfl).trans hg) b1) (RepL.cons_ (pt_move (fun ge hg=>(k4 2 r2 rfl).trans hg) b2) RepL.nil_))))
 ·rintro e w' ⟨v,γ',he,hv,hst',hk,hpar,_⟩
  refine k5 cs e w' hpl ⟨v,γ',he,hv, ?_,hk,fun r hr=> ?_⟩
  ·have e:resSt ⟨.agg cs,(slfC F ks vks n L 0 1 2 3 h' f').map SE.box, []⟩=fun r=>((slfC F ks vks n L 0 1 2 3 h' f').map SE.box)[r]? :=by
     funext r
     unfold resSt
     split
     ·rename_i hr
      have:newBase=1000000000:=rfl
      rw [List.getElem?_nil,List.getElem?_eq_none (by simp [slfC];omega)]
     ·rfl
   rw [←e];exact hst'
  ·have hr:r<4:=hr
   have:=hpar r hr
   obtain rfl | rfl | rfl | rfl:r=0∨r=1∨r=2∨r=3:=by omega
   all_goals exact this
end
section
variable {P:Program} {wr:Bool} {np:Nat} {Q:Lv→PS→Prop}
def SlfAt (P:Program) (k d fs t1 t2:Nat) (rest:List Ins) (K:PS→Prop) (s1:PS):Prop:=
 s1.ok∧∃(F:FuncId) (ks vks:List KK) (n:Nat) (L:Nat→List PV) (i left:Int) (h h':List PC→Bool) (f f':List PC→List PC) (cs:List PV) (r0 r1 r2 r3:Nat),
  s1.fr fs=some (.fn (.func F) [] [.pt r0 0 0, .pt r1 0 0, .pt r2 0 0])∧s1.fr t1=some (.int .i64 i)∧s1.fr t2=some (.int .i64 left)∧ [r0,r1,r2,r3].Nodup∧
  s1.st r0=some (.box [.sl 1 1 n L])∧s1.st r1=some (.box [.rf none r3])∧s1.st r2=some (.box [.fn (.func F) [] [.pt r0 0 0, .pt r1 0 0, .pt r2 0 0]])∧s1.st r3=some (.box [.mpv ks vks true true h f])∧
  Nat.blt d s1.n=true∧(∀c∈cs,c.plain=true)∧SlfCall P F ks vks n L i left h f cs h' f'∧
  evK (PureCall P) false (k+1) rest ⟨s1.n,upd s1.fr d (.agg cs),upd s1.st r3 (.box [.mpv ks vks true true h' f']),True,s1.log⟩ K
theorem LSem.slf {l:List Ins} {s:PS} (k d id fs t1 t2:Nat) (hk:l[k]? =some ⟨some d,id,none, .call (.t fs) [.t t1, .t t2]⟩)
  (hpre:evK (PureCall P) false 0 (l.take k) s (SlfAt P k d fs t1 t2 (l.drop (k+1)) (fun s'=>Q .nrm s'))):LSem P wr np (.reg l) Q s:=by
 intro hQ code hc X w0 may a w γ hX hR
 have hcode:∃id ops,code= .region id ops false∧mapO (compO P wr ops) ops.toList=some l:=by
  cases code with
  | region id ops dr=>
    cases dr with
    | false=>
      simp only [comp,C.er] at hc
      split at hc
      ·rename_i hm
       simp only [Option.some.injEq,C.reg.injEq] at hc
       subst hc
       exact ⟨id,ops,rfl,hm⟩
      ·cases hc
    | true=>simp only [comp,C.er] at hc;(repeat' (split at hc))<;>cases hc
  | _=>simp only [comp,C.er] at hc<;>(repeat' (split at hc))<;>simp_all
 obtain ⟨rid,ops,rfl,hm⟩:=hcode
 obtain ⟨cr,s1,hev,hok1,F,ks,vks,n,L,i,left,h,h',f,f',cs,r0,r1,r2,r3,e1,e2,e3,hnd,b0,b1,b2,b3,hd,hpl,hC,hrest⟩:=evK_evL hpre
 obtain ⟨cr2,s3,hev2,hQ3⟩:=evK_evL hrest
 have hok3:=hQ _ _ hQ3
 refine wp_region ?_
 have hkl:k<l.length:=(List.getElem?_eq_some_iff.1 hk).1
 have hlen:ops.size=l.length:=by have:=mapO_length hm;simp at this;omega
 have hget:∀j o,ops[j]? =some o→∃x,l[j]? =some x∧compO P wr ops o=some x:=fun j o hj=>comp_ins hm j o hj
 have hrange:List.range ops.size=(num 0 (l.take k)).map (·.1)++(k::(num (k+1) (l.drop (k+1))).map (·.1)):=by
  rw [num_fst,num_fst,hlen,List.range_eq_range',List.length_take,List.length_drop,Nat.min_eq_left (Nat.le_of_lt hkl)]
  have:l.length=k+(1+(l.length - (k+1))):=by omega
  rw [show List.range' 0 l.length=List.range' 0 (k+(1+(l.length - (k+1)))) by rw [←this],←List.range'_append_1,Nat.add_comm 1,List.range'_succ,Nat.zero_add]
 rw [hrange]
 refine pre_sound (wr:=wr) (fun p hp=> ?_) hR hev hok1 fun a1 w1 γ1 hR1=> ?_
 ·obtain ⟨hg0,hg⟩:=num_get (l.take k) 0 p hp
  have hlt:=(List.getElem?_eq_some_iff.1 hg).1
  rw [List.length_take] at hlt
  have ho:ops[p.1]? =some (ops[p.1]'(by omega)):=Array.getElem?_eq_getElem (by omega)
  obtain ⟨x,hx,hco⟩:=hget _ _ ho
  rw [Nat.sub_zero,List.getElem?_take,if_pos (by omega),hx] at hg
  injection hg with hg;subst hg
  exact ⟨_,ho,hco⟩
 ·have ho:ops[k]? =some (ops[k]'(by omega)):=Array.getElem?_eq_getElem (by omega)
  obtain ⟨x,hx,hco⟩:=hget _ _ ho
  rw [hk] at hx
  injection hx with hx;subst hx
  obtain ⟨hg1,hi1,hd1⟩:=compO_parts hco
  rw [wpOps_cons]
  unfold wpOp
  rw [ho]
  simp only
  rw [guard_none hg1 rfl,if_pos rfl]
  refine .inl ?_
  have hlo:X.lo≤w1.heap.size:=by rw [hR1.lo];exact hR1.keeps.size
  refine call_wp2 (ps:= [.int .i64 i, .int .i64 left]) (R:=fun v w'=>EffOK X γ1 w1 s1.st ⟨.agg cs, [], [], [], [], []⟩ v w' γ1 (upd s1.st r3 (.box [.mpv ks vks true true h' f']))) hR1 hi1 (by simp only [A.val];exact e1) (by simp only [valL,A.val,e2,e3]) hC.1 (fun vs us hvs hus=> ?_) (fun v w' hE=> ?_)
  ·refine (slf_calls hR1.st hR1.hX hlo hnd b0 b1 b2 b3 hC hpl hvs hus).mono ?_
   rintro e w' ⟨v,he,hE⟩
   exact ⟨v,he,hE⟩
  ·have hdst:(ops[k]'(by omega)).dst=some d:=hd1.symm
   rw [hdst]
   have hR2:Rel X w0 may (a1.put (some d) v) w' ⟨s1.n,upd s1.fr d (.agg cs),upd s1.st r3 (.box [.mpv ks vks true true h' f']),True,s1.log⟩ γ1:=
    ents_put (E:=⟨.agg cs, [], [], [], [], []⟩) hR1 hE (fun r hr=>by cases hr) rfl (by simpa [Nat.blt_eq] using hd) (by simp [voidF_nil])
   exact reg_sound (l:=num (k+1) (l.drop (k+1))) (fun p hp=>by
    obtain ⟨hg0,hg⟩:=num_get (l.drop (k+1)) (k+1) p hp
    have hlt:=(List.getElem?_eq_some_iff.1 hg).1
    rw [List.length_drop] at hlt
    have ho:ops[p.1]? =some (ops[p.1]'(by omega)):=Array.getElem?_eq_getElem (by omega)
    obtain ⟨x,hx,hco⟩:=hget _ _ ho
    rw [List.getElem?_drop,show k+1+(p.1 - (k+1))=p.1 by omega,hx] at hg
    injection hg with hg;subst hg
    exact ⟨_,ho,hco⟩) hR2 hev2 hok3 (fun a' w' γ' hR'=>⟨_,_,_,rfl,hQ3,hR'⟩)
end
def c228L1:C:=(sr [kb 36 .lss 35 34] (.seq (.cond 36 .skip (.exit 0)) (.seq (.block 1 (sr [ki 37 3 33 35,kt 38 3 37,kk 12 (.al [z0,z0,z0]),kx 3 12 38] (.seq (sr [kf 39 0 12,kl 40 39,km 41 1,kb 42 .gtr 40 41] (.cond 42 (.exit 0) .skip)) (.seq (.cut (.reg [kl 43 4,km 44 0,kb 45 .add 44 (cn 1),km 46 1,kf 47 0 12,kl 48 47,kb 49 .sub 46 48,kk 50 (.call 43 [45,49]),kk 13 (.al [(.bool false),z0,z0,z0]),kx 4 13 50])) (sr [kf 51 1 13,kk 52 (.iaa 2 1 51 (cn 0)),kl 53 52,kf 54 1 12,kl 55 54,kb 56 .add 53 55,kf 57 1 13,kk 58 (.iaa 2 1 57 (cn 1)),kl 59 58,kf 60 2 12,kl 61 60,kb 62 .add 59 61,kk 63 (.bd [z0,z0] [(0,1,56),(1,1,62)]),kk 14 (.al [z0,z0]),kx 2 14 63] (sr [kf 64 0 13,kl 65 64,km 66 65,kg 67 66 true (.fa 0 10),kg 68 66 true (.ld 1 false 67),kg 69 66 true (.un false .not 68),kg 70 66 true (.mv 69),kg 71 70 false (.ld 2 true 14),kg 72 70 false (.fa 1 10),kg 73 70 false (.ld 2 true 72),kg 74 70 false (cl 229 [71,73,(.c (.nil 1)),(.c (.nil 1))]),kg 75 66 true (.pick 70 ct 74),kk 76 (.pick 66 75 cf)] (.cond 76 (.reg [kt 77 2 14,kf 78 0 12,kl 79 78,kk 80 (.bd [(.bool false),z0,z0,z0] [(0,1,ct),(1,2,77),(3,1,79)]),kx 4 10 80]) .skip))))))) (.reg [kb 81 .add 35 (cn 1),km 35 81]))))
def c228:C:=(sr [kk 7 (.al [(.bool false),z0,z0,z0])] (.seq (sr [km 15 0,kl 16 2,kk 17 (.len 16),kb 18 .eql 15 17] (.cond 18 (sr [kk 19 (.bd [(.bool false),z0,z0,z0] [(0,1,ct)]),kx 4 7 19] .ret) .skip)) (.seq (sr [kl 21 3,km 22 0,km 23 1,kk 24 (.bd [z0,z0] [(0,1,22),(1,1,23)]),kk 25 (.mpg [(.i .i64),(.i .i64)] [.b,(.i .i64),(.i .i64),(.i .i64)] true true true 21 24),km 20 25,ke 26 20 0,ke 27 20 1,kk 8 (.al [(.bool false),z0,z0,z0]),kx 4 8 26,km 9 27] (sr [km 28 9] (.cond 28 (sr [kt 29 4 8,kx 4 7 29] .ret) .skip))) (sr [kk 10 (.al [(.bool false),z0,z0,z0])] (.seq (sr [kl 30 2,km 31 0,ki 32 1 30 31,kl 33 32,kk 34 (.len 33),kk 35 (.mv (cn 0))] (.block 0 (.loop c228L1))) (sr [kl 82 3,km 83 0,km 84 1,kk 85 (.bd [z0,z0] [(0,1,83),(1,1,84)]),kt 86 4 10,kz (.mpu [(.i .i64),(.i .i64)] [.b,(.i .i64),(.i .i64),(.i .i64)] true true 82 85 86)] (sr [kt 87 4 10,kx 4 7 87] .ret)))))))
theorem fits228:fits Tryz.prog false Tryz.f228 5 88 [(7,some (4,true))]=some c228.er:=by kernel_rfl
structure Pa where
 ok:Bool
 pw:Int
 st:Int
 fl:Int
 deriving Inhabited
def ePa (p:Pa):List PV:= [.bool p.ok, .int .i64 p.pw, .int .i64 p.st, .int .i64 p.fl]
def mPa (p:Pa):List PC:= [.b p.ok, .i p.pw, .i p.st, .i p.fl]
def rPa (l:List PC):Pa:=⟨boolP (l.headD default),intP (l.tail.headD default),intP (l.tail.tail.headD default),intP (l.tail.tail.tail.headD default)⟩
abbrev Mm:=(List PC→Bool)×(List PC→List PC)
def bKS:List KK:= [.i .i64, .i .i64]
def bVS:List KK:= [.b, .i .i64, .i .i64, .i .i64]
def insM (M:Mm) (kc vc:List PC):Mm:=(fun c=>eqK c kc || M.1 c,fun c=>bif eqK c kc then vc else M.2 c)
def stepP (rest:Pa) (c:Ch) (out:Pa):Pa:=if rest.ok=true∧(out.ok=false∨betF (rest.pw+c.pw,rest.st+c.st) (out.pw,out.st)=true) then ⟨true,rest.pw+c.pw,rest.st+c.st,c.fl⟩ else out
def lM (rec_:Int→Mm→Pa×Mm) (left:Int):List Ch→Pa→Mm→Pa×Mm
 | [],out,M=>(out,M)
 | c::r,out,M=>if left<c.fl then (out,M) else lM rec_ left r (stepP (rec_ (left - c.fl) M).1 c out) (rec_ (left - c.fl) M).2
def keyM (i:Nat) (left:Int):List PC:= [.i (i:Int), .i left]
def bM (l:List (List Ch)):Nat→Int→Mm→Pa×Mm
 | 0,_,M=>(⟨true,0,0,0⟩,M)
 | m+1,left,M=>if M.1 (keyM (l.length - (m+1)) left)=true then (rPa (M.2 (keyM (l.length - (m+1)) left)),M) else
  ((lM (bM l m) left (l.getD (l.length - (m+1)) default) ⟨false,0,0,0⟩ M).1,
    insM (lM (bM l m) left (l.getD (l.length - (m+1)) default) ⟨false,0,0,0⟩ M).2 (keyM (l.length - (m+1)) left) (mPa (lM (bM l m) left (l.getD (l.length - (m+1)) default) ⟨false,0,0,0⟩ M).1))
structure PaOK (l:List (List Ch)) (m:Nat) (left:Int) (p:Pa):Prop where
 pw:0≤p.pw∧p.pw≤10000*m
 st:0≤p.st∧p.st≤m
 fl:0<m→p.ok=true→p.fl≤left∧∃c∈l.getD (l.length - m) default,c.fl=p.fl
def MOK (l:List (List Ch)) (M:Mm):Prop:=∀m left,0<m→m≤l.length→M.1 (keyM (l.length - m) left)=true→PaOK l m left (rPa (M.2 (keyM (l.length - m) left)))
def CsOK (l:List (List Ch)):Prop:=∀i,i<l.length→∀c∈l.getD i default,(0≤c.pw∧c.pw≤10000)∧(0≤c.st∧c.st≤1)∧0≤c.fl∧c.fl≤1073741824
theorem eqK_key {i j:Nat} {a b:Int} (h:eqK (keyM i a) (keyM j b)=true):i=j∧a=b:=by
 simp [eqK,eqC,keyM] at h
 exact ⟨by omega,h.2⟩
theorem rPa_mPa (p:Pa):rPa (mPa p)=p:=rfl
theorem insM_ok {l:List (List Ch)} {M:Mm} {m:Nat} {left:Int} {p:Pa} (hM:MOK l M) (h0:0<m) (hm:m≤l.length) (hp:PaOK l m left p):MOK l (insM M (keyM (l.length - m) left) (mPa p)):=by
 intro m' left' h0' hm' hh
 unfold insM at hh⊢
 dsimp only at hh⊢
 cases he:eqK (keyM (l.length - m') left') (keyM (l.length - m) left) with
 | true=>
   obtain ⟨e1,rfl⟩:=eqK_key he
   have:m'=m:=by omega
   subst this
   rw [cond_true,rPa_mPa]
   exact hp
 | false=>
   rw [he,Bool.false_or] at hh
   rw [cond_false]
   exact hM m' left' h0' hm' hh
theorem stepP_ok {l:List (List Ch)} {m:Nat} {left:Int} {rest out:Pa} {c:Ch} (hm:m+1≤l.length) (hr:PaOK l m (left - c.fl) rest) (ho:PaOK l (m+1) left out) (hc:c∈l.getD (l.length - (m+1)) default) (hb:(0≤c.pw∧c.pw≤10000)∧(0≤c.st∧c.st≤1)) (hle:c.fl≤left):PaOK l (m+1) left (stepP rest c out):=by
 unfold stepP
 split
 ·obtain ⟨h1,h2,_⟩:=hr
  exact ⟨by dsimp only;omega,by dsimp only;omega,fun _ _=>⟨hle,c,hc,rfl⟩⟩
 ·exact ho
theorem lM_ok {l:List (List Ch)} {m:Nat} {left:Int} (hm:m+1≤l.length) (ih:∀left M,MOK l M→PaOK l m left (bM l m left M).1∧MOK l (bM l m left M).2):∀(C:List Ch) (out:Pa) (M:Mm),(∀c∈C,c∈l.getD (l.length - (m+1)) default∧(0≤c.pw∧c.pw≤10000)∧(0≤c.st∧c.st≤1))→MOK l M→PaOK l (m+1) left out→
  PaOK l (m+1) left (lM (bM l m) left C out M).1∧MOK l (lM (bM l m) left C out M).2
 | [],out,M,_,hM,ho=>⟨ho,hM⟩
 | c::r,out,M,hC,hM,ho=>by
   unfold lM
   split
   ·exact ⟨ho,hM⟩
   ·obtain ⟨h1,h2⟩:=ih (left - c.fl) M hM
    have h3:=hC c (List.mem_cons_self ..)
    exact lM_ok hm ih r _ _ (fun x hx=>hC x (List.mem_cons_of_mem _ hx)) h2 (stepP_ok hm h1 ho h3.1 h3.2 (by omega))
theorem pa0_ok {l:List (List Ch)} {m:Nat} {left:Int}:PaOK l m left ⟨false,0,0,0⟩:=⟨by dsimp only;omega,by dsimp only;omega,fun _ h=>by cases h⟩
theorem bM_ok {l:List (List Ch)} (hc:CsOK l):∀(m:Nat),m≤l.length→∀left M,MOK l M→PaOK l m left (bM l m left M).1∧MOK l (bM l m left M).2
 | 0,_,left,M,hM=>⟨⟨by unfold bM;dsimp only;omega,by unfold bM;dsimp only;omega,fun h=>by omega⟩,hM⟩
 | m+1,hm,left,M,hM=>by
   unfold bM
   split
   ·rename_i h
    exact ⟨hM (m+1) left (by omega) hm h,hM⟩
   ·have h:=lM_ok hm (bM_ok hc m (by omega)) (l.getD (l.length - (m+1)) default) ⟨false,0,0,0⟩ M (left:=left) (fun c hx=>⟨hx,(hc _ (by omega) c hx).1,(hc _ (by omega) c hx).2.1⟩) hM pa0_ok
    exact ⟨h.1,insM_ok h.2 (by omega) hm h.1⟩
theorem ePa_plain (p:Pa):∀c∈ePa p,c.plain=true:=fun c hc=>by
 simp [ePa] at hc
 rcases hc with rfl | rfl | rfl | rfl<;>rfl
theorem call228 {l:List (List Ch)} (hc:CsOK l) (hl:l.length≤6) (hlen:∀i,i<l.length→(l.getD i default).length≤1000):∀(m:Nat) (i:Nat) (left:Int) (M:Mm),i+m=l.length→MOK l M→0≤left∧left≤1073741824→
  SlfCall Tryz.prog 228 bKS bVS l.length (fl eChs l) i left M.1 M.2 (ePa (bM l m left M).1) (bM l m left M).2.1 (bM l m left M).2.2
 | 0,i,left,M,him,hM,hle=>by
   refine pure_call mix Tryz.func228 fits228 rfl ?_
   conv=>whnf
   refine ⟨by exact g0,fun _=> ?_,fun hc=> ?_⟩
   ·conv=>whnf
    exact retB
   ·have hc:((i:Int)==l.length)=false:=hc
    simp only [bp] at hc
    omega
 | m+1,i,left,M,him,hM,hle=>by
   have hlt:i<l.length:=by omega
   have hi:l.length - (m+1)=i:=by omega
   obtain ⟨R,hR⟩:∃R,R=bM l (m+1) left M:=⟨_,rfl⟩
   rw [←hR]
   rw [bM,hi] at hR
   refine pure_call mix Tryz.func228 fits228 rfl ?_
   conv=>whnf
   refine ⟨by exact g0,fun hd=> ?_,fun _=> ?_⟩
   ·have hd:((i:Int)==l.length)=true:=hd
    simp only [bp] at hd
    omega
   conv=>whnf
   refine ⟨by exact g0,fun hd=> ?_,fun hd=> ?_⟩
   ·have hd:M.1 (keyM i left)=true:=hd
    rw [if_pos hd] at hR
    subst hR
    conv=>whnf
    exact retB
   have hd:M.1 (keyM i left)=false:=hd
   rw [if_neg (by rw [hd];decide)] at hR
   conv=>whnf
   refine ⟨by exact g0, ?_⟩
   have hci:=hc i hlt
   have hli:=hlen i hlt
   obtain ⟨C,hC⟩:∃C,C=l.getD i default:=⟨_,rfl⟩
   rw [←hC] at hR hci hli
   obtain ⟨Z,hZ⟩:∃Z,Z=lM (bM l m) left C ⟨false,0,0,0⟩ M:=⟨_,rfl⟩
   rw [←hZ] at hR
   refine LSem.loop (n:=88) mix (α:=Nat×Pa×Mm) (fun x=>x.1≤C.length∧lM (bM l m) left (C.drop x.1) x.2.1 x.2.2=Z∧MOK l x.2.2)
    (fun x=> [(0, .int .i64 i),(1, .int .i64 left),(2, .pt 0 0 0),(3, .pt 1 0 0),(4, .pt 2 0 0),(7, .pt 112 0 0),(10, .pt 160 0 0),(33, .sl 1 3 C.length (fl eCh C)),(34, .int .i64 C.length),(35, .int .i64 x.1)])
    (fun x=> [(0, .box [.sl 1 1 l.length (fl eChs l)]),(1, .box [.rf none 3]),(2, .box [.fn (.func 228) [] [.pt 0 0 0, .pt 1 0 0, .pt 2 0 0]]),(3, .box [.mpv bKS bVS true true x.2.2.1 x.2.2.2]),(112, .box [.bool false, .int .i64 0, .int .i64 0, .int .i64 0]),(160, .box (ePa x.2.1))])
    (fun x=>C.length - x.1) (0,⟨false,0,0,0⟩,M) ⟨Nat.zero_le _,hZ.symm,hM⟩ ?_ ?_
   ·subst hC
    refine ⟨rfl,rfl, ?_, ?_⟩<;>exact ent
   rintro ⟨j,out,M'⟩ ⟨h1,h2,h3⟩
   dsimp only at h1 h2 h3
   have hj:((j:Int)).toNat=j:=by omega
   conv=>whnf
   refine ⟨trivial,fun hd=> ?_,fun hd=> ?_⟩
   ·replace hd:=of_decide_eq_true hd
    have hjl:j<C.length:=by
     have h:(j:Int)<C.length:=hd
     omega
    have hdr:C.drop j=C.getD j default::C.drop (j+1):=by
     rw [List.drop_eq_getElem_cons hjl]
     congr 1
     simp [List.getD,hjl]
    have hcm:=hci (C.getD j default) (getD_mem hjl)
    rw [hdr] at h2
    unfold lM at h2
    conv=>whnf
    dsimp only
    rw [hj]
    generalize C.getD j default=c at h2 hcm⊢
    refine ⟨by exact g0,fun he=> ?_,fun he=> ?_⟩
    ·have he:decide (left<c.fl)=true:=he
     rw [if_pos (of_decide_eq_true he)] at h2
     subst h2 hR
     conv=>whnf
     exact retB
    ·have he:decide (left<c.fl)=false:=he
     simp only [bp] at he
     rw [if_neg (by omega)] at h2
     have IH:=call228 hc hl hlen m (i+1) (left - c.fl) M' (by omega) h3 (by omega)
     obtain ⟨o1,o2⟩:=bM_ok hc m (by omega) (left - c.fl) M' h3
     rw [show ((i+1:Nat):Int)=(i:Int)+1 from rfl] at IH
     generalize bM l m (left - c.fl) M'=T at IH o1 o2 h2
     have hpw:=o1.pw
     have hst:=o1.st
     conv=>whnf
     refine ⟨by exact g0,LSem.slf 7 50 800 43 45 49 rfl ?_⟩
     conv=>whnf
     refine ⟨by exact g0,228,bKS,bVS,l.length,fl eChs l,(i:Int)+1,left - c.fl,M'.1,T.2.1,M'.2,T.2.2,ePa T.1,0,1,2,3,rfl,rfl,rfl,by decide,rfl,rfl,rfl,rfl,rfl,ePa_plain _,IH, ?_⟩
     conv=>whnf
     refine ⟨_,fun _=>call229 (T.1.pw+c.pw,T.1.st+c.st) (out.pw,out.st), ?_⟩
     have hsp:stepP T.1 c out=if T.1.ok=true∧(out.ok=false∨betF (T.1.pw+c.pw,T.1.st+c.st) (out.pw,out.st)=true) then ⟨true,T.1.pw+c.pw,T.1.st+c.st,c.fl⟩ else out:=rfl
     generalize betF (T.1.pw+c.pw,T.1.st+c.st) (out.pw,out.st)=bt at hsp⊢
     conv=>whnf
     refine ⟨by exact g0,fun hf=> ?_,fun hf=> ?_⟩
     ·have hf:(bif T.1.ok then (bif !out.ok then true else bt) else false)=true:=hf
      have hcond:T.1.ok=true∧(out.ok=false∨bt=true):=by
       cases h1:T.1.ok<;>cases h2:out.ok<;>cases h3:bt<;>simp_all
      rw [if_pos hcond] at hsp
      rw [hsp] at h2
      conv=>whnf
      refine ⟨by exact g0,(j+1,⟨true,T.1.pw+c.pw,T.1.st+c.st,c.fl⟩,T.2),⟨hjl,h2,o2⟩,by dsimp only;omega,rfl,rfl, ?_, ?_⟩<;>exact ent
     ·have hf:(bif T.1.ok then (bif !out.ok then true else bt) else false)=false:=hf
      have hcond:¬(T.1.ok=true∧(out.ok=false∨bt=true)):=by
       cases h1:T.1.ok<;>cases h2:out.ok<;>cases h3:bt<;>simp_all
      rw [if_neg hcond] at hsp
      rw [hsp] at h2
      conv=>whnf
      refine ⟨by exact g0,(j+1,out,T.2),⟨hjl,h2,o2⟩,by dsimp only;omega,rfl,rfl, ?_, ?_⟩<;>exact ent
   ·replace hd:=of_decide_eq_false hd
    have hk:j=C.length:=by
     have h:¬(j:Int)<C.length:=hd
     omega
    subst hk
    rw [List.drop_length] at h2
    unfold lM at h2
    subst h2 hR
    conv=>whnf
    exact retB
def c181L1:C:=(.seq (sr [km 31 14,kk 32 (.len 31),kl 33 10,kk 34 (.len 33),kb 35 .lss 32 34] (.cond 35 .skip (.exit 0))) (.block 1 (.seq (.cut (.reg [kl 36 13,km 37 14,kk 38 (.len 37),km 39 15,kk 40 (.call 36 [38,39]),kk 16 (.al [(.bool false),z0,z0,z0]),kx 4 16 40])) (.seq (sr [kf 41 0 16,kl 42 41,kk 43 (.un false .not 42)] (.cond 43 (sr [kk 8 (.mv (.c (.nil 1))),kk 9 (.mv (cn 9))] .ret) .skip)) (sr [km 44 14,kf 45 3 16,kl 46 45,kk 47 (.bs 3 1 [46]),kk 48 (.app 3 1 8 44 47),km 14 48] (.reg [km 49 15,kf 50 3 16,kl 51 50,kb 52 .sub 49 51,km 15 52]))))))
def c181:C:=(sr [kk 8 (.mv (.c (.nil 1))),kk 9 (.mv (cn 0))] (sr [km 18 0,km 19 1,km 20 2,km 21 3,kc 22 227 [18,19,20,21],km 17 22,ke 23 17 0,ke 24 17 1,kk 10 (.al [(.nil 1)]),kx 1 10 23,km 11 24] (.seq (sr [km 25 11,kb 26 .neq 25 (cn 0)] (.cond 26 (sr [km 27 11,kk 8 (.mv (.c (.nil 1))),km 9 27] .ret) .skip)) (sr [kk 28 (.mkm [(.i .i64),(.i .i64)] [.b,(.i .i64),(.i .i64),(.i .i64)] true true),kk 12 (.al [(.raw (.map none))]),kx 1 12 28] (sr [kk 13 (.al [(.raw .nilFunc)])] (sr [kk 29 (.mf (.func 228) [] [10,12,13]),kx 1 13 29] (sr [kk 14 (.mv (.c (.nil 1)))] (.seq (sr [km 30 3,km 15 30] (.block 0 (.loop c181L1))) (sr [km 53 14,km 8 53,kk 9 (.mv (cn 0))] .ret)))))))))
theorem fits181:fits Tryz.prog false Tryz.f181 4 54 [(8,none),(9,none)]=some c181.er:=by kernel_rfl
theorem mayU_rng {u:Ut} {s:Us} {q:Int} (h:UOK u) (hm:mayU u s q=true):q=0∨(s.out=false∧u.least≤q∧q≤u.most∧runsU u q=true):=by
 by_cases h0:q=0
 ·exact .inl h0
 ·unfold mayU at hm
  rw [if_neg (by omega),if_neg h0] at hm
  split at hm
  ·cases hm
  ·rename_i hn
   obtain ⟨a,b,_⟩:=(runsU_iff h q).1 hm
   refine .inr ⟨?_,a,b,hm⟩
   cases ho:s.out with
   | false=>rfl
   | true=>exact absurd (.inl ho) hn
theorem chL_mem {u:Ut} {s:Us} {g:Int} {c:Ch} (h:UOK u) (hc:c∈chL u s g):((0≤c.pw∧c.pw≤10000)∧(0≤c.st∧c.st≤1)∧0≤c.fl∧c.fl≤1073741824)∧fitsU u s=true∧mayU u s c.fl=true:=by
 obtain ⟨q,rfl,h1,h2⟩:=chN_mem _ hc
 have hr:=mayU_rng h h2
 have hl:=h.lm
 have hp:=powU_rng h q
 unfold chC
 dsimp only
 refine ⟨⟨hp,by split<;>omega,by omega⟩,h1,h2⟩
theorem chL_le {u:Ut} {s:Us} {g:Int} (h:UOK u) (hg:1≤g):(chL u s g).length≤102:=by
 have h1:=chN_le u s (chL0 u s g) (chL0 u s g).length
 have h2:(chL0 u s g).length≤(srtI (flowsP u g++ [0,s.flow])).length:=compact_le _
 rw [srtI_len,List.length_append] at h2
 have h3:=flowsP_le (g:=g) h hg
 unfold chL
 simp only [List.length_cons,List.length_nil] at h2
 omega
theorem stN_ok {us:List Ut} {ss:List Us} {g:Int} (h:UsOK us ss):CsOK (stN us ss g us.length):=fun i hi c hc=>by
 rw [stN_len] at hi
 rw [stN_get _ _ _ _ _ hi] at hc
 exact (chL_mem (h.ok i hi) hc).1
def bG (l:List (List Ch)):Nat→Int→List Int→Mm→Option (List Int)
 | 0,_,out,_=>some out
 | m+1,left,out,M=>if (bM l (m+1) left M).1.ok=true then bG l m (left - (bM l (m+1) left M).1.fl) (out++ [(bM l (m+1) left M).1.fl]) (bM l (m+1) left M).2 else none
def M0:Mm:=(fun _=>false,fun _=>zeroKs bVS)
theorem M0_ok (l:List (List Ch)):MOK l M0:=fun m left _ _ h=>by cases h
def bestF (l:List (List Ch)) (rel:Int):List Int×Int:=match bG l l.length rel [] M0 with
 | none=>([],9)
 | some F=>(F,0)
structure PlOK (l:List (List Ch)) (rel:Int) (F:List Int):Prop where
 len:F.length=l.length
 mem:∀i,i<l.length→∃c∈l.getD i default,c.fl=F.getD i default
 sum:F.sum≤rel
theorem bG_ok {l:List (List Ch)} (hc:CsOK l) {rel:Int}:∀(m:Nat) (left:Int) (out:List Int) (M:Mm),m≤l.length→MOK l M→out.length=l.length - m→(∀i,i<out.length→∃c∈l.getD i default,c.fl=out.getD i default)→out.sum+left=rel→0≤left→
  ∀F,bG l m left out M=some F→PlOK l rel F
 | 0,left,out,M,hm,hM,h1,h2,h3,h4,F,hF=>by
   unfold bG at hF
   injection hF with hF
   subst hF
   exact ⟨by omega,fun i hi=>h2 i (by omega),by omega⟩
 | m+1,left,out,M,hm,hM,h1,h2,h3,h4,F,hF=>by
   unfold bG at hF
   split at hF
   ·rename_i hok
    obtain ⟨o1,o2⟩:=bM_ok hc (m+1) hm left M hM
    obtain ⟨f1,c,hcm,hcf⟩:=o1.fl (by omega) hok
    have hcb:=(hc _ (by omega) c hcm).2.2
    refine bG_ok hc m _ _ _ (by omega) o2 (by rw [List.length_append,List.length_singleton];omega) (fun i hi=> ?_) (by rw [List.sum_append,List.sum_singleton];omega) (by omega) F hF
    rw [List.length_append,List.length_singleton] at hi
    rw [getD_push]
    split
    ·exact h2 i (by assumption)
    ·rw [if_pos (by omega),show i=l.length - (m+1) by omega]
     exact ⟨c,hcm,hcf⟩
   ·cases hF
theorem bestF_ok {l:List (List Ch)} (hc:CsOK l) {rel:Int} (hr:0≤rel):(bestF l rel).2=0∧PlOK l rel (bestF l rel).1∨(bestF l rel).2=9:=by
 unfold bestF
 cases h:bG l l.length rel [] M0 with
 | none=>exact .inr rfl
 | some F=>exact .inl ⟨rfl,bG_ok hc l.length rel [] M0 (Nat.le_refl _) (M0_ok l) (by simp) (fun i hi=>by simp at hi) (by simp) hr F h⟩
theorem call181 (τ τ':Nat) (us:List Ut) (ss:List Us) (g rel:Int) (h:UsOK us ss) (hg:1≤g∧g≤1073741824) (hr:0≤rel∧rel≤1073741824∧rel≤200*g):
  PureCall Tryz.prog 181 [.sl τ 6 us.length (fl (eUt 0) us), .sl τ' 3 ss.length (fl eUs ss), .int .i64 g, .int .i64 rel] []
   ⟨.tup [.sl 0 1 (bestF (stN us ss g us.length) rel).1.length (fl eInt (bestF (stN us ss g us.length) rel).1), .int .i64 (bestF (stN us ss g us.length) rel).2], [], []⟩:=by
 have hle:=h.le
 have hcs:=stN_ok (g:=g) h
 have hln:=stN_len us ss g us.length
 have hlen:∀i,i<(stN us ss g us.length).length→((stN us ss g us.length).getD i default).length≤1000:=fun i hi=>by
  rw [hln] at hi
  rw [stN_get _ _ _ _ _ hi]
  have:=chL_le (s:=ss.getD i default) (g:=g) (h.ok i hi) hg.1
  omega
 have h227:=call227 τ τ' us ss g rel h hg hr
 obtain ⟨l,hl⟩:∃l,l=stN us ss g us.length:=⟨_,rfl⟩
 rw [←hl] at hcs hln hlen h227⊢
 obtain ⟨R,hR⟩:∃R,R=bestF l rel:=⟨_,rfl⟩
 rw [←hR]
 refine pure_call mix Tryz.func181 fits181 rfl ?_
 conv=>whnf
 refine ⟨_,fun _=>call227 _ _ us ss g rel h hg hr, ?_⟩
 rw [←hl]
 conv=>whnf
 refine ⟨by exact g0,fun h=>(by cases h),fun _=> ?_⟩
 conv=>whnf
 refine ⟨by exact g0, ?_⟩
 refine LSem.adopt 14 1000000 3 1 1 rfl rfl ?_
 refine LSem.loop (n:=54) mix (α:=Nat×Int×List Int×Mm) (fun x=>x.1+x.2.2.1.length=l.length∧bG l x.1 x.2.1 x.2.2.1 x.2.2.2=bG l l.length rel [] M0∧MOK l x.2.2.2∧0≤x.2.1∧x.2.1≤1073741824)
  (fun x=> [(10, .pt 160 0 0),(13, .pt 208 0 0),(14, .os 1000000),(15, .int .i64 x.2.1)])
  (fun x=> [(160, .box [.sl 1 1 l.length (fl eChs l)]),(192, .box [.rf none 448]),(208, .box [.fn (.func 228) [] [.pt 160 0 0, .pt 192 0 0, .pt 208 0 0]]),(448, .box [.mpv bKS bVS true true x.2.2.2.1 x.2.2.2.2]),(1000000, .row 0 3 1 x.2.2.1.length (fl eInt x.2.2.1))])
  (fun x=>x.1) (l.length,rel, [],M0) ⟨rfl,rfl,M0_ok l,hr.1,hr.2.1⟩ ?_ ?_
 ·refine ⟨rfl,rfl, ?_, ?_⟩
  ·exact ent
  ·rw [hln];exact ent
 rintro ⟨m,left,out,M⟩ ⟨h1,h2,h3,h4,h5⟩
 dsimp only at h1 h2 h3 h4 h5
 conv=>whnf
 refine ⟨by exact g0,fun hd=> ?_,fun hd=> ?_⟩
 ·have hd:(out.length:Int)<l.length:=of_decide_eq_true hd
  obtain ⟨m,rfl⟩:∃k,m=k+1:=⟨m - 1,by omega⟩
  have IH:=call228 hcs (by omega) hlen (m+1) out.length left M (by omega) h3 (by omega)
  obtain ⟨o1,o2⟩:=bM_ok hcs (m+1) (by omega) left M h3
  rw [bG] at h2
  generalize bM l (m+1) left M=T at IH o1 o2 h2
  conv=>whnf
  dsimp only
  refine ⟨by exact g0,LSem.slf 4 40 640 36 38 39 rfl ?_⟩
  conv=>whnf
  refine ⟨by exact g0,228,bKS,bVS,l.length,fl eChs l,(out.length:Int),left,M.1,T.2.1,M.2,T.2.2,ePa T.1,160,192,208,448,rfl,rfl,rfl,by decide,rfl,rfl,rfl,rfl,rfl,ePa_plain _,IH, ?_⟩
  conv=>whnf
  refine ⟨by exact g0,fun he=> ?_,fun he=> ?_⟩
  ·have he:(!T.1.ok)=true:=he
   rw [if_neg (by simpa using he)] at h2
   have e:R=([],9):=by rw [hR];unfold bestF;rw [←h2]
   rw [e]
   conv=>whnf
   exact ret
  ·have he:(!T.1.ok)=false:=he
   have hok:T.1.ok=true:=by simpa using he
   rw [if_pos hok] at h2
   obtain ⟨f1,c,hcm,hcf⟩:=o1.fl (by omega) hok
   have hcb:=(hcs _ (by omega) c hcm).2.2
   have qq:=fl_push eInt out T.1.fl
   have hxl:(out++ [T.1.fl]).length=out.length+1:=by simp
   conv=>whnf
   refine ⟨by exact g0,(m,left - T.1.fl,out++ [T.1.fl],T.2),⟨by dsimp only;rw [hxl];omega,h2,o2,by dsimp only;omega,by dsimp only;omega⟩,by dsimp only;omega,rfl,rfl, ?_, ?_⟩<;>exact ent
 ·have hd:¬(out.length:Int)<l.length:=of_decide_eq_false hd
  obtain rfl:m=0:=by omega
  rw [show bG l 0 left out M=some out from rfl] at h2
  have e:R=(out,0):=by rw [hR];unfold bestF;rw [←h2]
  rw [e]
  conv=>whnf
  exact ret
def c177L1:C:=(sr [kb 26 .lss 25 24] (.seq (.cond 26 .skip (.exit 0)) (.seq (.block 1 (sr [km 27 25,ki 28 2 23 25,kt 29 2 28,kk 9 (.al [z0,z0]),km 8 27,kx 2 9 29] (sr [km 30 0,km 31 8,ki 32 2 30 31,kt 33 2 32,kk 10 (.al [z0,z0]),kx 2 10 33] (sr [kf 34 1 9,kl 35 34,km 36 1,kb 37 .gtr 35 36] (.cond 37 (.seq (.drw [kf 38 0 10,kl 39 38,km 40 1,kf 41 1 10,kl 42 41,kb 43 .sub 40 42,kb 44 .add 43 (cn 1),kf 45 0 9,kl 46 45,kf 47 0 10,kl 48 47,kb 49 .sub 46 48,kb 50 .mul 44 49,kb 51 .sub 50 (cn 1),kf 52 1 9,kl 53 52,kf 54 1 10,kl 55 54,kb 56 .sub 53 55,kb 57 .quo 51 56,kb 58 .add 39 57,km 4 58,kk 5 (.mv ct),kk 6 (.mv (cn 0))] (pl [(0,[2,3,4,5,6,7,8,9,10,11,12,13,14,15,16,17,18,19],38),(1,[2,3,4,5,6,7,8,9,10,11,12,13,14,15,16,17,18,19],39),(2,[3,4,7,8,9,10,11,14,15,16,17,18],40),(3,[7,8,9,10,11,14,15,16,17,18],41),(4,[7,8,9,10,11,14,15,16,17,18],42),(5,[7,8,9,10,11,14,15,16,17,18],43),(6,[7,8,9,10,11,14,15,16,17,18],44),(7,[9,10,14,15,16,17,18],45),(8,[9,10,14,15,16,17,18],46),(9,[14,15,16,17,18],47),(10,[14,15,16,17,18],48),(11,[14,15,16,17,18],49),(12,[14,15,16,17,18],50),(13,[14,15,16,17,18],51),(14,[16,17],52),(15,[16,17],53)])) .ret) .skip))))) (.reg [kb 59 .add 25 (cn 1),km 25 59]))))
def c177:C:=(sr [kk 4 (.mv (cn 0)),kk 5 (.mv cf),kk 6 (.mv (cn 0))] (.seq (sr [km 11 0,kc 12 152 [11],km 7 12] (sr [km 13 7,kb 14 .neq 13 (cn 0)] (.cond 14 (sr [km 15 7,kk 4 (.mv (cn 0)),kk 5 (.mv cf),km 6 15] .ret) .skip))) (.seq (sr [km 16 0,ki 17 2 16 (cn 0),kf 18 1 17,kl 19 18,km 20 1,kb 21 .gtr 19 20] (.cond 21 (sr [kk 4 (.mv (cn 0)),kk 5 (.mv cf),kk 6 (.mv (cn 0))] .ret) .skip)) (.seq (sr [km 22 0,kk 23 (.slc 2 22 (some (cn 1)) none),kk 24 (.len 23),kk 25 (.mv (cn 0))] (.block 0 (.loop c177L1))) (sr [km 60 0,km 61 0,kk 62 (.len 61),kb 63 .sub 62 (cn 1),ki 64 2 60 63,kf 65 0 64,kl 66 65,km 4 66,kk 5 (.mv ct),kk 6 (.mv (cn 0))] .ret)))))
theorem fits177:fits Tryz.prog false Tryz.f177 2 67 [(4,none),(5,none),(6,none)]=some c177.er:=by kernel_rfl
def c121:C:=(sr [kk 2 (.bx 6 0),kk 4 (.mv (cn 0))] (sr [kf 9 0 2,kl 10 9,km 11 1,kc 12 177 [10,11],km 8 12,ke 13 8 0,ke 14 8 1,ke 15 8 2,km 5 13,km 6 14,km 7 15] (.seq (sr [km 16 6,kk 17 (.un false .not 16)] (.cond 17 (sr [kf 18 0 2,kl 19 18,ki 20 2 19 (cn 0),kf 21 0 20,kl 22 21,km 4 22] .ret) .skip)) (sr [km 23 5,km 4 23] .ret))))
theorem fits121:fits Tryz.prog false Tryz.f121 2 24 [(4,none)]=some c121.er:=by kernel_rfl
def c178:C:=(sr [kk 1 (.bx 9 0),kk 2 (.mv (cn 0))] (sr [kf 3 0 1,kf 4 0 3,kl 5 4,kf 6 0 1,kf 7 5 6,kl 8 7,kc 9 97 [5,8],km 2 9] .ret))
theorem fits178:fits Tryz.prog false Tryz.f178 1 10 [(2,none)]=some c178.er:=by kernel_rfl
def c175L1:C:=(sr [kb 30 .lss 29 28] (.seq (.cond 30 .skip (.exit 0)) (.seq (.block 1 (sr [ki 31 6 27 29,kt 32 6 31,kk 5 (.al [(.nil 2),z0,z0,(.nil 2),z0,z0]),kx 6 5 32] (sr [kt 33 6 5,kc 34 217 [33],km 6 34] (sr [km 35 6,kb 36 .neq 35 (cn 0)] (.cond 36 (sr [km 37 6,km 2 37] .ret) .skip))))) (.reg [kb 38 .add 29 (cn 1),km 29 38]))))
def c175L2:C:=(sr [kb 43 .lss 42 41] (.seq (.cond 43 .skip (.exit 2)) (.seq (.block 3 (sr [ki 44 3 40 42,kt 45 3 44,kk 8 (.al [(.nil 2),z0,z0]),kx 3 8 45] (sr [kt 46 3 8,kc 47 218 [46],km 9 47] (sr [km 48 9,kb 49 .neq 48 (cn 0)] (.cond 49 (sr [km 50 9,km 2 50] .ret) .skip))))) (.reg [kb 51 .add 42 (cn 1),km 42 51]))))
def c175:C:=(sr [kk 1 (.bx 9 0),kk 2 (.mv (cn 0))] (.seq (sr [kf 10 0 1,kt 11 6 10,kc 12 158 [11],km 3 12] (sr [km 13 3,kb 14 .neq 13 (cn 0)] (.cond 14 (sr [km 15 3,km 2 15] .ret) .skip))) (.seq (sr [kf 16 6 1,kl 17 16,kk 18 (.len 17),kb 19 .gtr 18 (cn 6),km 20 19,kg 21 20 false (.fa 7 1),kg 22 20 false (.ld 1 false 21),kg 23 20 false (.len 22),kg 24 20 false (.bi false .gtr 23 (cn 8)),kk 25 (.pick 20 ct 24)] (.cond 25 (sr [kk 2 (.mv (cn 10))] .ret) .skip)) (.seq (sr [kf 26 6 1,kl 27 26,kk 28 (.len 27),kk 29 (.mv (cn 0))] (.block 0 (.loop c175L1))) (.seq (sr [kf 39 7 1,kl 40 39,kk 41 (.len 40),kk 42 (.mv (cn 0))] (.block 2 (.loop c175L2))) (.seq (sr [kf 52 8 1,kl 53 52,kb 54 .lss 53 (cn 1),km 55 54,kg 56 55 false (.fa 8 1),kg 57 55 false (.ld 1 false 56),kg 58 55 false (.bi false .gtr 57 (cn 1073741824)),kk 59 (.pick 55 ct 58)] (.cond 59 (sr [kk 2 (.mv (cn 1))] .ret) .skip)) (sr [kk 2 (.mv (cn 0))] .ret)))))))
theorem fits175:fits Tryz.prog false Tryz.f175 1 60 [(2,none)]=some c175.er:=by kernel_rfl
def c176L1:C:=(sr [kb 43 .lss 42 41] (.seq (.cond 43 .skip (.exit 0)) (.seq (.block 1 (sr [km 44 42,ki 45 6 40 42,kt 46 6 45,kk 6 (.al [(.nil 2),z0,z0,(.nil 2),z0,z0]),km 5 44,kx 6 6 46] (.seq (.drw [kt 47 6 6,kf 48 2 3,kl 49 48,km 50 5,ki 51 3 49 50,kt 52 3 51,kc 53 219 [47,52],kk 54 (.un false .not 53)] (pl [(0,[1,2,3,4,5],47),(1,[3],48),(2,[3],49)])) (.cond 54 (sr [kk 4 (.mv cf)] .ret) .skip)))) (.reg [kb 55 .add 42 (cn 1),km 42 55]))))
def c176L2:C:=(sr [kb 60 .lss 59 58] (.seq (.cond 60 .skip (.exit 2)) (.seq (.block 3 (sr [km 61 59,ki 62 3 57 59,kt 63 3 62,kk 8 (.al [(.nil 2),z0,z0]),km 7 61,kx 3 8 63] (.seq (.drw [kf 64 3 3,kl 65 64,km 66 7,ki 67 2 65 66,kf 68 0 67,kl 69 68,kf 70 1 8,kl 71 70,kc 72 56 [69,71],kk 73 (.un false .not 72)] (pl [(0,[2,6,7],64),(1,[2,6,7],65),(2,[6,7],66),(3,[6,7],67),(4,[6,7],68),(5,[6,7],69)])) (.cond 73 (sr [kk 4 (.mv cf)] .ret) .skip)))) (.reg [kb 74 .add 59 (cn 1),km 59 74]))))
def c176:C:=(sr [kk 2 (.bx 9 0),kk 3 (.bx 4 1),kk 4 (.mv cf)] (.seq (.seq (.drw [kf 9 0 3,kl 10 9,kt 11 9 2,kc 12 178 [11],kc 13 56 [10,12],kk 14 (.un false .not 13),km 15 14,kg 16 15 false (.fa 1 3),kg 17 15 false (.ld 1 false 16),kg 18 15 false (cl 56 [17,(cn 1073741824)]),kg 19 15 false (.un false .not 18),kk 20 (.pick 15 ct 19),km 21 20,kg 22 21 false (.fa 2 3),kg 23 21 false (.ld 1 false 22),kg 24 21 false (.len 23),kg 25 21 false (.fa 6 2),kg 26 21 false (.ld 1 false 25),kg 27 21 false (.len 26),kg 28 21 false (.bi false .neq 24 27),kk 29 (.pick 21 ct 28),km 30 29,kg 31 30 false (.fa 3 3),kg 32 30 false (.ld 1 false 31),kg 33 30 false (.len 32),kg 34 30 false (.fa 7 2),kg 35 30 false (.ld 1 false 34),kg 36 30 false (.len 35),kg 37 30 false (.bi false .neq 33 36),kk 38 (.pick 30 ct 37)] (pl [(0,[2,3],9),(1,[2,3],10),(13,[16,17,18],22),(14,[16,17,18],23),(15,[16,17,18],24),(22,[25,26,27],31),(23,[25,26,27],32),(24,[25,26,27],33)])) (.cond 38 (sr [kk 4 (.mv cf)] .ret) .skip)) (.seq (sr [kf 39 6 2,kl 40 39,kk 41 (.len 40),kk 42 (.mv (cn 0))] (.block 0 (.loop c176L1))) (.seq (sr [kf 56 7 2,kl 57 56,kk 58 (.len 57),kk 59 (.mv (cn 0))] (.block 2 (.loop c176L2))) (sr [kk 4 (.mv ct)] .ret)))))
theorem fits176:fits Tryz.prog false Tryz.f176 2 75 [(4,none)]=some c176.er:=by kernel_rfl
def c120:C:=(sr [kk 2 (.bx 9 0),kk 3 (.bx 4 1),kk 4 (.mv (cn 0))] (.seq (sr [kt 6 9 2,kc 7 175 [6],km 5 7] (sr [km 8 5,kb 9 .neq 8 (cn 0)] (.cond 9 (sr [km 10 5,km 4 10] .ret) .skip))) (.seq (sr [kt 11 9 2,kt 12 4 3,kc 13 176 [11,12],kk 14 (.un false .not 13)] (.cond 14 (sr [kk 4 (.mv (cn 3))] .ret) .skip)) (sr [kk 4 (.mv (cn 0))] .ret))))
theorem fits120:fits Tryz.prog false Tryz.f120 2 15 [(4,none)]=some c120.er:=by kernel_rfl
def c53:C:=(sr [kk 2 (.bx 9 0),kk 3 (.bx 4 1),kk 4 (.mv (cn 0)),kk 5 (.mv (cn 0))] (.seq (sr [kt 7 9 2,kt 8 4 3,kc 9 120 [7,8],km 6 9] (sr [km 10 6,kb 11 .neq 10 (cn 0)] (.cond 11 (sr [km 12 6,kk 4 (.mv (cn 0)),km 5 12] .ret) .skip))) (sr [kf 13 0 2,kt 14 6 13,kf 15 0 3,kl 16 15,kc 17 121 [14,16],km 4 17,kk 5 (.mv (cn 0))] .ret)))
theorem fits53:fits Tryz.prog false Tryz.f53 2 18 [(4,none),(5,none)]=some c53.er:=by kernel_rfl
def downF (p q:Pt) (y:Int):Int:=q.x+((y - q.y+1)*(p.x - q.x) - 1) / (p.y - q.y)
def lastA (c:List Pt) (y:Int):Nat→Nat→Int×Bool
 | _,0=>((c.getD (c.length - 1) default).x,true)
 | i,n+1=>if y<(c.getD (i+1) default).y then (downF (c.getD (i+1) default) (c.getD i default) y,true) else lastA c y (i+1) n
def lastC (c:List Pt) (y:Int):Int×Bool:=if y<(c.getD 0 default).y then (0,false) else lastA c y 0 (c.length - 1)
theorem downF_num {p q:Pt} {y:Int} (h1:q.y≤y) (h2:y<p.y) (h3:q.x<p.x) (hu:(p.y - q.y)*(p.x - q.x)≤4611686018427387904):
  (1≤(y - q.y+1)*(p.x - q.x)∧(y - q.y+1)*(p.x - q.x)≤4611686018427387904)∧Int.tdiv ((y - q.y+1)*(p.x - q.x) - 1) (p.y - q.y)=((y - q.y+1)*(p.x - q.x) - 1) / (p.y - q.y)∧
  0≤((y - q.y+1)*(p.x - q.x) - 1) / (p.y - q.y)∧((y - q.y+1)*(p.x - q.x) - 1) / (p.y - q.y)≤p.x - q.x:=by
 have hp2:(y - q.y+1)*(p.x - q.x)≤(p.y - q.y)*(p.x - q.x):=Int.mul_le_mul_of_nonneg_right (by omega) (by omega)
 have hp3:1≤(y - q.y+1)*(p.x - q.x):=Int.mul_pos (by omega) (by omega)
 refine ⟨⟨hp3,by omega⟩,Int.tdiv_eq_ediv_of_nonneg (by omega),Int.ediv_nonneg (by omega) (by omega), ?_⟩
 refine Int.ediv_le_of_le_mul (by omega) ?_
 have e1:=Int.mul_comm (p.x - q.x) (p.y - q.y)
 omega
theorem lastA_rng {c:List Pt} (hg:GoodC c) (hx:∀i,i<c.length→(c.getD i default).x≤16777216) (y:Int):∀(n i:Nat),i+n<c.length→(c.getD i default).y≤y→0≤(lastA c y i n).1∧(lastA c y i n).1≤16777216
 | 0,i,h,_=>by
   have:=hg.ne
   have h1:=hg.rng (c.length - 1) (by omega)
   have h2:=hx (c.length - 1) (by omega)
   unfold lastA;dsimp only;omega
 | n+1,i,h,hy=>by
   unfold lastA
   split
   ·rename_i hlt
    have hu:=hg.up (i+1) (by omega) (by omega)
    rw [Nat.add_sub_cancel] at hu
    have h1:=hg.rng i (by omega)
    have h2:=hx (i+1) (by omega)
    have hd:=downF_num hy hlt hu.1 hu.2.2
    unfold downF
    dsimp only
    omega
   ·exact lastA_rng hg hx y n (i+1) (by omega) (by omega)
def hgtF (r:Rv) (v:Int):Int:=if (lastC r.st v).2=true then (lastC r.st v).1 else (r.st.getD 0 default).x
theorem hgtF_rng {r:Rv} (h:RvOK r) (v:Int):0≤hgtF r v∧hgtF r v≤16777216:=by
 have h1:=h.g.rng 0 h.g.ne
 have h2:=h.p1 0 h.g.ne
 unfold hgtF
 split
 ·rename_i ht
  unfold lastC at ht⊢
  split at ht
  ·cases ht
  ·rename_i hy
   rw [if_neg hy]
   have:=h.g.ne
   exact lastA_rng h.g h.p1 v (r.st.length - 1) 0 (by omega) (by omega)
 ·omega
theorem call177 (τ:Nat) (c:List Pt) (y:Int) (hg:GoodC c):PureCall Tryz.prog 177 [.sl τ 2 c.length (fl ePt c), .int .i64 y] [] ⟨.tup [.int .i64 (lastC c y).1, .bool (lastC c y).2, .int .i64 0], [], []⟩:=by
 refine pure_call mix Tryz.func177 fits177 rfl ?_
 conv=>whnf
 refine ⟨_,fun _=>G02.call152 _ c, ?_⟩
 rw [(check_good c).2 hg]
 have hne:=hg.ne
 have hle:=hg.le
 conv=>whnf
 refine ⟨by exact g0,fun h=>(by cases h),fun _=> ?_⟩
 conv=>whnf
 refine ⟨by exact g0,fun hc=> ?_,fun hc=> ?_⟩
 ·replace hc:y<(c.getD 0 default).y:=of_decide_eq_true hc
  unfold lastC;rw [if_pos hc]
  conv=>whnf
  exact ret
 replace hc:¬y<(c.getD 0 default).y:=of_decide_eq_false hc
 unfold lastC;rw [if_neg hc]
 conv=>whnf
 refine ⟨by exact g0, ?_⟩
 refine LSem.loop (n:=67) mix (α:=Nat) (fun i=>i≤c.length - 1∧lastA c y i (c.length - 1 - i)=lastA c y 0 (c.length - 1)∧(c.getD i default).y≤y)
  (fun i=> [(0, .sl τ 2 c.length (fl ePt c)),(1, .int .i64 y),(23, .sl τ 2 (c.length - 1) (fun i=>fl ePt c (1+i))),(24, .int .i64 (c.length - 1:Nat)),(25, .int .i64 i)])
  (fun _=> []) (fun i=>c.length - i) 0 ?_ ?_ ?_
 ·exact ⟨Nat.zero_le _,rfl,by omega⟩
 ·refine ⟨rfl,rfl, ?_, ?_⟩<;>exact ent
 ·intro i hi
  obtain ⟨hi,hs,hx⟩:=hi
  have hj:((i:Int)).toNat=i:=by omega
  have hj1:1+i=i+1:=by omega
  conv=>whnf
  refine ⟨trivial,fun hc=> ?_,fun hc=> ?_⟩
  ·replace hc:=of_decide_eq_true hc
   have hlt:i+1<c.length:=by omega
   have hst:lastA c y i (c.length - 1 - i)=if y<(c.getD (i+1) default).y then (downF (c.getD (i+1) default) (c.getD i default) y,true) else lastA c y (i+1) (c.length - 1 - (i+1)):=by
    rw [show c.length - 1 - i=(c.length - 1 - (i+1))+1 by omega];rfl
   rw [hst] at hs
   have hr:=hg.rng i (by omega)
   have hr1:=hg.rng (i+1) hlt
   have hu:=hg.up (i+1) (by omega) hlt
   rw [Nat.add_sub_cancel] at hu
   conv=>whnf
   refine ⟨by exact g0,fun hc1=> ?_,fun hc1=> ?_⟩
   ·have hc1:=of_decide_eq_true hc1
    rw [hj,hj1] at hc1
    rw [if_pos hc1] at hs
    rw [←hs]
    obtain ⟨⟨q1,q2⟩,hq,q3,q4⟩:=downF_num hx hc1 hu.1 hu.2.2
    have q5:0≤(y - (c.getD i default).y+1)*((c.getD (i+1) default).x - (c.getD i default).x):=by omega
    conv=>whnf
    refine ⟨rfl, ?_⟩
    conv=>whnf
    have hcm:(y - (c.getD i default).y+1)*((c.getD (i+1) default).x - (c.getD i default).x) - 1≤4611686018427387904:=by omega
    unfold downF
    rw [hj,hj1,hq]
    exact ret
   ·have hc1:=of_decide_eq_false hc1
    rw [hj,hj1] at hc1
    rw [if_neg hc1] at hs
    conv=>whnf
    refine ⟨by exact g0,i+1,⟨by omega,hs,by omega⟩,by omega,rfl,rfl, ?_, ?_⟩<;>exact ent
  ·replace hc:=of_decide_eq_false hc
   rw [show c.length - 1 - i=0 by omega] at hs
   rw [←hs]
   conv=>whnf
   rw [show ((c.length:Int) - 1).toNat=c.length - 1 by omega]
   exact ret
theorem call121 (τ:Nat) (r:Rv) (v:Int) (h:RvOK r):PureCall Tryz.prog 121 [.agg (eRv τ r), .int .i64 v] [] ⟨.int .i64 (hgtF r v), [], []⟩:=by
 have hne:=h.g.ne
 refine pure_call mix Tryz.func121 fits121 rfl ?_
 conv=>whnf
 refine ⟨_,fun _=>call177 _ r.st v h.g, ?_⟩
 unfold hgtF
 generalize lastC r.st v=L
 conv=>whnf
 refine ⟨by exact g0,fun hc=> ?_,fun hc=> ?_⟩
 ·have hc:(!L.2)=true:=hc
  rw [if_neg (by simpa using hc)]
  conv=>whnf
  exact ret
 ·have hc:(!L.2)=false:=hc
  rw [if_pos (by simpa using hc)]
  conv=>whnf
  exact ret
structure DmOK (x:Dm):Prop where
 r:RvOK x.r
 ul:x.us.length≤6
 gl:x.gs.length≤8
 us:∀i,i<x.us.length→UOK (x.us.getD i default)
 gs:∀i,i<x.gs.length→GOK (x.gs.getD i default)
 gr:1≤x.grain∧x.grain≤1073741824
def crsV (x:Dm):Int:=valC x.r.st x.r.crest
theorem call178 (τ:Nat) (x:Dm) (h:RvOK x.r):PureCall Tryz.prog 178 [.agg (eDm τ x)] [] ⟨.int .i64 (crsV x), [], []⟩:=by
 refine pure_call mix Tryz.func178 fits178 rfl ?_
 conv=>whnf
 refine ⟨_,fun _=>G02.call97 _ x.r.st x.r.crest h.g, ?_⟩
 conv=>whnf
 exact ret
theorem call175 (τ:Nat) (x:Dm) (h:DmOK x):PureCall Tryz.prog 175 [.agg (eDm τ x)] [] ⟨.int .i64 0, [], []⟩:=by
 obtain ⟨hr,hul,hgl,hus,hgs,hgr⟩:=h
 refine pure_call mix Tryz.func175 fits175 rfl ?_
 conv=>whnf
 refine ⟨_,fun _=>call158 _ x.r hr, ?_⟩
 conv=>whnf
 refine ⟨by exact g0,fun h=>(by cases h),fun _=> ?_⟩
 conv=>whnf
 have e1:decide ((6:Int)<x.us.length)=false:=decide_eq_false (by omega)
 have e2:decide ((8:Int)<x.gs.length)=false:=decide_eq_false (by omega)
 refine ⟨by exact g0,fun hc=>absurd hc (by simp [e1,e2]),fun _=> ?_⟩
 conv=>whnf
 refine ⟨by exact g0, ?_⟩
 refine LSem.loop (n:=60) mix (α:=Nat) (fun i=>i≤x.us.length)
  (fun i=> [(1, .pt 16 0 0),(27, .sl τ 6 x.us.length (fl (eUt 0) x.us)),(28, .int .i64 x.us.length),(29, .int .i64 i)])
  (fun i=> [(16, .box (eDm τ x))]) (fun i=>x.us.length - i) 0 (Nat.zero_le _) ?_ ?_
 ·refine ⟨rfl,rfl, ?_, ?_⟩<;>exact ent
 intro i hi
 have hj:((i:Int)).toNat=i:=by omega
 conv=>whnf
 refine ⟨trivial,fun hc=> ?_,fun hc=> ?_⟩
 ·replace hc:=of_decide_eq_true hc
  have hlt:i<x.us.length:=by
   have h:(i:Int)<x.us.length:=hc
   omega
  conv=>whnf
  rw [hj]
  refine ⟨_,fun _=>call217 _ (x.us.getD i default) (hus i hlt), ?_⟩
  conv=>whnf
  refine ⟨by exact g0,fun h=>(by cases h),fun _=> ?_⟩
  conv=>whnf
  refine ⟨by exact g0,i+1,hlt,by omega,rfl,rfl, ?_, ?_⟩<;>exact ent
 conv=>whnf
 refine ⟨by exact g0, ?_⟩
 refine LSem.loop (n:=60) mix (α:=Nat) (fun i=>i≤x.gs.length)
  (fun i=> [(1, .pt 16 0 0),(40, .sl τ 3 x.gs.length (fl (eGa 0) x.gs)),(41, .int .i64 x.gs.length),(42, .int .i64 i)])
  (fun i=> [(16, .box (eDm τ x))]) (fun i=>x.gs.length - i) 0 (Nat.zero_le _) ?_ ?_
 ·refine ⟨rfl,rfl, ?_, ?_⟩<;>exact ent
 intro i hi
 have hj:((i:Int)).toNat=i:=by omega
 conv=>whnf
 refine ⟨trivial,fun hc=> ?_,fun hc=> ?_⟩
 ·replace hc:=of_decide_eq_true hc
  have hlt:i<x.gs.length:=by
   have h:(i:Int)<x.gs.length:=hc
   omega
  conv=>whnf
  rw [hj]
  refine ⟨_,fun _=>call218 _ (x.gs.getD i default) (hgs i hlt), ?_⟩
  conv=>whnf
  refine ⟨by exact g0,fun h=>(by cases h),fun _=> ?_⟩
  conv=>whnf
  refine ⟨by exact g0,i+1,hlt,by omega,rfl,rfl, ?_, ?_⟩<;>exact ent
 conv=>whnf
 have e3:decide (x.grain<1)=false:=decide_eq_false (by omega)
 have e4:decide ((1073741824:Int)<x.grain)=false:=decide_eq_false (by omega)
 refine ⟨by exact g0,fun hc=>absurd hc (by simp [e3,e4]),fun _=> ?_⟩
 conv=>whnf
 exact ret
structure DsOK (x:Dm) (s:Ds):Prop where
 vol:0≤s.vol∧s.vol≤crsV x
 rel:0≤s.rel∧s.rel≤1073741824
 us:UsOK x.us s.us
 gs:GsOK x.gs s.gs
theorem call176 (τ τ':Nat) (x:Dm) (s:Ds) (h:DmOK x) (hs:DsOK x s):PureCall Tryz.prog 176 [.agg (eDm τ x), .agg (eDs τ' s)] [] ⟨.bool true, [], []⟩:=by
 obtain ⟨hv,hrl,hsu,hsg⟩:=hs
 have hu1:=hsu.le
 have hu2:=hsu.len
 have hg1:=hsg.le
 have hg2:=hsg.len
 refine pure_call mix Tryz.func176 fits176 rfl ?_
 conv=>whnf
 refine ⟨_,fun _=>call178 _ x h.r, ?_⟩
 conv=>whnf
 refine ⟨_,fun _=>G02.call56 s.vol (crsV x), ?_⟩
 rw [decide_eq_true hv]
 conv=>whnf
 refine ⟨_,fun _=>G02.call56 s.rel 1073741824, ?_⟩
 rw [decide_eq_true hrl]
 conv=>whnf
 refine ⟨rfl, ?_⟩
 conv=>whnf
 have e1:((s.us.length:Int) != x.us.length)=false:=by rw [hu2];simp
 have e2:((s.gs.length:Int) != x.gs.length)=false:=by rw [hg2];simp
 refine ⟨by exact g0,fun hc=>absurd hc (by simp [e1,e2]),fun _=> ?_⟩
 conv=>whnf
 refine ⟨by exact g0, ?_⟩
 refine LSem.loop (n:=75) mix (α:=Nat) (fun i=>i≤x.us.length)
  (fun i=> [(2, .pt 32 0 0),(3, .pt 48 0 0),(40, .sl τ 6 x.us.length (fl (eUt 0) x.us)),(41, .int .i64 x.us.length),(42, .int .i64 i)])
  (fun i=> [(32, .box (eDm τ x)),(48, .box (eDs τ' s))]) (fun i=>x.us.length - i) 0 (Nat.zero_le _) ?_ ?_
 ·refine ⟨rfl,rfl, ?_, ?_⟩<;>exact ent
 intro i hi
 have hj:((i:Int)).toNat=i:=by omega
 conv=>whnf
 refine ⟨trivial,fun hc=> ?_,fun hc=> ?_⟩
 ·replace hc:=of_decide_eq_true hc
  have hlt:i<x.us.length:=by
   have h:(i:Int)<x.us.length:=hc
   omega
  have hlt2:i<s.us.length:=by omega
  have hf:=hsu.fit i hlt
  have hk:=h.us i hlt
  conv=>whnf
  rw [hj]
  refine ⟨_,fun _=>call219 _ (x.us.getD i default) (s.us.getD i default) hk, ?_⟩
  rw [hf]
  conv=>whnf
  refine ⟨rfl, ?_⟩
  conv=>whnf
  refine ⟨by exact g0,fun h=>(by cases h),fun _=> ?_⟩
  conv=>whnf
  refine ⟨by exact g0,i+1,hlt,by omega,rfl,rfl, ?_, ?_⟩<;>exact ent
 conv=>whnf
 refine ⟨by exact g0, ?_⟩
 refine LSem.loop (n:=75) mix (α:=Nat) (fun i=>i≤x.gs.length)
  (fun i=> [(2, .pt 32 0 0),(3, .pt 48 0 0),(57, .sl τ 3 x.gs.length (fl (eGa 0) x.gs)),(58, .int .i64 x.gs.length),(59, .int .i64 i)])
  (fun i=> [(32, .box (eDm τ x)),(48, .box (eDs τ' s))]) (fun i=>x.gs.length - i) 0 (Nat.zero_le _) ?_ ?_
 ·refine ⟨rfl,rfl, ?_, ?_⟩<;>exact ent
 intro i hi
 have hj:((i:Int)).toNat=i:=by omega
 conv=>whnf
 refine ⟨trivial,fun hc=> ?_,fun hc=> ?_⟩
 ·replace hc:=of_decide_eq_true hc
  have hlt:i<x.gs.length:=by
   have h:(i:Int)<x.gs.length:=hc
   omega
  have hlt2:i<s.gs.length:=by omega
  have hf:=hsg.op i hlt
  conv=>whnf
  rw [hj]
  refine ⟨_,fun _=>G02.call56 (s.gs.getD i default).op (x.gs.getD i default).most, ?_⟩
  rw [decide_eq_true hf]
  conv=>whnf
  refine ⟨rfl, ?_⟩
  conv=>whnf
  refine ⟨by exact g0,fun h=>(by cases h),fun _=> ?_⟩
  conv=>whnf
  refine ⟨by exact g0,i+1,hlt,by omega,rfl,rfl, ?_, ?_⟩<;>exact ent
 conv=>whnf
 exact ret
theorem call120 (τ τ':Nat) (x:Dm) (s:Ds) (h:DmOK x) (hs:DsOK x s):PureCall Tryz.prog 120 [.agg (eDm τ x), .agg (eDs τ' s)] [] ⟨.int .i64 0, [], []⟩:=by
 refine pure_call mix Tryz.func120 fits120 rfl ?_
 conv=>whnf
 refine ⟨_,fun _=>call175 _ x h, ?_⟩
 conv=>whnf
 refine ⟨by exact g0,fun h=>(by cases h),fun _=> ?_⟩
 conv=>whnf
 refine ⟨_,fun _=>call176 _ _ x s h hs, ?_⟩
 conv=>whnf
 refine ⟨by exact g0,fun h=>(by cases h),fun _=> ?_⟩
 conv=>whnf
 exact ret
theorem call53 (τ τ':Nat) (x:Dm) (s:Ds) (h:DmOK x) (hs:DsOK x s):PureCall Tryz.prog 53 [.agg (eDm τ x), .agg (eDs τ' s)] [] ⟨.tup [.int .i64 (hgtF x.r s.vol), .int .i64 0], [], []⟩:=by
 refine pure_call mix Tryz.func53 fits53 rfl ?_
 conv=>whnf
 refine ⟨_,fun _=>call120 _ _ x s h hs, ?_⟩
 conv=>whnf
 refine ⟨by exact g0,fun h=>(by cases h),fun _=> ?_⟩
 conv=>whnf
 refine ⟨_,fun _=>call121 _ x.r s.vol h.r, ?_⟩
 conv=>whnf
 exact ret
def c180:C:=(sr [kk 2 (.mv (cn 0))] (.seq (.drw [km 3 0,kk 4 (.nc 3),kf 5 25 4,kl 6 5,km 7 0,kk 8 (.nc 7),kf 9 0 8,kf 10 0 9,kf 11 0 10,kl 12 11,km 13 0,kk 14 (.nc 13),kf 15 0 14,kf 16 0 15,kf 17 1 16,kl 18 17,kc 19 97 [12,18],kb 20 .sub 6 19,kk 21 (.mx [20,(cn 0)]),km 2 21] (pl [(0,[4,5,6,7,8,9,10,11,12,13,14,15,16],3),(1,[4,5,6,7,8,9,10,11,12,13,14,15,16],4),(2,[4,5,6,7,8,9,10,11,12,13,14,15,16],5),(3,[4,5,6,7,8,9,10,11,12,13,14,15,16],6),(4,[10,11,12,13,14,15],7),(5,[10,11,12,13,14,15],8),(6,[10,11,12,13,14,15],9),(7,[10,11,12,13,14,15],10),(8,[10,11,12,13,14,15],11),(9,[10,11,12,13,14,15],12)])) .ret))
theorem fits180:fits Tryz.prog false Tryz.f180 1 22 [(2,none)]=some c180.er:=by kernel_rfl
def c125L1:C:=(sr [kb 53 .lss 52 51] (.seq (.cond 53 .skip (.exit 0)) (.seq (.block 1 (sr [km 54 52,ki 55 6 50 52,kt 56 6 55,kk 6 (.al [(.nil 2),z0,z0,(.nil 2),z0,z0]),km 5 54,kx 6 6 56] (sr [kk 7 (.mv (cn 0))] (.cut (.seq (sr [km 57 4,kb 58 .eql 57 (cn 0)] (.cond 58 (.reg [km 59 3,km 60 5,ki 61 1 59 60,kl 62 61,km 7 62]) .skip)) (.seq (.drw [kt 64 6 6,km 65 0,kk 66 (.nc 65),kf 67 9 66,kf 68 2 67,kl 69 68,km 70 5,ki 71 3 69 70,kt 72 3 71,km 73 7,kc 74 182 [64,72,73],km 63 74,ke 75 63 0,ke 76 63 1,ke 77 63 2,kk 8 (.al [z0,z0,(.bool false)]),kx 3 8 75,km 9 76,km 10 77] (pl [(0,[1,2,3,4,5,6,7,8,9,15],64),(1,[6,9,15],65),(2,[6,9,15],66),(3,[6,9,15],67),(4,[6,9,15],68),(5,[6,9,15],69),(6,[9,15],70),(7,[9,15],71),(8,[9,15],72),(9,[15],73),(10,[15],74),(11,[15],63),(12,[13,14,15],75),(13,[14,15,16],76),(14,[15,16,17],77)])) (.cut (.seq (sr [km 78 10,kb 79 .neq 78 (cn 0)] (.cond 79 (.reg [km 80 0,kk 81 (.nc 80),kf 82 9 81,kf 83 2 82,kl 84 83,km 85 5,ki 86 3 84 85,kf 87 2 86,kl 88 87,kk 89 (.bd [z0,z0,(.bool false)] [(1,1,(cn 1)),(2,1,88)]),kx 3 8 89]) .skip)) (sr [kt 91 6 6,km 92 7,kc 93 183 [91,92],km 90 93,ke 94 90 0,ke 95 90 1,km 11 94,km 12 95] (.seq (.drw [km 96 0,km 97 0,km 98 0,kk 99 (.nc 98),kf 100 17 99,kf 101 2 100,kl 102 101,km 103 7,kb 104 .add 102 103,km 105 0,kk 106 (.nc 105),kf 107 17 106,kf 108 5 107,kl 109 108,km 110 11,kb 111 .add 109 110,kk 112 (.nc 96),kf 113 17 112,kf 114 2 113,kx 1 114 104,kk 115 (.nc 97),kf 116 17 115,kf 117 5 116,kx 1 117 111] (pl [(0,[1,2,3,4,5,6,7,8,9,10,11,12,13,14,15],96),(1,[2,3,4,5,6,7,8,9,10,11,12,13,14,15,16,17,18,19],97),(2,[7,9,10,11,12,13,14,15],98),(3,[7,9,10,11,12,13,14,15],99),(4,[7,9,10,11,12,13,14,15],100),(5,[7,9,10,11,12,13,14,15],101),(6,[7,9,10,11,12,13,14,15],102),(7,[9,10,11,12,13,14,15],103),(8,[9,10,11,12,13,14,15],104),(9,[14],105),(10,[14],106),(11,[14],107),(12,[14],108),(13,[14],109),(14,[16,17,18,19],110),(15,[16,17,18,19],111)])) (.seq (sr [km 118 9] (.cond 118 (.reg [km 119 0,kk 120 (.nc 119),kf 121 17 120,kf 122 6 121,kl 123 122,kb 124 .add 123 (cn 1),kk 125 (.nc 119),kf 126 17 125,kf 127 6 126,kx 1 127 124]) .skip)) (.drw [km 128 0,km 129 0,kk 130 (.nc 129),kf 131 13 130,kf 132 2 131,kl 133 132,kt 134 3 8,kk 135 (.bs 246 3 [134]),kk 136 (.app 246 3 24 133 135),kk 137 (.nc 128),kf 138 13 137,kf 139 2 138,kx 1 139 136] (pl [(0,[1,2,3,4,5,6,7,8],128),(1,[6,7],129),(2,[6,7],130),(3,[6,7],131),(4,[6,7],132),(5,[6,7],133)]))))))))))))) (.reg [kb 140 .add 52 (cn 1),km 52 140]))))
def c125:C:=(.seq (.drw [km 13 0,kk 14 (.nc 13),kf 15 24 14,kl 16 15,km 17 0,kc 18 180 [17],km 19 0,kk 20 (.nc 19),kf 21 0 20,kf 22 8 21,kl 23 22,kb 24 .mul (cn 200) 23,kk 25 (.mn [16,18,24]),km 2 25] (pl [(0,[4,5,6,7,8,9,10,11],13),(1,[4,5,6,7,8,9,10,11],14),(2,[4,5,6,7,8,9,10,11],15),(3,[4,5,6,7,8,9,10,11],16),(4,[6,7,8,9,10,11],17),(5,[6,7,8,9,10,11],18)])) (.seq (.drw [km 27 0,kk 28 (.nc 27),kf 29 0 28,kf 30 6 29,kl 31 30,km 32 0,kk 33 (.nc 32),kf 34 9 33,kf 35 2 34,kl 36 35,km 37 0,kk 38 (.nc 37),kf 39 0 38,kf 40 8 39,kl 41 40,km 42 2,kc 43 181 [31,36,41,42],km 26 43,ke 44 26 0,ke 45 26 1,km 3 44,km 4 45] (pl [(0,[5,6,7,8,9,10,11,12,13,14,15],27),(1,[5,6,7,8,9,10,11,12,13,14,15],28),(2,[5,6,7,8,9,10,11,12,13,14,15],29),(3,[5,6,7,8,9,10,11,12,13,14,15],30),(4,[5,6,7,8,9,10,11,12,13,14,15],31),(5,[10,11,12,13,14,15],32),(6,[10,11,12,13,14,15],33),(7,[10,11,12,13,14,15],34),(8,[10,11,12,13,14,15],35),(9,[10,11,12,13,14,15],36),(10,[15],37),(11,[15],38),(12,[15],39),(13,[15],40),(14,[15],41),(18,[19],44),(19,[20],45)])) (sr [km 46 0,kk 47 (.nc 46),kf 48 0 47,kf 49 6 48,kl 50 49,kk 51 (.len 50),kk 52 (.mv (cn 0))] (.block 0 (.loop c125L1)))))
theorem fits125:fits Tryz.prog false Tryz.f125 1 141 []=some c125.er:=by kernel_rfl
def eWk (x:Dm) (s:Ds) (nv nr inf loss tu sp ov pw st rel left lev:Int) (pu pg:PV):List PV:= [.sl 1 2 x.r.st.length (fl ePt x.r.st), .int .i64 x.r.dead, .int .i64 x.r.low, .int .i64 x.r.full, .int .i64 x.r.sur, .int .i64 x.r.crest,
 .sl 1 6 x.us.length (fl (eUt 0) x.us), .sl 1 3 x.gs.length (fl (eGa 0) x.gs), .int .i64 x.grain,
 .int .i64 s.vol, .int .i64 s.rel, .sl 1 3 s.us.length (fl eUs s.us), .sl 1 2 s.gs.length (fl eGs s.gs),
 .int .i64 nv, .int .i64 nr,pu,pg,
 .int .i64 inf, .int .i64 loss, .int .i64 tu, .int .i64 sp, .int .i64 ov, .int .i64 pw, .int .i64 st,
 .int .i64 rel, .int .i64 left, .int .i64 lev]
def deaV (x:Dm):Int:=valC x.r.st x.r.dead
def freF (x:Dm) (left:Int):Int:=mx (left - deaV x) 0
theorem call180 (x:Dm) (s:Ds) (nv nr inf loss tu sp ov pw st rel left lev:Int) (τ τ' z z' n m:Nat) (f g:Nat→List PV) (h:RvOK x.r) (hl:0≤left∧left≤4611686018427387904):
  PureCall Tryz.prog 180 [.rp 2 (eWk x s nv nr inf loss tu sp ov pw st rel left lev (.sl τ z n f) (.sl τ' z' m g))] [] ⟨.int .i64 (freF x left), [], []⟩:=by
 refine pure_call mix Tryz.func180 fits180 rfl ?_
 conv=>whnf
 have hv:=val_rng h.g x.r.dead
 refine ⟨_,fun _=>G02.call97 _ x.r.st x.r.dead h.g, ?_⟩
 conv=>whnf
 refine ⟨rfl, ?_⟩
 conv=>whnf
 unfold freF deaV
 exact ret
def plq (F:List Int×Int) (i:Nat):Int:=if F.2=0 then F.1.getD i default else 0
def nxT (u:Ut) (s:Us) (q:Int):Us:=if (nxtU u s q).2.2=0 then (nxtU u s q).1 else ⟨0,1,s.out⟩
structure Tu where
 t:Int
 pw:Int
 st:Int
 us:List Us
def tuS (u:Ut) (s:Us) (q:Int) (a:Tu):Tu:=⟨a.t+q,a.pw+(powU u q).1,if (nxtU u s q).2.1=true then a.st+1 else a.st,a.us++ [nxT u s q]⟩
def tuN (us:List Ut) (ss:List Us) (F:List Int×Int):Nat→Tu
 | 0=>⟨0,0,0, []⟩
 | i+1=>tuS (us.getD i default) (ss.getD i default) (plq F i) (tuN us ss F i)
def mosF (x:Dm) (rel left:Int):Int:=mn (mn rel (freF x left)) (200*x.grain)
def plnF (x:Dm) (s:Ds) (rel left:Int):List Int×Int:=bestF (stN x.us s.us x.grain x.us.length) (mosF x rel left)
def tuF (x:Dm) (s:Ds) (rel left:Int):Tu:=tuN x.us s.us (plnF x s rel left) x.us.length
structure TuOK (us:List Ut) (i:Nat) (a:Tu):Prop where
 t:0≤a.t∧a.t≤1073741824*i
 pw:0≤a.pw∧a.pw≤10000*i
 st:0≤a.st∧a.st≤i
 len:a.us.length=i
 fit:∀k,k<i→fitsU (us.getD k default) (a.us.getD k default)=true
def PlqOK (us:List Ut) (ss:List Us) (F:List Int×Int):Prop:=F.2=0∧F.1.length=us.length∧(∀i,i<us.length→mayU (us.getD i default) (ss.getD i default) (F.1.getD i default)=true)∨F.2≠0
theorem fitsU_iff (u:Ut) (s:Us):fitsU u s=true↔(0≤s.since∧s.since≤1000)∧(s.flow=0∨s.out=false∧runsU u s.flow=true):=by
 unfold fitsU
 by_cases h1:0≤s.since∧s.since≤1000
 ·rw [decide_eq_true h1]
  by_cases h2:s.flow=0
  ·simp [h1,h2]
  ·cases h3:s.out<;>simp [h1,h2]
 ·rw [decide_eq_false h1];simp [h1]
theorem plq_rng {us:List Ut} {ss:List Us} {F:List Int×Int} (h:UsOK us ss) (hp:PlqOK us ss F) {i:Nat} (hi:i<us.length):0≤plq F i∧plq F i≤1073741824:=by
 unfold plq
 split
 ·rcases hp with ⟨_,_,hm⟩ | hp
  ·rcases mayU_rng (h.ok i hi) (hm i hi) with h0 | ⟨_,h1,h2,_⟩
   ·omega
   ·have:=(h.ok i hi).lm
    omega
  ·exact absurd (by assumption) hp
 ·omega
theorem nxT_fit {u:Ut} {s:Us} {q:Int} (h:UOK u) (hf:fitsU u s=true):fitsU u (nxT u s q)=true:=by
 have e:nxtU u s q=if mayU u s q=false then (⟨0,0,false⟩,false,15) else
  (⟨q,if (decide (0<q) != decide (0<s.flow))=true then 1 else mn (s.since+1) 1000,s.out⟩,(bif decide (0<q) then s.flow==0 else false),0):=by
  unfold nxtU
  rw [if_neg (by rw [hf];decide)]
 unfold nxT
 rw [e]
 cases hm:mayU u s q with
 | false=>
   show fitsU u ⟨0,1,s.out⟩=true
   exact (fitsU_iff _ _).2 ⟨⟨by dsimp only;omega,by dsimp only;omega⟩, .inl rfl⟩
 | true=>
   have hs:=((fitsU_iff _ _).1 hf).1
   refine (fitsU_iff _ _).2 ⟨?_, ?_⟩
   ·show 0≤(if (decide (0<q) != decide (0<s.flow))=true then 1 else mn (s.since+1) 1000)∧(if (decide (0<q) != decide (0<s.flow))=true then 1 else mn (s.since+1) 1000)≤1000
    unfold mn
    repeat' split
    all_goals omega
   ·show q=0∨s.out=false∧runsU u q=true
    rcases mayU_rng h hm with h0 | ⟨h1,_,_,h2⟩
    ·exact .inl h0
    ·exact .inr ⟨h1,h2⟩
theorem tuN_ok {us:List Ut} {ss:List Us} {F:List Int×Int} (h:UsOK us ss) (hp:PlqOK us ss F):∀i,i≤us.length→TuOK us i (tuN us ss F i)
 | 0,_=>⟨by unfold tuN;dsimp only;omega,by unfold tuN;dsimp only;omega,by unfold tuN;dsimp only;omega,rfl,fun k hk=>by omega⟩
 | i+1,hi=>by
   obtain ⟨h1,h2,h3,h4,h5⟩:=tuN_ok h hp i (by omega)
   have hq:=plq_rng h hp (show i<us.length by omega)
   have hw:=powU_rng (h.ok i (by omega)) (plq F i)
   have hn:=nxT_fit (q:=plq F i) (h.ok i (by omega)) (h.fit i (by omega))
   rw [show tuN us ss F (i+1)=tuS (us.getD i default) (ss.getD i default) (plq F i) (tuN us ss F i) from rfl]
   unfold tuS
   generalize tuN us ss F i=a at h1 h2 h3 h4 h5⊢
   refine ⟨by dsimp only;omega,by dsimp only;omega,by dsimp only;split<;>omega,by simp [h4],fun k hk=> ?_⟩
   dsimp only
   rw [getD_push,h4]
   split
   ·exact h5 k (by assumption)
   ·rw [if_pos (by omega),show k=i by omega];exact hn
theorem bestF_pl {us:List Ut} {ss:List Us} {g rel:Int} (h:UsOK us ss) (hr:0≤rel):PlqOK us ss (bestF (stN us ss g us.length) rel)∧((bestF (stN us ss g us.length) rel).2=0→(bestF (stN us ss g us.length) rel).1.sum≤rel):=by
 rcases bestF_ok (stN_ok (g:=g) h) hr with ⟨h0,hl,hm,hs⟩ | h9
 ·refine ⟨.inl ⟨h0,by rw [hl,stN_len],fun i hi=> ?_⟩,fun _=>hs⟩
  obtain ⟨c,hc,hf⟩:=hm i (by rw [stN_len];exact hi)
  rw [stN_get _ _ _ _ _ hi] at hc
  rw [←hf]
  exact (chL_mem (h.ok i hi) hc).2.2
 ·exact ⟨.inr (by rw [h9];decide),fun h=>by rw [h9] at h;cases h⟩
theorem tuN_sum (us:List Ut) (ss:List Us) (F:List Int×Int) (h:F.2=0):∀i,(tuN us ss F i).t+(F.1.drop i).sum=F.1.sum∨F.1.length<i
 | 0=> .inl (by unfold tuN;simp)
 | i+1=>by
   by_cases hl:i<F.1.length
   ·rcases tuN_sum us ss F h i with h1 | h1
    ·refine .inl ?_
     rw [show (tuN us ss F (i+1)).t=(tuN us ss F i).t+plq F i from rfl]
     unfold plq
     rw [if_pos h]
     rw [List.drop_eq_getElem_cons hl,List.sum_cons] at h1
     rw [List.getD_eq_getElem?_getD,List.getElem?_eq_getElem hl]
     simp only [Option.getD_some]
     omega
    ·omega
   ·exact .inr (by omega)
theorem tuN_zero (us:List Ut) (ss:List Us) (F:List Int×Int) (h:F.2≠0):∀i,(tuN us ss F i).t=0
 | 0=>rfl
 | i+1=>by
   rw [show (tuN us ss F (i+1)).t=(tuN us ss F i).t+plq F i from rfl,tuN_zero us ss F h i]
   unfold plq
   rw [if_neg h];rfl
theorem tuF_ok {x:Dm} {s:Ds} {rel:Int} (left:Int) (h:DmOK x) (hs:DsOK x s) (hr:0≤rel):TuOK x.us x.us.length (tuF x s rel left)∧(tuF x s rel left).t≤mosF x rel left∧0≤mosF x rel left∧mosF x rel left≤rel∧mosF x rel left≤200*x.grain∧mosF x rel left≤freF x left:=by
 have hg:=h.gr
 have hm:0≤mosF x rel left∧mosF x rel left≤rel∧mosF x rel left≤200*x.grain∧mosF x rel left≤freF x left:=by
  have hf:0≤freF x left:=by unfold freF mx;split<;>omega
  unfold mosF mn
  repeat' split
  all_goals omega
 obtain ⟨hp,hq⟩:=bestF_pl (g:=x.grain) hs.us hm.1
 refine ⟨tuN_ok hs.us hp _ (Nat.le_refl _), ?_,hm⟩
 unfold tuF
 change PlqOK x.us s.us (plnF x s rel left) at hp
 change (plnF x s rel left).2=0→(plnF x s rel left).1.sum≤mosF x rel left at hq
 by_cases h0:(plnF x s rel left).2=0
 ·have h1:=tuN_sum x.us s.us (plnF x s rel left) h0 x.us.length
  have h2:=hq h0
  rcases hp with ⟨_,hl,_⟩ | hp
  ·rcases h1 with h1 | h1
   ·rw [List.drop_of_length_le (by omega)] at h1
    simp only [List.sum_nil] at h1
    omega
   ·omega
  ·exact absurd h0 hp
 ·rw [tuN_zero _ _ _ h0];exact hm.1
theorem call125 (x:Dm) (s:Ds) (nv nr inf loss rel left lev:Int) (h:DmOK x) (hs:DsOK x s) (hl:0≤left∧left≤4611686018427387904) (hr:0≤rel∧rel≤1073741824):
  PureBody Tryz.prog 125 [.pt 0 0 0] [.box (eWk x s nv nr inf loss 0 0 0 0 0 rel left lev (.nil 3) (.nil 2))] ⟨.tup [], [.box (eWk x s nv nr inf loss (tuF x s rel left).t 0 0 (tuF x s rel left).pw (tuF x s rel left).st rel left lev (.sl 0 3 x.us.length (fl eUs (tuF x s rel left).us)) (.nil 2))], []⟩:=by
 have hgr:=h.gr
 have hle:=hs.us.le
 have hln:=hs.us.len
 obtain ⟨_,_,m1,m2,m3,_⟩:=tuF_ok left h hs hr.1
 have hpl:=(bestF_pl (g:=x.grain) hs.us m1).1
 change PlqOK x.us s.us (plnF x s rel left) at hpl
 have hT:=tuN_ok hs.us hpl
 refine pure_body mix (f:=125) (show Tryz.prog.funcs[125]? =some Tryz.f125 from Tryz.func125) fits125 rfl ?_
 conv=>whnf
 refine ⟨_,fun _=>call180 x s _ _ _ _ _ _ _ _ _ _ _ _ _ _ _ _ _ _ _ _ h.r hl, ?_⟩
 conv=>whnf
 refine ⟨rfl, ?_⟩
 conv=>whnf
 refine ⟨_,fun _=>call181 _ _ x.us s.us x.grain (mosF x rel left) hs.us hgr ⟨m1,by omega,m3⟩, ?_⟩
 rw [show bestF (stN x.us s.us x.grain x.us.length) (mosF x rel left)=plnF x s rel left from rfl,show tuF x s rel left=tuN x.us s.us (plnF x s rel left) x.us.length from rfl]
 generalize plnF x s rel left=F at hpl hT⊢
 conv=>whnf
 refine ⟨rfl, ?_⟩
 conv=>whnf
 refine ⟨by exact g0, ?_⟩
 refine LSem.adoptF 0 15 1000000 246 3 3 _ rfl rfl rfl ?_
 refine LSem.loop (n:=141) mix (α:=Nat) (fun i=>i≤x.us.length)
  (fun i=> [(0, .pt 0 0 0),(3, .sl 0 1 F.1.length (fl eInt F.1)),(4, .int .i64 F.2),(50, .sl 1 6 x.us.length (fl (eUt 0) x.us)),(51, .int .i64 x.us.length),(52, .int .i64 i)])
  (fun i=> [(0, .box (eWk x s nv nr inf loss (tuN x.us s.us F i).t 0 0 (tuN x.us s.us F i).pw (tuN x.us s.us F i).st rel left lev (.os 1000000) (.nil 2))),(1000000, .row 0 246 3 i (fl eUs (tuN x.us s.us F i).us))]) (fun i=>x.us.length - i) 0 (Nat.zero_le _) ?_ ?_
 ·refine ⟨rfl,rfl, ?_, ?_⟩
  ·exact ent
  ·rw [show tuN x.us s.us F 0=⟨0,0,0, []⟩ from rfl]
   exact ent
 intro i hi
 have hj:((i:Int)).toNat=i:=by omega
 have hti:=hT i hi
 conv=>whnf
 refine ⟨trivial,fun hc=> ?_,fun hc=> ?_⟩
 ·replace hc:=of_decide_eq_true hc
  have hlt:i<x.us.length:=by
   have h:(i:Int)<x.us.length:=hc
   omega
  have hlt2:i<s.us.length:=by omega
  have hq:=plq_rng hs.us hpl hlt
  have hu:=hs.us.ok i hlt
  have hf:=((fitsU_iff _ _).1 (hs.us.fit i hlt)).1
  have hst:tuN x.us s.us F (i+1)=tuS (x.us.getD i default) (s.us.getD i default) (plq F i) (tuN x.us s.us F i):=rfl
  obtain ⟨t1,t2,t3,t4,_⟩:=hti
  generalize tuN x.us s.us F i=a at hst t1 t2 t3 t4⊢
  conv=>whnf
  rw [hj]
  refine ⟨by exact g0, ?_⟩
  refine LSem.meet (n:=141) mix (α:=Unit) (fun _=>True)
   (fun _=> [(0, .pt 0 0 0),(3, .sl 0 1 F.1.length (fl eInt F.1)),(4, .int .i64 F.2),(5, .int .i64 i),(6, .pt 96 0 0),(7, .int .i64 (plq F i)),(50, .sl 1 6 x.us.length (fl (eUt 0) x.us)),(51, .int .i64 x.us.length),(52, .int .i64 i)])
   (fun _=> [(0, .box (eWk x s nv nr inf loss a.t 0 0 a.pw a.st rel left lev (.os 1000000) (.nil 2))),(96, .box (eUt 1 (x.us.getD i default))),(1000000, .row 0 246 3 i (fl eUs a.us))]) ?_ ?_
  ·conv=>whnf
   refine ⟨by exact g0,fun he=> ?_,fun he=> ?_⟩
   ·have he:(F.2==0)=true:=he
    have he:F.2=0:=by simpa using he
    have hql:i<F.1.length:=by
     rcases hpl with ⟨_,hl,_⟩ | hpl
     ·omega
     ·exact absurd he hpl
    have eq:plq F i=F.1.getD i default:=by unfold plq;rw [if_pos he]
    conv=>whnf
    rw [eq,hj]
    refine ⟨by exact g0,(),trivial,rfl,rfl, ?_, ?_⟩<;>exact ent
   ·have he:(F.2==0)=false:=he
    have he:F.2≠0:=by simpa using he
    have eq:plq F i=0:=by unfold plq;rw [if_neg he]
    conv=>whnf
    rw [eq]
    refine ⟨by exact g0,(),trivial,rfl,rfl, ?_, ?_⟩<;>exact ent
  intro _ _
  generalize x.us.getD i default=u at hst hu⊢
  generalize plq F i=q at hst hq⊢
  conv=>whnf
  rw [hj]
  have hw:=powU_rng hu q
  unfold tuS nxT at hst
  generalize hv:s.us.getD i default=v at hst hf⊢
  refine ⟨_,fun _=>call182 _ u v q hu ⟨by omega,by omega⟩, ?_⟩
  generalize nxtU u v q=X at hst⊢
  conv=>whnf
  refine ⟨rfl, ?_⟩
  conv=>whnf
  refine ⟨by exact g0, ?_⟩
  refine LSem.meet (n:=141) mix (α:=Unit) (fun _=>True)
   (fun _=> [(0, .pt 0 0 0),(3, .sl 0 1 F.1.length (fl eInt F.1)),(4, .int .i64 F.2),(6, .pt 96 0 0),(7, .int .i64 q),(8, .pt 128 0 0),(9, .bool X.2.1),(50, .sl 1 6 x.us.length (fl (eUt 0) x.us)),(51, .int .i64 x.us.length),(52, .int .i64 i)])
   (fun _=> [(0, .box (eWk x s nv nr inf loss a.t 0 0 a.pw a.st rel left lev (.os 1000000) (.nil 2))),(96, .box (eUt 1 u)),(128, .box (eUs (if X.2.2=0 then X.1 else ⟨0,1,v.out⟩))),(1000000, .row 0 246 3 i (fl eUs a.us))]) ?_ ?_
  ·conv=>whnf
   refine ⟨by exact g0,fun he=> ?_,fun he=> ?_⟩
   ·have he:(X.2.2 != 0)=true:=he
    rw [if_neg (by simpa using he)]
    conv=>whnf
    rw [hj]
    subst hv
    conv=>whnf
    refine ⟨by exact g0,(),trivial,rfl,rfl, ?_, ?_⟩<;>exact ent
   ·have he:(X.2.2 != 0)=false:=he
    rw [if_pos (by simpa using he)]
    conv=>whnf
    refine ⟨by exact g0,(),trivial,rfl,rfl, ?_, ?_⟩<;>exact ent
  intro _ _
  generalize (if X.2.2=0 then X.1 else ⟨0,1,v.out⟩)=y at hst⊢
  conv=>whnf
  refine ⟨_,fun _=>call183 _ u q hu, ?_⟩
  generalize powU u q=W at hst hw⊢
  conv=>whnf
  refine ⟨rfl, ?_⟩
  conv=>whnf
  refine ⟨by exact g0,fun he=> ?_,fun he=> ?_⟩
  ·have he:X.2.1=true:=he
   rw [if_pos he] at hst
   conv=>whnf
   refine ⟨rfl, ?_⟩
   conv=>whnf
   have qq:=fl_push eUs a.us y
   rw [t4] at qq
   refine ⟨by exact g0,i+1,hlt,by omega,rfl,rfl, ?_, ?_⟩
   ·exact ent
   ·rw [hst];exact ent
  ·have he:X.2.1=false:=he
   rw [if_neg (by rw [he];decide)] at hst
   conv=>whnf
   refine ⟨rfl, ?_⟩
   conv=>whnf
   have qq:=fl_push eUs a.us y
   rw [t4] at qq
   refine ⟨by exact g0,i+1,hlt,by omega,rfl,rfl, ?_, ?_⟩
   ·exact ent
   ·rw [hst];exact ent
 ·replace hc:=of_decide_eq_false hc
  have hk:i=x.us.length:=by
   have h:¬(i:Int)<x.us.length:=hc
   omega
  subst hk
  generalize tuN x.us s.us F x.us.length=A
  conv=>whnf
  exact retB
def c226:C:=(sr [kk 4 (.mv cf)] (sr [kl 5 1,kt 6 2 2,km 7 0,kk 8 (.call 5 [6,7]),km 4 8] .ret))
theorem fits226:fits Tryz.prog false Tryz.f226 3 9 [(4,none)]=some c226.er:=by kernel_rfl
def c277:C:=(sr [kk 4 (.mv cf)] (sr [kl 5 1,kf 6 0 2,kl 7 6,km 8 0,kb 9 .add 7 8,kk 10 (.call 5 [9]),km 4 10] .ret))
theorem fits277:fits Tryz.prog false Tryz.f277 3 11 [(4,none)]=some c277.er:=by kernel_rfl
def c276L1:C:=(.seq (sr [km 9 5,km 10 6,kb 11 .lss 9 10] (.cond 11 .skip (.exit 0))) (.block 1 (sr [km 12 5,km 13 6,kb 14 .add 12 13,kk 15 (.cv false .u64 14),kk 16 (.bi false .shr 15 (.c (.int .u64 1))),kk 17 (.cv false .i64 16),km 7 17] (sr [km 18 1,km 19 7,kk 20 (.call 18 [19]),kk 21 (.un false .not 20)] (.cond 21 (.reg [km 22 7,kb 23 .add 22 (cn 1),km 5 23]) (.reg [km 24 7,km 6 24]))))))
def c276:C:=(sr [kk 4 (.mv (cn 0))] (sr [km 8 0,kk 5 (.mv (cn 0)),km 6 8] (.seq (.block 0 (.loop c276L1)) (sr [km 25 5,km 4 25] .ret))))
theorem fits276:fits Tryz.prog false Tryz.f276 2 26 [(4,none)]=some c276.er:=by kernel_rfl
def c225:C:=(sr [kk 2 (.bx 2 0),kk 3 (.bx 1 1),kk 4 (.mv (cn 0))] (.seq (.drw [kf 5 0 2,kl 6 5,kf 7 1 2,kl 8 7,kf 9 0 2,kl 10 9,kb 11 .sub 8 10,kb 12 .add 11 (cn 1),kk 13 (.mf (.func 277) [] [3,2]),kc 14 276 [12,13],kb 15 .add 6 14,kf 16 1 2,kl 17 16,kk 18 (.mn [15,17]),km 4 18] (pl [(0,[2,3,4,5,6,7,8,9,11,12],5),(1,[2,3,4,5,6,7,8,9,11,12],6),(2,[4,5,8,11,12],7),(3,[4,5,8,11,12],8),(4,[8,11,12],9),(5,[8,11,12],10),(6,[8,11,12],11),(7,[8,11,12],12),(8,[11,12],13),(9,[11,12],14),(10,[11,12],15)])) .ret))
theorem fits225:fits Tryz.prog false Tryz.f225 2 19 [(4,none)]=some c225.er:=by kernel_rfl
def c220L1:C:=(sr [kb 25 .lss 24 23] (.seq (.cond 25 .skip (.exit 0)) (.seq (.block 1 (sr [km 26 24,ki 27 3 22 24,kt 28 3 27,kk 11 (.al [(.nil 2),z0,z0]),km 10 26,kx 3 11 28] (.seq (.drw [kt 29 3 11,km 30 2,kc 31 222 [29,30],kt 32 3 11,km 33 1,km 34 10,ki 35 2 33 34,kt 36 2 35,kc 37 223 [32,36],kk 12 (.al [(.nil 2),z0]),kk 13 (.al [z0,z0]),kx 2 12 31,kx 2 13 37] (pl [(0,[1,3,4,5,6,7,9,10],29),(1,[3,4,5,6,7,9,10],30),(2,[3,4,5,6,7,9,10],31),(3,[4,5,6,7,9,10],32),(4,[5,9,10],33),(5,[9,10],34),(6,[9,10],35),(7,[9,10],36),(8,[9,10],37),(9,[10],12)])) (.drw [kf 38 0 9,kl 39 38,kt 40 2 12,kf 41 0 13,kl 42 41,kc 43 224 [40,42],kb 44 .add 39 43,kf 45 1 9,kl 46 45,kt 47 2 12,kf 48 1 13,kl 49 48,kc 50 224 [47,49],kb 51 .add 46 50,kf 52 0 9,kx 1 52 44,kf 53 1 9,kx 1 53 51] (pl [(0,[2,3,4,5,7,8,9,10,11,12,13],38),(1,[2,3,4,5,7,8,9,10,11,12,13],39),(2,[3,4,7,8,9,10,11],40),(3,[7,8,9,10,11],41),(4,[7,8,9,10,11],42),(5,[7,8,9,10,11],43),(6,[7,8,9,10,11,12,13],44),(7,[9,10,11,12],45),(8,[9,10,11,12],46),(9,[10,11,14],47),(10,[14],48),(11,[14],49),(12,[14],50),(13,[14,15],51)]))))) (.reg [kb 54 .add 24 (cn 1),km 24 54]))))
def c220:C:=(sr [kk 6 (.al [z0,z0]),kk 7 (.mv (cn 0))] (.seq (sr [km 14 0,km 15 1,km 16 2,kc 17 275 [14,15,16],km 8 17] (sr [km 18 8,kb 19 .neq 18 (cn 0)] (.cond 19 (sr [kk 20 (.bd [z0,z0] []),km 21 8,kx 2 6 20,km 7 21] .ret) .skip))) (sr [kk 9 (.al [z0,z0])] (.seq (sr [km 22 0,kk 23 (.len 22),kk 24 (.mv (cn 0))] (.block 0 (.loop c220L1))) (sr [kt 55 2 9,kx 2 6 55,kk 7 (.mv (cn 0))] .ret)))))
theorem fits220:fits Tryz.prog false Tryz.f220 3 56 [(6,some (2,true)),(7,none)]=some c220.er:=by kernel_rfl
def c179L1:C:=(sr [kb 39 .lss 38 37] (.seq (.cond 39 .skip (.exit 0)) (.seq (.block 1 (sr [km 40 38,ki 41 3 36 38,kt 42 3 41,kk 17 (.al [(.nil 2),z0,z0]),km 16 40,kx 3 17 42] (.seq (.drw [kt 43 3 17,km 44 2,kc 45 222 [43,44],kt 46 3 17,km 47 1,km 48 16,ki 49 2 47 48,kt 50 2 49,kc 51 223 [46,50],kk 18 (.al [(.nil 2),z0]),kk 19 (.al [z0,z0]),kx 2 18 45,kx 2 19 51] (pl [(0,[1,3,4,5,6,7,9,10],43),(1,[3,4,5,6,7,9,10],44),(2,[3,4,5,6,7,9,10],45),(3,[4,5,6,7,9,10],46),(4,[5,9,10],47),(5,[9,10],48),(6,[9,10],49),(7,[9,10],50),(8,[9,10],51),(9,[10],18)])) (sr [kf 52 0 19,kl 53 52,km 20 53] (.seq (sr [km 54 13,km 55 3,kb 56 .lss 54 55] (.cond 56 (sr [km 57 13,kt 58 2 18,km 59 20,kc 60 224 [58,59],kb 61 .sub 57 60,km 13 61] (sr [km 62 3,km 63 13,kb 64 .sub 62 63,kf 65 1 18,kx 1 65 64] (sr [kt 66 2 19,kk 67 (.mf (.func 226) [] [14,18]),kc 68 225 [66,67],km 20 68] (.reg [km 69 13,kt 70 2 18,km 71 20,kc 72 224 [70,71],kb 73 .add 69 72,km 13 73])))) .skip)) (.reg [km 74 15,km 75 20,km 76 1,km 77 16,ki 78 2 76 77,kf 79 1 78,kl 80 79,kk 81 (.bd [z0,(.bool false)] [(0,1,75),(1,1,80)]),kk 82 (.bs 250 2 [81]),kk 83 (.app 250 2 16 74 82),km 15 83])))))) (.reg [kb 84 .add 38 (cn 1),km 38 84]))))
def c179:C:=(sr [kk 8 (.mv (.c (.nil 2))),kk 9 (.mv (cn 0)),kk 10 (.mv (cn 0))] (sr [km 22 0,km 23 1,km 24 2,kc 25 220 [22,23,24],km 21 25,ke 26 21 0,ke 27 21 1,kk 11 (.al [z0,z0]),kx 2 11 26,km 12 27] (.seq (sr [km 28 12,kb 29 .neq 28 (cn 0)] (.cond 29 (sr [km 30 12,kk 8 (.mv (.c (.nil 2))),kk 9 (.mv (cn 0)),km 10 30] .ret) .skip)) (.seq (sr [km 31 3,kc 32 56 [31,(cn 1073741824)],kk 33 (.un false .not 32)] (.cond 33 (sr [kk 8 (.mv (.c (.nil 2))),kk 9 (.mv (cn 0)),kk 10 (.mv (cn 1))] .ret) .skip)) (sr [kf 34 0 11,kl 35 34,km 13 35] (sr [kk 14 (.al [(.raw .nilFunc)]),kz (.st 1 14 (.c (.fn (.func 221) [] [])))] (sr [kk 15 (.mv (.c (.nil 2)))] (.seq (sr [km 36 0,kk 37 (.len 36),kk 38 (.mv (cn 0))] (.block 0 (.loop c179L1))) (sr [km 85 15,km 86 13,km 8 85,km 9 86,kk 10 (.mv (cn 0))] .ret)))))))))
theorem fits179:fits Tryz.prog false Tryz.f179 4 87 [(8,none),(9,none),(10,none)]=some c179.er:=by kernel_rfl
def rVw (τ:Nat) (c:List Pt) (w:Int):PV:= .rp 2 [.sl τ 2 c.length (fl ePt c), .int .i64 w]
theorem call226 (τ:Nat) (c:List Pt) (w o:Int) (h:VOK c):PureCall Tryz.prog 226 [.int .i64 o, .rp 2 [.fn (.func 221) [] []],rVw τ c w] [] ⟨.bool (decide (w≤flwV c o)), [], []⟩:=by
 refine pure_call mix Tryz.func226 fits226 rfl ?_
 conv=>whnf
 refine ⟨_,fun _=>call221 _ c w o h, ?_⟩
 conv=>whnf
 exact ret
def F226 (τ:Nat) (c:List Pt) (w:Int):PV:= .fn (.func 226) [] [.rp 2 [.fn (.func 221) [] []],rVw τ c w]
theorem call277 (τ:Nat) (c:List Pt) (w:Int) (b:Bnd) (o:Int) (h:VOK c) (ho: -4611686018427387904≤b.lo+o∧b.lo+o≤4611686018427387904):PureCall Tryz.prog 277 [.int .i64 o, .rp 2 [F226 τ c w], .rp 2 (eBnd b)] [] ⟨.bool (decide (w≤flwV c (b.lo+o))), [], []⟩:=by
 refine pure_call mix Tryz.func277 fits277 rfl ?_
 conv=>whnf
 refine ⟨_,fun _=>call226 _ c w (b.lo+o) h, ?_⟩
 conv=>whnf
 exact ret
def srchF (p:Int→Bool):Nat→Int→Int→Int
 | 0,i,_=>i
 | n+1,i,j=>if i<j then (if p ((i+j) / 2)=true then srchF p n i ((i+j) / 2) else srchF p n ((i+j) / 2+1) j) else i
theorem srchF_rng (p:Int→Bool):∀(n:Nat) (i j:Int),i≤j→i≤srchF p n i j∧srchF p n i j≤j
 | 0,i,j,h=>⟨Int.le_refl _,h⟩
 | n+1,i,j,h=>by
   unfold srchF
   split
   ·split
    ·have:=srchF_rng p n i ((i+j) / 2) (by omega)
     omega
    ·have:=srchF_rng p n ((i+j) / 2+1) j (by omega)
     omega
   ·omega
def lstP (c:List Pt) (w:Int) (b:Bnd) (o:Int):Bool:=decide (w≤flwV c (b.lo+o))
theorem call276 (τ:Nat) (c:List Pt) (w:Int) (b:Bnd) (n:Nat) (h:VOK c) (hn:n≤100000) (hb:0≤b.lo∧b.lo≤100000):
  PureCall Tryz.prog 276 [.int .i64 n, .fn (.func 277) [] [.rp 2 [F226 τ c w], .rp 2 (eBnd b)]] [] ⟨.int .i64 (srchF (lstP c w b) n 0 n), [], []⟩:=by
 obtain ⟨R,hR⟩:∃R,R=srchF (lstP c w b) n 0 n:=⟨_,rfl⟩
 rw [←hR]
 refine pure_call mix Tryz.func276 fits276 rfl ?_
 conv=>whnf
 refine ⟨trivial, ?_⟩
 refine LSem.loop (n:=26) mix (α:=Nat×Int×Int) (fun x=>srchF (lstP c w b) x.1 x.2.1 x.2.2=R∧0≤x.2.1∧x.2.1≤x.2.2∧x.2.2≤100000∧x.2.2 - x.2.1≤x.1)
  (fun x=> [(1, .fn (.func 277) [] [.rp 2 [F226 τ c w], .rp 2 (eBnd b)]),(5, .int .i64 x.2.1),(6, .int .i64 x.2.2)])
  (fun _=> []) (fun x=>(x.2.2 - x.2.1).toNat) (n,0,(n:Int)) ⟨hR.symm,by dsimp only;omega,by dsimp only;omega,by dsimp only;omega,by dsimp only;omega⟩ ?_ ?_
 ·refine ⟨rfl,rfl, ?_, ?_⟩<;>exact ent
 rintro ⟨m,i,j⟩ ⟨h1,h2,h3,h4,h5⟩
 dsimp only at h1 h2 h3 h4 h5
 conv=>whnf
 refine ⟨by exact g0,fun hc=> ?_,fun hc=> ?_⟩
 ·replace hc:=of_decide_eq_true hc
  have hc:i<j:=hc
  obtain ⟨m,rfl⟩:∃k,m=k+1:=⟨m - 1,by omega⟩
  have hm:0≤(i+j) / 2∧i≤(i+j) / 2∧(i+j) / 2<j:=by omega
  have hs:srchF (lstP c w b) (m+1) i j=if lstP c w b ((i+j) / 2)=true then srchF (lstP c w b) m i ((i+j) / 2) else srchF (lstP c w b) m ((i+j) / 2+1) j:=by rw [srchF,if_pos hc]
  conv=>whnf
  dsimp only
  refine ⟨_,fun _=>call277 τ c w b ((i+j) / 2) h (by omega), ?_⟩
  conv=>whnf
  have hl:lstP c w b ((i+j) / 2)=decide (w≤flwV c (b.lo+(i+j) / 2)):=rfl
  refine ⟨⟨⟨⟨⟨⟨trivial,by exact g0⟩,show (0:Int)≤i+j∧i+j≤18446744073709551615 by omega⟩,rfl⟩,by exact g0⟩,trivial⟩,fun hd=> ?_,fun hd=> ?_⟩
  ·have hd:(!decide (w≤flwV c (b.lo+(i+j) / 2)))=true:=hd
   rw [←hl] at hd
   rw [if_neg (by simpa using hd)] at hs
   conv=>whnf
   refine ⟨by exact g0,(m,(i+j) / 2+1,j),⟨hs.symm.trans h1,by dsimp only;omega,by dsimp only;omega,by dsimp only;omega,by dsimp only;omega⟩,by dsimp only;omega,rfl,rfl, ?_, ?_⟩<;>exact ent
  ·have hd:(!decide (w≤flwV c (b.lo+(i+j) / 2)))=false:=hd
   rw [←hl] at hd
   rw [if_pos (by simpa using hd)] at hs
   conv=>whnf
   refine ⟨by exact g0,(m,i,(i+j) / 2),⟨hs.symm.trans h1,by dsimp only;omega,by dsimp only;omega,by dsimp only;omega,by dsimp only;omega⟩,by dsimp only;omega,rfl,rfl, ?_, ?_⟩<;>exact ent
 ·replace hc:=of_decide_eq_false hc
  have hc:¬i<j:=hc
  have e:R=i:=by
   rw [←h1]
   cases m with
   | zero=>rfl
   | succ m=>rw [srchF,if_neg hc]
  subst e
  conv=>whnf
  exact ret
def lstF (c:List Pt) (w:Int) (b:Bnd):Int:=mn (b.lo+srchF (lstP c w b) (b.hi - b.lo+1).toNat 0 ((b.hi - b.lo+1).toNat)) b.hi
theorem lstF_rng {c:List Pt} {w:Int} {b:Bnd} (h:b.lo≤b.hi):b.lo≤lstF c w b∧lstF c w b≤b.hi:=by
 have:=srchF_rng (lstP c w b) (b.hi - b.lo+1).toNat 0 ((b.hi - b.lo+1).toNat) (by omega)
 unfold lstF mn
 split<;>omega
theorem call225 (τ:Nat) (c:List Pt) (w:Int) (b:Bnd) (h:VOK c) (hb:0≤b.lo∧b.lo≤b.hi∧b.hi≤1000):
  PureCall Tryz.prog 225 [.agg (eBnd b),F226 τ c w] [] ⟨.int .i64 (lstF c w b), [], []⟩:=by
 have hr:=srchF_rng (lstP c w b) (b.hi - b.lo+1).toNat 0 ((b.hi - b.lo+1).toNat) (by omega)
 have hn:(((b.hi - b.lo+1).toNat:Nat):Int)=b.hi - b.lo+1:=by omega
 have hc:=call276 τ c w b (b.hi - b.lo+1).toNat h (by omega) (by omega)
 unfold lstF
 generalize srchF (lstP c w b) (b.hi - b.lo+1).toNat 0 ((b.hi - b.lo+1).toNat)=S at hr hc⊢
 rw [hn] at hc hr
 refine pure_call mix Tryz.func225 fits225 rfl ?_
 conv=>whnf
 refine ⟨_,fun _=>hc, ?_⟩
 conv=>whnf
 refine ⟨rfl, ?_⟩
 conv=>whnf
 exact ret
def rngN (gs:List Ga) (ss:List Gs) (level:Int):Nat→Int×Int
 | 0=>(0,0)
 | i+1=>((rngN gs ss level i).1+flwV (atG (gs.getD i default) level) (rchG (gs.getD i default) (ss.getD i default)).lo,(rngN gs ss level i).2+flwV (atG (gs.getD i default) level) (rchG (gs.getD i default) (ss.getD i default)).hi)
theorem rngN_rng {gs:List Ga} {ss:List Gs} (level:Int) (h:GsOK gs ss):∀i:Nat,i≤gs.length→0≤(rngN gs ss level i).1∧(rngN gs ss level i).1≤10000*i∧0≤(rngN gs ss level i).2∧(rngN gs ss level i).2≤10000*i
 | 0,_=>by unfold rngN;omega
 | i+1,hi=>by
   have ih:=rngN_rng level h i (by omega)
   have a:=flwV_rng (atG_v (h.ok i hi) level) (rchG (gs.getD i default) (ss.getD i default)).lo
   have b:=flwV_rng (atG_v (h.ok i hi) level) (rchG (gs.getD i default) (ss.getD i default)).hi
   unfold rngN
   dsimp only
   omega
theorem rchG_rng {g:Ga} {s:Gs} (h:GOK g) (hs:0≤s.op∧s.op≤g.most):0≤(rchG g s).lo∧(rchG g s).lo≤(rchG g s).hi∧(rchG g s).hi≤g.most:=by
 have hm:=h.move
 unfold rchG mx mn
 split
 ·dsimp only;omega
 ·dsimp only;split<;>split<;>omega
theorem call220 (τ τ':Nat) (gs:List Ga) (ss:List Gs) (level:Int) (h:GsOK gs ss) (hv:0≤level∧level≤16777216):
  PureCall Tryz.prog 220 [.sl τ 3 gs.length (fl (eGa 0) gs), .sl τ' 2 ss.length (fl eGs ss), .int .i64 level] [] ⟨.tup [.agg [.int .i64 (rngN gs ss level gs.length).1, .int .i64 (rngN gs ss level gs.length).2], .int .i64 0], [], []⟩:=by
 have hle:=h.le
 have hl:=h.len
 refine pure_call mix Tryz.func220 fits220 rfl ?_
 conv=>whnf
 refine ⟨_,fun _=>call275 _ _ gs ss level h hv, ?_⟩
 conv=>whnf
 refine ⟨by exact g0,fun h=>(by cases h),fun _=> ?_⟩
 conv=>whnf
 refine ⟨by exact g0, ?_⟩
 refine LSem.loop (n:=56) mix (α:=Nat) (fun i=>i≤gs.length)
  (fun i=> [(0, .sl τ 3 gs.length (fl (eGa 0) gs)),(1, .sl τ' 2 ss.length (fl eGs ss)),(2, .int .i64 level),(6, .pt 96 0 0),(9, .pt 144 0 0),(22, .sl τ 3 gs.length (fl (eGa 0) gs)),(23, .int .i64 gs.length),(24, .int .i64 i)])
  (fun i=> [(96, .box [.int .i64 0, .int .i64 0]),(144, .box [.int .i64 (rngN gs ss level i).1, .int .i64 (rngN gs ss level i).2])]) (fun i=>gs.length - i) 0 (Nat.zero_le _) ?_ ?_
 ·refine ⟨rfl,rfl, ?_, ?_⟩<;>exact ent
 intro i hi
 have hj:((i:Int)).toNat=i:=by omega
 have hri:=rngN_rng level h i hi
 conv=>whnf
 refine ⟨trivial,fun hc=> ?_,fun hc=> ?_⟩
 ·replace hc:=of_decide_eq_true hc
  have hlt:i<gs.length:=by
   have h:(i:Int)<gs.length:=hc
   omega
  have hlt2:i<ss.length:=by omega
  have hoi:=h.op i hlt
  have hgi:=h.ok i hlt
  have hmi:=hgi.most
  have hs:rngN gs ss level (i+1)=((rngN gs ss level i).1+flwV (atG (gs.getD i default) level) (rchG (gs.getD i default) (ss.getD i default)).lo,(rngN gs ss level i).2+flwV (atG (gs.getD i default) level) (rchG (gs.getD i default) (ss.getD i default)).hi):=rfl
  generalize rngN gs ss level i=A at hs hri⊢
  conv=>whnf
  rw [hj]
  generalize gs.getD i default=g at hoi hgi hmi hs⊢
  refine ⟨_,fun _=>call222 _ g level hgi, ?_⟩
  conv=>whnf
  rw [hj]
  generalize ss.getD i default=s at hoi hs⊢
  refine ⟨_,fun _=>call223 _ g s hgi (by omega), ?_⟩
  conv=>whnf
  refine ⟨rfl, ?_⟩
  have hV:=atG_v hgi level
  generalize atG g level=c at hs hV⊢
  generalize rchG g s=b at hs⊢
  have f1:=flwV_rng hV b.lo
  have f2:=flwV_rng hV b.hi
  conv=>whnf
  refine ⟨_,fun _=>call224 _ c 0 b.lo hV, ?_⟩
  conv=>whnf
  refine ⟨_,fun _=>call224 _ c 0 b.hi hV, ?_⟩
  conv=>whnf
  refine ⟨rfl, ?_⟩
  conv=>whnf
  refine ⟨by exact g0,i+1,hlt,by omega,rfl,rfl, ?_, ?_⟩
  ·exact ent
  ·rw [hs];exact ent
 ·replace hc:=of_decide_eq_false hc
  have hk:i=gs.length:=by
   have h:¬(i:Int)<gs.length:=hc
   omega
  subst hk
  generalize rngN gs ss level gs.length=A
  conv=>whnf
  exact ret
def stG (level wanted:Int) (x:Int×List Gs) (g:Ga) (s:Gs):Int×List Gs:=
 if x.1<wanted then (x.1 - flwV (atG g level) (rchG g s).lo+flwV (atG g level) (lstF (atG g level) (wanted - (x.1 - flwV (atG g level) (rchG g s).lo)) (rchG g s)),
  x.2++ [⟨lstF (atG g level) (wanted - (x.1 - flwV (atG g level) (rchG g s).lo)) (rchG g s),s.jam⟩]) else (x.1,x.2++ [⟨(rchG g s).lo,s.jam⟩])
def setN (gs:List Ga) (ss:List Gs) (level wanted:Int):Nat→Int×List Gs
 | 0=>((rngN gs ss level gs.length).1, [])
 | i+1=>stG level wanted (setN gs ss level wanted i) (gs.getD i default) (ss.getD i default)
structure SetOK (gs:List Ga) (ss:List Gs) (level:Int) (i:Nat) (x:Int×List Gs):Prop where
 lo:0≤x.1 - (rngN gs ss level gs.length).1+(rngN gs ss level i).1
 hi:x.1≤(rngN gs ss level gs.length).1+10000*i
 len:x.2.length=i
 op:∀k,k<i→0≤(x.2.getD k default).op∧(x.2.getD k default).op≤(gs.getD k default).most
theorem setN_ok {gs:List Ga} {ss:List Gs} (level wanted:Int) (h:GsOK gs ss):∀i:Nat,i≤gs.length→SetOK gs ss level i (setN gs ss level wanted i)
 | 0,_=>⟨by unfold setN rngN;dsimp only;omega,by unfold setN;dsimp only;omega,rfl,fun k hk=>by omega⟩
 | i+1,hi=>by
   obtain ⟨h1,h2,h3,h4⟩:=setN_ok level wanted h i (by omega)
   have hV:=atG_v (h.ok i hi) level
   have hr:=rchG_rng (h.ok i hi) (h.op i hi)
   have hl:=lstF_rng (c:=atG (gs.getD i default) level) (w:=wanted - ((setN gs ss level wanted i).1 - flwV (atG (gs.getD i default) level) (rchG (gs.getD i default) (ss.getD i default)).lo)) hr.2.1
   have f1:=flwV_rng hV (rchG (gs.getD i default) (ss.getD i default)).lo
   have f2:=flwV_rng hV (lstF (atG (gs.getD i default) level) (wanted - ((setN gs ss level wanted i).1 - flwV (atG (gs.getD i default) level) (rchG (gs.getD i default) (ss.getD i default)).lo)) (rchG (gs.getD i default) (ss.getD i default)))
   have hR:(rngN gs ss level (i+1)).1=(rngN gs ss level i).1+flwV (atG (gs.getD i default) level) (rchG (gs.getD i default) (ss.getD i default)).lo:=rfl
   have get:∀(l:List Gs) (y:Gs) (k:Nat),l.length=i→(l++ [y]).getD k default=if k<i then l.getD k default else if k=i then y else default:=fun l y k e=>by rw [getD_push,e]
   unfold setN stG
   generalize setN gs ss level wanted i=x at h1 h2 h3 h4 hl f2⊢
   split
   ·refine ⟨by dsimp only;omega,by dsimp only;omega,by simp [h3],fun k hk=> ?_⟩
    dsimp only
    rw [get _ _ _ h3]
    split
    ·exact h4 k (by assumption)
    ·rw [if_pos (by omega),show k=i by omega]
     dsimp only
     omega
   ·refine ⟨by dsimp only;omega,by dsimp only;omega,by simp [h3],fun k hk=> ?_⟩
    dsimp only
    rw [get _ _ _ h3]
    split
    ·exact h4 k (by assumption)
    ·rw [if_pos (by omega),show k=i by omega]
     dsimp only
     omega
theorem call179 (gs:List Ga) (ss:List Gs) (level wanted:Int) (h:GsOK gs ss) (hv:0≤level∧level≤16777216) (hw:0≤wanted∧wanted≤1073741824):
  PureCall Tryz.prog 179 [.sl 2 3 gs.length (fl (eGa 0) gs), .sl 2 2 ss.length (fl eGs ss), .int .i64 level, .int .i64 wanted] []
   ⟨.tup [.sl 0 2 gs.length (fl eGs (setN gs ss level wanted gs.length).2), .int .i64 (setN gs ss level wanted gs.length).1, .int .i64 0], [], []⟩:=by
 have hle:=h.le
 have hl:=h.len
 have hrn:=rngN_rng level h gs.length (Nat.le_refl _)
 refine pure_call mix Tryz.func179 fits179 rfl ?_
 conv=>whnf
 refine ⟨_,fun _=>call220 _ _ gs ss level h hv, ?_⟩
 have hs0:setN gs ss level wanted 0=((rngN gs ss level gs.length).1, []):=rfl
 have hso:=fun i (hi:i≤gs.length)=>setN_ok level wanted h i hi
 have hri:=fun i (hi:i≤gs.length)=>rngN_rng level h i hi
 conv=>whnf
 refine ⟨by exact g0,fun h=>(by cases h),fun _=> ?_⟩
 conv=>whnf
 refine ⟨_,fun _=>G02.call56 wanted 1073741824, ?_⟩
 rw [decide_eq_true hw]
 conv=>whnf
 refine ⟨by exact g0,fun h=>(by cases h),fun _=> ?_⟩
 conv=>whnf
 refine ⟨by exact g0, ?_⟩
 refine LSem.adopt 15 1000000 250 2 2 rfl rfl ?_
 refine LSem.loop (n:=87) mix (α:=Nat) (fun i=>i≤gs.length)
  (fun i=> [(0, .sl 2 3 gs.length (fl (eGa 0) gs)),(1, .sl 2 2 ss.length (fl eGs ss)),(2, .int .i64 level),(3, .int .i64 wanted),(13, .int .i64 (setN gs ss level wanted i).1),(14, .pt 224 0 0),(15, .os 1000000),(36, .sl 2 3 gs.length (fl (eGa 0) gs)),(37, .int .i64 gs.length),(38, .int .i64 i)])
  (fun i=> [(224, .box [.fn (.func 221) [] []]),(1000000, .row 0 250 2 i (fl eGs (setN gs ss level wanted i).2))]) (fun i=>gs.length - i) 0 (Nat.zero_le _) ?_ ?_
 ·refine ⟨rfl,rfl, ?_, ?_⟩<;>exact ent
 intro i hi
 have hj:((i:Int)).toNat=i:=by omega
 have ho:=hso i hi
 have hr2:=hri i hi
 conv=>whnf
 refine ⟨trivial,fun hc=> ?_,fun hc=> ?_⟩
 ·replace hc:=of_decide_eq_true hc
  have hlt:i<gs.length:=by
   have h:(i:Int)<gs.length:=hc
   omega
  have hlt2:i<ss.length:=by omega
  have hoi:=h.op i hlt
  have hgi:=h.ok i hlt
  have hmi:=hgi.most
  have hs:setN gs ss level wanted (i+1)=stG level wanted (setN gs ss level wanted i) (gs.getD i default) (ss.getD i default):=rfl
  have h1:=ho.lo
  have h2:=ho.hi
  have h3:=ho.len
  clear ho
  generalize setN gs ss level wanted i=x at hs h1 h2 h3⊢
  conv=>whnf
  rw [hj]
  generalize gs.getD i default=g at hoi hgi hmi hs⊢
  refine ⟨_,fun _=>call222 _ g level hgi, ?_⟩
  conv=>whnf
  rw [hj]
  generalize hsd:ss.getD i default=s at hoi hs⊢
  refine ⟨_,fun _=>call223 _ g s hgi (by omega), ?_⟩
  conv=>whnf
  refine ⟨rfl, ?_⟩
  have hV:=atG_v hgi level
  have hR:=rchG_rng hgi hoi
  unfold stG at hs
  generalize atG g level=c at hs hV⊢
  generalize rchG g s=b at hs hR⊢
  have f1:=flwV_rng hV b.lo
  conv=>whnf
  refine ⟨by exact g0,fun hd=> ?_,fun hd=> ?_⟩
  ·have hd:decide (x.1<wanted)=true:=hd
   rw [if_pos (of_decide_eq_true hd)] at hs
   conv=>whnf
   refine ⟨_,fun _=>call224 _ c 0 b.lo hV, ?_⟩
   conv=>whnf
   have hL:=lstF_rng (c:=c) (w:=wanted - (x.1 - flwV c b.lo)) hR.2.1
   refine ⟨_,fun _=>call225 _ c (wanted - (x.1 - flwV c b.lo)) b hV (by omega), ?_⟩
   generalize lstF c (wanted - (x.1 - flwV c b.lo)) b=o at hs hL⊢
   have f2:=flwV_rng hV o
   conv=>whnf
   refine ⟨_,fun _=>call224 _ c (wanted - (x.1 - flwV c b.lo)) o hV, ?_⟩
   conv=>whnf
   rw [hj,hsd]
   have q:=fl_push eGs x.2 ⟨o,s.jam⟩
   rw [h3] at q
   refine ⟨by exact g0,i+1,hlt,by omega,rfl,rfl, ?_, ?_⟩
   ·rw [hs];exact ent
   ·rw [hs];exact ent
  ·have hd:decide (x.1<wanted)=false:=hd
   rw [if_neg (of_decide_eq_false hd)] at hs
   conv=>whnf
   rw [hj,hsd]
   have q:=fl_push eGs x.2 ⟨b.lo,s.jam⟩
   rw [h3] at q
   refine ⟨by exact g0,i+1,hlt,by omega,rfl,rfl, ?_, ?_⟩
   ·rw [hs];exact ent
   ·rw [hs];exact ent
 ·replace hc:=of_decide_eq_false hc
  have hk:i=gs.length:=by
   have h:¬(i:Int)<gs.length:=hc
   omega
  subst hk
  generalize setN gs ss level wanted gs.length=x
  conv=>whnf
  exact ret
def inRB (k:IntKind) (n:Int):Bool:=decide (k.min≤n)&&decide (n≤k.max)
theorem inRB_ok {k:IntKind} {n:Int} (h:inRB k n=true):inR k n:=by
 unfold inRB at h;simp only [Bool.and_eq_true,decide_eq_true_eq] at h;exact h
def biB (w:Bool) (op:BinOp) (k:IntKind) (a b:Int):Bool:=match op with
 | .add=>w || inRB k (a+b)
 | .sub=>w || inRB k (a - b)
 | .mul=>w || inRB k (a*b)
 | .quo=> !(b==0)&&(w || inRB k (a.tdiv b))
 | .rem=> !(b==0)
 | .shr=>b==1
 | .or | .xor | .and=>(decide (0≤a)&&decide (a≤k.max))&&(decide (0≤b)&&decide (b≤k.max))
 | _=>true
def shfB (w:Bool) (op:BinOp) (k:IntKind) (a b:Int):Bool:=match op with
 | .shr=>decide (0≤b)&&decide (b.toNat≤k.bits)
 | .shl=>(decide (0≤b)&&decide (b.toNat≤k.bits))&&(w || inRB k (a*2 ^ b.toNat))
 | _=>true
def biVB (w:Bool) (op:BinOp):PV→PV→Bool
 | .int k a, .int k' b=>if k=k' then biB w op k a b else shfB w op k a b
 | .str a, .str b=>match op with
   | .add=>decide (a.length+b.length≤9223372036854775807)
   | _=>true
 | _,_=>true
def pickB:Bool→PV→PV→Bool
 | _, .bool _, .bool _=>true
 | c, .bool _, .cnd g (.bool _)=>c || g
 | c, .cnd g (.bool _), .bool _=> !c || g
 | c, .bool _, .cnd _ .junk=>c
 | c, .cnd _ .junk, .bool _=> !c
 | c, .cnd g (.bool _), .cnd g' (.bool _)=>(!c || g)&&(c || g')
 | _,_,_=>true
def idxB (i:Int) (n:Nat):Bool:=decide (0≤i)&&decide (i.toNat<n)
def slcB (lo hi:Bool) (vs:List PV) (cs:List SE):Bool:=match lo,hi,vs,cs with
 | true,false, [.sl _ _ m _, .int _ l],_=>decide (0≤l)&&decide (l.toNat≤m)
 | true,false, [.os _, .int _ l], [.row _ _ _ m _]=>decide (0≤l)&&decide (l.toNat≤m)
 | false,true, [.sl _ _ m _, .int _ h],_=>decide (0≤h)&&decide (h.toNat≤m)
 | false,true, [.os _, .int _ h], [.row _ _ _ m _]=>decide (0≤h)&&decide (h.toNat≤m)
 | true,true, [.sl _ _ m _, .int _ l, .int _ h],_=>(decide (0≤l)&&decide (l.toNat≤h.toNat))&&(decide (0≤h)&&decide (h.toNat≤m))
 | _,_,_,_=>true
def slcsB (lo hi:Bool) (vs:List PV):Bool:=match lo,hi,vs with
 | true,false, [.str s, .int _ l]=>decide (0≤l)&&decide (l.toNat≤s.length)
 | false,true, [.str s, .int _ h]=>decide (0≤h)&&decide (h.toNat≤s.length)
 | true,true, [.str s, .int _ l, .int _ h]=>(decide (0≤l)&&decide (l.toNat≤h.toNat))&&(decide (0≤h)&&decide (h.toNat≤s.length))
 | _,_,_=>true
def appB (bytes:Nat) (vs:List PV) (cs:List SE):Bool:=match vs,cs with
 | [.vw true _ _ h,y], .row .. ::cs=>match srcRows y cs with
   | some (_,_,m',_)=>decide ((h+m')*bytes≤140737488355328)&&decide (h+m'≤maxLen)
   | none=>true
 | [.os _,y], .row _ _ _ m _::cs=>match srcRows y cs with
   | some (_,_,m',_)=>decide ((m+m')*bytes≤140737488355328)&&decide (m+m'≤maxLen)
   | none=>true
 | [.nil _,y],cs=>match srcRows y cs with
   | some (_,_,m',_)=>decide (m'*bytes≤140737488355328)&&decide (m'≤maxLen)
   | none=>true
 | _,_=>true
def effB (i:I) (vs:List PV) (cs:List SE):Bool:=match i with
 | .bi w op _ _=>match vs with
   | [a,b]=>biVB w op a b
   | _=>true
 | .pick _ _ _=>match vs with
   | [.bool c,a,b]=>pickB c a b
   | _=>true
 | .ld _ _ _=>match vs,cs with
   | [.pt _ i _], [.row _ _ _ m _]=>decide (i<m)
   | _,_=>true
 | .st _ _ _=>match vs,cs with
   | [.pt _ i _,_], [.row _ _ _ m _]=>decide (i<m)
   | _,_=>true
 | .isn _ _=>match vs,cs with
   | [.sl _ _ n _],_=>decide (0<n)
   | [.os _], [.row _ _ _ n _]=>decide (0<n)
   | _,_=>true
 | .un w .neg _=>match vs with
   | [.int k n]=>biB w .sub k 0 n
   | _=>true
 | .cv w k _=>match vs with
   | [.int _ n]=>w || inRB k n
   | _=>true
 | .ia _ _ _=>match vs,cs with
   | [.sl _ _ m _, .int _ i],_=>idxB i m
   | [.os _, .int _ i], [.row _ _ _ m _]=>idxB i m
   | [.vw _ _ _ n, .int _ i], [.row ..]=>idxB i n
   | [.rf (some (_,n)) _, .int _ i],_=>idxB i n
   | _,_=>true
 | .iaa len _ _ _=>match vs with
   | [_, .int _ i]=>idxB i len
   | _=>true
 | .ixa len _ _ _ _=>match vs with
   | [_, .int _ i]=>idxB i len
   | _=>true
 | .ixs _ _=>match vs with
   | [.str s, .int _ i]=>idxB i s.length
   | _=>true
 | .app _ _ bytes _ _=>appB bytes vs cs
 | .slc _ _ lo hi=>slcB lo.isSome hi.isSome vs cs
 | .slcs _ lo hi=>slcsB lo.isSome hi.isSome vs
 | .mks _ _ bytes _ _ _=>match vs with
   | [.int _ n, .int _ c]=>(decide (0≤n)&&decide (n≤c))&&(decide (c*(bytes:Int)≤140737488355328)&&decide (c≤(maxLen:Int)))
   | _=>true
 | .cvb _ _=>match vs with
   | [.str s]=>decide (s.length≤maxLen)
   | _=>true
 | .cvs _=>false
 | .clr _ _=>match vs,cs with
   | [.vw _ _ lo n], [.row _ _ _ m _]=>decide (lo+n≤m)
   | _,_=>true
 | _=>true
theorem biB_ok {w:Bool} {op:BinOp} {k:IntKind} {a b:Int} {E:Eff} (h:biI w op k a b=some E) (hb:biB w op k a b=true):allP E.side:=by
 unfold biI at h
 unfold biB at hb
 cases op<;>simp only at h hb<;>cases w<;>simp only [Bool.false_eq_true,if_false,if_true,Option.some.injEq,reduceCtorEq,Bool.true_or,Bool.false_or] at h hb<;>(try subst h)<;>
  simp_all [Eff.pure,Eff.side',allP,Bool.and_eq_true,inRB_ok]
theorem shfB_ok {w:Bool} {op:BinOp} {k:IntKind} {a b:Int} {E:Eff} (h:shfI w op k a b=some E) (hb:shfB w op k a b=true):allP E.side:=by
 unfold shfI at h
 unfold shfB at hb
 cases op<;>simp only at h hb<;>cases w<;>simp only [Bool.false_eq_true,if_false,if_true,Option.some.injEq,reduceCtorEq,Bool.true_or,Bool.false_or] at h hb<;>(try subst h)<;>
  simp_all [Eff.pure,Eff.side',allP,Bool.and_eq_true,inRB_ok]
theorem biVB_ok {w:Bool} {op:BinOp} {a b:PV} {E:Eff} (h:biV w op a b=some E) (hb:biVB w op a b=true):allP E.side:=by
 unfold biV at h
 unfold biVB at hb
 split at h
 ·simp only at hb
  split at h
  ·rename_i hk;rw [if_pos hk] at hb;exact biB_ok h hb
  ·rename_i hk;rw [if_neg hk] at hb;exact shfB_ok h hb
 ·simp only at hb
  cases op<;>simp only [Option.some.injEq,reduceCtorEq] at h hb<;>(try subst h)<;>simp_all [Eff.pure,Eff.side',allP]
 ·cases h
theorem pickB_ok {c:Bool} {a b:PV} {E:Eff} (h:pickV c a b=some E) (hb:pickB c a b=true):allP E.side:=by
 unfold pickV at h
 split at h<;>(try simp only [Option.some.injEq,reduceCtorEq] at h)<;>(try subst h)<;>simp only [pickB,Bool.and_eq_true,Bool.or_eq_true,Bool.not_eq_true'] at hb<;>
  simp only [Eff.pure,Eff.side',allP,and_true]
 ·intro hc;rcases hb with hb | hb
  ·rw [hc] at hb;cases hb
  ·exact hb
 ·intro hc;rcases hb with hb | hb
  ·rw [hc] at hb;cases hb
  ·exact hb
 ·exact hb
 ·exact hb
 ·refine ⟨fun hc=> ?_,fun hc=> ?_⟩
  ·rcases hb.1 with h | h
   ·rw [hc] at h;cases h
   ·exact h
  ·rcases hb.2 with h | h
   ·rw [hc] at h;cases h
   ·exact h
theorem idxB_ok {i:Int} {n:Nat} (h:idxB i n=true):0≤i∧i.toNat<n:=by
 unfold idxB at h;simpa using h
theorem ld_ok {n:Nat} {agg:Bool} {x:A} {vs:List PV} {cs:List SE} {E:Eff} (h:eLd n agg vs cs=some E) (hb:effB (.ld n agg x) vs cs=true):allP E.side:=by
 unfold eLd at h
 repeat' split at h
 all_goals first
  | (cases h;done)
  | (injection h with h;subst h;simp_all [effB,Eff.pure,Eff.side',allP])
theorem st_ok {n:Nat} {x v:A} {vs:List PV} {cs:List SE} {E:Eff} (h:eSt n vs cs=some E) (hb:effB (.st n x v) vs cs=true):allP E.side:=by
 unfold eSt at h
 repeat' split at h
 all_goals first
  | (cases h;done)
  | (injection h with h;subst h;simp_all [effB,Eff.pure,Eff.side',allP])
theorem clr_ok {zs:List PV} {x:A} {vs:List PV} {cs:List SE} {E:Eff} (h:eClr zs vs cs=some E) (hb:effB (.clr zs x) vs cs=true):allP E.side:=by
 unfold eClr at h
 repeat' split at h
 all_goals first
  | (cases h;done)
  | (injection h with h;subst h;simp_all [effB,Eff.pure,Eff.side',allP])
theorem cpy_ok {z:Nat} {vs:List PV} {cs:List SE} {E:Eff} (h:eCpy z vs cs=some E):allP E.side:=by
 unfold eCpy at h
 repeat' split at h
 all_goals first
  | (cases h;done)
  | (injection h with h;subst h;exact trivial)
theorem isn_ok {neg:Bool} {x:A} {vs:List PV} {cs:List SE} {E:Eff} (h:eIsn neg vs cs=some E) (hb:effB (.isn neg x) vs cs=true):allP E.side:=by
 unfold eIsn at h
 repeat' split at h
 all_goals first
  | (cases h;done)
  | (injection h with h;subst h;simp_all [effB,Eff.pure,Eff.side',allP])
theorem ia_ok {z:Nat} {x y:A} {vs:List PV} {cs:List SE} {E:Eff} (h:eIa z vs cs=some E) (hb:effB (.ia z x y) vs cs=true):allP E.side:=by
 unfold eIa at h
 repeat' split at h
 all_goals first
  | (cases h;done)
  | (injection h with h;subst h;simp only [effB] at hb;simpa [Eff.side',allP] using idxB_ok hb)
theorem iaa_ok {len z:Nat} {x y:A} {vs:List PV} {cs:List SE} {E:Eff} (h:eIaa len z vs=some E) (hb:effB (.iaa len z x y) vs cs=true):allP E.side:=by
 unfold eIaa at h
 repeat' split at h
 all_goals first
  | (cases h;done)
  | (injection h with h;subst h;simp only [effB] at hb;simpa [Eff.side',allP] using idxB_ok hb)
theorem ixa_ok {len z:Nat} {agg:Bool} {x y:A} {vs:List PV} {cs:List SE} {E:Eff} (h:eIxa len z agg vs=some E) (hb:effB (.ixa len z agg x y) vs cs=true):allP E.side:=by
 unfold eIxa at h
 repeat' split at h
 all_goals first
  | (cases h;done)
  | (injection h with h;subst h;simp only [effB] at hb;simpa [Eff.side',allP] using idxB_ok hb)
theorem ixs_ok {x y:A} {vs:List PV} {cs:List SE} {E:Eff} (h:eIxs vs=some E) (hb:effB (.ixs x y) vs cs=true):allP E.side:=by
 unfold eIxs at h
 repeat' split at h
 all_goals first
  | (cases h;done)
  | (injection h with h;subst h;simp only [effB] at hb;simpa [Eff.side',allP] using idxB_ok hb)
theorem app_ok {d e z bytes:Nat} {x y:A} {vs:List PV} {cs:List SE} {E:Eff} (h:eApp d e z bytes vs cs=some E) (hb:effB (.app e z bytes x y) vs cs=true):allP E.side:=by
 unfold eApp at h
 simp only [effB,appB] at hb
 split at h<;>(try (cases h;done))<;>(split at h<;>(try (cases h;done))<;>(split at h<;>(try (cases h;done))<;>(injection h with h;subst h;rename_i hs _;simp only [hs,Bool.and_eq_true,decide_eq_true_eq] at hb;exact ⟨hb.1,hb.2,trivial⟩)))
theorem slc_ok {z:Nat} {x:A} {lo hi:Option A} {vs:List PV} {cs:List SE} {E:Eff} (h:eSlc z lo.isSome hi.isSome vs cs=some E) (hb:effB (.slc z x lo hi) vs cs=true):allP E.side:=by
 simp only [effB] at hb
 cases hl:lo.isSome<;>cases hh:hi.isSome<;>rw [hl,hh] at h hb<;>simp only [eSlc] at h
 ·unfold eSlc00 at h
  repeat' split at h
  all_goals first | (cases h;done) | (injection h with h;subst h;simp [Eff.pure,allP])
 ·unfold eSlc01 at h
  repeat' split at h
  all_goals first | (cases h;done) | (injection h with h;subst h;simp only [slcB,Bool.and_eq_true,decide_eq_true_eq] at hb;simpa [Eff.side',allP] using hb)
 ·unfold eSlc10 at h
  repeat' split at h
  all_goals first | (cases h;done) | (injection h with h;subst h;simp only [slcB,Bool.and_eq_true,decide_eq_true_eq] at hb;simpa [Eff.side',allP] using hb)
 ·unfold eSlc11 at h
  repeat' split at h
  all_goals first | (cases h;done) | (injection h with h;subst h;simp only [slcB,Bool.and_eq_true,decide_eq_true_eq] at hb;simp only [Eff.side',allP,and_true];exact ⟨hb.1.1,hb.1.2,hb.2.1,hb.2.2⟩)
theorem slcs_ok {x:A} {lo hi:Option A} {vs:List PV} {cs:List SE} {E:Eff} (h:eSlcs lo.isSome hi.isSome vs=some E) (hb:effB (.slcs x lo hi) vs cs=true):allP E.side:=by
 simp only [effB] at hb
 cases hl:lo.isSome<;>cases hh:hi.isSome<;>rw [hl,hh] at h hb<;>simp only [eSlcs] at h
 ·unfold eSlcs00 at h
  repeat' split at h
  all_goals first | (cases h;done) | (injection h with h;subst h;simp [Eff.pure,allP])
 ·unfold eSlcs01 at h
  repeat' split at h
  all_goals first | (cases h;done) | (injection h with h;subst h;simp only [slcsB,Bool.and_eq_true,decide_eq_true_eq] at hb;simpa [Eff.side',allP] using hb)
 ·unfold eSlcs10 at h
  repeat' split at h
  all_goals first | (cases h;done) | (injection h with h;subst h;simp only [slcsB,Bool.and_eq_true,decide_eq_true_eq] at hb;simpa [Eff.side',allP] using hb)
 ·unfold eSlcs11 at h
  repeat' split at h
  all_goals first | (cases h;done) | (injection h with h;subst h;simp only [slcsB,Bool.and_eq_true,decide_eq_true_eq] at hb;simp only [Eff.side',allP,and_true];exact ⟨hb.1.1,hb.1.2,hb.2.1,hb.2.2⟩)
theorem mks_ok {d e z bytes:Nat} {zero:List PV} {x y:A} {vs:List PV} {cs:List SE} {E:Eff} (h:eMks d e z bytes zero vs=some E) (hb:effB (.mks e z bytes zero x y) vs cs=true):allP E.side:=by
 unfold eMks at h
 repeat' split at h
 all_goals first
  | (cases h;done)
  | (injection h with h;subst h;simp only [effB,Bool.and_eq_true,decide_eq_true_eq] at hb;simp only [allP,and_true];exact ⟨hb.1.1,hb.1.2,hb.2.1,hb.2.2⟩)
theorem mx_pure {vs:List PV} {E:Eff} (h:eMx vs=some E):allP E.side:=by
 unfold eMx at h
 repeat' split at h
 all_goals first | (cases h;done) | (injection h with h;subst h;exact trivial)
theorem mn_pure {vs:List PV} {E:Eff} (h:eMn vs=some E):allP E.side:=by
 unfold eMn at h
 repeat' split at h
 all_goals first | (cases h;done) | (injection h with h;subst h;exact trivial)
theorem effB_ok {i:I} {c:CallRes} {d:Nat} {vs:List PV} {ids:List Nat} {cs:List SE} {E:Eff} (h:eff (fun _ _ _ _=>True) c d i vs ids cs=some E) (hb:effB i vs cs=true):allP E.side:=by
 cases i with
 | bi w op x y=>
   simp only [eff,eBi] at h
   split at h
   ·exact biVB_ok h (by simpa [effB] using hb)
   ·cases h
 | pick a b c'=>
   simp only [eff,ePick] at h
   split at h
   ·exact pickB_ok h (by simpa [effB] using hb)
   ·cases h
 | ld n agg x=>exact ld_ok (x:=x) h hb
 | st n x v=>exact st_ok (x:=x) (v:=v) h hb
 | isn neg x=>exact isn_ok (x:=x) h hb
 | clr zs x=>exact clr_ok (x:=x) h hb
 | cpy z x y=>exact cpy_ok h
 | un w op x=>
   simp only [eff] at h
   unfold eUn at h
   split at h
   ·exact biB_ok h (by simpa [effB] using hb)
   ·injection h with h;subst h;exact trivial
   ·cases h
 | cv w k x=>
   simp only [eff,eCv] at h
   simp only [effB] at hb
   split at h
   ·simp only [Bool.or_eq_true] at hb
    split at h
    ·injection h with h;subst h;exact trivial
    ·rename_i hw
     injection h with h;subst h
     exact ⟨inRB_ok (hb.resolve_left hw),trivial⟩
   ·cases h
 | ia z x y=>exact ia_ok (x:=x) (y:=y) h hb
 | iaa len z x y=>exact iaa_ok (x:=x) (y:=y) h hb
 | ixa len z agg x y=>exact ixa_ok (x:=x) (y:=y) h hb
 | ixs x y=>exact ixs_ok (x:=x) (y:=y) h hb
 | app e z bytes x y=>exact app_ok (x:=x) (y:=y) h hb
 | slc z x lo hi=>exact slc_ok (x:=x) h hb
 | slcs x lo hi=>exact slcs_ok (x:=x) h hb
 | mks e z bytes zero x y=>exact mks_ok (x:=x) (y:=y) h hb
 | cvb e x=>
   simp only [eff,eCvb] at h
   simp only [effB] at hb
   split at h
   ·injection h with h;subst h
    exact ⟨by simpa using hb,trivial⟩
   ·cases h
 | cvs x=>cases hb
 | mx xs=>exact mx_pure h
 | mn xs=>exact mn_pure h
 | call f xs=>
   simp only [eff,eCall,callV] at h
   repeat' split at h
   all_goals first
    | (cases h;done)
    | (injection h with h;subst h;exact ⟨trivial,trivial⟩)
    | (unfold givV at h
       repeat' split at h
       all_goals first
        | (cases h;done)
        | (injection h with h;subst h;exact ⟨trivial,trivial⟩))
 | _=>
   simp only [eff,eMv,eBx,eBd,eBs,eNc,eBib,eEqa,eFa,eFd,eLen,eLens,eEx,eMkm,eMpg,eMpu,eBsx,eCvb] at h
   (repeat' split at h)<;>first | (cases h;done) | (injection h with h;subst h;simp [Eff.pure,allP]) | skip
def cndsB:List PV→Bool
 | []=>true
 | .cnd g _::ps=>g&&cndsB ps
 | _::ps=>cndsB ps
def stripB (i:I) (vs:List PV):Bool:=match i with
 | .pick _ _ _=>match vs with
   | .cnd g _::_=>g
   | _=>true
 | _=>cndsB vs
theorem cndsB_ok (vs:List PV):cndsB vs=true→allP (stripL true vs).1:=by
 induction vs with
 | nil=>exact fun _=>trivial
 | cons p ps ih=>
   intro h
   cases p with
   | cnd g p=>simp only [cndsB,Bool.and_eq_true] at h;exact ⟨fun _=>h.1,ih h.2⟩
   | _=>simp only [cndsB] at h;exact ih h
theorem stripB_ok {i:I} {vs:List PV} (h:stripB i vs=true):allP (stripI i true vs).1:=by
 have hs:cndsB vs=true→allP (stripS true vs).1:=fun h=>by
  unfold stripS
  split
  ·trivial
  ·exact cndsB_ok vs h
 cases i with
 | pick a b c=>
   cases vs with
   | nil=>trivial
   | cons p ps=>
     cases p with
     | cnd g p=>exact ⟨fun _=>h,trivial⟩
     | _=>trivial
 | _=>exact hs h
def stepB (o:Ins) (s:PS):Bool:=match guardV s.fr o.g with
 | some true=>match valL s.fr o.i.opr with
   | some vs0=>stripB o.i vs0&&(match getL s.st (o.i.acc (stripI o.i true vs0).2) with
     | some cs=>effB o.i (stripI o.i true vs0).2 cs
     | none=>true)
   | none=>true
 | _=>true
abbrev anyS:FuncId→List PV→List SE→CallRes→Prop:=fun _ _ _ _=>True
theorem allP_app {l m:List Prop} (h:allP l) (h':allP m):allP (l++m):=(allP_append _ _).2 ⟨h,h'⟩
theorem stepI_run {lg:Bool} {c:CallRes} {i:Nat} {o:Ins} {s s':PS} (h:stepI anyS lg c i o s=some s') (hb:stepB o s=true) (hok:s.ok):s'.ok:=by
 obtain ⟨G,vs,cs,E,H⟩:=stepI_parts h
 obtain ⟨vs0,hv0,hvs,hokk⟩:=H.vals
 have hg:=H.guard
 cases G with
 | false=>
   refine hokk.2 ⟨hok,fun _ h=>(by cases h),fun hn=> ?_⟩
   rw [hn] at hg;simp [guardV] at hg
 | true=>
   have e2:(stripI o.i true vs0).2=vs:=by rw [hvs]
   unfold stepB at hb
   rw [hg] at hb
   simp only [hv0,e2,H.ent,Bool.and_eq_true] at hb
   have hall:=allP_app (stripB_ok hb.1) (effB_ok H.eff hb.2)
   exact hokk.2 ⟨hok,fun _ _=>hall,fun _=>hall⟩
theorem stepX_run {lg:Bool} {c:CallRes} {i:Nat} {o:Ins} {s s':PS} (h:stepX anyS lg c i o s=some s') (hb:stepB o s=true) (hok:s.ok):s'.ok:=by
 cases lg with
 | true=>exact stepI_run (lg:=true) (by simpa only [stepX] using h) hb hok
 | false=>
   obtain ⟨od,oid,og,oi⟩:=o
   obtain ⟨n,fr,st,ok,log⟩:=s
   have hsame:∀g,og=some g→guardV fr (some g)=some true→stepB ⟨od,oid,none,oi⟩ ⟨n,fr,st,ok,log⟩=true:=fun g hg hgv=>by
    subst hg
    unfold stepB at hb⊢
    simp only [hgv] at hb
    simpa [guardV] using hb
   simp only [stepX,stepG] at h
   split at h
   ·rename_i g _ _ hh
    split at h
    ·rename_i hgv
     exact stepI_run h (hsame _ rfl hgv) hok
    ·split at h
     ·injection h with h;subst h;exact hok
     ·split at h
      ·injection h with h;subst h;exact hok
      ·cases h
    ·cases h
   ·split at h
    ·exact stepI_run h hb hok
    split at h
    ·split at h
     ·injection h with h;subst h;exact hok
     ·split at h
      ·injection h with h;subst h;exact hok
      ·cases h
    ·cases h
   ·split at h
    ·rename_i s'' hs''
     injection h with h;subst h
     exact stepI_run hs'' hb hok
    ·split at h
     ·rename_i hgv
      exact stepI_run h (hsame _ rfl hgv) hok
     ·split at h
      ·injection h with h;subst h;exact hok
      ·split at h
       ·injection h with h;subst h;exact hok
       ·cases h
     ·cases h
   ·exact stepI_run h hb hok
def runI (R:FuncId→List PV→List SE→Option CallRes) (lg:Bool):Nat→List Ins→PS→Option PS
 | _, [],s=>some s
 | i,o::r,s=>match stepB o s with
   | false=>none
   | true=>match o.i.isCall&&(lg || !skipJ o s) with
     | true=>match callAt o s with
       | some (G,id,args,bs)=>match G with
         | true=>match R id args bs with
           | some c=>match stepX anyS lg c i o s with
             | some s'=>runI R lg (i+1) r s'
             | none=>none
           | none=>none
         | false=>match stepX anyS lg default i o s with
           | some s'=>runI R lg (i+1) r s'
           | none=>none
       | none=>none
     | false=>match stepX anyS lg default i o s with
       | some s'=>runI R lg (i+1) r s'
       | none=>none
theorem runI_sound {P:Program} {R:FuncId→List PV→List SE→Option CallRes} (hR:∀f args bs c,R f args bs=some c→PureCall P f args bs c) {lg:Bool}:
  ∀{ins:List Ins} {i:Nat} {s s':PS},runI R lg i ins s=some s'→s.ok→s'.ok∧∀K:PS→Prop,K s'→evK (PureCall P) lg i ins s K
 | [],i,s,s',h,hok=>by
   simp only [runI,Option.some.injEq] at h;subst h
   exact ⟨hok,fun K hK=>hK⟩
 | o::r,i,s,s',h,hok=>by
   simp only [runI] at h
   split at h
   ·cases h
   ·rename_i hb
    split at h
    ·rename_i hc
     split at h
     ·rename_i G id args bs hca
      split at h
      ·split at h
       ·rename_i c hRc
        split at h
        ·rename_i s1 h1
         obtain ⟨g1,g2⟩:=runI_sound hR h (stepX_run h1 hb hok)
         refine ⟨g1,fun K hK=> ?_⟩
         simp only [evK,hc,hca]
         exact ⟨c,fun _=>hR _ _ _ _ hRc,by rw [h1];exact g2 K hK⟩
        ·cases h
       ·cases h
      ·split at h
       ·rename_i s1 h1
        obtain ⟨g1,g2⟩:=runI_sound hR h (stepX_run h1 hb hok)
        refine ⟨g1,fun K hK=> ?_⟩
        simp only [evK,hc,hca]
        exact ⟨default,fun h=>(by cases h),by rw [h1];exact g2 K hK⟩
       ·cases h
     ·cases h
    ·rename_i hc
     split at h
     ·rename_i s1 h1
      obtain ⟨g1,g2⟩:=runI_sound hR h (stepX_run h1 hb hok)
      refine ⟨g1,fun K hK=> ?_⟩
      simp only [evK,hc,h1]
      exact g2 K hK
     ·cases h
open Go.RowKit
def PS.tr:PS→PS
 | ⟨n,fr,st,_,log⟩=>⟨n,fr,st,True,log⟩
def mAdd (t m:Nat):Nat:=Nat.lor m (Nat.shiftLeft 1 t)
def mHas (t m:Nat):Bool:=Nat.beq (Nat.land 1 (Nat.shiftRight m t)) 1
def mDel (t m:Nat):Nat:=match mHas t m with
 | true=>Nat.sub m (Nat.shiftLeft 1 t)
 | false=>m
def mA (a:A) (m:Nat):Nat:=match a with
 | .t n=>mAdd n m
 | .c _=>m
def mAs:List A→Nat→Nat
 | [],m=>m
 | a::r,m=>mA a (mAs r m)
def mI (o:Ins) (m:Nat):Nat:=
 let m1:=mAs o.i.opr (match o.d with
  | some d=>mDel d m
  | none=>m)
 match o.g with
 | some (t,_)=>mAdd t m1
 | none=>m1
def mIs:List Ins→Nat→Nat
 | [],m=>m
 | o::r,m=>mI o (mIs r m)
def mOf:List (Nat×Nat)→Nat→Nat
 | [],_=>0
 | (k,m)::E,i=>match Nat.beq k i with
   | true=>m
   | false=>mOf E i
def mC (rl:Nat):List (Nat×Nat)→C→Nat→Nat
 | _, .skip,m=>m
 | _, .reg ins,m=>mIs ins m
 | _, .drw ins _,m=>mIs ins m
 | E, .seq a b,m=>mC rl E a (mC rl E b m)
 | E, .cond c x y,m=>mA c (Nat.lor (mC rl E x m) (mC rl E y m))
 | E, .block id b,m=>mC rl ((id,m)::E) b m
 | E, .loop b,_=>mC rl E b 0
 | E, .exit id,_=>mOf E id
 | E, .scope b,m=>mC rl E b m
 | _, .ret,_=>rl
 | E, .cut b,m=>mC rl E b m
 | _,_,m=>m
def gcF (fr:Nat→Option PV) (m:Nat):Nat→List (Nat×PV)
 | 0=> []
 | t+1=>match mHas t m with
   | true=>match fr t with
     | some p=>(t,p)::gcF fr m t
     | none=>gcF fr m t
   | false=>gcF fr m t
def idsFL:List (Nat×PV)→List Nat
 | []=> []
 | (_,p)::l=>p.ids++idsFL l
def gcS (st:Nat→Option SE):Nat→List Nat→List (Nat×SE)→Option (List (Nat×SE))
 | _, [],acc=>some acc
 | 0,_::_,_=>none
 | k+1,r::rs,acc=>match keysB acc r with
   | true=>gcS st k rs acc
   | false=>match st r with
     | some e=>gcS st k (e.ids++rs) ((r,e)::acc)
     | none=>none
def upTo:Nat→List Nat
 | 0=> []
 | n+1=>n::upTo n
def gcP (np m:Nat) (s:PS):Option PS:=match s with
 | ⟨n,fr,st,_,_⟩=>match gcF fr m n with
   | fl=>match gcS st 100000 (upTo np++idsFL fl) [] with
     | some sl=>match idsF sl fl&&idsS sl sl&&parB sl np with
       | true=>some (St n fl sl)
       | false=>none
     | none=>none
mutual
theorem PLe_refl {st:Nat→Option SE} {kp:Nat→Bool}:∀(p:PV),(∀r∈p.ids,kp r=true)→PLe st kp p p
 | .os r,h=>by simp only [PLe];exact ⟨trivial,h r (by simp [PV.ids])⟩
 | .vw _ r _ _,h=>by simp only [PLe];exact ⟨trivial,trivial,trivial,trivial,h r (by simp [PV.ids])⟩
 | .rf _ r,h=>by simp only [PLe];exact ⟨trivial,trivial,h r (by simp [PV.ids])⟩
 | .pt r _ _,h=>by simp only [PLe];exact ⟨trivial,trivial,trivial,h r (by simp [PV.ids])⟩
 | .agg cs,h=>by simp only [PLe];exact PLe_reflL cs h
 | .tup cs,h=>by simp only [PLe];exact PLe_reflL cs h
 | .fn f a b,h=>by simp only [PLe];exact ⟨trivial,PLe_reflL a (fun r hr=>h r (by simp [PV.ids,hr])),PLe_reflL b (fun r hr=>h r (by simp [PV.ids,hr]))⟩
 | .cnd g p,h=>by simp only [PLe];exact ⟨trivial,PLe_refl p h⟩
 | .mpv ..,_=>by simp only [PLe];exact ⟨trivial,trivial,trivial,trivial,fun _ _=>⟨rfl,rfl⟩⟩
 | .int ..,_=>by simp only [PLe];exact ⟨trivial,trivial⟩
 | .bool _,_=>by simp only [PLe]
 | .str _,_=>by simp only [PLe]
 | .sl ..,_=>by simp only [PLe];exact ⟨Nat.le_refl _,trivial,trivial,fun _ _=>rfl⟩
 | .nil _,_=>by simp only [PLe]
 | .rp ..,_=>by simp only [PLe];exact ⟨Nat.le_refl _,trivial⟩
 | .raw _,_=>by simp only [PLe]
 | .junk,_=>by simp only [PLe]
theorem PLe_reflL {st:Nat→Option SE} {kp:Nat→Bool}:∀(l:List PV),(∀r∈PV.idsL l,kp r=true)→PLeL st kp l l
 | [],_=>by simp only [PLeL]
 | p::ps,h=>by simp only [PLeL];exact ⟨PLe_refl p (fun r hr=>h r (by simp [PV.idsL,hr])),PLe_reflL ps (fun r hr=>h r (by simp [PV.idsL,hr]))⟩
end
theorem SLe_refl {st:Nat→Option SE} {kp:Nat→Bool} (e:SE) (h:∀r∈e.ids,kp r=true):SLe st kp e e:=by
 cases e with
 | box l=>exact PLe_reflL l h
 | row τ e z n f=>exact ⟨Nat.le_refl _,rfl,rfl,rfl,fun _ _=>rfl,rfl⟩
 | bld T e s=>exact ⟨rfl,rfl,rfl⟩
theorem gcF_mem {fr:Nat→Option PV} {m:Nat}:∀{n:Nat} {x:Nat×PV},x∈gcF fr m n→fr x.1=some x.2
 | 0,x,h=>by simp [gcF] at h
 | n+1,x,h=>by
   simp only [gcF] at h
   split at h
   ·split at h
    ·rename_i p hp
     rcases List.mem_cons.1 h with rfl | h
     ·exact hp
     ·exact gcF_mem h
    ·exact gcF_mem h
   ·exact gcF_mem h
theorem gcS_mem {st:Nat→Option SE}:∀{k:Nat} {todo:List Nat} {acc sl:List (Nat×SE)},gcS st k todo acc=some sl→(∀x∈acc,st x.1=some x.2)→∀x∈sl,st x.1=some x.2
 | k, [],acc,sl,h,ha=>by
   have:acc=sl:=by cases k<;>simpa [gcS] using h
   subst this;exact ha
 | 0,_::_,acc,sl,h,ha=>by simp [gcS] at h
 | k+1,r::rs,acc,sl,h,ha=>by
   simp only [gcS] at h
   split at h
   ·exact gcS_mem h ha
   ·split at h
    ·rename_i e he
     refine gcS_mem h fun x hx=> ?_
     rcases List.mem_cons.1 hx with rfl | hx
     ·exact he
     ·exact ha x hx
    ·cases h
theorem keys_kp {sl:List (Nat×SE)} {r:Nat} (h:∃e,stL sl r=some e):keysB sl r=true:=keysB_some.2 h
theorem leF_of {fr:Nat→Option PV} {st:Nat→Option SE} {kp:Nat→Bool}:∀{l:List (Nat×PV)},(∀x∈l,fr x.1=some x.2∧∀r∈x.2.ids,kp r=true)→leF fr st kp l
 | [],_=>trivial
 | (t,p)::l,h=>by
   have h1:=h (t,p) (by simp)
   refine ⟨?_,leF_of fun x hx=>h x (by simp [hx])⟩
   rw [h1.1];exact PLe_refl p h1.2
theorem leS_of {st:Nat→Option SE} {kp:Nat→Bool}:∀{l:List (Nat×SE)},(∀x∈l,st x.1=some x.2∧∀r∈x.2.ids,kp r=true)→leS st kp l
 | [],_=>trivial
 | (t,p)::l,h=>by
   have h1:=h (t,p) (by simp)
   refine ⟨?_,leS_of fun x hx=>h x (by simp [hx])⟩
   rw [h1.1];exact SLe_refl p h1.2
theorem gcP_ok {np m:Nat} {s s':PS} (h:gcP np m s=some s'):s'=St s'.n (gcF s.fr m s.n) (match gcS s.st 100000 (upTo np++idsFL (gcF s.fr m s.n)) [] with | some sl=>sl | none=> [])∧
  Ent np s s'.n (gcF s.fr m s.n) (match gcS s.st 100000 (upTo np++idsFL (gcF s.fr m s.n)) [] with | some sl=>sl | none=> []):=by
 obtain ⟨n,fr,st,ok,log⟩:=s
 simp only [gcP] at h
 split at h
 ·rename_i sl hsl
  split at h
  ·rename_i hb
   injection h with h;subst h
   simp only [hsl]
   have hb':=hb
   simp only [Bool.and_eq_true] at hb'
   refine ⟨rfl,rfl,hb,leF_of fun x hx=>⟨gcF_mem hx,fun r hr=>keys_kp (idsF_mem hb'.1.1 x hx r hr)⟩,leS_of fun x hx=>⟨gcS_mem hsl (fun _ h=>by simp at h) x hx,fun r hr=>keys_kp (idsS_mem hb'.1.2 x hx r hr)⟩⟩
  ·cases h
 ·cases h
def runC (R:FuncId→List PV→List SE→Option CallRes) (H:Code→PS→Option PS) (np rl:Nat):Nat→List (Nat×Nat)→Nat→C→PS→Option (Lv×PS)
 | 0,_,_,_,_=>none
 | k+1,E,m,c,s=>match c with
   | .skip=>some (.nrm,s)
   | .reg ins=>match runI R false 0 ins s with
     | some s'=>some (.nrm,s')
     | none=>none
   | .drw ins ps=>match s with
     | ⟨n,fr,st,ok,_⟩=>match runI R true 0 ins ⟨n,fr,st,ok,fun _=>none⟩ with
       | some ⟨n',fr',st',ok',log'⟩=>match apartOk log' ps with
         | true=>some (.nrm,⟨n',fr',st',ok',fun _=>none⟩)
         | false=>none
       | none=>none
   | .seq a b=>match runC R H np rl k E (mC rl E b m) a s.tr with
     | some (.nrm,s1)=>runC R H np rl k E m b s1.tr
     | some (.ex i,s1)=>some (.ex i,s1)
     | some (.ret,s1)=>some (.ret,s1)
     | none=>none
   | .cond c x y=>match s with
     | ⟨n,fr,st,_,log⟩=>match A.val fr c with
       | some (.bool true)=>runC R H np rl k E m x ⟨n,fr,st,True,log⟩
       | some (.bool false)=>runC R H np rl k E m y ⟨n,fr,st,True,log⟩
       | _=>none
   | .block id b=>match runC R H np rl k ((id,m)::E) m b s.tr with
     | some (.nrm,s1)=>some (.nrm,s1)
     | some (.ex i,s1)=>match Nat.beq i id with
       | true=>some (.nrm,s1)
       | false=>some (.ex i,s1)
     | some (.ret,s1)=>some (.ret,s1)
     | none=>none
   | .loop b=>match gcP np (mC rl E b 0) s with
     | some s0=>match runC R H np rl k E (mC rl E b 0) b s0.tr with
       | some (.nrm,s1)=>runC R H np rl k E m (.loop b) s1.tr
       | some (.ex i,s1)=>some (.ex i,s1)
       | some (.ret,s1)=>some (.ret,s1)
       | none=>none
     | none=>none
   | .exit id=>some (.ex id,s)
   | .ret=>some (.ret,s)
   | .raw c=>match H c s.tr with
     | some s'=>some (.nrm,s')
     | none=>none
   | .scope b=>match b.labOf with
     | none=>match runC R H np rl k E m b s.tr with
       | some (.nrm,s1)=>some (.nrm,s1)
       | some (.ex i,s1)=>match Nat.ble 1000000 i with
         | true=>none
         | false=>some (.ex i,s1)
       | some (.ret,s1)=>some (.ret,s1)
       | none=>none
     | some _=>none
   | _=>none
section
variable {P:Program} {wr:Bool} {np:Nat}
theorem LSem.mono {c:C} {Q Q':Lv→PS→Prop} {s:PS} (h:LSem P wr np c Q s) (hm:∀l t,Q l t→Q' l t):LSem P wr np c Q' s:=by
 intro hQ code hc X w0 may a w γ hX hR
 refine wp_mono (h (fun l t hq=>hQ l t (hm l t hq)) code hc X w0 may a w γ hX hR) ?_
 rintro e a' w' ⟨lv,s',γ',he,hq,hR'⟩
 exact ⟨lv,s',γ',he,hm _ _ hq,hR'⟩
theorem LSem.tr {c:C} {Q:Lv→PS→Prop} {s:PS} (h:LSem P wr np c Q s.tr):LSem P wr np c Q s:=by
 intro hQ code hc X w0 may a w γ hX hR
 obtain ⟨n,fr,st,ok,log⟩:=s
 exact h hQ code hc X w0 may a w γ hX ⟨hR.1,hR.2,hR.3,hR.4,hR.5,hR.6,hR.7,hR.8,hR.9,hR.10,hR.11,hR.12⟩
theorem LSem.loopRun {b:C} {Q:Lv→PS→Prop} {s:PS} (I:Nat→PS→Prop) (k0:Nat) (h0:I k0 s) (hr:∀k t,I k t→LSem P wr np b (fun lv s'=>match lv with
  | .nrm=>s'.ok∧∃k',I k' s'∧k'<k
  | .ex i=>Q (.ex i) s'
  | .ret=>Q .ret s') t):LSem P wr np (.loop b) Q s:=by
 intro hQ code hc X w0 may a w γ hX hR
 have:∃p,code= .loop p∧comp P wr p=some b.er:=by
  cases code with
  | loop p=>
    simp only [comp,C.er,Option.map_eq_some_iff,C.loop.injEq] at hc
    obtain ⟨b',hb,rfl⟩:=hc
    exact ⟨p,rfl,hb⟩
  | region id ops dr=>cases dr<;>simp only [comp,C.er] at hc<;>(repeat' (split at hc))<;>simp_all
  | _=>simp only [comp,C.er] at hc<;>(repeat' (split at hc))<;>simp_all
 obtain ⟨p,rfl,hp⟩:=this
 refine wp_loop_by (fun k a w=>∃t,I k t∧∃γ,Rel X w0 may a w t γ) id k0 ⟨s,h0,γ,hR⟩ ?_
 rintro k a w ⟨t,hI,γ,hR⟩
 have h1:=hr k t hI (fun lv s' hs=>by
  cases lv with
  | nrm=>exact hs.1
  | ex i=>exact hQ _ _ hs
  | ret=>exact hQ _ _ hs) p hp X w0 may a w γ hX hR
 refine wp_mono h1 ?_
 rintro e a' w' ⟨lv,s',γ',he,hq',hR'⟩
 cases e
 ·cases he
  obtain ⟨_,k',hk',hlt⟩:=hq'
  exact ⟨k',⟨s',hk',γ',hR'⟩,hlt⟩
 ·obtain ⟨hb,rfl⟩:=lvOf_exit he;exact ⟨_,_,_,he,hq',hR'⟩
 ·cases he;exact ⟨_,_,_,rfl,hq',hR'⟩
 ·cases he;exact ⟨_,_,_,rfl,hq',hR'⟩
 ·cases he
 ·cases he
def Runs (P:Program) (wr:Bool) (np:Nat) (c:C) (s:PS) (lv:Lv) (s':PS):Prop:=s'.ok∧LSem P wr np c (fun l t=>l=lv∧t=s') s
theorem Runs.to {c:C} {s s':PS} {lv:Lv} {Q:Lv→PS→Prop} (h:Runs P wr np c s lv s') (hq:Q lv s'):LSem P wr np c Q s:=
 h.2.mono fun l t ⟨h1,h2⟩=>by rw [h1,h2];exact hq
theorem runC_sound {rl:Nat} (hmix:P.follows .mixedOrders=true) {R:FuncId→List PV→List SE→Option CallRes} {H:Code→PS→Option PS} (hR:∀f args bs c,R f args bs=some c→PureCall P f args bs c)
  (hH:∀c s s',H c s=some s'→Runs P wr np (.raw c) s .nrm s'):∀(k:Nat) (E:List (Nat×Nat)) (m:Nat) (c:C) (s s':PS) (lv:Lv),runC R H np rl k E m c s=some (lv,s')→s.ok→Runs P wr np c s lv s':=by
 intro k
 induction k using Nat.strongRecOn with
 | ind k ihs=>
 cases k with
 | zero=>intro E m c s s' lv h;simp [runC] at h
 | succ k=>
   have ih:=ihs k (Nat.lt_succ_self k)
   intro E m c s s' lv h hok
   obtain ⟨n,fr,st,ok,log⟩:=s
   cases c with
   | skip=>
     simp only [runC,Option.some.injEq,Prod.mk.injEq] at h
     obtain ⟨rfl,rfl⟩:=h
     exact ⟨hok,LSem.of_vc hmix ⟨rfl,rfl⟩⟩
   | reg ins=>
     simp only [runC] at h
     split at h
     ·rename_i s1 h1
      simp only [Option.some.injEq,Prod.mk.injEq] at h
      obtain ⟨rfl,rfl⟩:=h
      obtain ⟨g1,g2⟩:=runI_sound hR h1 hok
      exact ⟨g1,LSem.of_vc hmix (g2 _ ⟨rfl,rfl⟩)⟩
     ·cases h
   | drw ins ps=>
     simp only [runC] at h
     split at h
     ·rename_i n' fr' st' ok' log' h1
      split at h
      ·rename_i ha
       simp only [Option.some.injEq,Prod.mk.injEq] at h
       obtain ⟨rfl,rfl⟩:=h
       obtain ⟨g1,g2⟩:=runI_sound hR h1 hok
       exact ⟨g1,LSem.of_vc hmix (g2 _ ⟨ha,rfl,rfl⟩)⟩
      ·cases h
     ·cases h
   | seq a b=>
     simp only [runC,PS.tr] at h
     have key:∀(Q:Lv→PS→Prop),LSem P wr np a (fun e s'=>match e with
       | .nrm=>vc (PureCall P) (LSem P wr np) (.cut b) Q s'
       | .ex i=>Q (.ex i) s'
       | .ret=>Q .ret s') ⟨n,fr,st,True,log⟩→LSem P wr np (.seq a b) Q ⟨n,fr,st,ok,log⟩:=fun Q hq=>
      LSem.of_vc (c:= .seq (.cut a) (.cut b)) hmix ⟨hok,hq⟩
     split at h
     ·rename_i s1 h1
      have r1:=ih _ _ a _ _ _ h1 trivial
      obtain ⟨n1,fr1,st1,ok1,log1⟩:=s1
      have r2:=ih _ _ b _ _ _ h trivial
      exact ⟨r2.1,key _ (r1.to ⟨r1.1,r2.to ⟨rfl,rfl⟩⟩)⟩
     ·rename_i i s1 h1
      simp only [Option.some.injEq,Prod.mk.injEq] at h
      obtain ⟨rfl,rfl⟩:=h
      have r1:=ih _ _ a _ _ _ h1 trivial
      exact ⟨r1.1,key _ (r1.to ⟨rfl,rfl⟩)⟩
     ·rename_i s1 h1
      simp only [Option.some.injEq,Prod.mk.injEq] at h
      obtain ⟨rfl,rfl⟩:=h
      have r1:=ih _ _ a _ _ _ h1 trivial
      exact ⟨r1.1,key _ (r1.to ⟨rfl,rfl⟩)⟩
     ·cases h
   | cond c x y=>
     simp only [runC] at h
     split at h
     ·rename_i hv
      have r1:=ih _ _ x _ _ _ h trivial
      refine ⟨r1.1,LSem.of_vc (c:= .cond c (.cut x) (.cut y)) hmix ?_⟩
      simp only [vc,hv]
      exact ⟨hok,fun _=>⟨trivial,r1.to ⟨rfl,rfl⟩⟩,fun h=>(by cases h)⟩
     ·rename_i hv
      have r1:=ih _ _ y _ _ _ h trivial
      refine ⟨r1.1,LSem.of_vc (c:= .cond c (.cut x) (.cut y)) hmix ?_⟩
      simp only [vc,hv]
      exact ⟨hok,fun h=>(by cases h),fun _=>⟨trivial,r1.to ⟨rfl,rfl⟩⟩⟩
     ·cases h
   | block id b=>
     simp only [runC,PS.tr] at h
     have key:∀(Q:Lv→PS→Prop),LSem P wr np b (fun e s'=>match e with
       | .nrm=>Q .nrm s'
       | .ex i=>match Nat.beq i id with
         | true=>Q .nrm s'
         | false=>Q (.ex i) s'
       | .ret=>Q .ret s') ⟨n,fr,st,True,log⟩→LSem P wr np (.block id b) Q ⟨n,fr,st,ok,log⟩:=fun Q hq=>
      LSem.of_vc (c:= .block id (.cut b)) hmix ⟨hok,hq⟩
     split at h
     ·rename_i s1 h1
      simp only [Option.some.injEq,Prod.mk.injEq] at h
      obtain ⟨rfl,rfl⟩:=h
      have r1:=ih _ _ b _ _ _ h1 trivial
      exact ⟨r1.1,key _ (r1.to ⟨rfl,rfl⟩)⟩
     ·rename_i i s1 h1
      have r1:=ih _ _ b _ _ _ h1 trivial
      split at h
      ·rename_i hb
       simp only [Option.some.injEq,Prod.mk.injEq] at h
       obtain ⟨rfl,rfl⟩:=h
       exact ⟨r1.1,key _ (r1.to (by simp [hb]))⟩
      ·rename_i hb
       simp only [Option.some.injEq,Prod.mk.injEq] at h
       obtain ⟨rfl,rfl⟩:=h
       exact ⟨r1.1,key _ (r1.to (by simp [hb]))⟩
     ·rename_i s1 h1
      simp only [Option.some.injEq,Prod.mk.injEq] at h
      obtain ⟨rfl,rfl⟩:=h
      have r1:=ih _ _ b _ _ _ h1 trivial
      exact ⟨r1.1,key _ (r1.to ⟨rfl,rfl⟩)⟩
     ·cases h
   | loop b=>
     have htr:∀(j:Nat) (t:PS),runC R H np rl j E m (.loop b) t.tr=runC R H np rl j E m (.loop b) t:=fun j t=>by cases j<;>rfl
     have hgc:∀(mm:Nat) (t t0:PS),gcP np mm t=some t0→t0.tr=t0∧∀(c:C) (Q:Lv→PS→Prop),LSem P wr np c Q t0→LSem P wr np c Q t:=fun mm t t0 hg=>by
      obtain ⟨g1,g2⟩:=gcP_ok hg
      refine ⟨by rw [g1];rfl,fun c Q hq=>LSem.weak g2 ?_⟩
      rw [←g1];exact hq
     have hall:∀(j:Nat),j≤k+1→∀t,runC R H np rl j E m (.loop b) t=some (lv,s')→s'.ok:=by
      intro j
      induction j with
      | zero=>intro _ t ht;simp [runC] at ht
      | succ j ihj=>
        intro hj t ht
        simp only [runC] at ht
        split at ht
        ·rename_i t0 hg
         split at ht
         ·rename_i s1 h1
          exact ihj (by omega) _ ht
         ·rename_i i s1 h1
          simp only [Option.some.injEq,Prod.mk.injEq] at ht
          obtain ⟨rfl,rfl⟩:=ht
          exact (ihs j (by omega) _ _ b _ _ _ h1 trivial).1
         ·rename_i s1 h1
          simp only [Option.some.injEq,Prod.mk.injEq] at ht
          obtain ⟨rfl,rfl⟩:=ht
          exact (ihs j (by omega) _ _ b _ _ _ h1 trivial).1
         ·cases ht
        ·cases ht
     refine ⟨hall _ (Nat.le_refl _) _ h,LSem.loopRun (fun j t=>j≤k+1∧runC R H np rl j E m (.loop b) t=some (lv,s')) (k+1) ⟨Nat.le_refl _,h⟩ ?_⟩
     rintro j t ⟨hj,ht⟩
     cases j with
     | zero=>simp [runC] at ht
     | succ j=>
       simp only [runC] at ht
       split at ht
       ·rename_i t0 hg
        obtain ⟨g1,g2⟩:=hgc _ _ _ hg
        refine g2 _ _ ?_
        rw [g1] at ht
        split at ht
        ·rename_i s1 h1
         have r1:=ihs j (by omega) _ _ b _ _ _ h1 (by rw [←g1];trivial)
         exact (r1.to ⟨r1.1,j,⟨by omega,by rw [←htr];exact ht⟩,by omega⟩)
        ·rename_i i s1 h1
         simp only [Option.some.injEq,Prod.mk.injEq] at ht
         obtain ⟨rfl,rfl⟩:=ht
         have r1:=ihs j (by omega) _ _ b _ _ _ h1 (by rw [←g1];trivial)
         exact (r1.to ⟨rfl,rfl⟩)
        ·rename_i s1 h1
         simp only [Option.some.injEq,Prod.mk.injEq] at ht
         obtain ⟨rfl,rfl⟩:=ht
         have r1:=ihs j (by omega) _ _ b _ _ _ h1 (by rw [←g1];trivial)
         exact (r1.to ⟨rfl,rfl⟩)
        ·cases ht
       ·cases ht
   | exit id=>
     simp only [runC,Option.some.injEq,Prod.mk.injEq] at h
     obtain ⟨rfl,rfl⟩:=h
     exact ⟨hok,LSem.of_vc hmix ⟨rfl,rfl⟩⟩
   | ret=>
     simp only [runC,Option.some.injEq,Prod.mk.injEq] at h
     obtain ⟨rfl,rfl⟩:=h
     exact ⟨hok,LSem.of_vc hmix ⟨rfl,rfl⟩⟩
   | raw c=>
     simp only [runC,PS.tr] at h
     split at h
     ·rename_i s1 h1
      simp only [Option.some.injEq,Prod.mk.injEq] at h
      obtain ⟨rfl,rfl⟩:=h
      have r1:=hH _ _ _ h1
      exact ⟨r1.1,LSem.of_vc (c:= .raw c) hmix ⟨hok,r1.2⟩⟩
     ·cases h
   | scope b=>
     simp only [runC,PS.tr] at h
     split at h
     ·rename_i hl
      have key:∀(Q:Lv→PS→Prop),LSem P wr np b (outs Q) ⟨n,fr,st,True,log⟩→LSem P wr np (.scope b) Q ⟨n,fr,st,ok,log⟩:=fun Q hq=>by
       refine LSem.of_vc (c:= .scope (.cut b)) hmix ?_
       simp only [vc,C.labOf,hl]
       exact ⟨hok,hq⟩
      split at h
      ·rename_i s1 h1
       simp only [Option.some.injEq,Prod.mk.injEq] at h
       obtain ⟨rfl,rfl⟩:=h
       have r1:=ih _ _ b _ _ _ h1 trivial
       exact ⟨r1.1,key _ (r1.to ⟨rfl,rfl⟩)⟩
      ·rename_i i s1 h1
       split at h
       ·cases h
       ·rename_i hb
        simp only [Option.some.injEq,Prod.mk.injEq] at h
        obtain ⟨rfl,rfl⟩:=h
        have r1:=ih _ _ b _ _ _ h1 trivial
        exact ⟨r1.1,key _ (r1.to (by simp [outs,hb]))⟩
      ·rename_i s1 h1
       simp only [Option.some.injEq,Prod.mk.injEq] at h
       obtain ⟨rfl,rfl⟩:=h
       have r1:=ih _ _ b _ _ _ h1 trivial
       exact ⟨r1.1,key _ (r1.to ⟨rfl,rfl⟩)⟩
      ·cases h
     ·cases h
   | cut b=>simp [runC] at h
   | bad=>simp [runC] at h
   | lab l=>simp [runC] at h
   | gto l=>simp [runC] at h
end
open Go.RowKit
mutual
theorem ren_of {ρ:Nat→Nat}:∀(p:PV),(∀r∈p.ids,ρ r=r)→p.ren ρ=p
 | .os r,h=>by rw [PV.ren,h r (by simp [PV.ids])]
 | .vw _ r _ _,h=>by rw [PV.ren,h r (by simp [PV.ids])]
 | .rf _ r,h=>by rw [PV.ren,h r (by simp [PV.ids])]
 | .pt r _ _,h=>by rw [PV.ren,h r (by simp [PV.ids])]
 | .agg cs,h=>by rw [PV.ren,ren_ofL cs h]
 | .tup cs,h=>by rw [PV.ren,ren_ofL cs h]
 | .fn f a b,h=>by rw [PV.ren,ren_ofL a (fun r hr=>h r (by simp [PV.ids,hr])),ren_ofL b (fun r hr=>h r (by simp [PV.ids,hr]))]
 | .cnd g p,h=>by rw [PV.ren,ren_of p h]
 | .mpv ..,_=>rfl
 | .int ..,_=>rfl
 | .bool _,_=>rfl
 | .str _,_=>rfl
 | .sl ..,_=>rfl
 | .nil _,_=>rfl
 | .rp ..,_=>rfl
 | .raw _,_=>rfl
 | .junk,_=>rfl
theorem ren_ofL {ρ:Nat→Nat}:∀(l:List PV),(∀r∈PV.idsL l,ρ r=r)→PV.renL ρ l=l
 | [],_=>rfl
 | p::ps,h=>by rw [PV.renL,ren_of p (fun r hr=>h r (by simp [PV.idsL,hr])),ren_ofL ps (fun r hr=>h r (by simp [PV.idsL,hr]))]
end
mutual
def convV (st:Nat→Option SE) (np:Nat):PV→Option PV
 | .os r=>match Nat.blt r np with
   | true=>none
   | false=>match st r with
     | some (.row τ _ z n f)=>some (.sl τ z n f)
     | _=>none
 | .agg cs=>match convL st np cs with
   | some cs'=>some (.agg cs')
   | none=>none
 | .tup cs=>match convL st np cs with
   | some cs'=>some (.tup cs')
   | none=>none
 | .fn f a b=>match convL st np a,convL st np b with
   | some a',some b'=>some (.fn f a' b')
   | _,_=>none
 | .pt r i j=>match Nat.blt r np with
   | true=>some (.pt r i j)
   | false=>none
 | .rf m r=>match Nat.blt r np with
   | true=>some (.rf m r)
   | false=>none
 | .vw .. =>none
 | .cnd _ _=>none
 | .mpv ks vks ka va h f=>some (.mpv ks vks ka va h f)
 | .int k n=>some (.int k n)
 | .bool b=>some (.bool b)
 | .str s=>some (.str s)
 | .sl τ z n f=>some (.sl τ z n f)
 | .nil z=>some (.nil z)
 | .rp τ cs=>some (.rp τ cs)
 | .raw v=>some (.raw v)
 | .junk=>some .junk
def convL (st:Nat→Option SE) (np:Nat):List PV→Option (List PV)
 | []=>some []
 | p::ps=>match convV st np p,convL st np ps with
   | some q,some qs=>some (q::qs)
   | _,_=>none
end
theorem kp_lo {np r:Nat} (h:Nat.blt r np=true):kpR np [] r=true:=by unfold kpR;rw [h]
theorem kp_hi {np r:Nat} (h:Nat.blt r np=false):kpR np [] r=false:=by unfold kpR;rw [h];rfl
theorem blt_lo {np r:Nat} (h:Nat.blt r np=true):r<np:=by rwa [Nat.blt_eq] at h
mutual
theorem convV_ok {st:Nat→Option SE} {np:Nat}:∀(p q:PV),convV st np p=some q→PLe st (kpR np []) p q∧∀r∈q.ids,r<np
 | .os r,q,h=>by
   simp only [convV] at h
   split at h
   ·cases h
   ·rename_i hb
    split at h
    ·rename_i τ e z n f hs
     injection h with h;subst h
     refine ⟨?_,fun r hr=>by simp [PV.ids] at hr⟩
     simp only [PLe]
     refine ⟨kp_hi hb, ?_⟩
     rw [hs]
     exact ⟨Nat.le_refl _,rfl,rfl,fun _ _=>rfl⟩
    ·cases h
 | .agg cs,q,h=>by
   simp only [convV] at h
   split at h
   ·rename_i cs' hc
    injection h with h;subst h
    have:=convL_ok cs cs' hc
    exact ⟨by simp only [PLe];exact this.1,this.2⟩
   ·cases h
 | .tup cs,q,h=>by
   simp only [convV] at h
   split at h
   ·rename_i cs' hc
    injection h with h;subst h
    have:=convL_ok cs cs' hc
    exact ⟨by simp only [PLe];exact this.1,this.2⟩
   ·cases h
 | .fn f a b,q,h=>by
   simp only [convV] at h
   split at h
   ·rename_i a' b' ha hb
    injection h with h;subst h
    have h1:=convL_ok a a' ha
    have h2:=convL_ok b b' hb
    refine ⟨by simp only [PLe];exact ⟨trivial,h1.1,h2.1⟩,fun r hr=> ?_⟩
    simp only [PV.ids,List.mem_append] at hr
    exact hr.elim (h1.2 r) (h2.2 r)
   ·cases h
 | .pt r i j,q,h=>by
   simp only [convV] at h
   split at h
   ·rename_i hb
    injection h with h;subst h
    exact ⟨by simp only [PLe];exact ⟨trivial,trivial,trivial,kp_lo hb⟩,fun r hr=>by simp only [PV.ids,List.mem_singleton] at hr;subst hr;exact blt_lo hb⟩
   ·cases h
 | .rf m r,q,h=>by
   simp only [convV] at h
   split at h
   ·rename_i hb
    injection h with h;subst h
    exact ⟨by simp only [PLe];exact ⟨trivial,trivial,kp_lo hb⟩,fun r hr=>by simp only [PV.ids,List.mem_singleton] at hr;subst hr;exact blt_lo hb⟩
   ·cases h
 | .vw ..,q,h=>by simp [convV] at h
 | .cnd _ _,q,h=>by simp [convV] at h
 | .mpv ..,q,h=>by
   simp only [convV,Option.some.injEq] at h;subst h
   exact ⟨by simp only [PLe];exact ⟨trivial,trivial,trivial,trivial,fun _ _=>⟨rfl,rfl⟩⟩,fun r hr=>by simp [PV.ids] at hr⟩
 | .int ..,q,h=>by
   simp only [convV,Option.some.injEq] at h;subst h
   exact ⟨by simp only [PLe];exact ⟨trivial,trivial⟩,fun r hr=>by simp [PV.ids] at hr⟩
 | .bool _,q,h=>by
   simp only [convV,Option.some.injEq] at h;subst h
   exact ⟨by simp only [PLe],fun r hr=>by simp [PV.ids] at hr⟩
 | .str _,q,h=>by
   simp only [convV,Option.some.injEq] at h;subst h
   exact ⟨by simp only [PLe],fun r hr=>by simp [PV.ids] at hr⟩
 | .sl ..,q,h=>by
   simp only [convV,Option.some.injEq] at h;subst h
   exact ⟨by simp only [PLe];exact ⟨Nat.le_refl _,trivial,trivial,fun _ _=>rfl⟩,fun r hr=>by simp [PV.ids] at hr⟩
 | .nil _,q,h=>by
   simp only [convV,Option.some.injEq] at h;subst h
   exact ⟨by simp only [PLe],fun r hr=>by simp [PV.ids] at hr⟩
 | .rp ..,q,h=>by
   simp only [convV,Option.some.injEq] at h;subst h
   exact ⟨by simp only [PLe];exact ⟨Nat.le_refl _,trivial⟩,fun r hr=>by simp [PV.ids] at hr⟩
 | .raw _,q,h=>by
   simp only [convV,Option.some.injEq] at h;subst h
   exact ⟨by simp only [PLe],fun r hr=>by simp [PV.ids] at hr⟩
 | .junk,q,h=>by
   simp only [convV,Option.some.injEq] at h;subst h
   exact ⟨by simp only [PLe],fun r hr=>by simp [PV.ids] at hr⟩
theorem convL_ok {st:Nat→Option SE} {np:Nat}:∀(l m:List PV),convL st np l=some m→PLeL st (kpR np []) l m∧∀r∈PV.idsL m,r<np
 | [],m,h=>by
   simp only [convL,Option.some.injEq] at h;subst h
   exact ⟨by simp only [PLeL],fun r hr=>by simp [PV.idsL] at hr⟩
 | p::ps,m,h=>by
   simp only [convL] at h
   split at h
   ·rename_i q qs hq hqs
    injection h with h;subst h
    have h1:=convV_ok p q hq
    have h2:=convL_ok ps qs hqs
    refine ⟨by simp only [PLeL];exact ⟨h1.1,h2.1⟩,fun r hr=> ?_⟩
    simp only [PV.idsL,List.mem_append] at hr
    exact hr.elim (h1.2 r) (h2.2 r)
   ·cases h
end
def convS (st:Nat→Option SE) (np:Nat):SE→Option SE
 | .box l=>match convL st np l with
   | some l'=>some (.box l')
   | none=>none
 | .row .. =>none
 | .bld T e s=>some (.bld T e s)
theorem convS_ok {st:Nat→Option SE} {np:Nat} {e e':SE} (h:convS st np e=some e'):SLe st (kpR np []) e e'∧∀r∈e'.ids,r<np:=by
 cases e with
 | box l=>
   simp only [convS] at h
   split at h
   ·rename_i l' hl
    injection h with h;subst h
    exact convL_ok l l' hl
   ·cases h
 | row _ _ _ _ _=>simp [convS] at h
 | bld T e s=>
   simp only [convS,Option.some.injEq] at h;subst h
   exact ⟨⟨rfl,rfl,rfl⟩,fun r hr=>by simp [SE.ids] at hr⟩
def convB (st:Nat→Option SE) (np:Nat):Nat→Nat→Option (List SE)
 | 0,_=>some []
 | j+1,k=>match st k with
   | some e=>match convS st np e,convB st np j (k+1) with
     | some e',some l=>some (e'::l)
     | _,_=>none
   | none=>none
theorem reN_lo {np r:Nat} (hn:np≤newBase) (h:r<np):reN [] r=r:=by
 unfold reN
 have:Nat.ble newBase r=false:=by rw [Bool.eq_false_iff];intro hh;have:=Nat.le_of_ble_eq_true hh;omega
 rw [this]
theorem sren_of {ρ:Nat→Nat} {e:SE} (h:∀r∈e.ids,ρ r=r):e.ren ρ=e:=by
 cases e with
 | box l=>rw [SE.ren,ren_ofL l h]
 | row _ _ _ _ _=>rfl
 | bld _ _ _=>rfl
theorem convB_ok {st:Nat→Option SE} {np:Nat} (hn:np≤newBase):∀(j k:Nat) (l:List SE),convB st np j k=some l→leBox st (kpR np []) [] k l∧l.length=j∧∀e∈l,∀r∈e.ids,r<np
 | 0,k,l,h=>by
   simp only [convB,Option.some.injEq] at h;subst h
   exact ⟨trivial,rfl,fun e he=>by simp at he⟩
 | j+1,k,l,h=>by
   simp only [convB] at h
   split at h
   ·rename_i e he
    split at h
    ·rename_i e' l' h1 h2
     injection h with h;subst h
     have g1:=convS_ok h1
     have g2:=convB_ok hn j (k+1) l' h2
     refine ⟨⟨?_,g2.1⟩,by simp [g2.2.1],fun x hx=> ?_⟩
     ·rw [he,sren_of (fun r hr=>reN_lo hn (g1.2 r hr))];exact g1.1
     ·rcases List.mem_cons.1 hx with rfl | hx
      ·exact g1.2
      ·exact g2.2.2 x hx
    ·cases h
   ·cases h
theorem inRes_lo {np:Nat}:∀{l:List Nat},(∀r∈l,r<np)→inRes np 0 l=true
 | [],_=>rfl
 | r::l,h=>by
   have h1:Nat.blt r np=true:=by rw [Nat.blt_eq];exact h r (by simp)
   simp only [inRes,h1,Bool.true_or]
   exact inRes_lo fun x hx=>h x (by simp [hx])
theorem inResS_lo {np:Nat}:∀{l:List SE},(∀e∈l,∀r∈e.ids,r<np)→inResS np 0 l=true
 | [],_=>rfl
 | e::l,h=>by
   simp only [inResS,inRes_lo (h e (by simp))]
   exact inResS_lo fun x hx=>h x (by simp [hx])
def C.uncut:C→Bool
 | .seq a b=>a.uncut&&b.uncut
 | .cond _ x y=>x.uncut&&y.uncut
 | .block _ b=>b.uncut
 | .loop b=>b.uncut
 | .scope b=>b.uncut
 | .cut _=>false
 | _=>true
theorem C.uncut_er:∀(c:C),c.uncut=true→c.er=c
 | .seq a b,h=>by
   simp only [C.uncut,Bool.and_eq_true] at h
   rw [C.er,C.uncut_er a h.1,C.uncut_er b h.2]
 | .cond _ x y,h=>by
   simp only [C.uncut,Bool.and_eq_true] at h
   rw [C.er,C.uncut_er x h.1,C.uncut_er y h.2]
 | .block _ b,h=>by rw [C.er,C.uncut_er b h]
 | .loop b,h=>by rw [C.er,C.uncut_er b h]
 | .scope b,h=>by rw [C.er,C.uncut_er b h]
 | .skip,_=>rfl
 | .reg _,_=>rfl
 | .drw _ _,_=>rfl
 | .exit _,_=>rfl
 | .ret,_=>rfl
 | .raw _,_=>rfl
 | .bad,_=>rfl
 | .lab _,_=>rfl
 | .gto _,_=>rfl
 | .cut _,h=>by simp [C.uncut] at h
abbrev Orc:=FuncId→List PV→List SE→Option CallRes
def OrcOK (P:Program) (R:Orc):Prop:=∀f args bs c,R f args bs=some c→PureCall P f args bs c
def runEnd (rs:List RV) (np:Nat) (s:PS):Option CallRes:=match s with
 | ⟨_,fr,st,_,_⟩=>match rvL fr st rs with
   | some ps=>match convV st np (tupOf ps),convB st np np 0 with
     | some v,some l=>some ⟨v,l, []⟩
     | _,_=>none
   | none=>none
def runBody (P:Program) (R:Orc) (H:Code→PS→Option PS) (k:Nat) (fn:Func) (args:List PV) (bs:List SE):Option CallRes:=
 match fn.body,mapO (compR P) fn.results.toList with
 | some code,some rs=>match comp P false code with
   | some cc=>match cc.uncut&& !(bs.any SE.isRow)&& !(fn.name== "runtime.NumGoroutine")&&Nat.ble (nbx bs) newBase with
     | true=>match runC R H (nbx bs) (mAs (rs.map fun r=>A.t r.1) 0) k [] (mAs (rs.map fun r=>A.t r.1) 0) cc (St (args.length+(fn.ntmps - args.length)) (argF 0 args) (boxF 0 bs)) with
       | some (.nrm,s)=>runEnd rs (nbx bs) s
       | some (.ret,s)=>runEnd rs (nbx bs) s
       | _=>none
     | false=>none
   | none=>none
 | _,_=>none
theorem runEnd_ok {rs:List RV} {np:Nat} {s:PS} {c:CallRes} (hn:np≤newBase) (h:runEnd rs np s=some c):∃ids,ResOK rs np c ids s:=by
 obtain ⟨n,fr,st,ok,log⟩:=s
 simp only [runEnd] at h
 split at h
 ·rename_i ps hps
  split at h
  ·rename_i v l hv hl
   injection h with h;subst h
   refine ⟨[], ?_⟩
   simp only [ResOK,hps]
   have g1:=convV_ok _ _ hv
   have g2:=convB_ok hn _ _ _ hl
   refine ⟨?_, ?_,g2.1,trivial⟩
   ·simp only [Bool.and_eq_true]
    refine ⟨⟨⟨⟨⟨⟨rfl,rfl⟩, ?_⟩,Nat.ble_eq_true_of_le hn⟩,inRes_lo g1.2⟩,inResS_lo g2.2.2⟩,rfl⟩
    rw [g2.2.1];exact Nat.beq_refl _
   ·rw [ren_of _ (fun r hr=>reN_lo hn (g1.2 r hr))];exact g1.1
  ·cases h
 ·cases h
theorem runBody_ok {P:Program} (hmix:P.follows .mixedOrders=true) {R:Orc} {H:Code→PS→Option PS} {k:Nat} {f:FuncId} {fn:Func} {args:List PV} {bs:List SE} {c:CallRes} (hf:P.funcs[f]? =some fn)
  (hR:OrcOK P R) (hH:∀np c s s',H c s=some s'→Runs P false np (.raw c) s .nrm s') (h:runBody P R H k fn args bs=some c):PureBody P f args bs c:=by
 unfold runBody at h
 split at h
 ·rename_i code rs hb hrs
  split at h
  ·rename_i cc hcc
   split at h
   ·rename_i hg
    simp only [Bool.and_eq_true,Bool.not_eq_true'] at hg
    obtain ⟨⟨⟨h1,h2⟩,h3⟩,h4⟩:=hg
    have hn:=Nat.le_of_ble_eq_true h4
    refine pure_body (wr:=false) (cc:= .cut cc) (rs:=rs) (n:=args.length+(fn.ntmps - args.length)) hmix hf ?_ (by unfold okBs;rw [h2];rfl) ?_
    ·unfold fits
     rw [hb,hrs]
     simp only [C.er,C.uncut_er cc h1]
     rw [if_pos ⟨trivial,trivial,h3⟩,hcc]
    ·refine ⟨trivial, ?_⟩
     split at h
     ·rename_i s hs
      exact (runC_sound hmix hR (hH _) k _ _ cc _ _ _ hs trivial).to ⟨(runC_sound hmix hR (hH (nbx bs)) k _ _ cc _ _ _ hs trivial).1,runEnd_ok hn h⟩
     ·rename_i s hs
      exact (runC_sound hmix hR (hH _) k _ _ cc _ _ _ hs trivial).to ⟨(runC_sound hmix hR (hH (nbx bs)) k _ _ cc _ _ _ hs trivial).1,runEnd_ok hn h⟩
     ·cases h
   ·cases h
  ·cases h
 ·cases h
end Pv
end Go.Proofs.YtdcgnfkkklbckaaGreatDoor
