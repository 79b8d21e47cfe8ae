/- TOP: ratings that are made; the flows of readings. -/
import Derived.Shelf.Sort.Plain
import Derived.Shelf.Slices.Clone
import Derived.Shelf.Slices.In.SortNone
import Derived.Test.YtdcgnfkkklbckaaGreatDoorRows
import Derived.Test.YtdcgnfkkklbckaaGreatDoorZmf
import Derived.Sort.OwnSortedInts
import Derived.Shelf.Strings.BuilderK
import Derived.Shelf.Strings.Split
import Derived.Shelf.Strings.Cut
import Derived.Shelf.Strconv.Itoa3
import Derived.Shelf.Strings.FieldsFuncAny
import Derived.Shelf.Strings.SlTrimAscii
import Derived.Shelf.Strconv.Atoi
import Derived.Lib.FieldsP
import Derived.Lib.SpaceUEq
import Derived.Lib.TrimAscii
import Derived.WalkKit
set_option linter.unusedSimpArgs false
set_option linter.unusedVariables false
set_option maxRecDepth 100000
set_option maxHeartbeats 16000000
namespace Go.Proofs.YtdcgnfkkklbckaaGreatDoor
namespace Sh
open Go.Shelf
def lays189_ren:Go.Shelf.Ren:=⟨fun | 189=>157 | 125=>204 | 257=>203 | 128=>268 | 129=>269 | 294=>259 | 295=>260 | 296=>261 | 297=>262 | 298=>263 | 299=>264 | 216=>265 | 300=>266 | 301=>267 | 328=>300 | 329=>301 | 330=>302 | 331=>303 | 332=>304 | 215=>209 | 343=>330 | n=>n,fun | 28=>22 | 3=>3 | 46=>201 | 0=>0 | 51=>399 | 53=>372 | 4=>4 | 183=>393 | 182=>392 | 131=>215 | 5=>5 | 9=>9 | 218=>427 | 222=>283 | 228=>444 | 229=>445 | n=>n,fun | n=>n⟩
theorem lays189:Go.Proofs.Lays.n189 Tryz.prog lays189_ren:={
 mixed:=by kernel_rfl
 f125:=Tryz.func204.trans (congrArg some (by kernel_rfl))
 f128:=Tryz.func268.trans (congrArg some (by kernel_rfl))
 f129:=Tryz.func269.trans (congrArg some (by kernel_rfl))
 f189:=Tryz.func157.trans (congrArg some (by kernel_rfl))
 f215:=Tryz.func209.trans (congrArg some (by kernel_rfl))
 f216:=Tryz.func265.trans (congrArg some (by kernel_rfl))
 f257:=Tryz.func203.trans (congrArg some (by kernel_rfl))
 f294:=Tryz.func259.trans (congrArg some (by kernel_rfl))
 f295:=Tryz.func260.trans (congrArg some (by kernel_rfl))
 f296:=Tryz.func261.trans (congrArg some (by kernel_rfl))
 f297:=Tryz.func262.trans (congrArg some (by kernel_rfl))
 f298:=Tryz.func263.trans (congrArg some (by kernel_rfl))
 f299:=Tryz.func264.trans (congrArg some (by kernel_rfl))
 f300:=Tryz.func266.trans (congrArg some (by kernel_rfl))
 f301:=Tryz.func267.trans (congrArg some (by kernel_rfl))
 f328:=Tryz.func300.trans (congrArg some (by kernel_rfl))
 f329:=Tryz.func301.trans (congrArg some (by kernel_rfl))
 f330:=Tryz.func302.trans (congrArg some (by kernel_rfl))
 f331:=Tryz.func303.trans (congrArg some (by kernel_rfl))
 f332:=Tryz.func304.trans (congrArg some (by kernel_rfl))
 f343:=Tryz.func330.trans (congrArg some (by kernel_rfl))
 t0:=Tryz.underlying0
 a0:=Tryz.isAgg0
 z0:=Tryz.sizeOf0
 v0:=Tryz.zeroValue0
 t3:=Tryz.underlying3
 a3:=Tryz.isAgg3
 z3:=Tryz.sizeOf3
 v3:=Tryz.zeroValue3
 t4:=Tryz.underlying4
 a4:=Tryz.isAgg4
 z4:=Tryz.sizeOf4
 v4:=Tryz.zeroValue4
 t5:=Tryz.underlying5
 a5:=Tryz.isAgg5
 z5:=Tryz.sizeOf5
 v5:=Tryz.zeroValue5
 t9:=Tryz.underlying9
 a9:=Tryz.isAgg9
 z9:=Tryz.sizeOf9
 v9:=Tryz.zeroValue9
 t28:=Tryz.underlying22
 a28:=Tryz.isAgg22
 z28:=Tryz.sizeOf22
 v28:=Tryz.zeroValue22
 t46:=Tryz.underlying201
 a46:=Tryz.isAgg201
 z46:=Tryz.sizeOf201
 v46:=Tryz.zeroValue201
 t51:=Tryz.underlying399
 a51:=Tryz.isAgg399
 z51:=Tryz.sizeOf399
 v51:=Tryz.zeroValue399
 t53:=Tryz.underlying372
 a53:=Tryz.isAgg372
 z53:=Tryz.sizeOf372
 v53:=Tryz.zeroValue372
 t131:=Tryz.underlying215
 a131:=Tryz.isAgg215
 z131:=Tryz.sizeOf215
 v131:=Tryz.zeroValue215
 t182:=Tryz.underlying392
 a182:=Tryz.isAgg392
 z182:=Tryz.sizeOf392
 v182:=Tryz.zeroValue392
 t183:=Tryz.underlying393
 a183:=Tryz.isAgg393
 z183:=Tryz.sizeOf393
 v183:=Tryz.zeroValue393
 t218:=Tryz.underlying427
 a218:=Tryz.isAgg427
 z218:=Tryz.sizeOf427
 v218:=Tryz.zeroValue427
 t222:=Tryz.underlying283
 a222:=Tryz.isAgg283
 z222:=Tryz.sizeOf283
 v222:=Tryz.zeroValue283
 t228:=Tryz.underlying444
 a228:=Tryz.isAgg444
 z228:=Tryz.sizeOf444
 v228:=Tryz.zeroValue444
 t229:=Tryz.underlying445
 a229:=Tryz.isAgg445
 z229:=Tryz.sizeOf445
 v229:=Tryz.zeroValue445 }
open Go.Sort Go.RowKit in
theorem slices_Sort_int (blk off cap:Nat) (zs:List Int) (w:World) (hH:Holds (Value.int .i64) w blk off zs.toArray) (hblk:blk<w.heap.size) (hsz:zs.length<4611686018427387904):
 Calls Tryz.prog 157 #[.slice (some ⟨blk,off,none⟩) zs.length cap] w fun e w'=>
  e= .returned (.tuple #[])∧∃n os,w'=grow (putRow (Value.int .i64) (Sort.ahead w n) blk off (zs.mergeSort fun x y=>decide (x≤y)).toArray) os:=Any.slices_Sort_int lays189 blk off cap zs w hH hblk hsz
end Sh
namespace Pv
open Go.Sort Go.RowKit
theorem ints_holds {w:World} {g T cap:Nat} {l:List Int} (h:IntsIn w g T cap l):Holds (Value.int .i64) w g 0 l.toArray∧g<w.heap.size:=by
 obtain ⟨cur,fz,hg,hfz,hnc,hcm,hsz,htk⟩:=h
 rw [Nat.mul_one] at htk
 refine ⟨fun j hj=> ?_,(Array.getElem?_eq_some_iff.1 hg).1⟩
 have hj':j<l.length:=by simpa using hj
 refine ⟨?_, ?_⟩
 ·have h1:(cur.toList.take l.length)[j]? =(l.map (Value.int .i64))[j]? :=by rw [htk]
  rw [List.getElem?_take_of_lt hj'] at h1
  simp only [World.cell?,hg,Nat.zero_add]
  simp only [Option.isSome_none,Bool.false_eq_true,if_false]
  rw [←Array.getElem?_toList,h1]
  simp [hj']
 ·obtain ⟨lo,hi⟩:=fz
  unfold fzOff at hfz
  simp only [World.frozen?,hg,Bool.and_eq_false_iff,decide_eq_false_iff_not]
  simp only at hfz
  omega
theorem ints_put {w:World} {g T cap n:Nat} {os:Array Obj} {l l' d:List Int} (h:IntsIn w g T cap l) (hd:d.length=l.length) (hp:d.take l'.length=l'):Keeps (· =g) w (grow (putRow (Value.int .i64) (Sort.ahead w n) g 0 d.toArray) os)∧IntsIn (grow (putRow (Value.int .i64) (Sort.ahead w n) g 0 d.toArray) os) g T cap l':=by
 obtain ⟨cur,fz,hg,hfz,hnc,hcm,hsz,htk⟩:=h
 have hgb:=grownBy_sortedI (w:=w) (g:=g) (n:=n) (os:=os) d.toArray
 have hl':l'.length≤d.length:=by rw [←hp,List.length_take];omega
 refine ⟨⟨hgb.os,hgb.tape,hgb.output,hgb.size,fun b hb hne=>hgb.block b hb (fun h=>hne (by injection h))⟩,_,fz,heap_sortedI _ hg,by simpa [putCells] using hfz,by omega,hcm,by simp [putCells,hsz], ?_⟩
 have:=take_putCellsI cur d (by omega)
 rw [Nat.mul_one]
 rw [show l'.length=min l'.length d.length by omega,←List.take_take,this,←List.map_take,hp]
theorem sort_inplace (l:List Int) (hb:l.length<4611686018427387904):InPlace Tryz.prog 157 l (l.mergeSort fun x y=>decide (x≤y)) false:=by
 refine ⟨⟨_,Tryz.func157,rfl,rfl⟩,fun w g cap T h=> ?_⟩
 obtain ⟨h1,h2⟩:=ints_holds h
 refine (Sh.slices_Sort_int g 0 cap l w h1 h2 hb).mono ?_
 rintro e w' ⟨he,n,os,rfl⟩
 have hlen:(l.mergeSort fun x y=>decide (x≤y)).length=l.length:=List.length_mergeSort ..
 obtain ⟨k1,k2⟩:=ints_put (n:=n) (os:=os) (d:=l.mergeSort fun x y=>decide (x≤y)) (l':=l.mergeSort fun x y=>decide (x≤y)) h hlen (List.take_length ..)
 exact ⟨by rw [he];rfl,k1,k2⟩
open Go.RowKit
theorem ints_vals {X:Cx} {γ:Gh} {w:World} {τ:Nat} {f:Nat→List PV} {l:List Int} {vs:List Value} (h5:RowsRep X γ w τ 1 l.length f vs) (hf:RowEq l.length f (fl (fun n:Int=> [PV.int .i64 n]) l)):vs=l.map (Value.int .i64):=by
 refine List.ext_getElem? fun j=> ?_
 have hlen:vs.length=l.length:=by rw [h5.len,Nat.mul_one]
 by_cases hj:j<l.length
 ·have hc:(f j)[0]? =some (.int .i64 (l.getD j default)):=by rw [hf j hj];rfl
  have hu:vs[j]? =some (vs[j]'(by omega)):=List.getElem?_eq_getElem (by omega)
  have:=h5.rep j 0 _ (vs[j]'(by omega)) hj hc (by rw [Nat.mul_one,Nat.add_zero];exact hu)
  have hi:vs[j]'(by omega)= .int .i64 (l.getD j default):=by
   have h6:Rep X γ w (.int .i64 (l.getD j default)) (vs[j]'(by omega)):=this
   exact h6.int_inv
  rw [hu,hi,List.getElem?_map,getD_some hj];rfl
 ·rw [List.getElem?_eq_none (by omega),List.getElem?_eq_none (by simp;omega)]
namespace G08
def c56:C:=(sr [kk 4 (.mv (.c (.bool false)))] (sr [km 5 0,kk 6 (.bi false .geq 5 (cn 0)),km 7 6,kg 8 7 true (.mv 0),kg 9 7 true (.mv 1),kg 10 7 true (.bi false .leq 8 9),kk 11 (.pick 7 10 (.c (.bool false))),km 4 11] .ret))
theorem fits56:fits Tryz.prog false Tryz.f56 2 12 [(4,none)]=some c56.er:=by kernel_rfl
def c101:C:=(sr [kk 4 (.mv (cn 0))] (sr [km 6 0,km 7 1,kk 8 (.bi false .quo 6 7),km 5 8] (.seq (sr [km 9 0,km 10 1,kk 11 (.bi false .rem 9 10),kk 12 (.bi false .lss 11 (cn 0))] (.cond 12 (.reg [km 13 5,kk 14 (.bi false .sub 13 (cn 1)),km 5 14]) .skip)) (sr [km 15 5,km 4 15] .ret))))
theorem fits101:fits Tryz.prog false Tryz.f101 2 16 [(4,none)]=some c101.er:=by kernel_rfl
def c34L1:C:=(sr [kk 14 (.bi false .lss 13 12)] (.seq (.cond 14 .skip (.exit 0)) (.seq (.block 1 (sr [km 15 13,km 5 15] (.seq (.drw [km 16 0,km 17 5,kk 18 (.ia 1 16 17),kk 19 (.ld 1 false 18),km 20 1,km 21 5,kk 22 (.ia 1 20 21),kk 23 (.ld 1 false 22),kk 24 (.bi false .neq 19 23)] (pl [(0,[1,4,5,6,7],16),(1,[4,5,6,7],17),(2,[4,5,6,7],18),(3,[4,5,6,7],19),(4,[5],20)])) (.cond 24 (sr [kk 4 (.mv (.c (.bool false)))] .ret) .skip)))) (.reg [kk 25 (.bi false .add 13 (cn 1)),km 13 25]))))
def c34:C:=(sr [kk 4 (.mv (.c (.bool false)))] (.seq (sr [km 6 0,kk 7 (.len 6),km 8 1,kk 9 (.len 8),kk 10 (.bi false .neq 7 9)] (.cond 10 (sr [kk 4 (.mv (.c (.bool false)))] .ret) .skip)) (.seq (sr [km 11 0,kk 12 (.len 11),kk 13 (.mv (cn 0))] (.block 0 (.loop c34L1))) (sr [kk 4 (.mv (.c (.bool true)))] .ret))))
theorem fits34:fits Tryz.prog false Tryz.f34 2 26 [(4,none)]=some c34.er:=by kernel_rfl
def eBool (b:Bool):List PV:= [.bool b]
theorem call56 (n m:Int):PureCall Tryz.prog 56 [.int .i64 n, .int .i64 m] [] ⟨.bool (decide (0≤n∧n≤m)), [], []⟩:=by
 refine pure_call mix Tryz.func56 fits56 rfl ?_
 conv=>whnf
 refine ⟨?_, [], ?_⟩
 ·exact g0
 conv=>whnf
 refine ⟨rfl, ?_,trivial,trivial⟩
 all_goals repeat' (first | exact True.intro | refine leF_cons rfl ?_ ?_ | refine leS_cons rfl ?_ ?_ | (show PLe _ _ _ _;conv=>whnf) | (show SLe _ _ _ _;conv=>whnf) | (show PLeL _ _ _ _;conv=>whnf) | apply And.intro | rfl | exact Nat.le_refl _ | exact fun _ _=>rfl | exact rowEq0 _ _)
 by_cases h:0≤n<;>simp [h]
def ixG {α:Type} [Inhabited α] (p:α→Bool) (l:List α):Nat→Nat→Int
 | _,0=> -1
 | i,n+1=>if p (l.getD i default)=true then i else ixG p l (i+1) n
theorem ixG_neg {α:Type} [Inhabited α] {p:α→Bool} {l:List α}:∀{n i:Nat},ixG p l i n<0↔∀j,i≤j→j<i+n→p (l.getD j default)=false
 | 0,i=>by constructor
           ·intro _ j h1 h2;omega
           ·intro _;simp [ixG]
 | n+1,i=>by
   unfold ixG
   by_cases h:p (l.getD i default)=true
   ·rw [if_pos h];constructor
    ·intro h2;omega
    ·intro h2;have:=h2 i (by omega) (by omega);rw [h] at this;cases this
   ·rw [if_neg h,ixG_neg];constructor
    ·intro h2 j h3 h4
     by_cases e:j=i
     ·rw [e];simpa using h
     ·exact h2 j (by omega) (by omega)
    ·intro h2 j h3 h4;exact h2 j (by omega) (by omega)
theorem tdiv_down (a b:Int) (hb:0<b):a / b=if Int.tmod a b<0 then Int.tdiv a b - 1 else Int.tdiv a b:=by
 have h1:=Int.mul_tdiv_add_tmod a b
 have h2:=Int.lt_tmod_of_pos a hb
 have h3:=Int.tmod_lt_of_pos a hb
 split
 ·rename_i h
  refine ((Int.ediv_emod_unique (r:=Int.tmod a b+b) hb).2 ⟨?_,by omega,by omega⟩).1
  rw [Int.mul_sub,Int.mul_one];omega
 ·rename_i h
  exact ((Int.ediv_emod_unique (r:=Int.tmod a b) hb).2 ⟨by omega,by omega,by omega⟩).1
theorem call101 (a b:Int) (ha: -4611686018427387904≤a∧a≤4611686018427387904) (hb:0<b∧b≤4611686018427387904):PureCall Tryz.prog 101 [.int .i64 a, .int .i64 b] [] ⟨.int .i64 (a / b), [], []⟩:=by
 have hq:=tdiv_down a b hb.1
 have hle:(Int.tdiv a b).natAbs≤a.natAbs:=Int.natAbs_tdiv_le_natAbs a b
 refine pure_call mix Tryz.func101 fits101 rfl ?_
 conv=>whnf
 refine ⟨?_,fun hc=> ?_,fun hc=> ?_⟩
 ·exact g0
 ·replace hc:=of_decide_eq_true hc
  rw [if_pos hc] at hq
  rw [hq]
  conv=>whnf
  refine ⟨?_, [], ?_⟩
  ·exact g0
  conv=>whnf
  refine ⟨rfl, ?_,trivial,trivial⟩
  all_goals exact ent
 ·replace hc:=of_decide_eq_false hc
  rw [if_neg hc] at hq
  rw [hq]
  conv=>whnf
  refine ⟨?_, [], ?_⟩
  ·exact g0
  conv=>whnf
  refine ⟨rfl, ?_,trivial,trivial⟩
  all_goals exact ent
theorem ext_getD {α:Type} [Inhabited α] {a b:List α} (hl:a.length=b.length) (h:∀j,j<a.length→a.getD j default=b.getD j default):a=b:=by
 refine List.ext_getElem hl fun i h1 h2=> ?_
 have:=h i h1
 rwa [List.getD_eq_getElem?_getD,List.getD_eq_getElem?_getD,List.getElem?_eq_getElem h1,List.getElem?_eq_getElem h2] at this
theorem call34 (τ τ':Nat) (a b:List Int) (hl:a.length≤4611686018427387904):PureCall Tryz.prog 34 [.sl τ 1 a.length (fl eInt a), .sl τ' 1 b.length (fl eInt b)] [] ⟨.bool (decide (a=b)), [], []⟩:=by
 refine pure_call mix Tryz.func34 fits34 rfl ?_
 conv=>whnf
 refine ⟨trivial,fun hc=> ?_,fun hc=> ?_⟩
 ·simp only [bp] at hc
  rw [decide_eq_false (fun e=>hc (by rw [e]))]
  conv=>whnf
  refine ⟨?_, [], ?_⟩
  ·exact g0
  conv=>whnf
  refine ⟨rfl, ?_,trivial,trivial⟩
  all_goals exact ent
 ·simp only [bp] at hc
  have hlen:a.length=b.length:=by omega
  conv=>whnf
  refine ⟨trivial, ?_⟩
  refine LSem.loop (n:=26) mix (α:=Nat) (fun i=>i≤a.length∧∀j,j<i→a.getD j default=b.getD j default)
   (fun i=> [(0, .sl τ 1 a.length (fl eInt a)),(1, .sl τ' 1 b.length (fl eInt b)),(12, .int .i64 a.length),(13, .int .i64 i)])
   (fun i=> []) (fun i=>a.length - i) 0 ?_ ?_ ?_
  ·exact ⟨Nat.zero_le _,fun j hj=>by omega⟩
  ·refine ⟨rfl,rfl, ?_, ?_⟩
   all_goals exact ent
  ·intro i hi
   obtain ⟨hi,hall⟩:=hi
   have hj:((i:Int)).toNat=i:=by omega
   conv=>whnf
   refine ⟨trivial,fun hc2=> ?_,fun hc2=> ?_⟩
   ·replace hc2:=of_decide_eq_true hc2
    have hlt:i<a.length:=by omega
    conv=>whnf
    refine ⟨rfl, ?_⟩
    conv=>whnf
    refine ⟨?_,fun hc3=> ?_,fun hc3=> ?_⟩
    ·exact g0
    ·rw [hj] at hc3
     simp only [bp] at hc3
     rw [decide_eq_false (fun e=>hc3 (by rw [e]))]
     conv=>whnf
     refine ⟨?_, [], ?_⟩
     ·exact g0
     conv=>whnf
     refine ⟨rfl, ?_,trivial,trivial⟩
     all_goals exact ent
    ·rw [hj] at hc3
     simp only [bp] at hc3
     conv=>whnf
     refine ⟨?_,i+1,⟨by omega,fun j hj=> ?_⟩, ?_,rfl,rfl, ?_, ?_⟩
     ·exact g0
     ·by_cases e:j=i
      ·rw [e];exact hc3
      ·exact hall j (by omega)
     ·omega
     all_goals repeat' (first | exact True.intro | refine leF_cons rfl ?_ ?_ | refine leS_cons rfl ?_ ?_ | (show PLe _ _ _ _;conv=>whnf) | (show SLe _ _ _ _;conv=>whnf) | (show PLeL _ _ _ _;conv=>whnf) | apply And.intro | rfl | exact Nat.le_refl _ | exact fun _ _=>rfl | exact rowEq0 _ _)
     all_goals omega
   ·replace hc2:=of_decide_eq_false hc2
    rw [decide_eq_true (ext_getD hlen fun j hj=>hall j (by omega))]
    conv=>whnf
    refine ⟨?_, [], ?_⟩
    ·exact g0
    conv=>whnf
    refine ⟨rfl, ?_,trivial,trivial⟩
    all_goals exact ent
end G08
namespace G06
def c56:C:=(sr [kk 4 (.mv (.c (.bool false)))] (sr [km 5 0,kk 6 (.bi false .geq 5 (cn 0)),km 7 6,kg 8 7 true (.mv 0),kg 9 7 true (.mv 1),kg 10 7 true (.bi false .leq 8 9),kk 11 (.pick 7 10 (.c (.bool false))),km 4 11] .ret))
theorem fits56:fits Tryz.prog false Tryz.f56 2 12 [(4,none)]=some c56.er:=by kernel_rfl
def c87:C:=(sr [kk 1 (.bx 4 0),kk 2 (.mv (cn 0))] (.seq (.block 0 (sr [kk 4 (.fa 0 1),kk 5 (.ld 1 false 4),kk 6 (cl 56 [5,(cn 255)]),kk 7 (.un false .not 6),km 3 7] (.cond 3 (sr [kk 2 (.mv (cn 1))] .ret) (sr [kk 9 (.fa 1 1),kk 10 (.ld 1 false 9),kk 11 (cl 56 [10,(cn 16777216)]),kk 12 (.un false .not 11),km 8 12] (.cond 8 (sr [kk 2 (.mv (cn 6))] .ret) (sr [kk 14 (.fa 2 1),kk 15 (.ld 1 false 14),kk 16 (cl 56 [15,(cn 1073741824)]),kk 17 (.un false .not 16),km 13 17] (.cond 13 (sr [kk 2 (.mv (cn 1))] .ret) (sr [kk 19 (.fa 3 1),kk 20 (.ld 1 false 19),kk 21 (cl 56 [20,(cn 2)]),kk 22 (.un false .not 21),km 18 22] (.cond 18 (sr [kk 2 (.mv (cn 5))] .ret) .skip))))))))) (sr [kk 2 (.mv (cn 0))] .ret)))
theorem fits87:fits Tryz.prog false Tryz.f87 1 23 [(2,none)]=some c87.er:=by kernel_rfl
def c90L1:C:=(sr [kk 9 (.bi false .lss 8 7)] (.seq (.cond 9 .skip (.exit 0)) (.seq (.block 1 (sr [kk 10 (.ia 4 6 8),kk 11 (.ld 4 true 10),kk 4 (.al [(.int .i64 0),(.int .i64 0),(.int .i64 0),(.int .i64 0)]),kz (.st 4 4 11)] (sr [kk 12 (.ld 4 true 4),kk 13 (cl 87 [12]),km 5 13] (sr [km 14 5,kk 15 (.bi false .neq 14 (cn 0))] (.cond 15 (sr [km 16 5,km 2 16] .ret) .skip))))) (.reg [kk 17 (.bi false .add 8 (cn 1)),km 8 17]))))
def c90:C:=(sr [kk 2 (.mv (cn 0))] (.seq (sr [km 6 0,kk 7 (.len 6),kk 8 (.mv (cn 0))] (.block 0 (.loop c90L1))) (sr [kk 2 (.mv (cn 0))] .ret)))
theorem fits90:fits Tryz.prog false Tryz.f90 1 18 [(2,none)]=some c90.er:=by kernel_rfl
def c82:C:=(sr [kk 2 (.mv (cn 0))] (.seq (sr [km 3 0,kk 4 (.len 3),kk 5 (.bi false .gtr 4 (cn 4096))] (.cond 5 (sr [kk 2 (.mv (cn 10))] .ret) .skip)) (sr [km 6 0,kk 7 (cl 90 [6]),km 2 7] .ret)))
theorem fits82:fits Tryz.prog false Tryz.f82 1 8 [(2,none)]=some c82.er:=by kernel_rfl
def c33L1:C:=(sr [kk 14 (.bi false .lss 13 12)] (.seq (.cond 14 .skip (.exit 0)) (.seq (.block 1 (sr [km 15 13,km 5 15] (.seq (.drw [km 16 0,km 17 5,kk 18 (.ia 4 16 17),kk 19 (.ld 4 true 18),km 20 1,km 21 5,kk 22 (.ia 4 20 21),kk 23 (.ld 4 true 22),kk 24 (.eqa true [0,0,0,0] 19 23)] (pl [(0,[1,4,5,6,7],16),(1,[4,5,6,7],17),(2,[4,5,6,7],18),(3,[4,5,6,7],19),(4,[5],20)])) (.cond 24 (sr [kk 4 (.mv (.c (.bool false)))] .ret) .skip)))) (.reg [kk 25 (.bi false .add 13 (cn 1)),km 13 25]))))
def c33:C:=(sr [kk 4 (.mv (.c (.bool false)))] (.seq (sr [km 6 0,kk 7 (.len 6),km 8 1,kk 9 (.len 8),kk 10 (.bi false .neq 7 9)] (.cond 10 (sr [kk 4 (.mv (.c (.bool false)))] .ret) .skip)) (.seq (sr [km 11 0,kk 12 (.len 11),kk 13 (.mv (cn 0))] (.block 0 (.loop c33L1))) (sr [kk 4 (.mv (.c (.bool true)))] .ret))))
theorem fits33:fits Tryz.prog false Tryz.f33 2 26 [(4,none)]=some c33.er:=by kernel_rfl
structure Rd where
 g:Int
 t:Int
 v:Int
 f:Int
 deriving DecidableEq
instance:Inhabited Rd:=⟨⟨0,0,0,0⟩⟩
def eRd (r:Rd):List PV:= [.int .i64 r.g, .int .i64 r.t, .int .i64 r.v, .int .i64 r.f]
def checkR (r:Rd):Int:=if 0≤r.g∧r.g≤255 then if 0≤r.t∧r.t≤16777216 then if 0≤r.v∧r.v≤1073741824 then if 0≤r.f∧r.f≤2 then 0 else 5 else 1 else 6 else 1
def allR (l:List Rd):Int:=scan (fun k=>checkR (l.getD k default)) 0 l.length
def limR (l:List Rd):Int:=if 4096<l.length then 10 else allR l
theorem call56 (x most:Int):PureCall Tryz.prog 56 [.int .i64 x, .int .i64 most] [] ⟨.bool (decide (0≤x∧x≤most)), [], []⟩:=by
 refine pure_call mix Tryz.func56 fits56 rfl ?_
 conv=>whnf
 refine ⟨?_, [], ?_⟩
 ·exact g0
 conv=>whnf
 refine ⟨rfl, ?_,trivial,trivial⟩
 all_goals repeat' (first | exact True.intro | refine leF_cons rfl ?_ ?_ | refine leS_cons rfl ?_ ?_ | (show PLe _ _ _ _;conv=>whnf) | (show SLe _ _ _ _;conv=>whnf) | (show PLeL _ _ _ _;conv=>whnf) | apply And.intro | rfl | exact Nat.le_refl _ | exact fun _ _=>rfl | exact rowEq0 _ _)
 by_cases h1:0≤x<;>by_cases h2:x≤most<;>simp [h1,h2]
theorem call87 (r:Rd):PureCall Tryz.prog 87 [.agg (eRd r)] [] ⟨.int .i64 (checkR r), [], []⟩:=by
 refine pure_call mix Tryz.func87 fits87 rfl ?_
 conv=>whnf
 refine ⟨_,fun _=>call56 r.g 255, ?_⟩
 conv=>whnf
 refine ⟨?_,fun h0=> ?_,fun h0=> ?_⟩
 ·exact g0
 ·have h':¬(0≤r.g∧r.g≤255):=fun h=>by rw [decide_eq_true h] at h0;cases h0
  rw [show checkR r=1 by unfold checkR;skip;rw [if_neg h']]
  conv=>whnf
  refine ⟨?_, [], ?_⟩
  ·exact g0
  conv=>whnf
  refine ⟨rfl, ?_,trivial,trivial⟩
  all_goals exact ent
 have h0':0≤r.g∧r.g≤255:=Classical.byContradiction fun h=>by rw [decide_eq_false h] at h0;cases h0
 conv=>whnf
 refine ⟨_,fun _=>call56 r.t 16777216, ?_⟩
 conv=>whnf
 refine ⟨?_,fun h1=> ?_,fun h1=> ?_⟩
 ·exact g0
 ·have h':¬(0≤r.t∧r.t≤16777216):=fun h=>by rw [decide_eq_true h] at h1;cases h1
  rw [show checkR r=6 by unfold checkR;rw [if_pos h0'];rw [if_neg h']]
  conv=>whnf
  refine ⟨?_, [], ?_⟩
  ·exact g0
  conv=>whnf
  refine ⟨rfl, ?_,trivial,trivial⟩
  all_goals exact ent
 have h1':0≤r.t∧r.t≤16777216:=Classical.byContradiction fun h=>by rw [decide_eq_false h] at h1;cases h1
 conv=>whnf
 refine ⟨_,fun _=>call56 r.v 1073741824, ?_⟩
 conv=>whnf
 refine ⟨?_,fun h2=> ?_,fun h2=> ?_⟩
 ·exact g0
 ·have h':¬(0≤r.v∧r.v≤1073741824):=fun h=>by rw [decide_eq_true h] at h2;cases h2
  rw [show checkR r=1 by unfold checkR;rw [if_pos h0'];rw [if_pos h1'];rw [if_neg h']]
  conv=>whnf
  refine ⟨?_, [], ?_⟩
  ·exact g0
  conv=>whnf
  refine ⟨rfl, ?_,trivial,trivial⟩
  all_goals exact ent
 have h2':0≤r.v∧r.v≤1073741824:=Classical.byContradiction fun h=>by rw [decide_eq_false h] at h2;cases h2
 conv=>whnf
 refine ⟨_,fun _=>call56 r.f 2, ?_⟩
 conv=>whnf
 refine ⟨?_,fun h3=> ?_,fun h3=> ?_⟩
 ·exact g0
 ·have h':¬(0≤r.f∧r.f≤2):=fun h=>by rw [decide_eq_true h] at h3;cases h3
  rw [show checkR r=5 by unfold checkR;rw [if_pos h0'];rw [if_pos h1'];rw [if_pos h2'];rw [if_neg h']]
  conv=>whnf
  refine ⟨?_, [], ?_⟩
  ·exact g0
  conv=>whnf
  refine ⟨rfl, ?_,trivial,trivial⟩
  all_goals exact ent
 have h3':0≤r.f∧r.f≤2:=Classical.byContradiction fun h=>by rw [decide_eq_false h] at h3;cases h3
 conv=>whnf
 rw [show checkR r=0 by unfold checkR;rw [if_pos h0',if_pos h1',if_pos h2',if_pos h3']]
 conv=>whnf
 refine ⟨?_, [], ?_⟩
 ·exact g0
 conv=>whnf
 refine ⟨rfl, ?_,trivial,trivial⟩
 all_goals exact ent
theorem call90 (τ:Nat) (l:List Rd) (hl:l.length≤4611686018427387904):PureCall Tryz.prog 90 [.sl τ 4 l.length (fl eRd l)] [] ⟨.int .i64 (allR l), [], []⟩:=by
 refine pure_call mix Tryz.func90 fits90 rfl ?_
 conv=>whnf
 refine ⟨trivial, ?_⟩
 refine LSem.loop (n:=18) mix (α:=Nat) (fun i=>i≤l.length∧scan (fun k=>checkR (l.getD k default)) i (l.length - i)=allR l)
  (fun i=> [(6, .sl τ 4 l.length (fl eRd l)),(7, .int .i64 l.length),(8, .int .i64 i)])
  (fun i=> []) (fun i=>l.length - i) 0 ?_ ?_ ?_
 ·exact ⟨Nat.zero_le _,rfl⟩
 ·refine ⟨rfl,rfl, ?_, ?_⟩
  all_goals exact ent
 ·intro i hi
  obtain ⟨hi,hs⟩:=hi
  have hj:((i:Int)).toNat=i:=by omega
  conv=>whnf
  refine ⟨trivial,fun hc=> ?_,fun hc=> ?_⟩
  ·replace hc:=of_decide_eq_true hc
   have hlt:i<l.length:=by
    have h:(i:Int)<l.length:=hc
    omega
   conv=>whnf
   rw [hj]
   refine ⟨_,fun _=>call87 (l.getD i default), ?_⟩
   conv=>whnf
   refine ⟨?_,fun h1=> ?_,fun h1=> ?_⟩
   ·exact g0
   ·have hE:checkR (l.getD i default)≠0:=by simpa using h1
    have hh:allR l=checkR (l.getD i default):=by rw [←hs];exact scan_hit (f:=fun k=>checkR (l.getD k default)) (show 0<l.length - i by omega) hE
    rw [hh]
    conv=>whnf
    refine ⟨?_, [], ?_⟩
    ·exact g0
    conv=>whnf
    refine ⟨rfl, ?_,trivial,trivial⟩
    all_goals exact ent
   ·have hE:checkR (l.getD i default)=0:=by simpa using h1
    have hh:scan (fun k=>checkR (l.getD k default)) (i+1) (l.length - (i+1))=allR l:=by rw [←hs,scan_step (f:=fun k=>checkR (l.getD k default)) (show 0<l.length - i by omega) hE];congr 1
    conv=>whnf
    refine ⟨?_,i+1,⟨by omega,hh⟩, ?_,rfl,rfl, ?_, ?_⟩
    ·exact g0
    ·omega
    all_goals repeat' (first | exact True.intro | refine leF_cons rfl ?_ ?_ | refine leS_cons rfl ?_ ?_ | (show PLe _ _ _ _;conv=>whnf) | (show SLe _ _ _ _;conv=>whnf) | (show PLeL _ _ _ _;conv=>whnf) | apply And.intro | rfl | exact Nat.le_refl _ | exact fun _ _=>rfl | exact rowEq0 _ _)
    all_goals omega
  ·replace hc:=of_decide_eq_false hc
   have:i=l.length:=by
    have h:¬(i:Int)<l.length:=hc
    omega
   subst this
   rw [←hs,Nat.sub_self]
   conv=>whnf
   refine ⟨?_, [], ?_⟩
   ·exact g0
   conv=>whnf
   refine ⟨rfl, ?_,trivial,trivial⟩
   all_goals exact ent
theorem call82 (τ:Nat) (l:List Rd) (hl:l.length≤4611686018427387904):PureCall Tryz.prog 82 [.sl τ 4 l.length (fl eRd l)] [] ⟨.int .i64 (limR l), [], []⟩:=by
 refine pure_call mix Tryz.func82 fits82 rfl ?_
 conv=>whnf
 refine ⟨trivial,fun hc=> ?_,fun hc=> ?_⟩
 ·simp only [bp] at hc
  rw [show limR l=10 by unfold limR;rw [if_pos (by omega)]]
  conv=>whnf
  refine ⟨?_, [], ?_⟩
  ·exact g0
  conv=>whnf
  refine ⟨rfl, ?_,trivial,trivial⟩
  all_goals exact ent
 simp only [bp] at hc
 rw [show limR l=allR l by unfold limR;rw [if_neg (by omega)]]
 conv=>whnf
 refine ⟨_,fun _=>call90 _ l hl, ?_⟩
 conv=>whnf
 refine ⟨?_, [], ?_⟩
 ·exact g0
 conv=>whnf
 refine ⟨rfl, ?_,trivial,trivial⟩
 all_goals exact ent
theorem getD_extR {l m:List Rd} (h:l.length=m.length) (ha:∀j,j<l.length→l.getD j default=m.getD j default):l=m:=by
 refine List.ext_getElem h fun j h1 h2=> ?_
 have:=ha j h1
 simpa [List.getD,h1,h2] using this
theorem rd_ne {a b:Rd} (h:(!((a.g==b.g)&&((a.t==b.t)&&((a.v==b.v)&&((a.f==b.f)&&true)))))=false):a=b:=by
 cases a;cases b;simp at h;simp [h]
theorem rd_ne2 {a b:Rd} (h:(!((a.g==b.g)&&((a.t==b.t)&&((a.v==b.v)&&((a.f==b.f)&&true)))))=true):a≠b:=fun e=>by subst e;simp at h
theorem call33 (τ τ':Nat) (l m:List Rd) (hl:l.length≤4611686018427387904):PureCall Tryz.prog 33 [.sl τ 4 l.length (fl eRd l), .sl τ' 4 m.length (fl eRd m)] [] ⟨.bool (decide (l=m)), [], []⟩:=by
 refine pure_call mix Tryz.func33 fits33 rfl ?_
 conv=>whnf
 refine ⟨?_,fun hc=> ?_,fun hc=> ?_⟩
 ·exact g0
 ·simp only [bp] at hc
  rw [decide_eq_false (p:=l=m) (fun e=>by rw [e] at hc;omega)]
  conv=>whnf
  refine ⟨?_, [], ?_⟩
  ·exact g0
  conv=>whnf
  refine ⟨rfl, ?_,trivial,trivial⟩
  all_goals exact ent
 simp only [bp] at hc
 have hlm:l.length=m.length:=by omega
 conv=>whnf
 refine ⟨trivial, ?_⟩
 refine LSem.loop (n:=26) mix (α:=Nat) (fun i=>i≤l.length∧∀j,j<i→l.getD j default=m.getD j default)
  (fun i=> [(0, .sl τ 4 l.length (fl eRd l)),(1, .sl τ' 4 m.length (fl eRd m)),(12, .int .i64 l.length),(13, .int .i64 i)])
  (fun i=> []) (fun i=>l.length - i) 0 ?_ ?_ ?_
 ·exact ⟨Nat.zero_le _,fun j hj=>by omega⟩
 ·refine ⟨rfl,rfl, ?_, ?_⟩
  all_goals exact ent
 ·intro i hi
  obtain ⟨hi,hall⟩:=hi
  have hj:((i:Int)).toNat=i:=by omega
  conv=>whnf
  refine ⟨trivial,fun hc2=> ?_,fun hc2=> ?_⟩
  ·replace hc2:=of_decide_eq_true hc2
   have hlt:i<l.length:=by
    have h:(i:Int)<l.length:=hc2
    omega
   conv=>whnf
   refine ⟨rfl, ?_⟩
   conv=>whnf
   rw [hj]
   refine ⟨?_,fun h1=> ?_,fun h1=> ?_⟩
   ·exact g0
   ·have hne:=rd_ne2 h1
    rw [decide_eq_false (p:=l=m) (fun e=>hne (by rw [e]))]
    conv=>whnf
    refine ⟨?_, [], ?_⟩
    ·exact g0
    conv=>whnf
    refine ⟨rfl, ?_,trivial,trivial⟩
    all_goals exact ent
   ·have hne:=rd_ne h1
    conv=>whnf
    refine ⟨?_,i+1,⟨hlt,fun j hj2=> ?_⟩, ?_,rfl,rfl, ?_, ?_⟩
    ·exact g0
    ·rcases Nat.lt_or_ge j i with h | h
     ·exact hall j h
     ·rw [show j=i by omega];exact hne
    ·omega
    all_goals exact ent
    all_goals first | omega | skip
  ·replace hc2:=of_decide_eq_false hc2
   have hk:i=l.length:=by
    have h:¬(i:Int)<l.length:=hc2
    omega
   subst hk
   rw [decide_eq_true (getD_extR hlm hall)]
   conv=>whnf
   refine ⟨?_, [], ?_⟩
   ·exact g0
   conv=>whnf
   refine ⟨rfl, ?_,trivial,trivial⟩
   all_goals exact ent
def c26L1:C:=(.seq (sr [km 15 7,kk 16 (.bi false .gtr 15 (cn 0))] (.cond 16 .skip (.exit 0))) (.seq (.block 1 (sr [km 19 0,kk 20 (cl 12 [19,(cn 3)]),km 21 6,km 22 0,kk 23 (cl 12 [22,(cn 20)]),kk 24 (.bi false .add (cn 50) 23),kk 25 (.bd [(.int .i64 0),(.int .i64 0),(.int .i64 0),(.int .i64 0)] [(0,1,20),(1,1,21),(2,1,24)]),kk 8 (.al [(.int .i64 0),(.int .i64 0),(.int .i64 0),(.int .i64 0)]),kz (.st 4 8 25)] (.seq (sr [km 26 0,kk 27 (cl 12 [26,(cn 8)])] (.block 2 (sr [kk 29 (.bi false .eql 27 (cn 6)),km 28 29] (.cond 28 (.reg [kk 30 (.fa 3 8),kz (.st 1 30 (cn 2))]) (sr [kk 32 (.bi false .eql 27 (cn 7)),km 31 32] (.cond 31 (.reg [km 33 0,kk 34 (cl 12 [33,(cn 300)]),kk 35 (.fa 3 8),kz (.st 1 35 (cn 1)),kk 36 (.fa 2 8),kz (.st 1 36 34)]) .skip)))))) (sr [km 37 5,kk 38 (.ld 4 true 8),kk 39 (.bs 109 4 [38]),kk 40 (.app 109 4 32 37 39),km 5 40] (.reg [km 41 6,km 42 0,kk 43 (cl 12 [42,(cn 3)]),kk 44 (.bi false .add 41 43),km 6 44]))))) (.reg [km 17 7,kk 18 (.bi false .sub 17 (cn 1)),km 7 18])))
def c26:C:=(sr [kk 4 (.mv (.c (.nil 4)))] (sr [kk 5 (.mv (.c (.nil 4)))] (sr [km 9 0,kk 10 (cl 12 [9,(cn 10)]),km 6 10] (.seq (sr [km 11 0,km 12 1,kk 13 (.bi false .add 12 (cn 1)),kk 14 (cl 12 [11,13]),km 7 14] (.block 0 (.loop c26L1))) (sr [km 45 5,km 4 45] .ret)))))
theorem fits26:fits Tryz.prog false Tryz.f26 2 46 [(4,none)]=some c26.er:=by kernel_rfl
structure Rs where
 l:List Rd
 t:Int
 d:Dk
def rdsN (s:Rs):Rs:=
 let d1:=nxtD s.d 3
 let d2:=nxtD d1 20
 let d3:=nxtD d2 8
 let c:=nxt d2 8
 if c=6 then ⟨s.l++ [⟨nxt s.d 3,s.t,50+nxt d1 20,2⟩],s.t+nxt d3 3,nxtD d3 3⟩
 else if c=7 then ⟨s.l++ [⟨nxt s.d 3,s.t,nxt d3 300,1⟩],s.t+nxt (nxtD d3 300) 3,nxtD (nxtD d3 300) 3⟩
 else ⟨s.l++ [⟨nxt s.d 3,s.t,50+nxt d1 20,0⟩],s.t+nxt d3 3,nxtD d3 3⟩
def rdsI:Nat→Rs→Rs
 | 0,s=>s
 | n+1,s=>rdsI n (rdsN s)
def readS (d:Dk) (most:Int):Rs:=rdsI (nxt (nxtD d 10) (most+1)).toNat ⟨[],nxt d 10,nxtD (nxtD d 10) (most+1)⟩
def RdOK (r:Rd):Prop:=(0≤r.g∧r.g≤2)∧(0≤r.t∧r.t≤200)∧(0≤r.v∧r.v≤300)∧0≤r.f∧r.f≤2
def RdsOK (l:List Rd):Prop:=∀j,j<l.length→RdOK (l.getD j default)
theorem rdsOK_push {l:List Rd} {x:Rd} (h:RdsOK l) (hx:RdOK x):RdsOK (l++ [x]):=fun k hk=>by
 rw [List.length_append,List.length_cons,List.length_nil] at hk
 by_cases hk2:k<l.length
 ·have:=h k hk2
  rw [List.getD_eq_getElem?_getD] at this⊢
  rw [List.getElem?_append_left hk2];exact this
 ·have e:k=l.length:=by omega
  subst e
  rw [List.getD_eq_getElem?_getD,List.getElem?_append_right (Nat.le_refl _),Nat.sub_self]
  exact hx
def RInv (d:Dk) (most:Int) (x:Nat×Rs):Prop:=
 rdsI x.1 x.2=readS d most∧x.2.d.at_+5*x.1≤d.at_+1000∧0≤x.2.t∧x.2.t+2*x.1≤200∧(x.2.l.length:Int)+x.1≤most∧RdsOK x.2.l
theorem rdsI_ok {d:Dk} {most:Int}:∀(k:Nat) (s:Rs),RInv d most (k,s)→RInv d most (0,rdsI k s)
 | 0,s,h=>h
 | k+1,s,h=>by
   refine rdsI_ok k (rdsN s) ?_
   obtain ⟨hI,h1,h2,h3,h4,ho⟩:=h
   dsimp only at hI h1 h2 h3 h4 ho
   have b0:=nxt_lt s.d (n:=3) (by decide)
   have c0:=nxtD_at s.d 3
   have b1:=nxt_lt (nxtD s.d 3) (n:=20) (by decide)
   have c1:=nxtD_at (nxtD s.d 3) 20
   have c2:=nxtD_at (nxtD (nxtD s.d 3) 20) 8
   have b3:=nxt_lt (nxtD (nxtD (nxtD s.d 3) 20) 8) (n:=300) (by decide)
   have c3:=nxtD_at (nxtD (nxtD (nxtD s.d 3) 20) 8) 300
   have b4:=nxt_lt (nxtD (nxtD (nxtD s.d 3) 20) 8) (n:=3) (by decide)
   have c4:=nxtD_at (nxtD (nxtD (nxtD s.d 3) 20) 8) 3
   have b5:=nxt_lt (nxtD (nxtD (nxtD (nxtD s.d 3) 20) 8) 300) (n:=3) (by decide)
   have c5:=nxtD_at (nxtD (nxtD (nxtD (nxtD s.d 3) 20) 8) 300) 3
   refine ⟨hI, ?_⟩
   unfold rdsN
   dsimp only
   split
   ·refine ⟨by dsimp only;omega,by dsimp only;omega,by dsimp only;omega,by dsimp only;simp only [List.length_append,List.length_cons,List.length_nil];omega,rdsOK_push ho ⟨?_, ?_, ?_, ?_⟩⟩<;>(dsimp only;omega)
   ·split
    ·refine ⟨by dsimp only;omega,by dsimp only;omega,by dsimp only;omega,by dsimp only;simp only [List.length_append,List.length_cons,List.length_nil];omega,rdsOK_push ho ⟨?_, ?_, ?_, ?_⟩⟩<;>(dsimp only;omega)
    ·refine ⟨by dsimp only;omega,by dsimp only;omega,by dsimp only;omega,by dsimp only;simp only [List.length_append,List.length_cons,List.length_nil];omega,rdsOK_push ho ⟨?_, ?_, ?_, ?_⟩⟩<;>(dsimp only;omega)
theorem readS_ok (d:Dk) (most:Int) (hm:0≤most∧most≤50):RInv d most (0,readS d most):=by
 have r0:=nxt_lt d (n:=10) (by decide)
 have a0:=nxtD_at d 10
 have r1:=nxt_lt (nxtD d 10) (n:=most+1) (by omega)
 have a1:=nxtD_at (nxtD d 10) (most+1)
 refine rdsI_ok _ _ ⟨rfl, ?_,r0.1, ?_, ?_,fun j hj=>absurd hj (Nat.not_lt_zero _)⟩
 ·dsimp only;omega
 ·dsimp only;omega
 ·dsimp only [List.length_nil];omega
theorem call26 (d:Dk) (most:Int) (hd:d.at_≤900000) (hm:0≤most∧most≤50):
  PureCall Tryz.prog 26 [.pt 0 0 0, .int .i64 most] [.box (eDk 1 d)] ⟨.sl 0 4 (readS d most).l.length (fl eRd (readS d most).l), [.box (eDk 1 (readS d most).d)], []⟩:=by
 refine pure_call mix Tryz.func26 fits26 rfl ?_
 conv=>whnf
 refine ⟨_,fun _=>call_next 1 d 10 (by omega) (by decide), ?_⟩
 have r0:=nxt_lt d (n:=10) (by decide)
 have a0:=nxtD_at d 10
 conv=>whnf
 refine ⟨_,fun _=>call_next 1 (nxtD d 10) (most+1) (by omega) (by omega), ?_⟩
 have r1:=nxt_lt (nxtD d 10) (n:=most+1) (by omega)
 have a1:=nxtD_at (nxtD d 10) (most+1)
 have hk0:(((nxt (nxtD d 10) (most+1)).toNat:Nat):Int)=nxt (nxtD d 10) (most+1):=Int.toNat_of_nonneg r1.1
 conv=>whnf
 refine ⟨?_, ?_⟩
 ·exact g0
 refine LSem.adopt 5 1000000 109 4 4 rfl rfl ?_
 refine LSem.loop (n:=46) mix (α:=Nat×Rs) (RInv d most)
  (fun x=> [(0, .pt 0 0 0),(5, .os 1000000),(6, .int .i64 x.2.t),(7, .int .i64 x.1)])
  (fun x=> [(0, .box (eDk 1 x.2.d)),(1000000, .row 0 109 4 x.2.l.length (fl eRd x.2.l))]) (fun x=>x.1) ((nxt (nxtD d 10) (most+1)).toNat,⟨[],nxt d 10,nxtD (nxtD d 10) (most+1)⟩) ?_ ?_ ?_
 ·refine ⟨rfl, ?_,r0.1, ?_, ?_,fun j hj=>absurd hj (Nat.not_lt_zero _)⟩
  ·dsimp only;omega
  ·dsimp only;omega
  ·dsimp only [List.length_nil];omega
 ·refine ⟨rfl,rfl, ?_, ?_⟩
  all_goals exact ent
  all_goals first | exact hk0.symm | skip
 ·intro x hx
  obtain ⟨k,s⟩:=x
  obtain ⟨hI,h1,h2,h3,h4,ho⟩:=hx
  dsimp only at hI h1 h2 h3 h4 ho
  conv=>whnf
  refine ⟨trivial,fun hc=> ?_,fun hc=> ?_⟩
  ·replace hc:=of_decide_eq_true hc
   have hk:0<k:=by
    have h:(0:Int)<k:=hc
    omega
   conv=>whnf
   refine ⟨_,fun _=>call_next 1 s.d 3 (by omega) (by decide), ?_⟩
   have b0:=nxt_lt s.d (n:=3) (by decide)
   have c0:=nxtD_at s.d 3
   conv=>whnf
   refine ⟨_,fun _=>call_next 1 (nxtD s.d 3) 20 (by omega) (by decide), ?_⟩
   have b1:=nxt_lt (nxtD s.d 3) (n:=20) (by decide)
   have c1:=nxtD_at (nxtD s.d 3) 20
   conv=>whnf
   refine ⟨_,fun _=>call_next 1 (nxtD (nxtD s.d 3) 20) 8 (by omega) (by decide), ?_⟩
   have b2:=nxt_lt (nxtD (nxtD s.d 3) 20) (n:=8) (by decide)
   have c2:=nxtD_at (nxtD (nxtD s.d 3) 20) 8
   conv=>whnf
   refine ⟨?_,fun h6=> ?_,fun h6=> ?_⟩
   ·exact g0
   ·simp only [bp] at h6
    conv=>whnf
    refine ⟨_,fun _=>call_next 1 (nxtD (nxtD (nxtD s.d 3) 20) 8) 3 (by omega) (by decide), ?_⟩
    have hz:=nxt_lt (nxtD (nxtD (nxtD s.d 3) 20) 8) (n:=3) (by decide)
    have hz2:=nxtD_at (nxtD (nxtD (nxtD s.d 3) 20) 8) 3
    have hN:rdsN s=⟨s.l++ [(⟨nxt s.d 3,s.t,50+nxt (nxtD s.d 3) 20,2⟩:Rd)],s.t+nxt (nxtD (nxtD (nxtD s.d 3) 20) 8) 3,nxtD (nxtD (nxtD (nxtD s.d 3) 20) 8) 3⟩:=by
     unfold rdsN
     dsimp only
     rw [if_pos h6]
    conv=>whnf
    have q:=fl_push eRd s.l (⟨nxt s.d 3,s.t,50+nxt (nxtD s.d 3) 20,2⟩:Rd)
    have hx:(s.l++ [(⟨nxt s.d 3,s.t,50+nxt (nxtD s.d 3) 20,2⟩:Rd)]).length=s.l.length+1:=by simp
    refine ⟨?_,(k - 1,⟨s.l++ [(⟨nxt s.d 3,s.t,50+nxt (nxtD s.d 3) 20,2⟩:Rd)],s.t+nxt (nxtD (nxtD (nxtD s.d 3) 20) 8) 3,nxtD (nxtD (nxtD (nxtD s.d 3) 20) 8) 3⟩),⟨?_, ?_, ?_, ?_, ?_, ?_⟩, ?_,rfl,rfl, ?_, ?_⟩
    ·exact g0
    ·dsimp only;rw [←hN,←hI,show k=(k - 1)+1 by omega];rfl
    ·dsimp only;omega
    ·dsimp only;omega
    ·dsimp only;omega
    ·dsimp only;rw [hx];omega
    ·dsimp only
     refine rdsOK_push ho ⟨?_, ?_, ?_, ?_⟩<;>(dsimp only;omega)
    ·dsimp only;omega
    all_goals exact ent
    all_goals first | (dsimp only;omega) | exact q | (dsimp only;rw [hx];rfl) | (dsimp only;rw [hx]) | skip
   simp only [bp] at h6
   conv=>whnf
   refine ⟨trivial,fun h7=> ?_,fun h7=> ?_⟩
   ·simp only [bp] at h7
    conv=>whnf
    refine ⟨_,fun _=>call_next 1 (nxtD (nxtD (nxtD s.d 3) 20) 8) 300 (by omega) (by decide), ?_⟩
    have b3:=nxt_lt (nxtD (nxtD (nxtD s.d 3) 20) 8) (n:=300) (by decide)
    have c3:=nxtD_at (nxtD (nxtD (nxtD s.d 3) 20) 8) 300
    conv=>whnf
    refine ⟨_,fun _=>call_next 1 (nxtD (nxtD (nxtD (nxtD s.d 3) 20) 8) 300) 3 (by omega) (by decide), ?_⟩
    have hz:=nxt_lt (nxtD (nxtD (nxtD (nxtD s.d 3) 20) 8) 300) (n:=3) (by decide)
    have hz2:=nxtD_at (nxtD (nxtD (nxtD (nxtD s.d 3) 20) 8) 300) 3
    have hN:rdsN s=⟨s.l++ [(⟨nxt s.d 3,s.t,nxt (nxtD (nxtD (nxtD s.d 3) 20) 8) 300,1⟩:Rd)],s.t+nxt (nxtD (nxtD (nxtD (nxtD s.d 3) 20) 8) 300) 3,nxtD (nxtD (nxtD (nxtD (nxtD s.d 3) 20) 8) 300) 3⟩:=by
     unfold rdsN
     dsimp only
     rw [if_neg h6,if_pos h7]
    conv=>whnf
    have q:=fl_push eRd s.l (⟨nxt s.d 3,s.t,nxt (nxtD (nxtD (nxtD s.d 3) 20) 8) 300,1⟩:Rd)
    have hx:(s.l++ [(⟨nxt s.d 3,s.t,nxt (nxtD (nxtD (nxtD s.d 3) 20) 8) 300,1⟩:Rd)]).length=s.l.length+1:=by simp
    refine ⟨?_,(k - 1,⟨s.l++ [(⟨nxt s.d 3,s.t,nxt (nxtD (nxtD (nxtD s.d 3) 20) 8) 300,1⟩:Rd)],s.t+nxt (nxtD (nxtD (nxtD (nxtD s.d 3) 20) 8) 300) 3,nxtD (nxtD (nxtD (nxtD (nxtD s.d 3) 20) 8) 300) 3⟩),⟨?_, ?_, ?_, ?_, ?_, ?_⟩, ?_,rfl,rfl, ?_, ?_⟩
    ·exact g0
    ·dsimp only;rw [←hN,←hI,show k=(k - 1)+1 by omega];rfl
    ·dsimp only;omega
    ·dsimp only;omega
    ·dsimp only;omega
    ·dsimp only;rw [hx];omega
    ·dsimp only
     refine rdsOK_push ho ⟨?_, ?_, ?_, ?_⟩<;>(dsimp only;omega)
    ·dsimp only;omega
    all_goals exact ent
    all_goals first | (dsimp only;omega) | exact q | (dsimp only;rw [hx];rfl) | (dsimp only;rw [hx]) | skip
   simp only [bp] at h7
   conv=>whnf
   refine ⟨_,fun _=>call_next 1 (nxtD (nxtD (nxtD s.d 3) 20) 8) 3 (by omega) (by decide), ?_⟩
   have hz:=nxt_lt (nxtD (nxtD (nxtD s.d 3) 20) 8) (n:=3) (by decide)
   have hz2:=nxtD_at (nxtD (nxtD (nxtD s.d 3) 20) 8) 3
   have hN:rdsN s=⟨s.l++ [(⟨nxt s.d 3,s.t,50+nxt (nxtD s.d 3) 20,0⟩:Rd)],s.t+nxt (nxtD (nxtD (nxtD s.d 3) 20) 8) 3,nxtD (nxtD (nxtD (nxtD s.d 3) 20) 8) 3⟩:=by
    unfold rdsN
    dsimp only
    rw [if_neg h6,if_neg h7]
   conv=>whnf
   have q:=fl_push eRd s.l (⟨nxt s.d 3,s.t,50+nxt (nxtD s.d 3) 20,0⟩:Rd)
   have hx:(s.l++ [(⟨nxt s.d 3,s.t,50+nxt (nxtD s.d 3) 20,0⟩:Rd)]).length=s.l.length+1:=by simp
   refine ⟨?_,(k - 1,⟨s.l++ [(⟨nxt s.d 3,s.t,50+nxt (nxtD s.d 3) 20,0⟩:Rd)],s.t+nxt (nxtD (nxtD (nxtD s.d 3) 20) 8) 3,nxtD (nxtD (nxtD (nxtD s.d 3) 20) 8) 3⟩),⟨?_, ?_, ?_, ?_, ?_, ?_⟩, ?_,rfl,rfl, ?_, ?_⟩
   ·exact g0
   ·dsimp only;rw [←hN,←hI,show k=(k - 1)+1 by omega];rfl
   ·dsimp only;omega
   ·dsimp only;omega
   ·dsimp only;omega
   ·dsimp only;rw [hx];omega
   ·dsimp only
    refine rdsOK_push ho ⟨?_, ?_, ?_, ?_⟩<;>(dsimp only;omega)
   ·dsimp only;omega
   all_goals exact ent
   all_goals first | (dsimp only;omega) | exact q | (dsimp only;rw [hx];rfl) | (dsimp only;rw [hx]) | skip
  ·replace hc:=of_decide_eq_false hc
   have hk:k=0:=by
    have h:¬(0:Int)<k:=hc
    omega
   subst hk
   have hI':s=readS d most:=hI
   rw [←hI']
   conv=>whnf
   refine ⟨?_, [], ?_⟩
   ·exact g0
   conv=>whnf
   refine ⟨rfl, ?_, ?_,trivial⟩
   all_goals exact ent
def c83L1:C:=(sr [kk 9 (.bi false .lss 8 7)] (.seq (.cond 9 .skip (.exit 0)) (.seq (.block 1 (sr [km 10 8,kk 11 (.ia 1 6 8),kk 12 (.ld 1 false 11),km 4 10,km 5 12] (.reg [km 13 3,km 14 4,kk 15 (.bi false .add 14 (cn 1)),kk 16 (.bi false .rem 15 (cn 65521)),km 17 5,kk 18 (.cv false .i64 17),kk 19 (.bi false .add 18 (cn 1)),kk 20 (.bi false .mul 16 19),kk 21 (.bi false .add 13 20),kk 22 (.bi false .rem 21 (cn 65521)),km 3 22]))) (.reg [kk 23 (.bi false .add 8 (cn 1)),km 8 23]))))
def c83:C:=(sr [kk 2 (.mv (cn 0))] (sr [kk 3 (.mv (cn 0))] (.seq (sr [km 6 0,kk 7 (.len 6),kk 8 (.mv (cn 0))] (.block 0 (.loop c83L1))) (sr [km 24 3,km 2 24] .ret))))
theorem fits83:fits Tryz.prog false Tryz.f83 1 25 [(2,none)]=some c83.er:=by kernel_rfl
def c27L2:C:=(sr [kk 33 (.bi false .lss 32 (cn 2))] (.seq (.cond 33 .skip (.exit 2)) (.seq (.block 3 (sr [kk 34 (.ixa 2 1 false 31 32),km 10 34] (.reg [km 35 8,km 36 10,kk 37 (.bi false .shr 36 (.c (.int .u64 24))),kk 38 (.cv true .u8 37),km 39 10,kk 40 (.bi false .shr 39 (.c (.int .u64 16))),kk 41 (.cv true .u8 40),km 42 10,kk 43 (.bi false .shr 42 (.c (.int .u64 8))),kk 44 (.cv true .u8 43),km 45 10,kk 46 (.cv true .u8 45),kk 47 (.bs 5 1 [38,41,44,46]),kk 48 (.app 5 1 1 35 47),km 8 48]))) (.reg [kk 49 (.bi false .add 32 (cn 1)),km 32 49]))))
def c27L1:C:=(sr [kk 20 (.bi false .lss 19 18)] (.seq (.cond 20 .skip (.exit 0)) (.seq (.block 1 (sr [kk 21 (.ia 4 17 19),kk 22 (.ld 4 true 21),kk 7 (.al [(.int .i64 0),(.int .i64 0),(.int .i64 0),(.int .i64 0)]),kz (.st 4 7 22)] (sr [kk 23 (.fa 0 7),kk 24 (.ld 1 false 23),kk 25 (.cv true .u8 24),kk 26 (.bs 5 1 [25]),km 8 26] (.seq (sr [kk 27 (.fa 1 7),kk 28 (.ld 1 false 27),kk 29 (.fa 2 7),kk 30 (.ld 1 false 29),kk 31 (.bd [(.int .i64 0),(.int .i64 0)] [(0,1,28),(1,1,30)]),kk 32 (.mv (cn 0))] (.block 2 (.loop c27L2))) (sr [km 50 8,kk 51 (.fa 3 7),kk 52 (.ld 1 false 51),kk 53 (.cv true .u8 52),kk 54 (.bs 5 1 [53]),kk 55 (.app 5 1 1 50 54),km 8 55] (sr [km 56 8,kk 57 (cl 83 [56]),km 11 57] (.reg [km 58 5,km 59 8,kk 60 (.app 5 1 1 58 59),km 61 11,kk 62 (.bi false .shr 61 (.c (.int .u64 8))),kk 63 (.cv true .u8 62),km 64 11,kk 65 (.cv true .u8 64),kk 66 (.bs 5 1 [63,65]),kk 67 (.app 5 1 1 60 66),km 5 67]))))))) (.reg [kk 68 (.bi false .add 19 (cn 1)),km 19 68]))))
def c27:C:=(sr [kk 2 (.mv (.c (.nil 1))),kk 3 (.mv (cn 0))] (.seq (sr [km 12 0,kk 13 (cl 82 [12]),km 4 13] (sr [km 14 4,kk 15 (.bi false .neq 14 (cn 0))] (.cond 15 (sr [km 16 4,kk 2 (.mv (.c (.nil 1))),km 3 16] .ret) .skip))) (sr [kk 5 (.mv (.c (.nil 1)))] (.seq (sr [km 17 0,kk 18 (.len 17),kk 19 (.mv (cn 0))] (.block 0 (.loop c27L1))) (sr [km 69 5,km 2 69,kk 3 (.mv (cn 0))] .ret)))))
theorem fits27:fits Tryz.prog false Tryz.f27 1 70 [(2,none),(3,none)]=some c27.er:=by kernel_rfl
def eB (x:UInt8):List PV:= [.int .u8 (x.toNat:Int)]
def w8 (n:Int):UInt8:=UInt8.ofNat (n % 256).toNat
theorem w8_wrap (n:Int):IntKind.wrap .u8 n=((w8 n).toNat:Int):=by
 have h1:IntKind.wrap .u8 n=n % 256:=by simp [IntKind.wrap,IntKind.bits,IntKind.signed]
 have h2:(w8 n).toNat=(n % 256).toNat % 256:=UInt8.toNat_ofNat'
 rw [h1,h2];omega
theorem u8_lt (x:UInt8):(x.toNat:Int)<256:=by have:=UInt8.toNat_lt x;omega
def sumI:Nat→Int→List UInt8→Int
 | _,s, []=>s
 | i,s,x::r=>sumI (i+1) ((s+Int.tmod ((i:Int)+1) 65521*((x.toNat:Int)+1)).tmod 65521) r
def sumF (l:List UInt8):Int:=sumI 0 0 l
theorem sum_term (i:Nat) (x:UInt8):0≤Int.tmod ((i:Int)+1) 65521*((x.toNat:Int)+1)∧Int.tmod ((i:Int)+1) 65521*((x.toNat:Int)+1)≤16773120:=by
 have h1:0≤Int.tmod ((i:Int)+1) 65521∧Int.tmod ((i:Int)+1) 65521≤65520:=by
  rw [Int.tmod_eq_emod_of_nonneg (by omega)];omega
 have h2:=u8_lt x
 have h3:0≤(x.toNat:Int)+1∧(x.toNat:Int)+1≤256:=by omega
 have:=mul_rng h1.1 h1.2 h3.1 h3.2
 omega
theorem sum_next {s:Int} (i:Nat) (x:UInt8) (h:0≤s∧s≤65520):0≤(s+Int.tmod ((i:Int)+1) 65521*((x.toNat:Int)+1)).tmod 65521∧(s+Int.tmod ((i:Int)+1) 65521*((x.toNat:Int)+1)).tmod 65521≤65520:=by
 have:=sum_term i x
 generalize Int.tmod ((i:Int)+1) 65521*((x.toNat:Int)+1)=q at this⊢
 rw [Int.tmod_eq_emod_of_nonneg (by omega)];omega
theorem sumI_rng:∀(l:List UInt8) (i:Nat) (s:Int),0≤s∧s≤65520→0≤sumI i s l∧sumI i s l≤65520
 | [],_,_,h=>h
 | x::r,i,s,h=>sumI_rng r (i+1) _ (sum_next i x h)
theorem sumF_rng (l:List UInt8):0≤sumF l∧sumF l≤65520:=sumI_rng l 0 0 (by decide)
theorem sumI_drop {l:List UInt8} {i:Nat} (s:Int) (h:i<l.length):sumI i s (l.drop i)=sumI (i+1) ((s+Int.tmod ((i:Int)+1) 65521*(((l.getD i default).toNat:Int)+1)).tmod 65521) (l.drop (i+1)):=by
 rw [List.drop_eq_getElem_cons h]
 simp only [sumI]
 congr 1
 simp [List.getD,h]
theorem call83 (τ:Nat) (l:List UInt8) (hl:l.length≤4611686018427387904):PureCall Tryz.prog 83 [.sl τ 1 l.length (fl eB l)] [] ⟨.int .i64 (sumF l), [], []⟩:=by
 refine pure_call mix Tryz.func83 fits83 rfl ?_
 conv=>whnf
 refine ⟨trivial, ?_⟩
 refine LSem.loop (n:=25) mix (α:=Nat×Int) (fun x=>x.1≤l.length∧(0≤x.2∧x.2≤65520)∧sumI x.1 x.2 (l.drop x.1)=sumF l)
  (fun x=> [(6, .sl τ 1 l.length (fl eB l)),(7, .int .i64 l.length),(8, .int .i64 x.1),(3, .int .i64 x.2)])
  (fun x=> []) (fun x=>l.length - x.1) (0,0) ?_ ?_ ?_
 ·exact ⟨Nat.zero_le _,⟨by decide,by decide⟩,rfl⟩
 ·refine ⟨rfl,rfl, ?_, ?_⟩
  all_goals exact ent
 ·intro x hx
  obtain ⟨i,s⟩:=x
  obtain ⟨hi,hs,he⟩:=hx
  dsimp only at hi hs he
  have hj:((i:Int)).toNat=i:=by omega
  conv=>whnf
  refine ⟨trivial,fun hc=> ?_,fun hc=> ?_⟩
  ·replace hc:=of_decide_eq_true hc
   have hlt:i<l.length:=by
    have h:(i:Int)<l.length:=hc
    omega
   have hx:=u8_lt (l.getD i default)
   have ht:=sum_term i (l.getD i default)
   have hn:=sum_next i (l.getD i default) hs
   rw [sumI_drop s hlt] at he
   conv=>whnf
   dsimp only
   rw [hj]
   refine ⟨?_,(i+1,(s+Int.tmod ((i:Int)+1) 65521*(((l.getD i default).toNat:Int)+1)).tmod 65521),⟨hlt,hn,he⟩, ?_,rfl,rfl, ?_, ?_⟩
   ·exact g0
   ·dsimp only;omega
   all_goals exact ent
   all_goals first | omega | skip
  ·replace hc:=of_decide_eq_false hc
   have hk:i=l.length:=by
    have h:¬(i:Int)<l.length:=hc
    omega
   subst hk
   rw [List.drop_length] at he
   have he':s=sumF l:=he
   subst he'
   conv=>whnf
   refine ⟨?_, [], ?_⟩
   ·exact g0
   conv=>whnf
   refine ⟨rfl, ?_,trivial,trivial⟩
   all_goals exact ent
def w4 (n:Int):List UInt8:= [w8 (n / 2 ^ Int.toNat 24),w8 (n / 2 ^ Int.toNat 16),w8 (n / 2 ^ Int.toNat 8),w8 n]
def bodyB (r:Rd):List UInt8:= [w8 r.g]++w4 r.t++w4 r.v++ [w8 r.f]
def cB (r:Rd):Nat→List UInt8
 | 0=> [w8 r.g]
 | 1=> [w8 r.g]++w4 r.t
 | _=> [w8 r.g]++w4 r.t++w4 r.v
def recC (r:Rd):List UInt8:=bodyB r++ [w8 (sumF (bodyB r) / 2 ^ Int.toNat 8),w8 (sumF (bodyB r))]
def encL (l:List Rd):List UInt8:=l.flatMap recC
theorem recC_len (r:Rd):(recC r).length=12:=rfl
theorem encL_len (l:List Rd):(encL l).length=12*l.length:=by
 induction l with
 | nil=>rfl
 | cons x l ih=>simp only [encL,List.flatMap_cons,List.length_append,List.length_cons] at ih⊢;rw [ih,recC_len];omega
theorem encL_take {l:List Rd} {i:Nat} (h:i<l.length):encL (l.take (i+1))=encL (l.take i)++recC (l.getD i default):=by
 rw [List.take_add_one,getD_some h]
 simp [encL]
theorem app_eq {α:Type} [Inhabited α] {e:α→List PV} {l l':List α} {f:Nat→List PV} (h:RowEq l'.length f (fl e l')):RowEq (l.length+l'.length) (appF l.length (fl e l) f) (fl e (l++l')):=fun i hi=>by
 rw [←fl_append e l l' i hi]
 unfold appF
 split
 ·rfl
 ·rw [h _ (by omega)]
theorem app_eq2 {α:Type} [Inhabited α] {e:α→List PV} {l l':List α} {n m:Nat} {f f':Nat→List PV} (hn:n=l.length) (hm:m=l'.length) (h:RowEq n f (fl e l)) (h':RowEq m f' (fl e l')):RowEq (n+m) (appF n f f') (fl e (l++l')):=fun i hi=>by
 subst hn;subst hm
 rw [←fl_append e l l' i hi]
 unfold appF
 split
 ·rename_i hlt;exact h i hlt
 ·rename_i hge;exact h' _ (by omega)
theorem row1 (a:Int):RowEq 1 (fun i=> [[PV.int .u8 (IntKind.wrap .u8 a)]].getD i []) (fl eB [w8 a]):=fun i hi=>by
 match i,hi with
 | 0,_=>show [PV.int .u8 (IntKind.wrap .u8 a)]= [_];rw [w8_wrap];rfl
theorem row2 (a b:Int):RowEq 2 (fun i=> [[PV.int .u8 (IntKind.wrap .u8 a)], [PV.int .u8 (IntKind.wrap .u8 b)]].getD i []) (fl eB [w8 a,w8 b]):=fun i hi=>by
 match i,hi with
 | 0,_=>show [PV.int .u8 (IntKind.wrap .u8 a)]= [_];rw [w8_wrap];rfl
 | 1,_=>show [PV.int .u8 (IntKind.wrap .u8 b)]= [_];rw [w8_wrap];rfl
theorem row4 (a b c d:Int):RowEq 4 (fun i=> [[PV.int .u8 (IntKind.wrap .u8 a)], [PV.int .u8 (IntKind.wrap .u8 b)], [PV.int .u8 (IntKind.wrap .u8 c)], [PV.int .u8 (IntKind.wrap .u8 d)]].getD i []) (fl eB [w8 a,w8 b,w8 c,w8 d]):=fun i hi=>by
 match i,hi with
 | 0,_=>show [PV.int .u8 (IntKind.wrap .u8 a)]= [_];rw [w8_wrap];rfl
 | 1,_=>show [PV.int .u8 (IntKind.wrap .u8 b)]= [_];rw [w8_wrap];rfl
 | 2,_=>show [PV.int .u8 (IntKind.wrap .u8 c)]= [_];rw [w8_wrap];rfl
 | 3,_=>show [PV.int .u8 (IntKind.wrap .u8 d)]= [_];rw [w8_wrap];rfl
theorem call27 (τ:Nat) (l:List Rd) (hl:l.length≤4611686018427387904) (hb:limR l=0):PureCall Tryz.prog 27 [.sl τ 4 l.length (fl eRd l)] [] ⟨.tup [.os 1000000000, .int .i64 0], [], [.row 0 5 1 (encL l).length (fl eB (encL l))]⟩:=by
 have hl2:l.length≤4096:=by
  rcases Nat.lt_or_ge 4096 l.length with h | h
  ·unfold limR at hb;rw [if_pos h] at hb;cases hb
  ·exact h
 refine pure_call mix Tryz.func27 fits27 rfl ?_
 conv=>whnf
 refine ⟨_,fun _=>call82 _ l hl, ?_⟩
 conv=>whnf
 refine ⟨?_,fun hc=> ?_,fun hc=> ?_⟩
 ·exact g0
 ·rw [hb] at hc;cases hc
 conv=>whnf
 refine ⟨trivial, ?_⟩
 refine LSem.adopt 5 1000000 5 1 1 rfl rfl ?_
 refine LSem.loop (n:=70) mix (α:=Nat) (fun i=>i≤l.length)
  (fun i=> [(5, .os 1000000),(17, .sl τ 4 l.length (fl eRd l)),(18, .int .i64 l.length),(19, .int .i64 i)])
  (fun i=> [(1000000, .row 0 5 1 (encL (l.take i)).length (fl eB (encL (l.take i))))]) (fun i=>l.length - i) 0 ?_ ?_ ?_
 ·exact Nat.zero_le _
 ·refine ⟨rfl,rfl, ?_, ?_⟩
  all_goals exact ent
 ·intro i hi
  have hj:((i:Int)).toNat=i:=by omega
  conv=>whnf
  refine ⟨trivial,fun hc=> ?_,fun hc=> ?_⟩
  ·replace hc:=of_decide_eq_true hc
   have hlt:i<l.length:=by
    have h:(i:Int)<l.length:=hc
    omega
   conv=>whnf
   rw [hj]
   refine ⟨?_, ?_⟩
   ·exact g0
   obtain ⟨r,hr⟩:∃r,r=l.getD i default:=⟨_,rfl⟩
   have hel:=encL_len (l.take i)
   have htl:(l.take i).length≤4096:=by rw [List.length_take];omega
   refine LSem.loop (n:=70) mix (α:=Nat) (fun j=>j≤2)
    (fun j=> [(5, .os 1000000),(17, .sl τ 4 l.length (fl eRd l)),(18, .int .i64 l.length),(19, .int .i64 i),(7, .pt 112 0 0),(8, .os 416),(31, .agg [.int .i64 r.t, .int .i64 r.v]),(32, .int .i64 j)])
    (fun j=> [(1000000, .row 0 5 1 (encL (l.take i)).length (fl eB (encL (l.take i)))),(112, .box (eRd r)),(416, .row 0 5 1 (cB r j).length (fl eB (cB r j)))]) (fun j=>2 - j) 0 ?_ ?_ ?_
   ·exact Nat.zero_le _
   ·subst hr
    refine ⟨rfl,rfl, ?_, ?_⟩
    all_goals repeat' (first | exact True.intro | refine leF_cons rfl ?_ ?_ | refine leS_cons rfl ?_ ?_ | (show PLe _ _ _ _;conv=>whnf) | (show SLe _ _ _ _;conv=>whnf) | (show PLeL _ _ _ _;conv=>whnf) | apply And.intro | rfl | exact Nat.le_refl _ | exact fun _ _=>rfl | exact rowEq0 _ _)
    all_goals first | exact row1 _ | skip
   ·intro j hj2
    have h012:j=0∨j=1∨j=2:=by omega
    rcases h012 with rfl | rfl | rfl
    ·conv=>whnf
     refine ⟨trivial,fun hc=> ?_,fun hc=>(by cases hc)⟩
     have hcl:(cB r 0).length=1:=rfl
     conv=>whnf
     refine ⟨?_,1, ?_, ?_,rfl,rfl, ?_, ?_⟩
     ·exact g0
     ·omega
     ·omega
     all_goals repeat' (first | exact True.intro | refine leF_cons rfl ?_ ?_ | refine leS_cons rfl ?_ ?_ | (show PLe _ _ _ _;conv=>whnf) | (show SLe _ _ _ _;conv=>whnf) | (show PLeL _ _ _ _;conv=>whnf) | apply And.intro | rfl | exact Nat.le_refl _ | exact fun _ _=>rfl | exact rowEq0 _ _)
     all_goals first | exact app_eq (l:=cB r 0) (l':=w4 r.t) (row4 _ _ _ _) | skip
    ·conv=>whnf
     refine ⟨trivial,fun hc=> ?_,fun hc=>(by cases hc)⟩
     have hcl:(cB r 1).length=5:=rfl
     conv=>whnf
     refine ⟨?_,2, ?_, ?_,rfl,rfl, ?_, ?_⟩
     ·exact g0
     ·omega
     ·omega
     all_goals repeat' (first | exact True.intro | refine leF_cons rfl ?_ ?_ | refine leS_cons rfl ?_ ?_ | (show PLe _ _ _ _;conv=>whnf) | (show SLe _ _ _ _;conv=>whnf) | (show PLeL _ _ _ _;conv=>whnf) | apply And.intro | rfl | exact Nat.le_refl _ | exact fun _ _=>rfl | exact rowEq0 _ _)
     all_goals first | exact app_eq (l:=cB r 1) (l':=w4 r.v) (row4 _ _ _ _) | skip
    ·conv=>whnf
     refine ⟨trivial,fun hc=>(by cases hc),fun hc=> ?_⟩
     conv=>whnf
     have hcl:(cB r 2).length=9:=rfl
     have hcl2:(bodyB r).length=10:=rfl
     have hq:RowEq ((cB r 2).length+1) (appF (cB r 2).length (fl eB (cB r 2)) (fun i=> [[PV.int .u8 (IntKind.wrap .u8 r.f)]].getD i [])) (fl eB (bodyB r)):=app_eq2 (l:=cB r 2) (l':= [w8 r.f]) rfl rfl (fun _ _=>rfl) (row1 _)
     have hsr:=sumF_rng (bodyB r)
     conv=>whnf
     refine ⟨_,fun _=>PureCall.arg_le (call83 2 (bodyB r) (by omega)) rfl ⟨⟨Nat.le_refl _,rfl,rfl,hq⟩,trivial⟩, ?_⟩
     conv=>whnf
     have hq2:=app_eq2 (e:=eB) (l:=encL (l.take i)) (l':=bodyB r) rfl rfl (fun _ _=>rfl) hq
     have hq3:=app_eq2 (e:=eB) (l:=encL (l.take i)++bodyB r) (l':= [w8 (sumF (bodyB r) / 2 ^ Int.toNat 8),w8 (sumF (bodyB r))]) (by rw [List.length_append]) rfl hq2 (row2 _ _)
     have he:(encL (l.take i)++bodyB r)++ [w8 (sumF (bodyB r) / 2 ^ Int.toNat 8),w8 (sumF (bodyB r))]=encL (l.take (i+1)):=by
      rw [encL_take hlt,←hr,List.append_assoc];rfl
     rw [he] at hq3
     have hn:(encL (l.take (i+1))).length=(encL (l.take i)).length+12:=by rw [←he];simp [hcl2]
     refine ⟨?_,i+1,hlt, ?_,rfl,rfl, ?_, ?_⟩
     ·exact g0
     ·omega
     all_goals repeat' (first | exact True.intro | refine leF_cons rfl ?_ ?_ | refine leS_cons rfl ?_ ?_ | (show PLe _ _ _ _;conv=>whnf) | (show SLe _ _ _ _;conv=>whnf) | (show PLeL _ _ _ _;conv=>whnf) | apply And.intro | rfl | exact Nat.le_refl _ | exact fun _ _=>rfl | exact rowEq0 _ _)
     all_goals first | exact hq3 | omega | (rw [hn,hcl];rfl) | skip
  ·replace hc:=of_decide_eq_false hc
   have:i=l.length:=by
    have h:¬(i:Int)<l.length:=hc
    omega
   subst this
   rw [List.take_length]
   conv=>whnf
   refine ⟨?_, [1000000], ?_⟩
   ·exact g0
   conv=>whnf
   refine ⟨rfl, ?_,trivial, ?_⟩
   all_goals exact ent
def c148:C:=(sr [kk 2 (.mv (cn 0))] (.seq (.drw [km 3 0,kk 4 (.ia 1 3 (cn 0)),kk 5 (.ld 1 false 4),kk 6 (.cv false .i64 5),kk 7 (.bi false .shl 6 (.c (.int .u64 24))),km 8 0,kk 9 (.ia 1 8 (cn 1)),kk 10 (.ld 1 false 9),kk 11 (.cv false .i64 10),kk 12 (.bi false .shl 11 (.c (.int .u64 16))),kk 13 (.bi false .or 7 12),km 14 0,kk 15 (.ia 1 14 (cn 2)),kk 16 (.ld 1 false 15),kk 17 (.cv false .i64 16),kk 18 (.bi false .shl 17 (.c (.int .u64 8))),kk 19 (.bi false .or 13 18),km 20 0,kk 21 (.ia 1 20 (cn 3)),kk 22 (.ld 1 false 21),kk 23 (.cv false .i64 22),kk 24 (.bi false .or 19 23),km 2 24] (pl [(0,[5,6,7,8,9,11,12,13,14,15,17,18,19,20],3),(1,[5,6,7,8,9,11,12,13,14,15,17,18,19,20],4),(2,[5,6,7,8,9,11,12,13,14,15,17,18,19,20],5),(3,[5,6,7,8,9,11,12,13,14,15,17,18,19,20],6),(4,[5,6,7,8,9,11,12,13,14,15,17,18,19,20],7),(5,[11,12,13,14,15,17,18,19,20],8),(6,[11,12,13,14,15,17,18,19,20],9),(7,[11,12,13,14,15,17,18,19,20],10),(8,[11,12,13,14,15,17,18,19,20],11),(9,[11,12,13,14,15,17,18,19,20],12),(10,[11,12,13,14,15,17,18,19,20],13),(11,[17,18,19,20],14),(12,[17,18,19,20],15),(13,[17,18,19,20],16),(14,[17,18,19,20],17),(15,[17,18,19,20],18),(16,[17,18,19,20],19)])) .ret))
theorem fits148:fits Tryz.prog false Tryz.f148 1 25 [(2,none)]=some c148.er:=by kernel_rfl
def c84:C:=(sr [kk 2 (.al [(.int .i64 0),(.int .i64 0),(.int .i64 0),(.int .i64 0)]),kk 3 (.mv (cn 0))] (.seq (sr [km 5 0,kk 6 (.len 5),kk 7 (.bi false .lss 6 (cn 12))] (.cond 7 (sr [kk 8 (.bd [(.int .i64 0),(.int .i64 0),(.int .i64 0),(.int .i64 0)] []),kz (.st 4 2 8),kk 3 (.mv (cn 3))] .ret) .skip)) (.seq (.seq (.drw [km 9 0,kk 10 (.slc 1 9 none (some (cn 10))),kk 11 (cl 83 [10]),km 12 0,kk 13 (.ia 1 12 (cn 10)),kk 14 (.ld 1 false 13),kk 15 (.cv false .i64 14),kk 16 (.bi false .shl 15 (.c (.int .u64 8))),km 17 0,kk 18 (.ia 1 17 (cn 11)),kk 19 (.ld 1 false 18),kk 20 (.cv false .i64 19),kk 21 (.bi false .or 16 20),kk 22 (.bi false .neq 11 21)] (pl [(0,[3,4,5,6,7,8,9,10,11,12],9),(1,[3,4,5,6,7,8,9,10,11,12],10),(2,[3,4,5,6,7,8,9,10,11,12],11),(3,[8,9,10,11],12),(4,[8,9,10,11],13),(5,[8,9,10,11],14),(6,[8,9,10,11],15),(7,[8,9,10,11],16)])) (.cond 22 (sr [kk 23 (.bd [(.int .i64 0),(.int .i64 0),(.int .i64 0),(.int .i64 0)] []),kz (.st 4 2 23),kk 3 (.mv (cn 8))] .ret) .skip)) (.seq (.drw [km 24 0,kk 25 (.ia 1 24 (cn 0)),kk 26 (.ld 1 false 25),kk 27 (.cv false .i64 26),km 28 0,kk 29 (.slc 1 28 (some (cn 1)) none),kk 30 (cl 148 [29]),km 31 0,kk 32 (.slc 1 31 (some (cn 5)) none),kk 33 (cl 148 [32]),km 34 0,kk 35 (.ia 1 34 (cn 9)),kk 36 (.ld 1 false 35),kk 37 (.cv false .i64 36),kk 38 (.bd [(.int .i64 0),(.int .i64 0),(.int .i64 0),(.int .i64 0)] [(0,1,27),(1,1,30),(2,1,33),(3,1,37)]),kk 4 (.al [(.int .i64 0),(.int .i64 0),(.int .i64 0),(.int .i64 0)]),kz (.st 4 4 38)] (pl [(0,[4,5,6,7,8,9,10,11,12,13,15],24),(1,[4,5,6,7,8,9,10,11,12,13,15],25),(2,[4,5,6,7,8,9,10,11,12,13,15],26),(3,[4,5,6,7,8,9,10,11,12,13,15],27),(4,[7,8,10,11,12,13,15],28),(5,[7,8,10,11,12,13,15],29),(6,[7,8,10,11,12,13,15],30),(7,[10,11,12,13,15],31),(8,[10,11,12,13,15],32),(9,[10,11,12,13,15],33),(10,[15],34),(11,[15],35),(12,[15],36),(13,[15],37),(14,[15],38)])) (.seq (.drw [kk 39 (.ld 4 true 4),kk 40 (.ld 4 true 4),kk 41 (cl 87 [40]),kz (.st 4 2 39),km 3 41] [(0,1,39),(0,2,39)]) .ret)))))
theorem fits84:fits Tryz.prog false Tryz.f84 1 42 [(2,some (4,true)),(3,none)]=some c84.er:=by kernel_rfl
def gB (l:List UInt8) (i:Nat):Int:=((l.getD i default).toNat:Int)
theorem gB_rng (l:List UInt8) (i:Nat):0≤gB l i∧gB l i<256:=⟨Int.natCast_nonneg _,u8_lt _⟩
def wordF (l:List UInt8) (k:Nat):Int:=gB l k*16777216+gB l (k+1)*65536+gB l (k+2)*256+gB l (k+3)
def rd0:Rd:=⟨0,0,0,0⟩
def recV (l:List UInt8):Rd:=⟨gB l 0,wordF l 1,wordF l 5,gB l 9⟩
def recF (l:List UInt8):Rd×Int:=if l.length<12 then (rd0,3) else if sumF (l.take 10)≠gB l 10*256+gB l 11 then (rd0,8) else (recV l,checkR (recV l))
def decG:Nat→Int→List Rd→List UInt8→List Rd×Int×Int
 | 0,_,out,_=>(out,0,0)
 | n+1,at_,out,l=>if l.length=0 then (out,0,0) else if (recF (l.take 12)).2≠0 then ([],at_,(recF (l.take 12)).2) else decG n (at_+12) (out++ [(recF (l.take 12)).1]) (l.drop 12)
def decF (l:List UInt8):List Rd×Int×Int:=if 49152<l.length then ([],0,10) else decG (l.length+1) 0 [] l
theorem or_add {a b k:Nat} (h:b<2 ^ k):(a*2 ^ k ||| b)=a*2 ^ k+b:=by
 rw [Nat.mul_comm,←Nat.two_pow_add_eq_or_of_lt h]
theorem pw24:(2:Int) ^ Int.toNat 24=16777216:=by decide
theorem pw16:(2:Int) ^ Int.toNat 16=65536:=by decide
theorem pw8:(2:Int) ^ Int.toNat 8=256:=by decide
theorem mx64:IntKind.i64.max=9223372036854775807:=rfl
theorem tn_mul (x k:Nat):((x:Int)*(k:Int)).toNat=x*k:=by
 rw [←Int.natCast_mul,Int.toNat_natCast]
theorem or24 {x b:Nat} (h:b<16777216):(x*16777216 ||| b)=x*16777216+b:=by
 have:=or_add (a:=x) (b:=b) (k:=24) (by simpa using h)
 simpa only [Nat.reducePow] using this
theorem or16 {x b:Nat} (h:b<65536):(x*65536 ||| b)=x*65536+b:=by
 have:=or_add (a:=x) (b:=b) (k:=16) (by simpa using h)
 simpa only [Nat.reducePow] using this
theorem or08 {x b:Nat} (h:b<256):(x*256 ||| b)=x*256+b:=by
 have:=or_add (a:=x) (b:=b) (k:=8) (by simpa using h)
 simpa only [Nat.reducePow] using this
theorem orA (x y:UInt8):(((x.toNat:Int)*16777216).toNat ||| ((y.toNat:Int)*65536).toNat)=x.toNat*16777216+y.toNat*65536:=by
 have hy:=UInt8.toNat_lt y
 have e1:((x.toNat:Int)*16777216).toNat=x.toNat*16777216:=tn_mul _ 16777216
 have e2:((y.toNat:Int)*65536).toNat=y.toNat*65536:=tn_mul _ 65536
 rw [e1,e2]
 exact or24 (by omega)
theorem orB (x y z:UInt8):((((x.toNat*16777216+y.toNat*65536:Nat):Int)).toNat ||| ((z.toNat:Int)*256).toNat)=x.toNat*16777216+y.toNat*65536+z.toNat*256:=by
 have hz:=UInt8.toNat_lt z
 have e2:((z.toNat:Int)*256).toNat=z.toNat*256:=tn_mul _ 256
 rw [e2,Int.toNat_natCast]
 have e3:x.toNat*16777216+y.toNat*65536=(x.toNat*256+y.toNat)*65536:=by omega
 rw [e3]
 exact or16 (by omega)
theorem orC (x y z u:UInt8):((((x.toNat*16777216+y.toNat*65536+z.toNat*256:Nat):Int)).toNat ||| ((u.toNat:Int)).toNat)=x.toNat*16777216+y.toNat*65536+z.toNat*256+u.toNat:=by
 have hu:=UInt8.toNat_lt u
 rw [Int.toNat_natCast,Int.toNat_natCast]
 have e3:x.toNat*16777216+y.toNat*65536+z.toNat*256=(x.toNat*65536+y.toNat*256+z.toNat)*256:=by omega
 rw [e3]
 exact or08 (by omega)
theorem orD (x y:UInt8):(((x.toNat:Int)*256).toNat ||| ((y.toNat:Int)).toNat)=x.toNat*256+y.toNat:=by
 have hu:=UInt8.toNat_lt y
 have e2:((x.toNat:Int)*256).toNat=x.toNat*256:=tn_mul _ 256
 rw [e2,Int.toNat_natCast]
 exact or08 (by omega)
theorem tn0:Int.toNat 0=0:=rfl
theorem tn1:Int.toNat 1=1:=rfl
theorem tn2:Int.toNat 2=2:=rfl
theorem tn3:Int.toNat 3=3:=rfl
theorem tn9:Int.toNat 9=9:=rfl
theorem tn10:Int.toNat 10=10:=rfl
theorem tn11:Int.toNat 11=11:=rfl
theorem drop_eq {α:Type} [Inhabited α] {e:α→List PV} {l:List α} {i:Nat}:RowEq (l.length - i) (fun k=>fl e l (i+k)) (fl e (l.drop i)):=fun k hk=>by
 simp only [fl]
 congr 1
 simp [List.getD,List.getElem?_drop]
theorem gB_drop {l:List UInt8} {i k:Nat}:gB (l.drop i) k=gB l (i+k):=by
 simp [gB,List.getD,List.getElem?_drop]
theorem wordF_drop (l:List UInt8) (i:Nat):wordF (l.drop i) 0=wordF l i:=by
 unfold wordF
 rw [gB_drop,gB_drop,gB_drop,gB_drop]
 simp
theorem take_eq {α:Type} [Inhabited α] {e:α→List PV} {l:List α} {n:Nat} (h:n≤l.length):RowEq n (fl e l) (fl e (l.take n)):=fun k hk=>by
 simp only [fl]
 congr 1
 simp [List.getD,List.getElem?_take,hk]
theorem call148 (τ:Nat) (l:List UInt8) (hl:4≤l.length):PureCall Tryz.prog 148 [.sl τ 1 l.length (fl eB l)] [] ⟨.int .i64 (wordF l 0), [], []⟩:=by
 refine pure_call mix Tryz.func148 fits148 rfl ?_
 conv=>whnf
 refine ⟨rfl, ?_⟩
 have b0:0≤((l.getD 0 default).toNat:Int)∧((l.getD 0 default).toNat:Int)<256:=gB_rng l 0
 have b1:0≤((l.getD 1 default).toNat:Int)∧((l.getD 1 default).toNat:Int)<256:=gB_rng l 1
 have b2:0≤((l.getD 2 default).toNat:Int)∧((l.getD 2 default).toNat:Int)<256:=gB_rng l 2
 have b3:0≤((l.getD 3 default).toNat:Int)∧((l.getD 3 default).toNat:Int)<256:=gB_rng l 3
 conv=>whnf
 refine ⟨?_, [], ?_⟩
 ·simp only [pw24,pw16,pw8,tn0,tn1,tn2,tn3,orA,orB,orC,mx64]
  exact g0
 conv=>whnf
 refine ⟨rfl, ?_,trivial,trivial⟩
 all_goals repeat' (first | exact True.intro | refine leF_cons rfl ?_ ?_ | refine leS_cons rfl ?_ ?_ | (show PLe _ _ _ _;conv=>whnf) | (show SLe _ _ _ _;conv=>whnf) | (show PLeL _ _ _ _;conv=>whnf) | apply And.intro | rfl | exact Nat.le_refl _ | exact fun _ _=>rfl | exact rowEq0 _ _)
 simp only [pw24,pw16,pw8,tn0,tn1,tn2,tn3,orA,orB,orC,wordF,gB,Nat.zero_add]
 omega
theorem call84 (τ:Nat) (hτ:τ≤2) (l:List UInt8) (hl:l.length≤4611686018427387904):PureCall Tryz.prog 84 [.sl τ 1 l.length (fl eB l)] [] ⟨.tup [.agg (eRd (recF l).1), .int .i64 (recF l).2], [], []⟩:=by
 have hlt:lendT τ≤2:=lendT_mono (b:=2) hτ
 refine pure_call mix Tryz.func84 fits84 rfl ?_
 conv=>whnf
 refine ⟨?_,fun hc=> ?_,fun hc=> ?_⟩
 ·exact g0
 ·simp only [bp] at hc
  rw [show recF l=(rd0,3) by unfold recF;rw [if_pos (by omega)]]
  conv=>whnf
  refine ⟨?_, [], ?_⟩
  ·exact g0
  conv=>whnf
  refine ⟨rfl, ?_,trivial,trivial⟩
  all_goals exact ent
 simp only [bp] at hc
 have h12:12≤l.length:=by omega
 conv=>whnf
 refine ⟨_,fun _=>PureCall.arg_le (call83 2 (l.take 10) (by rw [List.length_take];omega)) rfl ⟨⟨hlt,rfl, ?_,take_eq (by omega)⟩,trivial⟩, ?_⟩
 ·show 10=_;rw [List.length_take];omega
 conv=>whnf
 refine ⟨rfl, ?_⟩
 conv=>whnf
 have b0:=gB_rng l 0
 have b9:=gB_rng l 9
 have b10:=gB_rng l 10
 have b11:=gB_rng l 11
 refine ⟨?_,fun h1=> ?_,fun h1=> ?_⟩
 ·unfold gB at b0 b9 b10 b11
  simp only [pw8,tn10,tn11,orD,mx64]
  exact g0
 ·have h2:sumF (l.take 10)≠gB l 10*256+gB l 11:=by
    simp only [pw8,tn10,tn11,orD] at h1
    simp only [bp] at h1
    unfold gB;omega
  rw [show recF l=(rd0,8) by unfold recF;rw [if_neg (by omega),if_pos h2]]
  conv=>whnf
  refine ⟨?_, [], ?_⟩
  ·exact g0
  conv=>whnf
  refine ⟨rfl, ?_,trivial,trivial⟩
  all_goals exact ent
 have h2:¬sumF (l.take 10)≠gB l 10*256+gB l 11:=by
  simp only [pw8,tn10,tn11,orD] at h1
  simp only [bp] at h1
  unfold gB;omega
 rw [show recF l=(recV l,checkR (recV l)) by unfold recF;rw [if_neg (by omega),if_neg h2]]
 have c1:PureCall Tryz.prog 148 [.sl 2 1 (l.drop 1).length (fl eB (l.drop 1))] [] ⟨.int .i64 (wordF l 1), [], []⟩:=by
  have:=call148 2 (l.drop 1) (by rw [List.length_drop];omega)
  rwa [wordF_drop] at this
 have c5:PureCall Tryz.prog 148 [.sl 2 1 (l.drop 5).length (fl eB (l.drop 5))] [] ⟨.int .i64 (wordF l 5), [], []⟩:=by
  have:=call148 2 (l.drop 5) (by rw [List.length_drop];omega)
  rwa [wordF_drop] at this
 conv=>whnf
 refine ⟨_,fun _=>PureCall.arg_le c1 rfl ⟨⟨hlt,rfl,by rw [List.length_drop];rfl,drop_eq⟩,trivial⟩, ?_⟩
 conv=>whnf
 refine ⟨_,fun _=>PureCall.arg_le c5 rfl ⟨⟨hlt,rfl,by rw [List.length_drop];rfl,drop_eq⟩,trivial⟩, ?_⟩
 conv=>whnf
 refine ⟨rfl, ?_⟩
 conv=>whnf
 refine ⟨_,fun _=>call87 (recV l), ?_⟩
 conv=>whnf
 refine ⟨rfl, ?_⟩
 conv=>whnf
 refine ⟨?_, [], ?_⟩
 ·unfold gB at b0 b9
  simp only [tn0,tn9,tn1]
  exact g0
 conv=>whnf
 refine ⟨rfl, ?_,trivial,trivial⟩
 all_goals exact ent
def c28L1:C:=(.seq (sr [km 12 6,km 13 0,kk 14 (.len 13),kk 15 (.bi false .lss 12 14)] (.cond 15 .skip (.exit 0))) (.seq (.block 1 (sr [km 19 0,km 20 6,km 21 6,kk 22 (.bi false .add 21 (cn 12)),km 23 0,kk 24 (.len 23),kk 25 (.mn [22,24]),kk 26 (.slc 1 19 (some 20) (some 25)),kk 27 (cl 84 [26]),km 18 27,kk 28 (.ex 18 0),kk 29 (.ex 18 1),kk 7 (.al [(.int .i64 0),(.int .i64 0),(.int .i64 0),(.int .i64 0)]),kz (.st 4 7 28),km 8 29] (.seq (sr [km 30 8,kk 31 (.bi false .neq 30 (cn 0))] (.cond 31 (sr [km 32 6,km 33 8,kk 2 (.mv (.c (.nil 4))),km 3 32,km 4 33] .ret) .skip)) (.reg [km 34 5,kk 35 (.ld 4 true 7),kk 36 (.bs 109 4 [35]),kk 37 (.app 109 4 32 34 36),km 5 37])))) (.reg [km 16 6,kk 17 (.bi false .add 16 (cn 12)),km 6 17])))
def c28:C:=(sr [kk 2 (.mv (.c (.nil 4))),kk 3 (.mv (cn 0)),kk 4 (.mv (cn 0))] (.seq (sr [km 9 0,kk 10 (.len 9),kk 11 (.bi false .gtr 10 (cn 49152))] (.cond 11 (sr [kk 2 (.mv (.c (.nil 4))),kk 3 (.mv (cn 0)),kk 4 (.mv (cn 10))] .ret) .skip)) (sr [kk 5 (.mv (.c (.nil 4)))] (.seq (sr [kk 6 (.mv (cn 0))] (.block 0 (.loop c28L1))) (sr [km 38 5,km 2 38,kk 3 (.mv (cn 0)),kk 4 (.mv (cn 0))] .ret)))))
theorem fits28:fits Tryz.prog false Tryz.f28 1 39 [(2,none),(3,none),(4,none)]=some c28.er:=by kernel_rfl
theorem cut_any {α:Type} [Inhabited α] {e:α→List PV} {l:List α} {i n m:Nat} (h:n≤m):RowEq n (fun k=>fl e l (i+k)) (fl e ((l.drop i).take m)):=fun k hk=>by
 simp only [fl]
 congr 1
 have:k<m:=by omega
 simp [List.getD,List.getElem?_take,this,List.getElem?_drop]
theorem decG_bad {m i:Nat} {out:List Rd} {l:List UInt8} (h:i<l.length) (he:(recF ((l.drop i).take 12)).2≠0):decG (m+1) i out (l.drop i)=([],(i:Int),(recF ((l.drop i).take 12)).2):=by
 simp only [decG]
 rw [if_neg (by rw [List.length_drop];omega),if_pos he]
theorem decG_ok {m i:Nat} {out:List Rd} {l:List UInt8} (h:i<l.length) (he:(recF ((l.drop i).take 12)).2=0):decG (m+1) i out (l.drop i)=decG m ((i+12:Nat):Int) (out++ [(recF ((l.drop i).take 12)).1]) (l.drop (i+12)):=by
 simp only [decG]
 rw [if_neg (by rw [List.length_drop];omega),if_neg (by rw [he];decide),List.drop_drop]
 rfl
theorem recF_short {l:List UInt8} (h:(recF l).2=0):12≤l.length:=by
 unfold recF at h
 split at h
 ·cases h
 ·omega
theorem decG_end {m:Nat} {a:Int} {out:List Rd} {l:List UInt8}:decG (m+1) a out (l.drop l.length)=(out,0,0):=by
 simp only [decG]
 rw [if_pos (by simp)]
structure DecS where
 n:Nat
 i:Nat
 out:List Rd
def DInv (l:List UInt8) (x:DecS):Prop:=(x.i≤l.length∧l.length - x.i<x.n)∧12*x.out.length≤x.i∧decG x.n x.i x.out (l.drop x.i)=decF l
theorem call28 (τ:Nat) (hτ:τ≤2) (l:List UInt8) (hl:l.length≤4611686018427387904):PureCall Tryz.prog 28 [.sl τ 1 l.length (fl eB l)] [] ⟨.tup [.sl 0 4 (decF l).1.length (fl eRd (decF l).1), .int .i64 (decF l).2.1, .int .i64 (decF l).2.2], [], []⟩:=by
 have hlt:lendT τ≤2:=lendT_mono (b:=2) hτ
 refine pure_call mix Tryz.func28 fits28 rfl ?_
 conv=>whnf
 refine ⟨?_,fun hc=> ?_,fun hc=> ?_⟩
 ·exact g0
 ·simp only [bp] at hc
  rw [show decF l=([],0,10) by unfold decF;rw [if_pos (by omega)]]
  conv=>whnf
  refine ⟨?_, [], ?_⟩
  ·exact g0
  conv=>whnf
  refine ⟨rfl, ?_,trivial,trivial⟩
  all_goals exact ent
 simp only [bp] at hc
 have hl2:l.length≤49152:=by omega
 have h0:decG (l.length+1) (0:Nat) [] (l.drop 0)=decF l:=by unfold decF;rw [if_neg (by omega)];rfl
 conv=>whnf
 refine ⟨trivial, ?_⟩
 refine LSem.adopt 5 1000000 109 4 4 rfl rfl ?_
 refine LSem.loop (n:=39) mix (α:=DecS) (DInv l)
  (fun x=> [(0, .sl τ 1 l.length (fl eB l)),(5, .os 1000000),(6, .int .i64 x.i)])
  (fun x=> [(1000000, .row 0 109 4 x.out.length (fl eRd x.out))]) (fun x=>l.length - x.i) ⟨l.length+1,0, []⟩ ?_ ?_ ?_
 ·exact ⟨⟨Nat.zero_le _,by dsimp only;omega⟩,Nat.le_refl _,h0⟩
 ·refine ⟨rfl,rfl, ?_, ?_⟩
  all_goals exact ent
 ·intro x hx
  obtain ⟨n,i,out⟩:=x
  obtain ⟨⟨hi,hn⟩,ho,hd⟩:=hx
  dsimp only at hi hn ho hd
  have hj:((i:Int)).toNat=i:=by omega
  obtain ⟨m,rfl⟩:∃m,n=m+1:=⟨n - 1,by omega⟩
  conv=>whnf
  refine ⟨trivial,fun hc=> ?_,fun hc=> ?_⟩
  ·replace hc:=of_decide_eq_true hc
   have hlti:i<l.length:=by
    have h:(i:Int)<l.length:=hc
    omega
   obtain ⟨X,hX⟩:∃X,X=(l.drop i).take 12:=⟨_,rfl⟩
   have hXl:X.length=min 12 (l.length - i):=by rw [hX,List.length_take,List.length_drop]
   conv=>whnf
   dsimp only
   rw [hj]
   refine ⟨_,fun _=>PureCall.arg_le (call84 2 (Nat.le_refl _) X (by omega)) rfl ⟨⟨hlt,rfl, ?_, ?_⟩,trivial⟩, ?_⟩
   ·rw [hXl];split<;>omega
   ·rw [hX];refine cut_any ?_;split<;>omega
   conv=>whnf
   refine ⟨?_,fun h1=> ?_,fun h1=> ?_⟩
   ·refine ⟨⟨⟨True.intro, ?_⟩, ?_⟩,True.intro⟩
    ·refine inR64_of ?_ ?_<;>omega
    ·split<;>omega
   ·have hE:(recF X).2≠0:=by simpa using h1
    rw [←hd,decG_bad hlti (by rw [←hX];exact hE),←hX]
    conv=>whnf
    refine ⟨?_, [], ?_⟩
    ·exact g0
    conv=>whnf
    refine ⟨rfl, ?_,trivial,trivial⟩
    all_goals exact ent
   ·have hE:(recF X).2=0:=by simpa using h1
    have h12:=recF_short hE
    rw [hXl] at h12
    rw [decG_ok hlti (by rw [←hX];exact hE),←hX] at hd
    have q:=fl_push eRd out (recF X).1
    have hx:(out++ [(recF X).1]).length=out.length+1:=by simp
    conv=>whnf
    refine ⟨?_,⟨m,i+12,out++ [(recF X).1]⟩,⟨⟨?_, ?_⟩, ?_,hd⟩, ?_,rfl,rfl, ?_, ?_⟩
    ·exact g0
    ·dsimp only;omega
    ·dsimp only;omega
    ·dsimp only;rw [hx];omega
    ·dsimp only;omega
    all_goals repeat' (first | exact True.intro | refine leF_cons rfl ?_ ?_ | refine leS_cons rfl ?_ ?_ | (show PLe _ _ _ _;conv=>whnf) | (show SLe _ _ _ _;conv=>whnf) | (show PLeL _ _ _ _;conv=>whnf) | apply And.intro | rfl | exact Nat.le_refl _ | exact fun _ _=>rfl | exact rowEq0 _ _)
    all_goals first | exact q | (dsimp only;rw [hx];rfl) | (dsimp only;rw [hx]) | omega | skip
  ·replace hc:=of_decide_eq_false hc
   have hk:i=l.length:=by
    have h:¬(i:Int)<l.length:=hc
    omega
   subst hk
   rw [decG_end] at hd
   rw [←hd]
   conv=>whnf
   refine ⟨?_, [], ?_⟩
   ·exact g0
   conv=>whnf
   refine ⟨rfl, ?_,trivial,trivial⟩
   all_goals exact ent
end G06
open Go.Shelf Go.RowKit
variable {P:Program} {ρ:Ren}
structure Held (T e:TypeId) (b:Nat) (p v:Value) (s:List UInt8) (w:World):Prop where
 cells:w.heap[b]? =some (.cells #[p,v] T (0,0))
 own:w.ownsRowF 0 e 1 v s.length (bytesV s)
 ne:v.ownBlock≠some b
def self (b:Nat):Value:= .pointer (some ⟨b,0,none⟩)
theorem bytesV_length (s:List UInt8):(bytesV s).length=s.length:=by simp [bytesV]
theorem strCells_bytes (s:List UInt8):Lib.strCells ⟨s.toArray⟩=bytesV s:=by simp [Lib.strCells,bytesV]
theorem Held.at_ {T e:TypeId} {b:Nat} {p v:Value} {s:List UInt8} {w:World} (h:Held T e b p v s w):Lib.BuilderAtF T e 0 b p (bytesV s) w:=
 ⟨Nat.zero_le _,v,h.cells,by rw [bytesV_length];exact h.own,h.ne⟩
theorem Held.lt {T e:TypeId} {b:Nat} {p v:Value} {s:List UInt8} {w:World} (h:Held T e b p v s w):b<w.heap.size:=(Array.getElem?_eq_some_iff.1 h.cells).1
theorem held_check (L:Lays.n240 P ρ) (X:Builder.X72 P ρ) {b:Nat} {p v:Value} {s:List UInt8} {w:World} (hp:p= .pointer none∨p=self b) (h:Held (ρ.t 72) (ρ.t 5) b p v s w):
  Calls P (ρ.f 240) #[.pointer (some ⟨b,0,none⟩)] w fun e w'=>e= .returned (.tuple #[])∧Held (ρ.t 72) (ρ.t 5) b (self b) v s w'∧Keeps (· =b) w w':=by
 rcases hp with rfl | rfl
 ·refine (Any.Builder_copyCheck_fresh L X b w h.at_.cell0 h.at_.shape ?_).mono ?_
  ·simp [World.frozen?,h.cells]
  ·rintro e w' ⟨rfl,rfl⟩
   have hk:Keeps (· =b) w (w.setCell ⟨b,0,none⟩ (.pointer (some ⟨b,0,none⟩))):=
    ⟨rfl,rfl,rfl,by simp [World.setCell],fun k _ hk=>Below.heap_setCell _ _ _ _ (fun e=>hk (by simp [e]))⟩
   refine ⟨rfl,⟨?_, ?_,h.ne⟩,hk⟩
   ·simp [World.setCell,Array.getElem?_modify,h.cells,self]
   ·exact h.own.kept (row:=some b) ⟨rfl,rfl,rfl,by simp [World.setCell],fun k _ hk=>Below.heap_setCell _ _ _ _ (fun e=>hk (by simp [e]))⟩ (.inr h.ne)
 ·refine (Any.Builder_copyCheck_used L X b w h.at_.cell0).mono ?_
  rintro e w' ⟨rfl,rfl⟩
  exact ⟨rfl,h,Keeps.refl _ _⟩
theorem held_put {T e:TypeId} {b:Nat} {v v':Value} {s s':List UInt8} {w w1 w2:World} (h1:Held T e b (self b) v s w1) (hk:Keeps (· =b) w w1) (hg:w1.grownBy w2 v.ownBlock) (hTe:T≠e)
  (ho:w2.ownsRowF 0 e 1 v' s'.length (bytesV s')):
  Held T e b (self b) v' s' (w2.setCell ⟨b,1,none⟩ v')∧Keeps (fun k=>k=b∨v.ownBlock=some k) w (w2.setCell ⟨b,1,none⟩ v'):=by
 have hb2:w2.heap[b]? =some (.cells #[self b,v] T (0,0)):=by
  rw [hg.block b h1.lt (fun e=>h1.ne e.symm)];exact h1.cells
 have hput:Lib.BuilderAtF T e 0 b (self b) (bytesV s') (w2.setCell ⟨b,1,none⟩ v'):=
  Lib.BuilderAtF.put (Nat.zero_le _) hb2 (by rw [bytesV_length];exact ho) hTe
 obtain ⟨_,u,q1,q2,q3⟩:=hput
 have hu:u=v':=by
  have:(w2.setCell ⟨b,1,none⟩ v').heap[b]? =some (.cells #[self b,v'] T (0,0)):=by simp [World.setCell,Array.getElem?_modify,hb2]
  rw [q1] at this
  simp only [Option.some.injEq,Obj.cells.injEq] at this
  have h:=congrArg (·[1]?) this.1
  simpa using h
 subst hu
 refine ⟨⟨q1,by rw [bytesV_length] at q2;exact q2,q3⟩, ?_⟩
 have hs2:(w2.setCell ⟨b,1,none⟩ u).heap.size=w2.heap.size:=by simp [World.setCell]
 refine ⟨hg.os.trans hk.os,hg.tape.trans hk.tape,hg.output.trans hk.output,by rw [hs2];exact Nat.le_trans hk.size hg.size,fun k hlt hn=> ?_⟩
 have h2:(w2.setCell ⟨b,1,none⟩ u).heap[k]? =w2.heap[k]? :=Below.heap_setCell _ _ _ _ (fun e=>hn (.inl (by simpa using e)))
 rw [h2,hg.block k (Nat.lt_of_lt_of_le hlt hk.size) (fun e=>hn (.inr e.symm))]
 exact hk.block k hlt (fun e=>hn (.inl e))
theorem run_app_str (w:World) (t u ty e:TypeId) (i:TypeInfo) (ht:P.underlying t=some (.slice e)) (hu:P.underlying u=some .string) (hi:P.info? e=some i) (hz:i.zero=some (.int .u8 0)) (hsize:i.size=1) (hby:i.bytes=1)
  (v:Value) (n:Nat) (xs:List Value) (hown:w.ownsRowF 0 e 1 v n xs) (s:ByteArray) (h63:n+s.size≤maxLen) (hbytes:n+s.size≤140737488355328):
  ∃v' w',(Builtin.append_ #[t,u] ty #[v, .string s]).run P w= .ok v' w'∧w'.ownsRowF 0 e 1 v' (n+s.size) (xs++Lib.strCells s)∧w.grownBy w' v.ownBlock∧(∀g,v'.ownBlock=some g→v.ownBlock=some g∨w.heap.size≤g):=by
 have hown0:=hown
 rcases hown.2 with ⟨rfl,rfl⟩ | ⟨g,cap,cur,fz,rfl,hbg,hg,hfz,hnc,hcm,hcs,htake⟩
 ·obtain ⟨v',w',hr,h2,h3,_⟩:=Lib.run_append_own_stringF (P:=P) w w.heap.size t u ty e i ht hu hi hz hsize hby (.slice none 0 0) 0 xs ⟨hown.1, .inl ⟨rfl,rfl⟩⟩ s h63 hbytes (Nat.le_refl _)
  refine ⟨v',w',hr,⟨h2.1, ?_⟩,h3,fun k hk=> .inr (h2.lt k hk).1⟩
  rcases h2.2 with h4 | ⟨g,cap,cur,fz,q1,q2,q3⟩
  ·exact .inl h4
  ·exact .inr ⟨g,cap,cur,fz,q1,Nat.zero_le _,q3⟩
 ·obtain ⟨v',w',hr,h2,h3,_⟩:=Lib.run_append_own_stringF (P:=P) w 0 t u ty e i ht hu hi hz hsize hby (.slice (some ⟨g,0,none⟩) n cap) n xs hown0 s h63 hbytes (Nat.zero_le _)
  refine ⟨v',w',hr,h2,h3,fun k hk=> ?_⟩
  have hxl:xs.length=n:=by simpa using hown.1
  have hsm:n+s.size≤9223372036854775807:=by simp only [maxLen] at h63;omega
  by_cases hroom:n+s.size≤cap
  ·have hr2:=Lib.run_append_room_stringF (P:=P) w t u ty e i ht hu hi hsize g n cap cur fz hg (by simpa using hfz) s hroom (by rw [hcs];omega)
   rw [hr] at hr2
   injection hr2 with e1 e2
   subst e1
   exact .inl hk
  ·have hr2:=Lib.run_append_grow_string (P:=P) w t u ty e i (.int .u8 0) ht hu hi hz ⟨g,0,none⟩ n cap xs (by rw [hsize];simpa using hxl) (hown.cells (g:=g) rfl) s (by omega) (by omega) (by rw [hby];exact growslice_fits (by omega) (by omega))
   rw [hr] at hr2
   injection hr2 with e1 e2
   subst e1
   simp only [Value.ownBlock,Option.some.injEq] at hk
   exact .inr (by rw [←hk];exact Nat.le_refl _)
theorem wp_app_str {ops:Array Oper} {rest:List Oper} {o:Oper} {a:Act} {Q:Exit→Act→World→Prop} {w:World} (hgd:o.guard=none) (sl x:Operand) (t u:TypeId) (ho:o.op= .call { callee:= .builtin .append,args:= #[sl,x],argTypes:= #[t,u] })
  (e:TypeId) (i:TypeInfo) (ht:P.underlying t=some (.slice e)) (hu:P.underlying u=some .string) (hi:P.info? e=some i) (hz:i.zero=some (.int .u8 0)) (hsize:i.size=1) (hby:i.bytes=1)
  (v:Value) (n:Nat) (xs:List Value) (hs:a.eval sl=v) (hown:w.ownsRowF 0 e 1 v n xs) (s:ByteArray) (hx:a.eval x= .string s) (h63:n+s.size≤maxLen) (hbytes:n+s.size≤140737488355328)
  (h:∀v' w',w'.ownsRowF 0 e 1 v' (n+s.size) (xs++Lib.strCells s)→w.grownBy w' v.ownBlock→(∀g,v'.ownBlock=some g→v.ownBlock=some g∨w.heap.size≤g)→wpList P ops Q rest (a.put o.dst v') w'):wpList P ops Q (o::rest) a w:=by
 refine wpList_plain hgd fun K hK=> ?_
 obtain ⟨v',w',hr,h2,h3,h4⟩:=run_app_str (P:=P) w t u o.type e i ht hu hi hz hsize hby v n xs hown s h63 hbytes
 unfold Oper.wp execOp
 simp only [ho,resolve,invoke,builtin,Sem.run_bind,Sem.run_pure,Result.andThen_ok,List.map_toArray,List.map_cons,List.map_nil,hs,hx,hr]
 exact hK _ _ (h v' w' h2 h3 h4)
theorem held_string (L:Lays.n166 P ρ) (X:Builder.Extra P ρ) {b:Nat} {p v:Value} {s:List UInt8} {w:World} (hp:p= .pointer none∨p=self b) (h:Held (ρ.t 72) (ρ.t 5) b p v s w) (x:List UInt8)
  (hlen:s.length+x.length≤140737488355328):
  Calls P (ρ.f 166) #[.pointer (some ⟨b,0,none⟩), .string ⟨x.toArray⟩] w fun e w'=>e= .returned (.tuple #[.int .i64 x.length, .nilIface])∧
   ∃v',Held (ρ.t 72) (ρ.t 5) b (self b) v' (s++x) w'∧Keeps (fun k=>k=b∨v.ownBlock=some k) w w'∧(∀g,v'.ownBlock=some g→v.ownBlock=some g∨w.heap.size≤g):=by
 obtain ⟨i0,hi,hz0,hz1,hz2⟩:=info_parts X.infoByte
 have mixed:=L.mixed
 have t72:=L.t72;have a72:=L.a72;have z72:=L.z72;have v72:=L.v72;have u72:=run_underlying L.t72
 have t70:=L.t70;have a70:=L.a70;have z70:=L.z70;have v70:=L.v70;have u70:=run_underlying L.t70
 have t37:=L.t37;have a37:=L.a37;have z37:=L.z37;have v37:=L.v37;have u37:=run_underlying L.t37
 have t3:=L.t3;have a3:=L.a3;have z3:=L.z3;have v3:=L.v3;have u3:=run_underlying L.t3
 have t9:=L.t9;have a9:=L.a9;have z9:=L.z9;have v9:=L.v9;have u9:=run_underlying L.t9
 have t5:=X.t5;have a5:=X.a5;have z5:=X.z5;have v5:=X.v5;have u5:=run_underlying X.t5
 have e240:∀args w,(callFunc (ρ.f 240) args).run P w= .ok (.enter (ρ.f 240) args) w:=enters_of L.f240 (by kernel_rfl) rfl
 go_enter L.f166,Body.n166_ntmps ρ
 go_wp2_with (go_at_fn (ρ.f 240);refine (held_check { L with } X.toX72 hp h).mono ?_)
 rintro e w1 ⟨rfl,h1,hk1⟩
 have c0:w1.cell? ⟨b,0,none⟩=some (self b):=by rw [Lib.cell_of_heap h1.cells];rfl
 have c1:w1.cell? ⟨b,1,none⟩=some v:=by rw [Lib.cell_of_heap h1.cells];rfl
 go_wp2_with (at_builtin;refine wp_app_str rfl _ _ (ρ.t 37) (ρ.t 9) rfl (ρ.t 5) i0 L.t37 L.t9 hi hz0 hz1 hz2 _ _ _ rfl h1.own ⟨x.toArray⟩ rfl ?k1 ?k2 ?_)
 case k1=>unfold maxLen;show _+x.toArray.size≤_;rw [List.size_toArray];omega
 case k2=>show _+x.toArray.size≤_;rw [List.size_toArray];omega
 intro v' w2 ho' hgrow hold
 have ho2:w2.ownsRowF 0 (ρ.t 5) 1 v' (s++x).length (bytesV (s++x)):=by
  have:=ho'
  rw [strCells_bytes] at this
  simpa [bytesV] using this
 obtain ⟨r1,r2⟩:=held_put h1 hk1 hgrow X.neB5 ho2
 have hb2:w2.heap[b]? =some (.cells #[self b,v] (ρ.t 72) (0,0)):=by
  rw [hgrow.block b h1.lt (fun e=>h1.ne e.symm)];exact h1.cells
 have d0:w2.cell? ⟨b,0,none⟩=some (self b):=by rw [Lib.cell_of_heap hb2];rfl
 have d1:w2.cell? ⟨b,1,none⟩=some v:=by rw [Lib.cell_of_heap hb2];rfl
 have f1:w2.frozen? ⟨b,1,none⟩=false:=Lib.frozen_of_heap hb2 1
 obtain ⟨ao,n',cap,rfl⟩:∃ao n' cap,v'= .slice ao n' cap:=by
  rcases ho'.2 with ⟨hv,_⟩ | ⟨g,cap,cur,fz,hv,_⟩
  ·exact ⟨_,_,_,hv⟩
  ·exact ⟨_,_,_,hv⟩
 go_wp2
 go_ret2
 refine ⟨?_,_,r1,r2,fun g hg=> ?_⟩
 ·rfl
 ·exact (hold g hg).imp id fun h5=>Nat.le_trans hk1.size h5
theorem freeze_keep (w:World) (g:Nat) {n:Nat} (hn:n≠0):Keeps (fun k=>k=g) w (w.freeze ⟨g,0,none⟩ n):=by
 unfold World.freeze
 rw [if_neg hn]
 exact ⟨rfl,rfl,rfl,by simp,fun k _ hk=>by simp [Array.getElem?_modify,Ne.symm hk]⟩
theorem Held.alloc {T e:TypeId} {b:Nat} {p v:Value} {s:List UInt8} {w:World} (h:Held T e b p v s w) (o:Obj):Held T e b p v s (w.alloc o):=
 ⟨by rw [Lib.alloc_old w o b h.lt];exact h.cells,h.own.alloc o,h.ne⟩
theorem held_text (L:Lays.n169 P ρ) (X:Builder.Extra P ρ) {b:Nat} {p v:Value} {s:List UInt8} {w:World} (h:Held (ρ.t 72) (ρ.t 5) b p v s w) (h0:s≠ []):
  Calls P (ρ.f 169) #[.pointer (some ⟨b,0,none⟩)] w fun e w'=>e= .returned (.string ⟨s.toArray⟩)∧Held (ρ.t 72) (ρ.t 5) b p v s w'∧Keeps (fun k=>k=b∨v.ownBlock=some k) w w':=by
 have hl0:s.length≠0:=by simpa using h0
 obtain ⟨g,cap,cur,fz,hv,_,hg,hfz,hnc,hcm,hcs,htake⟩:∃g cap cur fz,v= .slice (some ⟨g,0,none⟩) s.length cap∧0≤g∧w.heap[g]? =some (.cells cur (ρ.t 5) fz)∧fz.2≤s.length*1∧s.length≤cap∧cap≤maxLen∧cur.size=cap*1∧cur.toList.take (s.length*1)=bytesV s:=by
  rcases h.own.2 with ⟨_,hz⟩ | ⟨g,cap,cur,fz,hv,r⟩
  ·exact absurd hz hl0
  ·exact ⟨g,cap,cur,fz,hv,r⟩
 have hgb:g≠b:=fun e=>h.ne (by rw [hv,e];rfl)
 have c1:w.drew.cell? ⟨b,1,none⟩=some (.slice (some ⟨g,0,none⟩) s.length cap):=by
  have:w.drew.heap[b]? =some (.cells #[p,v] (ρ.t 72) (0,0)):=h.cells
  rw [Lib.cell_of_heap this,hv];rfl
 have hSD:(Builtin.unsafeSliceData_ #[(ρ.t 37)] (ρ.t 127) #[.slice (some ⟨g,0,none⟩) s.length cap]).run P w.drew= .ok (.pointer (some ⟨g,0,none⟩)) w.drew:=
  Lib.run_unsafeSliceData_row _ _ _ _ _ _ (by omega)
 have hUS:(Builtin.unsafeString_ #[(ρ.t 127),(ρ.t 3)] (ρ.t 9) #[.pointer (some ⟨g,0,none⟩), .int .i64 s.length]).run P w.drew= .ok (.string ⟨s.toArray⟩) (w.drew.freeze ⟨g,0,none⟩ s.length):=by
  refine Lib.run_unsafeString_row w.drew (ρ.t 127) (ρ.t 3) (ρ.t 9) (ρ.t 5) L.t127 X.cellsByte g cur.size (by have hg':w.drew.heap[g]? =some (.cells cur (ρ.t 5) fz):=hg;simp [World.shape?,hg']) s h0 (by omega) (by unfold maxLen at hcm;omega) ?_
  intro j x hx
  have:=h.own.cells (g:=g) (by rw [hv];rfl) j (.int .u8 x.toNat) (by simp [bytesV,hx])
  exact this
 have hkeep:Held (ρ.t 72) (ρ.t 5) b p v s (w.drew.freeze ⟨g,0,none⟩ s.length):=by
  have hA:Lib.BuilderAtF (ρ.t 72) (ρ.t 5) 0 b p (bytesV s) w.drew:=h.at_
  have hF:=hA.froze (g:=g) (cap:=cap) (by rw [bytesV_length];exact c1)
  rw [bytesV_length] at hF
  obtain ⟨_,u,q1,q2,q3⟩:=hF
  have hu:u=v:=by
   have hk2:(w.drew.freeze ⟨g,0,none⟩ s.length).heap[b]? =some (.cells #[p,v] (ρ.t 72) (0,0)):=by
    rw [show (w.drew.freeze ⟨g,0,none⟩ s.length).heap[b]? =w.heap[b]? from (freeze_keep w.drew g hl0).block b h.lt (Ne.symm hgb)];exact h.cells
   rw [q1] at hk2
   simp only [Option.some.injEq,Obj.cells.injEq] at hk2
   have h:=congrArg (·[1]?) hk2.1
   simpa using h
  subst hu
  exact ⟨q1,by rw [bytesV_length] at q2;exact q2,q3⟩
 have hks:Keeps (fun k=>k=b∨v.ownBlock=some k) w (w.drew.freeze ⟨g,0,none⟩ s.length):=
  ((Keeps.drew (fun k=>k=g) w).trans (freeze_keep w.drew g hl0)).mono fun k _ e=> .inr (by rw [hv,e];rfl)
 have mixed:=L.mixed
 have t72:=L.t72;have a72:=L.a72;have z72:=L.z72;have v72:=L.v72;have u72:=run_underlying L.t72
 have t70:=L.t70;have a70:=L.a70;have z70:=L.z70;have v70:=L.v70;have u70:=run_underlying L.t70
 have t37:=L.t37;have a37:=L.a37;have z37:=L.z37;have v37:=L.v37;have u37:=run_underlying L.t37
 have t127:=L.t127;have a127:=L.a127;have z127:=L.z127;have v127:=L.v127;have u127:=run_underlying L.t127
 have t3:=L.t3;have a3:=L.a3;have z3:=L.z3;have v3:=L.v3;have u3:=run_underlying L.t3
 have t9:=L.t9;have a9:=L.a9;have z9:=L.z9;have v9:=L.v9;have u9:=run_underlying L.t9
 have t5:=X.t5;have a5:=X.a5;have z5:=X.z5;have v5:=X.v5;have u5:=run_underlying X.t5
 go_enter L.f169,Body.n169_ntmps ρ
 go_wp2
 go_region_o
 all_goals (go_wp2;go_ret;exact ⟨rfl,hkeep,hks⟩)
open Go.RowKit
theorem ownsF_lt {w:World} {e z n:Nat} {v:Value} {vs:List Value} (h:w.ownsRowF 0 e z v n vs):∀b,v.ownBlock=some b→b<w.heap.size:=fun b hb=>by
 rcases h.2 with ⟨h0,_⟩ | ⟨g,cap,cur,fz,h0,_,h2,_⟩
 ·subst h0;cases hb
 ·subst h0;injection hb with hb;subst hb
  exact (Array.getElem?_eq_some_iff.1 h2).1
theorem pure_bld {P:Program} {f T e:Nat} {args:List PV} {us:List Value} {val:PV} {rv:Value} {s s':List UInt8}
  (hfn:∃fn,P.funcs[f]? =some fn∧fn.body.isSome=true∧(fn.name== "runtime.NumGoroutine")=false)
  (hargs:∀(X:Cx) (γ:Gh) (w:World) (vals:List Value),RepL X γ w args vals→vals=us) (hval:∀(X:Cx) (γ:Gh) (w:World),Rep X γ w val rv)
  (h:∀(w:World) (b:Nat) (p v:Value),(p= .pointer none∨p=self b)→Held T e b p v s w→
   Calls P f (self b::us).toArray w fun ev w'=>ev= .returned rv∧∃p' v',(p'= .pointer none∨p'=self b)∧Held T e b p' v' s' w'∧Keeps (fun k=>k=b∨v.ownBlock=some k) w w'∧(∀g,v'.ownBlock=some g→v.ownBlock=some g∨w.heap.size≤g)):
  PureCall P f (.pt 0 0 0::args) [.bld T e s] ⟨val, [.bld T e s'], []⟩:=by
 refine ⟨hfn,fun w γ as_ ls vals hst hX hr=> ?_⟩
 obtain ⟨v0,us',rfl,hv,hus⟩:=hr.cons_inv
 have:=hargs _ _ _ _ hus
 subst this
 obtain ⟨ge,b,hge,hgb,rfl⟩:=pt_inv hv
 obtain ⟨b',p,v,g1,g2,g3,g4,g5,g6⟩:=hst.at_ 0 ge (.bld T e s) hge rfl
 have hb:b'=b:=by rw [g1] at hgb;injection hgb
 subst hb
 have hheld:Held T e b' p v s w:=⟨g4,g5,g6⟩
 have hself:Value.pointer (some ⟨b',0*ge.z+0,none⟩)=self b':=by rw [Nat.zero_mul];rfl
 rw [hself]
 refine (h w b' p v g3 hheld).mono ?_
 rintro ev w' ⟨he,p',v',hp',hH,hk,hold⟩
 have hnone:∀r,r≠0→γ r=none:=fun r hr=>by
  have:=hst.dom r
  rw [List.getElem?_eq_none (by simp;omega)] at this
  simpa using this
 have hblt:b'<w.heap.size:=hheld.lt
 let ge':GE:=⟨some b',v',ge.z⟩
 have hhas:∀k,ge'.has k→ge.has k∨w.heap.size≤k:=fun k hk=>by
  rcases hk with hk | hk
  ·exact .inl (.inl (by injection hk with hk;rw [←hk];exact g1))
  ·exact (hold k hk).imp (fun h=> .inr (by rw [g2];exact h)) id
 have hown:∀k,ge.has k→γ.own k:=fun k hk=>⟨0,ge,hge,hk⟩
 have hown':∀k,Gh.own (fun r=>if r=0 then some ge' else none) k→γ.own k∨w.heap.size≤k:=fun k ⟨r,g,hr,hb⟩=>by
  by_cases h0:r=0
  ·simp only [h0,if_true,Option.some.injEq] at hr
   subst hr
   exact (hhas k hb).imp (hown k) id
  ·simp only [h0,if_false] at hr;cases hr
 have hkeep:Keeps γ.own w w':=hk.mono fun k _ hk=>by
  rcases hk with rfl | hk
  ·exact hown _ (.inl g1)
  ·exact hown _ (.inr (by rw [g2];exact hk))
 refine ⟨rv,fun r=>if r=0 then some ge' else none,he,hval _ _ _, ?_,hkeep,fun r hr=> ?_,fun r g k hr hb=> ?_⟩
 ·refine ⟨fun r=> ?_,fun r g se hr hs=> ?_,fun r r' g g' k hr hr' _ _=> ?_,fun k hk=> ?_,fun k ⟨r,g,hr,hb⟩=> ?_, ?_⟩
  rotate_right
  ·exact glob_keep hst.glob (fun k hlt hn=>hkeep.block k hlt hn) hown'
  ·by_cases h:r=0
   ·subst h;rfl
   ·simp only [h,if_false,resSt]
    by_cases h2:newBase≤r
    ·rw [if_pos h2];rfl
    ·rw [if_neg h2,List.getElem?_eq_none (by simp;omega)];rfl
  ·by_cases h:r=0
   ·subst h
    simp only [if_true,Option.some.injEq] at hr
    subst hr
    have hs':some (SE.bld T e s')=some se:=hs
    injection hs' with hs'
    subst hs'
    exact ⟨b',p',v',rfl,rfl,hp',hH.cells,hH.own,hH.ne⟩
   ·simp only [h,if_false] at hr;cases hr
  ·by_cases h:r=0
   ·by_cases h':r'=0
    ·rw [h,h']
    ·simp only [h',if_false] at hr';cases hr'
   ·simp only [h,if_false] at hr;cases hr
  ·rcases hown' k hk with h | h
   ·exact hst.asOff k h
   ·exact ⟨fun ha=>by have:=hX k (.inl ha);omega,fun ha=>by have:=hX k (.inr ha);omega⟩
  ·by_cases h:r=0
   ·simp only [h,if_true,Option.some.injEq] at hr
    subst hr
    rcases hb with hb | hb
    ·injection hb with hb;rw [←hb];exact hH.lt
    ·exact ownsF_lt hH.own k hb
   ·simp only [h,if_false] at hr;cases hr
 ·have h0:r=0:=by simp [parN,nbx] at hr;exact hr
  subst h0
  exact ⟨ge',ge,rfl,hge,g1.symm,rfl⟩
 ·by_cases h:r=0
  ·simp only [h,if_true,Option.some.injEq] at hr
   subst hr
   rcases hhas k hb with h1 | h1
   ·exact .inr (.inr ⟨ge,by rw [h];exact hge,h1⟩)
   ·exact .inl h1
  ·simp only [h,if_false] at hr;cases hr
theorem pure_still {P:Program} {f:Nat} {args:List PV} {us:List Value} {val:PV} {rv:Value}
  (hfn:∃fn,P.funcs[f]? =some fn∧fn.body.isSome=true∧(fn.name== "runtime.NumGoroutine")=false)
  (hargs:∀(X:Cx) (γ:Gh) (w:World) (vals:List Value),RepL X γ w args vals→vals=us) (hval:∀(X:Cx) (γ:Gh) (w:World),Rep X γ w val rv)
  (h:∀(w:World),(∀b p,Pv.glob b=some p→∃o,w.heap[b]? =some o∧p o)→Calls P f us.toArray w fun ev w'=>ev= .returned rv∧Keeps (fun _=>False) w w'):
  PureCall P f args [] ⟨val, [], []⟩:=by
 refine ⟨hfn,fun w γ as_ ls vals hst hX hr=> ?_⟩
 have:=hargs _ _ _ _ hr
 subst this
 refine (h w fun b p hb=>(hst.glob b p hb).1).mono ?_
 rintro ev w' ⟨he,hk⟩
 have hnone:∀r,γ r=none:=fun r=>by
  have:=hst.dom r
  simpa using this
 have hno:∀b,¬γ.own b:=fun b ⟨r,ge,hr,_⟩=>by rw [hnone r] at hr;cases hr
 have hkeep:Keeps γ.own w w':=hk.mono fun k _ h=>h.elim
 refine ⟨rv,γ,he,hval _ _ _, ?_,hkeep,fun r hr=>by simp [parN,nbx] at hr,fun r ge b hr hb=>by rw [hnone r] at hr;cases hr⟩
 refine ⟨fun r=> ?_,fun r ge se hr hs=>(by rw [hnone r] at hr;cases hr),fun r r' ge ge' b hr=>(by rw [hnone r] at hr;cases hr),fun b hb=>absurd hb (hno b),fun b hb=>absurd hb (hno b), ?_⟩
 ·rw [hnone r];unfold resSt
  split<;>rfl
 ·exact glob_keep hst.glob (fun k hlt hn=>hkeep.block k hlt hn) fun b hb=> .inl hb
theorem pure_new2 {P:Program} {f:Nat} {args:List PV} {us:List Value} {e z n:Nat} {g:Nat→List PV} {vs:List Value}
  (hfn:∃fn,P.funcs[f]? =some fn∧fn.body.isSome=true∧(fn.name== "runtime.NumGoroutine")=false)
  (hargs:∀(X:Cx) (γ:Gh) (w:World) (vals:List Value),RepL X γ w args vals→vals=us) (hrows:∀(X:Cx) (γ:Gh) (w:World),RowsRep X γ w 0 z n g vs)
  (h:∀(w:World),(∀b p,Pv.glob b=some p→∃o,w.heap[b]? =some o∧p o)→
   Calls P f us.toArray w fun ev w'=>∃v',ev= .returned v'∧w'.ownsRow w.heap.size e z v' n vs∧Keeps (fun _=>False) w w'):
  PureCall P f args [] ⟨.os 1000000000, [], [.row 0 e z n g]⟩:=by
 refine ⟨hfn,fun w γ as_ ls vals hst hX hr=> ?_⟩
 have:=hargs _ _ _ _ hr
 subst this
 refine (h w fun b p hb=>(hst.glob b p hb).1).mono ?_
 rintro ev w' ⟨v',he,ho,hk⟩
 have ho0:OwnsG w' e z v' n vs:=OwnsG_of ho
 have hone:v'.oneCell'=true:=slice_one ho0
 have hblk:∀b,v'.ownBlock=some b→w.heap.size≤b∧b<w'.heap.size:=fun b hb=>by
  refine ⟨?_,own_lt' ho0 b hb⟩
  rcases ho.2 with ⟨h0,_⟩ | ⟨g,cap,cur,h0,h1,_⟩
  ·subst h0;cases hb
  ·subst h0;injection hb with hb;subst hb;exact h1
 have hnone:∀r,γ r=none:=fun r=>by
  have:=hst.dom r
  simpa using this
 refine ⟨v',fun r=>if r=1000000000 then some ⟨v'.ownBlock,v',z⟩ else none,he, .os _ ⟨v'.ownBlock,v',z⟩ (by simp) hone rfl, ?_,⟨hk.os,hk.tape,hk.output,hk.size,fun b hb _=>hk.block b hb (fun h=>h)⟩,fun r hr=>by simp [parN,nbx] at hr,fun r ge b hr hb=> ?_⟩
 ·refine ⟨fun r=> ?_,fun r ge se hr hs=> ?_,fun r r' ge ge' b hr hr' _ _=> ?_,fun b ⟨r,ge,hr,hb⟩=> ?_,fun b ⟨r,ge,hr,hb⟩=> ?_, ?_⟩
  rotate_right
  ·refine glob_keep hst.glob (fun b hlt _=>hk.block b hlt (fun h=>h)) (fun b ⟨r,ge,hr,hb⟩=> ?_)
   by_cases h:r=1000000000
   ·simp only [h,if_true,Option.some.injEq] at hr
    subst hr
    exact .inr (hblk b ((GE.has_row rfl).1 hb)).1
   ·simp only [h,if_false] at hr;cases hr
  ·by_cases h:r=1000000000
   ·subst h;simp [resSt,newBase]
   ·simp only [h,if_false,resSt]
    by_cases h2:newBase≤r
    ·have:1≤r - newBase:=by unfold newBase at *;omega
     rw [if_pos h2,List.getElem?_eq_none (by simpa using this)];rfl
    ·rw [if_neg h2];simp
  ·by_cases h:r=1000000000
   ·subst h
    simp only [if_true,Option.some.injEq] at hr
    subst hr
    simp [resSt,newBase] at hs
    subst hs
    exact (hrows _ _ _).repS rfl rfl hone ho0
   ·simp only [h,if_false] at hr;cases hr
  ·by_cases h:r=1000000000
   ·by_cases h':r'=1000000000
    ·rw [h,h']
    ·simp only [h',if_false] at hr';cases hr'
   ·simp only [h,if_false] at hr;cases hr
  ·by_cases h:r=1000000000
   ·simp only [h,if_true,Option.some.injEq] at hr
    subst hr
    have:=(hblk b ((GE.has_row rfl).1 hb)).1
    exact ⟨fun ha=>by have:=hX b (.inl ha);omega,fun ha=>by have:=hX b (.inr ha);omega⟩
   ·simp only [h,if_false] at hr;cases hr
  ·by_cases h:r=1000000000
   ·simp only [h,if_true,Option.some.injEq] at hr
    subst hr
    exact (hblk b ((GE.has_row rfl).1 hb)).2
   ·simp only [h,if_false] at hr;cases hr
 ·by_cases h:r=1000000000
  ·simp only [h,if_true,Option.some.injEq] at hr
   subst hr
   exact .inl (hblk b ((GE.has_row rfl).1 hb)).1
  ·simp only [h,if_false] at hr;cases hr
def eStr (s:List UInt8):List PV:= [.str s]
def strV (s:List UInt8):Value:= .string ⟨s.toArray⟩
theorem strs_rows {X:Cx} {γ:Gh} {w:World} (l:List (List UInt8)):RowsRep X γ w 0 1 l.length (fl eStr l) (l.map strV):=by
 refine ⟨by simp,fun u hu=> ?_,fun i hi=>rfl,fun i hi c hc=> ?_,fun i j c u hi hc hu=> ?_⟩
 ·obtain ⟨n,_,rfl⟩:=List.mem_map.1 hu;rfl
 ·have:c= .str (l.getD i default):=by simpa [fl,eStr] using hc
  subst this;rfl
 ·have hj:j=0:=by
    have:=(List.getElem?_eq_some_iff.1 hc).1
    simp [fl,eStr] at this;omega
  subst hj
  have:c= .str (l.getD i default):=by
   have h0:some (PV.str (l.getD i default))=some c:=hc
   injection h0 with h0;exact h0.symm
  subst this
  rw [Nat.mul_one,Nat.add_zero,List.getElem?_map,getD_some hi] at hu
  injection hu with hu;subst hu
  exact .str _
def splitC (c:UInt8):List UInt8→List (List UInt8)
 | []=> [[]]
 | x::xs=>if x=c then []::splitC c xs else match splitC c xs with
   | []=> [[x]]
   | h::t=>(x::h)::t
theorem splitC_len (c:UInt8):∀s:List UInt8,(splitC c s).length≤s.length+1∧∀x∈splitC c s,x.length≤s.length
 | []=>by simp [splitC]
 | x::xs=>by
   have ih:=splitC_len c xs
   unfold splitC
   split
   ·refine ⟨by simp;omega,fun y hy=> ?_⟩
    rcases List.mem_cons.1 hy with rfl | hy
    ·simp
    ·have:=ih.2 y hy;simp;omega
   ·split
    ·simp
    ·rename_i h t e
     rw [e] at ih
     refine ⟨by simp at ih⊢;omega,fun y hy=> ?_⟩
     rcases List.mem_cons.1 hy with rfl | hy
     ·have:=ih.2 h (by simp);simp;omega
     ·have:=ih.2 y (by simp [hy]);simp;omega
theorem index_cons_eq (c:UInt8) (l:List UInt8):Lib.index (c::l) [c]=0:=by rw [Lib.index];simp [List.isPrefixOf]
theorem index_cons_ne (b c:UInt8) (l:List UInt8) (h:b≠c):Lib.index (b::l) [c]=if Lib.index l [c]== -1 then -1 else Lib.index l [c]+1:=by
 have hp:([c]:List UInt8).isPrefixOf (b::l)=false:=by simp [List.isPrefixOf,Ne.symm h]
 rw [Lib.index,hp];simp
theorem splitK_C (c:UInt8):∀s:List UInt8,Lib.splitK [c] 0 (Lib.count s [c]) s=splitC c s
 | []=>by rw [Lib.count_one];rfl
 | b::l=>by
   have ih:=splitK_C c l
   have hge:=Lib.index_ge l [c]
   by_cases h:b=c
   ·subst h
    rw [Lib.count_cons_eq,Nat.add_comm,Lib.splitK,index_cons_eq]
    simp only [splitC,if_pos]
    have e:((0:Int)== -1)=false:=by decide
    rw [e]
    simpa using ih
   ·rw [Lib.count_cons_ne b c l h]
    unfold splitC
    rw [if_neg h,←ih]
    by_cases hm:Lib.index l [c]= -1
    ·rw [Lib.count_miss hm]
     rfl
    ·obtain ⟨j,hj⟩:∃j:Nat,Lib.index l [c]=j:=⟨(Lib.index l [c]).toNat,by omega⟩
     rw [Lib.count_hit (by simp) hj,Nat.add_comm,Lib.splitK,Lib.splitK,index_cons_ne b c l h,hj]
     have e1:((j:Int)== -1)=false:=beq_eq_false_iff_ne.2 (by omega)
     have e2:(((j:Int)+1)== -1)=false:=beq_eq_false_iff_ne.2 (by omega)
     have e3:((j:Int)+1).toNat=j+1:=by omega
     have e4:(j:Int).toNat=j:=by omega
     rw [e1]
     simp only [Bool.false_eq_true,if_false]
     rw [e2]
     simp only [Bool.false_eq_true,if_false,e3,e4,Nat.add_zero]
     simp [Nat.add_assoc,Nat.add_comm 1 1]
end Pv
namespace Sh
open Go.Shelf
def lays166_ren:Go.Shelf.Ren:=⟨fun | 166=>64 | 167=>66 | 240=>130 | 276=>189 | 169=>67 | n=>n,fun | 70=>167 | 72=>169 | 37=>92 | 75=>171 | 80=>178 | 164=>318 | 127=>263 | n=>n,fun | n=>n⟩
theorem lays166:Go.Proofs.Lays.n166 Tryz.prog lays166_ren:={
 mixed:=by kernel_rfl
 f166:=Tryz.func64.trans (congrArg some (by kernel_rfl))
 f240:=Tryz.func130.trans (congrArg some (by kernel_rfl))
 f276:=Tryz.func189.trans (congrArg some (by kernel_rfl))
 t0:=Tryz.underlying0
 a0:=Tryz.isAgg0
 z0:=Tryz.sizeOf0
 v0:=Tryz.zeroValue0
 t3:=Tryz.underlying3
 a3:=Tryz.isAgg3
 z3:=Tryz.sizeOf3
 v3:=Tryz.zeroValue3
 t4:=Tryz.underlying4
 a4:=Tryz.isAgg4
 z4:=Tryz.sizeOf4
 v4:=Tryz.zeroValue4
 t9:=Tryz.underlying9
 a9:=Tryz.isAgg9
 z9:=Tryz.sizeOf9
 v9:=Tryz.zeroValue9
 t20:=Tryz.underlying20
 a20:=Tryz.isAgg20
 z20:=Tryz.sizeOf20
 v20:=Tryz.zeroValue20
 t37:=Tryz.underlying92
 a37:=Tryz.isAgg92
 z37:=Tryz.sizeOf92
 v37:=Tryz.zeroValue92
 t70:=Tryz.underlying167
 a70:=Tryz.isAgg167
 z70:=Tryz.sizeOf167
 v70:=Tryz.zeroValue167
 t72:=Tryz.underlying169
 a72:=Tryz.isAgg169
 z72:=Tryz.sizeOf169
 v72:=Tryz.zeroValue169
 t75:=Tryz.underlying171
 a75:=Tryz.isAgg171
 z75:=Tryz.sizeOf171
 v75:=Tryz.zeroValue171
 t164:=Tryz.underlying318
 a164:=Tryz.isAgg318
 z164:=Tryz.sizeOf318
 v164:=Tryz.zeroValue318 }
def lays169_ren:Go.Shelf.Ren:=⟨fun | 166=>64 | 167=>66 | 240=>130 | 276=>189 | 169=>67 | n=>n,fun | 70=>167 | 72=>169 | 37=>92 | 75=>171 | 80=>178 | 164=>318 | 127=>263 | n=>n,fun | n=>n⟩
theorem lays169:Go.Proofs.Lays.n169 Tryz.prog lays169_ren:={
 mixed:=by kernel_rfl
 f169:=Tryz.func67.trans (congrArg some (by kernel_rfl))
 t0:=Tryz.underlying0
 a0:=Tryz.isAgg0
 z0:=Tryz.sizeOf0
 v0:=Tryz.zeroValue0
 t3:=Tryz.underlying3
 a3:=Tryz.isAgg3
 z3:=Tryz.sizeOf3
 v3:=Tryz.zeroValue3
 t9:=Tryz.underlying9
 a9:=Tryz.isAgg9
 z9:=Tryz.sizeOf9
 v9:=Tryz.zeroValue9
 t37:=Tryz.underlying92
 a37:=Tryz.isAgg92
 z37:=Tryz.sizeOf92
 v37:=Tryz.zeroValue92
 t70:=Tryz.underlying167
 a70:=Tryz.isAgg167
 z70:=Tryz.sizeOf167
 v70:=Tryz.zeroValue167
 t72:=Tryz.underlying169
 a72:=Tryz.isAgg169
 z72:=Tryz.sizeOf169
 v72:=Tryz.zeroValue169
 t127:=Tryz.underlying263
 a127:=Tryz.isAgg263
 z127:=Tryz.sizeOf263
 v127:=Tryz.zeroValue263 }
theorem bX_166:Go.Proofs.Builder.Extra Tryz.prog lays166_ren:={
 sizeBuilder:=by kernel_rfl
 liesBuilder:=by kernel_rfl
 t5:=Tryz.underlying5
 a5:=Tryz.isAgg5
 z5:=Tryz.sizeOf5
 v5:=Tryz.zeroValue5
 infoByte:=by kernel_rfl
 cellsByte:=by kernel_rfl
 sizeByte:=by kernel_rfl
 neB5:=by decide }
theorem bX_169:Go.Proofs.Builder.Extra Tryz.prog lays169_ren:={
 sizeBuilder:=by kernel_rfl
 liesBuilder:=by kernel_rfl
 t5:=Tryz.underlying5
 a5:=Tryz.isAgg5
 z5:=Tryz.sizeOf5
 v5:=Tryz.zeroValue5
 infoByte:=by kernel_rfl
 cellsByte:=by kernel_rfl
 sizeByte:=by kernel_rfl
 neB5:=by decide }
open Go.Shelf
def laysM171_ren:Go.Shelf.Ren:=⟨fun | 171=>65 | 243=>131 | 246=>190 | 283=>235 | 284=>236 | 285=>237 | 286=>238 | 129=>269 | 317=>281 | 318=>282 | 319=>283 | 320=>284 | 337=>317 | 338=>318 | n=>n,fun | 3=>3 | 9=>9 | 2=>2 | 4=>4 | 171=>371 | 0=>0 | 53=>372 | 37=>92 | 5=>5 | 173=>375 | 212=>411 | 51=>399 | 20=>20 | 213=>412 | 46=>201 | 232=>449 | 233=>450 | n=>n,fun | 17=>3 | 18=>7 | 19=>8 | n=>n⟩
theorem laysM171:Go.Proofs.LaysM.n171 Tryz.prog laysM171_ren:={
 mixed:=by kernel_rfl
 f129:=Tryz.func269.trans (congrArg some (by kernel_rfl))
 f171:=Tryz.func65.trans (congrArg some (by kernel_rfl))
 f243:=Tryz.func131.trans (congrArg some (by kernel_rfl))
 f246:=Tryz.func190.trans (congrArg some (by kernel_rfl))
 f283:=Tryz.func235.trans (congrArg some (by kernel_rfl))
 f284:=Tryz.func236.trans (congrArg some (by kernel_rfl))
 f285:=Tryz.func237.trans (congrArg some (by kernel_rfl))
 f286:=Tryz.func238.trans (congrArg some (by kernel_rfl))
 f317:=Tryz.func281.trans (congrArg some (by kernel_rfl))
 f318:=Tryz.func282.trans (congrArg some (by kernel_rfl))
 f319:=Tryz.func283.trans (congrArg some (by kernel_rfl))
 f320:=Tryz.func284.trans (congrArg some (by kernel_rfl))
 f337:=Tryz.func317.trans (congrArg some (by kernel_rfl))
 f338:=Tryz.func318.trans (congrArg some (by kernel_rfl))
 t0:=Tryz.underlying0
 a0:=Tryz.isAgg0
 z0:=Tryz.sizeOf0
 v0:=Tryz.zeroValue0
 t2:=Tryz.underlying2
 a2:=Tryz.isAgg2
 z2:=Tryz.sizeOf2
 v2:=Tryz.zeroValue2
 t3:=Tryz.underlying3
 a3:=Tryz.isAgg3
 z3:=Tryz.sizeOf3
 v3:=Tryz.zeroValue3
 t4:=Tryz.underlying4
 a4:=Tryz.isAgg4
 z4:=Tryz.sizeOf4
 v4:=Tryz.zeroValue4
 t5:=Tryz.underlying5
 a5:=Tryz.isAgg5
 z5:=Tryz.sizeOf5
 v5:=Tryz.zeroValue5
 t9:=Tryz.underlying9
 a9:=Tryz.isAgg9
 z9:=Tryz.sizeOf9
 v9:=Tryz.zeroValue9
 t20:=Tryz.underlying20
 a20:=Tryz.isAgg20
 z20:=Tryz.sizeOf20
 v20:=Tryz.zeroValue20
 t37:=Tryz.underlying92
 a37:=Tryz.isAgg92
 z37:=Tryz.sizeOf92
 v37:=Tryz.zeroValue92
 t46:=Tryz.underlying201
 a46:=Tryz.isAgg201
 z46:=Tryz.sizeOf201
 v46:=Tryz.zeroValue201
 t51:=Tryz.underlying399
 a51:=Tryz.isAgg399
 z51:=Tryz.sizeOf399
 v51:=Tryz.zeroValue399
 t53:=Tryz.underlying372
 a53:=Tryz.isAgg372
 z53:=Tryz.sizeOf372
 v53:=Tryz.zeroValue372
 t171:=Tryz.underlying371
 a171:=Tryz.isAgg371
 z171:=Tryz.sizeOf371
 v171:=Tryz.zeroValue371
 t173:=Tryz.underlying375
 a173:=Tryz.isAgg375
 z173:=Tryz.sizeOf375
 v173:=Tryz.zeroValue375
 t212:=Tryz.underlying411
 a212:=Tryz.isAgg411
 z212:=Tryz.sizeOf411
 v212:=Tryz.zeroValue411
 t213:=Tryz.underlying412
 a213:=Tryz.isAgg412
 z213:=Tryz.sizeOf412
 t232:=Tryz.underlying449
 a232:=Tryz.isAgg449
 z232:=Tryz.sizeOf449
 v232:=Tryz.zeroValue449
 t233:=Tryz.underlying450
 a233:=Tryz.isAgg450
 z233:=Tryz.sizeOf450
 v233:=Tryz.zeroValue450
 g17:=by kernel_rfl
 g18:=by kernel_rfl
 g19:=by kernel_rfl
 i0:=by kernel_rfl
 i2:=by kernel_rfl
 i3:=by kernel_rfl
 i4:=by kernel_rfl
 i5:=by kernel_rfl
 i9:=by kernel_rfl
 i20:=by kernel_rfl
 i37:=by kernel_rfl
 i46:=by kernel_rfl
 i51:=by kernel_rfl
 i53:=by kernel_rfl
 i171:=by kernel_rfl
 i173:=by kernel_rfl
 i212:=by kernel_rfl
 i232:=by kernel_rfl
 i233:=by kernel_rfl
 m17:=by kernel_rfl
 m18:=by kernel_rfl
 m19:=by kernel_rfl }
def lays146_ren:Go.Shelf.Ren:=⟨fun | 146=>132 | 221=>191 | 268=>239 | 138=>240 | 143=>241 | 195=>285 | 197=>286 | 218=>287 | 219=>288 | 260=>319 | 217=>320 | 225=>321 | 224=>322 | 267=>323 | 266=>335 | 314=>336 | n=>n,fun | 9=>9 | 31=>181 | 3=>3 | 4=>4 | 0=>0 | 105=>414 | 21=>21 | 5=>5 | 46=>201 | 119=>451 | 139=>454 | 138=>453 | 146=>455 | 51=>399 | n=>n,fun | 1=>4 | 3=>9 | 4=>10 | n=>n⟩
theorem lays146:Go.Proofs.Lays.n146 Tryz.prog lays146_ren:={
 mixed:=by kernel_rfl
 f138:=Tryz.func240.trans (congrArg some (by kernel_rfl))
 f143:=Tryz.func241.trans (congrArg some (by kernel_rfl))
 f146:=Tryz.func132.trans (congrArg some (by kernel_rfl))
 f195:=Tryz.func285.trans (congrArg some (by kernel_rfl))
 f197:=Tryz.func286.trans (congrArg some (by kernel_rfl))
 f217:=Tryz.func320.trans (congrArg some (by kernel_rfl))
 f218:=Tryz.func287.trans (congrArg some (by kernel_rfl))
 f219:=Tryz.func288.trans (congrArg some (by kernel_rfl))
 f221:=Tryz.func191.trans (congrArg some (by kernel_rfl))
 f224:=Tryz.func322.trans (congrArg some (by kernel_rfl))
 f225:=Tryz.func321.trans (congrArg some (by kernel_rfl))
 f260:=Tryz.func319.trans (congrArg some (by kernel_rfl))
 f266:=Tryz.func335.trans (congrArg some (by kernel_rfl))
 f267:=Tryz.func323.trans (congrArg some (by kernel_rfl))
 f268:=Tryz.func239.trans (congrArg some (by kernel_rfl))
 f314:=Tryz.func336.trans (congrArg some (by kernel_rfl))
 t0:=Tryz.underlying0
 a0:=Tryz.isAgg0
 z0:=Tryz.sizeOf0
 v0:=Tryz.zeroValue0
 t3:=Tryz.underlying3
 a3:=Tryz.isAgg3
 z3:=Tryz.sizeOf3
 v3:=Tryz.zeroValue3
 t4:=Tryz.underlying4
 a4:=Tryz.isAgg4
 z4:=Tryz.sizeOf4
 v4:=Tryz.zeroValue4
 t5:=Tryz.underlying5
 a5:=Tryz.isAgg5
 z5:=Tryz.sizeOf5
 v5:=Tryz.zeroValue5
 t9:=Tryz.underlying9
 a9:=Tryz.isAgg9
 z9:=Tryz.sizeOf9
 v9:=Tryz.zeroValue9
 t21:=Tryz.underlying21
 a21:=Tryz.isAgg21
 z21:=Tryz.sizeOf21
 v21:=Tryz.zeroValue21
 t31:=Tryz.underlying181
 a31:=Tryz.isAgg181
 z31:=Tryz.sizeOf181
 v31:=Tryz.zeroValue181
 t46:=Tryz.underlying201
 a46:=Tryz.isAgg201
 z46:=Tryz.sizeOf201
 v46:=Tryz.zeroValue201
 t51:=Tryz.underlying399
 a51:=Tryz.isAgg399
 z51:=Tryz.sizeOf399
 v51:=Tryz.zeroValue399
 t105:=Tryz.underlying414
 a105:=Tryz.isAgg414
 z105:=Tryz.sizeOf414
 v105:=Tryz.zeroValue414
 t119:=Tryz.underlying451
 a119:=Tryz.isAgg451
 z119:=Tryz.sizeOf451
 t138:=Tryz.underlying453
 a138:=Tryz.isAgg453
 z138:=Tryz.sizeOf453
 v138:=Tryz.zeroValue453
 t139:=Tryz.underlying454
 a139:=Tryz.isAgg454
 z139:=Tryz.sizeOf454
 v139:=Tryz.zeroValue454
 t146:=Tryz.underlying455
 a146:=Tryz.isAgg455
 z146:=Tryz.sizeOf455
 v146:=Tryz.zeroValue455
 g1:=by kernel_rfl
 g3:=by kernel_rfl
 g4:=by kernel_rfl }
def lays229_ren:Go.Shelf.Ren:=⟨fun | 229=>149 | n=>n,fun | 9=>9 | 40=>282 | 31=>181 | 152=>329 | 3=>3 | 0=>0 | 4=>4 | 21=>21 | 154=>331 | n=>n,fun | n=>n⟩
theorem lays229:Go.Proofs.Lays.n229 Tryz.prog lays229_ren:={
 mixed:=by kernel_rfl
 f229:=Tryz.func149.trans (congrArg some (by kernel_rfl))
 t0:=Tryz.underlying0
 a0:=Tryz.isAgg0
 z0:=Tryz.sizeOf0
 v0:=Tryz.zeroValue0
 t3:=Tryz.underlying3
 a3:=Tryz.isAgg3
 z3:=Tryz.sizeOf3
 v3:=Tryz.zeroValue3
 t4:=Tryz.underlying4
 a4:=Tryz.isAgg4
 z4:=Tryz.sizeOf4
 v4:=Tryz.zeroValue4
 t9:=Tryz.underlying9
 a9:=Tryz.isAgg9
 z9:=Tryz.sizeOf9
 v9:=Tryz.zeroValue9
 t21:=Tryz.underlying21
 a21:=Tryz.isAgg21
 z21:=Tryz.sizeOf21
 v21:=Tryz.zeroValue21
 t31:=Tryz.underlying181
 a31:=Tryz.isAgg181
 z31:=Tryz.sizeOf181
 v31:=Tryz.zeroValue181
 t40:=Tryz.underlying282
 a40:=Tryz.isAgg282
 z40:=Tryz.sizeOf282
 v40:=Tryz.zeroValue282
 t152:=Tryz.underlying329
 a152:=Tryz.isAgg329
 z152:=Tryz.sizeOf329
 v152:=Tryz.zeroValue329
 t154:=Tryz.underlying331
 a154:=Tryz.isAgg331
 z154:=Tryz.sizeOf331
 v154:=Tryz.zeroValue331 }
def lays160_ren:Go.Shelf.Ren:=⟨fun | 160=>193 | 232=>243 | 231=>242 | 227=>244 | 234=>246 | 233=>245 | 236=>248 | 235=>247 | 228=>289 | 271=>291 | 151=>290 | 197=>286 | 120=>325 | 152=>324 | 260=>319 | 137=>337 | 119=>338 | 224=>322 | 225=>321 | 217=>320 | 266=>335 | n=>n,fun | 9=>9 | 4=>4 | 3=>3 | 5=>5 | 117=>382 | 116=>381 | 0=>0 | 124=>385 | 21=>21 | 105=>414 | 46=>201 | 119=>451 | 139=>454 | 138=>453 | n=>n,fun | 3=>9 | 4=>10 | n=>n⟩
theorem lays160:Go.Proofs.Lays.n160 Tryz.prog lays160_ren:={
 mixed:=by kernel_rfl
 f119:=Tryz.func338.trans (congrArg some (by kernel_rfl))
 f120:=Tryz.func325.trans (congrArg some (by kernel_rfl))
 f137:=Tryz.func337.trans (congrArg some (by kernel_rfl))
 f151:=Tryz.func290.trans (congrArg some (by kernel_rfl))
 f152:=Tryz.func324.trans (congrArg some (by kernel_rfl))
 f160:=Tryz.func193.trans (congrArg some (by kernel_rfl))
 f197:=Tryz.func286.trans (congrArg some (by kernel_rfl))
 f217:=Tryz.func320.trans (congrArg some (by kernel_rfl))
 f224:=Tryz.func322.trans (congrArg some (by kernel_rfl))
 f225:=Tryz.func321.trans (congrArg some (by kernel_rfl))
 f227:=Tryz.func244.trans (congrArg some (by kernel_rfl))
 f228:=Tryz.func289.trans (congrArg some (by kernel_rfl))
 f231:=Tryz.func242.trans (congrArg some (by kernel_rfl))
 f232:=Tryz.func243.trans (congrArg some (by kernel_rfl))
 f233:=Tryz.func245.trans (congrArg some (by kernel_rfl))
 f234:=Tryz.func246.trans (congrArg some (by kernel_rfl))
 f235:=Tryz.func247.trans (congrArg some (by kernel_rfl))
 f236:=Tryz.func248.trans (congrArg some (by kernel_rfl))
 f260:=Tryz.func319.trans (congrArg some (by kernel_rfl))
 f266:=Tryz.func335.trans (congrArg some (by kernel_rfl))
 f271:=Tryz.func291.trans (congrArg some (by kernel_rfl))
 t0:=Tryz.underlying0
 a0:=Tryz.isAgg0
 z0:=Tryz.sizeOf0
 v0:=Tryz.zeroValue0
 t3:=Tryz.underlying3
 a3:=Tryz.isAgg3
 z3:=Tryz.sizeOf3
 v3:=Tryz.zeroValue3
 t4:=Tryz.underlying4
 a4:=Tryz.isAgg4
 z4:=Tryz.sizeOf4
 v4:=Tryz.zeroValue4
 t5:=Tryz.underlying5
 a5:=Tryz.isAgg5
 z5:=Tryz.sizeOf5
 v5:=Tryz.zeroValue5
 t9:=Tryz.underlying9
 a9:=Tryz.isAgg9
 z9:=Tryz.sizeOf9
 v9:=Tryz.zeroValue9
 t21:=Tryz.underlying21
 a21:=Tryz.isAgg21
 z21:=Tryz.sizeOf21
 v21:=Tryz.zeroValue21
 t46:=Tryz.underlying201
 a46:=Tryz.isAgg201
 z46:=Tryz.sizeOf201
 v46:=Tryz.zeroValue201
 t105:=Tryz.underlying414
 a105:=Tryz.isAgg414
 z105:=Tryz.sizeOf414
 v105:=Tryz.zeroValue414
 t116:=Tryz.underlying381
 a116:=Tryz.isAgg381
 z116:=Tryz.sizeOf381
 t117:=Tryz.underlying382
 a117:=Tryz.isAgg382
 z117:=Tryz.sizeOf382
 v117:=Tryz.zeroValue382
 t119:=Tryz.underlying451
 a119:=Tryz.isAgg451
 z119:=Tryz.sizeOf451
 t124:=Tryz.underlying385
 a124:=Tryz.isAgg385
 z124:=Tryz.sizeOf385
 v124:=Tryz.zeroValue385
 t138:=Tryz.underlying453
 a138:=Tryz.isAgg453
 z138:=Tryz.sizeOf453
 v138:=Tryz.zeroValue453
 t139:=Tryz.underlying454
 a139:=Tryz.isAgg454
 z139:=Tryz.sizeOf454
 v139:=Tryz.zeroValue454
 g3:=by kernel_rfl
 g4:=by kernel_rfl }
def lays172_ren:Go.Shelf.Ren:=⟨fun | 172=>194 | 244=>249 | 245=>250 | 247=>292 | 279=>293 | 280=>294 | 281=>295 | 282=>296 | 287=>326 | 316=>327 | 171=>65 | 205=>328 | 321=>339 | 322=>340 | 243=>131 | 246=>190 | 283=>235 | 284=>236 | 285=>237 | 286=>238 | 129=>269 | 317=>281 | 318=>282 | 319=>283 | 320=>284 | 337=>317 | 338=>318 | n=>n,fun | 9=>9 | 3=>3 | 75=>171 | 76=>172 | 4=>4 | 5=>5 | 167=>419 | 37=>92 | 0=>0 | 85=>420 | 2=>2 | 168=>422 | 53=>372 | 175=>438 | 46=>201 | 210=>442 | 127=>263 | 145=>461 | 143=>459 | 21=>21 | 171=>371 | 173=>375 | 212=>411 | 51=>399 | 20=>20 | 213=>412 | 232=>449 | 233=>450 | 80=>178 | n=>n,fun | 15=>5 | 16=>6 | 17=>3 | 18=>7 | 19=>8 | n=>n⟩
theorem lays172:Go.Proofs.Lays.n172 Tryz.prog lays172_ren:={
 mixed:=by kernel_rfl
 f129:=Tryz.func269.trans (congrArg some (by kernel_rfl))
 f171:=Tryz.func65.trans (congrArg some (by kernel_rfl))
 f172:=Tryz.func194.trans (congrArg some (by kernel_rfl))
 f205:=Tryz.func328.trans (congrArg some (by kernel_rfl))
 f243:=Tryz.func131.trans (congrArg some (by kernel_rfl))
 f244:=Tryz.func249.trans (congrArg some (by kernel_rfl))
 f245:=Tryz.func250.trans (congrArg some (by kernel_rfl))
 f246:=Tryz.func190.trans (congrArg some (by kernel_rfl))
 f247:=Tryz.func292.trans (congrArg some (by kernel_rfl))
 f279:=Tryz.func293.trans (congrArg some (by kernel_rfl))
 f280:=Tryz.func294.trans (congrArg some (by kernel_rfl))
 f281:=Tryz.func295.trans (congrArg some (by kernel_rfl))
 f282:=Tryz.func296.trans (congrArg some (by kernel_rfl))
 f283:=Tryz.func235.trans (congrArg some (by kernel_rfl))
 f284:=Tryz.func236.trans (congrArg some (by kernel_rfl))
 f285:=Tryz.func237.trans (congrArg some (by kernel_rfl))
 f286:=Tryz.func238.trans (congrArg some (by kernel_rfl))
 f287:=Tryz.func326.trans (congrArg some (by kernel_rfl))
 f316:=Tryz.func327.trans (congrArg some (by kernel_rfl))
 f317:=Tryz.func281.trans (congrArg some (by kernel_rfl))
 f318:=Tryz.func282.trans (congrArg some (by kernel_rfl))
 f319:=Tryz.func283.trans (congrArg some (by kernel_rfl))
 f320:=Tryz.func284.trans (congrArg some (by kernel_rfl))
 f321:=Tryz.func339.trans (congrArg some (by kernel_rfl))
 f322:=Tryz.func340.trans (congrArg some (by kernel_rfl))
 f337:=Tryz.func317.trans (congrArg some (by kernel_rfl))
 f338:=Tryz.func318.trans (congrArg some (by kernel_rfl))
 t0:=Tryz.underlying0
 a0:=Tryz.isAgg0
 z0:=Tryz.sizeOf0
 v0:=Tryz.zeroValue0
 t2:=Tryz.underlying2
 a2:=Tryz.isAgg2
 z2:=Tryz.sizeOf2
 v2:=Tryz.zeroValue2
 t3:=Tryz.underlying3
 a3:=Tryz.isAgg3
 z3:=Tryz.sizeOf3
 v3:=Tryz.zeroValue3
 t4:=Tryz.underlying4
 a4:=Tryz.isAgg4
 z4:=Tryz.sizeOf4
 v4:=Tryz.zeroValue4
 t5:=Tryz.underlying5
 a5:=Tryz.isAgg5
 z5:=Tryz.sizeOf5
 v5:=Tryz.zeroValue5
 t9:=Tryz.underlying9
 a9:=Tryz.isAgg9
 z9:=Tryz.sizeOf9
 v9:=Tryz.zeroValue9
 t20:=Tryz.underlying20
 a20:=Tryz.isAgg20
 z20:=Tryz.sizeOf20
 v20:=Tryz.zeroValue20
 t21:=Tryz.underlying21
 a21:=Tryz.isAgg21
 z21:=Tryz.sizeOf21
 v21:=Tryz.zeroValue21
 t37:=Tryz.underlying92
 a37:=Tryz.isAgg92
 z37:=Tryz.sizeOf92
 v37:=Tryz.zeroValue92
 t46:=Tryz.underlying201
 a46:=Tryz.isAgg201
 z46:=Tryz.sizeOf201
 v46:=Tryz.zeroValue201
 t51:=Tryz.underlying399
 a51:=Tryz.isAgg399
 z51:=Tryz.sizeOf399
 v51:=Tryz.zeroValue399
 t53:=Tryz.underlying372
 a53:=Tryz.isAgg372
 z53:=Tryz.sizeOf372
 v53:=Tryz.zeroValue372
 t75:=Tryz.underlying171
 a75:=Tryz.isAgg171
 z75:=Tryz.sizeOf171
 v75:=Tryz.zeroValue171
 t76:=Tryz.underlying172
 a76:=Tryz.isAgg172
 z76:=Tryz.sizeOf172
 v76:=Tryz.zeroValue172
 t85:=Tryz.underlying420
 a85:=Tryz.isAgg420
 z85:=Tryz.sizeOf420
 v85:=Tryz.zeroValue420
 t127:=Tryz.underlying263
 a127:=Tryz.isAgg263
 z127:=Tryz.sizeOf263
 v127:=Tryz.zeroValue263
 t143:=Tryz.underlying459
 a143:=Tryz.isAgg459
 z143:=Tryz.sizeOf459
 v143:=Tryz.zeroValue459
 t145:=Tryz.underlying461
 a145:=Tryz.isAgg461
 z145:=Tryz.sizeOf461
 v145:=Tryz.zeroValue461
 t167:=Tryz.underlying419
 a167:=Tryz.isAgg419
 z167:=Tryz.sizeOf419
 v167:=Tryz.zeroValue419
 t168:=Tryz.underlying422
 a168:=Tryz.isAgg422
 z168:=Tryz.sizeOf422
 v168:=Tryz.zeroValue422
 t171:=Tryz.underlying371
 a171:=Tryz.isAgg371
 z171:=Tryz.sizeOf371
 v171:=Tryz.zeroValue371
 t173:=Tryz.underlying375
 a173:=Tryz.isAgg375
 z173:=Tryz.sizeOf375
 v173:=Tryz.zeroValue375
 t175:=Tryz.underlying438
 a175:=Tryz.isAgg438
 z175:=Tryz.sizeOf438
 v175:=Tryz.zeroValue438
 t210:=Tryz.underlying442
 a210:=Tryz.isAgg442
 z210:=Tryz.sizeOf442
 v210:=Tryz.zeroValue442
 t212:=Tryz.underlying411
 a212:=Tryz.isAgg411
 z212:=Tryz.sizeOf411
 v212:=Tryz.zeroValue411
 t213:=Tryz.underlying412
 a213:=Tryz.isAgg412
 z213:=Tryz.sizeOf412
 t232:=Tryz.underlying449
 a232:=Tryz.isAgg449
 z232:=Tryz.sizeOf449
 v232:=Tryz.zeroValue449
 t233:=Tryz.underlying450
 a233:=Tryz.isAgg450
 z233:=Tryz.sizeOf450
 v233:=Tryz.zeroValue450
 g15:=by kernel_rfl
 g16:=by kernel_rfl
 g17:=by kernel_rfl
 g18:=by kernel_rfl
 g19:=by kernel_rfl }
open Go.RowKit Go.Sort Go.Lib in
theorem strconv_Itoa (n:Int) (h0: -9223372036854775808≤n) (h1:n≤9223372036854775807) (w:World) (htab:Lib.TabIs Tryz.prog w "internal/strconv.uint64pow10" .u64 Lib.pow10Tab):
 Calls Tryz.prog 65 #[.int .i64 n] w fun e w'=>e= .returned (.string ⟨(Lib.itoa n).toArray⟩)∧∃k os,w'=grow (w.drewN k) os:=Any.strconv_Itoa laysM171 n h0 h1 w htab
open Go.RowKit Go.Lib in
theorem strings_Split (s sep:ByteArray) (m:Int) (w:World) (hs:s.size<4294967281) (hm:w.cell? ⟨4,0,none⟩=some (.int .i64 m)) (h1:1≤sep.size):
 Calls Tryz.prog 132 #[.string s, .string sep] w fun e w'=>
  e= .returned (.slice (some ⟨w.heap.size,0,none⟩) (Lib.countB s sep+1) (Lib.countB s sep+1))∧w'=w.alloc (.cells ((Lib.splitB sep 0 (Lib.countB s sep) s).map Value.string).toArray 9):=Any.strings_Split lays146 (by kernel_rfl) s sep m w hs hm h1
open Go.RowKit Go.Lib in
theorem strings_FieldsFunc (g:Nat) (lb:Array Value) (eg:∀args w,(callFunc g args).run Tryz.prog w= .ok (.enter g args) w) (p:Nat→Bool) (s:ByteArray) (w:World) (hs:s.size≤4294967296) (hp:PredAt Tryz.prog g lb encR p w):
 Calls Tryz.prog 149 #[.string s, .func (.func g) #[] lb] w fun e w'=>∃A,e= .returned (.slice (some ⟨A,0,none⟩) (Lib.goFieldsP p s).length (Lib.goFieldsP p s).length)∧w.heap.size≤A∧
  w'.ownsRow w.heap.size 9 1 (.slice (some ⟨A,0,none⟩) (Lib.goFieldsP p s).length (Lib.goFieldsP p s).length) (Lib.goFieldsP p s).length ((Lib.goFieldsP p s).map Value.string)∧Below w.heap.size w w':=Any.strings_FieldsFunc lays229 g lb eg p s w hs hp (by kernel_rfl) (by kernel_rfl)
open Go.RowKit in
theorem strconv_Atoi (s:ByteArray) (n:Int) (hl:s.size≤18) (h:Lib.atoi s.data.toList=some n) (w:World):
 Calls Tryz.prog 194 #[.string s] w fun e w'=>e= .returned (.tuple #[.int .i64 n, .nilIface])∧∃t,w'=Lib.bytesWorld w 5 t:=Any.strconv_Atoi lays172 s n hl h w
end Sh
namespace Pv
open Go.Lib
def splitP (p:UInt8→Bool):List UInt8→List (List UInt8)
 | []=> [[]]
 | x::xs=>if p x=true then []::splitP p xs else match splitP p xs with
   | []=> [[x]]
   | h::t=>(x::h)::t
def wordsB (p:UInt8→Bool) (l:List UInt8):List (List UInt8):=(splitP p l).filter fun x=> !x.isEmpty
def isBl (b:UInt8):Bool:=b==32 || b==10
theorem isBl_iff (b:UInt8):isBl b=true↔b=32∨b=10:=by simp [isBl]
theorem isBl_not {b:UInt8} (h:¬(b=32∨b=10)):isBl b=false:=by
 cases hb:isBl b with
 | false=>rfl
 | true=>exact absurd ((isBl_iff b).1 hb) h
theorem splitP_sep (p:UInt8→Bool):∀(u:List UInt8) (c:UInt8) (t:List UInt8),(∀x∈u,p x=false)→p c=true→splitP p (u++c::t)=u::splitP p t
 | [],c,t,_,hc=>by simp [splitP,hc]
 | x::u,c,t,hu,hc=>by
   have ih:=splitP_sep p u c t (fun y hy=>hu y (List.mem_cons_of_mem _ hy)) hc
   have hx:=hu x (List.mem_cons_self ..)
   simp [splitP,hx,ih]
theorem splitP_none (p:UInt8→Bool):∀(u:List UInt8),(∀x∈u,p x=false)→splitP p u= [u]
 | [],_=>rfl
 | x::u,hu=>by
   have ih:=splitP_none p u fun y hy=>hu y (List.mem_cons_of_mem _ hy)
   have hx:=hu x (List.mem_cons_self ..)
   simp [splitP,hx,ih]
theorem words_sep {p:UInt8→Bool} {u:List UInt8} {c:UInt8} {t:List UInt8} (hu:∀x∈u,p x=false) (h0:u≠ []) (hc:p c=true):wordsB p (u++c::t)=u::wordsB p t:=by
 unfold wordsB
 rw [splitP_sep p u c t hu hc,List.filter_cons_of_pos (by simp [h0])]
theorem words_blank {p:UInt8→Bool} {c:UInt8} {t:List UInt8} (hc:p c=true):wordsB p (c::t)=wordsB p t:=by
 unfold wordsB
 rw [show c::t= []++c::t from rfl,splitP_sep p [] c t (by simp) hc,List.filter_cons_of_neg (by simp)]
theorem words_none {p:UInt8→Bool} {u:List UInt8} (hu:∀x∈u,p x=false) (h0:u≠ []):wordsB p u= [u]:=by
 unfold wordsB
 rw [splitP_none p u hu,List.filter_cons_of_pos (by simp [h0]),List.filter_nil]
theorem words_nil (p:UInt8→Bool):wordsB p []= []:=rfl
theorem blank_rune (l:List UInt8) (hne:l≠ []) (h:(decodeL l).1=32∨(decodeL l).1=10):(decodeL l).2=1∧(l.getD 0 0=32∨l.getD 0 0=10):=by
 rw [decodeL_N] at h⊢
 have h0:=UInt8.toNat_lt (l.getD 0 0)
 have key:∀n b0 b1 b2 b3:Nat,((decodeN n b0 b1 b2 b3).1=32→(decodeN n b0 b1 b2 b3).2=1∧b0=32)∧((decodeN n b0 b1 b2 b3).1=10→(decodeN n b0 b1 b2 b3).2=1∧b0=10):=by
  intro n b0 b1 b2 b3
  unfold decodeN
  repeat' split
  all_goals (refine ⟨fun h=> ?_,fun h=> ?_⟩<;>dsimp only at h⊢<;>omega)
 rcases h with h | h
 ·obtain ⟨k1,k2⟩:=(key _ _ _ _ _).1 h
  exact ⟨k1, .inl (UInt8.toNat_inj.1 k2)⟩
 ·obtain ⟨k1,k2⟩:=(key _ _ _ _ _).2 h
  exact ⟨k1, .inr (UInt8.toNat_inj.1 k2)⟩
theorem other_rune (l:List UInt8) (hne:l≠ []) (h:¬((decodeL l).1=32∨(decodeL l).1=10)):1≤(decodeL l).2∧(decodeL l).2≤l.length∧∀j,j<(decodeL l).2→¬(l.getD j 0=32∨l.getD j 0=10):=by
 have hl:0<l.length:=List.length_pos_iff.2 hne
 have hc:=decodeN_conts l.length (l.getD 0 0).toNat (l.getD 1 0).toNat (l.getD 2 0).toNat (l.getD 3 0).toNat
 have ha:(l.getD 0 0=32∨l.getD 0 0=10)→((decodeL l).1=32∨(decodeL l).1=10):=fun e=>by
  rw [decodeL_N]
  rcases e with e | e
  ·rw [e,show (32:UInt8).toNat=32 from rfl]
   exact .inl (by unfold decodeN;rfl)
  ·rw [e,show (10:UInt8).toNat=10 from rfl]
   exact .inr (by unfold decodeN;rfl)
 rw [←decodeL_N] at hc
 obtain ⟨c2,c3,c4,c5⟩:=hc
 have hw:=decodeL_width l
 refine ⟨hw,by omega,fun j hj e=> ?_⟩
 have hlow:∀b:UInt8,(b=32∨b=10)→b.toNat≤32:=fun b hb=>by
  rcases hb with rfl | rfl<;>decide
 have hle:=hlow _ e
 match j,hj,e,hle with
 | 0,_,e,_=>exact h (ha e)
 | 1,hj,e,hle=>have:=(c2 (by omega)).1;omega
 | 2,hj,e,hle=>have:=(c3 (by omega)).1;omega
 | 3,hj,e,hle=>have:=(c4 (by omega)).1;omega
 | j+4,hj,_,_=>omega
def pcs (l:List UInt8) (acc:List (Nat×Nat)):List (List UInt8):=acc.map fun x=>(l.take x.2).drop x.1
theorem spans_words (l:List UInt8):∀(f pos:Nat) (st:Option Nat) (acc:List (Nat×Nat)),pos≤l.length→l.length≤f+pos→(∀a,st=some a→a<pos∧∀j,a≤j→j<pos→¬(l.getD j 0=32∨l.getD j 0=10))→
  pcs l (closeSpans ⟨l.toArray⟩ (spansFromP (fun r=>decide ((r:Int)=32∨(r:Int)=10)) ⟨l.toArray⟩ f pos st acc))=pcs l acc++wordsB isBl (l.drop (st.getD pos)):=by
 intro f
 have hsz:(⟨l.toArray⟩:ByteArray).size=l.length:=rfl
 have hfin:∀(st:Option Nat) (acc:List (Nat×Nat)),(∀a,st=some a→a<l.length∧∀j,a≤j→j<l.length→¬(l.getD j 0=32∨l.getD j 0=10))→pcs l (closeSpans ⟨l.toArray⟩ (acc,st))=pcs l acc++wordsB isBl (l.drop (st.getD l.length)):=by
  intro st acc hst
  cases st with
  | none=>simp [closeSpans,words_nil]
  | some a=>
    obtain ⟨h1,h2⟩:=hst a rfl
    have hne:l.drop a≠ []:=by
     intro h0
     have:=congrArg List.length h0
     rw [List.length_drop] at this
     simp at this;omega
    have hno:∀x∈l.drop a,isBl x=false:=fun x hx=>by
     obtain ⟨k,hk⟩:=List.getElem?_of_mem hx
     rw [List.getElem?_drop] at hk
     have hlt:=(List.getElem?_eq_some_iff.1 hk).1
     have:=h2 (a+k) (by omega) hlt
     simp only [List.getD,hk,Option.getD_some] at this
     exact isBl_not this
    simp only [Option.getD_some]
    rw [words_none hno hne]
    simp [closeSpans,pcs,hsz]
 induction f with
 | zero=>
   intro pos st acc hp hf hst
   have:pos=l.length:=by omega
   subst this
   exact hfin st acc hst
 | succ f ih=>
   intro pos st acc hp hf hst
   by_cases hlt:pos<l.length
   ·have hd:=decodeL_drop ⟨l.toArray⟩ pos
    have hdt:(⟨l.toArray⟩:ByteArray).data.toList=l:=rfl
    rw [hdt] at hd
    have hne:l.drop pos≠ []:=by
     intro h0
     have:=congrArg List.length h0
     rw [List.length_drop] at this
     simp at this;omega
    unfold spansFromP
    rw [hsz,if_pos hlt,←hd]
    have hcons:l.drop pos=l.getD pos 0::l.drop (pos+1):=by
     rw [List.drop_eq_getElem_cons hlt];simp [List.getD,hlt]
    by_cases hr:(decodeL (l.drop pos)).1=32∨(decodeL (l.drop pos)).1=10
    ·obtain ⟨hk,hb⟩:=blank_rune _ hne hr
     have hb':l.getD pos 0=32∨l.getD pos 0=10:=by rw [getD_dropU] at hb;simpa using hb
     have hbl:isBl (l.getD pos 0)=true:=(isBl_iff _).2 hb'
     rw [if_pos (decide_eq_true (by omega)),hk]
     cases st with
     | none=>
       show pcs l (closeSpans _ (spansFromP _ _ f (pos+1) none acc))=_
       rw [ih (pos+1) none acc hlt (by omega) (fun a h=>by cases h)]
       simp only [Option.getD_none]
       rw [hcons,words_blank hbl]
     | some a=>
       obtain ⟨h1,h2⟩:=hst a rfl
       show pcs l (closeSpans _ (spansFromP _ _ f (pos+1) none (acc++ [(a,pos)])))=_
       rw [ih (pos+1) none _ hlt (by omega) (fun a h=>by cases h)]
       simp only [Option.getD_none,Option.getD_some]
       have hsplit:l.drop a=(l.take pos).drop a++l.getD pos 0::l.drop (pos+1):=by
        rw [←hcons]
        have e:l=l.take pos++l.drop pos:=(List.take_append_drop pos l).symm
        have:l.drop a=(l.take pos++l.drop pos).drop a:=by rw [←e]
        rw [this,List.drop_append_of_le_length (by rw [List.length_take];omega)]
       have hno:∀x∈(l.take pos).drop a,isBl x=false:=fun x hx=>by
        obtain ⟨k,hk⟩:=List.getElem?_of_mem hx
        rw [List.getElem?_drop,List.getElem?_take] at hk
        split at hk
        ·have:=h2 (a+k) (by omega) (by omega)
         simp only [List.getD,hk,Option.getD_some] at this
         exact isBl_not this
        ·cases hk
       have hne2:(l.take pos).drop a≠ []:=by
        intro h0
        have:=congrArg List.length h0
        rw [List.length_drop,List.length_take] at this
        simp at this;omega
       rw [hsplit,words_sep hno hne2 hbl]
       simp [pcs]
    ·obtain ⟨k1,k2,k3⟩:=other_rune _ hne hr
     rw [List.length_drop] at k2
     have k3':∀j,pos≤j→j<pos+(decodeL (l.drop pos)).2→¬(l.getD j 0=32∨l.getD j 0=10):=fun j h1 h2=>by
      have:=k3 (j - pos) (by omega)
      rw [getD_dropU,show pos+(j - pos)=j by omega] at this
      exact this
     rw [if_neg (fun hd=>hr (by have:=of_decide_eq_true hd;omega))]
     cases st with
     | none=>
       show pcs l (closeSpans _ (spansFromP _ _ f (pos+(decodeL (l.drop pos)).2) (some pos) acc))=_
       rw [ih _ (some pos) acc (by omega) (by omega) (fun a h=>by injection h with h;subst h;exact ⟨by omega,k3'⟩)]
       rfl
     | some a=>
       obtain ⟨h1,h2⟩:=hst a rfl
       show pcs l (closeSpans _ (spansFromP _ _ f (pos+(decodeL (l.drop pos)).2) (some a) acc))=_
       rw [ih _ (some a) acc (by omega) (by omega) (fun a' h=>by
        injection h with h;subst h
        refine ⟨by omega,fun j g1 g2=> ?_⟩
        by_cases e:j<pos
        ·exact h2 j g1 e
        ·exact k3' j (by omega) g2)]
       rfl
   ·have:pos=l.length:=by omega
    subst this
    rw [spansFromP_end _ _ _ _ _ _ (by rw [hsz];omega)]
    exact hfin st acc hst
theorem fields_words (s:List UInt8):(goFieldsP (fun r=>decide ((r:Int)=32∨(r:Int)=10)) ⟨s.toArray⟩).map (fun x=>x.data.toList)=wordsB isBl s:=by
 have h:=spans_words s s.length 0 none [] (Nat.zero_le _) (Nat.le_refl _) (fun a h=>by cases h)
 simp only [Option.getD_none,List.drop_zero] at h
 have e:pcs s []++wordsB isBl s=wordsB isBl s:=rfl
 rw [e] at h
 rw [←h]
 unfold goFieldsP spansOfP pcs
 rw [List.map_map]
 refine List.map_congr_left fun x _=> ?_
 show ((⟨s.toArray⟩:ByteArray).extract x.1 x.2).data.toList=_
 simp [List.extract,List.drop_take]
open Go.RowKit
theorem args_nil (X:Cx) (γ:Gh) (w:World) (vals:List Value) (h:RepL X γ w [] vals):vals= []:=h.nil_inv
theorem args_str (s:List UInt8) (X:Cx) (γ:Gh) (w:World) (vals:List Value) (h:RepL X γ w [.str s] vals):vals= [strV s]:=by
 obtain ⟨v,us,rfl,hv,hus⟩:=h.cons_inv
 rw [hv.str_inv,hus.nil_inv];rfl
theorem args_str2 (s t:List UInt8) (X:Cx) (γ:Gh) (w:World) (vals:List Value) (h:RepL X γ w [.str s, .str t] vals):vals= [strV s,strV t]:=by
 obtain ⟨v,us,rfl,hv,hus⟩:=h.cons_inv
 rw [hv.str_inv,args_str t X γ w us hus];rfl
theorem args_int (k:IntKind) (n:Int) (X:Cx) (γ:Gh) (w:World) (vals:List Value) (h:RepL X γ w [.int k n] vals):vals= [.int k n]:=by
 obtain ⟨v,us,rfl,hv,hus⟩:=h.cons_inv
 rw [hv.int_inv,hus.nil_inv]
theorem rep_tup1 (n:Int) (X:Cx) (γ:Gh) (w:World):Rep X γ w (.tup [.int .i64 n, .raw .nilIface]) (.tuple #[.int .i64 n, .nilIface]):=by
 refine .tup _ [.int .i64 n, .nilIface] rfl fun k c u hc hu=> ?_
 match k,hc,hu with
 | 0,hc,hu=>injection hc with hc;injection hu with hu;subst hc;subst hu;exact .int _ _
 | 1,hc,hu=>injection hc with hc;injection hu with hu;subst hc;subst hu;exact .raw _ rfl
 | k+2,hc,hu=>simp at hc
theorem call64 (s x:List UInt8) (h:s.length+x.length≤140737488355328):PureCall Tryz.prog 64 [.pt 0 0 0, .str x] [.bld 169 5 s] ⟨.tup [.int .i64 x.length, .raw .nilIface], [.bld 169 5 (s++x)], []⟩:=
 pure_bld ⟨_,Tryz.func64,rfl,rfl⟩ (args_str x) (rep_tup1 x.length) fun w b p v hp hH=>
  (held_string Sh.lays166 Sh.bX_166 hp hH x h).mono fun ev w' ⟨he,v',h1,h2,h3⟩=>⟨he,self b,v', .inr rfl,h1,h2,h3⟩
theorem call67 (s:List UInt8) (h:s≠ []):PureCall Tryz.prog 67 [.pt 0 0 0] [.bld 169 5 s] ⟨.str s, [.bld 169 5 s], []⟩:=
 pure_bld ⟨_,Tryz.func67,rfl,rfl⟩ args_nil (fun _ _ _=> .str s) fun w b p v hp hH=>
  (held_text Sh.lays169 Sh.bX_169 hH h).mono fun ev w' ⟨he,h1,h2⟩=>⟨he,p,v,hp,h1,h2,fun g hg=> .inl hg⟩
theorem keeps_grow (w:World) (k:Nat) (os:Array Obj):Keeps (fun _=>False) w (Sort.grow (w.drewN k) os):=
 ⟨rfl,rfl,rfl,by simp [Sort.grow],fun b hb _=>by simp [Sort.grow,Array.getElem?_append,hb]⟩
theorem pow_tab {w:World} (hg:∀b p,Pv.glob b=some p→∃o,w.heap[b]? =some o∧p o):Lib.TabIs Tryz.prog w "internal/strconv.uint64pow10" .u64 Lib.pow10Tab:=by
 obtain ⟨o,ho,T,fz,rfl⟩:=hg 3 isPow10 rfl
 unfold Lib.TabIs World.var?
 rw [show Tryz.prog.globalNamed "internal/strconv.uint64pow10"=some 3 from by kernel_rfl]
 simp [ho]
theorem some_int {w:World} (hg:∀b p,Pv.glob b=some p→∃o,w.heap[b]? =some o∧p o):∃m,w.cell? ⟨4,0,none⟩=some (.int .i64 m):=by
 obtain ⟨o,ho,cs,T,fz,m,rfl,hm⟩:=hg 4 someInt rfl
 exact ⟨m,by rw [Lib.cell_of_heap ho];exact hm⟩
theorem call65 (n:Int) (h0: -9223372036854775808≤n) (h1:n≤9223372036854775807):PureCall Tryz.prog 65 [.int .i64 n] [] ⟨.str (Lib.itoa n), [], []⟩:=
 pure_still ⟨_,Tryz.func65,rfl,rfl⟩ (args_int .i64 n) (fun _ _ _=> .str _) fun w hg=>
  (Sh.strconv_Itoa n h0 h1 w (pow_tab hg)).mono fun ev w' ⟨he,k,os,hw⟩=>⟨he,by rw [hw];exact keeps_grow w k os⟩
theorem splitB_C (s:List UInt8) (c:UInt8):(Lib.splitB ⟨#[c]⟩ 0 (Lib.countB ⟨s.toArray⟩ ⟨#[c]⟩) ⟨s.toArray⟩).map Value.string=(splitC c s).map strV:=by
 have h:=Lib.splitB_data ⟨#[c]⟩ 0 (Lib.countB ⟨s.toArray⟩ ⟨#[c]⟩) ⟨s.toArray⟩
 have h2:Lib.splitK [c] 0 (Lib.count s [c]) s=splitC c s:=splitK_C c s
 have h3:(Lib.splitB ⟨#[c]⟩ 0 (Lib.countB ⟨s.toArray⟩ ⟨#[c]⟩) ⟨s.toArray⟩).map (·.data.toList)=splitC c s:=h.trans h2
 rw [←h3,List.map_map]
 exact List.map_congr_left fun x _=>by
  show Value.string x=Value.string ⟨x.data.toList.toArray⟩
  simp
theorem call132 (s:List UInt8) (c:UInt8) (h:s.length<4294967281):PureCall Tryz.prog 132 [.str s, .str [c]] [] ⟨.os 1000000000, [], [.row 0 9 1 (splitC c s).length (fl eStr (splitC c s))]⟩:=by
 have h1:1≤(⟨#[c]⟩:ByteArray).size:=Nat.le_refl 1
 have hN:Lib.countB ⟨s.toArray⟩ ⟨#[c]⟩+1=(splitC c s).length:=by
  rw [←Lib.splitB_all ⟨#[c]⟩ h1 0 _ ⟨s.toArray⟩ rfl,←List.length_map (f:=Value.string),splitB_C,List.length_map]
 refine pure_new2 (vs:=(splitC c s).map strV) ⟨_,Tryz.func132,rfl,rfl⟩ (args_str2 s [c]) (fun X γ w=>strs_rows (splitC c s)) fun w hg=> ?_
 obtain ⟨m,hm⟩:=some_int hg
 refine (Sh.strings_Split ⟨s.toArray⟩ ⟨#[c]⟩ m w (by show s.toArray.size<_;rw [List.size_toArray];exact h) hm h1).mono ?_
 rintro ev w' ⟨he,hw⟩
 rw [splitB_C] at hw
 rw [hN] at he
 have hle:=(splitC_len c s).1
 have hnew:w'.heap[w.heap.size]? =some (.cells ((splitC c s).map strV).toArray 9 (0,0)):=by
  rw [hw]
  show (w.heap.push _)[w.heap.size]? =_
  simp
 refine ⟨_,he,⟨by simp, .inr ⟨w.heap.size,_,_,rfl,Nat.le_refl _,hnew,Nat.le_refl _,by unfold maxLen;omega,by simp,by simp only [Nat.mul_one];exact List.take_of_length_le (by simp)⟩⟩,by rw [hw];exact Keeps.alloc _ _ _⟩
open Go.Shelf Go.Lib in
theorem is_blank (w:World):PredAt Tryz.prog 192 #[] encR (fun r=>decide ((r:Int)=32∨(r:Int)=10)) w:=fun W r _=>by
 unfold FnGives
 go_enter Tryz.func192,Tryz.ntmps192
 go_wp2
 all_goals (go_ret)
 ·rename_i h
  exact ⟨by simp [h],0,rfl⟩
 ·rename_i h
  refine ⟨?_,0,rfl⟩
  have e:((r:Int)==32 || (r:Int)==10)=decide ((r:Int)=32∨(r:Int)=10):=by
   rw [Bool.decide_or];rfl
  rw [←e]
  rfl
open Go.Shelf Go.Lib in
theorem call149 (s:List UInt8) (h:s.length≤65536):PureCall Tryz.prog 149 [.str s, .fn (.func 192) [] []] [] ⟨.os 1000000000, [], [.row 0 9 1 (wordsB isBl s).length (fl eStr (wordsB isBl s))]⟩:=by
 have hw:(Lib.goFieldsP (fun r=>decide ((r:Int)=32∨(r:Int)=10)) ⟨s.toArray⟩).map Value.string=(wordsB isBl s).map strV:=by
  rw [←fields_words s,List.map_map]
  exact List.map_congr_left fun x _=>by
   show Value.string x=Value.string ⟨x.data.toList.toArray⟩
   simp
 have hl:(Lib.goFieldsP (fun r=>decide ((r:Int)=32∨(r:Int)=10)) ⟨s.toArray⟩).length=(wordsB isBl s).length:=by
  have:=congrArg List.length hw
  simpa using this
 refine pure_new2 (us:= [strV s, .func (.func 192) #[] #[]]) (vs:=(wordsB isBl s).map strV) ⟨_,Tryz.func149,rfl,rfl⟩ (fun X γ w vals h=> ?_) (fun X γ w=>strs_rows (wordsB isBl s)) fun w hg=> ?_
 ·obtain ⟨v,us,rfl,hv,hus⟩:=h.cons_inv
  obtain ⟨v2,us2,rfl,hv2,hus2⟩:=hus.cons_inv
  rw [hv.str_inv,hus2.nil_inv]
  cases hv2 with
  | fn _ _ _ vs us hvl hul h h'=>
    have e1:vs= []:=List.eq_nil_of_length_eq_zero hvl
    have e2:us= []:=List.eq_nil_of_length_eq_zero hul
    subst e1 e2
    rfl
 ·refine (Sh.strings_FieldsFunc 192 #[] (enters_of Tryz.func192 (by kernel_rfl) rfl) _ ⟨s.toArray⟩ w (by show s.toArray.size≤_;rw [List.size_toArray];omega) (is_blank w)).mono ?_
  rintro ev w' ⟨A,he,_,ho,hb⟩
  rw [hl,hw] at ho
  rw [hl] at he
  exact ⟨_,he,ho,⟨hb.os,hb.tape,hb.output,hb.size,fun b hlt _=>hb.block b hlt⟩⟩
namespace G06
open Go.Lib
def splitP (p:UInt8→Bool):List UInt8→List (List UInt8)
 | []=> [[]]
 | x::xs=>if p x=true then []::splitP p xs else match splitP p xs with
   | []=> [[x]]
   | h::t=>(x::h)::t
def wordsB (p:UInt8→Bool) (l:List UInt8):List (List UInt8):=(splitP p l).filter fun x=> !x.isEmpty
def isBl (b:UInt8):Bool:=b==32
theorem splitP_sep (p:UInt8→Bool):∀(u:List UInt8) (c:UInt8) (t:List UInt8),(∀x∈u,p x=false)→p c=true→splitP p (u++c::t)=u::splitP p t
 | [],c,t,_,hc=>by simp [splitP,hc]
 | x::u,c,t,hu,hc=>by
   have ih:=splitP_sep p u c t (fun y hy=>hu y (List.mem_cons_of_mem _ hy)) hc
   have hx:=hu x (List.mem_cons_self ..)
   simp [splitP,hx,ih]
theorem splitP_none (p:UInt8→Bool):∀(u:List UInt8),(∀x∈u,p x=false)→splitP p u= [u]
 | [],_=>rfl
 | x::u,hu=>by
   have ih:=splitP_none p u fun y hy=>hu y (List.mem_cons_of_mem _ hy)
   have hx:=hu x (List.mem_cons_self ..)
   simp [splitP,hx,ih]
theorem words_sep {p:UInt8→Bool} {u:List UInt8} {c:UInt8} {t:List UInt8} (hu:∀x∈u,p x=false) (h0:u≠ []) (hc:p c=true):wordsB p (u++c::t)=u::wordsB p t:=by
 unfold wordsB
 rw [splitP_sep p u c t hu hc,List.filter_cons_of_pos (by simp [h0])]
theorem words_blank {p:UInt8→Bool} {c:UInt8} {t:List UInt8} (hc:p c=true):wordsB p (c::t)=wordsB p t:=by
 unfold wordsB
 rw [show c::t= []++c::t from rfl,splitP_sep p [] c t (by simp) hc,List.filter_cons_of_neg (by simp)]
theorem words_none {p:UInt8→Bool} {u:List UInt8} (hu:∀x∈u,p x=false) (h0:u≠ []):wordsB p u= [u]:=by
 unfold wordsB
 rw [splitP_none p u hu,List.filter_cons_of_pos (by simp [h0]),List.filter_nil]
theorem words_nil (p:UInt8→Bool):wordsB p []= []:=rfl
theorem blank_rune (l:List UInt8) (hne:l≠ []) (h:(decodeL l).1=32):(decodeL l).2=1∧l.getD 0 0=32:=by
 rw [decodeL_N] at h⊢
 have h0:=UInt8.toNat_lt (l.getD 0 0)
 have key:∀n b0 b1 b2 b3:Nat,(decodeN n b0 b1 b2 b3).1=32→(decodeN n b0 b1 b2 b3).2=1∧b0=32:=by
  intro n b0 b1 b2 b3
  unfold decodeN
  repeat' split
  all_goals (intro h;dsimp only at h⊢;omega)
 obtain ⟨k1,k2⟩:=key _ _ _ _ _ h
 exact ⟨k1,UInt8.toNat_inj.1 k2⟩
theorem other_rune (l:List UInt8) (hne:l≠ []) (h:(decodeL l).1≠32):1≤(decodeL l).2∧(decodeL l).2≤l.length∧∀j,j<(decodeL l).2→l.getD j 0≠32:=by
 have hl:0<l.length:=List.length_pos_iff.2 hne
 have hc:=decodeN_conts l.length (l.getD 0 0).toNat (l.getD 1 0).toNat (l.getD 2 0).toNat (l.getD 3 0).toNat
 have ha:l.getD 0 0=32→(decodeL l).1=32:=fun e=>by
  rw [decodeL_N]
  rw [e]
  have:(32:UInt8).toNat=32:=rfl
  rw [this]
  unfold decodeN
  rfl
 rw [←decodeL_N] at hc
 obtain ⟨c2,c3,c4,c5⟩:=hc
 have hw:=decodeL_width l
 refine ⟨hw,by omega,fun j hj e=> ?_⟩
 have h32:(32:UInt8).toNat=32:=rfl
 match j,hj,e with
 | 0,_,e=>exact h (ha e)
 | 1,hj,e=>have:=(c2 (by omega)).1;rw [e,h32] at this;omega
 | 2,hj,e=>have:=(c3 (by omega)).1;rw [e,h32] at this;omega
 | 3,hj,e=>have:=(c4 (by omega)).1;rw [e,h32] at this;omega
 | j+4,hj,_=>omega
def pcs (l:List UInt8) (acc:List (Nat×Nat)):List (List UInt8):=acc.map fun x=>(l.take x.2).drop x.1
theorem spans_words (l:List UInt8):∀(f pos:Nat) (st:Option Nat) (acc:List (Nat×Nat)),pos≤l.length→l.length≤f+pos→(∀a,st=some a→a<pos∧∀j,a≤j→j<pos→l.getD j 0≠32)→
  pcs l (closeSpans ⟨l.toArray⟩ (spansFromP (fun r=>decide ((r:Int)=32)) ⟨l.toArray⟩ f pos st acc))=pcs l acc++wordsB isBl (l.drop (st.getD pos)):=by
 intro f
 have hsz:(⟨l.toArray⟩:ByteArray).size=l.length:=rfl
 have hfin:∀(st:Option Nat) (acc:List (Nat×Nat)),(∀a,st=some a→a<l.length∧∀j,a≤j→j<l.length→l.getD j 0≠32)→pcs l (closeSpans ⟨l.toArray⟩ (acc,st))=pcs l acc++wordsB isBl (l.drop (st.getD l.length)):=by
  intro st acc hst
  cases st with
  | none=>simp [closeSpans,words_nil]
  | some a=>
    obtain ⟨h1,h2⟩:=hst a rfl
    have hne:l.drop a≠ []:=by
     intro h0
     have:=congrArg List.length h0
     rw [List.length_drop] at this
     simp at this;omega
    have hno:∀x∈l.drop a,isBl x=false:=fun x hx=>by
     obtain ⟨k,hk⟩:=List.getElem?_of_mem hx
     rw [List.getElem?_drop] at hk
     have hlt:=(List.getElem?_eq_some_iff.1 hk).1
     have:=h2 (a+k) (by omega) hlt
     simp only [List.getD,hk,Option.getD_some] at this
     simp [isBl,this]
    simp only [Option.getD_some]
    rw [words_none hno hne]
    simp [closeSpans,pcs,hsz]
 induction f with
 | zero=>
   intro pos st acc hp hf hst
   have:pos=l.length:=by omega
   subst this
   exact hfin st acc hst
 | succ f ih=>
   intro pos st acc hp hf hst
   by_cases hlt:pos<l.length
   ·have hd:=decodeL_drop ⟨l.toArray⟩ pos
    have hdt:(⟨l.toArray⟩:ByteArray).data.toList=l:=rfl
    rw [hdt] at hd
    have hne:l.drop pos≠ []:=by
     intro h0
     have:=congrArg List.length h0
     rw [List.length_drop] at this
     simp at this;omega
    unfold spansFromP
    rw [hsz,if_pos hlt,←hd]
    have hcons:l.drop pos=l.getD pos 0::l.drop (pos+1):=by
     rw [List.drop_eq_getElem_cons hlt];simp [List.getD,hlt]
    by_cases hr:(decodeL (l.drop pos)).1=32
    ·obtain ⟨hk,hb⟩:=blank_rune _ hne hr
     have hb':l.getD pos 0=32:=by rw [getD_dropU] at hb;simpa using hb
     have hbl:isBl (l.getD pos 0)=true:=by rw [hb'];rfl
     rw [if_pos (by simp [hr]),hk]
     cases st with
     | none=>
       show pcs l (closeSpans _ (spansFromP _ _ f (pos+1) none acc))=_
       rw [ih (pos+1) none acc hlt (by omega) (fun a h=>by cases h)]
       simp only [Option.getD_none]
       rw [hcons,words_blank hbl]
     | some a=>
       obtain ⟨h1,h2⟩:=hst a rfl
       show pcs l (closeSpans _ (spansFromP _ _ f (pos+1) none (acc++ [(a,pos)])))=_
       rw [ih (pos+1) none _ hlt (by omega) (fun a h=>by cases h)]
       simp only [Option.getD_none,Option.getD_some]
       have hsplit:l.drop a=(l.take pos).drop a++l.getD pos 0::l.drop (pos+1):=by
        rw [←hcons]
        have e:l=l.take pos++l.drop pos:=(List.take_append_drop pos l).symm
        have:l.drop a=(l.take pos++l.drop pos).drop a:=by rw [←e]
        rw [this,List.drop_append_of_le_length (by rw [List.length_take];omega)]
       have hno:∀x∈(l.take pos).drop a,isBl x=false:=fun x hx=>by
        obtain ⟨k,hk⟩:=List.getElem?_of_mem hx
        rw [List.getElem?_drop,List.getElem?_take] at hk
        split at hk
        ·have:=h2 (a+k) (by omega) (by omega)
         simp only [List.getD,hk,Option.getD_some] at this
         simp [isBl,this]
        ·cases hk
       have hne2:(l.take pos).drop a≠ []:=by
        intro h0
        have:=congrArg List.length h0
        rw [List.length_drop,List.length_take] at this
        simp at this;omega
       rw [hsplit,words_sep hno hne2 hbl]
       simp [pcs]
    ·obtain ⟨k1,k2,k3⟩:=other_rune _ hne hr
     rw [List.length_drop] at k2
     have k3':∀j,pos≤j→j<pos+(decodeL (l.drop pos)).2→l.getD j 0≠32:=fun j h1 h2=>by
      have:=k3 (j - pos) (by omega)
      rw [getD_dropU,show pos+(j - pos)=j by omega] at this
      exact this
     rw [if_neg (by simp;omega)]
     cases st with
     | none=>
       show pcs l (closeSpans _ (spansFromP _ _ f (pos+(decodeL (l.drop pos)).2) (some pos) acc))=_
       rw [ih _ (some pos) acc (by omega) (by omega) (fun a h=>by injection h with h;subst h;exact ⟨by omega,k3'⟩)]
       rfl
     | some a=>
       obtain ⟨h1,h2⟩:=hst a rfl
       show pcs l (closeSpans _ (spansFromP _ _ f (pos+(decodeL (l.drop pos)).2) (some a) acc))=_
       rw [ih _ (some a) acc (by omega) (by omega) (fun a' h=>by
        injection h with h;subst h
        refine ⟨by omega,fun j g1 g2=> ?_⟩
        by_cases e:j<pos
        ·exact h2 j g1 e
        ·exact k3' j (by omega) g2)]
       rfl
   ·have:pos=l.length:=by omega
    subst this
    rw [spansFromP_end _ _ _ _ _ _ (by rw [hsz];omega)]
    exact hfin st acc hst
theorem fields_words (s:List UInt8):(goFieldsP (fun r=>decide ((r:Int)=32)) ⟨s.toArray⟩).map (fun x=>x.data.toList)=wordsB isBl s:=by
 have h:=spans_words s s.length 0 none [] (Nat.zero_le _) (Nat.le_refl _) (fun a h=>by cases h)
 simp only [Option.getD_none,List.drop_zero] at h
 have e:pcs s []++wordsB isBl s=wordsB isBl s:=rfl
 rw [e] at h
 rw [←h]
 unfold goFieldsP spansOfP pcs
 rw [List.map_map]
 refine List.map_congr_left fun x _=> ?_
 show ((⟨s.toArray⟩:ByteArray).extract x.1 x.2).data.toList=_
 simp [List.extract,List.drop_take]
open Go.Shelf Go.Lib in
theorem is_blank (w:World):PredAt Tryz.prog 150 #[] encR (fun r=>decide ((r:Int)=32)) w:=fun W r _=>by
 unfold FnGives
 go_enter Tryz.func150,Tryz.ntmps150
 go_wp2
 go_ret
 exact ⟨rfl,0,rfl⟩
open Go.Shelf Go.Lib in
theorem call149 (s:List UInt8) (h:s.length≤65536):PureCall Tryz.prog 149 [.str s, .fn (.func 150) [] []] [] ⟨.os 1000000000, [], [.row 0 9 1 (wordsB isBl s).length (fl eStr (wordsB isBl s))]⟩:=by
 have hw:(Lib.goFieldsP (fun r=>decide ((r:Int)=32)) ⟨s.toArray⟩).map Value.string=(wordsB isBl s).map strV:=by
  rw [←fields_words s,List.map_map]
  exact List.map_congr_left fun x _=>by
   show Value.string x=Value.string ⟨x.data.toList.toArray⟩
   simp
 have hl:(Lib.goFieldsP (fun r=>decide ((r:Int)=32)) ⟨s.toArray⟩).length=(wordsB isBl s).length:=by
  have:=congrArg List.length hw
  simpa using this
 refine pure_new2 (us:= [strV s, .func (.func 150) #[] #[]]) (vs:=(wordsB isBl s).map strV) ⟨_,Tryz.func149,rfl,rfl⟩ (fun X γ w vals h=> ?_) (fun X γ w=>strs_rows (wordsB isBl s)) fun w hg=> ?_
 ·obtain ⟨v,us,rfl,hv,hus⟩:=h.cons_inv
  obtain ⟨v2,us2,rfl,hv2,hus2⟩:=hus.cons_inv
  rw [hv.str_inv,hus2.nil_inv]
  cases hv2 with
  | fn _ _ _ vs us hvl hul h h'=>
    have e1:vs= []:=List.eq_nil_of_length_eq_zero hvl
    have e2:us= []:=List.eq_nil_of_length_eq_zero hul
    subst e1 e2
    rfl
 ·refine (Sh.strings_FieldsFunc 150 #[] (enters_of Tryz.func150 (by kernel_rfl) rfl) _ ⟨s.toArray⟩ w (by show s.toArray.size≤_;rw [List.size_toArray];omega) (is_blank w)).mono ?_
  rintro ev w' ⟨A,he,_,ho,hb⟩
  rw [hl,hw] at ho
  rw [hl] at he
  exact ⟨_,he,ho,⟨hb.os,hb.tape,hb.output,hb.size,fun b hlt _=>hb.block b hlt⟩⟩
def c151L1:C:=(sr [kk 9 (.bi false .lss 8 7)] (.seq (.cond 9 .skip (.exit 0)) (.seq (.block 1 (sr [km 10 8,km 5 10] (.seq (sr [km 11 5,kk 12 (.bi false .eql 11 (cn 10)),km 13 12,kg 14 13 false (.mv 0),kg 15 13 false (.mv 5),kg 16 13 false (.ixs 14 15),kg 17 13 false (.bi false .lss 16 (.c (.int .u8 48))),kk 18 (.pick 13 (.c (.bool true)) 17),km 19 18,kg 20 19 false (.mv 0),kg 21 19 false (.mv 5),kg 22 19 false (.ixs 20 21),kg 23 19 false (.bi false .gtr 22 (.c (.int .u8 57))),kk 24 (.pick 19 (.c (.bool true)) 23)] (.cond 24 (sr [kk 2 (.mv (cn 0)),kk 3 (.mv (.c (.bool false)))] .ret) .skip)) (.reg [km 25 4,kk 26 (.bi false .mul 25 (cn 10)),km 27 0,km 28 5,kk 29 (.ixs 27 28),kk 30 (.bi false .sub 29 (.c (.int .u8 48))),kk 31 (.cv false .i64 30),kk 32 (.bi false .add 26 31),km 4 32])))) (.reg [kk 33 (.bi false .add 8 (cn 1)),km 8 33]))))
def c151:C:=(sr [kk 2 (.mv (cn 0)),kk 3 (.mv (.c (.bool false)))] (sr [kk 4 (.mv (cn 0))] (.seq (sr [km 6 0,kk 7 (.lens 6),kk 8 (.mv (cn 0))] (.block 0 (.loop c151L1))) (sr [km 34 4,km 35 0,kk 36 (.lens 35),kk 37 (.bi false .gtr 36 (cn 0)),km 2 34,km 3 37] .ret))))
theorem fits151:fits Tryz.prog false Tryz.f151 1 38 [(2,none),(3,none)]=some c151.er:=by kernel_rfl
def digs:Int→List UInt8→Option Int
 | a, []=>some a
 | a,c::cs=>if c.toNat<48∨57<c.toNat then none else digs (10*a+((c.toNat:Int) - 48)) cs
def numF (s:List UInt8):Option Int:=if s.length<1∨10<s.length then none else digs 0 s
theorem digs_drop {s:List UInt8} {i:Nat} (a:Int) (h:i<s.length):digs a (s.drop i)=if (s.getD i 0).toNat<48∨57<(s.getD i 0).toNat then none else digs (10*a+(((s.getD i 0).toNat:Int) - 48)) (s.drop (i+1)):=by
 rw [List.drop_eq_getElem_cons h]
 have:s.getD i 0=s[i]:=by simp [List.getD,h]
 rw [this];rfl
theorem pow10_le (i:Nat) (h:i≤10):(10:Int) ^ i≤10000000000:=(show∀i:Nat,i<11→(10:Int) ^ i≤10000000000 by decide) i (by omega)
theorem u8min:IntKind.u8.min=0:=by decide
theorem u8max:IntKind.u8.max=255:=by decide
theorem call151 (s:List UInt8) (hs:s.length≤4611686018427387904):PureCall Tryz.prog 151 [.str s] [] ⟨.tup [.int .i64 ((numF s).getD 0), .bool (numF s).isSome], [], []⟩:=by
 refine pure_call mix Tryz.func151 fits151 rfl ?_
 conv=>whnf
 refine ⟨trivial, ?_⟩
 refine LSem.loop (n:=38) mix (α:=Nat×Int) (fun x=>x.1≤s.length∧x.1≤10∧digs x.2 (s.drop x.1)=digs 0 s∧0≤x.2∧x.2<(10:Int) ^ x.1)
  (fun x=> [(0, .str s),(4, .int .i64 x.2),(7, .int .i64 s.length),(8, .int .i64 x.1)])
  (fun x=> []) (fun x=>s.length - x.1) (0,0) ?_ ?_ ?_
 ·exact ⟨Nat.zero_le _,Nat.zero_le _,rfl,Int.le_refl _,by decide⟩
 ·refine ⟨rfl,rfl, ?_, ?_⟩
  all_goals exact ent
 ·intro x hx
  obtain ⟨i,a⟩:=x
  obtain ⟨h1,h10,h2,h3,h4⟩:=hx
  dsimp only at h1 h10 h2 h3 h4
  have hj:((i:Int)).toNat=i:=by omega
  have hpow:=pow10_le i h10
  have hpow2:(10:Int) ^ (i+1)=10*10 ^ i:=by rw [Int.pow_succ,Int.mul_comm]
  conv=>whnf
  refine ⟨trivial,fun hc=> ?_,fun hc=> ?_⟩
  ·replace hc:=of_decide_eq_true hc
   have hlt:i<s.length:=by
    have h:(i:Int)<s.length:=hc
    omega
   have hd:=digs_drop a hlt
   have hb:(s.getD i 0).toNat<256:=UInt8.toNat_lt _
   by_cases h11:i=10
   ·have hn:numF s=none:=by unfold numF;rw [if_pos (by omega)]
    rw [hn]
    subst h11
    conv=>whnf
    refine ⟨?_,fun hc2=> ?_,fun hc2=>(by cases hc2)⟩
    ·exact g0
    conv=>whnf
    refine ⟨?_, [], ?_⟩
    ·exact g0
    conv=>whnf
    refine ⟨rfl, ?_,trivial,trivial⟩
    all_goals exact ent
   have h11b:((i:Int)==10)=false:=by simp;omega
   conv=>whnf
   dsimp only
   rw [h11b,hj]
   refine ⟨?_,fun hc2=> ?_,fun hc2=> ?_⟩
   ·exact g0
   ·simp only [bp] at hc2
    have hn:numF s=none:=by
     unfold numF;split
     ·rfl
     ·rw [←h2,hd,if_pos (by omega)]
    rw [hn]
    conv=>whnf
    refine ⟨?_, [], ?_⟩
    ·exact g0
    conv=>whnf
    refine ⟨rfl, ?_,trivial,trivial⟩
    all_goals exact ent
   ·simp only [bp] at hc2
    rw [if_neg (by omega)] at hd
    conv=>whnf
    refine ⟨?_,(i+1,10*a+(((s.getD i 0).toNat:Int) - 48)),⟨hlt,by dsimp only;omega,by rw [←hd];exact h2, ?_, ?_⟩, ?_,rfl,rfl, ?_, ?_⟩
    ·(try conv=>whnf)
     try dsimp only
     rw [hj]
     (repeat' (first | exact True.intro | exact fun _ h=>h | refine inR64_of ?_ ?_ | apply And.intro))<;>(first | omega | (rw [u8min];omega) | (rw [u8max];omega))
    ·dsimp only;omega
    ·dsimp only;rw [hpow2];omega
    ·dsimp only;omega
    all_goals repeat' (first | exact True.intro | refine leF_cons rfl ?_ ?_ | refine leS_cons rfl ?_ ?_ | (show PLe _ _ _ _;conv=>whnf) | (show SLe _ _ _ _;conv=>whnf) | (show PLeL _ _ _ _;conv=>whnf) | apply And.intro | rfl | exact Nat.le_refl _ | exact fun _ _=>rfl | exact rowEq0 _ _)
    all_goals first | omega | (dsimp only;rw [hj];omega) | skip
  ·replace hc:=of_decide_eq_false hc
   have hk:i=s.length:=by
    have h:¬(i:Int)<s.length:=hc
    omega
   subst hk
   have hn:a=(numF s).getD 0∧decide ((s.length:Int)>0)=(numF s).isSome:=by
    rw [List.drop_length] at h2
    have h2':digs 0 s=some a:=h2.symm
    unfold numF
    by_cases h0:s.length=0
    ·rw [if_pos (by omega)]
     have:s= []:=List.length_eq_zero_iff.1 h0
     subst this
     have ha:(0:Int)=a:=by injection h2'
     rw [←ha];exact ⟨rfl,rfl⟩
    ·rw [if_neg (by omega),h2']
     refine ⟨rfl, ?_⟩
     rw [decide_eq_true (by omega)];rfl
   conv=>whnf
   dsimp only
   rw [←hn.1,←hn.2]
   refine ⟨?_, [], ?_⟩
   ·exact g0
   conv=>whnf
   refine ⟨rfl, ?_,trivial,trivial⟩
   all_goals exact ent
def c86L1:C:=(sr [kk 20 (.bi false .lss 19 (cn 3))] (.seq (.cond 20 .skip (.exit 0)) (.seq (.block 1 (sr [km 21 19,kk 22 (.ixa 3 1 false 18 19),km 5 21,km 6 22] (sr [km 24 0,km 25 5,kk 26 (.ia 1 24 25),kk 27 (.ld 1 false 26),kk 28 (cl 151 [27]),km 23 28,kk 29 (.ex 23 0),kk 30 (.ex 23 1),km 7 29,km 8 30] (.seq (sr [km 31 8,kk 32 (.un false .not 31)] (.cond 32 (sr [kk 33 (.ld 4 true 4),kz (.st 4 2 33),kk 3 (.mv (.c (.bool false)))] .ret) .skip)) (.reg [km 34 6,km 35 7,kk 36 (.nc 34),kz (.st 1 36 35)]))))) (.reg [kk 37 (.bi false .add 19 (cn 1)),km 19 37]))))
def c86L2:C:=(sr [kk 40 (.bi false .lss 39 (cn 3))] (.seq (.cond 40 .skip (.exit 2)) (.seq (.block 3 (sr [km 41 39,kk 42 (.ixa 3 1 false 38 39),km 9 41,km 10 42] (sr [km 43 10,km 44 0,kk 45 (.ia 1 44 (cn 3)),kk 46 (.ld 1 false 45),kk 47 (.bi false .eql 43 46)] (.cond 47 (sr [km 48 9,kk 49 (.fa 3 4),kz (.st 1 49 48)] (sr [kk 50 (.ld 4 true 4),kz (.st 4 2 50),kk 3 (.mv (.c (.bool true)))] .ret)) .skip)))) (.reg [kk 51 (.bi false .add 39 (cn 1)),km 39 51]))))
def c86:C:=(sr [kk 2 (.al [(.int .i64 0),(.int .i64 0),(.int .i64 0),(.int .i64 0)]),kk 3 (.mv (.c (.bool false)))] (sr [kk 4 (.al [(.int .i64 0),(.int .i64 0),(.int .i64 0),(.int .i64 0)])] (.seq (sr [km 11 0,kk 12 (.len 11),kk 13 (.bi false .neq 12 (cn 4))] (.cond 13 (sr [kk 14 (.ld 4 true 4),kz (.st 4 2 14),kk 3 (.mv (.c (.bool false)))] .ret) .skip)) (.seq (sr [kk 15 (.fa 0 4),kk 16 (.fa 1 4),kk 17 (.fa 2 4),kk 18 (.bd [(.raw (.pointer none)),(.raw (.pointer none)),(.raw (.pointer none))] [(0,1,15),(1,1,16),(2,1,17)]),kk 19 (.mv (cn 0))] (.block 0 (.loop c86L1))) (.seq (sr [kk 38 (.ld 3 true (.c (.rp 1 [(.str [111,107]),(.str [105,99,101]),(.str [102,97,117,108,116])]))),kk 39 (.mv (cn 0))] (.block 2 (.loop c86L2))) (sr [kk 52 (.ld 4 true 4),kz (.st 4 2 52),kk 3 (.mv (.c (.bool false)))] .ret))))))
theorem fits86:fits Tryz.prog false Tryz.f86 1 53 [(2,some (4,true)),(3,none)]=some c86.er:=by kernel_rfl
def nG (w:List (List UInt8)) (k:Nat):Int:=(numF (w.getD k default)).getD 0
def isG (w:List (List UInt8)) (k:Nat):Bool:=(numF (w.getD k default)).isSome
def pR (w:List (List UInt8)):Nat→Rd
 | 0=>⟨0,0,0,0⟩
 | 1=>⟨nG w 0,0,0,0⟩
 | 2=>⟨nG w 0,nG w 1,0,0⟩
 | _=>⟨nG w 0,nG w 1,nG w 2,0⟩
def fl0:List UInt8:= [111,107]
def fl1:List UInt8:= [105,99,101]
def fl2:List UInt8:= [102,97,117,108,116]
def lineG (w:List (List UInt8)):Rd×Bool:=if w.length≠4 then (pR w 0,false) else
 if isG w 0=false then (pR w 0,false) else if isG w 1=false then (pR w 1,false) else if isG w 2=false then (pR w 2,false) else
 if fl0=w.getD 3 default then (⟨nG w 0,nG w 1,nG w 2,0⟩,true) else if fl1=w.getD 3 default then (⟨nG w 0,nG w 1,nG w 2,1⟩,true) else
 if fl2=w.getD 3 default then (⟨nG w 0,nG w 1,nG w 2,2⟩,true) else (pR w 3,false)
theorem call86 (τ:Nat) (w:List (List UInt8)) (hw:w.length≤4611686018427387904) (hs:∀k,k<w.length→(w.getD k default).length≤4611686018427387904):PureCall Tryz.prog 86 [.sl τ 1 w.length (fl eStr w)] [] ⟨.tup [.agg (eRd (lineG w).1), .bool (lineG w).2], [], []⟩:=by
 refine pure_call mix Tryz.func86 fits86 rfl ?_
 conv=>whnf
 refine ⟨?_,fun hc=> ?_,fun hc=> ?_⟩
 ·exact g0
 ·simp only [bp] at hc
  rw [show lineG w=(pR w 0,false) by unfold lineG;rw [if_pos (by omega)]]
  conv=>whnf
  refine ⟨?_, [], ?_⟩
  ·exact g0
  conv=>whnf
  refine ⟨rfl, ?_,trivial,trivial⟩
  all_goals exact ent
 simp only [bp] at hc
 have hl:w.length=4:=by omega
 conv=>whnf
 refine ⟨?_, ?_⟩
 ·exact g0
 refine LSem.loop (n:=53) mix (α:=Nat) (fun j=>j≤3∧∀k,k<j→isG w k=true)
  (fun j=> [(0, .sl τ 1 w.length (fl eStr w)),(2, .pt 32 0 0),(4, .pt 64 0 0),(18, .agg [.pt 64 0 0, .pt 64 0 1, .pt 64 0 2]),(19, .int .i64 j)])
  (fun j=> [(32, .box [.int .i64 0, .int .i64 0, .int .i64 0, .int .i64 0]),(64, .box (eRd (pR w j)))]) (fun j=>3 - j) 0 ?_ ?_ ?_
 ·exact ⟨Nat.zero_le _,fun k hk=>absurd hk (Nat.not_lt_zero _)⟩
 ·refine ⟨rfl,rfl, ?_, ?_⟩
  all_goals exact ent
 ·intro j hj
  obtain ⟨hj3,hall⟩:=hj
  have h0123:j=0∨j=1∨j=2∨j=3:=by omega
  rcases h0123 with rfl | rfl | rfl | rfl
  ·conv=>whnf
   refine ⟨trivial,fun hc=> ?_,fun hc=>(by cases hc)⟩
   conv=>whnf
   refine ⟨_,fun _=>call151 (w.getD 0 default) (hs 0 (by omega)), ?_⟩
   conv=>whnf
   cases hq:numF (w.getD 0 default) with
   | none=>
     rw [show lineG w=(pR w 0,false) by unfold lineG;rw [if_neg (by omega)];rw [if_pos (show isG w 0=false by unfold isG;rw [hq];rfl)]]
     conv=>whnf
     refine ⟨?_,fun _=> ?_,fun h=>(by cases h)⟩
     ·exact g0
     conv=>whnf
     refine ⟨?_, [], ?_⟩
     ·exact g0
     conv=>whnf
     refine ⟨rfl, ?_,trivial,trivial⟩
     all_goals exact ent
   | some v=>
     conv=>whnf
     refine ⟨?_,fun h=>(by cases h),fun _=> ?_⟩
     ·exact g0
     conv=>whnf
     refine ⟨?_,1,⟨by omega,fun k hk=> ?_⟩, ?_,rfl,rfl, ?_, ?_⟩
     ·exact g0
     ·by_cases e:k=0
      ·rw [e];unfold isG;rw [hq];rfl
      ·exact hall k (by omega)
     ·omega
     all_goals repeat' (first | exact True.intro | refine leF_cons rfl ?_ ?_ | refine leS_cons rfl ?_ ?_ | (show PLe _ _ _ _;conv=>whnf) | (show SLe _ _ _ _;conv=>whnf) | (show PLeL _ _ _ _;conv=>whnf) | apply And.intro | rfl | exact Nat.le_refl _ | exact fun _ _=>rfl | exact rowEq0 _ _)
     all_goals first | (unfold pR nG;rw [hq];rfl) | (unfold nG;rw [hq];rfl) | skip
  ·conv=>whnf
   refine ⟨trivial,fun hc=> ?_,fun hc=>(by cases hc)⟩
   conv=>whnf
   refine ⟨_,fun _=>call151 (w.getD 1 default) (hs 1 (by omega)), ?_⟩
   conv=>whnf
   cases hq:numF (w.getD 1 default) with
   | none=>
     rw [show lineG w=(pR w 1,false) by unfold lineG;rw [if_neg (by omega)];rw [if_neg (show¬isG w 0=false by rw [hall 0 (by omega)];decide),if_pos (show isG w 1=false by unfold isG;rw [hq];rfl)]]
     conv=>whnf
     refine ⟨?_,fun _=> ?_,fun h=>(by cases h)⟩
     ·exact g0
     conv=>whnf
     refine ⟨?_, [], ?_⟩
     ·exact g0
     conv=>whnf
     refine ⟨rfl, ?_,trivial,trivial⟩
     all_goals exact ent
   | some v=>
     conv=>whnf
     refine ⟨?_,fun h=>(by cases h),fun _=> ?_⟩
     ·exact g0
     conv=>whnf
     refine ⟨?_,2,⟨by omega,fun k hk=> ?_⟩, ?_,rfl,rfl, ?_, ?_⟩
     ·exact g0
     ·by_cases e:k=1
      ·rw [e];unfold isG;rw [hq];rfl
      ·exact hall k (by omega)
     ·omega
     all_goals repeat' (first | exact True.intro | refine leF_cons rfl ?_ ?_ | refine leS_cons rfl ?_ ?_ | (show PLe _ _ _ _;conv=>whnf) | (show SLe _ _ _ _;conv=>whnf) | (show PLeL _ _ _ _;conv=>whnf) | apply And.intro | rfl | exact Nat.le_refl _ | exact fun _ _=>rfl | exact rowEq0 _ _)
     all_goals first | (unfold pR nG;rw [hq];rfl) | (unfold nG;rw [hq];rfl) | skip
  ·conv=>whnf
   refine ⟨trivial,fun hc=> ?_,fun hc=>(by cases hc)⟩
   conv=>whnf
   refine ⟨_,fun _=>call151 (w.getD 2 default) (hs 2 (by omega)), ?_⟩
   conv=>whnf
   cases hq:numF (w.getD 2 default) with
   | none=>
     rw [show lineG w=(pR w 2,false) by unfold lineG;rw [if_neg (by omega)];rw [if_neg (show¬isG w 0=false by rw [hall 0 (by omega)];decide),if_neg (show¬isG w 1=false by rw [hall 1 (by omega)];decide),if_pos (show isG w 2=false by unfold isG;rw [hq];rfl)]]
     conv=>whnf
     refine ⟨?_,fun _=> ?_,fun h=>(by cases h)⟩
     ·exact g0
     conv=>whnf
     refine ⟨?_, [], ?_⟩
     ·exact g0
     conv=>whnf
     refine ⟨rfl, ?_,trivial,trivial⟩
     all_goals exact ent
   | some v=>
     conv=>whnf
     refine ⟨?_,fun h=>(by cases h),fun _=> ?_⟩
     ·exact g0
     conv=>whnf
     refine ⟨?_,3,⟨by omega,fun k hk=> ?_⟩, ?_,rfl,rfl, ?_, ?_⟩
     ·exact g0
     ·by_cases e:k=2
      ·rw [e];unfold isG;rw [hq];rfl
      ·exact hall k (by omega)
     ·omega
     all_goals repeat' (first | exact True.intro | refine leF_cons rfl ?_ ?_ | refine leS_cons rfl ?_ ?_ | (show PLe _ _ _ _;conv=>whnf) | (show SLe _ _ _ _;conv=>whnf) | (show PLeL _ _ _ _;conv=>whnf) | apply And.intro | rfl | exact Nat.le_refl _ | exact fun _ _=>rfl | exact rowEq0 _ _)
     all_goals first | (unfold pR nG;rw [hq];rfl) | (unfold nG;rw [hq];rfl) | skip
  ·have hG:lineG w=(if fl0=w.getD 3 default then (⟨nG w 0,nG w 1,nG w 2,0⟩,true) else if fl1=w.getD 3 default then (⟨nG w 0,nG w 1,nG w 2,1⟩,true) else
      if fl2=w.getD 3 default then (⟨nG w 0,nG w 1,nG w 2,2⟩,true) else (pR w 3,false)):=by
     unfold lineG
     rw [if_neg (by omega),if_neg (by rw [hall 0 (by omega)];decide),if_neg (by rw [hall 1 (by omega)];decide),if_neg (by rw [hall 2 (by omega)];decide)]
   conv=>whnf
   refine ⟨trivial,fun hc=>(by cases hc),fun hc=> ?_⟩
   conv=>whnf
   refine ⟨trivial, ?_⟩
   refine LSem.loop (n:=53) mix (α:=Nat) (fun j=>j≤3∧(0<j→fl0≠w.getD 3 default)∧(1<j→fl1≠w.getD 3 default)∧(2<j→fl2≠w.getD 3 default))
    (fun j=> [(0, .sl τ 1 w.length (fl eStr w)),(2, .pt 32 0 0),(4, .pt 64 0 0),(38, .agg [.str fl0, .str fl1, .str fl2]),(39, .int .i64 j)])
    (fun j=> [(32, .box [.int .i64 0, .int .i64 0, .int .i64 0, .int .i64 0]),(64, .box (eRd (pR w 3)))]) (fun j=>3 - j) 0 ?_ ?_ ?_
   ·exact ⟨Nat.zero_le _,fun h=>absurd h (Nat.lt_irrefl _),fun h=>absurd h (by omega),fun h=>absurd h (by omega)⟩
   ·refine ⟨rfl,rfl, ?_, ?_⟩
    all_goals exact ent
   ·intro j hj
    obtain ⟨hj3,f0,f1,f2⟩:=hj
    have h0123:j=0∨j=1∨j=2∨j=3:=by omega
    rcases h0123 with rfl | rfl | rfl | rfl
    ·conv=>whnf
     refine ⟨trivial,fun hc=> ?_,fun hc=>(by cases hc)⟩
     conv=>whnf
     refine ⟨?_,fun he=> ?_,fun he=> ?_⟩
     ·exact g0
     ·have he':fl0=w.getD 3 default:=by simpa using he
      rw [hG,if_pos he']
      conv=>whnf
      refine ⟨?_, [], ?_⟩
      ·exact g0
      conv=>whnf
      refine ⟨rfl, ?_,trivial,trivial⟩
      all_goals exact ent
     ·have he':fl0≠w.getD 3 default:=by simpa using he
      conv=>whnf
      refine ⟨?_,1,⟨by omega,fun h=>he',fun h=>absurd h (by omega),fun h=>absurd h (by omega)⟩, ?_,rfl,rfl, ?_, ?_⟩
      ·exact g0
      ·omega
      all_goals exact ent
    ·conv=>whnf
     refine ⟨trivial,fun hc=> ?_,fun hc=>(by cases hc)⟩
     conv=>whnf
     refine ⟨?_,fun he=> ?_,fun he=> ?_⟩
     ·exact g0
     ·have he':fl1=w.getD 3 default:=by simpa using he
      rw [hG,if_neg (f0 (by omega)),if_pos he']
      conv=>whnf
      refine ⟨?_, [], ?_⟩
      ·exact g0
      conv=>whnf
      refine ⟨rfl, ?_,trivial,trivial⟩
      all_goals exact ent
     ·have he':fl1≠w.getD 3 default:=by simpa using he
      conv=>whnf
      refine ⟨?_,2,⟨by omega,fun h=>f0 (by omega),fun h=>he',fun h=>absurd h (by omega)⟩, ?_,rfl,rfl, ?_, ?_⟩
      ·exact g0
      ·omega
      all_goals exact ent
    ·conv=>whnf
     refine ⟨trivial,fun hc=> ?_,fun hc=>(by cases hc)⟩
     conv=>whnf
     refine ⟨?_,fun he=> ?_,fun he=> ?_⟩
     ·exact g0
     ·have he':fl2=w.getD 3 default:=by simpa using he
      rw [hG,if_neg (f0 (by omega)),if_neg (f1 (by omega)),if_pos he']
      conv=>whnf
      refine ⟨?_, [], ?_⟩
      ·exact g0
      conv=>whnf
      refine ⟨rfl, ?_,trivial,trivial⟩
      all_goals exact ent
     ·have he':fl2≠w.getD 3 default:=by simpa using he
      conv=>whnf
      refine ⟨?_,3,⟨by omega,fun h=>f0 (by omega),fun h=>f1 (by omega),fun h=>he'⟩, ?_,rfl,rfl, ?_, ?_⟩
      ·exact g0
      ·omega
      all_goals exact ent
    ·rw [hG,if_neg (f0 (by omega)),if_neg (f1 (by omega)),if_neg (f2 (by omega))]
     conv=>whnf
     refine ⟨trivial,fun hc=>(by cases hc),fun hc=> ?_⟩
     conv=>whnf
     refine ⟨?_, [], ?_⟩
     ·exact g0
     conv=>whnf
     refine ⟨rfl, ?_,trivial,trivial⟩
     all_goals exact ent
section
variable {p:UInt8→Bool} {s:List UInt8} {a i:Nat}
theorem seg_app (h:a≤i) (hi:i≤s.length):s.drop a=(s.take i).drop a++s.drop i:=by
 have e:s=s.take i++s.drop i:=(List.take_append_drop i s).symm
 have:s.drop a=(s.take i++s.drop i).drop a:=by rw [←e]
 rw [this,List.drop_append_of_le_length (by rw [List.length_take];omega)]
theorem seg_no (hno:∀k,a≤k→k<i→p (s.getD k 0)=false) (hi:i≤s.length):∀x∈(s.take i).drop a,p x=false:=fun x hx=>by
 obtain ⟨k,hk⟩:=List.getElem?_of_mem hx
 rw [List.getElem?_drop,List.getElem?_take] at hk
 split at hk
 ·have:=hno (a+k) (by omega) (by omega)
  simpa [List.getD,hk] using this
 ·cases hk
theorem seg_sep (h:a≤i) (hi:i<s.length) (hno:∀k,a≤k→k<i→p (s.getD k 0)=false) (hp:p (s.getD i 0)=true):splitP p (s.drop a)=(s.take i).drop a::splitP p (s.drop (i+1)):=by
 have hd:s.drop i=s.getD i 0::s.drop (i+1):=by
  rw [List.drop_eq_getElem_cons hi];simp [List.getD,hi]
 rw [seg_app h (Nat.le_of_lt hi),hd,splitP_sep p _ _ _ (seg_no hno (Nat.le_of_lt hi)) hp]
theorem seg_end (h:a≤s.length) (hno:∀k,a≤k→k<s.length→p (s.getD k 0)=false):splitP p (s.drop a)= [(s.take s.length).drop a]:=by
 have:=seg_no hno (Nat.le_refl _)
 rw [List.take_length] at this⊢
 exact splitP_none p _ this
end
theorem splitP_len (p:UInt8→Bool):∀s:List UInt8,(splitP p s).length≤s.length+1∧∀x∈splitP p s,x.length≤s.length
 | []=>by simp [splitP]
 | x::xs=>by
   obtain ⟨h1,h2⟩:=splitP_len p xs
   simp only [splitP]
   split
   ·refine ⟨by simp only [List.length_cons];omega,fun y hy=> ?_⟩
    rcases List.mem_cons.1 hy with rfl | hy
    ·simp
    ·have:=h2 y hy;simp only [List.length_cons];omega
   ·split
    ·simp
    ·rename_i h t he
     rw [he] at h1 h2
     refine ⟨by simp only [List.length_cons] at h1⊢;omega,fun y hy=> ?_⟩
     rcases List.mem_cons.1 hy with rfl | hy
     ·have:=h2 h (List.mem_cons_self ..);simp only [List.length_cons];omega
     ·have:=h2 y (List.mem_cons_of_mem _ hy);simp only [List.length_cons];omega
theorem wordsB_mem {p:UInt8→Bool} {s x:List UInt8} (h:x∈wordsB p s):x.length≤s.length:=(splitP_len p s).2 x (List.mem_filter.1 h).1
theorem wordsB_len (p:UInt8→Bool) (s:List UInt8):(wordsB p s).length≤s.length+1:=Nat.le_trans (List.length_filter_le _ _) (splitP_len p s).1
structure CutS where
 i:Nat
 a:Nat
 out:List (List UInt8)
structure CInv (p:UInt8→Bool) (F:List (List UInt8)→List (List UInt8)) (s:List UInt8) (x:CutS):Prop where
 le:x.a≤x.i∧x.i≤s.length+1
 ln:x.out.length≤x.i
 no:∀k,x.a≤k→k<x.i→k<s.length→p (s.getD k 0)=false
 rest:x.i≤s.length→x.out++F (splitP p (s.drop x.a))=F (splitP p s)
 fin:s.length<x.i→x.out=F (splitP p s)
theorem CInv.skip {p:UInt8→Bool} {F:List (List UInt8)→List (List UInt8)} {s:List UInt8} {x:CutS} (h:CInv p F s x) (hi:x.i<s.length) (hp:p (s.getD x.i 0)=false):CInv p F s ⟨x.i+1,x.a,x.out⟩:=by
 obtain ⟨⟨a1,a2⟩,b,c,d,e⟩:=h
 refine ⟨⟨by dsimp only;omega,by dsimp only;omega⟩,by dsimp only;omega,fun k h1 h2 h3=> ?_,fun _=>d (by omega),fun h=>absurd h (by dsimp only;omega)⟩
 dsimp only at h1 h2
 by_cases hk:k=x.i
 ·rw [hk];exact hp
 ·exact c k h1 (by omega) h3
theorem CInv.cut {p:UInt8→Bool} {F:List (List UInt8)→List (List UInt8)} {s:List UInt8} {x:CutS} {out':List (List UInt8)} (h:CInv p F s x) (hi:x.i≤s.length) (hp:x.i=s.length∨p (s.getD x.i 0)=true)
  (ho:∀L,x.out++F ((s.take x.i).drop x.a::L)=out'++F L) (hF:F []= []) (hl:out'.length≤x.out.length+1):CInv p F s ⟨x.i+1,x.i+1,out'⟩:=by
 obtain ⟨⟨a1,a2⟩,b,c,d,e⟩:=h
 refine ⟨⟨Nat.le_refl _,by dsimp only;omega⟩,by dsimp only;omega,fun k h1 h2 h3=>by dsimp only at h1 h2;omega,fun h=> ?_,fun h=> ?_⟩
 ·dsimp only at h⊢
  have hlt:x.i<s.length:=by omega
  rw [←d (by omega),seg_sep a1 hlt (fun k h1 h2=>c k h1 h2 (by omega)) (hp.resolve_left (by omega)),ho]
 ·dsimp only at h⊢
  have hE:x.i=s.length:=by omega
  have h2:=d (by omega)
  rw [seg_end (by omega) (fun k h1 h3=>c k h1 (by omega) h3),←hE,ho,hF,List.append_nil] at h2
  exact h2
def c85L1:C:=(sr [kk 13 (.bi false .lss 12 11)] (.seq (.cond 13 .skip (.exit 0)) (.seq (.block 1 (sr [kk 14 (.ia 1 10 12),kk 15 (.ld 1 false 14),km 7 15] (sr [km 16 7,kk 17 (cl 149 [16,(.c (.fn (.func 150) [] []))]),km 8 17] (.seq (sr [km 18 8,kk 19 (.len 18),kk 20 (.bi false .gtr 19 (cn 0))] (.cond 20 (.reg [km 21 5,kk 22 (.bi false .add 21 (cn 1)),km 5 22]) .skip)) (.reg [km 23 4,km 24 8,kk 25 (.bs 181 1 [24]),kk 26 (.app 181 1 24 23 25),km 4 26]))))) (.reg [kk 27 (.bi false .add 12 (cn 1)),km 12 27]))))
def c85:C:=(sr [kk 2 (.mv (.c (.nil 1))),kk 3 (.mv (cn 0))] (sr [kk 4 (.mv (.c (.nil 1)))] (sr [kk 5 (.mv (cn 0))] (.seq (sr [km 9 0,kk 10 (cl 132 [9,(.c (.str [10]))]),kk 11 (.len 10),kk 12 (.mv (cn 0))] (.block 0 (.loop c85L1))) (sr [km 28 4,km 29 5,km 2 28,km 3 29] .ret)))))
theorem fits85:fits Tryz.prog false Tryz.f85 1 30 [(2,none),(3,none)]=some c85.er:=by kernel_rfl
def c30L1:C:=(sr [kk 26 (.bi false .lss 25 24)] (.seq (.cond 26 .skip (.exit 0)) (.seq (.block 1 (sr [km 27 25,kk 28 (.ia 1 23 25),kk 29 (.ld 1 false 28),km 8 27,km 9 29] (.seq (sr [km 30 9,kk 31 (.len 30),kk 32 (.bi false .eql 31 (cn 0))] (.cond 32 (.exit 1) .skip)) (sr [km 34 9,kk 35 (cl 86 [34]),km 33 35,kk 36 (.ex 33 0),kk 37 (.ex 33 1),kk 10 (.al [(.int .i64 0),(.int .i64 0),(.int .i64 0),(.int .i64 0)]),kz (.st 4 10 36),km 11 37] (.seq (sr [km 38 11,kk 39 (.un false .not 38)] (.cond 39 (sr [km 40 8,kk 41 (.bi false .add 40 (cn 1)),kk 2 (.mv (.c (.nil 4))),km 3 41,kk 4 (.mv (cn 7))] .ret) .skip)) (.seq (sr [kk 42 (.ld 4 true 10),kk 43 (cl 87 [42]),km 12 43] (sr [km 44 12,kk 45 (.bi false .neq 44 (cn 0))] (.cond 45 (sr [km 46 8,kk 47 (.bi false .add 46 (cn 1)),km 48 12,kk 2 (.mv (.c (.nil 4))),km 3 47,km 4 48] .ret) .skip))) (.reg [km 49 7,kk 50 (.ld 4 true 10),kk 51 (.bs 109 4 [50]),kk 52 (.app 109 4 32 49 51),km 7 52]))))))) (.reg [kk 53 (.bi false .add 25 (cn 1)),km 25 53]))))
def c30:C:=(sr [kk 2 (.mv (.c (.nil 4))),kk 3 (.mv (cn 0)),kk 4 (.mv (cn 0))] (.seq (sr [km 13 0,kk 14 (.lens 13),kk 15 (.bi false .gtr 14 (cn 65536))] (.cond 15 (sr [kk 2 (.mv (.c (.nil 4))),kk 3 (.mv (cn 0)),kk 4 (.mv (cn 10))] .ret) .skip)) (sr [km 17 0,kk 18 (cl 85 [17]),km 16 18,kk 19 (.ex 16 0),kk 20 (.ex 16 1),km 5 19,km 6 20] (.seq (sr [km 21 6,kk 22 (.bi false .gtr 21 (cn 4096))] (.cond 22 (sr [kk 2 (.mv (.c (.nil 4))),kk 3 (.mv (cn 0)),kk 4 (.mv (cn 10))] .ret) .skip)) (sr [kk 7 (.mv (.c (.nil 4)))] (.seq (sr [km 23 5,kk 24 (.len 23),kk 25 (.mv (cn 0))] (.block 0 (.loop c30L1))) (sr [km 54 7,km 2 54,kk 3 (.mv (cn 0)),kk 4 (.mv (cn 0))] .ret)))))))
theorem fits30:fits Tryz.prog false Tryz.f30 1 55 [(2,none),(3,none),(4,none)]=some c30.er:=by kernel_rfl
def eWs (w:List (List UInt8)):List PV:= [.sl 0 1 w.length (fl eStr w)]
def linesW (s:List UInt8):List (List (List UInt8)):=(splitC 10 s).map (wordsB isBl)
def cntW (W:List (List (List UInt8))):Nat:=(W.filter fun w=> !w.isEmpty).length
theorem cntW_le (W:List (List (List UInt8))):cntW W≤W.length:=List.length_filter_le _ _
theorem cntW_push (W:List (List (List UInt8))) (w:List (List UInt8)):cntW (W++ [w])=cntW W+if w.isEmpty then 0 else 1:=by
 unfold cntW
 rw [List.filter_append,List.length_append]
 cases h:w.isEmpty<;>simp [h]
theorem take_push {α:Type} [Inhabited α] {l:List α} {i:Nat} (h:i<l.length):l.take (i+1)=l.take i++ [l.getD i default]:=by
 rw [List.take_add_one,getD_some h];rfl
theorem linesW_getD {s:List UInt8} {i:Nat} (h:i<(splitC 10 s).length):(linesW s).getD i default=wordsB isBl ((splitC 10 s).getD i default):=by
 simp [linesW,List.getD,h]
theorem linesW_len (s:List UInt8):(linesW s).length=(splitC 10 s).length:=by simp [linesW]
theorem call85 (s:List UInt8) (hs:s.length≤65536):PureCall Tryz.prog 85 [.str s] [] ⟨.tup [.os 1000000000, .int .i64 (cntW (linesW s))], [], [.row 0 181 1 (linesW s).length (fl eWs (linesW s))]⟩:=by
 obtain ⟨L,hL⟩:∃L,L=splitC 10 s:=⟨_,rfl⟩
 obtain ⟨W,hW⟩:∃W,W=linesW s:=⟨_,rfl⟩
 have hWl:W.length=L.length:=by rw [hW,hL,linesW_len]
 have hLl:L.length≤65537:=by have:=(splitC_len 10 s).1;rw [←hL] at this;omega
 have hWg:∀i,i<L.length→W.getD i default=wordsB isBl (L.getD i default):=fun i hi=>by
  rw [hW,linesW_getD (by rw [←hL];exact hi),hL]
 have hLm:∀i,i<L.length→(L.getD i default).length≤65536:=fun i hi=>by
  have:=(splitC_len 10 s).2 (L.getD i default) (by rw [←hL];exact getD_mem hi);omega
 refine pure_call mix Tryz.func85 fits85 rfl ?_
 conv=>whnf
 refine ⟨_,fun _=>call132 s 10 (by omega), ?_⟩
 rw [←hL,←hW]
 conv=>whnf
 refine ⟨?_, ?_⟩
 ·exact g0
 refine LSem.adopt 4 1000000 181 1 1 rfl rfl ?_
 refine LSem.loop (n:=30) mix (α:=Nat) (fun i=>i≤L.length)
  (fun i=> [(4, .os 1000000),(5, .int .i64 (cntW (W.take i))),(10, .os 160),(11, .int .i64 L.length),(12, .int .i64 i)])
  (fun i=> [(1000000, .row 0 181 1 (W.take i).length (fl eWs (W.take i))),(160, .row 0 9 1 L.length (fl eStr L))]) (fun i=>L.length - i) 0 ?_ ?_ ?_
 ·exact Nat.zero_le _
 ·refine ⟨rfl,rfl, ?_, ?_⟩
  all_goals exact ent
 ·intro i hi
  have hj:((i:Int)).toNat=i:=by omega
  conv=>whnf
  refine ⟨trivial,fun hc=> ?_,fun hc=> ?_⟩
  ·replace hc:=of_decide_eq_true hc
   have hlt:i<L.length:=by
    have h:(i:Int)<L.length:=hc
    omega
   have hcl:=cntW_le (W.take i)
   have htl:(W.take i).length=i:=by rw [List.length_take];omega
   have htp:W.take (i+1)=W.take i++ [W.getD i default]:=take_push (by omega)
   have hcp:=cntW_push (W.take i) (W.getD i default)
   rw [←htp] at hcp
   have hWi:=hWg i hlt
   have hwl:(W.getD i default).length≤65537:=by rw [hWi];have:=wordsB_len isBl (L.getD i default);have:=hLm i hlt;omega
   conv=>whnf
   rw [hj]
   refine ⟨_,fun _=>call149 (L.getD i default) (hLm i hlt), ?_⟩
   rw [←hWi]
   have q:=fl_push eWs (W.take i) (W.getD i default)
   rw [←htp] at q
   have hxl:(W.take (i+1)).length=(W.take i).length+1:=by rw [htp];simp
   conv=>whnf
   refine ⟨?_,fun hgt=> ?_,fun hgt=> ?_⟩
   ·exact g0
   ·simp only [bp] at hgt
    have hne:(W.getD i default).isEmpty=false:=by
     cases hE:W.getD i default with
     | nil=>rw [hE] at hgt;simp at hgt
     | cons _ _=>rfl
    rw [hne] at hcp
    conv=>whnf
    refine ⟨?_,i+1,hlt, ?_,rfl,rfl, ?_, ?_⟩
    ·exact g0
    ·omega
    all_goals repeat' (first | exact True.intro | refine leF_cons rfl ?_ ?_ | refine leS_cons rfl ?_ ?_ | (show PLe _ _ _ _;conv=>whnf) | (show SLe _ _ _ _;conv=>whnf) | (show PLeL _ _ _ _;conv=>whnf) | apply And.intro | rfl | exact Nat.le_refl _ | exact fun _ _=>rfl | exact rowEq0 _ _)
    all_goals first | exact q | (rw [hxl];rfl) | (rw [hxl];done) | (rw [hcp];rfl) | omega | skip
   ·simp only [bp] at hgt
    have hne:(W.getD i default).isEmpty=true:=by
     cases hE:W.getD i default with
     | nil=>rfl
     | cons _ _=>rw [hE] at hgt;simp at hgt
    rw [hne] at hcp
    conv=>whnf
    refine ⟨?_,i+1,hlt, ?_,rfl,rfl, ?_, ?_⟩
    ·exact g0
    ·omega
    all_goals repeat' (first | exact True.intro | refine leF_cons rfl ?_ ?_ | refine leS_cons rfl ?_ ?_ | (show PLe _ _ _ _;conv=>whnf) | (show SLe _ _ _ _;conv=>whnf) | (show PLeL _ _ _ _;conv=>whnf) | apply And.intro | rfl | exact Nat.le_refl _ | exact fun _ _=>rfl | exact rowEq0 _ _)
    all_goals first | exact q | (rw [hxl];rfl) | (rw [hxl];done) | (rw [hcp];rfl) | omega | skip
  ·replace hc:=of_decide_eq_false hc
   have hk:i=L.length:=by
    have h:¬(i:Int)<L.length:=hc
    omega
   subst hk
   rw [←hWl,List.take_length]
   conv=>whnf
   refine ⟨?_, [1000000], ?_⟩
   ·exact g0
   conv=>whnf
   refine ⟨rfl, ?_,trivial, ?_⟩
   all_goals exact ent
def parL:Int→List Rd→List (List (List UInt8))→List Rd×Int×Int
 | _,out, []=>(out,0,0)
 | i,out,w::r=>if w.length=0 then parL (i+1) out r else if (lineG w).2=false then ([],i+1,7) else if checkR (lineG w).1≠0 then ([],i+1,checkR (lineG w).1) else parL (i+1) (out++ [(lineG w).1]) r
def parseF (s:List UInt8):List Rd×Int×Int:=if 65536<s.length then ([],0,10) else if 4096<cntW (linesW s) then ([],0,10) else parL 0 [] (linesW s)
theorem parL_drop {W:List (List (List UInt8))} {i:Nat} (out:List Rd) (h:i<W.length):parL (i:Int) out (W.drop i)=if (W.getD i default).length=0 then parL ((i:Int)+1) out (W.drop (i+1)) else if (lineG (W.getD i default)).2=false then ([],(i:Int)+1,7) else
  if checkR (lineG (W.getD i default)).1≠0 then ([],(i:Int)+1,checkR (lineG (W.getD i default)).1) else parL ((i:Int)+1) (out++ [(lineG (W.getD i default)).1]) (W.drop (i+1)):=by
 rw [List.drop_eq_getElem_cons h]
 have:W.getD i default=W[i]:=by simp [List.getD,h]
 rw [this];rfl
theorem lineG_lens {s:List UInt8} (hs:s.length≤65536) {i:Nat} (h:i<(linesW s).length):((linesW s).getD i default).length≤65537∧∀k,k<((linesW s).getD i default).length→(((linesW s).getD i default).getD k default).length≤65536:=by
 rw [linesW_len] at h
 rw [linesW_getD h]
 have h1:=(splitC_len 10 s).2 _ (getD_mem h)
 have h2:=wordsB_len isBl ((splitC 10 s).getD i default)
 exact ⟨by omega,fun k hk=>by have:=wordsB_mem (getD_mem hk);omega⟩
theorem call30 (s:List UInt8) (hs:s.length≤4611686018427387904):PureCall Tryz.prog 30 [.str s] [] ⟨.tup [.sl 0 4 (parseF s).1.length (fl eRd (parseF s).1), .int .i64 (parseF s).2.1, .int .i64 (parseF s).2.2], [], []⟩:=by
 refine pure_call mix Tryz.func30 fits30 rfl ?_
 conv=>whnf
 refine ⟨?_,fun hc=> ?_,fun hc=> ?_⟩
 ·exact g0
 ·simp only [bp] at hc
  rw [show parseF s=([],0,10) by unfold parseF;rw [if_pos (by omega)]]
  conv=>whnf
  refine ⟨?_, [], ?_⟩
  ·exact g0
  conv=>whnf
  refine ⟨rfl, ?_,trivial,trivial⟩
  all_goals exact ent
 simp only [bp] at hc
 have hs2:s.length≤65536:=by omega
 have hll:=linesW_len s
 have hll2:=(splitC_len 10 s).1
 have hcn:=cntW_le (linesW s)
 have hlen:=fun i=>lineG_lens hs2 (i:=i)
 conv=>whnf
 refine ⟨_,fun _=>call85 s hs2, ?_⟩
 conv=>whnf
 refine ⟨?_,fun hc2=> ?_,fun hc2=> ?_⟩
 ·exact g0
 ·simp only [bp] at hc2
  rw [show parseF s=([],0,10) by unfold parseF;rw [if_neg (by omega),if_pos (by omega)]]
  conv=>whnf
  refine ⟨?_, [], ?_⟩
  ·exact g0
  conv=>whnf
  refine ⟨rfl, ?_,trivial,trivial⟩
  all_goals exact ent
 simp only [bp] at hc2
 rw [show parseF s=parL 0 [] (linesW s) by unfold parseF;rw [if_neg (by omega),if_neg (by omega)]]
 generalize linesW s=W at hll hcn hlen⊢
 have hWl:W.length≤65537:=by omega
 conv=>whnf
 refine ⟨trivial, ?_⟩
 refine LSem.adopt 7 1000000 109 4 4 rfl rfl ?_
 refine LSem.loop (n:=55) mix (α:=Nat×List Rd) (fun x=>x.1≤W.length∧x.2.length≤x.1∧parL (x.1:Int) x.2 (W.drop x.1)=parL 0 [] W)
  (fun x=> [(7, .os 1000000),(23, .os 288),(24, .int .i64 W.length),(25, .int .i64 x.1)])
  (fun x=> [(1000000, .row 0 109 4 x.2.length (fl eRd x.2)),(288, .row 0 181 1 W.length (fl eWs W))]) (fun x=>W.length - x.1) (0, []) ?_ ?_ ?_
 ·exact ⟨Nat.zero_le _,Nat.le_refl _,rfl⟩
 ·refine ⟨rfl,rfl, ?_, ?_⟩
  all_goals exact ent
 ·intro x hx
  obtain ⟨i,out⟩:=x
  obtain ⟨hi,ho,hp⟩:=hx
  dsimp only at hi ho hp
  have hj:((i:Int)).toNat=i:=by omega
  conv=>whnf
  refine ⟨trivial,fun hc3=> ?_,fun hc3=> ?_⟩
  ·replace hc3:=of_decide_eq_true hc3
   have hlt:i<W.length:=by
    have h:(i:Int)<W.length:=hc3
    omega
   obtain ⟨hl1,hl2⟩:=hlen i hlt
   rw [parL_drop out hlt] at hp
   conv=>whnf
   dsimp only
   rw [hj]
   refine ⟨?_,fun hz=> ?_,fun hz=> ?_⟩
   ·exact g0
   ·simp only [bp] at hz
    rw [if_pos (by omega)] at hp
    conv=>whnf
    refine ⟨?_,(i+1,out),⟨hlt,by dsimp only;omega,hp⟩, ?_,rfl,rfl, ?_, ?_⟩
    ·exact g0
    ·dsimp only;omega
    all_goals repeat' (first | exact True.intro | refine leF_cons rfl ?_ ?_ | refine leS_cons rfl ?_ ?_ | (show PLe _ _ _ _;conv=>whnf) | (show SLe _ _ _ _;conv=>whnf) | (show PLeL _ _ _ _;conv=>whnf) | apply And.intro | rfl | exact Nat.le_refl _ | exact fun _ _=>rfl | exact rowEq0 _ _)
    all_goals first | (dsimp only;omega) | skip
   simp only [bp] at hz
   rw [if_neg (by omega)] at hp
   conv=>whnf
   refine ⟨_,fun _=>call86 1 (W.getD i default) (by omega) (fun k hk=>by have:=hl2 k hk;omega), ?_⟩
   generalize lineG (W.getD i default)=R at hp⊢
   conv=>whnf
   refine ⟨?_,fun h1=> ?_,fun h1=> ?_⟩
   ·exact g0
   ·simp only [bp] at h1
    rw [if_pos h1] at hp
    rw [←hp]
    conv=>whnf
    refine ⟨?_, [], ?_⟩
    ·exact g0
    conv=>whnf
    refine ⟨rfl, ?_,trivial,trivial⟩
    all_goals exact ent
   simp only [bp] at h1
   rw [if_neg (by rw [h1];decide)] at hp
   conv=>whnf
   refine ⟨_,fun _=>call87 R.1, ?_⟩
   conv=>whnf
   refine ⟨?_,fun h2=> ?_,fun h2=> ?_⟩
   ·exact g0
   ·have h2':checkR R.1≠0:=by simpa using h2
    rw [if_pos h2'] at hp
    rw [←hp]
    conv=>whnf
    refine ⟨?_, [], ?_⟩
    ·exact g0
    conv=>whnf
    refine ⟨rfl, ?_,trivial,trivial⟩
    all_goals exact ent
   ·have h2':¬checkR R.1≠0:=by simpa using h2
    rw [if_neg h2'] at hp
    have q:=fl_push eRd out R.1
    have hxl:(out++ [R.1]).length=out.length+1:=by simp
    conv=>whnf
    refine ⟨?_,(i+1,out++ [R.1]),⟨hlt,by dsimp only;rw [hxl];omega,hp⟩, ?_,rfl,rfl, ?_, ?_⟩
    ·exact g0
    ·dsimp only;omega
    all_goals repeat' (first | exact True.intro | refine leF_cons rfl ?_ ?_ | refine leS_cons rfl ?_ ?_ | (show PLe _ _ _ _;conv=>whnf) | (show SLe _ _ _ _;conv=>whnf) | (show PLeL _ _ _ _;conv=>whnf) | apply And.intro | rfl | exact Nat.le_refl _ | exact fun _ _=>rfl | exact rowEq0 _ _)
    all_goals first | exact q | (dsimp only;rw [hxl];rfl) | (dsimp only;rw [hxl];done) | (dsimp only;omega) | skip
  ·replace hc3:=of_decide_eq_false hc3
   have hk:i=W.length:=by
    have h:¬(i:Int)<W.length:=hc3
    omega
   subst hk
   rw [List.drop_length] at hp
   have hp2:(out,(0:Int),(0:Int))=parL 0 [] W:=hp
   rw [←hp2]
   conv=>whnf
   refine ⟨?_, [], ?_⟩
   ·exact g0
   conv=>whnf
   refine ⟨rfl, ?_,trivial,trivial⟩
   all_goals exact ent
def RdV (r:Rd):Prop:=(0≤r.g∧r.g≤255)∧(0≤r.t∧r.t≤16777216)∧(0≤r.v∧r.v≤1073741824)∧0≤r.f∧r.f≤2
theorem checkR_V {r:Rd} (h:checkR r=0):RdV r:=by
 unfold checkR at h
 split at h
 ·split at h
  ·split at h
   ·split at h
    ·exact ⟨‹_›,‹_›,‹_›,‹_›⟩
    ·cases h
   ·cases h
  ·cases h
 ·cases h
theorem V_checkR {r:Rd} (h:RdV r):checkR r=0:=by
 unfold checkR;rw [if_pos h.1,if_pos h.2.1,if_pos h.2.2.1,if_pos h.2.2.2]
theorem lim_ok {l:List Rd} (h:limR l=0):l.length≤4096∧∀i,i<l.length→RdV (l.getD i default):=by
 unfold limR at h
 split at h
 ·cases h
 ·exact ⟨by omega,fun i hi=>checkR_V (scan_zero h i (Nat.zero_le _) (by omega))⟩
end G06
def c31:C:=(sr [kk 2 (.al [(.nil 2),(.int .i64 0)])] (sr [km 3 0,km 4 0,kk 5 (cl 12 [4,(cn 20)]),km 6 0,kk 7 (cl 12 [6,(cn 10)]),kk 8 (cl 88 [3,5,7,(cn 60),(cn 100),(.c (.bool false))]),km 9 0,kk 10 (cl 12 [9,(cn 40)]),kk 11 (.bd [(.nil 2),(.int .i64 0)] [(0,1,8),(1,1,10)]),kz (.st 2 2 11)] .ret))
theorem fits31:fits Tryz.prog false Tryz.f31 1 12 [(2,some (2,true))]=some c31.er:=by kernel_rfl
def c153:C:=(sr [kk 2 (.bx 2 0),kk 4 (.mv (cn 0))] (sr [kk 5 (.fa 0 2),kk 6 (.fa 0 5),kk 7 (.ld 1 false 6),km 8 1,kk 9 (.mx [8,(cn 0)]),kk 10 (cl 97 [7,9]),km 4 10] .ret))
theorem fits153:fits Tryz.prog false Tryz.f153 2 11 [(4,none)]=some c153.er:=by kernel_rfl
def c91:C:=(sr [kk 2 (.bx 2 0),kk 3 (.bx 4 1),kk 4 (.mv (cn 0)),kk 5 (.mv (.c (.bool false)))] (.seq (sr [kk 6 (.fa 3 3),kk 7 (.ld 1 false 6)] (.block 0 (sr [kk 9 (.bi false .eql 7 (cn 2)),km 8 9] (.cond 8 (sr [kk 4 (.mv (cn 0)),kk 5 (.mv (.c (.bool false)))] .ret) (sr [kk 11 (.bi false .eql 7 (cn 1)),km 10 11] (.cond 10 (sr [kk 12 (.ld 2 true 2),kk 13 (.fa 2 3),kk 14 (.ld 1 false 13),kk 15 (.fa 0 2),kk 16 (.fa 1 15),kk 17 (.ld 1 false 16),kk 18 (.bi false .sub 14 17),kk 19 (cl 153 [12,18]),km 4 19,kk 5 (.mv (.c (.bool true)))] .ret) .skip)))))) (sr [kk 20 (.ld 2 true 2),kk 21 (.fa 2 3),kk 22 (.ld 1 false 21),kk 23 (cl 153 [20,22]),km 4 23,kk 5 (.mv (.c (.bool true)))] .ret)))
theorem fits91:fits Tryz.prog false Tryz.f91 2 24 [(4,none),(5,none)]=some c91.er:=by kernel_rfl
def c89:C:=(sr [kk 1 (.bx 2 0),kk 2 (.mv (cn 0))] (.seq (sr [kk 4 (.fa 0 1),kk 5 (.ld 1 false 4),kk 6 (cl 152 [5]),km 3 6] (sr [km 7 3,kk 8 (.bi false .neq 7 (cn 0))] (.cond 8 (sr [km 9 3,km 2 9] .ret) .skip))) (.seq (sr [kk 10 (.fa 1 1),kk 11 (.ld 1 false 10),kk 12 (cl 56 [11,(cn 16777216)]),kk 13 (.un false .not 12)] (.cond 13 (sr [kk 2 (.mv (cn 1))] .ret) .skip)) (sr [kk 2 (.mv (cn 0))] .ret))))
theorem fits89:fits Tryz.prog false Tryz.f89 1 14 [(2,none)]=some c89.er:=by kernel_rfl
def c32L1:C:=(sr [kk 28 (.bi false .lss 27 26)] (.seq (.cond 28 .skip (.exit 0)) (.seq (.block 1 (sr [kk 29 (.ia 4 25 27),kk 30 (.ld 4 true 29),kk 12 (.al [(.int .i64 0),(.int .i64 0),(.int .i64 0),(.int .i64 0)]),kz (.st 4 12 30)] (sr [kk 32 (.ld 2 true 2),kk 33 (.bd [(.nil 2),(.int .i64 0)] [(0,2,32)]),kk 34 (.ld 4 true 12),kk 35 (cl 91 [33,34]),km 31 35,kk 36 (.ex 31 0),kk 37 (.ex 31 1),km 13 36,km 14 37] (.reg [km 38 9,km 39 13,kk 40 (.bs 3 1 [39]),kk 41 (.app 3 1 8 38 40),km 42 10,km 43 14,kk 44 (.bs 4 1 [43]),kk 45 (.app 4 1 1 42 44),km 9 41,km 10 45])))) (.reg [kk 46 (.bi false .add 27 (cn 1)),km 27 46]))))
def c32:C:=(sr [kk 2 (.bx 2 0),kk 4 (.mv (.c (.nil 1))),kk 5 (.mv (.c (.nil 1))),kk 6 (.mv (cn 0))] (.seq (sr [kk 15 (.ld 2 true 2),kk 16 (cl 89 [15]),km 7 16] (sr [km 17 7,kk 18 (.bi false .neq 17 (cn 0))] (.cond 18 (sr [km 19 7,kk 4 (.mv (.c (.nil 1))),kk 5 (.mv (.c (.nil 1))),km 6 19] .ret) .skip))) (.seq (sr [km 20 1,kk 21 (cl 90 [20]),km 8 21] (sr [km 22 8,kk 23 (.bi false .neq 22 (cn 0))] (.cond 23 (sr [km 24 8,kk 4 (.mv (.c (.nil 1))),kk 5 (.mv (.c (.nil 1))),km 6 24] .ret) .skip))) (sr [kk 9 (.mv (.c (.nil 1)))] (sr [kk 10 (.mv (.c (.nil 1)))] (.seq (sr [km 25 1,kk 26 (.len 25),kk 27 (.mv (cn 0))] (.block 0 (.loop c32L1))) (sr [km 47 9,km 48 10,km 4 47,km 5 48,kk 6 (.mv (cn 0))] .ret)))))))
theorem fits32:fits Tryz.prog false Tryz.f32 2 49 [(4,none),(5,none),(6,none)]=some c32.er:=by kernel_rfl
structure Rat where
 c:List Pt
 ice:Int
def eRat (τ:Nat) (r:Rat):List PV:= [.sl τ 2 r.c.length (fl ePt r.c), .int .i64 r.ice]
def ratC (d:Dk):Cst:=curveS (nxtD (nxtD d 20) 10) (nxt d 20) (nxt (nxtD d 20) 10) 60 100 0
def ratF (d:Dk):Rat×Dk:=(⟨(ratC d).L,nxt (ratC d).d 40⟩,nxtD (ratC d).d 40)
theorem ratC_ok (d:Dk):MadeC (ratC d).L∧(ratC d).d.at_≤d.at_+11:=by
 have r0:=nxt_lt d (n:=20) (by omega)
 have a0:=nxtD_at d 20
 have r1:=nxt_lt (nxtD d 20) (n:=10) (by omega)
 have a1:=nxtD_at (nxtD d 20) 10
 have h:=curve_made (nxtD (nxtD d 20) 10) (x:=nxt d 20) (y:=nxt (nxtD d 20) 10) (dx:=60) (dy:=100) (least:=0) (by omega) (by omega) (by omega) (by omega) (by omega)
 unfold ratC
 exact ⟨h.1,by omega⟩
theorem call31 (d:Dk) (hd:d.at_≤900000000):PureCall Tryz.prog 31 [.pt 0 0 0] [.box (eDk 1 d)] ⟨.agg (eRat 0 (ratF d).1), [.box (eDk 1 (ratF d).2)], []⟩:=by
 refine pure_call mix Tryz.func31 fits31 rfl ?_
 have hC:=ratC_ok d
 have r0:=nxt_lt d (n:=20) (by omega)
 have a0:=nxtD_at d 20
 have r1:=nxt_lt (nxtD d 20) (n:=10) (by omega)
 have a1:=nxtD_at (nxtD d 20) 10
 conv=>whnf
 refine ⟨_,fun _=>call_next 1 d 20 (by omega) (by omega), ?_⟩
 conv=>whnf
 refine ⟨_,fun _=>call_next 1 (nxtD d 20) 10 (by omega) (by omega), ?_⟩
 conv=>whnf
 refine ⟨_,fun _=>call88 (nxtD (nxtD d 20) 10) (nxt d 20) (nxt (nxtD d 20) 10) 60 100 false (by omega) (by omega) (by omega) (by omega) (by omega), ?_⟩
 rw [show ratF d=(⟨(ratC d).L,nxt (ratC d).d 40⟩,nxtD (ratC d).d 40) from rfl]
 rw [show curveS (nxtD (nxtD d 20) 10) (nxt d 20) (nxt (nxtD d 20) 10) 60 100 (lst false)=ratC d from rfl]
 generalize ratC d=K at hC⊢
 dsimp only
 conv=>whnf
 refine ⟨_,fun _=>call_next 1 K.d 40 (by omega) (by omega), ?_⟩
 conv=>whnf
 exact retB
def atF (r:Rat) (s:Int):Int:=valC r.c (mx s 0)
theorem call153 (τ:Nat) (r:Rat) (s:Int) (hg:GoodC r.c):PureCall Tryz.prog 153 [.agg (eRat τ r), .int .i64 s] [] ⟨.int .i64 (atF r s), [], []⟩:=by
 refine pure_call mix Tryz.func153 fits153 rfl ?_
 conv=>whnf
 refine ⟨_,fun _=>G02.call97 _ r.c _ hg, ?_⟩
 conv=>whnf
 exact ret
open G06 in
def flowR (r:Rat) (g:Rd):Int×Bool:=if g.f=2 then (0,false) else if g.f=1 then (atF r (g.v - r.ice),true) else (atF r g.v,true)
theorem call91 (τ:Nat) (r:Rat) (g:G06.Rd) (hg:GoodC r.c) (hi:0≤r.ice∧r.ice≤16777216) (hv:0≤g.v∧g.v≤1073741824):PureCall Tryz.prog 91 [.agg (eRat τ r), .agg (G06.eRd g)] [] ⟨.tup [.int .i64 (flowR r g).1, .bool (flowR r g).2], [], []⟩:=by
 refine pure_call mix Tryz.func91 fits91 rfl ?_
 unfold flowR
 conv=>whnf
 refine ⟨by exact g0,fun h=> ?_,fun h=> ?_⟩
 ·simp only [bp] at h
  rw [if_pos h]
  conv=>whnf
  exact ret
 simp only [bp] at h
 rw [if_neg h]
 conv=>whnf
 refine ⟨by exact g0,fun h=> ?_,fun h=> ?_⟩
 ·simp only [bp] at h
  rw [if_pos h]
  conv=>whnf
  refine ⟨_,fun _=>call153 _ r _ hg, ?_⟩
  conv=>whnf
  exact ret
 simp only [bp] at h
 rw [if_neg h]
 conv=>whnf
 refine ⟨_,fun _=>call153 _ r _ hg, ?_⟩
 conv=>whnf
 exact ret
def RatOK (r:Rat):Prop:=GoodC r.c∧0≤r.ice∧r.ice≤16777216
theorem call89 (τ:Nat) (r:Rat) (h:RatOK r):PureCall Tryz.prog 89 [.agg (eRat τ r)] [] ⟨.int .i64 0, [], []⟩:=by
 refine pure_call mix Tryz.func89 fits89 rfl ?_
 conv=>whnf
 refine ⟨_,fun _=>G02.call152 _ r.c, ?_⟩
 rw [(check_good r.c).2 h.1]
 conv=>whnf
 refine ⟨by exact g0,fun h=>absurd h (by decide),fun _=> ?_⟩
 conv=>whnf
 refine ⟨_,fun _=>G02.call56 r.ice 16777216, ?_⟩
 rw [decide_eq_true h.2]
 conv=>whnf
 refine ⟨by exact g0,fun h=>absurd h (by decide),fun _=> ?_⟩
 conv=>whnf
 exact ret
def flowsR (r:Rat):List G06.Rd→List Int×List Bool
 | []=>([], [])
 | g::l=>((flowR r g).1::(flowsR r l).1,(flowR r g).2::(flowsR r l).2)
theorem flowsR_snoc (r:Rat) (g:G06.Rd):∀l,flowsR r (l++ [g])=((flowsR r l).1++ [(flowR r g).1],(flowsR r l).2++ [(flowR r g).2])
 | []=>rfl
 | x::l=>by rw [List.cons_append,flowsR,flowsR_snoc r g l];rfl
theorem flowsR_len (r:Rat):∀l,(flowsR r l).1.length=l.length∧(flowsR r l).2.length=l.length
 | []=>⟨rfl,rfl⟩
 | x::l=>by have:=flowsR_len r l;simp only [flowsR,List.length_cons];omega
theorem call32 (τ τ':Nat) (r:Rat) (l:List G06.Rd) (h:RatOK r) (hl:l.length≤1000000) (hv:∀i,i<l.length→G06.RdV (l.getD i default)):PureCall Tryz.prog 32 [.agg (eRat τ r), .sl τ' 4 l.length (fl G06.eRd l)] []
  ⟨.tup [.sl 0 1 (flowsR r l).1.length (fl eInt (flowsR r l).1), .sl 0 1 (flowsR r l).2.length (fl G08.eBool (flowsR r l).2), .int .i64 0], [], []⟩:=by
 refine pure_call mix Tryz.func32 fits32 rfl ?_
 conv=>whnf
 refine ⟨_,fun _=>call89 _ r h, ?_⟩
 conv=>whnf
 refine ⟨by exact g0,fun h=>absurd h (by decide),fun _=> ?_⟩
 conv=>whnf
 refine ⟨_,fun _=>G06.call90 _ l (by omega), ?_⟩
 have hall:G06.allR l=0:=scan_allz fun k _ hk=>G06.V_checkR (hv k (by omega))
 rw [hall]
 conv=>whnf
 refine ⟨by exact g0,fun h=>absurd h (by decide),fun _=> ?_⟩
 conv=>whnf
 refine ⟨by exact g0, ?_⟩
 refine LSem.adopt 9 1000000 3 1 1 rfl rfl ?_
 refine LSem.adopt 10 1000001 4 1 1 rfl rfl ?_
 refine LSem.loop (n:=49) mix (α:=Nat×List Int×List Bool) (fun s=>s.1≤l.length∧s.2=flowsR r (l.take s.1)∧s.2.1.length=s.1∧s.2.2.length=s.1)
  (fun s=> [(2, .pt 32 0 0),(9, .os 1000000),(10, .os 1000001),(25, .sl τ' 4 l.length (fl G06.eRd l)),(26, .int .i64 l.length),(27, .int .i64 s.1)])
  (fun s=> [(32, .box (eRat τ r)),(1000000, .row 0 3 1 s.2.1.length (fl eInt s.2.1)),(1000001, .row 0 4 1 s.2.2.length (fl G08.eBool s.2.2))]) (fun s=>l.length - s.1) (0, [], []) ⟨Nat.zero_le _,rfl,rfl,rfl⟩ ?_ ?_
 ·refine ⟨rfl,rfl, ?_, ?_⟩<;>exact ent
 rintro ⟨i,A,B⟩ ⟨hi,hAB,hA,hB⟩
 dsimp only at hi hAB hA hB⊢
 conv=>whnf
 refine ⟨trivial,fun hc=> ?_,fun hc=> ?_⟩
 ·replace hc:=of_decide_eq_true hc
  have hlt:i<l.length:=by
   have h:(i:Int)<l.length:=hc
   omega
  have hj:((i:Int)).toNat=i:=by omega
  have hvi:=hv i hlt
  have hst:(A++ [(flowR r (l.getD i default)).1],B++ [(flowR r (l.getD i default)).2])=flowsR r (l.take (i+1)):=by
   rw [List.take_add_one,getD_some hlt,show (some (l.getD i default)).toList= [l.getD i default] from rfl,flowsR_snoc,←hAB]
  conv=>whnf
  rw [hj]
  refine ⟨_,fun _=>call91 _ r (l.getD i default) h.1 h.2 hvi.2.2.1, ?_⟩
  generalize flowR r (l.getD i default)=y at hst⊢
  have q:=fl_push eInt A y.1
  have q2:=fl_push G08.eBool B y.2
  have hxl:(A++ [y.1]).length=A.length+1:=by simp
  have hyl:(B++ [y.2]).length=B.length+1:=by simp
  conv=>whnf
  refine ⟨by exact g0,(i+1,A++ [y.1],B++ [y.2]),⟨hlt,hst,by dsimp only;omega,by dsimp only;omega⟩,by dsimp only;omega,rfl,rfl, ?_, ?_⟩<;>exact ent
 ·have hk:i=l.length:=by
    have h:¬(i:Int)<l.length:=of_decide_eq_false hc
    omega
  subst hk
  rw [List.take_length] at hAB
  rw [←hAB]
  conv=>whnf
  exact ret
end Pv
end Go.Proofs.YtdcgnfkkklbckaaGreatDoor
