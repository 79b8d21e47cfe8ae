/- LAW 29, THE WALKS, 3: both checks. -/
import Derived.Test.YtiknpkadlckmjaaW2
namespace Go.Proofs.Ytiknpkadlckmjaa
namespace Pv

def errAt (l : List Me) (i : Nat) : Int :=
  if (l.getD i default).t < 0 ∨ (l.getD i default).t > 16777216 then 6
  else if 0 < i ∧ (l.getD i default).t ≤ (l.getD (i - 1) default).t then 4
  else if (l.getD i default).v < 0 ∨ (l.getD i default).v > 274877906944 ∨ (l.getD i default).o < 0 ∨ (l.getD i default).o > 274877906944 then 1 else 0
def widAt (l : List Me) (c : Ck) (i : Nat) : Int := if (boundsF l c (l.getD i default).t).lo > (boundsF l c (l.getD i default).t).hi then 48 else 0
def checkF (l : List Me) (c : Ck) : Int :=
  if limitsF c ≠ 0 then limitsF c else if l.length > 400 then 10 else if scan (errAt l) 0 l.length ≠ 0 then scan (errAt l) 0 l.length else scan (widAt l c) 0 l.length

theorem near_of {l : List Me} {c : Ck} {time : Int} (hc : limitsF c = 0) (hs : scan (errAt l) 0 l.length = 0) (ht : 0 ≤ time ∧ time ≤ 16777216) : ∀ m ∈ l, Near m c time := by
  intro m hm
  obtain ⟨i, hi, rfl⟩ := List.getElem_of_mem hm
  have h1 := scan_zero hs i (by omega) (by omega)
  have e : l.getD i default = l[i] := by rw [List.getD_eq_getElem?_getD, List.getElem?_eq_getElem hi]; rfl
  unfold errAt at h1
  rw [e] at h1
  unfold limitsF at hc
  split at hc
  · omega
  · rename_i hc'
    split at h1
    · omega
    · split at h1
      · omega
      · split at h1
        · omega
        · unfold Near; omega
theorem time_of {l : List Me} {i : Nat} (hs : scan (errAt l) 0 l.length = 0) (hi : i < l.length) : 0 ≤ (l.getD i default).t ∧ (l.getD i default).t ≤ 16777216 := by
  have h1 := scan_zero hs i (by omega) (by omega)
  unfold errAt at h1
  split at h1
  · omega
  · omega
theorem check_hit {l : List Me} {c : Ck} {i : Nat} {e : Int} (hlim : limitsF c = 0) (hlen : l.length ≤ 400) (hsc : scan (errAt l) 0 l.length = scan (errAt l) i (l.length - i)) (hi : i < l.length) (he : errAt l i = e) (h0 : e ≠ 0) : e = checkF l c := by
  have h1 : scan (errAt l) i (l.length - i) = e := by rw [scan_hit (by omega) (by rw [he]; exact h0), he]
  unfold checkF
  rw [if_neg (by simp [hlim]), if_neg (by omega), hsc, h1, if_pos h0]
theorem check_wide {l : List Me} {c : Ck} (hlim : limitsF c = 0) (hlen : l.length ≤ 400) (hsc : scan (errAt l) 0 l.length = 0) : checkF l c = scan (widAt l c) 0 l.length := by
  unfold checkF
  rw [if_neg (by simp [hlim]), if_neg (by omega), hsc, if_neg (by simp)]

def c13L1 : C := (.seq (.reg [⟨(some 22), 352, none, .bi false .lss (.t 21) (.t 20)⟩])
  (.seq (.cond (.t 22) .skip (.exit 0))
  (.seq (.block 1 (.seq (.reg [⟨(some 23), 368, none, .mv (.t 21)⟩,
    ⟨(some 24), 384, none, .ia 3 (.t 19) (.t 21)⟩,
    ⟨(some 25), 400, none, .ld 3 true (.t 24)⟩,
    ⟨(some 7), 112, none, .al [(.int .i64 0), (.int .i64 0), (.int .i64 0)]⟩,
    ⟨(some 6), 96, none, .mv (.t 23)⟩,
    ⟨none, 0, none, .st 3 (.t 7) (.t 25)⟩])
  (.block 2 (.seq (.reg [⟨(some 27), 432, none, .fa 0 (.t 7)⟩,
    ⟨(some 28), 448, none, .ld 1 false (.t 27)⟩,
    ⟨(some 29), 464, none, .bi false .lss (.t 28) (.c (.int .i64 0))⟩,
    ⟨(some 30), 480, none, .mv (.t 29)⟩,
    ⟨(some 31), 496, (some (30, false)), .fa 0 (.t 7)⟩,
    ⟨(some 32), 512, (some (30, false)), .ld 1 false (.t 31)⟩,
    ⟨(some 33), 528, (some (30, false)), .bi false .gtr (.t 32) (.c (.int .i64 16777216))⟩,
    ⟨(some 34), 544, none, .pick (.t 30) (.c (.bool true)) (.t 33)⟩,
    ⟨(some 26), 416, none, .mv (.t 34)⟩])
  (.cond (.t 26) (.seq (.reg [⟨(some 4), 64, none, .mv (.c (.int .i64 6))⟩])
  .ret) (.seq (.drw [⟨(some 36), 576, none, .mv (.t 6)⟩,
    ⟨(some 37), 592, none, .bi false .gtr (.t 36) (.c (.int .i64 0))⟩,
    ⟨(some 38), 608, none, .mv (.t 37)⟩,
    ⟨(some 39), 624, (some (38, true)), .fa 0 (.t 7)⟩,
    ⟨(some 40), 640, (some (38, true)), .ld 1 false (.t 39)⟩,
    ⟨(some 41), 656, (some (38, true)), .mv (.t 0)⟩,
    ⟨(some 42), 672, (some (38, true)), .mv (.t 6)⟩,
    ⟨(some 43), 688, (some (38, true)), .bi false .sub (.t 42) (.c (.int .i64 1))⟩,
    ⟨(some 44), 704, (some (38, true)), .ia 3 (.t 41) (.t 43)⟩,
    ⟨(some 45), 720, (some (38, true)), .fa 0 (.t 44)⟩,
    ⟨(some 46), 736, (some (38, true)), .ld 1 false (.t 45)⟩,
    ⟨(some 47), 752, (some (38, true)), .bi false .leq (.t 40) (.t 46)⟩,
    ⟨(some 48), 768, none, .pick (.t 38) (.t 47) (.c (.bool false))⟩,
    ⟨(some 35), 560, none, .mv (.t 48)⟩]
    [(3, 5, 39), (3, 6, 39), (3, 7, 39), (3, 8, 39), (3, 9, 39), (3, 10, 39), (4, 5, 40), (4, 6, 40), (4, 7, 40), (4, 8, 40), (4, 9, 40), (4, 10, 40), (5, 6, 41), (5, 7, 41)])
  (.cond (.t 35) (.seq (.reg [⟨(some 4), 64, none, .mv (.c (.int .i64 4))⟩])
  .ret) (.seq (.reg [⟨(some 50), 800, none, .fa 1 (.t 7)⟩,
    ⟨(some 51), 816, none, .ld 1 false (.t 50)⟩,
    ⟨(some 52), 832, none, .bi false .lss (.t 51) (.c (.int .i64 0))⟩,
    ⟨(some 53), 848, none, .mv (.t 52)⟩,
    ⟨(some 54), 864, (some (53, false)), .fa 1 (.t 7)⟩,
    ⟨(some 55), 880, (some (53, false)), .ld 1 false (.t 54)⟩,
    ⟨(some 56), 896, (some (53, false)), .bi false .gtr (.t 55) (.c (.int .i64 274877906944))⟩,
    ⟨(some 57), 912, none, .pick (.t 53) (.c (.bool true)) (.t 56)⟩,
    ⟨(some 58), 928, none, .mv (.t 57)⟩,
    ⟨(some 59), 944, (some (58, false)), .fa 2 (.t 7)⟩,
    ⟨(some 60), 960, (some (58, false)), .ld 1 false (.t 59)⟩,
    ⟨(some 61), 976, (some (58, false)), .bi false .lss (.t 60) (.c (.int .i64 0))⟩,
    ⟨(some 62), 992, none, .pick (.t 58) (.c (.bool true)) (.t 61)⟩,
    ⟨(some 63), 1008, none, .mv (.t 62)⟩,
    ⟨(some 64), 1024, (some (63, false)), .fa 2 (.t 7)⟩,
    ⟨(some 65), 1040, (some (63, false)), .ld 1 false (.t 64)⟩,
    ⟨(some 66), 1056, (some (63, false)), .bi false .gtr (.t 65) (.c (.int .i64 274877906944))⟩,
    ⟨(some 67), 1072, none, .pick (.t 63) (.c (.bool true)) (.t 66)⟩,
    ⟨(some 49), 784, none, .mv (.t 67)⟩])
  (.cond (.t 49) (.seq (.reg [⟨(some 4), 64, none, .mv (.c (.int .i64 1))⟩])
  .ret) .skip)))))))))
  (.reg [⟨(some 68), 1088, none, .bi false .add (.t 21) (.c (.int .i64 1))⟩,
    ⟨(some 21), 336, none, .mv (.t 68)⟩]))))
def c13L2 : C := (.seq (.reg [⟨(some 72), 1152, none, .bi false .lss (.t 71) (.t 70)⟩])
  (.seq (.cond (.t 72) .skip (.exit 3))
  (.seq (.block 4 (.seq (.reg [⟨(some 73), 1168, none, .ia 3 (.t 69) (.t 71)⟩,
    ⟨(some 74), 1184, none, .ld 3 true (.t 73)⟩,
    ⟨(some 9), 144, none, .al [(.int .i64 0), (.int .i64 0), (.int .i64 0)]⟩,
    ⟨none, 0, none, .st 3 (.t 9) (.t 74)⟩])
  (.seq (.reg [⟨(some 75), 1200, none, .mv (.t 0)⟩,
    ⟨(some 76), 1216, none, .ld 4 true (.t 3)⟩,
    ⟨(some 77), 1232, none, .fa 0 (.t 9)⟩,
    ⟨(some 78), 1248, none, .ld 1 false (.t 77)⟩,
    ⟨(some 79), 1264, none, .call (.c (.fn (.func 31) [] [])) [(.t 75), (.t 76), (.t 78)]⟩,
    ⟨(some 10), 160, none, .al [(.int .i64 0), (.int .i64 0)]⟩,
    ⟨none, 0, none, .st 2 (.t 10) (.t 79)⟩])
  (.seq (.reg [⟨(some 80), 1280, none, .fa 0 (.t 10)⟩,
    ⟨(some 81), 1296, none, .ld 1 false (.t 80)⟩,
    ⟨(some 82), 1312, none, .fa 1 (.t 10)⟩,
    ⟨(some 83), 1328, none, .ld 1 false (.t 82)⟩,
    ⟨(some 84), 1344, none, .bi false .gtr (.t 81) (.t 83)⟩])
  (.cond (.t 84) (.seq (.reg [⟨(some 4), 64, none, .mv (.c (.int .i64 48))⟩])
  .ret) .skip)))))
  (.reg [⟨(some 85), 1360, none, .bi false .add (.t 71) (.c (.int .i64 1))⟩,
    ⟨(some 71), 1136, none, .mv (.t 85)⟩]))))
def c13 : C := (.seq (.reg [⟨(some 3), 48, none, .bx 4 (.t 1)⟩,
    ⟨(some 4), 64, none, .mv (.c (.int .i64 0))⟩])
  (.seq (.seq (.reg [⟨(some 11), 176, none, .ld 4 true (.t 3)⟩,
    ⟨(some 12), 192, none, .call (.c (.fn (.func 30) [] [])) [(.t 11)]⟩,
    ⟨(some 5), 80, none, .mv (.t 12)⟩])
  (.seq (.reg [⟨(some 13), 208, none, .mv (.t 5)⟩,
    ⟨(some 14), 224, none, .bi false .neq (.t 13) (.c (.int .i64 0))⟩])
  (.cond (.t 14) (.seq (.reg [⟨(some 15), 240, none, .mv (.t 5)⟩,
    ⟨(some 4), 64, none, .mv (.t 15)⟩])
  .ret) .skip)))
  (.seq (.seq (.reg [⟨(some 16), 256, none, .mv (.t 0)⟩,
    ⟨(some 17), 272, none, .len (.t 16)⟩,
    ⟨(some 18), 288, none, .bi false .gtr (.t 17) (.c (.int .i64 400))⟩])
  (.cond (.t 18) (.seq (.reg [⟨(some 4), 64, none, .mv (.c (.int .i64 10))⟩])
  .ret) .skip))
  (.seq (.seq (.reg [⟨(some 19), 304, none, .mv (.t 0)⟩,
    ⟨(some 20), 320, none, .len (.t 19)⟩,
    ⟨(some 21), 336, none, .mv (.c (.int .i64 0))⟩])
  (.block 0 (.loop c13L1)))
  (.seq (.seq (.reg [⟨(some 69), 1104, none, .mv (.t 0)⟩,
    ⟨(some 70), 1120, none, .len (.t 69)⟩,
    ⟨(some 71), 1136, none, .mv (.c (.int .i64 0))⟩])
  (.block 3 (.loop c13L2)))
  (.seq (.reg [⟨(some 4), 64, none, .mv (.c (.int .i64 0))⟩])
  .ret))))))
def c16L1 : C := (.seq (.reg [⟨(some 37), 592, none, .bi false .lss (.t 36) (.t 35)⟩])
  (.seq (.cond (.t 37) .skip (.exit 0))
  (.seq (.block 1 (.seq (.reg [⟨(some 38), 608, none, .mv (.t 36)⟩,
    ⟨(some 39), 624, none, .ia 3 (.t 34) (.t 36)⟩,
    ⟨(some 40), 640, none, .ld 3 true (.t 39)⟩,
    ⟨(some 6), 96, none, .al [(.int .i64 0), (.int .i64 0), (.int .i64 0)]⟩,
    ⟨(some 5), 80, none, .mv (.t 38)⟩,
    ⟨none, 0, none, .st 3 (.t 6) (.t 40)⟩])
  (.seq (.seq (.reg [⟨(some 41), 656, none, .fa 0 (.t 6)⟩,
    ⟨(some 42), 672, none, .ld 1 false (.t 41)⟩,
    ⟨(some 43), 688, none, .call (.c (.fn (.func 32) [] [])) [(.t 42), (.c (.int .i64 16777216))]⟩,
    ⟨(some 44), 704, none, .un false .not (.t 43)⟩])
  (.cond (.t 44) (.seq (.reg [⟨(some 4), 64, none, .mv (.c (.int .i64 6))⟩])
  .ret) .skip))
  (.seq (.seq (.drw [⟨(some 45), 720, none, .mv (.t 5)⟩,
    ⟨(some 46), 736, none, .bi false .gtr (.t 45) (.c (.int .i64 0))⟩,
    ⟨(some 47), 752, none, .mv (.t 46)⟩,
    ⟨(some 48), 768, (some (47, true)), .fa 0 (.t 6)⟩,
    ⟨(some 49), 784, (some (47, true)), .ld 1 false (.t 48)⟩,
    ⟨(some 50), 800, (some (47, true)), .mv (.t 0)⟩,
    ⟨(some 51), 816, (some (47, true)), .mv (.t 5)⟩,
    ⟨(some 52), 832, (some (47, true)), .bi false .sub (.t 51) (.c (.int .i64 1))⟩,
    ⟨(some 53), 848, (some (47, true)), .ia 3 (.t 50) (.t 52)⟩,
    ⟨(some 54), 864, (some (47, true)), .fa 0 (.t 53)⟩,
    ⟨(some 55), 880, (some (47, true)), .ld 1 false (.t 54)⟩,
    ⟨(some 56), 896, (some (47, true)), .bi false .leq (.t 49) (.t 55)⟩,
    ⟨(some 57), 912, none, .pick (.t 47) (.t 56) (.c (.bool false))⟩]
    [(3, 5, 48), (3, 6, 48), (3, 7, 48), (3, 8, 48), (3, 9, 48), (3, 10, 48), (4, 5, 49), (4, 6, 49), (4, 7, 49), (4, 8, 49), (4, 9, 49), (4, 10, 49), (5, 6, 50), (5, 7, 50)])
  (.cond (.t 57) (.seq (.reg [⟨(some 4), 64, none, .mv (.c (.int .i64 4))⟩])
  .ret) .skip))
  (.seq (.reg [⟨(some 58), 928, none, .fa 1 (.t 6)⟩,
    ⟨(some 59), 944, none, .ld 1 false (.t 58)⟩,
    ⟨(some 60), 960, none, .call (.c (.fn (.func 32) [] [])) [(.t 59), (.c (.int .i64 274877906944))]⟩,
    ⟨(some 61), 976, none, .un false .not (.t 60)⟩,
    ⟨(some 62), 992, none, .mv (.t 61)⟩,
    ⟨(some 63), 1008, (some (62, false)), .fa 2 (.t 6)⟩,
    ⟨(some 64), 1024, (some (62, false)), .ld 1 false (.t 63)⟩,
    ⟨(some 65), 1040, (some (62, false)), .call (.c (.fn (.func 32) [] [])) [(.t 64), (.c (.int .i64 274877906944))]⟩,
    ⟨(some 66), 1056, (some (62, false)), .un false .not (.t 65)⟩,
    ⟨(some 67), 1072, none, .pick (.t 62) (.c (.bool true)) (.t 66)⟩])
  (.cond (.t 67) (.seq (.reg [⟨(some 4), 64, none, .mv (.c (.int .i64 1))⟩])
  .ret) .skip))))))
  (.reg [⟨(some 68), 1088, none, .bi false .add (.t 36) (.c (.int .i64 1))⟩,
    ⟨(some 36), 576, none, .mv (.t 68)⟩]))))
def c16L2 : C := (.seq (.reg [⟨(some 72), 1152, none, .bi false .lss (.t 71) (.t 70)⟩])
  (.seq (.cond (.t 72) .skip (.exit 2))
  (.seq (.block 3 (.seq (.reg [⟨(some 73), 1168, none, .ia 3 (.t 69) (.t 71)⟩,
    ⟨(some 74), 1184, none, .ld 3 true (.t 73)⟩,
    ⟨(some 8), 128, none, .al [(.int .i64 0), (.int .i64 0), (.int .i64 0)]⟩,
    ⟨none, 0, none, .st 3 (.t 8) (.t 74)⟩])
  (.seq (.reg [⟨(some 75), 1200, none, .mv (.t 0)⟩,
    ⟨(some 76), 1216, none, .ld 4 true (.t 3)⟩,
    ⟨(some 77), 1232, none, .fa 0 (.t 8)⟩,
    ⟨(some 78), 1248, none, .ld 1 false (.t 77)⟩,
    ⟨(some 79), 1264, none, .call (.c (.fn (.func 33) [] [])) [(.t 75), (.t 76), (.t 78)]⟩,
    ⟨(some 9), 144, none, .al [(.int .i64 0), (.int .i64 0)]⟩,
    ⟨none, 0, none, .st 2 (.t 9) (.t 79)⟩])
  (.seq (.reg [⟨(some 80), 1280, none, .fa 0 (.t 9)⟩,
    ⟨(some 81), 1296, none, .ld 1 false (.t 80)⟩,
    ⟨(some 82), 1312, none, .fa 1 (.t 9)⟩,
    ⟨(some 83), 1328, none, .ld 1 false (.t 82)⟩,
    ⟨(some 84), 1344, none, .bi false .gtr (.t 81) (.t 83)⟩])
  (.cond (.t 84) (.seq (.reg [⟨(some 4), 64, none, .mv (.c (.int .i64 48))⟩])
  .ret) .skip)))))
  (.reg [⟨(some 85), 1360, none, .bi false .add (.t 71) (.c (.int .i64 1))⟩,
    ⟨(some 71), 1136, none, .mv (.t 85)⟩]))))
def c16 : C := (.seq (.reg [⟨(some 3), 48, none, .bx 4 (.t 1)⟩,
    ⟨(some 4), 64, none, .mv (.c (.int .i64 0))⟩])
  (.seq (.seq (.reg [⟨(some 10), 160, none, .fa 0 (.t 3)⟩,
    ⟨(some 11), 176, none, .ld 1 false (.t 10)⟩,
    ⟨(some 12), 192, none, .bi false .lss (.t 11) (.c (.int .i64 0))⟩,
    ⟨(some 13), 208, none, .mv (.t 12)⟩,
    ⟨(some 14), 224, (some (13, false)), .fa 0 (.t 3)⟩,
    ⟨(some 15), 240, (some (13, false)), .ld 1 false (.t 14)⟩,
    ⟨(some 16), 256, (some (13, false)), .fa 1 (.t 3)⟩,
    ⟨(some 17), 272, (some (13, false)), .ld 1 false (.t 16)⟩,
    ⟨(some 18), 288, (some (13, false)), .bi false .gtr (.t 15) (.t 17)⟩,
    ⟨(some 19), 304, none, .pick (.t 13) (.c (.bool true)) (.t 18)⟩,
    ⟨(some 20), 320, none, .mv (.t 19)⟩,
    ⟨(some 21), 336, (some (20, false)), .fa 1 (.t 3)⟩,
    ⟨(some 22), 352, (some (20, false)), .ld 1 false (.t 21)⟩,
    ⟨(some 23), 368, (some (20, false)), .bi false .gtr (.t 22) (.c (.int .i64 274877906944))⟩,
    ⟨(some 24), 384, none, .pick (.t 20) (.c (.bool true)) (.t 23)⟩,
    ⟨(some 25), 400, none, .mv (.t 24)⟩,
    ⟨(some 26), 416, (some (25, false)), .fa 2 (.t 3)⟩,
    ⟨(some 27), 432, (some (25, false)), .ld 1 false (.t 26)⟩,
    ⟨(some 28), 448, (some (25, false)), .call (.c (.fn (.func 32) [] [])) [(.t 27), (.c (.int .i64 274877906944))]⟩,
    ⟨(some 29), 464, (some (25, false)), .un false .not (.t 28)⟩,
    ⟨(some 30), 480, none, .pick (.t 25) (.c (.bool true)) (.t 29)⟩])
  (.cond (.t 30) (.seq (.reg [⟨(some 4), 64, none, .mv (.c (.int .i64 1))⟩])
  .ret) .skip))
  (.seq (.seq (.reg [⟨(some 31), 496, none, .mv (.t 0)⟩,
    ⟨(some 32), 512, none, .len (.t 31)⟩,
    ⟨(some 33), 528, none, .bi false .gtr (.t 32) (.c (.int .i64 400))⟩])
  (.cond (.t 33) (.seq (.reg [⟨(some 4), 64, none, .mv (.c (.int .i64 10))⟩])
  .ret) .skip))
  (.seq (.seq (.reg [⟨(some 34), 544, none, .mv (.t 0)⟩,
    ⟨(some 35), 560, none, .len (.t 34)⟩,
    ⟨(some 36), 576, none, .mv (.c (.int .i64 0))⟩])
  (.block 0 (.loop c16L1)))
  (.seq (.seq (.reg [⟨(some 69), 1104, none, .mv (.t 0)⟩,
    ⟨(some 70), 1120, none, .len (.t 69)⟩,
    ⟨(some 71), 1136, none, .mv (.c (.int .i64 0))⟩])
  (.block 2 (.loop c16L2)))
  (.seq (.reg [⟨(some 4), 64, none, .mv (.c (.int .i64 0))⟩])
  .ret))))))
theorem fits13 : fits Try.prog false Try.f13 2 86 [(4, none)] = some c13.er := by kernel_rfl
theorem fits16 : fits Try.prog false Try.f16 2 86 [(4, none)] = some c16.er := by kernel_rfl

theorem call13 (τ : Nat) (l : List Me) (c : Ck) : PureCall Try.prog 13 [.sl τ 3 l.length (fl eMe l), .agg (eCk c)] [] ⟨.int .i64 (checkF l c), [], []⟩ := by
  refine pure_call mix Try.func13 fits13 rfl ?_
  conv => whnf
  refine ⟨_, fun _ => call30 c, ?_⟩
  conv => whnf
  refine ⟨by simp, fun hc => ?_, fun hc => ?_⟩
  · conv => whnf
    refine ⟨?_, [], ?_⟩
    · (try conv => whnf)
      (repeat' (first | exact True.intro | exact fun _ h => h | refine inR64_of ?_ ?_ | apply And.intro | refine maxLen_ge ?_)) <;> (first | omega | (dsimp only; omega) | (dsimp only [List.length_cons, List.length_nil]; omega) | (intro hg; rw [hg]; rfl) | (intro hg hh; rw [hg, hh]; rfl) | (intro hg; simp [-List.getD_eq_getElem?_getD, -Int.default_eq_zero] at hg; first | omega | (refine inR64_of ?_ ?_ <;> omega) | (constructor <;> omega)) | (simp [-List.getD_eq_getElem?_getD, -Int.default_eq_zero]; done))
    conv => whnf
    refine ⟨rfl, ?_, trivial, trivial⟩
    all_goals repeat' (first | exact True.intro | refine leF_cons rfl ?_ ?_ | refine leS_cons rfl ?_ ?_ | (show PLe _ _ _ _; conv => whnf) | (show SLe _ _ _ _; conv => whnf) | (show PLeL _ _ _ _; conv => whnf) | apply And.intro | rfl | exact Nat.le_refl _ | exact fun _ _ => rfl | exact rowEq0 _ _)
    simp [-List.getD_eq_getElem?_getD, -Int.default_eq_zero] at hc
    unfold checkF; rw [if_pos hc]
  · have hlim : limitsF c = 0 := by simpa using hc
    conv => whnf
    refine ⟨trivial, fun hc => ?_, fun hc => ?_⟩
    · conv => whnf
      refine ⟨?_, [], ?_⟩
      · (try conv => whnf)
        (repeat' (first | exact True.intro | exact fun _ h => h | refine inR64_of ?_ ?_ | apply And.intro | refine maxLen_ge ?_)) <;> (first | omega | (dsimp only; omega) | (dsimp only [List.length_cons, List.length_nil]; omega) | (intro hg; rw [hg]; rfl) | (intro hg hh; rw [hg, hh]; rfl) | (intro hg; simp [-List.getD_eq_getElem?_getD, -Int.default_eq_zero] at hg; first | omega | (refine inR64_of ?_ ?_ <;> omega) | (constructor <;> omega)) | (simp [-List.getD_eq_getElem?_getD, -Int.default_eq_zero]; done))
      conv => whnf
      refine ⟨rfl, ?_, trivial, trivial⟩
      all_goals repeat' (first | exact True.intro | refine leF_cons rfl ?_ ?_ | refine leS_cons rfl ?_ ?_ | (show PLe _ _ _ _; conv => whnf) | (show SLe _ _ _ _; conv => whnf) | (show PLeL _ _ _ _; conv => whnf) | apply And.intro | rfl | exact Nat.le_refl _ | exact fun _ _ => rfl | exact rowEq0 _ _)
      simp [-List.getD_eq_getElem?_getD, -Int.default_eq_zero] at hc
      unfold checkF; rw [if_neg (by simp [hlim]), if_pos (by omega)]
    · have hlen : l.length ≤ 400 := by simp [-List.getD_eq_getElem?_getD, -Int.default_eq_zero] at hc; omega
      conv => whnf
      refine ⟨trivial, ?_⟩
      refine LSem.loop (n := 86) mix (α := Nat) (fun i => i ≤ l.length ∧ scan (errAt l) 0 l.length = scan (errAt l) i (l.length - i))
        (fun i => [(0, .sl τ 3 l.length (fl eMe l)), (3, .pt 48 0 0), (19, .sl τ 3 l.length (fl eMe l)), (20, .int .i64 l.length), (21, .int .i64 i)])
        (fun i => [(48, .box (eCk c))]) (fun i => l.length - i) 0 ?_ ?_ ?_
      · exact ⟨by omega, rfl⟩
      · refine ⟨rfl, rfl, ?_, ?_⟩
        all_goals repeat' (first | exact True.intro | refine leF_cons rfl ?_ ?_ | refine leS_cons rfl ?_ ?_ | (show PLe _ _ _ _; conv => whnf) | (show SLe _ _ _ _; conv => whnf) | (show PLeL _ _ _ _; conv => whnf) | apply And.intro | rfl | exact Nat.le_refl _ | exact fun _ _ => rfl | exact rowEq0 _ _)
      · intro i hx
        obtain ⟨hi, hsc⟩ := hx
        have hj' : ((i : Int)).toNat = i := by omega
        conv => whnf
        refine ⟨trivial, fun hc => ?_, fun hc => ?_⟩
        · replace hc := dec_iff hc
          simp only [if_true] at hc
          have hlt : i < l.length := by omega
          have hj'' : 0 < i → ((i : Int) - 1).toNat = i - 1 := by omega
          conv => whnf
          refine ⟨?_, fun hc1 => ?_, fun hc1 => ?_⟩
          · (try conv => whnf)
            (repeat' (first | exact True.intro | exact fun _ h => h | refine inR64_of ?_ ?_ | apply And.intro | refine maxLen_ge ?_)) <;> (first | omega | (dsimp only; omega) | (dsimp only [List.length_cons, List.length_nil]; omega) | (intro hg; rw [hg]; rfl) | (intro hg hh; rw [hg, hh]; rfl) | (intro hg; simp [-List.getD_eq_getElem?_getD, -Int.default_eq_zero] at hg; first | omega | (refine inR64_of ?_ ?_ <;> omega) | (constructor <;> omega)) | (simp [-List.getD_eq_getElem?_getD, -Int.default_eq_zero]; done))
          · conv => whnf
            refine ⟨?_, [], ?_⟩
            · (try conv => whnf)
              (repeat' (first | exact True.intro | exact fun _ h => h | refine inR64_of ?_ ?_ | apply And.intro | refine maxLen_ge ?_)) <;> (first | omega | (dsimp only; omega) | (dsimp only [List.length_cons, List.length_nil]; omega) | (intro hg; rw [hg]; rfl) | (intro hg hh; rw [hg, hh]; rfl) | (intro hg; simp [-List.getD_eq_getElem?_getD, -Int.default_eq_zero] at hg; first | omega | (refine inR64_of ?_ ?_ <;> omega) | (constructor <;> omega)) | (simp [-List.getD_eq_getElem?_getD, -Int.default_eq_zero]; done))
            conv => whnf
            refine ⟨rfl, ?_, trivial, trivial⟩
            all_goals repeat' (first | exact True.intro | refine leF_cons rfl ?_ ?_ | refine leS_cons rfl ?_ ?_ | (show PLe _ _ _ _; conv => whnf) | (show SLe _ _ _ _; conv => whnf) | (show PLeL _ _ _ _; conv => whnf) | apply And.intro | rfl | exact Nat.le_refl _ | exact fun _ _ => rfl | exact rowEq0 _ _)
            rw [hj'] at hc1
            simp [-List.getD_eq_getElem?_getD, -Int.default_eq_zero] at hc1
            exact check_hit hlim hlen hsc hlt (by unfold errAt; rw [if_pos (by omega)]) (by decide)
          · conv => whnf
            refine ⟨rfl, ?_⟩
            conv => whnf
            rw [hj'] at hc1
            simp [-List.getD_eq_getElem?_getD, -Int.default_eq_zero] at hc1
            refine ⟨?_, fun hc2 => ?_, fun hc2 => ?_⟩
            · (try conv => whnf)
              (repeat' (first | exact True.intro | exact fun _ h => h | refine inR64_of ?_ ?_ | apply And.intro | refine maxLen_ge ?_)) <;> (first | omega | (dsimp only; omega) | (dsimp only [List.length_cons, List.length_nil]; omega) | (intro hg; rw [hg]; rfl) | (intro hg hh; rw [hg, hh]; rfl) | (intro hg; simp [-List.getD_eq_getElem?_getD, -Int.default_eq_zero] at hg; first | omega | (refine inR64_of ?_ ?_ <;> omega) | (constructor <;> omega)) | (simp [-List.getD_eq_getElem?_getD, -Int.default_eq_zero]; done))
            · conv => whnf
              refine ⟨?_, [], ?_⟩
              · (try conv => whnf)
                (repeat' (first | exact True.intro | exact fun _ h => h | refine inR64_of ?_ ?_ | apply And.intro | refine maxLen_ge ?_)) <;> (first | omega | (dsimp only; omega) | (dsimp only [List.length_cons, List.length_nil]; omega) | (intro hg; rw [hg]; rfl) | (intro hg hh; rw [hg, hh]; rfl) | (intro hg; simp [-List.getD_eq_getElem?_getD, -Int.default_eq_zero] at hg; first | omega | (refine inR64_of ?_ ?_ <;> omega) | (constructor <;> omega)) | (simp [-List.getD_eq_getElem?_getD, -Int.default_eq_zero]; done))
              conv => whnf
              refine ⟨rfl, ?_, trivial, trivial⟩
              all_goals repeat' (first | exact True.intro | refine leF_cons rfl ?_ ?_ | refine leS_cons rfl ?_ ?_ | (show PLe _ _ _ _; conv => whnf) | (show SLe _ _ _ _; conv => whnf) | (show PLeL _ _ _ _; conv => whnf) | apply And.intro | rfl | exact Nat.le_refl _ | exact fun _ _ => rfl | exact rowEq0 _ _)
              simp [-List.getD_eq_getElem?_getD, -Int.default_eq_zero] at hc2
              exact check_hit hlim hlen hsc hlt (by unfold errAt; rw [if_neg (by omega), if_pos (by omega)]) (by decide)
            · conv => whnf
              have h2 : ¬ (0 < i ∧ (l.getD i default).t ≤ (l.getD (i - 1) default).t) := by
                rintro ⟨h1, h2⟩
                rw [hj', hj'' h1] at hc2
                simp [-List.getD_eq_getElem?_getD, -Int.default_eq_zero] at hc2
                omega
              refine ⟨?_, fun hc3 => ?_, fun hc3 => ?_⟩
              · (try conv => whnf)
                (repeat' (first | exact True.intro | exact fun _ h => h | refine inR64_of ?_ ?_ | apply And.intro | refine maxLen_ge ?_)) <;> (first | omega | (dsimp only; omega) | (dsimp only [List.length_cons, List.length_nil]; omega) | (intro hg; rw [hg]; rfl) | (intro hg hh; rw [hg, hh]; rfl) | (intro hg; simp [-List.getD_eq_getElem?_getD, -Int.default_eq_zero] at hg; first | omega | (refine inR64_of ?_ ?_ <;> omega) | (constructor <;> omega)) | (simp [-List.getD_eq_getElem?_getD, -Int.default_eq_zero]; done))
              · conv => whnf
                refine ⟨?_, [], ?_⟩
                · (try conv => whnf)
                  (repeat' (first | exact True.intro | exact fun _ h => h | refine inR64_of ?_ ?_ | apply And.intro | refine maxLen_ge ?_)) <;> (first | omega | (dsimp only; omega) | (dsimp only [List.length_cons, List.length_nil]; omega) | (intro hg; rw [hg]; rfl) | (intro hg hh; rw [hg, hh]; rfl) | (intro hg; simp [-List.getD_eq_getElem?_getD, -Int.default_eq_zero] at hg; first | omega | (refine inR64_of ?_ ?_ <;> omega) | (constructor <;> omega)) | (simp [-List.getD_eq_getElem?_getD, -Int.default_eq_zero]; done))
                conv => whnf
                refine ⟨rfl, ?_, trivial, trivial⟩
                all_goals repeat' (first | exact True.intro | refine leF_cons rfl ?_ ?_ | refine leS_cons rfl ?_ ?_ | (show PLe _ _ _ _; conv => whnf) | (show SLe _ _ _ _; conv => whnf) | (show PLeL _ _ _ _; conv => whnf) | apply And.intro | rfl | exact Nat.le_refl _ | exact fun _ _ => rfl | exact rowEq0 _ _)
                rw [hj'] at hc3
                simp [-List.getD_eq_getElem?_getD, -Int.default_eq_zero] at hc3
                exact check_hit hlim hlen hsc hlt (by unfold errAt; rw [if_neg (by omega), if_neg h2, if_pos (by omega)]) (by decide)
              · conv => whnf
                refine ⟨?_, i + 1, ⟨?_, ?_⟩, ?_, rfl, rfl, ?_, ?_⟩
                · (try conv => whnf)
                  (repeat' (first | exact True.intro | exact fun _ h => h | refine inR64_of ?_ ?_ | apply And.intro | refine maxLen_ge ?_)) <;> (first | omega | (dsimp only; omega) | (dsimp only [List.length_cons, List.length_nil]; omega) | (intro hg; rw [hg]; rfl) | (intro hg hh; rw [hg, hh]; rfl) | (intro hg; simp [-List.getD_eq_getElem?_getD, -Int.default_eq_zero] at hg; first | omega | (refine inR64_of ?_ ?_ <;> omega) | (constructor <;> omega)) | (simp [-List.getD_eq_getElem?_getD, -Int.default_eq_zero]; done))
                · omega
                · rw [hj'] at hc3
                  simp [-List.getD_eq_getElem?_getD, -Int.default_eq_zero] at hc3
                  rw [hsc, scan_step (by omega) (by unfold errAt; rw [if_neg (by omega), if_neg h2, if_neg (by omega)])]
                  congr 1
                · omega
                all_goals repeat' (first | exact True.intro | refine leF_cons rfl ?_ ?_ | refine leS_cons rfl ?_ ?_ | (show PLe _ _ _ _; conv => whnf) | (show SLe _ _ _ _; conv => whnf) | (show PLeL _ _ _ _; conv => whnf) | apply And.intro | rfl | exact Nat.le_refl _ | exact fun _ _ => rfl | exact rowEq0 _ _)
        · replace hc := dec_iff hc
          simp only [Bool.false_eq_true, if_false] at hc
          have hs0 : scan (errAt l) 0 l.length = 0 := by
            rw [hsc, show l.length - i = 0 from by omega]; rfl
          have hcw := check_wide hlim hlen hs0
          conv => whnf
          refine ⟨trivial, ?_⟩
          refine LSem.loop (n := 86) mix (α := Nat) (fun i => i ≤ l.length ∧ scan (widAt l c) 0 l.length = scan (widAt l c) i (l.length - i))
            (fun i => [(0, .sl τ 3 l.length (fl eMe l)), (3, .pt 48 0 0), (69, .sl τ 3 l.length (fl eMe l)), (70, .int .i64 l.length), (71, .int .i64 i)])
            (fun i => [(48, .box (eCk c))]) (fun i => l.length - i) 0 ?_ ?_ ?_
          · exact ⟨by omega, rfl⟩
          · refine ⟨rfl, rfl, ?_, ?_⟩
            all_goals repeat' (first | exact True.intro | refine leF_cons rfl ?_ ?_ | refine leS_cons rfl ?_ ?_ | (show PLe _ _ _ _; conv => whnf) | (show SLe _ _ _ _; conv => whnf) | (show PLeL _ _ _ _; conv => whnf) | apply And.intro | rfl | exact Nat.le_refl _ | exact fun _ _ => rfl | exact rowEq0 _ _)
          · clear hsc hi hj' hc
            intro i hx
            obtain ⟨hi, hsc⟩ := hx
            have hj' : ((i : Int)).toNat = i := by omega
            conv => whnf
            refine ⟨trivial, fun hc => ?_, fun hc => ?_⟩
            · replace hc := dec_iff hc
              simp only [if_true] at hc
              have hlt : i < l.length := by omega
              conv => whnf
              refine ⟨_, fun _ => call31 (lendT τ) l c (l.getD ((i : Int)).toNat default).t (by omega) (near_of hlim hs0 (time_of hs0 (by omega))), ?_⟩
              conv => whnf
              refine ⟨?_, fun hc1 => ?_, fun hc1 => ?_⟩
              · (try conv => whnf)
                (repeat' (first | exact True.intro | exact fun _ h => h | refine inR64_of ?_ ?_ | apply And.intro | refine maxLen_ge ?_)) <;> (first | omega | (dsimp only; omega) | (dsimp only [List.length_cons, List.length_nil]; omega) | (intro hg; rw [hg]; rfl) | (intro hg hh; rw [hg, hh]; rfl) | (intro hg; simp [-List.getD_eq_getElem?_getD, -Int.default_eq_zero] at hg; first | omega | (refine inR64_of ?_ ?_ <;> omega) | (constructor <;> omega)) | (simp [-List.getD_eq_getElem?_getD, -Int.default_eq_zero]; done))
              · conv => whnf
                refine ⟨?_, [], ?_⟩
                · (try conv => whnf)
                  (repeat' (first | exact True.intro | exact fun _ h => h | refine inR64_of ?_ ?_ | apply And.intro | refine maxLen_ge ?_)) <;> (first | omega | (dsimp only; omega) | (dsimp only [List.length_cons, List.length_nil]; omega) | (intro hg; rw [hg]; rfl) | (intro hg hh; rw [hg, hh]; rfl) | (intro hg; simp [-List.getD_eq_getElem?_getD, -Int.default_eq_zero] at hg; first | omega | (refine inR64_of ?_ ?_ <;> omega) | (constructor <;> omega)) | (simp [-List.getD_eq_getElem?_getD, -Int.default_eq_zero]; done))
                conv => whnf
                refine ⟨rfl, ?_, trivial, trivial⟩
                all_goals repeat' (first | exact True.intro | refine leF_cons rfl ?_ ?_ | refine leS_cons rfl ?_ ?_ | (show PLe _ _ _ _; conv => whnf) | (show SLe _ _ _ _; conv => whnf) | (show PLeL _ _ _ _; conv => whnf) | apply And.intro | rfl | exact Nat.le_refl _ | exact fun _ _ => rfl | exact rowEq0 _ _)
                rw [hj'] at hc1
                simp [-List.getD_eq_getElem?_getD, -Int.default_eq_zero] at hc1
                have hw : widAt l c i = 48 := by unfold widAt; rw [if_pos (by omega)]
                rw [hcw, hsc, scan_hit (by omega) (by rw [hw]; decide), hw]
              · conv => whnf
                refine ⟨?_, i + 1, ⟨?_, ?_⟩, ?_, rfl, rfl, ?_, ?_⟩
                · (try conv => whnf)
                  (repeat' (first | exact True.intro | exact fun _ h => h | refine inR64_of ?_ ?_ | apply And.intro | refine maxLen_ge ?_)) <;> (first | omega | (dsimp only; omega) | (dsimp only [List.length_cons, List.length_nil]; omega) | (intro hg; rw [hg]; rfl) | (intro hg hh; rw [hg, hh]; rfl) | (intro hg; simp [-List.getD_eq_getElem?_getD, -Int.default_eq_zero] at hg; first | omega | (refine inR64_of ?_ ?_ <;> omega) | (constructor <;> omega)) | (simp [-List.getD_eq_getElem?_getD, -Int.default_eq_zero]; done))
                · omega
                · rw [hj'] at hc1
                  simp [-List.getD_eq_getElem?_getD, -Int.default_eq_zero] at hc1
                  rw [hsc, scan_step (by omega) (by unfold widAt; rw [if_neg (by omega)])]
                  congr 1
                · omega
                all_goals repeat' (first | exact True.intro | refine leF_cons rfl ?_ ?_ | refine leS_cons rfl ?_ ?_ | (show PLe _ _ _ _; conv => whnf) | (show SLe _ _ _ _; conv => whnf) | (show PLeL _ _ _ _; conv => whnf) | apply And.intro | rfl | exact Nat.le_refl _ | exact fun _ _ => rfl | exact rowEq0 _ _)
            · replace hc := dec_iff hc
              simp only [Bool.false_eq_true, if_false] at hc
              conv => whnf
              refine ⟨?_, [], ?_⟩
              · (try conv => whnf)
                (repeat' (first | exact True.intro | exact fun _ h => h | refine inR64_of ?_ ?_ | apply And.intro | refine maxLen_ge ?_)) <;> (first | omega | (dsimp only; omega) | (dsimp only [List.length_cons, List.length_nil]; omega) | (intro hg; rw [hg]; rfl) | (intro hg hh; rw [hg, hh]; rfl) | (intro hg; simp [-List.getD_eq_getElem?_getD, -Int.default_eq_zero] at hg; first | omega | (refine inR64_of ?_ ?_ <;> omega) | (constructor <;> omega)) | (simp [-List.getD_eq_getElem?_getD, -Int.default_eq_zero]; done))
              conv => whnf
              refine ⟨rfl, ?_, trivial, trivial⟩
              all_goals repeat' (first | exact True.intro | refine leF_cons rfl ?_ ?_ | refine leS_cons rfl ?_ ?_ | (show PLe _ _ _ _; conv => whnf) | (show SLe _ _ _ _; conv => whnf) | (show PLeL _ _ _ _; conv => whnf) | apply And.intro | rfl | exact Nat.le_refl _ | exact fun _ _ => rfl | exact rowEq0 _ _)
              rw [hcw, hsc, show l.length - i = 0 from by omega]; rfl

end Pv
end Go.Proofs.Ytiknpkadlckmjaa
