/- LAW 08: QualityValues. -/
import Derived.Test.YtogoplhikmmggaaQ22
set_option linter.unusedSimpArgs false
set_option linter.unusedVariables false
namespace Go.Proofs.Ytogoplhikmmggaa
namespace Pv
def c5L1 : C := (.seq (.seq (.reg [⟨(some 55), 880, none, .mv (.t 12)⟩,
    ⟨(some 56), 896, none, .len (.t 55)⟩,
    ⟨(some 57), 912, none, .mv (.t 10)⟩,
    ⟨(some 58), 928, none, .len (.t 57)⟩,
    ⟨(some 59), 944, none, .bi false .lss (.t 56) (.t 58)⟩])
  (.cond (.t 59) .skip (.exit 0)))
  (.block 1 (.reg [⟨(some 60), 960, none, .mv (.t 12)⟩,
    ⟨(some 61), 976, none, .mv (.t 9)⟩,
    ⟨(some 62), 992, none, .call (.c (.fn (.func 18) [] [])) [(.t 61), (.c (.int .i64 60))]⟩,
    ⟨(some 63), 1008, none, .bs 3 1 [(.t 62)]⟩,
    ⟨(some 64), 1024, none, .app 3 1 8 (.t 60) (.t 63)⟩,
    ⟨(some 12), 192, none, .mv (.t 64)⟩])))
def c5L3 : C := (.seq (.reg [⟨(some 95), 1520, none, .bi false .lss (.t 94) (.t 93)⟩])
  (.seq (.cond (.t 95) .skip (.exit 4))
  (.seq (.block 5 (.seq (.reg [⟨(some 96), 1536, none, .ia 1 (.t 92) (.t 94)⟩,
    ⟨(some 97), 1552, none, .ld 1 false (.t 96)⟩,
    ⟨(some 17), 272, none, .mv (.t 97)⟩])
  (.seq (.reg [⟨(some 99), 1584, none, .iaa 2 1 (.t 15) (.c (.int .i64 0))⟩,
    ⟨(some 100), 1600, none, .ld 1 false (.t 99)⟩,
    ⟨(some 101), 1616, none, .mv (.t 17)⟩,
    ⟨(some 102), 1632, none, .call (.c (.fn (.func 13) [] [])) [(.t 100), (.t 101)]⟩,
    ⟨(some 98), 1568, none, .mv (.t 102)⟩,
    ⟨(some 103), 1648, none, .ex (.t 98) 0⟩,
    ⟨(some 104), 1664, none, .ex (.t 98) 1⟩,
    ⟨(some 18), 288, none, .mv (.t 103)⟩,
    ⟨(some 19), 304, none, .mv (.t 104)⟩])
  (.seq (.reg [⟨(some 106), 1696, none, .iaa 2 1 (.t 15) (.c (.int .i64 0))⟩,
    ⟨(some 107), 1712, none, .ld 1 false (.t 106)⟩,
    ⟨(some 108), 1728, none, .mv (.t 17)⟩,
    ⟨(some 109), 1744, none, .call (.c (.fn (.func 19) [] [])) [(.t 107), (.t 108)]⟩,
    ⟨(some 105), 1680, none, .mv (.t 109)⟩,
    ⟨(some 110), 1760, none, .ex (.t 105) 0⟩,
    ⟨(some 111), 1776, none, .ex (.t 105) 1⟩,
    ⟨(some 20), 320, none, .mv (.t 110)⟩,
    ⟨(some 21), 336, none, .mv (.t 111)⟩])
  (.seq (.reg [⟨(some 113), 1808, none, .iaa 2 1 (.t 15) (.c (.int .i64 0))⟩,
    ⟨(some 114), 1824, none, .ld 1 false (.t 113)⟩,
    ⟨(some 115), 1840, none, .mv (.t 17)⟩,
    ⟨(some 116), 1856, none, .mv (.t 3)⟩,
    ⟨(some 117), 1872, none, .call (.c (.fn (.func 16) [] [])) [(.t 114), (.t 115), (.t 116)]⟩,
    ⟨(some 112), 1792, none, .mv (.t 117)⟩,
    ⟨(some 118), 1888, none, .ex (.t 112) 0⟩,
    ⟨(some 119), 1904, none, .ex (.t 112) 1⟩,
    ⟨(some 22), 352, none, .mv (.t 118)⟩,
    ⟨(some 23), 368, none, .mv (.t 119)⟩])
  (.seq (.reg [⟨(some 121), 1936, none, .iaa 2 1 (.t 15) (.c (.int .i64 0))⟩,
    ⟨(some 122), 1952, none, .ld 1 false (.t 121)⟩,
    ⟨(some 123), 1968, none, .mv (.t 17)⟩,
    ⟨(some 124), 1984, none, .mv (.t 3)⟩,
    ⟨(some 125), 2000, none, .call (.c (.fn (.func 20) [] [])) [(.t 122), (.t 123), (.t 124)]⟩,
    ⟨(some 120), 1920, none, .mv (.t 125)⟩,
    ⟨(some 126), 2016, none, .ex (.t 120) 0⟩,
    ⟨(some 127), 2032, none, .ex (.t 120) 1⟩,
    ⟨(some 24), 384, none, .mv (.t 126)⟩,
    ⟨(some 25), 400, none, .mv (.t 127)⟩])
  (.seq (.drw [⟨(some 129), 2064, none, .iaa 2 1 (.t 15) (.c (.int .i64 0))⟩,
    ⟨(some 130), 2080, none, .ld 1 false (.t 129)⟩,
    ⟨(some 131), 2096, none, .mv (.t 17)⟩,
    ⟨(some 132), 2112, none, .mv (.t 3)⟩,
    ⟨(some 133), 2128, none, .call (.c (.fn (.func 15) [] [])) [(.t 132), (.c (.int .i64 50))]⟩,
    ⟨(some 134), 2144, none, .call (.c (.fn (.func 16) [] [])) [(.t 130), (.t 131), (.t 133)]⟩,
    ⟨(some 128), 2048, none, .mv (.t 134)⟩,
    ⟨(some 135), 2160, none, .ex (.t 128) 0⟩,
    ⟨(some 136), 2176, none, .ex (.t 128) 1⟩,
    ⟨(some 26), 416, none, .mv (.t 135)⟩,
    ⟨(some 27), 432, none, .mv (.t 136)⟩]
    [(0, 2, 129), (0, 3, 129), (0, 4, 129), (1, 2, 130), (1, 3, 130), (1, 4, 130), (2, 3, 131), (2, 4, 131), (7, 8, 135), (8, 9, 136)])
  (.seq (.drw [⟨(some 138), 2208, none, .iaa 2 1 (.t 15) (.c (.int .i64 0))⟩,
    ⟨(some 139), 2224, none, .ld 1 false (.t 138)⟩,
    ⟨(some 140), 2240, none, .mv (.t 17)⟩,
    ⟨(some 141), 2256, none, .mv (.t 3)⟩,
    ⟨(some 142), 2272, none, .call (.c (.fn (.func 15) [] [])) [(.t 141), (.c (.int .i64 50))]⟩,
    ⟨(some 143), 2288, none, .call (.c (.fn (.func 20) [] [])) [(.t 139), (.t 140), (.t 142)]⟩,
    ⟨(some 137), 2192, none, .mv (.t 143)⟩,
    ⟨(some 144), 2304, none, .ex (.t 137) 0⟩,
    ⟨(some 145), 2320, none, .ex (.t 137) 1⟩,
    ⟨(some 28), 448, none, .mv (.t 144)⟩,
    ⟨(some 29), 464, none, .mv (.t 145)⟩]
    [(0, 2, 138), (0, 3, 138), (0, 4, 138), (1, 2, 139), (1, 3, 139), (1, 4, 139), (2, 3, 140), (2, 4, 140), (7, 8, 144), (8, 9, 145)])
  (.seq (.reg [⟨(some 147), 2352, none, .iaa 2 1 (.t 15) (.c (.int .i64 0))⟩,
    ⟨(some 148), 2368, none, .ld 1 false (.t 147)⟩,
    ⟨(some 149), 2384, none, .iaa 2 1 (.t 15) (.c (.int .i64 1))⟩,
    ⟨(some 150), 2400, none, .ld 1 false (.t 149)⟩,
    ⟨(some 151), 2416, none, .mv (.t 17)⟩,
    ⟨(some 152), 2432, none, .call (.c (.fn (.func 21) [] [])) [(.t 148), (.t 150), (.t 151)]⟩,
    ⟨(some 146), 2336, none, .mv (.t 152)⟩,
    ⟨(some 153), 2448, none, .ex (.t 146) 0⟩,
    ⟨(some 154), 2464, none, .ex (.t 146) 1⟩,
    ⟨(some 155), 2480, none, .ex (.t 146) 2⟩,
    ⟨(some 30), 480, none, .mv (.t 153)⟩,
    ⟨(some 31), 496, none, .mv (.t 154)⟩,
    ⟨(some 32), 512, none, .mv (.t 155)⟩])
  (.seq (.reg [⟨(some 157), 2512, none, .iaa 2 1 (.t 15) (.c (.int .i64 0))⟩,
    ⟨(some 158), 2528, none, .ld 1 false (.t 157)⟩,
    ⟨(some 159), 2544, none, .iaa 2 1 (.t 15) (.c (.int .i64 1))⟩,
    ⟨(some 160), 2560, none, .ld 1 false (.t 159)⟩,
    ⟨(some 161), 2576, none, .mv (.t 17)⟩,
    ⟨(some 162), 2592, none, .call (.c (.fn (.func 22) [] [])) [(.t 158), (.t 160), (.t 161)]⟩,
    ⟨(some 156), 2496, none, .mv (.t 162)⟩,
    ⟨(some 163), 2608, none, .ex (.t 156) 0⟩,
    ⟨(some 164), 2624, none, .ex (.t 156) 1⟩,
    ⟨(some 165), 2640, none, .ex (.t 156) 2⟩,
    ⟨(some 33), 528, none, .mv (.t 163)⟩,
    ⟨(some 34), 544, none, .mv (.t 164)⟩,
    ⟨(some 35), 560, none, .mv (.t 165)⟩])
  (.seq (.reg [⟨(some 166), 2656, none, .mv (.t 18)⟩,
    ⟨(some 167), 2672, none, .mv (.t 20)⟩,
    ⟨(some 168), 2688, none, .bi false .neq (.t 166) (.t 167)⟩,
    ⟨(some 169), 2704, none, .mv (.t 168)⟩,
    ⟨(some 170), 2720, (some (169, false)), .mv (.t 19)⟩,
    ⟨(some 171), 2736, (some (169, false)), .mv (.t 21)⟩,
    ⟨(some 172), 2752, (some (169, false)), .bib true (.t 170) (.t 171)⟩,
    ⟨(some 173), 2768, none, .pick (.t 169) (.c (.bool true)) (.t 172)⟩,
    ⟨(some 174), 2784, none, .mv (.t 173)⟩,
    ⟨(some 175), 2800, (some (174, false)), .mv (.t 23)⟩,
    ⟨(some 176), 2816, (some (174, false)), .mv (.t 25)⟩,
    ⟨(some 177), 2832, (some (174, false)), .bi false .neq (.t 175) (.t 176)⟩,
    ⟨(some 178), 2848, none, .pick (.t 174) (.c (.bool true)) (.t 177)⟩,
    ⟨(some 179), 2864, none, .mv (.t 178)⟩,
    ⟨(some 180), 2880, (some (179, false)), .mv (.t 27)⟩,
    ⟨(some 181), 2896, (some (179, false)), .mv (.t 29)⟩,
    ⟨(some 182), 2912, (some (179, false)), .bi false .neq (.t 180) (.t 181)⟩,
    ⟨(some 183), 2928, none, .pick (.t 179) (.c (.bool true)) (.t 182)⟩,
    ⟨(some 184), 2944, none, .mv (.t 183)⟩,
    ⟨(some 185), 2960, (some (184, false)), .mv (.t 32)⟩,
    ⟨(some 186), 2976, (some (184, false)), .mv (.t 35)⟩,
    ⟨(some 187), 2992, (some (184, false)), .bi false .neq (.t 185) (.t 186)⟩,
    ⟨(some 188), 3008, none, .pick (.t 184) (.c (.bool true)) (.t 187)⟩,
    ⟨(some 189), 3024, none, .mv (.t 188)⟩,
    ⟨(some 190), 3040, (some (189, false)), .mv (.t 30)⟩,
    ⟨(some 191), 3056, (some (189, false)), .mv (.t 33)⟩,
    ⟨(some 192), 3072, (some (189, false)), .bi false .neq (.t 190) (.t 191)⟩,
    ⟨(some 193), 3088, none, .pick (.t 189) (.c (.bool true)) (.t 192)⟩,
    ⟨(some 194), 3104, none, .mv (.t 193)⟩,
    ⟨(some 195), 3120, (some (194, false)), .mv (.t 31)⟩,
    ⟨(some 196), 3136, (some (194, false)), .mv (.t 34)⟩,
    ⟨(some 197), 3152, (some (194, false)), .bib true (.t 195) (.t 196)⟩,
    ⟨(some 198), 3168, none, .pick (.t 194) (.c (.bool true)) (.t 197)⟩,
    ⟨(some 199), 3184, none, .mv (.t 198)⟩,
    ⟨(some 200), 3200, (some (199, false)), .mv (.t 22)⟩,
    ⟨(some 201), 3216, (some (199, false)), .mv (.t 24)⟩,
    ⟨(some 202), 3232, (some (199, false)), .call (.c (.fn (.func 17) [] [])) [(.t 200), (.t 201)]⟩,
    ⟨(some 203), 3248, (some (199, false)), .un false .not (.t 202)⟩,
    ⟨(some 204), 3264, none, .pick (.t 199) (.c (.bool true)) (.t 203)⟩,
    ⟨(some 205), 3280, none, .mv (.t 204)⟩,
    ⟨(some 206), 3296, (some (205, false)), .mv (.t 26)⟩,
    ⟨(some 207), 3312, (some (205, false)), .mv (.t 28)⟩,
    ⟨(some 208), 3328, (some (205, false)), .call (.c (.fn (.func 17) [] [])) [(.t 206), (.t 207)]⟩,
    ⟨(some 209), 3344, (some (205, false)), .un false .not (.t 208)⟩,
    ⟨(some 210), 3360, none, .pick (.t 205) (.c (.bool true)) (.t 209)⟩])
  (.cond (.t 210) (.seq (.reg [⟨(some 8), 128, none, .mv (.c (.bool false))⟩])
  .ret) .skip))))))))))))
  (.reg [⟨(some 211), 3376, none, .bi false .add (.t 94) (.c (.int .i64 1))⟩,
    ⟨(some 94), 1504, none, .mv (.t 211)⟩]))))
def c5L2 : C := (.seq (.reg [⟨(some 87), 1392, none, .bi false .lss (.t 86) (.t 85)⟩])
  (.seq (.cond (.t 87) .skip (.exit 2))
  (.seq (.block 3 (.seq (.reg [⟨(some 88), 1408, none, .ia 2 (.t 84) (.t 86)⟩,
    ⟨(some 89), 1424, none, .ld 2 true (.t 88)⟩,
    ⟨(some 15), 240, none, .al [(.nil 1), (.nil 1)]⟩,
    ⟨none, 0, none, .st 2 (.t 15) (.t 89)⟩])
  (.seq (.reg [⟨(some 90), 1440, none, .mv (.t 11)⟩,
    ⟨(some 91), 1456, none, .mv (.t 1)⟩,
    ⟨(some 92), 1472, none, .bs 25 1 [(.t 90), (.t 91)]⟩,
    ⟨(some 93), 1488, none, .len (.t 92)⟩,
    ⟨(some 94), 1504, none, .mv (.c (.int .i64 0))⟩])
  (.block 4 (.loop c5L3)))))
  (.reg [⟨(some 212), 3392, none, .bi false .add (.t 86) (.c (.int .i64 1))⟩,
    ⟨(some 86), 1376, none, .mv (.t 212)⟩]))))
def c5 : C := (.seq (.reg [⟨(some 8), 128, none, .mv (.c (.bool false))⟩])
  (.seq (.seq (.reg [⟨(some 36), 576, none, .mv (.t 0)⟩,
    ⟨(some 37), 592, none, .len (.t 36)⟩,
    ⟨(some 38), 608, none, .mv (.t 1)⟩,
    ⟨(some 39), 624, none, .len (.t 38)⟩,
    ⟨(some 40), 640, none, .bi false .add (.t 37) (.t 39)⟩,
    ⟨(some 41), 656, none, .bi false .gtr (.t 40) (.c (.int .i64 200))⟩])
  (.cond (.t 41) (.seq (.reg [⟨(some 42), 672, none, .call (.c (.fn (.func 14) [] [])) []⟩,
    ⟨(some 8), 128, none, .mv (.t 42)⟩])
  .ret) .skip))
  (.seq (.reg [⟨(some 43), 688, none, .mv (.t 2)⟩,
    ⟨(some 44), 704, none, .call (.c (.fn (.func 11) [] [])) [(.t 43)]⟩,
    ⟨(some 9), 144, none, .mv (.t 44)⟩])
  (.seq (.reg [⟨(some 46), 736, none, .mv (.t 9)⟩,
    ⟨(some 47), 752, none, .call (.c (.fn (.func 12) [] [])) [(.t 46), (.c (.int .i64 14))]⟩,
    ⟨(some 45), 720, none, .mv (.t 47)⟩,
    ⟨(some 48), 768, none, .ex (.t 45) 0⟩,
    ⟨(some 49), 784, none, .ex (.t 45) 1⟩,
    ⟨(some 10), 160, none, .mv (.t 48)⟩,
    ⟨(some 11), 176, none, .mv (.t 49)⟩])
  (.seq (.reg [⟨(some 51), 816, none, .mv (.t 9)⟩,
    ⟨(some 52), 832, none, .call (.c (.fn (.func 12) [] [])) [(.t 51), (.c (.int .i64 14))]⟩,
    ⟨(some 50), 800, none, .mv (.t 52)⟩,
    ⟨(some 53), 848, none, .ex (.t 50) 0⟩,
    ⟨(some 54), 864, none, .ex (.t 50) 1⟩,
    ⟨(some 12), 192, none, .mv (.t 53)⟩,
    ⟨(some 13), 208, none, .mv (.t 54)⟩])
  (.seq (.block 0 (.loop c5L1))
  (.seq (.reg [⟨(some 65), 1040, none, .mv (.t 12)⟩,
    ⟨(some 66), 1056, none, .mv (.t 10)⟩,
    ⟨(some 67), 1072, none, .len (.t 66)⟩,
    ⟨(some 68), 1088, none, .slc 1 (.t 65) none (some (.t 67))⟩,
    ⟨(some 12), 192, none, .mv (.t 68)⟩])
  (.cut (.seq (.seq (.reg [⟨(some 69), 1104, none, .mv (.t 9)⟩,
    ⟨(some 70), 1120, none, .call (.c (.fn (.func 18) [] [])) [(.t 69), (.c (.int .i64 10))]⟩,
    ⟨(some 71), 1136, none, .bi false .eql (.t 70) (.c (.int .i64 9))⟩])
  (.cond (.t 71) (.reg [⟨(some 72), 1152, none, .mv (.t 12)⟩,
    ⟨(some 73), 1168, none, .bs 3 1 [(.c (.int .i64 1))]⟩,
    ⟨(some 74), 1184, none, .app 3 1 8 (.t 72) (.t 73)⟩,
    ⟨(some 12), 192, none, .mv (.t 74)⟩]) .skip))
  (.seq (.seq (.reg [⟨(some 75), 1200, none, .mv (.t 10)⟩,
    ⟨(some 76), 1216, none, .mv (.t 12)⟩,
    ⟨(some 77), 1232, none, .bd [(.nil 1), (.nil 1)] [(0, 1, (.t 75)), (1, 1, (.t 76))]⟩,
    ⟨(some 78), 1248, none, .mv (.t 0)⟩,
    ⟨(some 79), 1264, none, .mv (.t 12)⟩,
    ⟨(some 80), 1280, none, .bd [(.nil 1), (.nil 1)] [(0, 1, (.t 78)), (1, 1, (.t 79))]⟩,
    ⟨(some 81), 1296, none, .mv (.t 10)⟩,
    ⟨(some 82), 1312, none, .mv (.t 0)⟩,
    ⟨(some 83), 1328, none, .bd [(.nil 1), (.nil 1)] [(0, 1, (.t 81)), (1, 1, (.t 82))]⟩,
    ⟨(some 84), 1344, none, .bs 39 2 [(.t 77), (.t 80), (.t 83)]⟩,
    ⟨(some 85), 1360, none, .len (.t 84)⟩,
    ⟨(some 86), 1376, none, .mv (.c (.int .i64 0))⟩])
  (.block 2 (.loop c5L2)))
  (.seq (.reg [⟨(some 213), 3408, none, .call (.c (.fn (.func 14) [] [])) []⟩,
    ⟨(some 8), 128, none, .mv (.t 213)⟩])
  .ret)))))))))))
theorem fits5 : fits Try.prog false Try.f5 4 214 [(8, none)] = some c5.er := by kernel_rfl

theorem fl_take {l : List Int} {n : Nat} : RowEq n (fl eInt l) (fl eInt (l.take n)) := fun i hi => by
  show eInt _ = eInt _
  rw [List.getD_eq_getElem?_getD, List.getD_eq_getElem?_getD, List.getElem?_take, if_pos hi]
theorem fl_take_push {l : List Int} {n : Nat} (h : n ≤ l.length) (x : Int) : RowEq (n + 1) (appF n (fl eInt l) (fun i => [eInt x].getD i [])) (fl eInt (l.take n ++ [x])) := fun i hi => by
  have hl : (l.take n).length = n := by rw [List.length_take]; omega
  have := fl_push eInt (l.take n) x i (by omega)
  rw [← this, hl]
  unfold appF
  by_cases c : i < n
  · rw [if_pos c, if_pos c]; exact fl_take i c
  · rw [if_neg c, if_neg c]

set_option maxRecDepth 100000 in
set_option maxHeartbeats 16000000 in
theorem call5 (rv : List Int) (rg : List Bool) (l : List Int) (last : Int) (hrv : rv.length ≤ 140737488351232) (hrg : rg.length ≤ 140737488351232) : PureCall Try.prog 5 [.sl 1 1 rv.length (fl eInt rv), .sl 1 1 rg.length (fl eBool rg), .sl 1 1 l.length (fl eInt l), .int .i64 last] [] ⟨.bool true, [], []⟩ := by
  refine pure_call mix Try.func5 fits5 rfl ?_
  conv => whnf
  refine ⟨?_, fun hc => ?_, fun hc => ?_⟩
  · (try conv => whnf)
    (repeat' (first | exact True.intro | exact fun _ h => h | refine inR64_of ?_ ?_ | apply And.intro | refine maxLen_ge ?_)) <;> (first | omega | (dsimp only; omega) | (dsimp only [List.length_cons, List.length_nil]; omega) | (intro hg; rw [hg]; rfl) | (intro hg hh; rw [hg, hh]; rfl) | (intro hg; simp [-List.getD_eq_getElem?_getD, -Int.default_eq_zero] at hg; first | omega | (refine inR64_of ?_ ?_ <;> omega) | (constructor <;> omega)) | (simp [-List.getD_eq_getElem?_getD, -Int.default_eq_zero]; done))
  · conv => whnf
    refine ⟨_, fun _ => call14, ?_⟩
    conv => whnf
    refine ⟨?_, [], ?_⟩
    · (try conv => whnf)
      (repeat' (first | exact True.intro | exact fun _ h => h | refine inR64_of ?_ ?_ | apply And.intro | refine maxLen_ge ?_)) <;> (first | omega | (dsimp only; omega) | (dsimp only [List.length_cons, List.length_nil]; omega) | (intro hg; rw [hg]; rfl) | (intro hg hh; rw [hg, hh]; rfl) | (intro hg; simp [-List.getD_eq_getElem?_getD, -Int.default_eq_zero] at hg; first | omega | (refine inR64_of ?_ ?_ <;> omega) | (constructor <;> omega)) | (simp [-List.getD_eq_getElem?_getD, -Int.default_eq_zero]; done))
    conv => whnf
    refine ⟨rfl, ?_, trivial, trivial⟩
    all_goals repeat' (first | exact True.intro | refine leF_cons rfl ?_ ?_ | refine leS_cons rfl ?_ ?_ | (show PLe _ _ _ _; conv => whnf) | (show SLe _ _ _ _; conv => whnf) | (show PLeL _ _ _ _; conv => whnf) | apply And.intro | rfl | exact Nat.le_refl _ | exact fun _ _ => rfl | exact rowEq0 _ _)
  have hlen : rv.length + rg.length ≤ 200 := by
    replace hc := of_decide_eq_false hc
    omega
  clear hc
  conv => whnf
  refine ⟨_, fun _ => call_new 1 l, ?_⟩
  conv => whnf
  refine ⟨_, fun _ => call12 ⟨l, 0⟩ 14 (by dsimp only; omega) (by omega), ?_⟩
  obtain ⟨b1, b2, b3, b4⟩ := goods_props ⟨l, 0⟩ (most := 14) (by omega)
  dsimp only at b4
  generalize goodsS ⟨l, 0⟩ 14 = S at b1 b2 b3 b4 ⊢
  obtain ⟨v, g, d1⟩ := S
  dsimp only at b1 b2 b3 b4
  conv => whnf
  refine ⟨_, fun _ => call12o d1 14 (by omega) (by omega), ?_⟩
  obtain ⟨e1, e2, e3, e4⟩ := goods_props d1 (most := 14) (by omega)
  generalize goodsS d1 14 = S at e1 e2 e3 e4 ⊢
  obtain ⟨w0, g2, d2⟩ := S
  dsimp only at e1 e2 e3 e4
  conv => whnf
  refine ⟨?_, ?_⟩
  · (try conv => whnf)
    (repeat' (first | exact True.intro | exact fun _ h => h | refine inR64_of ?_ ?_ | apply And.intro | refine maxLen_ge ?_)) <;> (first | omega | (dsimp only; omega) | (dsimp only [List.length_cons, List.length_nil]; omega) | (intro hg; rw [hg]; rfl) | (intro hg hh; rw [hg, hh]; rfl) | (intro hg; simp [-List.getD_eq_getElem?_getD, -Int.default_eq_zero] at hg; first | omega | (refine inR64_of ?_ ?_ <;> omega) | (constructor <;> omega)) | (simp [-List.getD_eq_getElem?_getD, -Int.default_eq_zero]; done))
  refine LSem.loop (n := 214) mix (α := List Int × Dk) (fun s => s.1.length ≤ 14 ∧ s.2.at_ ≤ 1000 + s.1.length)
    (fun s => [(0, .sl 1 1 rv.length (fl eInt rv)), (1, .sl 1 1 rg.length (fl eBool rg)), (3, .int .i64 last), (9, .pt 704 0 0), (10, .sl 0 1 v.length (fl eInt v)), (11, .sl 0 1 g.length (fl eBool g)), (12, .os 832)])
    (fun s => [(704, .box (eDk 1 s.2)), (832, .row 0 3 1 s.1.length (fl eInt s.1))]) (fun s => v.length - s.1.length) (w0, d2) ?_ ?_ ?_
  · refine ⟨?_, ?_⟩ <;> (dsimp only; omega)
  · refine ⟨rfl, rfl, ?_, ?_⟩
    all_goals repeat' (first | exact True.intro | refine leF_cons rfl ?_ ?_ | refine leS_cons rfl ?_ ?_ | (show PLe _ _ _ _; conv => whnf) | (show SLe _ _ _ _; conv => whnf) | (show PLeL _ _ _ _; conv => whnf) | apply And.intro | rfl | exact Nat.le_refl _ | exact fun _ _ => rfl | exact rowEq0 _ _)
    all_goals skip
  · intro s hs
    obtain ⟨w, d⟩ := s
    obtain ⟨h1, h2⟩ := hs
    dsimp only at h1 h2
    conv => whnf
    refine ⟨trivial, fun hc => ?_, fun hc => ?_⟩
    · replace hc := of_decide_eq_true hc
      have hlt : w.length < v.length := by
        have h : (w.length : Int) < v.length := hc
        omega
      have q := fl_push eInt w (nxt d 60)
      have a1 := nxtD_at d 60
      conv => whnf
      refine ⟨_, fun _ => call_next 1 d 60 (by omega) (by omega), ?_⟩
      conv => whnf
      refine ⟨?_, (w ++ [nxt d 60], nxtD d 60), ⟨?_, ?_⟩, ?_, rfl, rfl, ?_, ?_⟩
      · (try conv => whnf)
        (repeat' (first | exact True.intro | exact fun _ h => h | refine inR64_of ?_ ?_ | apply And.intro | refine maxLen_ge ?_)) <;> (first | omega | (dsimp only; omega) | (dsimp only [List.length_cons, List.length_nil]; omega) | (intro hg; rw [hg]; rfl) | (intro hg hh; rw [hg, hh]; rfl) | (intro hg; simp [-List.getD_eq_getElem?_getD, -Int.default_eq_zero] at hg; first | omega | (refine inR64_of ?_ ?_ <;> omega) | (constructor <;> omega)) | (simp [-List.getD_eq_getElem?_getD, -Int.default_eq_zero]; done))
      · simp; omega
      · simp; omega
      · simp; omega
      all_goals repeat' (first | exact True.intro | refine leF_cons rfl ?_ ?_ | refine leS_cons rfl ?_ ?_ | (show PLe _ _ _ _; conv => whnf) | (show SLe _ _ _ _; conv => whnf) | (show PLeL _ _ _ _; conv => whnf) | apply And.intro | rfl | exact Nat.le_refl _ | exact fun _ _ => rfl | exact rowEq0 _ _)
      all_goals (try dsimp only)
      all_goals first | omega | exact q | (simp only [List.length_append, List.length_cons, List.length_nil]; done) | skip
    · replace hc := of_decide_eq_false hc
      have hge : v.length ≤ w.length := by
        have h : ¬ (w.length : Int) < v.length := hc
        omega
      clear hc
      have ht : (w.take v.length).length = v.length := by rw [List.length_take]; omega
      have a1 := nxtD_at d 10
      conv => whnf
      refine ⟨?_, ?_⟩
      · (try conv => whnf)
        (repeat' (first | exact True.intro | exact fun _ h => h | refine inR64_of ?_ ?_ | apply And.intro | refine maxLen_ge ?_)) <;> (first | omega | (dsimp only; omega) | (dsimp only [List.length_cons, List.length_nil]; omega) | (intro hg; rw [hg]; rfl) | (intro hg hh; rw [hg, hh]; rfl) | (intro hg; simp [-List.getD_eq_getElem?_getD, -Int.default_eq_zero] at hg; first | omega | (refine inR64_of ?_ ?_ <;> omega) | (constructor <;> omega)) | (simp [-List.getD_eq_getElem?_getD, -Int.default_eq_zero]; done))
      refine LSem.meet (n := 214) mix (α := List Int) (fun W => W.length ≤ 15)
        (fun W => [(0, .sl 1 1 rv.length (fl eInt rv)), (1, .sl 1 1 rg.length (fl eBool rg)), (3, .int .i64 last), (10, .sl 0 1 v.length (fl eInt v)), (11, .sl 0 1 g.length (fl eBool g)), (12, .os 832)])
        (fun W => [(832, .row 0 3 1 W.length (fl eInt W))]) ?_ ?_
      · conv => whnf
        refine ⟨_, fun _ => call_next 1 d 10 (by omega) (by omega), ?_⟩
        conv => whnf
        refine ⟨?_, fun hc => ?_, fun hc => ?_⟩
        · (try conv => whnf)
          (repeat' (first | exact True.intro | exact fun _ h => h | refine inR64_of ?_ ?_ | apply And.intro | refine maxLen_ge ?_)) <;> (first | omega | (dsimp only; omega) | (dsimp only [List.length_cons, List.length_nil]; omega) | (intro hg; rw [hg]; rfl) | (intro hg hh; rw [hg, hh]; rfl) | (intro hg; simp [-List.getD_eq_getElem?_getD, -Int.default_eq_zero] at hg; first | omega | (refine inR64_of ?_ ?_ <;> omega) | (constructor <;> omega)) | (simp [-List.getD_eq_getElem?_getD, -Int.default_eq_zero]; done))
        · have q := fl_take_push hge 1
          conv => whnf
          refine ⟨?_, w.take v.length ++ [1], ?_, rfl, rfl, ?_, ?_⟩
          · (try conv => whnf)
            (repeat' (first | exact True.intro | exact fun _ h => h | refine inR64_of ?_ ?_ | apply And.intro | refine maxLen_ge ?_)) <;> (first | omega | (dsimp only; omega) | (dsimp only [List.length_cons, List.length_nil]; omega) | (intro hg; rw [hg]; rfl) | (intro hg hh; rw [hg, hh]; rfl) | (intro hg; simp [-List.getD_eq_getElem?_getD, -Int.default_eq_zero] at hg; first | omega | (refine inR64_of ?_ ?_ <;> omega) | (constructor <;> omega)) | (simp [-List.getD_eq_getElem?_getD, -Int.default_eq_zero]; done))
          · simp; omega
          all_goals repeat' (first | exact True.intro | refine leF_cons rfl ?_ ?_ | refine leS_cons rfl ?_ ?_ | (show PLe _ _ _ _; conv => whnf) | (show SLe _ _ _ _; conv => whnf) | (show PLeL _ _ _ _; conv => whnf) | apply And.intro | rfl | exact Nat.le_refl _ | exact fun _ _ => rfl | exact rowEq0 _ _)
          all_goals first | omega | exact q | (rw [List.length_append, ht]; rfl) | skip
        · have q := fl_take (l := w) (n := v.length)
          conv => whnf
          refine ⟨?_, w.take v.length, ?_, rfl, rfl, ?_, ?_⟩
          · (try conv => whnf)
            (repeat' (first | exact True.intro | exact fun _ h => h | refine inR64_of ?_ ?_ | apply And.intro | refine maxLen_ge ?_)) <;> (first | omega | (dsimp only; omega) | (dsimp only [List.length_cons, List.length_nil]; omega) | (intro hg; rw [hg]; rfl) | (intro hg hh; rw [hg, hh]; rfl) | (intro hg; simp [-List.getD_eq_getElem?_getD, -Int.default_eq_zero] at hg; first | omega | (refine inR64_of ?_ ?_ <;> omega) | (constructor <;> omega)) | (simp [-List.getD_eq_getElem?_getD, -Int.default_eq_zero]; done))
          · simp; omega
          all_goals repeat' (first | exact True.intro | refine leF_cons rfl ?_ ?_ | refine leS_cons rfl ?_ ?_ | (show PLe _ _ _ _; conv => whnf) | (show SLe _ _ _ _; conv => whnf) | (show PLeL _ _ _ _; conv => whnf) | apply And.intro | rfl | exact Nat.le_refl _ | exact fun _ _ => rfl | exact rowEq0 _ _)
          all_goals first | omega | exact q | exact ht.symm | skip
      · intro W hW
        conv => whnf
        refine ⟨?_, ?_⟩
        · (try conv => whnf)
          (repeat' (first | exact True.intro | exact fun _ h => h | refine inR64_of ?_ ?_ | apply And.intro | refine maxLen_ge ?_)) <;> (first | omega | (dsimp only; omega) | (dsimp only [List.length_cons, List.length_nil]; omega) | (intro hg; rw [hg]; rfl) | (intro hg hh; rw [hg, hh]; rfl) | (intro hg; simp [-List.getD_eq_getElem?_getD, -Int.default_eq_zero] at hg; first | omega | (refine inR64_of ?_ ?_ <;> omega) | (constructor <;> omega)) | (simp [-List.getD_eq_getElem?_getD, -Int.default_eq_zero]; done))
        refine LSem.loop (n := 214) mix (α := Nat) (fun i => i ≤ 3)
          (fun i => [(0, .sl 1 1 rv.length (fl eInt rv)), (1, .sl 1 1 rg.length (fl eBool rg)), (3, .int .i64 last), (11, .sl 0 1 g.length (fl eBool g)), (84, .os 1344), (85, .int .i64 3), (86, .int .i64 i)])
          (fun i => [(1344, .row 1 39 2 3 (fun i => [[.sl 0 1 v.length (fl eInt v), .sl 0 1 W.length (fl eInt W)], [.sl 1 1 rv.length (fl eInt rv), .sl 0 1 W.length (fl eInt W)], [.sl 0 1 v.length (fl eInt v), .sl 1 1 rv.length (fl eInt rv)]].getD i []))]) (fun i => 3 - i) 0 ?_ ?_ ?_
        · exact Nat.zero_le _
        · refine ⟨rfl, rfl, ?_, ?_⟩
          all_goals repeat' (first | exact True.intro | refine leF_cons rfl ?_ ?_ | refine leS_cons rfl ?_ ?_ | (show PLe _ _ _ _; conv => whnf) | (show SLe _ _ _ _; conv => whnf) | (show PLeL _ _ _ _; conv => whnf) | apply And.intro | rfl | exact Nat.le_refl _ | exact fun _ _ => rfl | exact rowEq0 _ _)
          all_goals skip
        · intro i hi
          have h0123 : i = 0 ∨ i = 1 ∨ i = 2 ∨ i = 3 := by omega
          rcases h0123 with rfl | rfl | rfl | rfl
          · conv => whnf
            refine ⟨?_, fun _ => ?_, fun hc => absurd hc (by decide)⟩
            · (try conv => whnf)
              (repeat' (first | exact True.intro | exact fun _ h => h | refine inR64_of ?_ ?_ | apply And.intro | refine maxLen_ge ?_)) <;> (first | omega | (dsimp only; omega) | (dsimp only [List.length_cons, List.length_nil]; omega) | (intro hg; rw [hg]; rfl) | (intro hg hh; rw [hg, hh]; rfl) | (intro hg; simp [-List.getD_eq_getElem?_getD, -Int.default_eq_zero] at hg; first | omega | (refine inR64_of ?_ ?_ <;> omega) | (constructor <;> omega)) | (simp [-List.getD_eq_getElem?_getD, -Int.default_eq_zero]; done))
            conv => whnf
            refine ⟨?_, ?_⟩
            · (try conv => whnf)
              (repeat' (first | exact True.intro | exact fun _ h => h | refine inR64_of ?_ ?_ | apply And.intro | refine maxLen_ge ?_)) <;> (first | omega | (dsimp only; omega) | (dsimp only [List.length_cons, List.length_nil]; omega) | (intro hg; rw [hg]; rfl) | (intro hg hh; rw [hg, hh]; rfl) | (intro hg; simp [-List.getD_eq_getElem?_getD, -Int.default_eq_zero] at hg; first | omega | (refine inR64_of ?_ ?_ <;> omega) | (constructor <;> omega)) | (simp [-List.getD_eq_getElem?_getD, -Int.default_eq_zero]; done))
            refine LSem.loop (n := 214) mix (α := Nat) (fun j => j ≤ 2)
              (fun j => [(0, .sl 1 1 rv.length (fl eInt rv)), (1, .sl 1 1 rg.length (fl eBool rg)), (3, .int .i64 last), (11, .sl 0 1 g.length (fl eBool g)), (15, .pt 240 0 0), (84, .os 1344), (85, .int .i64 3), (86, .int .i64 0), (92, .os 1472), (93, .int .i64 2), (94, .int .i64 j)])
              (fun j => [(240, .box [.sl 1 1 v.length (fl eInt v), .sl 1 1 W.length (fl eInt W)]), (1344, .row 1 39 2 3 (fun i => [[.sl 0 1 v.length (fl eInt v), .sl 0 1 W.length (fl eInt W)], [.sl 1 1 rv.length (fl eInt rv), .sl 0 1 W.length (fl eInt W)], [.sl 0 1 v.length (fl eInt v), .sl 1 1 rv.length (fl eInt rv)]].getD i [])), (1472, .row 1 25 1 2 (fun i => [[.sl 0 1 g.length (fl eBool g)], [.sl 1 1 rg.length (fl eBool rg)]].getD i []))]) (fun j => 2 - j) 0 ?_ ?_ ?_
            · exact Nat.zero_le _
            · refine ⟨rfl, rfl, ?_, ?_⟩
              all_goals repeat' (first | exact True.intro | refine leF_cons rfl ?_ ?_ | refine leS_cons rfl ?_ ?_ | (show PLe _ _ _ _; conv => whnf) | (show SLe _ _ _ _; conv => whnf) | (show PLeL _ _ _ _; conv => whnf) | apply And.intro | rfl | exact Nat.le_refl _ | exact fun _ _ => rfl | exact rowEq0 _ _)
              all_goals skip
            · intro j hj
              have h012 : j = 0 ∨ j = 1 ∨ j = 2 := by omega
              rcases h012 with rfl | rfl | rfl
              · conv => whnf
                refine ⟨?_, fun _ => ?_, fun hc => absurd hc (by decide)⟩
                · (try conv => whnf)
                  (repeat' (first | exact True.intro | exact fun _ h => h | refine inR64_of ?_ ?_ | apply And.intro | refine maxLen_ge ?_)) <;> (first | omega | (dsimp only; omega) | (dsimp only [List.length_cons, List.length_nil]; omega) | (intro hg; rw [hg]; rfl) | (intro hg hh; rw [hg, hh]; rfl) | (intro hg; simp [-List.getD_eq_getElem?_getD, -Int.default_eq_zero] at hg; first | omega | (refine inR64_of ?_ ?_ <;> omega) | (constructor <;> omega)) | (simp [-List.getD_eq_getElem?_getD, -Int.default_eq_zero]; done))
                conv => whnf
                refine ⟨_, fun _ => call13 _ _ v g (by omega), ?_⟩
                conv => whnf
                refine ⟨_, fun _ => call19 _ _ v g (by omega), ?_⟩
                generalize voteF v g = V
                conv => whnf
                refine ⟨_, fun _ => call16 _ _ v g last (by omega), ?_⟩
                conv => whnf
                refine ⟨_, fun _ => call20 _ _ v g last (by omega), ?_⟩
                have f1 := fill_len v g last
                generalize fillF v g last = X at f1 ⊢
                conv => whnf
                refine ⟨_, fun _ => call_mod last 50 (by omega) (by omega), ?_⟩
                conv => whnf
                refine ⟨_, fun _ => call16 _ _ v g (last % 50) (by omega), ?_⟩
                conv => whnf
                refine ⟨rfl, ?_⟩
                conv => whnf
                refine ⟨_, fun _ => call_mod last 50 (by omega) (by omega), ?_⟩
                conv => whnf
                refine ⟨_, fun _ => call20 _ _ v g (last % 50) (by omega), ?_⟩
                have f2 := fill_len v g (last % 50)
                generalize fillF v g (last % 50) = Y at f2 ⊢
                conv => whnf
                refine ⟨rfl, ?_⟩
                conv => whnf
                refine ⟨_, fun _ => call21 _ _ _ v W g (by omega) (by omega), ?_⟩
                conv => whnf
                refine ⟨_, fun _ => call22 _ _ _ v W g (by omega) (by omega), ?_⟩
                generalize driftF v W g = D
                conv => whnf
                refine ⟨_, fun _ => call17 _ _ X.1 X.1 (by omega), ?_⟩
                conv => whnf
                refine ⟨_, fun _ => call17 _ _ Y.1 Y.1 (by omega), ?_⟩
                conv => whnf
                refine ⟨?_, fun hc => ?_, fun _ => ?_⟩
                · (try conv => whnf)
                  (repeat' (first | exact True.intro | exact fun _ h => h | refine inR64_of ?_ ?_ | apply And.intro | refine maxLen_ge ?_)) <;> (first | omega | (dsimp only; omega) | (dsimp only [List.length_cons, List.length_nil]; omega) | (intro hg; rw [hg]; rfl) | (intro hg hh; rw [hg, hh]; rfl) | (intro hg; simp [-List.getD_eq_getElem?_getD, -Int.default_eq_zero] at hg; first | omega | (refine inR64_of ?_ ?_ <;> omega) | (constructor <;> omega)) | (simp [-List.getD_eq_getElem?_getD, -Int.default_eq_zero]; done))
                · exfalso
                  simp at hc
                conv => whnf
                refine ⟨?_, 0 + 1, (by omega : 0 + 1 ≤ 2), ?_, rfl, rfl, ?_, ?_⟩
                · (try conv => whnf)
                  (repeat' (first | exact True.intro | exact fun _ h => h | refine inR64_of ?_ ?_ | apply And.intro | refine maxLen_ge ?_)) <;> (first | omega | (dsimp only; omega) | (dsimp only [List.length_cons, List.length_nil]; omega) | (intro hg; rw [hg]; rfl) | (intro hg hh; rw [hg, hh]; rfl) | (intro hg; simp [-List.getD_eq_getElem?_getD, -Int.default_eq_zero] at hg; first | omega | (refine inR64_of ?_ ?_ <;> omega) | (constructor <;> omega)) | (simp [-List.getD_eq_getElem?_getD, -Int.default_eq_zero]; done))
                · omega
                all_goals repeat' (first | exact True.intro | refine leF_cons rfl ?_ ?_ | refine leS_cons rfl ?_ ?_ | (show PLe _ _ _ _; conv => whnf) | (show SLe _ _ _ _; conv => whnf) | (show PLeL _ _ _ _; conv => whnf) | apply And.intro | rfl | exact Nat.le_refl _ | exact fun _ _ => rfl | exact rowEq0 _ _)
                all_goals skip
              · conv => whnf
                refine ⟨?_, fun _ => ?_, fun hc => absurd hc (by decide)⟩
                · (try conv => whnf)
                  (repeat' (first | exact True.intro | exact fun _ h => h | refine inR64_of ?_ ?_ | apply And.intro | refine maxLen_ge ?_)) <;> (first | omega | (dsimp only; omega) | (dsimp only [List.length_cons, List.length_nil]; omega) | (intro hg; rw [hg]; rfl) | (intro hg hh; rw [hg, hh]; rfl) | (intro hg; simp [-List.getD_eq_getElem?_getD, -Int.default_eq_zero] at hg; first | omega | (refine inR64_of ?_ ?_ <;> omega) | (constructor <;> omega)) | (simp [-List.getD_eq_getElem?_getD, -Int.default_eq_zero]; done))
                conv => whnf
                refine ⟨_, fun _ => call13 _ _ v rg (by omega), ?_⟩
                conv => whnf
                refine ⟨_, fun _ => call19 _ _ v rg (by omega), ?_⟩
                generalize voteF v rg = V
                conv => whnf
                refine ⟨_, fun _ => call16 _ _ v rg last (by omega), ?_⟩
                conv => whnf
                refine ⟨_, fun _ => call20 _ _ v rg last (by omega), ?_⟩
                have f1 := fill_len v rg last
                generalize fillF v rg last = X at f1 ⊢
                conv => whnf
                refine ⟨_, fun _ => call_mod last 50 (by omega) (by omega), ?_⟩
                conv => whnf
                refine ⟨_, fun _ => call16 _ _ v rg (last % 50) (by omega), ?_⟩
                conv => whnf
                refine ⟨rfl, ?_⟩
                conv => whnf
                refine ⟨_, fun _ => call_mod last 50 (by omega) (by omega), ?_⟩
                conv => whnf
                refine ⟨_, fun _ => call20 _ _ v rg (last % 50) (by omega), ?_⟩
                have f2 := fill_len v rg (last % 50)
                generalize fillF v rg (last % 50) = Y at f2 ⊢
                conv => whnf
                refine ⟨rfl, ?_⟩
                conv => whnf
                refine ⟨_, fun _ => call21 _ _ _ v W rg (by omega) (by omega), ?_⟩
                conv => whnf
                refine ⟨_, fun _ => call22 _ _ _ v W rg (by omega) (by omega), ?_⟩
                generalize driftF v W rg = D
                conv => whnf
                refine ⟨_, fun _ => call17 _ _ X.1 X.1 (by omega), ?_⟩
                conv => whnf
                refine ⟨_, fun _ => call17 _ _ Y.1 Y.1 (by omega), ?_⟩
                conv => whnf
                refine ⟨?_, fun hc => ?_, fun _ => ?_⟩
                · (try conv => whnf)
                  (repeat' (first | exact True.intro | exact fun _ h => h | refine inR64_of ?_ ?_ | apply And.intro | refine maxLen_ge ?_)) <;> (first | omega | (dsimp only; omega) | (dsimp only [List.length_cons, List.length_nil]; omega) | (intro hg; rw [hg]; rfl) | (intro hg hh; rw [hg, hh]; rfl) | (intro hg; simp [-List.getD_eq_getElem?_getD, -Int.default_eq_zero] at hg; first | omega | (refine inR64_of ?_ ?_ <;> omega) | (constructor <;> omega)) | (simp [-List.getD_eq_getElem?_getD, -Int.default_eq_zero]; done))
                · exfalso
                  simp at hc
                conv => whnf
                refine ⟨?_, 1 + 1, (by omega : 1 + 1 ≤ 2), ?_, rfl, rfl, ?_, ?_⟩
                · (try conv => whnf)
                  (repeat' (first | exact True.intro | exact fun _ h => h | refine inR64_of ?_ ?_ | apply And.intro | refine maxLen_ge ?_)) <;> (first | omega | (dsimp only; omega) | (dsimp only [List.length_cons, List.length_nil]; omega) | (intro hg; rw [hg]; rfl) | (intro hg hh; rw [hg, hh]; rfl) | (intro hg; simp [-List.getD_eq_getElem?_getD, -Int.default_eq_zero] at hg; first | omega | (refine inR64_of ?_ ?_ <;> omega) | (constructor <;> omega)) | (simp [-List.getD_eq_getElem?_getD, -Int.default_eq_zero]; done))
                · omega
                all_goals repeat' (first | exact True.intro | refine leF_cons rfl ?_ ?_ | refine leS_cons rfl ?_ ?_ | (show PLe _ _ _ _; conv => whnf) | (show SLe _ _ _ _; conv => whnf) | (show PLeL _ _ _ _; conv => whnf) | apply And.intro | rfl | exact Nat.le_refl _ | exact fun _ _ => rfl | exact rowEq0 _ _)
                all_goals skip
              · conv => whnf
                refine ⟨?_, fun hc => absurd hc (by decide), fun _ => ?_⟩
                · (try conv => whnf)
                  (repeat' (first | exact True.intro | exact fun _ h => h | refine inR64_of ?_ ?_ | apply And.intro | refine maxLen_ge ?_)) <;> (first | omega | (dsimp only; omega) | (dsimp only [List.length_cons, List.length_nil]; omega) | (intro hg; rw [hg]; rfl) | (intro hg hh; rw [hg, hh]; rfl) | (intro hg; simp [-List.getD_eq_getElem?_getD, -Int.default_eq_zero] at hg; first | omega | (refine inR64_of ?_ ?_ <;> omega) | (constructor <;> omega)) | (simp [-List.getD_eq_getElem?_getD, -Int.default_eq_zero]; done))
                conv => whnf
                refine ⟨?_, 0 + 1, (by omega : 0 + 1 ≤ 3), ?_, rfl, rfl, ?_, ?_⟩
                · (try conv => whnf)
                  (repeat' (first | exact True.intro | exact fun _ h => h | refine inR64_of ?_ ?_ | apply And.intro | refine maxLen_ge ?_)) <;> (first | omega | (dsimp only; omega) | (dsimp only [List.length_cons, List.length_nil]; omega) | (intro hg; rw [hg]; rfl) | (intro hg hh; rw [hg, hh]; rfl) | (intro hg; simp [-List.getD_eq_getElem?_getD, -Int.default_eq_zero] at hg; first | omega | (refine inR64_of ?_ ?_ <;> omega) | (constructor <;> omega)) | (simp [-List.getD_eq_getElem?_getD, -Int.default_eq_zero]; done))
                · omega
                all_goals repeat' (first | exact True.intro | refine leF_cons rfl ?_ ?_ | refine leS_cons rfl ?_ ?_ | (show PLe _ _ _ _; conv => whnf) | (show SLe _ _ _ _; conv => whnf) | (show PLeL _ _ _ _; conv => whnf) | apply And.intro | rfl | exact Nat.le_refl _ | exact fun _ _ => rfl | exact rowEq0 _ _)
                all_goals skip
          · conv => whnf
            refine ⟨?_, fun _ => ?_, fun hc => absurd hc (by decide)⟩
            · (try conv => whnf)
              (repeat' (first | exact True.intro | exact fun _ h => h | refine inR64_of ?_ ?_ | apply And.intro | refine maxLen_ge ?_)) <;> (first | omega | (dsimp only; omega) | (dsimp only [List.length_cons, List.length_nil]; omega) | (intro hg; rw [hg]; rfl) | (intro hg hh; rw [hg, hh]; rfl) | (intro hg; simp [-List.getD_eq_getElem?_getD, -Int.default_eq_zero] at hg; first | omega | (refine inR64_of ?_ ?_ <;> omega) | (constructor <;> omega)) | (simp [-List.getD_eq_getElem?_getD, -Int.default_eq_zero]; done))
            conv => whnf
            refine ⟨?_, ?_⟩
            · (try conv => whnf)
              (repeat' (first | exact True.intro | exact fun _ h => h | refine inR64_of ?_ ?_ | apply And.intro | refine maxLen_ge ?_)) <;> (first | omega | (dsimp only; omega) | (dsimp only [List.length_cons, List.length_nil]; omega) | (intro hg; rw [hg]; rfl) | (intro hg hh; rw [hg, hh]; rfl) | (intro hg; simp [-List.getD_eq_getElem?_getD, -Int.default_eq_zero] at hg; first | omega | (refine inR64_of ?_ ?_ <;> omega) | (constructor <;> omega)) | (simp [-List.getD_eq_getElem?_getD, -Int.default_eq_zero]; done))
            refine LSem.loop (n := 214) mix (α := Nat) (fun j => j ≤ 2)
              (fun j => [(0, .sl 1 1 rv.length (fl eInt rv)), (1, .sl 1 1 rg.length (fl eBool rg)), (3, .int .i64 last), (11, .sl 0 1 g.length (fl eBool g)), (15, .pt 240 0 0), (84, .os 1344), (85, .int .i64 3), (86, .int .i64 1), (92, .os 1472), (93, .int .i64 2), (94, .int .i64 j)])
              (fun j => [(240, .box [.sl 1 1 rv.length (fl eInt rv), .sl 1 1 W.length (fl eInt W)]), (1344, .row 1 39 2 3 (fun i => [[.sl 0 1 v.length (fl eInt v), .sl 0 1 W.length (fl eInt W)], [.sl 1 1 rv.length (fl eInt rv), .sl 0 1 W.length (fl eInt W)], [.sl 0 1 v.length (fl eInt v), .sl 1 1 rv.length (fl eInt rv)]].getD i [])), (1472, .row 1 25 1 2 (fun i => [[.sl 0 1 g.length (fl eBool g)], [.sl 1 1 rg.length (fl eBool rg)]].getD i []))]) (fun j => 2 - j) 0 ?_ ?_ ?_
            · exact Nat.zero_le _
            · refine ⟨rfl, rfl, ?_, ?_⟩
              all_goals repeat' (first | exact True.intro | refine leF_cons rfl ?_ ?_ | refine leS_cons rfl ?_ ?_ | (show PLe _ _ _ _; conv => whnf) | (show SLe _ _ _ _; conv => whnf) | (show PLeL _ _ _ _; conv => whnf) | apply And.intro | rfl | exact Nat.le_refl _ | exact fun _ _ => rfl | exact rowEq0 _ _)
              all_goals skip
            · intro j hj
              have h012 : j = 0 ∨ j = 1 ∨ j = 2 := by omega
              rcases h012 with rfl | rfl | rfl
              · conv => whnf
                refine ⟨?_, fun _ => ?_, fun hc => absurd hc (by decide)⟩
                · (try conv => whnf)
                  (repeat' (first | exact True.intro | exact fun _ h => h | refine inR64_of ?_ ?_ | apply And.intro | refine maxLen_ge ?_)) <;> (first | omega | (dsimp only; omega) | (dsimp only [List.length_cons, List.length_nil]; omega) | (intro hg; rw [hg]; rfl) | (intro hg hh; rw [hg, hh]; rfl) | (intro hg; simp [-List.getD_eq_getElem?_getD, -Int.default_eq_zero] at hg; first | omega | (refine inR64_of ?_ ?_ <;> omega) | (constructor <;> omega)) | (simp [-List.getD_eq_getElem?_getD, -Int.default_eq_zero]; done))
                conv => whnf
                refine ⟨_, fun _ => call13 _ _ rv g (by omega), ?_⟩
                conv => whnf
                refine ⟨_, fun _ => call19 _ _ rv g (by omega), ?_⟩
                generalize voteF rv g = V
                conv => whnf
                refine ⟨_, fun _ => call16 _ _ rv g last (by omega), ?_⟩
                conv => whnf
                refine ⟨_, fun _ => call20 _ _ rv g last (by omega), ?_⟩
                have f1 := fill_len rv g last
                generalize fillF rv g last = X at f1 ⊢
                conv => whnf
                refine ⟨_, fun _ => call_mod last 50 (by omega) (by omega), ?_⟩
                conv => whnf
                refine ⟨_, fun _ => call16 _ _ rv g (last % 50) (by omega), ?_⟩
                conv => whnf
                refine ⟨rfl, ?_⟩
                conv => whnf
                refine ⟨_, fun _ => call_mod last 50 (by omega) (by omega), ?_⟩
                conv => whnf
                refine ⟨_, fun _ => call20 _ _ rv g (last % 50) (by omega), ?_⟩
                have f2 := fill_len rv g (last % 50)
                generalize fillF rv g (last % 50) = Y at f2 ⊢
                conv => whnf
                refine ⟨rfl, ?_⟩
                conv => whnf
                refine ⟨_, fun _ => call21 _ _ _ rv W g (by omega) (by omega), ?_⟩
                conv => whnf
                refine ⟨_, fun _ => call22 _ _ _ rv W g (by omega) (by omega), ?_⟩
                generalize driftF rv W g = D
                conv => whnf
                refine ⟨_, fun _ => call17 _ _ X.1 X.1 (by omega), ?_⟩
                conv => whnf
                refine ⟨_, fun _ => call17 _ _ Y.1 Y.1 (by omega), ?_⟩
                conv => whnf
                refine ⟨?_, fun hc => ?_, fun _ => ?_⟩
                · (try conv => whnf)
                  (repeat' (first | exact True.intro | exact fun _ h => h | refine inR64_of ?_ ?_ | apply And.intro | refine maxLen_ge ?_)) <;> (first | omega | (dsimp only; omega) | (dsimp only [List.length_cons, List.length_nil]; omega) | (intro hg; rw [hg]; rfl) | (intro hg hh; rw [hg, hh]; rfl) | (intro hg; simp [-List.getD_eq_getElem?_getD, -Int.default_eq_zero] at hg; first | omega | (refine inR64_of ?_ ?_ <;> omega) | (constructor <;> omega)) | (simp [-List.getD_eq_getElem?_getD, -Int.default_eq_zero]; done))
                · exfalso
                  simp at hc
                conv => whnf
                refine ⟨?_, 0 + 1, (by omega : 0 + 1 ≤ 2), ?_, rfl, rfl, ?_, ?_⟩
                · (try conv => whnf)
                  (repeat' (first | exact True.intro | exact fun _ h => h | refine inR64_of ?_ ?_ | apply And.intro | refine maxLen_ge ?_)) <;> (first | omega | (dsimp only; omega) | (dsimp only [List.length_cons, List.length_nil]; omega) | (intro hg; rw [hg]; rfl) | (intro hg hh; rw [hg, hh]; rfl) | (intro hg; simp [-List.getD_eq_getElem?_getD, -Int.default_eq_zero] at hg; first | omega | (refine inR64_of ?_ ?_ <;> omega) | (constructor <;> omega)) | (simp [-List.getD_eq_getElem?_getD, -Int.default_eq_zero]; done))
                · omega
                all_goals repeat' (first | exact True.intro | refine leF_cons rfl ?_ ?_ | refine leS_cons rfl ?_ ?_ | (show PLe _ _ _ _; conv => whnf) | (show SLe _ _ _ _; conv => whnf) | (show PLeL _ _ _ _; conv => whnf) | apply And.intro | rfl | exact Nat.le_refl _ | exact fun _ _ => rfl | exact rowEq0 _ _)
                all_goals skip
              · conv => whnf
                refine ⟨?_, fun _ => ?_, fun hc => absurd hc (by decide)⟩
                · (try conv => whnf)
                  (repeat' (first | exact True.intro | exact fun _ h => h | refine inR64_of ?_ ?_ | apply And.intro | refine maxLen_ge ?_)) <;> (first | omega | (dsimp only; omega) | (dsimp only [List.length_cons, List.length_nil]; omega) | (intro hg; rw [hg]; rfl) | (intro hg hh; rw [hg, hh]; rfl) | (intro hg; simp [-List.getD_eq_getElem?_getD, -Int.default_eq_zero] at hg; first | omega | (refine inR64_of ?_ ?_ <;> omega) | (constructor <;> omega)) | (simp [-List.getD_eq_getElem?_getD, -Int.default_eq_zero]; done))
                conv => whnf
                refine ⟨_, fun _ => call13 _ _ rv rg (by omega), ?_⟩
                conv => whnf
                refine ⟨_, fun _ => call19 _ _ rv rg (by omega), ?_⟩
                generalize voteF rv rg = V
                conv => whnf
                refine ⟨_, fun _ => call16 _ _ rv rg last (by omega), ?_⟩
                conv => whnf
                refine ⟨_, fun _ => call20 _ _ rv rg last (by omega), ?_⟩
                have f1 := fill_len rv rg last
                generalize fillF rv rg last = X at f1 ⊢
                conv => whnf
                refine ⟨_, fun _ => call_mod last 50 (by omega) (by omega), ?_⟩
                conv => whnf
                refine ⟨_, fun _ => call16 _ _ rv rg (last % 50) (by omega), ?_⟩
                conv => whnf
                refine ⟨rfl, ?_⟩
                conv => whnf
                refine ⟨_, fun _ => call_mod last 50 (by omega) (by omega), ?_⟩
                conv => whnf
                refine ⟨_, fun _ => call20 _ _ rv rg (last % 50) (by omega), ?_⟩
                have f2 := fill_len rv rg (last % 50)
                generalize fillF rv rg (last % 50) = Y at f2 ⊢
                conv => whnf
                refine ⟨rfl, ?_⟩
                conv => whnf
                refine ⟨_, fun _ => call21 _ _ _ rv W rg (by omega) (by omega), ?_⟩
                conv => whnf
                refine ⟨_, fun _ => call22 _ _ _ rv W rg (by omega) (by omega), ?_⟩
                generalize driftF rv W rg = D
                conv => whnf
                refine ⟨_, fun _ => call17 _ _ X.1 X.1 (by omega), ?_⟩
                conv => whnf
                refine ⟨_, fun _ => call17 _ _ Y.1 Y.1 (by omega), ?_⟩
                conv => whnf
                refine ⟨?_, fun hc => ?_, fun _ => ?_⟩
                · (try conv => whnf)
                  (repeat' (first | exact True.intro | exact fun _ h => h | refine inR64_of ?_ ?_ | apply And.intro | refine maxLen_ge ?_)) <;> (first | omega | (dsimp only; omega) | (dsimp only [List.length_cons, List.length_nil]; omega) | (intro hg; rw [hg]; rfl) | (intro hg hh; rw [hg, hh]; rfl) | (intro hg; simp [-List.getD_eq_getElem?_getD, -Int.default_eq_zero] at hg; first | omega | (refine inR64_of ?_ ?_ <;> omega) | (constructor <;> omega)) | (simp [-List.getD_eq_getElem?_getD, -Int.default_eq_zero]; done))
                · exfalso
                  simp at hc
                conv => whnf
                refine ⟨?_, 1 + 1, (by omega : 1 + 1 ≤ 2), ?_, rfl, rfl, ?_, ?_⟩
                · (try conv => whnf)
                  (repeat' (first | exact True.intro | exact fun _ h => h | refine inR64_of ?_ ?_ | apply And.intro | refine maxLen_ge ?_)) <;> (first | omega | (dsimp only; omega) | (dsimp only [List.length_cons, List.length_nil]; omega) | (intro hg; rw [hg]; rfl) | (intro hg hh; rw [hg, hh]; rfl) | (intro hg; simp [-List.getD_eq_getElem?_getD, -Int.default_eq_zero] at hg; first | omega | (refine inR64_of ?_ ?_ <;> omega) | (constructor <;> omega)) | (simp [-List.getD_eq_getElem?_getD, -Int.default_eq_zero]; done))
                · omega
                all_goals repeat' (first | exact True.intro | refine leF_cons rfl ?_ ?_ | refine leS_cons rfl ?_ ?_ | (show PLe _ _ _ _; conv => whnf) | (show SLe _ _ _ _; conv => whnf) | (show PLeL _ _ _ _; conv => whnf) | apply And.intro | rfl | exact Nat.le_refl _ | exact fun _ _ => rfl | exact rowEq0 _ _)
                all_goals skip
              · conv => whnf
                refine ⟨?_, fun hc => absurd hc (by decide), fun _ => ?_⟩
                · (try conv => whnf)
                  (repeat' (first | exact True.intro | exact fun _ h => h | refine inR64_of ?_ ?_ | apply And.intro | refine maxLen_ge ?_)) <;> (first | omega | (dsimp only; omega) | (dsimp only [List.length_cons, List.length_nil]; omega) | (intro hg; rw [hg]; rfl) | (intro hg hh; rw [hg, hh]; rfl) | (intro hg; simp [-List.getD_eq_getElem?_getD, -Int.default_eq_zero] at hg; first | omega | (refine inR64_of ?_ ?_ <;> omega) | (constructor <;> omega)) | (simp [-List.getD_eq_getElem?_getD, -Int.default_eq_zero]; done))
                conv => whnf
                refine ⟨?_, 1 + 1, (by omega : 1 + 1 ≤ 3), ?_, rfl, rfl, ?_, ?_⟩
                · (try conv => whnf)
                  (repeat' (first | exact True.intro | exact fun _ h => h | refine inR64_of ?_ ?_ | apply And.intro | refine maxLen_ge ?_)) <;> (first | omega | (dsimp only; omega) | (dsimp only [List.length_cons, List.length_nil]; omega) | (intro hg; rw [hg]; rfl) | (intro hg hh; rw [hg, hh]; rfl) | (intro hg; simp [-List.getD_eq_getElem?_getD, -Int.default_eq_zero] at hg; first | omega | (refine inR64_of ?_ ?_ <;> omega) | (constructor <;> omega)) | (simp [-List.getD_eq_getElem?_getD, -Int.default_eq_zero]; done))
                · omega
                all_goals repeat' (first | exact True.intro | refine leF_cons rfl ?_ ?_ | refine leS_cons rfl ?_ ?_ | (show PLe _ _ _ _; conv => whnf) | (show SLe _ _ _ _; conv => whnf) | (show PLeL _ _ _ _; conv => whnf) | apply And.intro | rfl | exact Nat.le_refl _ | exact fun _ _ => rfl | exact rowEq0 _ _)
                all_goals skip
          · conv => whnf
            refine ⟨?_, fun _ => ?_, fun hc => absurd hc (by decide)⟩
            · (try conv => whnf)
              (repeat' (first | exact True.intro | exact fun _ h => h | refine inR64_of ?_ ?_ | apply And.intro | refine maxLen_ge ?_)) <;> (first | omega | (dsimp only; omega) | (dsimp only [List.length_cons, List.length_nil]; omega) | (intro hg; rw [hg]; rfl) | (intro hg hh; rw [hg, hh]; rfl) | (intro hg; simp [-List.getD_eq_getElem?_getD, -Int.default_eq_zero] at hg; first | omega | (refine inR64_of ?_ ?_ <;> omega) | (constructor <;> omega)) | (simp [-List.getD_eq_getElem?_getD, -Int.default_eq_zero]; done))
            conv => whnf
            refine ⟨?_, ?_⟩
            · (try conv => whnf)
              (repeat' (first | exact True.intro | exact fun _ h => h | refine inR64_of ?_ ?_ | apply And.intro | refine maxLen_ge ?_)) <;> (first | omega | (dsimp only; omega) | (dsimp only [List.length_cons, List.length_nil]; omega) | (intro hg; rw [hg]; rfl) | (intro hg hh; rw [hg, hh]; rfl) | (intro hg; simp [-List.getD_eq_getElem?_getD, -Int.default_eq_zero] at hg; first | omega | (refine inR64_of ?_ ?_ <;> omega) | (constructor <;> omega)) | (simp [-List.getD_eq_getElem?_getD, -Int.default_eq_zero]; done))
            refine LSem.loop (n := 214) mix (α := Nat) (fun j => j ≤ 2)
              (fun j => [(0, .sl 1 1 rv.length (fl eInt rv)), (1, .sl 1 1 rg.length (fl eBool rg)), (3, .int .i64 last), (11, .sl 0 1 g.length (fl eBool g)), (15, .pt 240 0 0), (84, .os 1344), (85, .int .i64 3), (86, .int .i64 2), (92, .os 1472), (93, .int .i64 2), (94, .int .i64 j)])
              (fun j => [(240, .box [.sl 1 1 v.length (fl eInt v), .sl 1 1 rv.length (fl eInt rv)]), (1344, .row 1 39 2 3 (fun i => [[.sl 0 1 v.length (fl eInt v), .sl 0 1 W.length (fl eInt W)], [.sl 1 1 rv.length (fl eInt rv), .sl 0 1 W.length (fl eInt W)], [.sl 0 1 v.length (fl eInt v), .sl 1 1 rv.length (fl eInt rv)]].getD i [])), (1472, .row 1 25 1 2 (fun i => [[.sl 0 1 g.length (fl eBool g)], [.sl 1 1 rg.length (fl eBool rg)]].getD i []))]) (fun j => 2 - j) 0 ?_ ?_ ?_
            · exact Nat.zero_le _
            · refine ⟨rfl, rfl, ?_, ?_⟩
              all_goals repeat' (first | exact True.intro | refine leF_cons rfl ?_ ?_ | refine leS_cons rfl ?_ ?_ | (show PLe _ _ _ _; conv => whnf) | (show SLe _ _ _ _; conv => whnf) | (show PLeL _ _ _ _; conv => whnf) | apply And.intro | rfl | exact Nat.le_refl _ | exact fun _ _ => rfl | exact rowEq0 _ _)
              all_goals skip
            · intro j hj
              have h012 : j = 0 ∨ j = 1 ∨ j = 2 := by omega
              rcases h012 with rfl | rfl | rfl
              · conv => whnf
                refine ⟨?_, fun _ => ?_, fun hc => absurd hc (by decide)⟩
                · (try conv => whnf)
                  (repeat' (first | exact True.intro | exact fun _ h => h | refine inR64_of ?_ ?_ | apply And.intro | refine maxLen_ge ?_)) <;> (first | omega | (dsimp only; omega) | (dsimp only [List.length_cons, List.length_nil]; omega) | (intro hg; rw [hg]; rfl) | (intro hg hh; rw [hg, hh]; rfl) | (intro hg; simp [-List.getD_eq_getElem?_getD, -Int.default_eq_zero] at hg; first | omega | (refine inR64_of ?_ ?_ <;> omega) | (constructor <;> omega)) | (simp [-List.getD_eq_getElem?_getD, -Int.default_eq_zero]; done))
                conv => whnf
                refine ⟨_, fun _ => call13 _ _ v g (by omega), ?_⟩
                conv => whnf
                refine ⟨_, fun _ => call19 _ _ v g (by omega), ?_⟩
                generalize voteF v g = V
                conv => whnf
                refine ⟨_, fun _ => call16 _ _ v g last (by omega), ?_⟩
                conv => whnf
                refine ⟨_, fun _ => call20 _ _ v g last (by omega), ?_⟩
                have f1 := fill_len v g last
                generalize fillF v g last = X at f1 ⊢
                conv => whnf
                refine ⟨_, fun _ => call_mod last 50 (by omega) (by omega), ?_⟩
                conv => whnf
                refine ⟨_, fun _ => call16 _ _ v g (last % 50) (by omega), ?_⟩
                conv => whnf
                refine ⟨rfl, ?_⟩
                conv => whnf
                refine ⟨_, fun _ => call_mod last 50 (by omega) (by omega), ?_⟩
                conv => whnf
                refine ⟨_, fun _ => call20 _ _ v g (last % 50) (by omega), ?_⟩
                have f2 := fill_len v g (last % 50)
                generalize fillF v g (last % 50) = Y at f2 ⊢
                conv => whnf
                refine ⟨rfl, ?_⟩
                conv => whnf
                refine ⟨_, fun _ => call21 _ _ _ v rv g (by omega) (by omega), ?_⟩
                conv => whnf
                refine ⟨_, fun _ => call22 _ _ _ v rv g (by omega) (by omega), ?_⟩
                generalize driftF v rv g = D
                conv => whnf
                refine ⟨_, fun _ => call17 _ _ X.1 X.1 (by omega), ?_⟩
                conv => whnf
                refine ⟨_, fun _ => call17 _ _ Y.1 Y.1 (by omega), ?_⟩
                conv => whnf
                refine ⟨?_, fun hc => ?_, fun _ => ?_⟩
                · (try conv => whnf)
                  (repeat' (first | exact True.intro | exact fun _ h => h | refine inR64_of ?_ ?_ | apply And.intro | refine maxLen_ge ?_)) <;> (first | omega | (dsimp only; omega) | (dsimp only [List.length_cons, List.length_nil]; omega) | (intro hg; rw [hg]; rfl) | (intro hg hh; rw [hg, hh]; rfl) | (intro hg; simp [-List.getD_eq_getElem?_getD, -Int.default_eq_zero] at hg; first | omega | (refine inR64_of ?_ ?_ <;> omega) | (constructor <;> omega)) | (simp [-List.getD_eq_getElem?_getD, -Int.default_eq_zero]; done))
                · exfalso
                  simp at hc
                conv => whnf
                refine ⟨?_, 0 + 1, (by omega : 0 + 1 ≤ 2), ?_, rfl, rfl, ?_, ?_⟩
                · (try conv => whnf)
                  (repeat' (first | exact True.intro | exact fun _ h => h | refine inR64_of ?_ ?_ | apply And.intro | refine maxLen_ge ?_)) <;> (first | omega | (dsimp only; omega) | (dsimp only [List.length_cons, List.length_nil]; omega) | (intro hg; rw [hg]; rfl) | (intro hg hh; rw [hg, hh]; rfl) | (intro hg; simp [-List.getD_eq_getElem?_getD, -Int.default_eq_zero] at hg; first | omega | (refine inR64_of ?_ ?_ <;> omega) | (constructor <;> omega)) | (simp [-List.getD_eq_getElem?_getD, -Int.default_eq_zero]; done))
                · omega
                all_goals repeat' (first | exact True.intro | refine leF_cons rfl ?_ ?_ | refine leS_cons rfl ?_ ?_ | (show PLe _ _ _ _; conv => whnf) | (show SLe _ _ _ _; conv => whnf) | (show PLeL _ _ _ _; conv => whnf) | apply And.intro | rfl | exact Nat.le_refl _ | exact fun _ _ => rfl | exact rowEq0 _ _)
                all_goals skip
              · conv => whnf
                refine ⟨?_, fun _ => ?_, fun hc => absurd hc (by decide)⟩
                · (try conv => whnf)
                  (repeat' (first | exact True.intro | exact fun _ h => h | refine inR64_of ?_ ?_ | apply And.intro | refine maxLen_ge ?_)) <;> (first | omega | (dsimp only; omega) | (dsimp only [List.length_cons, List.length_nil]; omega) | (intro hg; rw [hg]; rfl) | (intro hg hh; rw [hg, hh]; rfl) | (intro hg; simp [-List.getD_eq_getElem?_getD, -Int.default_eq_zero] at hg; first | omega | (refine inR64_of ?_ ?_ <;> omega) | (constructor <;> omega)) | (simp [-List.getD_eq_getElem?_getD, -Int.default_eq_zero]; done))
                conv => whnf
                refine ⟨_, fun _ => call13 _ _ v rg (by omega), ?_⟩
                conv => whnf
                refine ⟨_, fun _ => call19 _ _ v rg (by omega), ?_⟩
                generalize voteF v rg = V
                conv => whnf
                refine ⟨_, fun _ => call16 _ _ v rg last (by omega), ?_⟩
                conv => whnf
                refine ⟨_, fun _ => call20 _ _ v rg last (by omega), ?_⟩
                have f1 := fill_len v rg last
                generalize fillF v rg last = X at f1 ⊢
                conv => whnf
                refine ⟨_, fun _ => call_mod last 50 (by omega) (by omega), ?_⟩
                conv => whnf
                refine ⟨_, fun _ => call16 _ _ v rg (last % 50) (by omega), ?_⟩
                conv => whnf
                refine ⟨rfl, ?_⟩
                conv => whnf
                refine ⟨_, fun _ => call_mod last 50 (by omega) (by omega), ?_⟩
                conv => whnf
                refine ⟨_, fun _ => call20 _ _ v rg (last % 50) (by omega), ?_⟩
                have f2 := fill_len v rg (last % 50)
                generalize fillF v rg (last % 50) = Y at f2 ⊢
                conv => whnf
                refine ⟨rfl, ?_⟩
                conv => whnf
                refine ⟨_, fun _ => call21 _ _ _ v rv rg (by omega) (by omega), ?_⟩
                conv => whnf
                refine ⟨_, fun _ => call22 _ _ _ v rv rg (by omega) (by omega), ?_⟩
                generalize driftF v rv rg = D
                conv => whnf
                refine ⟨_, fun _ => call17 _ _ X.1 X.1 (by omega), ?_⟩
                conv => whnf
                refine ⟨_, fun _ => call17 _ _ Y.1 Y.1 (by omega), ?_⟩
                conv => whnf
                refine ⟨?_, fun hc => ?_, fun _ => ?_⟩
                · (try conv => whnf)
                  (repeat' (first | exact True.intro | exact fun _ h => h | refine inR64_of ?_ ?_ | apply And.intro | refine maxLen_ge ?_)) <;> (first | omega | (dsimp only; omega) | (dsimp only [List.length_cons, List.length_nil]; omega) | (intro hg; rw [hg]; rfl) | (intro hg hh; rw [hg, hh]; rfl) | (intro hg; simp [-List.getD_eq_getElem?_getD, -Int.default_eq_zero] at hg; first | omega | (refine inR64_of ?_ ?_ <;> omega) | (constructor <;> omega)) | (simp [-List.getD_eq_getElem?_getD, -Int.default_eq_zero]; done))
                · exfalso
                  simp at hc
                conv => whnf
                refine ⟨?_, 1 + 1, (by omega : 1 + 1 ≤ 2), ?_, rfl, rfl, ?_, ?_⟩
                · (try conv => whnf)
                  (repeat' (first | exact True.intro | exact fun _ h => h | refine inR64_of ?_ ?_ | apply And.intro | refine maxLen_ge ?_)) <;> (first | omega | (dsimp only; omega) | (dsimp only [List.length_cons, List.length_nil]; omega) | (intro hg; rw [hg]; rfl) | (intro hg hh; rw [hg, hh]; rfl) | (intro hg; simp [-List.getD_eq_getElem?_getD, -Int.default_eq_zero] at hg; first | omega | (refine inR64_of ?_ ?_ <;> omega) | (constructor <;> omega)) | (simp [-List.getD_eq_getElem?_getD, -Int.default_eq_zero]; done))
                · omega
                all_goals repeat' (first | exact True.intro | refine leF_cons rfl ?_ ?_ | refine leS_cons rfl ?_ ?_ | (show PLe _ _ _ _; conv => whnf) | (show SLe _ _ _ _; conv => whnf) | (show PLeL _ _ _ _; conv => whnf) | apply And.intro | rfl | exact Nat.le_refl _ | exact fun _ _ => rfl | exact rowEq0 _ _)
                all_goals skip
              · conv => whnf
                refine ⟨?_, fun hc => absurd hc (by decide), fun _ => ?_⟩
                · (try conv => whnf)
                  (repeat' (first | exact True.intro | exact fun _ h => h | refine inR64_of ?_ ?_ | apply And.intro | refine maxLen_ge ?_)) <;> (first | omega | (dsimp only; omega) | (dsimp only [List.length_cons, List.length_nil]; omega) | (intro hg; rw [hg]; rfl) | (intro hg hh; rw [hg, hh]; rfl) | (intro hg; simp [-List.getD_eq_getElem?_getD, -Int.default_eq_zero] at hg; first | omega | (refine inR64_of ?_ ?_ <;> omega) | (constructor <;> omega)) | (simp [-List.getD_eq_getElem?_getD, -Int.default_eq_zero]; done))
                conv => whnf
                refine ⟨?_, 2 + 1, (by omega : 2 + 1 ≤ 3), ?_, rfl, rfl, ?_, ?_⟩
                · (try conv => whnf)
                  (repeat' (first | exact True.intro | exact fun _ h => h | refine inR64_of ?_ ?_ | apply And.intro | refine maxLen_ge ?_)) <;> (first | omega | (dsimp only; omega) | (dsimp only [List.length_cons, List.length_nil]; omega) | (intro hg; rw [hg]; rfl) | (intro hg hh; rw [hg, hh]; rfl) | (intro hg; simp [-List.getD_eq_getElem?_getD, -Int.default_eq_zero] at hg; first | omega | (refine inR64_of ?_ ?_ <;> omega) | (constructor <;> omega)) | (simp [-List.getD_eq_getElem?_getD, -Int.default_eq_zero]; done))
                · omega
                all_goals repeat' (first | exact True.intro | refine leF_cons rfl ?_ ?_ | refine leS_cons rfl ?_ ?_ | (show PLe _ _ _ _; conv => whnf) | (show SLe _ _ _ _; conv => whnf) | (show PLeL _ _ _ _; conv => whnf) | apply And.intro | rfl | exact Nat.le_refl _ | exact fun _ _ => rfl | exact rowEq0 _ _)
                all_goals skip
          · conv => whnf
            refine ⟨?_, fun hc => absurd hc (by decide), fun _ => ?_⟩
            · (try conv => whnf)
              (repeat' (first | exact True.intro | exact fun _ h => h | refine inR64_of ?_ ?_ | apply And.intro | refine maxLen_ge ?_)) <;> (first | omega | (dsimp only; omega) | (dsimp only [List.length_cons, List.length_nil]; omega) | (intro hg; rw [hg]; rfl) | (intro hg hh; rw [hg, hh]; rfl) | (intro hg; simp [-List.getD_eq_getElem?_getD, -Int.default_eq_zero] at hg; first | omega | (refine inR64_of ?_ ?_ <;> omega) | (constructor <;> omega)) | (simp [-List.getD_eq_getElem?_getD, -Int.default_eq_zero]; done))
            conv => whnf
            refine ⟨_, fun _ => call14, ?_⟩
            conv => whnf
            refine ⟨?_, [], ?_⟩
            · (try conv => whnf)
              (repeat' (first | exact True.intro | exact fun _ h => h | refine inR64_of ?_ ?_ | apply And.intro | refine maxLen_ge ?_)) <;> (first | omega | (dsimp only; omega) | (dsimp only [List.length_cons, List.length_nil]; omega) | (intro hg; rw [hg]; rfl) | (intro hg hh; rw [hg, hh]; rfl) | (intro hg; simp [-List.getD_eq_getElem?_getD, -Int.default_eq_zero] at hg; first | omega | (refine inR64_of ?_ ?_ <;> omega) | (constructor <;> omega)) | (simp [-List.getD_eq_getElem?_getD, -Int.default_eq_zero]; done))
            conv => whnf
            refine ⟨rfl, ?_, trivial, trivial⟩
            all_goals repeat' (first | exact True.intro | refine leF_cons rfl ?_ ?_ | refine leS_cons rfl ?_ ?_ | (show PLe _ _ _ _; conv => whnf) | (show SLe _ _ _ _; conv => whnf) | (show PLeL _ _ _ _; conv => whnf) | apply And.intro | rfl | exact Nat.le_refl _ | exact fun _ _ => rfl | exact rowEq0 _ _)
end Pv
end Go.Proofs.Ytogoplhikmmggaa
