/- LAW 08, THE WALKS: what several gauges say together: the document's. -/
import Derived.Test.YtogoplhikmmggaaQ17
import Derived.Test.YtogoplhikmmggaaQ19
set_option linter.unusedSimpArgs false
set_option linter.unusedVariables false
namespace Go.Proofs.Ytogoplhikmmggaa
namespace Pv
def c30L1 : C := (.seq (.reg [⟨(some 34), 544, none, .bi false .lss (.t 33) (.t 32)⟩])
  (.seq (.cond (.t 34) .skip (.exit 0))
  (.seq (.block 1 (.seq (.reg [⟨(some 35), 560, none, .mv (.t 33)⟩,
    ⟨(some 10), 160, none, .mv (.t 35)⟩])
  (.seq (.drw [⟨(some 36), 576, none, .mv (.t 1)⟩,
    ⟨(some 37), 592, none, .mv (.t 10)⟩,
    ⟨(some 38), 608, none, .ia 1 (.t 36) (.t 37)⟩,
    ⟨(some 39), 624, none, .ld 1 false (.t 38)⟩,
    ⟨(some 40), 640, none, .len (.t 39)⟩,
    ⟨(some 41), 656, none, .mv (.t 1)⟩,
    ⟨(some 42), 672, none, .ia 1 (.t 41) (.c (.int .i64 0))⟩,
    ⟨(some 43), 688, none, .ld 1 false (.t 42)⟩,
    ⟨(some 44), 704, none, .len (.t 43)⟩,
    ⟨(some 45), 720, none, .bi false .neq (.t 40) (.t 44)⟩]
    [(0, 1, 36), (0, 5, 36), (0, 6, 36), (0, 7, 36), (0, 8, 36), (1, 5, 37), (1, 6, 37), (1, 7, 37), (1, 8, 37), (2, 5, 38), (2, 6, 38), (2, 7, 38), (2, 8, 38), (3, 5, 39), (3, 6, 39), (3, 7, 39), (3, 8, 39), (4, 5, 40), (4, 6, 40), (4, 7, 40), (4, 8, 40)])
  (.cond (.t 45) (.seq (.reg [⟨(some 6), 96, none, .mv (.c (.nil 1))⟩,
    ⟨(some 7), 112, none, .mv (.c (.nil 1))⟩,
    ⟨(some 8), 128, none, .mv (.c (.nil 1))⟩,
    ⟨(some 9), 144, none, .mv (.c (.int .i64 3))⟩])
  .ret) .skip))))
  (.reg [⟨(some 46), 736, none, .bi false .add (.t 33) (.c (.int .i64 1))⟩,
    ⟨(some 33), 528, none, .mv (.t 46)⟩]))))
def c30L2 : C := (.seq (.reg [⟨(some 52), 832, none, .bi false .lss (.t 51) (.t 50)⟩])
  (.seq (.cond (.t 52) .skip (.exit 2))
  (.seq (.block 3 (.seq (.reg [⟨(some 53), 848, none, .mv (.t 51)⟩,
    ⟨(some 12), 192, none, .mv (.t 53)⟩])
  (.seq (.drw [⟨(some 55), 880, none, .mv (.t 0)⟩,
    ⟨(some 56), 896, none, .mv (.t 12)⟩,
    ⟨(some 57), 912, none, .ia 4 (.t 55) (.t 56)⟩,
    ⟨(some 58), 928, none, .ld 4 true (.t 57)⟩,
    ⟨(some 59), 944, none, .mv (.t 1)⟩,
    ⟨(some 60), 960, none, .mv (.t 12)⟩,
    ⟨(some 61), 976, none, .ia 1 (.t 59) (.t 60)⟩,
    ⟨(some 62), 992, none, .ld 1 false (.t 61)⟩,
    ⟨(some 63), 1008, none, .call (.c (.fn (.func 26) [] [])) [(.t 58), (.t 62)]⟩,
    ⟨(some 54), 864, none, .mv (.t 63)⟩,
    ⟨(some 64), 1024, none, .ex (.t 54) 0⟩,
    ⟨(some 65), 1040, none, .ex (.t 54) 1⟩,
    ⟨(some 13), 208, none, .mv (.t 64)⟩,
    ⟨(some 14), 224, none, .mv (.t 65)⟩]
    [(0, 1, 55), (0, 4, 55), (0, 5, 55), (0, 6, 55), (0, 7, 55), (1, 4, 56), (1, 5, 56), (1, 6, 56), (1, 7, 56), (2, 4, 57), (2, 5, 57), (2, 6, 57), (2, 7, 57), (3, 4, 58), (3, 5, 58), (3, 6, 58), (3, 7, 58), (4, 5, 59), (10, 11, 64), (11, 12, 65)])
  (.seq (.seq (.reg [⟨(some 66), 1056, none, .mv (.t 14)⟩,
    ⟨(some 67), 1072, none, .bi false .neq (.t 66) (.c (.int .i64 0))⟩])
  (.cond (.t 67) (.seq (.reg [⟨(some 68), 1088, none, .mv (.t 14)⟩,
    ⟨(some 6), 96, none, .mv (.c (.nil 1))⟩,
    ⟨(some 7), 112, none, .mv (.c (.nil 1))⟩,
    ⟨(some 8), 128, none, .mv (.c (.nil 1))⟩,
    ⟨(some 9), 144, none, .mv (.t 68)⟩])
  .ret) .skip))
  (.reg [⟨(some 69), 1104, none, .mv (.t 11)⟩,
    ⟨(some 70), 1120, none, .mv (.t 13)⟩,
    ⟨(some 71), 1136, none, .bs 22 1 [(.t 70)]⟩,
    ⟨(some 72), 1152, none, .app 22 1 24 (.t 69) (.t 71)⟩,
    ⟨(some 11), 176, none, .mv (.t 72)⟩])))))
  (.reg [⟨(some 73), 1168, none, .bi false .add (.t 51) (.c (.int .i64 1))⟩,
    ⟨(some 51), 816, none, .mv (.t 73)⟩]))))
def c30L4 : C := (.seq (.reg [⟨(some 87), 1392, none, .bi false .lss (.t 86) (.t 85)⟩])
  (.seq (.cond (.t 87) .skip (.exit 6))
  (.seq (.block 7 (.seq (.reg [⟨(some 88), 1408, none, .mv (.t 86)⟩,
    ⟨(some 21), 336, none, .mv (.t 88)⟩])
  (.drw [⟨(some 89), 1424, none, .mv (.t 19)⟩,
    ⟨(some 90), 1440, none, .mv (.t 1)⟩,
    ⟨(some 91), 1456, none, .mv (.t 21)⟩,
    ⟨(some 92), 1472, none, .ia 1 (.t 90) (.t 91)⟩,
    ⟨(some 93), 1488, none, .ld 1 false (.t 92)⟩,
    ⟨(some 94), 1504, none, .mv (.t 18)⟩,
    ⟨(some 95), 1520, none, .ia 4 (.t 93) (.t 94)⟩,
    ⟨(some 96), 1536, none, .fa 2 (.t 95)⟩,
    ⟨(some 97), 1552, none, .ld 1 false (.t 96)⟩,
    ⟨(some 98), 1568, none, .bs 3 1 [(.t 97)]⟩,
    ⟨(some 99), 1584, none, .app 3 1 8 (.t 89) (.t 98)⟩,
    ⟨(some 100), 1600, none, .mv (.t 20)⟩,
    ⟨(some 101), 1616, none, .mv (.t 11)⟩,
    ⟨(some 102), 1632, none, .mv (.t 21)⟩,
    ⟨(some 103), 1648, none, .ia 1 (.t 101) (.t 102)⟩,
    ⟨(some 104), 1664, none, .ld 1 false (.t 103)⟩,
    ⟨(some 105), 1680, none, .mv (.t 18)⟩,
    ⟨(some 106), 1696, none, .ia 1 (.t 104) (.t 105)⟩,
    ⟨(some 107), 1712, none, .ld 1 false (.t 106)⟩,
    ⟨(some 108), 1728, none, .bi false .eql (.t 107) (.c (.int .i64 1))⟩,
    ⟨(some 109), 1744, none, .bs 4 1 [(.t 108)]⟩,
    ⟨(some 110), 1760, none, .app 4 1 1 (.t 100) (.t 109)⟩,
    ⟨(some 19), 304, none, .mv (.t 99)⟩,
    ⟨(some 20), 320, none, .mv (.t 110)⟩]
    [(0, 1, 89), (0, 2, 89), (0, 3, 89), (0, 4, 89), (0, 5, 89), (0, 6, 89), (0, 7, 89), (0, 8, 89), (0, 9, 89), (0, 11, 89), (0, 12, 89), (0, 13, 89), (0, 14, 89), (0, 15, 89), (0, 16, 89), (0, 17, 89), (0, 18, 89), (0, 19, 89), (0, 20, 89), (1, 2, 90), (1, 5, 90), (1, 11, 90), (1, 12, 90), (1, 13, 90), (1, 14, 90), (1, 15, 90), (1, 16, 90), (1, 17, 90), (1, 18, 90), (1, 19, 90), (1, 20, 90), (2, 5, 91), (2, 11, 91), (2, 12, 91), (2, 13, 91), (2, 14, 91), (2, 15, 91), (2, 16, 91), (2, 17, 91), (2, 18, 91), (2, 19, 91), (2, 20, 91), (3, 5, 92), (3, 11, 92), (3, 12, 92), (3, 13, 92), (3, 14, 92), (3, 15, 92), (3, 16, 92), (3, 17, 92), (3, 18, 92), (3, 19, 92), (3, 20, 92), (4, 5, 93), (4, 11, 93), (4, 12, 93), (4, 13, 93), (4, 14, 93), (4, 15, 93), (4, 16, 93), (4, 17, 93), (4, 18, 93), (4, 19, 93), (4, 20, 93), (5, 11, 94), (5, 12, 94), (5, 13, 94), (5, 14, 94), (5, 15, 94), (5, 16, 94), (5, 17, 94), (5, 18, 94), (5, 19, 94), (5, 20, 94), (6, 11, 95), (6, 12, 95), (6, 13, 95), (6, 14, 95), (6, 15, 95), (6, 16, 95), (6, 17, 95), (6, 18, 95), (6, 19, 95), (6, 20, 95), (7, 11, 96), (7, 12, 96), (7, 13, 96), (7, 14, 96), (7, 15, 96), (7, 16, 96), (7, 17, 96), (7, 18, 96), (7, 19, 96), (7, 20, 96), (8, 11, 97), (8, 12, 97), (8, 13, 97), (8, 14, 97), (8, 15, 97), (8, 16, 97), (8, 17, 97), (8, 18, 97), (8, 19, 97), (8, 20, 97), (9, 11, 98), (9, 12, 98), (9, 13, 98), (9, 14, 98), (9, 15, 98), (9, 16, 98), (9, 17, 98), (9, 18, 98), (9, 19, 98), (9, 20, 98), (10, 11, 99), (10, 12, 99), (10, 13, 99), (10, 14, 99), (10, 15, 99), (10, 16, 99), (10, 17, 99), (10, 18, 99), (10, 19, 99), (10, 20, 99), (11, 12, 100), (11, 13, 100), (11, 14, 100), (11, 15, 100), (11, 16, 100), (11, 17, 100), (11, 18, 100), (11, 19, 100), (11, 20, 100), (12, 13, 101), (12, 16, 101), (13, 16, 102), (14, 16, 103), (15, 16, 104)])))
  (.reg [⟨(some 111), 1776, none, .bi false .add (.t 86) (.c (.int .i64 1))⟩,
    ⟨(some 86), 1376, none, .mv (.t 111)⟩]))))
def c30L5 : C := (.seq (.reg [⟨(some 121), 1936, none, .bi false .lss (.t 120) (.t 119)⟩])
  (.seq (.cond (.t 121) .skip (.exit 8))
  (.seq (.block 9 (.seq (.reg [⟨(some 122), 1952, none, .mv (.t 120)⟩,
    ⟨(some 25), 400, none, .mv (.t 122)⟩])
  (.seq (.drw [⟨(some 123), 1968, none, .mv (.t 20)⟩,
    ⟨(some 124), 1984, none, .mv (.t 25)⟩,
    ⟨(some 125), 2000, none, .ia 1 (.t 123) (.t 124)⟩,
    ⟨(some 126), 2016, none, .ld 1 false (.t 125)⟩,
    ⟨(some 127), 2032, none, .mv (.t 126)⟩,
    ⟨(some 128), 2048, (some (127, true)), .mv (.t 19)⟩,
    ⟨(some 129), 2064, (some (127, true)), .mv (.t 25)⟩,
    ⟨(some 130), 2080, (some (127, true)), .ia 1 (.t 128) (.t 129)⟩,
    ⟨(some 131), 2096, (some (127, true)), .ld 1 false (.t 130)⟩,
    ⟨(some 132), 2112, (some (127, true)), .mv (.t 22)⟩,
    ⟨(some 133), 2128, (some (127, true)), .bi false .sub (.t 131) (.t 132)⟩,
    ⟨(some 134), 2144, (some (127, true)), .mv (.t 22)⟩,
    ⟨(some 135), 2160, (some (127, true)), .mv (.t 19)⟩,
    ⟨(some 136), 2176, (some (127, true)), .mv (.t 25)⟩,
    ⟨(some 137), 2192, (some (127, true)), .ia 1 (.t 135) (.t 136)⟩,
    ⟨(some 138), 2208, (some (127, true)), .ld 1 false (.t 137)⟩,
    ⟨(some 139), 2224, (some (127, true)), .bi false .sub (.t 134) (.t 138)⟩,
    ⟨(some 140), 2240, (some (127, true)), .mx [(.t 133), (.t 139)]⟩,
    ⟨(some 141), 2256, (some (127, true)), .mv (.t 2)⟩,
    ⟨(some 142), 2272, (some (127, true)), .bi false .gtr (.t 140) (.t 141)⟩,
    ⟨(some 143), 2288, none, .pick (.t 127) (.t 142) (.c (.bool false))⟩]
    [(0, 1, 123), (5, 6, 128), (5, 9, 128), (5, 11, 128), (5, 12, 128), (5, 13, 128), (5, 14, 128), (5, 15, 128), (5, 16, 128), (5, 18, 128), (6, 9, 129), (6, 11, 129), (6, 12, 129), (6, 13, 129), (6, 14, 129), (6, 15, 129), (6, 16, 129), (6, 18, 129), (7, 9, 130), (7, 11, 130), (7, 12, 130), (7, 13, 130), (7, 14, 130), (7, 15, 130), (7, 16, 130), (7, 18, 130), (8, 9, 131), (8, 11, 131), (8, 12, 131), (8, 13, 131), (8, 14, 131), (8, 15, 131), (8, 16, 131), (8, 18, 131), (9, 11, 132), (9, 12, 132), (9, 13, 132), (9, 14, 132), (9, 15, 132), (9, 16, 132), (9, 18, 132), (10, 11, 133), (10, 12, 133), (10, 13, 133), (10, 14, 133), (10, 15, 133), (10, 16, 133), (10, 18, 133), (11, 12, 134), (11, 13, 134), (11, 14, 134), (11, 15, 134), (11, 18, 134), (12, 13, 135), (12, 18, 135), (13, 18, 136), (14, 18, 137), (15, 18, 138), (16, 18, 139), (17, 18, 140)])
  (.cond (.t 143) (.reg [⟨(some 144), 2304, none, .mv (.t 24)⟩,
    ⟨(some 145), 2320, none, .bi false .add (.t 144) (.c (.int .i64 1))⟩,
    ⟨(some 24), 384, none, .mv (.t 145)⟩]) .skip))))
  (.reg [⟨(some 146), 2336, none, .bi false .add (.t 120) (.c (.int .i64 1))⟩,
    ⟨(some 120), 1920, none, .mv (.t 146)⟩]))))
def c30L3 : C := (.seq (.reg [⟨(some 82), 1312, none, .bi false .lss (.t 81) (.t 80)⟩])
  (.seq (.cond (.t 82) .skip (.exit 4))
  (.seq (.block 5 (.seq (.reg [⟨(some 83), 1328, none, .mv (.t 81)⟩,
    ⟨(some 18), 288, none, .mv (.t 83)⟩])
  (.seq (.reg [⟨(some 19), 304, none, .mv (.c (.nil 1))⟩])
  (.seq (.reg [⟨(some 20), 320, none, .mv (.c (.nil 1))⟩])
  (.seq (.seq (.reg [⟨(some 84), 1344, none, .mv (.t 1)⟩,
    ⟨(some 85), 1360, none, .len (.t 84)⟩,
    ⟨(some 86), 1376, none, .mv (.c (.int .i64 0))⟩])
  (.block 6 (.loop c30L4)))
  (.seq (.reg [⟨(some 113), 1808, none, .mv (.t 19)⟩,
    ⟨(some 114), 1824, none, .mv (.t 20)⟩,
    ⟨(some 115), 1840, none, .call (.c (.fn (.func 19) [] [])) [(.t 113), (.t 114)]⟩,
    ⟨(some 112), 1792, none, .mv (.t 115)⟩,
    ⟨(some 116), 1856, none, .ex (.t 112) 0⟩,
    ⟨(some 117), 1872, none, .ex (.t 112) 1⟩,
    ⟨(some 22), 352, none, .mv (.t 116)⟩,
    ⟨(some 23), 368, none, .mv (.t 117)⟩])
  (.seq (.reg [⟨(some 24), 384, none, .mv (.c (.int .i64 0))⟩])
  (.seq (.seq (.reg [⟨(some 118), 1888, none, .mv (.t 19)⟩,
    ⟨(some 119), 1904, none, .len (.t 118)⟩,
    ⟨(some 120), 1920, none, .mv (.c (.int .i64 0))⟩])
  (.block 8 (.loop c30L5)))
  (.reg [⟨(some 147), 2352, none, .mv (.t 15)⟩,
    ⟨(some 148), 2368, none, .mv (.t 22)⟩,
    ⟨(some 149), 2384, none, .bs 3 1 [(.t 148)]⟩,
    ⟨(some 150), 2400, none, .app 3 1 8 (.t 147) (.t 149)⟩,
    ⟨(some 151), 2416, none, .mv (.t 17)⟩,
    ⟨(some 152), 2432, none, .mv (.t 23)⟩,
    ⟨(some 153), 2448, none, .bs 4 1 [(.t 152)]⟩,
    ⟨(some 154), 2464, none, .app 4 1 1 (.t 151) (.t 153)⟩,
    ⟨(some 155), 2480, none, .mv (.t 16)⟩,
    ⟨(some 156), 2496, none, .mv (.t 24)⟩,
    ⟨(some 157), 2512, none, .bs 3 1 [(.t 156)]⟩,
    ⟨(some 158), 2528, none, .app 3 1 8 (.t 155) (.t 157)⟩,
    ⟨(some 15), 240, none, .mv (.t 150)⟩,
    ⟨(some 17), 272, none, .mv (.t 154)⟩,
    ⟨(some 16), 256, none, .mv (.t 158)⟩])))))))))
  (.reg [⟨(some 159), 2544, none, .bi false .add (.t 81) (.c (.int .i64 1))⟩,
    ⟨(some 81), 1296, none, .mv (.t 159)⟩]))))
def c30 : C := (.seq (.reg [⟨(some 6), 96, none, .mv (.c (.nil 1))⟩,
    ⟨(some 7), 112, none, .mv (.c (.nil 1))⟩,
    ⟨(some 8), 128, none, .mv (.c (.nil 1))⟩,
    ⟨(some 9), 144, none, .mv (.c (.int .i64 0))⟩])
  (.seq (.seq (.reg [⟨(some 26), 416, none, .mv (.t 0)⟩,
    ⟨(some 27), 432, none, .len (.t 26)⟩,
    ⟨(some 28), 448, none, .mv (.t 1)⟩,
    ⟨(some 29), 464, none, .len (.t 28)⟩,
    ⟨(some 30), 480, none, .bi false .neq (.t 27) (.t 29)⟩])
  (.cond (.t 30) (.seq (.reg [⟨(some 6), 96, none, .mv (.c (.nil 1))⟩,
    ⟨(some 7), 112, none, .mv (.c (.nil 1))⟩,
    ⟨(some 8), 128, none, .mv (.c (.nil 1))⟩,
    ⟨(some 9), 144, none, .mv (.c (.int .i64 3))⟩])
  .ret) .skip))
  (.seq (.seq (.reg [⟨(some 31), 496, none, .mv (.t 1)⟩,
    ⟨(some 32), 512, none, .len (.t 31)⟩,
    ⟨(some 33), 528, none, .mv (.c (.int .i64 0))⟩])
  (.block 0 (.loop c30L1)))
  (.seq (.seq (.reg [⟨(some 47), 752, none, .mv (.t 2)⟩,
    ⟨(some 48), 768, none, .bi false .lss (.t 47) (.c (.int .i64 0))⟩])
  (.cond (.t 48) (.seq (.reg [⟨(some 6), 96, none, .mv (.c (.nil 1))⟩,
    ⟨(some 7), 112, none, .mv (.c (.nil 1))⟩,
    ⟨(some 8), 128, none, .mv (.c (.nil 1))⟩,
    ⟨(some 9), 144, none, .mv (.c (.int .i64 1))⟩])
  .ret) .skip))
  (.seq (.reg [⟨(some 11), 176, none, .mv (.c (.nil 1))⟩])
  (.seq (.seq (.reg [⟨(some 49), 784, none, .mv (.t 1)⟩,
    ⟨(some 50), 800, none, .len (.t 49)⟩,
    ⟨(some 51), 816, none, .mv (.c (.int .i64 0))⟩])
  (.block 2 (.loop c30L2)))
  (.seq (.seq (.reg [⟨(some 74), 1184, none, .mv (.t 1)⟩,
    ⟨(some 75), 1200, none, .len (.t 74)⟩,
    ⟨(some 76), 1216, none, .bi false .eql (.t 75) (.c (.int .i64 0))⟩])
  (.cond (.t 76) (.seq (.reg [⟨(some 6), 96, none, .mv (.c (.nil 1))⟩,
    ⟨(some 7), 112, none, .mv (.c (.nil 1))⟩,
    ⟨(some 8), 128, none, .mv (.c (.nil 1))⟩,
    ⟨(some 9), 144, none, .mv (.c (.int .i64 0))⟩])
  .ret) .skip))
  (.seq (.reg [⟨(some 15), 240, none, .mv (.c (.nil 1))⟩,
    ⟨(some 16), 256, none, .mv (.c (.nil 1))⟩])
  (.seq (.reg [⟨(some 17), 272, none, .mv (.c (.nil 1))⟩])
  (.seq (.seq (.reg [⟨(some 77), 1232, none, .mv (.t 1)⟩,
    ⟨(some 78), 1248, none, .ia 1 (.t 77) (.c (.int .i64 0))⟩,
    ⟨(some 79), 1264, none, .ld 1 false (.t 78)⟩,
    ⟨(some 80), 1280, none, .len (.t 79)⟩,
    ⟨(some 81), 1296, none, .mv (.c (.int .i64 0))⟩])
  (.block 4 (.loop c30L3)))
  (.seq (.reg [⟨(some 160), 2560, none, .mv (.t 15)⟩,
    ⟨(some 161), 2576, none, .mv (.t 17)⟩,
    ⟨(some 162), 2592, none, .mv (.t 16)⟩,
    ⟨(some 6), 96, none, .mv (.t 160)⟩,
    ⟨(some 7), 112, none, .mv (.t 161)⟩,
    ⟨(some 8), 128, none, .mv (.t 162)⟩,
    ⟨(some 9), 144, none, .mv (.c (.int .i64 0))⟩])
  .ret)))))))))))
theorem fits30 : fits Try.prog false Try.f30 3 163 [(6, none), (7, none), (8, none), (9, none)] = some c30.er := by kernel_rfl

set_option maxRecDepth 100000 in
set_option maxHeartbeats 16000000 in
theorem call30 (σ : Nat) (C : List Ck) (G : List (List Rd)) (most : Int) (hC : C.length ≤ 1000) (hl : G.length ≤ 1000) (hG : ∀ i, i < G.length → (G.getD i default).length ≤ 8796093022208) :
    PureCall Try.prog 30 [.sl 2 4 C.length (fl eCk C), .sl 2 1 G.length (fl (eLs σ) G), .int .i64 most] []
      ⟨.tup [.sl 0 1 (combF C G most).1.length (fl eInt (combF C G most).1), .sl 0 1 (combF C G most).2.1.length (fl eBool (combF C G most).2.1), .sl 0 1 (combF C G most).2.2.1.length (fl eInt (combF C G most).2.2.1), .int .i64 (combF C G most).2.2.2], [], []⟩ := by
  refine pure_call mix Try.func30 fits30 rfl ?_
  conv => whnf
  refine ⟨?_, fun hc => ?_, fun hc => ?_⟩
  · (try conv => whnf)
    (repeat' (first | exact True.intro | exact fun _ h => h | refine inR64_of ?_ ?_ | apply And.intro | refine maxLen_ge ?_)) <;> (first | omega | (dsimp only; omega) | (dsimp only [List.length_cons, List.length_nil]; omega) | (intro hg; rw [hg]; rfl) | (intro hg hh; rw [hg, hh]; rfl) | (intro hg; simp [-List.getD_eq_getElem?_getD, -Int.default_eq_zero] at hg; first | omega | (refine inR64_of ?_ ?_ <;> omega) | (constructor <;> omega)) | (simp [-List.getD_eq_getElem?_getD, -Int.default_eq_zero]; done))
  · simp only [bif_t, bif_f, decide_eq_true_eq, decide_eq_false_iff_not, Bool.not_eq_true', Bool.not_eq_false', Bool.and_eq_true, Bool.or_eq_true, Bool.and_eq_false_iff, Bool.or_eq_false_iff, beq_iff_eq, bne_iff_ne, beq_eq_false_iff_ne, bne_eq_false_iff_eq, reduceCtorEq, false_and, and_false, true_and, and_true, or_false, false_or, or_true, true_or, not_true_eq_false, not_false_eq_true, Int.toNat_zero] at hc
    rw [show combF C G most = ([], [], [], 3) by unfold combF; rw [if_pos (by omega)]]
    conv => whnf
    refine ⟨?_, [], ?_⟩
    · (try conv => whnf)
      (repeat' (first | exact True.intro | exact fun _ h => h | refine inR64_of ?_ ?_ | apply And.intro | refine maxLen_ge ?_)) <;> (first | omega | (dsimp only; omega) | (dsimp only [List.length_cons, List.length_nil]; omega) | (intro hg; rw [hg]; rfl) | (intro hg hh; rw [hg, hh]; rfl) | (intro hg; simp [-List.getD_eq_getElem?_getD, -Int.default_eq_zero] at hg; first | omega | (refine inR64_of ?_ ?_ <;> omega) | (constructor <;> omega)) | (simp [-List.getD_eq_getElem?_getD, -Int.default_eq_zero]; done))
    conv => whnf
    refine ⟨rfl, ?_, trivial, trivial⟩
    all_goals repeat' (first | exact True.intro | refine leF_cons rfl ?_ ?_ | refine leS_cons rfl ?_ ?_ | (show PLe _ _ _ _; conv => whnf) | (show SLe _ _ _ _; conv => whnf) | (show PLeL _ _ _ _; conv => whnf) | apply And.intro | rfl | exact Nat.le_refl _ | exact fun _ _ => rfl | exact rowEq0 _ _)
  simp only [bif_t, bif_f, decide_eq_true_eq, decide_eq_false_iff_not, Bool.not_eq_true', Bool.not_eq_false', Bool.and_eq_true, Bool.or_eq_true, Bool.and_eq_false_iff, Bool.or_eq_false_iff, beq_iff_eq, bne_iff_ne, beq_eq_false_iff_ne, bne_eq_false_iff_eq, reduceCtorEq, false_and, and_false, true_and, and_true, or_false, false_or, or_true, true_or, not_true_eq_false, not_false_eq_true, Int.toNat_zero] at hc
  have hlen : C.length = G.length := by omega
  clear hc
  conv => whnf
  refine ⟨trivial, ?_⟩
  refine LSem.loop (n := 163) mix (α := Nat) (fun i => i ≤ G.length ∧ ∀ j, j < i → lenP G (G.getD j default) = false)
    (fun i => [(0, .sl 2 4 C.length (fl eCk C)), (1, .sl 2 1 G.length (fl (eLs σ) G)), (2, .int .i64 most), (32, .int .i64 G.length), (33, .int .i64 i)])
    (fun i => []) (fun i => G.length - i) 0 ?_ ?_ ?_
  · exact ⟨Nat.zero_le _, fun j hj => by omega⟩
  · refine ⟨rfl, rfl, ?_, ?_⟩
    all_goals repeat' (first | exact True.intro | refine leF_cons rfl ?_ ?_ | refine leS_cons rfl ?_ ?_ | (show PLe _ _ _ _; conv => whnf) | (show SLe _ _ _ _; conv => whnf) | (show PLeL _ _ _ _; conv => whnf) | apply And.intro | rfl | exact Nat.le_refl _ | exact fun _ _ => rfl | exact rowEq0 _ _)
  · intro i hi
    obtain ⟨hi, hall⟩ := hi
    have hj : ((i : Int)).toNat = i := by omega
    conv => whnf
    refine ⟨trivial, fun hc => ?_, fun hc => ?_⟩
    · replace hc := of_decide_eq_true hc
      have hlt : i < G.length := by omega
      conv => whnf
      refine ⟨rfl, ?_⟩
      conv => whnf
      refine ⟨?_, fun hc2 => ?_, fun hc2 => ?_⟩
      · (try conv => whnf)
        (repeat' (first | exact True.intro | exact fun _ h => h | refine inR64_of ?_ ?_ | apply And.intro | refine maxLen_ge ?_)) <;> (first | omega | (dsimp only; omega) | (dsimp only [List.length_cons, List.length_nil]; omega) | (intro hg; rw [hg]; rfl) | (intro hg hh; rw [hg, hh]; rfl) | (intro hg; simp [-List.getD_eq_getElem?_getD, -Int.default_eq_zero] at hg; first | omega | (refine inR64_of ?_ ?_ <;> omega) | (constructor <;> omega)) | (simp [-List.getD_eq_getElem?_getD, -Int.default_eq_zero]; done))
      · simp only [bif_t, bif_f, decide_eq_true_eq, decide_eq_false_iff_not, Bool.not_eq_true', Bool.not_eq_false', Bool.and_eq_true, Bool.or_eq_true, Bool.and_eq_false_iff, Bool.or_eq_false_iff, beq_iff_eq, bne_iff_ne, beq_eq_false_iff_ne, bne_eq_false_iff_eq, reduceCtorEq, false_and, and_false, true_and, and_true, or_false, false_or, or_true, true_or, not_true_eq_false, not_false_eq_true, Int.toNat_zero] at hc2
        rw [hj] at hc2
        have hp : lenP G (G.getD i default) = true := by
          unfold lenP
          refine decide_eq_true ?_
          intro e; apply hc2; rw [e]
        have hx : 0 ≤ ixG (lenP G) G 0 G.length := by
          rcases Int.lt_or_le (ixG (lenP G) G 0 G.length) 0 with h | h
          · have h2 : lenP G (G.getD i default) = false := ixG_neg.1 h i (by omega) (by omega)
            rw [hp] at h2; cases h2
          · exact h
        rw [show combF C G most = ([], [], [], 3) by unfold combF; rw [if_pos (by omega)]]
        conv => whnf
        refine ⟨?_, [], ?_⟩
        · (try conv => whnf)
          (repeat' (first | exact True.intro | exact fun _ h => h | refine inR64_of ?_ ?_ | apply And.intro | refine maxLen_ge ?_)) <;> (first | omega | (dsimp only; omega) | (dsimp only [List.length_cons, List.length_nil]; omega) | (intro hg; rw [hg]; rfl) | (intro hg hh; rw [hg, hh]; rfl) | (intro hg; simp [-List.getD_eq_getElem?_getD, -Int.default_eq_zero] at hg; first | omega | (refine inR64_of ?_ ?_ <;> omega) | (constructor <;> omega)) | (simp [-List.getD_eq_getElem?_getD, -Int.default_eq_zero]; done))
        conv => whnf
        refine ⟨rfl, ?_, trivial, trivial⟩
        all_goals repeat' (first | exact True.intro | refine leF_cons rfl ?_ ?_ | refine leS_cons rfl ?_ ?_ | (show PLe _ _ _ _; conv => whnf) | (show SLe _ _ _ _; conv => whnf) | (show PLeL _ _ _ _; conv => whnf) | apply And.intro | rfl | exact Nat.le_refl _ | exact fun _ _ => rfl | exact rowEq0 _ _)
      · simp only [bif_t, bif_f, decide_eq_true_eq, decide_eq_false_iff_not, Bool.not_eq_true', Bool.not_eq_false', Bool.and_eq_true, Bool.or_eq_true, Bool.and_eq_false_iff, Bool.or_eq_false_iff, beq_iff_eq, bne_iff_ne, beq_eq_false_iff_ne, bne_eq_false_iff_eq, reduceCtorEq, false_and, and_false, true_and, and_true, or_false, false_or, or_true, true_or, not_true_eq_false, not_false_eq_true, Int.toNat_zero] at hc2
        rw [hj] at hc2
        have hp : lenP G (G.getD i default) = false := by
          unfold lenP
          refine decide_eq_false ?_
          intro e; apply e; omega
        conv => whnf
        refine ⟨?_, i + 1, ⟨by omega, fun j hj2 => ?_⟩, ?_, rfl, rfl, ?_, ?_⟩
        · (try conv => whnf)
          (repeat' (first | exact True.intro | exact fun _ h => h | refine inR64_of ?_ ?_ | apply And.intro | refine maxLen_ge ?_)) <;> (first | omega | (dsimp only; omega) | (dsimp only [List.length_cons, List.length_nil]; omega) | (intro hg; rw [hg]; rfl) | (intro hg hh; rw [hg, hh]; rfl) | (intro hg; simp [-List.getD_eq_getElem?_getD, -Int.default_eq_zero] at hg; first | omega | (refine inR64_of ?_ ?_ <;> omega) | (constructor <;> omega)) | (simp [-List.getD_eq_getElem?_getD, -Int.default_eq_zero]; done))
        · by_cases e : j = i
          · rw [e]; exact hp
          · exact hall j (by omega)
        · omega
        all_goals repeat' (first | exact True.intro | refine leF_cons rfl ?_ ?_ | refine leS_cons rfl ?_ ?_ | (show PLe _ _ _ _; conv => whnf) | (show SLe _ _ _ _; conv => whnf) | (show PLeL _ _ _ _; conv => whnf) | apply And.intro | rfl | exact Nat.le_refl _ | exact fun _ _ => rfl | exact rowEq0 _ _)
        all_goals omega
    replace hc := of_decide_eq_false hc
    have hix : ixG (lenP G) G 0 G.length < 0 := ixG_neg.2 fun j _ h2 => hall j (by omega)
    clear hall hj hc
    have hsame : ∀ i, i < G.length → (G.getD i default).length = (G.getD 0 default).length := fun i hi => by
      have := ixG_neg.1 hix i (by omega) (by omega)
      unfold lenP at this
      have := of_decide_eq_false this
      omega
    have hf1 : combF C G most = if most < 0 then ([], [], [], 1)
        else if scan (vE C G) 0 G.length ≠ 0 then ([], [], [], scan (vE C G) 0 G.length)
        else ((combT G (vL C G G.length) most G.length (stepsF G G.length).toNat).1, (combT G (vL C G G.length) most G.length (stepsF G G.length).toNat).2.1, (combT G (vL C G G.length) most G.length (stepsF G G.length).toNat).2.2, 0) := by
      unfold combF; rw [if_neg (by omega)]
    rw [hf1]
    clear hf1 hix
    conv => whnf
    refine ⟨trivial, fun hc => ?_, fun hc => ?_⟩
    · replace hc := of_decide_eq_true hc
      rw [if_pos hc]
      conv => whnf
      refine ⟨?_, [], ?_⟩
      · (try conv => whnf)
        (repeat' (first | exact True.intro | exact fun _ h => h | refine inR64_of ?_ ?_ | apply And.intro | refine maxLen_ge ?_)) <;> (first | omega | (dsimp only; omega) | (dsimp only [List.length_cons, List.length_nil]; omega) | (intro hg; rw [hg]; rfl) | (intro hg hh; rw [hg, hh]; rfl) | (intro hg; simp [-List.getD_eq_getElem?_getD, -Int.default_eq_zero] at hg; first | omega | (refine inR64_of ?_ ?_ <;> omega) | (constructor <;> omega)) | (simp [-List.getD_eq_getElem?_getD, -Int.default_eq_zero]; done))
      conv => whnf
      refine ⟨rfl, ?_, trivial, trivial⟩
      all_goals repeat' (first | exact True.intro | refine leF_cons rfl ?_ ?_ | refine leS_cons rfl ?_ ?_ | (show PLe _ _ _ _; conv => whnf) | (show SLe _ _ _ _; conv => whnf) | (show PLeL _ _ _ _; conv => whnf) | apply And.intro | rfl | exact Nat.le_refl _ | exact fun _ _ => rfl | exact rowEq0 _ _)
    replace hc := of_decide_eq_false hc
    rw [if_neg hc]
    have hmost : 0 ≤ most := by
      have h : ¬ most < 0 := hc
      omega
    clear hc
    conv => whnf
    refine ⟨trivial, ?_⟩
    refine LSem.adopt 11 1000000 22 1 1 rfl rfl ?_
    refine LSem.loop (n := 163) mix (α := Nat) (fun i => i ≤ G.length ∧ scan (vE C G) i (G.length - i) = scan (vE C G) 0 G.length ∧ ∀ j, j < i → vE C G j = 0)
      (fun i => [(0, .sl 2 4 C.length (fl eCk C)), (1, .sl 2 1 G.length (fl (eLs σ) G)), (2, .int .i64 most), (11, .os 1000000), (50, .int .i64 G.length), (51, .int .i64 i)])
      (fun i => [(1000000, .row 0 22 1 i (fl eVs (vL C G i)))]) (fun i => G.length - i) 0 ?_ ?_ ?_
    · exact ⟨Nat.zero_le _, rfl, fun j hj => by omega⟩
    · refine ⟨rfl, rfl, ?_, ?_⟩
      all_goals repeat' (first | exact True.intro | refine leF_cons rfl ?_ ?_ | refine leS_cons rfl ?_ ?_ | (show PLe _ _ _ _; conv => whnf) | (show SLe _ _ _ _; conv => whnf) | (show PLeL _ _ _ _; conv => whnf) | apply And.intro | rfl | exact Nat.le_refl _ | exact fun _ _ => rfl | exact rowEq0 _ _)
    · intro i hi
      obtain ⟨hi, hs, hall⟩ := hi
      have hj : ((i : Int)).toNat = i := by omega
      conv => whnf
      refine ⟨trivial, fun hc => ?_, fun hc => ?_⟩
      · replace hc := of_decide_eq_true hc
        have hlt : i < G.length := by omega
        have hgi := hG i hlt
        conv => whnf
        refine ⟨_, fun _ => call26 (C.getD ((i : Int)).toNat default) (G.getD ((i : Int)).toNat default) (by rw [hj]; exact hgi), ?_⟩
        rw [hj]
        have hE : vE C G i = (verdictsF (C.getD i default) (G.getD i default)).2 := rfl
        have hps := fl_push eVs (vL C G i) (verdictsF (C.getD i default) (G.getD i default)).1
        rw [vL_len, show vL C G i ++ [(verdictsF (C.getD i default) (G.getD i default)).1] = vL C G (i + 1) from rfl] at hps
        generalize verdictsF (C.getD i default) (G.getD i default) = V at hE hps ⊢
        conv => whnf
        refine ⟨rfl, ?_⟩
        conv => whnf
        refine ⟨?_, fun hc1 => ?_, fun hc1 => ?_⟩
        · (try conv => whnf)
          (repeat' (first | exact True.intro | exact fun _ h => h | refine inR64_of ?_ ?_ | apply And.intro | refine maxLen_ge ?_)) <;> (first | omega | (dsimp only; omega) | (dsimp only [List.length_cons, List.length_nil]; omega) | (intro hg; rw [hg]; rfl) | (intro hg hh; rw [hg, hh]; rfl) | (intro hg; simp [-List.getD_eq_getElem?_getD, -Int.default_eq_zero] at hg; first | omega | (refine inR64_of ?_ ?_ <;> omega) | (constructor <;> omega)) | (simp [-List.getD_eq_getElem?_getD, -Int.default_eq_zero]; done))
        · simp only [bif_t, bif_f, decide_eq_true_eq, decide_eq_false_iff_not, Bool.not_eq_true', Bool.not_eq_false', Bool.and_eq_true, Bool.or_eq_true, Bool.and_eq_false_iff, Bool.or_eq_false_iff, beq_iff_eq, bne_iff_ne, beq_eq_false_iff_ne, bne_eq_false_iff_eq, reduceCtorEq, false_and, and_false, true_and, and_true, or_false, false_or, or_true, true_or, not_true_eq_false, not_false_eq_true, Int.toNat_zero] at hc1
          have hh : scan (vE C G) 0 G.length = V.2 := by rw [← hs, ← hE]; exact scan_hit (show 0 < G.length - i by omega) (by rw [hE]; exact hc1)
          rw [hh, if_pos hc1]
          conv => whnf
          refine ⟨?_, [], ?_⟩
          · (try conv => whnf)
            (repeat' (first | exact True.intro | exact fun _ h => h | refine inR64_of ?_ ?_ | apply And.intro | refine maxLen_ge ?_)) <;> (first | omega | (dsimp only; omega) | (dsimp only [List.length_cons, List.length_nil]; omega) | (intro hg; rw [hg]; rfl) | (intro hg hh; rw [hg, hh]; rfl) | (intro hg; simp [-List.getD_eq_getElem?_getD, -Int.default_eq_zero] at hg; first | omega | (refine inR64_of ?_ ?_ <;> omega) | (constructor <;> omega)) | (simp [-List.getD_eq_getElem?_getD, -Int.default_eq_zero]; done))
          conv => whnf
          refine ⟨rfl, ?_, trivial, trivial⟩
          all_goals repeat' (first | exact True.intro | refine leF_cons rfl ?_ ?_ | refine leS_cons rfl ?_ ?_ | (show PLe _ _ _ _; conv => whnf) | (show SLe _ _ _ _; conv => whnf) | (show PLeL _ _ _ _; conv => whnf) | apply And.intro | rfl | exact Nat.le_refl _ | exact fun _ _ => rfl | exact rowEq0 _ _)
        · simp only [bif_t, bif_f, decide_eq_true_eq, decide_eq_false_iff_not, Bool.not_eq_true', Bool.not_eq_false', Bool.and_eq_true, Bool.or_eq_true, Bool.and_eq_false_iff, Bool.or_eq_false_iff, beq_iff_eq, bne_iff_ne, beq_eq_false_iff_ne, bne_eq_false_iff_eq, reduceCtorEq, false_and, and_false, true_and, and_true, or_false, false_or, or_true, true_or, not_true_eq_false, not_false_eq_true, Int.toNat_zero] at hc1
          have hE0 : vE C G i = 0 := by rw [hE]; omega
          have hh : scan (vE C G) (i + 1) (G.length - (i + 1)) = scan (vE C G) 0 G.length := by rw [← hs, scan_step (show 0 < G.length - i by omega) hE0]; congr 1
          conv => whnf
          refine ⟨?_, i + 1, ⟨by omega, hh, fun j hj2 => ?_⟩, ?_, rfl, rfl, ?_, ?_⟩
          · (try conv => whnf)
            (repeat' (first | exact True.intro | exact fun _ h => h | refine inR64_of ?_ ?_ | apply And.intro | refine maxLen_ge ?_)) <;> (first | omega | (dsimp only; omega) | (dsimp only [List.length_cons, List.length_nil]; omega) | (intro hg; rw [hg]; rfl) | (intro hg hh; rw [hg, hh]; rfl) | (intro hg; simp [-List.getD_eq_getElem?_getD, -Int.default_eq_zero] at hg; first | omega | (refine inR64_of ?_ ?_ <;> omega) | (constructor <;> omega)) | (simp [-List.getD_eq_getElem?_getD, -Int.default_eq_zero]; done))
          · by_cases e : j = i
            · rw [e]; exact hE0
            · exact hall j (by omega)
          · omega
          all_goals repeat' (first | exact True.intro | refine leF_cons rfl ?_ ?_ | refine leS_cons rfl ?_ ?_ | (show PLe _ _ _ _; conv => whnf) | (show SLe _ _ _ _; conv => whnf) | (show PLeL _ _ _ _; conv => whnf) | apply And.intro | rfl | exact Nat.le_refl _ | exact fun _ _ => rfl | exact rowEq0 _ _)
          all_goals first | omega | exact hps | skip
      · replace hc := of_decide_eq_false hc
        have : i = G.length := by omega
        subst this
        have hz : scan (vE C G) 0 G.length = 0 := by rw [← hs, Nat.sub_self]; rfl
        rw [if_neg (by rw [hz]; simp)]
        clear hs hz hc
        conv => whnf
        refine ⟨trivial, fun hc => ?_, fun hc => ?_⟩
        · simp only [bif_t, bif_f, decide_eq_true_eq, decide_eq_false_iff_not, Bool.not_eq_true', Bool.not_eq_false', Bool.and_eq_true, Bool.or_eq_true, Bool.and_eq_false_iff, Bool.or_eq_false_iff, beq_iff_eq, bne_iff_ne, beq_eq_false_iff_ne, bne_eq_false_iff_eq, reduceCtorEq, false_and, and_false, true_and, and_true, or_false, false_or, or_true, true_or, not_true_eq_false, not_false_eq_true, Int.toNat_zero] at hc
          have h0 : G.length = 0 := by omega
          rw [show stepsF G G.length = 0 by unfold stepsF; rw [if_pos h0]]
          conv => whnf
          refine ⟨?_, [], ?_⟩
          · (try conv => whnf)
            (repeat' (first | exact True.intro | exact fun _ h => h | refine inR64_of ?_ ?_ | apply And.intro | refine maxLen_ge ?_)) <;> (first | omega | (dsimp only; omega) | (dsimp only [List.length_cons, List.length_nil]; omega) | (intro hg; rw [hg]; rfl) | (intro hg hh; rw [hg, hh]; rfl) | (intro hg; simp [-List.getD_eq_getElem?_getD, -Int.default_eq_zero] at hg; first | omega | (refine inR64_of ?_ ?_ <;> omega) | (constructor <;> omega)) | (simp [-List.getD_eq_getElem?_getD, -Int.default_eq_zero]; done))
          conv => whnf
          refine ⟨rfl, ?_, trivial, trivial⟩
          all_goals repeat' (first | exact True.intro | refine leF_cons rfl ?_ ?_ | refine leS_cons rfl ?_ ?_ | (show PLe _ _ _ _; conv => whnf) | (show SLe _ _ _ _; conv => whnf) | (show PLeL _ _ _ _; conv => whnf) | apply And.intro | rfl | exact Nat.le_refl _ | exact fun _ _ => rfl | exact rowEq0 _ _)
        simp only [bif_t, bif_f, decide_eq_true_eq, decide_eq_false_iff_not, Bool.not_eq_true', Bool.not_eq_false', Bool.and_eq_true, Bool.or_eq_true, Bool.and_eq_false_iff, Bool.or_eq_false_iff, beq_iff_eq, bne_iff_ne, beq_eq_false_iff_ne, bne_eq_false_iff_eq, reduceCtorEq, false_and, and_false, true_and, and_true, or_false, false_or, or_true, true_or, not_true_eq_false, not_false_eq_true, Int.toNat_zero] at hc
        have h0 : 0 < G.length := by omega
        clear hc
        have hm0 : ∃ m : Nat, stepsF G G.length = m ∧ (G.getD 0 default).length = m ∧ ∀ i, i < G.length → (G.getD i default).length = m :=
          ⟨(G.getD 0 default).length, by unfold stepsF; rw [if_neg (by omega), hsame (G.length - 1) (by omega)], rfl, hsame⟩
        obtain ⟨m, hm, hm1, hml⟩ := hm0
        rw [hm, Int.toNat_natCast]
        have hvl : ∀ i, i < G.length → ((vL C G G.length).getD i default).length = m := fun i hi => by
          rw [vL_get C G _ i hi, verdicts_len (hall i hi)]; exact hml i hi
        have hvl0 := vL_len C G G.length
        have hrd : ∀ i t, i < G.length → t < m → 0 ≤ ((G.getD i default).getD t default).v ∧ ((G.getD i default).getD t default).v ≤ 1073741824 := fun i t hi ht => verdicts_rd (hall i hi) t (by rw [hml i hi]; exact ht)
        have hmb2 : m ≤ 8796093022208 := by
          have := hG 0 h0; omega
        generalize vL C G G.length = VL at hvl hvl0 ⊢
        clear hall hsame hG hm
        have hvT := fun t => show combT G VL most G.length (t + 1) = ((combT G VL most G.length t).1 ++ [(voteT G VL G.length t).1], (combT G VL most G.length t).2.1 ++ [(voteT G VL G.length t).2], (combT G VL most G.length t).2.2 ++ [(oddN (seenL G t G.length) (goodV VL t G.length) (voteT G VL G.length t).1 most G.length : Int)]) from rfl
        have hcl := combT_len G VL most G.length
        conv => whnf
        refine ⟨?_, ?_⟩
        · (try conv => whnf)
          (repeat' (first | exact True.intro | exact fun _ h => h | refine inR64_of ?_ ?_ | apply And.intro | refine maxLen_ge ?_)) <;> (first | omega | (dsimp only; omega) | (dsimp only [List.length_cons, List.length_nil]; omega) | (intro hg; rw [hg]; rfl) | (intro hg hh; rw [hg, hh]; rfl) | (intro hg; simp [-List.getD_eq_getElem?_getD, -Int.default_eq_zero] at hg; first | omega | (refine inR64_of ?_ ?_ <;> omega) | (constructor <;> omega)) | (simp [-List.getD_eq_getElem?_getD, -Int.default_eq_zero]; done))
        refine LSem.adopt 15 1000001 3 1 1 rfl rfl ?_
        refine LSem.adopt 16 1000002 3 1 1 rfl rfl ?_
        refine LSem.adopt 17 1000003 4 1 1 rfl rfl ?_
        refine LSem.loop (n := 163) mix (α := Nat) (fun t => t ≤ m)
          (fun t => [(2, .int .i64 most), (1, .sl 2 1 G.length (fl (eLs σ) G)), (11, .os 1000000), (15, .os 1000001), (16, .os 1000002), (17, .os 1000003), (80, .int .i64 m), (81, .int .i64 t)])
          (fun t => [(1000000, .row 0 22 1 G.length (fl eVs VL)), (1000001, .row 0 3 1 (combT G VL most G.length t).1.length (fl eInt (combT G VL most G.length t).1)), (1000002, .row 0 3 1 (combT G VL most G.length t).2.2.length (fl eInt (combT G VL most G.length t).2.2)), (1000003, .row 0 4 1 (combT G VL most G.length t).2.1.length (fl eBool (combT G VL most G.length t).2.1))]) (fun t => m - t) 0 ?_ ?_ ?_
        · exact Nat.zero_le _
        · refine ⟨rfl, rfl, ?_, ?_⟩
          all_goals repeat' (first | exact True.intro | refine leF_cons rfl ?_ ?_ | refine leS_cons rfl ?_ ?_ | (show PLe _ _ _ _; conv => whnf) | (show SLe _ _ _ _; conv => whnf) | (show PLeL _ _ _ _; conv => whnf) | apply And.intro | rfl | exact Nat.le_refl _ | exact fun _ _ => rfl | exact rowEq0 _ _)
          all_goals first | omega | (rw [Int.toNat_zero]; omega) | skip
        · intro t ht
          have hjt : ((t : Int)).toNat = t := by omega
          conv => whnf
          refine ⟨trivial, fun hc => ?_, fun hc => ?_⟩
          · replace hc := of_decide_eq_true hc
            have hlt : t < m := by omega
            replace hvT := hvT t
            obtain ⟨k1, k2, k3⟩ := hcl t
            clear hcl
            conv => whnf
            refine ⟨trivial, ?_⟩
            refine LSem.adopt 19 1000004 3 1 1 rfl rfl ?_
            refine LSem.adopt 20 1000005 4 1 1 rfl rfl ?_
            refine LSem.loop (n := 163) mix (α := Nat) (fun i => i ≤ G.length)
              (fun i => [(2, .int .i64 most), (1, .sl 2 1 G.length (fl (eLs σ) G)), (11, .os 1000000), (15, .os 1000001), (16, .os 1000002), (17, .os 1000003), (18, .int .i64 t), (19, .os 1000004), (20, .os 1000005), (80, .int .i64 m), (81, .int .i64 t), (85, .int .i64 G.length), (86, .int .i64 i)])
              (fun i => [(1000000, .row 0 22 1 G.length (fl eVs VL)), (1000001, .row 0 3 1 (combT G VL most G.length t).1.length (fl eInt (combT G VL most G.length t).1)), (1000002, .row 0 3 1 (combT G VL most G.length t).2.2.length (fl eInt (combT G VL most G.length t).2.2)), (1000003, .row 0 4 1 (combT G VL most G.length t).2.1.length (fl eBool (combT G VL most G.length t).2.1)), (1000004, .row 0 3 1 (seenL G t i).length (fl eInt (seenL G t i))), (1000005, .row 0 4 1 (goodV VL t i).length (fl eBool (goodV VL t i)))]) (fun i => G.length - i) 0 ?_ ?_ ?_
            · exact Nat.zero_le _
            · refine ⟨rfl, rfl, ?_, ?_⟩
              all_goals repeat' (first | exact True.intro | refine leF_cons rfl ?_ ?_ | refine leS_cons rfl ?_ ?_ | (show PLe _ _ _ _; conv => whnf) | (show SLe _ _ _ _; conv => whnf) | (show PLeL _ _ _ _; conv => whnf) | apply And.intro | rfl | exact Nat.le_refl _ | exact fun _ _ => rfl | exact rowEq0 _ _)
            · intro i hi
              have hji : ((i : Int)).toNat = i := by omega
              conv => whnf
              refine ⟨trivial, fun hc2 => ?_, fun hc2 => ?_⟩
              · replace hc2 := of_decide_eq_true hc2
                have hli : i < G.length := by omega
                have hlm := hml i hli
                have hvm := hvl i hli
                have z1 := seenL_len G t i
                have z2 := goodV_len VL t i
                have z3 := seenL_len G t (i + 1)
                have z4 := goodV_len VL t (i + 1)
                have q1 := fl_push eInt (seenL G t i) ((G.getD i default).getD t default).v
                rw [show seenL G t i ++ [((G.getD i default).getD t default).v] = seenL G t (i + 1) from rfl] at q1
                have q2 := fl_push eBool (goodV VL t i) ((VL.getD i default).getD t default == 1)
                rw [show goodV VL t i ++ [((VL.getD i default).getD t default == 1)] = goodV VL t (i + 1) from rfl] at q2
                conv => whnf
                refine ⟨rfl, ?_⟩
                conv => whnf
                refine ⟨?_, i + 1, (by omega : i + 1 ≤ G.length), ?_, rfl, rfl, ?_, ?_⟩
                · rw [hji, hjt]
                  (try conv => whnf)
                  (repeat' (first | exact True.intro | exact fun _ h => h | refine inR64_of ?_ ?_ | apply And.intro | refine maxLen_ge ?_)) <;> (first | omega | (dsimp only; omega) | (dsimp only [List.length_cons, List.length_nil]; omega) | (intro hg; rw [hg]; rfl) | (intro hg hh; rw [hg, hh]; rfl) | (intro hg; simp [-List.getD_eq_getElem?_getD, -Int.default_eq_zero] at hg; first | omega | (refine inR64_of ?_ ?_ <;> omega) | (constructor <;> omega)) | (simp [-List.getD_eq_getElem?_getD, -Int.default_eq_zero]; done))
                · omega
                all_goals repeat' (first | exact True.intro | refine leF_cons rfl ?_ ?_ | refine leS_cons rfl ?_ ?_ | (show PLe _ _ _ _; conv => whnf) | (show SLe _ _ _ _; conv => whnf) | (show PLeL _ _ _ _; conv => whnf) | apply And.intro | rfl | exact Nat.le_refl _ | exact fun _ _ => rfl | exact rowEq0 _ _)
                all_goals (try rw [hji, hjt])
                all_goals first | omega | exact q1 | exact q2 | (simp only [List.length_cons, List.length_nil]; omega)
              · replace hc2 := of_decide_eq_false hc2
                have : i = G.length := by omega
                subst this
                have z1 := seenL_len G t G.length
                have z2 := goodV_len VL t G.length
                have hsg : ∀ i, i < (seenL G t G.length).length → 0 ≤ (seenL G t G.length).getD i default ∧ (seenL G t G.length).getD i default ≤ 1073741824 := fun i hi => by
                  rw [seen_get G t G.length i (by omega)]; exact hrd i t (by omega) hlt
                unfold voteT at hvT
                generalize hSd : seenL G t G.length = S at z1 hsg hvT ⊢
                generalize goodV VL t G.length = B at z2 hvT ⊢
                have hvr := vote_rng (v := S) (g := B) (M := 1073741824) (by decide) hsg
                conv => whnf
                refine ⟨_, fun _ => call19 _ _ S B (by omega), ?_⟩
                generalize voteF S B = P at hvr hvT ⊢
                obtain ⟨v, ok⟩ := P
                dsimp only at hvr hvT
                conv => whnf
                refine ⟨?_, ?_⟩
                · (try conv => whnf)
                  (repeat' (first | exact True.intro | exact fun _ h => h | refine inR64_of ?_ ?_ | apply And.intro | refine maxLen_ge ?_)) <;> (first | omega | (dsimp only; omega) | (dsimp only [List.length_cons, List.length_nil]; omega) | (intro hg; rw [hg]; rfl) | (intro hg hh; rw [hg, hh]; rfl) | (intro hg; simp [-List.getD_eq_getElem?_getD, -Int.default_eq_zero] at hg; first | omega | (refine inR64_of ?_ ?_ <;> omega) | (constructor <;> omega)) | (simp [-List.getD_eq_getElem?_getD, -Int.default_eq_zero]; done))
                refine LSem.loop (n := 163) mix (α := Nat) (fun i => i ≤ S.length)
                  (fun i => [(2, .int .i64 most), (1, .sl 2 1 G.length (fl (eLs σ) G)), (11, .os 1000000), (15, .os 1000001), (16, .os 1000002), (17, .os 1000003), (19, .os 1000004), (20, .os 1000005), (22, .int .i64 v), (23, .bool ok), (24, .int .i64 (oddN S B v most i)), (80, .int .i64 m), (81, .int .i64 t), (119, .int .i64 S.length), (120, .int .i64 i)])
                  (fun i => [(1000000, .row 0 22 1 G.length (fl eVs VL)), (1000001, .row 0 3 1 (combT G VL most G.length t).1.length (fl eInt (combT G VL most G.length t).1)), (1000002, .row 0 3 1 (combT G VL most G.length t).2.2.length (fl eInt (combT G VL most G.length t).2.2)), (1000003, .row 0 4 1 (combT G VL most G.length t).2.1.length (fl eBool (combT G VL most G.length t).2.1)), (1000004, .row 0 3 1 S.length (fl eInt S)), (1000005, .row 0 4 1 B.length (fl eBool B))]) (fun i => S.length - i) 0 ?_ ?_ ?_
                · exact Nat.zero_le _
                · refine ⟨rfl, rfl, ?_, ?_⟩
                  all_goals repeat' (first | exact True.intro | refine leF_cons rfl ?_ ?_ | refine leS_cons rfl ?_ ?_ | (show PLe _ _ _ _; conv => whnf) | (show SLe _ _ _ _; conv => whnf) | (show PLeL _ _ _ _; conv => whnf) | apply And.intro | rfl | exact Nat.le_refl _ | exact fun _ _ => rfl | exact rowEq0 _ _)
                · intro i hi
                  have hji : ((i : Int)).toNat = i := by omega
                  have hod := oddN_le S B v most i
                  conv => whnf
                  refine ⟨trivial, fun hc3 => ?_, fun hc3 => ?_⟩
                  · replace hc3 := of_decide_eq_true hc3
                    have hli : i < S.length := by omega
                    have hsi := hsg i hli
                    conv => whnf
                    refine ⟨rfl, ?_⟩
                    conv => whnf
                    refine ⟨?_, fun hc4 => ?_, fun hc4 => ?_⟩
                    · rw [hji]
                      (try conv => whnf)
                      (repeat' (first | exact True.intro | exact fun _ h => h | refine inR64_of ?_ ?_ | apply And.intro | refine maxLen_ge ?_)) <;> (first | omega | (dsimp only; omega) | (dsimp only [List.length_cons, List.length_nil]; omega) | (intro hg; rw [hg]; rfl) | (intro hg hh; rw [hg, hh]; rfl) | (intro hg; simp [-List.getD_eq_getElem?_getD, -Int.default_eq_zero] at hg; first | omega | (refine inR64_of ?_ ?_ <;> omega) | (constructor <;> omega)) | (simp [-List.getD_eq_getElem?_getD, -Int.default_eq_zero]; done))
                    · rw [hji] at hc4
                      have hst : oddN S B v most (i + 1) = oddN S B v most i + 1 := by
                        rw [oddN, if_pos]
                        cases hb : B.getD i default with
                        | false => rw [hb] at hc4; cases hc4
                        | true => rw [hb] at hc4; exact ⟨rfl, of_decide_eq_true hc4⟩
                      conv => whnf
                      refine ⟨?_, i + 1, (by omega : i + 1 ≤ S.length), ?_, rfl, rfl, ?_, ?_⟩
                      · (try conv => whnf)
                        (repeat' (first | exact True.intro | exact fun _ h => h | refine inR64_of ?_ ?_ | apply And.intro | refine maxLen_ge ?_)) <;> (first | omega | (dsimp only; omega) | (dsimp only [List.length_cons, List.length_nil]; omega) | (intro hg; rw [hg]; rfl) | (intro hg hh; rw [hg, hh]; rfl) | (intro hg; simp [-List.getD_eq_getElem?_getD, -Int.default_eq_zero] at hg; first | omega | (refine inR64_of ?_ ?_ <;> omega) | (constructor <;> omega)) | (simp [-List.getD_eq_getElem?_getD, -Int.default_eq_zero]; done))
                      · omega
                      all_goals repeat' (first | exact True.intro | refine leF_cons rfl ?_ ?_ | refine leS_cons rfl ?_ ?_ | (show PLe _ _ _ _; conv => whnf) | (show SLe _ _ _ _; conv => whnf) | (show PLeL _ _ _ _; conv => whnf) | apply And.intro | rfl | exact Nat.le_refl _ | exact fun _ _ => rfl | exact rowEq0 _ _)
                      all_goals (try rw [hst])
                      all_goals first | omega | skip
                    · rw [hji] at hc4
                      have hst : oddN S B v most (i + 1) = oddN S B v most i := by
                        rw [oddN, if_neg]
                        rintro ⟨h1, h2⟩
                        rw [h1] at hc4
                        exact (of_decide_eq_false hc4) h2
                      conv => whnf
                      refine ⟨?_, i + 1, (by omega : i + 1 ≤ S.length), ?_, rfl, rfl, ?_, ?_⟩
                      · (try conv => whnf)
                        (repeat' (first | exact True.intro | exact fun _ h => h | refine inR64_of ?_ ?_ | apply And.intro | refine maxLen_ge ?_)) <;> (first | omega | (dsimp only; omega) | (dsimp only [List.length_cons, List.length_nil]; omega) | (intro hg; rw [hg]; rfl) | (intro hg hh; rw [hg, hh]; rfl) | (intro hg; simp [-List.getD_eq_getElem?_getD, -Int.default_eq_zero] at hg; first | omega | (refine inR64_of ?_ ?_ <;> omega) | (constructor <;> omega)) | (simp [-List.getD_eq_getElem?_getD, -Int.default_eq_zero]; done))
                      · omega
                      all_goals repeat' (first | exact True.intro | refine leF_cons rfl ?_ ?_ | refine leS_cons rfl ?_ ?_ | (show PLe _ _ _ _; conv => whnf) | (show SLe _ _ _ _; conv => whnf) | (show PLeL _ _ _ _; conv => whnf) | apply And.intro | rfl | exact Nat.le_refl _ | exact fun _ _ => rfl | exact rowEq0 _ _)
                      all_goals (try rw [hst])
                      all_goals first | omega | skip
                  · replace hc3 := of_decide_eq_false hc3
                    have : i = S.length := by omega
                    subst this
                    rw [z1] at hod
                    rw [show oddN S B v most S.length = oddN S B v most G.length by rw [z1]]
                    generalize oddN S B v most G.length = od at hvT hod ⊢
                    have q3 := fl_push eInt (combT G VL most G.length t).1 v
                    have q4 := fl_push eBool (combT G VL most G.length t).2.1 ok
                    have q5 := fl_push eInt (combT G VL most G.length t).2.2 (od : Int)
                    conv => whnf
                    refine ⟨?_, t + 1, (by omega : t + 1 ≤ m), ?_, rfl, rfl, ?_, ?_⟩
                    · (try conv => whnf)
                      (repeat' (first | exact True.intro | exact fun _ h => h | refine inR64_of ?_ ?_ | apply And.intro | refine maxLen_ge ?_)) <;> (first | omega | (dsimp only; omega) | (dsimp only [List.length_cons, List.length_nil]; omega) | (intro hg; rw [hg]; rfl) | (intro hg hh; rw [hg, hh]; rfl) | (intro hg; simp [-List.getD_eq_getElem?_getD, -Int.default_eq_zero] at hg; first | omega | (refine inR64_of ?_ ?_ <;> omega) | (constructor <;> omega)) | (simp [-List.getD_eq_getElem?_getD, -Int.default_eq_zero]; done))
                    · omega
                    all_goals repeat' (first | exact True.intro | refine leF_cons rfl ?_ ?_ | refine leS_cons rfl ?_ ?_ | (show PLe _ _ _ _; conv => whnf) | (show SLe _ _ _ _; conv => whnf) | (show PLeL _ _ _ _; conv => whnf) | apply And.intro | rfl | exact Nat.le_refl _ | exact fun _ _ => rfl | exact rowEq0 _ _)
                    all_goals (try rw [hvT])
                    all_goals first | omega | exact q3 | exact q4 | exact q5 | (simp only [List.length_append, List.length_cons, List.length_nil]; done) | skip
          · replace hc := of_decide_eq_false hc
            have : t = m := by omega
            subst this
            conv => whnf
            refine ⟨?_, [], ?_⟩
            · (try conv => whnf)
              (repeat' (first | exact True.intro | exact fun _ h => h | refine inR64_of ?_ ?_ | apply And.intro | refine maxLen_ge ?_)) <;> (first | omega | (dsimp only; omega) | (dsimp only [List.length_cons, List.length_nil]; omega) | (intro hg; rw [hg]; rfl) | (intro hg hh; rw [hg, hh]; rfl) | (intro hg; simp [-List.getD_eq_getElem?_getD, -Int.default_eq_zero] at hg; first | omega | (refine inR64_of ?_ ?_ <;> omega) | (constructor <;> omega)) | (simp [-List.getD_eq_getElem?_getD, -Int.default_eq_zero]; done))
            conv => whnf
            refine ⟨rfl, ?_, trivial, trivial⟩
            all_goals repeat' (first | exact True.intro | refine leF_cons rfl ?_ ?_ | refine leS_cons rfl ?_ ?_ | (show PLe _ _ _ _; conv => whnf) | (show SLe _ _ _ _; conv => whnf) | (show PLeL _ _ _ _; conv => whnf) | apply And.intro | rfl | exact Nat.le_refl _ | exact fun _ _ => rfl | exact rowEq0 _ _)
            all_goals skip
end Pv
end Go.Proofs.Ytogoplhikmmggaa
