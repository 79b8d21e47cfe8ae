/- LAW 08, THE WALKS: what several gauges say together. -/
import Derived.Test.YtogoplhikmmggaaQ13
set_option linter.unusedSimpArgs false
set_option linter.unusedVariables false
namespace Go.Proofs.Ytogoplhikmmggaa
namespace Pv
def c31L1 : C := (.seq (.reg [⟨(some 14), 224, none, .bi false .lss (.t 13) (.t 12)⟩])
  (.seq (.cond (.t 14) .skip (.exit 0))
  (.seq (.block 1 (.seq (.reg [⟨(some 15), 240, none, .mv (.t 13)⟩,
    ⟨(some 5), 80, none, .mv (.t 15)⟩])
  (.seq (.drw [⟨(some 16), 256, none, .mv (.t 0)⟩,
    ⟨(some 17), 272, none, .mv (.t 5)⟩,
    ⟨(some 18), 288, none, .ia 1 (.t 16) (.t 17)⟩,
    ⟨(some 19), 304, none, .ld 1 false (.t 18)⟩,
    ⟨(some 20), 320, none, .mv (.t 1)⟩,
    ⟨(some 21), 336, none, .mv (.t 5)⟩,
    ⟨(some 22), 352, none, .ia 1 (.t 20) (.t 21)⟩,
    ⟨(some 23), 368, none, .ld 1 false (.t 22)⟩,
    ⟨(some 24), 384, none, .bib true (.t 19) (.t 23)⟩]
    [(0, 1, 16), (0, 4, 16), (0, 5, 16), (0, 6, 16), (0, 7, 16), (1, 4, 17), (1, 5, 17), (1, 6, 17), (1, 7, 17), (2, 4, 18), (2, 5, 18), (2, 6, 18), (2, 7, 18), (3, 4, 19), (3, 5, 19), (3, 6, 19), (3, 7, 19), (4, 5, 20)])
  (.cond (.t 24) (.seq (.reg [⟨(some 4), 64, none, .mv (.c (.bool false))⟩])
  .ret) .skip))))
  (.reg [⟨(some 25), 400, none, .bi false .add (.t 13) (.c (.int .i64 1))⟩,
    ⟨(some 13), 208, none, .mv (.t 25)⟩]))))
def c31 : C := (.seq (.reg [⟨(some 4), 64, none, .mv (.c (.bool false))⟩])
  (.seq (.seq (.reg [⟨(some 6), 96, none, .mv (.t 0)⟩,
    ⟨(some 7), 112, none, .len (.t 6)⟩,
    ⟨(some 8), 128, none, .mv (.t 1)⟩,
    ⟨(some 9), 144, none, .len (.t 8)⟩,
    ⟨(some 10), 160, none, .bi false .neq (.t 7) (.t 9)⟩])
  (.cond (.t 10) (.seq (.reg [⟨(some 4), 64, none, .mv (.c (.bool false))⟩])
  .ret) .skip))
  (.seq (.seq (.reg [⟨(some 11), 176, none, .mv (.t 0)⟩,
    ⟨(some 12), 192, none, .len (.t 11)⟩,
    ⟨(some 13), 208, none, .mv (.c (.int .i64 0))⟩])
  (.block 0 (.loop c31L1)))
  (.seq (.reg [⟨(some 4), 64, none, .mv (.c (.bool true))⟩])
  .ret))))
theorem fits31 : fits Try.prog false Try.f31 2 26 [(4, none)] = some c31.er := by kernel_rfl
def c47 : C := (.seq (.reg [⟨(some 3), 48, none, .mv (.c (.bool false))⟩])
  (.seq (.reg [⟨(some 4), 64, none, .mv (.t 0)⟩,
    ⟨(some 5), 80, none, .len (.t 4)⟩,
    ⟨(some 6), 96, none, .ld 1 false (.t 1)⟩,
    ⟨(some 7), 112, none, .ia 1 (.t 6) (.c (.int .i64 0))⟩,
    ⟨(some 8), 128, none, .ld 1 false (.t 7)⟩,
    ⟨(some 9), 144, none, .len (.t 8)⟩,
    ⟨(some 10), 160, none, .bi false .neq (.t 5) (.t 9)⟩,
    ⟨(some 3), 48, none, .mv (.t 10)⟩])
  .ret))
theorem fits47 : fits Try.prog false Try.f47 2 11 [(3, none)] = some c47.er := by kernel_rfl
def c57L1 : C := (.seq (.reg [⟨(some 9), 144, none, .bi false .lss (.t 8) (.t 7)⟩])
  (.seq (.cond (.t 9) .skip (.exit 0))
  (.seq (.block 1 (.seq (.reg [⟨(some 10), 160, none, .mv (.t 8)⟩,
    ⟨(some 5), 80, none, .mv (.t 10)⟩])
  (.seq (.reg [⟨(some 11), 176, none, .mv (.t 1)⟩,
    ⟨(some 12), 192, none, .mv (.t 0)⟩,
    ⟨(some 13), 208, none, .mv (.t 5)⟩,
    ⟨(some 14), 224, none, .ia 1 (.t 12) (.t 13)⟩,
    ⟨(some 15), 240, none, .ld 1 false (.t 14)⟩,
    ⟨(some 16), 256, none, .call (.t 11) [(.t 15)]⟩])
  (.cond (.t 16) (.seq (.reg [⟨(some 17), 272, none, .mv (.t 5)⟩,
    ⟨(some 4), 64, none, .mv (.t 17)⟩])
  .ret) .skip))))
  (.reg [⟨(some 18), 288, none, .bi false .add (.t 8) (.c (.int .i64 1))⟩,
    ⟨(some 8), 128, none, .mv (.t 18)⟩]))))
def c57 : C := (.seq (.reg [⟨(some 4), 64, none, .mv (.c (.int .i64 0))⟩])
  (.seq (.seq (.reg [⟨(some 6), 96, none, .mv (.t 0)⟩,
    ⟨(some 7), 112, none, .len (.t 6)⟩,
    ⟨(some 8), 128, none, .mv (.c (.int .i64 0))⟩])
  (.block 0 (.loop c57L1)))
  (.seq (.reg [⟨(some 4), 64, none, .mv (.c (.int .i64 (-1)))⟩])
  .ret)))
theorem fits57 : fits Try.prog false Try.f57 2 19 [(4, none)] = some c57.er := by kernel_rfl
def c46 : C := (.seq (.reg [⟨(some 4), 64, none, .mv (.c (.bool false))⟩])
  (.seq (.reg [⟨(some 5), 80, none, .mv (.t 0)⟩,
    ⟨(some 6), 96, none, .mv (.t 1)⟩,
    ⟨(some 7), 112, none, .call (.c (.fn (.func 57) [] [])) [(.t 5), (.t 6)]⟩,
    ⟨(some 8), 128, none, .bi false .geq (.t 7) (.c (.int .i64 0))⟩,
    ⟨(some 4), 64, none, .mv (.t 8)⟩])
  .ret))
theorem fits46 : fits Try.prog false Try.f46 2 9 [(4, none)] = some c46.er := by kernel_rfl
def c29L1 : C := (.seq (.reg [⟨(some 44), 704, none, .bi false .lss (.t 43) (.t 42)⟩])
  (.seq (.cond (.t 44) .skip (.exit 0))
  (.seq (.block 1 (.seq (.reg [⟨(some 45), 720, none, .mv (.t 43)⟩,
    ⟨(some 46), 736, none, .ia 1 (.t 41) (.t 43)⟩,
    ⟨(some 47), 752, none, .ld 1 false (.t 46)⟩,
    ⟨(some 12), 192, none, .mv (.t 45)⟩,
    ⟨(some 13), 208, none, .mv (.t 47)⟩])
  (.seq (.reg [⟨(some 49), 784, none, .mv (.t 0)⟩,
    ⟨(some 50), 800, none, .mv (.t 12)⟩,
    ⟨(some 51), 816, none, .ia 4 (.t 49) (.t 50)⟩,
    ⟨(some 52), 832, none, .ld 4 true (.t 51)⟩,
    ⟨(some 53), 848, none, .mv (.t 13)⟩,
    ⟨(some 54), 864, none, .call (.c (.fn (.func 25) [] [])) [(.t 52), (.t 53)]⟩,
    ⟨(some 48), 768, none, .mv (.t 54)⟩,
    ⟨(some 55), 880, none, .ex (.t 48) 0⟩,
    ⟨(some 56), 896, none, .ex (.t 48) 1⟩,
    ⟨(some 14), 224, none, .mv (.t 55)⟩,
    ⟨(some 15), 240, none, .mv (.t 56)⟩])
  (.seq (.seq (.reg [⟨(some 57), 912, none, .mv (.t 15)⟩,
    ⟨(some 58), 928, none, .bi false .neq (.t 57) (.c (.int .i64 0))⟩])
  (.cond (.t 58) (.seq (.reg [⟨(some 59), 944, none, .mv (.t 15)⟩,
    ⟨(some 6), 96, none, .mv (.c (.nil 1))⟩,
    ⟨(some 7), 112, none, .mv (.c (.nil 1))⟩,
    ⟨(some 8), 128, none, .mv (.c (.nil 1))⟩,
    ⟨(some 9), 144, none, .mv (.t 59)⟩])
  .ret) .skip))
  (.reg [⟨(some 60), 960, none, .mv (.t 11)⟩,
    ⟨(some 61), 976, none, .mv (.t 14)⟩,
    ⟨(some 62), 992, none, .bs 22 1 [(.t 61)]⟩,
    ⟨(some 63), 1008, none, .app 22 1 24 (.t 60) (.t 62)⟩,
    ⟨(some 64), 1024, none, .mv (.t 13)⟩,
    ⟨(some 65), 1040, none, .len (.t 64)⟩,
    ⟨(some 11), 176, none, .mv (.t 63)⟩,
    ⟨(some 10), 160, none, .mv (.t 65)⟩])))))
  (.reg [⟨(some 66), 1056, none, .bi false .add (.t 43) (.c (.int .i64 1))⟩,
    ⟨(some 43), 688, none, .mv (.t 66)⟩]))))
def c29L3 : C := (.seq (.reg [⟨(some 74), 1184, none, .bi false .lss (.t 73) (.t 72)⟩])
  (.seq (.cond (.t 74) .skip (.exit 4))
  (.seq (.block 5 (.seq (.reg [⟨(some 75), 1200, none, .mv (.t 73)⟩,
    ⟨(some 76), 1216, none, .ia 1 (.t 71) (.t 73)⟩,
    ⟨(some 77), 1232, none, .ld 1 false (.t 76)⟩,
    ⟨(some 22), 352, none, .mv (.t 75)⟩,
    ⟨(some 23), 368, none, .mv (.t 77)⟩])
  (.drw [⟨(some 78), 1248, none, .mv (.t 20)⟩,
    ⟨(some 79), 1264, none, .mv (.t 23)⟩,
    ⟨(some 80), 1280, none, .mv (.t 19)⟩,
    ⟨(some 81), 1296, none, .ia 4 (.t 79) (.t 80)⟩,
    ⟨(some 82), 1312, none, .fa 2 (.t 81)⟩,
    ⟨(some 83), 1328, none, .ld 1 false (.t 82)⟩,
    ⟨(some 84), 1344, none, .bs 3 1 [(.t 83)]⟩,
    ⟨(some 85), 1360, none, .app 3 1 8 (.t 78) (.t 84)⟩,
    ⟨(some 86), 1376, none, .mv (.t 21)⟩,
    ⟨(some 87), 1392, none, .mv (.t 11)⟩,
    ⟨(some 88), 1408, none, .mv (.t 22)⟩,
    ⟨(some 89), 1424, none, .ia 1 (.t 87) (.t 88)⟩,
    ⟨(some 90), 1440, none, .ld 1 false (.t 89)⟩,
    ⟨(some 91), 1456, none, .mv (.t 19)⟩,
    ⟨(some 92), 1472, none, .ia 1 (.t 90) (.t 91)⟩,
    ⟨(some 93), 1488, none, .ld 1 false (.t 92)⟩,
    ⟨(some 94), 1504, none, .bi false .eql (.t 93) (.c (.int .i64 1))⟩,
    ⟨(some 95), 1520, none, .bs 4 1 [(.t 94)]⟩,
    ⟨(some 96), 1536, none, .app 4 1 1 (.t 86) (.t 95)⟩,
    ⟨(some 20), 320, none, .mv (.t 85)⟩,
    ⟨(some 21), 336, none, .mv (.t 96)⟩]
    [(0, 1, 78), (0, 2, 78), (0, 3, 78), (0, 4, 78), (0, 5, 78), (0, 6, 78), (0, 8, 78), (0, 9, 78), (0, 10, 78), (0, 11, 78), (0, 12, 78), (0, 13, 78), (0, 14, 78), (0, 15, 78), (0, 16, 78), (0, 17, 78), (1, 2, 79), (1, 8, 79), (1, 9, 79), (1, 10, 79), (1, 11, 79), (1, 12, 79), (1, 13, 79), (1, 14, 79), (1, 15, 79), (1, 16, 79), (1, 17, 79), (2, 8, 80), (2, 9, 80), (2, 10, 80), (2, 11, 80), (2, 12, 80), (2, 13, 80), (2, 14, 80), (2, 15, 80), (2, 16, 80), (2, 17, 80), (3, 8, 81), (3, 9, 81), (3, 10, 81), (3, 11, 81), (3, 12, 81), (3, 13, 81), (3, 14, 81), (3, 15, 81), (3, 16, 81), (3, 17, 81), (4, 8, 82), (4, 9, 82), (4, 10, 82), (4, 11, 82), (4, 12, 82), (4, 13, 82), (4, 14, 82), (4, 15, 82), (4, 16, 82), (4, 17, 82), (5, 8, 83), (5, 9, 83), (5, 10, 83), (5, 11, 83), (5, 12, 83), (5, 13, 83), (5, 14, 83), (5, 15, 83), (5, 16, 83), (5, 17, 83), (6, 8, 84), (6, 9, 84), (6, 10, 84), (6, 11, 84), (6, 12, 84), (6, 13, 84), (6, 14, 84), (6, 15, 84), (6, 16, 84), (6, 17, 84), (7, 8, 85), (7, 9, 85), (7, 10, 85), (7, 11, 85), (7, 12, 85), (7, 13, 85), (7, 14, 85), (7, 15, 85), (7, 16, 85), (7, 17, 85), (8, 9, 86), (8, 10, 86), (8, 11, 86), (8, 12, 86), (8, 13, 86), (8, 14, 86), (8, 15, 86), (8, 16, 86), (8, 17, 86), (9, 10, 87), (9, 13, 87), (10, 13, 88), (11, 13, 89), (12, 13, 90)])))
  (.reg [⟨(some 97), 1552, none, .bi false .add (.t 73) (.c (.int .i64 1))⟩,
    ⟨(some 73), 1168, none, .mv (.t 97)⟩]))))
def c29L4 : C := (.seq (.reg [⟨(some 107), 1712, none, .bi false .lss (.t 106) (.t 105)⟩])
  (.seq (.cond (.t 107) .skip (.exit 6))
  (.seq (.block 7 (.seq (.reg [⟨(some 108), 1728, none, .mv (.t 106)⟩,
    ⟨(some 109), 1744, none, .ia 1 (.t 104) (.t 106)⟩,
    ⟨(some 110), 1760, none, .ld 1 false (.t 109)⟩,
    ⟨(some 27), 432, none, .mv (.t 108)⟩,
    ⟨(some 28), 448, none, .mv (.t 110)⟩])
  (.seq (.reg [⟨(some 111), 1776, none, .mv (.t 21)⟩,
    ⟨(some 112), 1792, none, .mv (.t 27)⟩,
    ⟨(some 113), 1808, none, .ia 1 (.t 111) (.t 112)⟩,
    ⟨(some 114), 1824, none, .ld 1 false (.t 113)⟩,
    ⟨(some 115), 1840, none, .mv (.t 114)⟩,
    ⟨(some 116), 1856, (some (115, true)), .mv (.t 28)⟩,
    ⟨(some 117), 1872, (some (115, true)), .mv (.t 24)⟩,
    ⟨(some 118), 1888, (some (115, true)), .bi false .sub (.t 116) (.t 117)⟩,
    ⟨(some 119), 1904, (some (115, true)), .mv (.t 24)⟩,
    ⟨(some 120), 1920, (some (115, true)), .mv (.t 28)⟩,
    ⟨(some 121), 1936, (some (115, true)), .bi false .sub (.t 119) (.t 120)⟩,
    ⟨(some 122), 1952, (some (115, true)), .mx [(.t 118), (.t 121)]⟩,
    ⟨(some 123), 1968, (some (115, true)), .mv (.t 2)⟩,
    ⟨(some 124), 1984, (some (115, true)), .bi false .gtr (.t 122) (.t 123)⟩,
    ⟨(some 125), 2000, none, .pick (.t 115) (.t 124) (.c (.bool false))⟩])
  (.cond (.t 125) (.reg [⟨(some 126), 2016, none, .mv (.t 26)⟩,
    ⟨(some 127), 2032, none, .bi false .add (.t 126) (.c (.int .i64 1))⟩,
    ⟨(some 26), 416, none, .mv (.t 127)⟩]) .skip))))
  (.reg [⟨(some 128), 2048, none, .bi false .add (.t 106) (.c (.int .i64 1))⟩,
    ⟨(some 106), 1696, none, .mv (.t 128)⟩]))))
def c29L2 : C := (.seq (.reg [⟨(some 69), 1104, none, .bi false .lss (.t 68) (.t 67)⟩])
  (.seq (.cond (.t 69) .skip (.exit 2))
  (.seq (.block 3 (.seq (.reg [⟨(some 70), 1120, none, .mv (.t 68)⟩,
    ⟨(some 19), 304, none, .mv (.t 70)⟩])
  (.seq (.reg [⟨(some 20), 320, none, .mv (.c (.nil 1))⟩])
  (.seq (.reg [⟨(some 21), 336, none, .mv (.c (.nil 1))⟩])
  (.seq (.seq (.reg [⟨(some 71), 1136, none, .ld 1 false (.t 4)⟩,
    ⟨(some 72), 1152, none, .len (.t 71)⟩,
    ⟨(some 73), 1168, none, .mv (.c (.int .i64 0))⟩])
  (.block 4 (.loop c29L3)))
  (.seq (.reg [⟨(some 99), 1584, none, .mv (.t 20)⟩,
    ⟨(some 100), 1600, none, .mv (.t 21)⟩,
    ⟨(some 101), 1616, none, .call (.c (.fn (.func 13) [] [])) [(.t 99), (.t 100)]⟩,
    ⟨(some 98), 1568, none, .mv (.t 101)⟩,
    ⟨(some 102), 1632, none, .ex (.t 98) 0⟩,
    ⟨(some 103), 1648, none, .ex (.t 98) 1⟩,
    ⟨(some 24), 384, none, .mv (.t 102)⟩,
    ⟨(some 25), 400, none, .mv (.t 103)⟩])
  (.seq (.reg [⟨(some 26), 416, none, .mv (.c (.int .i64 0))⟩])
  (.seq (.seq (.reg [⟨(some 104), 1664, none, .mv (.t 20)⟩,
    ⟨(some 105), 1680, none, .len (.t 104)⟩,
    ⟨(some 106), 1696, none, .mv (.c (.int .i64 0))⟩])
  (.block 6 (.loop c29L4)))
  (.reg [⟨(some 129), 2064, none, .mv (.t 16)⟩,
    ⟨(some 130), 2080, none, .mv (.t 24)⟩,
    ⟨(some 131), 2096, none, .bs 3 1 [(.t 130)]⟩,
    ⟨(some 132), 2112, none, .app 3 1 8 (.t 129) (.t 131)⟩,
    ⟨(some 133), 2128, none, .mv (.t 18)⟩,
    ⟨(some 134), 2144, none, .mv (.t 25)⟩,
    ⟨(some 135), 2160, none, .bs 4 1 [(.t 134)]⟩,
    ⟨(some 136), 2176, none, .app 4 1 1 (.t 133) (.t 135)⟩,
    ⟨(some 137), 2192, none, .mv (.t 17)⟩,
    ⟨(some 138), 2208, none, .mv (.t 26)⟩,
    ⟨(some 139), 2224, none, .bs 3 1 [(.t 138)]⟩,
    ⟨(some 140), 2240, none, .app 3 1 8 (.t 137) (.t 139)⟩,
    ⟨(some 16), 256, none, .mv (.t 132)⟩,
    ⟨(some 18), 288, none, .mv (.t 136)⟩,
    ⟨(some 17), 272, none, .mv (.t 140)⟩])))))))))
  (.reg [⟨(some 141), 2256, none, .bi false .add (.t 68) (.c (.int .i64 1))⟩,
    ⟨(some 68), 1088, none, .mv (.t 141)⟩]))))
def c29 : C := (.seq (.reg [⟨(some 4), 64, none, .bx 1 (.t 1)⟩,
    ⟨(some 6), 96, none, .mv (.c (.nil 1))⟩,
    ⟨(some 7), 112, none, .mv (.c (.nil 1))⟩,
    ⟨(some 8), 128, none, .mv (.c (.nil 1))⟩,
    ⟨(some 9), 144, none, .mv (.c (.int .i64 0))⟩])
  (.seq (.seq (.reg [⟨(some 29), 464, none, .mv (.t 0)⟩,
    ⟨(some 30), 480, none, .len (.t 29)⟩,
    ⟨(some 31), 496, none, .ld 1 false (.t 4)⟩,
    ⟨(some 32), 512, none, .len (.t 31)⟩,
    ⟨(some 33), 528, none, .bi false .neq (.t 30) (.t 32)⟩,
    ⟨(some 34), 544, none, .mv (.t 33)⟩,
    ⟨(some 35), 560, (some (34, false)), .ld 1 false (.t 4)⟩,
    ⟨(some 36), 576, (some (34, false)), .mf (.func 47) [] [(.t 4)]⟩,
    ⟨(some 37), 592, (some (34, false)), .call (.c (.fn (.func 46) [] [])) [(.t 35), (.t 36)]⟩,
    ⟨(some 38), 608, none, .pick (.t 34) (.c (.bool true)) (.t 37)⟩])
  (.cond (.t 38) (.seq (.reg [⟨(some 6), 96, none, .mv (.c (.nil 1))⟩,
    ⟨(some 7), 112, none, .mv (.c (.nil 1))⟩,
    ⟨(some 8), 128, none, .mv (.c (.nil 1))⟩,
    ⟨(some 9), 144, none, .mv (.c (.int .i64 3))⟩])
  .ret) .skip))
  (.seq (.seq (.reg [⟨(some 39), 624, none, .mv (.t 2)⟩,
    ⟨(some 40), 640, none, .bi false .lss (.t 39) (.c (.int .i64 0))⟩])
  (.cond (.t 40) (.seq (.reg [⟨(some 6), 96, none, .mv (.c (.nil 1))⟩,
    ⟨(some 7), 112, none, .mv (.c (.nil 1))⟩,
    ⟨(some 8), 128, none, .mv (.c (.nil 1))⟩,
    ⟨(some 9), 144, none, .mv (.c (.int .i64 1))⟩])
  .ret) .skip))
  (.seq (.reg [⟨(some 10), 160, none, .mv (.c (.int .i64 0))⟩])
  (.seq (.reg [⟨(some 11), 176, none, .mv (.c (.nil 1))⟩])
  (.seq (.seq (.reg [⟨(some 41), 656, none, .ld 1 false (.t 4)⟩,
    ⟨(some 42), 672, none, .len (.t 41)⟩,
    ⟨(some 43), 688, none, .mv (.c (.int .i64 0))⟩])
  (.block 0 (.loop c29L1)))
  (.seq (.reg [⟨(some 16), 256, none, .mv (.c (.nil 1))⟩,
    ⟨(some 17), 272, none, .mv (.c (.nil 1))⟩])
  (.seq (.reg [⟨(some 18), 288, none, .mv (.c (.nil 1))⟩])
  (.seq (.seq (.reg [⟨(some 67), 1072, none, .mv (.t 10)⟩,
    ⟨(some 68), 1088, none, .mv (.c (.int .i64 0))⟩])
  (.block 2 (.loop c29L2)))
  (.seq (.reg [⟨(some 142), 2272, none, .mv (.t 16)⟩,
    ⟨(some 143), 2288, none, .mv (.t 18)⟩,
    ⟨(some 144), 2304, none, .mv (.t 17)⟩,
    ⟨(some 6), 96, none, .mv (.t 142)⟩,
    ⟨(some 7), 112, none, .mv (.t 143)⟩,
    ⟨(some 8), 128, none, .mv (.t 144)⟩,
    ⟨(some 9), 144, none, .mv (.c (.int .i64 0))⟩])
  .ret))))))))))
theorem fits29 : fits Try.prog false Try.f29 3 145 [(6, none), (7, none), (8, none), (9, none)] = some c29.er := by kernel_rfl

set_option maxRecDepth 100000 in
theorem call31 (τ τ' : Nat) (a b : List Bool) (hl : a.length ≤ 4611686018427387904) : PureCall Try.prog 31 [.sl τ 1 a.length (fl eBool a), .sl τ' 1 b.length (fl eBool b)] [] ⟨.bool (decide (a = b)), [], []⟩ := by
  refine pure_call mix Try.func31 fits31 rfl ?_
  conv => whnf
  refine ⟨trivial, fun hc => ?_, fun hc => ?_⟩
  · simp only [bif_t, bif_f, decide_eq_true_eq, decide_eq_false_iff_not, Bool.not_eq_true', Bool.not_eq_false', Bool.and_eq_true, Bool.or_eq_true, Bool.and_eq_false_iff, Bool.or_eq_false_iff, beq_iff_eq, bne_iff_ne, beq_eq_false_iff_ne, bne_eq_false_iff_eq, reduceCtorEq, false_and, and_false, true_and, and_true, or_false, false_or, or_true, true_or, not_true_eq_false, not_false_eq_true, Int.toNat_zero] at hc
    rw [decide_eq_false (fun e => hc (by rw [e]))]
    conv => whnf
    refine ⟨?_, [], ?_⟩
    · (try conv => whnf)
      (repeat' (first | exact True.intro | exact fun _ h => h | refine inR64_of ?_ ?_ | apply And.intro | refine maxLen_ge ?_)) <;> (first | omega | (dsimp only; omega) | (dsimp only [List.length_cons, List.length_nil]; omega) | (intro hg; rw [hg]; rfl) | (intro hg hh; rw [hg, hh]; rfl) | (intro hg; simp [-List.getD_eq_getElem?_getD, -Int.default_eq_zero] at hg; first | omega | (refine inR64_of ?_ ?_ <;> omega) | (constructor <;> omega)) | (simp [-List.getD_eq_getElem?_getD, -Int.default_eq_zero]; done))
    conv => whnf
    refine ⟨rfl, ?_, trivial, trivial⟩
    all_goals repeat' (first | exact True.intro | refine leF_cons rfl ?_ ?_ | refine leS_cons rfl ?_ ?_ | (show PLe _ _ _ _; conv => whnf) | (show SLe _ _ _ _; conv => whnf) | (show PLeL _ _ _ _; conv => whnf) | apply And.intro | rfl | exact Nat.le_refl _ | exact fun _ _ => rfl | exact rowEq0 _ _)
  · simp only [bif_t, bif_f, decide_eq_true_eq, decide_eq_false_iff_not, Bool.not_eq_true', Bool.not_eq_false', Bool.and_eq_true, Bool.or_eq_true, Bool.and_eq_false_iff, Bool.or_eq_false_iff, beq_iff_eq, bne_iff_ne, beq_eq_false_iff_ne, bne_eq_false_iff_eq, reduceCtorEq, false_and, and_false, true_and, and_true, or_false, false_or, or_true, true_or, not_true_eq_false, not_false_eq_true, Int.toNat_zero] at hc
    have hlen : a.length = b.length := by omega
    conv => whnf
    refine ⟨trivial, ?_⟩
    refine LSem.loop (n := 26) mix (α := Nat) (fun i => i ≤ a.length ∧ ∀ j, j < i → a.getD j default = b.getD j default)
      (fun i => [(0, .sl τ 1 a.length (fl eBool a)), (1, .sl τ' 1 b.length (fl eBool b)), (12, .int .i64 a.length), (13, .int .i64 i)])
      (fun i => []) (fun i => a.length - i) 0 ?_ ?_ ?_
    · exact ⟨Nat.zero_le _, fun j hj => by omega⟩
    · refine ⟨rfl, rfl, ?_, ?_⟩
      all_goals repeat' (first | exact True.intro | refine leF_cons rfl ?_ ?_ | refine leS_cons rfl ?_ ?_ | (show PLe _ _ _ _; conv => whnf) | (show SLe _ _ _ _; conv => whnf) | (show PLeL _ _ _ _; conv => whnf) | apply And.intro | rfl | exact Nat.le_refl _ | exact fun _ _ => rfl | exact rowEq0 _ _)
    · intro i hi
      obtain ⟨hi, hall⟩ := hi
      have hj : ((i : Int)).toNat = i := by omega
      conv => whnf
      refine ⟨trivial, fun hc2 => ?_, fun hc2 => ?_⟩
      · replace hc2 := of_decide_eq_true hc2
        have hlt : i < a.length := by omega
        conv => whnf
        refine ⟨rfl, ?_⟩
        conv => whnf
        refine ⟨?_, fun hc3 => ?_, fun hc3 => ?_⟩
        · (try conv => whnf)
          (repeat' (first | exact True.intro | exact fun _ h => h | refine inR64_of ?_ ?_ | apply And.intro | refine maxLen_ge ?_)) <;> (first | omega | (dsimp only; omega) | (dsimp only [List.length_cons, List.length_nil]; omega) | (intro hg; rw [hg]; rfl) | (intro hg hh; rw [hg, hh]; rfl) | (intro hg; simp [-List.getD_eq_getElem?_getD, -Int.default_eq_zero] at hg; first | omega | (refine inR64_of ?_ ?_ <;> omega) | (constructor <;> omega)) | (simp [-List.getD_eq_getElem?_getD, -Int.default_eq_zero]; done))
        · rw [hj] at hc3
          have hne : a.getD i default ≠ b.getD i default := by simpa using hc3
          rw [decide_eq_false (fun e => hne (by rw [e]))]
          conv => whnf
          refine ⟨?_, [], ?_⟩
          · (try conv => whnf)
            (repeat' (first | exact True.intro | exact fun _ h => h | refine inR64_of ?_ ?_ | apply And.intro | refine maxLen_ge ?_)) <;> (first | omega | (dsimp only; omega) | (dsimp only [List.length_cons, List.length_nil]; omega) | (intro hg; rw [hg]; rfl) | (intro hg hh; rw [hg, hh]; rfl) | (intro hg; simp [-List.getD_eq_getElem?_getD, -Int.default_eq_zero] at hg; first | omega | (refine inR64_of ?_ ?_ <;> omega) | (constructor <;> omega)) | (simp [-List.getD_eq_getElem?_getD, -Int.default_eq_zero]; done))
          conv => whnf
          refine ⟨rfl, ?_, trivial, trivial⟩
          all_goals repeat' (first | exact True.intro | refine leF_cons rfl ?_ ?_ | refine leS_cons rfl ?_ ?_ | (show PLe _ _ _ _; conv => whnf) | (show SLe _ _ _ _; conv => whnf) | (show PLeL _ _ _ _; conv => whnf) | apply And.intro | rfl | exact Nat.le_refl _ | exact fun _ _ => rfl | exact rowEq0 _ _)
        · rw [hj] at hc3
          have hne : a.getD i default = b.getD i default := by simpa using hc3
          conv => whnf
          refine ⟨?_, i + 1, ⟨by omega, fun j hj => ?_⟩, ?_, rfl, rfl, ?_, ?_⟩
          · (try conv => whnf)
            (repeat' (first | exact True.intro | exact fun _ h => h | refine inR64_of ?_ ?_ | apply And.intro | refine maxLen_ge ?_)) <;> (first | omega | (dsimp only; omega) | (dsimp only [List.length_cons, List.length_nil]; omega) | (intro hg; rw [hg]; rfl) | (intro hg hh; rw [hg, hh]; rfl) | (intro hg; simp [-List.getD_eq_getElem?_getD, -Int.default_eq_zero] at hg; first | omega | (refine inR64_of ?_ ?_ <;> omega) | (constructor <;> omega)) | (simp [-List.getD_eq_getElem?_getD, -Int.default_eq_zero]; done))
          · by_cases e : j = i
            · rw [e]; exact hne
            · exact hall j (by omega)
          · omega
          all_goals repeat' (first | exact True.intro | refine leF_cons rfl ?_ ?_ | refine leS_cons rfl ?_ ?_ | (show PLe _ _ _ _; conv => whnf) | (show SLe _ _ _ _; conv => whnf) | (show PLeL _ _ _ _; conv => whnf) | apply And.intro | rfl | exact Nat.le_refl _ | exact fun _ _ => rfl | exact rowEq0 _ _)
          all_goals omega
      · replace hc2 := of_decide_eq_false hc2
        rw [decide_eq_true (ext_getD hlen fun j hj => hall j (by omega))]
        conv => whnf
        refine ⟨?_, [], ?_⟩
        · (try conv => whnf)
          (repeat' (first | exact True.intro | exact fun _ h => h | refine inR64_of ?_ ?_ | apply And.intro | refine maxLen_ge ?_)) <;> (first | omega | (dsimp only; omega) | (dsimp only [List.length_cons, List.length_nil]; omega) | (intro hg; rw [hg]; rfl) | (intro hg hh; rw [hg, hh]; rfl) | (intro hg; simp [-List.getD_eq_getElem?_getD, -Int.default_eq_zero] at hg; first | omega | (refine inR64_of ?_ ?_ <;> omega) | (constructor <;> omega)) | (simp [-List.getD_eq_getElem?_getD, -Int.default_eq_zero]; done))
        conv => whnf
        refine ⟨rfl, ?_, trivial, trivial⟩
        all_goals repeat' (first | exact True.intro | refine leF_cons rfl ?_ ?_ | refine leS_cons rfl ?_ ?_ | (show PLe _ _ _ _; conv => whnf) | (show SLe _ _ _ _; conv => whnf) | (show PLeL _ _ _ _; conv => whnf) | apply And.intro | rfl | exact Nat.le_refl _ | exact fun _ _ => rfl | exact rowEq0 _ _)

def eLs (σ : Nat) (m : List Rd) : List PV := [.sl σ 4 m.length (fl eRd m)]
abbrev bxL (σ : Nat) (G : List (List Rd)) : List SE := [.box [.sl 2 1 G.length (fl (eLs σ) G)]]
def lenP (G : List (List Rd)) (m : List Rd) : Bool := decide (m.length ≠ (G.getD 0 default).length)
theorem call47 (σ : Nat) (G : List (List Rd)) (m : List Rd) (hG : 0 < G.length) : PureCall Try.prog 47 [.sl 2 4 m.length (fl eRd m), .pt 0 0 0] (bxL σ G) ⟨.bool (lenP G m), bxL σ G, []⟩ := by
  refine pure_call mix Try.func47 fits47 rfl ?_
  conv => whnf
  refine ⟨?_, [], ?_⟩
  · (try conv => whnf)
    (repeat' (first | exact True.intro | exact fun _ h => h | refine inR64_of ?_ ?_ | apply And.intro | refine maxLen_ge ?_)) <;> (first | omega | (dsimp only; omega) | (dsimp only [List.length_cons, List.length_nil]; omega) | (intro hg; rw [hg]; rfl) | (intro hg hh; rw [hg, hh]; rfl) | (intro hg; simp [-List.getD_eq_getElem?_getD, -Int.default_eq_zero] at hg; first | omega | (refine inR64_of ?_ ?_ <;> omega) | (constructor <;> omega)) | (simp [-List.getD_eq_getElem?_getD, -Int.default_eq_zero]; done))
  conv => whnf
  refine ⟨rfl, ?_, ?_, trivial⟩
  all_goals repeat' (first | exact True.intro | refine leF_cons rfl ?_ ?_ | refine leS_cons rfl ?_ ?_ | (show PLe _ _ _ _; conv => whnf) | (show SLe _ _ _ _; conv => whnf) | (show PLeL _ _ _ _; conv => whnf) | apply And.intro | rfl | exact Nat.le_refl _ | exact fun _ _ => rfl | exact rowEq0 _ _)
  unfold lenP
  by_cases h : m.length = (G.getD 0 default).length
  · rw [decide_eq_false (by omega)]; simp [h, -List.getD_eq_getElem?_getD]
  · rw [decide_eq_true h]; simp [-List.getD_eq_getElem?_getD]; omega
set_option maxHeartbeats 4000000 in
theorem call57 (σ : Nat) (G : List (List Rd)) (hl : G.length ≤ 4611686018427387904) : PureCall Try.prog 57 [.sl 2 1 G.length (fl (eLs σ) G), .fn (.func 47) [] [.pt 0 0 0]] (bxL σ G) ⟨.int .i64 (ixG (lenP G) G 0 G.length), bxL σ G, []⟩ := by
  refine pure_call mix Try.func57 fits57 rfl ?_
  conv => whnf
  refine ⟨trivial, ?_⟩
  refine LSem.loop (n := 19) mix (α := Nat) (fun k => k ≤ G.length ∧ ixG (lenP G) G k (G.length - k) = ixG (lenP G) G 0 G.length)
    (fun k => [(0, .sl 2 1 G.length (fl (eLs σ) G)), (1, .fn (.func 47) [] [.pt 0 0 0]), (7, .int .i64 G.length), (8, .int .i64 k)])
    (fun k => [(0, .box [.sl 2 1 G.length (fl (eLs σ) G)])]) (fun k => G.length - k) 0 ?_ ?_ ?_
  · exact ⟨Nat.zero_le _, rfl⟩
  · refine ⟨rfl, rfl, ?_, ?_⟩
    all_goals repeat' (first | exact True.intro | refine leF_cons rfl ?_ ?_ | refine leS_cons rfl ?_ ?_ | (show PLe _ _ _ _; conv => whnf) | (show SLe _ _ _ _; conv => whnf) | (show PLeL _ _ _ _; conv => whnf) | apply And.intro | rfl | exact Nat.le_refl _ | exact fun _ _ => rfl | exact rowEq0 _ _)
  · intro k hk
    obtain ⟨hk, hs⟩ := hk
    have hj : ((k : Int)).toNat = k := by omega
    conv => whnf
    refine ⟨trivial, fun hc => ?_, fun hc => ?_⟩
    · replace hc := of_decide_eq_true hc
      have hlt : k < G.length := by omega
      have hst : ixG (lenP G) G k (G.length - k) = if lenP G (G.getD k default) = true then (k : Int) else ixG (lenP G) G (k + 1) (G.length - (k + 1)) := by
        rw [show G.length - k = (G.length - (k + 1)) + 1 by omega]; rfl
      rw [hst] at hs
      conv => whnf
      refine ⟨_, fun _ => call47 σ G (G.getD ((k : Int)).toNat default) (by omega), ?_⟩
      conv => whnf
      refine ⟨?_, fun hc2 => ?_, fun hc2 => ?_⟩
      · (try conv => whnf)
        (repeat' (first | exact True.intro | exact fun _ h => h | refine inR64_of ?_ ?_ | apply And.intro | refine maxLen_ge ?_)) <;> (first | omega | (dsimp only; omega) | (dsimp only [List.length_cons, List.length_nil]; omega) | (intro hg; rw [hg]; rfl) | (intro hg hh; rw [hg, hh]; rfl) | (intro hg; simp [-List.getD_eq_getElem?_getD, -Int.default_eq_zero] at hg; first | omega | (refine inR64_of ?_ ?_ <;> omega) | (constructor <;> omega)) | (simp [-List.getD_eq_getElem?_getD, -Int.default_eq_zero]; done))
      · rw [hj] at hc2
        rw [if_pos hc2] at hs
        rw [← hs]
        conv => whnf
        refine ⟨?_, [], ?_⟩
        · (try conv => whnf)
          (repeat' (first | exact True.intro | exact fun _ h => h | refine inR64_of ?_ ?_ | apply And.intro | refine maxLen_ge ?_)) <;> (first | omega | (dsimp only; omega) | (dsimp only [List.length_cons, List.length_nil]; omega) | (intro hg; rw [hg]; rfl) | (intro hg hh; rw [hg, hh]; rfl) | (intro hg; simp [-List.getD_eq_getElem?_getD, -Int.default_eq_zero] at hg; first | omega | (refine inR64_of ?_ ?_ <;> omega) | (constructor <;> omega)) | (simp [-List.getD_eq_getElem?_getD, -Int.default_eq_zero]; done))
        conv => whnf
        refine ⟨rfl, ?_, ?_, ?_⟩
        all_goals repeat' (first | exact True.intro | refine leF_cons rfl ?_ ?_ | refine leS_cons rfl ?_ ?_ | (show PLe _ _ _ _; conv => whnf) | (show SLe _ _ _ _; conv => whnf) | (show PLeL _ _ _ _; conv => whnf) | apply And.intro | rfl | exact Nat.le_refl _ | exact fun _ _ => rfl | exact rowEq0 _ _)
      · rw [hj] at hc2
        rw [if_neg (by rw [hc2]; decide)] at hs
        conv => whnf
        refine ⟨?_, k + 1, ⟨by omega, hs⟩, ?_, rfl, rfl, ?_, ?_⟩
        · (try conv => whnf)
          (repeat' (first | exact True.intro | exact fun _ h => h | refine inR64_of ?_ ?_ | apply And.intro | refine maxLen_ge ?_)) <;> (first | omega | (dsimp only; omega) | (dsimp only [List.length_cons, List.length_nil]; omega) | (intro hg; rw [hg]; rfl) | (intro hg hh; rw [hg, hh]; rfl) | (intro hg; simp [-List.getD_eq_getElem?_getD, -Int.default_eq_zero] at hg; first | omega | (refine inR64_of ?_ ?_ <;> omega) | (constructor <;> omega)) | (simp [-List.getD_eq_getElem?_getD, -Int.default_eq_zero]; done))
        · omega
        all_goals repeat' (first | exact True.intro | refine leF_cons rfl ?_ ?_ | refine leS_cons rfl ?_ ?_ | (show PLe _ _ _ _; conv => whnf) | (show SLe _ _ _ _; conv => whnf) | (show PLeL _ _ _ _; conv => whnf) | apply And.intro | rfl | exact Nat.le_refl _ | exact fun _ _ => rfl | exact rowEq0 _ _)
        all_goals omega
    · replace hc := of_decide_eq_false hc
      rw [show G.length - k = 0 by omega] at hs
      rw [← hs]
      conv => whnf
      refine ⟨?_, [], ?_⟩
      · (try conv => whnf)
        (repeat' (first | exact True.intro | exact fun _ h => h | refine inR64_of ?_ ?_ | apply And.intro | refine maxLen_ge ?_)) <;> (first | omega | (dsimp only; omega) | (dsimp only [List.length_cons, List.length_nil]; omega) | (intro hg; rw [hg]; rfl) | (intro hg hh; rw [hg, hh]; rfl) | (intro hg; simp [-List.getD_eq_getElem?_getD, -Int.default_eq_zero] at hg; first | omega | (refine inR64_of ?_ ?_ <;> omega) | (constructor <;> omega)) | (simp [-List.getD_eq_getElem?_getD, -Int.default_eq_zero]; done))
      conv => whnf
      refine ⟨rfl, ?_, ?_, ?_⟩
      all_goals repeat' (first | exact True.intro | refine leF_cons rfl ?_ ?_ | refine leS_cons rfl ?_ ?_ | (show PLe _ _ _ _; conv => whnf) | (show SLe _ _ _ _; conv => whnf) | (show PLeL _ _ _ _; conv => whnf) | apply And.intro | rfl | exact Nat.le_refl _ | exact fun _ _ => rfl | exact rowEq0 _ _)
theorem call46 (σ : Nat) (G : List (List Rd)) (hl : G.length ≤ 4611686018427387904) : PureCall Try.prog 46 [.sl 2 1 G.length (fl (eLs σ) G), .fn (.func 47) [] [.pt 0 0 0]] (bxL σ G) ⟨.bool (decide (0 ≤ ixG (lenP G) G 0 G.length)), bxL σ G, []⟩ := by
  refine pure_call mix Try.func46 fits46 rfl ?_
  conv => whnf
  refine ⟨_, fun _ => call57 σ G hl, ?_⟩
  conv => whnf
  refine ⟨?_, [], ?_⟩
  · (try conv => whnf)
    (repeat' (first | exact True.intro | exact fun _ h => h | refine inR64_of ?_ ?_ | apply And.intro | refine maxLen_ge ?_)) <;> (first | omega | (dsimp only; omega) | (dsimp only [List.length_cons, List.length_nil]; omega) | (intro hg; rw [hg]; rfl) | (intro hg hh; rw [hg, hh]; rfl) | (intro hg; simp [-List.getD_eq_getElem?_getD, -Int.default_eq_zero] at hg; first | omega | (refine inR64_of ?_ ?_ <;> omega) | (constructor <;> omega)) | (simp [-List.getD_eq_getElem?_getD, -Int.default_eq_zero]; done))
  conv => whnf
  refine ⟨rfl, ?_, ?_, ?_⟩
  all_goals repeat' (first | exact True.intro | refine leF_cons rfl ?_ ?_ | refine leS_cons rfl ?_ ?_ | (show PLe _ _ _ _; conv => whnf) | (show SLe _ _ _ _; conv => whnf) | (show PLeL _ _ _ _; conv => whnf) | apply And.intro | rfl | exact Nat.le_refl _ | exact fun _ _ => rfl | exact rowEq0 _ _)
end Pv
end Go.Proofs.Ytogoplhikmmggaa
