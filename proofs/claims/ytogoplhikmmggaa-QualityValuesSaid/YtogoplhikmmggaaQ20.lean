/- LAW 08, THE WALKS: the document's fill and drift. -/
import Derived.Test.YtogoplhikmmggaaQ5
import Derived.Test.YtogoplhikmmggaaQ9
import Derived.Test.YtogoplhikmmggaaQ19
set_option linter.unusedSimpArgs false
set_option linter.unusedVariables false
namespace Go.Proofs.Ytogoplhikmmggaa
namespace Pv
def c53 : C := (.seq (.reg [⟨(some 4), 64, none, .mv (.c (.int .i64 0))⟩])
  (.seq (.reg [⟨(some 6), 96, none, .mv (.t 0)⟩,
    ⟨(some 7), 112, none, .mv (.t 1)⟩,
    ⟨(some 8), 128, none, .bi false .quo (.t 6) (.t 7)⟩,
    ⟨(some 5), 80, none, .mv (.t 8)⟩])
  (.seq (.seq (.reg [⟨(some 9), 144, none, .mv (.t 0)⟩,
    ⟨(some 10), 160, none, .mv (.t 1)⟩,
    ⟨(some 11), 176, none, .bi false .rem (.t 9) (.t 10)⟩,
    ⟨(some 12), 192, none, .bi false .lss (.t 11) (.c (.int .i64 0))⟩])
  (.cond (.t 12) (.reg [⟨(some 13), 208, none, .mv (.t 5)⟩,
    ⟨(some 14), 224, none, .bi false .sub (.t 13) (.c (.int .i64 1))⟩,
    ⟨(some 5), 80, none, .mv (.t 14)⟩]) .skip))
  (.seq (.reg [⟨(some 15), 240, none, .mv (.t 5)⟩,
    ⟨(some 4), 64, none, .mv (.t 15)⟩])
  .ret))))
theorem fits53 : fits Try.prog false Try.f53 2 16 [(4, none)] = some c53.er := by kernel_rfl
def c39 : C := (.seq (.reg [⟨(some 4), 64, none, .mv (.c (.int .i64 0))⟩])
  (.seq (.reg [⟨(some 5), 80, none, .mv (.t 0)⟩,
    ⟨(some 6), 96, none, .mv (.t 1)⟩,
    ⟨(some 7), 112, none, .call (.c (.fn (.func 53) [] [])) [(.t 5), (.t 6)]⟩,
    ⟨(some 4), 64, none, .mv (.t 7)⟩])
  .ret))
theorem fits39 : fits Try.prog false Try.f39 2 8 [(4, none)] = some c39.er := by kernel_rfl
def c37L1 : C := (.seq (.reg [⟨(some 8), 128, none, .bi false .lss (.t 7) (.t 6)⟩])
  (.seq (.cond (.t 8) .skip (.exit 0))
  (.seq (.block 1 (.seq (.reg [⟨(some 9), 144, none, .ia 1 (.t 5) (.t 7)⟩,
    ⟨(some 10), 160, none, .ld 1 false (.t 9)⟩,
    ⟨(some 4), 64, none, .mv (.t 10)⟩])
  (.seq (.reg [⟨(some 11), 176, none, .mv (.t 4)⟩,
    ⟨(some 12), 192, none, .call (.c (.fn (.func 38) [] [])) [(.t 11), (.c (.int .i64 1073741824))]⟩,
    ⟨(some 13), 208, none, .un false .not (.t 12)⟩])
  (.cond (.t 13) (.seq (.reg [⟨(some 2), 32, none, .mv (.c (.bool false))⟩])
  .ret) .skip))))
  (.reg [⟨(some 14), 224, none, .bi false .add (.t 7) (.c (.int .i64 1))⟩,
    ⟨(some 7), 112, none, .mv (.t 14)⟩]))))
def c37 : C := (.seq (.reg [⟨(some 2), 32, none, .mv (.c (.bool false))⟩])
  (.seq (.seq (.reg [⟨(some 5), 80, none, .mv (.t 0)⟩,
    ⟨(some 6), 96, none, .len (.t 5)⟩,
    ⟨(some 7), 112, none, .mv (.c (.int .i64 0))⟩])
  (.block 0 (.loop c37L1)))
  (.seq (.reg [⟨(some 2), 32, none, .mv (.c (.bool true))⟩])
  .ret)))
theorem fits37 : fits Try.prog false Try.f37 1 15 [(2, none)] = some c37.er := by kernel_rfl
def c20L2 : C := (.seq (.seq (.reg [⟨(some 34), 544, none, .mv (.t 12)⟩,
    ⟨(some 35), 560, none, .mv (.t 0)⟩,
    ⟨(some 36), 576, none, .len (.t 35)⟩,
    ⟨(some 37), 592, none, .bi false .lss (.t 34) (.t 36)⟩,
    ⟨(some 38), 608, none, .mv (.t 37)⟩,
    ⟨(some 39), 624, (some (38, true)), .mv (.t 1)⟩,
    ⟨(some 40), 640, (some (38, true)), .mv (.t 12)⟩,
    ⟨(some 41), 656, (some (38, true)), .ia 1 (.t 39) (.t 40)⟩,
    ⟨(some 42), 672, (some (38, true)), .ld 1 false (.t 41)⟩,
    ⟨(some 43), 688, (some (38, true)), .un false .not (.t 42)⟩,
    ⟨(some 44), 704, none, .pick (.t 38) (.t 43) (.c (.bool false))⟩])
  (.cond (.t 44) .skip (.exit 2)))
  (.block 3 (.reg [⟨(some 45), 720, none, .mv (.t 12)⟩,
    ⟨(some 46), 736, none, .bi false .add (.t 45) (.c (.int .i64 1))⟩,
    ⟨(some 12), 192, none, .mv (.t 46)⟩])))
def c20L1 : C := (.seq (.reg [⟨(some 29), 464, none, .bi false .lss (.t 28) (.t 27)⟩])
  (.seq (.cond (.t 29) .skip (.exit 0))
  (.seq (.block 1 (.seq (.reg [⟨(some 30), 480, none, .mv (.t 28)⟩,
    ⟨(some 31), 496, none, .ia 1 (.t 26) (.t 28)⟩,
    ⟨(some 32), 512, none, .ld 1 false (.t 31)⟩,
    ⟨(some 10), 160, none, .mv (.t 30)⟩,
    ⟨(some 11), 176, none, .mv (.t 32)⟩])
  (.seq (.reg [⟨(some 33), 528, none, .mv (.t 10)⟩,
    ⟨(some 12), 192, none, .mv (.t 33)⟩])
  (.seq (.block 2 (.loop c20L2))
  (.seq (.block 4 (.seq (.reg [⟨(some 70), 1120, none, .mv (.t 1)⟩,
    ⟨(some 71), 1136, none, .mv (.t 10)⟩,
    ⟨(some 72), 1152, none, .ia 1 (.t 70) (.t 71)⟩,
    ⟨(some 73), 1168, none, .ld 1 false (.t 72)⟩,
    ⟨(some 69), 1104, none, .mv (.t 73)⟩])
  (.cond (.t 69) (.reg [⟨(some 74), 1184, none, .mv (.t 10)⟩,
    ⟨(some 9), 144, none, .mv (.t 74)⟩]) (.seq (.reg [⟨(some 76), 1216, none, .mv (.t 9)⟩,
    ⟨(some 77), 1232, none, .bi false .lss (.t 76) (.c (.int .i64 0))⟩,
    ⟨(some 75), 1200, none, .mv (.t 77)⟩])
  (.cond (.t 75) (.reg [⟨(some 78), 1248, none, .mv (.t 2)⟩,
    ⟨(some 11), 176, none, .mv (.t 78)⟩]) (.seq (.reg [⟨(some 80), 1280, none, .mv (.t 12)⟩,
    ⟨(some 81), 1296, none, .mv (.t 0)⟩,
    ⟨(some 82), 1312, none, .len (.t 81)⟩,
    ⟨(some 83), 1328, none, .bi false .eql (.t 80) (.t 82)⟩,
    ⟨(some 79), 1264, none, .mv (.t 83)⟩])
  (.cond (.t 79) (.reg [⟨(some 84), 1344, none, .mv (.t 0)⟩,
    ⟨(some 85), 1360, none, .mv (.t 9)⟩,
    ⟨(some 86), 1376, none, .ia 1 (.t 84) (.t 85)⟩,
    ⟨(some 87), 1392, none, .ld 1 false (.t 86)⟩,
    ⟨(some 11), 176, none, .mv (.t 87)⟩]) (.drw [⟨(some 47), 752, none, .mv (.t 0)⟩,
    ⟨(some 48), 768, none, .mv (.t 9)⟩,
    ⟨(some 49), 784, none, .ia 1 (.t 47) (.t 48)⟩,
    ⟨(some 50), 800, none, .ld 1 false (.t 49)⟩,
    ⟨(some 51), 816, none, .mv (.t 0)⟩,
    ⟨(some 52), 832, none, .mv (.t 12)⟩,
    ⟨(some 53), 848, none, .ia 1 (.t 51) (.t 52)⟩,
    ⟨(some 54), 864, none, .ld 1 false (.t 53)⟩,
    ⟨(some 55), 880, none, .mv (.t 0)⟩,
    ⟨(some 56), 896, none, .mv (.t 9)⟩,
    ⟨(some 57), 912, none, .ia 1 (.t 55) (.t 56)⟩,
    ⟨(some 58), 928, none, .ld 1 false (.t 57)⟩,
    ⟨(some 59), 944, none, .bi false .sub (.t 54) (.t 58)⟩,
    ⟨(some 60), 960, none, .mv (.t 10)⟩,
    ⟨(some 61), 976, none, .mv (.t 9)⟩,
    ⟨(some 62), 992, none, .bi false .sub (.t 60) (.t 61)⟩,
    ⟨(some 63), 1008, none, .bi false .mul (.t 59) (.t 62)⟩,
    ⟨(some 64), 1024, none, .mv (.t 12)⟩,
    ⟨(some 65), 1040, none, .mv (.t 9)⟩,
    ⟨(some 66), 1056, none, .bi false .sub (.t 64) (.t 65)⟩,
    ⟨(some 67), 1072, none, .call (.c (.fn (.func 39) [] [])) [(.t 63), (.t 66)]⟩,
    ⟨(some 68), 1088, none, .bi false .add (.t 50) (.t 67)⟩,
    ⟨(some 11), 176, none, .mv (.t 68)⟩]
    [(0, 1, 47), (0, 4, 47), (0, 5, 47), (0, 6, 47), (0, 7, 47), (0, 8, 47), (0, 9, 47), (0, 10, 47), (0, 11, 47), (0, 12, 47), (0, 13, 47), (0, 14, 47), (0, 15, 47), (0, 16, 47), (0, 17, 47), (0, 18, 47), (0, 19, 47), (0, 20, 47), (1, 4, 48), (1, 5, 48), (1, 6, 48), (1, 7, 48), (1, 8, 48), (1, 9, 48), (1, 10, 48), (1, 11, 48), (1, 12, 48), (1, 13, 48), (1, 14, 48), (1, 15, 48), (1, 16, 48), (1, 17, 48), (1, 18, 48), (1, 19, 48), (1, 20, 48), (2, 4, 49), (2, 5, 49), (2, 6, 49), (2, 7, 49), (2, 8, 49), (2, 9, 49), (2, 10, 49), (2, 11, 49), (2, 12, 49), (2, 13, 49), (2, 14, 49), (2, 15, 49), (2, 16, 49), (2, 17, 49), (2, 18, 49), (2, 19, 49), (2, 20, 49), (3, 4, 50), (3, 5, 50), (3, 6, 50), (3, 7, 50), (3, 8, 50), (3, 9, 50), (3, 10, 50), (3, 11, 50), (3, 12, 50), (3, 13, 50), (3, 14, 50), (3, 15, 50), (3, 16, 50), (3, 17, 50), (3, 18, 50), (3, 19, 50), (3, 20, 50), (4, 5, 51), (4, 8, 51), (4, 9, 51), (4, 10, 51), (4, 11, 51), (4, 13, 51), (4, 14, 51), (4, 15, 51), (4, 17, 51), (4, 18, 51), (4, 19, 51), (5, 8, 52), (5, 9, 52), (5, 10, 52), (5, 11, 52), (5, 13, 52), (5, 14, 52), (5, 15, 52), (5, 17, 52), (5, 18, 52), (5, 19, 52), (6, 8, 53), (6, 9, 53), (6, 10, 53), (6, 11, 53), (6, 13, 53), (6, 14, 53), (6, 15, 53), (6, 17, 53), (6, 18, 53), (6, 19, 53), (7, 8, 54), (7, 9, 54), (7, 10, 54), (7, 11, 54), (7, 13, 54), (7, 14, 54), (7, 15, 54), (7, 17, 54), (7, 18, 54), (7, 19, 54), (8, 9, 55), (8, 13, 55), (8, 14, 55), (8, 15, 55), (8, 17, 55), (8, 18, 55), (8, 19, 55), (9, 13, 56), (9, 14, 56), (9, 15, 56), (9, 17, 56), (9, 18, 56), (9, 19, 56), (10, 13, 57), (10, 14, 57), (10, 15, 57), (10, 17, 57), (10, 18, 57), (10, 19, 57), (11, 13, 58), (11, 14, 58), (11, 15, 58), (11, 17, 58), (11, 18, 58), (11, 19, 58), (12, 13, 59), (12, 14, 59), (12, 15, 59), (12, 17, 59), (12, 18, 59), (12, 19, 59), (13, 14, 60), (13, 17, 60), (13, 18, 60), (13, 19, 60), (14, 17, 61), (14, 18, 61), (14, 19, 61), (15, 17, 62), (15, 18, 62), (15, 19, 62), (16, 17, 63), (16, 18, 63), (16, 19, 63), (17, 18, 64)]))))))))
  (.reg [⟨(some 88), 1408, none, .mv (.t 8)⟩,
    ⟨(some 89), 1424, none, .mv (.t 11)⟩,
    ⟨(some 90), 1440, none, .bs 3 1 [(.t 89)]⟩,
    ⟨(some 91), 1456, none, .app 3 1 8 (.t 88) (.t 90)⟩,
    ⟨(some 8), 128, none, .mv (.t 91)⟩]))))))
  (.reg [⟨(some 92), 1472, none, .bi false .add (.t 28) (.c (.int .i64 1))⟩,
    ⟨(some 28), 448, none, .mv (.t 92)⟩]))))
def c20 : C := (.seq (.reg [⟨(some 6), 96, none, .mv (.c (.nil 1))⟩,
    ⟨(some 7), 112, none, .mv (.c (.int .i64 0))⟩])
  (.seq (.seq (.reg [⟨(some 13), 208, none, .mv (.t 0)⟩,
    ⟨(some 14), 224, none, .len (.t 13)⟩,
    ⟨(some 15), 240, none, .mv (.t 1)⟩,
    ⟨(some 16), 256, none, .len (.t 15)⟩,
    ⟨(some 17), 272, none, .bi false .neq (.t 14) (.t 16)⟩])
  (.cond (.t 17) (.seq (.reg [⟨(some 6), 96, none, .mv (.c (.nil 1))⟩,
    ⟨(some 7), 112, none, .mv (.c (.int .i64 3))⟩])
  .ret) .skip))
  (.seq (.seq (.reg [⟨(some 18), 288, none, .mv (.t 0)⟩,
    ⟨(some 19), 304, none, .call (.c (.fn (.func 37) [] [])) [(.t 18)]⟩,
    ⟨(some 20), 320, none, .un false .not (.t 19)⟩,
    ⟨(some 21), 336, none, .mv (.t 20)⟩,
    ⟨(some 22), 352, (some (21, false)), .mv (.t 2)⟩,
    ⟨(some 23), 368, (some (21, false)), .call (.c (.fn (.func 38) [] [])) [(.t 22), (.c (.int .i64 1073741824))]⟩,
    ⟨(some 24), 384, (some (21, false)), .un false .not (.t 23)⟩,
    ⟨(some 25), 400, none, .pick (.t 21) (.c (.bool true)) (.t 24)⟩])
  (.cond (.t 25) (.seq (.reg [⟨(some 6), 96, none, .mv (.c (.nil 1))⟩,
    ⟨(some 7), 112, none, .mv (.c (.int .i64 1))⟩])
  .ret) .skip))
  (.seq (.reg [⟨(some 8), 128, none, .mv (.c (.nil 1))⟩])
  (.seq (.reg [⟨(some 9), 144, none, .mv (.c (.int .i64 (-1)))⟩])
  (.seq (.seq (.reg [⟨(some 26), 416, none, .mv (.t 0)⟩,
    ⟨(some 27), 432, none, .len (.t 26)⟩,
    ⟨(some 28), 448, none, .mv (.c (.int .i64 0))⟩])
  (.block 0 (.loop c20L1)))
  (.seq (.reg [⟨(some 93), 1488, none, .mv (.t 8)⟩,
    ⟨(some 6), 96, none, .mv (.t 93)⟩,
    ⟨(some 7), 112, none, .mv (.c (.int .i64 0))⟩])
  .ret)))))))
theorem fits20 : fits Try.prog false Try.f20 3 94 [(6, none), (7, none)] = some c20.er := by kernel_rfl
def c22L1 : C := (.seq (.reg [⟨(some 38), 608, none, .bi false .lss (.t 37) (.t 36)⟩])
  (.seq (.cond (.t 38) .skip (.exit 0))
  (.seq (.block 1 (.seq (.reg [⟨(some 39), 624, none, .mv (.t 37)⟩,
    ⟨(some 11), 176, none, .mv (.t 39)⟩])
  (.seq (.reg [⟨(some 40), 640, none, .mv (.t 2)⟩,
    ⟨(some 41), 656, none, .mv (.t 11)⟩,
    ⟨(some 42), 672, none, .ia 1 (.t 40) (.t 41)⟩,
    ⟨(some 43), 688, none, .ld 1 false (.t 42)⟩])
  (.cond (.t 43) (.drw [⟨(some 44), 704, none, .mv (.t 9)⟩,
    ⟨(some 45), 720, none, .mv (.t 1)⟩,
    ⟨(some 46), 736, none, .mv (.t 11)⟩,
    ⟨(some 47), 752, none, .ia 1 (.t 45) (.t 46)⟩,
    ⟨(some 48), 768, none, .ld 1 false (.t 47)⟩,
    ⟨(some 49), 784, none, .bi false .add (.t 44) (.t 48)⟩,
    ⟨(some 50), 800, none, .mv (.t 0)⟩,
    ⟨(some 51), 816, none, .mv (.t 11)⟩,
    ⟨(some 52), 832, none, .ia 1 (.t 50) (.t 51)⟩,
    ⟨(some 53), 848, none, .ld 1 false (.t 52)⟩,
    ⟨(some 54), 864, none, .bi false .sub (.t 49) (.t 53)⟩,
    ⟨(some 55), 880, none, .mv (.t 10)⟩,
    ⟨(some 56), 896, none, .bi false .add (.t 55) (.c (.int .i64 1))⟩,
    ⟨(some 9), 144, none, .mv (.t 54)⟩,
    ⟨(some 10), 160, none, .mv (.t 56)⟩]
    [(0, 1, 44), (0, 2, 44), (0, 3, 44), (0, 4, 44), (0, 6, 44), (0, 7, 44), (0, 8, 44), (0, 9, 44), (0, 11, 44), (0, 12, 44), (1, 2, 45), (1, 6, 45), (1, 7, 45), (1, 8, 45), (1, 9, 45), (1, 11, 45), (1, 12, 45), (2, 6, 46), (2, 7, 46), (2, 8, 46), (2, 9, 46), (2, 11, 46), (2, 12, 46), (3, 6, 47), (3, 7, 47), (3, 8, 47), (3, 9, 47), (3, 11, 47), (3, 12, 47), (4, 6, 48), (4, 7, 48), (4, 8, 48), (4, 9, 48), (4, 11, 48), (4, 12, 48), (5, 6, 49), (5, 7, 49), (5, 8, 49), (5, 9, 49), (5, 11, 49), (5, 12, 49), (6, 7, 50), (6, 11, 50), (6, 12, 50), (7, 11, 51), (7, 12, 51), (8, 11, 52), (8, 12, 52), (9, 11, 53), (9, 12, 53), (10, 11, 54), (10, 12, 54), (11, 13, 55), (12, 13, 56)]) .skip))))
  (.reg [⟨(some 57), 912, none, .bi false .add (.t 37) (.c (.int .i64 1))⟩,
    ⟨(some 37), 592, none, .mv (.t 57)⟩]))))
def c22 : C := (.seq (.reg [⟨(some 6), 96, none, .mv (.c (.int .i64 0))⟩,
    ⟨(some 7), 112, none, .mv (.c (.bool false))⟩,
    ⟨(some 8), 128, none, .mv (.c (.int .i64 0))⟩])
  (.seq (.seq (.reg [⟨(some 12), 192, none, .mv (.t 0)⟩,
    ⟨(some 13), 208, none, .len (.t 12)⟩,
    ⟨(some 14), 224, none, .mv (.t 1)⟩,
    ⟨(some 15), 240, none, .len (.t 14)⟩,
    ⟨(some 16), 256, none, .bi false .neq (.t 13) (.t 15)⟩,
    ⟨(some 17), 272, none, .mv (.t 16)⟩,
    ⟨(some 18), 288, (some (17, false)), .mv (.t 0)⟩,
    ⟨(some 19), 304, (some (17, false)), .len (.t 18)⟩,
    ⟨(some 20), 320, (some (17, false)), .mv (.t 2)⟩,
    ⟨(some 21), 336, (some (17, false)), .len (.t 20)⟩,
    ⟨(some 22), 352, (some (17, false)), .bi false .neq (.t 19) (.t 21)⟩,
    ⟨(some 23), 368, none, .pick (.t 17) (.c (.bool true)) (.t 22)⟩])
  (.cond (.t 23) (.seq (.reg [⟨(some 6), 96, none, .mv (.c (.int .i64 0))⟩,
    ⟨(some 7), 112, none, .mv (.c (.bool false))⟩,
    ⟨(some 8), 128, none, .mv (.c (.int .i64 3))⟩])
  .ret) .skip))
  (.seq (.seq (.reg [⟨(some 24), 384, none, .mv (.t 0)⟩,
    ⟨(some 25), 400, none, .call (.c (.fn (.func 37) [] [])) [(.t 24)]⟩,
    ⟨(some 26), 416, none, .un false .not (.t 25)⟩,
    ⟨(some 27), 432, none, .mv (.t 26)⟩,
    ⟨(some 28), 448, (some (27, false)), .mv (.t 1)⟩,
    ⟨(some 29), 464, (some (27, false)), .call (.c (.fn (.func 37) [] [])) [(.t 28)]⟩,
    ⟨(some 30), 480, (some (27, false)), .un false .not (.t 29)⟩,
    ⟨(some 31), 496, none, .pick (.t 27) (.c (.bool true)) (.t 30)⟩])
  (.cond (.t 31) (.seq (.reg [⟨(some 6), 96, none, .mv (.c (.int .i64 0))⟩,
    ⟨(some 7), 112, none, .mv (.c (.bool false))⟩,
    ⟨(some 8), 128, none, .mv (.c (.int .i64 1))⟩])
  .ret) .skip))
  (.seq (.seq (.reg [⟨(some 32), 512, none, .mv (.t 0)⟩,
    ⟨(some 33), 528, none, .len (.t 32)⟩,
    ⟨(some 34), 544, none, .bi false .gtr (.t 33) (.c (.int .i64 4096))⟩])
  (.cond (.t 34) (.seq (.reg [⟨(some 6), 96, none, .mv (.c (.int .i64 0))⟩,
    ⟨(some 7), 112, none, .mv (.c (.bool false))⟩,
    ⟨(some 8), 128, none, .mv (.c (.int .i64 10))⟩])
  .ret) .skip))
  (.seq (.reg [⟨(some 9), 144, none, .mv (.c (.int .i64 0))⟩,
    ⟨(some 10), 160, none, .mv (.c (.int .i64 0))⟩])
  (.seq (.seq (.reg [⟨(some 35), 560, none, .mv (.t 0)⟩,
    ⟨(some 36), 576, none, .len (.t 35)⟩,
    ⟨(some 37), 592, none, .mv (.c (.int .i64 0))⟩])
  (.block 0 (.loop c22L1)))
  (.seq (.seq (.reg [⟨(some 58), 928, none, .mv (.t 10)⟩,
    ⟨(some 59), 944, none, .bi false .eql (.t 58) (.c (.int .i64 0))⟩])
  (.cond (.t 59) (.seq (.reg [⟨(some 6), 96, none, .mv (.c (.int .i64 0))⟩,
    ⟨(some 7), 112, none, .mv (.c (.bool false))⟩,
    ⟨(some 8), 128, none, .mv (.c (.int .i64 0))⟩])
  .ret) .skip))
  (.seq (.reg [⟨(some 60), 960, none, .mv (.t 9)⟩,
    ⟨(some 61), 976, none, .mv (.t 10)⟩,
    ⟨(some 62), 992, none, .call (.c (.fn (.func 39) [] [])) [(.t 60), (.t 61)]⟩,
    ⟨(some 6), 96, none, .mv (.t 62)⟩,
    ⟨(some 7), 112, none, .mv (.c (.bool true))⟩,
    ⟨(some 8), 128, none, .mv (.c (.int .i64 0))⟩])
  .ret))))))))
theorem fits22 : fits Try.prog false Try.f22 3 63 [(6, none), (7, none), (8, none)] = some c22.er := by kernel_rfl

theorem call53 (a b : Int) (ha : -4611686018427387904 ≤ a ∧ a ≤ 4611686018427387904) (hb : 0 < b ∧ b ≤ 4611686018427387904) : PureCall Try.prog 53 [.int .i64 a, .int .i64 b] [] ⟨.int .i64 (a / b), [], []⟩ := by
  have hq := tdiv_down a b hb.1
  have hle : (Int.tdiv a b).natAbs ≤ a.natAbs := Int.natAbs_tdiv_le_natAbs a b
  refine pure_call mix Try.func53 fits53 rfl ?_
  conv => whnf
  refine ⟨?_, fun hc => ?_, fun hc => ?_⟩
  · (try conv => whnf)
    (repeat' (first | exact True.intro | exact fun _ h => h | refine inR64_of ?_ ?_ | apply And.intro | refine maxLen_ge ?_)) <;> (first | omega | (dsimp only; omega) | (dsimp only [List.length_cons, List.length_nil]; omega) | (intro hg; rw [hg]; rfl) | (intro hg hh; rw [hg, hh]; rfl) | (intro hg; simp [-List.getD_eq_getElem?_getD, -Int.default_eq_zero] at hg; first | omega | (refine inR64_of ?_ ?_ <;> omega) | (constructor <;> omega)) | (simp [-List.getD_eq_getElem?_getD, -Int.default_eq_zero]; done))
  · replace hc := of_decide_eq_true hc
    rw [if_pos hc] at hq
    rw [hq]
    conv => whnf
    refine ⟨?_, [], ?_⟩
    · (try conv => whnf)
      (repeat' (first | exact True.intro | exact fun _ h => h | refine inR64_of ?_ ?_ | apply And.intro | refine maxLen_ge ?_)) <;> (first | omega | (dsimp only; omega) | (dsimp only [List.length_cons, List.length_nil]; omega) | (intro hg; rw [hg]; rfl) | (intro hg hh; rw [hg, hh]; rfl) | (intro hg; simp [-List.getD_eq_getElem?_getD, -Int.default_eq_zero] at hg; first | omega | (refine inR64_of ?_ ?_ <;> omega) | (constructor <;> omega)) | (simp [-List.getD_eq_getElem?_getD, -Int.default_eq_zero]; done))
    conv => whnf
    refine ⟨rfl, ?_, trivial, trivial⟩
    all_goals repeat' (first | exact True.intro | refine leF_cons rfl ?_ ?_ | refine leS_cons rfl ?_ ?_ | (show PLe _ _ _ _; conv => whnf) | (show SLe _ _ _ _; conv => whnf) | (show PLeL _ _ _ _; conv => whnf) | apply And.intro | rfl | exact Nat.le_refl _ | exact fun _ _ => rfl | exact rowEq0 _ _)
  · replace hc := of_decide_eq_false hc
    rw [if_neg hc] at hq
    rw [hq]
    conv => whnf
    refine ⟨?_, [], ?_⟩
    · (try conv => whnf)
      (repeat' (first | exact True.intro | exact fun _ h => h | refine inR64_of ?_ ?_ | apply And.intro | refine maxLen_ge ?_)) <;> (first | omega | (dsimp only; omega) | (dsimp only [List.length_cons, List.length_nil]; omega) | (intro hg; rw [hg]; rfl) | (intro hg hh; rw [hg, hh]; rfl) | (intro hg; simp [-List.getD_eq_getElem?_getD, -Int.default_eq_zero] at hg; first | omega | (refine inR64_of ?_ ?_ <;> omega) | (constructor <;> omega)) | (simp [-List.getD_eq_getElem?_getD, -Int.default_eq_zero]; done))
    conv => whnf
    refine ⟨rfl, ?_, trivial, trivial⟩
    all_goals repeat' (first | exact True.intro | refine leF_cons rfl ?_ ?_ | refine leS_cons rfl ?_ ?_ | (show PLe _ _ _ _; conv => whnf) | (show SLe _ _ _ _; conv => whnf) | (show PLeL _ _ _ _; conv => whnf) | apply And.intro | rfl | exact Nat.le_refl _ | exact fun _ _ => rfl | exact rowEq0 _ _)
theorem call39 (a b : Int) (ha : -4611686018427387904 ≤ a ∧ a ≤ 4611686018427387904) (hb : 0 < b ∧ b ≤ 4611686018427387904) : PureCall Try.prog 39 [.int .i64 a, .int .i64 b] [] ⟨.int .i64 (a / b), [], []⟩ := by
  refine pure_call mix Try.func39 fits39 rfl ?_
  conv => whnf
  refine ⟨_, fun _ => call53 a b ha hb, ?_⟩
  conv => whnf
  refine ⟨?_, [], ?_⟩
  · (try conv => whnf)
    (repeat' (first | exact True.intro | exact fun _ h => h | refine inR64_of ?_ ?_ | apply And.intro | refine maxLen_ge ?_)) <;> (first | omega | (dsimp only; omega) | (dsimp only [List.length_cons, List.length_nil]; omega) | (intro hg; rw [hg]; rfl) | (intro hg hh; rw [hg, hh]; rfl) | (intro hg; simp [-List.getD_eq_getElem?_getD, -Int.default_eq_zero] at hg; first | omega | (refine inR64_of ?_ ?_ <;> omega) | (constructor <;> omega)) | (simp [-List.getD_eq_getElem?_getD, -Int.default_eq_zero]; done))
  conv => whnf
  refine ⟨rfl, ?_, trivial, trivial⟩
  all_goals repeat' (first | exact True.intro | refine leF_cons rfl ?_ ?_ | refine leS_cons rfl ?_ ?_ | (show PLe _ _ _ _; conv => whnf) | (show SLe _ _ _ _; conv => whnf) | (show PLeL _ _ _ _; conv => whnf) | apply And.intro | rfl | exact Nat.le_refl _ | exact fun _ _ => rfl | exact rowEq0 _ _)

theorem call37 (τ : Nat) (l : List Int) (hl : l.length ≤ 4611686018427387904) : PureCall Try.prog 37 [.sl τ 1 l.length (fl eInt l)] [] ⟨.bool (flowsF l), [], []⟩ := by
  refine pure_call mix Try.func37 fits37 rfl ?_
  conv => whnf
  refine ⟨trivial, ?_⟩
  refine LSem.loop (n := 15) mix (α := Nat) (fun i => i ≤ l.length ∧ ∀ j, j < i → 0 ≤ l.getD j default ∧ l.getD j default ≤ 1073741824)
    (fun i => [(5, .sl τ 1 l.length (fl eInt l)), (6, .int .i64 l.length), (7, .int .i64 i)])
    (fun i => []) (fun i => l.length - i) 0 ?_ ?_ ?_
  · exact ⟨Nat.zero_le _, fun j hj => by omega⟩
  · refine ⟨rfl, rfl, ?_, ?_⟩
    all_goals repeat' (first | exact True.intro | refine leF_cons rfl ?_ ?_ | refine leS_cons rfl ?_ ?_ | (show PLe _ _ _ _; conv => whnf) | (show SLe _ _ _ _; conv => whnf) | (show PLeL _ _ _ _; conv => whnf) | apply And.intro | rfl | exact Nat.le_refl _ | exact fun _ _ => rfl | exact rowEq0 _ _)
  · intro i hi
    obtain ⟨hi, hall⟩ := hi
    have hj : ((i : Int)).toNat = i := by omega
    conv => whnf
    refine ⟨trivial, fun hc => ?_, fun hc => ?_⟩
    · replace hc := of_decide_eq_true hc
      have hlt : i < l.length := by omega
      conv => whnf
      refine ⟨_, fun _ => call38 (l.getD ((i : Int)).toNat default) 1073741824, ?_⟩
      rw [hj]
      conv => whnf
      refine ⟨?_, fun hc2 => ?_, fun hc2 => ?_⟩
      · (try conv => whnf)
        (repeat' (first | exact True.intro | exact fun _ h => h | refine inR64_of ?_ ?_ | apply And.intro | refine maxLen_ge ?_)) <;> (first | omega | (dsimp only; omega) | (dsimp only [List.length_cons, List.length_nil]; omega) | (intro hg; rw [hg]; rfl) | (intro hg hh; rw [hg, hh]; rfl) | (intro hg; simp [-List.getD_eq_getElem?_getD, -Int.default_eq_zero] at hg; first | omega | (refine inR64_of ?_ ?_ <;> omega) | (constructor <;> omega)) | (simp [-List.getD_eq_getElem?_getD, -Int.default_eq_zero]; done))
      · simp only [bif_t, bif_f, decide_eq_true_eq, decide_eq_false_iff_not, Bool.not_eq_true', Bool.not_eq_false', Bool.and_eq_true, Bool.or_eq_true, Bool.and_eq_false_iff, Bool.or_eq_false_iff, beq_iff_eq, bne_iff_ne, beq_eq_false_iff_ne, bne_eq_false_iff_eq, reduceCtorEq, false_and, and_false, true_and, and_true, or_false, false_or, or_true, true_or, not_true_eq_false, not_false_eq_true, Int.toNat_zero] at hc2
        rw [show flowsF l = false by
          cases h : flowsF l with
          | false => rfl
          | true => exact absurd ((flowsF_iff l).1 h i hlt) hc2]
        conv => whnf
        refine ⟨?_, [], ?_⟩
        · (try conv => whnf)
          (repeat' (first | exact True.intro | exact fun _ h => h | refine inR64_of ?_ ?_ | apply And.intro | refine maxLen_ge ?_)) <;> (first | omega | (dsimp only; omega) | (dsimp only [List.length_cons, List.length_nil]; omega) | (intro hg; rw [hg]; rfl) | (intro hg hh; rw [hg, hh]; rfl) | (intro hg; simp [-List.getD_eq_getElem?_getD, -Int.default_eq_zero] at hg; first | omega | (refine inR64_of ?_ ?_ <;> omega) | (constructor <;> omega)) | (simp [-List.getD_eq_getElem?_getD, -Int.default_eq_zero]; done))
        conv => whnf
        refine ⟨rfl, ?_, trivial, trivial⟩
        all_goals repeat' (first | exact True.intro | refine leF_cons rfl ?_ ?_ | refine leS_cons rfl ?_ ?_ | (show PLe _ _ _ _; conv => whnf) | (show SLe _ _ _ _; conv => whnf) | (show PLeL _ _ _ _; conv => whnf) | apply And.intro | rfl | exact Nat.le_refl _ | exact fun _ _ => rfl | exact rowEq0 _ _)
      · simp only [bif_t, bif_f, decide_eq_true_eq, decide_eq_false_iff_not, Bool.not_eq_true', Bool.not_eq_false', Bool.and_eq_true, Bool.or_eq_true, Bool.and_eq_false_iff, Bool.or_eq_false_iff, beq_iff_eq, bne_iff_ne, beq_eq_false_iff_ne, bne_eq_false_iff_eq, reduceCtorEq, false_and, and_false, true_and, and_true, or_false, false_or, or_true, true_or, not_true_eq_false, not_false_eq_true, Int.toNat_zero] at hc2
        conv => whnf
        refine ⟨?_, i + 1, ⟨by omega, fun j hj2 => ?_⟩, ?_, rfl, rfl, ?_, ?_⟩
        · (try conv => whnf)
          (repeat' (first | exact True.intro | exact fun _ h => h | refine inR64_of ?_ ?_ | apply And.intro | refine maxLen_ge ?_)) <;> (first | omega | (dsimp only; omega) | (dsimp only [List.length_cons, List.length_nil]; omega) | (intro hg; rw [hg]; rfl) | (intro hg hh; rw [hg, hh]; rfl) | (intro hg; simp [-List.getD_eq_getElem?_getD, -Int.default_eq_zero] at hg; first | omega | (refine inR64_of ?_ ?_ <;> omega) | (constructor <;> omega)) | (simp [-List.getD_eq_getElem?_getD, -Int.default_eq_zero]; done))
        · by_cases e : j = i
          · rw [e]; exact hc2
          · exact hall j (by omega)
        · omega
        all_goals repeat' (first | exact True.intro | refine leF_cons rfl ?_ ?_ | refine leS_cons rfl ?_ ?_ | (show PLe _ _ _ _; conv => whnf) | (show SLe _ _ _ _; conv => whnf) | (show PLeL _ _ _ _; conv => whnf) | apply And.intro | rfl | exact Nat.le_refl _ | exact fun _ _ => rfl | exact rowEq0 _ _)
        all_goals omega
    · replace hc := of_decide_eq_false hc
      rw [(flowsF_iff l).2 fun j hj => hall j (by omega)]
      conv => whnf
      refine ⟨?_, [], ?_⟩
      · (try conv => whnf)
        (repeat' (first | exact True.intro | exact fun _ h => h | refine inR64_of ?_ ?_ | apply And.intro | refine maxLen_ge ?_)) <;> (first | omega | (dsimp only; omega) | (dsimp only [List.length_cons, List.length_nil]; omega) | (intro hg; rw [hg]; rfl) | (intro hg hh; rw [hg, hh]; rfl) | (intro hg; simp [-List.getD_eq_getElem?_getD, -Int.default_eq_zero] at hg; first | omega | (refine inR64_of ?_ ?_ <;> omega) | (constructor <;> omega)) | (simp [-List.getD_eq_getElem?_getD, -Int.default_eq_zero]; done))
      conv => whnf
      refine ⟨rfl, ?_, trivial, trivial⟩
      all_goals repeat' (first | exact True.intro | refine leF_cons rfl ?_ ?_ | refine leS_cons rfl ?_ ?_ | (show PLe _ _ _ _; conv => whnf) | (show SLe _ _ _ _; conv => whnf) | (show PLeL _ _ _ _; conv => whnf) | apply And.intro | rfl | exact Nat.le_refl _ | exact fun _ _ => rfl | exact rowEq0 _ _)

theorem next_a {g : List Bool} {i a : Nat} (h1 : i ≤ a) (ha : a ≤ g.length) (hall : ∀ j, i ≤ j → j < a → g.getD j default = false) : (a = g.length → nextG g i < 0) ∧ (a < g.length → g.getD a default = true → nextG g i = ((a - i : Nat) : Int)) := by
  refine ⟨fun e => ?_, fun hlt hg => ?_⟩
  · rcases Int.lt_or_le (nextG g i) 0 with h | h
    · exact h
    · obtain ⟨k, _, hk2, hk3, _⟩ := nextG_pos h
      rw [hall (i + k) (by omega) (by omega)] at hk3; cases hk3
  · rcases Int.lt_or_le (nextG g i) 0 with h | h
    · have := nextG_neg h a h1 hlt
      rw [hg] at this; cases this
    · obtain ⟨k, hk1, hk2, hk3, hk4⟩ := nextG_pos h
      rw [hk1]
      rcases Nat.lt_trichotomy (i + k) a with h2 | h2 | h2
      · rw [hall (i + k) (by omega) h2] at hk3; cases hk3
      · omega
      · have := hk4 a h1 h2
        rw [hg] at this; cases this
theorem take_push {l : List Int} {i : Nat} (h : i < l.length) : l.take i ++ [l.getD i default] = l.take (i + 1) := by
  rw [List.take_add_one, getD_some h]; rfl

set_option maxRecDepth 100000 in
set_option maxHeartbeats 8000000 in
theorem call20 (τ τ' : Nat) (v : List Int) (g : List Bool) (last : Int) (hl : v.length ≤ 1000000) : PureCall Try.prog 20 [.sl τ 1 v.length (fl eInt v), .sl τ' 1 g.length (fl eBool g), .int .i64 last] [] ⟨.tup [.sl 0 1 (fillF v g last).1.length (fl eInt (fillF v g last).1), .int .i64 (fillF v g last).2], [], []⟩ := by
  refine pure_call mix Try.func20 fits20 rfl ?_
  conv => whnf
  refine ⟨trivial, fun hc => ?_, fun hc => ?_⟩
  · simp only [bif_t, bif_f, decide_eq_true_eq, decide_eq_false_iff_not, Bool.not_eq_true', Bool.not_eq_false', Bool.and_eq_true, Bool.or_eq_true, Bool.and_eq_false_iff, Bool.or_eq_false_iff, beq_iff_eq, bne_iff_ne, beq_eq_false_iff_ne, bne_eq_false_iff_eq, reduceCtorEq, false_and, and_false, true_and, and_true, or_false, false_or, or_true, true_or, not_true_eq_false, not_false_eq_true, Int.toNat_zero] at hc
    rw [show fillF v g last = ([], 3) by unfold fillF; rw [if_pos (by omega)]]
    conv => whnf
    refine ⟨?_, [], ?_⟩
    · (try conv => whnf)
      (repeat' (first | exact True.intro | exact fun _ h => h | refine inR64_of ?_ ?_ | apply And.intro | refine maxLen_ge ?_)) <;> (first | omega | (dsimp only; omega) | (dsimp only [List.length_cons, List.length_nil]; omega) | (intro hg; rw [hg]; rfl) | (intro hg hh; rw [hg, hh]; rfl) | (intro hg; simp [-List.getD_eq_getElem?_getD, -Int.default_eq_zero] at hg; first | omega | (refine inR64_of ?_ ?_ <;> omega) | (constructor <;> omega)) | (simp [-List.getD_eq_getElem?_getD, -Int.default_eq_zero]; done))
    conv => whnf
    refine ⟨rfl, ?_, trivial, trivial⟩
    all_goals repeat' (first | exact True.intro | refine leF_cons rfl ?_ ?_ | refine leS_cons rfl ?_ ?_ | (show PLe _ _ _ _; conv => whnf) | (show SLe _ _ _ _; conv => whnf) | (show PLeL _ _ _ _; conv => whnf) | apply And.intro | rfl | exact Nat.le_refl _ | exact fun _ _ => rfl | exact rowEq0 _ _)
  simp only [bif_t, bif_f, decide_eq_true_eq, decide_eq_false_iff_not, Bool.not_eq_true', Bool.not_eq_false', Bool.and_eq_true, Bool.or_eq_true, Bool.and_eq_false_iff, Bool.or_eq_false_iff, beq_iff_eq, bne_iff_ne, beq_eq_false_iff_ne, bne_eq_false_iff_eq, reduceCtorEq, false_and, and_false, true_and, and_true, or_false, false_or, or_true, true_or, not_true_eq_false, not_false_eq_true, Int.toNat_zero] at hc
  have hlen : v.length = g.length := by omega
  have hfl1 : flowsF [last] = decide (0 ≤ last ∧ last ≤ 1073741824) := by
    have := flowsF_iff [last]
    by_cases h : 0 ≤ last ∧ last ≤ 1073741824
    · rw [decide_eq_true h, this]
      intro i hi
      have : i = 0 := by simpa using hi
      subst this; exact h
    · rw [decide_eq_false h]
      cases hf : flowsF [last] with
      | false => rfl
      | true => exact absurd (this.1 hf 0 (by simp)) h
  conv => whnf
  refine ⟨_, fun _ => call37 _ v (by omega), ?_⟩
  cases hfv : flowsF v with
  | false =>
    rw [show fillF v g last = ([], 1) by unfold fillF; rw [if_neg (by omega), if_pos hfv]]
    conv => whnf
    refine ⟨⟨.bool false, [], []⟩, fun h => absurd h (by decide), ?_⟩
    conv => whnf
    refine ⟨?_, fun _ => ?_, fun hc => absurd hc (by decide)⟩
    · (try conv => whnf)
      (repeat' (first | exact True.intro | exact fun _ h => h | refine inR64_of ?_ ?_ | apply And.intro | refine maxLen_ge ?_)) <;> (first | omega | (dsimp only; omega) | (dsimp only [List.length_cons, List.length_nil]; omega) | (intro hg; rw [hg]; rfl) | (intro hg hh; rw [hg, hh]; rfl) | (intro hg; simp [-List.getD_eq_getElem?_getD, -Int.default_eq_zero] at hg; first | omega | (refine inR64_of ?_ ?_ <;> omega) | (constructor <;> omega)) | (simp [-List.getD_eq_getElem?_getD, -Int.default_eq_zero]; done))
    conv => whnf
    refine ⟨?_, [], ?_⟩
    · (try conv => whnf)
      (repeat' (first | exact True.intro | exact fun _ h => h | refine inR64_of ?_ ?_ | apply And.intro | refine maxLen_ge ?_)) <;> (first | omega | (dsimp only; omega) | (dsimp only [List.length_cons, List.length_nil]; omega) | (intro hg; rw [hg]; rfl) | (intro hg hh; rw [hg, hh]; rfl) | (intro hg; simp [-List.getD_eq_getElem?_getD, -Int.default_eq_zero] at hg; first | omega | (refine inR64_of ?_ ?_ <;> omega) | (constructor <;> omega)) | (simp [-List.getD_eq_getElem?_getD, -Int.default_eq_zero]; done))
    conv => whnf
    refine ⟨rfl, ?_, trivial, trivial⟩
    all_goals repeat' (first | exact True.intro | refine leF_cons rfl ?_ ?_ | refine leS_cons rfl ?_ ?_ | (show PLe _ _ _ _; conv => whnf) | (show SLe _ _ _ _; conv => whnf) | (show PLeL _ _ _ _; conv => whnf) | apply And.intro | rfl | exact Nat.le_refl _ | exact fun _ _ => rfl | exact rowEq0 _ _)
  | true =>
  conv => whnf
  refine ⟨_, fun _ => call38 last 1073741824, ?_⟩
  rw [← hfl1]
  cases hfl : flowsF [last] with
  | false =>
    rw [show fillF v g last = ([], 1) by unfold fillF; rw [if_neg (by omega), if_neg (by rw [hfv]; decide), if_pos hfl]]
    conv => whnf
    refine ⟨?_, fun _ => ?_, fun hc => absurd hc (by decide)⟩
    · (try conv => whnf)
      (repeat' (first | exact True.intro | exact fun _ h => h | refine inR64_of ?_ ?_ | apply And.intro | refine maxLen_ge ?_)) <;> (first | omega | (dsimp only; omega) | (dsimp only [List.length_cons, List.length_nil]; omega) | (intro hg; rw [hg]; rfl) | (intro hg hh; rw [hg, hh]; rfl) | (intro hg; simp [-List.getD_eq_getElem?_getD, -Int.default_eq_zero] at hg; first | omega | (refine inR64_of ?_ ?_ <;> omega) | (constructor <;> omega)) | (simp [-List.getD_eq_getElem?_getD, -Int.default_eq_zero]; done))
    conv => whnf
    refine ⟨?_, [], ?_⟩
    · (try conv => whnf)
      (repeat' (first | exact True.intro | exact fun _ h => h | refine inR64_of ?_ ?_ | apply And.intro | refine maxLen_ge ?_)) <;> (first | omega | (dsimp only; omega) | (dsimp only [List.length_cons, List.length_nil]; omega) | (intro hg; rw [hg]; rfl) | (intro hg hh; rw [hg, hh]; rfl) | (intro hg; simp [-List.getD_eq_getElem?_getD, -Int.default_eq_zero] at hg; first | omega | (refine inR64_of ?_ ?_ <;> omega) | (constructor <;> omega)) | (simp [-List.getD_eq_getElem?_getD, -Int.default_eq_zero]; done))
    conv => whnf
    refine ⟨rfl, ?_, trivial, trivial⟩
    all_goals repeat' (first | exact True.intro | refine leF_cons rfl ?_ ?_ | refine leS_cons rfl ?_ ?_ | (show PLe _ _ _ _; conv => whnf) | (show SLe _ _ _ _; conv => whnf) | (show PLeL _ _ _ _; conv => whnf) | apply And.intro | rfl | exact Nat.le_refl _ | exact fun _ _ => rfl | exact rowEq0 _ _)
  | true =>
  rw [show fillF v g last = (fillL v g last v.length, 0) by unfold fillF; rw [if_neg (by omega), if_neg (by rw [hfv]; decide), if_neg (by rw [hfl]; decide)]]
  have hV := (flowsF_iff v).1 hfv
  have hFl := fillL_len v g last v.length
  have hFg := fun (i : Nat) (h : i < v.length) => fillL_get (v := v) (g := g) (last := last) (n := v.length) h
  generalize fillL v g last v.length = F at hFl hFg ⊢
  dsimp only
  conv => whnf
  refine ⟨?_, fun hc => absurd hc (by decide), fun _ => ?_⟩
  · (try conv => whnf)
    (repeat' (first | exact True.intro | exact fun _ h => h | refine inR64_of ?_ ?_ | apply And.intro | refine maxLen_ge ?_)) <;> (first | omega | (dsimp only; omega) | (dsimp only [List.length_cons, List.length_nil]; omega) | (intro hg; rw [hg]; rfl) | (intro hg hh; rw [hg, hh]; rfl) | (intro hg; simp [-List.getD_eq_getElem?_getD, -Int.default_eq_zero] at hg; first | omega | (refine inR64_of ?_ ?_ <;> omega) | (constructor <;> omega)) | (simp [-List.getD_eq_getElem?_getD, -Int.default_eq_zero]; done))
  conv => whnf
  refine ⟨trivial, ?_⟩
  refine LSem.adopt 8 1000000 3 1 1 rfl rfl ?_
  refine LSem.loop (n := 94) mix (α := Nat) (fun i => i ≤ v.length)
    (fun i => [(0, .sl τ 1 v.length (fl eInt v)), (1, .sl τ' 1 g.length (fl eBool g)), (2, .int .i64 last), (8, .os 1000000), (9, .int .i64 (prevG g i)), (26, .sl τ 1 v.length (fl eInt v)), (27, .int .i64 v.length), (28, .int .i64 i)])
    (fun i => [(1000000, .row 0 3 1 (F.take i).length (fl eInt (F.take i)))]) (fun i => v.length - i) 0 ?_ ?_ ?_
  · exact Nat.zero_le _
  · refine ⟨rfl, rfl, ?_, ?_⟩
    all_goals repeat' (first | exact True.intro | refine leF_cons rfl ?_ ?_ | refine leS_cons rfl ?_ ?_ | (show PLe _ _ _ _; conv => whnf) | (show SLe _ _ _ _; conv => whnf) | (show PLeL _ _ _ _; conv => whnf) | apply And.intro | rfl | exact Nat.le_refl _ | exact fun _ _ => rfl | exact rowEq0 _ _)
  · intro i hi
    have hj : ((i : Int)).toNat = i := by omega
    have hpl := prevG_lt g i
    have ht1 : (F.take i).length = i := by rw [List.length_take]; omega
    conv => whnf
    refine ⟨trivial, fun hc2 => ?_, fun hc2 => ?_⟩
    · replace hc2 := of_decide_eq_true hc2
      have hlt : i < v.length := by omega
      have ht2 : (F.take (i + 1)).length = i + 1 := by rw [List.length_take]; omega
      have hFi := hFg i hlt
      have q := fl_push eInt (F.take i) (F.getD i default)
      rw [take_push (by omega), hFi] at q
      have hvi := hV i hlt
      have hgp := prevG_good g i
      conv => whnf
      refine ⟨?_, ?_⟩
      · (try conv => whnf)
        (repeat' (first | exact True.intro | exact fun _ h => h | refine inR64_of ?_ ?_ | apply And.intro | refine maxLen_ge ?_)) <;> (first | omega | (dsimp only; omega) | (dsimp only [List.length_cons, List.length_nil]; omega) | (intro hg; rw [hg]; rfl) | (intro hg hh; rw [hg, hh]; rfl) | (intro hg; simp [-List.getD_eq_getElem?_getD, -Int.default_eq_zero] at hg; first | omega | (refine inR64_of ?_ ?_ <;> omega) | (constructor <;> omega)) | (simp [-List.getD_eq_getElem?_getD, -Int.default_eq_zero]; done))
      refine LSem.loop (n := 94) mix (α := Nat) (fun a => i ≤ a ∧ a ≤ v.length ∧ ∀ j, i ≤ j → j < a → g.getD j default = false)
        (fun a => [(0, .sl τ 1 v.length (fl eInt v)), (1, .sl τ' 1 g.length (fl eBool g)), (2, .int .i64 last), (8, .os 1000000), (9, .int .i64 (prevG g i)), (10, .int .i64 i), (11, .int .i64 (v.getD i default)), (12, .int .i64 a), (26, .sl τ 1 v.length (fl eInt v)), (27, .int .i64 v.length), (28, .int .i64 i)])
        (fun a => [(1000000, .row 0 3 1 (F.take i).length (fl eInt (F.take i)))]) (fun a => v.length - a) i ?_ ?_ ?_
      · exact ⟨Nat.le_refl _, hi, fun j h1 h2 => by omega⟩
      · refine ⟨rfl, rfl, ?_, ?_⟩
        all_goals repeat' (first | exact True.intro | refine leF_cons rfl ?_ ?_ | refine leS_cons rfl ?_ ?_ | (show PLe _ _ _ _; conv => whnf) | (show SLe _ _ _ _; conv => whnf) | (show PLeL _ _ _ _; conv => whnf) | apply And.intro | rfl | exact Nat.le_refl _ | exact fun _ _ => rfl | exact rowEq0 _ _)
        all_goals (try rw [hj])
      · intro a ha
        obtain ⟨ha1, ha2, hall⟩ := ha
        have hja : ((a : Int)).toNat = a := by omega
        conv => whnf
        refine ⟨?_, fun hc3 => ?_, fun hc3 => ?_⟩
        · (try conv => whnf)
          (repeat' (first | exact True.intro | exact fun _ h => h | refine inR64_of ?_ ?_ | apply And.intro | refine maxLen_ge ?_)) <;> (first | omega | (dsimp only; omega) | (dsimp only [List.length_cons, List.length_nil]; omega) | (intro hg; rw [hg]; rfl) | (intro hg hh; rw [hg, hh]; rfl) | (intro hg; simp [-List.getD_eq_getElem?_getD, -Int.default_eq_zero] at hg; first | omega | (refine inR64_of ?_ ?_ <;> omega) | (constructor <;> omega)) | (simp [-List.getD_eq_getElem?_getD, -Int.default_eq_zero]; done))
        · simp only [bif_t, bif_f, decide_eq_true_eq, decide_eq_false_iff_not, Bool.not_eq_true', Bool.not_eq_false', Bool.and_eq_true, Bool.or_eq_true, Bool.and_eq_false_iff, Bool.or_eq_false_iff, beq_iff_eq, bne_iff_ne, beq_eq_false_iff_ne, bne_eq_false_iff_eq, reduceCtorEq, false_and, and_false, true_and, and_true, or_false, false_or, or_true, true_or, not_true_eq_false, not_false_eq_true, Int.toNat_zero] at hc3
          obtain ⟨h1, h2⟩ := hc3
          rw [hja] at h2
          conv => whnf
          refine ⟨?_, a + 1, ⟨by omega, by omega, fun j hj1 hj2 => ?_⟩, ?_, rfl, rfl, ?_, ?_⟩
          · (try conv => whnf)
            (repeat' (first | exact True.intro | exact fun _ h => h | refine inR64_of ?_ ?_ | apply And.intro | refine maxLen_ge ?_)) <;> (first | omega | (dsimp only; omega) | (dsimp only [List.length_cons, List.length_nil]; omega) | (intro hg; rw [hg]; rfl) | (intro hg hh; rw [hg, hh]; rfl) | (intro hg; simp [-List.getD_eq_getElem?_getD, -Int.default_eq_zero] at hg; first | omega | (refine inR64_of ?_ ?_ <;> omega) | (constructor <;> omega)) | (simp [-List.getD_eq_getElem?_getD, -Int.default_eq_zero]; done))
          · by_cases e : j = a
            · rw [e]; exact h2
            · exact hall j hj1 (by omega)
          · omega
          all_goals repeat' (first | exact True.intro | refine leF_cons rfl ?_ ?_ | refine leS_cons rfl ?_ ?_ | (show PLe _ _ _ _; conv => whnf) | (show SLe _ _ _ _; conv => whnf) | (show PLeL _ _ _ _; conv => whnf) | apply And.intro | rfl | exact Nat.le_refl _ | exact fun _ _ => rfl | exact rowEq0 _ _)
          all_goals omega
        · simp only [bif_t, bif_f, decide_eq_true_eq, decide_eq_false_iff_not, Bool.not_eq_true', Bool.not_eq_false', Bool.and_eq_true, Bool.or_eq_true, Bool.and_eq_false_iff, Bool.or_eq_false_iff, beq_iff_eq, bne_iff_ne, beq_eq_false_iff_ne, bne_eq_false_iff_eq, reduceCtorEq, false_and, and_false, true_and, and_true, or_false, false_or, or_true, true_or, not_true_eq_false, not_false_eq_true, Int.toNat_zero] at hc3
          rw [hja] at hc3
          obtain ⟨hn1, hn2⟩ := next_a ha1 (by omega) hall
          conv => whnf
          refine ⟨?_, fun hg => ?_, fun hg => ?_⟩
          · (try conv => whnf)
            (repeat' (first | exact True.intro | exact fun _ h => h | refine inR64_of ?_ ?_ | apply And.intro | refine maxLen_ge ?_)) <;> (first | omega | (dsimp only; omega) | (dsimp only [List.length_cons, List.length_nil]; omega) | (intro hg; rw [hg]; rfl) | (intro hg hh; rw [hg, hh]; rfl) | (intro hg; simp [-List.getD_eq_getElem?_getD, -Int.default_eq_zero] at hg; first | omega | (refine inR64_of ?_ ?_ <;> omega) | (constructor <;> omega)) | (simp [-List.getD_eq_getElem?_getD, -Int.default_eq_zero]; done))
          · rw [hj] at hg
            have hp1 : prevG g (i + 1) = i := by rw [prevG, if_pos hg]
            rw [if_neg (by rw [hg]; simp)] at q
            conv => whnf
            refine ⟨?_, i + 1, (by omega : i + 1 ≤ v.length), ?_, rfl, rfl, ?_, ?_⟩
            · (try conv => whnf)
              (repeat' (first | exact True.intro | exact fun _ h => h | refine inR64_of ?_ ?_ | apply And.intro | refine maxLen_ge ?_)) <;> (first | omega | (dsimp only; omega) | (dsimp only [List.length_cons, List.length_nil]; omega) | (intro hg; rw [hg]; rfl) | (intro hg hh; rw [hg, hh]; rfl) | (intro hg; simp [-List.getD_eq_getElem?_getD, -Int.default_eq_zero] at hg; first | omega | (refine inR64_of ?_ ?_ <;> omega) | (constructor <;> omega)) | (simp [-List.getD_eq_getElem?_getD, -Int.default_eq_zero]; done))
            · omega
            all_goals repeat' (first | exact True.intro | refine leF_cons rfl ?_ ?_ | refine leS_cons rfl ?_ ?_ | (show PLe _ _ _ _; conv => whnf) | (show SLe _ _ _ _; conv => whnf) | (show PLeL _ _ _ _; conv => whnf) | apply And.intro | rfl | exact Nat.le_refl _ | exact fun _ _ => rfl | exact rowEq0 _ _)
            all_goals first | omega | exact q | (simp only [List.length_cons, List.length_nil]; omega) | skip
          · rw [hj] at hg
            have hp1 : prevG g (i + 1) = prevG g i := by rw [prevG, if_neg (by rw [hg]; decide)]
            rw [if_pos ⟨hlt, hg⟩] at q
            generalize hp : prevG g i = pv at hpl hp1 hgp ⊢
            conv => whnf
            refine ⟨?_, fun hc4 => ?_, fun hc4 => ?_⟩
            · (try conv => whnf)
              (repeat' (first | exact True.intro | exact fun _ h => h | refine inR64_of ?_ ?_ | apply And.intro | refine maxLen_ge ?_)) <;> (first | omega | (dsimp only; omega) | (dsimp only [List.length_cons, List.length_nil]; omega) | (intro hg; rw [hg]; rfl) | (intro hg hh; rw [hg, hh]; rfl) | (intro hg; simp [-List.getD_eq_getElem?_getD, -Int.default_eq_zero] at hg; first | omega | (refine inR64_of ?_ ?_ <;> omega) | (constructor <;> omega)) | (simp [-List.getD_eq_getElem?_getD, -Int.default_eq_zero]; done))
            · replace hc4 := of_decide_eq_true hc4
              rw [show fv v g last i = last by unfold fv; rw [hp, if_pos hc4]] at q
              conv => whnf
              refine ⟨?_, i + 1, (by omega : i + 1 ≤ v.length), ?_, rfl, rfl, ?_, ?_⟩
              · (try conv => whnf)
                (repeat' (first | exact True.intro | exact fun _ h => h | refine inR64_of ?_ ?_ | apply And.intro | refine maxLen_ge ?_)) <;> (first | omega | (dsimp only; omega) | (dsimp only [List.length_cons, List.length_nil]; omega) | (intro hg; rw [hg]; rfl) | (intro hg hh; rw [hg, hh]; rfl) | (intro hg; simp [-List.getD_eq_getElem?_getD, -Int.default_eq_zero] at hg; first | omega | (refine inR64_of ?_ ?_ <;> omega) | (constructor <;> omega)) | (simp [-List.getD_eq_getElem?_getD, -Int.default_eq_zero]; done))
              · omega
              all_goals repeat' (first | exact True.intro | refine leF_cons rfl ?_ ?_ | refine leS_cons rfl ?_ ?_ | (show PLe _ _ _ _; conv => whnf) | (show SLe _ _ _ _; conv => whnf) | (show PLeL _ _ _ _; conv => whnf) | apply And.intro | rfl | exact Nat.le_refl _ | exact fun _ _ => rfl | exact rowEq0 _ _)
              all_goals first | omega | exact q | (simp only [List.length_cons, List.length_nil]; omega) | skip
            replace hc4 := of_decide_eq_false hc4
            conv => whnf
            refine ⟨?_, fun hc5 => ?_, fun hc5 => ?_⟩
            · (try conv => whnf)
              (repeat' (first | exact True.intro | exact fun _ h => h | refine inR64_of ?_ ?_ | apply And.intro | refine maxLen_ge ?_)) <;> (first | omega | (dsimp only; omega) | (dsimp only [List.length_cons, List.length_nil]; omega) | (intro hg; rw [hg]; rfl) | (intro hg hh; rw [hg, hh]; rfl) | (intro hg; simp [-List.getD_eq_getElem?_getD, -Int.default_eq_zero] at hg; first | omega | (refine inR64_of ?_ ?_ <;> omega) | (constructor <;> omega)) | (simp [-List.getD_eq_getElem?_getD, -Int.default_eq_zero]; done))
            · simp only [bif_t, bif_f, decide_eq_true_eq, decide_eq_false_iff_not, Bool.not_eq_true', Bool.not_eq_false', Bool.and_eq_true, Bool.or_eq_true, Bool.and_eq_false_iff, Bool.or_eq_false_iff, beq_iff_eq, bne_iff_ne, beq_eq_false_iff_ne, bne_eq_false_iff_eq, reduceCtorEq, false_and, and_false, true_and, and_true, or_false, false_or, or_true, true_or, not_true_eq_false, not_false_eq_true, Int.toNat_zero] at hc5
              rw [show fv v g last i = v.getD pv.toNat default by unfold fv; rw [hp, if_neg hc4, if_pos (hn1 (by omega))]] at q
              conv => whnf
              refine ⟨?_, i + 1, (by omega : i + 1 ≤ v.length), ?_, rfl, rfl, ?_, ?_⟩
              · (try conv => whnf)
                (repeat' (first | exact True.intro | exact fun _ h => h | refine inR64_of ?_ ?_ | apply And.intro | refine maxLen_ge ?_)) <;> (first | omega | (dsimp only; omega) | (dsimp only [List.length_cons, List.length_nil]; omega) | (intro hg; rw [hg]; rfl) | (intro hg hh; rw [hg, hh]; rfl) | (intro hg; simp [-List.getD_eq_getElem?_getD, -Int.default_eq_zero] at hg; first | omega | (refine inR64_of ?_ ?_ <;> omega) | (constructor <;> omega)) | (simp [-List.getD_eq_getElem?_getD, -Int.default_eq_zero]; done))
              · omega
              all_goals repeat' (first | exact True.intro | refine leF_cons rfl ?_ ?_ | refine leS_cons rfl ?_ ?_ | (show PLe _ _ _ _; conv => whnf) | (show SLe _ _ _ _; conv => whnf) | (show PLeL _ _ _ _; conv => whnf) | apply And.intro | rfl | exact Nat.le_refl _ | exact fun _ _ => rfl | exact rowEq0 _ _)
              all_goals first | omega | exact q | (simp only [List.length_cons, List.length_nil]; omega) | skip
            · simp only [bif_t, bif_f, decide_eq_true_eq, decide_eq_false_iff_not, Bool.not_eq_true', Bool.not_eq_false', Bool.and_eq_true, Bool.or_eq_true, Bool.and_eq_false_iff, Bool.or_eq_false_iff, beq_iff_eq, bne_iff_ne, beq_eq_false_iff_ne, bne_eq_false_iff_eq, reduceCtorEq, false_and, and_false, true_and, and_true, or_false, false_or, or_true, true_or, not_true_eq_false, not_false_eq_true, Int.toNat_zero] at hc5
              have hal : a < v.length := by omega
              have hga : g.getD a default = true := by
                rcases hc3 with h | h
                · simpa using h.2
                · omega
              have hnx := hn2 (by omega) hga
              have hne : a ≠ i := fun e => by rw [e, hg] at hga; cases hga
              have v1 := hV a hal
              have v2 := hV pv.toNat (by omega)
              have hval : fv v g last i = v.getD pv.toNat default + ((v.getD a default - v.getD pv.toNat default) * ((i : Int) - pv)) / ((a : Int) - pv) := by
                unfold fv
                rw [hp, hnx, if_neg hc4, if_neg (by omega), show (i : Int) + ((a - i : Nat) : Int) = a by omega, hja]
              rw [hval] at q
              have hprod := mul_abs (a := v.getD a default - v.getD pv.toNat default) (b := (i : Int) - pv) (A := 1073741824) (B := 1000001) (by omega) (by omega) (by omega) (by omega)
              have hqab := ediv_abs (a := (v.getD a default - v.getD pv.toNat default) * ((i : Int) - pv)) (b := (a : Int) - pv) (by omega)
              conv => whnf
              refine ⟨_, fun _ => call39 ((v.getD ((a : Int)).toNat default - v.getD pv.toNat default) * ((i : Int) - pv)) ((a : Int) - pv) (by rw [hja]; omega) (by omega), ?_⟩
              conv => whnf
              refine ⟨rfl, ?_⟩
              conv => whnf
              refine ⟨?_, i + 1, (by omega : i + 1 ≤ v.length), ?_, rfl, rfl, ?_, ?_⟩
              · rw [hja]
                (try conv => whnf)
                (repeat' (first | exact True.intro | exact fun _ h => h | refine inR64_of ?_ ?_ | apply And.intro | refine maxLen_ge ?_)) <;> (first | omega | (dsimp only; omega) | (dsimp only [List.length_cons, List.length_nil]; omega) | (intro hg; rw [hg]; rfl) | (intro hg hh; rw [hg, hh]; rfl) | (intro hg; simp [-List.getD_eq_getElem?_getD, -Int.default_eq_zero] at hg; first | omega | (refine inR64_of ?_ ?_ <;> omega) | (constructor <;> omega)) | (simp [-List.getD_eq_getElem?_getD, -Int.default_eq_zero]; done))
              · omega
              all_goals repeat' (first | exact True.intro | refine leF_cons rfl ?_ ?_ | refine leS_cons rfl ?_ ?_ | (show PLe _ _ _ _; conv => whnf) | (show SLe _ _ _ _; conv => whnf) | (show PLeL _ _ _ _; conv => whnf) | apply And.intro | rfl | exact Nat.le_refl _ | exact fun _ _ => rfl | exact rowEq0 _ _)
              all_goals (try rw [hja])
              all_goals first | omega | exact q | (simp only [List.length_cons, List.length_nil]; omega) | skip
    · replace hc2 := of_decide_eq_false hc2
      have : i = v.length := by omega
      subst this
      rw [show F.take v.length = F from List.take_of_length_le (by omega)]
      conv => whnf
      refine ⟨?_, [], ?_⟩
      · (try conv => whnf)
        (repeat' (first | exact True.intro | exact fun _ h => h | refine inR64_of ?_ ?_ | apply And.intro | refine maxLen_ge ?_)) <;> (first | omega | (dsimp only; omega) | (dsimp only [List.length_cons, List.length_nil]; omega) | (intro hg; rw [hg]; rfl) | (intro hg hh; rw [hg, hh]; rfl) | (intro hg; simp [-List.getD_eq_getElem?_getD, -Int.default_eq_zero] at hg; first | omega | (refine inR64_of ?_ ?_ <;> omega) | (constructor <;> omega)) | (simp [-List.getD_eq_getElem?_getD, -Int.default_eq_zero]; done))
      conv => whnf
      refine ⟨rfl, ?_, trivial, trivial⟩
      all_goals repeat' (first | exact True.intro | refine leF_cons rfl ?_ ?_ | refine leS_cons rfl ?_ ?_ | (show PLe _ _ _ _; conv => whnf) | (show SLe _ _ _ _; conv => whnf) | (show PLeL _ _ _ _; conv => whnf) | apply And.intro | rfl | exact Nat.le_refl _ | exact fun _ _ => rfl | exact rowEq0 _ _)
end Pv
end Go.Proofs.Ytogoplhikmmggaa
