/- LAW 02, THE WALKS, 3: where values are reached. -/
import Derived.Test.YtedoglkonfckkaaC2
set_option linter.unusedSimpArgs false
set_option linter.unusedVariables false
namespace Go.Proofs.Ytedoglkonfckkaa
namespace Pv
def c13L1 : C := (.seq (.reg [⟨(some 30), 480, none, .bi false .lss (.t 29) (.t 28)⟩])
  (.seq (.cond (.t 30) .skip (.exit 0))
  (.seq (.block 1 (.seq (.reg [⟨(some 31), 496, none, .mv (.t 29)⟩,
    ⟨(some 32), 512, none, .ia 2 (.t 27) (.t 29)⟩,
    ⟨(some 33), 528, none, .ld 2 true (.t 32)⟩,
    ⟨(some 9), 144, none, .al [(.int .i64 0), (.int .i64 0)]⟩,
    ⟨(some 8), 128, none, .mv (.t 31)⟩,
    ⟨none, 0, none, .st 2 (.t 9) (.t 33)⟩])
  (.seq (.reg [⟨(some 34), 544, none, .mv (.t 0)⟩,
    ⟨(some 35), 560, none, .mv (.t 8)⟩,
    ⟨(some 36), 576, none, .ia 2 (.t 34) (.t 35)⟩,
    ⟨(some 37), 592, none, .ld 2 true (.t 36)⟩,
    ⟨(some 10), 160, none, .al [(.int .i64 0), (.int .i64 0)]⟩,
    ⟨none, 0, none, .st 2 (.t 10) (.t 37)⟩])
  (.seq (.reg [⟨(some 38), 608, none, .fa 1 (.t 9)⟩,
    ⟨(some 39), 624, none, .ld 1 false (.t 38)⟩,
    ⟨(some 40), 640, none, .mv (.t 1)⟩,
    ⟨(some 41), 656, none, .bi false .geq (.t 39) (.t 40)⟩])
  (.cond (.t 41) (.seq (.drw [⟨(some 42), 672, none, .fa 0 (.t 10)⟩,
    ⟨(some 43), 688, none, .ld 1 false (.t 42)⟩,
    ⟨(some 44), 704, none, .mv (.t 1)⟩,
    ⟨(some 45), 720, none, .fa 1 (.t 10)⟩,
    ⟨(some 46), 736, none, .ld 1 false (.t 45)⟩,
    ⟨(some 47), 752, none, .bi false .sub (.t 44) (.t 46)⟩,
    ⟨(some 48), 768, none, .fa 0 (.t 9)⟩,
    ⟨(some 49), 784, none, .ld 1 false (.t 48)⟩,
    ⟨(some 50), 800, none, .fa 0 (.t 10)⟩,
    ⟨(some 51), 816, none, .ld 1 false (.t 50)⟩,
    ⟨(some 52), 832, none, .bi false .sub (.t 49) (.t 51)⟩,
    ⟨(some 53), 848, none, .bi false .mul (.t 47) (.t 52)⟩,
    ⟨(some 54), 864, none, .fa 1 (.t 9)⟩,
    ⟨(some 55), 880, none, .ld 1 false (.t 54)⟩,
    ⟨(some 56), 896, none, .fa 1 (.t 10)⟩,
    ⟨(some 57), 912, none, .ld 1 false (.t 56)⟩,
    ⟨(some 58), 928, none, .bi false .sub (.t 55) (.t 57)⟩,
    ⟨(some 59), 944, none, .bi false .add (.t 53) (.t 58)⟩,
    ⟨(some 60), 960, none, .bi false .sub (.t 59) (.c (.int .i64 1))⟩,
    ⟨(some 61), 976, none, .fa 1 (.t 9)⟩,
    ⟨(some 62), 992, none, .ld 1 false (.t 61)⟩,
    ⟨(some 63), 1008, none, .fa 1 (.t 10)⟩,
    ⟨(some 64), 1024, none, .ld 1 false (.t 63)⟩,
    ⟨(some 65), 1040, none, .bi false .sub (.t 62) (.t 64)⟩,
    ⟨(some 66), 1056, none, .bi false .quo (.t 60) (.t 65)⟩,
    ⟨(some 67), 1072, none, .bi false .add (.t 43) (.t 66)⟩,
    ⟨(some 4), 64, none, .mv (.t 67)⟩,
    ⟨(some 5), 80, none, .mv (.c (.bool true))⟩,
    ⟨(some 6), 96, none, .mv (.c (.int .i64 0))⟩]
    [(0, 2, 42), (0, 3, 42), (0, 4, 42), (0, 5, 42), (0, 6, 42), (0, 7, 42), (0, 8, 42), (0, 9, 42), (0, 10, 42), (0, 11, 42), (0, 12, 42), (0, 13, 42), (0, 14, 42), (0, 15, 42), (0, 16, 42), (0, 17, 42), (0, 18, 42), (0, 19, 42), (0, 20, 42), (0, 21, 42), (0, 22, 42), (0, 23, 42), (0, 24, 42), (1, 2, 43), (1, 3, 43), (1, 4, 43), (1, 5, 43), (1, 6, 43), (1, 7, 43), (1, 8, 43), (1, 9, 43), (1, 10, 43), (1, 11, 43), (1, 12, 43), (1, 13, 43), (1, 14, 43), (1, 15, 43), (1, 16, 43), (1, 17, 43), (1, 18, 43), (1, 19, 43), (1, 20, 43), (1, 21, 43), (1, 22, 43), (1, 23, 43), (1, 24, 43), (2, 3, 44), (2, 4, 44), (2, 6, 44), (2, 7, 44), (2, 8, 44), (2, 9, 44), (2, 10, 44), (2, 12, 44), (2, 13, 44), (2, 14, 44), (2, 15, 44), (2, 16, 44), (2, 19, 44), (2, 20, 44), (2, 21, 44), (2, 22, 44), (2, 23, 44), (3, 6, 45), (3, 7, 45), (3, 8, 45), (3, 9, 45), (3, 10, 45), (3, 12, 45), (3, 13, 45), (3, 14, 45), (3, 15, 45), (3, 16, 45), (3, 19, 45), (3, 20, 45), (3, 21, 45), (3, 22, 45), (3, 23, 45), (4, 6, 46), (4, 7, 46), (4, 8, 46), (4, 9, 46), (4, 10, 46), (4, 12, 46), (4, 13, 46), (4, 14, 46), (4, 15, 46), (4, 16, 46), (4, 19, 46), (4, 20, 46), (4, 21, 46), (4, 22, 46), (4, 23, 46), (5, 6, 47), (5, 7, 47), (5, 8, 47), (5, 9, 47), (5, 10, 47), (5, 12, 47), (5, 13, 47), (5, 14, 47), (5, 15, 47), (5, 16, 47), (5, 19, 47), (5, 20, 47), (5, 21, 47), (5, 22, 47), (5, 23, 47), (6, 8, 48), (6, 9, 48), (6, 12, 48), (6, 13, 48), (6, 14, 48), (6, 15, 48), (6, 16, 48), (6, 19, 48), (6, 20, 48), (6, 21, 48), (6, 22, 48), (6, 23, 48), (7, 8, 49), (7, 9, 49), (7, 12, 49), (7, 13, 49), (7, 14, 49), (7, 15, 49), (7, 16, 49), (7, 19, 49), (7, 20, 49), (7, 21, 49), (7, 22, 49), (7, 23, 49), (8, 12, 50), (8, 13, 50), (8, 14, 50), (8, 15, 50), (8, 16, 50), (8, 19, 50), (8, 20, 50), (8, 21, 50), (8, 22, 50), (8, 23, 50), (9, 12, 51), (9, 13, 51), (9, 14, 51), (9, 15, 51), (9, 16, 51), (9, 19, 51), (9, 20, 51), (9, 21, 51), (9, 22, 51), (9, 23, 51), (10, 12, 52), (10, 13, 52), (10, 14, 52), (10, 15, 52), (10, 16, 52), (10, 19, 52), (10, 20, 52), (10, 21, 52), (10, 22, 52), (10, 23, 52), (11, 12, 53), (11, 13, 53), (11, 14, 53), (11, 15, 53), (11, 16, 53), (11, 19, 53), (11, 20, 53), (11, 21, 53), (11, 22, 53), (11, 23, 53), (12, 14, 54), (12, 15, 54), (12, 19, 54), (12, 20, 54), (12, 21, 54), (12, 22, 54), (12, 23, 54), (13, 14, 55), (13, 15, 55), (13, 19, 55), (13, 20, 55), (13, 21, 55), (13, 22, 55), (13, 23, 55), (14, 19, 56), (14, 20, 56), (14, 21, 56), (14, 22, 56), (14, 23, 56), (15, 19, 57), (15, 20, 57), (15, 21, 57), (15, 22, 57), (15, 23, 57), (16, 19, 58), (16, 20, 58), (16, 21, 58), (16, 22, 58), (16, 23, 58), (17, 19, 59), (17, 20, 59), (17, 21, 59), (17, 22, 59), (17, 23, 59), (18, 19, 60), (18, 20, 60), (18, 21, 60), (18, 22, 60), (18, 23, 60), (19, 21, 61), (19, 22, 61), (20, 21, 62), (20, 22, 62)])
  .ret) .skip)))))
  (.reg [⟨(some 68), 1088, none, .bi false .add (.t 29) (.c (.int .i64 1))⟩,
    ⟨(some 29), 464, none, .mv (.t 68)⟩]))))
def c13 : C := (.seq (.reg [⟨(some 4), 64, none, .mv (.c (.int .i64 0))⟩,
    ⟨(some 5), 80, none, .mv (.c (.bool false))⟩,
    ⟨(some 6), 96, none, .mv (.c (.int .i64 0))⟩])
  (.seq (.seq (.reg [⟨(some 11), 176, none, .mv (.t 0)⟩,
    ⟨(some 12), 192, none, .call (.c (.fn (.func 20) [] [])) [(.t 11)]⟩,
    ⟨(some 7), 112, none, .mv (.t 12)⟩])
  (.seq (.reg [⟨(some 13), 208, none, .mv (.t 7)⟩,
    ⟨(some 14), 224, none, .bi false .neq (.t 13) (.c (.int .i64 0))⟩])
  (.cond (.t 14) (.seq (.reg [⟨(some 15), 240, none, .mv (.t 7)⟩,
    ⟨(some 4), 64, none, .mv (.c (.int .i64 0))⟩,
    ⟨(some 5), 80, none, .mv (.c (.bool false))⟩,
    ⟨(some 6), 96, none, .mv (.t 15)⟩])
  .ret) .skip)))
  (.seq (.seq (.reg [⟨(some 16), 256, none, .mv (.t 0)⟩,
    ⟨(some 17), 272, none, .ia 2 (.t 16) (.c (.int .i64 0))⟩,
    ⟨(some 18), 288, none, .fa 1 (.t 17)⟩,
    ⟨(some 19), 304, none, .ld 1 false (.t 18)⟩,
    ⟨(some 20), 320, none, .mv (.t 1)⟩,
    ⟨(some 21), 336, none, .bi false .geq (.t 19) (.t 20)⟩])
  (.cond (.t 21) (.seq (.reg [⟨(some 22), 352, none, .mv (.t 0)⟩,
    ⟨(some 23), 368, none, .ia 2 (.t 22) (.c (.int .i64 0))⟩,
    ⟨(some 24), 384, none, .fa 0 (.t 23)⟩,
    ⟨(some 25), 400, none, .ld 1 false (.t 24)⟩,
    ⟨(some 4), 64, none, .mv (.t 25)⟩,
    ⟨(some 5), 80, none, .mv (.c (.bool true))⟩,
    ⟨(some 6), 96, none, .mv (.c (.int .i64 0))⟩])
  .ret) .skip))
  (.seq (.seq (.reg [⟨(some 26), 416, none, .mv (.t 0)⟩,
    ⟨(some 27), 432, none, .slc 2 (.t 26) (some (.c (.int .i64 1))) none⟩,
    ⟨(some 28), 448, none, .len (.t 27)⟩,
    ⟨(some 29), 464, none, .mv (.c (.int .i64 0))⟩])
  (.block 0 (.loop c13L1)))
  (.seq (.reg [⟨(some 4), 64, none, .mv (.c (.int .i64 0))⟩,
    ⟨(some 5), 80, none, .mv (.c (.bool false))⟩,
    ⟨(some 6), 96, none, .mv (.c (.int .i64 0))⟩])
  .ret)))))
theorem fits13 : fits Try.prog false Try.f13 2 69 [(4, none), (5, none), (6, none)] = some c13.er := by kernel_rfl
def c14L1 : C := (.seq (.reg [⟨(some 26), 416, none, .bi false .lss (.t 25) (.t 24)⟩])
  (.seq (.cond (.t 26) .skip (.exit 0))
  (.seq (.block 1 (.seq (.reg [⟨(some 27), 432, none, .mv (.t 25)⟩,
    ⟨(some 28), 448, none, .ia 2 (.t 23) (.t 25)⟩,
    ⟨(some 29), 464, none, .ld 2 true (.t 28)⟩,
    ⟨(some 9), 144, none, .al [(.int .i64 0), (.int .i64 0)]⟩,
    ⟨(some 8), 128, none, .mv (.t 27)⟩,
    ⟨none, 0, none, .st 2 (.t 9) (.t 29)⟩])
  (.seq (.reg [⟨(some 30), 480, none, .mv (.t 0)⟩,
    ⟨(some 31), 496, none, .mv (.t 8)⟩,
    ⟨(some 32), 512, none, .ia 2 (.t 30) (.t 31)⟩,
    ⟨(some 33), 528, none, .ld 2 true (.t 32)⟩,
    ⟨(some 10), 160, none, .al [(.int .i64 0), (.int .i64 0)]⟩,
    ⟨none, 0, none, .st 2 (.t 10) (.t 33)⟩])
  (.seq (.reg [⟨(some 34), 544, none, .fa 1 (.t 9)⟩,
    ⟨(some 35), 560, none, .ld 1 false (.t 34)⟩,
    ⟨(some 36), 576, none, .mv (.t 1)⟩,
    ⟨(some 37), 592, none, .bi false .gtr (.t 35) (.t 36)⟩])
  (.cond (.t 37) (.seq (.drw [⟨(some 38), 608, none, .fa 0 (.t 10)⟩,
    ⟨(some 39), 624, none, .ld 1 false (.t 38)⟩,
    ⟨(some 40), 640, none, .mv (.t 1)⟩,
    ⟨(some 41), 656, none, .fa 1 (.t 10)⟩,
    ⟨(some 42), 672, none, .ld 1 false (.t 41)⟩,
    ⟨(some 43), 688, none, .bi false .sub (.t 40) (.t 42)⟩,
    ⟨(some 44), 704, none, .bi false .add (.t 43) (.c (.int .i64 1))⟩,
    ⟨(some 45), 720, none, .fa 0 (.t 9)⟩,
    ⟨(some 46), 736, none, .ld 1 false (.t 45)⟩,
    ⟨(some 47), 752, none, .fa 0 (.t 10)⟩,
    ⟨(some 48), 768, none, .ld 1 false (.t 47)⟩,
    ⟨(some 49), 784, none, .bi false .sub (.t 46) (.t 48)⟩,
    ⟨(some 50), 800, none, .bi false .mul (.t 44) (.t 49)⟩,
    ⟨(some 51), 816, none, .bi false .sub (.t 50) (.c (.int .i64 1))⟩,
    ⟨(some 52), 832, none, .fa 1 (.t 9)⟩,
    ⟨(some 53), 848, none, .ld 1 false (.t 52)⟩,
    ⟨(some 54), 864, none, .fa 1 (.t 10)⟩,
    ⟨(some 55), 880, none, .ld 1 false (.t 54)⟩,
    ⟨(some 56), 896, none, .bi false .sub (.t 53) (.t 55)⟩,
    ⟨(some 57), 912, none, .bi false .quo (.t 51) (.t 56)⟩,
    ⟨(some 58), 928, none, .bi false .add (.t 39) (.t 57)⟩,
    ⟨(some 4), 64, none, .mv (.t 58)⟩,
    ⟨(some 5), 80, none, .mv (.c (.bool true))⟩,
    ⟨(some 6), 96, none, .mv (.c (.int .i64 0))⟩]
    [(0, 2, 38), (0, 3, 38), (0, 4, 38), (0, 5, 38), (0, 6, 38), (0, 7, 38), (0, 8, 38), (0, 9, 38), (0, 10, 38), (0, 11, 38), (0, 12, 38), (0, 13, 38), (0, 14, 38), (0, 15, 38), (0, 16, 38), (0, 17, 38), (0, 18, 38), (0, 19, 38), (1, 2, 39), (1, 3, 39), (1, 4, 39), (1, 5, 39), (1, 6, 39), (1, 7, 39), (1, 8, 39), (1, 9, 39), (1, 10, 39), (1, 11, 39), (1, 12, 39), (1, 13, 39), (1, 14, 39), (1, 15, 39), (1, 16, 39), (1, 17, 39), (1, 18, 39), (1, 19, 39), (2, 3, 40), (2, 4, 40), (2, 7, 40), (2, 8, 40), (2, 9, 40), (2, 10, 40), (2, 11, 40), (2, 14, 40), (2, 15, 40), (2, 16, 40), (2, 17, 40), (2, 18, 40), (3, 7, 41), (3, 8, 41), (3, 9, 41), (3, 10, 41), (3, 11, 41), (3, 14, 41), (3, 15, 41), (3, 16, 41), (3, 17, 41), (3, 18, 41), (4, 7, 42), (4, 8, 42), (4, 9, 42), (4, 10, 42), (4, 11, 42), (4, 14, 42), (4, 15, 42), (4, 16, 42), (4, 17, 42), (4, 18, 42), (5, 7, 43), (5, 8, 43), (5, 9, 43), (5, 10, 43), (5, 11, 43), (5, 14, 43), (5, 15, 43), (5, 16, 43), (5, 17, 43), (5, 18, 43), (6, 7, 44), (6, 8, 44), (6, 9, 44), (6, 10, 44), (6, 11, 44), (6, 14, 44), (6, 15, 44), (6, 16, 44), (6, 17, 44), (6, 18, 44), (7, 9, 45), (7, 10, 45), (7, 14, 45), (7, 15, 45), (7, 16, 45), (7, 17, 45), (7, 18, 45), (8, 9, 46), (8, 10, 46), (8, 14, 46), (8, 15, 46), (8, 16, 46), (8, 17, 46), (8, 18, 46), (9, 14, 47), (9, 15, 47), (9, 16, 47), (9, 17, 47), (9, 18, 47), (10, 14, 48), (10, 15, 48), (10, 16, 48), (10, 17, 48), (10, 18, 48), (11, 14, 49), (11, 15, 49), (11, 16, 49), (11, 17, 49), (11, 18, 49), (12, 14, 50), (12, 15, 50), (12, 16, 50), (12, 17, 50), (12, 18, 50), (13, 14, 51), (13, 15, 51), (13, 16, 51), (13, 17, 51), (13, 18, 51), (14, 16, 52), (14, 17, 52), (15, 16, 53), (15, 17, 53)])
  .ret) .skip)))))
  (.reg [⟨(some 59), 944, none, .bi false .add (.t 25) (.c (.int .i64 1))⟩,
    ⟨(some 25), 400, none, .mv (.t 59)⟩]))))
def c14 : C := (.seq (.reg [⟨(some 4), 64, none, .mv (.c (.int .i64 0))⟩,
    ⟨(some 5), 80, none, .mv (.c (.bool false))⟩,
    ⟨(some 6), 96, none, .mv (.c (.int .i64 0))⟩])
  (.seq (.seq (.reg [⟨(some 11), 176, none, .mv (.t 0)⟩,
    ⟨(some 12), 192, none, .call (.c (.fn (.func 20) [] [])) [(.t 11)]⟩,
    ⟨(some 7), 112, none, .mv (.t 12)⟩])
  (.seq (.reg [⟨(some 13), 208, none, .mv (.t 7)⟩,
    ⟨(some 14), 224, none, .bi false .neq (.t 13) (.c (.int .i64 0))⟩])
  (.cond (.t 14) (.seq (.reg [⟨(some 15), 240, none, .mv (.t 7)⟩,
    ⟨(some 4), 64, none, .mv (.c (.int .i64 0))⟩,
    ⟨(some 5), 80, none, .mv (.c (.bool false))⟩,
    ⟨(some 6), 96, none, .mv (.t 15)⟩])
  .ret) .skip)))
  (.seq (.seq (.reg [⟨(some 16), 256, none, .mv (.t 0)⟩,
    ⟨(some 17), 272, none, .ia 2 (.t 16) (.c (.int .i64 0))⟩,
    ⟨(some 18), 288, none, .fa 1 (.t 17)⟩,
    ⟨(some 19), 304, none, .ld 1 false (.t 18)⟩,
    ⟨(some 20), 320, none, .mv (.t 1)⟩,
    ⟨(some 21), 336, none, .bi false .gtr (.t 19) (.t 20)⟩])
  (.cond (.t 21) (.seq (.reg [⟨(some 4), 64, none, .mv (.c (.int .i64 0))⟩,
    ⟨(some 5), 80, none, .mv (.c (.bool false))⟩,
    ⟨(some 6), 96, none, .mv (.c (.int .i64 0))⟩])
  .ret) .skip))
  (.seq (.seq (.reg [⟨(some 22), 352, none, .mv (.t 0)⟩,
    ⟨(some 23), 368, none, .slc 2 (.t 22) (some (.c (.int .i64 1))) none⟩,
    ⟨(some 24), 384, none, .len (.t 23)⟩,
    ⟨(some 25), 400, none, .mv (.c (.int .i64 0))⟩])
  (.block 0 (.loop c14L1)))
  (.seq (.reg [⟨(some 60), 960, none, .mv (.t 0)⟩,
    ⟨(some 61), 976, none, .mv (.t 0)⟩,
    ⟨(some 62), 992, none, .len (.t 61)⟩,
    ⟨(some 63), 1008, none, .bi false .sub (.t 62) (.c (.int .i64 1))⟩,
    ⟨(some 64), 1024, none, .ia 2 (.t 60) (.t 63)⟩,
    ⟨(some 65), 1040, none, .fa 0 (.t 64)⟩,
    ⟨(some 66), 1056, none, .ld 1 false (.t 65)⟩,
    ⟨(some 4), 64, none, .mv (.t 66)⟩,
    ⟨(some 5), 80, none, .mv (.c (.bool true))⟩,
    ⟨(some 6), 96, none, .mv (.c (.int .i64 0))⟩])
  .ret)))))
theorem fits14 : fits Try.prog false Try.f14 2 67 [(4, none), (5, none), (6, none)] = some c14.er := by kernel_rfl

def upF (p q : Pt) (y : Int) : Int := q.x + ((y - q.y) * (p.x - q.x) + (p.y - q.y) - 1) / (p.y - q.y)
def firstA (c : List Pt) (y : Int) : Nat → Nat → Int × Bool
  | _, 0 => (0, false)
  | i, n + 1 => if y ≤ (c.getD (i + 1) default).y then (upF (c.getD (i + 1) default) (c.getD i default) y, true) else firstA c y (i + 1) n
def firstC (c : List Pt) (y : Int) : Int × Bool := if y ≤ (c.getD 0 default).y then ((c.getD 0 default).x, true) else firstA c y 0 (c.length - 1)
def firstR (c : List Pt) (y : Int) : Int × Bool × Int := if checkC c = 0 then ((firstC c y).1, (firstC c y).2, 0) else (0, false, checkC c)

set_option maxRecDepth 100000 in
set_option maxHeartbeats 4000000 in
theorem call13 (τ : Nat) (c : List Pt) (y : Int) : PureCall Try.prog 13 [.sl τ 2 c.length (fl ePt c), .int .i64 y] [] ⟨.tup [.int .i64 (firstR c y).1, .bool (firstR c y).2.1, .int .i64 (firstR c y).2.2], [], []⟩ := by
  refine pure_call mix Try.func13 fits13 rfl ?_
  conv => whnf
  refine ⟨_, fun _ => call20 _ c, ?_⟩
  conv => whnf
  refine ⟨?_, fun hc => ?_, fun hc => ?_⟩
  · (try conv => whnf)
    (repeat' (first | exact True.intro | exact fun _ h => h | refine inR64_of ?_ ?_ | apply And.intro | refine maxLen_ge ?_)) <;> (first | omega | (dsimp only; omega) | (dsimp only [List.length_cons, List.length_nil]; omega) | (intro hg; rw [hg]; rfl) | (intro hg hh; rw [hg, hh]; rfl) | (intro hg; simp [-List.getD_eq_getElem?_getD, -Int.default_eq_zero] at hg; first | omega | (refine inR64_of ?_ ?_ <;> omega) | (constructor <;> omega)) | (simp [-List.getD_eq_getElem?_getD, -Int.default_eq_zero]; done))
  · simp only [bif_t, bif_f, decide_eq_true_eq, decide_eq_false_iff_not, Bool.not_eq_true', Bool.not_eq_false', Bool.and_eq_true, Bool.or_eq_true, Bool.and_eq_false_iff, Bool.or_eq_false_iff, beq_iff_eq, bne_iff_ne, beq_eq_false_iff_ne, bne_eq_false_iff_eq, reduceCtorEq, false_and, and_false, true_and, and_true, or_false, false_or, or_true, true_or, not_true_eq_false, not_false_eq_true, Int.toNat_zero] at hc
    unfold firstR; rw [if_neg hc]
    conv => whnf
    refine ⟨?_, [], ?_⟩
    · (try conv => whnf)
      (repeat' (first | exact True.intro | exact fun _ h => h | refine inR64_of ?_ ?_ | apply And.intro | refine maxLen_ge ?_)) <;> (first | omega | (dsimp only; omega) | (dsimp only [List.length_cons, List.length_nil]; omega) | (intro hg; rw [hg]; rfl) | (intro hg hh; rw [hg, hh]; rfl) | (intro hg; simp [-List.getD_eq_getElem?_getD, -Int.default_eq_zero] at hg; first | omega | (refine inR64_of ?_ ?_ <;> omega) | (constructor <;> omega)) | (simp [-List.getD_eq_getElem?_getD, -Int.default_eq_zero]; done))
    conv => whnf
    refine ⟨rfl, ?_, trivial, trivial⟩
    all_goals repeat' (first | exact True.intro | refine leF_cons rfl ?_ ?_ | refine leS_cons rfl ?_ ?_ | (show PLe _ _ _ _; conv => whnf) | (show SLe _ _ _ _; conv => whnf) | (show PLeL _ _ _ _; conv => whnf) | apply And.intro | rfl | exact Nat.le_refl _ | exact fun _ _ => rfl | exact rowEq0 _ _)
  simp only [bif_t, bif_f, decide_eq_true_eq, decide_eq_false_iff_not, Bool.not_eq_true', Bool.not_eq_false', Bool.and_eq_true, Bool.or_eq_true, Bool.and_eq_false_iff, Bool.or_eq_false_iff, beq_iff_eq, bne_iff_ne, beq_eq_false_iff_ne, bne_eq_false_iff_eq, reduceCtorEq, false_and, and_false, true_and, and_true, or_false, false_or, or_true, true_or, not_true_eq_false, not_false_eq_true, Int.toNat_zero] at hc
  unfold firstR; rw [if_pos hc]
  have hg := (check_good c).1 hc
  have hne := hg.ne
  have hle := hg.le
  conv => whnf
  refine ⟨?_, fun hc => ?_, fun hc => ?_⟩
  · (try conv => whnf)
    (repeat' (first | exact True.intro | exact fun _ h => h | refine inR64_of ?_ ?_ | apply And.intro | refine maxLen_ge ?_)) <;> (first | omega | (dsimp only; omega) | (dsimp only [List.length_cons, List.length_nil]; omega) | (intro hg; rw [hg]; rfl) | (intro hg hh; rw [hg, hh]; rfl) | (intro hg; simp [-List.getD_eq_getElem?_getD, -Int.default_eq_zero] at hg; first | omega | (refine inR64_of ?_ ?_ <;> omega) | (constructor <;> omega)) | (simp [-List.getD_eq_getElem?_getD, -Int.default_eq_zero]; done))
  · replace hc : y ≤ (c.getD 0 default).y := of_decide_eq_true hc
    unfold firstC; rw [if_pos hc]
    conv => whnf
    refine ⟨?_, [], ?_⟩
    · (try conv => whnf)
      (repeat' (first | exact True.intro | exact fun _ h => h | refine inR64_of ?_ ?_ | apply And.intro | refine maxLen_ge ?_)) <;> (first | omega | (dsimp only; omega) | (dsimp only [List.length_cons, List.length_nil]; omega) | (intro hg; rw [hg]; rfl) | (intro hg hh; rw [hg, hh]; rfl) | (intro hg; simp [-List.getD_eq_getElem?_getD, -Int.default_eq_zero] at hg; first | omega | (refine inR64_of ?_ ?_ <;> omega) | (constructor <;> omega)) | (simp [-List.getD_eq_getElem?_getD, -Int.default_eq_zero]; done))
    conv => whnf
    refine ⟨rfl, ?_, trivial, trivial⟩
    all_goals repeat' (first | exact True.intro | refine leF_cons rfl ?_ ?_ | refine leS_cons rfl ?_ ?_ | (show PLe _ _ _ _; conv => whnf) | (show SLe _ _ _ _; conv => whnf) | (show PLeL _ _ _ _; conv => whnf) | apply And.intro | rfl | exact Nat.le_refl _ | exact fun _ _ => rfl | exact rowEq0 _ _)
  replace hc : ¬ y ≤ (c.getD 0 default).y := of_decide_eq_false hc
  unfold firstC; rw [if_neg hc]
  conv => whnf
  refine ⟨?_, ?_⟩
  · (try conv => whnf)
    (repeat' (first | exact True.intro | exact fun _ h => h | refine inR64_of ?_ ?_ | apply And.intro | refine maxLen_ge ?_)) <;> (first | omega | (dsimp only; omega) | (dsimp only [List.length_cons, List.length_nil]; omega) | (intro hg; rw [hg]; rfl) | (intro hg hh; rw [hg, hh]; rfl) | (intro hg; simp [-List.getD_eq_getElem?_getD, -Int.default_eq_zero] at hg; first | omega | (refine inR64_of ?_ ?_ <;> omega) | (constructor <;> omega)) | (simp [-List.getD_eq_getElem?_getD, -Int.default_eq_zero]; done))
  refine LSem.loop (n := 69) mix (α := Nat) (fun i => i ≤ c.length - 1 ∧ firstA c y i (c.length - 1 - i) = firstA c y 0 (c.length - 1) ∧ (c.getD i default).y < y)
    (fun i => [(0, .sl τ 2 c.length (fl ePt c)), (1, .int .i64 y), (27, .sl τ 2 (c.length - 1) (fun i => fl ePt c (1 + i))), (28, .int .i64 (c.length - 1 : Nat)), (29, .int .i64 i)])
    (fun _ => []) (fun i => c.length - i) 0 ?_ ?_ ?_
  · exact ⟨Nat.zero_le _, rfl, by omega⟩
  · refine ⟨rfl, rfl, ?_, ?_⟩
    all_goals repeat' (first | exact True.intro | refine leF_cons rfl ?_ ?_ | refine leS_cons rfl ?_ ?_ | (show PLe _ _ _ _; conv => whnf) | (show SLe _ _ _ _; conv => whnf) | (show PLeL _ _ _ _; conv => whnf) | apply And.intro | rfl | exact Nat.le_refl _ | exact fun _ _ => rfl | exact rowEq0 _ _)
  · intro i hi
    obtain ⟨hi, hs, hx⟩ := hi
    have hj : ((i : Int)).toNat = i := by omega
    have hj1 : 1 + i = i + 1 := by omega
    conv => whnf
    refine ⟨trivial, fun hc => ?_, fun hc => ?_⟩
    · replace hc := of_decide_eq_true hc
      have hlt : i + 1 < c.length := by omega
      have hst : firstA c y i (c.length - 1 - i) = if y ≤ (c.getD (i + 1) default).y then (upF (c.getD (i + 1) default) (c.getD i default) y, true) else firstA c y (i + 1) (c.length - 1 - (i + 1)) := by
        rw [show c.length - 1 - i = (c.length - 1 - (i + 1)) + 1 by omega]; rfl
      rw [hst] at hs
      have hr := hg.rng i (by omega)
      have hr1 := hg.rng (i + 1) hlt
      have hu := hg.up (i + 1) (by omega) hlt
      rw [Nat.add_sub_cancel] at hu
      conv => whnf
      refine ⟨?_, fun hc1 => ?_, fun hc1 => ?_⟩
      · (try conv => whnf)
        (repeat' (first | exact True.intro | exact fun _ h => h | refine inR64_of ?_ ?_ | apply And.intro | refine maxLen_ge ?_)) <;> (first | omega | (dsimp only; omega) | (dsimp only [List.length_cons, List.length_nil]; omega) | (intro hg; rw [hg]; rfl) | (intro hg hh; rw [hg, hh]; rfl) | (intro hg; simp [-List.getD_eq_getElem?_getD, -Int.default_eq_zero] at hg; first | omega | (refine inR64_of ?_ ?_ <;> omega) | (constructor <;> omega)) | (simp [-List.getD_eq_getElem?_getD, -Int.default_eq_zero]; done))
      · have hc1 := of_decide_eq_true hc1
        rw [hj, hj1] at hc1
        rw [if_pos hc1] at hs
        rw [← hs]
        have hp := prod_le (a := y - (c.getD i default).y) (b := (c.getD (i + 1) default).x - (c.getD i default).x) (by omega) (show y - (c.getD i default).y ≤ (c.getD (i + 1) default).y - (c.getD i default).y by omega) (by omega) (Int.le_refl _) hu.2.2
        have hp2 : (y - (c.getD i default).y) * ((c.getD (i + 1) default).x - (c.getD i default).x) ≤ ((c.getD (i + 1) default).y - (c.getD i default).y) * ((c.getD (i + 1) default).x - (c.getD i default).x) := Int.mul_le_mul_of_nonneg_right (by omega) (by omega)
        have hq : Int.tdiv ((y - (c.getD i default).y) * ((c.getD (i + 1) default).x - (c.getD i default).x) + ((c.getD (i + 1) default).y - (c.getD i default).y) - 1) ((c.getD (i + 1) default).y - (c.getD i default).y) = ((y - (c.getD i default).y) * ((c.getD (i + 1) default).x - (c.getD i default).x) + ((c.getD (i + 1) default).y - (c.getD i default).y) - 1) / ((c.getD (i + 1) default).y - (c.getD i default).y) := Int.tdiv_eq_ediv_of_nonneg (by omega)
        have hq2 : 0 ≤ ((y - (c.getD i default).y) * ((c.getD (i + 1) default).x - (c.getD i default).x) + ((c.getD (i + 1) default).y - (c.getD i default).y) - 1) / ((c.getD (i + 1) default).y - (c.getD i default).y) := Int.ediv_nonneg (by omega) (by omega)
        have hq3 : ((y - (c.getD i default).y) * ((c.getD (i + 1) default).x - (c.getD i default).x) + ((c.getD (i + 1) default).y - (c.getD i default).y) - 1) / ((c.getD (i + 1) default).y - (c.getD i default).y) ≤ (c.getD (i + 1) default).x - (c.getD i default).x + 1 := by
          refine Int.ediv_le_of_le_mul (by omega) ?_
          have e1 := Int.mul_comm ((c.getD (i + 1) default).x - (c.getD i default).x) ((c.getD (i + 1) default).y - (c.getD i default).y)
          have e2 : ((c.getD (i + 1) default).x - (c.getD i default).x + 1) * ((c.getD (i + 1) default).y - (c.getD i default).y) = ((c.getD (i + 1) default).x - (c.getD i default).x) * ((c.getD (i + 1) default).y - (c.getD i default).y) + ((c.getD (i + 1) default).y - (c.getD i default).y) := by rw [Int.add_mul, Int.one_mul]
          rw [e2, e1]
          omega
        conv => whnf
        refine ⟨rfl, ?_⟩
        conv => whnf
        refine ⟨?_, [], ?_⟩
        · rw [hj, hj1, hq]
          (try conv => whnf)
          (repeat' (first | exact True.intro | exact fun _ h => h | refine inR64_of ?_ ?_ | apply And.intro | refine maxLen_ge ?_)) <;> (first | omega | (dsimp only; omega) | (dsimp only [List.length_cons, List.length_nil]; omega) | (intro hg; rw [hg]; rfl) | (intro hg hh; rw [hg, hh]; rfl) | (intro hg; simp [-List.getD_eq_getElem?_getD, -Int.default_eq_zero] at hg; first | omega | (refine inR64_of ?_ ?_ <;> omega) | (constructor <;> omega)) | (simp [-List.getD_eq_getElem?_getD, -Int.default_eq_zero]; done))
        conv => whnf
        refine ⟨rfl, ?_, trivial, trivial⟩
        all_goals repeat' (first | exact True.intro | refine leF_cons rfl ?_ ?_ | refine leS_cons rfl ?_ ?_ | (show PLe _ _ _ _; conv => whnf) | (show SLe _ _ _ _; conv => whnf) | (show PLeL _ _ _ _; conv => whnf) | apply And.intro | rfl | exact Nat.le_refl _ | exact fun _ _ => rfl | exact rowEq0 _ _)
        rw [hj, hj1, hq]; rfl
      · have hc1 := of_decide_eq_false hc1
        rw [hj, hj1] at hc1
        rw [if_neg hc1] at hs
        conv => whnf
        refine ⟨?_, i + 1, ⟨by omega, hs, by omega⟩, ?_, rfl, rfl, ?_, ?_⟩
        · (try conv => whnf)
          (repeat' (first | exact True.intro | exact fun _ h => h | refine inR64_of ?_ ?_ | apply And.intro | refine maxLen_ge ?_)) <;> (first | omega | (dsimp only; omega) | (dsimp only [List.length_cons, List.length_nil]; omega) | (intro hg; rw [hg]; rfl) | (intro hg hh; rw [hg, hh]; rfl) | (intro hg; simp [-List.getD_eq_getElem?_getD, -Int.default_eq_zero] at hg; first | omega | (refine inR64_of ?_ ?_ <;> omega) | (constructor <;> omega)) | (simp [-List.getD_eq_getElem?_getD, -Int.default_eq_zero]; done))
        · omega
        all_goals repeat' (first | exact True.intro | refine leF_cons rfl ?_ ?_ | refine leS_cons rfl ?_ ?_ | (show PLe _ _ _ _; conv => whnf) | (show SLe _ _ _ _; conv => whnf) | (show PLeL _ _ _ _; conv => whnf) | apply And.intro | rfl | exact Nat.le_refl _ | exact fun _ _ => rfl | exact rowEq0 _ _)
        all_goals omega
    · replace hc := of_decide_eq_false hc
      rw [show c.length - 1 - i = 0 by omega] at hs
      rw [← hs]
      conv => whnf
      refine ⟨?_, [], ?_⟩
      · (try conv => whnf)
        (repeat' (first | exact True.intro | exact fun _ h => h | refine inR64_of ?_ ?_ | apply And.intro | refine maxLen_ge ?_)) <;> (first | omega | (dsimp only; omega) | (dsimp only [List.length_cons, List.length_nil]; omega) | (intro hg; rw [hg]; rfl) | (intro hg hh; rw [hg, hh]; rfl) | (intro hg; simp [-List.getD_eq_getElem?_getD, -Int.default_eq_zero] at hg; first | omega | (refine inR64_of ?_ ?_ <;> omega) | (constructor <;> omega)) | (simp [-List.getD_eq_getElem?_getD, -Int.default_eq_zero]; done))
      conv => whnf
      refine ⟨rfl, ?_, trivial, trivial⟩
      all_goals repeat' (first | exact True.intro | refine leF_cons rfl ?_ ?_ | refine leS_cons rfl ?_ ?_ | (show PLe _ _ _ _; conv => whnf) | (show SLe _ _ _ _; conv => whnf) | (show PLeL _ _ _ _; conv => whnf) | apply And.intro | rfl | exact Nat.le_refl _ | exact fun _ _ => rfl | exact rowEq0 _ _)
def downF (p q : Pt) (y : Int) : Int := q.x + ((y - q.y + 1) * (p.x - q.x) - 1) / (p.y - q.y)
def lastA (c : List Pt) (y : Int) : Nat → Nat → Int × Bool
  | _, 0 => ((c.getD (c.length - 1) default).x, true)
  | i, n + 1 => if y < (c.getD (i + 1) default).y then (downF (c.getD (i + 1) default) (c.getD i default) y, true) else lastA c y (i + 1) n
def lastC (c : List Pt) (y : Int) : Int × Bool := if y < (c.getD 0 default).y then (0, false) else lastA c y 0 (c.length - 1)
def lastR (c : List Pt) (y : Int) : Int × Bool × Int := if checkC c = 0 then ((lastC c y).1, (lastC c y).2, 0) else (0, false, checkC c)

set_option maxRecDepth 100000 in
set_option maxHeartbeats 4000000 in
theorem call14 (τ : Nat) (c : List Pt) (y : Int) : PureCall Try.prog 14 [.sl τ 2 c.length (fl ePt c), .int .i64 y] [] ⟨.tup [.int .i64 (lastR c y).1, .bool (lastR c y).2.1, .int .i64 (lastR c y).2.2], [], []⟩ := by
  refine pure_call mix Try.func14 fits14 rfl ?_
  conv => whnf
  refine ⟨_, fun _ => call20 _ c, ?_⟩
  conv => whnf
  refine ⟨?_, fun hc => ?_, fun hc => ?_⟩
  · (try conv => whnf)
    (repeat' (first | exact True.intro | exact fun _ h => h | refine inR64_of ?_ ?_ | apply And.intro | refine maxLen_ge ?_)) <;> (first | omega | (dsimp only; omega) | (dsimp only [List.length_cons, List.length_nil]; omega) | (intro hg; rw [hg]; rfl) | (intro hg hh; rw [hg, hh]; rfl) | (intro hg; simp [-List.getD_eq_getElem?_getD, -Int.default_eq_zero] at hg; first | omega | (refine inR64_of ?_ ?_ <;> omega) | (constructor <;> omega)) | (simp [-List.getD_eq_getElem?_getD, -Int.default_eq_zero]; done))
  · simp only [bif_t, bif_f, decide_eq_true_eq, decide_eq_false_iff_not, Bool.not_eq_true', Bool.not_eq_false', Bool.and_eq_true, Bool.or_eq_true, Bool.and_eq_false_iff, Bool.or_eq_false_iff, beq_iff_eq, bne_iff_ne, beq_eq_false_iff_ne, bne_eq_false_iff_eq, reduceCtorEq, false_and, and_false, true_and, and_true, or_false, false_or, or_true, true_or, not_true_eq_false, not_false_eq_true, Int.toNat_zero] at hc
    unfold lastR; rw [if_neg hc]
    conv => whnf
    refine ⟨?_, [], ?_⟩
    · (try conv => whnf)
      (repeat' (first | exact True.intro | exact fun _ h => h | refine inR64_of ?_ ?_ | apply And.intro | refine maxLen_ge ?_)) <;> (first | omega | (dsimp only; omega) | (dsimp only [List.length_cons, List.length_nil]; omega) | (intro hg; rw [hg]; rfl) | (intro hg hh; rw [hg, hh]; rfl) | (intro hg; simp [-List.getD_eq_getElem?_getD, -Int.default_eq_zero] at hg; first | omega | (refine inR64_of ?_ ?_ <;> omega) | (constructor <;> omega)) | (simp [-List.getD_eq_getElem?_getD, -Int.default_eq_zero]; done))
    conv => whnf
    refine ⟨rfl, ?_, trivial, trivial⟩
    all_goals repeat' (first | exact True.intro | refine leF_cons rfl ?_ ?_ | refine leS_cons rfl ?_ ?_ | (show PLe _ _ _ _; conv => whnf) | (show SLe _ _ _ _; conv => whnf) | (show PLeL _ _ _ _; conv => whnf) | apply And.intro | rfl | exact Nat.le_refl _ | exact fun _ _ => rfl | exact rowEq0 _ _)
  simp only [bif_t, bif_f, decide_eq_true_eq, decide_eq_false_iff_not, Bool.not_eq_true', Bool.not_eq_false', Bool.and_eq_true, Bool.or_eq_true, Bool.and_eq_false_iff, Bool.or_eq_false_iff, beq_iff_eq, bne_iff_ne, beq_eq_false_iff_ne, bne_eq_false_iff_eq, reduceCtorEq, false_and, and_false, true_and, and_true, or_false, false_or, or_true, true_or, not_true_eq_false, not_false_eq_true, Int.toNat_zero] at hc
  unfold lastR; rw [if_pos hc]
  have hg := (check_good c).1 hc
  have hne := hg.ne
  have hle := hg.le
  conv => whnf
  refine ⟨?_, fun hc => ?_, fun hc => ?_⟩
  · (try conv => whnf)
    (repeat' (first | exact True.intro | exact fun _ h => h | refine inR64_of ?_ ?_ | apply And.intro | refine maxLen_ge ?_)) <;> (first | omega | (dsimp only; omega) | (dsimp only [List.length_cons, List.length_nil]; omega) | (intro hg; rw [hg]; rfl) | (intro hg hh; rw [hg, hh]; rfl) | (intro hg; simp [-List.getD_eq_getElem?_getD, -Int.default_eq_zero] at hg; first | omega | (refine inR64_of ?_ ?_ <;> omega) | (constructor <;> omega)) | (simp [-List.getD_eq_getElem?_getD, -Int.default_eq_zero]; done))
  · replace hc : y < (c.getD 0 default).y := of_decide_eq_true hc
    unfold lastC; rw [if_pos hc]
    conv => whnf
    refine ⟨?_, [], ?_⟩
    · (try conv => whnf)
      (repeat' (first | exact True.intro | exact fun _ h => h | refine inR64_of ?_ ?_ | apply And.intro | refine maxLen_ge ?_)) <;> (first | omega | (dsimp only; omega) | (dsimp only [List.length_cons, List.length_nil]; omega) | (intro hg; rw [hg]; rfl) | (intro hg hh; rw [hg, hh]; rfl) | (intro hg; simp [-List.getD_eq_getElem?_getD, -Int.default_eq_zero] at hg; first | omega | (refine inR64_of ?_ ?_ <;> omega) | (constructor <;> omega)) | (simp [-List.getD_eq_getElem?_getD, -Int.default_eq_zero]; done))
    conv => whnf
    refine ⟨rfl, ?_, trivial, trivial⟩
    all_goals repeat' (first | exact True.intro | refine leF_cons rfl ?_ ?_ | refine leS_cons rfl ?_ ?_ | (show PLe _ _ _ _; conv => whnf) | (show SLe _ _ _ _; conv => whnf) | (show PLeL _ _ _ _; conv => whnf) | apply And.intro | rfl | exact Nat.le_refl _ | exact fun _ _ => rfl | exact rowEq0 _ _)
  replace hc : ¬ y < (c.getD 0 default).y := of_decide_eq_false hc
  unfold lastC; rw [if_neg hc]
  conv => whnf
  refine ⟨?_, ?_⟩
  · (try conv => whnf)
    (repeat' (first | exact True.intro | exact fun _ h => h | refine inR64_of ?_ ?_ | apply And.intro | refine maxLen_ge ?_)) <;> (first | omega | (dsimp only; omega) | (dsimp only [List.length_cons, List.length_nil]; omega) | (intro hg; rw [hg]; rfl) | (intro hg hh; rw [hg, hh]; rfl) | (intro hg; simp [-List.getD_eq_getElem?_getD, -Int.default_eq_zero] at hg; first | omega | (refine inR64_of ?_ ?_ <;> omega) | (constructor <;> omega)) | (simp [-List.getD_eq_getElem?_getD, -Int.default_eq_zero]; done))
  refine LSem.loop (n := 67) mix (α := Nat) (fun i => i ≤ c.length - 1 ∧ lastA c y i (c.length - 1 - i) = lastA c y 0 (c.length - 1) ∧ (c.getD i default).y ≤ y)
    (fun i => [(0, .sl τ 2 c.length (fl ePt c)), (1, .int .i64 y), (23, .sl τ 2 (c.length - 1) (fun i => fl ePt c (1 + i))), (24, .int .i64 (c.length - 1 : Nat)), (25, .int .i64 i)])
    (fun _ => []) (fun i => c.length - i) 0 ?_ ?_ ?_
  · exact ⟨Nat.zero_le _, rfl, by omega⟩
  · refine ⟨rfl, rfl, ?_, ?_⟩
    all_goals repeat' (first | exact True.intro | refine leF_cons rfl ?_ ?_ | refine leS_cons rfl ?_ ?_ | (show PLe _ _ _ _; conv => whnf) | (show SLe _ _ _ _; conv => whnf) | (show PLeL _ _ _ _; conv => whnf) | apply And.intro | rfl | exact Nat.le_refl _ | exact fun _ _ => rfl | exact rowEq0 _ _)
  · intro i hi
    obtain ⟨hi, hs, hx⟩ := hi
    have hj : ((i : Int)).toNat = i := by omega
    have hj1 : 1 + i = i + 1 := by omega
    conv => whnf
    refine ⟨trivial, fun hc => ?_, fun hc => ?_⟩
    · replace hc := of_decide_eq_true hc
      have hlt : i + 1 < c.length := by omega
      have hst : lastA c y i (c.length - 1 - i) = if y < (c.getD (i + 1) default).y then (downF (c.getD (i + 1) default) (c.getD i default) y, true) else lastA c y (i + 1) (c.length - 1 - (i + 1)) := by
        rw [show c.length - 1 - i = (c.length - 1 - (i + 1)) + 1 by omega]; rfl
      rw [hst] at hs
      have hr := hg.rng i (by omega)
      have hr1 := hg.rng (i + 1) hlt
      have hu := hg.up (i + 1) (by omega) hlt
      rw [Nat.add_sub_cancel] at hu
      conv => whnf
      refine ⟨?_, fun hc1 => ?_, fun hc1 => ?_⟩
      · (try conv => whnf)
        (repeat' (first | exact True.intro | exact fun _ h => h | refine inR64_of ?_ ?_ | apply And.intro | refine maxLen_ge ?_)) <;> (first | omega | (dsimp only; omega) | (dsimp only [List.length_cons, List.length_nil]; omega) | (intro hg; rw [hg]; rfl) | (intro hg hh; rw [hg, hh]; rfl) | (intro hg; simp [-List.getD_eq_getElem?_getD, -Int.default_eq_zero] at hg; first | omega | (refine inR64_of ?_ ?_ <;> omega) | (constructor <;> omega)) | (simp [-List.getD_eq_getElem?_getD, -Int.default_eq_zero]; done))
      · have hc1 := of_decide_eq_true hc1
        rw [hj, hj1] at hc1
        rw [if_pos hc1] at hs
        rw [← hs]
        have hp := prod_le (a := y - (c.getD i default).y + 1) (b := (c.getD (i + 1) default).x - (c.getD i default).x) (by omega) (show y - (c.getD i default).y + 1 ≤ (c.getD (i + 1) default).y - (c.getD i default).y by omega) (by omega) (Int.le_refl _) hu.2.2
        have hp2 : (y - (c.getD i default).y + 1) * ((c.getD (i + 1) default).x - (c.getD i default).x) ≤ ((c.getD (i + 1) default).y - (c.getD i default).y) * ((c.getD (i + 1) default).x - (c.getD i default).x) := Int.mul_le_mul_of_nonneg_right (by omega) (by omega)
        have hp3 : 1 ≤ (y - (c.getD i default).y + 1) * ((c.getD (i + 1) default).x - (c.getD i default).x) := Int.mul_pos (by omega) (by omega)
        have hq : Int.tdiv ((y - (c.getD i default).y + 1) * ((c.getD (i + 1) default).x - (c.getD i default).x) - 1) ((c.getD (i + 1) default).y - (c.getD i default).y) = ((y - (c.getD i default).y + 1) * ((c.getD (i + 1) default).x - (c.getD i default).x) - 1) / ((c.getD (i + 1) default).y - (c.getD i default).y) := Int.tdiv_eq_ediv_of_nonneg (by omega)
        have hq2 : 0 ≤ ((y - (c.getD i default).y + 1) * ((c.getD (i + 1) default).x - (c.getD i default).x) - 1) / ((c.getD (i + 1) default).y - (c.getD i default).y) := Int.ediv_nonneg (by omega) (by omega)
        have hq3 : ((y - (c.getD i default).y + 1) * ((c.getD (i + 1) default).x - (c.getD i default).x) - 1) / ((c.getD (i + 1) default).y - (c.getD i default).y) ≤ (c.getD (i + 1) default).x - (c.getD i default).x + 1 := by
          refine Int.ediv_le_of_le_mul (by omega) ?_
          have e1 := Int.mul_comm ((c.getD (i + 1) default).x - (c.getD i default).x) ((c.getD (i + 1) default).y - (c.getD i default).y)
          have e2 : ((c.getD (i + 1) default).x - (c.getD i default).x + 1) * ((c.getD (i + 1) default).y - (c.getD i default).y) = ((c.getD (i + 1) default).x - (c.getD i default).x) * ((c.getD (i + 1) default).y - (c.getD i default).y) + ((c.getD (i + 1) default).y - (c.getD i default).y) := by rw [Int.add_mul, Int.one_mul]
          rw [e2, e1]
          omega
        conv => whnf
        refine ⟨rfl, ?_⟩
        conv => whnf
        refine ⟨?_, [], ?_⟩
        · rw [hj, hj1, hq]
          (try conv => whnf)
          (repeat' (first | exact True.intro | exact fun _ h => h | refine inR64_of ?_ ?_ | apply And.intro | refine maxLen_ge ?_)) <;> (first | omega | (dsimp only; omega) | (dsimp only [List.length_cons, List.length_nil]; omega) | (intro hg; rw [hg]; rfl) | (intro hg hh; rw [hg, hh]; rfl) | (intro hg; simp [-List.getD_eq_getElem?_getD, -Int.default_eq_zero] at hg; first | omega | (refine inR64_of ?_ ?_ <;> omega) | (constructor <;> omega)) | (simp [-List.getD_eq_getElem?_getD, -Int.default_eq_zero]; done))
        conv => whnf
        refine ⟨rfl, ?_, trivial, trivial⟩
        all_goals repeat' (first | exact True.intro | refine leF_cons rfl ?_ ?_ | refine leS_cons rfl ?_ ?_ | (show PLe _ _ _ _; conv => whnf) | (show SLe _ _ _ _; conv => whnf) | (show PLeL _ _ _ _; conv => whnf) | apply And.intro | rfl | exact Nat.le_refl _ | exact fun _ _ => rfl | exact rowEq0 _ _)
        rw [hj, hj1, hq]; rfl
      · have hc1 := of_decide_eq_false hc1
        rw [hj, hj1] at hc1
        rw [if_neg hc1] at hs
        conv => whnf
        refine ⟨?_, i + 1, ⟨by omega, hs, by omega⟩, ?_, rfl, rfl, ?_, ?_⟩
        · (try conv => whnf)
          (repeat' (first | exact True.intro | exact fun _ h => h | refine inR64_of ?_ ?_ | apply And.intro | refine maxLen_ge ?_)) <;> (first | omega | (dsimp only; omega) | (dsimp only [List.length_cons, List.length_nil]; omega) | (intro hg; rw [hg]; rfl) | (intro hg hh; rw [hg, hh]; rfl) | (intro hg; simp [-List.getD_eq_getElem?_getD, -Int.default_eq_zero] at hg; first | omega | (refine inR64_of ?_ ?_ <;> omega) | (constructor <;> omega)) | (simp [-List.getD_eq_getElem?_getD, -Int.default_eq_zero]; done))
        · omega
        all_goals repeat' (first | exact True.intro | refine leF_cons rfl ?_ ?_ | refine leS_cons rfl ?_ ?_ | (show PLe _ _ _ _; conv => whnf) | (show SLe _ _ _ _; conv => whnf) | (show PLeL _ _ _ _; conv => whnf) | apply And.intro | rfl | exact Nat.le_refl _ | exact fun _ _ => rfl | exact rowEq0 _ _)
        all_goals omega
    · replace hc := of_decide_eq_false hc
      rw [show c.length - 1 - i = 0 by omega] at hs
      rw [← hs]
      conv => whnf
      refine ⟨?_, [], ?_⟩
      · (try conv => whnf)
        (repeat' (first | exact True.intro | exact fun _ h => h | refine inR64_of ?_ ?_ | apply And.intro | refine maxLen_ge ?_)) <;> (first | omega | (dsimp only; omega) | (dsimp only [List.length_cons, List.length_nil]; omega) | (intro hg; rw [hg]; rfl) | (intro hg hh; rw [hg, hh]; rfl) | (intro hg; simp [-List.getD_eq_getElem?_getD, -Int.default_eq_zero] at hg; first | omega | (refine inR64_of ?_ ?_ <;> omega) | (constructor <;> omega)) | (simp [-List.getD_eq_getElem?_getD, -Int.default_eq_zero]; done))
      conv => whnf
      refine ⟨rfl, ?_, trivial, trivial⟩
      all_goals repeat' (first | exact True.intro | refine leF_cons rfl ?_ ?_ | refine leS_cons rfl ?_ ?_ | (show PLe _ _ _ _; conv => whnf) | (show SLe _ _ _ _; conv => whnf) | (show PLeL _ _ _ _; conv => whnf) | apply And.intro | rfl | exact Nat.le_refl _ | exact fun _ _ => rfl | exact rowEq0 _ _)
      rw [show ((c.length : Int) - 1).toNat = c.length - 1 by omega]; rfl
end Pv
end Go.Proofs.Ytedoglkonfckkaa
