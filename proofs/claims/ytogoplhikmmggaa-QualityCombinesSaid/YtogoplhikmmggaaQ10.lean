/- LAW 08, THE WALKS: verdicts. -/
import Derived.Test.YtogoplhikmmggaaQ9
set_option linter.unusedSimpArgs false
set_option linter.unusedVariables false
namespace Go.Proofs.Ytogoplhikmmggaa
namespace Pv
def c72 : C := (.seq (.reg [⟨(some 4), 64, none, .mv (.c (.bool false))⟩])
  (.seq (.seq (.reg [⟨(some 6), 96, none, .mv (.t 0)⟩,
    ⟨(some 7), 112, none, .nc (.t 6)⟩,
    ⟨(some 8), 128, none, .fa 5 (.t 7)⟩,
    ⟨(some 9), 144, none, .ld 1 false (.t 8)⟩,
    ⟨(some 10), 160, none, .bi true .lss (.t 9) (.c (.int .i64 0))⟩])
  (.cond (.t 10) (.seq (.reg [⟨(some 4), 64, none, .mv (.c (.bool false))⟩])
  .ret) .skip))
  (.seq (.drw [⟨(some 11), 176, none, .mv (.t 0)⟩,
    ⟨(some 12), 192, none, .nc (.t 11)⟩,
    ⟨(some 13), 208, none, .fa 4 (.t 12)⟩,
    ⟨(some 14), 224, none, .ld 1 false (.t 13)⟩,
    ⟨(some 15), 240, none, .mv (.t 1)⟩,
    ⟨(some 16), 256, none, .ia 4 (.t 14) (.t 15)⟩,
    ⟨(some 17), 272, none, .fa 2 (.t 16)⟩,
    ⟨(some 18), 288, none, .ld 1 false (.t 17)⟩,
    ⟨(some 19), 304, none, .mv (.t 0)⟩,
    ⟨(some 20), 320, none, .nc (.t 19)⟩,
    ⟨(some 21), 336, none, .fa 4 (.t 20)⟩,
    ⟨(some 22), 352, none, .ld 1 false (.t 21)⟩,
    ⟨(some 23), 368, none, .mv (.t 0)⟩,
    ⟨(some 24), 384, none, .nc (.t 23)⟩,
    ⟨(some 25), 400, none, .fa 5 (.t 24)⟩,
    ⟨(some 26), 416, none, .ld 1 false (.t 25)⟩,
    ⟨(some 27), 432, none, .ia 4 (.t 22) (.t 26)⟩,
    ⟨(some 28), 448, none, .fa 2 (.t 27)⟩,
    ⟨(some 29), 464, none, .ld 1 false (.t 28)⟩,
    ⟨(some 30), 480, none, .bi true .sub (.t 18) (.t 29)⟩,
    ⟨(some 5), 80, none, .mv (.t 30)⟩]
    [(0, 4, 11), (0, 8, 11), (0, 9, 11), (0, 10, 11), (0, 11, 11), (0, 12, 11), (0, 13, 11), (0, 14, 11), (0, 15, 11), (0, 16, 11), (0, 17, 11), (0, 18, 11), (1, 4, 12), (1, 8, 12), (1, 9, 12), (1, 10, 12), (1, 11, 12), (1, 12, 12), (1, 13, 12), (1, 14, 12), (1, 15, 12), (1, 16, 12), (1, 17, 12), (1, 18, 12), (2, 4, 13), (2, 8, 13), (2, 9, 13), (2, 10, 13), (2, 11, 13), (2, 12, 13), (2, 13, 13), (2, 14, 13), (2, 15, 13), (2, 16, 13), (2, 17, 13), (2, 18, 13), (3, 4, 14), (3, 8, 14), (3, 9, 14), (3, 10, 14), (3, 11, 14), (3, 12, 14), (3, 13, 14), (3, 14, 14), (3, 15, 14), (3, 16, 14), (3, 17, 14), (3, 18, 14), (4, 8, 15), (4, 9, 15), (4, 10, 15), (4, 11, 15), (4, 12, 15), (4, 13, 15), (4, 14, 15), (4, 15, 15), (4, 16, 15), (4, 17, 15), (4, 18, 15), (5, 8, 16), (5, 9, 16), (5, 10, 16), (5, 11, 16), (5, 12, 16), (5, 13, 16), (5, 14, 16), (5, 15, 16), (5, 16, 16), (5, 17, 16), (5, 18, 16), (6, 8, 17), (6, 9, 17), (6, 10, 17), (6, 11, 17), (6, 12, 17), (6, 13, 17), (6, 14, 17), (6, 15, 17), (6, 16, 17), (6, 17, 17), (6, 18, 17), (7, 8, 18), (7, 9, 18), (7, 10, 18), (7, 11, 18), (7, 12, 18), (7, 13, 18), (7, 14, 18), (7, 15, 18), (7, 16, 18), (7, 17, 18), (7, 18, 18), (8, 12, 19), (8, 13, 19), (8, 14, 19), (8, 15, 19), (9, 12, 20), (9, 13, 20), (9, 14, 20), (9, 15, 20), (10, 12, 21), (10, 13, 21), (10, 14, 21), (10, 15, 21), (11, 12, 22), (11, 13, 22), (11, 14, 22), (11, 15, 22)])
  (.seq (.drw [⟨(some 31), 496, none, .mv (.t 5)⟩,
    ⟨(some 32), 512, none, .mv (.t 5)⟩,
    ⟨(some 33), 528, none, .un true .neg (.t 32)⟩,
    ⟨(some 34), 544, none, .mx [(.t 31), (.t 33)]⟩,
    ⟨(some 35), 560, none, .mv (.t 0)⟩,
    ⟨(some 36), 576, none, .nc (.t 35)⟩,
    ⟨(some 37), 592, none, .fa 0 (.t 36)⟩,
    ⟨(some 38), 608, none, .fa 2 (.t 37)⟩,
    ⟨(some 39), 624, none, .ld 1 false (.t 38)⟩,
    ⟨(some 40), 640, none, .mv (.t 1)⟩,
    ⟨(some 41), 656, none, .mv (.t 0)⟩,
    ⟨(some 42), 672, none, .nc (.t 41)⟩,
    ⟨(some 43), 688, none, .fa 5 (.t 42)⟩,
    ⟨(some 44), 704, none, .ld 1 false (.t 43)⟩,
    ⟨(some 45), 720, none, .bi true .sub (.t 40) (.t 44)⟩,
    ⟨(some 46), 736, none, .bi true .mul (.t 39) (.t 45)⟩,
    ⟨(some 47), 752, none, .bi true .gtr (.t 34) (.t 46)⟩,
    ⟨(some 4), 64, none, .mv (.t 47)⟩]
    [(0, 1, 31), (0, 2, 31), (0, 4, 31), (0, 5, 31), (0, 6, 31), (0, 7, 31), (0, 8, 31), (0, 9, 31), (0, 10, 31), (0, 11, 31), (0, 12, 31), (0, 13, 31), (0, 14, 31), (0, 15, 31), (1, 4, 32), (1, 5, 32), (1, 6, 32), (1, 7, 32), (1, 8, 32), (1, 9, 32), (1, 10, 32), (1, 11, 32), (1, 12, 32), (1, 13, 32), (1, 14, 32), (1, 15, 32), (2, 4, 33), (2, 5, 33), (2, 6, 33), (2, 7, 33), (2, 8, 33), (2, 9, 33), (2, 10, 33), (2, 11, 33), (2, 12, 33), (2, 13, 33), (2, 14, 33), (2, 15, 33), (3, 4, 34), (3, 5, 34), (3, 6, 34), (3, 7, 34), (3, 8, 34), (3, 9, 34), (3, 10, 34), (3, 11, 34), (3, 12, 34), (3, 13, 34), (3, 14, 34), (3, 15, 34), (4, 9, 35), (4, 10, 35), (4, 11, 35), (4, 12, 35), (4, 13, 35), (4, 14, 35), (5, 9, 36), (5, 10, 36), (5, 11, 36), (5, 12, 36), (5, 13, 36), (5, 14, 36), (6, 9, 37), (6, 10, 37), (6, 11, 37), (6, 12, 37), (6, 13, 37), (6, 14, 37), (7, 9, 38), (7, 10, 38), (7, 11, 38), (7, 12, 38), (7, 13, 38), (7, 14, 38), (8, 9, 39), (8, 10, 39), (8, 11, 39), (8, 12, 39), (8, 13, 39), (8, 14, 39), (9, 10, 40), (9, 11, 40), (9, 12, 40), (9, 13, 40)])
  .ret))))
theorem fits72 : fits Try.prog true Try.f72 2 48 [(4, none)] = some c72.er := by kernel_rfl
def c70 : C := (.seq (.reg [⟨(some 4), 64, none, .mv (.c (.bool false))⟩])
  (.seq (.reg [⟨(some 5), 80, none, .mv (.t 0)⟩,
    ⟨(some 6), 96, none, .nc (.t 5)⟩,
    ⟨(some 7), 112, none, .fa 4 (.t 6)⟩,
    ⟨(some 8), 128, none, .ld 1 false (.t 7)⟩,
    ⟨(some 9), 144, none, .mv (.t 1)⟩,
    ⟨(some 10), 160, none, .ia 4 (.t 8) (.t 9)⟩,
    ⟨(some 11), 176, none, .fa 3 (.t 10)⟩,
    ⟨(some 12), 192, none, .ld 1 false (.t 11)⟩,
    ⟨(some 13), 208, none, .bi false .eql (.t 12) (.c (.int .i64 2))⟩,
    ⟨(some 4), 64, none, .mv (.t 13)⟩])
  .ret))
theorem fits70 : fits Try.prog false Try.f70 2 14 [(4, none)] = some c70.er := by kernel_rfl
def c71 : C := (.seq (.reg [⟨(some 4), 64, none, .mv (.c (.bool false))⟩])
  (.seq (.drw [⟨(some 5), 80, none, .mv (.t 0)⟩,
    ⟨(some 6), 96, none, .nc (.t 5)⟩,
    ⟨(some 7), 112, none, .fa 4 (.t 6)⟩,
    ⟨(some 8), 128, none, .ld 1 false (.t 7)⟩,
    ⟨(some 9), 144, none, .mv (.t 1)⟩,
    ⟨(some 10), 160, none, .ia 4 (.t 8) (.t 9)⟩,
    ⟨(some 11), 176, none, .fa 2 (.t 10)⟩,
    ⟨(some 12), 192, none, .ld 1 false (.t 11)⟩,
    ⟨(some 13), 208, none, .mv (.t 0)⟩,
    ⟨(some 14), 224, none, .nc (.t 13)⟩,
    ⟨(some 15), 240, none, .fa 0 (.t 14)⟩,
    ⟨(some 16), 256, none, .fa 0 (.t 15)⟩,
    ⟨(some 17), 272, none, .ld 1 false (.t 16)⟩,
    ⟨(some 18), 288, none, .bi false .lss (.t 12) (.t 17)⟩,
    ⟨(some 19), 304, none, .mv (.t 18)⟩,
    ⟨(some 20), 320, (some (19, false)), .mv (.t 0)⟩,
    ⟨(some 21), 336, (some (19, false)), .nc (.t 20)⟩,
    ⟨(some 22), 352, (some (19, false)), .fa 4 (.t 21)⟩,
    ⟨(some 23), 368, (some (19, false)), .ld 1 false (.t 22)⟩,
    ⟨(some 24), 384, (some (19, false)), .mv (.t 1)⟩,
    ⟨(some 25), 400, (some (19, false)), .ia 4 (.t 23) (.t 24)⟩,
    ⟨(some 26), 416, (some (19, false)), .fa 2 (.t 25)⟩,
    ⟨(some 27), 432, (some (19, false)), .ld 1 false (.t 26)⟩,
    ⟨(some 28), 448, (some (19, false)), .mv (.t 0)⟩,
    ⟨(some 29), 464, (some (19, false)), .nc (.t 28)⟩,
    ⟨(some 30), 480, (some (19, false)), .fa 0 (.t 29)⟩,
    ⟨(some 31), 496, (some (19, false)), .fa 1 (.t 30)⟩,
    ⟨(some 32), 512, (some (19, false)), .ld 1 false (.t 31)⟩,
    ⟨(some 33), 528, (some (19, false)), .bi false .gtr (.t 27) (.t 32)⟩,
    ⟨(some 34), 544, none, .pick (.t 19) (.c (.bool true)) (.t 33)⟩,
    ⟨(some 4), 64, none, .mv (.t 34)⟩]
    [(0, 4, 5), (0, 8, 5), (0, 9, 5), (0, 10, 5), (0, 11, 5), (0, 12, 5), (1, 4, 6), (1, 8, 6), (1, 9, 6), (1, 10, 6), (1, 11, 6), (1, 12, 6), (2, 4, 7), (2, 8, 7), (2, 9, 7), (2, 10, 7), (2, 11, 7), (2, 12, 7), (3, 4, 8), (3, 8, 8), (3, 9, 8), (3, 10, 8), (3, 11, 8), (3, 12, 8), (4, 8, 9), (4, 9, 9), (4, 10, 9), (4, 11, 9), (4, 12, 9), (5, 8, 10), (5, 9, 10), (5, 10, 10), (5, 11, 10), (5, 12, 10), (6, 8, 11), (6, 9, 11), (6, 10, 11), (6, 11, 11), (6, 12, 11), (7, 8, 12), (7, 9, 12), (7, 10, 12), (7, 11, 12), (7, 12, 12), (15, 19, 20), (15, 23, 20), (15, 24, 20), (15, 25, 20), (15, 26, 20), (15, 27, 20), (16, 19, 21), (16, 23, 21), (16, 24, 21), (16, 25, 21), (16, 26, 21), (16, 27, 21), (17, 19, 22), (17, 23, 22), (17, 24, 22), (17, 25, 22), (17, 26, 22), (17, 27, 22), (18, 19, 23), (18, 23, 23), (18, 24, 23), (18, 25, 23), (18, 26, 23), (18, 27, 23), (19, 23, 24), (19, 24, 24), (19, 25, 24), (19, 26, 24), (19, 27, 24), (20, 23, 25), (20, 24, 25), (20, 25, 25), (20, 26, 25), (20, 27, 25), (21, 23, 26), (21, 24, 26), (21, 25, 26), (21, 26, 26), (21, 27, 26), (22, 23, 27), (22, 24, 27), (22, 25, 27), (22, 26, 27), (22, 27, 27)])
  .ret))
theorem fits71 : fits Try.prog false Try.f71 2 35 [(4, none)] = some c71.er := by kernel_rfl
def c73 : C := (.seq (.reg [⟨(some 2), 32, none, .bx 1 (.t 0)⟩,
    ⟨(some 3), 48, none, .bx 1 (.t 1)⟩,
    ⟨(some 4), 64, none, .mv (.c (.bool false))⟩])
  (.seq (.seq (.drw [⟨(some 5), 80, none, .ld 1 false (.t 2)⟩,
    ⟨(some 6), 96, none, .nc (.t 5)⟩,
    ⟨(some 7), 112, none, .fa 0 (.t 6)⟩,
    ⟨(some 8), 128, none, .fa 3 (.t 7)⟩,
    ⟨(some 9), 144, none, .ld 1 false (.t 8)⟩,
    ⟨(some 10), 160, none, .bi false .eql (.t 9) (.c (.int .i64 0))⟩,
    ⟨(some 11), 176, none, .mv (.t 10)⟩,
    ⟨(some 12), 192, (some (11, false)), .ld 1 false (.t 3)⟩,
    ⟨(some 13), 208, (some (11, false)), .bi false .add (.t 12) (.c (.int .i64 1))⟩,
    ⟨(some 14), 224, (some (11, false)), .ld 1 false (.t 2)⟩,
    ⟨(some 15), 240, (some (11, false)), .nc (.t 14)⟩,
    ⟨(some 16), 256, (some (11, false)), .fa 0 (.t 15)⟩,
    ⟨(some 17), 272, (some (11, false)), .fa 3 (.t 16)⟩,
    ⟨(some 18), 288, (some (11, false)), .ld 1 false (.t 17)⟩,
    ⟨(some 19), 304, (some (11, false)), .bi false .lss (.t 13) (.t 18)⟩,
    ⟨(some 20), 320, none, .pick (.t 11) (.c (.bool true)) (.t 19)⟩]
    [(7, 9, 12), (7, 10, 12), (7, 11, 12), (7, 12, 12), (7, 13, 12), (8, 9, 13), (8, 10, 13), (8, 11, 13), (8, 12, 13), (8, 13, 13)])
  (.cond (.t 20) (.seq (.reg [⟨(some 4), 64, none, .mv (.c (.bool false))⟩])
  .ret) .skip))
  (.seq (.drw [⟨(some 21), 336, none, .ld 1 false (.t 2)⟩,
    ⟨(some 22), 352, none, .nc (.t 21)⟩,
    ⟨(some 23), 368, none, .fa 4 (.t 22)⟩,
    ⟨(some 24), 384, none, .ld 1 false (.t 23)⟩,
    ⟨(some 25), 400, none, .ld 1 false (.t 3)⟩,
    ⟨(some 26), 416, none, .bi false .add (.t 25) (.c (.int .i64 1))⟩,
    ⟨(some 27), 432, none, .ld 1 false (.t 2)⟩,
    ⟨(some 28), 448, none, .nc (.t 27)⟩,
    ⟨(some 29), 464, none, .fa 0 (.t 28)⟩,
    ⟨(some 30), 480, none, .fa 3 (.t 29)⟩,
    ⟨(some 31), 496, none, .ld 1 false (.t 30)⟩,
    ⟨(some 32), 512, none, .bi false .sub (.t 26) (.t 31)⟩,
    ⟨(some 33), 528, none, .ld 1 false (.t 3)⟩,
    ⟨(some 34), 544, none, .bi false .add (.t 33) (.c (.int .i64 1))⟩,
    ⟨(some 35), 560, none, .slc 4 (.t 24) (some (.t 32)) (some (.t 34))⟩,
    ⟨(some 36), 576, none, .mf (.func 75) [] [(.t 2), (.t 3)]⟩,
    ⟨(some 37), 592, none, .call (.c (.fn (.func 74) [] [])) [(.t 35), (.t 36)]⟩,
    ⟨(some 38), 608, none, .un false .not (.t 37)⟩,
    ⟨(some 4), 64, none, .mv (.t 38)⟩]
    [(0, 4, 21), (0, 5, 21), (0, 6, 21), (0, 7, 21), (0, 8, 21), (0, 9, 21), (0, 10, 21), (0, 11, 21), (0, 12, 21), (0, 13, 21), (0, 15, 21), (1, 4, 22), (1, 5, 22), (1, 6, 22), (1, 7, 22), (1, 8, 22), (1, 9, 22), (1, 10, 22), (1, 11, 22), (1, 12, 22), (1, 13, 22), (1, 15, 22), (2, 4, 23), (2, 5, 23), (2, 6, 23), (2, 7, 23), (2, 8, 23), (2, 9, 23), (2, 10, 23), (2, 11, 23), (2, 12, 23), (2, 13, 23), (2, 15, 23), (3, 4, 24), (3, 5, 24), (3, 6, 24), (3, 7, 24), (3, 8, 24), (3, 9, 24), (3, 10, 24), (3, 11, 24), (3, 12, 24), (3, 13, 24), (3, 15, 24), (4, 6, 25), (4, 7, 25), (4, 8, 25), (4, 9, 25), (4, 10, 25), (4, 12, 25), (4, 13, 25), (4, 15, 25), (5, 6, 26), (5, 7, 26), (5, 8, 26), (5, 9, 26), (5, 10, 26), (5, 12, 26), (5, 13, 26), (5, 15, 26), (6, 12, 27), (6, 13, 27), (6, 15, 27), (7, 12, 28), (7, 13, 28), (7, 15, 28), (8, 12, 29), (8, 13, 29), (8, 15, 29), (9, 12, 30), (9, 13, 30), (9, 15, 30), (10, 12, 31), (10, 13, 31), (10, 15, 31), (11, 12, 32), (11, 13, 32), (11, 15, 32), (12, 15, 33), (13, 15, 34), (14, 15, 35)])
  .ret)))
theorem fits73 : fits Try.prog false Try.f73 2 39 [(4, none)] = some c73.er := by kernel_rfl
def c75 : C := (.seq (.reg [⟨(some 3), 48, none, .bx 4 (.t 0)⟩,
    ⟨(some 4), 64, none, .mv (.c (.bool false))⟩])
  (.seq (.drw [⟨(some 5), 80, none, .fa 3 (.t 3)⟩,
    ⟨(some 6), 96, none, .ld 1 false (.t 5)⟩,
    ⟨(some 7), 112, none, .bi false .eql (.t 6) (.c (.int .i64 2))⟩,
    ⟨(some 8), 128, none, .mv (.t 7)⟩,
    ⟨(some 9), 144, (some (8, false)), .fa 2 (.t 3)⟩,
    ⟨(some 10), 160, (some (8, false)), .ld 1 false (.t 9)⟩,
    ⟨(some 11), 176, (some (8, false)), .ld 1 false (.t 1)⟩,
    ⟨(some 12), 192, (some (8, false)), .nc (.t 11)⟩,
    ⟨(some 13), 208, (some (8, false)), .fa 4 (.t 12)⟩,
    ⟨(some 14), 224, (some (8, false)), .ld 1 false (.t 13)⟩,
    ⟨(some 15), 240, (some (8, false)), .ld 1 false (.t 2)⟩,
    ⟨(some 16), 256, (some (8, false)), .ia 4 (.t 14) (.t 15)⟩,
    ⟨(some 17), 272, (some (8, false)), .fa 2 (.t 16)⟩,
    ⟨(some 18), 288, (some (8, false)), .ld 1 false (.t 17)⟩,
    ⟨(some 19), 304, (some (8, false)), .bi false .neq (.t 10) (.t 18)⟩,
    ⟨(some 20), 320, none, .pick (.t 8) (.c (.bool true)) (.t 19)⟩,
    ⟨(some 4), 64, none, .mv (.t 20)⟩]
    [(4, 6, 9), (4, 7, 9), (4, 8, 9), (4, 9, 9), (4, 10, 9), (4, 11, 9), (4, 12, 9), (4, 13, 9), (5, 6, 10), (5, 7, 10), (5, 8, 10), (5, 9, 10), (5, 10, 10), (5, 11, 10), (5, 12, 10), (5, 13, 10), (6, 10, 11), (7, 10, 12), (8, 10, 13), (9, 10, 14)])
  .ret))
theorem fits75 : fits Try.prog false Try.f75 3 21 [(4, none)] = some c75.er := by kernel_rfl
def c82L1 : C := (.seq (.reg [⟨(some 9), 144, none, .bi false .lss (.t 8) (.t 7)⟩])
  (.seq (.cond (.t 9) .skip (.exit 0))
  (.seq (.block 1 (.seq (.reg [⟨(some 10), 160, none, .mv (.t 8)⟩,
    ⟨(some 5), 80, none, .mv (.t 10)⟩])
  (.seq (.reg [⟨(some 11), 176, none, .mv (.t 1)⟩,
    ⟨(some 12), 192, none, .mv (.t 0)⟩,
    ⟨(some 13), 208, none, .mv (.t 5)⟩,
    ⟨(some 14), 224, none, .ia 4 (.t 12) (.t 13)⟩,
    ⟨(some 15), 240, none, .ld 4 true (.t 14)⟩,
    ⟨(some 16), 256, none, .call (.t 11) [(.t 15)]⟩])
  (.cond (.t 16) (.seq (.reg [⟨(some 17), 272, none, .mv (.t 5)⟩,
    ⟨(some 4), 64, none, .mv (.t 17)⟩])
  .ret) .skip))))
  (.reg [⟨(some 18), 288, none, .bi false .add (.t 8) (.c (.int .i64 1))⟩,
    ⟨(some 8), 128, none, .mv (.t 18)⟩]))))
def c82 : C := (.seq (.reg [⟨(some 4), 64, none, .mv (.c (.int .i64 0))⟩])
  (.seq (.seq (.reg [⟨(some 6), 96, none, .mv (.t 0)⟩,
    ⟨(some 7), 112, none, .len (.t 6)⟩,
    ⟨(some 8), 128, none, .mv (.c (.int .i64 0))⟩])
  (.block 0 (.loop c82L1)))
  (.seq (.reg [⟨(some 4), 64, none, .mv (.c (.int .i64 (-1)))⟩])
  .ret)))
theorem fits82 : fits Try.prog false Try.f82 2 19 [(4, none)] = some c82.er := by kernel_rfl
def c74 : C := (.seq (.reg [⟨(some 4), 64, none, .mv (.c (.bool false))⟩])
  (.seq (.reg [⟨(some 5), 80, none, .mv (.t 0)⟩,
    ⟨(some 6), 96, none, .mv (.t 1)⟩,
    ⟨(some 7), 112, none, .call (.c (.fn (.func 82) [] [])) [(.t 5), (.t 6)]⟩,
    ⟨(some 8), 128, none, .bi false .geq (.t 7) (.c (.int .i64 0))⟩,
    ⟨(some 4), 64, none, .mv (.t 8)⟩])
  .ret))
theorem fits74 : fits Try.prog false Try.f74 2 9 [(4, none)] = some c74.er := by kernel_rfl
def c55 : C := (.seq (.reg [⟨(some 0), 0, none, .mv (.c (.nil 2))⟩])
  (.seq (.reg [⟨(some 1), 16, none, .bd [(.int .i64 0), (.raw .nilFunc)] [(0, 1, (.c (.int .i64 2))), (1, 1, (.c (.fn (.func 70) [] [])))]⟩,
    ⟨(some 2), 32, none, .bd [(.int .i64 0), (.raw .nilFunc)] [(0, 1, (.c (.int .i64 3))), (1, 1, (.c (.fn (.func 71) [] [])))]⟩,
    ⟨(some 3), 48, none, .bd [(.int .i64 0), (.raw .nilFunc)] [(0, 1, (.c (.int .i64 4))), (1, 1, (.c (.fn (.func 72) [] [])))]⟩,
    ⟨(some 4), 64, none, .bd [(.int .i64 0), (.raw .nilFunc)] [(0, 1, (.c (.int .i64 5))), (1, 1, (.c (.fn (.func 73) [] [])))]⟩,
    ⟨(some 5), 80, none, .bs 88 2 [(.t 1), (.t 2), (.t 3), (.t 4)]⟩,
    ⟨(some 0), 0, none, .mv (.t 5)⟩])
  .ret))
theorem fits55 : fits Try.prog false Try.f55 0 6 [(0, none)] = some c55.er := by kernel_rfl
def c41L1 : C := (.seq (.reg [⟨(some 10), 160, none, .bi false .lss (.t 9) (.t 8)⟩])
  (.seq (.cond (.t 10) .skip (.exit 0))
  (.seq (.block 1 (.seq (.reg [⟨(some 11), 176, none, .ia 2 (.t 7) (.t 9)⟩,
    ⟨(some 12), 192, none, .ld 2 true (.t 11)⟩,
    ⟨(some 6), 96, none, .al [(.int .i64 0), (.raw .nilFunc)]⟩,
    ⟨none, 0, none, .st 2 (.t 6) (.t 12)⟩])
  (.seq (.reg [⟨(some 13), 208, none, .fa 1 (.t 6)⟩,
    ⟨(some 14), 224, none, .ld 1 false (.t 13)⟩,
    ⟨(some 15), 240, none, .mv (.t 0)⟩,
    ⟨(some 16), 256, none, .mv (.t 1)⟩,
    ⟨(some 17), 272, none, .call (.t 14) [(.t 15), (.t 16)]⟩])
  (.cond (.t 17) (.seq (.reg [⟨(some 18), 288, none, .fa 0 (.t 6)⟩,
    ⟨(some 19), 304, none, .ld 1 false (.t 18)⟩,
    ⟨(some 4), 64, none, .mv (.t 19)⟩])
  .ret) .skip))))
  (.reg [⟨(some 20), 320, none, .bi false .add (.t 9) (.c (.int .i64 1))⟩,
    ⟨(some 9), 144, none, .mv (.t 20)⟩]))))
def c41 : C := (.seq (.reg [⟨(some 4), 64, none, .mv (.c (.int .i64 0))⟩])
  (.seq (.seq (.reg [⟨(some 7), 112, none, .call (.c (.fn (.func 55) [] [])) []⟩,
    ⟨(some 8), 128, none, .len (.t 7)⟩,
    ⟨(some 9), 144, none, .mv (.c (.int .i64 0))⟩])
  (.block 0 (.loop c41L1)))
  (.seq (.reg [⟨(some 21), 336, none, .mv (.t 0)⟩,
    ⟨(some 22), 352, none, .mv (.t 1)⟩,
    ⟨(some 23), 368, none, .nc (.t 21)⟩,
    ⟨(some 24), 384, none, .fa 5 (.t 23)⟩,
    ⟨none, 0, none, .st 1 (.t 24) (.t 22)⟩])
  (.seq (.reg [⟨(some 4), 64, none, .mv (.c (.int .i64 1))⟩])
  .ret))))
theorem fits41 : fits Try.prog false Try.f41 2 25 [(4, none)] = some c41.er := by kernel_rfl
def c25L1 : C := (.seq (.reg [⟨(some 28), 448, none, .bi false .lss (.t 27) (.t 26)⟩])
  (.seq (.cond (.t 28) .skip (.exit 0))
  (.seq (.block 1 (.seq (.reg [⟨(some 29), 464, none, .mv (.t 27)⟩,
    ⟨(some 10), 160, none, .mv (.t 29)⟩])
  (.reg [⟨(some 30), 480, none, .mv (.t 9)⟩,
    ⟨(some 31), 496, none, .mv (.t 8)⟩,
    ⟨(some 32), 512, none, .mv (.t 10)⟩,
    ⟨(some 33), 528, none, .call (.c (.fn (.func 41) [] [])) [(.t 31), (.t 32)]⟩,
    ⟨(some 34), 544, none, .bs 3 1 [(.t 33)]⟩,
    ⟨(some 35), 560, none, .app 3 1 8 (.t 30) (.t 34)⟩,
    ⟨(some 9), 144, none, .mv (.t 35)⟩])))
  (.reg [⟨(some 36), 576, none, .bi false .add (.t 27) (.c (.int .i64 1))⟩,
    ⟨(some 27), 432, none, .mv (.t 36)⟩]))))
def c25 : C := (.seq (.reg [⟨(some 2), 32, none, .bx 4 (.t 0)⟩,
    ⟨(some 4), 64, none, .mv (.c (.nil 1))⟩,
    ⟨(some 5), 80, none, .mv (.c (.int .i64 0))⟩])
  (.seq (.seq (.reg [⟨(some 11), 176, none, .ld 4 true (.t 2)⟩,
    ⟨(some 12), 192, none, .call (.c (.fn (.func 27) [] [])) [(.t 11)]⟩,
    ⟨(some 6), 96, none, .mv (.t 12)⟩])
  (.seq (.reg [⟨(some 13), 208, none, .mv (.t 6)⟩,
    ⟨(some 14), 224, none, .bi false .neq (.t 13) (.c (.int .i64 0))⟩])
  (.cond (.t 14) (.seq (.reg [⟨(some 15), 240, none, .mv (.t 6)⟩,
    ⟨(some 4), 64, none, .mv (.c (.nil 1))⟩,
    ⟨(some 5), 80, none, .mv (.t 15)⟩])
  .ret) .skip)))
  (.seq (.seq (.reg [⟨(some 16), 256, none, .mv (.t 1)⟩,
    ⟨(some 17), 272, none, .call (.c (.fn (.func 40) [] [])) [(.t 16)]⟩,
    ⟨(some 7), 112, none, .mv (.t 17)⟩])
  (.seq (.reg [⟨(some 18), 288, none, .mv (.t 7)⟩,
    ⟨(some 19), 304, none, .bi false .neq (.t 18) (.c (.int .i64 0))⟩])
  (.cond (.t 19) (.seq (.reg [⟨(some 20), 320, none, .mv (.t 7)⟩,
    ⟨(some 4), 64, none, .mv (.c (.nil 1))⟩,
    ⟨(some 5), 80, none, .mv (.t 20)⟩])
  .ret) .skip)))
  (.seq (.reg [⟨(some 21), 336, none, .ld 4 true (.t 2)⟩,
    ⟨(some 22), 352, none, .mv (.t 1)⟩,
    ⟨(some 23), 368, none, .bd [(.int .i64 0), (.int .i64 0), (.int .i64 0), (.int .i64 0), (.nil 4), (.int .i64 0)] [(0, 4, (.t 21)), (4, 1, (.t 22)), (5, 1, (.c (.int .i64 (-1))))]⟩,
    ⟨(some 24), 384, none, .bx 6 (.t 23)⟩,
    ⟨(some 8), 128, none, .mv (.t 24)⟩])
  (.seq (.reg [⟨(some 9), 144, none, .mv (.c (.nil 1))⟩])
  (.seq (.seq (.reg [⟨(some 25), 400, none, .mv (.t 1)⟩,
    ⟨(some 26), 416, none, .len (.t 25)⟩,
    ⟨(some 27), 432, none, .mv (.c (.int .i64 0))⟩])
  (.block 0 (.loop c25L1)))
  (.seq (.reg [⟨(some 37), 592, none, .mv (.t 9)⟩,
    ⟨(some 4), 64, none, .mv (.t 37)⟩,
    ⟨(some 5), 80, none, .mv (.c (.int .i64 0))⟩])
  .ret)))))))
theorem fits25 : fits Try.prog false Try.f25 2 38 [(4, none), (5, none)] = some c25.er := by kernel_rfl

/-- What is known of the readings of a gauge so far. -/
def wC (c : Ck) (l : List Rd) (last : Int) : List PV := eCk c ++ [.sl 2 4 l.length (fl eRd l), .int .i64 last]
def t1 (l : List Rd) (i : Nat) : Bool := decide ((l.getD i default).f = 2)
def t2 (c : Ck) (l : List Rd) (i : Nat) : Bool := decide ((l.getD i default).v < c.a ∨ c.b < (l.getD i default).v)
def jumpW (c : Ck) (i : Nat) (last : Int) : Int := IntKind.wrap .i64 (c.j * ((i : Int) - last))
def t3 (c : Ck) (l : List Rd) (last : Int) (i : Nat) : Bool := decide (0 ≤ last ∧ jumpW c i last < mx ((l.getD i default).v - (l.getD last.toNat default).v) (-((l.getD i default).v - (l.getD last.toNat default).v)))
def offP (l : List Rd) (i : Nat) (r : Rd) : Bool := decide (r.f = 2 ∨ r.v ≠ (l.getD i default).v)
def subL (l : List Rd) (c : Ck) (i : Nat) : List Rd := (l.drop ((i : Int) + 1 - c.s).toNat).take c.s.toNat
def t4 (c : Ck) (l : List Rd) (i : Nat) : Bool := bif decide (c.s = 0 ∨ (i : Int) + 1 < c.s) then false else !decide (0 ≤ ixG (offP l i) (subL l c i) 0 (subL l c i).length)
theorem wrap64 (n : Int) : IntKind.wrap .i64 n = (n + 9223372036854775808) % 18446744073709551616 - 9223372036854775808 := by
  simp [IntKind.wrap, IntKind.signed, IntKind.bits]
  omega
theorem wr_id {n : Int} (h : -9223372036854775808 ≤ n ∧ n ≤ 9223372036854775807) : IntKind.wrap .i64 n = n := by rw [wrap64]; omega
theorem bif_or (p q : Prop) [Decidable p] [Decidable q] : (bif decide p then true else decide q) = decide (p ∨ q) := by
  by_cases h : p <;> simp [h]
def verdF (c : Ck) (l : List Rd) (last : Int) (i : Nat) : Int := if t1 l i = true then 2 else if t2 c l i = true then 3 else if t3 c l last i = true then 4 else if t4 c l i = true then 5 else 1

theorem call70 (c : Ck) (l : List Rd) (last : Int) (i : Nat) (hi : i < l.length) : PureCall Try.prog 70 [.rp 2 (wC c l last), .int .i64 i] [] ⟨.bool (t1 l i), [], []⟩ := by
  have hj : ((i : Int)).toNat = i := by omega
  refine pure_call mix Try.func70 fits70 rfl ?_
  conv => whnf
  refine ⟨?_, [], ?_⟩
  · (try conv => whnf)
    (repeat' (first | exact True.intro | exact fun _ h => h | refine inR64_of ?_ ?_ | apply And.intro | refine maxLen_ge ?_)) <;> (first | omega | (dsimp only; omega) | (dsimp only [List.length_cons, List.length_nil]; omega) | (intro hg; rw [hg]; rfl) | (intro hg hh; rw [hg, hh]; rfl) | (intro hg; simp [-List.getD_eq_getElem?_getD, -Int.default_eq_zero] at hg; first | omega | (refine inR64_of ?_ ?_ <;> omega) | (constructor <;> omega)) | (simp [-List.getD_eq_getElem?_getD, -Int.default_eq_zero]; done))
  conv => whnf
  refine ⟨rfl, ?_, trivial, trivial⟩
  all_goals repeat' (first | exact True.intro | refine leF_cons rfl ?_ ?_ | refine leS_cons rfl ?_ ?_ | (show PLe _ _ _ _; conv => whnf) | (show SLe _ _ _ _; conv => whnf) | (show PLeL _ _ _ _; conv => whnf) | apply And.intro | rfl | exact Nat.le_refl _ | exact fun _ _ => rfl | exact rowEq0 _ _)
theorem call71 (c : Ck) (l : List Rd) (last : Int) (i : Nat) (hi : i < l.length) : PureCall Try.prog 71 [.rp 2 (wC c l last), .int .i64 i] [] ⟨.bool (t2 c l i), [], []⟩ := by
  have hj : ((i : Int)).toNat = i := by omega
  refine pure_call mix Try.func71 fits71 rfl ?_
  conv => whnf
  refine ⟨rfl, ?_⟩
  conv => whnf
  refine ⟨?_, [], ?_⟩
  · (try conv => whnf)
    (repeat' (first | exact True.intro | exact fun _ h => h | refine inR64_of ?_ ?_ | apply And.intro | refine maxLen_ge ?_)) <;> (first | omega | (dsimp only; omega) | (dsimp only [List.length_cons, List.length_nil]; omega) | (intro hg; rw [hg]; rfl) | (intro hg hh; rw [hg, hh]; rfl) | (intro hg; simp [-List.getD_eq_getElem?_getD, -Int.default_eq_zero] at hg; first | omega | (refine inR64_of ?_ ?_ <;> omega) | (constructor <;> omega)) | (simp [-List.getD_eq_getElem?_getD, -Int.default_eq_zero]; done))
  conv => whnf
  refine ⟨rfl, ?_, trivial, trivial⟩
  all_goals repeat' (first | exact True.intro | refine leF_cons rfl ?_ ?_ | refine leS_cons rfl ?_ ?_ | (show PLe _ _ _ _; conv => whnf) | (show SLe _ _ _ _; conv => whnf) | (show PLeL _ _ _ _; conv => whnf) | apply And.intro | rfl | exact Nat.le_refl _ | exact fun _ _ => rfl | exact rowEq0 _ _)
  rw [hj]; unfold t2; rw [← bif_or]
theorem call72 (c : Ck) (l : List Rd) (last : Int) (i : Nat) (hi : i < l.length) (hl : l.length ≤ 4611686018427387904) (h1 : -1 ≤ last ∧ last < i) (hv : ∀ k, k < l.length → 0 ≤ (l.getD k default).v ∧ (l.getD k default).v ≤ 1073741824) :
    PureCall Try.prog 72 [.rp 2 (wC c l last), .int .i64 i] [] ⟨.bool (t3 c l last i), [], []⟩ := by
  have hj : ((i : Int)).toNat = i := by omega
  refine pure_call mix Try.func72 fits72 rfl ?_
  conv => whnf
  refine ⟨?_, fun hc => ?_, fun hc => ?_⟩
  · (try conv => whnf)
    (repeat' (first | exact True.intro | exact fun _ h => h | refine inR64_of ?_ ?_ | apply And.intro | refine maxLen_ge ?_)) <;> (first | omega | (dsimp only; omega) | (dsimp only [List.length_cons, List.length_nil]; omega) | (intro hg; rw [hg]; rfl) | (intro hg hh; rw [hg, hh]; rfl) | (intro hg; simp [-List.getD_eq_getElem?_getD, -Int.default_eq_zero] at hg; first | omega | (refine inR64_of ?_ ?_ <;> omega) | (constructor <;> omega)) | (simp [-List.getD_eq_getElem?_getD, -Int.default_eq_zero]; done))
  · replace hc := of_decide_eq_true hc
    rw [show t3 c l last i = false from decide_eq_false (by omega)]
    conv => whnf
    refine ⟨?_, [], ?_⟩
    · (try conv => whnf)
      (repeat' (first | exact True.intro | exact fun _ h => h | refine inR64_of ?_ ?_ | apply And.intro | refine maxLen_ge ?_)) <;> (first | omega | (dsimp only; omega) | (dsimp only [List.length_cons, List.length_nil]; omega) | (intro hg; rw [hg]; rfl) | (intro hg hh; rw [hg, hh]; rfl) | (intro hg; simp [-List.getD_eq_getElem?_getD, -Int.default_eq_zero] at hg; first | omega | (refine inR64_of ?_ ?_ <;> omega) | (constructor <;> omega)) | (simp [-List.getD_eq_getElem?_getD, -Int.default_eq_zero]; done))
    conv => whnf
    refine ⟨rfl, ?_, trivial, trivial⟩
    all_goals repeat' (first | exact True.intro | refine leF_cons rfl ?_ ?_ | refine leS_cons rfl ?_ ?_ | (show PLe _ _ _ _; conv => whnf) | (show SLe _ _ _ _; conv => whnf) | (show PLeL _ _ _ _; conv => whnf) | apply And.intro | rfl | exact Nat.le_refl _ | exact fun _ _ => rfl | exact rowEq0 _ _)
  replace hc := of_decide_eq_false hc
  conv => whnf
  refine ⟨rfl, ?_⟩
  conv => whnf
  refine ⟨rfl, ?_⟩
  conv => whnf
  refine ⟨?_, [], ?_⟩
  · (try conv => whnf)
    (repeat' (first | exact True.intro | exact fun _ h => h | refine inR64_of ?_ ?_ | apply And.intro | refine maxLen_ge ?_)) <;> (first | omega | (dsimp only; omega) | (dsimp only [List.length_cons, List.length_nil]; omega) | (intro hg; rw [hg]; rfl) | (intro hg hh; rw [hg, hh]; rfl) | (intro hg; simp [-List.getD_eq_getElem?_getD, -Int.default_eq_zero] at hg; first | omega | (refine inR64_of ?_ ?_ <;> omega) | (constructor <;> omega)) | (simp [-List.getD_eq_getElem?_getD, -Int.default_eq_zero]; done))
  conv => whnf
  refine ⟨rfl, ?_, trivial, trivial⟩
  all_goals repeat' (first | exact True.intro | refine leF_cons rfl ?_ ?_ | refine leS_cons rfl ?_ ?_ | (show PLe _ _ _ _; conv => whnf) | (show SLe _ _ _ _; conv => whnf) | (show PLeL _ _ _ _; conv => whnf) | apply And.intro | rfl | exact Nat.le_refl _ | exact fun _ _ => rfl | exact rowEq0 _ _)
  rw [hj]
  have v1 := hv i hi
  have v2 := hv last.toNat (by omega)
  rw [wr_id (n := (i : Int) - last) (by omega), wr_id (n := (l.getD i default).v - (l.getD last.toNat default).v) (by omega), wr_id (n := 0 - ((l.getD i default).v - (l.getD last.toNat default).v)) (by omega), Int.zero_sub]
  unfold t3 jumpW mx
  simp only [show 0 ≤ last by omega, true_and]

set_option maxHeartbeats 4000000 in
theorem call75 (c : Ck) (l : List Rd) (last : Int) (i : Nat) (r : Rd) (hi : i < l.length) :
    PureCall Try.prog 75 [.agg (eRd r), .pt 0 0 0, .pt 1 0 0] [.box [.rp 2 (wC c l last)], .box [.int .i64 i]] ⟨.bool (offP l i r), [.box [.rp 2 (wC c l last)], .box [.int .i64 i]], []⟩ := by
  have hj : ((i : Int)).toNat = i := by omega
  refine pure_call mix Try.func75 fits75 rfl ?_
  conv => whnf
  refine ⟨rfl, ?_⟩
  conv => whnf
  refine ⟨?_, [], ?_⟩
  · (try conv => whnf)
    (repeat' (first | exact True.intro | exact fun _ h => h | refine inR64_of ?_ ?_ | apply And.intro | refine maxLen_ge ?_)) <;> (first | omega | (dsimp only; omega) | (dsimp only [List.length_cons, List.length_nil]; omega) | (intro hg; rw [hg]; rfl) | (intro hg hh; rw [hg, hh]; rfl) | (intro hg; simp [-List.getD_eq_getElem?_getD, -Int.default_eq_zero] at hg; first | omega | (refine inR64_of ?_ ?_ <;> omega) | (constructor <;> omega)) | (simp [-List.getD_eq_getElem?_getD, -Int.default_eq_zero]; done))
  conv => whnf
  refine ⟨rfl, ?_, ?_, ?_⟩
  all_goals repeat' (first | exact True.intro | refine leF_cons rfl ?_ ?_ | refine leS_cons rfl ?_ ?_ | (show PLe _ _ _ _; conv => whnf) | (show SLe _ _ _ _; conv => whnf) | (show PLeL _ _ _ _; conv => whnf) | apply And.intro | rfl | exact Nat.le_refl _ | exact fun _ _ => rfl | exact rowEq0 _ _)
  rw [hj]; unfold offP; rw [← bif_or]
  by_cases h : r.f = 2 <;> by_cases h2 : r.v = (l.getD i default).v <;> simp [h, h2, -List.getD_eq_getElem?_getD]

/-- The box that points at what is known, and the one with the place. -/
abbrev bxW (c : Ck) (l : List Rd) (last : Int) (i : Nat) : List SE := [.box [.rp 2 (wC c l last)], .box [.int .i64 i]]
set_option maxHeartbeats 4000000 in
theorem call82 (τ : Nat) (c : Ck) (l : List Rd) (last : Int) (i : Nat) (m : List Rd) (hi : i < l.length) (hm : m.length ≤ 4611686018427387904) :
    PureCall Try.prog 82 [.sl τ 4 m.length (fl eRd m), .fn (.func 75) [] [.pt 0 0 0, .pt 1 0 0]] (bxW c l last i) ⟨.int .i64 (ixG (offP l i) m 0 m.length), bxW c l last i, []⟩ := by
  refine pure_call mix Try.func82 fits82 rfl ?_
  conv => whnf
  refine ⟨trivial, ?_⟩
  refine LSem.loop (n := 19) mix (α := Nat) (fun k => k ≤ m.length ∧ ixG (offP l i) m k (m.length - k) = ixG (offP l i) m 0 m.length)
    (fun k => [(0, .sl τ 4 m.length (fl eRd m)), (1, .fn (.func 75) [] [.pt 0 0 0, .pt 1 0 0]), (7, .int .i64 m.length), (8, .int .i64 k)])
    (fun k => [(0, .box [.rp 2 (wC c l last)]), (1, .box [.int .i64 i])]) (fun k => m.length - k) 0 ?_ ?_ ?_
  · exact ⟨Nat.zero_le _, rfl⟩
  · refine ⟨rfl, rfl, ?_, ?_⟩
    all_goals repeat' (first | exact True.intro | refine leF_cons rfl ?_ ?_ | refine leS_cons rfl ?_ ?_ | (show PLe _ _ _ _; conv => whnf) | (show SLe _ _ _ _; conv => whnf) | (show PLeL _ _ _ _; conv => whnf) | apply And.intro | rfl | exact Nat.le_refl _ | exact fun _ _ => rfl | exact rowEq0 _ _)
  · intro k hk
    obtain ⟨hk, hs⟩ := hk
    have hj : ((k : Int)).toNat = k := by omega
    conv => whnf
    refine ⟨trivial, fun hc => ?_, fun hc => ?_⟩
    · replace hc := of_decide_eq_true hc
      have hlt : k < m.length := by omega
      have hst : ixG (offP l i) m k (m.length - k) = if offP l i (m.getD k default) = true then (k : Int) else ixG (offP l i) m (k + 1) (m.length - (k + 1)) := by
        rw [show m.length - k = (m.length - (k + 1)) + 1 by omega]; rfl
      rw [hst] at hs
      conv => whnf
      refine ⟨_, fun _ => call75 c l last i (m.getD ((k : Int)).toNat default) hi, ?_⟩
      conv => whnf
      refine ⟨?_, fun hc2 => ?_, fun hc2 => ?_⟩
      · (try conv => whnf)
        (repeat' (first | exact True.intro | exact fun _ h => h | refine inR64_of ?_ ?_ | apply And.intro | refine maxLen_ge ?_)) <;> (first | omega | (dsimp only; omega) | (dsimp only [List.length_cons, List.length_nil]; omega) | (intro hg; rw [hg]; rfl) | (intro hg hh; rw [hg, hh]; rfl) | (intro hg; simp [-List.getD_eq_getElem?_getD, -Int.default_eq_zero] at hg; first | omega | (refine inR64_of ?_ ?_ <;> omega) | (constructor <;> omega)) | (simp [-List.getD_eq_getElem?_getD, -Int.default_eq_zero]; done))
      · rw [hj] at hc2
        rw [if_pos hc2] at hs
        rw [← hs]
        conv => whnf
        refine ⟨?_, [], ?_⟩
        · (try conv => whnf)
          (repeat' (first | exact True.intro | exact fun _ h => h | refine inR64_of ?_ ?_ | apply And.intro | refine maxLen_ge ?_)) <;> (first | omega | (dsimp only; omega) | (dsimp only [List.length_cons, List.length_nil]; omega) | (intro hg; rw [hg]; rfl) | (intro hg hh; rw [hg, hh]; rfl) | (intro hg; simp [-List.getD_eq_getElem?_getD, -Int.default_eq_zero] at hg; first | omega | (refine inR64_of ?_ ?_ <;> omega) | (constructor <;> omega)) | (simp [-List.getD_eq_getElem?_getD, -Int.default_eq_zero]; done))
        conv => whnf
        refine ⟨rfl, ?_, ?_, ?_⟩
        all_goals repeat' (first | exact True.intro | refine leF_cons rfl ?_ ?_ | refine leS_cons rfl ?_ ?_ | (show PLe _ _ _ _; conv => whnf) | (show SLe _ _ _ _; conv => whnf) | (show PLeL _ _ _ _; conv => whnf) | apply And.intro | rfl | exact Nat.le_refl _ | exact fun _ _ => rfl | exact rowEq0 _ _)
      · rw [hj] at hc2
        rw [if_neg (by rw [hc2]; decide)] at hs
        conv => whnf
        refine ⟨?_, k + 1, ⟨by omega, hs⟩, ?_, rfl, rfl, ?_, ?_⟩
        · (try conv => whnf)
          (repeat' (first | exact True.intro | exact fun _ h => h | refine inR64_of ?_ ?_ | apply And.intro | refine maxLen_ge ?_)) <;> (first | omega | (dsimp only; omega) | (dsimp only [List.length_cons, List.length_nil]; omega) | (intro hg; rw [hg]; rfl) | (intro hg hh; rw [hg, hh]; rfl) | (intro hg; simp [-List.getD_eq_getElem?_getD, -Int.default_eq_zero] at hg; first | omega | (refine inR64_of ?_ ?_ <;> omega) | (constructor <;> omega)) | (simp [-List.getD_eq_getElem?_getD, -Int.default_eq_zero]; done))
        · omega
        all_goals repeat' (first | exact True.intro | refine leF_cons rfl ?_ ?_ | refine leS_cons rfl ?_ ?_ | (show PLe _ _ _ _; conv => whnf) | (show SLe _ _ _ _; conv => whnf) | (show PLeL _ _ _ _; conv => whnf) | apply And.intro | rfl | exact Nat.le_refl _ | exact fun _ _ => rfl | exact rowEq0 _ _)
        all_goals omega
    · replace hc := of_decide_eq_false hc
      rw [show m.length - k = 0 by omega] at hs
      rw [← hs]
      conv => whnf
      refine ⟨?_, [], ?_⟩
      · (try conv => whnf)
        (repeat' (first | exact True.intro | exact fun _ h => h | refine inR64_of ?_ ?_ | apply And.intro | refine maxLen_ge ?_)) <;> (first | omega | (dsimp only; omega) | (dsimp only [List.length_cons, List.length_nil]; omega) | (intro hg; rw [hg]; rfl) | (intro hg hh; rw [hg, hh]; rfl) | (intro hg; simp [-List.getD_eq_getElem?_getD, -Int.default_eq_zero] at hg; first | omega | (refine inR64_of ?_ ?_ <;> omega) | (constructor <;> omega)) | (simp [-List.getD_eq_getElem?_getD, -Int.default_eq_zero]; done))
      conv => whnf
      refine ⟨rfl, ?_, ?_, ?_⟩
      all_goals repeat' (first | exact True.intro | refine leF_cons rfl ?_ ?_ | refine leS_cons rfl ?_ ?_ | (show PLe _ _ _ _; conv => whnf) | (show SLe _ _ _ _; conv => whnf) | (show PLeL _ _ _ _; conv => whnf) | apply And.intro | rfl | exact Nat.le_refl _ | exact fun _ _ => rfl | exact rowEq0 _ _)
theorem call74 (τ : Nat) (c : Ck) (l : List Rd) (last : Int) (i : Nat) (m : List Rd) (hi : i < l.length) (hm : m.length ≤ 4611686018427387904) :
    PureCall Try.prog 74 [.sl τ 4 m.length (fl eRd m), .fn (.func 75) [] [.pt 0 0 0, .pt 1 0 0]] (bxW c l last i) ⟨.bool (decide (0 ≤ ixG (offP l i) m 0 m.length)), bxW c l last i, []⟩ := by
  refine pure_call mix Try.func74 fits74 rfl ?_
  conv => whnf
  refine ⟨_, fun _ => call82 _ c l last i m hi hm, ?_⟩
  conv => whnf
  refine ⟨?_, [], ?_⟩
  · (try conv => whnf)
    (repeat' (first | exact True.intro | exact fun _ h => h | refine inR64_of ?_ ?_ | apply And.intro | refine maxLen_ge ?_)) <;> (first | omega | (dsimp only; omega) | (dsimp only [List.length_cons, List.length_nil]; omega) | (intro hg; rw [hg]; rfl) | (intro hg hh; rw [hg, hh]; rfl) | (intro hg; simp [-List.getD_eq_getElem?_getD, -Int.default_eq_zero] at hg; first | omega | (refine inR64_of ?_ ?_ <;> omega) | (constructor <;> omega)) | (simp [-List.getD_eq_getElem?_getD, -Int.default_eq_zero]; done))
  conv => whnf
  refine ⟨rfl, ?_, ?_, ?_⟩
  all_goals repeat' (first | exact True.intro | refine leF_cons rfl ?_ ?_ | refine leS_cons rfl ?_ ?_ | (show PLe _ _ _ _; conv => whnf) | (show SLe _ _ _ _; conv => whnf) | (show PLeL _ _ _ _; conv => whnf) | apply And.intro | rfl | exact Nat.le_refl _ | exact fun _ _ => rfl | exact rowEq0 _ _)
set_option maxHeartbeats 4000000 in
theorem call73 (c : Ck) (l : List Rd) (last : Int) (i : Nat) (hi : i < l.length) (hl : l.length ≤ 4611686018427387904) (hc0 : ckOk c) :
    PureCall Try.prog 73 [.rp 2 (wC c l last), .int .i64 i] [] ⟨.bool (t4 c l i), [], []⟩ := by
  have hj : ((i : Int)).toNat = i := by omega
  unfold ckOk at hc0
  refine pure_call mix Try.func73 fits73 rfl ?_
  conv => whnf
  refine ⟨rfl, ?_⟩
  conv => whnf
  refine ⟨?_, fun hc => ?_, fun hc => ?_⟩
  · (try conv => whnf)
    (repeat' (first | exact True.intro | exact fun _ h => h | refine inR64_of ?_ ?_ | apply And.intro | refine maxLen_ge ?_)) <;> (first | omega | (dsimp only; omega) | (dsimp only [List.length_cons, List.length_nil]; omega) | (intro hg; rw [hg]; rfl) | (intro hg hh; rw [hg, hh]; rfl) | (intro hg; simp [-List.getD_eq_getElem?_getD, -Int.default_eq_zero] at hg; first | omega | (refine inR64_of ?_ ?_ <;> omega) | (constructor <;> omega)) | (simp [-List.getD_eq_getElem?_getD, -Int.default_eq_zero]; done))
  · simp only [bif_t, bif_f, decide_eq_true_eq, decide_eq_false_iff_not, Bool.not_eq_true', Bool.not_eq_false', Bool.and_eq_true, Bool.or_eq_true, Bool.and_eq_false_iff, Bool.or_eq_false_iff, beq_iff_eq, bne_iff_ne, beq_eq_false_iff_ne, bne_eq_false_iff_eq, reduceCtorEq, false_and, and_false, true_and, and_true, or_false, false_or, or_true, true_or, not_true_eq_false, not_false_eq_true, Int.toNat_zero] at hc
    rw [show t4 c l i = false by unfold t4; rw [decide_eq_true (by omega)]; rfl]
    conv => whnf
    refine ⟨?_, [], ?_⟩
    · (try conv => whnf)
      (repeat' (first | exact True.intro | exact fun _ h => h | refine inR64_of ?_ ?_ | apply And.intro | refine maxLen_ge ?_)) <;> (first | omega | (dsimp only; omega) | (dsimp only [List.length_cons, List.length_nil]; omega) | (intro hg; rw [hg]; rfl) | (intro hg hh; rw [hg, hh]; rfl) | (intro hg; simp [-List.getD_eq_getElem?_getD, -Int.default_eq_zero] at hg; first | omega | (refine inR64_of ?_ ?_ <;> omega) | (constructor <;> omega)) | (simp [-List.getD_eq_getElem?_getD, -Int.default_eq_zero]; done))
    conv => whnf
    refine ⟨rfl, ?_, trivial, trivial⟩
    all_goals repeat' (first | exact True.intro | refine leF_cons rfl ?_ ?_ | refine leS_cons rfl ?_ ?_ | (show PLe _ _ _ _; conv => whnf) | (show SLe _ _ _ _; conv => whnf) | (show PLeL _ _ _ _; conv => whnf) | apply And.intro | rfl | exact Nat.le_refl _ | exact fun _ _ => rfl | exact rowEq0 _ _)
  simp only [bif_t, bif_f, decide_eq_true_eq, decide_eq_false_iff_not, Bool.not_eq_true', Bool.not_eq_false', Bool.and_eq_true, Bool.or_eq_true, Bool.and_eq_false_iff, Bool.or_eq_false_iff, beq_iff_eq, bne_iff_ne, beq_eq_false_iff_ne, bne_eq_false_iff_eq, reduceCtorEq, false_and, and_false, true_and, and_true, or_false, false_or, or_true, true_or, not_true_eq_false, not_false_eq_true, Int.toNat_zero] at hc
  rw [show t4 c l i = !decide (0 ≤ ixG (offP l i) (subL l c i) 0 (subL l c i).length) by unfold t4; rw [decide_eq_false (by omega)]; rfl]
  have hsl : (subL l c i).length = c.s.toNat := by unfold subL; rw [List.length_take, List.length_drop]; omega
  have hsg : ∀ k, k < c.s.toNat → (subL l c i).getD k default = l.getD (((i : Int) + 1 - c.s).toNat + k) default := fun k hk => by
    unfold subL
    rw [List.getD_eq_getElem?_getD, List.getElem?_take, if_pos hk, List.getElem?_drop, List.getD_eq_getElem?_getD]
  conv => whnf
  refine ⟨_, fun _ => PureCall.arg_le (call74 2 c l last i (subL l c i) hi (by omega)) rfl (by
    all_goals repeat' (first | exact True.intro | refine leF_cons rfl ?_ ?_ | refine leS_cons rfl ?_ ?_ | (show PLe _ _ _ _; conv => whnf) | (show SLe _ _ _ _; conv => whnf) | (show PLeL _ _ _ _; conv => whnf) | apply And.intro | rfl | exact Nat.le_refl _ | exact fun _ _ => rfl | exact rowEq0 _ _)
    · omega
    · intro k hk
      show eRd _ = eRd _
      rw [hsg k (by omega)]), ?_⟩
  conv => whnf
  refine ⟨rfl, ?_⟩
  conv => whnf
  refine ⟨?_, [], ?_⟩
  · (try conv => whnf)
    (repeat' (first | exact True.intro | exact fun _ h => h | refine inR64_of ?_ ?_ | apply And.intro | refine maxLen_ge ?_)) <;> (first | omega | (dsimp only; omega) | (dsimp only [List.length_cons, List.length_nil]; omega) | (intro hg; rw [hg]; rfl) | (intro hg hh; rw [hg, hh]; rfl) | (intro hg; simp [-List.getD_eq_getElem?_getD, -Int.default_eq_zero] at hg; first | omega | (refine inR64_of ?_ ?_ <;> omega) | (constructor <;> omega)) | (simp [-List.getD_eq_getElem?_getD, -Int.default_eq_zero]; done))
  conv => whnf
  refine ⟨rfl, ?_, trivial, trivial⟩
  all_goals repeat' (first | exact True.intro | refine leF_cons rfl ?_ ?_ | refine leS_cons rfl ?_ ?_ | (show PLe _ _ _ _; conv => whnf) | (show SLe _ _ _ _; conv => whnf) | (show PLeL _ _ _ _; conv => whnf) | apply And.intro | rfl | exact Nat.le_refl _ | exact fun _ _ => rfl | exact rowEq0 _ _)

def testsF : Nat → List PV := fun i => [[PV.int .i64 2, .fn (.func 70) [] []], [.int .i64 3, .fn (.func 71) [] []], [.int .i64 4, .fn (.func 72) [] []], [.int .i64 5, .fn (.func 73) [] []]].getD i []
theorem call55 : PureCall Try.prog 55 [] [] ⟨.sl 0 2 4 testsF, [], []⟩ := by
  refine pure_call mix Try.func55 fits55 rfl ?_
  conv => whnf
  refine ⟨?_, [], ?_⟩
  · (try conv => whnf)
    (repeat' (first | exact True.intro | exact fun _ h => h | refine inR64_of ?_ ?_ | apply And.intro | refine maxLen_ge ?_)) <;> (first | omega | (dsimp only; omega) | (dsimp only [List.length_cons, List.length_nil]; omega) | (intro hg; rw [hg]; rfl) | (intro hg hh; rw [hg, hh]; rfl) | (intro hg; simp [-List.getD_eq_getElem?_getD, -Int.default_eq_zero] at hg; first | omega | (refine inR64_of ?_ ?_ <;> omega) | (constructor <;> omega)) | (simp [-List.getD_eq_getElem?_getD, -Int.default_eq_zero]; done))
  conv => whnf
  refine ⟨rfl, ?_, ?_, ?_⟩
  all_goals repeat' (first | exact True.intro | refine leF_cons rfl ?_ ?_ | refine leS_cons rfl ?_ ?_ | (show PLe _ _ _ _; conv => whnf) | (show SLe _ _ _ _; conv => whnf) | (show PLeL _ _ _ _; conv => whnf) | apply And.intro | rfl | exact Nat.le_refl _ | exact fun _ _ => rfl | exact rowEq0 _ _)

theorem wC_flat (c : Ck) (l : List Rd) (last : Int) : ∀ p ∈ wC c l last, p.flat = true ∧ p.tau ≤ 2 := fun p hp => by
  simp only [wC, eCk, List.mem_append, List.mem_cons, List.not_mem_nil, or_false] at hp
  rcases hp with (rfl | rfl | rfl | rfl) | (rfl | rfl) <;> exact ⟨rfl, by first | exact Nat.zero_le _ | exact Nat.le_refl _⟩
theorem int_flat (n : Int) : ∀ p ∈ [PV.int .i64 n], p.flat = true ∧ p.tau ≤ 2 ∧ p.mark 2 = p := fun p hp => by
  rw [List.mem_singleton.1 hp]; exact ⟨rfl, Nat.zero_le _, rfl⟩

set_option maxRecDepth 100000 in
set_option maxHeartbeats 4000000 in
theorem call41 (c : Ck) (l : List Rd) (last : Int) (i : Nat) (hi : i < l.length) (hl : l.length ≤ 4611686018427387904) (h1 : -1 ≤ last ∧ last < i) (hv : ∀ k, k < l.length → 0 ≤ (l.getD k default).v ∧ (l.getD k default).v ≤ 1073741824) (hc0 : ckOk c) :
    PureCall Try.prog 41 [.pt 0 0 0, .int .i64 i] [.box (wC c l last)] ⟨.int .i64 (verdF c l last i), [.box (wC c l (if verdF c l last i = 1 then i else last))], []⟩ := by
  refine pure_call mix Try.func41 fits41 rfl ?_
  conv => whnf
  refine ⟨_, fun _ => call55, ?_⟩
  conv => whnf
  refine ⟨?_, ?_⟩
  · (try conv => whnf)
    (repeat' (first | exact True.intro | exact fun _ h => h | refine inR64_of ?_ ?_ | apply And.intro | refine maxLen_ge ?_)) <;> (first | omega | (dsimp only; omega) | (dsimp only [List.length_cons, List.length_nil]; omega) | (intro hg; rw [hg]; rfl) | (intro hg hh; rw [hg, hh]; rfl) | (intro hg; simp [-List.getD_eq_getElem?_getD, -Int.default_eq_zero] at hg; first | omega | (refine inR64_of ?_ ?_ <;> omega) | (constructor <;> omega)) | (simp [-List.getD_eq_getElem?_getD, -Int.default_eq_zero]; done))
  refine LSem.loop (n := 25) mix (α := Nat) (fun k => k ≤ 4 ∧ (0 < k → t1 l i = false) ∧ (1 < k → t2 c l i = false) ∧ (2 < k → t3 c l last i = false) ∧ (3 < k → t4 c l i = false))
    (fun k => [(0, .pt 0 0 0), (1, .int .i64 i), (7, .sl 0 2 4 testsF), (8, .int .i64 4), (9, .int .i64 k)])
    (fun k => [(0, .box (wC c l last))]) (fun k => 4 - k) 0 ?_ ?_ ?_
  · exact ⟨by omega, fun h => by omega, fun h => by omega, fun h => by omega, fun h => by omega⟩
  · refine ⟨rfl, rfl, ?_, ?_⟩
    all_goals repeat' (first | exact True.intro | refine leF_cons rfl ?_ ?_ | refine leS_cons rfl ?_ ?_ | (show PLe _ _ _ _; conv => whnf) | (show SLe _ _ _ _; conv => whnf) | (show PLeL _ _ _ _; conv => whnf) | apply And.intro | rfl | exact Nat.le_refl _ | exact fun _ _ => rfl | exact rowEq0 _ _)
  · intro k hk
    obtain ⟨hk, k1, k2, k3, k4⟩ := hk
    have h01234 : k = 0 ∨ k = 1 ∨ k = 2 ∨ k = 3 ∨ k = 4 := by omega
    rcases h01234 with rfl | rfl | rfl | rfl | rfl
    · conv => whnf
      refine ⟨trivial, fun _ => ?_, fun hc => absurd hc (by decide)⟩
      conv => whnf
      refine ⟨_, fun _ => PureCall.of_rp (call70 c l last i hi) rfl (wC_flat c l last) (int_flat _), ?_⟩
      cases ht : t1 l i with
      | true =>
        have v5 : verdF c l last i = 2 := by unfold verdF; rw [ht]; rfl
        rw [v5, if_neg (by decide)]
        conv => whnf
        refine ⟨?_, fun _ => ?_, fun hc => absurd hc (by decide)⟩
        · (try conv => whnf)
          (repeat' (first | exact True.intro | exact fun _ h => h | refine inR64_of ?_ ?_ | apply And.intro | refine maxLen_ge ?_)) <;> (first | omega | (dsimp only; omega) | (dsimp only [List.length_cons, List.length_nil]; omega) | (intro hg; rw [hg]; rfl) | (intro hg hh; rw [hg, hh]; rfl) | (intro hg; simp [-List.getD_eq_getElem?_getD, -Int.default_eq_zero] at hg; first | omega | (refine inR64_of ?_ ?_ <;> omega) | (constructor <;> omega)) | (simp [-List.getD_eq_getElem?_getD, -Int.default_eq_zero]; done))
        conv => whnf
        refine ⟨?_, [], ?_⟩
        · (try conv => whnf)
          (repeat' (first | exact True.intro | exact fun _ h => h | refine inR64_of ?_ ?_ | apply And.intro | refine maxLen_ge ?_)) <;> (first | omega | (dsimp only; omega) | (dsimp only [List.length_cons, List.length_nil]; omega) | (intro hg; rw [hg]; rfl) | (intro hg hh; rw [hg, hh]; rfl) | (intro hg; simp [-List.getD_eq_getElem?_getD, -Int.default_eq_zero] at hg; first | omega | (refine inR64_of ?_ ?_ <;> omega) | (constructor <;> omega)) | (simp [-List.getD_eq_getElem?_getD, -Int.default_eq_zero]; done))
        conv => whnf
        refine ⟨rfl, ?_, ?_, ?_⟩
        all_goals repeat' (first | exact True.intro | refine leF_cons rfl ?_ ?_ | refine leS_cons rfl ?_ ?_ | (show PLe _ _ _ _; conv => whnf) | (show SLe _ _ _ _; conv => whnf) | (show PLeL _ _ _ _; conv => whnf) | apply And.intro | rfl | exact Nat.le_refl _ | exact fun _ _ => rfl | exact rowEq0 _ _)
      | false =>
        conv => whnf
        refine ⟨?_, fun hc => absurd hc (by decide), fun _ => ?_⟩
        · (try conv => whnf)
          (repeat' (first | exact True.intro | exact fun _ h => h | refine inR64_of ?_ ?_ | apply And.intro | refine maxLen_ge ?_)) <;> (first | omega | (dsimp only; omega) | (dsimp only [List.length_cons, List.length_nil]; omega) | (intro hg; rw [hg]; rfl) | (intro hg hh; rw [hg, hh]; rfl) | (intro hg; simp [-List.getD_eq_getElem?_getD, -Int.default_eq_zero] at hg; first | omega | (refine inR64_of ?_ ?_ <;> omega) | (constructor <;> omega)) | (simp [-List.getD_eq_getElem?_getD, -Int.default_eq_zero]; done))
        conv => whnf
        refine ⟨?_, 1, ⟨by omega, by first | exact fun _ => ht | exact fun _ => rfl, fun h => by omega, fun h => by omega, fun h => by omega⟩, by omega, rfl, rfl, ?_, ?_⟩
        · (try conv => whnf)
          (repeat' (first | exact True.intro | exact fun _ h => h | refine inR64_of ?_ ?_ | apply And.intro | refine maxLen_ge ?_)) <;> (first | omega | (dsimp only; omega) | (dsimp only [List.length_cons, List.length_nil]; omega) | (intro hg; rw [hg]; rfl) | (intro hg hh; rw [hg, hh]; rfl) | (intro hg; simp [-List.getD_eq_getElem?_getD, -Int.default_eq_zero] at hg; first | omega | (refine inR64_of ?_ ?_ <;> omega) | (constructor <;> omega)) | (simp [-List.getD_eq_getElem?_getD, -Int.default_eq_zero]; done))
        all_goals repeat' (first | exact True.intro | refine leF_cons rfl ?_ ?_ | refine leS_cons rfl ?_ ?_ | (show PLe _ _ _ _; conv => whnf) | (show SLe _ _ _ _; conv => whnf) | (show PLeL _ _ _ _; conv => whnf) | apply And.intro | rfl | exact Nat.le_refl _ | exact fun _ _ => rfl | exact rowEq0 _ _)
    · conv => whnf
      refine ⟨trivial, fun _ => ?_, fun hc => absurd hc (by decide)⟩
      conv => whnf
      refine ⟨_, fun _ => PureCall.of_rp (call71 c l last i hi) rfl (wC_flat c l last) (int_flat _), ?_⟩
      cases ht : t2 c l i with
      | true =>
        have v5 : verdF c l last i = 3 := by unfold verdF; rw [k1 (by omega), ht]; rfl
        rw [v5, if_neg (by decide)]
        conv => whnf
        refine ⟨?_, fun _ => ?_, fun hc => absurd hc (by decide)⟩
        · (try conv => whnf)
          (repeat' (first | exact True.intro | exact fun _ h => h | refine inR64_of ?_ ?_ | apply And.intro | refine maxLen_ge ?_)) <;> (first | omega | (dsimp only; omega) | (dsimp only [List.length_cons, List.length_nil]; omega) | (intro hg; rw [hg]; rfl) | (intro hg hh; rw [hg, hh]; rfl) | (intro hg; simp [-List.getD_eq_getElem?_getD, -Int.default_eq_zero] at hg; first | omega | (refine inR64_of ?_ ?_ <;> omega) | (constructor <;> omega)) | (simp [-List.getD_eq_getElem?_getD, -Int.default_eq_zero]; done))
        conv => whnf
        refine ⟨?_, [], ?_⟩
        · (try conv => whnf)
          (repeat' (first | exact True.intro | exact fun _ h => h | refine inR64_of ?_ ?_ | apply And.intro | refine maxLen_ge ?_)) <;> (first | omega | (dsimp only; omega) | (dsimp only [List.length_cons, List.length_nil]; omega) | (intro hg; rw [hg]; rfl) | (intro hg hh; rw [hg, hh]; rfl) | (intro hg; simp [-List.getD_eq_getElem?_getD, -Int.default_eq_zero] at hg; first | omega | (refine inR64_of ?_ ?_ <;> omega) | (constructor <;> omega)) | (simp [-List.getD_eq_getElem?_getD, -Int.default_eq_zero]; done))
        conv => whnf
        refine ⟨rfl, ?_, ?_, ?_⟩
        all_goals repeat' (first | exact True.intro | refine leF_cons rfl ?_ ?_ | refine leS_cons rfl ?_ ?_ | (show PLe _ _ _ _; conv => whnf) | (show SLe _ _ _ _; conv => whnf) | (show PLeL _ _ _ _; conv => whnf) | apply And.intro | rfl | exact Nat.le_refl _ | exact fun _ _ => rfl | exact rowEq0 _ _)
      | false =>
        conv => whnf
        refine ⟨?_, fun hc => absurd hc (by decide), fun _ => ?_⟩
        · (try conv => whnf)
          (repeat' (first | exact True.intro | exact fun _ h => h | refine inR64_of ?_ ?_ | apply And.intro | refine maxLen_ge ?_)) <;> (first | omega | (dsimp only; omega) | (dsimp only [List.length_cons, List.length_nil]; omega) | (intro hg; rw [hg]; rfl) | (intro hg hh; rw [hg, hh]; rfl) | (intro hg; simp [-List.getD_eq_getElem?_getD, -Int.default_eq_zero] at hg; first | omega | (refine inR64_of ?_ ?_ <;> omega) | (constructor <;> omega)) | (simp [-List.getD_eq_getElem?_getD, -Int.default_eq_zero]; done))
        conv => whnf
        refine ⟨?_, 2, ⟨by omega, fun _ => k1 (by omega), by first | exact fun _ => ht | exact fun _ => rfl, fun h => by omega, fun h => by omega⟩, by omega, rfl, rfl, ?_, ?_⟩
        · (try conv => whnf)
          (repeat' (first | exact True.intro | exact fun _ h => h | refine inR64_of ?_ ?_ | apply And.intro | refine maxLen_ge ?_)) <;> (first | omega | (dsimp only; omega) | (dsimp only [List.length_cons, List.length_nil]; omega) | (intro hg; rw [hg]; rfl) | (intro hg hh; rw [hg, hh]; rfl) | (intro hg; simp [-List.getD_eq_getElem?_getD, -Int.default_eq_zero] at hg; first | omega | (refine inR64_of ?_ ?_ <;> omega) | (constructor <;> omega)) | (simp [-List.getD_eq_getElem?_getD, -Int.default_eq_zero]; done))
        all_goals repeat' (first | exact True.intro | refine leF_cons rfl ?_ ?_ | refine leS_cons rfl ?_ ?_ | (show PLe _ _ _ _; conv => whnf) | (show SLe _ _ _ _; conv => whnf) | (show PLeL _ _ _ _; conv => whnf) | apply And.intro | rfl | exact Nat.le_refl _ | exact fun _ _ => rfl | exact rowEq0 _ _)
    · conv => whnf
      refine ⟨trivial, fun _ => ?_, fun hc => absurd hc (by decide)⟩
      conv => whnf
      refine ⟨_, fun _ => PureCall.of_rp (call72 c l last i hi hl h1 hv) rfl (wC_flat c l last) (int_flat _), ?_⟩
      cases ht : t3 c l last i with
      | true =>
        have v5 : verdF c l last i = 4 := by unfold verdF; rw [k1 (by omega), k2 (by omega), ht]; rfl
        rw [v5, if_neg (by decide)]
        conv => whnf
        refine ⟨?_, fun _ => ?_, fun hc => absurd hc (by decide)⟩
        · (try conv => whnf)
          (repeat' (first | exact True.intro | exact fun _ h => h | refine inR64_of ?_ ?_ | apply And.intro | refine maxLen_ge ?_)) <;> (first | omega | (dsimp only; omega) | (dsimp only [List.length_cons, List.length_nil]; omega) | (intro hg; rw [hg]; rfl) | (intro hg hh; rw [hg, hh]; rfl) | (intro hg; simp [-List.getD_eq_getElem?_getD, -Int.default_eq_zero] at hg; first | omega | (refine inR64_of ?_ ?_ <;> omega) | (constructor <;> omega)) | (simp [-List.getD_eq_getElem?_getD, -Int.default_eq_zero]; done))
        conv => whnf
        refine ⟨?_, [], ?_⟩
        · (try conv => whnf)
          (repeat' (first | exact True.intro | exact fun _ h => h | refine inR64_of ?_ ?_ | apply And.intro | refine maxLen_ge ?_)) <;> (first | omega | (dsimp only; omega) | (dsimp only [List.length_cons, List.length_nil]; omega) | (intro hg; rw [hg]; rfl) | (intro hg hh; rw [hg, hh]; rfl) | (intro hg; simp [-List.getD_eq_getElem?_getD, -Int.default_eq_zero] at hg; first | omega | (refine inR64_of ?_ ?_ <;> omega) | (constructor <;> omega)) | (simp [-List.getD_eq_getElem?_getD, -Int.default_eq_zero]; done))
        conv => whnf
        refine ⟨rfl, ?_, ?_, ?_⟩
        all_goals repeat' (first | exact True.intro | refine leF_cons rfl ?_ ?_ | refine leS_cons rfl ?_ ?_ | (show PLe _ _ _ _; conv => whnf) | (show SLe _ _ _ _; conv => whnf) | (show PLeL _ _ _ _; conv => whnf) | apply And.intro | rfl | exact Nat.le_refl _ | exact fun _ _ => rfl | exact rowEq0 _ _)
      | false =>
        conv => whnf
        refine ⟨?_, fun hc => absurd hc (by decide), fun _ => ?_⟩
        · (try conv => whnf)
          (repeat' (first | exact True.intro | exact fun _ h => h | refine inR64_of ?_ ?_ | apply And.intro | refine maxLen_ge ?_)) <;> (first | omega | (dsimp only; omega) | (dsimp only [List.length_cons, List.length_nil]; omega) | (intro hg; rw [hg]; rfl) | (intro hg hh; rw [hg, hh]; rfl) | (intro hg; simp [-List.getD_eq_getElem?_getD, -Int.default_eq_zero] at hg; first | omega | (refine inR64_of ?_ ?_ <;> omega) | (constructor <;> omega)) | (simp [-List.getD_eq_getElem?_getD, -Int.default_eq_zero]; done))
        conv => whnf
        refine ⟨?_, 3, ⟨by omega, fun _ => k1 (by omega), fun _ => k2 (by omega), by first | exact fun _ => ht | exact fun _ => rfl, fun h => by omega⟩, by omega, rfl, rfl, ?_, ?_⟩
        · (try conv => whnf)
          (repeat' (first | exact True.intro | exact fun _ h => h | refine inR64_of ?_ ?_ | apply And.intro | refine maxLen_ge ?_)) <;> (first | omega | (dsimp only; omega) | (dsimp only [List.length_cons, List.length_nil]; omega) | (intro hg; rw [hg]; rfl) | (intro hg hh; rw [hg, hh]; rfl) | (intro hg; simp [-List.getD_eq_getElem?_getD, -Int.default_eq_zero] at hg; first | omega | (refine inR64_of ?_ ?_ <;> omega) | (constructor <;> omega)) | (simp [-List.getD_eq_getElem?_getD, -Int.default_eq_zero]; done))
        all_goals repeat' (first | exact True.intro | refine leF_cons rfl ?_ ?_ | refine leS_cons rfl ?_ ?_ | (show PLe _ _ _ _; conv => whnf) | (show SLe _ _ _ _; conv => whnf) | (show PLeL _ _ _ _; conv => whnf) | apply And.intro | rfl | exact Nat.le_refl _ | exact fun _ _ => rfl | exact rowEq0 _ _)
    · conv => whnf
      refine ⟨trivial, fun _ => ?_, fun hc => absurd hc (by decide)⟩
      conv => whnf
      refine ⟨_, fun _ => PureCall.of_rp (call73 c l last i hi hl hc0) rfl (wC_flat c l last) (int_flat _), ?_⟩
      cases ht : t4 c l i with
      | true =>
        have v5 : verdF c l last i = 5 := by unfold verdF; rw [k1 (by omega), k2 (by omega), k3 (by omega), ht]; rfl
        rw [v5, if_neg (by decide)]
        conv => whnf
        refine ⟨?_, fun _ => ?_, fun hc => absurd hc (by decide)⟩
        · (try conv => whnf)
          (repeat' (first | exact True.intro | exact fun _ h => h | refine inR64_of ?_ ?_ | apply And.intro | refine maxLen_ge ?_)) <;> (first | omega | (dsimp only; omega) | (dsimp only [List.length_cons, List.length_nil]; omega) | (intro hg; rw [hg]; rfl) | (intro hg hh; rw [hg, hh]; rfl) | (intro hg; simp [-List.getD_eq_getElem?_getD, -Int.default_eq_zero] at hg; first | omega | (refine inR64_of ?_ ?_ <;> omega) | (constructor <;> omega)) | (simp [-List.getD_eq_getElem?_getD, -Int.default_eq_zero]; done))
        conv => whnf
        refine ⟨?_, [], ?_⟩
        · (try conv => whnf)
          (repeat' (first | exact True.intro | exact fun _ h => h | refine inR64_of ?_ ?_ | apply And.intro | refine maxLen_ge ?_)) <;> (first | omega | (dsimp only; omega) | (dsimp only [List.length_cons, List.length_nil]; omega) | (intro hg; rw [hg]; rfl) | (intro hg hh; rw [hg, hh]; rfl) | (intro hg; simp [-List.getD_eq_getElem?_getD, -Int.default_eq_zero] at hg; first | omega | (refine inR64_of ?_ ?_ <;> omega) | (constructor <;> omega)) | (simp [-List.getD_eq_getElem?_getD, -Int.default_eq_zero]; done))
        conv => whnf
        refine ⟨rfl, ?_, ?_, ?_⟩
        all_goals repeat' (first | exact True.intro | refine leF_cons rfl ?_ ?_ | refine leS_cons rfl ?_ ?_ | (show PLe _ _ _ _; conv => whnf) | (show SLe _ _ _ _; conv => whnf) | (show PLeL _ _ _ _; conv => whnf) | apply And.intro | rfl | exact Nat.le_refl _ | exact fun _ _ => rfl | exact rowEq0 _ _)
      | false =>
        conv => whnf
        refine ⟨?_, fun hc => absurd hc (by decide), fun _ => ?_⟩
        · (try conv => whnf)
          (repeat' (first | exact True.intro | exact fun _ h => h | refine inR64_of ?_ ?_ | apply And.intro | refine maxLen_ge ?_)) <;> (first | omega | (dsimp only; omega) | (dsimp only [List.length_cons, List.length_nil]; omega) | (intro hg; rw [hg]; rfl) | (intro hg hh; rw [hg, hh]; rfl) | (intro hg; simp [-List.getD_eq_getElem?_getD, -Int.default_eq_zero] at hg; first | omega | (refine inR64_of ?_ ?_ <;> omega) | (constructor <;> omega)) | (simp [-List.getD_eq_getElem?_getD, -Int.default_eq_zero]; done))
        conv => whnf
        refine ⟨?_, 4, ⟨by omega, fun _ => k1 (by omega), fun _ => k2 (by omega), fun _ => k3 (by omega), by first | exact fun _ => ht | exact fun _ => rfl⟩, by omega, rfl, rfl, ?_, ?_⟩
        · (try conv => whnf)
          (repeat' (first | exact True.intro | exact fun _ h => h | refine inR64_of ?_ ?_ | apply And.intro | refine maxLen_ge ?_)) <;> (first | omega | (dsimp only; omega) | (dsimp only [List.length_cons, List.length_nil]; omega) | (intro hg; rw [hg]; rfl) | (intro hg hh; rw [hg, hh]; rfl) | (intro hg; simp [-List.getD_eq_getElem?_getD, -Int.default_eq_zero] at hg; first | omega | (refine inR64_of ?_ ?_ <;> omega) | (constructor <;> omega)) | (simp [-List.getD_eq_getElem?_getD, -Int.default_eq_zero]; done))
        all_goals repeat' (first | exact True.intro | refine leF_cons rfl ?_ ?_ | refine leS_cons rfl ?_ ?_ | (show PLe _ _ _ _; conv => whnf) | (show SLe _ _ _ _; conv => whnf) | (show PLeL _ _ _ _; conv => whnf) | apply And.intro | rfl | exact Nat.le_refl _ | exact fun _ _ => rfl | exact rowEq0 _ _)
    · have v5 : verdF c l last i = 1 := by unfold verdF; rw [k1 (by omega), k2 (by omega), k3 (by omega), k4 (by omega)]; rfl
      rw [v5, if_pos rfl]
      conv => whnf
      refine ⟨trivial, fun hc => absurd hc (by decide), fun _ => ?_⟩
      conv => whnf
      refine ⟨?_, [], ?_⟩
      · (try conv => whnf)
        (repeat' (first | exact True.intro | exact fun _ h => h | refine inR64_of ?_ ?_ | apply And.intro | refine maxLen_ge ?_)) <;> (first | omega | (dsimp only; omega) | (dsimp only [List.length_cons, List.length_nil]; omega) | (intro hg; rw [hg]; rfl) | (intro hg hh; rw [hg, hh]; rfl) | (intro hg; simp [-List.getD_eq_getElem?_getD, -Int.default_eq_zero] at hg; first | omega | (refine inR64_of ?_ ?_ <;> omega) | (constructor <;> omega)) | (simp [-List.getD_eq_getElem?_getD, -Int.default_eq_zero]; done))
      conv => whnf
      refine ⟨rfl, ?_, ?_, ?_⟩
      all_goals repeat' (first | exact True.intro | refine leF_cons rfl ?_ ?_ | refine leS_cons rfl ?_ ?_ | (show PLe _ _ _ _; conv => whnf) | (show SLe _ _ _ _; conv => whnf) | (show PLeL _ _ _ _; conv => whnf) | apply And.intro | rfl | exact Nat.le_refl _ | exact fun _ _ => rfl | exact rowEq0 _ _)
end Pv
end Go.Proofs.Ytogoplhikmmggaa
