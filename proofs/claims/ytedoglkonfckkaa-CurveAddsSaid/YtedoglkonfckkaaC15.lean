/- LAW 02, THE WALKS: the document's answer: valid curves, values, sums. -/
import Derived.Test.YtedoglkonfckkaaC14
set_option linter.unusedSimpArgs false
set_option linter.unusedVariables false
namespace Go.Proofs.Ytedoglkonfckkaa
namespace Pv
def c32 : C := (.seq (.reg [⟨(some 4), 64, none, .mv (.c (.bool false))⟩])
  (.seq (.reg [⟨(some 5), 80, none, .mv (.t 0)⟩,
    ⟨(some 6), 96, none, .bi false .geq (.t 5) (.c (.int .i64 0))⟩,
    ⟨(some 7), 112, none, .mv (.t 6)⟩,
    ⟨(some 8), 128, (some (7, true)), .mv (.t 0)⟩,
    ⟨(some 9), 144, (some (7, true)), .mv (.t 1)⟩,
    ⟨(some 10), 160, (some (7, true)), .bi false .leq (.t 8) (.t 9)⟩,
    ⟨(some 11), 176, none, .pick (.t 7) (.t 10) (.c (.bool false))⟩,
    ⟨(some 4), 64, none, .mv (.t 11)⟩])
  .ret))
theorem fits32 : fits Try.prog false Try.f32 2 12 [(4, none)] = some c32.er := by kernel_rfl
def c29 : C := (.seq (.reg [⟨(some 4), 64, none, .mv (.c (.bool false))⟩])
  (.seq (.reg [⟨(some 5), 80, none, .mv (.t 0)⟩,
    ⟨(some 6), 96, none, .mv (.t 1)⟩,
    ⟨(some 7), 112, none, .call (.c (.fn (.func 32) [] [])) [(.t 5), (.t 6)]⟩,
    ⟨(some 4), 64, none, .mv (.t 7)⟩])
  .ret))
theorem fits29 : fits Try.prog false Try.f29 2 8 [(4, none)] = some c29.er := by kernel_rfl
def c23L1 : C := (.seq (.reg [⟨(some 16), 256, none, .bi false .lss (.t 15) (.t 14)⟩])
  (.seq (.cond (.t 16) .skip (.exit 0))
  (.seq (.block 1 (.seq (.reg [⟨(some 17), 272, none, .mv (.t 15)⟩,
    ⟨(some 18), 288, none, .ia 2 (.t 13) (.t 15)⟩,
    ⟨(some 19), 304, none, .ld 2 true (.t 18)⟩,
    ⟨(some 4), 64, none, .al [(.int .i64 0), (.int .i64 0)]⟩,
    ⟨(some 3), 48, none, .mv (.t 17)⟩,
    ⟨none, 0, none, .st 2 (.t 4) (.t 19)⟩])
  (.seq (.seq (.reg [⟨(some 20), 320, none, .fa 0 (.t 4)⟩,
    ⟨(some 21), 336, none, .ld 1 false (.t 20)⟩,
    ⟨(some 22), 352, none, .call (.c (.fn (.func 29) [] [])) [(.t 21), (.c (.int .i64 1073741824))]⟩,
    ⟨(some 23), 368, none, .un false .not (.t 22)⟩,
    ⟨(some 24), 384, none, .mv (.t 23)⟩,
    ⟨(some 25), 400, (some (24, false)), .fa 1 (.t 4)⟩,
    ⟨(some 26), 416, (some (24, false)), .ld 1 false (.t 25)⟩,
    ⟨(some 27), 432, (some (24, false)), .call (.c (.fn (.func 29) [] [])) [(.t 26), (.c (.int .i64 274877906944))]⟩,
    ⟨(some 28), 448, (some (24, false)), .un false .not (.t 27)⟩,
    ⟨(some 29), 464, none, .pick (.t 24) (.c (.bool true)) (.t 28)⟩])
  (.cond (.t 29) (.seq (.reg [⟨(some 2), 32, none, .mv (.c (.int .i64 1))⟩])
  .ret) .skip))
  (.seq (.seq (.reg [⟨(some 30), 480, none, .mv (.t 3)⟩,
    ⟨(some 31), 496, none, .bi false .eql (.t 30) (.c (.int .i64 0))⟩])
  (.cond (.t 31) (.exit 1) .skip))
  (.seq (.drw [⟨(some 32), 512, none, .fa 0 (.t 4)⟩,
    ⟨(some 33), 528, none, .ld 1 false (.t 32)⟩,
    ⟨(some 34), 544, none, .mv (.t 0)⟩,
    ⟨(some 35), 560, none, .mv (.t 3)⟩,
    ⟨(some 36), 576, none, .bi false .sub (.t 35) (.c (.int .i64 1))⟩,
    ⟨(some 37), 592, none, .ia 2 (.t 34) (.t 36)⟩,
    ⟨(some 38), 608, none, .fa 0 (.t 37)⟩,
    ⟨(some 39), 624, none, .ld 1 false (.t 38)⟩,
    ⟨(some 40), 640, none, .bi false .sub (.t 33) (.t 39)⟩,
    ⟨(some 41), 656, none, .fa 1 (.t 4)⟩,
    ⟨(some 42), 672, none, .ld 1 false (.t 41)⟩,
    ⟨(some 43), 688, none, .mv (.t 0)⟩,
    ⟨(some 44), 704, none, .mv (.t 3)⟩,
    ⟨(some 45), 720, none, .bi false .sub (.t 44) (.c (.int .i64 1))⟩,
    ⟨(some 46), 736, none, .ia 2 (.t 43) (.t 45)⟩,
    ⟨(some 47), 752, none, .fa 1 (.t 46)⟩,
    ⟨(some 48), 768, none, .ld 1 false (.t 47)⟩,
    ⟨(some 49), 784, none, .bi false .sub (.t 42) (.t 48)⟩,
    ⟨(some 5), 80, none, .mv (.t 40)⟩,
    ⟨(some 6), 96, none, .mv (.t 49)⟩]
    [(0, 2, 32), (0, 3, 32), (0, 4, 32), (0, 5, 32), (0, 6, 32), (0, 7, 32), (0, 9, 32), (0, 10, 32), (0, 11, 32), (0, 12, 32), (0, 13, 32), (0, 14, 32), (0, 15, 32), (0, 16, 32), (0, 17, 32), (1, 2, 33), (1, 3, 33), (1, 4, 33), (1, 5, 33), (1, 6, 33), (1, 7, 33), (1, 9, 33), (1, 10, 33), (1, 11, 33), (1, 12, 33), (1, 13, 33), (1, 14, 33), (1, 15, 33), (1, 16, 33), (1, 17, 33), (2, 3, 34), (2, 4, 34), (2, 9, 34), (2, 10, 34), (2, 11, 34), (2, 12, 34), (2, 13, 34), (2, 14, 34), (2, 15, 34), (2, 16, 34), (2, 17, 34), (3, 9, 35), (3, 10, 35), (3, 11, 35), (3, 12, 35), (3, 13, 35), (3, 14, 35), (3, 15, 35), (3, 16, 35), (3, 17, 35), (4, 9, 36), (4, 10, 36), (4, 11, 36), (4, 12, 36), (4, 13, 36), (4, 14, 36), (4, 15, 36), (4, 16, 36), (4, 17, 36), (5, 9, 37), (5, 10, 37), (5, 11, 37), (5, 12, 37), (5, 13, 37), (5, 14, 37), (5, 15, 37), (5, 16, 37), (5, 17, 37), (6, 9, 38), (6, 10, 38), (6, 11, 38), (6, 12, 38), (6, 13, 38), (6, 14, 38), (6, 15, 38), (6, 16, 38), (6, 17, 38), (7, 9, 39), (7, 10, 39), (7, 11, 39), (7, 12, 39), (7, 13, 39), (7, 14, 39), (7, 15, 39), (7, 16, 39), (7, 17, 39), (8, 9, 40), (8, 10, 40), (8, 11, 40), (8, 12, 40), (8, 13, 40), (8, 14, 40), (8, 15, 40), (8, 16, 40), (8, 17, 40), (9, 11, 41), (9, 12, 41), (9, 13, 41), (9, 14, 41), (9, 15, 41), (9, 16, 41), (9, 18, 41), (10, 11, 42), (10, 12, 42), (10, 13, 42), (10, 14, 42), (10, 15, 42), (10, 16, 42), (10, 18, 42), (11, 12, 43), (11, 13, 43), (11, 18, 43), (12, 18, 44), (13, 18, 45), (14, 18, 46), (15, 18, 47), (16, 18, 48), (17, 18, 49)])
  (.seq (.seq (.reg [⟨(some 50), 800, none, .mv (.t 5)⟩,
    ⟨(some 51), 816, none, .bi false .leq (.t 50) (.c (.int .i64 0))⟩,
    ⟨(some 52), 832, none, .mv (.t 51)⟩,
    ⟨(some 53), 848, (some (52, false)), .mv (.t 6)⟩,
    ⟨(some 54), 864, (some (52, false)), .bi false .lss (.t 53) (.c (.int .i64 0))⟩,
    ⟨(some 55), 880, none, .pick (.t 52) (.c (.bool true)) (.t 54)⟩])
  (.cond (.t 55) (.seq (.reg [⟨(some 2), 32, none, .mv (.c (.int .i64 4))⟩])
  .ret) .skip))
  (.seq (.reg [⟨(some 56), 896, none, .mv (.t 6)⟩,
    ⟨(some 57), 912, none, .mv (.t 5)⟩,
    ⟨(some 58), 928, none, .bi false .quo (.c (.int .i64 4611686018427387904)) (.t 57)⟩,
    ⟨(some 59), 944, none, .bi false .gtr (.t 56) (.t 58)⟩])
  (.cond (.t 59) (.seq (.reg [⟨(some 2), 32, none, .mv (.c (.int .i64 1))⟩])
  .ret) .skip))))))))
  (.reg [⟨(some 60), 960, none, .bi false .add (.t 15) (.c (.int .i64 1))⟩,
    ⟨(some 15), 240, none, .mv (.t 60)⟩]))))
def c23 : C := (.seq (.reg [⟨(some 2), 32, none, .mv (.c (.int .i64 0))⟩])
  (.seq (.seq (.reg [⟨(some 7), 112, none, .mv (.t 0)⟩,
    ⟨(some 8), 128, none, .len (.t 7)⟩,
    ⟨(some 9), 144, none, .bi false .eql (.t 8) (.c (.int .i64 0))⟩])
  (.cond (.t 9) (.seq (.reg [⟨(some 2), 32, none, .mv (.c (.int .i64 3))⟩])
  .ret) .skip))
  (.seq (.seq (.reg [⟨(some 10), 160, none, .mv (.t 0)⟩,
    ⟨(some 11), 176, none, .len (.t 10)⟩,
    ⟨(some 12), 192, none, .bi false .gtr (.t 11) (.c (.int .i64 100))⟩])
  (.cond (.t 12) (.seq (.reg [⟨(some 2), 32, none, .mv (.c (.int .i64 10))⟩])
  .ret) .skip))
  (.seq (.seq (.reg [⟨(some 13), 208, none, .mv (.t 0)⟩,
    ⟨(some 14), 224, none, .len (.t 13)⟩,
    ⟨(some 15), 240, none, .mv (.c (.int .i64 0))⟩])
  (.block 0 (.loop c23L1)))
  (.seq (.reg [⟨(some 2), 32, none, .mv (.c (.int .i64 0))⟩])
  .ret)))))
theorem fits23 : fits Try.prog false Try.f23 1 61 [(2, none)] = some c23.er := by kernel_rfl
def c24L1 : C := (.seq (.seq (.reg [⟨(some 18), 288, none, .mv (.t 5)⟩,
    ⟨(some 19), 304, none, .mv (.t 0)⟩,
    ⟨(some 20), 320, none, .len (.t 19)⟩,
    ⟨(some 21), 336, none, .bi false .lss (.t 18) (.t 20)⟩])
  (.cond (.t 21) .skip (.exit 0)))
  (.seq (.block 1 (.seq (.reg [⟨(some 24), 384, none, .mv (.t 1)⟩,
    ⟨(some 25), 400, none, .mv (.t 0)⟩,
    ⟨(some 26), 416, none, .mv (.t 5)⟩,
    ⟨(some 27), 432, none, .ia 2 (.t 25) (.t 26)⟩,
    ⟨(some 28), 448, none, .fa 0 (.t 27)⟩,
    ⟨(some 29), 464, none, .ld 1 false (.t 28)⟩,
    ⟨(some 30), 480, none, .bi false .lss (.t 24) (.t 29)⟩])
  (.cond (.t 30) (.seq (.drw [⟨(some 31), 496, none, .mv (.t 0)⟩,
    ⟨(some 32), 512, none, .mv (.t 5)⟩,
    ⟨(some 33), 528, none, .bi false .sub (.t 32) (.c (.int .i64 1))⟩,
    ⟨(some 34), 544, none, .ia 2 (.t 31) (.t 33)⟩,
    ⟨(some 35), 560, none, .ld 2 true (.t 34)⟩,
    ⟨(some 36), 576, none, .mv (.t 0)⟩,
    ⟨(some 37), 592, none, .mv (.t 5)⟩,
    ⟨(some 38), 608, none, .ia 2 (.t 36) (.t 37)⟩,
    ⟨(some 39), 624, none, .ld 2 true (.t 38)⟩,
    ⟨(some 6), 96, none, .al [(.int .i64 0), (.int .i64 0)]⟩,
    ⟨(some 7), 112, none, .al [(.int .i64 0), (.int .i64 0)]⟩,
    ⟨none, 0, none, .st 2 (.t 6) (.t 35)⟩,
    ⟨none, 0, none, .st 2 (.t 7) (.t 39)⟩]
    [(0, 1, 31), (0, 2, 31), (0, 5, 31), (0, 6, 31), (0, 7, 31), (0, 8, 31), (0, 9, 31), (0, 10, 31), (1, 5, 32), (1, 6, 32), (1, 7, 32), (1, 8, 32), (1, 9, 32), (1, 10, 32), (2, 5, 33), (2, 6, 33), (2, 7, 33), (2, 8, 33), (2, 9, 33), (2, 10, 33), (3, 5, 34), (3, 6, 34), (3, 7, 34), (3, 8, 34), (3, 9, 34), (3, 10, 34), (4, 5, 35), (4, 6, 35), (4, 7, 35), (4, 8, 35), (4, 9, 35), (4, 10, 35), (5, 6, 36), (5, 9, 36), (5, 10, 36), (5, 11, 36), (6, 9, 37), (6, 10, 37), (6, 11, 37), (7, 9, 38), (7, 10, 38), (7, 11, 38), (8, 9, 39), (8, 10, 39), (8, 11, 39), (9, 10, 6)])
  (.seq (.drw [⟨(some 40), 640, none, .fa 1 (.t 6)⟩,
    ⟨(some 41), 656, none, .ld 1 false (.t 40)⟩,
    ⟨(some 42), 672, none, .fa 1 (.t 7)⟩,
    ⟨(some 43), 688, none, .ld 1 false (.t 42)⟩,
    ⟨(some 44), 704, none, .fa 1 (.t 6)⟩,
    ⟨(some 45), 720, none, .ld 1 false (.t 44)⟩,
    ⟨(some 46), 736, none, .bi false .sub (.t 43) (.t 45)⟩,
    ⟨(some 47), 752, none, .mv (.t 1)⟩,
    ⟨(some 48), 768, none, .fa 0 (.t 6)⟩,
    ⟨(some 49), 784, none, .ld 1 false (.t 48)⟩,
    ⟨(some 50), 800, none, .bi false .sub (.t 47) (.t 49)⟩,
    ⟨(some 51), 816, none, .bi false .mul (.t 46) (.t 50)⟩,
    ⟨(some 52), 832, none, .fa 0 (.t 7)⟩,
    ⟨(some 53), 848, none, .ld 1 false (.t 52)⟩,
    ⟨(some 54), 864, none, .fa 0 (.t 6)⟩,
    ⟨(some 55), 880, none, .ld 1 false (.t 54)⟩,
    ⟨(some 56), 896, none, .bi false .sub (.t 53) (.t 55)⟩,
    ⟨(some 57), 912, none, .bi false .quo (.t 51) (.t 56)⟩,
    ⟨(some 58), 928, none, .bi false .add (.t 41) (.t 57)⟩,
    ⟨(some 4), 64, none, .mv (.t 58)⟩]
    [(0, 2, 40), (0, 3, 40), (0, 4, 40), (0, 5, 40), (0, 6, 40), (0, 7, 40), (0, 8, 40), (0, 9, 40), (0, 10, 40), (0, 11, 40), (0, 12, 40), (0, 13, 40), (0, 14, 40), (0, 15, 40), (0, 16, 40), (0, 17, 40), (1, 2, 41), (1, 3, 41), (1, 4, 41), (1, 5, 41), (1, 6, 41), (1, 7, 41), (1, 8, 41), (1, 9, 41), (1, 10, 41), (1, 11, 41), (1, 12, 41), (1, 13, 41), (1, 14, 41), (1, 15, 41), (1, 16, 41), (1, 17, 41), (2, 4, 42), (2, 5, 42), (2, 7, 42), (2, 8, 42), (2, 9, 42), (2, 10, 42), (2, 12, 42), (2, 13, 42), (2, 14, 42), (2, 15, 42), (2, 16, 42), (3, 4, 43), (3, 5, 43), (3, 7, 43), (3, 8, 43), (3, 9, 43), (3, 10, 43), (3, 12, 43), (3, 13, 43), (3, 14, 43), (3, 15, 43), (3, 16, 43), (4, 7, 44), (4, 8, 44), (4, 9, 44), (4, 10, 44), (4, 12, 44), (4, 13, 44), (4, 14, 44), (4, 15, 44), (4, 16, 44), (5, 7, 45), (5, 8, 45), (5, 9, 45), (5, 10, 45), (5, 12, 45), (5, 13, 45), (5, 14, 45), (5, 15, 45), (5, 16, 45), (6, 7, 46), (6, 8, 46), (6, 9, 46), (6, 10, 46), (6, 12, 46), (6, 13, 46), (6, 14, 46), (6, 15, 46), (6, 16, 46), (7, 8, 47), (7, 9, 47), (7, 12, 47), (7, 13, 47), (7, 14, 47), (7, 15, 47), (7, 16, 47), (8, 12, 48), (8, 13, 48), (8, 14, 48), (8, 15, 48), (8, 16, 48), (9, 12, 49), (9, 13, 49), (9, 14, 49), (9, 15, 49), (9, 16, 49), (10, 12, 50), (10, 13, 50), (10, 14, 50), (10, 15, 50), (10, 16, 50), (11, 12, 51), (11, 13, 51), (11, 14, 51), (11, 15, 51), (11, 16, 51), (12, 14, 52), (12, 15, 52), (13, 14, 53), (13, 15, 53)])
  .ret)) .skip)))
  (.reg [⟨(some 22), 352, none, .mv (.t 5)⟩,
    ⟨(some 23), 368, none, .bi false .add (.t 22) (.c (.int .i64 1))⟩,
    ⟨(some 5), 80, none, .mv (.t 23)⟩])))
def c24 : C := (.seq (.reg [⟨(some 4), 64, none, .mv (.c (.int .i64 0))⟩])
  (.seq (.seq (.reg [⟨(some 8), 128, none, .mv (.t 1)⟩,
    ⟨(some 9), 144, none, .mv (.t 0)⟩,
    ⟨(some 10), 160, none, .ia 2 (.t 9) (.c (.int .i64 0))⟩,
    ⟨(some 11), 176, none, .fa 0 (.t 10)⟩,
    ⟨(some 12), 192, none, .ld 1 false (.t 11)⟩,
    ⟨(some 13), 208, none, .bi false .leq (.t 8) (.t 12)⟩])
  (.cond (.t 13) (.seq (.reg [⟨(some 14), 224, none, .mv (.t 0)⟩,
    ⟨(some 15), 240, none, .ia 2 (.t 14) (.c (.int .i64 0))⟩,
    ⟨(some 16), 256, none, .fa 1 (.t 15)⟩,
    ⟨(some 17), 272, none, .ld 1 false (.t 16)⟩,
    ⟨(some 4), 64, none, .mv (.t 17)⟩])
  .ret) .skip))
  (.seq (.seq (.reg [⟨(some 5), 80, none, .mv (.c (.int .i64 1))⟩])
  (.block 0 (.loop c24L1)))
  (.seq (.reg [⟨(some 59), 944, none, .mv (.t 0)⟩,
    ⟨(some 60), 960, none, .mv (.t 0)⟩,
    ⟨(some 61), 976, none, .len (.t 60)⟩,
    ⟨(some 62), 992, none, .bi false .sub (.t 61) (.c (.int .i64 1))⟩,
    ⟨(some 63), 1008, none, .ia 2 (.t 59) (.t 62)⟩,
    ⟨(some 64), 1024, none, .fa 1 (.t 63)⟩,
    ⟨(some 65), 1040, none, .ld 1 false (.t 64)⟩,
    ⟨(some 4), 64, none, .mv (.t 65)⟩])
  .ret))))
theorem fits24 : fits Try.prog false Try.f24 2 66 [(4, none)] = some c24.er := by kernel_rfl

theorem call32 (n m : Int) : PureCall Try.prog 32 [.int .i64 n, .int .i64 m] [] ⟨.bool (decide (0 ≤ n ∧ n ≤ m)), [], []⟩ := by
  refine pure_call mix Try.func32 fits32 rfl ?_
  conv => whnf
  refine ⟨?_, [], ?_⟩
  · (try conv => whnf)
    (repeat' (first | exact True.intro | exact fun _ h => h | refine inR64_of ?_ ?_ | apply And.intro | refine maxLen_ge ?_)) <;> (first | omega | (dsimp only; omega) | (dsimp only [List.length_cons, List.length_nil]; omega) | (intro hg; rw [hg]; rfl) | (intro hg hh; rw [hg, hh]; rfl) | (intro hg; simp [-List.getD_eq_getElem?_getD, -Int.default_eq_zero] at hg; first | omega | (refine inR64_of ?_ ?_ <;> omega) | (constructor <;> omega)) | (simp [-List.getD_eq_getElem?_getD, -Int.default_eq_zero]; done))
  conv => whnf
  refine ⟨rfl, ?_, trivial, trivial⟩
  all_goals repeat' (first | exact True.intro | refine leF_cons rfl ?_ ?_ | refine leS_cons rfl ?_ ?_ | (show PLe _ _ _ _; conv => whnf) | (show SLe _ _ _ _; conv => whnf) | (show PLeL _ _ _ _; conv => whnf) | apply And.intro | rfl | exact Nat.le_refl _ | exact fun _ _ => rfl | exact rowEq0 _ _)
  by_cases h : 0 ≤ n <;> simp [h]
theorem call29 (n m : Int) : PureCall Try.prog 29 [.int .i64 n, .int .i64 m] [] ⟨.bool (decide (0 ≤ n ∧ n ≤ m)), [], []⟩ := by
  refine pure_call mix Try.func29 fits29 rfl ?_
  conv => whnf
  refine ⟨_, fun _ => call32 n m, ?_⟩
  conv => whnf
  refine ⟨?_, [], ?_⟩
  · (try conv => whnf)
    (repeat' (first | exact True.intro | exact fun _ h => h | refine inR64_of ?_ ?_ | apply And.intro | refine maxLen_ge ?_)) <;> (first | omega | (dsimp only; omega) | (dsimp only [List.length_cons, List.length_nil]; omega) | (intro hg; rw [hg]; rfl) | (intro hg hh; rw [hg, hh]; rfl) | (intro hg; simp [-List.getD_eq_getElem?_getD, -Int.default_eq_zero] at hg; first | omega | (refine inR64_of ?_ ?_ <;> omega) | (constructor <;> omega)) | (simp [-List.getD_eq_getElem?_getD, -Int.default_eq_zero]; done))
  conv => whnf
  refine ⟨rfl, ?_, trivial, trivial⟩
  all_goals repeat' (first | exact True.intro | refine leF_cons rfl ?_ ?_ | refine leS_cons rfl ?_ ?_ | (show PLe _ _ _ _; conv => whnf) | (show SLe _ _ _ _; conv => whnf) | (show PLeL _ _ _ _; conv => whnf) | apply And.intro | rfl | exact Nat.le_refl _ | exact fun _ _ => rfl | exact rowEq0 _ _)

set_option maxRecDepth 100000 in
set_option maxHeartbeats 4000000 in
theorem call23 (τ : Nat) (c : List Pt) : PureCall Try.prog 23 [.sl τ 2 c.length (fl ePt c)] [] ⟨.int .i64 (checkC c), [], []⟩ := by
  refine pure_call mix Try.func23 fits23 rfl ?_
  conv => whnf
  refine ⟨?_, fun hc => ?_, fun hc => ?_⟩
  · (try conv => whnf)
    (repeat' (first | exact True.intro | exact fun _ h => h | refine inR64_of ?_ ?_ | apply And.intro | refine maxLen_ge ?_)) <;> (first | omega | (dsimp only; omega) | (dsimp only [List.length_cons, List.length_nil]; omega) | (intro hg; rw [hg]; rfl) | (intro hg hh; rw [hg, hh]; rfl) | (intro hg; simp [-List.getD_eq_getElem?_getD, -Int.default_eq_zero] at hg; first | omega | (refine inR64_of ?_ ?_ <;> omega) | (constructor <;> omega)) | (simp [-List.getD_eq_getElem?_getD, -Int.default_eq_zero]; done))
  · simp [-List.getD_eq_getElem?_getD, -Int.default_eq_zero] at hc
    rw [show checkC c = 3 by unfold checkC; rw [if_pos (by rw [hc]; rfl)]]
    conv => whnf
    refine ⟨?_, [], ?_⟩
    · (try conv => whnf)
      (repeat' (first | exact True.intro | exact fun _ h => h | refine inR64_of ?_ ?_ | apply And.intro | refine maxLen_ge ?_)) <;> (first | omega | (dsimp only; omega) | (dsimp only [List.length_cons, List.length_nil]; omega) | (intro hg; rw [hg]; rfl) | (intro hg hh; rw [hg, hh]; rfl) | (intro hg; simp [-List.getD_eq_getElem?_getD, -Int.default_eq_zero] at hg; first | omega | (refine inR64_of ?_ ?_ <;> omega) | (constructor <;> omega)) | (simp [-List.getD_eq_getElem?_getD, -Int.default_eq_zero]; done))
    conv => whnf
    refine ⟨rfl, ?_, trivial, trivial⟩
    all_goals repeat' (first | exact True.intro | refine leF_cons rfl ?_ ?_ | refine leS_cons rfl ?_ ?_ | (show PLe _ _ _ _; conv => whnf) | (show SLe _ _ _ _; conv => whnf) | (show PLeL _ _ _ _; conv => whnf) | apply And.intro | rfl | exact Nat.le_refl _ | exact fun _ _ => rfl | exact rowEq0 _ _)
  simp [-List.getD_eq_getElem?_getD, -Int.default_eq_zero] at hc
  have h0 : ¬ c.length = 0 := by simpa using hc
  conv => whnf
  refine ⟨?_, fun hc => ?_, fun hc => ?_⟩
  · (try conv => whnf)
    (repeat' (first | exact True.intro | exact fun _ h => h | refine inR64_of ?_ ?_ | apply And.intro | refine maxLen_ge ?_)) <;> (first | omega | (dsimp only; omega) | (dsimp only [List.length_cons, List.length_nil]; omega) | (intro hg; rw [hg]; rfl) | (intro hg hh; rw [hg, hh]; rfl) | (intro hg; simp [-List.getD_eq_getElem?_getD, -Int.default_eq_zero] at hg; first | omega | (refine inR64_of ?_ ?_ <;> omega) | (constructor <;> omega)) | (simp [-List.getD_eq_getElem?_getD, -Int.default_eq_zero]; done))
  · replace hc := of_decide_eq_true hc
    rw [show checkC c = 10 by unfold checkC; rw [if_neg h0, if_pos (by omega)]]
    conv => whnf
    refine ⟨?_, [], ?_⟩
    · (try conv => whnf)
      (repeat' (first | exact True.intro | exact fun _ h => h | refine inR64_of ?_ ?_ | apply And.intro | refine maxLen_ge ?_)) <;> (first | omega | (dsimp only; omega) | (dsimp only [List.length_cons, List.length_nil]; omega) | (intro hg; rw [hg]; rfl) | (intro hg hh; rw [hg, hh]; rfl) | (intro hg; simp [-List.getD_eq_getElem?_getD, -Int.default_eq_zero] at hg; first | omega | (refine inR64_of ?_ ?_ <;> omega) | (constructor <;> omega)) | (simp [-List.getD_eq_getElem?_getD, -Int.default_eq_zero]; done))
    conv => whnf
    refine ⟨rfl, ?_, trivial, trivial⟩
    all_goals repeat' (first | exact True.intro | refine leF_cons rfl ?_ ?_ | refine leS_cons rfl ?_ ?_ | (show PLe _ _ _ _; conv => whnf) | (show SLe _ _ _ _; conv => whnf) | (show PLeL _ _ _ _; conv => whnf) | apply And.intro | rfl | exact Nat.le_refl _ | exact fun _ _ => rfl | exact rowEq0 _ _)
  replace hc := of_decide_eq_false hc
  have h1 : ¬ c.length > 100 := by omega
  have hck : checkC c = scan (errC c) 0 c.length := by unfold checkC; rw [if_neg h0, if_neg h1]
  rw [hck]
  conv => whnf
  refine ⟨trivial, ?_⟩
  refine LSem.loop (n := 61) mix (α := Nat) (fun i => i ≤ c.length ∧ scan (errC c) i (c.length - i) = scan (errC c) 0 c.length ∧ ∀ j, j < i → errC c j = 0)
    (fun i => [(0, .sl τ 2 c.length (fl ePt c)), (13, .sl τ 2 c.length (fl ePt c)), (14, .int .i64 c.length), (15, .int .i64 i)])
    (fun _ => []) (fun i => c.length - i) 0 ?_ ?_ ?_
  · exact ⟨Nat.zero_le _, rfl, fun j hj => by omega⟩
  · refine ⟨rfl, rfl, ?_, ?_⟩
    all_goals repeat' (first | exact True.intro | refine leF_cons rfl ?_ ?_ | refine leS_cons rfl ?_ ?_ | (show PLe _ _ _ _; conv => whnf) | (show SLe _ _ _ _; conv => whnf) | (show PLeL _ _ _ _; conv => whnf) | apply And.intro | rfl | exact Nat.le_refl _ | exact fun _ _ => rfl | exact rowEq0 _ _)
  · intro i hi
    obtain ⟨hi, hs, hall⟩ := hi
    have hj : ((i : Int)).toNat = i := by omega
    conv => whnf
    refine ⟨trivial, fun hc => ?_, fun hc => ?_⟩
    · replace hc := of_decide_eq_true hc
      have hlt : i < c.length := by omega
      have hall' : errC c i = 0 → ∀ j, j < i + 1 → errC c j = 0 := fun h j hj => by
        by_cases e : j = i
        · subst e; exact h
        · exact hall j (by omega)
      have herr : errC c i ≠ 0 → scan (errC c) 0 c.length = errC c i := fun h => by rw [← hs]; exact scan_hit (by omega) h
      have hnext : errC c i = 0 → scan (errC c) (i + 1) (c.length - (i + 1)) = scan (errC c) 0 c.length := fun h => by rw [← hs, scan_step (by omega) h]; congr 1
      conv => whnf
      refine ⟨_, fun _ => call29 (c.getD ((i : Int)).toNat default).x 1073741824, ?_⟩
      conv => whnf
      refine ⟨_, fun _ => call29 (c.getD ((i : Int)).toNat default).y 274877906944, ?_⟩
      conv => whnf
      refine ⟨?_, fun hc1 => ?_, fun hc1 => ?_⟩
      · (try conv => whnf)
        (repeat' (first | exact True.intro | exact fun _ h => h | refine inR64_of ?_ ?_ | apply And.intro | refine maxLen_ge ?_)) <;> (first | omega | (dsimp only; omega) | (dsimp only [List.length_cons, List.length_nil]; omega) | (intro hg; rw [hg]; rfl) | (intro hg hh; rw [hg, hh]; rfl) | (intro hg; simp [-List.getD_eq_getElem?_getD, -Int.default_eq_zero] at hg; first | omega | (refine inR64_of ?_ ?_ <;> omega) | (constructor <;> omega)) | (simp [-List.getD_eq_getElem?_getD, -Int.default_eq_zero]; done))
      · have he : errC c i = 1 := by
          rw [hj] at hc1
          unfold errC
          rw [if_pos (by simp only [bif_t, bif_f, decide_eq_true_eq, decide_eq_false_iff_not, Bool.not_eq_true', Bool.not_eq_false', Bool.and_eq_true, Bool.or_eq_true, Bool.and_eq_false_iff, Bool.or_eq_false_iff, beq_iff_eq, bne_iff_ne, beq_eq_false_iff_ne, bne_eq_false_iff_eq, reduceCtorEq, false_and, and_false, true_and, and_true, or_false, false_or, or_true, true_or, not_true_eq_false, not_false_eq_true, Int.toNat_zero] at hc1; omega)]
        rw [herr (by rw [he]; decide), he]
        conv => whnf
        refine ⟨?_, [], ?_⟩
        · (try conv => whnf)
          (repeat' (first | exact True.intro | exact fun _ h => h | refine inR64_of ?_ ?_ | apply And.intro | refine maxLen_ge ?_)) <;> (first | omega | (dsimp only; omega) | (dsimp only [List.length_cons, List.length_nil]; omega) | (intro hg; rw [hg]; rfl) | (intro hg hh; rw [hg, hh]; rfl) | (intro hg; simp [-List.getD_eq_getElem?_getD, -Int.default_eq_zero] at hg; first | omega | (refine inR64_of ?_ ?_ <;> omega) | (constructor <;> omega)) | (simp [-List.getD_eq_getElem?_getD, -Int.default_eq_zero]; done))
        conv => whnf
        refine ⟨rfl, ?_, trivial, trivial⟩
        all_goals repeat' (first | exact True.intro | refine leF_cons rfl ?_ ?_ | refine leS_cons rfl ?_ ?_ | (show PLe _ _ _ _; conv => whnf) | (show SLe _ _ _ _; conv => whnf) | (show PLeL _ _ _ _; conv => whnf) | apply And.intro | rfl | exact Nat.le_refl _ | exact fun _ _ => rfl | exact rowEq0 _ _)
      have hr : (0 ≤ (c.getD i default).x ∧ (c.getD i default).x ≤ 1073741824) ∧ (0 ≤ (c.getD i default).y ∧ (c.getD i default).y ≤ 274877906944) := by
        rw [hj] at hc1
        simp only [bif_t, bif_f, decide_eq_true_eq, decide_eq_false_iff_not, Bool.not_eq_true', Bool.not_eq_false', Bool.and_eq_true, Bool.or_eq_true, Bool.and_eq_false_iff, Bool.or_eq_false_iff, beq_iff_eq, bne_iff_ne, beq_eq_false_iff_ne, bne_eq_false_iff_eq, reduceCtorEq, false_and, and_false, true_and, and_true, or_false, false_or, or_true, true_or, not_true_eq_false, not_false_eq_true, Int.toNat_zero] at hc1
        omega
      conv => whnf
      refine ⟨trivial, fun hc2 => ?_, fun hc2 => ?_⟩
      · have h0 : i = 0 := by simpa using hc2
        conv => whnf
        have he : errC c i = 0 := by unfold errC; rw [if_neg (by omega), if_pos h0]
        refine ⟨?_, i + 1, ⟨by omega, hnext he, hall' he⟩, ?_, rfl, rfl, ?_, ?_⟩
        · (try conv => whnf)
          (repeat' (first | exact True.intro | exact fun _ h => h | refine inR64_of ?_ ?_ | apply And.intro | refine maxLen_ge ?_)) <;> (first | omega | (dsimp only; omega) | (dsimp only [List.length_cons, List.length_nil]; omega) | (intro hg; rw [hg]; rfl) | (intro hg hh; rw [hg, hh]; rfl) | (intro hg; simp [-List.getD_eq_getElem?_getD, -Int.default_eq_zero] at hg; first | omega | (refine inR64_of ?_ ?_ <;> omega) | (constructor <;> omega)) | (simp [-List.getD_eq_getElem?_getD, -Int.default_eq_zero]; done))
        · omega
        all_goals repeat' (first | exact True.intro | refine leF_cons rfl ?_ ?_ | refine leS_cons rfl ?_ ?_ | (show PLe _ _ _ _; conv => whnf) | (show SLe _ _ _ _; conv => whnf) | (show PLeL _ _ _ _; conv => whnf) | apply And.intro | rfl | exact Nat.le_refl _ | exact fun _ _ => rfl | exact rowEq0 _ _)
        all_goals omega
      have h0 : ¬ i = 0 := by simpa using hc2
      have hj1 : ((i : Int) - 1).toNat = i - 1 := by omega
      have hm1 : (0 ≤ (c.getD (i - 1) default).x ∧ (c.getD (i - 1) default).x ≤ 1073741824) ∧ (0 ≤ (c.getD (i - 1) default).y ∧ (c.getD (i - 1) default).y ≤ 274877906944) := by
        have := hall (i - 1) (by omega)
        unfold errC at this
        split at this
        · cases this
        · omega
      conv => whnf
      refine ⟨rfl, ?_⟩
      conv => whnf
      refine ⟨?_, fun hc3 => ?_, fun hc3 => ?_⟩
      · rw [hj, hj1]
        (try conv => whnf)
        (repeat' (first | exact True.intro | exact fun _ h => h | refine inR64_of ?_ ?_ | apply And.intro | refine maxLen_ge ?_)) <;> (first | omega | (dsimp only; omega) | (dsimp only [List.length_cons, List.length_nil]; omega) | (intro hg; rw [hg]; rfl) | (intro hg hh; rw [hg, hh]; rfl) | (intro hg; simp [-List.getD_eq_getElem?_getD, -Int.default_eq_zero] at hg; first | omega | (refine inR64_of ?_ ?_ <;> omega) | (constructor <;> omega)) | (simp [-List.getD_eq_getElem?_getD, -Int.default_eq_zero]; done))
      · have he : errC c i = 4 := by
          rw [hj, hj1] at hc3
          unfold errC
          rw [if_neg (by omega), if_neg h0, if_pos (by simp only [bif_t, bif_f, decide_eq_true_eq, decide_eq_false_iff_not, Bool.not_eq_true', Bool.not_eq_false', Bool.and_eq_true, Bool.or_eq_true, Bool.and_eq_false_iff, Bool.or_eq_false_iff, beq_iff_eq, bne_iff_ne, beq_eq_false_iff_ne, bne_eq_false_iff_eq, reduceCtorEq, false_and, and_false, true_and, and_true, or_false, false_or, or_true, true_or, not_true_eq_false, not_false_eq_true, Int.toNat_zero] at hc3; omega)]
        rw [herr (by rw [he]; decide), he]
        conv => whnf
        refine ⟨?_, [], ?_⟩
        · (try conv => whnf)
          (repeat' (first | exact True.intro | exact fun _ h => h | refine inR64_of ?_ ?_ | apply And.intro | refine maxLen_ge ?_)) <;> (first | omega | (dsimp only; omega) | (dsimp only [List.length_cons, List.length_nil]; omega) | (intro hg; rw [hg]; rfl) | (intro hg hh; rw [hg, hh]; rfl) | (intro hg; simp [-List.getD_eq_getElem?_getD, -Int.default_eq_zero] at hg; first | omega | (refine inR64_of ?_ ?_ <;> omega) | (constructor <;> omega)) | (simp [-List.getD_eq_getElem?_getD, -Int.default_eq_zero]; done))
        conv => whnf
        refine ⟨rfl, ?_, trivial, trivial⟩
        all_goals repeat' (first | exact True.intro | refine leF_cons rfl ?_ ?_ | refine leS_cons rfl ?_ ?_ | (show PLe _ _ _ _; conv => whnf) | (show SLe _ _ _ _; conv => whnf) | (show PLeL _ _ _ _; conv => whnf) | apply And.intro | rfl | exact Nat.le_refl _ | exact fun _ _ => rfl | exact rowEq0 _ _)
      have hle : ¬ ((c.getD i default).x ≤ (c.getD (i - 1) default).x ∨ (c.getD i default).y < (c.getD (i - 1) default).y) := by
        rw [hj, hj1] at hc3
        simp only [bif_t, bif_f, decide_eq_true_eq, decide_eq_false_iff_not, Bool.not_eq_true', Bool.not_eq_false', Bool.and_eq_true, Bool.or_eq_true, Bool.and_eq_false_iff, Bool.or_eq_false_iff, beq_iff_eq, bne_iff_ne, beq_eq_false_iff_ne, bne_eq_false_iff_eq, reduceCtorEq, false_and, and_false, true_and, and_true, or_false, false_or, or_true, true_or, not_true_eq_false, not_false_eq_true, Int.toNat_zero] at hc3
        omega
      have hdiv : Int.tdiv 4611686018427387904 ((c.getD i default).x - (c.getD (i - 1) default).x) = 4611686018427387904 / ((c.getD i default).x - (c.getD (i - 1) default).x) := Int.tdiv_eq_ediv_of_nonneg (by omega)
      have d1 : 0 ≤ 4611686018427387904 / ((c.getD i default).x - (c.getD (i - 1) default).x) := Int.ediv_nonneg (by omega) (by omega)
      have d2 : 4611686018427387904 / ((c.getD i default).x - (c.getD (i - 1) default).x) ≤ 4611686018427387904 := Int.ediv_le_self _ (by omega)
      conv => whnf
      refine ⟨?_, fun hc4 => ?_, fun hc4 => ?_⟩
      · rw [hj, hj1, hdiv]
        (try conv => whnf)
        (repeat' (first | exact True.intro | exact fun _ h => h | refine inR64_of ?_ ?_ | apply And.intro | refine maxLen_ge ?_)) <;> (first | omega | (dsimp only; omega) | (dsimp only [List.length_cons, List.length_nil]; omega) | (intro hg; rw [hg]; rfl) | (intro hg hh; rw [hg, hh]; rfl) | (intro hg; simp [-List.getD_eq_getElem?_getD, -Int.default_eq_zero] at hg; first | omega | (refine inR64_of ?_ ?_ <;> omega) | (constructor <;> omega)) | (simp [-List.getD_eq_getElem?_getD, -Int.default_eq_zero]; done))
      · replace hc4 := of_decide_eq_true hc4
        rw [hj, hj1, hdiv] at hc4
        have he : errC c i = 1 := by
          unfold errC
          rw [if_neg (by omega), if_neg h0, if_neg hle, if_pos (by unfold steepF; exact decide_eq_true ⟨by omega, hc4⟩)]
        rw [herr (by rw [he]; decide), he]
        conv => whnf
        refine ⟨?_, [], ?_⟩
        · (try conv => whnf)
          (repeat' (first | exact True.intro | exact fun _ h => h | refine inR64_of ?_ ?_ | apply And.intro | refine maxLen_ge ?_)) <;> (first | omega | (dsimp only; omega) | (dsimp only [List.length_cons, List.length_nil]; omega) | (intro hg; rw [hg]; rfl) | (intro hg hh; rw [hg, hh]; rfl) | (intro hg; simp [-List.getD_eq_getElem?_getD, -Int.default_eq_zero] at hg; first | omega | (refine inR64_of ?_ ?_ <;> omega) | (constructor <;> omega)) | (simp [-List.getD_eq_getElem?_getD, -Int.default_eq_zero]; done))
        conv => whnf
        refine ⟨rfl, ?_, trivial, trivial⟩
        all_goals repeat' (first | exact True.intro | refine leF_cons rfl ?_ ?_ | refine leS_cons rfl ?_ ?_ | (show PLe _ _ _ _; conv => whnf) | (show SLe _ _ _ _; conv => whnf) | (show PLeL _ _ _ _; conv => whnf) | apply And.intro | rfl | exact Nat.le_refl _ | exact fun _ _ => rfl | exact rowEq0 _ _)
      · replace hc4 := of_decide_eq_false hc4
        rw [hj, hj1, hdiv] at hc4
        have he : errC c i = 0 := by
          unfold errC
          rw [if_neg (by omega), if_neg h0, if_neg hle, if_neg (by unfold steepF; intro h; exact hc4 (of_decide_eq_true h).2)]
        conv => whnf
        refine ⟨?_, i + 1, ⟨by omega, hnext he, hall' he⟩, ?_, rfl, rfl, ?_, ?_⟩
        · (try conv => whnf)
          (repeat' (first | exact True.intro | exact fun _ h => h | refine inR64_of ?_ ?_ | apply And.intro | refine maxLen_ge ?_)) <;> (first | omega | (dsimp only; omega) | (dsimp only [List.length_cons, List.length_nil]; omega) | (intro hg; rw [hg]; rfl) | (intro hg hh; rw [hg, hh]; rfl) | (intro hg; simp [-List.getD_eq_getElem?_getD, -Int.default_eq_zero] at hg; first | omega | (refine inR64_of ?_ ?_ <;> omega) | (constructor <;> omega)) | (simp [-List.getD_eq_getElem?_getD, -Int.default_eq_zero]; done))
        · omega
        all_goals repeat' (first | exact True.intro | refine leF_cons rfl ?_ ?_ | refine leS_cons rfl ?_ ?_ | (show PLe _ _ _ _; conv => whnf) | (show SLe _ _ _ _; conv => whnf) | (show PLeL _ _ _ _; conv => whnf) | apply And.intro | rfl | exact Nat.le_refl _ | exact fun _ _ => rfl | exact rowEq0 _ _)
        all_goals omega
    · replace hc := of_decide_eq_false hc
      rw [show c.length - i = 0 by omega] at hs
      rw [← hs]
      conv => whnf
      refine ⟨?_, [], ?_⟩
      · (try conv => whnf)
        (repeat' (first | exact True.intro | exact fun _ h => h | refine inR64_of ?_ ?_ | apply And.intro | refine maxLen_ge ?_)) <;> (first | omega | (dsimp only; omega) | (dsimp only [List.length_cons, List.length_nil]; omega) | (intro hg; rw [hg]; rfl) | (intro hg hh; rw [hg, hh]; rfl) | (intro hg; simp [-List.getD_eq_getElem?_getD, -Int.default_eq_zero] at hg; first | omega | (refine inR64_of ?_ ?_ <;> omega) | (constructor <;> omega)) | (simp [-List.getD_eq_getElem?_getD, -Int.default_eq_zero]; done))
      conv => whnf
      refine ⟨rfl, ?_, trivial, trivial⟩
      all_goals repeat' (first | exact True.intro | refine leF_cons rfl ?_ ?_ | refine leS_cons rfl ?_ ?_ | (show PLe _ _ _ _; conv => whnf) | (show SLe _ _ _ _; conv => whnf) | (show PLeL _ _ _ _; conv => whnf) | apply And.intro | rfl | exact Nat.le_refl _ | exact fun _ _ => rfl | exact rowEq0 _ _)

set_option maxRecDepth 100000 in
set_option maxHeartbeats 4000000 in
theorem call24 (τ : Nat) (c : List Pt) (x : Int) (hg : GoodC c) : PureCall Try.prog 24 [.sl τ 2 c.length (fl ePt c), .int .i64 x] [] ⟨.int .i64 (valC c x), [], []⟩ := by
  have hle := hg.le
  have hne := hg.ne
  refine pure_call mix Try.func24 fits24 rfl ?_
  conv => whnf
  refine ⟨?_, fun hc => ?_, fun hc => ?_⟩
  · (try conv => whnf)
    (repeat' (first | exact True.intro | exact fun _ h => h | refine inR64_of ?_ ?_ | apply And.intro | refine maxLen_ge ?_)) <;> (first | omega | (dsimp only; omega) | (dsimp only [List.length_cons, List.length_nil]; omega) | (intro hg; rw [hg]; rfl) | (intro hg hh; rw [hg, hh]; rfl) | (intro hg; simp [-List.getD_eq_getElem?_getD, -Int.default_eq_zero] at hg; first | omega | (refine inR64_of ?_ ?_ <;> omega) | (constructor <;> omega)) | (simp [-List.getD_eq_getElem?_getD, -Int.default_eq_zero]; done))
  · replace hc := of_decide_eq_true hc
    rw [val_lo hg hc]
    conv => whnf
    refine ⟨?_, [], ?_⟩
    · (try conv => whnf)
      (repeat' (first | exact True.intro | exact fun _ h => h | refine inR64_of ?_ ?_ | apply And.intro | refine maxLen_ge ?_)) <;> (first | omega | (dsimp only; omega) | (dsimp only [List.length_cons, List.length_nil]; omega) | (intro hg; rw [hg]; rfl) | (intro hg hh; rw [hg, hh]; rfl) | (intro hg; simp [-List.getD_eq_getElem?_getD, -Int.default_eq_zero] at hg; first | omega | (refine inR64_of ?_ ?_ <;> omega) | (constructor <;> omega)) | (simp [-List.getD_eq_getElem?_getD, -Int.default_eq_zero]; done))
    conv => whnf
    refine ⟨rfl, ?_, trivial, trivial⟩
    all_goals repeat' (first | exact True.intro | refine leF_cons rfl ?_ ?_ | refine leS_cons rfl ?_ ?_ | (show PLe _ _ _ _; conv => whnf) | (show SLe _ _ _ _; conv => whnf) | (show PLeL _ _ _ _; conv => whnf) | apply And.intro | rfl | exact Nat.le_refl _ | exact fun _ _ => rfl | exact rowEq0 _ _)
  replace hc := of_decide_eq_false hc
  have hlo : (c.getD 0 default).x < x := by
    have h : ¬ x ≤ (c.getD 0 default).x := hc
    omega
  clear hc
  conv => whnf
  refine ⟨trivial, ?_⟩
  refine LSem.loop (n := 66) mix (α := Nat) (fun i => 1 ≤ i ∧ i ≤ c.length ∧ (c.getD (i - 1) default).x ≤ x)
    (fun i => [(0, .sl τ 2 c.length (fl ePt c)), (1, .int .i64 x), (5, .int .i64 i)])
    (fun _ => []) (fun i => c.length - i) 1 ?_ ?_ ?_
  · exact ⟨Nat.le_refl _, by omega, Int.le_of_lt hlo⟩
  · refine ⟨rfl, rfl, ?_, ?_⟩
    all_goals repeat' (first | exact True.intro | refine leF_cons rfl ?_ ?_ | refine leS_cons rfl ?_ ?_ | (show PLe _ _ _ _; conv => whnf) | (show SLe _ _ _ _; conv => whnf) | (show PLeL _ _ _ _; conv => whnf) | apply And.intro | rfl | exact Nat.le_refl _ | exact fun _ _ => rfl | exact rowEq0 _ _)
  · intro i hi
    obtain ⟨h1, hi, hx⟩ := hi
    have hj : ((i : Int)).toNat = i := by omega
    have hj1 : ((i : Int) - 1).toNat = i - 1 := by omega
    conv => whnf
    refine ⟨trivial, fun hc => ?_, fun hc => ?_⟩
    · replace hc := of_decide_eq_true hc
      have hlt : i < c.length := by omega
      conv => whnf
      refine ⟨?_, fun hc1 => ?_, fun hc1 => ?_⟩
      · (try conv => whnf)
        (repeat' (first | exact True.intro | exact fun _ h => h | refine inR64_of ?_ ?_ | apply And.intro | refine maxLen_ge ?_)) <;> (first | omega | (dsimp only; omega) | (dsimp only [List.length_cons, List.length_nil]; omega) | (intro hg; rw [hg]; rfl) | (intro hg hh; rw [hg, hh]; rfl) | (intro hg; simp [-List.getD_eq_getElem?_getD, -Int.default_eq_zero] at hg; first | omega | (refine inR64_of ?_ ?_ <;> omega) | (constructor <;> omega)) | (simp [-List.getD_eq_getElem?_getD, -Int.default_eq_zero]; done))
      · replace hc1 := of_decide_eq_true hc1
        rw [hj] at hc1
        rw [val_seg hg (by omega) hlt hx (by omega)]
        unfold lineF
        have hr := hg.rng i hlt
        have hr1 := hg.rng (i - 1) (by omega)
        have hu := hg.up i (by omega) hlt
        conv => whnf
        refine ⟨rfl, ?_⟩
        conv => whnf
        refine ⟨rfl, ?_⟩
        conv => whnf
        have hp : 0 ≤ ((c.getD ((i : Int)).toNat default).y - (c.getD ((i : Int) - 1).toNat default).y) * (x - (c.getD ((i : Int) - 1).toNat default).x) ∧ ((c.getD ((i : Int)).toNat default).y - (c.getD ((i : Int) - 1).toNat default).y) * (x - (c.getD ((i : Int) - 1).toNat default).x) ≤ 4611686018427387904 := by
          rw [hj, hj1]
          exact prod_le (by omega) (Int.le_refl _) (by omega) (by omega) hu.2.2
        have hq : Int.tdiv (((c.getD ((i : Int)).toNat default).y - (c.getD ((i : Int) - 1).toNat default).y) * (x - (c.getD ((i : Int) - 1).toNat default).x)) ((c.getD ((i : Int)).toNat default).x - (c.getD ((i : Int) - 1).toNat default).x) = (((c.getD ((i : Int)).toNat default).y - (c.getD ((i : Int) - 1).toNat default).y) * (x - (c.getD ((i : Int) - 1).toNat default).x)) / ((c.getD ((i : Int)).toNat default).x - (c.getD ((i : Int) - 1).toNat default).x) := Int.tdiv_eq_ediv_of_nonneg hp.1
        have hq2 : 0 ≤ (((c.getD ((i : Int)).toNat default).y - (c.getD ((i : Int) - 1).toNat default).y) * (x - (c.getD ((i : Int) - 1).toNat default).x)) / ((c.getD ((i : Int)).toNat default).x - (c.getD ((i : Int) - 1).toNat default).x) := Int.ediv_nonneg hp.1 (by rw [hj, hj1]; omega)
        have hq3 : (((c.getD ((i : Int)).toNat default).y - (c.getD ((i : Int) - 1).toNat default).y) * (x - (c.getD ((i : Int) - 1).toNat default).x)) / ((c.getD ((i : Int)).toNat default).x - (c.getD ((i : Int) - 1).toNat default).x) ≤ ((c.getD ((i : Int)).toNat default).y - (c.getD ((i : Int) - 1).toNat default).y) := by
          rw [hj, hj1]
          refine Int.ediv_le_of_le_mul (by omega) (Int.mul_le_mul_of_nonneg_left (by omega) (by omega))
        refine ⟨?_, [], ?_⟩
        · rw [hq]
          rw [hj, hj1] at hq2 hq3 hp ⊢
          (try conv => whnf)
          (repeat' (first | exact True.intro | exact fun _ h => h | refine inR64_of ?_ ?_ | apply And.intro | refine maxLen_ge ?_)) <;> (first | omega | (dsimp only; omega) | (dsimp only [List.length_cons, List.length_nil]; omega) | (intro hg; rw [hg]; rfl) | (intro hg hh; rw [hg, hh]; rfl) | (intro hg; simp [-List.getD_eq_getElem?_getD, -Int.default_eq_zero] at hg; first | omega | (refine inR64_of ?_ ?_ <;> omega) | (constructor <;> omega)) | (simp [-List.getD_eq_getElem?_getD, -Int.default_eq_zero]; done))
        conv => whnf
        refine ⟨rfl, ?_, trivial, trivial⟩
        all_goals repeat' (first | exact True.intro | refine leF_cons rfl ?_ ?_ | refine leS_cons rfl ?_ ?_ | (show PLe _ _ _ _; conv => whnf) | (show SLe _ _ _ _; conv => whnf) | (show PLeL _ _ _ _; conv => whnf) | apply And.intro | rfl | exact Nat.le_refl _ | exact fun _ _ => rfl | exact rowEq0 _ _)
        rw [hq, hj, hj1]
      · replace hc1 := of_decide_eq_false hc1
        rw [hj] at hc1
        conv => whnf
        refine ⟨?_, i + 1, ⟨by omega, by omega, by rw [Nat.add_sub_cancel]; omega⟩, ?_, rfl, rfl, ?_, ?_⟩
        · (try conv => whnf)
          (repeat' (first | exact True.intro | exact fun _ h => h | refine inR64_of ?_ ?_ | apply And.intro | refine maxLen_ge ?_)) <;> (first | omega | (dsimp only; omega) | (dsimp only [List.length_cons, List.length_nil]; omega) | (intro hg; rw [hg]; rfl) | (intro hg hh; rw [hg, hh]; rfl) | (intro hg; simp [-List.getD_eq_getElem?_getD, -Int.default_eq_zero] at hg; first | omega | (refine inR64_of ?_ ?_ <;> omega) | (constructor <;> omega)) | (simp [-List.getD_eq_getElem?_getD, -Int.default_eq_zero]; done))
        · omega
        all_goals repeat' (first | exact True.intro | refine leF_cons rfl ?_ ?_ | refine leS_cons rfl ?_ ?_ | (show PLe _ _ _ _; conv => whnf) | (show SLe _ _ _ _; conv => whnf) | (show PLeL _ _ _ _; conv => whnf) | apply And.intro | rfl | exact Nat.le_refl _ | exact fun _ _ => rfl | exact rowEq0 _ _)
        all_goals omega
    · replace hc := of_decide_eq_false hc
      have : i = c.length := by omega
      subst this
      rw [val_hi hg hx]
      conv => whnf
      refine ⟨?_, [], ?_⟩
      · (try conv => whnf)
        (repeat' (first | exact True.intro | exact fun _ h => h | refine inR64_of ?_ ?_ | apply And.intro | refine maxLen_ge ?_)) <;> (first | omega | (dsimp only; omega) | (dsimp only [List.length_cons, List.length_nil]; omega) | (intro hg; rw [hg]; rfl) | (intro hg hh; rw [hg, hh]; rfl) | (intro hg; simp [-List.getD_eq_getElem?_getD, -Int.default_eq_zero] at hg; first | omega | (refine inR64_of ?_ ?_ <;> omega) | (constructor <;> omega)) | (simp [-List.getD_eq_getElem?_getD, -Int.default_eq_zero]; done))
      conv => whnf
      refine ⟨rfl, ?_, trivial, trivial⟩
      all_goals repeat' (first | exact True.intro | refine leF_cons rfl ?_ ?_ | refine leS_cons rfl ?_ ?_ | (show PLe _ _ _ _; conv => whnf) | (show SLe _ _ _ _; conv => whnf) | (show PLeL _ _ _ _; conv => whnf) | apply And.intro | rfl | exact Nat.le_refl _ | exact fun _ _ => rfl | exact rowEq0 _ _)
      rw [hj1]
end Pv
end Go.Proofs.Ytedoglkonfckkaa
