/- LAW 08: QualityFills. -/
import Derived.Test.YtogoplhikmmggaaQ4
set_option linter.unusedSimpArgs false
set_option linter.unusedVariables false
namespace Go.Proofs.Ytogoplhikmmggaa
namespace Pv
def c4L2 : C := (.seq (.seq (.reg [⟨(some 78), 1248, none, .mv (.t 15)⟩,
    ⟨(some 79), 1264, none, .mv (.t 6)⟩,
    ⟨(some 80), 1280, none, .len (.t 79)⟩,
    ⟨(some 81), 1296, none, .bi false .lss (.t 78) (.t 80)⟩,
    ⟨(some 82), 1312, none, .mv (.t 81)⟩,
    ⟨(some 83), 1328, (some (82, true)), .mv (.t 7)⟩,
    ⟨(some 84), 1344, (some (82, true)), .mv (.t 15)⟩,
    ⟨(some 85), 1360, (some (82, true)), .ia 1 (.t 83) (.t 84)⟩,
    ⟨(some 86), 1376, (some (82, true)), .ld 1 false (.t 85)⟩,
    ⟨(some 87), 1392, (some (82, true)), .un false .not (.t 86)⟩,
    ⟨(some 88), 1408, none, .pick (.t 82) (.t 87) (.c (.bool false))⟩])
  (.cond (.t 88) .skip (.exit 2)))
  (.block 3 (.reg [⟨(some 89), 1424, none, .mv (.t 15)⟩,
    ⟨(some 90), 1440, none, .bi false .add (.t 89) (.c (.int .i64 1))⟩,
    ⟨(some 15), 240, none, .mv (.t 90)⟩])))
def c4L1 : C := (.seq (.reg [⟨(some 61), 976, none, .bi false .lss (.t 60) (.t 59)⟩])
  (.seq (.cond (.t 61) .skip (.exit 0))
  (.seq (.block 1 (.seq (.reg [⟨(some 62), 992, none, .mv (.t 60)⟩,
    ⟨(some 14), 224, none, .mv (.t 62)⟩])
  (.seq (.seq (.reg [⟨(some 63), 1008, none, .mv (.t 7)⟩,
    ⟨(some 64), 1024, none, .mv (.t 14)⟩,
    ⟨(some 65), 1040, none, .ia 1 (.t 63) (.t 64)⟩,
    ⟨(some 66), 1056, none, .ld 1 false (.t 65)⟩])
  (.cond (.t 66) (.seq (.seq (.drw [⟨(some 67), 1072, none, .mv (.t 9)⟩,
    ⟨(some 68), 1088, none, .mv (.t 14)⟩,
    ⟨(some 69), 1104, none, .ia 1 (.t 67) (.t 68)⟩,
    ⟨(some 70), 1120, none, .ld 1 false (.t 69)⟩,
    ⟨(some 71), 1136, none, .mv (.t 6)⟩,
    ⟨(some 72), 1152, none, .mv (.t 14)⟩,
    ⟨(some 73), 1168, none, .ia 1 (.t 71) (.t 72)⟩,
    ⟨(some 74), 1184, none, .ld 1 false (.t 73)⟩,
    ⟨(some 75), 1200, none, .bi false .neq (.t 70) (.t 74)⟩]
    [(0, 1, 67), (0, 4, 67), (0, 5, 67), (0, 6, 67), (0, 7, 67), (1, 4, 68), (1, 5, 68), (1, 6, 68), (1, 7, 68), (2, 4, 69), (2, 5, 69), (2, 6, 69), (2, 7, 69), (3, 4, 70), (3, 5, 70), (3, 6, 70), (3, 7, 70), (4, 5, 71)])
  (.cond (.t 75) (.seq (.reg [⟨(some 4), 64, none, .mv (.c (.bool false))⟩])
  .ret) .skip))
  (.seq (.reg [⟨(some 76), 1216, none, .mv (.t 14)⟩,
    ⟨(some 13), 208, none, .mv (.t 76)⟩])
  (.exit 1))) .skip))
  (.seq (.reg [⟨(some 77), 1232, none, .mv (.t 14)⟩,
    ⟨(some 15), 240, none, .mv (.t 77)⟩])
  (.seq (.block 2 (.loop c4L2))
  (.block 4 (.seq (.reg [⟨(some 92), 1472, none, .mv (.t 13)⟩,
    ⟨(some 93), 1488, none, .bi false .lss (.t 92) (.c (.int .i64 0))⟩,
    ⟨(some 91), 1456, none, .mv (.t 93)⟩])
  (.cond (.t 91) (.seq (.reg [⟨(some 94), 1504, none, .mv (.t 9)⟩,
    ⟨(some 95), 1520, none, .mv (.t 14)⟩,
    ⟨(some 96), 1536, none, .ia 1 (.t 94) (.t 95)⟩,
    ⟨(some 97), 1552, none, .ld 1 false (.t 96)⟩,
    ⟨(some 98), 1568, none, .mv (.t 8)⟩,
    ⟨(some 99), 1584, none, .bi false .neq (.t 97) (.t 98)⟩])
  (.cond (.t 99) (.seq (.reg [⟨(some 4), 64, none, .mv (.c (.bool false))⟩])
  .ret) .skip)) (.seq (.reg [⟨(some 101), 1616, none, .mv (.t 15)⟩,
    ⟨(some 102), 1632, none, .mv (.t 6)⟩,
    ⟨(some 103), 1648, none, .len (.t 102)⟩,
    ⟨(some 104), 1664, none, .bi false .eql (.t 101) (.t 103)⟩,
    ⟨(some 100), 1600, none, .mv (.t 104)⟩])
  (.cond (.t 100) (.seq (.drw [⟨(some 105), 1680, none, .mv (.t 9)⟩,
    ⟨(some 106), 1696, none, .mv (.t 14)⟩,
    ⟨(some 107), 1712, none, .ia 1 (.t 105) (.t 106)⟩,
    ⟨(some 108), 1728, none, .ld 1 false (.t 107)⟩,
    ⟨(some 109), 1744, none, .mv (.t 6)⟩,
    ⟨(some 110), 1760, none, .mv (.t 13)⟩,
    ⟨(some 111), 1776, none, .ia 1 (.t 109) (.t 110)⟩,
    ⟨(some 112), 1792, none, .ld 1 false (.t 111)⟩,
    ⟨(some 113), 1808, none, .bi false .neq (.t 108) (.t 112)⟩]
    [(0, 1, 105), (0, 4, 105), (0, 5, 105), (0, 6, 105), (0, 7, 105), (1, 4, 106), (1, 5, 106), (1, 6, 106), (1, 7, 106), (2, 4, 107), (2, 5, 107), (2, 6, 107), (2, 7, 107), (3, 4, 108), (3, 5, 108), (3, 6, 108), (3, 7, 108), (4, 5, 109)])
  (.cond (.t 113) (.seq (.reg [⟨(some 4), 64, none, .mv (.c (.bool false))⟩])
  .ret) .skip)) (.seq (.drw [⟨(some 115), 1840, none, .mv (.t 9)⟩,
    ⟨(some 116), 1856, none, .mv (.t 14)⟩,
    ⟨(some 117), 1872, none, .ia 1 (.t 115) (.t 116)⟩,
    ⟨(some 118), 1888, none, .ld 1 false (.t 117)⟩,
    ⟨(some 119), 1904, none, .mv (.t 6)⟩,
    ⟨(some 120), 1920, none, .mv (.t 13)⟩,
    ⟨(some 121), 1936, none, .ia 1 (.t 119) (.t 120)⟩,
    ⟨(some 122), 1952, none, .ld 1 false (.t 121)⟩,
    ⟨(some 123), 1968, none, .mv (.t 6)⟩,
    ⟨(some 124), 1984, none, .mv (.t 15)⟩,
    ⟨(some 125), 2000, none, .ia 1 (.t 123) (.t 124)⟩,
    ⟨(some 126), 2016, none, .ld 1 false (.t 125)⟩,
    ⟨(some 127), 2032, none, .mn [(.t 122), (.t 126)]⟩,
    ⟨(some 128), 2048, none, .bi false .lss (.t 118) (.t 127)⟩,
    ⟨(some 129), 2064, none, .mv (.t 128)⟩,
    ⟨(some 130), 2080, (some (129, false)), .mv (.t 9)⟩,
    ⟨(some 131), 2096, (some (129, false)), .mv (.t 14)⟩,
    ⟨(some 132), 2112, (some (129, false)), .ia 1 (.t 130) (.t 131)⟩,
    ⟨(some 133), 2128, (some (129, false)), .ld 1 false (.t 132)⟩,
    ⟨(some 134), 2144, (some (129, false)), .mv (.t 6)⟩,
    ⟨(some 135), 2160, (some (129, false)), .mv (.t 13)⟩,
    ⟨(some 136), 2176, (some (129, false)), .ia 1 (.t 134) (.t 135)⟩,
    ⟨(some 137), 2192, (some (129, false)), .ld 1 false (.t 136)⟩,
    ⟨(some 138), 2208, (some (129, false)), .mv (.t 6)⟩,
    ⟨(some 139), 2224, (some (129, false)), .mv (.t 15)⟩,
    ⟨(some 140), 2240, (some (129, false)), .ia 1 (.t 138) (.t 139)⟩,
    ⟨(some 141), 2256, (some (129, false)), .ld 1 false (.t 140)⟩,
    ⟨(some 142), 2272, (some (129, false)), .mx [(.t 137), (.t 141)]⟩,
    ⟨(some 143), 2288, (some (129, false)), .bi false .gtr (.t 133) (.t 142)⟩,
    ⟨(some 144), 2304, none, .pick (.t 129) (.c (.bool true)) (.t 143)⟩,
    ⟨(some 114), 1824, none, .mv (.t 144)⟩]
    [(0, 1, 115), (0, 4, 115), (0, 5, 115), (0, 6, 115), (0, 7, 115), (0, 8, 115), (0, 9, 115), (0, 10, 115), (0, 11, 115), (0, 12, 115), (1, 4, 116), (1, 5, 116), (1, 6, 116), (1, 7, 116), (1, 8, 116), (1, 9, 116), (1, 10, 116), (1, 11, 116), (1, 12, 116), (2, 4, 117), (2, 5, 117), (2, 6, 117), (2, 7, 117), (2, 8, 117), (2, 9, 117), (2, 10, 117), (2, 11, 117), (2, 12, 117), (3, 4, 118), (3, 5, 118), (3, 6, 118), (3, 7, 118), (3, 8, 118), (3, 9, 118), (3, 10, 118), (3, 11, 118), (3, 12, 118), (4, 5, 119), (4, 8, 119), (4, 9, 119), (4, 10, 119), (4, 11, 119), (5, 8, 120), (5, 9, 120), (5, 10, 120), (5, 11, 120), (6, 8, 121), (6, 9, 121), (6, 10, 121), (6, 11, 121), (7, 8, 122), (7, 9, 122), (7, 10, 122), (7, 11, 122), (8, 9, 123), (15, 16, 130), (15, 19, 130), (15, 20, 130), (15, 21, 130), (15, 22, 130), (15, 23, 130), (15, 24, 130), (15, 25, 130), (15, 26, 130), (15, 27, 130), (16, 19, 131), (16, 20, 131), (16, 21, 131), (16, 22, 131), (16, 23, 131), (16, 24, 131), (16, 25, 131), (16, 26, 131), (16, 27, 131), (17, 19, 132), (17, 20, 132), (17, 21, 132), (17, 22, 132), (17, 23, 132), (17, 24, 132), (17, 25, 132), (17, 26, 132), (17, 27, 132), (18, 19, 133), (18, 20, 133), (18, 21, 133), (18, 22, 133), (18, 23, 133), (18, 24, 133), (18, 25, 133), (18, 26, 133), (18, 27, 133), (19, 20, 134), (19, 23, 134), (19, 24, 134), (19, 25, 134), (19, 26, 134), (20, 23, 135), (20, 24, 135), (20, 25, 135), (20, 26, 135), (21, 23, 136), (21, 24, 136), (21, 25, 136), (21, 26, 136), (22, 23, 137), (22, 24, 137), (22, 25, 137), (22, 26, 137), (23, 24, 138)])
  (.cond (.t 114) (.seq (.reg [⟨(some 4), 64, none, .mv (.c (.bool false))⟩])
  .ret) .skip))))))))))))
  (.reg [⟨(some 145), 2320, none, .bi false .add (.t 60) (.c (.int .i64 1))⟩,
    ⟨(some 60), 960, none, .mv (.t 145)⟩]))))
def c4 : C := (.seq (.reg [⟨(some 4), 64, none, .mv (.c (.bool false))⟩])
  (.seq (.reg [⟨(some 16), 256, none, .mv (.t 0)⟩,
    ⟨(some 17), 272, none, .call (.c (.fn (.func 11) [] [])) [(.t 16)]⟩,
    ⟨(some 5), 80, none, .mv (.t 17)⟩])
  (.seq (.reg [⟨(some 19), 304, none, .mv (.t 5)⟩,
    ⟨(some 20), 320, none, .call (.c (.fn (.func 12) [] [])) [(.t 19), (.c (.int .i64 14))]⟩,
    ⟨(some 18), 288, none, .mv (.t 20)⟩,
    ⟨(some 21), 336, none, .ex (.t 18) 0⟩,
    ⟨(some 22), 352, none, .ex (.t 18) 1⟩,
    ⟨(some 6), 96, none, .mv (.t 21)⟩,
    ⟨(some 7), 112, none, .mv (.t 22)⟩])
  (.seq (.reg [⟨(some 23), 368, none, .mv (.t 1)⟩,
    ⟨(some 24), 384, none, .call (.c (.fn (.func 15) [] [])) [(.t 23), (.c (.int .i64 60))]⟩,
    ⟨(some 8), 128, none, .mv (.t 24)⟩])
  (.seq (.reg [⟨(some 26), 416, none, .mv (.t 6)⟩,
    ⟨(some 27), 432, none, .mv (.t 7)⟩,
    ⟨(some 28), 448, none, .mv (.t 8)⟩,
    ⟨(some 29), 464, none, .call (.c (.fn (.func 16) [] [])) [(.t 26), (.t 27), (.t 28)]⟩,
    ⟨(some 25), 400, none, .mv (.t 29)⟩,
    ⟨(some 30), 480, none, .ex (.t 25) 0⟩,
    ⟨(some 31), 496, none, .ex (.t 25) 1⟩,
    ⟨(some 9), 144, none, .mv (.t 30)⟩,
    ⟨(some 10), 160, none, .mv (.t 31)⟩])
  (.seq (.reg [⟨(some 33), 528, none, .mv (.t 9)⟩,
    ⟨(some 34), 544, none, .mv (.t 7)⟩,
    ⟨(some 35), 560, none, .mv (.t 8)⟩,
    ⟨(some 36), 576, none, .call (.c (.fn (.func 16) [] [])) [(.t 33), (.t 34), (.t 35)]⟩,
    ⟨(some 32), 512, none, .mv (.t 36)⟩,
    ⟨(some 37), 592, none, .ex (.t 32) 0⟩,
    ⟨(some 38), 608, none, .ex (.t 32) 1⟩,
    ⟨(some 11), 176, none, .mv (.t 37)⟩,
    ⟨(some 12), 192, none, .mv (.t 38)⟩])
  (.seq (.seq (.reg [⟨(some 39), 624, none, .mv (.t 10)⟩,
    ⟨(some 40), 640, none, .bi false .neq (.t 39) (.c (.int .i64 0))⟩,
    ⟨(some 41), 656, none, .mv (.t 40)⟩,
    ⟨(some 42), 672, (some (41, false)), .mv (.t 12)⟩,
    ⟨(some 43), 688, (some (41, false)), .bi false .neq (.t 42) (.c (.int .i64 0))⟩,
    ⟨(some 44), 704, none, .pick (.t 41) (.c (.bool true)) (.t 43)⟩,
    ⟨(some 45), 720, none, .mv (.t 44)⟩,
    ⟨(some 46), 736, (some (45, false)), .mv (.t 9)⟩,
    ⟨(some 47), 752, (some (45, false)), .len (.t 46)⟩,
    ⟨(some 48), 768, (some (45, false)), .mv (.t 6)⟩,
    ⟨(some 49), 784, (some (45, false)), .len (.t 48)⟩,
    ⟨(some 50), 800, (some (45, false)), .bi false .neq (.t 47) (.t 49)⟩,
    ⟨(some 51), 816, none, .pick (.t 45) (.c (.bool true)) (.t 50)⟩,
    ⟨(some 52), 832, none, .mv (.t 51)⟩,
    ⟨(some 53), 848, (some (52, false)), .mv (.t 9)⟩,
    ⟨(some 54), 864, (some (52, false)), .mv (.t 11)⟩,
    ⟨(some 55), 880, (some (52, false)), .call (.c (.fn (.func 17) [] [])) [(.t 53), (.t 54)]⟩,
    ⟨(some 56), 896, (some (52, false)), .un false .not (.t 55)⟩,
    ⟨(some 57), 912, none, .pick (.t 52) (.c (.bool true)) (.t 56)⟩])
  (.cond (.t 57) (.seq (.reg [⟨(some 4), 64, none, .mv (.c (.bool false))⟩])
  .ret) .skip))
  (.seq (.reg [⟨(some 13), 208, none, .mv (.c (.int .i64 (-1)))⟩])
  (.seq (.seq (.reg [⟨(some 58), 928, none, .mv (.t 6)⟩,
    ⟨(some 59), 944, none, .len (.t 58)⟩,
    ⟨(some 60), 960, none, .mv (.c (.int .i64 0))⟩])
  (.block 0 (.loop c4L1)))
  (.seq (.reg [⟨(some 146), 2336, none, .call (.c (.fn (.func 14) [] [])) []⟩,
    ⟨(some 4), 64, none, .mv (.t 146)⟩])
  .ret))))))))))
theorem fits4 : fits Try.prog false Try.f4 2 147 [(4, none)] = some c4.er := by kernel_rfl

theorem line_between {A B t T : Int} (hT : 0 < T) (h0 : 0 ≤ t) (h1 : t ≤ T) : min A B ≤ A + (B - A) * t / T ∧ A + (B - A) * t / T ≤ max A B := by
  by_cases h : A ≤ B
  · have a1 : (B - A) * t ≤ (B - A) * T := Int.mul_le_mul_of_nonneg_left h1 (by omega)
    have a2 : 0 ≤ (B - A) * t := Int.mul_nonneg (by omega) h0
    have b1 : (B - A) * t / T ≤ B - A := Int.ediv_le_of_le_mul hT a1
    have b2 : 0 ≤ (B - A) * t / T := Int.ediv_nonneg a2 (by omega)
    omega
  · have a1 : (A - B) * t ≤ (A - B) * T := Int.mul_le_mul_of_nonneg_left h1 (by omega)
    have a2 : 0 ≤ (A - B) * t := Int.mul_nonneg (by omega) h0
    have e1 : (B - A) * t = -((A - B) * t) := by grind
    have e2 : (B - A) * T = -((A - B) * T) := by grind
    have b1 : B - A ≤ (B - A) * t / T := (Int.le_ediv_iff_mul_le hT).2 (by omega)
    have b2 : (B - A) * t / T ≤ 0 := Int.ediv_le_of_le_mul hT (by omega)
    omega
theorem next_first {g : List Bool} {i j : Nat} (hij : i ≤ j) (h : ∀ k, i ≤ k → k < j → g.getD k default = false) (hj : j < g.length) (hg : g.getD j default = true) : nextG g i = (j : Int) - i := by
  by_cases hn : nextG g i < 0
  · have := nextG_neg hn j hij hj
    rw [hg] at this; cases this
  · obtain ⟨k, h1, h2, h3, h4⟩ := nextG_pos (show 0 ≤ nextG g i by omega)
    by_cases c1 : i + k < j
    · have := h (i + k) (by omega) c1
      rw [h3] at this; cases this
    · by_cases c2 : j < i + k
      · have := h4 j hij c2
        rw [hg] at this; cases this
      · omega
theorem next_none {g : List Bool} {i : Nat} (h : ∀ k, i ≤ k → k < g.length → g.getD k default = false) : nextG g i < 0 := by
  by_cases hn : nextG g i < 0
  · exact hn
  · obtain ⟨k, h1, h2, h3, h4⟩ := nextG_pos (show 0 ≤ nextG g i by omega)
    have := h (i + k) (by omega) h2
    rw [h3] at this; cases this
theorem fv_rng {v : List Int} {g : List Bool} {x : Int} (hl : v.length = g.length) (hv : ∀ i, i < v.length → 0 ≤ v.getD i default ∧ v.getD i default < 60) (hx : 0 ≤ x ∧ x < 60) {i : Nat} (hi : i < v.length) : 0 ≤ fv v g x i ∧ fv v g x i < 60 := by
  have hp := prevG_lt g i
  unfold fv
  by_cases c1 : prevG g i < 0
  · rw [if_pos c1]; exact hx
  rw [if_neg c1]
  have v1 := hv (prevG g i).toNat (by omega)
  by_cases c2 : nextG g i < 0
  · rw [if_pos c2]; exact v1
  rw [if_neg c2]
  obtain ⟨k, h1, h2, h3, h4⟩ := nextG_pos (show 0 ≤ nextG g i by omega)
  have v2 := hv ((i : Int) + nextG g i).toNat (by omega)
  have := line_between (A := v.getD (prevG g i).toNat default) (B := v.getD ((i : Int) + nextG g i).toNat default) (t := (i : Int) - prevG g i) (T := (i : Int) + nextG g i - prevG g i) (by omega) (by omega) (by omega)
  omega
theorem fill_rng {v : List Int} {g : List Bool} {x : Int} (hl : v.length = g.length) (hv : ∀ i, i < v.length → 0 ≤ v.getD i default ∧ v.getD i default < 60) (hx : 0 ≤ x ∧ x < 60) {i : Nat} (hi : i < v.length) : 0 ≤ (fillL v g x v.length).getD i default ∧ (fillL v g x v.length).getD i default < 60 := by
  rw [fillL_get hi]
  split
  · exact fv_rng hl hv hx hi
  · exact hv i hi
theorem fillF_ok {v : List Int} {g : List Bool} {x : Int} (hl : v.length = g.length) (hv : ∀ i, i < v.length → 0 ≤ v.getD i default ∧ v.getD i default < 60) (hx : 0 ≤ x ∧ x < 60) : fillF v g x = (fillL v g x v.length, 0) := by
  have f1 : flowsF v = true := (flowsF_iff v).2 fun i hi => by have := hv i hi; omega
  have f2 : flowsF [x] = true := (flowsF_iff _).2 fun i hi => by
    have : i = 0 := by simpa using hi
    subst this
    show 0 ≤ x ∧ x ≤ 1073741824
    omega
  unfold fillF
  rw [if_neg (by omega), if_neg (by rw [f1]; decide), if_neg (by rw [f2]; decide)]
theorem fill_again {v : List Int} {g : List Bool} {x : Int} (hl : v.length = g.length) : fillL (fillL v g x v.length) g x v.length = fillL v g x v.length := by
  have hll := fillL_len v g x v.length
  refine ext_getD (by rw [fillL_len]) fun i hi => ?_
  rw [fillL_len, hll] at hi
  rw [fillL_get (by omega)]
  by_cases hg : g.getD i default = false
  · rw [if_pos ⟨hi, hg⟩, fillL_get hi, if_pos ⟨hi, hg⟩]
    have good : ∀ j, j < v.length → g.getD j default = true → (fillL v g x v.length).getD j default = v.getD j default := fun j hj h => by
      rw [fillL_get hj, if_neg (by rw [h]; simp)]
    have hp := prevG_lt g i
    unfold fv
    by_cases c1 : prevG g i < 0
    · rw [if_pos c1, if_pos c1]
    rw [if_neg c1, if_neg c1, good _ (by omega) (prevG_good g i (by omega))]
    by_cases c2 : nextG g i < 0
    · rw [if_pos c2, if_pos c2]
    rw [if_neg c2, if_neg c2]
    obtain ⟨k, h1, h2, h3, h4⟩ := nextG_pos (show 0 ≤ nextG g i by omega)
    rw [good ((i : Int) + nextG g i).toNat (by omega) (by rw [h1, show ((i : Int) + (k : Int)).toNat = i + k by omega]; exact h3)]
  · rw [if_neg (fun h => hg h.2)]

set_option maxRecDepth 100000 in
set_option maxHeartbeats 4000000 in
theorem call4 (l : List Int) (last : Int) : PureCall Try.prog 4 [.sl 1 1 l.length (fl eInt l), .int .i64 last] [] ⟨.bool true, [], []⟩ := by
  refine pure_call mix Try.func4 fits4 rfl ?_
  conv => whnf
  refine ⟨_, fun _ => call_new 1 l, ?_⟩
  conv => whnf
  refine ⟨_, fun _ => call12 ⟨l, 0⟩ 14 (by dsimp only; omega) (by omega), ?_⟩
  obtain ⟨p1, p2, p3, p4⟩ := goods_props ⟨l, 0⟩ (most := 14) (by omega)
  generalize goodsS ⟨l, 0⟩ 14 = S at p1 p2 p3 p4 ⊢
  have hv : ∀ i, i < S.v.length → 0 ≤ S.v.getD i default ∧ S.v.getD i default < 60 := fun i hi => p3 _ (getD_mem hi)
  generalize S.v = v at p1 p2 hv ⊢
  generalize S.g = g at p1 ⊢
  generalize S.d = d
  clear p3 p4
  conv => whnf
  refine ⟨_, fun _ => call_mod last 60 (by omega) (by omega), ?_⟩
  have hn : 0 ≤ last % 60 ∧ last % 60 < 60 := by omega
  generalize last % 60 = x at hn ⊢
  have e1 := fillF_ok p1 hv hn
  have hal := fillL_len v g x v.length
  have e2 := fillF_ok (v := fillL v g x v.length) (g := g) (x := x) (by omega) (fun i hi => fill_rng p1 hv hn (by omega)) hn
  rw [hal, fill_again p1] at e2
  have hget : ∀ i, i < v.length → (fillL v g x v.length).getD i default = if g.getD i default = false then fv v g x i else v.getD i default := fun i hi => by
    rw [fillL_get hi]
    by_cases hg : g.getD i default = false
    · rw [if_pos ⟨hi, hg⟩, if_pos hg]
    · rw [if_neg (fun h => hg h.2), if_neg hg]
  generalize fillL v g x v.length = a at e1 e2 hal hget
  conv => whnf
  refine ⟨_, fun _ => call16 _ _ v g x (by omega), ?_⟩
  rw [e1]
  conv => whnf
  refine ⟨_, fun _ => call16 _ _ a g x (by omega), ?_⟩
  rw [e2]
  conv => whnf
  refine ⟨_, fun _ => call17 _ _ a a (by omega), ?_⟩
  conv => whnf
  refine ⟨?_, fun hc => ?_, fun hc => ?_⟩
  · (try conv => whnf)
    (repeat' (first | exact True.intro | exact fun _ h => h | refine inR64_of ?_ ?_ | apply And.intro | refine maxLen_ge ?_)) <;> (first | omega | (dsimp only; omega) | (dsimp only [List.length_cons, List.length_nil]; omega) | (intro hg; rw [hg]; rfl) | (intro hg hh; rw [hg, hh]; rfl) | (intro hg; simp [-List.getD_eq_getElem?_getD, -Int.default_eq_zero] at hg; first | omega | (refine inR64_of ?_ ?_ <;> omega) | (constructor <;> omega)) | (simp [-List.getD_eq_getElem?_getD, -Int.default_eq_zero]; done))
  · exfalso
    simp only [bif_t, bif_f, decide_eq_true_eq, decide_eq_false_iff_not, Bool.not_eq_true', Bool.not_eq_false', Bool.and_eq_true, Bool.or_eq_true, Bool.and_eq_false_iff, Bool.or_eq_false_iff, beq_iff_eq, bne_iff_ne, beq_eq_false_iff_ne, bne_eq_false_iff_eq, reduceCtorEq, false_and, and_false, true_and, and_true, or_false, false_or, or_true, true_or, not_true_eq_false, not_false_eq_true, Int.toNat_zero] at hc
    omega
  clear hc
  conv => whnf
  refine ⟨?_, ?_⟩
  · (try conv => whnf)
    (repeat' (first | exact True.intro | exact fun _ h => h | refine inR64_of ?_ ?_ | apply And.intro | refine maxLen_ge ?_)) <;> (first | omega | (dsimp only; omega) | (dsimp only [List.length_cons, List.length_nil]; omega) | (intro hg; rw [hg]; rfl) | (intro hg hh; rw [hg, hh]; rfl) | (intro hg; simp [-List.getD_eq_getElem?_getD, -Int.default_eq_zero] at hg; first | omega | (refine inR64_of ?_ ?_ <;> omega) | (constructor <;> omega)) | (simp [-List.getD_eq_getElem?_getD, -Int.default_eq_zero]; done))
  refine LSem.loop (n := 147) mix (α := Nat) (fun i => i ≤ v.length)
    (fun i => [(6, .sl 0 1 v.length (fl eInt v)), (7, .sl 0 1 g.length (fl eBool g)), (8, .int .i64 x), (9, .sl 0 1 a.length (fl eInt a)), (13, .int .i64 (prevG g i)), (59, .int .i64 v.length), (60, .int .i64 i)])
    (fun i => []) (fun i => v.length - i) 0 ?_ ?_ ?_
  · exact Nat.zero_le _
  · refine ⟨rfl, rfl, ?_, ?_⟩
    all_goals repeat' (first | exact True.intro | refine leF_cons rfl ?_ ?_ | refine leS_cons rfl ?_ ?_ | (show PLe _ _ _ _; conv => whnf) | (show SLe _ _ _ _; conv => whnf) | (show PLeL _ _ _ _; conv => whnf) | apply And.intro | rfl | exact Nat.le_refl _ | exact fun _ _ => rfl | exact rowEq0 _ _)
  · intro i hi
    have hj : ((i : Int)).toNat = i := by omega
    have hpl := prevG_lt g i
    have hpg := prevG_good g i
    conv => whnf
    refine ⟨trivial, fun hc => ?_, fun hc => ?_⟩
    · replace hc := of_decide_eq_true hc
      have hlt : i < v.length := by omega
      have hgi := hget i hlt
      conv => whnf
      refine ⟨?_, fun hg => ?_, fun hg => ?_⟩
      · (try conv => whnf)
        (repeat' (first | exact True.intro | exact fun _ h => h | refine inR64_of ?_ ?_ | apply And.intro | refine maxLen_ge ?_)) <;> (first | omega | (dsimp only; omega) | (dsimp only [List.length_cons, List.length_nil]; omega) | (intro hg; rw [hg]; rfl) | (intro hg hh; rw [hg, hh]; rfl) | (intro hg; simp [-List.getD_eq_getElem?_getD, -Int.default_eq_zero] at hg; first | omega | (refine inR64_of ?_ ?_ <;> omega) | (constructor <;> omega)) | (simp [-List.getD_eq_getElem?_getD, -Int.default_eq_zero]; done))
      · rw [hj] at hg
        rw [if_neg (by rw [hg]; simp)] at hgi
        have hp1 : prevG g (i + 1) = i := by rw [prevG, if_pos hg]
        conv => whnf
        refine ⟨rfl, ?_⟩
        conv => whnf
        refine ⟨?_, fun hne => ?_, fun _ => ?_⟩
        · (try conv => whnf)
          (repeat' (first | exact True.intro | exact fun _ h => h | refine inR64_of ?_ ?_ | apply And.intro | refine maxLen_ge ?_)) <;> (first | omega | (dsimp only; omega) | (dsimp only [List.length_cons, List.length_nil]; omega) | (intro hg; rw [hg]; rfl) | (intro hg hh; rw [hg, hh]; rfl) | (intro hg; simp [-List.getD_eq_getElem?_getD, -Int.default_eq_zero] at hg; first | omega | (refine inR64_of ?_ ?_ <;> omega) | (constructor <;> omega)) | (simp [-List.getD_eq_getElem?_getD, -Int.default_eq_zero]; done))
        · exfalso
          rw [hj] at hne
          simp only [bif_t, bif_f, decide_eq_true_eq, decide_eq_false_iff_not, Bool.not_eq_true', Bool.not_eq_false', Bool.and_eq_true, Bool.or_eq_true, Bool.and_eq_false_iff, Bool.or_eq_false_iff, beq_iff_eq, bne_iff_ne, beq_eq_false_iff_ne, bne_eq_false_iff_eq, reduceCtorEq, false_and, and_false, true_and, and_true, or_false, false_or, or_true, true_or, not_true_eq_false, not_false_eq_true, Int.toNat_zero] at hne
          exact hne hgi
        conv => whnf
        refine ⟨?_, i + 1, (by omega : i + 1 ≤ v.length), ?_, rfl, rfl, ?_, ?_⟩
        · (try conv => whnf)
          (repeat' (first | exact True.intro | exact fun _ h => h | refine inR64_of ?_ ?_ | apply And.intro | refine maxLen_ge ?_)) <;> (first | omega | (dsimp only; omega) | (dsimp only [List.length_cons, List.length_nil]; omega) | (intro hg; rw [hg]; rfl) | (intro hg hh; rw [hg, hh]; rfl) | (intro hg; simp [-List.getD_eq_getElem?_getD, -Int.default_eq_zero] at hg; first | omega | (refine inR64_of ?_ ?_ <;> omega) | (constructor <;> omega)) | (simp [-List.getD_eq_getElem?_getD, -Int.default_eq_zero]; done))
        · omega
        all_goals repeat' (first | exact True.intro | refine leF_cons rfl ?_ ?_ | refine leS_cons rfl ?_ ?_ | (show PLe _ _ _ _; conv => whnf) | (show SLe _ _ _ _; conv => whnf) | (show PLeL _ _ _ _; conv => whnf) | apply And.intro | rfl | exact Nat.le_refl _ | exact fun _ _ => rfl | exact rowEq0 _ _)
        all_goals omega
      rw [hj] at hg
      rw [if_pos hg] at hgi
      have hp1 : prevG g (i + 1) = prevG g i := by rw [prevG, if_neg (by rw [hg]; decide)]
      generalize hpv : prevG g i = pv at hpl hpg hp1 ⊢
      conv => whnf
      refine ⟨?_, ?_⟩
      · (try conv => whnf)
        (repeat' (first | exact True.intro | exact fun _ h => h | refine inR64_of ?_ ?_ | apply And.intro | refine maxLen_ge ?_)) <;> (first | omega | (dsimp only; omega) | (dsimp only [List.length_cons, List.length_nil]; omega) | (intro hg; rw [hg]; rfl) | (intro hg hh; rw [hg, hh]; rfl) | (intro hg; simp [-List.getD_eq_getElem?_getD, -Int.default_eq_zero] at hg; first | omega | (refine inR64_of ?_ ?_ <;> omega) | (constructor <;> omega)) | (simp [-List.getD_eq_getElem?_getD, -Int.default_eq_zero]; done))
      refine LSem.loop (n := 147) mix (α := Nat) (fun j => i ≤ j ∧ j ≤ v.length ∧ ∀ k, i ≤ k → k < j → g.getD k default = false)
        (fun j => [(6, .sl 0 1 v.length (fl eInt v)), (7, .sl 0 1 g.length (fl eBool g)), (8, .int .i64 x), (9, .sl 0 1 a.length (fl eInt a)), (13, .int .i64 pv), (14, .int .i64 i), (15, .int .i64 j), (59, .int .i64 v.length), (60, .int .i64 i)])
        (fun j => []) (fun j => v.length - j) i ?_ ?_ ?_
      · exact ⟨Nat.le_refl _, by omega, fun k h1 h2 => by omega⟩
      · refine ⟨rfl, rfl, ?_, ?_⟩
        all_goals repeat' (first | exact True.intro | refine leF_cons rfl ?_ ?_ | refine leS_cons rfl ?_ ?_ | (show PLe _ _ _ _; conv => whnf) | (show SLe _ _ _ _; conv => whnf) | (show PLeL _ _ _ _; conv => whnf) | apply And.intro | rfl | exact Nat.le_refl _ | exact fun _ _ => rfl | exact rowEq0 _ _)
      intro j hjj
      obtain ⟨j1, j2, j3⟩ := hjj
      have hjn : ((j : Int)).toNat = j := by omega
      conv => whnf
      refine ⟨?_, fun hc2 => ?_, fun hc2 => ?_⟩
      · (try conv => whnf)
        (repeat' (first | exact True.intro | exact fun _ h => h | refine inR64_of ?_ ?_ | apply And.intro | refine maxLen_ge ?_)) <;> (first | omega | (dsimp only; omega) | (dsimp only [List.length_cons, List.length_nil]; omega) | (intro hg; rw [hg]; rfl) | (intro hg hh; rw [hg, hh]; rfl) | (intro hg; simp [-List.getD_eq_getElem?_getD, -Int.default_eq_zero] at hg; first | omega | (refine inR64_of ?_ ?_ <;> omega) | (constructor <;> omega)) | (simp [-List.getD_eq_getElem?_getD, -Int.default_eq_zero]; done))
      · rw [hjn] at hc2
        simp only [bif_t, bif_f, decide_eq_true_eq, decide_eq_false_iff_not, Bool.not_eq_true', Bool.not_eq_false', Bool.and_eq_true, Bool.or_eq_true, Bool.and_eq_false_iff, Bool.or_eq_false_iff, beq_iff_eq, bne_iff_ne, beq_eq_false_iff_ne, bne_eq_false_iff_eq, reduceCtorEq, false_and, and_false, true_and, and_true, or_false, false_or, or_true, true_or, not_true_eq_false, not_false_eq_true, Int.toNat_zero] at hc2
        have hj4 : j < v.length := by omega
        have hj5 : g.getD j default = false := hc2.2
        conv => whnf
        refine ⟨?_, j + 1, ⟨by omega, by omega, fun k h1 h2 => ?_⟩, ?_, rfl, rfl, ?_, ?_⟩
        · (try conv => whnf)
          (repeat' (first | exact True.intro | exact fun _ h => h | refine inR64_of ?_ ?_ | apply And.intro | refine maxLen_ge ?_)) <;> (first | omega | (dsimp only; omega) | (dsimp only [List.length_cons, List.length_nil]; omega) | (intro hg; rw [hg]; rfl) | (intro hg hh; rw [hg, hh]; rfl) | (intro hg; simp [-List.getD_eq_getElem?_getD, -Int.default_eq_zero] at hg; first | omega | (refine inR64_of ?_ ?_ <;> omega) | (constructor <;> omega)) | (simp [-List.getD_eq_getElem?_getD, -Int.default_eq_zero]; done))
        · by_cases e : k = j
          · rw [e]; exact hj5
          · exact j3 k h1 (by omega)
        · omega
        all_goals repeat' (first | exact True.intro | refine leF_cons rfl ?_ ?_ | refine leS_cons rfl ?_ ?_ | (show PLe _ _ _ _; conv => whnf) | (show SLe _ _ _ _; conv => whnf) | (show PLeL _ _ _ _; conv => whnf) | apply And.intro | rfl | exact Nat.le_refl _ | exact fun _ _ => rfl | exact rowEq0 _ _)
        all_goals omega
      rw [hjn] at hc2
      have hend : j = v.length ∨ (j < v.length ∧ g.getD j default = true) := by
        by_cases e : j = v.length
        · exact .inl e
        · refine .inr ⟨by omega, ?_⟩
          rw [decide_eq_true (show (j : Int) < v.length by omega)] at hc2
          simpa using hc2
      clear hc2
      conv => whnf
      refine ⟨trivial, fun c1 => ?_, fun c1 => ?_⟩
      · replace c1 := of_decide_eq_true c1
        have hval : a.getD i default = x := by rw [hgi]; unfold fv; rw [hpv, if_pos c1]
        conv => whnf
        refine ⟨?_, fun hne => ?_, fun _ => ?_⟩
        · (try conv => whnf)
          (repeat' (first | exact True.intro | exact fun _ h => h | refine inR64_of ?_ ?_ | apply And.intro | refine maxLen_ge ?_)) <;> (first | omega | (dsimp only; omega) | (dsimp only [List.length_cons, List.length_nil]; omega) | (intro hg; rw [hg]; rfl) | (intro hg hh; rw [hg, hh]; rfl) | (intro hg; simp [-List.getD_eq_getElem?_getD, -Int.default_eq_zero] at hg; first | omega | (refine inR64_of ?_ ?_ <;> omega) | (constructor <;> omega)) | (simp [-List.getD_eq_getElem?_getD, -Int.default_eq_zero]; done))
        · exfalso
          rw [hj] at hne
          simp only [bif_t, bif_f, decide_eq_true_eq, decide_eq_false_iff_not, Bool.not_eq_true', Bool.not_eq_false', Bool.and_eq_true, Bool.or_eq_true, Bool.and_eq_false_iff, Bool.or_eq_false_iff, beq_iff_eq, bne_iff_ne, beq_eq_false_iff_ne, bne_eq_false_iff_eq, reduceCtorEq, false_and, and_false, true_and, and_true, or_false, false_or, or_true, true_or, not_true_eq_false, not_false_eq_true, Int.toNat_zero] at hne
          exact hne hval
        conv => whnf
        refine ⟨?_, i + 1, (by omega : i + 1 ≤ v.length), ?_, rfl, rfl, ?_, ?_⟩
        · (try conv => whnf)
          (repeat' (first | exact True.intro | exact fun _ h => h | refine inR64_of ?_ ?_ | apply And.intro | refine maxLen_ge ?_)) <;> (first | omega | (dsimp only; omega) | (dsimp only [List.length_cons, List.length_nil]; omega) | (intro hg; rw [hg]; rfl) | (intro hg hh; rw [hg, hh]; rfl) | (intro hg; simp [-List.getD_eq_getElem?_getD, -Int.default_eq_zero] at hg; first | omega | (refine inR64_of ?_ ?_ <;> omega) | (constructor <;> omega)) | (simp [-List.getD_eq_getElem?_getD, -Int.default_eq_zero]; done))
        · omega
        all_goals repeat' (first | exact True.intro | refine leF_cons rfl ?_ ?_ | refine leS_cons rfl ?_ ?_ | (show PLe _ _ _ _; conv => whnf) | (show SLe _ _ _ _; conv => whnf) | (show PLeL _ _ _ _; conv => whnf) | apply And.intro | rfl | exact Nat.le_refl _ | exact fun _ _ => rfl | exact rowEq0 _ _)
        all_goals omega
      replace c1 := of_decide_eq_false c1
      have hpg2 := hpg (by omega)
      conv => whnf
      refine ⟨trivial, fun c2 => ?_, fun c2 => ?_⟩
      · simp only [bif_t, bif_f, decide_eq_true_eq, decide_eq_false_iff_not, Bool.not_eq_true', Bool.not_eq_false', Bool.and_eq_true, Bool.or_eq_true, Bool.and_eq_false_iff, Bool.or_eq_false_iff, beq_iff_eq, bne_iff_ne, beq_eq_false_iff_ne, bne_eq_false_iff_eq, reduceCtorEq, false_and, and_false, true_and, and_true, or_false, false_or, or_true, true_or, not_true_eq_false, not_false_eq_true, Int.toNat_zero] at c2
        have hjl : j = v.length := by omega
        have hval : a.getD i default = v.getD pv.toNat default := by
          rw [hgi]; unfold fv; rw [hpv, if_neg c1, if_pos (next_none fun k h1 h2 => j3 k h1 (by omega))]
        conv => whnf
        refine ⟨rfl, ?_⟩
        conv => whnf
        refine ⟨?_, fun hne => ?_, fun _ => ?_⟩
        · (try conv => whnf)
          (repeat' (first | exact True.intro | exact fun _ h => h | refine inR64_of ?_ ?_ | apply And.intro | refine maxLen_ge ?_)) <;> (first | omega | (dsimp only; omega) | (dsimp only [List.length_cons, List.length_nil]; omega) | (intro hg; rw [hg]; rfl) | (intro hg hh; rw [hg, hh]; rfl) | (intro hg; simp [-List.getD_eq_getElem?_getD, -Int.default_eq_zero] at hg; first | omega | (refine inR64_of ?_ ?_ <;> omega) | (constructor <;> omega)) | (simp [-List.getD_eq_getElem?_getD, -Int.default_eq_zero]; done))
        · exfalso
          rw [hj] at hne
          simp only [bif_t, bif_f, decide_eq_true_eq, decide_eq_false_iff_not, Bool.not_eq_true', Bool.not_eq_false', Bool.and_eq_true, Bool.or_eq_true, Bool.and_eq_false_iff, Bool.or_eq_false_iff, beq_iff_eq, bne_iff_ne, beq_eq_false_iff_ne, bne_eq_false_iff_eq, reduceCtorEq, false_and, and_false, true_and, and_true, or_false, false_or, or_true, true_or, not_true_eq_false, not_false_eq_true, Int.toNat_zero] at hne
          exact hne hval
        conv => whnf
        refine ⟨?_, i + 1, (by omega : i + 1 ≤ v.length), ?_, rfl, rfl, ?_, ?_⟩
        · (try conv => whnf)
          (repeat' (first | exact True.intro | exact fun _ h => h | refine inR64_of ?_ ?_ | apply And.intro | refine maxLen_ge ?_)) <;> (first | omega | (dsimp only; omega) | (dsimp only [List.length_cons, List.length_nil]; omega) | (intro hg; rw [hg]; rfl) | (intro hg hh; rw [hg, hh]; rfl) | (intro hg; simp [-List.getD_eq_getElem?_getD, -Int.default_eq_zero] at hg; first | omega | (refine inR64_of ?_ ?_ <;> omega) | (constructor <;> omega)) | (simp [-List.getD_eq_getElem?_getD, -Int.default_eq_zero]; done))
        · omega
        all_goals repeat' (first | exact True.intro | refine leF_cons rfl ?_ ?_ | refine leS_cons rfl ?_ ?_ | (show PLe _ _ _ _; conv => whnf) | (show SLe _ _ _ _; conv => whnf) | (show PLeL _ _ _ _; conv => whnf) | apply And.intro | rfl | exact Nat.le_refl _ | exact fun _ _ => rfl | exact rowEq0 _ _)
        all_goals omega
      · simp only [bif_t, bif_f, decide_eq_true_eq, decide_eq_false_iff_not, Bool.not_eq_true', Bool.not_eq_false', Bool.and_eq_true, Bool.or_eq_true, Bool.and_eq_false_iff, Bool.or_eq_false_iff, beq_iff_eq, bne_iff_ne, beq_eq_false_iff_ne, bne_eq_false_iff_eq, reduceCtorEq, false_and, and_false, true_and, and_true, or_false, false_or, or_true, true_or, not_true_eq_false, not_false_eq_true, Int.toNat_zero] at c2
        have hjl : j < v.length ∧ g.getD j default = true := by
          rcases hend with h | h
          · exact absurd h (by omega)
          · exact h
        have hnx := next_first j1 j3 (by omega) hjl.2
        have hij : i < j := by
          by_cases e : i = j
          · rw [e, hjl.2] at hg; cases hg
          · omega
        have hval : min (v.getD pv.toNat default) (v.getD j default) ≤ a.getD i default ∧ a.getD i default ≤ max (v.getD pv.toNat default) (v.getD j default) := by
          rw [hgi]; unfold fv; rw [hpv, if_neg c1, hnx, if_neg (by omega), show (i : Int) + ((j : Int) - i) = j by omega, hjn]
          exact line_between (by omega) (by omega) (by omega)
        conv => whnf
        refine ⟨rfl, ?_⟩
        conv => whnf
        refine ⟨?_, fun hne => ?_, fun _ => ?_⟩
        · (try conv => whnf)
          (repeat' (first | exact True.intro | exact fun _ h => h | refine inR64_of ?_ ?_ | apply And.intro | refine maxLen_ge ?_)) <;> (first | omega | (dsimp only; omega) | (dsimp only [List.length_cons, List.length_nil]; omega) | (intro hg; rw [hg]; rfl) | (intro hg hh; rw [hg, hh]; rfl) | (intro hg; simp [-List.getD_eq_getElem?_getD, -Int.default_eq_zero] at hg; first | omega | (refine inR64_of ?_ ?_ <;> omega) | (constructor <;> omega)) | (simp [-List.getD_eq_getElem?_getD, -Int.default_eq_zero]; done))
        · exfalso
          rw [hj, hjn] at hne
          simp only [bif_t, bif_f, decide_eq_true_eq, decide_eq_false_iff_not, Bool.not_eq_true', Bool.not_eq_false', Bool.and_eq_true, Bool.or_eq_true, Bool.and_eq_false_iff, Bool.or_eq_false_iff, beq_iff_eq, bne_iff_ne, beq_eq_false_iff_ne, bne_eq_false_iff_eq, reduceCtorEq, false_and, and_false, true_and, and_true, or_false, false_or, or_true, true_or, not_true_eq_false, not_false_eq_true, Int.toNat_zero] at hne
          clear hgi hnx
          split at hne <;> split at hne <;> omega
        conv => whnf
        refine ⟨?_, i + 1, (by omega : i + 1 ≤ v.length), ?_, rfl, rfl, ?_, ?_⟩
        · (try conv => whnf)
          (repeat' (first | exact True.intro | exact fun _ h => h | refine inR64_of ?_ ?_ | apply And.intro | refine maxLen_ge ?_)) <;> (first | omega | (dsimp only; omega) | (dsimp only [List.length_cons, List.length_nil]; omega) | (intro hg; rw [hg]; rfl) | (intro hg hh; rw [hg, hh]; rfl) | (intro hg; simp [-List.getD_eq_getElem?_getD, -Int.default_eq_zero] at hg; first | omega | (refine inR64_of ?_ ?_ <;> omega) | (constructor <;> omega)) | (simp [-List.getD_eq_getElem?_getD, -Int.default_eq_zero]; done))
        · omega
        all_goals repeat' (first | exact True.intro | refine leF_cons rfl ?_ ?_ | refine leS_cons rfl ?_ ?_ | (show PLe _ _ _ _; conv => whnf) | (show SLe _ _ _ _; conv => whnf) | (show PLeL _ _ _ _; conv => whnf) | apply And.intro | rfl | exact Nat.le_refl _ | exact fun _ _ => rfl | exact rowEq0 _ _)
        all_goals omega
    · replace hc := of_decide_eq_false hc
      conv => whnf
      refine ⟨_, fun _ => call14, ?_⟩
      conv => whnf
      refine ⟨?_, [], ?_⟩
      · (try conv => whnf)
        (repeat' (first | exact True.intro | exact fun _ h => h | refine inR64_of ?_ ?_ | apply And.intro | refine maxLen_ge ?_)) <;> (first | omega | (dsimp only; omega) | (dsimp only [List.length_cons, List.length_nil]; omega) | (intro hg; rw [hg]; rfl) | (intro hg hh; rw [hg, hh]; rfl) | (intro hg; simp [-List.getD_eq_getElem?_getD, -Int.default_eq_zero] at hg; first | omega | (refine inR64_of ?_ ?_ <;> omega) | (constructor <;> omega)) | (simp [-List.getD_eq_getElem?_getD, -Int.default_eq_zero]; done))
      conv => whnf
      refine ⟨rfl, ?_, trivial, trivial⟩
      all_goals repeat' (first | exact True.intro | refine leF_cons rfl ?_ ?_ | refine leS_cons rfl ?_ ?_ | (show PLe _ _ _ _; conv => whnf) | (show SLe _ _ _ _; conv => whnf) | (show PLeL _ _ _ _; conv => whnf) | apply And.intro | rfl | exact Nat.le_refl _ | exact fun _ _ => rfl | exact rowEq0 _ _)
end Pv
end Go.Proofs.Ytogoplhikmmggaa
