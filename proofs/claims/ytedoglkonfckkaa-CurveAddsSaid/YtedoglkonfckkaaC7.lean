/- LAW 02: the statement that values do not fall. -/
import Derived.Test.YtedoglkonfckkaaC6
set_option linter.unusedSimpArgs false
set_option linter.unusedVariables false
namespace Go.Proofs.Ytedoglkonfckkaa
namespace Pv
def c3 : C := (.seq (.reg [⟨(some 6), 96, none, .mv (.c (.bool false))⟩])
  (.seq (.reg [⟨(some 31), 496, none, .mv (.t 0)⟩,
    ⟨(some 32), 512, none, .call (.c (.fn (.func 8) [] [])) [(.t 31)]⟩,
    ⟨(some 7), 112, none, .mv (.t 32)⟩])
  (.seq (.reg [⟨(some 33), 528, none, .mv (.t 7)⟩,
    ⟨(some 34), 544, none, .mv (.t 7)⟩,
    ⟨(some 35), 560, none, .call (.c (.fn (.func 10) [] [])) [(.t 34), (.c (.int .i64 20))]⟩,
    ⟨(some 36), 576, none, .mv (.t 7)⟩,
    ⟨(some 37), 592, none, .call (.c (.fn (.func 10) [] [])) [(.t 36), (.c (.int .i64 20))]⟩,
    ⟨(some 38), 608, none, .call (.c (.fn (.func 9) [] [])) [(.t 33), (.t 35), (.t 37), (.c (.int .i64 30)), (.c (.int .i64 40)), (.c (.bool false))]⟩,
    ⟨(some 8), 128, none, .mv (.t 38)⟩])
  (.seq (.reg [⟨(some 39), 624, none, .mv (.t 1)⟩,
    ⟨(some 40), 640, none, .call (.c (.fn (.func 11) [] [])) [(.t 39), (.c (.int .i64 150))]⟩,
    ⟨(some 9), 144, none, .mv (.t 40)⟩])
  (.seq (.reg [⟨(some 42), 672, none, .mv (.t 8)⟩,
    ⟨(some 43), 688, none, .mv (.t 9)⟩,
    ⟨(some 44), 704, none, .call (.c (.fn (.func 12) [] [])) [(.t 42), (.t 43)]⟩,
    ⟨(some 41), 656, none, .mv (.t 44)⟩,
    ⟨(some 45), 720, none, .ex (.t 41) 0⟩,
    ⟨(some 46), 736, none, .ex (.t 41) 1⟩,
    ⟨(some 10), 160, none, .mv (.t 45)⟩,
    ⟨(some 11), 176, none, .mv (.t 46)⟩])
  (.seq (.reg [⟨(some 48), 768, none, .mv (.t 8)⟩,
    ⟨(some 49), 784, none, .mv (.t 9)⟩,
    ⟨(some 50), 800, none, .bi false .add (.t 49) (.c (.int .i64 1))⟩,
    ⟨(some 51), 816, none, .call (.c (.fn (.func 12) [] [])) [(.t 48), (.t 50)]⟩,
    ⟨(some 47), 752, none, .mv (.t 51)⟩,
    ⟨(some 52), 832, none, .ex (.t 47) 0⟩,
    ⟨(some 53), 848, none, .ex (.t 47) 1⟩,
    ⟨(some 12), 192, none, .mv (.t 52)⟩,
    ⟨(some 13), 208, none, .mv (.t 53)⟩])
  (.seq (.reg [⟨(some 54), 864, none, .mv (.t 2)⟩,
    ⟨(some 55), 880, none, .call (.c (.fn (.func 11) [] [])) [(.t 54), (.c (.int .i64 200))]⟩,
    ⟨(some 14), 224, none, .mv (.t 55)⟩])
  (.seq (.reg [⟨(some 57), 912, none, .mv (.t 8)⟩,
    ⟨(some 58), 928, none, .mv (.t 14)⟩,
    ⟨(some 59), 944, none, .call (.c (.fn (.func 13) [] [])) [(.t 57), (.t 58)]⟩,
    ⟨(some 56), 896, none, .mv (.t 59)⟩,
    ⟨(some 60), 960, none, .ex (.t 56) 0⟩,
    ⟨(some 61), 976, none, .ex (.t 56) 1⟩,
    ⟨(some 62), 992, none, .ex (.t 56) 2⟩,
    ⟨(some 15), 240, none, .mv (.t 60)⟩,
    ⟨(some 16), 256, none, .mv (.t 61)⟩,
    ⟨(some 17), 272, none, .mv (.t 62)⟩])
  (.seq (.reg [⟨(some 64), 1024, none, .mv (.t 8)⟩,
    ⟨(some 65), 1040, none, .mv (.t 14)⟩,
    ⟨(some 66), 1056, none, .call (.c (.fn (.func 14) [] [])) [(.t 64), (.t 65)]⟩,
    ⟨(some 63), 1008, none, .mv (.t 66)⟩,
    ⟨(some 67), 1072, none, .ex (.t 63) 0⟩,
    ⟨(some 68), 1088, none, .ex (.t 63) 1⟩,
    ⟨(some 69), 1104, none, .ex (.t 63) 2⟩,
    ⟨(some 18), 288, none, .mv (.t 67)⟩,
    ⟨(some 19), 304, none, .mv (.t 68)⟩,
    ⟨(some 20), 320, none, .mv (.t 69)⟩])
  (.seq (.seq (.reg [⟨(some 70), 1120, none, .mv (.t 11)⟩,
    ⟨(some 71), 1136, none, .mv (.t 13)⟩,
    ⟨(some 72), 1152, none, .bi false .add (.t 70) (.t 71)⟩,
    ⟨(some 73), 1168, none, .mv (.t 17)⟩,
    ⟨(some 74), 1184, none, .bi false .add (.t 72) (.t 73)⟩,
    ⟨(some 75), 1200, none, .mv (.t 20)⟩,
    ⟨(some 76), 1216, none, .bi false .add (.t 74) (.t 75)⟩,
    ⟨(some 77), 1232, none, .bi false .neq (.t 76) (.c (.int .i64 0))⟩,
    ⟨(some 78), 1248, none, .mv (.t 77)⟩,
    ⟨(some 79), 1264, (some (78, false)), .mv (.t 10)⟩,
    ⟨(some 80), 1280, (some (78, false)), .mv (.t 12)⟩,
    ⟨(some 81), 1296, (some (78, false)), .bi false .gtr (.t 79) (.t 80)⟩,
    ⟨(some 82), 1312, none, .pick (.t 78) (.c (.bool true)) (.t 81)⟩])
  (.cond (.t 82) (.seq (.reg [⟨(some 6), 96, none, .mv (.c (.bool false))⟩])
  .ret) .skip))
  (.seq (.reg [⟨(some 84), 1344, none, .mv (.t 8)⟩,
    ⟨(some 85), 1360, none, .mv (.t 15)⟩,
    ⟨(some 86), 1376, none, .call (.c (.fn (.func 12) [] [])) [(.t 84), (.t 85)]⟩,
    ⟨(some 83), 1328, none, .mv (.t 86)⟩,
    ⟨(some 87), 1392, none, .ex (.t 83) 0⟩,
    ⟨(some 88), 1408, none, .ex (.t 83) 1⟩,
    ⟨(some 21), 336, none, .mv (.t 87)⟩,
    ⟨(some 22), 352, none, .mv (.t 88)⟩])
  (.seq (.reg [⟨(some 90), 1440, none, .mv (.t 8)⟩,
    ⟨(some 91), 1456, none, .mv (.t 15)⟩,
    ⟨(some 92), 1472, none, .bi false .sub (.t 91) (.c (.int .i64 1))⟩,
    ⟨(some 93), 1488, none, .call (.c (.fn (.func 12) [] [])) [(.t 90), (.t 92)]⟩,
    ⟨(some 89), 1424, none, .mv (.t 93)⟩,
    ⟨(some 94), 1504, none, .ex (.t 89) 0⟩,
    ⟨(some 95), 1520, none, .ex (.t 89) 1⟩,
    ⟨(some 23), 368, none, .mv (.t 94)⟩,
    ⟨(some 24), 384, none, .mv (.t 95)⟩])
  (.seq (.reg [⟨(some 97), 1552, none, .mv (.t 8)⟩,
    ⟨(some 98), 1568, none, .mv (.t 18)⟩,
    ⟨(some 99), 1584, none, .call (.c (.fn (.func 12) [] [])) [(.t 97), (.t 98)]⟩,
    ⟨(some 96), 1536, none, .mv (.t 99)⟩,
    ⟨(some 100), 1600, none, .ex (.t 96) 0⟩,
    ⟨(some 101), 1616, none, .ex (.t 96) 1⟩,
    ⟨(some 25), 400, none, .mv (.t 100)⟩,
    ⟨(some 26), 416, none, .mv (.t 101)⟩])
  (.seq (.reg [⟨(some 103), 1648, none, .mv (.t 8)⟩,
    ⟨(some 104), 1664, none, .mv (.t 18)⟩,
    ⟨(some 105), 1680, none, .bi false .add (.t 104) (.c (.int .i64 1))⟩,
    ⟨(some 106), 1696, none, .call (.c (.fn (.func 12) [] [])) [(.t 103), (.t 105)]⟩,
    ⟨(some 102), 1632, none, .mv (.t 106)⟩,
    ⟨(some 107), 1712, none, .ex (.t 102) 0⟩,
    ⟨(some 108), 1728, none, .ex (.t 102) 1⟩,
    ⟨(some 27), 432, none, .mv (.t 107)⟩,
    ⟨(some 28), 448, none, .mv (.t 108)⟩])
  (.seq (.drw [⟨(some 109), 1744, none, .mv (.t 8)⟩,
    ⟨(some 110), 1760, none, .ia 2 (.t 109) (.c (.int .i64 0))⟩,
    ⟨(some 111), 1776, none, .fa 0 (.t 110)⟩,
    ⟨(some 112), 1792, none, .ld 1 false (.t 111)⟩,
    ⟨(some 113), 1808, none, .mv (.t 8)⟩,
    ⟨(some 114), 1824, none, .mv (.t 8)⟩,
    ⟨(some 115), 1840, none, .len (.t 114)⟩,
    ⟨(some 116), 1856, none, .bi false .sub (.t 115) (.c (.int .i64 1))⟩,
    ⟨(some 117), 1872, none, .ia 2 (.t 113) (.t 116)⟩,
    ⟨(some 118), 1888, none, .fa 0 (.t 117)⟩,
    ⟨(some 119), 1904, none, .ld 1 false (.t 118)⟩,
    ⟨(some 29), 464, none, .mv (.t 112)⟩,
    ⟨(some 30), 480, none, .mv (.t 119)⟩]
    [(0, 4, 109), (0, 5, 109), (0, 6, 109), (0, 7, 109), (0, 8, 109), (0, 9, 109), (0, 10, 109), (1, 4, 110), (1, 5, 110), (1, 6, 110), (1, 7, 110), (1, 8, 110), (1, 9, 110), (1, 10, 110), (2, 4, 111), (2, 5, 111), (2, 6, 111), (2, 7, 111), (2, 8, 111), (2, 9, 111), (2, 10, 111), (3, 4, 112), (3, 5, 112), (3, 6, 112), (3, 7, 112), (3, 8, 112), (3, 9, 112), (3, 10, 112), (4, 5, 113), (4, 6, 113), (4, 7, 113), (4, 11, 113), (5, 11, 114), (6, 11, 115), (7, 11, 116), (8, 11, 117), (9, 11, 118), (10, 11, 119)])
  (.seq (.seq (.reg [⟨(some 120), 1920, none, .mv (.t 16)⟩,
    ⟨(some 121), 1936, none, .mv (.t 120)⟩,
    ⟨(some 122), 1952, (some (121, true)), .mv (.t 21)⟩,
    ⟨(some 123), 1968, (some (121, true)), .mv (.t 14)⟩,
    ⟨(some 124), 1984, (some (121, true)), .bi false .lss (.t 122) (.t 123)⟩,
    ⟨(some 125), 2000, (some (121, true)), .mv (.t 124)⟩,
    ⟨(some 126), 2016, (some (125, false)), .mv (.t 15)⟩,
    ⟨(some 127), 2032, (some (125, false)), .mv (.t 29)⟩,
    ⟨(some 128), 2048, (some (125, false)), .bi false .lss (.t 126) (.t 127)⟩,
    ⟨(some 129), 2064, (some (121, true)), .pick (.t 125) (.c (.bool true)) (.t 128)⟩,
    ⟨(some 130), 2080, (some (121, true)), .mv (.t 129)⟩,
    ⟨(some 131), 2096, (some (130, false)), .mv (.t 15)⟩,
    ⟨(some 132), 2112, (some (130, false)), .mv (.t 30)⟩,
    ⟨(some 133), 2128, (some (130, false)), .bi false .gtr (.t 131) (.t 132)⟩,
    ⟨(some 134), 2144, (some (121, true)), .pick (.t 130) (.c (.bool true)) (.t 133)⟩,
    ⟨(some 135), 2160, (some (121, true)), .mv (.t 134)⟩,
    ⟨(some 136), 2176, (some (135, false)), .mv (.t 15)⟩,
    ⟨(some 137), 2192, (some (135, false)), .mv (.t 29)⟩,
    ⟨(some 138), 2208, (some (135, false)), .bi false .gtr (.t 136) (.t 137)⟩,
    ⟨(some 139), 2224, (some (135, false)), .mv (.t 138)⟩,
    ⟨(some 140), 2240, (some (139, true)), .mv (.t 23)⟩,
    ⟨(some 141), 2256, (some (139, true)), .mv (.t 14)⟩,
    ⟨(some 142), 2272, (some (139, true)), .bi false .geq (.t 140) (.t 141)⟩,
    ⟨(some 143), 2288, (some (135, false)), .pick (.t 139) (.t 142) (.c (.bool false))⟩,
    ⟨(some 144), 2304, (some (121, true)), .pick (.t 135) (.c (.bool true)) (.t 143)⟩,
    ⟨(some 145), 2320, none, .pick (.t 121) (.t 144) (.c (.bool false))⟩,
    ⟨(some 146), 2336, none, .mv (.t 145)⟩,
    ⟨(some 147), 2352, (some (146, false)), .mv (.t 16)⟩,
    ⟨(some 148), 2368, (some (146, false)), .un false .not (.t 147)⟩,
    ⟨(some 149), 2384, (some (146, false)), .mv (.t 148)⟩,
    ⟨(some 150), 2400, (some (149, true)), .mv (.t 8)⟩,
    ⟨(some 151), 2416, (some (149, true)), .mv (.t 8)⟩,
    ⟨(some 152), 2432, (some (149, true)), .len (.t 151)⟩,
    ⟨(some 153), 2448, (some (149, true)), .bi false .sub (.t 152) (.c (.int .i64 1))⟩,
    ⟨(some 154), 2464, (some (149, true)), .ia 2 (.t 150) (.t 153)⟩,
    ⟨(some 155), 2480, (some (149, true)), .fa 1 (.t 154)⟩,
    ⟨(some 156), 2496, (some (149, true)), .ld 1 false (.t 155)⟩,
    ⟨(some 157), 2512, (some (149, true)), .mv (.t 14)⟩,
    ⟨(some 158), 2528, (some (149, true)), .bi false .geq (.t 156) (.t 157)⟩,
    ⟨(some 159), 2544, (some (146, false)), .pick (.t 149) (.t 158) (.c (.bool false))⟩,
    ⟨(some 160), 2560, none, .pick (.t 146) (.c (.bool true)) (.t 159)⟩])
  (.cond (.t 160) (.seq (.reg [⟨(some 6), 96, none, .mv (.c (.bool false))⟩])
  .ret) .skip))
  (.seq (.seq (.reg [⟨(some 161), 2576, none, .mv (.t 19)⟩,
    ⟨(some 162), 2592, none, .mv (.t 161)⟩,
    ⟨(some 163), 2608, (some (162, true)), .mv (.t 25)⟩,
    ⟨(some 164), 2624, (some (162, true)), .mv (.t 14)⟩,
    ⟨(some 165), 2640, (some (162, true)), .bi false .gtr (.t 163) (.t 164)⟩,
    ⟨(some 166), 2656, (some (162, true)), .mv (.t 165)⟩,
    ⟨(some 167), 2672, (some (166, false)), .mv (.t 18)⟩,
    ⟨(some 168), 2688, (some (166, false)), .mv (.t 29)⟩,
    ⟨(some 169), 2704, (some (166, false)), .bi false .lss (.t 167) (.t 168)⟩,
    ⟨(some 170), 2720, (some (162, true)), .pick (.t 166) (.c (.bool true)) (.t 169)⟩,
    ⟨(some 171), 2736, (some (162, true)), .mv (.t 170)⟩,
    ⟨(some 172), 2752, (some (171, false)), .mv (.t 18)⟩,
    ⟨(some 173), 2768, (some (171, false)), .mv (.t 30)⟩,
    ⟨(some 174), 2784, (some (171, false)), .bi false .gtr (.t 172) (.t 173)⟩,
    ⟨(some 175), 2800, (some (162, true)), .pick (.t 171) (.c (.bool true)) (.t 174)⟩,
    ⟨(some 176), 2816, (some (162, true)), .mv (.t 175)⟩,
    ⟨(some 177), 2832, (some (176, false)), .mv (.t 18)⟩,
    ⟨(some 178), 2848, (some (176, false)), .mv (.t 30)⟩,
    ⟨(some 179), 2864, (some (176, false)), .bi false .lss (.t 177) (.t 178)⟩,
    ⟨(some 180), 2880, (some (176, false)), .mv (.t 179)⟩,
    ⟨(some 181), 2896, (some (180, true)), .mv (.t 27)⟩,
    ⟨(some 182), 2912, (some (180, true)), .mv (.t 14)⟩,
    ⟨(some 183), 2928, (some (180, true)), .bi false .leq (.t 181) (.t 182)⟩,
    ⟨(some 184), 2944, (some (176, false)), .pick (.t 180) (.t 183) (.c (.bool false))⟩,
    ⟨(some 185), 2960, (some (162, true)), .pick (.t 176) (.c (.bool true)) (.t 184)⟩,
    ⟨(some 186), 2976, none, .pick (.t 162) (.t 185) (.c (.bool false))⟩,
    ⟨(some 187), 2992, none, .mv (.t 186)⟩,
    ⟨(some 188), 3008, (some (187, false)), .mv (.t 19)⟩,
    ⟨(some 189), 3024, (some (187, false)), .un false .not (.t 188)⟩,
    ⟨(some 190), 3040, (some (187, false)), .mv (.t 189)⟩,
    ⟨(some 191), 3056, (some (190, true)), .mv (.t 8)⟩,
    ⟨(some 192), 3072, (some (190, true)), .ia 2 (.t 191) (.c (.int .i64 0))⟩,
    ⟨(some 193), 3088, (some (190, true)), .fa 1 (.t 192)⟩,
    ⟨(some 194), 3104, (some (190, true)), .ld 1 false (.t 193)⟩,
    ⟨(some 195), 3120, (some (190, true)), .mv (.t 14)⟩,
    ⟨(some 196), 3136, (some (190, true)), .bi false .leq (.t 194) (.t 195)⟩,
    ⟨(some 197), 3152, (some (187, false)), .pick (.t 190) (.t 196) (.c (.bool false))⟩,
    ⟨(some 198), 3168, none, .pick (.t 187) (.c (.bool true)) (.t 197)⟩])
  (.cond (.t 198) (.seq (.reg [⟨(some 6), 96, none, .mv (.c (.bool false))⟩])
  .ret) .skip))
  (.seq (.reg [⟨(some 199), 3184, none, .call (.c (.fn (.func 15) [] [])) []⟩,
    ⟨(some 6), 96, none, .mv (.t 199)⟩])
  .ret))))))))))))))))))
theorem fits3 : fits Try.prog false Try.f3 3 200 [(6, none)] = some c3.er := by kernel_rfl

theorem firstR_good {c : List Pt} (h : GoodC c) (y : Int) : firstR c y = ((firstC c y).1, (firstC c y).2, 0) := by unfold firstR; rw [if_pos ((check_good c).2 h)]
theorem lastR_good {c : List Pt} (h : GoodC c) (y : Int) : lastR c y = ((lastC c y).1, (lastC c y).2, 0) := by unfold lastR; rw [if_pos ((check_good c).2 h)]
theorem firstA_no {c : List Pt} {y : Int} : ∀ (n i : Nat), (firstA c y i n).2 = false → (firstA c y i n).1 = 0
  | 0, i, _ => rfl
  | n + 1, i, h => by
    unfold firstA at h ⊢
    split at h
    · cases h
    · rename_i h2; rw [if_neg h2]; exact firstA_no n (i + 1) h
theorem first_no {c : List Pt} {y : Int} (h : (firstC c y).2 = false) : (firstC c y).1 = 0 := by
  unfold firstC at h ⊢
  split at h
  · cases h
  · rename_i h2; rw [if_neg h2]; exact firstA_no _ _ h
theorem lastA_no {c : List Pt} {y : Int} : ∀ (n i : Nat), (lastA c y i n).2 = true
  | 0, i => rfl
  | n + 1, i => by
    unfold lastA
    split
    · rfl
    · exact lastA_no n (i + 1)
theorem last_no {c : List Pt} {y : Int} (h : (lastC c y).2 = false) : (lastC c y).1 = 0 := by
  unfold lastC at h ⊢
  split at h
  · rename_i h2; rw [if_pos h2]
  · rw [lastA_no] at h; cases h

set_option maxRecDepth 100000 in
set_option maxHeartbeats 4000000 in
theorem call3 (l : List Int) (x y : Int) : PureCall Try.prog 3 [.sl 1 1 l.length (fl eInt l), .int .i64 x, .int .i64 y] [] ⟨.bool true, [], []⟩ := by
  refine pure_call mix Try.func3 fits3 rfl ?_
  conv => whnf
  refine ⟨_, fun _ => call_new 1 l, ?_⟩
  conv => whnf
  have r1 := nxt_lt ⟨l, 0⟩ (n := 20) (by omega)
  have a1 := nxtD_at ⟨l, 0⟩ 20
  dsimp only at a1
  refine ⟨_, fun _ => call_next 1 ⟨l, 0⟩ 20 (by dsimp only; omega) (by omega), ?_⟩
  conv => whnf
  have r2 := nxt_lt (nxtD ⟨l, 0⟩ 20) (n := 20) (by omega)
  have a2 := nxtD_at (nxtD ⟨l, 0⟩ 20) 20
  refine ⟨_, fun _ => call_next 1 (nxtD ⟨l, 0⟩ 20) 20 (by omega) (by omega), ?_⟩
  conv => whnf
  refine ⟨_, fun _ => call9 (nxtD (nxtD ⟨l, 0⟩ 20) 20) (nxt ⟨l, 0⟩ 20) (nxt (nxtD ⟨l, 0⟩ 20) 20) 30 40 (by omega) (by omega) (by omega) (by omega) (by omega), ?_⟩
  have hm := (curve_made (nxtD (nxtD ⟨l, 0⟩ 20) 20) (x := nxt ⟨l, 0⟩ 20) (y := nxt (nxtD ⟨l, 0⟩ 20) 20) (dx := 30) (dy := 40) (least := 0) (by omega) (by omega) (by omega) (by omega) (by omega)).1
  generalize curveS (nxtD (nxtD ⟨l, 0⟩ 20) 20) (nxt ⟨l, 0⟩ 20) (nxt (nxtD ⟨l, 0⟩ 20) 20) 30 40 0 = S at hm ⊢
  generalize S.L = c at hm ⊢
  generalize S.d = d
  have hg := hm.good
  have hlen := hm.len
  conv => whnf
  refine ⟨_, fun _ => call_mod x 150 (by omega) (by omega), ?_⟩
  have v1 := Int.emod_nonneg x (b := 150) (by omega)
  have v2 := Int.emod_lt_of_pos x (b := 150) (by omega)
  generalize x % 150 = v at v1 v2 ⊢
  conv => whnf
  refine ⟨_, fun _ => call12 _ c v, ?_⟩
  rw [atC_good hg]
  conv => whnf
  refine ⟨_, fun _ => call12 _ c (v + 1), ?_⟩
  rw [atC_good hg]
  conv => whnf
  refine ⟨_, fun _ => call_mod y 200 (by omega) (by omega), ?_⟩
  have w1 := Int.emod_nonneg y (b := 200) (by omega)
  have w2 := Int.emod_lt_of_pos y (b := 200) (by omega)
  generalize y % 200 = n at w1 w2 ⊢
  conv => whnf
  refine ⟨_, fun _ => call13 _ c n, ?_⟩
  have hF := first_ok hg n
  have hF0 := first_no (c := c) (y := n)
  rw [firstR_good hg]
  generalize firstC c n = F at hF hF0 ⊢
  obtain ⟨p, ok⟩ := F
  conv => whnf
  refine ⟨_, fun _ => call14 _ c n, ?_⟩
  have hL := last_ok hg n
  have hL0 := last_no (c := c) (y := n)
  rw [lastR_good hg]
  generalize lastC c n = G at hL hL0 ⊢
  obtain ⟨q, is⟩ := G
  obtain ⟨hF1, hF2⟩ := hF
  obtain ⟨hL1, hL2⟩ := hL
  dsimp only at hF0 hF1 hF2 hL0 hL1 hL2
  have hmono := val_mono hg v
  have hr := hm.rng 0 (by omega)
  have hr1 := hm.rng (c.length - 1) (by omega)
  have hp : 0 ≤ p ∧ p ≤ 10000 := by
    cases ok
    · have := hF0 rfl; omega
    · have := hF1 rfl; omega
  have hq : 0 ≤ q ∧ q ≤ 10000 := by
    cases is
    · have := hL0 rfl; omega
    · have := hL1 rfl; omega
  conv => whnf
  refine ⟨?_, fun hc => ?_, fun hc => ?_⟩
  · (try conv => whnf)
    (repeat' (first | exact True.intro | exact fun _ h => h | refine inR64_of ?_ ?_ | apply And.intro | refine maxLen_ge ?_)) <;> (first | omega | (dsimp only; omega) | (dsimp only [List.length_cons, List.length_nil]; omega) | (intro hg; rw [hg]; rfl) | (intro hg hh; rw [hg, hh]; rfl) | (intro hg; simp [-List.getD_eq_getElem?_getD, -Int.default_eq_zero] at hg; first | omega | (refine inR64_of ?_ ?_ <;> omega) | (constructor <;> omega)) | (simp [-List.getD_eq_getElem?_getD, -Int.default_eq_zero]; done))
  · simp only [bif_t, bif_f, decide_eq_true_eq, decide_eq_false_iff_not, Bool.not_eq_true', Bool.not_eq_false', Bool.and_eq_true, Bool.or_eq_true, Bool.and_eq_false_iff, Bool.or_eq_false_iff, beq_iff_eq, bne_iff_ne, beq_eq_false_iff_ne, bne_eq_false_iff_eq, reduceCtorEq, false_and, and_false, true_and, and_true, or_false, false_or, or_true, true_or, not_true_eq_false, not_false_eq_true, Int.toNat_zero] at hc; exfalso; omega
  conv => whnf
  refine ⟨_, fun _ => call12 _ c p, ?_⟩
  rw [atC_good hg]
  conv => whnf
  refine ⟨_, fun _ => call12 _ c (p - 1), ?_⟩
  rw [atC_good hg]
  conv => whnf
  refine ⟨_, fun _ => call12 _ c q, ?_⟩
  rw [atC_good hg]
  conv => whnf
  refine ⟨_, fun _ => call12 _ c (q + 1), ?_⟩
  rw [atC_good hg]
  conv => whnf
  refine ⟨rfl, ?_⟩
  conv => whnf
  have hj : ((c.length : Int) - 1).toNat = c.length - 1 := by omega
  refine ⟨?_, fun hc2 => ?_, fun hc2 => ?_⟩
  · (try conv => whnf)
    (repeat' (first | exact True.intro | exact fun _ h => h | refine inR64_of ?_ ?_ | apply And.intro | refine maxLen_ge ?_)) <;> (first | omega | (dsimp only; omega) | (dsimp only [List.length_cons, List.length_nil]; omega) | (intro hg; rw [hg]; rfl) | (intro hg hh; rw [hg, hh]; rfl) | (intro hg; simp [-List.getD_eq_getElem?_getD, -Int.default_eq_zero] at hg; first | omega | (refine inR64_of ?_ ?_ <;> omega) | (constructor <;> omega)) | (simp [-List.getD_eq_getElem?_getD, -Int.default_eq_zero]; done))
  · rw [hj] at hc2
    exfalso
    cases ok
    · have := hF2 rfl
      simp only [bif_t, bif_f, decide_eq_true_eq, decide_eq_false_iff_not, Bool.not_eq_true', Bool.not_eq_false', Bool.and_eq_true, Bool.or_eq_true, Bool.and_eq_false_iff, Bool.or_eq_false_iff, beq_iff_eq, bne_iff_ne, beq_eq_false_iff_ne, bne_eq_false_iff_eq, reduceCtorEq, false_and, and_false, true_and, and_true, or_false, false_or, or_true, true_or, not_true_eq_false, not_false_eq_true, Int.toNat_zero] at hc2; omega
    · have := hF1 rfl
      simp only [bif_t, bif_f, decide_eq_true_eq, decide_eq_false_iff_not, Bool.not_eq_true', Bool.not_eq_false', Bool.and_eq_true, Bool.or_eq_true, Bool.and_eq_false_iff, Bool.or_eq_false_iff, beq_iff_eq, bne_iff_ne, beq_eq_false_iff_ne, bne_eq_false_iff_eq, reduceCtorEq, false_and, and_false, true_and, and_true, or_false, false_or, or_true, true_or, not_true_eq_false, not_false_eq_true, Int.toNat_zero] at hc2; omega
  conv => whnf
  refine ⟨?_, fun hc3 => ?_, fun hc3 => ?_⟩
  · (try conv => whnf)
    (repeat' (first | exact True.intro | exact fun _ h => h | refine inR64_of ?_ ?_ | apply And.intro | refine maxLen_ge ?_)) <;> (first | omega | (dsimp only; omega) | (dsimp only [List.length_cons, List.length_nil]; omega) | (intro hg; rw [hg]; rfl) | (intro hg hh; rw [hg, hh]; rfl) | (intro hg; simp [-List.getD_eq_getElem?_getD, -Int.default_eq_zero] at hg; first | omega | (refine inR64_of ?_ ?_ <;> omega) | (constructor <;> omega)) | (simp [-List.getD_eq_getElem?_getD, -Int.default_eq_zero]; done))
  · exfalso
    cases is
    · have := hL2 rfl
      simp only [bif_t, bif_f, decide_eq_true_eq, decide_eq_false_iff_not, Bool.not_eq_true', Bool.not_eq_false', Bool.and_eq_true, Bool.or_eq_true, Bool.and_eq_false_iff, Bool.or_eq_false_iff, beq_iff_eq, bne_iff_ne, beq_eq_false_iff_ne, bne_eq_false_iff_eq, reduceCtorEq, false_and, and_false, true_and, and_true, or_false, false_or, or_true, true_or, not_true_eq_false, not_false_eq_true, Int.toNat_zero] at hc3
      omega
    · have := hL1 rfl
      rw [hj] at hc3
      simp only [bif_t, bif_f, decide_eq_true_eq, decide_eq_false_iff_not, Bool.not_eq_true', Bool.not_eq_false', Bool.and_eq_true, Bool.or_eq_true, Bool.and_eq_false_iff, Bool.or_eq_false_iff, beq_iff_eq, bne_iff_ne, beq_eq_false_iff_ne, bne_eq_false_iff_eq, reduceCtorEq, false_and, and_false, true_and, and_true, or_false, false_or, or_true, true_or, not_true_eq_false, not_false_eq_true, Int.toNat_zero] at hc3; omega
  conv => whnf
  refine ⟨_, fun _ => call15, ?_⟩
  conv => whnf
  refine ⟨?_, [], ?_⟩
  · (try conv => whnf)
    (repeat' (first | exact True.intro | exact fun _ h => h | refine inR64_of ?_ ?_ | apply And.intro | refine maxLen_ge ?_)) <;> (first | omega | (dsimp only; omega) | (dsimp only [List.length_cons, List.length_nil]; omega) | (intro hg; rw [hg]; rfl) | (intro hg hh; rw [hg, hh]; rfl) | (intro hg; simp [-List.getD_eq_getElem?_getD, -Int.default_eq_zero] at hg; first | omega | (refine inR64_of ?_ ?_ <;> omega) | (constructor <;> omega)) | (simp [-List.getD_eq_getElem?_getD, -Int.default_eq_zero]; done))
  conv => whnf
  refine ⟨rfl, ?_, trivial, trivial⟩
  all_goals repeat' (first | exact True.intro | refine leF_cons rfl ?_ ?_ | refine leS_cons rfl ?_ ?_ | (show PLe _ _ _ _; conv => whnf) | (show SLe _ _ _ _; conv => whnf) | (show PLeL _ _ _ _; conv => whnf) | apply And.intro | rfl | exact Nat.le_refl _ | exact fun _ _ => rfl | exact rowEq0 _ _)
end Pv
end Go.Proofs.Ytedoglkonfckkaa
