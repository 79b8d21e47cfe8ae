/- LAW 08: QualityAlone. -/
import Derived.Test.YtogoplhikmmggaaQ17
set_option linter.unusedSimpArgs false
set_option linter.unusedVariables false
namespace Go.Proofs.Ytogoplhikmmggaa
namespace Pv
def c10L1 : C := (.seq (.reg [⟨(some 52), 832, none, .bi false .lss (.t 51) (.t 50)⟩])
  (.seq (.cond (.t 52) .skip (.exit 0))
  (.seq (.block 1 (.reg [⟨(some 53), 848, none, .mv (.t 15)⟩,
    ⟨(some 54), 864, none, .ld 4 true (.t 6)⟩,
    ⟨(some 55), 880, none, .bs 46 4 [(.t 54)]⟩,
    ⟨(some 56), 896, none, .app 46 4 32 (.t 53) (.t 55)⟩,
    ⟨(some 57), 912, none, .mv (.t 16)⟩,
    ⟨(some 58), 928, none, .mv (.t 7)⟩,
    ⟨(some 59), 944, none, .bs 50 1 [(.t 58)]⟩,
    ⟨(some 60), 960, none, .app 50 1 24 (.t 57) (.t 59)⟩,
    ⟨(some 15), 240, none, .mv (.t 56)⟩,
    ⟨(some 16), 256, none, .mv (.t 60)⟩]))
  (.reg [⟨(some 61), 976, none, .bi false .add (.t 51) (.c (.int .i64 1))⟩,
    ⟨(some 51), 816, none, .mv (.t 61)⟩]))))
def c10L2 : C := (.seq (.reg [⟨(some 107), 1712, none, .bi false .lss (.t 106) (.t 105)⟩])
  (.seq (.cond (.t 107) .skip (.exit 2))
  (.seq (.block 3 (.seq (.reg [⟨(some 108), 1728, none, .mv (.t 106)⟩,
    ⟨(some 21), 336, none, .mv (.t 108)⟩])
  (.seq (.reg [⟨(some 109), 1744, none, .mv (.t 8)⟩,
    ⟨(some 110), 1760, none, .mv (.t 21)⟩,
    ⟨(some 111), 1776, none, .ia 1 (.t 109) (.t 110)⟩,
    ⟨(some 112), 1792, none, .ld 1 false (.t 111)⟩,
    ⟨(some 113), 1808, none, .bi false .eql (.t 112) (.c (.int .i64 1))⟩,
    ⟨(some 22), 352, none, .mv (.t 113)⟩])
  (.seq (.drw [⟨(some 114), 1824, none, .mv (.t 11)⟩,
    ⟨(some 115), 1840, none, .mv (.t 21)⟩,
    ⟨(some 116), 1856, none, .ia 1 (.t 114) (.t 115)⟩,
    ⟨(some 117), 1872, none, .ld 1 false (.t 116)⟩,
    ⟨(some 118), 1888, none, .mv (.t 22)⟩,
    ⟨(some 119), 1904, none, .bib true (.t 117) (.t 118)⟩,
    ⟨(some 120), 1920, none, .mv (.t 119)⟩,
    ⟨(some 121), 1936, (some (120, false)), .mv (.t 12)⟩,
    ⟨(some 122), 1952, (some (120, false)), .mv (.t 21)⟩,
    ⟨(some 123), 1968, (some (120, false)), .ia 1 (.t 121) (.t 122)⟩,
    ⟨(some 124), 1984, (some (120, false)), .ld 1 false (.t 123)⟩,
    ⟨(some 125), 2000, (some (120, false)), .bi false .neq (.t 124) (.c (.int .i64 0))⟩,
    ⟨(some 126), 2016, none, .pick (.t 120) (.c (.bool true)) (.t 125)⟩,
    ⟨(some 127), 2032, none, .mv (.t 126)⟩,
    ⟨(some 128), 2048, (some (127, false)), .mv (.t 22)⟩,
    ⟨(some 129), 2064, (some (127, false)), .mv (.t 128)⟩,
    ⟨(some 130), 2080, (some (129, true)), .mv (.t 10)⟩,
    ⟨(some 131), 2096, (some (129, true)), .mv (.t 21)⟩,
    ⟨(some 132), 2112, (some (129, true)), .ia 1 (.t 130) (.t 131)⟩,
    ⟨(some 133), 2128, (some (129, true)), .ld 1 false (.t 132)⟩,
    ⟨(some 134), 2144, (some (129, true)), .mv (.t 7)⟩,
    ⟨(some 135), 2160, (some (129, true)), .mv (.t 21)⟩,
    ⟨(some 136), 2176, (some (129, true)), .ia 4 (.t 134) (.t 135)⟩,
    ⟨(some 137), 2192, (some (129, true)), .fa 2 (.t 136)⟩,
    ⟨(some 138), 2208, (some (129, true)), .ld 1 false (.t 137)⟩,
    ⟨(some 139), 2224, (some (129, true)), .bi false .neq (.t 133) (.t 138)⟩,
    ⟨(some 140), 2240, (some (127, false)), .pick (.t 129) (.t 139) (.c (.bool false))⟩,
    ⟨(some 141), 2256, none, .pick (.t 127) (.c (.bool true)) (.t 140)⟩,
    ⟨(some 142), 2272, none, .mv (.t 141)⟩,
    ⟨(some 143), 2288, (some (142, false)), .mv (.t 22)⟩,
    ⟨(some 144), 2304, (some (142, false)), .un false .not (.t 143)⟩,
    ⟨(some 145), 2320, (some (142, false)), .mv (.t 144)⟩,
    ⟨(some 146), 2336, (some (145, true)), .mv (.t 10)⟩,
    ⟨(some 147), 2352, (some (145, true)), .mv (.t 21)⟩,
    ⟨(some 148), 2368, (some (145, true)), .ia 1 (.t 146) (.t 147)⟩,
    ⟨(some 149), 2384, (some (145, true)), .ld 1 false (.t 148)⟩,
    ⟨(some 150), 2400, (some (145, true)), .bi false .neq (.t 149) (.c (.int .i64 0))⟩,
    ⟨(some 151), 2416, (some (142, false)), .pick (.t 145) (.t 150) (.c (.bool false))⟩,
    ⟨(some 152), 2432, none, .pick (.t 142) (.c (.bool true)) (.t 151)⟩]
    [(0, 1, 114), (0, 4, 114), (1, 4, 115), (2, 4, 116), (3, 4, 117), (7, 8, 121), (16, 17, 130), (16, 20, 130), (16, 21, 130), (16, 22, 130), (16, 23, 130), (16, 24, 130), (17, 20, 131), (17, 21, 131), (17, 22, 131), (17, 23, 131), (17, 24, 131), (18, 20, 132), (18, 21, 132), (18, 22, 132), (18, 23, 132), (18, 24, 132), (19, 20, 133), (19, 21, 133), (19, 22, 133), (19, 23, 133), (19, 24, 133), (20, 21, 134), (32, 33, 146)])
  (.cond (.t 152) (.seq (.reg [⟨(some 4), 64, none, .mv (.c (.bool false))⟩])
  .ret) .skip)))))
  (.reg [⟨(some 153), 2448, none, .bi false .add (.t 106) (.c (.int .i64 1))⟩,
    ⟨(some 106), 1696, none, .mv (.t 153)⟩]))))
def c10 : C := (.seq (.reg [⟨(some 4), 64, none, .mv (.c (.bool false))⟩])
  (.seq (.reg [⟨(some 23), 368, none, .mv (.t 0)⟩,
    ⟨(some 24), 384, none, .call (.c (.fn (.func 11) [] [])) [(.t 23)]⟩,
    ⟨(some 5), 80, none, .mv (.t 24)⟩])
  (.seq (.reg [⟨(some 25), 400, none, .mv (.t 5)⟩,
    ⟨(some 26), 416, none, .call (.c (.fn (.func 23) [] [])) [(.t 25)]⟩,
    ⟨(some 6), 96, none, .al [(.int .i64 0), (.int .i64 0), (.int .i64 0), (.int .i64 0)]⟩,
    ⟨none, 0, none, .st 4 (.t 6) (.t 26)⟩])
  (.seq (.reg [⟨(some 27), 432, none, .mv (.t 5)⟩,
    ⟨(some 28), 448, none, .mv (.t 5)⟩,
    ⟨(some 29), 464, none, .call (.c (.fn (.func 18) [] [])) [(.t 28), (.c (.int .i64 14))]⟩,
    ⟨(some 30), 480, none, .call (.c (.fn (.func 24) [] [])) [(.t 27), (.t 29)]⟩,
    ⟨(some 7), 112, none, .mv (.t 30)⟩])
  (.seq (.reg [⟨(some 32), 512, none, .ld 4 true (.t 6)⟩,
    ⟨(some 33), 528, none, .mv (.t 7)⟩,
    ⟨(some 34), 544, none, .call (.c (.fn (.func 25) [] [])) [(.t 32), (.t 33)]⟩,
    ⟨(some 31), 496, none, .mv (.t 34)⟩,
    ⟨(some 35), 560, none, .ex (.t 31) 0⟩,
    ⟨(some 36), 576, none, .ex (.t 31) 1⟩,
    ⟨(some 8), 128, none, .mv (.t 35)⟩,
    ⟨(some 9), 144, none, .mv (.t 36)⟩])
  (.seq (.reg [⟨(some 38), 608, none, .ld 4 true (.t 6)⟩,
    ⟨(some 39), 624, none, .bs 46 4 [(.t 38)]⟩,
    ⟨(some 40), 640, none, .mv (.t 7)⟩,
    ⟨(some 41), 656, none, .bs 50 1 [(.t 40)]⟩,
    ⟨(some 42), 672, none, .call (.c (.fn (.func 29) [] [])) [(.t 39), (.t 41), (.c (.int .i64 0))]⟩,
    ⟨(some 37), 592, none, .mv (.t 42)⟩,
    ⟨(some 43), 688, none, .ex (.t 37) 0⟩,
    ⟨(some 44), 704, none, .ex (.t 37) 1⟩,
    ⟨(some 45), 720, none, .ex (.t 37) 2⟩,
    ⟨(some 46), 736, none, .ex (.t 37) 3⟩,
    ⟨(some 10), 160, none, .mv (.t 43)⟩,
    ⟨(some 11), 176, none, .mv (.t 44)⟩,
    ⟨(some 12), 192, none, .mv (.t 45)⟩,
    ⟨(some 13), 208, none, .mv (.t 46)⟩])
  (.seq (.reg [⟨(some 47), 752, none, .mv (.t 1)⟩,
    ⟨(some 48), 768, none, .call (.c (.fn (.func 15) [] [])) [(.t 47), (.c (.int .i64 4))]⟩,
    ⟨(some 49), 784, none, .bi false .add (.c (.int .i64 1)) (.t 48)⟩,
    ⟨(some 14), 224, none, .mv (.t 49)⟩])
  (.seq (.reg [⟨(some 15), 240, none, .mv (.c (.nil 4))⟩])
  (.seq (.reg [⟨(some 16), 256, none, .mv (.c (.nil 1))⟩])
  (.seq (.seq (.reg [⟨(some 50), 800, none, .mv (.t 14)⟩,
    ⟨(some 51), 816, none, .mv (.c (.int .i64 0))⟩])
  (.block 0 (.loop c10L1)))
  (.seq (.reg [⟨(some 63), 1008, none, .mv (.t 15)⟩,
    ⟨(some 64), 1024, none, .mv (.t 16)⟩,
    ⟨(some 65), 1040, none, .call (.c (.fn (.func 29) [] [])) [(.t 63), (.t 64), (.c (.int .i64 0))]⟩,
    ⟨(some 62), 992, none, .mv (.t 65)⟩,
    ⟨(some 66), 1056, none, .ex (.t 62) 0⟩,
    ⟨(some 67), 1072, none, .ex (.t 62) 1⟩,
    ⟨(some 68), 1088, none, .ex (.t 62) 2⟩,
    ⟨(some 69), 1104, none, .ex (.t 62) 3⟩,
    ⟨(some 17), 272, none, .mv (.t 66)⟩,
    ⟨(some 18), 288, none, .mv (.t 67)⟩,
    ⟨(some 19), 304, none, .mv (.t 68)⟩,
    ⟨(some 20), 320, none, .mv (.t 69)⟩])
  (.seq (.seq (.reg [⟨(some 70), 1120, none, .mv (.t 9)⟩,
    ⟨(some 71), 1136, none, .mv (.t 13)⟩,
    ⟨(some 72), 1152, none, .bi false .add (.t 70) (.t 71)⟩,
    ⟨(some 73), 1168, none, .mv (.t 20)⟩,
    ⟨(some 74), 1184, none, .bi false .add (.t 72) (.t 73)⟩,
    ⟨(some 75), 1200, none, .bi false .neq (.t 74) (.c (.int .i64 0))⟩,
    ⟨(some 76), 1216, none, .mv (.t 75)⟩,
    ⟨(some 77), 1232, (some (76, false)), .mv (.t 8)⟩,
    ⟨(some 78), 1248, (some (76, false)), .len (.t 77)⟩,
    ⟨(some 79), 1264, (some (76, false)), .mv (.t 7)⟩,
    ⟨(some 80), 1280, (some (76, false)), .len (.t 79)⟩,
    ⟨(some 81), 1296, (some (76, false)), .bi false .neq (.t 78) (.t 80)⟩,
    ⟨(some 82), 1312, none, .pick (.t 76) (.c (.bool true)) (.t 81)⟩,
    ⟨(some 83), 1328, none, .mv (.t 82)⟩,
    ⟨(some 84), 1344, (some (83, false)), .mv (.t 10)⟩,
    ⟨(some 85), 1360, (some (83, false)), .len (.t 84)⟩,
    ⟨(some 86), 1376, (some (83, false)), .mv (.t 7)⟩,
    ⟨(some 87), 1392, (some (83, false)), .len (.t 86)⟩,
    ⟨(some 88), 1408, (some (83, false)), .bi false .neq (.t 85) (.t 87)⟩,
    ⟨(some 89), 1424, none, .pick (.t 83) (.c (.bool true)) (.t 88)⟩,
    ⟨(some 90), 1440, none, .mv (.t 89)⟩,
    ⟨(some 91), 1456, (some (90, false)), .mv (.t 11)⟩,
    ⟨(some 92), 1472, (some (90, false)), .len (.t 91)⟩,
    ⟨(some 93), 1488, (some (90, false)), .mv (.t 7)⟩,
    ⟨(some 94), 1504, (some (90, false)), .len (.t 93)⟩,
    ⟨(some 95), 1520, (some (90, false)), .bi false .neq (.t 92) (.t 94)⟩,
    ⟨(some 96), 1536, none, .pick (.t 90) (.c (.bool true)) (.t 95)⟩,
    ⟨(some 97), 1552, none, .mv (.t 96)⟩,
    ⟨(some 98), 1568, (some (97, false)), .mv (.t 12)⟩,
    ⟨(some 99), 1584, (some (97, false)), .len (.t 98)⟩,
    ⟨(some 100), 1600, (some (97, false)), .mv (.t 7)⟩,
    ⟨(some 101), 1616, (some (97, false)), .len (.t 100)⟩,
    ⟨(some 102), 1632, (some (97, false)), .bi false .neq (.t 99) (.t 101)⟩,
    ⟨(some 103), 1648, none, .pick (.t 97) (.c (.bool true)) (.t 102)⟩])
  (.cond (.t 103) (.seq (.reg [⟨(some 4), 64, none, .mv (.c (.bool false))⟩])
  .ret) .skip))
  (.seq (.seq (.reg [⟨(some 104), 1664, none, .mv (.t 7)⟩,
    ⟨(some 105), 1680, none, .len (.t 104)⟩,
    ⟨(some 106), 1696, none, .mv (.c (.int .i64 0))⟩])
  (.block 2 (.loop c10L2)))
  (.seq (.reg [⟨(some 154), 2464, none, .mv (.t 10)⟩,
    ⟨(some 155), 2480, none, .mv (.t 17)⟩,
    ⟨(some 156), 2496, none, .call (.c (.fn (.func 17) [] [])) [(.t 154), (.t 155)]⟩,
    ⟨(some 157), 2512, none, .mv (.t 156)⟩,
    ⟨(some 158), 2528, (some (157, true)), .mv (.t 11)⟩,
    ⟨(some 159), 2544, (some (157, true)), .mv (.t 18)⟩,
    ⟨(some 160), 2560, (some (157, true)), .call (.c (.fn (.func 31) [] [])) [(.t 158), (.t 159)]⟩,
    ⟨(some 161), 2576, none, .pick (.t 157) (.t 160) (.c (.bool false))⟩,
    ⟨(some 162), 2592, none, .mv (.t 161)⟩,
    ⟨(some 163), 2608, (some (162, true)), .mv (.t 12)⟩,
    ⟨(some 164), 2624, (some (162, true)), .mv (.t 19)⟩,
    ⟨(some 165), 2640, (some (162, true)), .call (.c (.fn (.func 17) [] [])) [(.t 163), (.t 164)]⟩,
    ⟨(some 166), 2656, none, .pick (.t 162) (.t 165) (.c (.bool false))⟩,
    ⟨(some 167), 2672, none, .mv (.t 166)⟩,
    ⟨(some 168), 2688, (some (167, true)), .call (.c (.fn (.func 14) [] [])) []⟩,
    ⟨(some 169), 2704, none, .pick (.t 167) (.t 168) (.c (.bool false))⟩,
    ⟨(some 4), 64, none, .mv (.t 169)⟩])
  .ret))))))))))))))
theorem fits10 : fits Try.prog false Try.f10 2 170 [(4, none)] = some c10.er := by kernel_rfl

theorem rep_get {α : Type} [Inhabited α] {x : α} {n i : Nat} (h : i < n) : (List.replicate n x).getD i default = x := by
  rw [List.getD_eq_getElem?_getD, List.getElem?_replicate, if_pos h]; rfl
theorem seen_rep (L : List Rd) (t n : Nat) : ∀ k, k ≤ n → seenL (List.replicate n L) t k = List.replicate k (L.getD t default).v
  | 0, _ => rfl
  | k + 1, h => by
    show seenL _ t k ++ [((List.replicate n L).getD k default |>.getD t default).v] = _
    rw [seen_rep L t n k (by omega), rep_get (by omega), List.replicate_succ']
theorem good_rep (V : List Int) (t n : Nat) : ∀ k, k ≤ n → goodV (List.replicate n V) t k = List.replicate k (V.getD t default == 1)
  | 0, _ => rfl
  | k + 1, h => by
    show goodV _ t k ++ [((List.replicate n V).getD k default).getD t default == 1] = _
    rw [good_rep V t n k (by omega), rep_get (by omega), List.replicate_succ']
theorem goodL_rep (x : Int) (b : Bool) (n : Nat) : ∀ k, k ≤ n → goodL (List.replicate n x) (List.replicate n b) k = if b = true then List.replicate k x else []
  | 0, _ => by cases b <;> rfl
  | k + 1, h => by
    unfold goodL
    rw [goodL_rep x b n k (by omega), rep_get (by omega), rep_get (by omega)]
    cases b
    · rfl
    · rw [if_pos rfl, if_pos rfl, if_pos rfl, List.replicate_succ']
theorem vote_rep (x : Int) (b : Bool) {n : Nat} (hn : 0 < n) : voteF (List.replicate n x) (List.replicate n b) = if b = true then (x, true) else (0, false) := by
  unfold voteF
  rw [if_neg (by simp), List.length_replicate, goodL_rep x b n n (Nat.le_refl _)]
  cases b
  · rfl
  · rw [if_pos rfl, if_pos rfl, List.length_replicate, if_neg (by omega)]
    have hs := srt_len (List.replicate n x)
    rw [List.length_replicate] at hs
    have hm := (srt_perm (List.replicate n x)).mem_iff.1 (getD_mem (l := srt (List.replicate n x)) (i := (n - 1) / 2) (by omega))
    rw [(List.mem_replicate.1 hm).2]
theorem odd_rep (x : Int) (b : Bool) (n : Nat) : ∀ k, k ≤ n → oddN (List.replicate n x) (List.replicate n b) (if b = true then (x, true) else (0, false)).1 0 k = 0
  | 0, _ => rfl
  | k + 1, h => by
    unfold oddN
    rw [odd_rep x b n k (by omega), rep_get (by omega), rep_get (by omega), if_neg]
    rintro ⟨h1, h2⟩
    rw [h1, if_pos rfl] at h2
    dsimp only at h2
    unfold mx at h2
    split at h2 <;> omega
def aA (L : List Rd) (V : List Int) (m : Nat) : List Int := (List.range m).map fun t => if V.getD t default = 1 then (L.getD t default).v else 0
def aO (V : List Int) (m : Nat) : List Bool := (List.range m).map fun t => V.getD t default == 1
def aZ (m : Nat) : List Int := (List.range m).map fun _ => 0
theorem comb_rep (L : List Rd) (V : List Int) {n : Nat} (hn : 0 < n) : ∀ t, combT (List.replicate n L) (List.replicate n V) 0 n t = (aA L V t, aO V t, aZ t)
  | 0 => rfl
  | t + 1 => by
    have hv : voteT (List.replicate n L) (List.replicate n V) n t = if (V.getD t default == 1) = true then ((L.getD t default).v, true) else (0, false) := by
      unfold voteT
      rw [seen_rep L t n n (Nat.le_refl _), good_rep V t n n (Nat.le_refl _), vote_rep _ _ hn]
    have hc : combT (List.replicate n L) (List.replicate n V) 0 n (t + 1) = ((combT (List.replicate n L) (List.replicate n V) 0 n t).1 ++ [(voteT (List.replicate n L) (List.replicate n V) n t).1], (combT (List.replicate n L) (List.replicate n V) 0 n t).2.1 ++ [(voteT (List.replicate n L) (List.replicate n V) n t).2], (combT (List.replicate n L) (List.replicate n V) 0 n t).2.2 ++ [(oddN (seenL (List.replicate n L) t n) (goodV (List.replicate n V) t n) (voteT (List.replicate n L) (List.replicate n V) n t).1 0 n : Int)]) := rfl
    rw [hc, comb_rep L V hn t, hv, seen_rep L t n n (Nat.le_refl _), good_rep V t n n (Nat.le_refl _), odd_rep _ _ n n (Nat.le_refl _)]
    unfold aA aO aZ
    simp only [List.range_succ, List.map_append, List.map_cons, List.map_nil]
    cases h : (V.getD t default == 1)
    · have h1 : ¬ V.getD t default = 1 := by simpa using h
      rw [if_neg h1, if_neg (by decide)]; rfl
    · have h1 : V.getD t default = 1 := by simpa using h
      rw [if_pos h1, if_pos rfl]; rfl
theorem vL_rep {c : Ck} {L : List Rd} (n : Nat) : ∀ k, k ≤ n → vL (List.replicate n c) (List.replicate n L) k = List.replicate k (verdictsF c L).1
  | 0, _ => rfl
  | k + 1, h => by
    show vL _ _ k ++ [(verdictsF ((List.replicate n c).getD k default) ((List.replicate n L).getD k default)).1] = _
    rw [vL_rep n k (by omega), rep_get (by omega), rep_get (by omega), List.replicate_succ']
theorem comb_alone {c : Ck} {L : List Rd} (h : (verdictsF c L).2 = 0) {n : Nat} (hn : 0 < n) :
    combF (List.replicate n c) (List.replicate n L) 0 = (aA L (verdictsF c L).1 L.length, aO (verdictsF c L).1 L.length, aZ L.length, 0) := by
  have h1 : ixG (lenP (List.replicate n L)) (List.replicate n L) 0 (List.replicate n L).length < 0 := ixG_neg.2 fun j _ hj => by
    rw [List.length_replicate] at hj
    unfold lenP
    rw [rep_get (by omega), rep_get (by omega)]
    exact decide_eq_false (by simp)
  have h2 : scan (vE (List.replicate n c) (List.replicate n L)) 0 n = 0 := by
    have : ∀ k i, i + k ≤ n → scan (vE (List.replicate n c) (List.replicate n L)) i k = 0 := fun k => by
      induction k with
      | zero => intro i _; rfl
      | succ k ih =>
        intro i hi
        have e : vE (List.replicate n c) (List.replicate n L) i = 0 := by unfold vE; rw [rep_get (by omega), rep_get (by omega)]; exact h
        rw [scan_step (by omega) e]
        exact ih (i + 1) (by omega)
    exact this n 0 (by omega)
  have h3 : stepsF (List.replicate n L) n = L.length := by unfold stepsF; rw [if_neg (by omega), rep_get (by omega)]
  unfold combF
  rw [if_neg (by rw [List.length_replicate, List.length_replicate] at *; omega), if_neg (by omega), List.length_replicate, if_neg (by omega), h3, vL_rep n n (Nat.le_refl _), Int.toNat_natCast, comb_rep L _ hn]
theorem fl_oneA {α : Type} [Inhabited α] (e : α → List PV) (x : α) : RowEq 1 (fun i => [e x].getD i []) (fl e [x]) := fun i hi => by
  have : i = 0 := by omega
  subst this; rfl

set_option maxRecDepth 100000 in
set_option maxHeartbeats 16000000 in
theorem call10 (l : List Int) (copies : Int) : PureCall Try.prog 10 [.sl 1 1 l.length (fl eInt l), .int .i64 copies] [] ⟨.bool true, [], []⟩ := by
  refine pure_call mix Try.func10 fits10 rfl ?_
  conv => whnf
  refine ⟨_, fun _ => call_new 1 l, ?_⟩
  conv => whnf
  refine ⟨_, fun _ => call23 ⟨l, 0⟩ (by dsimp only; omega), ?_⟩
  have a1 := mkCkD_at ⟨l, 0⟩
  dsimp only at a1
  have hck := (mkCk_ok ⟨l, 0⟩).2
  generalize mkCk ⟨l, 0⟩ = c at hck ⊢
  generalize mkCkD ⟨l, 0⟩ = d at a1 ⊢
  conv => whnf
  have r2 := nxt_lt d (n := 14) (by omega)
  have a2 := nxtD_at d 14
  refine ⟨_, fun _ => call_next 1 d 14 (by omega) (by omega), ?_⟩
  conv => whnf
  refine ⟨_, fun _ => call24 (nxtD d 14) (nxt d 14) (by omega) (by omega), ?_⟩
  obtain ⟨p1, _, _⟩ := serS_props (nxtD d 14) (nxt d 14).toNat
  have hso := ser_ok (nxtD d 14) (nxt d 14).toNat (by omega)
  generalize serS (nxtD d 14) (nxt d 14).toNat = S at p1 hso ⊢
  have hll : S.l.length ≤ 20 := by omega
  have hall : allF S.l = 0 := by
    have : ∀ k i, i + k ≤ S.l.length → scan (rdE S.l) i k = 0 := fun k => by
      induction k with
      | zero => intro i _; rfl
      | succ k ih =>
        intro i hi
        rw [scan_step (by omega) (show rdE S.l i = 0 from hso i (by omega))]
        exact ih (i + 1) (by omega)
    exact this _ 0 (by omega)
  generalize S.l = L at hll hall ⊢
  generalize S.d = d2
  clear p1 hso
  have hV2 : (verdictsF c L).2 = 0 := by unfold verdictsF; rw [if_neg (by omega), if_neg (by omega)]
  have hV1 := verdicts_len hV2
  have hcomb := fun (n : Nat) (hn : 0 < n) => comb_alone (c := c) (L := L) hV2 hn
  conv => whnf
  refine ⟨_, fun _ => PureCall.arg_le (call25 c L (by omega)) rfl (by
    all_goals repeat' (first | exact True.intro | refine leF_cons rfl ?_ ?_ | refine leS_cons rfl ?_ ?_ | (show PLe _ _ _ _; conv => whnf) | (show SLe _ _ _ _; conv => whnf) | (show PLeL _ _ _ _; conv => whnf) | apply And.intro | rfl | exact Nat.le_refl _ | exact fun _ _ => rfl | exact rowEq0 _ _)
    all_goals first | omega | decide | exact Nat.zero_le _ | skip), ?_⟩
  have c1 := hcomb 1 (by omega)
  rw [show List.replicate 1 c = [c] from rfl, show List.replicate 1 L = [L] from rfl] at c1
  generalize verdictsF c L = V at hV1 hV2 hcomb c1 ⊢
  obtain ⟨V, e⟩ := V
  dsimp only at hV1 hV2 hcomb c1
  subst hV2
  have hAl : (aA L V L.length).length = L.length := by simp [aA]
  have hOl : (aO V L.length).length = L.length := by simp [aO]
  have hZl : (aZ L.length).length = L.length := by simp [aZ]
  have hAg : ∀ t, t < L.length → (aA L V L.length).getD t default = if V.getD t default = 1 then (L.getD t default).v else 0 := fun t ht => by
    unfold aA; rw [List.getD_eq_getElem?_getD, List.getElem?_map, List.getElem?_range ht]; rfl
  have hOg : ∀ t, t < L.length → (aO V L.length).getD t default = (V.getD t default == 1) := fun t ht => by
    unfold aO; rw [List.getD_eq_getElem?_getD, List.getElem?_map, List.getElem?_range ht]; rfl
  have hZg : ∀ t, t < L.length → (aZ L.length).getD t default = 0 := fun t ht => by
    unfold aZ; rw [List.getD_eq_getElem?_getD, List.getElem?_map, List.getElem?_range ht]; rfl
  generalize aA L V L.length = A at hAl hAg hcomb c1 ⊢
  generalize aO V L.length = O at hOl hOg hcomb c1 ⊢
  generalize aZ L.length = Z at hZl hZg hcomb c1 ⊢
  conv => whnf
  refine ⟨_, fun _ => PureCall.arg_le (call29 0 [c] [L] 0 (by simp) (by simp) (fun i hi => by
      have : i = 0 := by simpa using hi
      subst this
      show L.length ≤ _; omega)) rfl (by
    all_goals repeat' (first | exact True.intro | refine leF_cons rfl ?_ ?_ | refine leS_cons rfl ?_ ?_ | (show PLe _ _ _ _; conv => whnf) | (show SLe _ _ _ _; conv => whnf) | (show PLeL _ _ _ _; conv => whnf) | apply And.intro | rfl | exact Nat.le_refl _ | exact fun _ _ => rfl | exact rowEq0 _ _)
    all_goals first | rfl | decide | exact Nat.zero_le _ | exact fl_oneA eCk c | exact fl_oneA (eLs 0) L | skip), ?_⟩
  rw [c1]
  conv => whnf
  refine ⟨_, fun _ => call_mod copies 4 (by omega) (by omega), ?_⟩
  have hn : 0 ≤ copies % 4 ∧ copies % 4 < 4 := by omega
  generalize copies % 4 = q at hn ⊢
  obtain ⟨n, hnn⟩ : ∃ n : Nat, 1 + q = n := ⟨(1 + q).toNat, by omega⟩
  conv => whnf
  refine ⟨?_, ?_⟩
  · (try conv => whnf)
    (repeat' (first | exact True.intro | exact fun _ h => h | refine inR64_of ?_ ?_ | apply And.intro | refine maxLen_ge ?_)) <;> (first | omega | (dsimp only; omega) | (dsimp only [List.length_cons, List.length_nil]; omega) | (intro hg; rw [hg]; rfl) | (intro hg hh; rw [hg, hh]; rfl) | (intro hg; simp [-List.getD_eq_getElem?_getD, -Int.default_eq_zero] at hg; first | omega | (refine inR64_of ?_ ?_ <;> omega) | (constructor <;> omega)) | (simp [-List.getD_eq_getElem?_getD, -Int.default_eq_zero]; done))
  refine LSem.adopt 15 1000000 46 4 4 rfl rfl ?_
  refine LSem.adopt 16 1000001 50 1 1 rfl rfl ?_
  refine LSem.loop (n := 170) mix (α := Nat) (fun i => i ≤ n)
    (fun i => [(6, .pt 96 0 0), (7, .sl 0 4 L.length (fl eRd L)), (8, .sl 0 1 V.length (fl eInt V)), (9, .int .i64 0), (10, .sl 0 1 A.length (fl eInt A)), (11, .sl 0 1 O.length (fl eBool O)), (12, .sl 0 1 Z.length (fl eInt Z)), (13, .int .i64 0), (15, .os 1000000), (16, .os 1000001), (50, .int .i64 n), (51, .int .i64 i)])
    (fun i => [(96, .box (eCk c)), (1000000, .row 0 46 4 i (fl eCk (List.replicate i c))), (1000001, .row 0 50 1 i (fl (eLs 0) (List.replicate i L)))]) (fun i => n - i) 0 ?_ ?_ ?_
  · exact Nat.zero_le _
  · refine ⟨rfl, rfl, ?_, ?_⟩
    all_goals repeat' (first | exact True.intro | refine leF_cons rfl ?_ ?_ | refine leS_cons rfl ?_ ?_ | (show PLe _ _ _ _; conv => whnf) | (show SLe _ _ _ _; conv => whnf) | (show PLeL _ _ _ _; conv => whnf) | apply And.intro | rfl | exact Nat.le_refl _ | exact fun _ _ => rfl | exact rowEq0 _ _)
    all_goals first | omega | skip
  · intro i hi
    conv => whnf
    refine ⟨trivial, fun hc => ?_, fun hc => ?_⟩
    · replace hc := of_decide_eq_true hc
      have q1 := fl_push eCk (List.replicate i c) c
      rw [← List.replicate_succ', List.length_replicate] at q1
      have q2 := fl_push (eLs 0) (List.replicate i L) L
      rw [← List.replicate_succ', List.length_replicate] at q2
      conv => whnf
      refine ⟨?_, i + 1, (by omega : i + 1 ≤ n), ?_, rfl, rfl, ?_, ?_⟩
      · (try conv => whnf)
        (repeat' (first | exact True.intro | exact fun _ h => h | refine inR64_of ?_ ?_ | apply And.intro | refine maxLen_ge ?_)) <;> (first | omega | (dsimp only; omega) | (dsimp only [List.length_cons, List.length_nil]; omega) | (intro hg; rw [hg]; rfl) | (intro hg hh; rw [hg, hh]; rfl) | (intro hg; simp [-List.getD_eq_getElem?_getD, -Int.default_eq_zero] at hg; first | omega | (refine inR64_of ?_ ?_ <;> omega) | (constructor <;> omega)) | (simp [-List.getD_eq_getElem?_getD, -Int.default_eq_zero]; done))
      · omega
      all_goals repeat' (first | exact True.intro | refine leF_cons rfl ?_ ?_ | refine leS_cons rfl ?_ ?_ | (show PLe _ _ _ _; conv => whnf) | (show SLe _ _ _ _; conv => whnf) | (show PLeL _ _ _ _; conv => whnf) | apply And.intro | rfl | exact Nat.le_refl _ | exact fun _ _ => rfl | exact rowEq0 _ _)
      all_goals first | omega | exact q1 | exact q2 | skip
    · replace hc := of_decide_eq_false hc
      have : i = n := by omega
      subst this
      have cn := hcomb i (by omega)
      have hRc : (List.replicate i c).length = i := List.length_replicate ..
      have hRL : (List.replicate i L).length = i := List.length_replicate ..
      have hRg : ∀ k, k < (List.replicate i L).length → ((List.replicate i L).getD k default).length ≤ 8796093022208 := fun k hk => by
        rw [rep_get (by omega)]; omega
      generalize List.replicate i c = Rc at hRc cn ⊢
      generalize List.replicate i L = RL at hRL hRg cn ⊢
      conv => whnf
      refine ⟨_, fun _ => PureCall.arg_le (call29 0 Rc RL 0 (by omega) (by omega) hRg) rfl (by
        all_goals repeat' (first | exact True.intro | refine leF_cons rfl ?_ ?_ | refine leS_cons rfl ?_ ?_ | (show PLe _ _ _ _; conv => whnf) | (show SLe _ _ _ _; conv => whnf) | (show PLeL _ _ _ _; conv => whnf) | apply And.intro | rfl | exact Nat.le_refl _ | exact fun _ _ => rfl | exact rowEq0 _ _)
        all_goals first | omega | decide | exact Nat.zero_le _ | skip), ?_⟩
      rw [cn]
      conv => whnf
      refine ⟨?_, fun hc2 => ?_, fun _ => ?_⟩
      · (try conv => whnf)
        (repeat' (first | exact True.intro | exact fun _ h => h | refine inR64_of ?_ ?_ | apply And.intro | refine maxLen_ge ?_)) <;> (first | omega | (dsimp only; omega) | (dsimp only [List.length_cons, List.length_nil]; omega) | (intro hg; rw [hg]; rfl) | (intro hg hh; rw [hg, hh]; rfl) | (intro hg; simp [-List.getD_eq_getElem?_getD, -Int.default_eq_zero] at hg; first | omega | (refine inR64_of ?_ ?_ <;> omega) | (constructor <;> omega)) | (simp [-List.getD_eq_getElem?_getD, -Int.default_eq_zero]; done))
      · exfalso
        simp only [bif_t, bif_f, decide_eq_true_eq, decide_eq_false_iff_not, Bool.not_eq_true', Bool.not_eq_false', Bool.and_eq_true, Bool.or_eq_true, Bool.and_eq_false_iff, Bool.or_eq_false_iff, beq_iff_eq, bne_iff_ne, beq_eq_false_iff_ne, bne_eq_false_iff_eq, reduceCtorEq, false_and, and_false, true_and, and_true, or_false, false_or, or_true, true_or, not_true_eq_false, not_false_eq_true, Int.toNat_zero] at hc2
        simp at hc2
        omega
      conv => whnf
      refine ⟨?_, ?_⟩
      · (try conv => whnf)
        (repeat' (first | exact True.intro | exact fun _ h => h | refine inR64_of ?_ ?_ | apply And.intro | refine maxLen_ge ?_)) <;> (first | omega | (dsimp only; omega) | (dsimp only [List.length_cons, List.length_nil]; omega) | (intro hg; rw [hg]; rfl) | (intro hg hh; rw [hg, hh]; rfl) | (intro hg; simp [-List.getD_eq_getElem?_getD, -Int.default_eq_zero] at hg; first | omega | (refine inR64_of ?_ ?_ <;> omega) | (constructor <;> omega)) | (simp [-List.getD_eq_getElem?_getD, -Int.default_eq_zero]; done))
      refine LSem.loop (n := 170) mix (α := Nat) (fun t => t ≤ L.length)
        (fun t => [(7, .sl 0 4 L.length (fl eRd L)), (8, .sl 0 1 V.length (fl eInt V)), (10, .sl 0 1 A.length (fl eInt A)), (11, .sl 0 1 O.length (fl eBool O)), (12, .sl 0 1 Z.length (fl eInt Z)), (17, .sl 0 1 A.length (fl eInt A)), (18, .sl 0 1 O.length (fl eBool O)), (19, .sl 0 1 Z.length (fl eInt Z)), (105, .int .i64 L.length), (106, .int .i64 t)])
        (fun t => []) (fun t => L.length - t) 0 ?_ ?_ ?_
      · exact Nat.zero_le _
      · refine ⟨rfl, rfl, ?_, ?_⟩
        all_goals repeat' (first | exact True.intro | refine leF_cons rfl ?_ ?_ | refine leS_cons rfl ?_ ?_ | (show PLe _ _ _ _; conv => whnf) | (show SLe _ _ _ _; conv => whnf) | (show PLeL _ _ _ _; conv => whnf) | apply And.intro | rfl | exact Nat.le_refl _ | exact fun _ _ => rfl | exact rowEq0 _ _)
      · intro t ht
        have hjt : ((t : Int)).toNat = t := by omega
        conv => whnf
        refine ⟨trivial, fun hc3 => ?_, fun hc3 => ?_⟩
        · replace hc3 := of_decide_eq_true hc3
          have hlt : t < L.length := by omega
          have g1 := hAg t hlt
          have g2 := hOg t hlt
          have g3 := hZg t hlt
          conv => whnf
          refine ⟨rfl, ?_⟩
          conv => whnf
          refine ⟨?_, fun hc4 => ?_, fun _ => ?_⟩
          · rw [hjt]
            (try conv => whnf)
            (repeat' (first | exact True.intro | exact fun _ h => h | refine inR64_of ?_ ?_ | apply And.intro | refine maxLen_ge ?_)) <;> (first | omega | (dsimp only; omega) | (dsimp only [List.length_cons, List.length_nil]; omega) | (intro hg; rw [hg]; rfl) | (intro hg hh; rw [hg, hh]; rfl) | (intro hg; simp [-List.getD_eq_getElem?_getD, -Int.default_eq_zero] at hg; first | omega | (refine inR64_of ?_ ?_ <;> omega) | (constructor <;> omega)) | (simp [-List.getD_eq_getElem?_getD, -Int.default_eq_zero]; done))
          · exfalso
            rw [hjt, g1, g2, g3] at hc4
            by_cases hv : V.getD t default = 1
            · rw [if_pos hv, hv] at hc4; simp at hc4
            · rw [if_neg hv, show (V.getD t default == 1) = false from beq_eq_false_iff_ne.2 hv] at hc4; simp at hc4
          conv => whnf
          refine ⟨?_, t + 1, (by omega : t + 1 ≤ L.length), ?_, rfl, rfl, ?_, ?_⟩
          · (try conv => whnf)
            (repeat' (first | exact True.intro | exact fun _ h => h | refine inR64_of ?_ ?_ | apply And.intro | refine maxLen_ge ?_)) <;> (first | omega | (dsimp only; omega) | (dsimp only [List.length_cons, List.length_nil]; omega) | (intro hg; rw [hg]; rfl) | (intro hg hh; rw [hg, hh]; rfl) | (intro hg; simp [-List.getD_eq_getElem?_getD, -Int.default_eq_zero] at hg; first | omega | (refine inR64_of ?_ ?_ <;> omega) | (constructor <;> omega)) | (simp [-List.getD_eq_getElem?_getD, -Int.default_eq_zero]; done))
          · omega
          all_goals repeat' (first | exact True.intro | refine leF_cons rfl ?_ ?_ | refine leS_cons rfl ?_ ?_ | (show PLe _ _ _ _; conv => whnf) | (show SLe _ _ _ _; conv => whnf) | (show PLeL _ _ _ _; conv => whnf) | apply And.intro | rfl | exact Nat.le_refl _ | exact fun _ _ => rfl | exact rowEq0 _ _)
          all_goals omega
        · replace hc3 := of_decide_eq_false hc3
          conv => whnf
          refine ⟨_, fun _ => call17 _ _ A A (by omega), ?_⟩
          conv => whnf
          refine ⟨_, fun _ => call31 _ _ O O (by omega), ?_⟩
          conv => whnf
          refine ⟨_, fun _ => call17 _ _ Z Z (by omega), ?_⟩
          conv => whnf
          refine ⟨_, fun _ => call14, ?_⟩
          conv => whnf
          refine ⟨?_, [], ?_⟩
          · (try conv => whnf)
            (repeat' (first | exact True.intro | exact fun _ h => h | refine inR64_of ?_ ?_ | apply And.intro | refine maxLen_ge ?_)) <;> (first | omega | (dsimp only; omega) | (dsimp only [List.length_cons, List.length_nil]; omega) | (intro hg; rw [hg]; rfl) | (intro hg hh; rw [hg, hh]; rfl) | (intro hg; simp [-List.getD_eq_getElem?_getD, -Int.default_eq_zero] at hg; first | omega | (refine inR64_of ?_ ?_ <;> omega) | (constructor <;> omega)) | (simp [-List.getD_eq_getElem?_getD, -Int.default_eq_zero]; done))
          conv => whnf
          refine ⟨rfl, ?_, trivial, trivial⟩
          all_goals repeat' (first | exact True.intro | refine leF_cons rfl ?_ ?_ | refine leS_cons rfl ?_ ?_ | (show PLe _ _ _ _; conv => whnf) | (show SLe _ _ _ _; conv => whnf) | (show PLeL _ _ _ _; conv => whnf) | apply And.intro | rfl | exact Nat.le_refl _ | exact fun _ _ => rfl | exact rowEq0 _ _)
          simp
end Pv
end Go.Proofs.Ytogoplhikmmggaa
