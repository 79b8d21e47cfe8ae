/- LAW 29: the statement on lists of bounds. -/
import Derived.Test.YtiknpkadlckmjaaW8
namespace Go.Proofs.Ytiknpkadlckmjaa
namespace Pv
def c7L1 : C := (.seq (.reg [⟨(some 57), 912, none, .bi false .lss (.t 56) (.t 55)⟩])
  (.seq (.cond (.t 57) .skip (.exit 0))
  (.seq (.block 1 (.seq (.reg [⟨(some 58), 928, none, .ia 2 (.t 54) (.t 56)⟩,
    ⟨(some 59), 944, none, .ld 2 true (.t 58)⟩,
    ⟨(some 9), 144, none, .al [(.nil 2), (.nil 2)]⟩,
    ⟨none, 0, none, .st 2 (.t 9) (.t 59)⟩])
  (.seq (.reg [⟨(some 61), 976, none, .iaa 2 1 (.t 9) (.c (.int .i64 0))⟩,
    ⟨(some 62), 992, none, .ld 1 false (.t 61)⟩,
    ⟨(some 63), 1008, none, .iaa 2 1 (.t 9) (.c (.int .i64 1))⟩,
    ⟨(some 64), 1024, none, .ld 1 false (.t 63)⟩,
    ⟨(some 65), 1040, none, .call (.c (.fn (.func 25) [] [])) [(.t 62), (.t 64)]⟩,
    ⟨(some 60), 960, none, .mv (.t 65)⟩,
    ⟨(some 66), 1056, none, .ex (.t 60) 0⟩,
    ⟨(some 67), 1072, none, .ex (.t 60) 1⟩,
    ⟨(some 10), 160, none, .mv (.t 66)⟩,
    ⟨(some 11), 176, none, .mv (.t 67)⟩])
  (.seq (.reg [⟨(some 69), 1104, none, .iaa 2 1 (.t 9) (.c (.int .i64 0))⟩,
    ⟨(some 70), 1120, none, .ld 1 false (.t 69)⟩,
    ⟨(some 71), 1136, none, .iaa 2 1 (.t 9) (.c (.int .i64 1))⟩,
    ⟨(some 72), 1152, none, .ld 1 false (.t 71)⟩,
    ⟨(some 73), 1168, none, .call (.c (.fn (.func 26) [] [])) [(.t 70), (.t 72)]⟩,
    ⟨(some 68), 1088, none, .mv (.t 73)⟩,
    ⟨(some 74), 1184, none, .ex (.t 68) 0⟩,
    ⟨(some 75), 1200, none, .ex (.t 68) 1⟩,
    ⟨(some 12), 192, none, .mv (.t 74)⟩,
    ⟨(some 13), 208, none, .mv (.t 75)⟩])
  (.seq (.reg [⟨(some 76), 1216, none, .mv (.t 11)⟩,
    ⟨(some 77), 1232, none, .mv (.t 13)⟩,
    ⟨(some 78), 1248, none, .bi false .neq (.t 76) (.t 77)⟩,
    ⟨(some 79), 1264, none, .mv (.t 78)⟩,
    ⟨(some 80), 1280, (some (79, false)), .mv (.t 10)⟩,
    ⟨(some 81), 1296, (some (79, false)), .mv (.t 12)⟩,
    ⟨(some 82), 1312, (some (79, false)), .call (.c (.fn (.func 22) [] [])) [(.t 80), (.t 81)]⟩,
    ⟨(some 83), 1328, (some (79, false)), .un false .not (.t 82)⟩,
    ⟨(some 84), 1344, none, .pick (.t 79) (.c (.bool true)) (.t 83)⟩])
  (.cond (.t 84) (.seq (.reg [⟨(some 6), 96, none, .mv (.c (.bool false))⟩])
  .ret) .skip))))))
  (.reg [⟨(some 85), 1360, none, .bi false .add (.t 56) (.c (.int .i64 1))⟩,
    ⟨(some 56), 896, none, .mv (.t 85)⟩]))))
def c7 : C := (.seq (.reg [⟨(some 6), 96, none, .mv (.c (.bool false))⟩])
  (.seq (.seq (.reg [⟨(some 21), 336, none, .call (.c (.fn (.func 8) [] [])) []⟩,
    ⟨(some 22), 352, none, .un false .not (.t 21)⟩])
  (.cond (.t 22) (.seq (.reg [⟨(some 6), 96, none, .mv (.c (.bool false))⟩])
  .ret) .skip))
  (.seq (.seq (.reg [⟨(some 23), 368, none, .mv (.t 0)⟩,
    ⟨(some 24), 384, none, .len (.t 23)⟩,
    ⟨(some 25), 400, none, .bi false .gtr (.t 24) (.c (.int .i64 400))⟩,
    ⟨(some 26), 416, none, .mv (.t 25)⟩,
    ⟨(some 27), 432, (some (26, false)), .mv (.t 1)⟩,
    ⟨(some 28), 448, (some (26, false)), .len (.t 27)⟩,
    ⟨(some 29), 464, (some (26, false)), .bi false .gtr (.t 28) (.c (.int .i64 400))⟩,
    ⟨(some 30), 480, none, .pick (.t 26) (.c (.bool true)) (.t 29)⟩,
    ⟨(some 31), 496, none, .mv (.t 30)⟩,
    ⟨(some 32), 512, (some (31, false)), .mv (.t 2)⟩,
    ⟨(some 33), 528, (some (31, false)), .len (.t 32)⟩,
    ⟨(some 34), 544, (some (31, false)), .bi false .gtr (.t 33) (.c (.int .i64 400))⟩,
    ⟨(some 35), 560, none, .pick (.t 31) (.c (.bool true)) (.t 34)⟩])
  (.cond (.t 35) (.seq (.reg [⟨(some 6), 96, none, .mv (.c (.bool true))⟩])
  .ret) .skip))
  (.seq (.reg [⟨(some 36), 576, none, .mv (.t 0)⟩,
    ⟨(some 37), 592, none, .len (.t 36)⟩,
    ⟨(some 38), 608, none, .mv (.t 1)⟩,
    ⟨(some 39), 624, none, .len (.t 38)⟩,
    ⟨(some 40), 640, none, .mn [(.t 37), (.t 39)]⟩,
    ⟨(some 7), 112, none, .mv (.t 40)⟩])
  (.seq (.seq (.drw [⟨(some 41), 656, none, .mv (.t 0)⟩,
    ⟨(some 42), 672, none, .mv (.t 1)⟩,
    ⟨(some 43), 688, none, .bd [(.nil 2), (.nil 2)] [(0, 1, (.t 41)), (1, 1, (.t 42))]⟩,
    ⟨(some 44), 704, none, .mv (.t 0)⟩,
    ⟨(some 45), 720, none, .mv (.t 7)⟩,
    ⟨(some 46), 736, none, .slc 2 (.t 44) none (some (.t 45))⟩,
    ⟨(some 47), 752, none, .mv (.t 1)⟩,
    ⟨(some 48), 768, none, .mv (.t 7)⟩,
    ⟨(some 49), 784, none, .slc 2 (.t 47) none (some (.t 48))⟩,
    ⟨(some 50), 800, none, .bd [(.nil 2), (.nil 2)] [(0, 1, (.t 46)), (1, 1, (.t 49))]⟩,
    ⟨(some 51), 816, none, .mv (.t 0)⟩,
    ⟨(some 52), 832, none, .mv (.t 0)⟩,
    ⟨(some 53), 848, none, .bd [(.nil 2), (.nil 2)] [(0, 1, (.t 51)), (1, 1, (.t 52))]⟩,
    ⟨(some 54), 864, none, .bs 57 2 [(.t 43), (.t 50), (.t 53)]⟩,
    ⟨(some 55), 880, none, .len (.t 54)⟩,
    ⟨(some 56), 896, none, .mv (.c (.int .i64 0))⟩]
    [(0, 1, 41), (0, 3, 41), (0, 4, 41), (0, 5, 41), (0, 6, 41), (0, 7, 41), (0, 8, 41), (0, 9, 41), (0, 10, 41), (0, 11, 41), (0, 12, 41), (0, 15, 41), (1, 3, 42), (1, 4, 42), (1, 5, 42), (1, 6, 42), (1, 7, 42), (1, 8, 42), (1, 9, 42), (1, 10, 42), (1, 11, 42), (1, 12, 42), (1, 15, 42), (2, 3, 43), (2, 4, 43), (2, 5, 43), (2, 6, 43), (2, 7, 43), (2, 8, 43), (2, 9, 43), (2, 10, 43), (2, 11, 43), (2, 12, 43), (2, 15, 43), (3, 4, 44), (3, 6, 44), (3, 7, 44), (3, 8, 44), (3, 10, 44), (3, 11, 44), (3, 12, 44), (3, 15, 44), (4, 6, 45), (4, 7, 45), (4, 8, 45), (4, 10, 45), (4, 11, 45), (4, 12, 45), (4, 15, 45), (5, 6, 46), (5, 7, 46), (5, 8, 46), (5, 10, 46), (5, 11, 46), (5, 12, 46), (5, 15, 46), (6, 7, 47), (6, 10, 47), (6, 11, 47), (6, 12, 47), (6, 15, 47), (7, 10, 48), (7, 11, 48), (7, 12, 48), (7, 15, 48), (8, 10, 49), (8, 11, 49), (8, 12, 49), (8, 15, 49), (9, 10, 50), (9, 11, 50), (9, 12, 50), (9, 15, 50), (10, 11, 51), (10, 15, 51), (11, 15, 52), (12, 15, 53), (13, 15, 54), (14, 15, 55)])
  (.block 0 (.loop c7L1)))
  (.seq (.reg [⟨(some 87), 1392, none, .mv (.t 0)⟩,
    ⟨(some 88), 1408, none, .call (.c (.fn (.func 27) [] [])) [(.t 87)]⟩,
    ⟨(some 86), 1376, none, .mv (.t 88)⟩,
    ⟨(some 89), 1424, none, .ex (.t 86) 0⟩,
    ⟨(some 90), 1440, none, .ex (.t 86) 1⟩,
    ⟨(some 91), 1456, none, .ex (.t 86) 2⟩,
    ⟨(some 14), 224, none, .mv (.t 89)⟩,
    ⟨(some 15), 240, none, .mv (.t 90)⟩,
    ⟨(some 16), 256, none, .mv (.t 91)⟩])
  (.seq (.reg [⟨(some 93), 1488, none, .mv (.t 0)⟩,
    ⟨(some 94), 1504, none, .call (.c (.fn (.func 28) [] [])) [(.t 93)]⟩,
    ⟨(some 92), 1472, none, .mv (.t 94)⟩,
    ⟨(some 95), 1520, none, .ex (.t 92) 0⟩,
    ⟨(some 96), 1536, none, .ex (.t 92) 1⟩,
    ⟨(some 97), 1552, none, .ex (.t 92) 2⟩,
    ⟨(some 17), 272, none, .mv (.t 95)⟩,
    ⟨(some 18), 288, none, .mv (.t 96)⟩,
    ⟨(some 19), 304, none, .mv (.t 97)⟩])
  (.seq (.reg [⟨(some 98), 1568, none, .mv (.t 7)⟩,
    ⟨(some 99), 1584, none, .mv (.t 2)⟩,
    ⟨(some 100), 1600, none, .len (.t 99)⟩,
    ⟨(some 101), 1616, none, .mn [(.t 98), (.t 100)]⟩,
    ⟨(some 20), 320, none, .mv (.t 101)⟩])
  (.seq (.drw [⟨(some 102), 1632, none, .mv (.t 14)⟩,
    ⟨(some 103), 1648, none, .mv (.t 17)⟩,
    ⟨(some 104), 1664, none, .bi false .eql (.t 102) (.t 103)⟩,
    ⟨(some 105), 1680, none, .mv (.t 104)⟩,
    ⟨(some 106), 1696, (some (105, true)), .mv (.t 15)⟩,
    ⟨(some 107), 1712, (some (105, true)), .mv (.t 18)⟩,
    ⟨(some 108), 1728, (some (105, true)), .bi false .eql (.t 106) (.t 107)⟩,
    ⟨(some 109), 1744, none, .pick (.t 105) (.t 108) (.c (.bool false))⟩,
    ⟨(some 110), 1760, none, .mv (.t 109)⟩,
    ⟨(some 111), 1776, (some (110, true)), .mv (.t 16)⟩,
    ⟨(some 112), 1792, (some (110, true)), .mv (.t 19)⟩,
    ⟨(some 113), 1808, (some (110, true)), .bib false (.t 111) (.t 112)⟩,
    ⟨(some 114), 1824, none, .pick (.t 110) (.t 113) (.c (.bool false))⟩,
    ⟨(some 115), 1840, none, .mv (.t 114)⟩,
    ⟨(some 116), 1856, (some (115, true)), .mv (.t 0)⟩,
    ⟨(some 117), 1872, (some (115, true)), .mv (.t 2)⟩,
    ⟨(some 118), 1888, (some (115, true)), .call (.c (.fn (.func 24) [] [])) [(.t 116), (.t 117)]⟩,
    ⟨(some 119), 1904, (some (115, true)), .mv (.t 0)⟩,
    ⟨(some 120), 1920, (some (115, true)), .mv (.t 2)⟩,
    ⟨(some 121), 1936, (some (115, true)), .call (.c (.fn (.func 29) [] [])) [(.t 119), (.t 120)]⟩,
    ⟨(some 122), 1952, (some (115, true)), .bib false (.t 118) (.t 121)⟩,
    ⟨(some 123), 1968, none, .pick (.t 115) (.t 122) (.c (.bool false))⟩,
    ⟨(some 124), 1984, none, .mv (.t 123)⟩,
    ⟨(some 125), 2000, (some (124, true)), .mv (.t 0)⟩,
    ⟨(some 126), 2016, (some (124, true)), .mv (.t 20)⟩,
    ⟨(some 127), 2032, (some (124, true)), .slc 2 (.t 125) none (some (.t 126))⟩,
    ⟨(some 128), 2048, (some (124, true)), .mv (.t 2)⟩,
    ⟨(some 129), 2064, (some (124, true)), .mv (.t 20)⟩,
    ⟨(some 130), 2080, (some (124, true)), .slc 1 (.t 128) none (some (.t 129))⟩,
    ⟨(some 131), 2096, (some (124, true)), .call (.c (.fn (.func 24) [] [])) [(.t 127), (.t 130)]⟩,
    ⟨(some 132), 2112, (some (124, true)), .mv (.t 0)⟩,
    ⟨(some 133), 2128, (some (124, true)), .mv (.t 20)⟩,
    ⟨(some 134), 2144, (some (124, true)), .slc 2 (.t 132) none (some (.t 133))⟩,
    ⟨(some 135), 2160, (some (124, true)), .mv (.t 2)⟩,
    ⟨(some 136), 2176, (some (124, true)), .mv (.t 20)⟩,
    ⟨(some 137), 2192, (some (124, true)), .slc 1 (.t 135) none (some (.t 136))⟩,
    ⟨(some 138), 2208, (some (124, true)), .call (.c (.fn (.func 29) [] [])) [(.t 134), (.t 137)]⟩,
    ⟨(some 139), 2224, (some (124, true)), .bib false (.t 131) (.t 138)⟩,
    ⟨(some 140), 2240, none, .pick (.t 124) (.t 139) (.c (.bool false))⟩,
    ⟨(some 6), 96, none, .mv (.t 140)⟩]
    [(0, 1, 102), (4, 5, 106), (9, 10, 111), (14, 15, 116), (14, 17, 116), (14, 18, 116), (15, 17, 117), (15, 18, 117), (16, 17, 118), (16, 18, 118), (17, 18, 119), (23, 24, 125), (23, 26, 125), (23, 27, 125), (23, 28, 125), (23, 30, 125), (23, 31, 125), (23, 32, 125), (23, 33, 125), (23, 34, 125), (23, 35, 125), (24, 26, 126), (24, 27, 126), (24, 28, 126), (24, 30, 126), (24, 31, 126), (24, 32, 126), (24, 33, 126), (24, 34, 126), (24, 35, 126), (25, 26, 127), (25, 27, 127), (25, 28, 127), (25, 30, 127), (25, 31, 127), (25, 32, 127), (25, 33, 127), (25, 34, 127), (25, 35, 127), (26, 27, 128), (26, 30, 128), (26, 31, 128), (26, 32, 128), (26, 33, 128), (26, 34, 128), (26, 35, 128), (27, 30, 129), (27, 31, 129), (27, 32, 129), (27, 33, 129), (27, 34, 129), (27, 35, 129), (28, 30, 130), (28, 31, 130), (28, 32, 130), (28, 33, 130), (28, 34, 130), (28, 35, 130), (29, 30, 131), (29, 31, 131), (29, 32, 131), (29, 33, 131), (29, 34, 131), (29, 35, 131), (30, 31, 132), (30, 33, 132), (30, 34, 132), (30, 35, 132), (31, 33, 133), (31, 34, 133), (31, 35, 133), (32, 33, 134), (32, 34, 134), (32, 35, 134), (33, 34, 135)])
  .ret)))))))))
theorem fits7 : fits Try.prog false Try.f7 3 141 [(6, none)] = some c7.er := by kernel_rfl

theorem arg2_le {f : FuncId} {τ τ' n n' z z' m m' : Nat} {fa fb ga gb : Nat → List PV} {c : CallRes} (h : PureCall Try.prog f [.sl τ z m ga, .sl τ' z' m' gb] [] c) (h1 : n = m) (h2 : RowEq n fa ga) (h3 : n' = m') (h4 : RowEq n' fb gb) : PureCall Try.prog f [.sl τ z n fa, .sl τ' z' n' fb] [] c := by
  refine PureCall.arg_le h rfl ?_
  conv => whnf
  refine ⟨?_, ?_⟩
  · conv => whnf
    exact ⟨Nat.le_refl _, rfl, h1, h2⟩
  · conv => whnf
    refine ⟨?_, trivial⟩
    conv => whnf
    exact ⟨Nat.le_refl _, rfl, h3, h4⟩

theorem narrow_len (a b : List Bo) : (narrowF a b).1.length ≤ a.length := by
  unfold narrowF; split
  · simp
  · split <;> simp
theorem same_refl (a : List Bo) : sameF a a = true := decide_eq_true rfl
theorem take_row {α : Type} [Inhabited α] (e : α → List PV) (l : List α) (n : Nat) : RowEq n (fl e l) (fl e (l.take n)) := fun i hi => by
  unfold fl; rw [List.getD_eq_getElem?_getD, List.getD_eq_getElem?_getD, List.getElem?_take_of_lt hi]

theorem call7 (τ τ' τ'' : Nat) (a b : List Bo) (v : List Int) (ha : ∀ x ∈ a, InB x) : PureCall Try.prog 7 [.sl τ 2 a.length (fl eBo a), .sl τ' 2 b.length (fl eBo b), .sl τ'' 1 v.length (fl eInt v)] [] ⟨.bool true, [], []⟩ := by
  refine pure_call mix Try.func7 fits7 rfl ?_
  conv => whnf
  refine ⟨_, fun _ => call8, ?_⟩
  conv => whnf
  refine ⟨by simp, fun hc => absurd hc (by simp), fun _ => ?_⟩
  conv => whnf
  refine ⟨?_, fun hc => ?_, fun hc => ?_⟩
  · (try conv => whnf)
    (repeat' (first | exact True.intro | refine inR64_of ?_ ?_ | apply And.intro | refine maxLen_ge ?_ | exact fun _ h => h)) <;> (first | omega | (dsimp only; omega) | (dsimp only [List.length_cons, List.length_nil]; omega) | (intro hg; rw [hg]; rfl) | (intro hg; simp [-List.getD_eq_getElem?_getD, -Int.default_eq_zero] at hg; first | omega | (refine inR64_of ?_ ?_ <;> omega) | (constructor <;> omega)) | (simp [-List.getD_eq_getElem?_getD, -Int.default_eq_zero]; done))
  · conv => whnf
    refine ⟨?_, [], ?_⟩
    · (try conv => whnf)
      (repeat' (first | exact True.intro | refine inR64_of ?_ ?_ | apply And.intro | refine maxLen_ge ?_ | exact fun _ h => h)) <;> (first | omega | (dsimp only; omega) | (dsimp only [List.length_cons, List.length_nil]; omega) | (intro hg; rw [hg]; rfl) | (intro hg; simp [-List.getD_eq_getElem?_getD, -Int.default_eq_zero] at hg; first | omega | (refine inR64_of ?_ ?_ <;> omega) | (constructor <;> omega)) | (simp [-List.getD_eq_getElem?_getD, -Int.default_eq_zero]; done))
    conv => whnf
    refine ⟨rfl, ?_, trivial, trivial⟩
    all_goals repeat' (first | exact True.intro | refine leF_cons rfl ?_ ?_ | refine leS_cons rfl ?_ ?_ | (show PLe _ _ _ _; conv => whnf) | (show SLe _ _ _ _; conv => whnf) | (show PLeL _ _ _ _; conv => whnf) | apply And.intro | rfl | exact Nat.le_refl _ | exact fun _ _ => rfl | exact rowEq0 _ _)
  · simp [-List.getD_eq_getElem?_getD, -Int.default_eq_zero] at hc
    obtain ⟨⟨hla, hlb⟩, hlv⟩ := hc
    conv => whnf
    refine ⟨rfl, ?_⟩
    conv => whnf
    have hN : (if (b.length : Int) < a.length then (b.length : Int) else a.length).toNat = min a.length b.length := by split <;> omega
    refine ⟨?_, ?_⟩
    · repeat' (first | exact True.intro | refine inR64_of ?_ ?_ | apply And.intro)
      all_goals (split <;> omega)
    refine LSem.loop (n := 141) mix (α := Nat) (fun i => i ≤ 3)
      (fun i => [(0, .sl τ 2 a.length (fl eBo a)), (1, .sl τ' 2 b.length (fl eBo b)), (2, .sl τ'' 1 v.length (fl eInt v)), (7, .int .i64 (if (b.length : Int) < a.length then (b.length : Int) else a.length)),
        (54, .sl (τ + τ') 2 3 (fun i => [[.sl τ 2 a.length (fl eBo a), .sl τ' 2 b.length (fl eBo b)], [.sl τ 2 (if (b.length : Int) < a.length then (b.length : Int) else a.length).toNat (fl eBo a), .sl τ' 2 (if (b.length : Int) < a.length then (b.length : Int) else a.length).toNat (fl eBo b)], [.sl τ 2 a.length (fl eBo a), .sl τ 2 a.length (fl eBo a)]].getD i [])),
        (55, .int .i64 3), (56, .int .i64 i)])
      (fun i => []) (fun i => 3 - i) 0 ?_ ?_ ?_
    · omega
    · refine ⟨rfl, rfl, ?_, ?_⟩
      all_goals repeat' (first | exact True.intro | refine leF_cons rfl ?_ ?_ | refine leS_cons rfl ?_ ?_ | (show PLe _ _ _ _; conv => whnf) | (show SLe _ _ _ _; conv => whnf) | (show PLeL _ _ _ _; conv => whnf) | apply And.intro | rfl | exact Nat.le_refl _ | exact fun _ _ => rfl | exact rowEq0 _ _)
      all_goals (simp [tauR, tauL, PV.tau]; omega)
    · intro i hi
      have hcases : i = 0 ∨ i = 1 ∨ i = 2 ∨ i = 3 := by omega
      rcases hcases with rfl | rfl | rfl | rfl
      · conv => whnf
        refine ⟨trivial, fun _ => ?_, fun hc => absurd hc (by decide)⟩
        conv => whnf
        refine ⟨_, fun _ => arg2_le (call25 _ _ (a) (b) (by first | omega | (rw [List.length_take]; omega))) rfl (fun _ _ => rfl) rfl (fun _ _ => rfl), ?_⟩
        conv => whnf
        refine ⟨_, fun _ => arg2_le (call26 _ _ (a) (b) (by first | omega | (rw [List.length_take]; omega))) rfl (fun _ _ => rfl) rfl (fun _ _ => rfl), ?_⟩
        conv => whnf
        refine ⟨_, fun _ => call22 _ _ (narrowF (a) (b)).1 (narrowF (a) (b)).1 (Nat.le_trans (narrow_len _ _) (by first | omega | (rw [List.length_take]; omega))), ?_⟩
        conv => whnf
        refine ⟨?_, fun hc => ?_, fun _ => ?_⟩
        · (try conv => whnf)
          (repeat' (first | exact True.intro | refine inR64_of ?_ ?_ | apply And.intro | refine maxLen_ge ?_ | exact fun _ h => h)) <;> (first | omega | (dsimp only; omega) | (dsimp only [List.length_cons, List.length_nil]; omega) | (intro hg; rw [hg]; rfl) | (intro hg; simp [-List.getD_eq_getElem?_getD, -Int.default_eq_zero] at hg; first | omega | (refine inR64_of ?_ ?_ <;> omega) | (constructor <;> omega)) | (simp [-List.getD_eq_getElem?_getD, -Int.default_eq_zero]; done))
        · rw [same_refl] at hc; simp at hc
        · conv => whnf
          refine ⟨?_, 1, by omega, by omega, rfl, rfl, ?_, ?_⟩
          · (try conv => whnf)
            (repeat' (first | exact True.intro | refine inR64_of ?_ ?_ | apply And.intro | refine maxLen_ge ?_ | exact fun _ h => h)) <;> (first | omega | (dsimp only; omega) | (dsimp only [List.length_cons, List.length_nil]; omega) | (intro hg; rw [hg]; rfl) | (intro hg; simp [-List.getD_eq_getElem?_getD, -Int.default_eq_zero] at hg; first | omega | (refine inR64_of ?_ ?_ <;> omega) | (constructor <;> omega)) | (simp [-List.getD_eq_getElem?_getD, -Int.default_eq_zero]; done))
          all_goals repeat' (first | exact True.intro | refine leF_cons rfl ?_ ?_ | refine leS_cons rfl ?_ ?_ | (show PLe _ _ _ _; conv => whnf) | (show SLe _ _ _ _; conv => whnf) | (show PLeL _ _ _ _; conv => whnf) | apply And.intro | rfl | exact Nat.le_refl _ | exact fun _ _ => rfl | exact rowEq0 _ _)
      · conv => whnf
        refine ⟨trivial, fun _ => ?_, fun hc => absurd hc (by decide)⟩
        conv => whnf
        refine ⟨_, fun _ => arg2_le (call25 _ _ (a.take (min a.length b.length)) (b.take (min a.length b.length)) (by first | omega | (rw [List.length_take]; omega))) (by rw [hN, List.length_take]; omega) (by rw [hN]; exact take_row _ _ _) (by rw [hN, List.length_take]; omega) (by rw [hN]; exact take_row _ _ _), ?_⟩
        conv => whnf
        refine ⟨_, fun _ => arg2_le (call26 _ _ (a.take (min a.length b.length)) (b.take (min a.length b.length)) (by first | omega | (rw [List.length_take]; omega))) (by rw [hN, List.length_take]; omega) (by rw [hN]; exact take_row _ _ _) (by rw [hN, List.length_take]; omega) (by rw [hN]; exact take_row _ _ _), ?_⟩
        conv => whnf
        refine ⟨_, fun _ => call22 _ _ (narrowF (a.take (min a.length b.length)) (b.take (min a.length b.length))).1 (narrowF (a.take (min a.length b.length)) (b.take (min a.length b.length))).1 (Nat.le_trans (narrow_len _ _) (by first | omega | (rw [List.length_take]; omega))), ?_⟩
        conv => whnf
        refine ⟨?_, fun hc => ?_, fun _ => ?_⟩
        · (try conv => whnf)
          (repeat' (first | exact True.intro | refine inR64_of ?_ ?_ | apply And.intro | refine maxLen_ge ?_ | exact fun _ h => h)) <;> (first | omega | (dsimp only; omega) | (dsimp only [List.length_cons, List.length_nil]; omega) | (intro hg; rw [hg]; rfl) | (intro hg; simp [-List.getD_eq_getElem?_getD, -Int.default_eq_zero] at hg; first | omega | (refine inR64_of ?_ ?_ <;> omega) | (constructor <;> omega)) | (simp [-List.getD_eq_getElem?_getD, -Int.default_eq_zero]; done))
        · rw [same_refl] at hc; simp at hc
        · conv => whnf
          refine ⟨?_, 2, by omega, by omega, rfl, rfl, ?_, ?_⟩
          · (try conv => whnf)
            (repeat' (first | exact True.intro | refine inR64_of ?_ ?_ | apply And.intro | refine maxLen_ge ?_ | exact fun _ h => h)) <;> (first | omega | (dsimp only; omega) | (dsimp only [List.length_cons, List.length_nil]; omega) | (intro hg; rw [hg]; rfl) | (intro hg; simp [-List.getD_eq_getElem?_getD, -Int.default_eq_zero] at hg; first | omega | (refine inR64_of ?_ ?_ <;> omega) | (constructor <;> omega)) | (simp [-List.getD_eq_getElem?_getD, -Int.default_eq_zero]; done))
          all_goals repeat' (first | exact True.intro | refine leF_cons rfl ?_ ?_ | refine leS_cons rfl ?_ ?_ | (show PLe _ _ _ _; conv => whnf) | (show SLe _ _ _ _; conv => whnf) | (show PLeL _ _ _ _; conv => whnf) | apply And.intro | rfl | exact Nat.le_refl _ | exact fun _ _ => rfl | exact rowEq0 _ _)
      · conv => whnf
        refine ⟨trivial, fun _ => ?_, fun hc => absurd hc (by decide)⟩
        conv => whnf
        refine ⟨_, fun _ => arg2_le (call25 _ _ (a) (a) (by first | omega | (rw [List.length_take]; omega))) rfl (fun _ _ => rfl) rfl (fun _ _ => rfl), ?_⟩
        conv => whnf
        refine ⟨_, fun _ => arg2_le (call26 _ _ (a) (a) (by first | omega | (rw [List.length_take]; omega))) rfl (fun _ _ => rfl) rfl (fun _ _ => rfl), ?_⟩
        conv => whnf
        refine ⟨_, fun _ => call22 _ _ (narrowF (a) (a)).1 (narrowF (a) (a)).1 (Nat.le_trans (narrow_len _ _) (by first | omega | (rw [List.length_take]; omega))), ?_⟩
        conv => whnf
        refine ⟨?_, fun hc => ?_, fun _ => ?_⟩
        · (try conv => whnf)
          (repeat' (first | exact True.intro | refine inR64_of ?_ ?_ | apply And.intro | refine maxLen_ge ?_ | exact fun _ h => h)) <;> (first | omega | (dsimp only; omega) | (dsimp only [List.length_cons, List.length_nil]; omega) | (intro hg; rw [hg]; rfl) | (intro hg; simp [-List.getD_eq_getElem?_getD, -Int.default_eq_zero] at hg; first | omega | (refine inR64_of ?_ ?_ <;> omega) | (constructor <;> omega)) | (simp [-List.getD_eq_getElem?_getD, -Int.default_eq_zero]; done))
        · rw [same_refl] at hc; simp at hc
        · conv => whnf
          refine ⟨?_, 3, by omega, by omega, rfl, rfl, ?_, ?_⟩
          · (try conv => whnf)
            (repeat' (first | exact True.intro | refine inR64_of ?_ ?_ | apply And.intro | refine maxLen_ge ?_ | exact fun _ h => h)) <;> (first | omega | (dsimp only; omega) | (dsimp only [List.length_cons, List.length_nil]; omega) | (intro hg; rw [hg]; rfl) | (intro hg; simp [-List.getD_eq_getElem?_getD, -Int.default_eq_zero] at hg; first | omega | (refine inR64_of ?_ ?_ <;> omega) | (constructor <;> omega)) | (simp [-List.getD_eq_getElem?_getD, -Int.default_eq_zero]; done))
          all_goals repeat' (first | exact True.intro | refine leF_cons rfl ?_ ?_ | refine leS_cons rfl ?_ ?_ | (show PLe _ _ _ _; conv => whnf) | (show SLe _ _ _ _; conv => whnf) | (show PLeL _ _ _ _; conv => whnf) | apply And.intro | rfl | exact Nat.le_refl _ | exact fun _ _ => rfl | exact rowEq0 _ _)
      · conv => whnf
        refine ⟨trivial, fun hc => absurd hc (by decide), fun _ => ?_⟩
        conv => whnf
        refine ⟨_, fun _ => call27 _ a (by omega) ha, ?_⟩
        conv => whnf
        refine ⟨_, fun _ => call28 _ a (by omega) ha, ?_⟩
        conv => whnf
        refine ⟨_, fun _ => call24 _ _ a v (by omega), ?_⟩
        conv => whnf
        refine ⟨_, fun _ => call29 _ _ a v (by omega), ?_⟩
        conv => whnf
        refine ⟨_, fun _ => arg2_le (call24 _ _ (a.take (mn (if (b.length : Int) < a.length then (b.length : Int) else a.length) v.length).toNat) (v.take (mn (if (b.length : Int) < a.length then (b.length : Int) else a.length) v.length).toNat) (by rw [List.length_take]; omega)) (by rw [List.length_take]; unfold mn; split <;> split <;> omega) (take_row _ _ _) (by rw [List.length_take]; unfold mn; split <;> split <;> omega) (take_row _ _ _), ?_⟩
        conv => whnf
        refine ⟨_, fun _ => arg2_le (call29 _ _ (a.take (mn (if (b.length : Int) < a.length then (b.length : Int) else a.length) v.length).toNat) (v.take (mn (if (b.length : Int) < a.length then (b.length : Int) else a.length) v.length).toNat) (by rw [List.length_take]; omega)) (by rw [List.length_take]; unfold mn; split <;> split <;> omega) (take_row _ _ _) (by rw [List.length_take]; unfold mn; split <;> split <;> omega) (take_row _ _ _), ?_⟩
        conv => whnf
        refine ⟨rfl, ?_⟩
        conv => whnf
        refine ⟨?_, [], ?_⟩
        · (try conv => whnf)
          (repeat' (first | exact True.intro | refine inR64_of ?_ ?_ | apply And.intro | refine maxLen_ge ?_ | exact fun _ h => h)) <;> (first | omega | (dsimp only; omega) | (dsimp only [List.length_cons, List.length_nil]; omega) | (intro hg; rw [hg]; rfl) | (intro hg; simp [-List.getD_eq_getElem?_getD, -Int.default_eq_zero] at hg; first | omega | (refine inR64_of ?_ ?_ <;> omega) | (constructor <;> omega)) | (simp [-List.getD_eq_getElem?_getD, -Int.default_eq_zero]; done))
        conv => whnf
        refine ⟨rfl, ?_, trivial, trivial⟩
        all_goals repeat' (first | exact True.intro | refine leF_cons rfl ?_ ?_ | refine leS_cons rfl ?_ ?_ | (show PLe _ _ _ _; conv => whnf) | (show SLe _ _ _ _; conv => whnf) | (show PLeL _ _ _ _; conv => whnf) | apply And.intro | rfl | exact Nat.le_refl _ | exact fun _ _ => rfl | exact rowEq0 _ _)
        all_goals simp
end Pv
end Go.Proofs.Ytiknpkadlckmjaa
