/- LAW 08, THE WALKS: the document's verdicts. -/
import Derived.Test.YtogoplhikmmggaaQ11
set_option linter.unusedSimpArgs false
set_option linter.unusedVariables false
namespace Go.Proofs.Ytogoplhikmmggaa
namespace Pv
def c26L1 : C := (.seq (.reg [⟨(some 26), 416, none, .bi true .lss (.t 25) (.t 24)⟩])
  (.seq (.cond (.t 26) .skip (.exit 0))
  (.seq (.block 1 (.seq (.reg [⟨(some 27), 432, none, .mv (.t 25)⟩,
    ⟨(some 28), 448, none, .ia 4 (.t 23) (.t 25)⟩,
    ⟨(some 29), 464, none, .ld 4 true (.t 28)⟩,
    ⟨(some 11), 176, none, .al [(.int .i64 0), (.int .i64 0), (.int .i64 0), (.int .i64 0)]⟩,
    ⟨(some 10), 160, none, .mv (.t 27)⟩,
    ⟨none, 0, none, .st 4 (.t 11) (.t 29)⟩])
  (.seq (.reg [⟨(some 12), 192, none, .mv (.c (.int .i64 1))⟩])
  (.seq (.block 2 (.seq (.reg [⟨(some 32), 512, none, .fa 3 (.t 11)⟩,
    ⟨(some 33), 528, none, .ld 1 false (.t 32)⟩,
    ⟨(some 34), 544, none, .bi true .eql (.t 33) (.c (.int .i64 2))⟩,
    ⟨(some 31), 496, none, .mv (.t 34)⟩])
  (.cond (.t 31) (.reg [⟨(some 12), 192, none, .mv (.c (.int .i64 2))⟩]) (.seq (.reg [⟨(some 36), 576, none, .fa 2 (.t 11)⟩,
    ⟨(some 37), 592, none, .ld 1 false (.t 36)⟩,
    ⟨(some 38), 608, none, .fa 0 (.t 2)⟩,
    ⟨(some 39), 624, none, .ld 1 false (.t 38)⟩,
    ⟨(some 40), 640, none, .bi true .lss (.t 37) (.t 39)⟩,
    ⟨(some 41), 656, none, .mv (.t 40)⟩,
    ⟨(some 42), 672, (some (41, false)), .fa 2 (.t 11)⟩,
    ⟨(some 43), 688, (some (41, false)), .ld 1 false (.t 42)⟩,
    ⟨(some 44), 704, (some (41, false)), .fa 1 (.t 2)⟩,
    ⟨(some 45), 720, (some (41, false)), .ld 1 false (.t 44)⟩,
    ⟨(some 46), 736, (some (41, false)), .bi true .gtr (.t 43) (.t 45)⟩,
    ⟨(some 47), 752, none, .pick (.t 41) (.c (.bool true)) (.t 46)⟩,
    ⟨(some 35), 560, none, .mv (.t 47)⟩])
  (.cond (.t 35) (.reg [⟨(some 12), 192, none, .mv (.c (.int .i64 3))⟩]) (.seq (.drw [⟨(some 49), 784, none, .mv (.t 9)⟩,
    ⟨(some 50), 800, none, .bi true .geq (.t 49) (.c (.int .i64 0))⟩,
    ⟨(some 51), 816, none, .mv (.t 50)⟩,
    ⟨(some 52), 832, (some (51, true)), .fa 2 (.t 11)⟩,
    ⟨(some 53), 848, (some (51, true)), .ld 1 false (.t 52)⟩,
    ⟨(some 54), 864, (some (51, true)), .mv (.t 1)⟩,
    ⟨(some 55), 880, (some (51, true)), .mv (.t 9)⟩,
    ⟨(some 56), 896, (some (51, true)), .ia 4 (.t 54) (.t 55)⟩,
    ⟨(some 57), 912, (some (51, true)), .fa 2 (.t 56)⟩,
    ⟨(some 58), 928, (some (51, true)), .ld 1 false (.t 57)⟩,
    ⟨(some 59), 944, (some (51, true)), .bi true .sub (.t 53) (.t 58)⟩,
    ⟨(some 60), 960, (some (51, true)), .mv (.t 1)⟩,
    ⟨(some 61), 976, (some (51, true)), .mv (.t 9)⟩,
    ⟨(some 62), 992, (some (51, true)), .ia 4 (.t 60) (.t 61)⟩,
    ⟨(some 63), 1008, (some (51, true)), .fa 2 (.t 62)⟩,
    ⟨(some 64), 1024, (some (51, true)), .ld 1 false (.t 63)⟩,
    ⟨(some 65), 1040, (some (51, true)), .fa 2 (.t 11)⟩,
    ⟨(some 66), 1056, (some (51, true)), .ld 1 false (.t 65)⟩,
    ⟨(some 67), 1072, (some (51, true)), .bi true .sub (.t 64) (.t 66)⟩,
    ⟨(some 68), 1088, (some (51, true)), .mx [(.t 59), (.t 67)]⟩,
    ⟨(some 69), 1104, (some (51, true)), .fa 2 (.t 2)⟩,
    ⟨(some 70), 1120, (some (51, true)), .ld 1 false (.t 69)⟩,
    ⟨(some 71), 1136, (some (51, true)), .mv (.t 10)⟩,
    ⟨(some 72), 1152, (some (51, true)), .mv (.t 9)⟩,
    ⟨(some 73), 1168, (some (51, true)), .bi true .sub (.t 71) (.t 72)⟩,
    ⟨(some 74), 1184, (some (51, true)), .bi true .mul (.t 70) (.t 73)⟩,
    ⟨(some 75), 1200, (some (51, true)), .bi true .gtr (.t 68) (.t 74)⟩,
    ⟨(some 76), 1216, none, .pick (.t 51) (.t 75) (.c (.bool false))⟩,
    ⟨(some 48), 768, none, .mv (.t 76)⟩]
    [(3, 5, 52), (3, 6, 52), (3, 7, 52), (3, 8, 52), (3, 9, 52), (3, 11, 52), (3, 12, 52), (3, 13, 52), (3, 14, 52), (3, 15, 52), (3, 16, 52), (3, 17, 52), (3, 18, 52), (3, 20, 52), (3, 21, 52), (3, 22, 52), (3, 23, 52), (3, 24, 52), (3, 25, 52), (4, 5, 53), (4, 6, 53), (4, 7, 53), (4, 8, 53), (4, 9, 53), (4, 11, 53), (4, 12, 53), (4, 13, 53), (4, 14, 53), (4, 15, 53), (4, 16, 53), (4, 17, 53), (4, 18, 53), (4, 20, 53), (4, 21, 53), (4, 22, 53), (4, 23, 53), (4, 24, 53), (4, 25, 53), (5, 6, 54), (5, 11, 54), (5, 12, 54), (5, 13, 54), (5, 14, 54), (5, 15, 54), (5, 16, 54), (5, 17, 54), (5, 18, 54), (5, 20, 54), (5, 21, 54), (5, 22, 54), (5, 23, 54), (5, 24, 54), (5, 25, 54), (6, 11, 55), (6, 12, 55), (6, 13, 55), (6, 14, 55), (6, 15, 55), (6, 16, 55), (6, 17, 55), (6, 18, 55), (6, 20, 55), (6, 21, 55), (6, 22, 55), (6, 23, 55), (6, 24, 55), (6, 25, 55), (7, 11, 56), (7, 12, 56), (7, 13, 56), (7, 14, 56), (7, 15, 56), (7, 16, 56), (7, 17, 56), (7, 18, 56), (7, 20, 56), (7, 21, 56), (7, 22, 56), (7, 23, 56), (7, 24, 56), (7, 25, 56), (8, 11, 57), (8, 12, 57), (8, 13, 57), (8, 14, 57), (8, 15, 57), (8, 16, 57), (8, 17, 57), (8, 18, 57), (8, 20, 57), (8, 21, 57), (8, 22, 57), (8, 23, 57), (8, 24, 57), (8, 25, 57), (9, 11, 58), (9, 12, 58), (9, 13, 58), (9, 14, 58), (9, 15, 58), (9, 16, 58), (9, 17, 58), (9, 18, 58), (9, 20, 58), (9, 21, 58), (9, 22, 58), (9, 23, 58), (9, 24, 58), (9, 25, 58), (10, 11, 59), (10, 12, 59), (10, 13, 59), (10, 14, 59), (10, 15, 59), (10, 16, 59), (10, 17, 59), (10, 18, 59), (10, 20, 59), (10, 21, 59), (10, 22, 59), (10, 23, 59), (10, 24, 59), (10, 25, 59), (11, 12, 60), (11, 16, 60), (11, 17, 60), (11, 20, 60), (11, 21, 60), (11, 22, 60), (11, 23, 60), (11, 24, 60), (11, 25, 60), (12, 16, 61), (12, 17, 61), (12, 20, 61), (12, 21, 61), (12, 22, 61), (12, 23, 61), (12, 24, 61), (12, 25, 61), (13, 16, 62), (13, 17, 62), (13, 20, 62), (13, 21, 62), (13, 22, 62), (13, 23, 62), (13, 24, 62), (13, 25, 62), (14, 16, 63), (14, 17, 63), (14, 20, 63), (14, 21, 63), (14, 22, 63), (14, 23, 63), (14, 24, 63), (14, 25, 63), (15, 16, 64), (15, 17, 64), (15, 20, 64), (15, 21, 64), (15, 22, 64), (15, 23, 64), (15, 24, 64), (15, 25, 64), (16, 20, 65), (16, 21, 65), (16, 22, 65), (16, 23, 65), (16, 24, 65), (16, 25, 65), (17, 20, 66), (17, 21, 66), (17, 22, 66), (17, 23, 66), (17, 24, 66), (17, 25, 66), (18, 20, 67), (18, 21, 67), (18, 22, 67), (18, 23, 67), (18, 24, 67), (18, 25, 67), (19, 20, 68), (19, 21, 68), (19, 22, 68), (19, 23, 68), (19, 24, 68), (19, 25, 68), (20, 22, 69), (20, 23, 69), (20, 24, 69), (21, 22, 70), (21, 23, 70), (21, 24, 70), (22, 23, 71)])
  (.cond (.t 48) (.reg [⟨(some 12), 192, none, .mv (.c (.int .i64 4))⟩]) (.seq (.reg [⟨(some 78), 1248, none, .ld 4 true (.t 2)⟩,
    ⟨(some 79), 1264, none, .mv (.t 1)⟩,
    ⟨(some 80), 1280, none, .mv (.t 10)⟩,
    ⟨(some 81), 1296, none, .call (.c (.fn (.func 43) [] [])) [(.t 78), (.t 79), (.t 80)]⟩,
    ⟨(some 77), 1232, none, .mv (.t 81)⟩])
  (.cond (.t 77) (.reg [⟨(some 12), 192, none, .mv (.c (.int .i64 5))⟩]) (.reg [⟨(some 30), 480, none, .mv (.t 10)⟩,
    ⟨(some 9), 144, none, .mv (.t 30)⟩]))))))))))
  (.reg [⟨(some 82), 1312, none, .mv (.t 8)⟩,
    ⟨(some 83), 1328, none, .mv (.t 12)⟩,
    ⟨(some 84), 1344, none, .bs 3 1 [(.t 83)]⟩,
    ⟨(some 85), 1360, none, .app 3 1 8 (.t 82) (.t 84)⟩,
    ⟨(some 8), 128, none, .mv (.t 85)⟩])))))
  (.reg [⟨(some 86), 1376, none, .bi true .add (.t 25) (.c (.int .i64 1))⟩,
    ⟨(some 25), 400, none, .mv (.t 86)⟩]))))
def c26 : C := (.seq (.reg [⟨(some 2), 32, none, .bx 4 (.t 0)⟩,
    ⟨(some 4), 64, none, .mv (.c (.nil 1))⟩,
    ⟨(some 5), 80, none, .mv (.c (.int .i64 0))⟩])
  (.seq (.seq (.reg [⟨(some 13), 208, none, .ld 4 true (.t 2)⟩,
    ⟨(some 14), 224, none, .call (.c (.fn (.func 28) [] [])) [(.t 13)]⟩,
    ⟨(some 6), 96, none, .mv (.t 14)⟩])
  (.seq (.reg [⟨(some 15), 240, none, .mv (.t 6)⟩,
    ⟨(some 16), 256, none, .bi true .neq (.t 15) (.c (.int .i64 0))⟩])
  (.cond (.t 16) (.seq (.reg [⟨(some 17), 272, none, .mv (.t 6)⟩,
    ⟨(some 4), 64, none, .mv (.c (.nil 1))⟩,
    ⟨(some 5), 80, none, .mv (.t 17)⟩])
  .ret) .skip)))
  (.seq (.seq (.reg [⟨(some 18), 288, none, .mv (.t 1)⟩,
    ⟨(some 19), 304, none, .call (.c (.fn (.func 42) [] [])) [(.t 18)]⟩,
    ⟨(some 7), 112, none, .mv (.t 19)⟩])
  (.seq (.reg [⟨(some 20), 320, none, .mv (.t 7)⟩,
    ⟨(some 21), 336, none, .bi true .neq (.t 20) (.c (.int .i64 0))⟩])
  (.cond (.t 21) (.seq (.reg [⟨(some 22), 352, none, .mv (.t 7)⟩,
    ⟨(some 4), 64, none, .mv (.c (.nil 1))⟩,
    ⟨(some 5), 80, none, .mv (.t 22)⟩])
  .ret) .skip)))
  (.seq (.reg [⟨(some 8), 128, none, .mv (.c (.nil 1))⟩])
  (.seq (.reg [⟨(some 9), 144, none, .mv (.c (.int .i64 (-1)))⟩])
  (.seq (.seq (.reg [⟨(some 23), 368, none, .mv (.t 1)⟩,
    ⟨(some 24), 384, none, .len (.t 23)⟩,
    ⟨(some 25), 400, none, .mv (.c (.int .i64 0))⟩])
  (.block 0 (.loop c26L1)))
  (.seq (.reg [⟨(some 87), 1392, none, .mv (.t 8)⟩,
    ⟨(some 4), 64, none, .mv (.t 87)⟩,
    ⟨(some 5), 80, none, .mv (.c (.int .i64 0))⟩])
  .ret)))))))
theorem fits26 : fits Try.prog true Try.f26 2 88 [(4, none), (5, none)] = some c26.er := by kernel_rfl
theorem t3_ref {c : Ck} {l : List Rd} {last : Int} {i : Nat} (hi : i < l.length) (hl : l.length ≤ 8796093022208) (h1 : -1 ≤ last ∧ last < i) (hv : ∀ k, k < l.length → 0 ≤ (l.getD k default).v ∧ (l.getD k default).v ≤ 1073741824) :
    (bif decide (0 ≤ last) then decide (IntKind.wrap .i64 (c.j * IntKind.wrap .i64 ((i : Int) - last)) < (if IntKind.wrap .i64 ((l.getD last.toNat default).v - (l.getD i default).v) > IntKind.wrap .i64 ((l.getD i default).v - (l.getD last.toNat default).v) then IntKind.wrap .i64 ((l.getD last.toNat default).v - (l.getD i default).v) else IntKind.wrap .i64 ((l.getD i default).v - (l.getD last.toNat default).v))) else false) = t3 c l last i := by
  unfold t3
  by_cases h : 0 ≤ last
  · have v1 := hv i hi
    have v2 := hv last.toNat (by omega)
    rw [wr_id (n := (i : Int) - last) (by omega), wr_id (n := (l.getD i default).v - (l.getD last.toNat default).v) (by omega), wr_id (n := (l.getD last.toNat default).v - (l.getD i default).v) (by omega)]
    unfold jumpW mx
    rw [show -((l.getD i default).v - (l.getD last.toNat default).v) = (l.getD last.toNat default).v - (l.getD i default).v by omega]
    simp only [h, decide_true, true_and, cond_true]
  · simp only [h, decide_false, false_and, cond_false]

set_option maxRecDepth 100000 in
set_option maxHeartbeats 8000000 in
theorem call26 (c : Ck) (l : List Rd) (hl : l.length ≤ 8796093022208) : PureCall Try.prog 26 [.agg (eCk c), .sl 2 4 l.length (fl eRd l)] [] ⟨.tup [.sl 0 1 (verdictsF c l).1.length (fl eInt (verdictsF c l).1), .int .i64 (verdictsF c l).2], [], []⟩ := by
  refine pure_call mix Try.func26 fits26 rfl ?_
  conv => whnf
  refine ⟨_, fun _ => call28 c, ?_⟩
  conv => whnf
  refine ⟨?_, fun hc => ?_, fun hc => ?_⟩
  · (try conv => whnf)
    (repeat' (first | exact True.intro | exact fun _ h => h | refine inR64_of ?_ ?_ | apply And.intro | refine maxLen_ge ?_)) <;> (first | omega | (dsimp only; omega) | (dsimp only [List.length_cons, List.length_nil]; omega) | (intro hg; rw [hg]; rfl) | (intro hg hh; rw [hg, hh]; rfl) | (intro hg; simp [-List.getD_eq_getElem?_getD, -Int.default_eq_zero] at hg; first | omega | (refine inR64_of ?_ ?_ <;> omega) | (constructor <;> omega)) | (simp [-List.getD_eq_getElem?_getD, -Int.default_eq_zero]; done))
  · simp only [bif_t, bif_f, decide_eq_true_eq, decide_eq_false_iff_not, Bool.not_eq_true', Bool.not_eq_false', Bool.and_eq_true, Bool.or_eq_true, Bool.and_eq_false_iff, Bool.or_eq_false_iff, beq_iff_eq, bne_iff_ne, beq_eq_false_iff_ne, bne_eq_false_iff_eq, reduceCtorEq, false_and, and_false, true_and, and_true, or_false, false_or, or_true, true_or, not_true_eq_false, not_false_eq_true, Int.toNat_zero] at hc
    rw [show verdictsF c l = ([], ckErr c) by unfold verdictsF; rw [if_pos hc]]
    conv => whnf
    refine ⟨?_, [], ?_⟩
    · (try conv => whnf)
      (repeat' (first | exact True.intro | exact fun _ h => h | refine inR64_of ?_ ?_ | apply And.intro | refine maxLen_ge ?_)) <;> (first | omega | (dsimp only; omega) | (dsimp only [List.length_cons, List.length_nil]; omega) | (intro hg; rw [hg]; rfl) | (intro hg hh; rw [hg, hh]; rfl) | (intro hg; simp [-List.getD_eq_getElem?_getD, -Int.default_eq_zero] at hg; first | omega | (refine inR64_of ?_ ?_ <;> omega) | (constructor <;> omega)) | (simp [-List.getD_eq_getElem?_getD, -Int.default_eq_zero]; done))
    conv => whnf
    refine ⟨rfl, ?_, trivial, trivial⟩
    all_goals repeat' (first | exact True.intro | refine leF_cons rfl ?_ ?_ | refine leS_cons rfl ?_ ?_ | (show PLe _ _ _ _; conv => whnf) | (show SLe _ _ _ _; conv => whnf) | (show PLeL _ _ _ _; conv => whnf) | apply And.intro | rfl | exact Nat.le_refl _ | exact fun _ _ => rfl | exact rowEq0 _ _)
  simp only [bif_t, bif_f, decide_eq_true_eq, decide_eq_false_iff_not, Bool.not_eq_true', Bool.not_eq_false', Bool.and_eq_true, Bool.or_eq_true, Bool.and_eq_false_iff, Bool.or_eq_false_iff, beq_iff_eq, bne_iff_ne, beq_eq_false_iff_ne, bne_eq_false_iff_eq, reduceCtorEq, false_and, and_false, true_and, and_true, or_false, false_or, or_true, true_or, not_true_eq_false, not_false_eq_true, Int.toNat_zero] at hc
  have hck : ckErr c = 0 := by omega
  have hc0 := ck_ok hck
  conv => whnf
  refine ⟨_, fun _ => call42 _ l (by omega), ?_⟩
  conv => whnf
  refine ⟨?_, fun hc => ?_, fun hc => ?_⟩
  · (try conv => whnf)
    (repeat' (first | exact True.intro | exact fun _ h => h | refine inR64_of ?_ ?_ | apply And.intro | refine maxLen_ge ?_)) <;> (first | omega | (dsimp only; omega) | (dsimp only [List.length_cons, List.length_nil]; omega) | (intro hg; rw [hg]; rfl) | (intro hg hh; rw [hg, hh]; rfl) | (intro hg; simp [-List.getD_eq_getElem?_getD, -Int.default_eq_zero] at hg; first | omega | (refine inR64_of ?_ ?_ <;> omega) | (constructor <;> omega)) | (simp [-List.getD_eq_getElem?_getD, -Int.default_eq_zero]; done))
  · simp only [bif_t, bif_f, decide_eq_true_eq, decide_eq_false_iff_not, Bool.not_eq_true', Bool.not_eq_false', Bool.and_eq_true, Bool.or_eq_true, Bool.and_eq_false_iff, Bool.or_eq_false_iff, beq_iff_eq, bne_iff_ne, beq_eq_false_iff_ne, bne_eq_false_iff_eq, reduceCtorEq, false_and, and_false, true_and, and_true, or_false, false_or, or_true, true_or, not_true_eq_false, not_false_eq_true, Int.toNat_zero] at hc
    rw [show verdictsF c l = ([], allF l) by unfold verdictsF; rw [if_neg (by omega), if_pos hc]]
    conv => whnf
    refine ⟨?_, [], ?_⟩
    · (try conv => whnf)
      (repeat' (first | exact True.intro | exact fun _ h => h | refine inR64_of ?_ ?_ | apply And.intro | refine maxLen_ge ?_)) <;> (first | omega | (dsimp only; omega) | (dsimp only [List.length_cons, List.length_nil]; omega) | (intro hg; rw [hg]; rfl) | (intro hg hh; rw [hg, hh]; rfl) | (intro hg; simp [-List.getD_eq_getElem?_getD, -Int.default_eq_zero] at hg; first | omega | (refine inR64_of ?_ ?_ <;> omega) | (constructor <;> omega)) | (simp [-List.getD_eq_getElem?_getD, -Int.default_eq_zero]; done))
    conv => whnf
    refine ⟨rfl, ?_, trivial, trivial⟩
    all_goals repeat' (first | exact True.intro | refine leF_cons rfl ?_ ?_ | refine leS_cons rfl ?_ ?_ | (show PLe _ _ _ _; conv => whnf) | (show SLe _ _ _ _; conv => whnf) | (show PLeL _ _ _ _; conv => whnf) | apply And.intro | rfl | exact Nat.le_refl _ | exact fun _ _ => rfl | exact rowEq0 _ _)
  simp only [bif_t, bif_f, decide_eq_true_eq, decide_eq_false_iff_not, Bool.not_eq_true', Bool.not_eq_false', Bool.and_eq_true, Bool.or_eq_true, Bool.and_eq_false_iff, Bool.or_eq_false_iff, beq_iff_eq, bne_iff_ne, beq_eq_false_iff_ne, bne_eq_false_iff_eq, reduceCtorEq, false_and, and_false, true_and, and_true, or_false, false_or, or_true, true_or, not_true_eq_false, not_false_eq_true, Int.toNat_zero] at hc
  have hal : allF l = 0 := by omega
  have hvv : ∀ k, k < l.length → 0 ≤ (l.getD k default).v ∧ (l.getD k default).v ≤ 1073741824 := fun k hk => (rd_v (rd_ok hal k hk)).2.2.1
  rw [show verdictsF c l = ((vSt c l l.length).1, 0) by unfold verdictsF; rw [if_neg (by omega), if_neg (by omega)]]
  conv => whnf
  refine ⟨?_, ?_⟩
  · (try conv => whnf)
    (repeat' (first | exact True.intro | exact fun _ h => h | refine inR64_of ?_ ?_ | apply And.intro | refine maxLen_ge ?_)) <;> (first | omega | (dsimp only; omega) | (dsimp only [List.length_cons, List.length_nil]; omega) | (intro hg; rw [hg]; rfl) | (intro hg hh; rw [hg, hh]; rfl) | (intro hg; simp [-List.getD_eq_getElem?_getD, -Int.default_eq_zero] at hg; first | omega | (refine inR64_of ?_ ?_ <;> omega) | (constructor <;> omega)) | (simp [-List.getD_eq_getElem?_getD, -Int.default_eq_zero]; done))
  refine LSem.adopt 8 1000000 3 1 1 rfl rfl ?_
  refine LSem.loop (n := 88) mix (α := Nat) (fun i => i ≤ l.length)
    (fun i => [(1, .sl 2 4 l.length (fl eRd l)), (2, .pt 32 0 0), (8, .os 1000000), (9, .int .i64 (vSt c l i).2), (23, .sl 2 4 l.length (fl eRd l)), (24, .int .i64 l.length), (25, .int .i64 i)])
    (fun i => [(32, .box (eCk c)), (1000000, .row 0 3 1 i (fl eInt (vSt c l i).1))]) (fun i => l.length - i) 0 ?_ ?_ ?_
  · exact Nat.zero_le _
  · refine ⟨rfl, rfl, ?_, ?_⟩
    all_goals repeat' (first | exact True.intro | refine leF_cons rfl ?_ ?_ | refine leS_cons rfl ?_ ?_ | (show PLe _ _ _ _; conv => whnf) | (show SLe _ _ _ _; conv => whnf) | (show PLeL _ _ _ _; conv => whnf) | apply And.intro | rfl | exact Nat.le_refl _ | exact fun _ _ => rfl | exact rowEq0 _ _)
  · intro i hi
    have hj : ((i : Int)).toNat = i := by omega
    have hlast := vSt_last c l i
    have hw : IntKind.wrap .i64 ((i : Int) + 1) = ((i + 1 : Nat) : Int) := by rw [wr_id (by omega)]; omega
    conv => whnf
    refine ⟨trivial, fun hc => ?_, fun hc => ?_⟩
    · replace hc := of_decide_eq_true hc
      have hlt : i < l.length := by omega
      have hnx : (vSt c l (i + 1)).2 = if verdF c l (vSt c l i).2 i = 1 then (i : Int) else (vSt c l i).2 := rfl
      have hps := fl_push eInt (vSt c l i).1 (verdF c l (vSt c l i).2 i)
      rw [vSt_len, show (vSt c l i).1 ++ [verdF c l (vSt c l i).2 i] = (vSt c l (i + 1)).1 from rfl] at hps
      have ht3 := t3_ref (c := c) hlt hl hlast hvv
      generalize hvn : vSt c l (i + 1) = nx at hnx hps ⊢
      generalize vSt c l i = s at hlast hnx hps ht3 ⊢
      conv => whnf
      refine ⟨?_, fun hb => ?_, fun hb => ?_⟩
      · (try conv => whnf)
        (repeat' (first | exact True.intro | exact fun _ h => h | refine inR64_of ?_ ?_ | apply And.intro | refine maxLen_ge ?_)) <;> (first | omega | (dsimp only; omega) | (dsimp only [List.length_cons, List.length_nil]; omega) | (intro hg; rw [hg]; rfl) | (intro hg hh; rw [hg, hh]; rfl) | (intro hg; simp [-List.getD_eq_getElem?_getD, -Int.default_eq_zero] at hg; first | omega | (refine inR64_of ?_ ?_ <;> omega) | (constructor <;> omega)) | (simp [-List.getD_eq_getElem?_getD, -Int.default_eq_zero]; done))
      · have h1 : t1 l i = true := by unfold t1; rw [hj] at hb; simpa using hb
        have hvf : verdF c l s.2 i = 2 := by unfold verdF; rw [h1]; rfl
        rw [hvf] at hps hnx
        rw [if_neg (by decide)] at hnx
        conv => whnf
        refine ⟨?_, i + 1, (by omega : i + 1 ≤ l.length), ?_, rfl, rfl, ?_, ?_⟩
        · (try conv => whnf)
          (repeat' (first | exact True.intro | exact fun _ h => h | refine inR64_of ?_ ?_ | apply And.intro | refine maxLen_ge ?_)) <;> (first | omega | (dsimp only; omega) | (dsimp only [List.length_cons, List.length_nil]; omega) | (intro hg; rw [hg]; rfl) | (intro hg hh; rw [hg, hh]; rfl) | (intro hg; simp [-List.getD_eq_getElem?_getD, -Int.default_eq_zero] at hg; first | omega | (refine inR64_of ?_ ?_ <;> omega) | (constructor <;> omega)) | (simp [-List.getD_eq_getElem?_getD, -Int.default_eq_zero]; done))
        · omega
        all_goals repeat' (first | exact True.intro | refine leF_cons rfl ?_ ?_ | refine leS_cons rfl ?_ ?_ | (show PLe _ _ _ _; conv => whnf) | (show SLe _ _ _ _; conv => whnf) | (show PLeL _ _ _ _; conv => whnf) | apply And.intro | rfl | exact Nat.le_refl _ | exact fun _ _ => rfl | exact rowEq0 _ _)
        all_goals first | exact hw | omega | (rw [hvn]; exact hps) | (rw [hvn, hnx]; done) | skip
      have h1 : t1 l i = false := by unfold t1; rw [hj] at hb; simpa using hb
      conv => whnf
      refine ⟨?_, fun hb => ?_, fun hb => ?_⟩
      · (try conv => whnf)
        (repeat' (first | exact True.intro | exact fun _ h => h | refine inR64_of ?_ ?_ | apply And.intro | refine maxLen_ge ?_)) <;> (first | omega | (dsimp only; omega) | (dsimp only [List.length_cons, List.length_nil]; omega) | (intro hg; rw [hg]; rfl) | (intro hg hh; rw [hg, hh]; rfl) | (intro hg; simp [-List.getD_eq_getElem?_getD, -Int.default_eq_zero] at hg; first | omega | (refine inR64_of ?_ ?_ <;> omega) | (constructor <;> omega)) | (simp [-List.getD_eq_getElem?_getD, -Int.default_eq_zero]; done))
      · have h2 : t2 c l i = true := by unfold t2; rw [← bif_or]; rw [hj] at hb; exact hb
        have hvf : verdF c l s.2 i = 3 := by unfold verdF; rw [h1, h2]; rfl
        rw [hvf] at hps hnx
        rw [if_neg (by decide)] at hnx
        conv => whnf
        refine ⟨?_, i + 1, (by omega : i + 1 ≤ l.length), ?_, rfl, rfl, ?_, ?_⟩
        · (try conv => whnf)
          (repeat' (first | exact True.intro | exact fun _ h => h | refine inR64_of ?_ ?_ | apply And.intro | refine maxLen_ge ?_)) <;> (first | omega | (dsimp only; omega) | (dsimp only [List.length_cons, List.length_nil]; omega) | (intro hg; rw [hg]; rfl) | (intro hg hh; rw [hg, hh]; rfl) | (intro hg; simp [-List.getD_eq_getElem?_getD, -Int.default_eq_zero] at hg; first | omega | (refine inR64_of ?_ ?_ <;> omega) | (constructor <;> omega)) | (simp [-List.getD_eq_getElem?_getD, -Int.default_eq_zero]; done))
        · omega
        all_goals repeat' (first | exact True.intro | refine leF_cons rfl ?_ ?_ | refine leS_cons rfl ?_ ?_ | (show PLe _ _ _ _; conv => whnf) | (show SLe _ _ _ _; conv => whnf) | (show PLeL _ _ _ _; conv => whnf) | apply And.intro | rfl | exact Nat.le_refl _ | exact fun _ _ => rfl | exact rowEq0 _ _)
        all_goals first | exact hw | omega | (rw [hvn]; exact hps) | (rw [hvn, hnx]; done) | skip
      have h2 : t2 c l i = false := by unfold t2; rw [← bif_or]; rw [hj] at hb; exact hb
      conv => whnf
      refine ⟨rfl, ?_⟩
      conv => whnf
      refine ⟨?_, fun hb => ?_, fun hb => ?_⟩
      · (try conv => whnf)
        (repeat' (first | exact True.intro | exact fun _ h => h | refine inR64_of ?_ ?_ | apply And.intro | refine maxLen_ge ?_)) <;> (first | omega | (dsimp only; omega) | (dsimp only [List.length_cons, List.length_nil]; omega) | (intro hg; rw [hg]; rfl) | (intro hg hh; rw [hg, hh]; rfl) | (intro hg; simp [-List.getD_eq_getElem?_getD, -Int.default_eq_zero] at hg; first | omega | (refine inR64_of ?_ ?_ <;> omega) | (constructor <;> omega)) | (simp [-List.getD_eq_getElem?_getD, -Int.default_eq_zero]; done))
      · have h3 : t3 c l s.2 i = true := by rw [← ht3]; rw [hj] at hb; exact hb
        have hvf : verdF c l s.2 i = 4 := by unfold verdF; rw [h1, h2, h3]; rfl
        rw [hvf] at hps hnx
        rw [if_neg (by decide)] at hnx
        conv => whnf
        refine ⟨?_, i + 1, (by omega : i + 1 ≤ l.length), ?_, rfl, rfl, ?_, ?_⟩
        · (try conv => whnf)
          (repeat' (first | exact True.intro | exact fun _ h => h | refine inR64_of ?_ ?_ | apply And.intro | refine maxLen_ge ?_)) <;> (first | omega | (dsimp only; omega) | (dsimp only [List.length_cons, List.length_nil]; omega) | (intro hg; rw [hg]; rfl) | (intro hg hh; rw [hg, hh]; rfl) | (intro hg; simp [-List.getD_eq_getElem?_getD, -Int.default_eq_zero] at hg; first | omega | (refine inR64_of ?_ ?_ <;> omega) | (constructor <;> omega)) | (simp [-List.getD_eq_getElem?_getD, -Int.default_eq_zero]; done))
        · omega
        all_goals repeat' (first | exact True.intro | refine leF_cons rfl ?_ ?_ | refine leS_cons rfl ?_ ?_ | (show PLe _ _ _ _; conv => whnf) | (show SLe _ _ _ _; conv => whnf) | (show PLeL _ _ _ _; conv => whnf) | apply And.intro | rfl | exact Nat.le_refl _ | exact fun _ _ => rfl | exact rowEq0 _ _)
        all_goals first | exact hw | omega | (rw [hvn]; exact hps) | (rw [hvn, hnx]; done) | skip
      have h3 : t3 c l s.2 i = false := by rw [← ht3]; rw [hj] at hb; exact hb
      conv => whnf
      refine ⟨_, fun _ => call43 _ c l i hlt (by omega) hc0, ?_⟩
      conv => whnf
      refine ⟨?_, fun hb => ?_, fun hb => ?_⟩
      · (try conv => whnf)
        (repeat' (first | exact True.intro | exact fun _ h => h | refine inR64_of ?_ ?_ | apply And.intro | refine maxLen_ge ?_)) <;> (first | omega | (dsimp only; omega) | (dsimp only [List.length_cons, List.length_nil]; omega) | (intro hg; rw [hg]; rfl) | (intro hg hh; rw [hg, hh]; rfl) | (intro hg; simp [-List.getD_eq_getElem?_getD, -Int.default_eq_zero] at hg; first | omega | (refine inR64_of ?_ ?_ <;> omega) | (constructor <;> omega)) | (simp [-List.getD_eq_getElem?_getD, -Int.default_eq_zero]; done))
      · have h4 : t4 c l i = true := hb
        have hvf : verdF c l s.2 i = 5 := by unfold verdF; rw [h1, h2, h3, h4]; rfl
        rw [hvf] at hps hnx
        rw [if_neg (by decide)] at hnx
        conv => whnf
        refine ⟨?_, i + 1, (by omega : i + 1 ≤ l.length), ?_, rfl, rfl, ?_, ?_⟩
        · (try conv => whnf)
          (repeat' (first | exact True.intro | exact fun _ h => h | refine inR64_of ?_ ?_ | apply And.intro | refine maxLen_ge ?_)) <;> (first | omega | (dsimp only; omega) | (dsimp only [List.length_cons, List.length_nil]; omega) | (intro hg; rw [hg]; rfl) | (intro hg hh; rw [hg, hh]; rfl) | (intro hg; simp [-List.getD_eq_getElem?_getD, -Int.default_eq_zero] at hg; first | omega | (refine inR64_of ?_ ?_ <;> omega) | (constructor <;> omega)) | (simp [-List.getD_eq_getElem?_getD, -Int.default_eq_zero]; done))
        · omega
        all_goals repeat' (first | exact True.intro | refine leF_cons rfl ?_ ?_ | refine leS_cons rfl ?_ ?_ | (show PLe _ _ _ _; conv => whnf) | (show SLe _ _ _ _; conv => whnf) | (show PLeL _ _ _ _; conv => whnf) | apply And.intro | rfl | exact Nat.le_refl _ | exact fun _ _ => rfl | exact rowEq0 _ _)
        all_goals first | exact hw | omega | (rw [hvn]; exact hps) | (rw [hvn, hnx]; done) | skip
      have h4 : t4 c l i = false := hb
      have hvf : verdF c l s.2 i = 1 := by unfold verdF; rw [h1, h2, h3, h4]; rfl
      rw [hvf] at hps hnx
      rw [if_pos rfl] at hnx
      conv => whnf
      refine ⟨?_, i + 1, (by omega : i + 1 ≤ l.length), ?_, rfl, rfl, ?_, ?_⟩
      · (try conv => whnf)
        (repeat' (first | exact True.intro | exact fun _ h => h | refine inR64_of ?_ ?_ | apply And.intro | refine maxLen_ge ?_)) <;> (first | omega | (dsimp only; omega) | (dsimp only [List.length_cons, List.length_nil]; omega) | (intro hg; rw [hg]; rfl) | (intro hg hh; rw [hg, hh]; rfl) | (intro hg; simp [-List.getD_eq_getElem?_getD, -Int.default_eq_zero] at hg; first | omega | (refine inR64_of ?_ ?_ <;> omega) | (constructor <;> omega)) | (simp [-List.getD_eq_getElem?_getD, -Int.default_eq_zero]; done))
      · omega
      all_goals repeat' (first | exact True.intro | refine leF_cons rfl ?_ ?_ | refine leS_cons rfl ?_ ?_ | (show PLe _ _ _ _; conv => whnf) | (show SLe _ _ _ _; conv => whnf) | (show PLeL _ _ _ _; conv => whnf) | apply And.intro | rfl | exact Nat.le_refl _ | exact fun _ _ => rfl | exact rowEq0 _ _)
      all_goals first | exact hw | omega | (rw [hvn]; exact hps) | (rw [hvn, hnx]; done) | skip
    · replace hc := of_decide_eq_false hc
      have : i = l.length := by omega
      subst this
      have hll := vSt_len c l l.length
      generalize (vSt c l l.length).1 = V at hll ⊢
      rw [← hll]
      conv => whnf
      refine ⟨?_, [], ?_⟩
      · (try conv => whnf)
        (repeat' (first | exact True.intro | exact fun _ h => h | refine inR64_of ?_ ?_ | apply And.intro | refine maxLen_ge ?_)) <;> (first | omega | (dsimp only; omega) | (dsimp only [List.length_cons, List.length_nil]; omega) | (intro hg; rw [hg]; rfl) | (intro hg hh; rw [hg, hh]; rfl) | (intro hg; simp [-List.getD_eq_getElem?_getD, -Int.default_eq_zero] at hg; first | omega | (refine inR64_of ?_ ?_ <;> omega) | (constructor <;> omega)) | (simp [-List.getD_eq_getElem?_getD, -Int.default_eq_zero]; done))
      conv => whnf
      refine ⟨rfl, ?_, trivial, trivial⟩
      all_goals repeat' (first | exact True.intro | refine leF_cons rfl ?_ ?_ | refine leS_cons rfl ?_ ?_ | (show PLe _ _ _ _; conv => whnf) | (show SLe _ _ _ _; conv => whnf) | (show PLeL _ _ _ _; conv => whnf) | apply And.intro | rfl | exact Nat.le_refl _ | exact fun _ _ => rfl | exact rowEq0 _ _)
end Pv
end Go.Proofs.Ytogoplhikmmggaa
