/- LAW 02: the statement that values lie on straight lines. -/
import Derived.Test.YtedoglkonfckkaaC5
set_option linter.unusedSimpArgs false
set_option linter.unusedVariables false
namespace Go.Proofs.Ytedoglkonfckkaa
namespace Pv
def c4 : C := (.seq (.reg [⟨(some 6), 96, none, .mv (.c (.bool false))⟩])
  (.seq (.reg [⟨(some 17), 272, none, .mv (.t 0)⟩,
    ⟨(some 18), 288, none, .call (.c (.fn (.func 8) [] [])) [(.t 17)]⟩,
    ⟨(some 7), 112, none, .mv (.t 18)⟩])
  (.seq (.reg [⟨(some 19), 304, none, .mv (.t 7)⟩,
    ⟨(some 20), 320, none, .mv (.t 7)⟩,
    ⟨(some 21), 336, none, .call (.c (.fn (.func 10) [] [])) [(.t 20), (.c (.int .i64 20))]⟩,
    ⟨(some 22), 352, none, .mv (.t 7)⟩,
    ⟨(some 23), 368, none, .call (.c (.fn (.func 10) [] [])) [(.t 22), (.c (.int .i64 20))]⟩,
    ⟨(some 24), 384, none, .call (.c (.fn (.func 9) [] [])) [(.t 19), (.t 21), (.t 23), (.c (.int .i64 30)), (.c (.int .i64 40)), (.c (.bool false))]⟩,
    ⟨(some 8), 128, none, .mv (.t 24)⟩])
  (.seq (.reg [⟨(some 25), 400, none, .mv (.t 1)⟩,
    ⟨(some 26), 416, none, .mv (.t 8)⟩,
    ⟨(some 27), 432, none, .len (.t 26)⟩,
    ⟨(some 28), 448, none, .bi false .sub (.t 27) (.c (.int .i64 1))⟩,
    ⟨(some 29), 464, none, .call (.c (.fn (.func 11) [] [])) [(.t 25), (.t 28)]⟩,
    ⟨(some 9), 144, none, .mv (.t 29)⟩])
  (.seq (.drw [⟨(some 30), 480, none, .mv (.t 8)⟩,
    ⟨(some 31), 496, none, .mv (.t 9)⟩,
    ⟨(some 32), 512, none, .ia 2 (.t 30) (.t 31)⟩,
    ⟨(some 33), 528, none, .ld 2 true (.t 32)⟩,
    ⟨(some 34), 544, none, .mv (.t 8)⟩,
    ⟨(some 35), 560, none, .mv (.t 9)⟩,
    ⟨(some 36), 576, none, .bi false .add (.t 35) (.c (.int .i64 1))⟩,
    ⟨(some 37), 592, none, .ia 2 (.t 34) (.t 36)⟩,
    ⟨(some 38), 608, none, .ld 2 true (.t 37)⟩,
    ⟨(some 10), 160, none, .al [(.int .i64 0), (.int .i64 0)]⟩,
    ⟨(some 11), 176, none, .al [(.int .i64 0), (.int .i64 0)]⟩,
    ⟨none, 0, none, .st 2 (.t 10) (.t 33)⟩,
    ⟨none, 0, none, .st 2 (.t 11) (.t 38)⟩]
    [(0, 1, 30), (0, 4, 30), (0, 5, 30), (0, 6, 30), (0, 7, 30), (0, 8, 30), (0, 9, 30), (0, 10, 30), (1, 4, 31), (1, 5, 31), (1, 6, 31), (1, 7, 31), (1, 8, 31), (1, 9, 31), (1, 10, 31), (2, 4, 32), (2, 5, 32), (2, 6, 32), (2, 7, 32), (2, 8, 32), (2, 9, 32), (2, 10, 32), (3, 4, 33), (3, 5, 33), (3, 6, 33), (3, 7, 33), (3, 8, 33), (3, 9, 33), (3, 10, 33), (4, 5, 34), (4, 6, 34), (4, 9, 34), (4, 10, 34), (4, 11, 34), (5, 9, 35), (5, 10, 35), (5, 11, 35), (6, 9, 36), (6, 10, 36), (6, 11, 36), (7, 9, 37), (7, 10, 37), (7, 11, 37), (8, 9, 38), (8, 10, 38), (8, 11, 38), (9, 10, 10)])
  (.seq (.drw [⟨(some 39), 624, none, .fa 0 (.t 10)⟩,
    ⟨(some 40), 640, none, .ld 1 false (.t 39)⟩,
    ⟨(some 41), 656, none, .mv (.t 2)⟩,
    ⟨(some 42), 672, none, .fa 0 (.t 11)⟩,
    ⟨(some 43), 688, none, .ld 1 false (.t 42)⟩,
    ⟨(some 44), 704, none, .fa 0 (.t 10)⟩,
    ⟨(some 45), 720, none, .ld 1 false (.t 44)⟩,
    ⟨(some 46), 736, none, .bi false .sub (.t 43) (.t 45)⟩,
    ⟨(some 47), 752, none, .bi false .add (.t 46) (.c (.int .i64 1))⟩,
    ⟨(some 48), 768, none, .call (.c (.fn (.func 11) [] [])) [(.t 41), (.t 47)]⟩,
    ⟨(some 49), 784, none, .bi false .add (.t 40) (.t 48)⟩,
    ⟨(some 12), 192, none, .mv (.t 49)⟩]
    [(0, 2, 39), (0, 3, 39), (0, 4, 39), (0, 5, 39), (0, 6, 39), (0, 7, 39), (0, 8, 39), (0, 9, 39), (1, 2, 40), (1, 3, 40), (1, 4, 40), (1, 5, 40), (1, 6, 40), (1, 7, 40), (1, 8, 40), (1, 9, 40), (2, 3, 41), (2, 4, 41), (2, 5, 41), (2, 6, 41), (2, 7, 41), (2, 8, 41), (3, 5, 42), (3, 6, 42), (4, 5, 43), (4, 6, 43)])
  (.seq (.reg [⟨(some 51), 816, none, .mv (.t 8)⟩,
    ⟨(some 52), 832, none, .mv (.t 12)⟩,
    ⟨(some 53), 848, none, .call (.c (.fn (.func 12) [] [])) [(.t 51), (.t 52)]⟩,
    ⟨(some 50), 800, none, .mv (.t 53)⟩,
    ⟨(some 54), 864, none, .ex (.t 50) 0⟩,
    ⟨(some 55), 880, none, .ex (.t 50) 1⟩,
    ⟨(some 13), 208, none, .mv (.t 54)⟩,
    ⟨(some 14), 224, none, .mv (.t 55)⟩])
  (.seq (.reg [⟨(some 56), 896, none, .mv (.t 13)⟩,
    ⟨(some 57), 912, none, .fa 1 (.t 10)⟩,
    ⟨(some 58), 928, none, .ld 1 false (.t 57)⟩,
    ⟨(some 59), 944, none, .bi false .sub (.t 56) (.t 58)⟩,
    ⟨(some 60), 960, none, .fa 0 (.t 11)⟩,
    ⟨(some 61), 976, none, .ld 1 false (.t 60)⟩,
    ⟨(some 62), 992, none, .fa 0 (.t 10)⟩,
    ⟨(some 63), 1008, none, .ld 1 false (.t 62)⟩,
    ⟨(some 64), 1024, none, .bi false .sub (.t 61) (.t 63)⟩,
    ⟨(some 65), 1040, none, .bi false .mul (.t 59) (.t 64)⟩,
    ⟨(some 15), 240, none, .mv (.t 65)⟩])
  (.seq (.reg [⟨(some 66), 1056, none, .fa 1 (.t 11)⟩,
    ⟨(some 67), 1072, none, .ld 1 false (.t 66)⟩,
    ⟨(some 68), 1088, none, .fa 1 (.t 10)⟩,
    ⟨(some 69), 1104, none, .ld 1 false (.t 68)⟩,
    ⟨(some 70), 1120, none, .bi false .sub (.t 67) (.t 69)⟩,
    ⟨(some 71), 1136, none, .mv (.t 12)⟩,
    ⟨(some 72), 1152, none, .fa 0 (.t 10)⟩,
    ⟨(some 73), 1168, none, .ld 1 false (.t 72)⟩,
    ⟨(some 74), 1184, none, .bi false .sub (.t 71) (.t 73)⟩,
    ⟨(some 75), 1200, none, .bi false .mul (.t 70) (.t 74)⟩,
    ⟨(some 16), 256, none, .mv (.t 75)⟩])
  (.seq (.reg [⟨(some 76), 1216, none, .mv (.t 14)⟩,
    ⟨(some 77), 1232, none, .bi false .eql (.t 76) (.c (.int .i64 0))⟩,
    ⟨(some 78), 1248, none, .mv (.t 77)⟩,
    ⟨(some 79), 1264, (some (78, true)), .mv (.t 15)⟩,
    ⟨(some 80), 1280, (some (78, true)), .mv (.t 16)⟩,
    ⟨(some 81), 1296, (some (78, true)), .bi false .leq (.t 79) (.t 80)⟩,
    ⟨(some 82), 1312, none, .pick (.t 78) (.t 81) (.c (.bool false))⟩,
    ⟨(some 83), 1328, none, .mv (.t 82)⟩,
    ⟨(some 84), 1344, (some (83, true)), .mv (.t 16)⟩,
    ⟨(some 85), 1360, (some (83, true)), .mv (.t 15)⟩,
    ⟨(some 86), 1376, (some (83, true)), .fa 0 (.t 11)⟩,
    ⟨(some 87), 1392, (some (83, true)), .ld 1 false (.t 86)⟩,
    ⟨(some 88), 1408, (some (83, true)), .bi false .add (.t 85) (.t 87)⟩,
    ⟨(some 89), 1424, (some (83, true)), .fa 0 (.t 10)⟩,
    ⟨(some 90), 1440, (some (83, true)), .ld 1 false (.t 89)⟩,
    ⟨(some 91), 1456, (some (83, true)), .bi false .sub (.t 88) (.t 90)⟩,
    ⟨(some 92), 1472, (some (83, true)), .bi false .lss (.t 84) (.t 91)⟩,
    ⟨(some 93), 1488, none, .pick (.t 83) (.t 92) (.c (.bool false))⟩,
    ⟨(some 94), 1504, none, .mv (.t 93)⟩,
    ⟨(some 95), 1520, (some (94, true)), .call (.c (.fn (.func 15) [] [])) []⟩,
    ⟨(some 96), 1536, none, .pick (.t 94) (.t 95) (.c (.bool false))⟩,
    ⟨(some 6), 96, none, .mv (.t 96)⟩])
  .ret))))))))))
theorem fits4 : fits Try.prog false Try.f4 3 97 [(6, none)] = some c4.er := by kernel_rfl

theorem atC_good {c : List Pt} (h : GoodC c) (x : Int) : atC c x = (valC c x, 0) := by unfold atC; rw [if_pos ((check_good c).2 h)]

set_option maxRecDepth 100000 in
set_option maxHeartbeats 4000000 in
theorem call4 (l : List Int) (at_ x : Int) : PureCall Try.prog 4 [.sl 1 1 l.length (fl eInt l), .int .i64 at_, .int .i64 x] [] ⟨.bool true, [], []⟩ := by
  refine pure_call mix Try.func4 fits4 rfl ?_
  conv => whnf
  refine ⟨_, fun _ => call_new 1 l, ?_⟩
  conv => whnf
  have r1 := nxt_lt ⟨l, 0⟩ (n := 20) (by omega)
  have a1 := nxtD_at ⟨l, 0⟩ 20
  dsimp only at a1
  refine ⟨_, fun _ => call_next 1 ⟨l, 0⟩ 20 (by dsimp only; omega) (by omega), ?_⟩
  conv => whnf
  have r2 := nxt_lt (nxtD ⟨l, 0⟩ 20) (n := 20) (by omega)
  have a2 := nxtD_at (nxtD ⟨l, 0⟩ 20) 20
  refine ⟨_, fun _ => call_next 1 (nxtD ⟨l, 0⟩ 20) 20 (by omega) (by omega), ?_⟩
  conv => whnf
  refine ⟨_, fun _ => call9 (nxtD (nxtD ⟨l, 0⟩ 20) 20) (nxt ⟨l, 0⟩ 20) (nxt (nxtD ⟨l, 0⟩ 20) 20) 30 40 (by omega) (by omega) (by omega) (by omega) (by omega), ?_⟩
  have hm := (curve_made (nxtD (nxtD ⟨l, 0⟩ 20) 20) (x := nxt ⟨l, 0⟩ 20) (y := nxt (nxtD ⟨l, 0⟩ 20) 20) (dx := 30) (dy := 40) (least := 0) (by omega) (by omega) (by omega) (by omega) (by omega)).1
  generalize curveS (nxtD (nxtD ⟨l, 0⟩ 20) 20) (nxt ⟨l, 0⟩ 20) (nxt (nxtD ⟨l, 0⟩ 20) 20) 30 40 0 = S at hm ⊢
  generalize S.L = c at hm ⊢
  generalize S.d = d
  have hg := hm.good
  have hlen := hm.len
  conv => whnf
  refine ⟨_, fun _ => call_mod at_ ((c.length : Int) - 1) (by omega) (by omega), ?_⟩
  conv => whnf
  have i1 := Int.emod_nonneg at_ (b := (c.length : Int) - 1) (by omega)
  have i2 := Int.emod_lt_of_pos at_ (b := (c.length : Int) - 1) (by omega)
  generalize at_ % ((c.length : Int) - 1) = i at i1 i2 ⊢
  obtain ⟨k, rfl⟩ : ∃ k : Nat, i = k := ⟨i.toNat, by omega⟩
  have hj : ((k : Int)).toNat = k := by omega
  have hj1 : ((k : Int) + 1).toNat = k + 1 := by omega
  have hu := hg.up (k + 1) (by omega) (by omega)
  rw [Nat.add_sub_cancel] at hu
  have hr := hg.rng k (by omega)
  have hr1 := hg.rng (k + 1) (by omega)
  refine ⟨rfl, ?_⟩
  conv => whnf
  refine ⟨_, fun _ => call_mod x ((c.getD ((k : Int) + 1).toNat default).x - (c.getD ((k : Int)).toNat default).x + 1) (by rw [hj, hj1]; omega) (by rw [hj, hj1]; omega), ?_⟩
  conv => whnf
  refine ⟨rfl, ?_⟩
  conv => whnf
  refine ⟨_, fun _ => call12 _ c ((c.getD ((k : Int)).toNat default).x + x % ((c.getD ((k : Int) + 1).toNat default).x - (c.getD ((k : Int)).toNat default).x + 1)), ?_⟩
  rw [hj, hj1]
  have x1 := Int.emod_nonneg x (b := (c.getD (k + 1) default).x - (c.getD k default).x + 1) (by omega)
  have x2 := Int.emod_lt_of_pos x (b := (c.getD (k + 1) default).x - (c.getD k default).x + 1) (by omega)
  generalize x % ((c.getD (k + 1) default).x - (c.getD k default).x + 1) = v at x1 x2 ⊢
  rw [atC_good hg, val_seg hg (k := k + 1) (by omega) (by omega) (by rw [Nat.add_sub_cancel]; omega) (by omega), Nat.add_sub_cancel]
  conv => whnf
  refine ⟨_, fun _ => call15, ?_⟩
  conv => whnf
  unfold lineF
  generalize c.getD (k + 1) default = p at *
  generalize c.getD k default = q at *
  have e1 : q.x + v - q.x = v := by omega
  rw [e1]
  have e2 : q.y + (p.y - q.y) * v / (p.x - q.x) - q.y = (p.y - q.y) * v / (p.x - q.x) := by omega
  have f1 := prod_le (a := p.y - q.y) (b := v) (by omega) (Int.le_refl _) (by omega) (show v ≤ p.x - q.x by omega) hu.2.2
  have f2 := Int.ediv_mul_le ((p.y - q.y) * v) (b := p.x - q.x) (by omega)
  have f3 := Int.lt_ediv_add_one_mul_self ((p.y - q.y) * v) (show 0 < p.x - q.x by omega)
  rw [Int.add_mul, Int.one_mul] at f3
  have f4 : 0 ≤ (p.y - q.y) * v / (p.x - q.x) := Int.ediv_nonneg (by omega) (by omega)
  have f5 : (p.y - q.y) * v / (p.x - q.x) ≤ p.y - q.y := Int.ediv_le_of_le_mul (by omega) (Int.mul_le_mul_of_nonneg_left (by omega) (by omega))
  have f6 : 0 ≤ (p.y - q.y) * v / (p.x - q.x) * (p.x - q.x) := Int.mul_nonneg f4 (by omega)
  refine ⟨?_, [], ?_⟩
  · conv => whnf
    rw [e2]
    (try conv => whnf)
    (repeat' (first | exact True.intro | exact fun _ h => h | refine inR64_of ?_ ?_ | apply And.intro | refine maxLen_ge ?_)) <;> (first | omega | (dsimp only; omega) | (dsimp only [List.length_cons, List.length_nil]; omega) | (intro hg; rw [hg]; rfl) | (intro hg hh; rw [hg, hh]; rfl) | (intro hg; simp [-List.getD_eq_getElem?_getD, -Int.default_eq_zero] at hg; first | omega | (refine inR64_of ?_ ?_ <;> omega) | (constructor <;> omega)) | (simp [-List.getD_eq_getElem?_getD, -Int.default_eq_zero]; done))
  conv => whnf
  refine ⟨rfl, ?_, trivial, trivial⟩
  all_goals repeat' (first | exact True.intro | refine leF_cons rfl ?_ ?_ | refine leS_cons rfl ?_ ?_ | (show PLe _ _ _ _; conv => whnf) | (show SLe _ _ _ _; conv => whnf) | (show PLeL _ _ _ _; conv => whnf) | apply And.intro | rfl | exact Nat.le_refl _ | exact fun _ _ => rfl | exact rowEq0 _ _)
  rw [e2]
  simp only [bif_t, bif_f, decide_eq_true_eq, decide_eq_false_iff_not, Bool.not_eq_true', Bool.not_eq_false', Bool.and_eq_true, Bool.or_eq_true, Bool.and_eq_false_iff, Bool.or_eq_false_iff, beq_iff_eq, bne_iff_ne, beq_eq_false_iff_ne, bne_eq_false_iff_eq, reduceCtorEq, false_and, and_false, true_and, and_true, or_false, false_or, or_true, true_or, not_true_eq_false, not_false_eq_true, Int.toNat_zero]
  omega
end Pv
end Go.Proofs.Ytedoglkonfckkaa
