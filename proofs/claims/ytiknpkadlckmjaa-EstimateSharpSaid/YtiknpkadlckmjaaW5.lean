/- LAW 29, THE WALKS, 5: lists of bounds. -/
import Derived.Test.YtiknpkadlckmjaaW4
namespace Go.Proofs.Ytiknpkadlckmjaa
namespace Pv

def c34 : C := (.seq (.reg [⟨(some 1), 16, none, .bx 2 (.t 0)⟩,
    ⟨(some 2), 32, none, .mv (.c (.int .i64 0))⟩])
  (.seq (.reg [⟨(some 4), 64, none, .fa 1 (.t 1)⟩,
    ⟨(some 5), 80, none, .ld 1 false (.t 4)⟩,
    ⟨(some 6), 96, none, .fa 0 (.t 1)⟩,
    ⟨(some 7), 112, none, .ld 1 false (.t 6)⟩,
    ⟨(some 8), 128, none, .bi true .sub (.t 5) (.t 7)⟩,
    ⟨(some 3), 48, none, .mv (.t 8)⟩])
  (.seq (.seq (.reg [⟨(some 9), 144, none, .fa 1 (.t 1)⟩,
    ⟨(some 10), 160, none, .ld 1 false (.t 9)⟩,
    ⟨(some 11), 176, none, .bi true .geq (.t 10) (.c (.int .i64 0))⟩,
    ⟨(some 12), 192, none, .mv (.t 11)⟩,
    ⟨(some 13), 208, (some (12, true)), .fa 0 (.t 1)⟩,
    ⟨(some 14), 224, (some (12, true)), .ld 1 false (.t 13)⟩,
    ⟨(some 15), 240, (some (12, true)), .bi true .lss (.t 14) (.c (.int .i64 0))⟩,
    ⟨(some 16), 256, none, .pick (.t 12) (.t 15) (.c (.bool false))⟩,
    ⟨(some 17), 272, none, .mv (.t 16)⟩,
    ⟨(some 18), 288, (some (17, true)), .mv (.t 3)⟩,
    ⟨(some 19), 304, (some (17, true)), .bi true .lss (.t 18) (.c (.int .i64 0))⟩,
    ⟨(some 20), 320, none, .pick (.t 17) (.t 19) (.c (.bool false))⟩])
  (.cond (.t 20) (.seq (.reg [⟨(some 2), 32, none, .mv (.c (.int .i64 9223372036854775807))⟩])
  .ret) .skip))
  (.seq (.seq (.reg [⟨(some 21), 336, none, .fa 1 (.t 1)⟩,
    ⟨(some 22), 352, none, .ld 1 false (.t 21)⟩,
    ⟨(some 23), 368, none, .bi true .lss (.t 22) (.c (.int .i64 0))⟩,
    ⟨(some 24), 384, none, .mv (.t 23)⟩,
    ⟨(some 25), 400, (some (24, true)), .fa 0 (.t 1)⟩,
    ⟨(some 26), 416, (some (24, true)), .ld 1 false (.t 25)⟩,
    ⟨(some 27), 432, (some (24, true)), .bi true .geq (.t 26) (.c (.int .i64 0))⟩,
    ⟨(some 28), 448, none, .pick (.t 24) (.t 27) (.c (.bool false))⟩,
    ⟨(some 29), 464, none, .mv (.t 28)⟩,
    ⟨(some 30), 480, (some (29, true)), .mv (.t 3)⟩,
    ⟨(some 31), 496, (some (29, true)), .bi true .geq (.t 30) (.c (.int .i64 0))⟩,
    ⟨(some 32), 512, none, .pick (.t 29) (.t 31) (.c (.bool false))⟩])
  (.cond (.t 32) (.seq (.reg [⟨(some 2), 32, none, .mv (.c (.int .i64 (-9223372036854775808)))⟩])
  .ret) .skip))
  (.seq (.reg [⟨(some 33), 528, none, .mv (.t 3)⟩,
    ⟨(some 2), 32, none, .mv (.t 33)⟩])
  .ret)))))
def c35 : C := (.seq (.reg [⟨(some 1), 16, none, .bx 2 (.t 0)⟩,
    ⟨(some 2), 32, none, .mv (.c (.int .i64 0))⟩])
  (.seq (.reg [⟨(some 4), 64, none, .fa 1 (.t 1)⟩,
    ⟨(some 5), 80, none, .ld 1 false (.t 4)⟩,
    ⟨(some 6), 96, none, .fa 0 (.t 1)⟩,
    ⟨(some 7), 112, none, .ld 1 false (.t 6)⟩,
    ⟨(some 8), 128, none, .bi true .sub (.t 5) (.t 7)⟩,
    ⟨(some 3), 48, none, .mv (.t 8)⟩])
  (.seq (.seq (.reg [⟨(some 9), 144, none, .fa 1 (.t 1)⟩,
    ⟨(some 10), 160, none, .ld 1 false (.t 9)⟩,
    ⟨(some 11), 176, none, .fa 0 (.t 1)⟩,
    ⟨(some 12), 192, none, .ld 1 false (.t 11)⟩,
    ⟨(some 13), 208, none, .bi true .geq (.t 10) (.t 12)⟩,
    ⟨(some 14), 224, none, .mv (.t 13)⟩,
    ⟨(some 15), 240, (some (14, true)), .mv (.t 3)⟩,
    ⟨(some 16), 256, (some (14, true)), .bi true .lss (.t 15) (.c (.int .i64 0))⟩,
    ⟨(some 17), 272, none, .pick (.t 14) (.t 16) (.c (.bool false))⟩])
  (.cond (.t 17) (.seq (.reg [⟨(some 2), 32, none, .mv (.c (.int .i64 9223372036854775807))⟩])
  .ret) .skip))
  (.seq (.seq (.reg [⟨(some 18), 288, none, .fa 1 (.t 1)⟩,
    ⟨(some 19), 304, none, .ld 1 false (.t 18)⟩,
    ⟨(some 20), 320, none, .fa 0 (.t 1)⟩,
    ⟨(some 21), 336, none, .ld 1 false (.t 20)⟩,
    ⟨(some 22), 352, none, .bi true .lss (.t 19) (.t 21)⟩,
    ⟨(some 23), 368, none, .mv (.t 22)⟩,
    ⟨(some 24), 384, (some (23, true)), .mv (.t 3)⟩,
    ⟨(some 25), 400, (some (23, true)), .bi true .gtr (.t 24) (.c (.int .i64 0))⟩,
    ⟨(some 26), 416, none, .pick (.t 23) (.t 25) (.c (.bool false))⟩])
  (.cond (.t 26) (.seq (.reg [⟨(some 2), 32, none, .mv (.c (.int .i64 (-9223372036854775808)))⟩])
  .ret) .skip))
  (.seq (.reg [⟨(some 27), 432, none, .mv (.t 3)⟩,
    ⟨(some 2), 32, none, .mv (.t 27)⟩])
  .ret)))))
def c24L1 : C := (.seq (.reg [⟨(some 15), 240, none, .bi false .lss (.t 14) (.t 13)⟩])
  (.seq (.cond (.t 15) .skip (.exit 0))
  (.seq (.block 1 (.seq (.reg [⟨(some 16), 256, none, .mv (.t 14)⟩,
    ⟨(some 17), 272, none, .ia 2 (.t 12) (.t 14)⟩,
    ⟨(some 18), 288, none, .ld 2 true (.t 17)⟩,
    ⟨(some 6), 96, none, .al [(.int .i64 0), (.int .i64 0)]⟩,
    ⟨(some 5), 80, none, .mv (.t 16)⟩,
    ⟨none, 0, none, .st 2 (.t 6) (.t 18)⟩])
  (.seq (.drw [⟨(some 19), 304, none, .mv (.t 1)⟩,
    ⟨(some 20), 320, none, .mv (.t 5)⟩,
    ⟨(some 21), 336, none, .ia 1 (.t 19) (.t 20)⟩,
    ⟨(some 22), 352, none, .ld 1 false (.t 21)⟩,
    ⟨(some 23), 368, none, .fa 0 (.t 6)⟩,
    ⟨(some 24), 384, none, .ld 1 false (.t 23)⟩,
    ⟨(some 25), 400, none, .bi false .lss (.t 22) (.t 24)⟩,
    ⟨(some 26), 416, none, .mv (.t 25)⟩,
    ⟨(some 27), 432, (some (26, false)), .mv (.t 1)⟩,
    ⟨(some 28), 448, (some (26, false)), .mv (.t 5)⟩,
    ⟨(some 29), 464, (some (26, false)), .ia 1 (.t 27) (.t 28)⟩,
    ⟨(some 30), 480, (some (26, false)), .ld 1 false (.t 29)⟩,
    ⟨(some 31), 496, (some (26, false)), .fa 1 (.t 6)⟩,
    ⟨(some 32), 512, (some (26, false)), .ld 1 false (.t 31)⟩,
    ⟨(some 33), 528, (some (26, false)), .bi false .gtr (.t 30) (.t 32)⟩,
    ⟨(some 34), 544, none, .pick (.t 26) (.c (.bool true)) (.t 33)⟩]
    [(0, 1, 19), (0, 4, 19), (0, 5, 19), (1, 4, 20), (1, 5, 20), (2, 4, 21), (2, 5, 21), (3, 4, 22), (3, 5, 22), (8, 9, 27), (8, 12, 27), (8, 13, 27), (9, 12, 28), (9, 13, 28), (10, 12, 29), (10, 13, 29), (11, 12, 30), (11, 13, 30)])
  (.cond (.t 34) (.seq (.reg [⟨(some 4), 64, none, .mv (.c (.bool false))⟩])
  .ret) .skip))))
  (.reg [⟨(some 35), 560, none, .bi false .add (.t 14) (.c (.int .i64 1))⟩,
    ⟨(some 14), 224, none, .mv (.t 35)⟩]))))
def c24 : C := (.seq (.reg [⟨(some 4), 64, none, .mv (.c (.bool false))⟩])
  (.seq (.seq (.reg [⟨(some 7), 112, none, .mv (.t 0)⟩,
    ⟨(some 8), 128, none, .len (.t 7)⟩,
    ⟨(some 9), 144, none, .mv (.t 1)⟩,
    ⟨(some 10), 160, none, .len (.t 9)⟩,
    ⟨(some 11), 176, none, .bi false .neq (.t 8) (.t 10)⟩])
  (.cond (.t 11) (.seq (.reg [⟨(some 4), 64, none, .mv (.c (.bool false))⟩])
  .ret) .skip))
  (.seq (.seq (.reg [⟨(some 12), 192, none, .mv (.t 0)⟩,
    ⟨(some 13), 208, none, .len (.t 12)⟩,
    ⟨(some 14), 224, none, .mv (.c (.int .i64 0))⟩])
  (.block 0 (.loop c24L1)))
  (.seq (.reg [⟨(some 4), 64, none, .mv (.c (.bool true))⟩])
  .ret))))
def c29L1 : C := (.seq (.reg [⟨(some 15), 240, none, .bi false .lss (.t 14) (.t 13)⟩])
  (.seq (.cond (.t 15) .skip (.exit 0))
  (.seq (.block 1 (.seq (.reg [⟨(some 16), 256, none, .mv (.t 14)⟩,
    ⟨(some 17), 272, none, .ia 2 (.t 12) (.t 14)⟩,
    ⟨(some 18), 288, none, .ld 2 true (.t 17)⟩,
    ⟨(some 6), 96, none, .al [(.int .i64 0), (.int .i64 0)]⟩,
    ⟨(some 5), 80, none, .mv (.t 16)⟩,
    ⟨none, 0, none, .st 2 (.t 6) (.t 18)⟩])
  (.seq (.drw [⟨(some 19), 304, none, .mv (.t 1)⟩,
    ⟨(some 20), 320, none, .mv (.t 5)⟩,
    ⟨(some 21), 336, none, .ia 1 (.t 19) (.t 20)⟩,
    ⟨(some 22), 352, none, .ld 1 false (.t 21)⟩,
    ⟨(some 23), 368, none, .fa 0 (.t 6)⟩,
    ⟨(some 24), 384, none, .ld 1 false (.t 23)⟩,
    ⟨(some 25), 400, none, .bi false .lss (.t 22) (.t 24)⟩,
    ⟨(some 26), 416, none, .mv (.t 25)⟩,
    ⟨(some 27), 432, (some (26, false)), .mv (.t 1)⟩,
    ⟨(some 28), 448, (some (26, false)), .mv (.t 5)⟩,
    ⟨(some 29), 464, (some (26, false)), .ia 1 (.t 27) (.t 28)⟩,
    ⟨(some 30), 480, (some (26, false)), .ld 1 false (.t 29)⟩,
    ⟨(some 31), 496, (some (26, false)), .fa 1 (.t 6)⟩,
    ⟨(some 32), 512, (some (26, false)), .ld 1 false (.t 31)⟩,
    ⟨(some 33), 528, (some (26, false)), .bi false .gtr (.t 30) (.t 32)⟩,
    ⟨(some 34), 544, none, .pick (.t 26) (.c (.bool true)) (.t 33)⟩]
    [(0, 1, 19), (0, 4, 19), (0, 5, 19), (1, 4, 20), (1, 5, 20), (2, 4, 21), (2, 5, 21), (3, 4, 22), (3, 5, 22), (8, 9, 27), (8, 12, 27), (8, 13, 27), (9, 12, 28), (9, 13, 28), (10, 12, 29), (10, 13, 29), (11, 12, 30), (11, 13, 30)])
  (.cond (.t 34) (.seq (.reg [⟨(some 4), 64, none, .mv (.c (.bool false))⟩])
  .ret) .skip))))
  (.reg [⟨(some 35), 560, none, .bi false .add (.t 14) (.c (.int .i64 1))⟩,
    ⟨(some 14), 224, none, .mv (.t 35)⟩]))))
def c29 : C := (.seq (.reg [⟨(some 4), 64, none, .mv (.c (.bool false))⟩])
  (.seq (.seq (.reg [⟨(some 7), 112, none, .mv (.t 0)⟩,
    ⟨(some 8), 128, none, .len (.t 7)⟩,
    ⟨(some 9), 144, none, .mv (.t 1)⟩,
    ⟨(some 10), 160, none, .len (.t 9)⟩,
    ⟨(some 11), 176, none, .bi false .neq (.t 8) (.t 10)⟩])
  (.cond (.t 11) (.seq (.reg [⟨(some 4), 64, none, .mv (.c (.bool false))⟩])
  .ret) .skip))
  (.seq (.seq (.reg [⟨(some 12), 192, none, .mv (.t 0)⟩,
    ⟨(some 13), 208, none, .len (.t 12)⟩,
    ⟨(some 14), 224, none, .mv (.c (.int .i64 0))⟩])
  (.block 0 (.loop c29L1)))
  (.seq (.reg [⟨(some 4), 64, none, .mv (.c (.bool true))⟩])
  .ret))))
def c22L1 : C := (.seq (.reg [⟨(some 14), 224, none, .bi false .lss (.t 13) (.t 12)⟩])
  (.seq (.cond (.t 14) .skip (.exit 0))
  (.seq (.block 1 (.seq (.reg [⟨(some 15), 240, none, .mv (.t 13)⟩,
    ⟨(some 5), 80, none, .mv (.t 15)⟩])
  (.seq (.drw [⟨(some 16), 256, none, .mv (.t 0)⟩,
    ⟨(some 17), 272, none, .mv (.t 5)⟩,
    ⟨(some 18), 288, none, .ia 2 (.t 16) (.t 17)⟩,
    ⟨(some 19), 304, none, .ld 2 true (.t 18)⟩,
    ⟨(some 20), 320, none, .mv (.t 1)⟩,
    ⟨(some 21), 336, none, .mv (.t 5)⟩,
    ⟨(some 22), 352, none, .ia 2 (.t 20) (.t 21)⟩,
    ⟨(some 23), 368, none, .ld 2 true (.t 22)⟩,
    ⟨(some 24), 384, none, .eqa true [0, 0] (.t 19) (.t 23)⟩]
    [(0, 1, 16), (0, 4, 16), (0, 5, 16), (0, 6, 16), (0, 7, 16), (1, 4, 17), (1, 5, 17), (1, 6, 17), (1, 7, 17), (2, 4, 18), (2, 5, 18), (2, 6, 18), (2, 7, 18), (3, 4, 19), (3, 5, 19), (3, 6, 19), (3, 7, 19), (4, 5, 20)])
  (.cond (.t 24) (.seq (.reg [⟨(some 4), 64, none, .mv (.c (.bool false))⟩])
  .ret) .skip))))
  (.reg [⟨(some 25), 400, none, .bi false .add (.t 13) (.c (.int .i64 1))⟩,
    ⟨(some 13), 208, none, .mv (.t 25)⟩]))))
def c22 : C := (.seq (.reg [⟨(some 4), 64, none, .mv (.c (.bool false))⟩])
  (.seq (.seq (.reg [⟨(some 6), 96, none, .mv (.t 0)⟩,
    ⟨(some 7), 112, none, .len (.t 6)⟩,
    ⟨(some 8), 128, none, .mv (.t 1)⟩,
    ⟨(some 9), 144, none, .len (.t 8)⟩,
    ⟨(some 10), 160, none, .bi false .neq (.t 7) (.t 9)⟩])
  (.cond (.t 10) (.seq (.reg [⟨(some 4), 64, none, .mv (.c (.bool false))⟩])
  .ret) .skip))
  (.seq (.seq (.reg [⟨(some 11), 176, none, .mv (.t 0)⟩,
    ⟨(some 12), 192, none, .len (.t 11)⟩,
    ⟨(some 13), 208, none, .mv (.c (.int .i64 0))⟩])
  (.block 0 (.loop c22L1)))
  (.seq (.reg [⟨(some 4), 64, none, .mv (.c (.bool true))⟩])
  .ret))))
theorem fits34 : fits Try.prog true Try.f34 1 34 [(2, none)] = some c34.er := by kernel_rfl
theorem fits35 : fits Try.prog true Try.f35 1 28 [(2, none)] = some c35.er := by kernel_rfl

def clamp (n : Int) : Int := if n > 9223372036854775807 then 9223372036854775807 else if n < -9223372036854775808 then -9223372036854775808 else n
def widthF (b : Bo) : Int := clamp (b.hi - b.lo)
def InB (b : Bo) : Prop := -9223372036854775808 ≤ b.lo ∧ b.lo ≤ 9223372036854775807 ∧ -9223372036854775808 ≤ b.hi ∧ b.hi ≤ 9223372036854775807

theorem wrap64 (n : Int) : IntKind.wrap .i64 n = (n + 9223372036854775808) % 18446744073709551616 - 9223372036854775808 := by
  simp [IntKind.wrap, IntKind.signed, IntKind.bits]
  omega

theorem call34 (b : Bo) (h : InB b) : PureCall Try.prog 34 [.agg (eBo b)] [] ⟨.int .i64 (widthF b), [], []⟩ := by
  obtain ⟨h1, h2, h3, h4⟩ := h
  refine pure_call mix Try.func34 fits34 rfl ?_
  conv => whnf
  refine ⟨?_, fun hc => ?_, fun hc => ?_⟩
  · (try conv => whnf)
    (repeat' (first | exact True.intro | exact fun _ h => h | refine inR64_of ?_ ?_ | apply And.intro | refine maxLen_ge ?_)) <;> (first | omega | (dsimp only; omega) | (dsimp only [List.length_cons, List.length_nil]; omega) | (intro hg; rw [hg]; rfl) | (intro hg hh; rw [hg, hh]; rfl) | (intro hg; simp [-List.getD_eq_getElem?_getD, -Int.default_eq_zero] at hg; first | omega | (refine inR64_of ?_ ?_ <;> omega) | (constructor <;> omega)) | (simp [-List.getD_eq_getElem?_getD, -Int.default_eq_zero]; done))
  · conv => whnf
    refine ⟨?_, [], ?_⟩
    · (try conv => whnf)
      (repeat' (first | exact True.intro | exact fun _ h => h | refine inR64_of ?_ ?_ | apply And.intro | refine maxLen_ge ?_)) <;> (first | omega | (dsimp only; omega) | (dsimp only [List.length_cons, List.length_nil]; omega) | (intro hg; rw [hg]; rfl) | (intro hg hh; rw [hg, hh]; rfl) | (intro hg; simp [-List.getD_eq_getElem?_getD, -Int.default_eq_zero] at hg; first | omega | (refine inR64_of ?_ ?_ <;> omega) | (constructor <;> omega)) | (simp [-List.getD_eq_getElem?_getD, -Int.default_eq_zero]; done))
    conv => whnf
    refine ⟨rfl, ?_, trivial, trivial⟩
    all_goals repeat' (first | exact True.intro | refine leF_cons rfl ?_ ?_ | refine leS_cons rfl ?_ ?_ | (show PLe _ _ _ _; conv => whnf) | (show SLe _ _ _ _; conv => whnf) | (show PLeL _ _ _ _; conv => whnf) | apply And.intro | rfl | exact Nat.le_refl _ | exact fun _ _ => rfl | exact rowEq0 _ _)
    rw [wrap64] at hc
    simp [-List.getD_eq_getElem?_getD, -Int.default_eq_zero] at hc
    unfold widthF clamp; split <;> omega
  · conv => whnf
    refine ⟨?_, fun hc2 => ?_, fun hc2 => ?_⟩
    · (try conv => whnf)
      (repeat' (first | exact True.intro | exact fun _ h => h | refine inR64_of ?_ ?_ | apply And.intro | refine maxLen_ge ?_)) <;> (first | omega | (dsimp only; omega) | (dsimp only [List.length_cons, List.length_nil]; omega) | (intro hg; rw [hg]; rfl) | (intro hg hh; rw [hg, hh]; rfl) | (intro hg; simp [-List.getD_eq_getElem?_getD, -Int.default_eq_zero] at hg; first | omega | (refine inR64_of ?_ ?_ <;> omega) | (constructor <;> omega)) | (simp [-List.getD_eq_getElem?_getD, -Int.default_eq_zero]; done))
    · conv => whnf
      refine ⟨?_, [], ?_⟩
      · (try conv => whnf)
        (repeat' (first | exact True.intro | exact fun _ h => h | refine inR64_of ?_ ?_ | apply And.intro | refine maxLen_ge ?_)) <;> (first | omega | (dsimp only; omega) | (dsimp only [List.length_cons, List.length_nil]; omega) | (intro hg; rw [hg]; rfl) | (intro hg hh; rw [hg, hh]; rfl) | (intro hg; simp [-List.getD_eq_getElem?_getD, -Int.default_eq_zero] at hg; first | omega | (refine inR64_of ?_ ?_ <;> omega) | (constructor <;> omega)) | (simp [-List.getD_eq_getElem?_getD, -Int.default_eq_zero]; done))
      conv => whnf
      refine ⟨rfl, ?_, trivial, trivial⟩
      all_goals repeat' (first | exact True.intro | refine leF_cons rfl ?_ ?_ | refine leS_cons rfl ?_ ?_ | (show PLe _ _ _ _; conv => whnf) | (show SLe _ _ _ _; conv => whnf) | (show PLeL _ _ _ _; conv => whnf) | apply And.intro | rfl | exact Nat.le_refl _ | exact fun _ _ => rfl | exact rowEq0 _ _)
      rw [wrap64] at hc hc2
      simp [-List.getD_eq_getElem?_getD, -Int.default_eq_zero] at hc hc2
      unfold widthF clamp; split
      · omega
      · split <;> omega
    · conv => whnf
      refine ⟨?_, [], ?_⟩
      · (try conv => whnf)
        (repeat' (first | exact True.intro | exact fun _ h => h | refine inR64_of ?_ ?_ | apply And.intro | refine maxLen_ge ?_)) <;> (first | omega | (dsimp only; omega) | (dsimp only [List.length_cons, List.length_nil]; omega) | (intro hg; rw [hg]; rfl) | (intro hg hh; rw [hg, hh]; rfl) | (intro hg; simp [-List.getD_eq_getElem?_getD, -Int.default_eq_zero] at hg; first | omega | (refine inR64_of ?_ ?_ <;> omega) | (constructor <;> omega)) | (simp [-List.getD_eq_getElem?_getD, -Int.default_eq_zero]; done))
      conv => whnf
      refine ⟨rfl, ?_, trivial, trivial⟩
      all_goals repeat' (first | exact True.intro | refine leF_cons rfl ?_ ?_ | refine leS_cons rfl ?_ ?_ | (show PLe _ _ _ _; conv => whnf) | (show SLe _ _ _ _; conv => whnf) | (show PLeL _ _ _ _; conv => whnf) | apply And.intro | rfl | exact Nat.le_refl _ | exact fun _ _ => rfl | exact rowEq0 _ _)
      rw [wrap64] at hc hc2 ⊢
      simp [-List.getD_eq_getElem?_getD, -Int.default_eq_zero] at hc hc2
      unfold widthF clamp; split
      · omega
      · split <;> omega

theorem call35 (b : Bo) (h : InB b) : PureCall Try.prog 35 [.agg (eBo b)] [] ⟨.int .i64 (widthF b), [], []⟩ := by
  obtain ⟨h1, h2, h3, h4⟩ := h
  refine pure_call mix Try.func35 fits35 rfl ?_
  conv => whnf
  refine ⟨?_, fun hc => ?_, fun hc => ?_⟩
  · (try conv => whnf)
    (repeat' (first | exact True.intro | exact fun _ h => h | refine inR64_of ?_ ?_ | apply And.intro | refine maxLen_ge ?_)) <;> (first | omega | (dsimp only; omega) | (dsimp only [List.length_cons, List.length_nil]; omega) | (intro hg; rw [hg]; rfl) | (intro hg hh; rw [hg, hh]; rfl) | (intro hg; simp [-List.getD_eq_getElem?_getD, -Int.default_eq_zero] at hg; first | omega | (refine inR64_of ?_ ?_ <;> omega) | (constructor <;> omega)) | (simp [-List.getD_eq_getElem?_getD, -Int.default_eq_zero]; done))
  · conv => whnf
    refine ⟨?_, [], ?_⟩
    · (try conv => whnf)
      (repeat' (first | exact True.intro | exact fun _ h => h | refine inR64_of ?_ ?_ | apply And.intro | refine maxLen_ge ?_)) <;> (first | omega | (dsimp only; omega) | (dsimp only [List.length_cons, List.length_nil]; omega) | (intro hg; rw [hg]; rfl) | (intro hg hh; rw [hg, hh]; rfl) | (intro hg; simp [-List.getD_eq_getElem?_getD, -Int.default_eq_zero] at hg; first | omega | (refine inR64_of ?_ ?_ <;> omega) | (constructor <;> omega)) | (simp [-List.getD_eq_getElem?_getD, -Int.default_eq_zero]; done))
    conv => whnf
    refine ⟨rfl, ?_, trivial, trivial⟩
    all_goals repeat' (first | exact True.intro | refine leF_cons rfl ?_ ?_ | refine leS_cons rfl ?_ ?_ | (show PLe _ _ _ _; conv => whnf) | (show SLe _ _ _ _; conv => whnf) | (show PLeL _ _ _ _; conv => whnf) | apply And.intro | rfl | exact Nat.le_refl _ | exact fun _ _ => rfl | exact rowEq0 _ _)
    rw [wrap64] at hc
    simp [-List.getD_eq_getElem?_getD, -Int.default_eq_zero] at hc
    unfold widthF clamp; split <;> omega
  · conv => whnf
    refine ⟨?_, fun hc2 => ?_, fun hc2 => ?_⟩
    · (try conv => whnf)
      (repeat' (first | exact True.intro | exact fun _ h => h | refine inR64_of ?_ ?_ | apply And.intro | refine maxLen_ge ?_)) <;> (first | omega | (dsimp only; omega) | (dsimp only [List.length_cons, List.length_nil]; omega) | (intro hg; rw [hg]; rfl) | (intro hg hh; rw [hg, hh]; rfl) | (intro hg; simp [-List.getD_eq_getElem?_getD, -Int.default_eq_zero] at hg; first | omega | (refine inR64_of ?_ ?_ <;> omega) | (constructor <;> omega)) | (simp [-List.getD_eq_getElem?_getD, -Int.default_eq_zero]; done))
    · conv => whnf
      refine ⟨?_, [], ?_⟩
      · (try conv => whnf)
        (repeat' (first | exact True.intro | exact fun _ h => h | refine inR64_of ?_ ?_ | apply And.intro | refine maxLen_ge ?_)) <;> (first | omega | (dsimp only; omega) | (dsimp only [List.length_cons, List.length_nil]; omega) | (intro hg; rw [hg]; rfl) | (intro hg hh; rw [hg, hh]; rfl) | (intro hg; simp [-List.getD_eq_getElem?_getD, -Int.default_eq_zero] at hg; first | omega | (refine inR64_of ?_ ?_ <;> omega) | (constructor <;> omega)) | (simp [-List.getD_eq_getElem?_getD, -Int.default_eq_zero]; done))
      conv => whnf
      refine ⟨rfl, ?_, trivial, trivial⟩
      all_goals repeat' (first | exact True.intro | refine leF_cons rfl ?_ ?_ | refine leS_cons rfl ?_ ?_ | (show PLe _ _ _ _; conv => whnf) | (show SLe _ _ _ _; conv => whnf) | (show PLeL _ _ _ _; conv => whnf) | apply And.intro | rfl | exact Nat.le_refl _ | exact fun _ _ => rfl | exact rowEq0 _ _)
      rw [wrap64] at hc hc2
      simp [-List.getD_eq_getElem?_getD, -Int.default_eq_zero] at hc hc2
      unfold widthF clamp; split
      · omega
      · split <;> omega
    · conv => whnf
      refine ⟨?_, [], ?_⟩
      · (try conv => whnf)
        (repeat' (first | exact True.intro | exact fun _ h => h | refine inR64_of ?_ ?_ | apply And.intro | refine maxLen_ge ?_)) <;> (first | omega | (dsimp only; omega) | (dsimp only [List.length_cons, List.length_nil]; omega) | (intro hg; rw [hg]; rfl) | (intro hg hh; rw [hg, hh]; rfl) | (intro hg; simp [-List.getD_eq_getElem?_getD, -Int.default_eq_zero] at hg; first | omega | (refine inR64_of ?_ ?_ <;> omega) | (constructor <;> omega)) | (simp [-List.getD_eq_getElem?_getD, -Int.default_eq_zero]; done))
      conv => whnf
      refine ⟨rfl, ?_, trivial, trivial⟩
      all_goals repeat' (first | exact True.intro | refine leF_cons rfl ?_ ?_ | refine leS_cons rfl ?_ ?_ | (show PLe _ _ _ _; conv => whnf) | (show SLe _ _ _ _; conv => whnf) | (show PLeL _ _ _ _; conv => whnf) | apply And.intro | rfl | exact Nat.le_refl _ | exact fun _ _ => rfl | exact rowEq0 _ _)
      rw [wrap64] at hc hc2 ⊢
      simp [-List.getD_eq_getElem?_getD, -Int.default_eq_zero] at hc hc2
      unfold widthF clamp; split
      · omega
      · split <;> omega

/-! ### Within -/
def eInt (n : Int) : List PV := [.int .i64 n]
def outAt (l : List Bo) (v : List Int) (i : Nat) : Int := if v.getD i default < (l.getD i default).lo ∨ v.getD i default > (l.getD i default).hi then 1 else 0
def withinF (l : List Bo) (v : List Int) : Bool := decide (l.length = v.length) && decide (scan (outAt l v) 0 l.length = 0)
theorem fits24 : fits Try.prog false Try.f24 2 36 [(4, none)] = some c24.er := by kernel_rfl
theorem fits29 : fits Try.prog false Try.f29 2 36 [(4, none)] = some c29.er := by kernel_rfl

theorem call24 (τ τ' : Nat) (l : List Bo) (v : List Int) (hl : l.length ≤ 1000) : PureCall Try.prog 24 [.sl τ 2 l.length (fl eBo l), .sl τ' 1 v.length (fl eInt v)] [] ⟨.bool (withinF l v), [], []⟩ := by
  refine pure_call mix Try.func24 fits24 rfl ?_
  conv => whnf
  refine ⟨trivial, fun hc => ?_, fun hc => ?_⟩
  · conv => whnf
    refine ⟨?_, [], ?_⟩
    · (try conv => whnf)
      (repeat' (first | exact True.intro | exact fun _ h => h | refine inR64_of ?_ ?_ | apply And.intro | refine maxLen_ge ?_)) <;> (first | omega | (dsimp only; omega) | (dsimp only [List.length_cons, List.length_nil]; omega) | (intro hg; rw [hg]; rfl) | (intro hg hh; rw [hg, hh]; rfl) | (intro hg; simp [-List.getD_eq_getElem?_getD, -Int.default_eq_zero] at hg; first | omega | (refine inR64_of ?_ ?_ <;> omega) | (constructor <;> omega)) | (simp [-List.getD_eq_getElem?_getD, -Int.default_eq_zero]; done))
    conv => whnf
    refine ⟨rfl, ?_, trivial, trivial⟩
    all_goals repeat' (first | exact True.intro | refine leF_cons rfl ?_ ?_ | refine leS_cons rfl ?_ ?_ | (show PLe _ _ _ _; conv => whnf) | (show SLe _ _ _ _; conv => whnf) | (show PLeL _ _ _ _; conv => whnf) | apply And.intro | rfl | exact Nat.le_refl _ | exact fun _ _ => rfl | exact rowEq0 _ _)
    simp [-List.getD_eq_getElem?_getD, -Int.default_eq_zero] at hc
    unfold withinF
    rw [decide_eq_false (by omega)]; rfl
  · have hlen : l.length = v.length := by simp [-List.getD_eq_getElem?_getD, -Int.default_eq_zero] at hc; omega
    conv => whnf
    refine ⟨trivial, ?_⟩
    refine LSem.loop (n := 36) mix (α := Nat) (fun i => i ≤ l.length ∧ scan (outAt l v) 0 l.length = scan (outAt l v) i (l.length - i))
      (fun i => [(0, .sl τ 2 l.length (fl eBo l)), (1, .sl τ' 1 v.length (fl eInt v)), (12, .sl τ 2 l.length (fl eBo l)), (13, .int .i64 l.length), (14, .int .i64 i)])
      (fun i => []) (fun i => l.length - i) 0 ?_ ?_ ?_
    · exact ⟨by omega, rfl⟩
    · refine ⟨rfl, rfl, ?_, ?_⟩
      all_goals repeat' (first | exact True.intro | refine leF_cons rfl ?_ ?_ | refine leS_cons rfl ?_ ?_ | (show PLe _ _ _ _; conv => whnf) | (show SLe _ _ _ _; conv => whnf) | (show PLeL _ _ _ _; conv => whnf) | apply And.intro | rfl | exact Nat.le_refl _ | exact fun _ _ => rfl | exact rowEq0 _ _)
    · intro i hx
      obtain ⟨hi, hsc⟩ := hx
      have hj' : ((i : Int)).toNat = i := by omega
      conv => whnf
      refine ⟨trivial, fun hc => ?_, fun hc => ?_⟩
      · replace hc := dec_iff hc
        simp only [if_true] at hc
        have hlt : i < l.length := by omega
        conv => whnf
        refine ⟨rfl, ?_⟩
        conv => whnf
        refine ⟨?_, fun hc1 => ?_, fun hc1 => ?_⟩
        · (try conv => whnf)
          (repeat' (first | exact True.intro | exact fun _ h => h | refine inR64_of ?_ ?_ | apply And.intro | refine maxLen_ge ?_)) <;> (first | omega | (dsimp only; omega) | (dsimp only [List.length_cons, List.length_nil]; omega) | (intro hg; rw [hg]; rfl) | (intro hg hh; rw [hg, hh]; rfl) | (intro hg; simp [-List.getD_eq_getElem?_getD, -Int.default_eq_zero] at hg; first | omega | (refine inR64_of ?_ ?_ <;> omega) | (constructor <;> omega)) | (simp [-List.getD_eq_getElem?_getD, -Int.default_eq_zero]; done))
        · conv => whnf
          refine ⟨?_, [], ?_⟩
          · (try conv => whnf)
            (repeat' (first | exact True.intro | exact fun _ h => h | refine inR64_of ?_ ?_ | apply And.intro | refine maxLen_ge ?_)) <;> (first | omega | (dsimp only; omega) | (dsimp only [List.length_cons, List.length_nil]; omega) | (intro hg; rw [hg]; rfl) | (intro hg hh; rw [hg, hh]; rfl) | (intro hg; simp [-List.getD_eq_getElem?_getD, -Int.default_eq_zero] at hg; first | omega | (refine inR64_of ?_ ?_ <;> omega) | (constructor <;> omega)) | (simp [-List.getD_eq_getElem?_getD, -Int.default_eq_zero]; done))
          conv => whnf
          refine ⟨rfl, ?_, trivial, trivial⟩
          all_goals repeat' (first | exact True.intro | refine leF_cons rfl ?_ ?_ | refine leS_cons rfl ?_ ?_ | (show PLe _ _ _ _; conv => whnf) | (show SLe _ _ _ _; conv => whnf) | (show PLeL _ _ _ _; conv => whnf) | apply And.intro | rfl | exact Nat.le_refl _ | exact fun _ _ => rfl | exact rowEq0 _ _)
          rw [hj'] at hc1
          simp [-List.getD_eq_getElem?_getD, -Int.default_eq_zero] at hc1
          have hw : outAt l v i = 1 := by unfold outAt; rw [if_pos (by omega)]
          unfold withinF
          rw [hsc, scan_hit (by omega) (by rw [hw]; decide), hw]; simp
        · conv => whnf
          refine ⟨?_, i + 1, ⟨?_, ?_⟩, ?_, rfl, rfl, ?_, ?_⟩
          · (try conv => whnf)
            (repeat' (first | exact True.intro | exact fun _ h => h | refine inR64_of ?_ ?_ | apply And.intro | refine maxLen_ge ?_)) <;> (first | omega | (dsimp only; omega) | (dsimp only [List.length_cons, List.length_nil]; omega) | (intro hg; rw [hg]; rfl) | (intro hg hh; rw [hg, hh]; rfl) | (intro hg; simp [-List.getD_eq_getElem?_getD, -Int.default_eq_zero] at hg; first | omega | (refine inR64_of ?_ ?_ <;> omega) | (constructor <;> omega)) | (simp [-List.getD_eq_getElem?_getD, -Int.default_eq_zero]; done))
          · omega
          · rw [hj'] at hc1
            simp [-List.getD_eq_getElem?_getD, -Int.default_eq_zero] at hc1
            rw [hsc, scan_step (by omega) (by unfold outAt; rw [if_neg (by omega)])]
            congr 1
          · omega
          all_goals repeat' (first | exact True.intro | refine leF_cons rfl ?_ ?_ | refine leS_cons rfl ?_ ?_ | (show PLe _ _ _ _; conv => whnf) | (show SLe _ _ _ _; conv => whnf) | (show PLeL _ _ _ _; conv => whnf) | apply And.intro | rfl | exact Nat.le_refl _ | exact fun _ _ => rfl | exact rowEq0 _ _)
      · replace hc := dec_iff hc
        simp only [Bool.false_eq_true, if_false] at hc
        conv => whnf
        refine ⟨?_, [], ?_⟩
        · (try conv => whnf)
          (repeat' (first | exact True.intro | exact fun _ h => h | refine inR64_of ?_ ?_ | apply And.intro | refine maxLen_ge ?_)) <;> (first | omega | (dsimp only; omega) | (dsimp only [List.length_cons, List.length_nil]; omega) | (intro hg; rw [hg]; rfl) | (intro hg hh; rw [hg, hh]; rfl) | (intro hg; simp [-List.getD_eq_getElem?_getD, -Int.default_eq_zero] at hg; first | omega | (refine inR64_of ?_ ?_ <;> omega) | (constructor <;> omega)) | (simp [-List.getD_eq_getElem?_getD, -Int.default_eq_zero]; done))
        conv => whnf
        refine ⟨rfl, ?_, trivial, trivial⟩
        all_goals repeat' (first | exact True.intro | refine leF_cons rfl ?_ ?_ | refine leS_cons rfl ?_ ?_ | (show PLe _ _ _ _; conv => whnf) | (show SLe _ _ _ _; conv => whnf) | (show PLeL _ _ _ _; conv => whnf) | apply And.intro | rfl | exact Nat.le_refl _ | exact fun _ _ => rfl | exact rowEq0 _ _)
        unfold withinF
        rw [hsc, show l.length - i = 0 from by omega, decide_eq_true hlen]; rfl

end Pv
end Go.Proofs.Ytiknpkadlckmjaa
