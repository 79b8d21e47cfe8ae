/- LAW 29, THE WALKS, 11: the reference's At, both Fills. -/
import Derived.Test.YtiknpkadlckmjaaW12
namespace Go.Proofs.Ytiknpkadlckmjaa
namespace Pv
def c20L1 : C := (.seq (.seq (.reg [⟨(some 35), 560, none, .mv (.t 12)⟩,
    ⟨(some 36), 576, none, .mv (.t 3)⟩,
    ⟨(some 37), 592, none, .bi false .leq (.t 35) (.t 36)⟩])
  (.cond (.t 37) .skip (.exit 0)))
  (.seq (.block 1 (.reg [⟨(some 40), 640, none, .mv (.t 11)⟩,
    ⟨(some 41), 656, none, .mv (.t 0)⟩,
    ⟨(some 42), 672, none, .ld 4 true (.t 5)⟩,
    ⟨(some 43), 688, none, .mv (.t 12)⟩,
    ⟨(some 44), 704, none, .call (.c (.fn (.func 31) [] [])) [(.t 41), (.t 42), (.t 43)]⟩,
    ⟨(some 45), 720, none, .bs 44 2 [(.t 44)]⟩,
    ⟨(some 46), 736, none, .app 44 2 16 (.t 40) (.t 45)⟩,
    ⟨(some 11), 176, none, .mv (.t 46)⟩]))
  (.reg [⟨(some 38), 608, none, .mv (.t 12)⟩,
    ⟨(some 39), 624, none, .bi false .add (.t 38) (.c (.int .i64 1))⟩,
    ⟨(some 12), 192, none, .mv (.t 39)⟩])))
def c20 : C := (.seq (.reg [⟨(some 5), 80, none, .bx 4 (.t 1)⟩,
    ⟨(some 8), 128, none, .mv (.c (.nil 2))⟩,
    ⟨(some 9), 144, none, .mv (.c (.int .i64 0))⟩])
  (.seq (.seq (.reg [⟨(some 13), 208, none, .mv (.t 0)⟩,
    ⟨(some 14), 224, none, .ld 4 true (.t 5)⟩,
    ⟨(some 15), 240, none, .call (.c (.fn (.func 13) [] [])) [(.t 13), (.t 14)]⟩,
    ⟨(some 10), 160, none, .mv (.t 15)⟩])
  (.seq (.reg [⟨(some 16), 256, none, .mv (.t 10)⟩,
    ⟨(some 17), 272, none, .bi false .neq (.t 16) (.c (.int .i64 0))⟩])
  (.cond (.t 17) (.seq (.reg [⟨(some 18), 288, none, .mv (.t 10)⟩,
    ⟨(some 8), 128, none, .mv (.c (.nil 2))⟩,
    ⟨(some 9), 144, none, .mv (.t 18)⟩])
  .ret) .skip)))
  (.seq (.seq (.reg [⟨(some 19), 304, none, .mv (.t 2)⟩,
    ⟨(some 20), 320, none, .bi false .lss (.t 19) (.c (.int .i64 0))⟩,
    ⟨(some 21), 336, none, .mv (.t 20)⟩,
    ⟨(some 22), 352, (some (21, false)), .mv (.t 3)⟩,
    ⟨(some 23), 368, (some (21, false)), .mv (.t 2)⟩,
    ⟨(some 24), 384, (some (21, false)), .bi false .lss (.t 22) (.t 23)⟩,
    ⟨(some 25), 400, none, .pick (.t 21) (.c (.bool true)) (.t 24)⟩,
    ⟨(some 26), 416, none, .mv (.t 25)⟩,
    ⟨(some 27), 432, (some (26, false)), .mv (.t 3)⟩,
    ⟨(some 28), 448, (some (26, false)), .bi false .gtr (.t 27) (.c (.int .i64 16777216))⟩,
    ⟨(some 29), 464, none, .pick (.t 26) (.c (.bool true)) (.t 28)⟩])
  (.cond (.t 29) (.seq (.reg [⟨(some 8), 128, none, .mv (.c (.nil 2))⟩,
    ⟨(some 9), 144, none, .mv (.c (.int .i64 6))⟩])
  .ret) .skip))
  (.seq (.seq (.reg [⟨(some 30), 480, none, .mv (.t 3)⟩,
    ⟨(some 31), 496, none, .mv (.t 2)⟩,
    ⟨(some 32), 512, none, .bi false .sub (.t 30) (.t 31)⟩,
    ⟨(some 33), 528, none, .bi false .geq (.t 32) (.c (.int .i64 400))⟩])
  (.cond (.t 33) (.seq (.reg [⟨(some 8), 128, none, .mv (.c (.nil 2))⟩,
    ⟨(some 9), 144, none, .mv (.c (.int .i64 10))⟩])
  .ret) .skip))
  (.seq (.reg [⟨(some 11), 176, none, .mv (.c (.nil 2))⟩])
  (.seq (.seq (.reg [⟨(some 34), 544, none, .mv (.t 2)⟩,
    ⟨(some 12), 192, none, .mv (.t 34)⟩])
  (.block 0 (.loop c20L1)))
  (.seq (.reg [⟨(some 47), 752, none, .mv (.t 11)⟩,
    ⟨(some 8), 128, none, .mv (.t 47)⟩,
    ⟨(some 9), 144, none, .mv (.c (.int .i64 0))⟩])
  .ret)))))))
def c21L1 : C := (.seq (.seq (.reg [⟨(some 35), 560, none, .mv (.t 12)⟩,
    ⟨(some 36), 576, none, .mv (.t 3)⟩,
    ⟨(some 37), 592, none, .bi false .leq (.t 35) (.t 36)⟩])
  (.cond (.t 37) .skip (.exit 0)))
  (.seq (.block 1 (.reg [⟨(some 40), 640, none, .mv (.t 11)⟩,
    ⟨(some 41), 656, none, .mv (.t 0)⟩,
    ⟨(some 42), 672, none, .ld 4 true (.t 5)⟩,
    ⟨(some 43), 688, none, .mv (.t 12)⟩,
    ⟨(some 44), 704, none, .call (.c (.fn (.func 33) [] [])) [(.t 41), (.t 42), (.t 43)]⟩,
    ⟨(some 45), 720, none, .bs 44 2 [(.t 44)]⟩,
    ⟨(some 46), 736, none, .app 44 2 16 (.t 40) (.t 45)⟩,
    ⟨(some 11), 176, none, .mv (.t 46)⟩]))
  (.reg [⟨(some 38), 608, none, .mv (.t 12)⟩,
    ⟨(some 39), 624, none, .bi false .add (.t 38) (.c (.int .i64 1))⟩,
    ⟨(some 12), 192, none, .mv (.t 39)⟩])))
def c21 : C := (.seq (.reg [⟨(some 5), 80, none, .bx 4 (.t 1)⟩,
    ⟨(some 8), 128, none, .mv (.c (.nil 2))⟩,
    ⟨(some 9), 144, none, .mv (.c (.int .i64 0))⟩])
  (.seq (.seq (.reg [⟨(some 13), 208, none, .mv (.t 0)⟩,
    ⟨(some 14), 224, none, .ld 4 true (.t 5)⟩,
    ⟨(some 15), 240, none, .call (.c (.fn (.func 16) [] [])) [(.t 13), (.t 14)]⟩,
    ⟨(some 10), 160, none, .mv (.t 15)⟩])
  (.seq (.reg [⟨(some 16), 256, none, .mv (.t 10)⟩,
    ⟨(some 17), 272, none, .bi false .neq (.t 16) (.c (.int .i64 0))⟩])
  (.cond (.t 17) (.seq (.reg [⟨(some 18), 288, none, .mv (.t 10)⟩,
    ⟨(some 8), 128, none, .mv (.c (.nil 2))⟩,
    ⟨(some 9), 144, none, .mv (.t 18)⟩])
  .ret) .skip)))
  (.seq (.seq (.reg [⟨(some 19), 304, none, .mv (.t 2)⟩,
    ⟨(some 20), 320, none, .bi false .lss (.t 19) (.c (.int .i64 0))⟩,
    ⟨(some 21), 336, none, .mv (.t 20)⟩,
    ⟨(some 22), 352, (some (21, false)), .mv (.t 3)⟩,
    ⟨(some 23), 368, (some (21, false)), .mv (.t 2)⟩,
    ⟨(some 24), 384, (some (21, false)), .bi false .lss (.t 22) (.t 23)⟩,
    ⟨(some 25), 400, none, .pick (.t 21) (.c (.bool true)) (.t 24)⟩,
    ⟨(some 26), 416, none, .mv (.t 25)⟩,
    ⟨(some 27), 432, (some (26, false)), .mv (.t 3)⟩,
    ⟨(some 28), 448, (some (26, false)), .bi false .gtr (.t 27) (.c (.int .i64 16777216))⟩,
    ⟨(some 29), 464, none, .pick (.t 26) (.c (.bool true)) (.t 28)⟩])
  (.cond (.t 29) (.seq (.reg [⟨(some 8), 128, none, .mv (.c (.nil 2))⟩,
    ⟨(some 9), 144, none, .mv (.c (.int .i64 6))⟩])
  .ret) .skip))
  (.seq (.seq (.reg [⟨(some 30), 480, none, .mv (.t 3)⟩,
    ⟨(some 31), 496, none, .mv (.t 2)⟩,
    ⟨(some 32), 512, none, .bi false .sub (.t 30) (.t 31)⟩,
    ⟨(some 33), 528, none, .bi false .geq (.t 32) (.c (.int .i64 400))⟩])
  (.cond (.t 33) (.seq (.reg [⟨(some 8), 128, none, .mv (.c (.nil 2))⟩,
    ⟨(some 9), 144, none, .mv (.c (.int .i64 10))⟩])
  .ret) .skip))
  (.seq (.reg [⟨(some 11), 176, none, .mv (.c (.nil 2))⟩])
  (.seq (.seq (.reg [⟨(some 34), 544, none, .mv (.t 2)⟩,
    ⟨(some 12), 192, none, .mv (.t 34)⟩])
  (.block 0 (.loop c21L1)))
  (.seq (.reg [⟨(some 47), 752, none, .mv (.t 11)⟩,
    ⟨(some 8), 128, none, .mv (.t 47)⟩,
    ⟨(some 9), 144, none, .mv (.c (.int .i64 0))⟩])
  .ret)))))))
theorem fits19 : fits Try.prog false Try.f19 3 24 [(6, some (2, true)), (7, none)] = some c19.er := by kernel_rfl
theorem fits20 : fits Try.prog false Try.f20 4 48 [(8, none), (9, none)] = some c20.er := by kernel_rfl
theorem fits21 : fits Try.prog false Try.f21 4 48 [(8, none), (9, none)] = some c21.er := by kernel_rfl

theorem call19 (τ : Nat) (l : List Me) (c : Ck) (time : Int) : PureCall Try.prog 19 [.sl τ 3 l.length (fl eMe l), .agg (eCk c), .int .i64 time] [] ⟨pvAt (atF l c time), [], []⟩ := by
  refine pure_call mix Try.func19 fits19 rfl ?_
  conv => whnf
  refine ⟨_, fun _ => call16 (lendT τ) l c, ?_⟩
  conv => whnf
  refine ⟨by simp, fun hc => ?_, fun hc => ?_⟩
  · simp [-List.getD_eq_getElem?_getD, -Int.default_eq_zero] at hc
    rw [show atF l c time = (⟨0, 0⟩, checkF l c) from if_pos hc]
    conv => whnf
    refine ⟨?_, [], ?_⟩
    · (try conv => whnf)
      (repeat' (first | exact True.intro | exact fun _ h => h | refine inR64_of ?_ ?_ | apply And.intro | refine maxLen_ge ?_)) <;> (first | omega | (dsimp only; omega) | (dsimp only [List.length_cons, List.length_nil]; omega) | (intro hg; rw [hg]; rfl) | (intro hg hh; rw [hg, hh]; rfl) | (intro hg; simp [-List.getD_eq_getElem?_getD, -Int.default_eq_zero] at hg; first | omega | (refine inR64_of ?_ ?_ <;> omega) | (constructor <;> omega)) | (simp [-List.getD_eq_getElem?_getD, -Int.default_eq_zero]; done))
    conv => whnf
    refine ⟨rfl, ?_, trivial, trivial⟩
    all_goals repeat' (first | exact True.intro | refine leF_cons rfl ?_ ?_ | refine leS_cons rfl ?_ ?_ | (show PLe _ _ _ _; conv => whnf) | (show SLe _ _ _ _; conv => whnf) | (show PLeL _ _ _ _; conv => whnf) | apply And.intro | rfl | exact Nat.le_refl _ | exact fun _ _ => rfl | exact rowEq0 _ _)
  · have h0 : checkF l c = 0 := by simpa using hc
    obtain ⟨g1, g2, g3⟩ := check_zero h0
    conv => whnf
    refine ⟨_, fun _ => call32 time 16777216, ?_⟩
    conv => whnf
    refine ⟨?_, fun hc1 => ?_, fun hc1 => ?_⟩
    · (try conv => whnf)
      (repeat' (first | exact True.intro | exact fun _ h => h | refine inR64_of ?_ ?_ | apply And.intro | refine maxLen_ge ?_)) <;> (first | omega | (dsimp only; omega) | (dsimp only [List.length_cons, List.length_nil]; omega) | (intro hg; rw [hg]; rfl) | (intro hg hh; rw [hg, hh]; rfl) | (intro hg; simp [-List.getD_eq_getElem?_getD, -Int.default_eq_zero] at hg; first | omega | (refine inR64_of ?_ ?_ <;> omega) | (constructor <;> omega)) | (simp [-List.getD_eq_getElem?_getD, -Int.default_eq_zero]; done))
    · simp [-List.getD_eq_getElem?_getD, -Int.default_eq_zero] at hc1
      rw [inF_false] at hc1
      rw [show atF l c time = (⟨0, 0⟩, 6) by unfold atF; rw [if_neg (by simp [h0]), if_pos (by omega)]]
      conv => whnf
      refine ⟨?_, [], ?_⟩
      · (try conv => whnf)
        (repeat' (first | exact True.intro | exact fun _ h => h | refine inR64_of ?_ ?_ | apply And.intro | refine maxLen_ge ?_)) <;> (first | omega | (dsimp only; omega) | (dsimp only [List.length_cons, List.length_nil]; omega) | (intro hg; rw [hg]; rfl) | (intro hg hh; rw [hg, hh]; rfl) | (intro hg; simp [-List.getD_eq_getElem?_getD, -Int.default_eq_zero] at hg; first | omega | (refine inR64_of ?_ ?_ <;> omega) | (constructor <;> omega)) | (simp [-List.getD_eq_getElem?_getD, -Int.default_eq_zero]; done))
      conv => whnf
      refine ⟨rfl, ?_, trivial, trivial⟩
      all_goals repeat' (first | exact True.intro | refine leF_cons rfl ?_ ?_ | refine leS_cons rfl ?_ ?_ | (show PLe _ _ _ _; conv => whnf) | (show SLe _ _ _ _; conv => whnf) | (show PLeL _ _ _ _; conv => whnf) | apply And.intro | rfl | exact Nat.le_refl _ | exact fun _ _ => rfl | exact rowEq0 _ _)
    · simp [-List.getD_eq_getElem?_getD, -Int.default_eq_zero] at hc1
      rw [inF_true] at hc1
      rw [show atF l c time = (boundsF l c time, 0) by unfold atF; rw [if_neg (by simp [h0]), if_neg (by omega)]]
      conv => whnf
      refine ⟨_, fun _ => call33 (lendT τ) l c time (by omega) (near_of g1 g3 (by omega)), ?_⟩
      conv => whnf
      refine ⟨?_, [], ?_⟩
      · (try conv => whnf)
        (repeat' (first | exact True.intro | exact fun _ h => h | refine inR64_of ?_ ?_ | apply And.intro | refine maxLen_ge ?_)) <;> (first | omega | (dsimp only; omega) | (dsimp only [List.length_cons, List.length_nil]; omega) | (intro hg; rw [hg]; rfl) | (intro hg hh; rw [hg, hh]; rfl) | (intro hg; simp [-List.getD_eq_getElem?_getD, -Int.default_eq_zero] at hg; first | omega | (refine inR64_of ?_ ?_ <;> omega) | (constructor <;> omega)) | (simp [-List.getD_eq_getElem?_getD, -Int.default_eq_zero]; done))
      conv => whnf
      refine ⟨rfl, ?_, trivial, trivial⟩
      all_goals repeat' (first | exact True.intro | refine leF_cons rfl ?_ ?_ | refine leS_cons rfl ?_ ?_ | (show PLe _ _ _ _; conv => whnf) | (show SLe _ _ _ _; conv => whnf) | (show PLeL _ _ _ _; conv => whnf) | apply And.intro | rfl | exact Nat.le_refl _ | exact fun _ _ => rfl | exact rowEq0 _ _)

def fillF (l : List Me) (c : Ck) (a b : Int) : List Bo × Int :=
  if checkF l c ≠ 0 then ([], checkF l c) else if a < 0 ∨ b < a ∨ b > 16777216 then ([], 6) else if b - a ≥ 400 then ([], 10)
  else ((List.range (b - a + 1).toNat).map fun (i : Nat) => boundsF l c (a + (i : Int)), 0)

theorem call20 (τ : Nat) (l : List Me) (c : Ck) (a b : Int) (ha : inR .i64 a) (hb : inR .i64 b) : PureCall Try.prog 20 [.sl τ 3 l.length (fl eMe l), .agg (eCk c), .int .i64 a, .int .i64 b] [] ⟨pvNar (fillF l c a b), [], []⟩ := by
  rw [inR64] at ha hb
  refine pure_call mix Try.func20 fits20 rfl ?_
  conv => whnf
  refine ⟨_, fun _ => call13 (lendT τ) l c, ?_⟩
  conv => whnf
  refine ⟨by simp, fun hc => ?_, fun hc => ?_⟩
  · simp [-List.getD_eq_getElem?_getD, -Int.default_eq_zero] at hc
    rw [show fillF l c a b = ([], checkF l c) from if_pos hc]
    conv => whnf
    refine ⟨?_, [], ?_⟩
    · (try conv => whnf)
      (repeat' (first | exact True.intro | exact fun _ h => h | refine inR64_of ?_ ?_ | apply And.intro | refine maxLen_ge ?_)) <;> (first | omega | (dsimp only; omega) | (dsimp only [List.length_cons, List.length_nil]; omega) | (intro hg; rw [hg]; rfl) | (intro hg hh; rw [hg, hh]; rfl) | (intro hg; simp [-List.getD_eq_getElem?_getD, -Int.default_eq_zero] at hg; first | omega | (refine inR64_of ?_ ?_ <;> omega) | (constructor <;> omega)) | (simp [-List.getD_eq_getElem?_getD, -Int.default_eq_zero]; done))
    conv => whnf
    refine ⟨rfl, ?_, trivial, trivial⟩
    all_goals repeat' (first | exact True.intro | refine leF_cons rfl ?_ ?_ | refine leS_cons rfl ?_ ?_ | (show PLe _ _ _ _; conv => whnf) | (show SLe _ _ _ _; conv => whnf) | (show PLeL _ _ _ _; conv => whnf) | apply And.intro | rfl | exact Nat.le_refl _ | exact fun _ _ => rfl | exact rowEq0 _ _)
  · have h0 : checkF l c = 0 := by simpa using hc
    obtain ⟨g1, g2, g3⟩ := check_zero h0
    conv => whnf
    refine ⟨?_, fun hc1 => ?_, fun hc1 => ?_⟩
    · (try conv => whnf)
      (repeat' (first | exact True.intro | exact fun _ h => h | refine inR64_of ?_ ?_ | apply And.intro | refine maxLen_ge ?_)) <;> (first | omega | (dsimp only; omega) | (dsimp only [List.length_cons, List.length_nil]; omega) | (intro hg; rw [hg]; rfl) | (intro hg hh; rw [hg, hh]; rfl) | (intro hg; simp [-List.getD_eq_getElem?_getD, -Int.default_eq_zero] at hg; first | omega | (refine inR64_of ?_ ?_ <;> omega) | (constructor <;> omega)) | (simp [-List.getD_eq_getElem?_getD, -Int.default_eq_zero]; done))
    · simp [-List.getD_eq_getElem?_getD, -Int.default_eq_zero] at hc1
      rw [show fillF l c a b = ([], 6) by unfold fillF; rw [if_neg (by simp [h0]), if_pos (by omega)]]
      conv => whnf
      refine ⟨?_, [], ?_⟩
      · (try conv => whnf)
        (repeat' (first | exact True.intro | exact fun _ h => h | refine inR64_of ?_ ?_ | apply And.intro | refine maxLen_ge ?_)) <;> (first | omega | (dsimp only; omega) | (dsimp only [List.length_cons, List.length_nil]; omega) | (intro hg; rw [hg]; rfl) | (intro hg hh; rw [hg, hh]; rfl) | (intro hg; simp [-List.getD_eq_getElem?_getD, -Int.default_eq_zero] at hg; first | omega | (refine inR64_of ?_ ?_ <;> omega) | (constructor <;> omega)) | (simp [-List.getD_eq_getElem?_getD, -Int.default_eq_zero]; done))
      conv => whnf
      refine ⟨rfl, ?_, trivial, trivial⟩
      all_goals repeat' (first | exact True.intro | refine leF_cons rfl ?_ ?_ | refine leS_cons rfl ?_ ?_ | (show PLe _ _ _ _; conv => whnf) | (show SLe _ _ _ _; conv => whnf) | (show PLeL _ _ _ _; conv => whnf) | apply And.intro | rfl | exact Nat.le_refl _ | exact fun _ _ => rfl | exact rowEq0 _ _)
    · simp [-List.getD_eq_getElem?_getD, -Int.default_eq_zero] at hc1
      conv => whnf
      refine ⟨?_, fun hc2 => ?_, fun hc2 => ?_⟩
      · (try conv => whnf)
        (repeat' (first | exact True.intro | exact fun _ h => h | refine inR64_of ?_ ?_ | apply And.intro | refine maxLen_ge ?_)) <;> (first | omega | (dsimp only; omega) | (dsimp only [List.length_cons, List.length_nil]; omega) | (intro hg; rw [hg]; rfl) | (intro hg hh; rw [hg, hh]; rfl) | (intro hg; simp [-List.getD_eq_getElem?_getD, -Int.default_eq_zero] at hg; first | omega | (refine inR64_of ?_ ?_ <;> omega) | (constructor <;> omega)) | (simp [-List.getD_eq_getElem?_getD, -Int.default_eq_zero]; done))
      · simp [-List.getD_eq_getElem?_getD, -Int.default_eq_zero] at hc2
        rw [show fillF l c a b = ([], 10) by unfold fillF; rw [if_neg (by simp [h0]), if_neg (by omega), if_pos (by omega)]]
        conv => whnf
        refine ⟨?_, [], ?_⟩
        · (try conv => whnf)
          (repeat' (first | exact True.intro | exact fun _ h => h | refine inR64_of ?_ ?_ | apply And.intro | refine maxLen_ge ?_)) <;> (first | omega | (dsimp only; omega) | (dsimp only [List.length_cons, List.length_nil]; omega) | (intro hg; rw [hg]; rfl) | (intro hg hh; rw [hg, hh]; rfl) | (intro hg; simp [-List.getD_eq_getElem?_getD, -Int.default_eq_zero] at hg; first | omega | (refine inR64_of ?_ ?_ <;> omega) | (constructor <;> omega)) | (simp [-List.getD_eq_getElem?_getD, -Int.default_eq_zero]; done))
        conv => whnf
        refine ⟨rfl, ?_, trivial, trivial⟩
        all_goals repeat' (first | exact True.intro | refine leF_cons rfl ?_ ?_ | refine leS_cons rfl ?_ ?_ | (show PLe _ _ _ _; conv => whnf) | (show SLe _ _ _ _; conv => whnf) | (show PLeL _ _ _ _; conv => whnf) | apply And.intro | rfl | exact Nat.le_refl _ | exact fun _ _ => rfl | exact rowEq0 _ _)
      · simp [-List.getD_eq_getElem?_getD, -Int.default_eq_zero] at hc2
        conv => whnf
        refine ⟨trivial, ?_⟩
        refine LSem.adopt 11 1000000 44 2 2 rfl rfl ?_
        refine LSem.loop (n := 48) mix (α := Nat × List Bo) (fun x => x.1 ≤ (b - a + 1).toNat ∧ x.2 = (List.range x.1).map fun (i : Nat) => boundsF l c (a + (i : Int)))
          (fun x => [(0, .sl τ 3 l.length (fl eMe l)), (3, .int .i64 b), (5, .pt 80 0 0), (11, .os 1000000), (12, .int .i64 (a + x.1))])
          (fun x => [(80, .box (eCk c)), (1000000, .row 0 44 2 x.2.length (fl eBo x.2))]) (fun x => (b - a + 1).toNat - x.1) (0, []) ?_ ?_ ?_
        · exact ⟨Nat.zero_le _, rfl⟩
        · refine ⟨rfl, rfl, ?_, ?_⟩
          all_goals repeat' (first | exact True.intro | refine leF_cons rfl ?_ ?_ | refine leS_cons rfl ?_ ?_ | (show PLe _ _ _ _; conv => whnf) | (show SLe _ _ _ _; conv => whnf) | (show PLeL _ _ _ _; conv => whnf) | apply And.intro | rfl | exact Nat.le_refl _ | exact fun _ _ => rfl | exact rowEq0 _ _)
          all_goals (dsimp only; omega)
        · intro x hx
          obtain ⟨hi, hout⟩ := hx
          have hol : x.2.length = x.1 := by rw [hout]; simp
          conv => whnf
          refine ⟨trivial, fun hc3 => ?_, fun hc3 => ?_⟩
          · replace hc3 := dec_iff hc3
            simp only [if_true] at hc3
            conv => whnf
            refine ⟨_, fun _ => call31 (lendT τ) l c (a + x.1) (by omega) (near_of g1 g3 (by omega)), ?_⟩
            conv => whnf
            refine ⟨?_, (x.1 + 1, x.2 ++ [boundsF l c (a + x.1)]), ⟨?_, ?_⟩, ?_, rfl, rfl, ?_, ?_⟩
            · (try conv => whnf)
              (repeat' (first | exact True.intro | exact fun _ h => h | refine inR64_of ?_ ?_ | apply And.intro | refine maxLen_ge ?_)) <;> (first | omega | (dsimp only; omega) | (dsimp only [List.length_cons, List.length_nil]; omega) | (intro hg; rw [hg]; rfl) | (intro hg hh; rw [hg, hh]; rfl) | (intro hg; simp [-List.getD_eq_getElem?_getD, -Int.default_eq_zero] at hg; first | omega | (refine inR64_of ?_ ?_ <;> omega) | (constructor <;> omega)) | (simp [-List.getD_eq_getElem?_getD, -Int.default_eq_zero]; done))
            · dsimp only; omega
            · dsimp only; rw [List.range_succ, List.map_append, ← hout]; rfl
            · dsimp only; omega
            all_goals repeat' (first | exact True.intro | refine leF_cons rfl ?_ ?_ | refine leS_cons rfl ?_ ?_ | (show PLe _ _ _ _; conv => whnf) | (show SLe _ _ _ _; conv => whnf) | (show PLeL _ _ _ _; conv => whnf) | apply And.intro | rfl | exact Nat.le_refl _ | exact fun _ _ => rfl | exact rowEq0 _ _)
            · dsimp only; omega
            · simp
            · exact fl_push eBo x.2 (boundsF l c (a + x.1))
          · replace hc3 := dec_iff hc3
            simp only [Bool.false_eq_true, if_false] at hc3
            rw [show fillF l c a b = (x.2, 0) by unfold fillF; rw [if_neg (by simp [h0]), if_neg (by omega), if_neg (by omega), hout, show x.1 = (b - a + 1).toNat from by omega]]
            conv => whnf
            refine ⟨?_, [], ?_⟩
            · (try conv => whnf)
              (repeat' (first | exact True.intro | exact fun _ h => h | refine inR64_of ?_ ?_ | apply And.intro | refine maxLen_ge ?_)) <;> (first | omega | (dsimp only; omega) | (dsimp only [List.length_cons, List.length_nil]; omega) | (intro hg; rw [hg]; rfl) | (intro hg hh; rw [hg, hh]; rfl) | (intro hg; simp [-List.getD_eq_getElem?_getD, -Int.default_eq_zero] at hg; first | omega | (refine inR64_of ?_ ?_ <;> omega) | (constructor <;> omega)) | (simp [-List.getD_eq_getElem?_getD, -Int.default_eq_zero]; done))
            conv => whnf
            refine ⟨rfl, ?_, trivial, trivial⟩
            all_goals repeat' (first | exact True.intro | refine leF_cons rfl ?_ ?_ | refine leS_cons rfl ?_ ?_ | (show PLe _ _ _ _; conv => whnf) | (show SLe _ _ _ _; conv => whnf) | (show PLeL _ _ _ _; conv => whnf) | apply And.intro | rfl | exact Nat.le_refl _ | exact fun _ _ => rfl | exact rowEq0 _ _)

theorem call21 (τ : Nat) (l : List Me) (c : Ck) (a b : Int) (ha : inR .i64 a) (hb : inR .i64 b) : PureCall Try.prog 21 [.sl τ 3 l.length (fl eMe l), .agg (eCk c), .int .i64 a, .int .i64 b] [] ⟨pvNar (fillF l c a b), [], []⟩ := by
  rw [inR64] at ha hb
  refine pure_call mix Try.func21 fits21 rfl ?_
  conv => whnf
  refine ⟨_, fun _ => call16 (lendT τ) l c, ?_⟩
  conv => whnf
  refine ⟨by simp, fun hc => ?_, fun hc => ?_⟩
  · simp [-List.getD_eq_getElem?_getD, -Int.default_eq_zero] at hc
    rw [show fillF l c a b = ([], checkF l c) from if_pos hc]
    conv => whnf
    refine ⟨?_, [], ?_⟩
    · (try conv => whnf)
      (repeat' (first | exact True.intro | exact fun _ h => h | refine inR64_of ?_ ?_ | apply And.intro | refine maxLen_ge ?_)) <;> (first | omega | (dsimp only; omega) | (dsimp only [List.length_cons, List.length_nil]; omega) | (intro hg; rw [hg]; rfl) | (intro hg hh; rw [hg, hh]; rfl) | (intro hg; simp [-List.getD_eq_getElem?_getD, -Int.default_eq_zero] at hg; first | omega | (refine inR64_of ?_ ?_ <;> omega) | (constructor <;> omega)) | (simp [-List.getD_eq_getElem?_getD, -Int.default_eq_zero]; done))
    conv => whnf
    refine ⟨rfl, ?_, trivial, trivial⟩
    all_goals repeat' (first | exact True.intro | refine leF_cons rfl ?_ ?_ | refine leS_cons rfl ?_ ?_ | (show PLe _ _ _ _; conv => whnf) | (show SLe _ _ _ _; conv => whnf) | (show PLeL _ _ _ _; conv => whnf) | apply And.intro | rfl | exact Nat.le_refl _ | exact fun _ _ => rfl | exact rowEq0 _ _)
  · have h0 : checkF l c = 0 := by simpa using hc
    obtain ⟨g1, g2, g3⟩ := check_zero h0
    conv => whnf
    refine ⟨?_, fun hc1 => ?_, fun hc1 => ?_⟩
    · (try conv => whnf)
      (repeat' (first | exact True.intro | exact fun _ h => h | refine inR64_of ?_ ?_ | apply And.intro | refine maxLen_ge ?_)) <;> (first | omega | (dsimp only; omega) | (dsimp only [List.length_cons, List.length_nil]; omega) | (intro hg; rw [hg]; rfl) | (intro hg hh; rw [hg, hh]; rfl) | (intro hg; simp [-List.getD_eq_getElem?_getD, -Int.default_eq_zero] at hg; first | omega | (refine inR64_of ?_ ?_ <;> omega) | (constructor <;> omega)) | (simp [-List.getD_eq_getElem?_getD, -Int.default_eq_zero]; done))
    · simp [-List.getD_eq_getElem?_getD, -Int.default_eq_zero] at hc1
      rw [show fillF l c a b = ([], 6) by unfold fillF; rw [if_neg (by simp [h0]), if_pos (by omega)]]
      conv => whnf
      refine ⟨?_, [], ?_⟩
      · (try conv => whnf)
        (repeat' (first | exact True.intro | exact fun _ h => h | refine inR64_of ?_ ?_ | apply And.intro | refine maxLen_ge ?_)) <;> (first | omega | (dsimp only; omega) | (dsimp only [List.length_cons, List.length_nil]; omega) | (intro hg; rw [hg]; rfl) | (intro hg hh; rw [hg, hh]; rfl) | (intro hg; simp [-List.getD_eq_getElem?_getD, -Int.default_eq_zero] at hg; first | omega | (refine inR64_of ?_ ?_ <;> omega) | (constructor <;> omega)) | (simp [-List.getD_eq_getElem?_getD, -Int.default_eq_zero]; done))
      conv => whnf
      refine ⟨rfl, ?_, trivial, trivial⟩
      all_goals repeat' (first | exact True.intro | refine leF_cons rfl ?_ ?_ | refine leS_cons rfl ?_ ?_ | (show PLe _ _ _ _; conv => whnf) | (show SLe _ _ _ _; conv => whnf) | (show PLeL _ _ _ _; conv => whnf) | apply And.intro | rfl | exact Nat.le_refl _ | exact fun _ _ => rfl | exact rowEq0 _ _)
    · simp [-List.getD_eq_getElem?_getD, -Int.default_eq_zero] at hc1
      conv => whnf
      refine ⟨?_, fun hc2 => ?_, fun hc2 => ?_⟩
      · (try conv => whnf)
        (repeat' (first | exact True.intro | exact fun _ h => h | refine inR64_of ?_ ?_ | apply And.intro | refine maxLen_ge ?_)) <;> (first | omega | (dsimp only; omega) | (dsimp only [List.length_cons, List.length_nil]; omega) | (intro hg; rw [hg]; rfl) | (intro hg hh; rw [hg, hh]; rfl) | (intro hg; simp [-List.getD_eq_getElem?_getD, -Int.default_eq_zero] at hg; first | omega | (refine inR64_of ?_ ?_ <;> omega) | (constructor <;> omega)) | (simp [-List.getD_eq_getElem?_getD, -Int.default_eq_zero]; done))
      · simp [-List.getD_eq_getElem?_getD, -Int.default_eq_zero] at hc2
        rw [show fillF l c a b = ([], 10) by unfold fillF; rw [if_neg (by simp [h0]), if_neg (by omega), if_pos (by omega)]]
        conv => whnf
        refine ⟨?_, [], ?_⟩
        · (try conv => whnf)
          (repeat' (first | exact True.intro | exact fun _ h => h | refine inR64_of ?_ ?_ | apply And.intro | refine maxLen_ge ?_)) <;> (first | omega | (dsimp only; omega) | (dsimp only [List.length_cons, List.length_nil]; omega) | (intro hg; rw [hg]; rfl) | (intro hg hh; rw [hg, hh]; rfl) | (intro hg; simp [-List.getD_eq_getElem?_getD, -Int.default_eq_zero] at hg; first | omega | (refine inR64_of ?_ ?_ <;> omega) | (constructor <;> omega)) | (simp [-List.getD_eq_getElem?_getD, -Int.default_eq_zero]; done))
        conv => whnf
        refine ⟨rfl, ?_, trivial, trivial⟩
        all_goals repeat' (first | exact True.intro | refine leF_cons rfl ?_ ?_ | refine leS_cons rfl ?_ ?_ | (show PLe _ _ _ _; conv => whnf) | (show SLe _ _ _ _; conv => whnf) | (show PLeL _ _ _ _; conv => whnf) | apply And.intro | rfl | exact Nat.le_refl _ | exact fun _ _ => rfl | exact rowEq0 _ _)
      · simp [-List.getD_eq_getElem?_getD, -Int.default_eq_zero] at hc2
        conv => whnf
        refine ⟨trivial, ?_⟩
        refine LSem.adopt 11 1000000 44 2 2 rfl rfl ?_
        refine LSem.loop (n := 48) mix (α := Nat × List Bo) (fun x => x.1 ≤ (b - a + 1).toNat ∧ x.2 = (List.range x.1).map fun (i : Nat) => boundsF l c (a + (i : Int)))
          (fun x => [(0, .sl τ 3 l.length (fl eMe l)), (3, .int .i64 b), (5, .pt 80 0 0), (11, .os 1000000), (12, .int .i64 (a + x.1))])
          (fun x => [(80, .box (eCk c)), (1000000, .row 0 44 2 x.2.length (fl eBo x.2))]) (fun x => (b - a + 1).toNat - x.1) (0, []) ?_ ?_ ?_
        · exact ⟨Nat.zero_le _, rfl⟩
        · refine ⟨rfl, rfl, ?_, ?_⟩
          all_goals repeat' (first | exact True.intro | refine leF_cons rfl ?_ ?_ | refine leS_cons rfl ?_ ?_ | (show PLe _ _ _ _; conv => whnf) | (show SLe _ _ _ _; conv => whnf) | (show PLeL _ _ _ _; conv => whnf) | apply And.intro | rfl | exact Nat.le_refl _ | exact fun _ _ => rfl | exact rowEq0 _ _)
          all_goals (dsimp only; omega)
        · intro x hx
          obtain ⟨hi, hout⟩ := hx
          have hol : x.2.length = x.1 := by rw [hout]; simp
          conv => whnf
          refine ⟨trivial, fun hc3 => ?_, fun hc3 => ?_⟩
          · replace hc3 := dec_iff hc3
            simp only [if_true] at hc3
            conv => whnf
            refine ⟨_, fun _ => call33 (lendT τ) l c (a + x.1) (by omega) (near_of g1 g3 (by omega)), ?_⟩
            conv => whnf
            refine ⟨?_, (x.1 + 1, x.2 ++ [boundsF l c (a + x.1)]), ⟨?_, ?_⟩, ?_, rfl, rfl, ?_, ?_⟩
            · (try conv => whnf)
              (repeat' (first | exact True.intro | exact fun _ h => h | refine inR64_of ?_ ?_ | apply And.intro | refine maxLen_ge ?_)) <;> (first | omega | (dsimp only; omega) | (dsimp only [List.length_cons, List.length_nil]; omega) | (intro hg; rw [hg]; rfl) | (intro hg hh; rw [hg, hh]; rfl) | (intro hg; simp [-List.getD_eq_getElem?_getD, -Int.default_eq_zero] at hg; first | omega | (refine inR64_of ?_ ?_ <;> omega) | (constructor <;> omega)) | (simp [-List.getD_eq_getElem?_getD, -Int.default_eq_zero]; done))
            · dsimp only; omega
            · dsimp only; rw [List.range_succ, List.map_append, ← hout]; rfl
            · dsimp only; omega
            all_goals repeat' (first | exact True.intro | refine leF_cons rfl ?_ ?_ | refine leS_cons rfl ?_ ?_ | (show PLe _ _ _ _; conv => whnf) | (show SLe _ _ _ _; conv => whnf) | (show PLeL _ _ _ _; conv => whnf) | apply And.intro | rfl | exact Nat.le_refl _ | exact fun _ _ => rfl | exact rowEq0 _ _)
            · dsimp only; omega
            · simp
            · exact fl_push eBo x.2 (boundsF l c (a + x.1))
          · replace hc3 := dec_iff hc3
            simp only [Bool.false_eq_true, if_false] at hc3
            rw [show fillF l c a b = (x.2, 0) by unfold fillF; rw [if_neg (by simp [h0]), if_neg (by omega), if_neg (by omega), hout, show x.1 = (b - a + 1).toNat from by omega]]
            conv => whnf
            refine ⟨?_, [], ?_⟩
            · (try conv => whnf)
              (repeat' (first | exact True.intro | exact fun _ h => h | refine inR64_of ?_ ?_ | apply And.intro | refine maxLen_ge ?_)) <;> (first | omega | (dsimp only; omega) | (dsimp only [List.length_cons, List.length_nil]; omega) | (intro hg; rw [hg]; rfl) | (intro hg hh; rw [hg, hh]; rfl) | (intro hg; simp [-List.getD_eq_getElem?_getD, -Int.default_eq_zero] at hg; first | omega | (refine inR64_of ?_ ?_ <;> omega) | (constructor <;> omega)) | (simp [-List.getD_eq_getElem?_getD, -Int.default_eq_zero]; done))
            conv => whnf
            refine ⟨rfl, ?_, trivial, trivial⟩
            all_goals repeat' (first | exact True.intro | refine leF_cons rfl ?_ ?_ | refine leS_cons rfl ?_ ?_ | (show PLe _ _ _ _; conv => whnf) | (show SLe _ _ _ _; conv => whnf) | (show PLeL _ _ _ _; conv => whnf) | apply And.intro | rfl | exact Nat.le_refl _ | exact fun _ _ => rfl | exact rowEq0 _ _)

end Pv
end Go.Proofs.Ytiknpkadlckmjaa
