/- LAW 29, THE WALKS, 8: the bounds at a step; the example of the chapter. -/
import Derived.Test.YtiknpkadlckmjaaW7
namespace Go.Proofs.Ytiknpkadlckmjaa
namespace Pv

theorem check_zero {l : List Me} {c : Ck} (h : checkF l c = 0) : limitsF c = 0 ∧ l.length ≤ 400 ∧ scan (errAt l) 0 l.length = 0 := by
  unfold checkF at h
  by_cases h1 : limitsF c = 0
  · rw [if_neg (by simp [h1])] at h
    by_cases h2 : l.length > 400
    · rw [if_pos h2] at h; omega
    · rw [if_neg h2] at h
      by_cases h3 : scan (errAt l) 0 l.length = 0
      · exact ⟨h1, by omega, h3⟩
      · rw [if_pos h3] at h; exact absurd h h3
  · rw [if_pos h1] at h; exact absurd h h1

def atF (l : List Me) (c : Ck) (time : Int) : Bo × Int :=
  if checkF l c ≠ 0 then (⟨0, 0⟩, checkF l c) else if time < 0 ∨ time > 16777216 then (⟨0, 0⟩, 6) else (boundsF l c time, 0)
def pvAt (r : Bo × Int) : PV := .tup [.agg (eBo r.1), .int .i64 r.2]
def c18 : C := (.seq (.reg [⟨(some 4), 64, none, .bx 4 (.t 1)⟩,
    ⟨(some 6), 96, none, .al [(.int .i64 0), (.int .i64 0)]⟩,
    ⟨(some 7), 112, none, .mv (.c (.int .i64 0))⟩])
  (.seq (.seq (.reg [⟨(some 9), 144, none, .mv (.t 0)⟩,
    ⟨(some 10), 160, none, .ld 4 true (.t 4)⟩,
    ⟨(some 11), 176, none, .call (.c (.fn (.func 13) [] [])) [(.t 9), (.t 10)]⟩,
    ⟨(some 8), 128, none, .mv (.t 11)⟩])
  (.seq (.reg [⟨(some 12), 192, none, .mv (.t 8)⟩,
    ⟨(some 13), 208, none, .bi false .neq (.t 12) (.c (.int .i64 0))⟩])
  (.cond (.t 13) (.seq (.reg [⟨(some 14), 224, none, .bd [(.int .i64 0), (.int .i64 0)] []⟩,
    ⟨(some 15), 240, none, .mv (.t 8)⟩,
    ⟨none, 0, none, .st 2 (.t 6) (.t 14)⟩,
    ⟨(some 7), 112, none, .mv (.t 15)⟩])
  .ret) .skip)))
  (.seq (.seq (.reg [⟨(some 16), 256, none, .mv (.t 2)⟩,
    ⟨(some 17), 272, none, .bi false .lss (.t 16) (.c (.int .i64 0))⟩,
    ⟨(some 18), 288, none, .mv (.t 17)⟩,
    ⟨(some 19), 304, (some (18, false)), .mv (.t 2)⟩,
    ⟨(some 20), 320, (some (18, false)), .bi false .gtr (.t 19) (.c (.int .i64 16777216))⟩,
    ⟨(some 21), 336, none, .pick (.t 18) (.c (.bool true)) (.t 20)⟩])
  (.cond (.t 21) (.seq (.reg [⟨(some 22), 352, none, .bd [(.int .i64 0), (.int .i64 0)] []⟩,
    ⟨none, 0, none, .st 2 (.t 6) (.t 22)⟩,
    ⟨(some 7), 112, none, .mv (.c (.int .i64 6))⟩])
  .ret) .skip))
  (.seq (.reg [⟨(some 23), 368, none, .mv (.t 0)⟩,
    ⟨(some 24), 384, none, .ld 4 true (.t 4)⟩,
    ⟨(some 25), 400, none, .mv (.t 2)⟩,
    ⟨(some 26), 416, none, .call (.c (.fn (.func 31) [] [])) [(.t 23), (.t 24), (.t 25)]⟩,
    ⟨none, 0, none, .st 2 (.t 6) (.t 26)⟩,
    ⟨(some 7), 112, none, .mv (.c (.int .i64 0))⟩])
  .ret))))
def c19 : C := (.seq (.reg [⟨(some 4), 64, none, .bx 4 (.t 1)⟩,
    ⟨(some 6), 96, none, .al [(.int .i64 0), (.int .i64 0)]⟩,
    ⟨(some 7), 112, none, .mv (.c (.int .i64 0))⟩])
  (.seq (.seq (.reg [⟨(some 9), 144, none, .mv (.t 0)⟩,
    ⟨(some 10), 160, none, .ld 4 true (.t 4)⟩,
    ⟨(some 11), 176, none, .call (.c (.fn (.func 16) [] [])) [(.t 9), (.t 10)]⟩,
    ⟨(some 8), 128, none, .mv (.t 11)⟩])
  (.seq (.reg [⟨(some 12), 192, none, .mv (.t 8)⟩,
    ⟨(some 13), 208, none, .bi false .neq (.t 12) (.c (.int .i64 0))⟩])
  (.cond (.t 13) (.seq (.reg [⟨(some 14), 224, none, .bd [(.int .i64 0), (.int .i64 0)] []⟩,
    ⟨(some 15), 240, none, .mv (.t 8)⟩,
    ⟨none, 0, none, .st 2 (.t 6) (.t 14)⟩,
    ⟨(some 7), 112, none, .mv (.t 15)⟩])
  .ret) .skip)))
  (.seq (.seq (.reg [⟨(some 16), 256, none, .mv (.t 2)⟩,
    ⟨(some 17), 272, none, .call (.c (.fn (.func 32) [] [])) [(.t 16), (.c (.int .i64 16777216))]⟩,
    ⟨(some 18), 288, none, .un false .not (.t 17)⟩])
  (.cond (.t 18) (.seq (.reg [⟨(some 19), 304, none, .bd [(.int .i64 0), (.int .i64 0)] []⟩,
    ⟨none, 0, none, .st 2 (.t 6) (.t 19)⟩,
    ⟨(some 7), 112, none, .mv (.c (.int .i64 6))⟩])
  .ret) .skip))
  (.seq (.reg [⟨(some 20), 320, none, .mv (.t 0)⟩,
    ⟨(some 21), 336, none, .ld 4 true (.t 4)⟩,
    ⟨(some 22), 352, none, .mv (.t 2)⟩,
    ⟨(some 23), 368, none, .call (.c (.fn (.func 33) [] [])) [(.t 20), (.t 21), (.t 22)]⟩,
    ⟨none, 0, none, .st 2 (.t 6) (.t 23)⟩,
    ⟨(some 7), 112, none, .mv (.c (.int .i64 0))⟩])
  .ret))))
def c8 : C := (.seq (.reg [⟨(some 0), 0, none, .mv (.c (.bool false))⟩])
  (.seq (.reg [⟨(some 4), 64, none, .bd [(.int .i64 0), (.int .i64 0), (.int .i64 0)] [(0, 1, (.c (.int .i64 10))), (1, 1, (.c (.int .i64 50))), (2, 1, (.c (.int .i64 1)))]⟩,
    ⟨(some 5), 80, none, .bs 34 3 [(.t 4)]⟩,
    ⟨(some 6), 96, none, .bd [(.int .i64 0), (.int .i64 0), (.int .i64 0), (.int .i64 0)] [(1, 1, (.c (.int .i64 100))), (2, 1, (.c (.int .i64 5)))]⟩,
    ⟨(some 7), 112, none, .call (.c (.fn (.func 18) [] [])) [(.t 5), (.t 6), (.c (.int .i64 12))]⟩,
    ⟨(some 3), 48, none, .mv (.t 7)⟩,
    ⟨(some 8), 128, none, .ex (.t 3) 0⟩,
    ⟨(some 9), 144, none, .ex (.t 3) 1⟩,
    ⟨(some 1), 16, none, .al [(.int .i64 0), (.int .i64 0)]⟩,
    ⟨none, 0, none, .st 2 (.t 1) (.t 8)⟩,
    ⟨(some 2), 32, none, .mv (.t 9)⟩])
  (.seq (.reg [⟨(some 10), 160, none, .mv (.t 2)⟩,
    ⟨(some 11), 176, none, .bi false .eql (.t 10) (.c (.int .i64 0))⟩,
    ⟨(some 12), 192, none, .mv (.t 11)⟩,
    ⟨(some 13), 208, (some (12, true)), .ld 2 true (.t 1)⟩,
    ⟨(some 14), 224, (some (12, true)), .bd [(.int .i64 0), (.int .i64 0)] [(0, 1, (.c (.int .i64 39))), (1, 1, (.c (.int .i64 61)))]⟩,
    ⟨(some 15), 240, (some (12, true)), .eqa false [0, 0] (.t 13) (.t 14)⟩,
    ⟨(some 16), 256, none, .pick (.t 12) (.t 15) (.c (.bool false))⟩,
    ⟨(some 0), 0, none, .mv (.t 16)⟩])
  .ret)))
theorem fits18 : fits Try.prog false Try.f18 3 27 [(6, some (2, true)), (7, none)] = some c18.er := by kernel_rfl
theorem fits8 : fits Try.prog false Try.f8 0 17 [(0, none)] = some c8.er := by kernel_rfl

theorem call18 (τ : Nat) (l : List Me) (c : Ck) (time : Int) : PureCall Try.prog 18 [.sl τ 3 l.length (fl eMe l), .agg (eCk c), .int .i64 time] [] ⟨pvAt (atF l c time), [], []⟩ := by
  refine pure_call mix Try.func18 fits18 rfl ?_
  conv => whnf
  refine ⟨_, fun _ => call13 (lendT τ) l c, ?_⟩
  conv => whnf
  refine ⟨by simp, fun hc => ?_, fun hc => ?_⟩
  · simp [-List.getD_eq_getElem?_getD, -Int.default_eq_zero] at hc
    rw [show atF l c time = (⟨0, 0⟩, checkF l c) from if_pos hc]
    conv => whnf
    refine ⟨?_, [], ?_⟩
    · (try conv => whnf)
      (repeat' (first | exact True.intro | exact fun _ h => h | refine inR64_of ?_ ?_ | apply And.intro | refine maxLen_ge ?_)) <;> (first | omega | (dsimp only; omega) | (dsimp only [List.length_cons, List.length_nil]; omega) | (intro hg; rw [hg]; rfl) | (intro hg hh; rw [hg, hh]; rfl) | (intro hg; simp [-List.getD_eq_getElem?_getD, -Int.default_eq_zero] at hg; first | omega | (refine inR64_of ?_ ?_ <;> omega) | (constructor <;> omega)) | (simp [-List.getD_eq_getElem?_getD, -Int.default_eq_zero]; done))
    conv => whnf
    refine ⟨rfl, ?_, trivial, trivial⟩
    all_goals repeat' (first | exact True.intro | refine leF_cons rfl ?_ ?_ | refine leS_cons rfl ?_ ?_ | (show PLe _ _ _ _; conv => whnf) | (show SLe _ _ _ _; conv => whnf) | (show PLeL _ _ _ _; conv => whnf) | apply And.intro | rfl | exact Nat.le_refl _ | exact fun _ _ => rfl | exact rowEq0 _ _)
  · have h0 : checkF l c = 0 := by simpa using hc
    obtain ⟨g1, g2, g3⟩ := check_zero h0
    conv => whnf
    refine ⟨?_, fun hc1 => ?_, fun hc1 => ?_⟩
    · (try conv => whnf)
      (repeat' (first | exact True.intro | exact fun _ h => h | refine inR64_of ?_ ?_ | apply And.intro | refine maxLen_ge ?_)) <;> (first | omega | (dsimp only; omega) | (dsimp only [List.length_cons, List.length_nil]; omega) | (intro hg; rw [hg]; rfl) | (intro hg hh; rw [hg, hh]; rfl) | (intro hg; simp [-List.getD_eq_getElem?_getD, -Int.default_eq_zero] at hg; first | omega | (refine inR64_of ?_ ?_ <;> omega) | (constructor <;> omega)) | (simp [-List.getD_eq_getElem?_getD, -Int.default_eq_zero]; done))
    · simp [-List.getD_eq_getElem?_getD, -Int.default_eq_zero] at hc1
      rw [show atF l c time = (⟨0, 0⟩, 6) by unfold atF; rw [if_neg (by simp [h0]), if_pos (by omega)]]
      conv => whnf
      refine ⟨?_, [], ?_⟩
      · (try conv => whnf)
        (repeat' (first | exact True.intro | exact fun _ h => h | refine inR64_of ?_ ?_ | apply And.intro | refine maxLen_ge ?_)) <;> (first | omega | (dsimp only; omega) | (dsimp only [List.length_cons, List.length_nil]; omega) | (intro hg; rw [hg]; rfl) | (intro hg hh; rw [hg, hh]; rfl) | (intro hg; simp [-List.getD_eq_getElem?_getD, -Int.default_eq_zero] at hg; first | omega | (refine inR64_of ?_ ?_ <;> omega) | (constructor <;> omega)) | (simp [-List.getD_eq_getElem?_getD, -Int.default_eq_zero]; done))
      conv => whnf
      refine ⟨rfl, ?_, trivial, trivial⟩
      all_goals repeat' (first | exact True.intro | refine leF_cons rfl ?_ ?_ | refine leS_cons rfl ?_ ?_ | (show PLe _ _ _ _; conv => whnf) | (show SLe _ _ _ _; conv => whnf) | (show PLeL _ _ _ _; conv => whnf) | apply And.intro | rfl | exact Nat.le_refl _ | exact fun _ _ => rfl | exact rowEq0 _ _)
    · simp [-List.getD_eq_getElem?_getD, -Int.default_eq_zero] at hc1
      rw [show atF l c time = (boundsF l c time, 0) by unfold atF; rw [if_neg (by simp [h0]), if_neg (by omega)]]
      conv => whnf
      refine ⟨_, fun _ => call31 (lendT τ) l c time (by omega) (near_of g1 g3 (by omega)), ?_⟩
      conv => whnf
      refine ⟨?_, [], ?_⟩
      · (try conv => whnf)
        (repeat' (first | exact True.intro | exact fun _ h => h | refine inR64_of ?_ ?_ | apply And.intro | refine maxLen_ge ?_)) <;> (first | omega | (dsimp only; omega) | (dsimp only [List.length_cons, List.length_nil]; omega) | (intro hg; rw [hg]; rfl) | (intro hg hh; rw [hg, hh]; rfl) | (intro hg; simp [-List.getD_eq_getElem?_getD, -Int.default_eq_zero] at hg; first | omega | (refine inR64_of ?_ ?_ <;> omega) | (constructor <;> omega)) | (simp [-List.getD_eq_getElem?_getD, -Int.default_eq_zero]; done))
      conv => whnf
      refine ⟨rfl, ?_, trivial, trivial⟩
      all_goals repeat' (first | exact True.intro | refine leF_cons rfl ?_ ?_ | refine leS_cons rfl ?_ ?_ | (show PLe _ _ _ _; conv => whnf) | (show SLe _ _ _ _; conv => whnf) | (show PLeL _ _ _ _; conv => whnf) | apply And.intro | rfl | exact Nat.le_refl _ | exact fun _ _ => rfl | exact rowEq0 _ _)

theorem call8 : PureCall Try.prog 8 [] [] ⟨.bool true, [], []⟩ := by
  refine pure_call mix Try.func8 fits8 rfl ?_
  conv => whnf
  refine ⟨_, fun _ => PureCall.arg_le (call18 2 [⟨10, 50, 1⟩] ⟨0, 100, 5, 0⟩ 12) rfl ?_, ?_⟩
  · conv => whnf
    refine ⟨?_, ?_⟩
    · conv => whnf
      refine ⟨Nat.le_refl _, rfl, rfl, fun i hi => ?_⟩
      have : i = 0 := by simp at hi; omega
      subst this; rfl
    all_goals repeat' (first | exact True.intro | refine leF_cons rfl ?_ ?_ | refine leS_cons rfl ?_ ?_ | (show PLe _ _ _ _; conv => whnf) | (show SLe _ _ _ _; conv => whnf) | (show PLeL _ _ _ _; conv => whnf) | apply And.intro | rfl | exact Nat.le_refl _ | exact fun _ _ => rfl | exact rowEq0 _ _)
  · have h : atF [⟨10, 50, 1⟩] ⟨0, 100, 5, 0⟩ 12 = (⟨39, 61⟩, 0) := by decide
    rw [h]
    conv => whnf
    refine ⟨?_, [], ?_⟩
    · (try conv => whnf)
      (repeat' (first | exact True.intro | exact fun _ h => h | refine inR64_of ?_ ?_ | apply And.intro | refine maxLen_ge ?_)) <;> (first | omega | (dsimp only; omega) | (dsimp only [List.length_cons, List.length_nil]; omega) | (intro hg; rw [hg]; rfl) | (intro hg hh; rw [hg, hh]; rfl) | (intro hg; simp [-List.getD_eq_getElem?_getD, -Int.default_eq_zero] at hg; first | omega | (refine inR64_of ?_ ?_ <;> omega) | (constructor <;> omega)) | (simp [-List.getD_eq_getElem?_getD, -Int.default_eq_zero]; done))
    conv => whnf
    refine ⟨rfl, ?_, trivial, trivial⟩
    all_goals repeat' (first | exact True.intro | refine leF_cons rfl ?_ ?_ | refine leS_cons rfl ?_ ?_ | (show PLe _ _ _ _; conv => whnf) | (show SLe _ _ _ _; conv => whnf) | (show PLeL _ _ _ _; conv => whnf) | apply And.intro | rfl | exact Nat.le_refl _ | exact fun _ _ => rfl | exact rowEq0 _ _)

end Pv
end Go.Proofs.Ytiknpkadlckmjaa
