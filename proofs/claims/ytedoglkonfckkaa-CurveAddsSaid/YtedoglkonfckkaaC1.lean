/- LAW 02, THE WALKS, 1: what the curve's functions compute: said of plain values. -/
import Derived.Test.YtedoglkonfckkaaM1
set_option linter.unusedSimpArgs false
set_option linter.unusedVariables false
namespace Go.Proofs.Ytedoglkonfckkaa
namespace Pv

structure Pt where
  x : Int
  y : Int
  deriving Inhabited, DecidableEq
def ePt (p : Pt) : List PV := [.int .i64 p.x, .int .i64 p.y]

def c25 : C := (.seq (.reg [⟨(some 4), 64, none, .mv (.c (.bool false))⟩])
  (.seq (.reg [⟨(some 5), 80, none, .mv (.t 0)⟩,
    ⟨(some 6), 96, none, .bi false .geq (.t 5) (.c (.int .i64 0))⟩,
    ⟨(some 7), 112, none, .mv (.t 6)⟩,
    ⟨(some 8), 128, (some (7, true)), .mv (.t 0)⟩,
    ⟨(some 9), 144, (some (7, true)), .mv (.t 1)⟩,
    ⟨(some 10), 160, (some (7, true)), .bi false .leq (.t 8) (.t 9)⟩,
    ⟨(some 11), 176, none, .pick (.t 7) (.t 10) (.c (.bool false))⟩,
    ⟨(some 4), 64, none, .mv (.t 11)⟩])
  .ret))
theorem fits25 : fits Try.prog false Try.f25 2 12 [(4, none)] = some c25.er := by kernel_rfl
def c26 : C := (.seq (.reg [⟨(some 4), 64, none, .mv (.c (.bool false))⟩])
  (.seq (.reg [⟨(some 5), 80, none, .mv (.t 0)⟩,
    ⟨(some 6), 96, none, .bi false .gtr (.t 5) (.c (.int .i64 0))⟩,
    ⟨(some 7), 112, none, .mv (.t 6)⟩,
    ⟨(some 8), 128, (some (7, true)), .mv (.t 1)⟩,
    ⟨(some 9), 144, (some (7, true)), .mv (.t 0)⟩,
    ⟨(some 10), 160, (some (7, true)), .bi false .quo (.c (.int .i64 4611686018427387904)) (.t 9)⟩,
    ⟨(some 11), 176, (some (7, true)), .bi false .gtr (.t 8) (.t 10)⟩,
    ⟨(some 12), 192, none, .pick (.t 7) (.t 11) (.c (.bool false))⟩,
    ⟨(some 4), 64, none, .mv (.t 12)⟩])
  .ret))
theorem fits26 : fits Try.prog false Try.f26 2 13 [(4, none)] = some c26.er := by kernel_rfl
def c20L1 : C := (.seq (.reg [⟨(some 17), 272, none, .bi false .lss (.t 16) (.t 15)⟩])
  (.seq (.cond (.t 17) .skip (.exit 1))
  (.seq (.block 2 (.seq (.reg [⟨(some 18), 288, none, .mv (.t 16)⟩,
    ⟨(some 19), 304, none, .ia 2 (.t 14) (.t 16)⟩,
    ⟨(some 20), 320, none, .ld 2 true (.t 19)⟩,
    ⟨(some 4), 64, none, .al [(.int .i64 0), (.int .i64 0)]⟩,
    ⟨(some 3), 48, none, .mv (.t 18)⟩,
    ⟨none, 0, none, .st 2 (.t 4) (.t 20)⟩])
  (.seq (.seq (.reg [⟨(some 21), 336, none, .fa 0 (.t 4)⟩,
    ⟨(some 22), 352, none, .ld 1 false (.t 21)⟩,
    ⟨(some 23), 368, none, .call (.c (.fn (.func 25) [] [])) [(.t 22), (.c (.int .i64 1073741824))]⟩,
    ⟨(some 24), 384, none, .un false .not (.t 23)⟩,
    ⟨(some 25), 400, none, .mv (.t 24)⟩,
    ⟨(some 26), 416, (some (25, false)), .fa 1 (.t 4)⟩,
    ⟨(some 27), 432, (some (25, false)), .ld 1 false (.t 26)⟩,
    ⟨(some 28), 448, (some (25, false)), .call (.c (.fn (.func 25) [] [])) [(.t 27), (.c (.int .i64 274877906944))]⟩,
    ⟨(some 29), 464, (some (25, false)), .un false .not (.t 28)⟩,
    ⟨(some 30), 480, none, .pick (.t 25) (.c (.bool true)) (.t 29)⟩])
  (.cond (.t 30) (.seq (.reg [⟨(some 2), 32, none, .mv (.c (.int .i64 1))⟩])
  .ret) .skip))
  (.seq (.seq (.reg [⟨(some 31), 496, none, .mv (.t 3)⟩,
    ⟨(some 32), 512, none, .bi false .eql (.t 31) (.c (.int .i64 0))⟩])
  (.cond (.t 32) (.exit 2) .skip))
  (.seq (.reg [⟨(some 33), 528, none, .mv (.t 0)⟩,
    ⟨(some 34), 544, none, .mv (.t 3)⟩,
    ⟨(some 35), 560, none, .bi false .sub (.t 34) (.c (.int .i64 1))⟩,
    ⟨(some 36), 576, none, .ia 2 (.t 33) (.t 35)⟩,
    ⟨(some 37), 592, none, .ld 2 true (.t 36)⟩,
    ⟨(some 5), 80, none, .al [(.int .i64 0), (.int .i64 0)]⟩,
    ⟨none, 0, none, .st 2 (.t 5) (.t 37)⟩])
  (.block 3 (.seq (.reg [⟨(some 39), 624, none, .fa 0 (.t 4)⟩,
    ⟨(some 40), 640, none, .ld 1 false (.t 39)⟩,
    ⟨(some 41), 656, none, .fa 0 (.t 5)⟩,
    ⟨(some 42), 672, none, .ld 1 false (.t 41)⟩,
    ⟨(some 43), 688, none, .bi false .leq (.t 40) (.t 42)⟩,
    ⟨(some 44), 704, none, .mv (.t 43)⟩,
    ⟨(some 45), 720, (some (44, false)), .fa 1 (.t 4)⟩,
    ⟨(some 46), 736, (some (44, false)), .ld 1 false (.t 45)⟩,
    ⟨(some 47), 752, (some (44, false)), .fa 1 (.t 5)⟩,
    ⟨(some 48), 768, (some (44, false)), .ld 1 false (.t 47)⟩,
    ⟨(some 49), 784, (some (44, false)), .bi false .lss (.t 46) (.t 48)⟩,
    ⟨(some 50), 800, none, .pick (.t 44) (.c (.bool true)) (.t 49)⟩,
    ⟨(some 38), 608, none, .mv (.t 50)⟩])
  (.cond (.t 38) (.seq (.reg [⟨(some 2), 32, none, .mv (.c (.int .i64 4))⟩])
  .ret) (.seq (.reg [⟨(some 52), 832, none, .fa 0 (.t 4)⟩,
    ⟨(some 53), 848, none, .ld 1 false (.t 52)⟩,
    ⟨(some 54), 864, none, .fa 0 (.t 5)⟩,
    ⟨(some 55), 880, none, .ld 1 false (.t 54)⟩,
    ⟨(some 56), 896, none, .bi false .sub (.t 53) (.t 55)⟩,
    ⟨(some 57), 912, none, .fa 1 (.t 4)⟩,
    ⟨(some 58), 928, none, .ld 1 false (.t 57)⟩,
    ⟨(some 59), 944, none, .fa 1 (.t 5)⟩,
    ⟨(some 60), 960, none, .ld 1 false (.t 59)⟩,
    ⟨(some 61), 976, none, .bi false .sub (.t 58) (.t 60)⟩,
    ⟨(some 62), 992, none, .call (.c (.fn (.func 26) [] [])) [(.t 56), (.t 61)]⟩,
    ⟨(some 51), 816, none, .mv (.t 62)⟩])
  (.cond (.t 51) (.seq (.reg [⟨(some 2), 32, none, .mv (.c (.int .i64 1))⟩])
  .ret) .skip))))))))))
  (.reg [⟨(some 63), 1008, none, .bi false .add (.t 16) (.c (.int .i64 1))⟩,
    ⟨(some 16), 256, none, .mv (.t 63)⟩]))))
def c20 : C := (.seq (.reg [⟨(some 2), 32, none, .mv (.c (.int .i64 0))⟩])
  (.seq (.block 0 (.seq (.reg [⟨(some 7), 112, none, .mv (.t 0)⟩,
    ⟨(some 8), 128, none, .len (.t 7)⟩,
    ⟨(some 9), 144, none, .bi false .eql (.t 8) (.c (.int .i64 0))⟩,
    ⟨(some 6), 96, none, .mv (.t 9)⟩])
  (.cond (.t 6) (.seq (.reg [⟨(some 2), 32, none, .mv (.c (.int .i64 3))⟩])
  .ret) (.seq (.reg [⟨(some 11), 176, none, .mv (.t 0)⟩,
    ⟨(some 12), 192, none, .len (.t 11)⟩,
    ⟨(some 13), 208, none, .bi false .gtr (.t 12) (.c (.int .i64 100))⟩,
    ⟨(some 10), 160, none, .mv (.t 13)⟩])
  (.cond (.t 10) (.seq (.reg [⟨(some 2), 32, none, .mv (.c (.int .i64 10))⟩])
  .ret) .skip)))))
  (.seq (.seq (.reg [⟨(some 14), 224, none, .mv (.t 0)⟩,
    ⟨(some 15), 240, none, .len (.t 14)⟩,
    ⟨(some 16), 256, none, .mv (.c (.int .i64 0))⟩])
  (.block 1 (.loop c20L1)))
  (.seq (.reg [⟨(some 2), 32, none, .mv (.c (.int .i64 0))⟩])
  .ret))))
theorem fits20 : fits Try.prog false Try.f20 1 64 [(2, none)] = some c20.er := by kernel_rfl

theorem call25 (n m : Int) : PureCall Try.prog 25 [.int .i64 n, .int .i64 m] [] ⟨.bool (decide (0 ≤ n ∧ n ≤ m)), [], []⟩ := by
  refine pure_call mix Try.func25 fits25 rfl ?_
  conv => whnf
  refine ⟨?_, [], ?_⟩
  · (try conv => whnf)
    (repeat' (first | exact True.intro | exact fun _ h => h | refine inR64_of ?_ ?_ | apply And.intro | refine maxLen_ge ?_)) <;> (first | omega | (dsimp only; omega) | (dsimp only [List.length_cons, List.length_nil]; omega) | (intro hg; rw [hg]; rfl) | (intro hg hh; rw [hg, hh]; rfl) | (intro hg; simp [-List.getD_eq_getElem?_getD, -Int.default_eq_zero] at hg; first | omega | (refine inR64_of ?_ ?_ <;> omega) | (constructor <;> omega)) | (simp [-List.getD_eq_getElem?_getD, -Int.default_eq_zero]; done))
  conv => whnf
  refine ⟨rfl, ?_, trivial, trivial⟩
  all_goals repeat' (first | exact True.intro | refine leF_cons rfl ?_ ?_ | refine leS_cons rfl ?_ ?_ | (show PLe _ _ _ _; conv => whnf) | (show SLe _ _ _ _; conv => whnf) | (show PLeL _ _ _ _; conv => whnf) | apply And.intro | rfl | exact Nat.le_refl _ | exact fun _ _ => rfl | exact rowEq0 _ _)
  by_cases h : 0 ≤ n <;> simp [h]

def steepF (dx dy : Int) : Bool := decide (0 < dx ∧ dy > 4611686018427387904 / dx)
theorem call26 (dx dy : Int) (h : inR .i64 dx) : PureCall Try.prog 26 [.int .i64 dx, .int .i64 dy] [] ⟨.bool (steepF dx dy), [], []⟩ := by
  refine pure_call mix Try.func26 fits26 rfl ?_
  conv => whnf
  refine ⟨?_, [], ?_⟩
  · conv => whnf
    refine ⟨⟨⟨⟨⟨trivial, fun _ h => h⟩, ?_⟩, fun _ h => h⟩, fun _ h => h⟩, fun h => by rw [h]; rfl⟩
    intro hg
    have hg : 0 < dx := by simpa using hg
    rw [inR64] at h
    refine ⟨by omega, ?_⟩
    rw [Int.tdiv_eq_ediv_of_nonneg (by omega)]
    have h1 : 0 ≤ 4611686018427387904 / dx := Int.ediv_nonneg (by omega) (by omega)
    have h2 : 4611686018427387904 / dx ≤ 4611686018427387904 := Int.ediv_le_self _ (by omega)
    exact inR64_of (by omega) (by omega)
  conv => whnf
  refine ⟨rfl, ?_, trivial, trivial⟩
  all_goals repeat' (first | exact True.intro | refine leF_cons rfl ?_ ?_ | refine leS_cons rfl ?_ ?_ | (show PLe _ _ _ _; conv => whnf) | (show SLe _ _ _ _; conv => whnf) | (show PLeL _ _ _ _; conv => whnf) | apply And.intro | rfl | exact Nat.le_refl _ | exact fun _ _ => rfl | exact rowEq0 _ _)
  unfold steepF
  by_cases h : 0 < dx <;> simp [h]
  rw [Int.tdiv_eq_ediv_of_nonneg (by omega)]

def errC (c : List Pt) (i : Nat) : Int :=
  if ¬ (0 ≤ (c.getD i default).x ∧ (c.getD i default).x ≤ 1073741824) ∨ ¬ (0 ≤ (c.getD i default).y ∧ (c.getD i default).y ≤ 274877906944) then 1
  else if i = 0 then 0
  else if (c.getD i default).x ≤ (c.getD (i - 1) default).x ∨ (c.getD i default).y < (c.getD (i - 1) default).y then 4
  else if steepF ((c.getD i default).x - (c.getD (i - 1) default).x) ((c.getD i default).y - (c.getD (i - 1) default).y) = true then 1 else 0
def checkC (c : List Pt) : Int := if c.length = 0 then 3 else if c.length > 100 then 10 else scan (errC c) 0 c.length

theorem call20 (τ : Nat) (c : List Pt) : PureCall Try.prog 20 [.sl τ 2 c.length (fl ePt c)] [] ⟨.int .i64 (checkC c), [], []⟩ := by
  refine pure_call mix Try.func20 fits20 rfl ?_
  conv => whnf
  refine ⟨?_, fun hc => ?_, fun hc => ?_⟩
  · (try conv => whnf)
    (repeat' (first | exact True.intro | exact fun _ h => h | refine inR64_of ?_ ?_ | apply And.intro | refine maxLen_ge ?_)) <;> (first | omega | (dsimp only; omega) | (dsimp only [List.length_cons, List.length_nil]; omega) | (intro hg; rw [hg]; rfl) | (intro hg hh; rw [hg, hh]; rfl) | (intro hg; simp [-List.getD_eq_getElem?_getD, -Int.default_eq_zero] at hg; first | omega | (refine inR64_of ?_ ?_ <;> omega) | (constructor <;> omega)) | (simp [-List.getD_eq_getElem?_getD, -Int.default_eq_zero]; done))
  · simp [-List.getD_eq_getElem?_getD, -Int.default_eq_zero] at hc
    rw [show checkC c = 3 by unfold checkC; rw [if_pos (by rw [hc]; rfl)]]
    conv => whnf
    refine ⟨?_, [], ?_⟩
    · (try conv => whnf)
      (repeat' (first | exact True.intro | exact fun _ h => h | refine inR64_of ?_ ?_ | apply And.intro | refine maxLen_ge ?_)) <;> (first | omega | (dsimp only; omega) | (dsimp only [List.length_cons, List.length_nil]; omega) | (intro hg; rw [hg]; rfl) | (intro hg hh; rw [hg, hh]; rfl) | (intro hg; simp [-List.getD_eq_getElem?_getD, -Int.default_eq_zero] at hg; first | omega | (refine inR64_of ?_ ?_ <;> omega) | (constructor <;> omega)) | (simp [-List.getD_eq_getElem?_getD, -Int.default_eq_zero]; done))
    conv => whnf
    refine ⟨rfl, ?_, trivial, trivial⟩
    all_goals repeat' (first | exact True.intro | refine leF_cons rfl ?_ ?_ | refine leS_cons rfl ?_ ?_ | (show PLe _ _ _ _; conv => whnf) | (show SLe _ _ _ _; conv => whnf) | (show PLeL _ _ _ _; conv => whnf) | apply And.intro | rfl | exact Nat.le_refl _ | exact fun _ _ => rfl | exact rowEq0 _ _)
  simp [-List.getD_eq_getElem?_getD, -Int.default_eq_zero] at hc
  have h0 : ¬ c.length = 0 := by simpa using hc
  conv => whnf
  refine ⟨?_, fun hc => ?_, fun hc => ?_⟩
  · (try conv => whnf)
    (repeat' (first | exact True.intro | exact fun _ h => h | refine inR64_of ?_ ?_ | apply And.intro | refine maxLen_ge ?_)) <;> (first | omega | (dsimp only; omega) | (dsimp only [List.length_cons, List.length_nil]; omega) | (intro hg; rw [hg]; rfl) | (intro hg hh; rw [hg, hh]; rfl) | (intro hg; simp [-List.getD_eq_getElem?_getD, -Int.default_eq_zero] at hg; first | omega | (refine inR64_of ?_ ?_ <;> omega) | (constructor <;> omega)) | (simp [-List.getD_eq_getElem?_getD, -Int.default_eq_zero]; done))
  · replace hc := of_decide_eq_true hc
    rw [show checkC c = 10 by unfold checkC; rw [if_neg h0, if_pos (by omega)]]
    conv => whnf
    refine ⟨?_, [], ?_⟩
    · (try conv => whnf)
      (repeat' (first | exact True.intro | exact fun _ h => h | refine inR64_of ?_ ?_ | apply And.intro | refine maxLen_ge ?_)) <;> (first | omega | (dsimp only; omega) | (dsimp only [List.length_cons, List.length_nil]; omega) | (intro hg; rw [hg]; rfl) | (intro hg hh; rw [hg, hh]; rfl) | (intro hg; simp [-List.getD_eq_getElem?_getD, -Int.default_eq_zero] at hg; first | omega | (refine inR64_of ?_ ?_ <;> omega) | (constructor <;> omega)) | (simp [-List.getD_eq_getElem?_getD, -Int.default_eq_zero]; done))
    conv => whnf
    refine ⟨rfl, ?_, trivial, trivial⟩
    all_goals repeat' (first | exact True.intro | refine leF_cons rfl ?_ ?_ | refine leS_cons rfl ?_ ?_ | (show PLe _ _ _ _; conv => whnf) | (show SLe _ _ _ _; conv => whnf) | (show PLeL _ _ _ _; conv => whnf) | apply And.intro | rfl | exact Nat.le_refl _ | exact fun _ _ => rfl | exact rowEq0 _ _)
  replace hc := of_decide_eq_false hc
  have h1 : ¬ c.length > 100 := by omega
  have hck : checkC c = scan (errC c) 0 c.length := by unfold checkC; rw [if_neg h0, if_neg h1]
  rw [hck]
  conv => whnf
  refine ⟨trivial, ?_⟩
  refine LSem.loop (n := 64) mix (α := Nat) (fun i => i ≤ c.length ∧ scan (errC c) i (c.length - i) = scan (errC c) 0 c.length ∧ ∀ j, j < i → errC c j = 0)
    (fun i => [(0, .sl τ 2 c.length (fl ePt c)), (14, .sl τ 2 c.length (fl ePt c)), (15, .int .i64 c.length), (16, .int .i64 i)])
    (fun _ => []) (fun i => c.length - i) 0 ?_ ?_ ?_
  · exact ⟨Nat.zero_le _, rfl, fun j hj => by omega⟩
  · refine ⟨rfl, rfl, ?_, ?_⟩
    all_goals repeat' (first | exact True.intro | refine leF_cons rfl ?_ ?_ | refine leS_cons rfl ?_ ?_ | (show PLe _ _ _ _; conv => whnf) | (show SLe _ _ _ _; conv => whnf) | (show PLeL _ _ _ _; conv => whnf) | apply And.intro | rfl | exact Nat.le_refl _ | exact fun _ _ => rfl | exact rowEq0 _ _)
  · intro i hi
    obtain ⟨hi, hs, hall⟩ := hi
    have hj : ((i : Int)).toNat = i := by omega
    conv => whnf
    refine ⟨trivial, fun hc => ?_, fun hc => ?_⟩
    · replace hc := of_decide_eq_true hc
      have hlt : i < c.length := by omega
      have hall' : errC c i = 0 → ∀ j, j < i + 1 → errC c j = 0 := fun h j hj => by
        by_cases e : j = i
        · subst e; exact h
        · exact hall j (by omega)
      conv => whnf
      refine ⟨_, fun _ => call25 (c.getD ((i : Int)).toNat default).x 1073741824, ?_⟩
      conv => whnf
      refine ⟨_, fun _ => call25 (c.getD ((i : Int)).toNat default).y 274877906944, ?_⟩
      conv => whnf
      have herr : errC c i ≠ 0 → scan (errC c) 0 c.length = errC c i := fun h => by rw [← hs]; exact scan_hit (by omega) h
      have hnext : errC c i = 0 → scan (errC c) (i + 1) (c.length - (i + 1)) = scan (errC c) 0 c.length := fun h => by rw [← hs, scan_step (by omega) h]; congr 1
      refine ⟨?_, fun hc1 => ?_, fun hc1 => ?_⟩
      · (try conv => whnf)
        (repeat' (first | exact True.intro | exact fun _ h => h | refine inR64_of ?_ ?_ | apply And.intro | refine maxLen_ge ?_)) <;> (first | omega | (dsimp only; omega) | (dsimp only [List.length_cons, List.length_nil]; omega) | (intro hg; rw [hg]; rfl) | (intro hg hh; rw [hg, hh]; rfl) | (intro hg; simp [-List.getD_eq_getElem?_getD, -Int.default_eq_zero] at hg; first | omega | (refine inR64_of ?_ ?_ <;> omega) | (constructor <;> omega)) | (simp [-List.getD_eq_getElem?_getD, -Int.default_eq_zero]; done))
      · have he : errC c i = 1 := by
          rw [hj] at hc1
          unfold errC
          rw [if_pos (by simp only [bif_t, bif_f, decide_eq_true_eq, decide_eq_false_iff_not, Bool.not_eq_true', Bool.not_eq_false', Bool.and_eq_true, Bool.or_eq_true, Bool.and_eq_false_iff, Bool.or_eq_false_iff, beq_iff_eq, bne_iff_ne, beq_eq_false_iff_ne, bne_eq_false_iff_eq, reduceCtorEq, false_and, and_false, true_and, and_true, or_false, false_or, or_true, true_or, not_true_eq_false, not_false_eq_true, Int.toNat_zero] at hc1; omega)]
        rw [herr (by rw [he]; decide), he]
        conv => whnf
        refine ⟨?_, [], ?_⟩
        · (try conv => whnf)
          (repeat' (first | exact True.intro | exact fun _ h => h | refine inR64_of ?_ ?_ | apply And.intro | refine maxLen_ge ?_)) <;> (first | omega | (dsimp only; omega) | (dsimp only [List.length_cons, List.length_nil]; omega) | (intro hg; rw [hg]; rfl) | (intro hg hh; rw [hg, hh]; rfl) | (intro hg; simp [-List.getD_eq_getElem?_getD, -Int.default_eq_zero] at hg; first | omega | (refine inR64_of ?_ ?_ <;> omega) | (constructor <;> omega)) | (simp [-List.getD_eq_getElem?_getD, -Int.default_eq_zero]; done))
        conv => whnf
        refine ⟨rfl, ?_, trivial, trivial⟩
        all_goals repeat' (first | exact True.intro | refine leF_cons rfl ?_ ?_ | refine leS_cons rfl ?_ ?_ | (show PLe _ _ _ _; conv => whnf) | (show SLe _ _ _ _; conv => whnf) | (show PLeL _ _ _ _; conv => whnf) | apply And.intro | rfl | exact Nat.le_refl _ | exact fun _ _ => rfl | exact rowEq0 _ _)
      have hr : (0 ≤ (c.getD i default).x ∧ (c.getD i default).x ≤ 1073741824) ∧ (0 ≤ (c.getD i default).y ∧ (c.getD i default).y ≤ 274877906944) := by
        rw [hj] at hc1
        simp only [bif_t, bif_f, decide_eq_true_eq, decide_eq_false_iff_not, Bool.not_eq_true', Bool.not_eq_false', Bool.and_eq_true, Bool.or_eq_true, Bool.and_eq_false_iff, Bool.or_eq_false_iff, beq_iff_eq, bne_iff_ne, beq_eq_false_iff_ne, bne_eq_false_iff_eq, reduceCtorEq, false_and, and_false, true_and, and_true, or_false, false_or, or_true, true_or, not_true_eq_false, not_false_eq_true, Int.toNat_zero] at hc1
        omega
      conv => whnf
      refine ⟨trivial, fun hc2 => ?_, fun hc2 => ?_⟩
      · have h0 : i = 0 := by simpa using hc2
        conv => whnf
        have he : errC c i = 0 := by unfold errC; rw [if_neg (by omega), if_pos h0]
        refine ⟨?_, i + 1, ⟨by omega, hnext he, hall' he⟩, ?_, rfl, rfl, ?_, ?_⟩
        · (try conv => whnf)
          (repeat' (first | exact True.intro | exact fun _ h => h | refine inR64_of ?_ ?_ | apply And.intro | refine maxLen_ge ?_)) <;> (first | omega | (dsimp only; omega) | (dsimp only [List.length_cons, List.length_nil]; omega) | (intro hg; rw [hg]; rfl) | (intro hg hh; rw [hg, hh]; rfl) | (intro hg; simp [-List.getD_eq_getElem?_getD, -Int.default_eq_zero] at hg; first | omega | (refine inR64_of ?_ ?_ <;> omega) | (constructor <;> omega)) | (simp [-List.getD_eq_getElem?_getD, -Int.default_eq_zero]; done))
        · omega
        all_goals repeat' (first | exact True.intro | refine leF_cons rfl ?_ ?_ | refine leS_cons rfl ?_ ?_ | (show PLe _ _ _ _; conv => whnf) | (show SLe _ _ _ _; conv => whnf) | (show PLeL _ _ _ _; conv => whnf) | apply And.intro | rfl | exact Nat.le_refl _ | exact fun _ _ => rfl | exact rowEq0 _ _)
        all_goals omega
      have h0 : ¬ i = 0 := by simpa using hc2
      have hj1 : ((i : Int) - 1).toNat = i - 1 := by omega
      have hm1 : (0 ≤ (c.getD (i - 1) default).x ∧ (c.getD (i - 1) default).x ≤ 1073741824) ∧ (0 ≤ (c.getD (i - 1) default).y ∧ (c.getD (i - 1) default).y ≤ 274877906944) := by
        have := hall (i - 1) (by omega)
        unfold errC at this
        split at this
        · cases this
        · omega
      conv => whnf
      refine ⟨?_, fun hc3 => ?_, fun hc3 => ?_⟩
      · (try conv => whnf)
        (repeat' (first | exact True.intro | exact fun _ h => h | refine inR64_of ?_ ?_ | apply And.intro | refine maxLen_ge ?_)) <;> (first | omega | (dsimp only; omega) | (dsimp only [List.length_cons, List.length_nil]; omega) | (intro hg; rw [hg]; rfl) | (intro hg hh; rw [hg, hh]; rfl) | (intro hg; simp [-List.getD_eq_getElem?_getD, -Int.default_eq_zero] at hg; first | omega | (refine inR64_of ?_ ?_ <;> omega) | (constructor <;> omega)) | (simp [-List.getD_eq_getElem?_getD, -Int.default_eq_zero]; done))
      · have he : errC c i = 4 := by
          rw [hj, hj1] at hc3
          unfold errC
          rw [if_neg (by omega), if_neg h0, if_pos (by simp only [bif_t, bif_f, decide_eq_true_eq, decide_eq_false_iff_not, Bool.not_eq_true', Bool.not_eq_false', Bool.and_eq_true, Bool.or_eq_true, Bool.and_eq_false_iff, Bool.or_eq_false_iff, beq_iff_eq, bne_iff_ne, beq_eq_false_iff_ne, bne_eq_false_iff_eq, reduceCtorEq, false_and, and_false, true_and, and_true, or_false, false_or, or_true, true_or, not_true_eq_false, not_false_eq_true, Int.toNat_zero] at hc3; omega)]
        rw [herr (by rw [he]; decide), he]
        conv => whnf
        refine ⟨?_, [], ?_⟩
        · (try conv => whnf)
          (repeat' (first | exact True.intro | exact fun _ h => h | refine inR64_of ?_ ?_ | apply And.intro | refine maxLen_ge ?_)) <;> (first | omega | (dsimp only; omega) | (dsimp only [List.length_cons, List.length_nil]; omega) | (intro hg; rw [hg]; rfl) | (intro hg hh; rw [hg, hh]; rfl) | (intro hg; simp [-List.getD_eq_getElem?_getD, -Int.default_eq_zero] at hg; first | omega | (refine inR64_of ?_ ?_ <;> omega) | (constructor <;> omega)) | (simp [-List.getD_eq_getElem?_getD, -Int.default_eq_zero]; done))
        conv => whnf
        refine ⟨rfl, ?_, trivial, trivial⟩
        all_goals repeat' (first | exact True.intro | refine leF_cons rfl ?_ ?_ | refine leS_cons rfl ?_ ?_ | (show PLe _ _ _ _; conv => whnf) | (show SLe _ _ _ _; conv => whnf) | (show PLeL _ _ _ _; conv => whnf) | apply And.intro | rfl | exact Nat.le_refl _ | exact fun _ _ => rfl | exact rowEq0 _ _)
      have hle : ¬ ((c.getD i default).x ≤ (c.getD (i - 1) default).x ∨ (c.getD i default).y < (c.getD (i - 1) default).y) := by
        rw [hj, hj1] at hc3
        simp only [bif_t, bif_f, decide_eq_true_eq, decide_eq_false_iff_not, Bool.not_eq_true', Bool.not_eq_false', Bool.and_eq_true, Bool.or_eq_true, Bool.and_eq_false_iff, Bool.or_eq_false_iff, beq_iff_eq, bne_iff_ne, beq_eq_false_iff_ne, bne_eq_false_iff_eq, reduceCtorEq, false_and, and_false, true_and, and_true, or_false, false_or, or_true, true_or, not_true_eq_false, not_false_eq_true, Int.toNat_zero] at hc3
        omega
      conv => whnf
      refine ⟨_, fun _ => call26 ((c.getD ((i : Int)).toNat default).x - (c.getD ((i : Int) - 1).toNat default).x) ((c.getD ((i : Int)).toNat default).y - (c.getD ((i : Int) - 1).toNat default).y) (by rw [hj, hj1]; exact inR64_of (by omega) (by omega)), ?_⟩
      conv => whnf
      refine ⟨?_, fun hc4 => ?_, fun hc4 => ?_⟩
      · rw [hj, hj1]
        (try conv => whnf)
        (repeat' (first | exact True.intro | exact fun _ h => h | refine inR64_of ?_ ?_ | apply And.intro | refine maxLen_ge ?_)) <;> (first | omega | (dsimp only; omega) | (dsimp only [List.length_cons, List.length_nil]; omega) | (intro hg; rw [hg]; rfl) | (intro hg hh; rw [hg, hh]; rfl) | (intro hg; simp [-List.getD_eq_getElem?_getD, -Int.default_eq_zero] at hg; first | omega | (refine inR64_of ?_ ?_ <;> omega) | (constructor <;> omega)) | (simp [-List.getD_eq_getElem?_getD, -Int.default_eq_zero]; done))
      · have he : errC c i = 1 := by
          rw [hj, hj1] at hc4
          unfold errC
          rw [if_neg (by omega), if_neg h0, if_neg hle, if_pos hc4]
        rw [herr (by rw [he]; decide), he]
        conv => whnf
        refine ⟨?_, [], ?_⟩
        · (try conv => whnf)
          (repeat' (first | exact True.intro | exact fun _ h => h | refine inR64_of ?_ ?_ | apply And.intro | refine maxLen_ge ?_)) <;> (first | omega | (dsimp only; omega) | (dsimp only [List.length_cons, List.length_nil]; omega) | (intro hg; rw [hg]; rfl) | (intro hg hh; rw [hg, hh]; rfl) | (intro hg; simp [-List.getD_eq_getElem?_getD, -Int.default_eq_zero] at hg; first | omega | (refine inR64_of ?_ ?_ <;> omega) | (constructor <;> omega)) | (simp [-List.getD_eq_getElem?_getD, -Int.default_eq_zero]; done))
        conv => whnf
        refine ⟨rfl, ?_, trivial, trivial⟩
        all_goals repeat' (first | exact True.intro | refine leF_cons rfl ?_ ?_ | refine leS_cons rfl ?_ ?_ | (show PLe _ _ _ _; conv => whnf) | (show SLe _ _ _ _; conv => whnf) | (show PLeL _ _ _ _; conv => whnf) | apply And.intro | rfl | exact Nat.le_refl _ | exact fun _ _ => rfl | exact rowEq0 _ _)
      · conv => whnf
        have he : errC c i = 0 := by
          rw [hj, hj1] at hc4
          unfold errC; rw [if_neg (by omega), if_neg h0, if_neg hle, if_neg (by rw [hc4]; decide)]
        refine ⟨?_, i + 1, ⟨by omega, hnext he, hall' he⟩, ?_, rfl, rfl, ?_, ?_⟩
        · (try conv => whnf)
          (repeat' (first | exact True.intro | exact fun _ h => h | refine inR64_of ?_ ?_ | apply And.intro | refine maxLen_ge ?_)) <;> (first | omega | (dsimp only; omega) | (dsimp only [List.length_cons, List.length_nil]; omega) | (intro hg; rw [hg]; rfl) | (intro hg hh; rw [hg, hh]; rfl) | (intro hg; simp [-List.getD_eq_getElem?_getD, -Int.default_eq_zero] at hg; first | omega | (refine inR64_of ?_ ?_ <;> omega) | (constructor <;> omega)) | (simp [-List.getD_eq_getElem?_getD, -Int.default_eq_zero]; done))
        · omega
        all_goals repeat' (first | exact True.intro | refine leF_cons rfl ?_ ?_ | refine leS_cons rfl ?_ ?_ | (show PLe _ _ _ _; conv => whnf) | (show SLe _ _ _ _; conv => whnf) | (show PLeL _ _ _ _; conv => whnf) | apply And.intro | rfl | exact Nat.le_refl _ | exact fun _ _ => rfl | exact rowEq0 _ _)
        all_goals omega
    · replace hc := of_decide_eq_false hc
      have hz : scan (errC c) 0 c.length = 0 := by rw [← hs, show c.length - i = 0 by omega]; rfl
      rw [hz]
      conv => whnf
      refine ⟨?_, [], ?_⟩
      · (try conv => whnf)
        (repeat' (first | exact True.intro | exact fun _ h => h | refine inR64_of ?_ ?_ | apply And.intro | refine maxLen_ge ?_)) <;> (first | omega | (dsimp only; omega) | (dsimp only [List.length_cons, List.length_nil]; omega) | (intro hg; rw [hg]; rfl) | (intro hg hh; rw [hg, hh]; rfl) | (intro hg; simp [-List.getD_eq_getElem?_getD, -Int.default_eq_zero] at hg; first | omega | (refine inR64_of ?_ ?_ <;> omega) | (constructor <;> omega)) | (simp [-List.getD_eq_getElem?_getD, -Int.default_eq_zero]; done))
      conv => whnf
      refine ⟨rfl, ?_, trivial, trivial⟩
      all_goals repeat' (first | exact True.intro | refine leF_cons rfl ?_ ?_ | refine leS_cons rfl ?_ ?_ | (show PLe _ _ _ _; conv => whnf) | (show SLe _ _ _ _; conv => whnf) | (show PLeL _ _ _ _; conv => whnf) | apply And.intro | rfl | exact Nat.le_refl _ | exact fun _ _ => rfl | exact rowEq0 _ _)
end Pv
end Go.Proofs.Ytedoglkonfckkaa
