/- LAW 02, THE WALKS, 2: values of a curve. -/
import Derived.Test.YtedoglkonfckkaaC1
set_option linter.unusedSimpArgs false
set_option linter.unusedVariables false
namespace Go.Proofs.Ytedoglkonfckkaa
namespace Pv

/-- A valid curve. -/
structure GoodC (c : List Pt) : Prop where
  ne : 0 < c.length
  le : c.length ≤ 100
  rng : ∀ i, i < c.length → 0 ≤ (c.getD i default).x ∧ (c.getD i default).x ≤ 1073741824 ∧ 0 ≤ (c.getD i default).y ∧ (c.getD i default).y ≤ 274877906944
  up : ∀ i, 0 < i → i < c.length → (c.getD (i - 1) default).x < (c.getD i default).x ∧ (c.getD (i - 1) default).y ≤ (c.getD i default).y ∧
    ((c.getD i default).y - (c.getD (i - 1) default).y) * ((c.getD i default).x - (c.getD (i - 1) default).x) ≤ 4611686018427387904

theorem errC_zero (c : List Pt) (i : Nat) : errC c i = 0 ↔ (0 ≤ (c.getD i default).x ∧ (c.getD i default).x ≤ 1073741824 ∧ 0 ≤ (c.getD i default).y ∧ (c.getD i default).y ≤ 274877906944) ∧ (0 < i → (c.getD (i - 1) default).x < (c.getD i default).x ∧ (c.getD (i - 1) default).y ≤ (c.getD i default).y ∧
    ((c.getD i default).y - (c.getD (i - 1) default).y) * ((c.getD i default).x - (c.getD (i - 1) default).x) ≤ 4611686018427387904) := by
  unfold errC
  by_cases h1 : ¬ (0 ≤ (c.getD i default).x ∧ (c.getD i default).x ≤ 1073741824) ∨ ¬ (0 ≤ (c.getD i default).y ∧ (c.getD i default).y ≤ 274877906944)
  · rw [if_pos h1]; constructor
    · intro h; cases h
    · intro h; omega
  rw [if_neg h1]
  by_cases h2 : i = 0
  · rw [if_pos h2]; constructor
    · intro _; exact ⟨by omega, fun h => by omega⟩
    · intro _; rfl
  rw [if_neg h2]
  by_cases h3 : (c.getD i default).x ≤ (c.getD (i - 1) default).x ∨ (c.getD i default).y < (c.getD (i - 1) default).y
  · rw [if_pos h3]; constructor
    · intro h; cases h
    · intro h; have := h.2 (by omega); omega
  rw [if_neg h3]
  have hpos : 0 < (c.getD i default).x - (c.getD (i - 1) default).x := by omega
  have key := Int.le_ediv_iff_mul_le (a := (c.getD i default).y - (c.getD (i - 1) default).y) (b := 4611686018427387904) hpos
  unfold steepF
  by_cases h4 : 0 < (c.getD i default).x - (c.getD (i - 1) default).x ∧ (c.getD i default).y - (c.getD (i - 1) default).y > 4611686018427387904 / ((c.getD i default).x - (c.getD (i - 1) default).x)
  · rw [if_pos (decide_eq_true h4)]; constructor
    · intro h; cases h
    · intro h; have := (h.2 (by omega)).2.2; have := key.2 this; omega
  · rw [if_neg (by rw [decide_eq_false h4]; decide)]; constructor
    · intro _; exact ⟨by omega, fun _ => ⟨by omega, by omega, key.1 (by omega)⟩⟩
    · intro _; rfl

theorem scan_all {f : Nat → Int} : ∀ {i n : Nat}, (∀ k, i ≤ k → k < i + n → f k = 0) → scan f i n = 0
  | i, 0, _ => rfl
  | i, n + 1, h => by
    rw [scan_step (by omega) (h i (by omega) (by omega))]
    exact scan_all fun k h1 h2 => h k (by omega) (by omega)

theorem check_good (c : List Pt) : checkC c = 0 ↔ GoodC c := by
  unfold checkC
  by_cases h1 : c.length = 0
  · rw [if_pos h1]; constructor
    · intro h; cases h
    · intro h; have := h.ne; omega
  rw [if_neg h1]
  by_cases h2 : c.length > 100
  · rw [if_pos h2]; constructor
    · intro h; cases h
    · intro h; have := h.le; omega
  rw [if_neg h2]
  constructor
  · intro h
    have hz := fun i (hi : i < c.length) => (errC_zero c i).1 (scan_zero h i (by omega) (by omega))
    exact ⟨by omega, by omega, fun i hi => (hz i hi).1, fun i h0 hi => (hz i hi).2 h0⟩
  · intro h
    exact scan_all fun k _ hk => (errC_zero c k).2 ⟨h.rng k (by omega), fun h0 => h.up k h0 (by omega)⟩

def c21L1 : C := (.seq (.reg [⟨(some 11), 176, none, .bi false .lss (.t 10) (.t 9)⟩])
  (.seq (.cond (.t 11) .skip (.exit 0))
  (.seq (.block 1 (.seq (.reg [⟨(some 12), 192, none, .mv (.t 10)⟩,
    ⟨(some 13), 208, none, .ia 2 (.t 8) (.t 10)⟩,
    ⟨(some 14), 224, none, .ld 2 true (.t 13)⟩,
    ⟨(some 6), 96, none, .al [(.int .i64 0), (.int .i64 0)]⟩,
    ⟨(some 5), 80, none, .mv (.t 12)⟩,
    ⟨none, 0, none, .st 2 (.t 6) (.t 14)⟩])
  (.block 2 (.seq (.reg [⟨(some 16), 256, none, .mv (.t 1)⟩,
    ⟨(some 17), 272, none, .fa 0 (.t 6)⟩,
    ⟨(some 18), 288, none, .ld 1 false (.t 17)⟩,
    ⟨(some 19), 304, none, .bi false .leq (.t 16) (.t 18)⟩,
    ⟨(some 20), 320, none, .mv (.t 19)⟩,
    ⟨(some 21), 336, (some (20, true)), .mv (.t 5)⟩,
    ⟨(some 22), 352, (some (20, true)), .bi false .eql (.t 21) (.c (.int .i64 0))⟩,
    ⟨(some 23), 368, none, .pick (.t 20) (.t 22) (.c (.bool false))⟩,
    ⟨(some 15), 240, none, .mv (.t 23)⟩])
  (.cond (.t 15) (.seq (.reg [⟨(some 24), 384, none, .fa 1 (.t 6)⟩,
    ⟨(some 25), 400, none, .ld 1 false (.t 24)⟩,
    ⟨(some 4), 64, none, .mv (.t 25)⟩])
  .ret) (.seq (.reg [⟨(some 27), 432, none, .mv (.t 1)⟩,
    ⟨(some 28), 448, none, .fa 0 (.t 6)⟩,
    ⟨(some 29), 464, none, .ld 1 false (.t 28)⟩,
    ⟨(some 30), 480, none, .bi false .leq (.t 27) (.t 29)⟩,
    ⟨(some 26), 416, none, .mv (.t 30)⟩])
  (.cond (.t 26) (.seq (.reg [⟨(some 31), 496, none, .mv (.t 0)⟩,
    ⟨(some 32), 512, none, .mv (.t 5)⟩,
    ⟨(some 33), 528, none, .bi false .sub (.t 32) (.c (.int .i64 1))⟩,
    ⟨(some 34), 544, none, .ia 2 (.t 31) (.t 33)⟩,
    ⟨(some 35), 560, none, .ld 2 true (.t 34)⟩,
    ⟨(some 7), 112, none, .al [(.int .i64 0), (.int .i64 0)]⟩,
    ⟨none, 0, none, .st 2 (.t 7) (.t 35)⟩])
  (.seq (.drw [⟨(some 36), 576, none, .fa 1 (.t 7)⟩,
    ⟨(some 37), 592, none, .ld 1 false (.t 36)⟩,
    ⟨(some 38), 608, none, .fa 1 (.t 6)⟩,
    ⟨(some 39), 624, none, .ld 1 false (.t 38)⟩,
    ⟨(some 40), 640, none, .fa 1 (.t 7)⟩,
    ⟨(some 41), 656, none, .ld 1 false (.t 40)⟩,
    ⟨(some 42), 672, none, .bi false .sub (.t 39) (.t 41)⟩,
    ⟨(some 43), 688, none, .mv (.t 1)⟩,
    ⟨(some 44), 704, none, .fa 0 (.t 7)⟩,
    ⟨(some 45), 720, none, .ld 1 false (.t 44)⟩,
    ⟨(some 46), 736, none, .bi false .sub (.t 43) (.t 45)⟩,
    ⟨(some 47), 752, none, .bi false .mul (.t 42) (.t 46)⟩,
    ⟨(some 48), 768, none, .fa 0 (.t 6)⟩,
    ⟨(some 49), 784, none, .ld 1 false (.t 48)⟩,
    ⟨(some 50), 800, none, .fa 0 (.t 7)⟩,
    ⟨(some 51), 816, none, .ld 1 false (.t 50)⟩,
    ⟨(some 52), 832, none, .bi false .sub (.t 49) (.t 51)⟩,
    ⟨(some 53), 848, none, .bi false .quo (.t 47) (.t 52)⟩,
    ⟨(some 54), 864, none, .bi false .add (.t 37) (.t 53)⟩,
    ⟨(some 4), 64, none, .mv (.t 54)⟩]
    [(0, 2, 36), (0, 3, 36), (0, 4, 36), (0, 5, 36), (0, 6, 36), (0, 7, 36), (0, 8, 36), (0, 9, 36), (0, 10, 36), (0, 11, 36), (0, 12, 36), (0, 13, 36), (0, 14, 36), (0, 15, 36), (0, 16, 36), (0, 17, 36), (1, 2, 37), (1, 3, 37), (1, 4, 37), (1, 5, 37), (1, 6, 37), (1, 7, 37), (1, 8, 37), (1, 9, 37), (1, 10, 37), (1, 11, 37), (1, 12, 37), (1, 13, 37), (1, 14, 37), (1, 15, 37), (1, 16, 37), (1, 17, 37), (2, 4, 38), (2, 5, 38), (2, 7, 38), (2, 8, 38), (2, 9, 38), (2, 10, 38), (2, 12, 38), (2, 13, 38), (2, 14, 38), (2, 15, 38), (2, 16, 38), (3, 4, 39), (3, 5, 39), (3, 7, 39), (3, 8, 39), (3, 9, 39), (3, 10, 39), (3, 12, 39), (3, 13, 39), (3, 14, 39), (3, 15, 39), (3, 16, 39), (4, 7, 40), (4, 8, 40), (4, 9, 40), (4, 10, 40), (4, 12, 40), (4, 13, 40), (4, 14, 40), (4, 15, 40), (4, 16, 40), (5, 7, 41), (5, 8, 41), (5, 9, 41), (5, 10, 41), (5, 12, 41), (5, 13, 41), (5, 14, 41), (5, 15, 41), (5, 16, 41), (6, 7, 42), (6, 8, 42), (6, 9, 42), (6, 10, 42), (6, 12, 42), (6, 13, 42), (6, 14, 42), (6, 15, 42), (6, 16, 42), (7, 8, 43), (7, 9, 43), (7, 12, 43), (7, 13, 43), (7, 14, 43), (7, 15, 43), (7, 16, 43), (8, 12, 44), (8, 13, 44), (8, 14, 44), (8, 15, 44), (8, 16, 44), (9, 12, 45), (9, 13, 45), (9, 14, 45), (9, 15, 45), (9, 16, 45), (10, 12, 46), (10, 13, 46), (10, 14, 46), (10, 15, 46), (10, 16, 46), (11, 12, 47), (11, 13, 47), (11, 14, 47), (11, 15, 47), (11, 16, 47), (12, 14, 48), (12, 15, 48), (13, 14, 49), (13, 15, 49)])
  .ret)) .skip)))))))
  (.reg [⟨(some 55), 880, none, .bi false .add (.t 10) (.c (.int .i64 1))⟩,
    ⟨(some 10), 160, none, .mv (.t 55)⟩]))))
def c21 : C := (.seq (.reg [⟨(some 4), 64, none, .mv (.c (.int .i64 0))⟩])
  (.seq (.seq (.reg [⟨(some 8), 128, none, .mv (.t 0)⟩,
    ⟨(some 9), 144, none, .len (.t 8)⟩,
    ⟨(some 10), 160, none, .mv (.c (.int .i64 0))⟩])
  (.block 0 (.loop c21L1)))
  (.seq (.reg [⟨(some 56), 896, none, .mv (.t 0)⟩,
    ⟨(some 57), 912, none, .mv (.t 0)⟩,
    ⟨(some 58), 928, none, .len (.t 57)⟩,
    ⟨(some 59), 944, none, .bi false .sub (.t 58) (.c (.int .i64 1))⟩,
    ⟨(some 60), 960, none, .ia 2 (.t 56) (.t 59)⟩,
    ⟨(some 61), 976, none, .fa 1 (.t 60)⟩,
    ⟨(some 62), 992, none, .ld 1 false (.t 61)⟩,
    ⟨(some 4), 64, none, .mv (.t 62)⟩])
  .ret)))
theorem fits21 : fits Try.prog false Try.f21 2 63 [(4, none)] = some c21.er := by kernel_rfl
def c12 : C := (.seq (.reg [⟨(some 4), 64, none, .mv (.c (.int .i64 0))⟩,
    ⟨(some 5), 80, none, .mv (.c (.int .i64 0))⟩])
  (.seq (.seq (.reg [⟨(some 7), 112, none, .mv (.t 0)⟩,
    ⟨(some 8), 128, none, .call (.c (.fn (.func 20) [] [])) [(.t 7)]⟩,
    ⟨(some 6), 96, none, .mv (.t 8)⟩])
  (.seq (.reg [⟨(some 9), 144, none, .mv (.t 6)⟩,
    ⟨(some 10), 160, none, .bi false .neq (.t 9) (.c (.int .i64 0))⟩])
  (.cond (.t 10) (.seq (.reg [⟨(some 11), 176, none, .mv (.t 6)⟩,
    ⟨(some 4), 64, none, .mv (.c (.int .i64 0))⟩,
    ⟨(some 5), 80, none, .mv (.t 11)⟩])
  .ret) .skip)))
  (.seq (.reg [⟨(some 12), 192, none, .mv (.t 0)⟩,
    ⟨(some 13), 208, none, .mv (.t 1)⟩,
    ⟨(some 14), 224, none, .call (.c (.fn (.func 21) [] [])) [(.t 12), (.t 13)]⟩,
    ⟨(some 4), 64, none, .mv (.t 14)⟩,
    ⟨(some 5), 80, none, .mv (.c (.int .i64 0))⟩])
  .ret)))
theorem fits12 : fits Try.prog false Try.f12 2 15 [(4, none), (5, none)] = some c12.er := by kernel_rfl

def lineF (p q : Pt) (x : Int) : Int := q.y + ((p.y - q.y) * (x - q.x)) / (p.x - q.x)
def valA (c : List Pt) (x : Int) : Nat → Nat → Int
  | _, 0 => (c.getD (c.length - 1) default).y
  | i, n + 1 => if x ≤ (c.getD i default).x then (if i = 0 then (c.getD i default).y else lineF (c.getD i default) (c.getD (i - 1) default) x) else valA c x (i + 1) n
def valC (c : List Pt) (x : Int) : Int := valA c x 0 c.length

theorem prod_le {a b A B : Int} (h0 : 0 ≤ a) (h1 : a ≤ A) (h2 : 0 ≤ b) (h3 : b ≤ B) (h : A * B ≤ 4611686018427387904) : 0 ≤ a * b ∧ a * b ≤ 4611686018427387904 := by
  have := mul_rng h0 h1 h2 h3; omega

set_option maxHeartbeats 4000000 in
theorem call21 (τ : Nat) (c : List Pt) (x : Int) (hg : GoodC c) : PureCall Try.prog 21 [.sl τ 2 c.length (fl ePt c), .int .i64 x] [] ⟨.int .i64 (valC c x), [], []⟩ := by
  have hle := hg.le
  have hne := hg.ne
  refine pure_call mix Try.func21 fits21 rfl ?_
  conv => whnf
  refine ⟨trivial, ?_⟩
  refine LSem.loop (n := 63) mix (α := Nat) (fun i => i ≤ c.length ∧ valA c x i (c.length - i) = valC c x ∧ (0 < i → (c.getD (i - 1) default).x < x))
    (fun i => [(0, .sl τ 2 c.length (fl ePt c)), (1, .int .i64 x), (8, .sl τ 2 c.length (fl ePt c)), (9, .int .i64 c.length), (10, .int .i64 i)])
    (fun _ => []) (fun i => c.length - i) 0 ?_ ?_ ?_
  · exact ⟨Nat.zero_le _, rfl, fun h => by omega⟩
  · refine ⟨rfl, rfl, ?_, ?_⟩
    all_goals repeat' (first | exact True.intro | refine leF_cons rfl ?_ ?_ | refine leS_cons rfl ?_ ?_ | (show PLe _ _ _ _; conv => whnf) | (show SLe _ _ _ _; conv => whnf) | (show PLeL _ _ _ _; conv => whnf) | apply And.intro | rfl | exact Nat.le_refl _ | exact fun _ _ => rfl | exact rowEq0 _ _)
  · intro i hi
    obtain ⟨hi, hs, hx⟩ := hi
    have hj : ((i : Int)).toNat = i := by omega
    conv => whnf
    refine ⟨trivial, fun hc => ?_, fun hc => ?_⟩
    · replace hc := of_decide_eq_true hc
      have hlt : i < c.length := by omega
      have hst : valA c x i (c.length - i) = if x ≤ (c.getD i default).x then (if i = 0 then (c.getD i default).y else lineF (c.getD i default) (c.getD (i - 1) default) x) else valA c x (i + 1) (c.length - (i + 1)) := by
        rw [show c.length - i = (c.length - (i + 1)) + 1 by omega]; rfl
      rw [hst] at hs
      conv => whnf
      refine ⟨?_, fun hc1 => ?_, fun hc1 => ?_⟩
      · (try conv => whnf)
        (repeat' (first | exact True.intro | exact fun _ h => h | refine inR64_of ?_ ?_ | apply And.intro | refine maxLen_ge ?_)) <;> (first | omega | (dsimp only; omega) | (dsimp only [List.length_cons, List.length_nil]; omega) | (intro hg; rw [hg]; rfl) | (intro hg hh; rw [hg, hh]; rfl) | (intro hg; simp [-List.getD_eq_getElem?_getD, -Int.default_eq_zero] at hg; first | omega | (refine inR64_of ?_ ?_ <;> omega) | (constructor <;> omega)) | (simp [-List.getD_eq_getElem?_getD, -Int.default_eq_zero]; done))
      · rw [hj] at hc1
        simp only [bif_t, bif_f, decide_eq_true_eq, decide_eq_false_iff_not, Bool.not_eq_true', Bool.not_eq_false', Bool.and_eq_true, Bool.or_eq_true, Bool.and_eq_false_iff, Bool.or_eq_false_iff, beq_iff_eq, bne_iff_ne, beq_eq_false_iff_ne, bne_eq_false_iff_eq, reduceCtorEq, false_and, and_false, true_and, and_true, or_false, false_or, or_true, true_or, not_true_eq_false, not_false_eq_true, Int.toNat_zero] at hc1
        rw [if_pos (by omega), if_pos (by omega)] at hs
        rw [← hs]
        conv => whnf
        refine ⟨?_, [], ?_⟩
        · (try conv => whnf)
          (repeat' (first | exact True.intro | exact fun _ h => h | refine inR64_of ?_ ?_ | apply And.intro | refine maxLen_ge ?_)) <;> (first | omega | (dsimp only; omega) | (dsimp only [List.length_cons, List.length_nil]; omega) | (intro hg; rw [hg]; rfl) | (intro hg hh; rw [hg, hh]; rfl) | (intro hg; simp [-List.getD_eq_getElem?_getD, -Int.default_eq_zero] at hg; first | omega | (refine inR64_of ?_ ?_ <;> omega) | (constructor <;> omega)) | (simp [-List.getD_eq_getElem?_getD, -Int.default_eq_zero]; done))
        conv => whnf
        refine ⟨rfl, ?_, trivial, trivial⟩
        all_goals repeat' (first | exact True.intro | refine leF_cons rfl ?_ ?_ | refine leS_cons rfl ?_ ?_ | (show PLe _ _ _ _; conv => whnf) | (show SLe _ _ _ _; conv => whnf) | (show PLeL _ _ _ _; conv => whnf) | apply And.intro | rfl | exact Nat.le_refl _ | exact fun _ _ => rfl | exact rowEq0 _ _)
        all_goals rw [hj]
      rw [hj] at hc1
      simp only [bif_t, bif_f, decide_eq_true_eq, decide_eq_false_iff_not, Bool.not_eq_true', Bool.not_eq_false', Bool.and_eq_true, Bool.or_eq_true, Bool.and_eq_false_iff, Bool.or_eq_false_iff, beq_iff_eq, bne_iff_ne, beq_eq_false_iff_ne, bne_eq_false_iff_eq, reduceCtorEq, false_and, and_false, true_and, and_true, or_false, false_or, or_true, true_or, not_true_eq_false, not_false_eq_true, Int.toNat_zero] at hc1
      conv => whnf
      refine ⟨trivial, fun hc2 => ?_, fun hc2 => ?_⟩
      · have hc2 := of_decide_eq_true hc2
        rw [hj] at hc2
        have h0 : ¬ i = 0 := by omega
        have hj1 : ((i : Int) - 1).toNat = i - 1 := by omega
        rw [if_pos hc2, if_neg h0] at hs
        rw [← hs]
        have hr := hg.rng i hlt
        have hr1 := hg.rng (i - 1) (by omega)
        have hu := hg.up i (by omega) hlt
        have hxx := hx (by omega)
        conv => whnf
        refine ⟨rfl, ?_⟩
        conv => whnf
        have hp : 0 ≤ ((c.getD ((i : Int)).toNat default).y - (c.getD ((i : Int) - 1).toNat default).y) * (x - (c.getD ((i : Int) - 1).toNat default).x) ∧ ((c.getD ((i : Int)).toNat default).y - (c.getD ((i : Int) - 1).toNat default).y) * (x - (c.getD ((i : Int) - 1).toNat default).x) ≤ 4611686018427387904 := by
          rw [hj, hj1]
          exact prod_le (by omega) (Int.le_refl _) (by omega) (by omega) hu.2.2
        have hq : Int.tdiv (((c.getD ((i : Int)).toNat default).y - (c.getD ((i : Int) - 1).toNat default).y) * (x - (c.getD ((i : Int) - 1).toNat default).x)) ((c.getD ((i : Int)).toNat default).x - (c.getD ((i : Int) - 1).toNat default).x) = (((c.getD ((i : Int)).toNat default).y - (c.getD ((i : Int) - 1).toNat default).y) * (x - (c.getD ((i : Int) - 1).toNat default).x)) / ((c.getD ((i : Int)).toNat default).x - (c.getD ((i : Int) - 1).toNat default).x) := Int.tdiv_eq_ediv_of_nonneg hp.1
        have hq2 : 0 ≤ (((c.getD ((i : Int)).toNat default).y - (c.getD ((i : Int) - 1).toNat default).y) * (x - (c.getD ((i : Int) - 1).toNat default).x)) / ((c.getD ((i : Int)).toNat default).x - (c.getD ((i : Int) - 1).toNat default).x) := Int.ediv_nonneg hp.1 (by rw [hj, hj1]; omega)
        have hq3 : (((c.getD ((i : Int)).toNat default).y - (c.getD ((i : Int) - 1).toNat default).y) * (x - (c.getD ((i : Int) - 1).toNat default).x)) / ((c.getD ((i : Int)).toNat default).x - (c.getD ((i : Int) - 1).toNat default).x) ≤ ((c.getD ((i : Int)).toNat default).y - (c.getD ((i : Int) - 1).toNat default).y) := by
          rw [hj, hj1]
          refine Int.ediv_le_of_le_mul (by omega) (Int.mul_le_mul_of_nonneg_left (by omega) (by omega))
        refine ⟨?_, [], ?_⟩
        · rw [hq]
          rw [hj, hj1] at hq2 hq3 hp ⊢
          (try conv => whnf)
          (repeat' (first | exact True.intro | exact fun _ h => h | refine inR64_of ?_ ?_ | apply And.intro | refine maxLen_ge ?_)) <;> (first | omega | (dsimp only; omega) | (dsimp only [List.length_cons, List.length_nil]; omega) | (intro hg; rw [hg]; rfl) | (intro hg hh; rw [hg, hh]; rfl) | (intro hg; simp [-List.getD_eq_getElem?_getD, -Int.default_eq_zero] at hg; first | omega | (refine inR64_of ?_ ?_ <;> omega) | (constructor <;> omega)) | (simp [-List.getD_eq_getElem?_getD, -Int.default_eq_zero]; done))
        conv => whnf
        refine ⟨rfl, ?_, trivial, trivial⟩
        all_goals repeat' (first | exact True.intro | refine leF_cons rfl ?_ ?_ | refine leS_cons rfl ?_ ?_ | (show PLe _ _ _ _; conv => whnf) | (show SLe _ _ _ _; conv => whnf) | (show PLeL _ _ _ _; conv => whnf) | apply And.intro | rfl | exact Nat.le_refl _ | exact fun _ _ => rfl | exact rowEq0 _ _)
        rw [hq, hj, hj1]; rfl
      · have hc2 := of_decide_eq_false hc2
        rw [hj] at hc2
        rw [if_neg (by omega)] at hs
        conv => whnf
        refine ⟨?_, i + 1, ⟨by omega, hs, fun _ => by simp [-List.getD_eq_getElem?_getD]; omega⟩, ?_, rfl, rfl, ?_, ?_⟩
        · (try conv => whnf)
          (repeat' (first | exact True.intro | exact fun _ h => h | refine inR64_of ?_ ?_ | apply And.intro | refine maxLen_ge ?_)) <;> (first | omega | (dsimp only; omega) | (dsimp only [List.length_cons, List.length_nil]; omega) | (intro hg; rw [hg]; rfl) | (intro hg hh; rw [hg, hh]; rfl) | (intro hg; simp [-List.getD_eq_getElem?_getD, -Int.default_eq_zero] at hg; first | omega | (refine inR64_of ?_ ?_ <;> omega) | (constructor <;> omega)) | (simp [-List.getD_eq_getElem?_getD, -Int.default_eq_zero]; done))
        · omega
        all_goals repeat' (first | exact True.intro | refine leF_cons rfl ?_ ?_ | refine leS_cons rfl ?_ ?_ | (show PLe _ _ _ _; conv => whnf) | (show SLe _ _ _ _; conv => whnf) | (show PLeL _ _ _ _; conv => whnf) | apply And.intro | rfl | exact Nat.le_refl _ | exact fun _ _ => rfl | exact rowEq0 _ _)
        all_goals omega
    · replace hc := of_decide_eq_false hc
      have := hg.ne
      rw [show c.length - i = 0 by omega] at hs
      rw [← hs]
      conv => whnf
      refine ⟨?_, [], ?_⟩
      · (try conv => whnf)
        (repeat' (first | exact True.intro | exact fun _ h => h | refine inR64_of ?_ ?_ | apply And.intro | refine maxLen_ge ?_)) <;> (first | omega | (dsimp only; omega) | (dsimp only [List.length_cons, List.length_nil]; omega) | (intro hg; rw [hg]; rfl) | (intro hg hh; rw [hg, hh]; rfl) | (intro hg; simp [-List.getD_eq_getElem?_getD, -Int.default_eq_zero] at hg; first | omega | (refine inR64_of ?_ ?_ <;> omega) | (constructor <;> omega)) | (simp [-List.getD_eq_getElem?_getD, -Int.default_eq_zero]; done))
      conv => whnf
      refine ⟨rfl, ?_, trivial, trivial⟩
      all_goals repeat' (first | exact True.intro | refine leF_cons rfl ?_ ?_ | refine leS_cons rfl ?_ ?_ | (show PLe _ _ _ _; conv => whnf) | (show SLe _ _ _ _; conv => whnf) | (show PLeL _ _ _ _; conv => whnf) | apply And.intro | rfl | exact Nat.le_refl _ | exact fun _ _ => rfl | exact rowEq0 _ _)
      rw [show ((c.length : Int) - 1).toNat = c.length - 1 by omega]; rfl

def atC (c : List Pt) (x : Int) : Int × Int := if checkC c = 0 then (valC c x, 0) else (0, checkC c)
theorem call12 (τ : Nat) (c : List Pt) (x : Int) : PureCall Try.prog 12 [.sl τ 2 c.length (fl ePt c), .int .i64 x] [] ⟨.tup [.int .i64 (atC c x).1, .int .i64 (atC c x).2], [], []⟩ := by
  refine pure_call mix Try.func12 fits12 rfl ?_
  conv => whnf
  refine ⟨_, fun _ => call20 _ c, ?_⟩
  conv => whnf
  refine ⟨?_, fun hc => ?_, fun hc => ?_⟩
  · (try conv => whnf)
    (repeat' (first | exact True.intro | exact fun _ h => h | refine inR64_of ?_ ?_ | apply And.intro | refine maxLen_ge ?_)) <;> (first | omega | (dsimp only; omega) | (dsimp only [List.length_cons, List.length_nil]; omega) | (intro hg; rw [hg]; rfl) | (intro hg hh; rw [hg, hh]; rfl) | (intro hg; simp [-List.getD_eq_getElem?_getD, -Int.default_eq_zero] at hg; first | omega | (refine inR64_of ?_ ?_ <;> omega) | (constructor <;> omega)) | (simp [-List.getD_eq_getElem?_getD, -Int.default_eq_zero]; done))
  · simp only [bif_t, bif_f, decide_eq_true_eq, decide_eq_false_iff_not, Bool.not_eq_true', Bool.not_eq_false', Bool.and_eq_true, Bool.or_eq_true, Bool.and_eq_false_iff, Bool.or_eq_false_iff, beq_iff_eq, bne_iff_ne, beq_eq_false_iff_ne, bne_eq_false_iff_eq, reduceCtorEq, false_and, and_false, true_and, and_true, or_false, false_or, or_true, true_or, not_true_eq_false, not_false_eq_true, Int.toNat_zero] at hc
    unfold atC; rw [if_neg hc]
    conv => whnf
    refine ⟨?_, [], ?_⟩
    · (try conv => whnf)
      (repeat' (first | exact True.intro | exact fun _ h => h | refine inR64_of ?_ ?_ | apply And.intro | refine maxLen_ge ?_)) <;> (first | omega | (dsimp only; omega) | (dsimp only [List.length_cons, List.length_nil]; omega) | (intro hg; rw [hg]; rfl) | (intro hg hh; rw [hg, hh]; rfl) | (intro hg; simp [-List.getD_eq_getElem?_getD, -Int.default_eq_zero] at hg; first | omega | (refine inR64_of ?_ ?_ <;> omega) | (constructor <;> omega)) | (simp [-List.getD_eq_getElem?_getD, -Int.default_eq_zero]; done))
    conv => whnf
    refine ⟨rfl, ?_, trivial, trivial⟩
    all_goals repeat' (first | exact True.intro | refine leF_cons rfl ?_ ?_ | refine leS_cons rfl ?_ ?_ | (show PLe _ _ _ _; conv => whnf) | (show SLe _ _ _ _; conv => whnf) | (show PLeL _ _ _ _; conv => whnf) | apply And.intro | rfl | exact Nat.le_refl _ | exact fun _ _ => rfl | exact rowEq0 _ _)
  · simp only [bif_t, bif_f, decide_eq_true_eq, decide_eq_false_iff_not, Bool.not_eq_true', Bool.not_eq_false', Bool.and_eq_true, Bool.or_eq_true, Bool.and_eq_false_iff, Bool.or_eq_false_iff, beq_iff_eq, bne_iff_ne, beq_eq_false_iff_ne, bne_eq_false_iff_eq, reduceCtorEq, false_and, and_false, true_and, and_true, or_false, false_or, or_true, true_or, not_true_eq_false, not_false_eq_true, Int.toNat_zero] at hc
    unfold atC; rw [if_pos hc]
    conv => whnf
    refine ⟨_, fun _ => call21 _ c x ((check_good c).1 hc), ?_⟩
    conv => whnf
    refine ⟨?_, [], ?_⟩
    · (try conv => whnf)
      (repeat' (first | exact True.intro | exact fun _ h => h | refine inR64_of ?_ ?_ | apply And.intro | refine maxLen_ge ?_)) <;> (first | omega | (dsimp only; omega) | (dsimp only [List.length_cons, List.length_nil]; omega) | (intro hg; rw [hg]; rfl) | (intro hg hh; rw [hg, hh]; rfl) | (intro hg; simp [-List.getD_eq_getElem?_getD, -Int.default_eq_zero] at hg; first | omega | (refine inR64_of ?_ ?_ <;> omega) | (constructor <;> omega)) | (simp [-List.getD_eq_getElem?_getD, -Int.default_eq_zero]; done))
    conv => whnf
    refine ⟨rfl, ?_, trivial, trivial⟩
    all_goals repeat' (first | exact True.intro | refine leF_cons rfl ?_ ?_ | refine leS_cons rfl ?_ ?_ | (show PLe _ _ _ _; conv => whnf) | (show SLe _ _ _ _; conv => whnf) | (show PLeL _ _ _ _; conv => whnf) | apply And.intro | rfl | exact Nat.le_refl _ | exact fun _ _ => rfl | exact rowEq0 _ _)
end Pv
end Go.Proofs.Ytedoglkonfckkaa
