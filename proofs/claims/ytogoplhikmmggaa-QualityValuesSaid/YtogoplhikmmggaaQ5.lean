/- LAW 08, THE WALKS, 5: drifts. -/
import Derived.Test.YtogoplhikmmggaaQ4
set_option linter.unusedSimpArgs false
set_option linter.unusedVariables false
namespace Go.Proofs.Ytogoplhikmmggaa
namespace Pv
def c21L1 : C := (.seq (.reg [⟨(some 42), 672, none, .bi false .lss (.t 41) (.t 40)⟩])
  (.seq (.cond (.t 42) .skip (.exit 1))
  (.seq (.block 2 (.seq (.reg [⟨(some 43), 688, none, .mv (.t 41)⟩,
    ⟨(some 44), 704, none, .ia 1 (.t 39) (.t 41)⟩,
    ⟨(some 45), 720, none, .ld 1 false (.t 44)⟩,
    ⟨(some 11), 176, none, .mv (.t 43)⟩,
    ⟨(some 12), 192, none, .mv (.t 45)⟩])
  (.seq (.reg [⟨(some 46), 736, none, .mv (.t 12)⟩])
  (.cond (.t 46) (.drw [⟨(some 47), 752, none, .mv (.t 9)⟩,
    ⟨(some 48), 768, none, .mv (.t 1)⟩,
    ⟨(some 49), 784, none, .mv (.t 11)⟩,
    ⟨(some 50), 800, none, .ia 1 (.t 48) (.t 49)⟩,
    ⟨(some 51), 816, none, .ld 1 false (.t 50)⟩,
    ⟨(some 52), 832, none, .bi false .add (.t 47) (.t 51)⟩,
    ⟨(some 53), 848, none, .mv (.t 0)⟩,
    ⟨(some 54), 864, none, .mv (.t 11)⟩,
    ⟨(some 55), 880, none, .ia 1 (.t 53) (.t 54)⟩,
    ⟨(some 56), 896, none, .ld 1 false (.t 55)⟩,
    ⟨(some 57), 912, none, .bi false .sub (.t 52) (.t 56)⟩,
    ⟨(some 58), 928, none, .mv (.t 10)⟩,
    ⟨(some 59), 944, none, .bi false .add (.t 58) (.c (.int .i64 1))⟩,
    ⟨(some 9), 144, none, .mv (.t 57)⟩,
    ⟨(some 10), 160, none, .mv (.t 59)⟩]
    [(0, 1, 47), (0, 2, 47), (0, 3, 47), (0, 4, 47), (0, 6, 47), (0, 7, 47), (0, 8, 47), (0, 9, 47), (0, 11, 47), (0, 12, 47), (1, 2, 48), (1, 6, 48), (1, 7, 48), (1, 8, 48), (1, 9, 48), (1, 11, 48), (1, 12, 48), (2, 6, 49), (2, 7, 49), (2, 8, 49), (2, 9, 49), (2, 11, 49), (2, 12, 49), (3, 6, 50), (3, 7, 50), (3, 8, 50), (3, 9, 50), (3, 11, 50), (3, 12, 50), (4, 6, 51), (4, 7, 51), (4, 8, 51), (4, 9, 51), (4, 11, 51), (4, 12, 51), (5, 6, 52), (5, 7, 52), (5, 8, 52), (5, 9, 52), (5, 11, 52), (5, 12, 52), (6, 7, 53), (6, 11, 53), (6, 12, 53), (7, 11, 54), (7, 12, 54), (8, 11, 55), (8, 12, 55), (9, 11, 56), (9, 12, 56), (10, 11, 57), (10, 12, 57), (11, 13, 58), (12, 13, 59)]) .skip))))
  (.reg [⟨(some 60), 960, none, .bi false .add (.t 41) (.c (.int .i64 1))⟩,
    ⟨(some 41), 656, none, .mv (.t 60)⟩]))))
def c21 : C := (.seq (.reg [⟨(some 6), 96, none, .mv (.c (.int .i64 0))⟩,
    ⟨(some 7), 112, none, .mv (.c (.bool false))⟩,
    ⟨(some 8), 128, none, .mv (.c (.int .i64 0))⟩])
  (.seq (.block 0 (.seq (.reg [⟨(some 14), 224, none, .mv (.t 0)⟩,
    ⟨(some 15), 240, none, .len (.t 14)⟩,
    ⟨(some 16), 256, none, .mv (.t 1)⟩,
    ⟨(some 17), 272, none, .len (.t 16)⟩,
    ⟨(some 18), 288, none, .bi false .neq (.t 15) (.t 17)⟩,
    ⟨(some 19), 304, none, .mv (.t 18)⟩,
    ⟨(some 20), 320, (some (19, false)), .mv (.t 0)⟩,
    ⟨(some 21), 336, (some (19, false)), .len (.t 20)⟩,
    ⟨(some 22), 352, (some (19, false)), .mv (.t 2)⟩,
    ⟨(some 23), 368, (some (19, false)), .len (.t 22)⟩,
    ⟨(some 24), 384, (some (19, false)), .bi false .neq (.t 21) (.t 23)⟩,
    ⟨(some 25), 400, none, .pick (.t 19) (.c (.bool true)) (.t 24)⟩,
    ⟨(some 13), 208, none, .mv (.t 25)⟩])
  (.cond (.t 13) (.seq (.reg [⟨(some 6), 96, none, .mv (.c (.int .i64 0))⟩,
    ⟨(some 7), 112, none, .mv (.c (.bool false))⟩,
    ⟨(some 8), 128, none, .mv (.c (.int .i64 3))⟩])
  .ret) (.seq (.reg [⟨(some 27), 432, none, .mv (.t 0)⟩,
    ⟨(some 28), 448, none, .call (.c (.fn (.func 33) [] [])) [(.t 27)]⟩,
    ⟨(some 29), 464, none, .un false .not (.t 28)⟩,
    ⟨(some 30), 480, none, .mv (.t 29)⟩,
    ⟨(some 31), 496, (some (30, false)), .mv (.t 1)⟩,
    ⟨(some 32), 512, (some (30, false)), .call (.c (.fn (.func 33) [] [])) [(.t 31)]⟩,
    ⟨(some 33), 528, (some (30, false)), .un false .not (.t 32)⟩,
    ⟨(some 34), 544, none, .pick (.t 30) (.c (.bool true)) (.t 33)⟩,
    ⟨(some 26), 416, none, .mv (.t 34)⟩])
  (.cond (.t 26) (.seq (.reg [⟨(some 6), 96, none, .mv (.c (.int .i64 0))⟩,
    ⟨(some 7), 112, none, .mv (.c (.bool false))⟩,
    ⟨(some 8), 128, none, .mv (.c (.int .i64 1))⟩])
  .ret) (.seq (.reg [⟨(some 36), 576, none, .mv (.t 0)⟩,
    ⟨(some 37), 592, none, .len (.t 36)⟩,
    ⟨(some 38), 608, none, .bi false .gtr (.t 37) (.c (.int .i64 4096))⟩,
    ⟨(some 35), 560, none, .mv (.t 38)⟩])
  (.cond (.t 35) (.seq (.reg [⟨(some 6), 96, none, .mv (.c (.int .i64 0))⟩,
    ⟨(some 7), 112, none, .mv (.c (.bool false))⟩,
    ⟨(some 8), 128, none, .mv (.c (.int .i64 10))⟩])
  .ret) .skip)))))))
  (.seq (.reg [⟨(some 9), 144, none, .mv (.c (.int .i64 0))⟩,
    ⟨(some 10), 160, none, .mv (.c (.int .i64 0))⟩])
  (.seq (.seq (.reg [⟨(some 39), 624, none, .mv (.t 2)⟩,
    ⟨(some 40), 640, none, .len (.t 39)⟩,
    ⟨(some 41), 656, none, .mv (.c (.int .i64 0))⟩])
  (.block 1 (.loop c21L1)))
  (.seq (.seq (.reg [⟨(some 61), 976, none, .mv (.t 10)⟩,
    ⟨(some 62), 992, none, .bi false .eql (.t 61) (.c (.int .i64 0))⟩])
  (.cond (.t 62) (.seq (.reg [⟨(some 6), 96, none, .mv (.c (.int .i64 0))⟩,
    ⟨(some 7), 112, none, .mv (.c (.bool false))⟩,
    ⟨(some 8), 128, none, .mv (.c (.int .i64 0))⟩])
  .ret) .skip))
  (.seq (.reg [⟨(some 63), 1008, none, .mv (.t 9)⟩,
    ⟨(some 64), 1024, none, .mv (.t 10)⟩,
    ⟨(some 65), 1040, none, .call (.c (.fn (.func 36) [] [])) [(.t 63), (.t 64)]⟩,
    ⟨(some 6), 96, none, .mv (.t 65)⟩,
    ⟨(some 7), 112, none, .mv (.c (.bool true))⟩,
    ⟨(some 8), 128, none, .mv (.c (.int .i64 0))⟩])
  .ret))))))
theorem fits21 : fits Try.prog false Try.f21 3 66 [(6, none), (7, none), (8, none)] = some c21.er := by kernel_rfl

def cntG (g : List Bool) : Nat → Nat
  | 0 => 0
  | n + 1 => if g.getD n default = true then cntG g n + 1 else cntG g n
def sumG (a b : List Int) (g : List Bool) : Nat → Int
  | 0 => 0
  | n + 1 => if g.getD n default = true then sumG a b g n + b.getD n default - a.getD n default else sumG a b g n
theorem cntG_le (g : List Bool) : ∀ n, cntG g n ≤ n
  | 0 => Nat.le_refl _
  | n + 1 => by
    have := cntG_le g n
    unfold cntG; split <;> omega
theorem sumG_rng {a b : List Int} {g : List Bool} {m : Nat} (ha : ∀ i, i < m → 0 ≤ a.getD i default ∧ a.getD i default ≤ 1073741824) (hb : ∀ i, i < m → 0 ≤ b.getD i default ∧ b.getD i default ≤ 1073741824) : ∀ n, n ≤ m → -(1073741824 * (n : Int)) ≤ sumG a b g n ∧ sumG a b g n ≤ 1073741824 * (n : Int)
  | 0, _ => by unfold sumG; omega
  | n + 1, h => by
    have := sumG_rng (g := g) ha hb n (by omega)
    have := ha n (by omega)
    have := hb n (by omega)
    unfold sumG; split <;> omega
def driftF (a b : List Int) (g : List Bool) : Int × Bool × Int :=
  if a.length ≠ b.length ∨ a.length ≠ g.length then (0, false, 3) else if flowsF a = false ∨ flowsF b = false then (0, false, 1)
  else if 4096 < a.length then (0, false, 10) else if cntG g g.length = 0 then (0, false, 0) else (sumG a b g g.length / cntG g g.length, true, 0)

set_option maxRecDepth 100000 in
set_option maxHeartbeats 4000000 in
theorem call21 (τ τ' τ'' : Nat) (a b : List Int) (g : List Bool) (hl : a.length ≤ 4611686018427387904) (hl2 : b.length ≤ 4611686018427387904) : PureCall Try.prog 21 [.sl τ 1 a.length (fl eInt a), .sl τ' 1 b.length (fl eInt b), .sl τ'' 1 g.length (fl eBool g)] [] ⟨.tup [.int .i64 (driftF a b g).1, .bool (driftF a b g).2.1, .int .i64 (driftF a b g).2.2], [], []⟩ := by
  refine pure_call mix Try.func21 fits21 rfl ?_
  conv => whnf
  refine ⟨?_, fun hc => ?_, fun hc => ?_⟩
  · (try conv => whnf)
    (repeat' (first | exact True.intro | exact fun _ h => h | refine inR64_of ?_ ?_ | apply And.intro | refine maxLen_ge ?_)) <;> (first | omega | (dsimp only; omega) | (dsimp only [List.length_cons, List.length_nil]; omega) | (intro hg; rw [hg]; rfl) | (intro hg hh; rw [hg, hh]; rfl) | (intro hg; simp [-List.getD_eq_getElem?_getD, -Int.default_eq_zero] at hg; first | omega | (refine inR64_of ?_ ?_ <;> omega) | (constructor <;> omega)) | (simp [-List.getD_eq_getElem?_getD, -Int.default_eq_zero]; done))
  · simp only [bif_t, bif_f, decide_eq_true_eq, decide_eq_false_iff_not, Bool.not_eq_true', Bool.not_eq_false', Bool.and_eq_true, Bool.or_eq_true, Bool.and_eq_false_iff, Bool.or_eq_false_iff, beq_iff_eq, bne_iff_ne, beq_eq_false_iff_ne, bne_eq_false_iff_eq, reduceCtorEq, false_and, and_false, true_and, and_true, or_false, false_or, or_true, true_or, not_true_eq_false, not_false_eq_true, Int.toNat_zero] at hc
    rw [show driftF a b g = (0, false, 3) by unfold driftF; rw [if_pos (by omega)]]
    conv => whnf
    refine ⟨?_, [], ?_⟩
    · (try conv => whnf)
      (repeat' (first | exact True.intro | exact fun _ h => h | refine inR64_of ?_ ?_ | apply And.intro | refine maxLen_ge ?_)) <;> (first | omega | (dsimp only; omega) | (dsimp only [List.length_cons, List.length_nil]; omega) | (intro hg; rw [hg]; rfl) | (intro hg hh; rw [hg, hh]; rfl) | (intro hg; simp [-List.getD_eq_getElem?_getD, -Int.default_eq_zero] at hg; first | omega | (refine inR64_of ?_ ?_ <;> omega) | (constructor <;> omega)) | (simp [-List.getD_eq_getElem?_getD, -Int.default_eq_zero]; done))
    conv => whnf
    refine ⟨rfl, ?_, trivial, trivial⟩
    all_goals repeat' (first | exact True.intro | refine leF_cons rfl ?_ ?_ | refine leS_cons rfl ?_ ?_ | (show PLe _ _ _ _; conv => whnf) | (show SLe _ _ _ _; conv => whnf) | (show PLeL _ _ _ _; conv => whnf) | apply And.intro | rfl | exact Nat.le_refl _ | exact fun _ _ => rfl | exact rowEq0 _ _)
  simp only [bif_t, bif_f, decide_eq_true_eq, decide_eq_false_iff_not, Bool.not_eq_true', Bool.not_eq_false', Bool.and_eq_true, Bool.or_eq_true, Bool.and_eq_false_iff, Bool.or_eq_false_iff, beq_iff_eq, bne_iff_ne, beq_eq_false_iff_ne, bne_eq_false_iff_eq, reduceCtorEq, false_and, and_false, true_and, and_true, or_false, false_or, or_true, true_or, not_true_eq_false, not_false_eq_true, Int.toNat_zero] at hc
  have hl1 : a.length = b.length := by omega
  have hl2 : a.length = g.length := by omega
  conv => whnf
  refine ⟨_, fun _ => call33 _ a (by omega), ?_⟩
  cases hfa : flowsF a with
  | false =>
    rw [show driftF a b g = (0, false, 1) by unfold driftF; rw [if_neg (by omega), if_pos (.inl hfa)]]
    conv => whnf
    refine ⟨⟨.bool false, [], []⟩, fun h => absurd h (by decide), ?_⟩
    conv => whnf
    refine ⟨?_, fun _ => ?_, fun hc => absurd hc (by decide)⟩
    · (try conv => whnf)
      (repeat' (first | exact True.intro | exact fun _ h => h | refine inR64_of ?_ ?_ | apply And.intro | refine maxLen_ge ?_)) <;> (first | omega | (dsimp only; omega) | (dsimp only [List.length_cons, List.length_nil]; omega) | (intro hg; rw [hg]; rfl) | (intro hg hh; rw [hg, hh]; rfl) | (intro hg; simp [-List.getD_eq_getElem?_getD, -Int.default_eq_zero] at hg; first | omega | (refine inR64_of ?_ ?_ <;> omega) | (constructor <;> omega)) | (simp [-List.getD_eq_getElem?_getD, -Int.default_eq_zero]; done))
    conv => whnf
    refine ⟨?_, [], ?_⟩
    · (try conv => whnf)
      (repeat' (first | exact True.intro | exact fun _ h => h | refine inR64_of ?_ ?_ | apply And.intro | refine maxLen_ge ?_)) <;> (first | omega | (dsimp only; omega) | (dsimp only [List.length_cons, List.length_nil]; omega) | (intro hg; rw [hg]; rfl) | (intro hg hh; rw [hg, hh]; rfl) | (intro hg; simp [-List.getD_eq_getElem?_getD, -Int.default_eq_zero] at hg; first | omega | (refine inR64_of ?_ ?_ <;> omega) | (constructor <;> omega)) | (simp [-List.getD_eq_getElem?_getD, -Int.default_eq_zero]; done))
    conv => whnf
    refine ⟨rfl, ?_, trivial, trivial⟩
    all_goals repeat' (first | exact True.intro | refine leF_cons rfl ?_ ?_ | refine leS_cons rfl ?_ ?_ | (show PLe _ _ _ _; conv => whnf) | (show SLe _ _ _ _; conv => whnf) | (show PLeL _ _ _ _; conv => whnf) | apply And.intro | rfl | exact Nat.le_refl _ | exact fun _ _ => rfl | exact rowEq0 _ _)
  | true =>
  conv => whnf
  refine ⟨_, fun _ => call33 _ b (by omega), ?_⟩
  cases hfb : flowsF b with
  | false =>
    rw [show driftF a b g = (0, false, 1) by unfold driftF; rw [if_neg (by omega), if_pos (.inr hfb)]]
    conv => whnf
    refine ⟨?_, fun _ => ?_, fun hc => absurd hc (by decide)⟩
    · (try conv => whnf)
      (repeat' (first | exact True.intro | exact fun _ h => h | refine inR64_of ?_ ?_ | apply And.intro | refine maxLen_ge ?_)) <;> (first | omega | (dsimp only; omega) | (dsimp only [List.length_cons, List.length_nil]; omega) | (intro hg; rw [hg]; rfl) | (intro hg hh; rw [hg, hh]; rfl) | (intro hg; simp [-List.getD_eq_getElem?_getD, -Int.default_eq_zero] at hg; first | omega | (refine inR64_of ?_ ?_ <;> omega) | (constructor <;> omega)) | (simp [-List.getD_eq_getElem?_getD, -Int.default_eq_zero]; done))
    conv => whnf
    refine ⟨?_, [], ?_⟩
    · (try conv => whnf)
      (repeat' (first | exact True.intro | exact fun _ h => h | refine inR64_of ?_ ?_ | apply And.intro | refine maxLen_ge ?_)) <;> (first | omega | (dsimp only; omega) | (dsimp only [List.length_cons, List.length_nil]; omega) | (intro hg; rw [hg]; rfl) | (intro hg hh; rw [hg, hh]; rfl) | (intro hg; simp [-List.getD_eq_getElem?_getD, -Int.default_eq_zero] at hg; first | omega | (refine inR64_of ?_ ?_ <;> omega) | (constructor <;> omega)) | (simp [-List.getD_eq_getElem?_getD, -Int.default_eq_zero]; done))
    conv => whnf
    refine ⟨rfl, ?_, trivial, trivial⟩
    all_goals repeat' (first | exact True.intro | refine leF_cons rfl ?_ ?_ | refine leS_cons rfl ?_ ?_ | (show PLe _ _ _ _; conv => whnf) | (show SLe _ _ _ _; conv => whnf) | (show PLeL _ _ _ _; conv => whnf) | apply And.intro | rfl | exact Nat.le_refl _ | exact fun _ _ => rfl | exact rowEq0 _ _)
  | true =>
  have hA := (flowsF_iff a).1 hfa
  have hB := (flowsF_iff b).1 hfb
  conv => whnf
  refine ⟨?_, fun hc => absurd hc (by decide), fun _ => ?_⟩
  · (try conv => whnf)
    (repeat' (first | exact True.intro | exact fun _ h => h | refine inR64_of ?_ ?_ | apply And.intro | refine maxLen_ge ?_)) <;> (first | omega | (dsimp only; omega) | (dsimp only [List.length_cons, List.length_nil]; omega) | (intro hg; rw [hg]; rfl) | (intro hg hh; rw [hg, hh]; rfl) | (intro hg; simp [-List.getD_eq_getElem?_getD, -Int.default_eq_zero] at hg; first | omega | (refine inR64_of ?_ ?_ <;> omega) | (constructor <;> omega)) | (simp [-List.getD_eq_getElem?_getD, -Int.default_eq_zero]; done))
  conv => whnf
  refine ⟨trivial, fun hc3 => ?_, fun hc3 => ?_⟩
  · replace hc3 := of_decide_eq_true hc3
    rw [show driftF a b g = (0, false, 10) by unfold driftF; rw [if_neg (by omega), if_neg (by rw [hfa, hfb]; decide), if_pos (by omega)]]
    conv => whnf
    refine ⟨?_, [], ?_⟩
    · (try conv => whnf)
      (repeat' (first | exact True.intro | exact fun _ h => h | refine inR64_of ?_ ?_ | apply And.intro | refine maxLen_ge ?_)) <;> (first | omega | (dsimp only; omega) | (dsimp only [List.length_cons, List.length_nil]; omega) | (intro hg; rw [hg]; rfl) | (intro hg hh; rw [hg, hh]; rfl) | (intro hg; simp [-List.getD_eq_getElem?_getD, -Int.default_eq_zero] at hg; first | omega | (refine inR64_of ?_ ?_ <;> omega) | (constructor <;> omega)) | (simp [-List.getD_eq_getElem?_getD, -Int.default_eq_zero]; done))
    conv => whnf
    refine ⟨rfl, ?_, trivial, trivial⟩
    all_goals repeat' (first | exact True.intro | refine leF_cons rfl ?_ ?_ | refine leS_cons rfl ?_ ?_ | (show PLe _ _ _ _; conv => whnf) | (show SLe _ _ _ _; conv => whnf) | (show PLeL _ _ _ _; conv => whnf) | apply And.intro | rfl | exact Nat.le_refl _ | exact fun _ _ => rfl | exact rowEq0 _ _)
  replace hc3 := of_decide_eq_false hc3
  have hd : driftF a b g = if cntG g g.length = 0 then (0, false, 0) else (sumG a b g g.length / cntG g g.length, true, 0) := by
    unfold driftF; rw [if_neg (by omega), if_neg (by rw [hfa, hfb]; decide), if_neg (by omega)]
  rw [hd]
  conv => whnf
  refine ⟨trivial, ?_⟩
  refine LSem.loop (n := 66) mix (α := Nat) (fun i => i ≤ g.length)
    (fun i => [(0, .sl τ 1 a.length (fl eInt a)), (1, .sl τ' 1 b.length (fl eInt b)), (2, .sl τ'' 1 g.length (fl eBool g)), (9, .int .i64 (sumG a b g i)), (10, .int .i64 (cntG g i)), (39, .sl τ'' 1 g.length (fl eBool g)), (40, .int .i64 g.length), (41, .int .i64 i)])
    (fun i => []) (fun i => g.length - i) 0 ?_ ?_ ?_
  · exact Nat.zero_le _
  · refine ⟨rfl, rfl, ?_, ?_⟩
    all_goals repeat' (first | exact True.intro | refine leF_cons rfl ?_ ?_ | refine leS_cons rfl ?_ ?_ | (show PLe _ _ _ _; conv => whnf) | (show SLe _ _ _ _; conv => whnf) | (show PLeL _ _ _ _; conv => whnf) | apply And.intro | rfl | exact Nat.le_refl _ | exact fun _ _ => rfl | exact rowEq0 _ _)
  · intro i hi
    have hj : ((i : Int)).toNat = i := by omega
    have hcl := cntG_le g i
    have hsr := sumG_rng (g := g) (m := g.length) (fun j h => hA j (by omega)) (fun j h => hB j (by omega)) i hi
    conv => whnf
    refine ⟨trivial, fun hc2 => ?_, fun hc2 => ?_⟩
    · replace hc2 := of_decide_eq_true hc2
      have hlt : i < g.length := by omega
      have hai := hA i (by omega)
      have hbi := hB i (by omega)
      conv => whnf
      refine ⟨?_, fun hc3 => ?_, fun hc3 => ?_⟩
      · (try conv => whnf)
        (repeat' (first | exact True.intro | exact fun _ h => h | refine inR64_of ?_ ?_ | apply And.intro | refine maxLen_ge ?_)) <;> (first | omega | (dsimp only; omega) | (dsimp only [List.length_cons, List.length_nil]; omega) | (intro hg; rw [hg]; rfl) | (intro hg hh; rw [hg, hh]; rfl) | (intro hg; simp [-List.getD_eq_getElem?_getD, -Int.default_eq_zero] at hg; first | omega | (refine inR64_of ?_ ?_ <;> omega) | (constructor <;> omega)) | (simp [-List.getD_eq_getElem?_getD, -Int.default_eq_zero]; done))
      · rw [hj] at hc3
        have h1 : cntG g (i + 1) = cntG g i + 1 := by rw [cntG, if_pos hc3]
        have h2 : sumG a b g (i + 1) = sumG a b g i + b.getD i default - a.getD i default := by rw [sumG, if_pos hc3]
        conv => whnf
        refine ⟨rfl, ?_⟩
        conv => whnf
        refine ⟨?_, i + 1, (by omega : i + 1 ≤ g.length), ?_, rfl, rfl, ?_, ?_⟩
        · rw [hj]
          (try conv => whnf)
          (repeat' (first | exact True.intro | exact fun _ h => h | refine inR64_of ?_ ?_ | apply And.intro | refine maxLen_ge ?_)) <;> (first | omega | (dsimp only; omega) | (dsimp only [List.length_cons, List.length_nil]; omega) | (intro hg; rw [hg]; rfl) | (intro hg hh; rw [hg, hh]; rfl) | (intro hg; simp [-List.getD_eq_getElem?_getD, -Int.default_eq_zero] at hg; first | omega | (refine inR64_of ?_ ?_ <;> omega) | (constructor <;> omega)) | (simp [-List.getD_eq_getElem?_getD, -Int.default_eq_zero]; done))
        · omega
        all_goals repeat' (first | exact True.intro | refine leF_cons rfl ?_ ?_ | refine leS_cons rfl ?_ ?_ | (show PLe _ _ _ _; conv => whnf) | (show SLe _ _ _ _; conv => whnf) | (show PLeL _ _ _ _; conv => whnf) | apply And.intro | rfl | exact Nat.le_refl _ | exact fun _ _ => rfl | exact rowEq0 _ _)
        all_goals (try rw [hj])
        all_goals omega
      · rw [hj] at hc3
        have h1 : cntG g (i + 1) = cntG g i := by rw [cntG, if_neg (by rw [hc3]; decide)]
        have h2 : sumG a b g (i + 1) = sumG a b g i := by rw [sumG, if_neg (by rw [hc3]; decide)]
        conv => whnf
        refine ⟨?_, i + 1, (by omega : i + 1 ≤ g.length), ?_, rfl, rfl, ?_, ?_⟩
        · (try conv => whnf)
          (repeat' (first | exact True.intro | exact fun _ h => h | refine inR64_of ?_ ?_ | apply And.intro | refine maxLen_ge ?_)) <;> (first | omega | (dsimp only; omega) | (dsimp only [List.length_cons, List.length_nil]; omega) | (intro hg; rw [hg]; rfl) | (intro hg hh; rw [hg, hh]; rfl) | (intro hg; simp [-List.getD_eq_getElem?_getD, -Int.default_eq_zero] at hg; first | omega | (refine inR64_of ?_ ?_ <;> omega) | (constructor <;> omega)) | (simp [-List.getD_eq_getElem?_getD, -Int.default_eq_zero]; done))
        · omega
        all_goals repeat' (first | exact True.intro | refine leF_cons rfl ?_ ?_ | refine leS_cons rfl ?_ ?_ | (show PLe _ _ _ _; conv => whnf) | (show SLe _ _ _ _; conv => whnf) | (show PLeL _ _ _ _; conv => whnf) | apply And.intro | rfl | exact Nat.le_refl _ | exact fun _ _ => rfl | exact rowEq0 _ _)
        all_goals omega
    · replace hc2 := of_decide_eq_false hc2
      have : i = g.length := by omega
      subst this
      generalize cntG g g.length = N at hcl ⊢
      generalize sumG a b g g.length = S at hsr ⊢
      conv => whnf
      refine ⟨trivial, fun hc3 => ?_, fun hc3 => ?_⟩
      · simp only [bif_t, bif_f, decide_eq_true_eq, decide_eq_false_iff_not, Bool.not_eq_true', Bool.not_eq_false', Bool.and_eq_true, Bool.or_eq_true, Bool.and_eq_false_iff, Bool.or_eq_false_iff, beq_iff_eq, bne_iff_ne, beq_eq_false_iff_ne, bne_eq_false_iff_eq, reduceCtorEq, false_and, and_false, true_and, and_true, or_false, false_or, or_true, true_or, not_true_eq_false, not_false_eq_true, Int.toNat_zero] at hc3
        rw [if_pos (by omega)]
        conv => whnf
        refine ⟨?_, [], ?_⟩
        · (try conv => whnf)
          (repeat' (first | exact True.intro | exact fun _ h => h | refine inR64_of ?_ ?_ | apply And.intro | refine maxLen_ge ?_)) <;> (first | omega | (dsimp only; omega) | (dsimp only [List.length_cons, List.length_nil]; omega) | (intro hg; rw [hg]; rfl) | (intro hg hh; rw [hg, hh]; rfl) | (intro hg; simp [-List.getD_eq_getElem?_getD, -Int.default_eq_zero] at hg; first | omega | (refine inR64_of ?_ ?_ <;> omega) | (constructor <;> omega)) | (simp [-List.getD_eq_getElem?_getD, -Int.default_eq_zero]; done))
        conv => whnf
        refine ⟨rfl, ?_, trivial, trivial⟩
        all_goals repeat' (first | exact True.intro | refine leF_cons rfl ?_ ?_ | refine leS_cons rfl ?_ ?_ | (show PLe _ _ _ _; conv => whnf) | (show SLe _ _ _ _; conv => whnf) | (show PLeL _ _ _ _; conv => whnf) | apply And.intro | rfl | exact Nat.le_refl _ | exact fun _ _ => rfl | exact rowEq0 _ _)
      · simp only [bif_t, bif_f, decide_eq_true_eq, decide_eq_false_iff_not, Bool.not_eq_true', Bool.not_eq_false', Bool.and_eq_true, Bool.or_eq_true, Bool.and_eq_false_iff, Bool.or_eq_false_iff, beq_iff_eq, bne_iff_ne, beq_eq_false_iff_ne, bne_eq_false_iff_eq, reduceCtorEq, false_and, and_false, true_and, and_true, or_false, false_or, or_true, true_or, not_true_eq_false, not_false_eq_true, Int.toNat_zero] at hc3
        rw [if_neg (by omega)]
        conv => whnf
        refine ⟨_, fun _ => call36 S N (by omega) (by omega), ?_⟩
        conv => whnf
        refine ⟨?_, [], ?_⟩
        · (try conv => whnf)
          (repeat' (first | exact True.intro | exact fun _ h => h | refine inR64_of ?_ ?_ | apply And.intro | refine maxLen_ge ?_)) <;> (first | omega | (dsimp only; omega) | (dsimp only [List.length_cons, List.length_nil]; omega) | (intro hg; rw [hg]; rfl) | (intro hg hh; rw [hg, hh]; rfl) | (intro hg; simp [-List.getD_eq_getElem?_getD, -Int.default_eq_zero] at hg; first | omega | (refine inR64_of ?_ ?_ <;> omega) | (constructor <;> omega)) | (simp [-List.getD_eq_getElem?_getD, -Int.default_eq_zero]; done))
        conv => whnf
        refine ⟨rfl, ?_, trivial, trivial⟩
        all_goals repeat' (first | exact True.intro | refine leF_cons rfl ?_ ?_ | refine leS_cons rfl ?_ ?_ | (show PLe _ _ _ _; conv => whnf) | (show SLe _ _ _ _; conv => whnf) | (show PLeL _ _ _ _; conv => whnf) | apply And.intro | rfl | exact Nat.le_refl _ | exact fun _ _ => rfl | exact rowEq0 _ _)
end Pv
end Go.Proofs.Ytogoplhikmmggaa
