/- LAW 08: QualityDrifts. -/
import Derived.Test.YtogoplhikmmggaaQ5
set_option linter.unusedSimpArgs false
set_option linter.unusedVariables false
namespace Go.Proofs.Ytogoplhikmmggaa
namespace Pv
def c6L1 : C := (.seq (.reg [⟨(some 31), 496, none, .bi false .lss (.t 30) (.t 29)⟩])
  (.seq (.cond (.t 31) .skip (.exit 0))
  (.seq (.block 1 (.seq (.reg [⟨(some 32), 512, none, .mv (.t 30)⟩,
    ⟨(some 33), 528, none, .ia 1 (.t 28) (.t 30)⟩,
    ⟨(some 34), 544, none, .ld 1 false (.t 33)⟩,
    ⟨(some 11), 176, none, .mv (.t 32)⟩,
    ⟨(some 12), 192, none, .mv (.t 34)⟩])
  (.seq (.reg [⟨(some 35), 560, none, .mv (.t 9)⟩,
    ⟨(some 36), 576, none, .mv (.t 12)⟩,
    ⟨(some 37), 592, none, .mv (.t 8)⟩,
    ⟨(some 38), 608, none, .bi false .add (.t 36) (.t 37)⟩,
    ⟨(some 39), 624, none, .bs 3 1 [(.t 38)]⟩,
    ⟨(some 40), 640, none, .app 3 1 8 (.t 35) (.t 39)⟩,
    ⟨(some 9), 144, none, .mv (.t 40)⟩])
  (.reg [⟨(some 41), 656, none, .mv (.t 10)⟩,
    ⟨(some 42), 672, none, .mv (.t 41)⟩,
    ⟨(some 43), 688, (some (42, false)), .mv (.t 7)⟩,
    ⟨(some 44), 704, (some (42, false)), .mv (.t 11)⟩,
    ⟨(some 45), 720, (some (42, false)), .ia 1 (.t 43) (.t 44)⟩,
    ⟨(some 46), 736, (some (42, false)), .ld 1 false (.t 45)⟩,
    ⟨(some 47), 752, none, .pick (.t 42) (.c (.bool true)) (.t 46)⟩,
    ⟨(some 10), 160, none, .mv (.t 47)⟩]))))
  (.reg [⟨(some 48), 768, none, .bi false .add (.t 30) (.c (.int .i64 1))⟩,
    ⟨(some 30), 480, none, .mv (.t 48)⟩]))))
def c6 : C := (.seq (.reg [⟨(some 4), 64, none, .mv (.c (.bool false))⟩])
  (.seq (.reg [⟨(some 19), 304, none, .mv (.t 0)⟩,
    ⟨(some 20), 320, none, .call (.c (.fn (.func 11) [] [])) [(.t 19)]⟩,
    ⟨(some 5), 80, none, .mv (.t 20)⟩])
  (.seq (.reg [⟨(some 22), 352, none, .mv (.t 5)⟩,
    ⟨(some 23), 368, none, .call (.c (.fn (.func 12) [] [])) [(.t 22), (.c (.int .i64 12))]⟩,
    ⟨(some 21), 336, none, .mv (.t 23)⟩,
    ⟨(some 24), 384, none, .ex (.t 21) 0⟩,
    ⟨(some 25), 400, none, .ex (.t 21) 1⟩,
    ⟨(some 6), 96, none, .mv (.t 24)⟩,
    ⟨(some 7), 112, none, .mv (.t 25)⟩])
  (.seq (.reg [⟨(some 26), 416, none, .mv (.t 1)⟩,
    ⟨(some 27), 432, none, .call (.c (.fn (.func 15) [] [])) [(.t 26), (.c (.int .i64 40))]⟩,
    ⟨(some 8), 128, none, .mv (.t 27)⟩])
  (.seq (.reg [⟨(some 9), 144, none, .mv (.c (.nil 1))⟩])
  (.seq (.reg [⟨(some 10), 160, none, .mv (.c (.bool false))⟩])
  (.seq (.seq (.reg [⟨(some 28), 448, none, .mv (.t 6)⟩,
    ⟨(some 29), 464, none, .len (.t 28)⟩,
    ⟨(some 30), 480, none, .mv (.c (.int .i64 0))⟩])
  (.block 0 (.loop c6L1)))
  (.seq (.reg [⟨(some 50), 800, none, .mv (.t 6)⟩,
    ⟨(some 51), 816, none, .mv (.t 9)⟩,
    ⟨(some 52), 832, none, .mv (.t 7)⟩,
    ⟨(some 53), 848, none, .call (.c (.fn (.func 21) [] [])) [(.t 50), (.t 51), (.t 52)]⟩,
    ⟨(some 49), 784, none, .mv (.t 53)⟩,
    ⟨(some 54), 864, none, .ex (.t 49) 0⟩,
    ⟨(some 55), 880, none, .ex (.t 49) 1⟩,
    ⟨(some 56), 896, none, .ex (.t 49) 2⟩,
    ⟨(some 13), 208, none, .mv (.t 54)⟩,
    ⟨(some 14), 224, none, .mv (.t 55)⟩,
    ⟨(some 15), 240, none, .mv (.t 56)⟩])
  (.seq (.reg [⟨(some 58), 928, none, .mv (.t 9)⟩,
    ⟨(some 59), 944, none, .mv (.t 6)⟩,
    ⟨(some 60), 960, none, .mv (.t 7)⟩,
    ⟨(some 61), 976, none, .call (.c (.fn (.func 21) [] [])) [(.t 58), (.t 59), (.t 60)]⟩,
    ⟨(some 57), 912, none, .mv (.t 61)⟩,
    ⟨(some 62), 992, none, .ex (.t 57) 0⟩,
    ⟨(some 63), 1008, none, .ex (.t 57) 1⟩,
    ⟨(some 64), 1024, none, .ex (.t 57) 2⟩,
    ⟨(some 16), 256, none, .mv (.t 62)⟩,
    ⟨(some 17), 272, none, .mv (.t 63)⟩,
    ⟨(some 18), 288, none, .mv (.t 64)⟩])
  (.seq (.seq (.reg [⟨(some 65), 1040, none, .mv (.t 10)⟩,
    ⟨(some 66), 1056, none, .un false .not (.t 65)⟩])
  (.cond (.t 66) (.reg [⟨(some 8), 128, none, .mv (.c (.int .i64 0))⟩]) .skip))
  (.seq (.reg [⟨(some 67), 1072, none, .mv (.t 15)⟩,
    ⟨(some 68), 1088, none, .bi false .eql (.t 67) (.c (.int .i64 0))⟩,
    ⟨(some 69), 1104, none, .mv (.t 68)⟩,
    ⟨(some 70), 1120, (some (69, true)), .mv (.t 18)⟩,
    ⟨(some 71), 1136, (some (69, true)), .bi false .eql (.t 70) (.c (.int .i64 0))⟩,
    ⟨(some 72), 1152, none, .pick (.t 69) (.t 71) (.c (.bool false))⟩,
    ⟨(some 73), 1168, none, .mv (.t 72)⟩,
    ⟨(some 74), 1184, (some (73, true)), .mv (.t 14)⟩,
    ⟨(some 75), 1200, (some (73, true)), .mv (.t 10)⟩,
    ⟨(some 76), 1216, (some (73, true)), .bib false (.t 74) (.t 75)⟩,
    ⟨(some 77), 1232, none, .pick (.t 73) (.t 76) (.c (.bool false))⟩,
    ⟨(some 78), 1248, none, .mv (.t 77)⟩,
    ⟨(some 79), 1264, (some (78, true)), .mv (.t 17)⟩,
    ⟨(some 80), 1280, (some (78, true)), .mv (.t 10)⟩,
    ⟨(some 81), 1296, (some (78, true)), .bib false (.t 79) (.t 80)⟩,
    ⟨(some 82), 1312, none, .pick (.t 78) (.t 81) (.c (.bool false))⟩,
    ⟨(some 83), 1328, none, .mv (.t 82)⟩,
    ⟨(some 84), 1344, (some (83, true)), .mv (.t 13)⟩,
    ⟨(some 85), 1360, (some (83, true)), .mv (.t 8)⟩,
    ⟨(some 86), 1376, (some (83, true)), .bi false .eql (.t 84) (.t 85)⟩,
    ⟨(some 87), 1392, none, .pick (.t 83) (.t 86) (.c (.bool false))⟩,
    ⟨(some 88), 1408, none, .mv (.t 87)⟩,
    ⟨(some 89), 1424, (some (88, true)), .mv (.t 16)⟩,
    ⟨(some 90), 1440, (some (88, true)), .mv (.t 8)⟩,
    ⟨(some 91), 1456, (some (88, true)), .un false .neg (.t 90)⟩,
    ⟨(some 92), 1472, (some (88, true)), .bi false .eql (.t 89) (.t 91)⟩,
    ⟨(some 93), 1488, none, .pick (.t 88) (.t 92) (.c (.bool false))⟩,
    ⟨(some 94), 1504, none, .mv (.t 93)⟩,
    ⟨(some 95), 1520, (some (94, true)), .call (.c (.fn (.func 14) [] [])) []⟩,
    ⟨(some 96), 1536, none, .pick (.t 94) (.t 95) (.c (.bool false))⟩,
    ⟨(some 4), 64, none, .mv (.t 96)⟩])
  .ret)))))))))))
theorem fits6 : fits Try.prog false Try.f6 2 97 [(4, none)] = some c6.er := by kernel_rfl

def offL (v : List Int) (n : Int) (i : Nat) : List Int := (v.take i).map (· + n)
theorem offL_len {v : List Int} {n : Int} {i : Nat} (h : i ≤ v.length) : (offL v n i).length = i := by unfold offL; rw [List.length_map, List.length_take]; omega
theorem offL_get {v : List Int} {n : Int} {i j : Nat} (h : i ≤ v.length) (hj : j < i) : (offL v n i).getD j default = v.getD j default + n := by
  unfold offL
  rw [List.getD_eq_getElem?_getD, List.getElem?_map, List.getElem?_take, if_pos hj, List.getElem?_eq_getElem (by omega), List.getD_eq_getElem?_getD, List.getElem?_eq_getElem (by omega)]; rfl
theorem offL_push {v : List Int} {n : Int} {i : Nat} (h : i < v.length) : offL v n (i + 1) = offL v n i ++ [v.getD i default + n] := by
  refine ext_getD (by rw [offL_len (by omega), List.length_append, offL_len (by omega)]; rfl) fun j hj => ?_
  rw [offL_len (by omega)] at hj
  rw [offL_get (by omega) hj, List.getD_eq_getElem?_getD (l := _ ++ _), List.getElem?_append, offL_len (by omega)]
  by_cases e : j < i
  · rw [if_pos e, ← List.getD_eq_getElem?_getD, offL_get (by omega) e]
  · rw [if_neg e, show j = i by omega, Nat.sub_self]; rfl
theorem sumG_off {v w : List Int} {g : List Bool} {n : Int} {m : Nat} (h : ∀ i, i < m → w.getD i default = v.getD i default + n) : ∀ k, k ≤ m → sumG v w g k = n * cntG g k
  | 0, _ => by simp [sumG, cntG]
  | k + 1, hk => by
    have := sumG_off (g := g) h k (by omega)
    have hw := h k (by omega)
    unfold sumG cntG; split
    · rw [this, hw]; grind
    · exact this
theorem drift_off {v w : List Int} {g : List Bool} {n : Int} (h1 : v.length = w.length) (h2 : v.length = g.length) (h3 : v.length ≤ 4096) (hv : ∀ i, i < v.length → 0 ≤ v.getD i default ∧ v.getD i default ≤ 1000)
    (hw : ∀ i, i < v.length → 0 ≤ w.getD i default ∧ w.getD i default ≤ 1000) (hn : ∀ i, i < v.length → w.getD i default = v.getD i default + n) :
    driftF v w g = (if cntG g g.length = 0 then 0 else n, decide (0 < cntG g g.length), 0) := by
  have fv : flowsF v = true := (flowsF_iff v).2 fun i hi => by have := hv i hi; omega
  have fw : flowsF w = true := (flowsF_iff w).2 fun i hi => by have := hw i (by omega); omega
  unfold driftF
  rw [if_neg (by omega), if_neg (by rw [fv, fw]; decide), if_neg (by omega), sumG_off (m := v.length) hn g.length (by omega)]
  by_cases hc : cntG g g.length = 0
  · rw [if_pos hc, if_pos hc, decide_eq_false (by omega)]
  · rw [if_neg hc, if_neg hc, decide_eq_true (by omega), Int.mul_ediv_cancel _ (by omega)]

set_option maxRecDepth 100000 in
set_option maxHeartbeats 4000000 in
theorem call6 (l : List Int) (x : Int) : PureCall Try.prog 6 [.sl 1 1 l.length (fl eInt l), .int .i64 x] [] ⟨.bool true, [], []⟩ := by
  refine pure_call mix Try.func6 fits6 rfl ?_
  conv => whnf
  refine ⟨_, fun _ => call_new 1 l, ?_⟩
  conv => whnf
  refine ⟨_, fun _ => call12 ⟨l, 0⟩ 12 (by dsimp only; omega) (by omega), ?_⟩
  obtain ⟨p1, p2, p3, p4⟩ := goods_props ⟨l, 0⟩ (most := 12) (by omega)
  generalize goodsS ⟨l, 0⟩ 12 = S at p1 p2 p3 p4 ⊢
  have hv : ∀ i, i < S.v.length → 0 ≤ S.v.getD i default ∧ S.v.getD i default < 60 := fun i hi => p3 _ (getD_mem hi)
  generalize S.v = v at p1 p2 hv ⊢
  generalize S.g = g at p1 ⊢
  generalize S.d = d
  clear p3 p4
  conv => whnf
  refine ⟨_, fun _ => call_mod x 40 (by omega) (by omega), ?_⟩
  have hn : 0 ≤ x % 40 ∧ x % 40 < 40 := by omega
  generalize x % 40 = n at hn ⊢
  conv => whnf
  refine ⟨by
    (try conv => whnf)
    (repeat' (first | exact True.intro | exact fun _ h => h | refine inR64_of ?_ ?_ | apply And.intro | refine maxLen_ge ?_)) <;> (first | omega | (dsimp only; omega) | (dsimp only [List.length_cons, List.length_nil]; omega) | (intro hg; rw [hg]; rfl) | (intro hg hh; rw [hg, hh]; rfl) | (intro hg; simp [-List.getD_eq_getElem?_getD, -Int.default_eq_zero] at hg; first | omega | (refine inR64_of ?_ ?_ <;> omega) | (constructor <;> omega)) | (simp [-List.getD_eq_getElem?_getD, -Int.default_eq_zero]; done))
    , ?_⟩
  refine LSem.adopt 9 1000000 3 1 1 rfl rfl ?_
  refine LSem.loop (n := 97) mix (α := Nat) (fun i => i ≤ v.length)
    (fun i => [(6, .sl 0 1 v.length (fl eInt v)), (7, .sl 0 1 g.length (fl eBool g)), (8, .int .i64 n), (9, .os 1000000), (10, .bool (decide (0 < cntG g i))), (28, .sl 0 1 v.length (fl eInt v)), (29, .int .i64 v.length), (30, .int .i64 i)])
    (fun i => [(1000000, .row 0 3 1 i (fl eInt (offL v n i)))]) (fun i => v.length - i) 0 ?_ ?_ ?_
  · exact Nat.zero_le _
  · refine ⟨rfl, rfl, ?_, ?_⟩
    all_goals repeat' (first | exact True.intro | refine leF_cons rfl ?_ ?_ | refine leS_cons rfl ?_ ?_ | (show PLe _ _ _ _; conv => whnf) | (show SLe _ _ _ _; conv => whnf) | (show PLeL _ _ _ _; conv => whnf) | apply And.intro | rfl | exact Nat.le_refl _ | exact fun _ _ => rfl | exact rowEq0 _ _)
  · intro i hi
    have hj : ((i : Int)).toNat = i := by omega
    conv => whnf
    refine ⟨trivial, fun hc2 => ?_, fun hc2 => ?_⟩
    · replace hc2 := of_decide_eq_true hc2
      have hlt : i < v.length := by omega
      have hvi := hv i hlt
      have hps := fl_push eInt (offL v n i) (v.getD i default + n)
      rw [← offL_push hlt, offL_len hi] at hps
      have hcg : (decide (0 < cntG g (i + 1))) = (bif decide (0 < cntG g i) then true else g.getD i default) := by
        rw [cntG]
        cases hg : g.getD i default
        · rw [if_neg (by decide)]; cases decide (0 < cntG g i) <;> rfl
        · rw [if_pos rfl, decide_eq_true (by omega)]; cases decide (0 < cntG g i) <;> rfl
      conv => whnf
      refine ⟨?_, i + 1, (by omega : i + 1 ≤ v.length), ?_, rfl, rfl, ?_, ?_⟩
      · rw [hj]
        (try conv => whnf)
        (repeat' (first | exact True.intro | exact fun _ h => h | refine inR64_of ?_ ?_ | apply And.intro | refine maxLen_ge ?_)) <;> (first | omega | (dsimp only; omega) | (dsimp only [List.length_cons, List.length_nil]; omega) | (intro hg; rw [hg]; rfl) | (intro hg hh; rw [hg, hh]; rfl) | (intro hg; simp [-List.getD_eq_getElem?_getD, -Int.default_eq_zero] at hg; first | omega | (refine inR64_of ?_ ?_ <;> omega) | (constructor <;> omega)) | (simp [-List.getD_eq_getElem?_getD, -Int.default_eq_zero]; done))
      · omega
      all_goals repeat' (first | exact True.intro | refine leF_cons rfl ?_ ?_ | refine leS_cons rfl ?_ ?_ | (show PLe _ _ _ _; conv => whnf) | (show SLe _ _ _ _; conv => whnf) | (show PLeL _ _ _ _; conv => whnf) | apply And.intro | rfl | exact Nat.le_refl _ | exact fun _ _ => rfl | exact rowEq0 _ _)
      all_goals (try rw [hj])
      all_goals first | omega | exact hps | (rw [hcg]) | skip
    · replace hc2 := of_decide_eq_false hc2
      have : i = v.length := by omega
      subst this
      have hwl := offL_len (v := v) (n := n) (Nat.le_refl _)
      have hwg : ∀ j, j < v.length → (offL v n v.length).getD j default = v.getD j default + n := fun j hj => offL_get (Nat.le_refl _) hj
      generalize offL v n v.length = w at hwl hwg ⊢
      rw [p1]
      have d1 := drift_off (v := v) (w := w) (g := g) (n := n) (by omega) (by omega) (by omega) (fun j hj => by have := hv j hj; omega) (fun j hj => by have := hv j hj; have := hwg j hj; omega) hwg
      have d2 := drift_off (v := w) (w := v) (g := g) (n := -n) (by omega) (by omega) (by omega) (fun j hj => by have := hv j (by omega); have := hwg j (by omega); omega) (fun j hj => by have := hv j (by omega); omega) (fun j hj => by have := hwg j (by omega); omega)
      have hlg : g.length = w.length := by omega
      have hsd : ∀ N : Nat, ((!decide (0 < N)) = true ↔ N = 0) := fun N => by cases N <;> simp
      by_cases hN : cntG g g.length = 0
      all_goals (first | rw [if_pos hN, decide_eq_false (by omega)] at d1 d2 | rw [if_neg hN, decide_eq_true (by omega)] at d1 d2)
      · rw [decide_eq_false (p := 0 < cntG g g.length) (by omega)]
        conv => whnf
        refine ⟨_, fun _ => PureCall.arg_le (call21 2 2 2 v w g (by omega) (by omega)) rfl (by
          all_goals repeat' (first | exact True.intro | refine leF_cons rfl ?_ ?_ | refine leS_cons rfl ?_ ?_ | (show PLe _ _ _ _; conv => whnf) | (show SLe _ _ _ _; conv => whnf) | (show PLeL _ _ _ _; conv => whnf) | apply And.intro | rfl | exact Nat.le_refl _ | exact fun _ _ => rfl | exact rowEq0 _ _)
          all_goals first | rfl | omega | exact Nat.le_refl 2 | exact Nat.zero_le _ | decide | (rw [hwl]; done) | skip), ?_⟩
        rw [d1]
        conv => whnf
        refine ⟨_, fun _ => PureCall.arg_le (call21 2 2 2 w v g (by omega) (by omega)) rfl (by
          all_goals repeat' (first | exact True.intro | refine leF_cons rfl ?_ ?_ | refine leS_cons rfl ?_ ?_ | (show PLe _ _ _ _; conv => whnf) | (show SLe _ _ _ _; conv => whnf) | (show PLeL _ _ _ _; conv => whnf) | apply And.intro | rfl | exact Nat.le_refl _ | exact fun _ _ => rfl | exact rowEq0 _ _)
          all_goals first | rfl | omega | exact Nat.le_refl 2 | exact Nat.zero_le _ | decide | (rw [hwl]; done) | skip), ?_⟩
        rw [d2]
        conv => whnf
        refine ⟨?_, fun hc => ?_, fun hc => absurd hc (by decide)⟩
        · (try conv => whnf)
          (repeat' (first | exact True.intro | exact fun _ h => h | refine inR64_of ?_ ?_ | apply And.intro | refine maxLen_ge ?_)) <;> (first | omega | (dsimp only; omega) | (dsimp only [List.length_cons, List.length_nil]; omega) | (intro hg; rw [hg]; rfl) | (intro hg hh; rw [hg, hh]; rfl) | (intro hg; simp [-List.getD_eq_getElem?_getD, -Int.default_eq_zero] at hg; first | omega | (refine inR64_of ?_ ?_ <;> omega) | (constructor <;> omega)) | (simp [-List.getD_eq_getElem?_getD, -Int.default_eq_zero]; done))
        conv => whnf
        refine ⟨_, fun _ => call14, ?_⟩
        conv => whnf
        refine ⟨?_, [], ?_⟩
        · (try conv => whnf)
          (repeat' (first | exact True.intro | exact fun _ h => h | refine inR64_of ?_ ?_ | apply And.intro | refine maxLen_ge ?_)) <;> (first | omega | (dsimp only; omega) | (dsimp only [List.length_cons, List.length_nil]; omega) | (intro hg; rw [hg]; rfl) | (intro hg hh; rw [hg, hh]; rfl) | (intro hg; simp [-List.getD_eq_getElem?_getD, -Int.default_eq_zero] at hg; first | omega | (refine inR64_of ?_ ?_ <;> omega) | (constructor <;> omega)) | (simp [-List.getD_eq_getElem?_getD, -Int.default_eq_zero]; done))
        conv => whnf
        refine ⟨rfl, ?_, trivial, trivial⟩
        all_goals repeat' (first | exact True.intro | refine leF_cons rfl ?_ ?_ | refine leS_cons rfl ?_ ?_ | (show PLe _ _ _ _; conv => whnf) | (show SLe _ _ _ _; conv => whnf) | (show PLeL _ _ _ _; conv => whnf) | apply And.intro | rfl | exact Nat.le_refl _ | exact fun _ _ => rfl | exact rowEq0 _ _)
      · rw [decide_eq_true (p := 0 < cntG g g.length) (by omega)]
        conv => whnf
        refine ⟨_, fun _ => PureCall.arg_le (call21 2 2 2 v w g (by omega) (by omega)) rfl (by
          all_goals repeat' (first | exact True.intro | refine leF_cons rfl ?_ ?_ | refine leS_cons rfl ?_ ?_ | (show PLe _ _ _ _; conv => whnf) | (show SLe _ _ _ _; conv => whnf) | (show PLeL _ _ _ _; conv => whnf) | apply And.intro | rfl | exact Nat.le_refl _ | exact fun _ _ => rfl | exact rowEq0 _ _)
          all_goals first | rfl | omega | exact Nat.le_refl 2 | exact Nat.zero_le _ | decide | (rw [hwl]; done) | skip), ?_⟩
        rw [d1]
        conv => whnf
        refine ⟨_, fun _ => PureCall.arg_le (call21 2 2 2 w v g (by omega) (by omega)) rfl (by
          all_goals repeat' (first | exact True.intro | refine leF_cons rfl ?_ ?_ | refine leS_cons rfl ?_ ?_ | (show PLe _ _ _ _; conv => whnf) | (show SLe _ _ _ _; conv => whnf) | (show PLeL _ _ _ _; conv => whnf) | apply And.intro | rfl | exact Nat.le_refl _ | exact fun _ _ => rfl | exact rowEq0 _ _)
          all_goals first | rfl | omega | exact Nat.le_refl 2 | exact Nat.zero_le _ | decide | (rw [hwl]; done) | skip), ?_⟩
        rw [d2]
        conv => whnf
        refine ⟨?_, fun hc => absurd hc (by decide), fun hc => ?_⟩
        · (try conv => whnf)
          (repeat' (first | exact True.intro | exact fun _ h => h | refine inR64_of ?_ ?_ | apply And.intro | refine maxLen_ge ?_)) <;> (first | omega | (dsimp only; omega) | (dsimp only [List.length_cons, List.length_nil]; omega) | (intro hg; rw [hg]; rfl) | (intro hg hh; rw [hg, hh]; rfl) | (intro hg; simp [-List.getD_eq_getElem?_getD, -Int.default_eq_zero] at hg; first | omega | (refine inR64_of ?_ ?_ <;> omega) | (constructor <;> omega)) | (simp [-List.getD_eq_getElem?_getD, -Int.default_eq_zero]; done))
        conv => whnf
        refine ⟨_, fun _ => call14, ?_⟩
        conv => whnf
        refine ⟨?_, [], ?_⟩
        · (try conv => whnf)
          (repeat' (first | exact True.intro | exact fun _ h => h | refine inR64_of ?_ ?_ | apply And.intro | refine maxLen_ge ?_)) <;> (first | omega | (dsimp only; omega) | (dsimp only [List.length_cons, List.length_nil]; omega) | (intro hg; rw [hg]; rfl) | (intro hg hh; rw [hg, hh]; rfl) | (intro hg; simp [-List.getD_eq_getElem?_getD, -Int.default_eq_zero] at hg; first | omega | (refine inR64_of ?_ ?_ <;> omega) | (constructor <;> omega)) | (simp [-List.getD_eq_getElem?_getD, -Int.default_eq_zero]; done))
        conv => whnf
        refine ⟨rfl, ?_, trivial, trivial⟩
        all_goals repeat' (first | exact True.intro | refine leF_cons rfl ?_ ?_ | refine leS_cons rfl ?_ ?_ | (show PLe _ _ _ _; conv => whnf) | (show SLe _ _ _ _; conv => whnf) | (show PLeL _ _ _ _; conv => whnf) | apply And.intro | rfl | exact Nat.le_refl _ | exact fun _ _ => rfl | exact rowEq0 _ _)
        simp
end Pv
end Go.Proofs.Ytogoplhikmmggaa
