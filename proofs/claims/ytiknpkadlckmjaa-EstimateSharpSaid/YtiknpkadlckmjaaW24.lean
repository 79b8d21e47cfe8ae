/- LAW 29: the statement that both ends of the bounds are possible histories. -/
import Derived.Test.YtiknpkadlckmjaaW22
import Derived.Test.YtiknpkadlckmjaaW23
namespace Go.Proofs.Ytiknpkadlckmjaa
namespace Pv
def c5L1 : C := (.seq (.reg [⟨(some 37), 592, none, .bi false .lss (.t 36) (.t 35)⟩])
  (.seq (.cond (.t 37) .skip (.exit 0))
  (.seq (.block 1 (.seq (.reg [⟨(some 38), 608, none, .mv (.t 36)⟩,
    ⟨(some 8), 128, none, .mv (.t 38)⟩])
  (.drw [⟨(some 39), 624, none, .mv (.t 7)⟩,
    ⟨(some 40), 640, none, .mv (.t 8)⟩,
    ⟨(some 41), 656, none, .bi false .mul (.c (.int .i64 2)) (.t 40)⟩,
    ⟨(some 42), 672, none, .bi false .add (.c (.int .i64 12)) (.t 41)⟩,
    ⟨(some 43), 688, none, .mv (.t 1)⟩,
    ⟨(some 44), 704, none, .mv (.t 8)⟩,
    ⟨(some 45), 720, none, .ia 3 (.t 43) (.t 44)⟩,
    ⟨(some 46), 736, none, .fa 1 (.t 45)⟩,
    ⟨(some 47), 752, none, .ld 1 false (.t 46)⟩,
    ⟨(some 48), 768, none, .call (.c (.fn (.func 17) [] [])) [(.t 47), (.c (.int .i64 60))]⟩,
    ⟨(some 49), 784, none, .mv (.t 1)⟩,
    ⟨(some 50), 800, none, .mv (.t 8)⟩,
    ⟨(some 51), 816, none, .ia 3 (.t 49) (.t 50)⟩,
    ⟨(some 52), 832, none, .fa 2 (.t 51)⟩,
    ⟨(some 53), 848, none, .ld 1 false (.t 52)⟩,
    ⟨(some 54), 864, none, .call (.c (.fn (.func 17) [] [])) [(.t 53), (.c (.int .i64 30))]⟩,
    ⟨(some 55), 880, none, .bd [(.int .i64 0), (.int .i64 0), (.int .i64 0)] [(0, 1, (.t 42)), (1, 1, (.t 48)), (2, 1, (.t 54))]⟩,
    ⟨(some 56), 896, none, .bs 34 3 [(.t 55)]⟩,
    ⟨(some 57), 912, none, .app 34 3 24 (.t 39) (.t 56)⟩,
    ⟨(some 7), 112, none, .mv (.t 57)⟩]
    [(0, 1, 39), (0, 2, 39), (0, 3, 39), (0, 4, 39), (0, 5, 39), (0, 6, 39), (0, 7, 39), (0, 8, 39), (0, 9, 39), (0, 10, 39), (0, 11, 39), (0, 12, 39), (0, 13, 39), (0, 14, 39), (0, 15, 39), (0, 16, 39), (0, 17, 39), (1, 4, 40), (1, 5, 40), (1, 6, 40), (1, 7, 40), (1, 8, 40), (1, 9, 40), (1, 10, 40), (1, 11, 40), (1, 12, 40), (1, 13, 40), (1, 14, 40), (1, 15, 40), (2, 4, 41), (2, 5, 41), (2, 6, 41), (2, 7, 41), (2, 8, 41), (2, 9, 41), (2, 10, 41), (2, 11, 41), (2, 12, 41), (2, 13, 41), (2, 14, 41), (2, 15, 41), (3, 4, 42), (3, 5, 42), (3, 6, 42), (3, 7, 42), (3, 8, 42), (3, 9, 42), (3, 10, 42), (3, 11, 42), (3, 12, 42), (3, 13, 42), (3, 14, 42), (3, 15, 42), (4, 5, 43), (4, 10, 43), (4, 11, 43), (4, 12, 43), (4, 13, 43), (4, 14, 43), (5, 10, 44), (5, 11, 44), (5, 12, 44), (5, 13, 44), (5, 14, 44), (6, 10, 45), (6, 11, 45), (6, 12, 45), (6, 13, 45), (6, 14, 45), (7, 10, 46), (7, 11, 46), (7, 12, 46), (7, 13, 46), (7, 14, 46), (8, 10, 47), (8, 11, 47), (8, 12, 47), (8, 13, 47), (8, 14, 47), (9, 10, 48), (9, 11, 48), (9, 12, 48), (9, 13, 48), (9, 14, 48), (10, 11, 49)])))
  (.reg [⟨(some 58), 928, none, .bi false .add (.t 36) (.c (.int .i64 1))⟩,
    ⟨(some 36), 576, none, .mv (.t 58)⟩]))))
def c5L2 : C := (.seq (.reg [⟨(some 72), 1152, none, .bi false .lss (.t 71) (.t 70)⟩])
  (.seq (.cond (.t 72) .skip (.exit 2))
  (.seq (.block 3 (.seq (.reg [⟨(some 73), 1168, none, .ia 2 (.t 69) (.t 71)⟩,
    ⟨(some 74), 1184, none, .ld 2 true (.t 73)⟩,
    ⟨(some 14), 224, none, .al [(.int .i64 0), (.int .i64 0)]⟩,
    ⟨none, 0, none, .st 2 (.t 14) (.t 74)⟩])
  (.drw [⟨(some 75), 1200, none, .mv (.t 11)⟩,
    ⟨(some 76), 1216, none, .fa 0 (.t 14)⟩,
    ⟨(some 77), 1232, none, .ld 1 false (.t 76)⟩,
    ⟨(some 78), 1248, none, .bs 3 1 [(.t 77)]⟩,
    ⟨(some 79), 1264, none, .app 3 1 8 (.t 75) (.t 78)⟩,
    ⟨(some 80), 1280, none, .mv (.t 12)⟩,
    ⟨(some 81), 1296, none, .fa 1 (.t 14)⟩,
    ⟨(some 82), 1312, none, .ld 1 false (.t 81)⟩,
    ⟨(some 83), 1328, none, .bs 3 1 [(.t 82)]⟩,
    ⟨(some 84), 1344, none, .app 3 1 8 (.t 80) (.t 83)⟩,
    ⟨(some 11), 176, none, .mv (.t 79)⟩,
    ⟨(some 12), 192, none, .mv (.t 84)⟩]
    [(0, 1, 75), (0, 2, 75), (0, 3, 75), (0, 5, 75), (0, 6, 75), (0, 7, 75), (0, 8, 75), (1, 5, 76), (1, 6, 76), (1, 7, 76), (1, 8, 76), (2, 5, 77), (2, 6, 77), (2, 7, 77), (2, 8, 77), (3, 5, 78), (3, 6, 78), (3, 7, 78), (3, 8, 78), (4, 5, 79), (4, 6, 79), (4, 7, 79), (4, 8, 79), (5, 6, 80), (5, 7, 80), (5, 8, 80)])))
  (.reg [⟨(some 85), 1360, none, .bi false .add (.t 71) (.c (.int .i64 1))⟩,
    ⟨(some 71), 1136, none, .mv (.t 85)⟩]))))
def c5 : C := (.seq (.reg [⟨(some 4), 64, none, .mv (.c (.bool false))⟩])
  (.seq (.seq (.reg [⟨(some 15), 240, none, .call (.c (.fn (.func 8) [] [])) []⟩,
    ⟨(some 16), 256, none, .un false .not (.t 15)⟩])
  (.cond (.t 16) (.seq (.reg [⟨(some 4), 64, none, .mv (.c (.bool false))⟩])
  .ret) .skip))
  (.seq (.seq (.reg [⟨(some 17), 272, none, .mv (.t 0)⟩,
    ⟨(some 18), 288, none, .call (.c (.fn (.func 9) [] [])) [(.t 17)]⟩,
    ⟨(some 19), 304, none, .un false .not (.t 18)⟩,
    ⟨(some 20), 320, none, .mv (.t 19)⟩,
    ⟨(some 21), 336, (some (20, false)), .mv (.t 1)⟩,
    ⟨(some 22), 352, (some (20, false)), .len (.t 21)⟩,
    ⟨(some 23), 368, (some (20, false)), .bi false .gtr (.t 22) (.c (.int .i64 40))⟩,
    ⟨(some 24), 384, none, .pick (.t 20) (.c (.bool true)) (.t 23)⟩])
  (.cond (.t 24) (.seq (.reg [⟨(some 4), 64, none, .mv (.c (.bool true))⟩])
  .ret) .skip))
  (.seq (.reg [⟨(some 25), 400, none, .mv (.t 0)⟩,
    ⟨(some 26), 416, none, .call (.c (.fn (.func 10) [] [])) [(.t 25)]⟩,
    ⟨(some 5), 80, none, .mv (.t 26)⟩])
  (.seq (.reg [⟨(some 27), 432, none, .mv (.t 5)⟩,
    ⟨(some 28), 448, none, .call (.c (.fn (.func 11) [] [])) [(.t 27)]⟩,
    ⟨(some 6), 96, none, .al [(.int .i64 0), (.int .i64 0), (.int .i64 0), (.int .i64 0)]⟩,
    ⟨none, 0, none, .st 4 (.t 6) (.t 28)⟩])
  (.seq (.reg [⟨(some 29), 464, none, .mv (.t 5)⟩,
    ⟨(some 30), 480, none, .mv (.t 5)⟩,
    ⟨(some 31), 496, none, .ld 4 true (.t 6)⟩,
    ⟨(some 32), 512, none, .call (.c (.fn (.func 15) [] [])) [(.t 30), (.t 31), (.c (.int .i64 10))]⟩,
    ⟨(some 33), 528, none, .call (.c (.fn (.func 14) [] [])) [(.t 29), (.t 32), (.c (.int .i64 0))]⟩,
    ⟨(some 7), 112, none, .mv (.t 33)⟩])
  (.seq (.seq (.reg [⟨(some 34), 544, none, .mv (.t 1)⟩,
    ⟨(some 35), 560, none, .len (.t 34)⟩,
    ⟨(some 36), 576, none, .mv (.c (.int .i64 0))⟩])
  (.block 0 (.loop c5L1)))
  (.seq (.reg [⟨(some 60), 960, none, .mv (.t 7)⟩,
    ⟨(some 61), 976, none, .ld 4 true (.t 6)⟩,
    ⟨(some 62), 992, none, .call (.c (.fn (.func 20) [] [])) [(.t 60), (.t 61), (.c (.int .i64 0)), (.c (.int .i64 99))]⟩,
    ⟨(some 59), 944, none, .mv (.t 62)⟩,
    ⟨(some 63), 1008, none, .ex (.t 59) 0⟩,
    ⟨(some 64), 1024, none, .ex (.t 59) 1⟩,
    ⟨(some 9), 144, none, .mv (.t 63)⟩,
    ⟨(some 10), 160, none, .mv (.t 64)⟩])
  (.seq (.seq (.reg [⟨(some 65), 1040, none, .mv (.t 10)⟩,
    ⟨(some 66), 1056, none, .bi false .neq (.t 65) (.c (.int .i64 0))⟩])
  (.cond (.t 66) (.seq (.reg [⟨(some 67), 1072, none, .mv (.t 10)⟩,
    ⟨(some 68), 1088, none, .bi false .eql (.t 67) (.c (.int .i64 48))⟩,
    ⟨(some 4), 64, none, .mv (.t 68)⟩])
  .ret) .skip))
  (.seq (.reg [⟨(some 11), 176, none, .mv (.c (.nil 1))⟩,
    ⟨(some 12), 192, none, .mv (.c (.nil 1))⟩])
  (.seq (.seq (.reg [⟨(some 69), 1104, none, .mv (.t 9)⟩,
    ⟨(some 70), 1120, none, .len (.t 69)⟩,
    ⟨(some 71), 1136, none, .mv (.c (.int .i64 0))⟩])
  (.block 2 (.loop c5L2)))
  (.seq (.reg [⟨(some 86), 1376, none, .mv (.t 9)⟩,
    ⟨(some 87), 1392, none, .len (.t 86)⟩,
    ⟨(some 88), 1408, none, .bi false .eql (.t 87) (.c (.int .i64 100))⟩,
    ⟨(some 89), 1424, none, .mv (.t 88)⟩,
    ⟨(some 90), 1440, (some (89, true)), .mv (.t 7)⟩,
    ⟨(some 91), 1456, (some (89, true)), .ld 4 true (.t 6)⟩,
    ⟨(some 92), 1472, (some (89, true)), .mv (.t 11)⟩,
    ⟨(some 93), 1488, (some (89, true)), .call (.c (.fn (.func 23) [] [])) [(.t 90), (.t 91), (.c (.int .i64 0)), (.t 92)]⟩,
    ⟨(some 94), 1504, none, .pick (.t 89) (.t 93) (.c (.bool false))⟩,
    ⟨(some 95), 1520, none, .mv (.t 94)⟩,
    ⟨(some 96), 1536, (some (95, true)), .mv (.t 7)⟩,
    ⟨(some 97), 1552, (some (95, true)), .ld 4 true (.t 6)⟩,
    ⟨(some 98), 1568, (some (95, true)), .mv (.t 12)⟩,
    ⟨(some 99), 1584, (some (95, true)), .call (.c (.fn (.func 23) [] [])) [(.t 96), (.t 97), (.c (.int .i64 0)), (.t 98)]⟩,
    ⟨(some 100), 1600, none, .pick (.t 95) (.t 99) (.c (.bool false))⟩,
    ⟨(some 4), 64, none, .mv (.t 100)⟩])
  .ret))))))))))))
theorem fits5 : fits Try.prog false Try.f5 2 101 [(4, none)] = some c5.er := by kernel_rfl

theorem lows_succ (l : List Me) (c : Ck) (n : Nat) : lows l c (n + 1) = lows l c n ++ [(boundsF l c (0 + (n : Int))).lo] := by unfold lows; rw [List.range_succ, List.map_append]; rfl
theorem highs_succ (l : List Me) (c : Ck) (n : Nat) : highs l c (n + 1) = highs l c n ++ [(boundsF l c (0 + (n : Int))).hi] := by unfold highs; rw [List.range_succ, List.map_append]; rfl

set_option maxRecDepth 100000 in
set_option maxHeartbeats 4000000 in
theorem call5 (τ : Nat) (t : List Int) (raw : List Me) : PureCall Try.prog 5 [.sl 1 1 t.length (fl eInt t), .sl τ 3 raw.length (fl eMe raw)] [] ⟨.bool true, [], []⟩ := by
  refine pure_call mix Try.func5 fits5 rfl ?_
  conv => whnf
  refine ⟨_, fun _ => call8, ?_⟩
  conv => whnf
  refine ⟨by simp, fun hc => absurd hc (by simp), fun _ => ?_⟩
  conv => whnf
  refine ⟨_, fun _ => call9 1 t, ?_⟩
  conv => whnf
  refine ⟨?_, fun hc => ?_, fun hc => ?_⟩
  · (try conv => whnf)
    (repeat' (first | exact True.intro | exact fun _ h => h | refine inR64_of ?_ ?_ | apply And.intro | refine maxLen_ge ?_)) <;> (first | omega | (dsimp only; omega) | (dsimp only [List.length_cons, List.length_nil]; omega) | (intro hg; rw [hg]; rfl) | (intro hg hh; rw [hg, hh]; rfl) | (intro hg; simp [-List.getD_eq_getElem?_getD, -Int.default_eq_zero] at hg; first | omega | (refine inR64_of ?_ ?_ <;> omega) | (constructor <;> omega)) | (simp [-List.getD_eq_getElem?_getD, -Int.default_eq_zero]; done))
  · conv => whnf
    refine ⟨?_, [], ?_⟩
    · (try conv => whnf)
      (repeat' (first | exact True.intro | exact fun _ h => h | refine inR64_of ?_ ?_ | apply And.intro | refine maxLen_ge ?_)) <;> (first | omega | (dsimp only; omega) | (dsimp only [List.length_cons, List.length_nil]; omega) | (intro hg; rw [hg]; rfl) | (intro hg hh; rw [hg, hh]; rfl) | (intro hg; simp [-List.getD_eq_getElem?_getD, -Int.default_eq_zero] at hg; first | omega | (refine inR64_of ?_ ?_ <;> omega) | (constructor <;> omega)) | (simp [-List.getD_eq_getElem?_getD, -Int.default_eq_zero]; done))
    conv => whnf
    refine ⟨rfl, ?_, trivial, trivial⟩
    all_goals repeat' (first | exact True.intro | refine leF_cons rfl ?_ ?_ | refine leS_cons rfl ?_ ?_ | (show PLe _ _ _ _; conv => whnf) | (show SLe _ _ _ _; conv => whnf) | (show PLeL _ _ _ _; conv => whnf) | apply And.intro | rfl | exact Nat.le_refl _ | exact fun _ _ => rfl | exact rowEq0 _ _)
  simp only [bif_t, bif_f, decide_eq_true_eq, decide_eq_false_iff_not, Bool.not_eq_true', Bool.not_eq_false', Bool.and_eq_true, Bool.or_eq_true, Bool.and_eq_false_iff, Bool.or_eq_false_iff, beq_iff_eq, bne_iff_ne, beq_eq_false_iff_ne, bne_eq_false_iff_eq, reduceCtorEq, false_and, and_false, true_and, and_true, or_false, false_or, or_true, true_or, not_true_eq_false, not_false_eq_true, Int.toNat_zero] at hc
  conv => whnf
  refine ⟨_, fun _ => call10 1 t, ?_⟩
  conv => whnf
  refine ⟨_, fun _ => call11 ⟨t, 0⟩ (by dsimp only; omega), ?_⟩
  have hk := checksF_small ⟨t, 0⟩
  have hkl := checksF_len ⟨t, 0⟩
  generalize checksF ⟨t, 0⟩ = K at hk hkl ⊢
  generalize K.1 = c at hk ⊢
  generalize K.2 = D at hkl ⊢
  dsimp only at hkl
  conv => whnf
  refine ⟨_, fun _ => call15 D c 10 (by rw [hkl]; omega) hk (by omega), ?_⟩
  obtain ⟨w1, w2, w3⟩ := walkS_props (d := D) hk 10
  have hlen : (walkS D c 10).1.length = 10 := by rw [w2]; decide
  have hord := fun d' => ord_of hk D d' raw (by omega)
  generalize walkS D c 10 = WS at w1 w2 w3 hlen hord ⊢
  conv => whnf
  refine ⟨_, fun _ => call14o _ WS.2.2 WS.1 0 (by rw [w3, hkl]; omega) (by omega) (fun x hx => by have := w1 x hx; have := hk.2.2.1; have := hk.1; omega) (by omega), ?_⟩
  have hO := hord WS.2.2
  generalize msr 0 0 WS.1 WS.2.2 = MD at hO ⊢
  generalize MD.1 = B at hO ⊢
  generalize MD.2 = D2
  have hOl := hO.len
  rw [List.length_append, rws_len] at hOl
  conv => whnf
  refine ⟨?_, ?_⟩
  · (try conv => whnf)
    (repeat' (first | exact True.intro | exact fun _ h => h | refine inR64_of ?_ ?_ | apply And.intro | refine maxLen_ge ?_)) <;> (first | omega | (dsimp only; omega) | (dsimp only [List.length_cons, List.length_nil]; omega) | (intro hg; rw [hg]; rfl) | (intro hg hh; rw [hg, hh]; rfl) | (intro hg; simp [-List.getD_eq_getElem?_getD, -Int.default_eq_zero] at hg; first | omega | (refine inR64_of ?_ ?_ <;> omega) | (constructor <;> omega)) | (simp [-List.getD_eq_getElem?_getD, -Int.default_eq_zero]; done))
  refine LSem.loop (n := 101) mix (α := Nat) (fun k => k ≤ raw.length)
    (fun k => [(1, .sl τ 3 raw.length (fl eMe raw)), (6, .pt 96 0 0), (7, .os 528), (35, .int .i64 raw.length), (36, .int .i64 k)])
    (fun k => [(96, .box (eCk c)), (528, .row 0 34 3 (B ++ rws raw k).length (fl eMe (B ++ rws raw k)))]) (fun k => raw.length - k) 0 ?_ ?_ ?_
  · exact Nat.zero_le _
  · refine ⟨rfl, rfl, ?_, ?_⟩
    all_goals repeat' (first | exact True.intro | refine leF_cons rfl ?_ ?_ | refine leS_cons rfl ?_ ?_ | (show PLe _ _ _ _; conv => whnf) | (show SLe _ _ _ _; conv => whnf) | (show PLeL _ _ _ _; conv => whnf) | apply And.intro | rfl | exact Nat.le_refl _ | exact fun _ _ => rfl | exact rowEq0 _ _)
    · rw [List.length_append, rws_len]; rfl
    · rw [show rws raw 0 = [] from rfl, List.append_nil]; exact fun _ _ => rfl
  · intro k hkk
    have hj : ((k : Int)).toNat = k := by omega
    conv => whnf
    refine ⟨trivial, fun hc2 => ?_, fun hc2 => ?_⟩
    · replace hc2 := of_decide_eq_true hc2
      have hlt : k < raw.length := by omega
      have hbl : (B ++ rws raw k).length = B.length + k := by rw [List.length_append, rws_len]
      have hbl1 : (B ++ rws raw (k + 1)).length = B.length + k + 1 := by rw [List.length_append, rws_len]; omega
      have hps := fl_push eMe (B ++ rws raw k) (rwM raw k)
      rw [List.append_assoc, ← rws_succ] at hps
      conv => whnf
      refine ⟨_, fun _ => call17 (raw.getD ((k : Int)).toNat default).v 60 (by omega) (by omega), ?_⟩
      conv => whnf
      refine ⟨_, fun _ => call17 (raw.getD ((k : Int)).toNat default).o 30 (by omega) (by omega), ?_⟩
      conv => whnf
      refine ⟨rfl, ?_⟩
      conv => whnf
      refine ⟨?_, k + 1, (by omega : k + 1 ≤ raw.length), ?_, rfl, rfl, ?_, ?_⟩
      · (try conv => whnf)
        (repeat' (first | exact True.intro | exact fun _ h => h | refine inR64_of ?_ ?_ | apply And.intro | refine maxLen_ge ?_)) <;> (first | omega | (dsimp only; omega) | (dsimp only [List.length_cons, List.length_nil]; omega) | (intro hg; rw [hg]; rfl) | (intro hg hh; rw [hg, hh]; rfl) | (intro hg; simp [-List.getD_eq_getElem?_getD, -Int.default_eq_zero] at hg; first | omega | (refine inR64_of ?_ ?_ <;> omega) | (constructor <;> omega)) | (simp [-List.getD_eq_getElem?_getD, -Int.default_eq_zero]; done))
      · omega
      all_goals repeat' (first | exact True.intro | refine leF_cons rfl ?_ ?_ | refine leS_cons rfl ?_ ?_ | (show PLe _ _ _ _; conv => whnf) | (show SLe _ _ _ _; conv => whnf) | (show PLeL _ _ _ _; conv => whnf) | apply And.intro | rfl | exact Nat.le_refl _ | exact fun _ _ => rfl | exact rowEq0 _ _)
      all_goals (try omega)
      · rw [hbl, hbl1]; rfl
      · rw [hj]; exact hps
    · replace hc2 := of_decide_eq_false hc2
      have : k = raw.length := by omega
      subst this
      generalize B ++ rws raw raw.length = M at hO ⊢
      have hMl := hO.len
      conv => whnf
      refine ⟨_, fun _ => call20 _ M c 0 99 (inR64_of (by omega) (by omega)) (inR64_of (by omega) (by omega)), ?_⟩
      rcases hO.err with he | he
      · have hF : fillF M c 0 99 = ((List.range 100).map fun (i : Nat) => boundsF M c (0 + (i : Int)), 0) := by
          unfold fillF
          rw [if_neg (by rw [he]; simp), if_neg (by omega), if_neg (by omega)]; rfl
        rw [hF]
        have hlow := hO.lows_ok he 100
        have hhigh := hO.highs_ok he 100
        conv => whnf
        refine ⟨?_, fun hc3 => absurd hc3 (by simp), fun _ => ?_⟩
        · (try conv => whnf)
          (repeat' (first | exact True.intro | exact fun _ h => h | refine inR64_of ?_ ?_ | apply And.intro | refine maxLen_ge ?_)) <;> (first | omega | (dsimp only; omega) | (dsimp only [List.length_cons, List.length_nil]; omega) | (intro hg; rw [hg]; rfl) | (intro hg hh; rw [hg, hh]; rfl) | (intro hg; simp [-List.getD_eq_getElem?_getD, -Int.default_eq_zero] at hg; first | omega | (refine inR64_of ?_ ?_ <;> omega) | (constructor <;> omega)) | (simp [-List.getD_eq_getElem?_getD, -Int.default_eq_zero]; done))
        conv => whnf
        refine ⟨trivial, ?_⟩
        have hAl : ((List.range 100).map fun (i : Nat) => boundsF M c (0 + (i : Int))).length = 100 := by simp
        have hA : ∀ i, i < 100 → ((List.range 100).map fun (i : Nat) => boundsF M c (0 + (i : Int))).getD i default = boundsF M c (0 + (i : Int)) := fun i hi => range_get _ hi
        generalize ((List.range 100).map fun (i : Nat) => boundsF M c (0 + (i : Int))) = A at hAl hA ⊢
        refine LSem.adopt 11 1000000 3 1 1 rfl rfl ?_
        refine LSem.adopt 12 1000001 3 1 1 rfl rfl ?_
        refine LSem.loop (n := 101) mix (α := Nat) (fun i => i ≤ 100)
          (fun i => [(6, .pt 96 0 0), (7, .os 528), (9, .sl 0 2 A.length (fl eBo A)), (11, .os 1000000), (12, .os 1000001), (69, .sl 0 2 A.length (fl eBo A)), (70, .int .i64 A.length), (71, .int .i64 i)])
          (fun i => [(96, .box (eCk c)), (528, .row 0 34 3 M.length (fl eMe M)), (1000000, .row 0 3 1 i (fl eInt (lows M c i))), (1000001, .row 0 3 1 i (fl eInt (highs M c i)))]) (fun i => 100 - i) 0 ?_ ?_ ?_
        · exact Nat.zero_le _
        · refine ⟨rfl, rfl, ?_, ?_⟩
          all_goals repeat' (first | exact True.intro | refine leF_cons rfl ?_ ?_ | refine leS_cons rfl ?_ ?_ | (show PLe _ _ _ _; conv => whnf) | (show SLe _ _ _ _; conv => whnf) | (show PLeL _ _ _ _; conv => whnf) | apply And.intro | rfl | exact Nat.le_refl _ | exact fun _ _ => rfl | exact rowEq0 _ _)
        · intro i hi
          have hj2 : ((i : Int)).toNat = i := by omega
          conv => whnf
          refine ⟨trivial, fun hc4 => ?_, fun hc4 => ?_⟩
          · replace hc4 := of_decide_eq_true hc4
            have hlt : i < 100 := by omega
            conv => whnf
            refine ⟨rfl, ?_⟩
            conv => whnf
            have hlo := fl_push eInt (lows M c i) (boundsF M c (0 + (i : Int))).lo
            have hhi := fl_push eInt (highs M c i) (boundsF M c (0 + (i : Int))).hi
            rw [← lows_succ, show (lows M c i).length = i by simp [lows]] at hlo
            rw [← highs_succ, show (highs M c i).length = i by simp [highs]] at hhi
            refine ⟨?_, i + 1, (by omega : i + 1 ≤ 100), ?_, rfl, rfl, ?_, ?_⟩
            · (try conv => whnf)
              (repeat' (first | exact True.intro | exact fun _ h => h | refine inR64_of ?_ ?_ | apply And.intro | refine maxLen_ge ?_)) <;> (first | omega | (dsimp only; omega) | (dsimp only [List.length_cons, List.length_nil]; omega) | (intro hg; rw [hg]; rfl) | (intro hg hh; rw [hg, hh]; rfl) | (intro hg; simp [-List.getD_eq_getElem?_getD, -Int.default_eq_zero] at hg; first | omega | (refine inR64_of ?_ ?_ <;> omega) | (constructor <;> omega)) | (simp [-List.getD_eq_getElem?_getD, -Int.default_eq_zero]; done))
            · omega
            all_goals repeat' (first | exact True.intro | refine leF_cons rfl ?_ ?_ | refine leS_cons rfl ?_ ?_ | (show PLe _ _ _ _; conv => whnf) | (show SLe _ _ _ _; conv => whnf) | (show PLeL _ _ _ _; conv => whnf) | apply And.intro | rfl | exact Nat.le_refl _ | exact fun _ _ => rfl | exact rowEq0 _ _)
            all_goals (try omega)
            · rw [hj2, hA i hlt]; exact hlo
            · rw [hj2, hA i hlt]; exact hhi
          · replace hc4 := of_decide_eq_false hc4
            have : i = 100 := by omega
            subst this
            have hl1 : (lows M c 100).length = 100 := by simp [lows]
            have hl2 : (highs M c 100).length = 100 := by simp [highs]
            conv => whnf
            refine ⟨_, fun _ => PureCall.arg_le (call23 2 2 M c (lows M c 100) hk (by omega) hlow.1 hlow.2 (by omega)) rfl (by
              all_goals repeat' (first | exact True.intro | refine leF_cons rfl ?_ ?_ | refine leS_cons rfl ?_ ?_ | (show PLe _ _ _ _; conv => whnf) | (show SLe _ _ _ _; conv => whnf) | (show PLeL _ _ _ _; conv => whnf) | apply And.intro | rfl | exact Nat.le_refl _ | exact fun _ _ => rfl | exact rowEq0 _ _)
              all_goals first | exact hl1.symm | exact fun _ _ => rfl), ?_⟩
            conv => whnf
            refine ⟨_, fun _ => PureCall.arg_le (call23 2 2 M c (highs M c 100) hk (by omega) hhigh.1 hhigh.2 (by omega)) rfl (by
              all_goals repeat' (first | exact True.intro | refine leF_cons rfl ?_ ?_ | refine leS_cons rfl ?_ ?_ | (show PLe _ _ _ _; conv => whnf) | (show SLe _ _ _ _; conv => whnf) | (show PLeL _ _ _ _; conv => whnf) | apply And.intro | rfl | exact Nat.le_refl _ | exact fun _ _ => rfl | exact rowEq0 _ _)
              all_goals first | exact hl2.symm | exact fun _ _ => rfl), ?_⟩
            conv => whnf
            refine ⟨?_, [], ?_⟩
            · (try conv => whnf)
              (repeat' (first | exact True.intro | exact fun _ h => h | refine inR64_of ?_ ?_ | apply And.intro | refine maxLen_ge ?_)) <;> (first | omega | (dsimp only; omega) | (dsimp only [List.length_cons, List.length_nil]; omega) | (intro hg; rw [hg]; rfl) | (intro hg hh; rw [hg, hh]; rfl) | (intro hg; simp [-List.getD_eq_getElem?_getD, -Int.default_eq_zero] at hg; first | omega | (refine inR64_of ?_ ?_ <;> omega) | (constructor <;> omega)) | (simp [-List.getD_eq_getElem?_getD, -Int.default_eq_zero]; done))
            conv => whnf
            refine ⟨rfl, ?_, trivial, trivial⟩
            all_goals repeat' (first | exact True.intro | refine leF_cons rfl ?_ ?_ | refine leS_cons rfl ?_ ?_ | (show PLe _ _ _ _; conv => whnf) | (show SLe _ _ _ _; conv => whnf) | (show PLeL _ _ _ _; conv => whnf) | apply And.intro | rfl | exact Nat.le_refl _ | exact fun _ _ => rfl | exact rowEq0 _ _)
            rw [hAl]; rfl
      · have hF : fillF M c 0 99 = ([], 48) := by
          unfold fillF
          rw [if_pos (by rw [he]; simp), he]
        rw [hF]
        conv => whnf
        refine ⟨?_, fun _ => ?_, fun hc3 => absurd hc3 (by simp)⟩
        · (try conv => whnf)
          (repeat' (first | exact True.intro | exact fun _ h => h | refine inR64_of ?_ ?_ | apply And.intro | refine maxLen_ge ?_)) <;> (first | omega | (dsimp only; omega) | (dsimp only [List.length_cons, List.length_nil]; omega) | (intro hg; rw [hg]; rfl) | (intro hg hh; rw [hg, hh]; rfl) | (intro hg; simp [-List.getD_eq_getElem?_getD, -Int.default_eq_zero] at hg; first | omega | (refine inR64_of ?_ ?_ <;> omega) | (constructor <;> omega)) | (simp [-List.getD_eq_getElem?_getD, -Int.default_eq_zero]; done))
        conv => whnf
        refine ⟨?_, [], ?_⟩
        · (try conv => whnf)
          (repeat' (first | exact True.intro | exact fun _ h => h | refine inR64_of ?_ ?_ | apply And.intro | refine maxLen_ge ?_)) <;> (first | omega | (dsimp only; omega) | (dsimp only [List.length_cons, List.length_nil]; omega) | (intro hg; rw [hg]; rfl) | (intro hg hh; rw [hg, hh]; rfl) | (intro hg; simp [-List.getD_eq_getElem?_getD, -Int.default_eq_zero] at hg; first | omega | (refine inR64_of ?_ ?_ <;> omega) | (constructor <;> omega)) | (simp [-List.getD_eq_getElem?_getD, -Int.default_eq_zero]; done))
        conv => whnf
        refine ⟨rfl, ?_, trivial, trivial⟩
        all_goals repeat' (first | exact True.intro | refine leF_cons rfl ?_ ?_ | refine leS_cons rfl ?_ ?_ | (show PLe _ _ _ _; conv => whnf) | (show SLe _ _ _ _; conv => whnf) | (show PLeL _ _ _ _; conv => whnf) | apply And.intro | rfl | exact Nat.le_refl _ | exact fun _ _ => rfl | exact rowEq0 _ _)
end Pv
end Go.Proofs.Ytiknpkadlckmjaa
