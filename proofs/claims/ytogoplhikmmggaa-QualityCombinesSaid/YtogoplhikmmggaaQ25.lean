/- LAW 08: QualityCombines. -/
import Derived.Test.YtogoplhikmmggaaQ24
set_option linter.unusedSimpArgs false
set_option linter.unusedVariables false
namespace Go.Proofs.Ytogoplhikmmggaa
namespace Pv
def c9L1 : C := (.seq (.seq (.reg [⟨(some 43), 688, none, .mv (.t 13)⟩,
    ⟨(some 44), 704, none, .bi false .gtr (.t 43) (.c (.int .i64 0))⟩])
  (.cond (.t 44) .skip (.exit 0)))
  (.seq (.block 1 (.reg [⟨(some 47), 752, none, .mv (.t 11)⟩,
    ⟨(some 48), 768, none, .mv (.t 9)⟩,
    ⟨(some 49), 784, none, .call (.c (.fn (.func 23) [] [])) [(.t 48)]⟩,
    ⟨(some 50), 800, none, .bs 46 4 [(.t 49)]⟩,
    ⟨(some 51), 816, none, .app 46 4 32 (.t 47) (.t 50)⟩,
    ⟨(some 52), 832, none, .mv (.t 12)⟩,
    ⟨(some 53), 848, none, .mv (.t 9)⟩,
    ⟨(some 54), 864, none, .mv (.t 10)⟩,
    ⟨(some 55), 880, none, .call (.c (.fn (.func 24) [] [])) [(.t 53), (.t 54)]⟩,
    ⟨(some 56), 896, none, .bs 50 1 [(.t 55)]⟩,
    ⟨(some 57), 912, none, .app 50 1 24 (.t 52) (.t 56)⟩,
    ⟨(some 11), 176, none, .mv (.t 51)⟩,
    ⟨(some 12), 192, none, .mv (.t 57)⟩]))
  (.reg [⟨(some 45), 720, none, .mv (.t 13)⟩,
    ⟨(some 46), 736, none, .bi false .sub (.t 45) (.c (.int .i64 1))⟩,
    ⟨(some 13), 208, none, .mv (.t 46)⟩])))
def c9L4 : C := (.seq (.reg [⟨(some 80), 1280, none, .bi false .lss (.t 79) (.t 78)⟩])
  (.seq (.cond (.t 80) .skip (.exit 6))
  (.seq (.block 7 (.seq (.reg [⟨(some 81), 1296, none, .ia 1 (.t 77) (.t 79)⟩,
    ⟨(some 82), 1312, none, .ld 1 false (.t 81)⟩,
    ⟨(some 19), 304, none, .mv (.t 82)⟩])
  (.seq (.reg [⟨(some 84), 1344, none, .mv (.t 15)⟩,
    ⟨(some 85), 1360, none, .mv (.t 17)⟩,
    ⟨(some 86), 1376, none, .mv (.t 19)⟩,
    ⟨(some 87), 1392, none, .call (.c (.fn (.func 29) [] [])) [(.t 84), (.t 85), (.t 86)]⟩,
    ⟨(some 83), 1328, none, .mv (.t 87)⟩,
    ⟨(some 88), 1408, none, .ex (.t 83) 0⟩,
    ⟨(some 89), 1424, none, .ex (.t 83) 1⟩,
    ⟨(some 90), 1440, none, .ex (.t 83) 2⟩,
    ⟨(some 91), 1456, none, .ex (.t 83) 3⟩,
    ⟨(some 20), 320, none, .mv (.t 88)⟩,
    ⟨(some 21), 336, none, .mv (.t 89)⟩,
    ⟨(some 22), 352, none, .mv (.t 90)⟩,
    ⟨(some 23), 368, none, .mv (.t 91)⟩])
  (.seq (.reg [⟨(some 93), 1488, none, .mv (.t 15)⟩,
    ⟨(some 94), 1504, none, .mv (.t 17)⟩,
    ⟨(some 95), 1520, none, .mv (.t 19)⟩,
    ⟨(some 96), 1536, none, .call (.c (.fn (.func 30) [] [])) [(.t 93), (.t 94), (.t 95)]⟩,
    ⟨(some 92), 1472, none, .mv (.t 96)⟩,
    ⟨(some 97), 1552, none, .ex (.t 92) 0⟩,
    ⟨(some 98), 1568, none, .ex (.t 92) 1⟩,
    ⟨(some 99), 1584, none, .ex (.t 92) 2⟩,
    ⟨(some 100), 1600, none, .ex (.t 92) 3⟩,
    ⟨(some 24), 384, none, .mv (.t 97)⟩,
    ⟨(some 25), 400, none, .mv (.t 98)⟩,
    ⟨(some 26), 416, none, .mv (.t 99)⟩,
    ⟨(some 27), 432, none, .mv (.t 100)⟩])
  (.seq (.reg [⟨(some 101), 1616, none, .mv (.t 23)⟩,
    ⟨(some 102), 1632, none, .mv (.t 27)⟩,
    ⟨(some 103), 1648, none, .bi false .neq (.t 101) (.t 102)⟩,
    ⟨(some 104), 1664, none, .mv (.t 103)⟩,
    ⟨(some 105), 1680, (some (104, false)), .mv (.t 20)⟩,
    ⟨(some 106), 1696, (some (104, false)), .mv (.t 24)⟩,
    ⟨(some 107), 1712, (some (104, false)), .call (.c (.fn (.func 17) [] [])) [(.t 105), (.t 106)]⟩,
    ⟨(some 108), 1728, (some (104, false)), .un false .not (.t 107)⟩,
    ⟨(some 109), 1744, none, .pick (.t 104) (.c (.bool true)) (.t 108)⟩,
    ⟨(some 110), 1760, none, .mv (.t 109)⟩,
    ⟨(some 111), 1776, (some (110, false)), .mv (.t 21)⟩,
    ⟨(some 112), 1792, (some (110, false)), .mv (.t 25)⟩,
    ⟨(some 113), 1808, (some (110, false)), .call (.c (.fn (.func 31) [] [])) [(.t 111), (.t 112)]⟩,
    ⟨(some 114), 1824, (some (110, false)), .un false .not (.t 113)⟩,
    ⟨(some 115), 1840, none, .pick (.t 110) (.c (.bool true)) (.t 114)⟩,
    ⟨(some 116), 1856, none, .mv (.t 115)⟩,
    ⟨(some 117), 1872, (some (116, false)), .mv (.t 22)⟩,
    ⟨(some 118), 1888, (some (116, false)), .mv (.t 26)⟩,
    ⟨(some 119), 1904, (some (116, false)), .call (.c (.fn (.func 17) [] [])) [(.t 117), (.t 118)]⟩,
    ⟨(some 120), 1920, (some (116, false)), .un false .not (.t 119)⟩,
    ⟨(some 121), 1936, none, .pick (.t 116) (.c (.bool true)) (.t 120)⟩])
  (.cond (.t 121) (.seq (.reg [⟨(some 8), 128, none, .mv (.c (.bool false))⟩])
  .ret) .skip))))))
  (.reg [⟨(some 122), 1952, none, .bi false .add (.t 79) (.c (.int .i64 1))⟩,
    ⟨(some 79), 1264, none, .mv (.t 122)⟩]))))
def c9L3 : C := (.seq (.reg [⟨(some 71), 1136, none, .bi false .lss (.t 70) (.t 69)⟩])
  (.seq (.cond (.t 71) .skip (.exit 4))
  (.seq (.block 5 (.seq (.reg [⟨(some 72), 1152, none, .ia 1 (.t 68) (.t 70)⟩,
    ⟨(some 73), 1168, none, .ld 1 false (.t 72)⟩,
    ⟨(some 17), 272, none, .mv (.t 73)⟩])
  (.seq (.reg [⟨(some 74), 1184, none, .mv (.t 3)⟩,
    ⟨(some 75), 1200, none, .mv (.t 3)⟩,
    ⟨(some 76), 1216, none, .call (.c (.fn (.func 15) [] [])) [(.t 75), (.c (.int .i64 30))]⟩,
    ⟨(some 77), 1232, none, .bs 3 1 [(.t 74), (.t 76)]⟩,
    ⟨(some 78), 1248, none, .len (.t 77)⟩,
    ⟨(some 79), 1264, none, .mv (.c (.int .i64 0))⟩])
  (.block 6 (.loop c9L4)))))
  (.reg [⟨(some 123), 1968, none, .bi false .add (.t 70) (.c (.int .i64 1))⟩,
    ⟨(some 70), 1120, none, .mv (.t 123)⟩]))))
def c9L2 : C := (.seq (.reg [⟨(some 63), 1008, none, .bi false .lss (.t 62) (.t 61)⟩])
  (.seq (.cond (.t 63) .skip (.exit 2))
  (.seq (.block 3 (.seq (.reg [⟨(some 64), 1024, none, .ia 1 (.t 60) (.t 62)⟩,
    ⟨(some 65), 1040, none, .ld 1 false (.t 64)⟩,
    ⟨(some 15), 240, none, .mv (.t 65)⟩])
  (.seq (.reg [⟨(some 66), 1056, none, .mv (.t 12)⟩,
    ⟨(some 67), 1072, none, .mv (.t 1)⟩,
    ⟨(some 68), 1088, none, .bs 53 1 [(.t 66), (.t 67)]⟩,
    ⟨(some 69), 1104, none, .len (.t 68)⟩,
    ⟨(some 70), 1120, none, .mv (.c (.int .i64 0))⟩])
  (.block 4 (.loop c9L3)))))
  (.reg [⟨(some 124), 1984, none, .bi false .add (.t 62) (.c (.int .i64 1))⟩,
    ⟨(some 62), 992, none, .mv (.t 124)⟩]))))
def c9 : C := (.seq (.reg [⟨(some 8), 128, none, .mv (.c (.bool false))⟩])
  (.seq (.seq (.reg [⟨(some 28), 448, none, .mv (.t 0)⟩,
    ⟨(some 29), 464, none, .len (.t 28)⟩,
    ⟨(some 30), 480, none, .bi false .gtr (.t 29) (.c (.int .i64 10))⟩,
    ⟨(some 31), 496, none, .mv (.t 30)⟩,
    ⟨(some 32), 512, (some (31, false)), .mv (.t 1)⟩,
    ⟨(some 33), 528, (some (31, false)), .len (.t 32)⟩,
    ⟨(some 34), 544, (some (31, false)), .bi false .gtr (.t 33) (.c (.int .i64 10))⟩,
    ⟨(some 35), 560, none, .pick (.t 31) (.c (.bool true)) (.t 34)⟩])
  (.cond (.t 35) (.seq (.reg [⟨(some 36), 576, none, .call (.c (.fn (.func 14) [] [])) []⟩,
    ⟨(some 8), 128, none, .mv (.t 36)⟩])
  .ret) .skip))
  (.seq (.reg [⟨(some 37), 592, none, .mv (.t 2)⟩,
    ⟨(some 38), 608, none, .call (.c (.fn (.func 11) [] [])) [(.t 37)]⟩,
    ⟨(some 9), 144, none, .mv (.t 38)⟩])
  (.seq (.reg [⟨(some 39), 624, none, .mv (.t 9)⟩,
    ⟨(some 40), 640, none, .call (.c (.fn (.func 18) [] [])) [(.t 39), (.c (.int .i64 12))]⟩,
    ⟨(some 10), 160, none, .mv (.t 40)⟩])
  (.seq (.reg [⟨(some 11), 176, none, .mv (.c (.nil 4))⟩])
  (.seq (.reg [⟨(some 12), 192, none, .mv (.c (.nil 1))⟩])
  (.seq (.seq (.reg [⟨(some 41), 656, none, .mv (.t 9)⟩,
    ⟨(some 42), 672, none, .call (.c (.fn (.func 18) [] [])) [(.t 41), (.c (.int .i64 5))]⟩,
    ⟨(some 13), 208, none, .mv (.t 42)⟩])
  (.block 0 (.loop c9L1)))
  (.seq (.seq (.reg [⟨(some 58), 928, none, .mv (.t 11)⟩,
    ⟨(some 59), 944, none, .mv (.t 0)⟩,
    ⟨(some 60), 960, none, .bs 52 1 [(.t 58), (.t 59)]⟩,
    ⟨(some 61), 976, none, .len (.t 60)⟩,
    ⟨(some 62), 992, none, .mv (.c (.int .i64 0))⟩])
  (.block 2 (.loop c9L2)))
  (.seq (.reg [⟨(some 125), 2000, none, .call (.c (.fn (.func 14) [] [])) []⟩,
    ⟨(some 8), 128, none, .mv (.t 125)⟩])
  .ret)))))))))
theorem fits9 : fits Try.prog false Try.f9 4 126 [(8, none)] = some c9.er := by kernel_rfl

theorem comb_lens {C : List Ck} {G : List (List Rd)} {most : Int} (h : ∀ i, i < G.length → (G.getD i default).length ≤ 8796093022208) :
    (combF C G most).1.length ≤ 8796093022208 ∧ (combF C G most).2.1.length ≤ 8796093022208 ∧ (combF C G most).2.2.1.length ≤ 8796093022208 := by
  have hs : (stepsF G G.length).toNat ≤ 8796093022208 := by
    unfold stepsF
    by_cases e : G.length = 0
    · rw [if_pos e]; decide
    · rw [if_neg e]
      have := h (G.length - 1) (by omega)
      omega
  unfold combF
  split
  · exact ⟨Nat.zero_le _, Nat.zero_le _, Nat.zero_le _⟩
  · split
    · exact ⟨Nat.zero_le _, Nat.zero_le _, Nat.zero_le _⟩
    · split
      · exact ⟨Nat.zero_le _, Nat.zero_le _, Nat.zero_le _⟩
      · obtain ⟨h1, h2, h3⟩ := combT_len G (vL C G G.length) most G.length (stepsF G G.length).toNat
        refine ⟨?_, ?_, ?_⟩
        · dsimp only; omega
        · dsimp only; omega
        · dsimp only; omega

theorem comb_both (σ : Nat) (C : List Ck) (G : List (List Rd)) (most : Int) (hC : C.length ≤ 1000) (hl : G.length ≤ 1000) (hG : ∀ i, i < G.length → (G.getD i default).length ≤ 8796093022208) :
    ∃ Y : List Int × List Bool × List Int × Int, Y.1.length ≤ 8796093022208 ∧ Y.2.1.length ≤ 8796093022208 ∧ Y.2.2.1.length ≤ 8796093022208 ∧
      PureCall Try.prog 29 [.sl 2 4 C.length (fl eCk C), .sl 2 1 G.length (fl (eLs σ) G), .int .i64 most] [] ⟨.tup [.sl 0 1 Y.1.length (fl eInt Y.1), .sl 0 1 Y.2.1.length (fl eBool Y.2.1), .sl 0 1 Y.2.2.1.length (fl eInt Y.2.2.1), .int .i64 Y.2.2.2], [], []⟩ ∧
      PureCall Try.prog 30 [.sl 2 4 C.length (fl eCk C), .sl 2 1 G.length (fl (eLs σ) G), .int .i64 most] [] ⟨.tup [.sl 0 1 Y.1.length (fl eInt Y.1), .sl 0 1 Y.2.1.length (fl eBool Y.2.1), .sl 0 1 Y.2.2.1.length (fl eInt Y.2.2.1), .int .i64 Y.2.2.2], [], []⟩ :=
  ⟨combF C G most, (comb_lens hG).1, (comb_lens hG).2.1, (comb_lens hG).2.2, call29 σ C G most hC hl hG, call30 σ C G most hC hl hG⟩

set_option maxRecDepth 100000 in
set_option maxHeartbeats 32000000 in
theorem call9 (rc : List Ck) (rl : List (List Rd)) (l : List Int) (most : Int) (hrl : ∀ i, i < rl.length → (rl.getD i default).length ≤ 8796093022208) :
    PureCall Try.prog 9 [.sl 1 4 rc.length (fl eCk rc), .sl 1 1 rl.length (fl (eLs 1) rl), .sl 1 1 l.length (fl eInt l), .int .i64 most] [] ⟨.bool true, [], []⟩ := by
  refine pure_call mix Try.func9 fits9 rfl ?_
  conv => whnf
  refine ⟨?_, fun hc => ?_, fun hc => ?_⟩
  · (try conv => whnf)
    (repeat' (first | exact True.intro | exact fun _ h => h | refine inR64_of ?_ ?_ | apply And.intro | refine maxLen_ge ?_)) <;> (first | omega | (dsimp only; omega) | (dsimp only [List.length_cons, List.length_nil]; omega) | (intro hg; rw [hg]; rfl) | (intro hg hh; rw [hg, hh]; rfl) | (intro hg; simp [-List.getD_eq_getElem?_getD, -Int.default_eq_zero] at hg; first | omega | (refine inR64_of ?_ ?_ <;> omega) | (constructor <;> omega)) | (simp [-List.getD_eq_getElem?_getD, -Int.default_eq_zero]; done))
  · conv => whnf
    refine ⟨_, fun _ => call14, ?_⟩
    conv => whnf
    refine ⟨?_, [], ?_⟩
    · (try conv => whnf)
      (repeat' (first | exact True.intro | exact fun _ h => h | refine inR64_of ?_ ?_ | apply And.intro | refine maxLen_ge ?_)) <;> (first | omega | (dsimp only; omega) | (dsimp only [List.length_cons, List.length_nil]; omega) | (intro hg; rw [hg]; rfl) | (intro hg hh; rw [hg, hh]; rfl) | (intro hg; simp [-List.getD_eq_getElem?_getD, -Int.default_eq_zero] at hg; first | omega | (refine inR64_of ?_ ?_ <;> omega) | (constructor <;> omega)) | (simp [-List.getD_eq_getElem?_getD, -Int.default_eq_zero]; done))
    conv => whnf
    refine ⟨rfl, ?_, trivial, trivial⟩
    all_goals repeat' (first | exact True.intro | refine leF_cons rfl ?_ ?_ | refine leS_cons rfl ?_ ?_ | (show PLe _ _ _ _; conv => whnf) | (show SLe _ _ _ _; conv => whnf) | (show PLeL _ _ _ _; conv => whnf) | apply And.intro | rfl | exact Nat.le_refl _ | exact fun _ _ => rfl | exact rowEq0 _ _)
  have hlen : rc.length ≤ 10 ∧ rl.length ≤ 10 := by
    simp only [bif_t, bif_f, decide_eq_true_eq, decide_eq_false_iff_not, Bool.not_eq_true', Bool.not_eq_false', Bool.and_eq_true, Bool.or_eq_true, Bool.and_eq_false_iff, Bool.or_eq_false_iff, beq_iff_eq, bne_iff_ne, beq_eq_false_iff_ne, bne_eq_false_iff_eq, reduceCtorEq, false_and, and_false, true_and, and_true, or_false, false_or, or_true, true_or, not_true_eq_false, not_false_eq_true, Int.toNat_zero] at hc
    omega
  clear hc
  obtain ⟨hl1, hl2⟩ := hlen
  conv => whnf
  refine ⟨_, fun _ => call_new 1 l, ?_⟩
  conv => whnf
  refine ⟨_, fun _ => call_next 1 ⟨l, 0⟩ 12 (by dsimp only; omega) (by omega), ?_⟩
  have r1 := nxt_lt ⟨l, 0⟩ (n := 12) (by omega)
  have a1 := nxtD_at ⟨l, 0⟩ 12
  dsimp only at a1
  generalize nxt ⟨l, 0⟩ 12 = n at r1 ⊢
  generalize nxtD ⟨l, 0⟩ 12 = d1 at a1 ⊢
  conv => whnf
  refine ⟨_, fun _ => call_next 1 d1 5 (by omega) (by omega), ?_⟩
  have r2 := nxt_lt d1 (n := 5) (by omega)
  have a2 := nxtD_at d1 5
  generalize hk0 : nxt d1 5 = k0 at r2 ⊢
  generalize nxtD d1 5 = d2 at a2 ⊢
  conv => whnf
  refine ⟨?_, ?_⟩
  · (try conv => whnf)
    (repeat' (first | exact True.intro | exact fun _ h => h | refine inR64_of ?_ ?_ | apply And.intro | refine maxLen_ge ?_)) <;> (first | omega | (dsimp only; omega) | (dsimp only [List.length_cons, List.length_nil]; omega) | (intro hg; rw [hg]; rfl) | (intro hg hh; rw [hg, hh]; rfl) | (intro hg; simp [-List.getD_eq_getElem?_getD, -Int.default_eq_zero] at hg; first | omega | (refine inR64_of ?_ ?_ <;> omega) | (constructor <;> omega)) | (simp [-List.getD_eq_getElem?_getD, -Int.default_eq_zero]; done))
  refine LSem.adopt 11 1000000 46 4 4 rfl rfl ?_
  refine LSem.adopt 12 1000001 50 1 1 rfl rfl ?_
  refine LSem.loop (n := 126) mix (α := Nat × List Ck × List (List Rd) × Dk) (fun s => s.1 ≤ 4 ∧ s.2.1.length + s.1 ≤ 4 ∧ s.2.2.1.length + s.1 ≤ 4 ∧ (∀ i, i < s.2.2.1.length → (s.2.2.1.getD i default).length ≤ 20) ∧ s.2.2.2.at_ + 100 * s.1 ≤ 1000)
    (fun s => [(0, .sl 1 4 rc.length (fl eCk rc)), (1, .sl 1 1 rl.length (fl (eLs 1) rl)), (3, .int .i64 most), (9, .pt 608 0 0), (10, .int .i64 n), (11, .os 1000000), (12, .os 1000001), (13, .int .i64 s.1)])
    (fun s => [(608, .box (eDk 1 s.2.2.2)), (1000000, .row 0 46 4 s.2.1.length (fl eCk s.2.1)), (1000001, .row 0 50 1 s.2.2.1.length (fl (eLs 0) s.2.2.1))]) (fun s => s.1) (k0.toNat, [], [], d2) ?_ ?_ ?_
  · refine ⟨?_, ?_, ?_, fun i hi => ?_, ?_⟩ <;> dsimp only
    · omega
    · rw [List.length_nil]; omega
    · rw [List.length_nil]; omega
    · exact absurd hi (Nat.not_lt_zero i)
    · omega
  · refine ⟨rfl, rfl, ?_, ?_⟩
    all_goals repeat' (first | exact True.intro | refine leF_cons rfl ?_ ?_ | refine leS_cons rfl ?_ ?_ | (show PLe _ _ _ _; conv => whnf) | (show SLe _ _ _ _; conv => whnf) | (show PLeL _ _ _ _; conv => whnf) | apply And.intro | rfl | exact Nat.le_refl _ | exact fun _ _ => rfl | exact rowEq0 _ _)
    all_goals first | omega | (dsimp only; omega) | skip
  · intro s hs
    obtain ⟨k, C, G, d⟩ := s
    obtain ⟨h1, h2, h3, h4, h5⟩ := hs
    dsimp only at h1 h2 h3 h4 h5
    conv => whnf
    refine ⟨trivial, fun hc => ?_, fun hc => ?_⟩
    · replace hc := of_decide_eq_true hc
      have hk : 0 < k := by
        have h : (0 : Int) < k := hc
        omega
      have b1 := mkCkD_at d
      conv => whnf
      refine ⟨_, fun _ => call23 d (by omega), ?_⟩
      conv => whnf
      refine ⟨_, fun _ => call24 (mkCkD d) n (by omega) (by omega), ?_⟩
      obtain ⟨p1, _, p3⟩ := serS_props (mkCkD d) n.toNat
      generalize serS (mkCkD d) n.toNat = S at p1 p3 ⊢
      have q1 := fl_push eCk C (mkCk d)
      have q2 := fl_push (eLs 0) G S.l
      conv => whnf
      refine ⟨?_, (k - 1, C ++ [mkCk d], G ++ [S.l], S.d), ⟨?_, ?_, ?_, fun i hi => ?_, ?_⟩, ?_, rfl, rfl, ?_, ?_⟩
      · (try conv => whnf)
        (repeat' (first | exact True.intro | exact fun _ h => h | refine inR64_of ?_ ?_ | apply And.intro | refine maxLen_ge ?_)) <;> (first | omega | (dsimp only; omega) | (dsimp only [List.length_cons, List.length_nil]; omega) | (intro hg; rw [hg]; rfl) | (intro hg hh; rw [hg, hh]; rfl) | (intro hg; simp [-List.getD_eq_getElem?_getD, -Int.default_eq_zero] at hg; first | omega | (refine inR64_of ?_ ?_ <;> omega) | (constructor <;> omega)) | (simp [-List.getD_eq_getElem?_getD, -Int.default_eq_zero]; done))
      · dsimp only; omega
      · simp; omega
      · simp; omega
      · dsimp only at hi ⊢
        rw [List.length_append, List.length_singleton] at hi
        rw [getD_pushG]
        by_cases c : i < G.length
        · rw [if_pos c]; exact h4 i c
        · rw [if_neg c, if_pos (by omega)]; omega
      · dsimp only; omega
      · dsimp only; omega
      all_goals repeat' (first | exact True.intro | refine leF_cons rfl ?_ ?_ | refine leS_cons rfl ?_ ?_ | (show PLe _ _ _ _; conv => whnf) | (show SLe _ _ _ _; conv => whnf) | (show PLeL _ _ _ _; conv => whnf) | apply And.intro | rfl | exact Nat.le_refl _ | exact fun _ _ => rfl | exact rowEq0 _ _)
      all_goals (try dsimp only)
      all_goals first | omega | exact q1 | exact q2 | (simp only [List.length_append, List.length_cons, List.length_nil]; done) | skip
    · clear hc
      have hG : ∀ i, i < G.length → (G.getD i default).length ≤ 8796093022208 := fun i hi => by
        have := h4 i hi; omega
      conv => whnf
      refine ⟨?_, ?_⟩
      · (try conv => whnf)
        (repeat' (first | exact True.intro | exact fun _ h => h | refine inR64_of ?_ ?_ | apply And.intro | refine maxLen_ge ?_)) <;> (first | omega | (dsimp only; omega) | (dsimp only [List.length_cons, List.length_nil]; omega) | (intro hg; rw [hg]; rfl) | (intro hg hh; rw [hg, hh]; rfl) | (intro hg; simp [-List.getD_eq_getElem?_getD, -Int.default_eq_zero] at hg; first | omega | (refine inR64_of ?_ ?_ <;> omega) | (constructor <;> omega)) | (simp [-List.getD_eq_getElem?_getD, -Int.default_eq_zero]; done))
      refine LSem.loop (n := 126) mix (α := Nat) (fun i => i ≤ 2)
        (fun i => [(1, .sl 1 1 rl.length (fl (eLs 1) rl)), (3, .int .i64 most), (12, .sl 0 1 G.length (fl (eLs 0) G)), (60, .os 960), (61, .int .i64 2), (62, .int .i64 i)])
        (fun i => [(960, .row 1 52 1 2 (fun i => [[.sl 0 4 C.length (fl eCk C)], [.sl 1 4 rc.length (fl eCk rc)]].getD i []))]) (fun i => 2 - i) 0 ?_ ?_ ?_
      · exact Nat.zero_le _
      · refine ⟨rfl, rfl, ?_, ?_⟩
        all_goals repeat' (first | exact True.intro | refine leF_cons rfl ?_ ?_ | refine leS_cons rfl ?_ ?_ | (show PLe _ _ _ _; conv => whnf) | (show SLe _ _ _ _; conv => whnf) | (show PLeL _ _ _ _; conv => whnf) | apply And.intro | rfl | exact Nat.le_refl _ | exact fun _ _ => rfl | exact rowEq0 _ _)
        all_goals skip
      · intro i hi
        have h012 : i = 0 ∨ i = 1 ∨ i = 2 := by omega
        rcases h012 with rfl | rfl | rfl
        · conv => whnf
          refine ⟨?_, fun _ => ?_, fun hc => absurd hc (by decide)⟩
          · (try conv => whnf)
            (repeat' (first | exact True.intro | exact fun _ h => h | refine inR64_of ?_ ?_ | apply And.intro | refine maxLen_ge ?_)) <;> (first | omega | (dsimp only; omega) | (dsimp only [List.length_cons, List.length_nil]; omega) | (intro hg; rw [hg]; rfl) | (intro hg hh; rw [hg, hh]; rfl) | (intro hg; simp [-List.getD_eq_getElem?_getD, -Int.default_eq_zero] at hg; first | omega | (refine inR64_of ?_ ?_ <;> omega) | (constructor <;> omega)) | (simp [-List.getD_eq_getElem?_getD, -Int.default_eq_zero]; done))
          conv => whnf
          refine ⟨?_, ?_⟩
          · (try conv => whnf)
            (repeat' (first | exact True.intro | exact fun _ h => h | refine inR64_of ?_ ?_ | apply And.intro | refine maxLen_ge ?_)) <;> (first | omega | (dsimp only; omega) | (dsimp only [List.length_cons, List.length_nil]; omega) | (intro hg; rw [hg]; rfl) | (intro hg hh; rw [hg, hh]; rfl) | (intro hg; simp [-List.getD_eq_getElem?_getD, -Int.default_eq_zero] at hg; first | omega | (refine inR64_of ?_ ?_ <;> omega) | (constructor <;> omega)) | (simp [-List.getD_eq_getElem?_getD, -Int.default_eq_zero]; done))
          refine LSem.loop (n := 126) mix (α := Nat) (fun j => j ≤ 2)
            (fun j => [(1, .sl 1 1 rl.length (fl (eLs 1) rl)), (3, .int .i64 most), (12, .sl 0 1 G.length (fl (eLs 0) G)), (15, .sl 1 4 C.length (fl eCk C)), (60, .os 960), (61, .int .i64 2), (62, .int .i64 0), (68, .os 1088), (69, .int .i64 2), (70, .int .i64 j)])
            (fun j => [(960, .row 1 52 1 2 (fun i => [[.sl 0 4 C.length (fl eCk C)], [.sl 1 4 rc.length (fl eCk rc)]].getD i [])), (1088, .row 1 53 1 2 (fun i => [[.sl 0 1 G.length (fl (eLs 0) G)], [.sl 1 1 rl.length (fl (eLs 1) rl)]].getD i []))]) (fun j => 2 - j) 0 ?_ ?_ ?_
          · exact Nat.zero_le _
          · refine ⟨rfl, rfl, ?_, ?_⟩
            all_goals repeat' (first | exact True.intro | refine leF_cons rfl ?_ ?_ | refine leS_cons rfl ?_ ?_ | (show PLe _ _ _ _; conv => whnf) | (show SLe _ _ _ _; conv => whnf) | (show PLeL _ _ _ _; conv => whnf) | apply And.intro | rfl | exact Nat.le_refl _ | exact fun _ _ => rfl | exact rowEq0 _ _)
            all_goals skip
          · intro j hj
            have h012 : j = 0 ∨ j = 1 ∨ j = 2 := by omega
            rcases h012 with rfl | rfl | rfl
            · conv => whnf
              refine ⟨?_, fun _ => ?_, fun hc => absurd hc (by decide)⟩
              · (try conv => whnf)
                (repeat' (first | exact True.intro | exact fun _ h => h | refine inR64_of ?_ ?_ | apply And.intro | refine maxLen_ge ?_)) <;> (first | omega | (dsimp only; omega) | (dsimp only [List.length_cons, List.length_nil]; omega) | (intro hg; rw [hg]; rfl) | (intro hg hh; rw [hg, hh]; rfl) | (intro hg; simp [-List.getD_eq_getElem?_getD, -Int.default_eq_zero] at hg; first | omega | (refine inR64_of ?_ ?_ <;> omega) | (constructor <;> omega)) | (simp [-List.getD_eq_getElem?_getD, -Int.default_eq_zero]; done))
              conv => whnf
              refine ⟨_, fun _ => call_mod most 30 (by omega) (by omega), ?_⟩
              conv => whnf
              refine ⟨?_, ?_⟩
              · (try conv => whnf)
                (repeat' (first | exact True.intro | exact fun _ h => h | refine inR64_of ?_ ?_ | apply And.intro | refine maxLen_ge ?_)) <;> (first | omega | (dsimp only; omega) | (dsimp only [List.length_cons, List.length_nil]; omega) | (intro hg; rw [hg]; rfl) | (intro hg hh; rw [hg, hh]; rfl) | (intro hg; simp [-List.getD_eq_getElem?_getD, -Int.default_eq_zero] at hg; first | omega | (refine inR64_of ?_ ?_ <;> omega) | (constructor <;> omega)) | (simp [-List.getD_eq_getElem?_getD, -Int.default_eq_zero]; done))
              refine LSem.loop (n := 126) mix (α := Nat) (fun k => k ≤ 2)
                (fun k => [(1, .sl 1 1 rl.length (fl (eLs 1) rl)), (3, .int .i64 most), (12, .sl 0 1 G.length (fl (eLs 0) G)), (15, .sl 1 4 C.length (fl eCk C)), (17, .sl 1 1 G.length (fl (eLs 0) G)), (60, .os 960), (61, .int .i64 2), (62, .int .i64 0), (68, .os 1088), (69, .int .i64 2), (70, .int .i64 0), (77, .os 1232), (78, .int .i64 2), (79, .int .i64 k)])
                (fun k => [(960, .row 1 52 1 2 (fun i => [[.sl 0 4 C.length (fl eCk C)], [.sl 1 4 rc.length (fl eCk rc)]].getD i [])), (1088, .row 1 53 1 2 (fun i => [[.sl 0 1 G.length (fl (eLs 0) G)], [.sl 1 1 rl.length (fl (eLs 1) rl)]].getD i [])), (1232, .row 0 3 1 2 (fun i => [[.int .i64 most], [.int .i64 (most % 30)]].getD i []))]) (fun k => 2 - k) 0 ?_ ?_ ?_
              · exact Nat.zero_le _
              · refine ⟨rfl, rfl, ?_, ?_⟩
                all_goals repeat' (first | exact True.intro | refine leF_cons rfl ?_ ?_ | refine leS_cons rfl ?_ ?_ | (show PLe _ _ _ _; conv => whnf) | (show SLe _ _ _ _; conv => whnf) | (show PLeL _ _ _ _; conv => whnf) | apply And.intro | rfl | exact Nat.le_refl _ | exact fun _ _ => rfl | exact rowEq0 _ _)
                all_goals skip
              · intro k hk
                have h012 : k = 0 ∨ k = 1 ∨ k = 2 := by omega
                rcases h012 with rfl | rfl | rfl
                · conv => whnf
                  refine ⟨?_, fun _ => ?_, fun hc => absurd hc (by decide)⟩
                  · (try conv => whnf)
                    (repeat' (first | exact True.intro | exact fun _ h => h | refine inR64_of ?_ ?_ | apply And.intro | refine maxLen_ge ?_)) <;> (first | omega | (dsimp only; omega) | (dsimp only [List.length_cons, List.length_nil]; omega) | (intro hg; rw [hg]; rfl) | (intro hg hh; rw [hg, hh]; rfl) | (intro hg; simp [-List.getD_eq_getElem?_getD, -Int.default_eq_zero] at hg; first | omega | (refine inR64_of ?_ ?_ <;> omega) | (constructor <;> omega)) | (simp [-List.getD_eq_getElem?_getD, -Int.default_eq_zero]; done))
                  conv => whnf
                  refine Exists.elim (comb_both 0 C G most (by omega) (by omega) hG) fun Y hY => ?_
                  have h29 := hY.2.2.2.1
                  have h30 := hY.2.2.2.2
                  have z1 := hY.1
                  have z2 := hY.2.1
                  have z3 := hY.2.2.1
                  clear hY
                  refine ⟨_, fun _ => PureCall.arg_le h29 rfl ?_, ?_⟩
                  ·
                    all_goals repeat' (first | exact True.intro | refine leF_cons rfl ?_ ?_ | refine leS_cons rfl ?_ ?_ | (show PLe _ _ _ _; conv => whnf) | (show SLe _ _ _ _; conv => whnf) | (show PLeL _ _ _ _; conv => whnf) | apply And.intro | rfl | exact Nat.le_refl _ | exact fun _ _ => rfl | exact rowEq0 _ _)
                    all_goals first | omega | decide | exact Nat.zero_le _ | skip
                  conv => whnf
                  refine ⟨_, fun _ => PureCall.arg_le h30 rfl ?_, ?_⟩
                  ·
                    all_goals repeat' (first | exact True.intro | refine leF_cons rfl ?_ ?_ | refine leS_cons rfl ?_ ?_ | (show PLe _ _ _ _; conv => whnf) | (show SLe _ _ _ _; conv => whnf) | (show PLeL _ _ _ _; conv => whnf) | apply And.intro | rfl | exact Nat.le_refl _ | exact fun _ _ => rfl | exact rowEq0 _ _)
                    all_goals first | omega | decide | exact Nat.zero_le _ | skip
                  clear h29 h30
                  conv => whnf
                  refine ⟨_, fun _ => call17 _ _ Y.1 Y.1 (by omega), ?_⟩
                  conv => whnf
                  refine ⟨_, fun _ => call31 _ _ Y.2.1 Y.2.1 (by omega), ?_⟩
                  conv => whnf
                  refine ⟨_, fun _ => call17 _ _ Y.2.2.1 Y.2.2.1 (by omega), ?_⟩
                  conv => whnf
                  refine ⟨?_, fun hc => ?_, fun _ => ?_⟩
                  · (try conv => whnf)
                    (repeat' (first | exact True.intro | exact fun _ h => h | refine inR64_of ?_ ?_ | apply And.intro | refine maxLen_ge ?_)) <;> (first | omega | (dsimp only; omega) | (dsimp only [List.length_cons, List.length_nil]; omega) | (intro hg; rw [hg]; rfl) | (intro hg hh; rw [hg, hh]; rfl) | (intro hg; simp [-List.getD_eq_getElem?_getD, -Int.default_eq_zero] at hg; first | omega | (refine inR64_of ?_ ?_ <;> omega) | (constructor <;> omega)) | (simp [-List.getD_eq_getElem?_getD, -Int.default_eq_zero]; done))
                  · exfalso
                    simp at hc
                  conv => whnf
                  refine ⟨?_, 0 + 1, (by omega : 0 + 1 ≤ 2), ?_, rfl, rfl, ?_, ?_⟩
                  · (try conv => whnf)
                    (repeat' (first | exact True.intro | exact fun _ h => h | refine inR64_of ?_ ?_ | apply And.intro | refine maxLen_ge ?_)) <;> (first | omega | (dsimp only; omega) | (dsimp only [List.length_cons, List.length_nil]; omega) | (intro hg; rw [hg]; rfl) | (intro hg hh; rw [hg, hh]; rfl) | (intro hg; simp [-List.getD_eq_getElem?_getD, -Int.default_eq_zero] at hg; first | omega | (refine inR64_of ?_ ?_ <;> omega) | (constructor <;> omega)) | (simp [-List.getD_eq_getElem?_getD, -Int.default_eq_zero]; done))
                  · omega
                  all_goals repeat' (first | exact True.intro | refine leF_cons rfl ?_ ?_ | refine leS_cons rfl ?_ ?_ | (show PLe _ _ _ _; conv => whnf) | (show SLe _ _ _ _; conv => whnf) | (show PLeL _ _ _ _; conv => whnf) | apply And.intro | rfl | exact Nat.le_refl _ | exact fun _ _ => rfl | exact rowEq0 _ _)
                  all_goals skip
                · conv => whnf
                  refine ⟨?_, fun _ => ?_, fun hc => absurd hc (by decide)⟩
                  · (try conv => whnf)
                    (repeat' (first | exact True.intro | exact fun _ h => h | refine inR64_of ?_ ?_ | apply And.intro | refine maxLen_ge ?_)) <;> (first | omega | (dsimp only; omega) | (dsimp only [List.length_cons, List.length_nil]; omega) | (intro hg; rw [hg]; rfl) | (intro hg hh; rw [hg, hh]; rfl) | (intro hg; simp [-List.getD_eq_getElem?_getD, -Int.default_eq_zero] at hg; first | omega | (refine inR64_of ?_ ?_ <;> omega) | (constructor <;> omega)) | (simp [-List.getD_eq_getElem?_getD, -Int.default_eq_zero]; done))
                  conv => whnf
                  refine Exists.elim (comb_both 0 C G (most % 30) (by omega) (by omega) hG) fun Y hY => ?_
                  have h29 := hY.2.2.2.1
                  have h30 := hY.2.2.2.2
                  have z1 := hY.1
                  have z2 := hY.2.1
                  have z3 := hY.2.2.1
                  clear hY
                  refine ⟨_, fun _ => PureCall.arg_le h29 rfl ?_, ?_⟩
                  ·
                    all_goals repeat' (first | exact True.intro | refine leF_cons rfl ?_ ?_ | refine leS_cons rfl ?_ ?_ | (show PLe _ _ _ _; conv => whnf) | (show SLe _ _ _ _; conv => whnf) | (show PLeL _ _ _ _; conv => whnf) | apply And.intro | rfl | exact Nat.le_refl _ | exact fun _ _ => rfl | exact rowEq0 _ _)
                    all_goals first | omega | decide | exact Nat.zero_le _ | skip
                  conv => whnf
                  refine ⟨_, fun _ => PureCall.arg_le h30 rfl ?_, ?_⟩
                  ·
                    all_goals repeat' (first | exact True.intro | refine leF_cons rfl ?_ ?_ | refine leS_cons rfl ?_ ?_ | (show PLe _ _ _ _; conv => whnf) | (show SLe _ _ _ _; conv => whnf) | (show PLeL _ _ _ _; conv => whnf) | apply And.intro | rfl | exact Nat.le_refl _ | exact fun _ _ => rfl | exact rowEq0 _ _)
                    all_goals first | omega | decide | exact Nat.zero_le _ | skip
                  clear h29 h30
                  conv => whnf
                  refine ⟨_, fun _ => call17 _ _ Y.1 Y.1 (by omega), ?_⟩
                  conv => whnf
                  refine ⟨_, fun _ => call31 _ _ Y.2.1 Y.2.1 (by omega), ?_⟩
                  conv => whnf
                  refine ⟨_, fun _ => call17 _ _ Y.2.2.1 Y.2.2.1 (by omega), ?_⟩
                  conv => whnf
                  refine ⟨?_, fun hc => ?_, fun _ => ?_⟩
                  · (try conv => whnf)
                    (repeat' (first | exact True.intro | exact fun _ h => h | refine inR64_of ?_ ?_ | apply And.intro | refine maxLen_ge ?_)) <;> (first | omega | (dsimp only; omega) | (dsimp only [List.length_cons, List.length_nil]; omega) | (intro hg; rw [hg]; rfl) | (intro hg hh; rw [hg, hh]; rfl) | (intro hg; simp [-List.getD_eq_getElem?_getD, -Int.default_eq_zero] at hg; first | omega | (refine inR64_of ?_ ?_ <;> omega) | (constructor <;> omega)) | (simp [-List.getD_eq_getElem?_getD, -Int.default_eq_zero]; done))
                  · exfalso
                    simp at hc
                  conv => whnf
                  refine ⟨?_, 1 + 1, (by omega : 1 + 1 ≤ 2), ?_, rfl, rfl, ?_, ?_⟩
                  · (try conv => whnf)
                    (repeat' (first | exact True.intro | exact fun _ h => h | refine inR64_of ?_ ?_ | apply And.intro | refine maxLen_ge ?_)) <;> (first | omega | (dsimp only; omega) | (dsimp only [List.length_cons, List.length_nil]; omega) | (intro hg; rw [hg]; rfl) | (intro hg hh; rw [hg, hh]; rfl) | (intro hg; simp [-List.getD_eq_getElem?_getD, -Int.default_eq_zero] at hg; first | omega | (refine inR64_of ?_ ?_ <;> omega) | (constructor <;> omega)) | (simp [-List.getD_eq_getElem?_getD, -Int.default_eq_zero]; done))
                  · omega
                  all_goals repeat' (first | exact True.intro | refine leF_cons rfl ?_ ?_ | refine leS_cons rfl ?_ ?_ | (show PLe _ _ _ _; conv => whnf) | (show SLe _ _ _ _; conv => whnf) | (show PLeL _ _ _ _; conv => whnf) | apply And.intro | rfl | exact Nat.le_refl _ | exact fun _ _ => rfl | exact rowEq0 _ _)
                  all_goals skip
                · conv => whnf
                  refine ⟨?_, fun hc => absurd hc (by decide), fun _ => ?_⟩
                  · (try conv => whnf)
                    (repeat' (first | exact True.intro | exact fun _ h => h | refine inR64_of ?_ ?_ | apply And.intro | refine maxLen_ge ?_)) <;> (first | omega | (dsimp only; omega) | (dsimp only [List.length_cons, List.length_nil]; omega) | (intro hg; rw [hg]; rfl) | (intro hg hh; rw [hg, hh]; rfl) | (intro hg; simp [-List.getD_eq_getElem?_getD, -Int.default_eq_zero] at hg; first | omega | (refine inR64_of ?_ ?_ <;> omega) | (constructor <;> omega)) | (simp [-List.getD_eq_getElem?_getD, -Int.default_eq_zero]; done))
                  conv => whnf
                  refine ⟨?_, 0 + 1, (by omega : 0 + 1 ≤ 2), ?_, rfl, rfl, ?_, ?_⟩
                  · (try conv => whnf)
                    (repeat' (first | exact True.intro | exact fun _ h => h | refine inR64_of ?_ ?_ | apply And.intro | refine maxLen_ge ?_)) <;> (first | omega | (dsimp only; omega) | (dsimp only [List.length_cons, List.length_nil]; omega) | (intro hg; rw [hg]; rfl) | (intro hg hh; rw [hg, hh]; rfl) | (intro hg; simp [-List.getD_eq_getElem?_getD, -Int.default_eq_zero] at hg; first | omega | (refine inR64_of ?_ ?_ <;> omega) | (constructor <;> omega)) | (simp [-List.getD_eq_getElem?_getD, -Int.default_eq_zero]; done))
                  · omega
                  all_goals repeat' (first | exact True.intro | refine leF_cons rfl ?_ ?_ | refine leS_cons rfl ?_ ?_ | (show PLe _ _ _ _; conv => whnf) | (show SLe _ _ _ _; conv => whnf) | (show PLeL _ _ _ _; conv => whnf) | apply And.intro | rfl | exact Nat.le_refl _ | exact fun _ _ => rfl | exact rowEq0 _ _)
                  all_goals skip
            · conv => whnf
              refine ⟨?_, fun _ => ?_, fun hc => absurd hc (by decide)⟩
              · (try conv => whnf)
                (repeat' (first | exact True.intro | exact fun _ h => h | refine inR64_of ?_ ?_ | apply And.intro | refine maxLen_ge ?_)) <;> (first | omega | (dsimp only; omega) | (dsimp only [List.length_cons, List.length_nil]; omega) | (intro hg; rw [hg]; rfl) | (intro hg hh; rw [hg, hh]; rfl) | (intro hg; simp [-List.getD_eq_getElem?_getD, -Int.default_eq_zero] at hg; first | omega | (refine inR64_of ?_ ?_ <;> omega) | (constructor <;> omega)) | (simp [-List.getD_eq_getElem?_getD, -Int.default_eq_zero]; done))
              conv => whnf
              refine ⟨_, fun _ => call_mod most 30 (by omega) (by omega), ?_⟩
              conv => whnf
              refine ⟨?_, ?_⟩
              · (try conv => whnf)
                (repeat' (first | exact True.intro | exact fun _ h => h | refine inR64_of ?_ ?_ | apply And.intro | refine maxLen_ge ?_)) <;> (first | omega | (dsimp only; omega) | (dsimp only [List.length_cons, List.length_nil]; omega) | (intro hg; rw [hg]; rfl) | (intro hg hh; rw [hg, hh]; rfl) | (intro hg; simp [-List.getD_eq_getElem?_getD, -Int.default_eq_zero] at hg; first | omega | (refine inR64_of ?_ ?_ <;> omega) | (constructor <;> omega)) | (simp [-List.getD_eq_getElem?_getD, -Int.default_eq_zero]; done))
              refine LSem.loop (n := 126) mix (α := Nat) (fun k => k ≤ 2)
                (fun k => [(1, .sl 1 1 rl.length (fl (eLs 1) rl)), (3, .int .i64 most), (12, .sl 0 1 G.length (fl (eLs 0) G)), (15, .sl 1 4 C.length (fl eCk C)), (17, .sl 1 1 rl.length (fl (eLs 1) rl)), (60, .os 960), (61, .int .i64 2), (62, .int .i64 0), (68, .os 1088), (69, .int .i64 2), (70, .int .i64 1), (77, .os 1232), (78, .int .i64 2), (79, .int .i64 k)])
                (fun k => [(960, .row 1 52 1 2 (fun i => [[.sl 0 4 C.length (fl eCk C)], [.sl 1 4 rc.length (fl eCk rc)]].getD i [])), (1088, .row 1 53 1 2 (fun i => [[.sl 0 1 G.length (fl (eLs 0) G)], [.sl 1 1 rl.length (fl (eLs 1) rl)]].getD i [])), (1232, .row 0 3 1 2 (fun i => [[.int .i64 most], [.int .i64 (most % 30)]].getD i []))]) (fun k => 2 - k) 0 ?_ ?_ ?_
              · exact Nat.zero_le _
              · refine ⟨rfl, rfl, ?_, ?_⟩
                all_goals repeat' (first | exact True.intro | refine leF_cons rfl ?_ ?_ | refine leS_cons rfl ?_ ?_ | (show PLe _ _ _ _; conv => whnf) | (show SLe _ _ _ _; conv => whnf) | (show PLeL _ _ _ _; conv => whnf) | apply And.intro | rfl | exact Nat.le_refl _ | exact fun _ _ => rfl | exact rowEq0 _ _)
                all_goals skip
              · intro k hk
                have h012 : k = 0 ∨ k = 1 ∨ k = 2 := by omega
                rcases h012 with rfl | rfl | rfl
                · conv => whnf
                  refine ⟨?_, fun _ => ?_, fun hc => absurd hc (by decide)⟩
                  · (try conv => whnf)
                    (repeat' (first | exact True.intro | exact fun _ h => h | refine inR64_of ?_ ?_ | apply And.intro | refine maxLen_ge ?_)) <;> (first | omega | (dsimp only; omega) | (dsimp only [List.length_cons, List.length_nil]; omega) | (intro hg; rw [hg]; rfl) | (intro hg hh; rw [hg, hh]; rfl) | (intro hg; simp [-List.getD_eq_getElem?_getD, -Int.default_eq_zero] at hg; first | omega | (refine inR64_of ?_ ?_ <;> omega) | (constructor <;> omega)) | (simp [-List.getD_eq_getElem?_getD, -Int.default_eq_zero]; done))
                  conv => whnf
                  refine Exists.elim (comb_both 1 C rl most (by omega) (by omega) hrl) fun Y hY => ?_
                  have h29 := hY.2.2.2.1
                  have h30 := hY.2.2.2.2
                  have z1 := hY.1
                  have z2 := hY.2.1
                  have z3 := hY.2.2.1
                  clear hY
                  refine ⟨_, fun _ => PureCall.arg_le h29 rfl ?_, ?_⟩
                  ·
                    all_goals repeat' (first | exact True.intro | refine leF_cons rfl ?_ ?_ | refine leS_cons rfl ?_ ?_ | (show PLe _ _ _ _; conv => whnf) | (show SLe _ _ _ _; conv => whnf) | (show PLeL _ _ _ _; conv => whnf) | apply And.intro | rfl | exact Nat.le_refl _ | exact fun _ _ => rfl | exact rowEq0 _ _)
                    all_goals first | omega | decide | exact Nat.zero_le _ | skip
                  conv => whnf
                  refine ⟨_, fun _ => PureCall.arg_le h30 rfl ?_, ?_⟩
                  ·
                    all_goals repeat' (first | exact True.intro | refine leF_cons rfl ?_ ?_ | refine leS_cons rfl ?_ ?_ | (show PLe _ _ _ _; conv => whnf) | (show SLe _ _ _ _; conv => whnf) | (show PLeL _ _ _ _; conv => whnf) | apply And.intro | rfl | exact Nat.le_refl _ | exact fun _ _ => rfl | exact rowEq0 _ _)
                    all_goals first | omega | decide | exact Nat.zero_le _ | skip
                  clear h29 h30
                  conv => whnf
                  refine ⟨_, fun _ => call17 _ _ Y.1 Y.1 (by omega), ?_⟩
                  conv => whnf
                  refine ⟨_, fun _ => call31 _ _ Y.2.1 Y.2.1 (by omega), ?_⟩
                  conv => whnf
                  refine ⟨_, fun _ => call17 _ _ Y.2.2.1 Y.2.2.1 (by omega), ?_⟩
                  conv => whnf
                  refine ⟨?_, fun hc => ?_, fun _ => ?_⟩
                  · (try conv => whnf)
                    (repeat' (first | exact True.intro | exact fun _ h => h | refine inR64_of ?_ ?_ | apply And.intro | refine maxLen_ge ?_)) <;> (first | omega | (dsimp only; omega) | (dsimp only [List.length_cons, List.length_nil]; omega) | (intro hg; rw [hg]; rfl) | (intro hg hh; rw [hg, hh]; rfl) | (intro hg; simp [-List.getD_eq_getElem?_getD, -Int.default_eq_zero] at hg; first | omega | (refine inR64_of ?_ ?_ <;> omega) | (constructor <;> omega)) | (simp [-List.getD_eq_getElem?_getD, -Int.default_eq_zero]; done))
                  · exfalso
                    simp at hc
                  conv => whnf
                  refine ⟨?_, 0 + 1, (by omega : 0 + 1 ≤ 2), ?_, rfl, rfl, ?_, ?_⟩
                  · (try conv => whnf)
                    (repeat' (first | exact True.intro | exact fun _ h => h | refine inR64_of ?_ ?_ | apply And.intro | refine maxLen_ge ?_)) <;> (first | omega | (dsimp only; omega) | (dsimp only [List.length_cons, List.length_nil]; omega) | (intro hg; rw [hg]; rfl) | (intro hg hh; rw [hg, hh]; rfl) | (intro hg; simp [-List.getD_eq_getElem?_getD, -Int.default_eq_zero] at hg; first | omega | (refine inR64_of ?_ ?_ <;> omega) | (constructor <;> omega)) | (simp [-List.getD_eq_getElem?_getD, -Int.default_eq_zero]; done))
                  · omega
                  all_goals repeat' (first | exact True.intro | refine leF_cons rfl ?_ ?_ | refine leS_cons rfl ?_ ?_ | (show PLe _ _ _ _; conv => whnf) | (show SLe _ _ _ _; conv => whnf) | (show PLeL _ _ _ _; conv => whnf) | apply And.intro | rfl | exact Nat.le_refl _ | exact fun _ _ => rfl | exact rowEq0 _ _)
                  all_goals skip
                · conv => whnf
                  refine ⟨?_, fun _ => ?_, fun hc => absurd hc (by decide)⟩
                  · (try conv => whnf)
                    (repeat' (first | exact True.intro | exact fun _ h => h | refine inR64_of ?_ ?_ | apply And.intro | refine maxLen_ge ?_)) <;> (first | omega | (dsimp only; omega) | (dsimp only [List.length_cons, List.length_nil]; omega) | (intro hg; rw [hg]; rfl) | (intro hg hh; rw [hg, hh]; rfl) | (intro hg; simp [-List.getD_eq_getElem?_getD, -Int.default_eq_zero] at hg; first | omega | (refine inR64_of ?_ ?_ <;> omega) | (constructor <;> omega)) | (simp [-List.getD_eq_getElem?_getD, -Int.default_eq_zero]; done))
                  conv => whnf
                  refine Exists.elim (comb_both 1 C rl (most % 30) (by omega) (by omega) hrl) fun Y hY => ?_
                  have h29 := hY.2.2.2.1
                  have h30 := hY.2.2.2.2
                  have z1 := hY.1
                  have z2 := hY.2.1
                  have z3 := hY.2.2.1
                  clear hY
                  refine ⟨_, fun _ => PureCall.arg_le h29 rfl ?_, ?_⟩
                  ·
                    all_goals repeat' (first | exact True.intro | refine leF_cons rfl ?_ ?_ | refine leS_cons rfl ?_ ?_ | (show PLe _ _ _ _; conv => whnf) | (show SLe _ _ _ _; conv => whnf) | (show PLeL _ _ _ _; conv => whnf) | apply And.intro | rfl | exact Nat.le_refl _ | exact fun _ _ => rfl | exact rowEq0 _ _)
                    all_goals first | omega | decide | exact Nat.zero_le _ | skip
                  conv => whnf
                  refine ⟨_, fun _ => PureCall.arg_le h30 rfl ?_, ?_⟩
                  ·
                    all_goals repeat' (first | exact True.intro | refine leF_cons rfl ?_ ?_ | refine leS_cons rfl ?_ ?_ | (show PLe _ _ _ _; conv => whnf) | (show SLe _ _ _ _; conv => whnf) | (show PLeL _ _ _ _; conv => whnf) | apply And.intro | rfl | exact Nat.le_refl _ | exact fun _ _ => rfl | exact rowEq0 _ _)
                    all_goals first | omega | decide | exact Nat.zero_le _ | skip
                  clear h29 h30
                  conv => whnf
                  refine ⟨_, fun _ => call17 _ _ Y.1 Y.1 (by omega), ?_⟩
                  conv => whnf
                  refine ⟨_, fun _ => call31 _ _ Y.2.1 Y.2.1 (by omega), ?_⟩
                  conv => whnf
                  refine ⟨_, fun _ => call17 _ _ Y.2.2.1 Y.2.2.1 (by omega), ?_⟩
                  conv => whnf
                  refine ⟨?_, fun hc => ?_, fun _ => ?_⟩
                  · (try conv => whnf)
                    (repeat' (first | exact True.intro | exact fun _ h => h | refine inR64_of ?_ ?_ | apply And.intro | refine maxLen_ge ?_)) <;> (first | omega | (dsimp only; omega) | (dsimp only [List.length_cons, List.length_nil]; omega) | (intro hg; rw [hg]; rfl) | (intro hg hh; rw [hg, hh]; rfl) | (intro hg; simp [-List.getD_eq_getElem?_getD, -Int.default_eq_zero] at hg; first | omega | (refine inR64_of ?_ ?_ <;> omega) | (constructor <;> omega)) | (simp [-List.getD_eq_getElem?_getD, -Int.default_eq_zero]; done))
                  · exfalso
                    simp at hc
                  conv => whnf
                  refine ⟨?_, 1 + 1, (by omega : 1 + 1 ≤ 2), ?_, rfl, rfl, ?_, ?_⟩
                  · (try conv => whnf)
                    (repeat' (first | exact True.intro | exact fun _ h => h | refine inR64_of ?_ ?_ | apply And.intro | refine maxLen_ge ?_)) <;> (first | omega | (dsimp only; omega) | (dsimp only [List.length_cons, List.length_nil]; omega) | (intro hg; rw [hg]; rfl) | (intro hg hh; rw [hg, hh]; rfl) | (intro hg; simp [-List.getD_eq_getElem?_getD, -Int.default_eq_zero] at hg; first | omega | (refine inR64_of ?_ ?_ <;> omega) | (constructor <;> omega)) | (simp [-List.getD_eq_getElem?_getD, -Int.default_eq_zero]; done))
                  · omega
                  all_goals repeat' (first | exact True.intro | refine leF_cons rfl ?_ ?_ | refine leS_cons rfl ?_ ?_ | (show PLe _ _ _ _; conv => whnf) | (show SLe _ _ _ _; conv => whnf) | (show PLeL _ _ _ _; conv => whnf) | apply And.intro | rfl | exact Nat.le_refl _ | exact fun _ _ => rfl | exact rowEq0 _ _)
                  all_goals skip
                · conv => whnf
                  refine ⟨?_, fun hc => absurd hc (by decide), fun _ => ?_⟩
                  · (try conv => whnf)
                    (repeat' (first | exact True.intro | exact fun _ h => h | refine inR64_of ?_ ?_ | apply And.intro | refine maxLen_ge ?_)) <;> (first | omega | (dsimp only; omega) | (dsimp only [List.length_cons, List.length_nil]; omega) | (intro hg; rw [hg]; rfl) | (intro hg hh; rw [hg, hh]; rfl) | (intro hg; simp [-List.getD_eq_getElem?_getD, -Int.default_eq_zero] at hg; first | omega | (refine inR64_of ?_ ?_ <;> omega) | (constructor <;> omega)) | (simp [-List.getD_eq_getElem?_getD, -Int.default_eq_zero]; done))
                  conv => whnf
                  refine ⟨?_, 1 + 1, (by omega : 1 + 1 ≤ 2), ?_, rfl, rfl, ?_, ?_⟩
                  · (try conv => whnf)
                    (repeat' (first | exact True.intro | exact fun _ h => h | refine inR64_of ?_ ?_ | apply And.intro | refine maxLen_ge ?_)) <;> (first | omega | (dsimp only; omega) | (dsimp only [List.length_cons, List.length_nil]; omega) | (intro hg; rw [hg]; rfl) | (intro hg hh; rw [hg, hh]; rfl) | (intro hg; simp [-List.getD_eq_getElem?_getD, -Int.default_eq_zero] at hg; first | omega | (refine inR64_of ?_ ?_ <;> omega) | (constructor <;> omega)) | (simp [-List.getD_eq_getElem?_getD, -Int.default_eq_zero]; done))
                  · omega
                  all_goals repeat' (first | exact True.intro | refine leF_cons rfl ?_ ?_ | refine leS_cons rfl ?_ ?_ | (show PLe _ _ _ _; conv => whnf) | (show SLe _ _ _ _; conv => whnf) | (show PLeL _ _ _ _; conv => whnf) | apply And.intro | rfl | exact Nat.le_refl _ | exact fun _ _ => rfl | exact rowEq0 _ _)
                  all_goals skip
            · conv => whnf
              refine ⟨?_, fun hc => absurd hc (by decide), fun _ => ?_⟩
              · (try conv => whnf)
                (repeat' (first | exact True.intro | exact fun _ h => h | refine inR64_of ?_ ?_ | apply And.intro | refine maxLen_ge ?_)) <;> (first | omega | (dsimp only; omega) | (dsimp only [List.length_cons, List.length_nil]; omega) | (intro hg; rw [hg]; rfl) | (intro hg hh; rw [hg, hh]; rfl) | (intro hg; simp [-List.getD_eq_getElem?_getD, -Int.default_eq_zero] at hg; first | omega | (refine inR64_of ?_ ?_ <;> omega) | (constructor <;> omega)) | (simp [-List.getD_eq_getElem?_getD, -Int.default_eq_zero]; done))
              conv => whnf
              refine ⟨?_, 0 + 1, (by omega : 0 + 1 ≤ 2), ?_, rfl, rfl, ?_, ?_⟩
              · (try conv => whnf)
                (repeat' (first | exact True.intro | exact fun _ h => h | refine inR64_of ?_ ?_ | apply And.intro | refine maxLen_ge ?_)) <;> (first | omega | (dsimp only; omega) | (dsimp only [List.length_cons, List.length_nil]; omega) | (intro hg; rw [hg]; rfl) | (intro hg hh; rw [hg, hh]; rfl) | (intro hg; simp [-List.getD_eq_getElem?_getD, -Int.default_eq_zero] at hg; first | omega | (refine inR64_of ?_ ?_ <;> omega) | (constructor <;> omega)) | (simp [-List.getD_eq_getElem?_getD, -Int.default_eq_zero]; done))
              · omega
              all_goals repeat' (first | exact True.intro | refine leF_cons rfl ?_ ?_ | refine leS_cons rfl ?_ ?_ | (show PLe _ _ _ _; conv => whnf) | (show SLe _ _ _ _; conv => whnf) | (show PLeL _ _ _ _; conv => whnf) | apply And.intro | rfl | exact Nat.le_refl _ | exact fun _ _ => rfl | exact rowEq0 _ _)
              all_goals skip
        · conv => whnf
          refine ⟨?_, fun _ => ?_, fun hc => absurd hc (by decide)⟩
          · (try conv => whnf)
            (repeat' (first | exact True.intro | exact fun _ h => h | refine inR64_of ?_ ?_ | apply And.intro | refine maxLen_ge ?_)) <;> (first | omega | (dsimp only; omega) | (dsimp only [List.length_cons, List.length_nil]; omega) | (intro hg; rw [hg]; rfl) | (intro hg hh; rw [hg, hh]; rfl) | (intro hg; simp [-List.getD_eq_getElem?_getD, -Int.default_eq_zero] at hg; first | omega | (refine inR64_of ?_ ?_ <;> omega) | (constructor <;> omega)) | (simp [-List.getD_eq_getElem?_getD, -Int.default_eq_zero]; done))
          conv => whnf
          refine ⟨?_, ?_⟩
          · (try conv => whnf)
            (repeat' (first | exact True.intro | exact fun _ h => h | refine inR64_of ?_ ?_ | apply And.intro | refine maxLen_ge ?_)) <;> (first | omega | (dsimp only; omega) | (dsimp only [List.length_cons, List.length_nil]; omega) | (intro hg; rw [hg]; rfl) | (intro hg hh; rw [hg, hh]; rfl) | (intro hg; simp [-List.getD_eq_getElem?_getD, -Int.default_eq_zero] at hg; first | omega | (refine inR64_of ?_ ?_ <;> omega) | (constructor <;> omega)) | (simp [-List.getD_eq_getElem?_getD, -Int.default_eq_zero]; done))
          refine LSem.loop (n := 126) mix (α := Nat) (fun j => j ≤ 2)
            (fun j => [(1, .sl 1 1 rl.length (fl (eLs 1) rl)), (3, .int .i64 most), (12, .sl 0 1 G.length (fl (eLs 0) G)), (15, .sl 1 4 rc.length (fl eCk rc)), (60, .os 960), (61, .int .i64 2), (62, .int .i64 1), (68, .os 1088), (69, .int .i64 2), (70, .int .i64 j)])
            (fun j => [(960, .row 1 52 1 2 (fun i => [[.sl 0 4 C.length (fl eCk C)], [.sl 1 4 rc.length (fl eCk rc)]].getD i [])), (1088, .row 1 53 1 2 (fun i => [[.sl 0 1 G.length (fl (eLs 0) G)], [.sl 1 1 rl.length (fl (eLs 1) rl)]].getD i []))]) (fun j => 2 - j) 0 ?_ ?_ ?_
          · exact Nat.zero_le _
          · refine ⟨rfl, rfl, ?_, ?_⟩
            all_goals repeat' (first | exact True.intro | refine leF_cons rfl ?_ ?_ | refine leS_cons rfl ?_ ?_ | (show PLe _ _ _ _; conv => whnf) | (show SLe _ _ _ _; conv => whnf) | (show PLeL _ _ _ _; conv => whnf) | apply And.intro | rfl | exact Nat.le_refl _ | exact fun _ _ => rfl | exact rowEq0 _ _)
            all_goals skip
          · intro j hj
            have h012 : j = 0 ∨ j = 1 ∨ j = 2 := by omega
            rcases h012 with rfl | rfl | rfl
            · conv => whnf
              refine ⟨?_, fun _ => ?_, fun hc => absurd hc (by decide)⟩
              · (try conv => whnf)
                (repeat' (first | exact True.intro | exact fun _ h => h | refine inR64_of ?_ ?_ | apply And.intro | refine maxLen_ge ?_)) <;> (first | omega | (dsimp only; omega) | (dsimp only [List.length_cons, List.length_nil]; omega) | (intro hg; rw [hg]; rfl) | (intro hg hh; rw [hg, hh]; rfl) | (intro hg; simp [-List.getD_eq_getElem?_getD, -Int.default_eq_zero] at hg; first | omega | (refine inR64_of ?_ ?_ <;> omega) | (constructor <;> omega)) | (simp [-List.getD_eq_getElem?_getD, -Int.default_eq_zero]; done))
              conv => whnf
              refine ⟨_, fun _ => call_mod most 30 (by omega) (by omega), ?_⟩
              conv => whnf
              refine ⟨?_, ?_⟩
              · (try conv => whnf)
                (repeat' (first | exact True.intro | exact fun _ h => h | refine inR64_of ?_ ?_ | apply And.intro | refine maxLen_ge ?_)) <;> (first | omega | (dsimp only; omega) | (dsimp only [List.length_cons, List.length_nil]; omega) | (intro hg; rw [hg]; rfl) | (intro hg hh; rw [hg, hh]; rfl) | (intro hg; simp [-List.getD_eq_getElem?_getD, -Int.default_eq_zero] at hg; first | omega | (refine inR64_of ?_ ?_ <;> omega) | (constructor <;> omega)) | (simp [-List.getD_eq_getElem?_getD, -Int.default_eq_zero]; done))
              refine LSem.loop (n := 126) mix (α := Nat) (fun k => k ≤ 2)
                (fun k => [(1, .sl 1 1 rl.length (fl (eLs 1) rl)), (3, .int .i64 most), (12, .sl 0 1 G.length (fl (eLs 0) G)), (15, .sl 1 4 rc.length (fl eCk rc)), (17, .sl 1 1 G.length (fl (eLs 0) G)), (60, .os 960), (61, .int .i64 2), (62, .int .i64 1), (68, .os 1088), (69, .int .i64 2), (70, .int .i64 0), (77, .os 1232), (78, .int .i64 2), (79, .int .i64 k)])
                (fun k => [(960, .row 1 52 1 2 (fun i => [[.sl 0 4 C.length (fl eCk C)], [.sl 1 4 rc.length (fl eCk rc)]].getD i [])), (1088, .row 1 53 1 2 (fun i => [[.sl 0 1 G.length (fl (eLs 0) G)], [.sl 1 1 rl.length (fl (eLs 1) rl)]].getD i [])), (1232, .row 0 3 1 2 (fun i => [[.int .i64 most], [.int .i64 (most % 30)]].getD i []))]) (fun k => 2 - k) 0 ?_ ?_ ?_
              · exact Nat.zero_le _
              · refine ⟨rfl, rfl, ?_, ?_⟩
                all_goals repeat' (first | exact True.intro | refine leF_cons rfl ?_ ?_ | refine leS_cons rfl ?_ ?_ | (show PLe _ _ _ _; conv => whnf) | (show SLe _ _ _ _; conv => whnf) | (show PLeL _ _ _ _; conv => whnf) | apply And.intro | rfl | exact Nat.le_refl _ | exact fun _ _ => rfl | exact rowEq0 _ _)
                all_goals skip
              · intro k hk
                have h012 : k = 0 ∨ k = 1 ∨ k = 2 := by omega
                rcases h012 with rfl | rfl | rfl
                · conv => whnf
                  refine ⟨?_, fun _ => ?_, fun hc => absurd hc (by decide)⟩
                  · (try conv => whnf)
                    (repeat' (first | exact True.intro | exact fun _ h => h | refine inR64_of ?_ ?_ | apply And.intro | refine maxLen_ge ?_)) <;> (first | omega | (dsimp only; omega) | (dsimp only [List.length_cons, List.length_nil]; omega) | (intro hg; rw [hg]; rfl) | (intro hg hh; rw [hg, hh]; rfl) | (intro hg; simp [-List.getD_eq_getElem?_getD, -Int.default_eq_zero] at hg; first | omega | (refine inR64_of ?_ ?_ <;> omega) | (constructor <;> omega)) | (simp [-List.getD_eq_getElem?_getD, -Int.default_eq_zero]; done))
                  conv => whnf
                  refine Exists.elim (comb_both 0 rc G most (by omega) (by omega) hG) fun Y hY => ?_
                  have h29 := hY.2.2.2.1
                  have h30 := hY.2.2.2.2
                  have z1 := hY.1
                  have z2 := hY.2.1
                  have z3 := hY.2.2.1
                  clear hY
                  refine ⟨_, fun _ => PureCall.arg_le h29 rfl ?_, ?_⟩
                  ·
                    all_goals repeat' (first | exact True.intro | refine leF_cons rfl ?_ ?_ | refine leS_cons rfl ?_ ?_ | (show PLe _ _ _ _; conv => whnf) | (show SLe _ _ _ _; conv => whnf) | (show PLeL _ _ _ _; conv => whnf) | apply And.intro | rfl | exact Nat.le_refl _ | exact fun _ _ => rfl | exact rowEq0 _ _)
                    all_goals first | omega | decide | exact Nat.zero_le _ | skip
                  conv => whnf
                  refine ⟨_, fun _ => PureCall.arg_le h30 rfl ?_, ?_⟩
                  ·
                    all_goals repeat' (first | exact True.intro | refine leF_cons rfl ?_ ?_ | refine leS_cons rfl ?_ ?_ | (show PLe _ _ _ _; conv => whnf) | (show SLe _ _ _ _; conv => whnf) | (show PLeL _ _ _ _; conv => whnf) | apply And.intro | rfl | exact Nat.le_refl _ | exact fun _ _ => rfl | exact rowEq0 _ _)
                    all_goals first | omega | decide | exact Nat.zero_le _ | skip
                  clear h29 h30
                  conv => whnf
                  refine ⟨_, fun _ => call17 _ _ Y.1 Y.1 (by omega), ?_⟩
                  conv => whnf
                  refine ⟨_, fun _ => call31 _ _ Y.2.1 Y.2.1 (by omega), ?_⟩
                  conv => whnf
                  refine ⟨_, fun _ => call17 _ _ Y.2.2.1 Y.2.2.1 (by omega), ?_⟩
                  conv => whnf
                  refine ⟨?_, fun hc => ?_, fun _ => ?_⟩
                  · (try conv => whnf)
                    (repeat' (first | exact True.intro | exact fun _ h => h | refine inR64_of ?_ ?_ | apply And.intro | refine maxLen_ge ?_)) <;> (first | omega | (dsimp only; omega) | (dsimp only [List.length_cons, List.length_nil]; omega) | (intro hg; rw [hg]; rfl) | (intro hg hh; rw [hg, hh]; rfl) | (intro hg; simp [-List.getD_eq_getElem?_getD, -Int.default_eq_zero] at hg; first | omega | (refine inR64_of ?_ ?_ <;> omega) | (constructor <;> omega)) | (simp [-List.getD_eq_getElem?_getD, -Int.default_eq_zero]; done))
                  · exfalso
                    simp at hc
                  conv => whnf
                  refine ⟨?_, 0 + 1, (by omega : 0 + 1 ≤ 2), ?_, rfl, rfl, ?_, ?_⟩
                  · (try conv => whnf)
                    (repeat' (first | exact True.intro | exact fun _ h => h | refine inR64_of ?_ ?_ | apply And.intro | refine maxLen_ge ?_)) <;> (first | omega | (dsimp only; omega) | (dsimp only [List.length_cons, List.length_nil]; omega) | (intro hg; rw [hg]; rfl) | (intro hg hh; rw [hg, hh]; rfl) | (intro hg; simp [-List.getD_eq_getElem?_getD, -Int.default_eq_zero] at hg; first | omega | (refine inR64_of ?_ ?_ <;> omega) | (constructor <;> omega)) | (simp [-List.getD_eq_getElem?_getD, -Int.default_eq_zero]; done))
                  · omega
                  all_goals repeat' (first | exact True.intro | refine leF_cons rfl ?_ ?_ | refine leS_cons rfl ?_ ?_ | (show PLe _ _ _ _; conv => whnf) | (show SLe _ _ _ _; conv => whnf) | (show PLeL _ _ _ _; conv => whnf) | apply And.intro | rfl | exact Nat.le_refl _ | exact fun _ _ => rfl | exact rowEq0 _ _)
                  all_goals skip
                · conv => whnf
                  refine ⟨?_, fun _ => ?_, fun hc => absurd hc (by decide)⟩
                  · (try conv => whnf)
                    (repeat' (first | exact True.intro | exact fun _ h => h | refine inR64_of ?_ ?_ | apply And.intro | refine maxLen_ge ?_)) <;> (first | omega | (dsimp only; omega) | (dsimp only [List.length_cons, List.length_nil]; omega) | (intro hg; rw [hg]; rfl) | (intro hg hh; rw [hg, hh]; rfl) | (intro hg; simp [-List.getD_eq_getElem?_getD, -Int.default_eq_zero] at hg; first | omega | (refine inR64_of ?_ ?_ <;> omega) | (constructor <;> omega)) | (simp [-List.getD_eq_getElem?_getD, -Int.default_eq_zero]; done))
                  conv => whnf
                  refine Exists.elim (comb_both 0 rc G (most % 30) (by omega) (by omega) hG) fun Y hY => ?_
                  have h29 := hY.2.2.2.1
                  have h30 := hY.2.2.2.2
                  have z1 := hY.1
                  have z2 := hY.2.1
                  have z3 := hY.2.2.1
                  clear hY
                  refine ⟨_, fun _ => PureCall.arg_le h29 rfl ?_, ?_⟩
                  ·
                    all_goals repeat' (first | exact True.intro | refine leF_cons rfl ?_ ?_ | refine leS_cons rfl ?_ ?_ | (show PLe _ _ _ _; conv => whnf) | (show SLe _ _ _ _; conv => whnf) | (show PLeL _ _ _ _; conv => whnf) | apply And.intro | rfl | exact Nat.le_refl _ | exact fun _ _ => rfl | exact rowEq0 _ _)
                    all_goals first | omega | decide | exact Nat.zero_le _ | skip
                  conv => whnf
                  refine ⟨_, fun _ => PureCall.arg_le h30 rfl ?_, ?_⟩
                  ·
                    all_goals repeat' (first | exact True.intro | refine leF_cons rfl ?_ ?_ | refine leS_cons rfl ?_ ?_ | (show PLe _ _ _ _; conv => whnf) | (show SLe _ _ _ _; conv => whnf) | (show PLeL _ _ _ _; conv => whnf) | apply And.intro | rfl | exact Nat.le_refl _ | exact fun _ _ => rfl | exact rowEq0 _ _)
                    all_goals first | omega | decide | exact Nat.zero_le _ | skip
                  clear h29 h30
                  conv => whnf
                  refine ⟨_, fun _ => call17 _ _ Y.1 Y.1 (by omega), ?_⟩
                  conv => whnf
                  refine ⟨_, fun _ => call31 _ _ Y.2.1 Y.2.1 (by omega), ?_⟩
                  conv => whnf
                  refine ⟨_, fun _ => call17 _ _ Y.2.2.1 Y.2.2.1 (by omega), ?_⟩
                  conv => whnf
                  refine ⟨?_, fun hc => ?_, fun _ => ?_⟩
                  · (try conv => whnf)
                    (repeat' (first | exact True.intro | exact fun _ h => h | refine inR64_of ?_ ?_ | apply And.intro | refine maxLen_ge ?_)) <;> (first | omega | (dsimp only; omega) | (dsimp only [List.length_cons, List.length_nil]; omega) | (intro hg; rw [hg]; rfl) | (intro hg hh; rw [hg, hh]; rfl) | (intro hg; simp [-List.getD_eq_getElem?_getD, -Int.default_eq_zero] at hg; first | omega | (refine inR64_of ?_ ?_ <;> omega) | (constructor <;> omega)) | (simp [-List.getD_eq_getElem?_getD, -Int.default_eq_zero]; done))
                  · exfalso
                    simp at hc
                  conv => whnf
                  refine ⟨?_, 1 + 1, (by omega : 1 + 1 ≤ 2), ?_, rfl, rfl, ?_, ?_⟩
                  · (try conv => whnf)
                    (repeat' (first | exact True.intro | exact fun _ h => h | refine inR64_of ?_ ?_ | apply And.intro | refine maxLen_ge ?_)) <;> (first | omega | (dsimp only; omega) | (dsimp only [List.length_cons, List.length_nil]; omega) | (intro hg; rw [hg]; rfl) | (intro hg hh; rw [hg, hh]; rfl) | (intro hg; simp [-List.getD_eq_getElem?_getD, -Int.default_eq_zero] at hg; first | omega | (refine inR64_of ?_ ?_ <;> omega) | (constructor <;> omega)) | (simp [-List.getD_eq_getElem?_getD, -Int.default_eq_zero]; done))
                  · omega
                  all_goals repeat' (first | exact True.intro | refine leF_cons rfl ?_ ?_ | refine leS_cons rfl ?_ ?_ | (show PLe _ _ _ _; conv => whnf) | (show SLe _ _ _ _; conv => whnf) | (show PLeL _ _ _ _; conv => whnf) | apply And.intro | rfl | exact Nat.le_refl _ | exact fun _ _ => rfl | exact rowEq0 _ _)
                  all_goals skip
                · conv => whnf
                  refine ⟨?_, fun hc => absurd hc (by decide), fun _ => ?_⟩
                  · (try conv => whnf)
                    (repeat' (first | exact True.intro | exact fun _ h => h | refine inR64_of ?_ ?_ | apply And.intro | refine maxLen_ge ?_)) <;> (first | omega | (dsimp only; omega) | (dsimp only [List.length_cons, List.length_nil]; omega) | (intro hg; rw [hg]; rfl) | (intro hg hh; rw [hg, hh]; rfl) | (intro hg; simp [-List.getD_eq_getElem?_getD, -Int.default_eq_zero] at hg; first | omega | (refine inR64_of ?_ ?_ <;> omega) | (constructor <;> omega)) | (simp [-List.getD_eq_getElem?_getD, -Int.default_eq_zero]; done))
                  conv => whnf
                  refine ⟨?_, 0 + 1, (by omega : 0 + 1 ≤ 2), ?_, rfl, rfl, ?_, ?_⟩
                  · (try conv => whnf)
                    (repeat' (first | exact True.intro | exact fun _ h => h | refine inR64_of ?_ ?_ | apply And.intro | refine maxLen_ge ?_)) <;> (first | omega | (dsimp only; omega) | (dsimp only [List.length_cons, List.length_nil]; omega) | (intro hg; rw [hg]; rfl) | (intro hg hh; rw [hg, hh]; rfl) | (intro hg; simp [-List.getD_eq_getElem?_getD, -Int.default_eq_zero] at hg; first | omega | (refine inR64_of ?_ ?_ <;> omega) | (constructor <;> omega)) | (simp [-List.getD_eq_getElem?_getD, -Int.default_eq_zero]; done))
                  · omega
                  all_goals repeat' (first | exact True.intro | refine leF_cons rfl ?_ ?_ | refine leS_cons rfl ?_ ?_ | (show PLe _ _ _ _; conv => whnf) | (show SLe _ _ _ _; conv => whnf) | (show PLeL _ _ _ _; conv => whnf) | apply And.intro | rfl | exact Nat.le_refl _ | exact fun _ _ => rfl | exact rowEq0 _ _)
                  all_goals skip
            · conv => whnf
              refine ⟨?_, fun _ => ?_, fun hc => absurd hc (by decide)⟩
              · (try conv => whnf)
                (repeat' (first | exact True.intro | exact fun _ h => h | refine inR64_of ?_ ?_ | apply And.intro | refine maxLen_ge ?_)) <;> (first | omega | (dsimp only; omega) | (dsimp only [List.length_cons, List.length_nil]; omega) | (intro hg; rw [hg]; rfl) | (intro hg hh; rw [hg, hh]; rfl) | (intro hg; simp [-List.getD_eq_getElem?_getD, -Int.default_eq_zero] at hg; first | omega | (refine inR64_of ?_ ?_ <;> omega) | (constructor <;> omega)) | (simp [-List.getD_eq_getElem?_getD, -Int.default_eq_zero]; done))
              conv => whnf
              refine ⟨_, fun _ => call_mod most 30 (by omega) (by omega), ?_⟩
              conv => whnf
              refine ⟨?_, ?_⟩
              · (try conv => whnf)
                (repeat' (first | exact True.intro | exact fun _ h => h | refine inR64_of ?_ ?_ | apply And.intro | refine maxLen_ge ?_)) <;> (first | omega | (dsimp only; omega) | (dsimp only [List.length_cons, List.length_nil]; omega) | (intro hg; rw [hg]; rfl) | (intro hg hh; rw [hg, hh]; rfl) | (intro hg; simp [-List.getD_eq_getElem?_getD, -Int.default_eq_zero] at hg; first | omega | (refine inR64_of ?_ ?_ <;> omega) | (constructor <;> omega)) | (simp [-List.getD_eq_getElem?_getD, -Int.default_eq_zero]; done))
              refine LSem.loop (n := 126) mix (α := Nat) (fun k => k ≤ 2)
                (fun k => [(1, .sl 1 1 rl.length (fl (eLs 1) rl)), (3, .int .i64 most), (12, .sl 0 1 G.length (fl (eLs 0) G)), (15, .sl 1 4 rc.length (fl eCk rc)), (17, .sl 1 1 rl.length (fl (eLs 1) rl)), (60, .os 960), (61, .int .i64 2), (62, .int .i64 1), (68, .os 1088), (69, .int .i64 2), (70, .int .i64 1), (77, .os 1232), (78, .int .i64 2), (79, .int .i64 k)])
                (fun k => [(960, .row 1 52 1 2 (fun i => [[.sl 0 4 C.length (fl eCk C)], [.sl 1 4 rc.length (fl eCk rc)]].getD i [])), (1088, .row 1 53 1 2 (fun i => [[.sl 0 1 G.length (fl (eLs 0) G)], [.sl 1 1 rl.length (fl (eLs 1) rl)]].getD i [])), (1232, .row 0 3 1 2 (fun i => [[.int .i64 most], [.int .i64 (most % 30)]].getD i []))]) (fun k => 2 - k) 0 ?_ ?_ ?_
              · exact Nat.zero_le _
              · refine ⟨rfl, rfl, ?_, ?_⟩
                all_goals repeat' (first | exact True.intro | refine leF_cons rfl ?_ ?_ | refine leS_cons rfl ?_ ?_ | (show PLe _ _ _ _; conv => whnf) | (show SLe _ _ _ _; conv => whnf) | (show PLeL _ _ _ _; conv => whnf) | apply And.intro | rfl | exact Nat.le_refl _ | exact fun _ _ => rfl | exact rowEq0 _ _)
                all_goals skip
              · intro k hk
                have h012 : k = 0 ∨ k = 1 ∨ k = 2 := by omega
                rcases h012 with rfl | rfl | rfl
                · conv => whnf
                  refine ⟨?_, fun _ => ?_, fun hc => absurd hc (by decide)⟩
                  · (try conv => whnf)
                    (repeat' (first | exact True.intro | exact fun _ h => h | refine inR64_of ?_ ?_ | apply And.intro | refine maxLen_ge ?_)) <;> (first | omega | (dsimp only; omega) | (dsimp only [List.length_cons, List.length_nil]; omega) | (intro hg; rw [hg]; rfl) | (intro hg hh; rw [hg, hh]; rfl) | (intro hg; simp [-List.getD_eq_getElem?_getD, -Int.default_eq_zero] at hg; first | omega | (refine inR64_of ?_ ?_ <;> omega) | (constructor <;> omega)) | (simp [-List.getD_eq_getElem?_getD, -Int.default_eq_zero]; done))
                  conv => whnf
                  refine Exists.elim (comb_both 1 rc rl most (by omega) (by omega) hrl) fun Y hY => ?_
                  have h29 := hY.2.2.2.1
                  have h30 := hY.2.2.2.2
                  have z1 := hY.1
                  have z2 := hY.2.1
                  have z3 := hY.2.2.1
                  clear hY
                  refine ⟨_, fun _ => PureCall.arg_le h29 rfl ?_, ?_⟩
                  ·
                    all_goals repeat' (first | exact True.intro | refine leF_cons rfl ?_ ?_ | refine leS_cons rfl ?_ ?_ | (show PLe _ _ _ _; conv => whnf) | (show SLe _ _ _ _; conv => whnf) | (show PLeL _ _ _ _; conv => whnf) | apply And.intro | rfl | exact Nat.le_refl _ | exact fun _ _ => rfl | exact rowEq0 _ _)
                    all_goals first | omega | decide | exact Nat.zero_le _ | skip
                  conv => whnf
                  refine ⟨_, fun _ => PureCall.arg_le h30 rfl ?_, ?_⟩
                  ·
                    all_goals repeat' (first | exact True.intro | refine leF_cons rfl ?_ ?_ | refine leS_cons rfl ?_ ?_ | (show PLe _ _ _ _; conv => whnf) | (show SLe _ _ _ _; conv => whnf) | (show PLeL _ _ _ _; conv => whnf) | apply And.intro | rfl | exact Nat.le_refl _ | exact fun _ _ => rfl | exact rowEq0 _ _)
                    all_goals first | omega | decide | exact Nat.zero_le _ | skip
                  clear h29 h30
                  conv => whnf
                  refine ⟨_, fun _ => call17 _ _ Y.1 Y.1 (by omega), ?_⟩
                  conv => whnf
                  refine ⟨_, fun _ => call31 _ _ Y.2.1 Y.2.1 (by omega), ?_⟩
                  conv => whnf
                  refine ⟨_, fun _ => call17 _ _ Y.2.2.1 Y.2.2.1 (by omega), ?_⟩
                  conv => whnf
                  refine ⟨?_, fun hc => ?_, fun _ => ?_⟩
                  · (try conv => whnf)
                    (repeat' (first | exact True.intro | exact fun _ h => h | refine inR64_of ?_ ?_ | apply And.intro | refine maxLen_ge ?_)) <;> (first | omega | (dsimp only; omega) | (dsimp only [List.length_cons, List.length_nil]; omega) | (intro hg; rw [hg]; rfl) | (intro hg hh; rw [hg, hh]; rfl) | (intro hg; simp [-List.getD_eq_getElem?_getD, -Int.default_eq_zero] at hg; first | omega | (refine inR64_of ?_ ?_ <;> omega) | (constructor <;> omega)) | (simp [-List.getD_eq_getElem?_getD, -Int.default_eq_zero]; done))
                  · exfalso
                    simp at hc
                  conv => whnf
                  refine ⟨?_, 0 + 1, (by omega : 0 + 1 ≤ 2), ?_, rfl, rfl, ?_, ?_⟩
                  · (try conv => whnf)
                    (repeat' (first | exact True.intro | exact fun _ h => h | refine inR64_of ?_ ?_ | apply And.intro | refine maxLen_ge ?_)) <;> (first | omega | (dsimp only; omega) | (dsimp only [List.length_cons, List.length_nil]; omega) | (intro hg; rw [hg]; rfl) | (intro hg hh; rw [hg, hh]; rfl) | (intro hg; simp [-List.getD_eq_getElem?_getD, -Int.default_eq_zero] at hg; first | omega | (refine inR64_of ?_ ?_ <;> omega) | (constructor <;> omega)) | (simp [-List.getD_eq_getElem?_getD, -Int.default_eq_zero]; done))
                  · omega
                  all_goals repeat' (first | exact True.intro | refine leF_cons rfl ?_ ?_ | refine leS_cons rfl ?_ ?_ | (show PLe _ _ _ _; conv => whnf) | (show SLe _ _ _ _; conv => whnf) | (show PLeL _ _ _ _; conv => whnf) | apply And.intro | rfl | exact Nat.le_refl _ | exact fun _ _ => rfl | exact rowEq0 _ _)
                  all_goals skip
                · conv => whnf
                  refine ⟨?_, fun _ => ?_, fun hc => absurd hc (by decide)⟩
                  · (try conv => whnf)
                    (repeat' (first | exact True.intro | exact fun _ h => h | refine inR64_of ?_ ?_ | apply And.intro | refine maxLen_ge ?_)) <;> (first | omega | (dsimp only; omega) | (dsimp only [List.length_cons, List.length_nil]; omega) | (intro hg; rw [hg]; rfl) | (intro hg hh; rw [hg, hh]; rfl) | (intro hg; simp [-List.getD_eq_getElem?_getD, -Int.default_eq_zero] at hg; first | omega | (refine inR64_of ?_ ?_ <;> omega) | (constructor <;> omega)) | (simp [-List.getD_eq_getElem?_getD, -Int.default_eq_zero]; done))
                  conv => whnf
                  refine Exists.elim (comb_both 1 rc rl (most % 30) (by omega) (by omega) hrl) fun Y hY => ?_
                  have h29 := hY.2.2.2.1
                  have h30 := hY.2.2.2.2
                  have z1 := hY.1
                  have z2 := hY.2.1
                  have z3 := hY.2.2.1
                  clear hY
                  refine ⟨_, fun _ => PureCall.arg_le h29 rfl ?_, ?_⟩
                  ·
                    all_goals repeat' (first | exact True.intro | refine leF_cons rfl ?_ ?_ | refine leS_cons rfl ?_ ?_ | (show PLe _ _ _ _; conv => whnf) | (show SLe _ _ _ _; conv => whnf) | (show PLeL _ _ _ _; conv => whnf) | apply And.intro | rfl | exact Nat.le_refl _ | exact fun _ _ => rfl | exact rowEq0 _ _)
                    all_goals first | omega | decide | exact Nat.zero_le _ | skip
                  conv => whnf
                  refine ⟨_, fun _ => PureCall.arg_le h30 rfl ?_, ?_⟩
                  ·
                    all_goals repeat' (first | exact True.intro | refine leF_cons rfl ?_ ?_ | refine leS_cons rfl ?_ ?_ | (show PLe _ _ _ _; conv => whnf) | (show SLe _ _ _ _; conv => whnf) | (show PLeL _ _ _ _; conv => whnf) | apply And.intro | rfl | exact Nat.le_refl _ | exact fun _ _ => rfl | exact rowEq0 _ _)
                    all_goals first | omega | decide | exact Nat.zero_le _ | skip
                  clear h29 h30
                  conv => whnf
                  refine ⟨_, fun _ => call17 _ _ Y.1 Y.1 (by omega), ?_⟩
                  conv => whnf
                  refine ⟨_, fun _ => call31 _ _ Y.2.1 Y.2.1 (by omega), ?_⟩
                  conv => whnf
                  refine ⟨_, fun _ => call17 _ _ Y.2.2.1 Y.2.2.1 (by omega), ?_⟩
                  conv => whnf
                  refine ⟨?_, fun hc => ?_, fun _ => ?_⟩
                  · (try conv => whnf)
                    (repeat' (first | exact True.intro | exact fun _ h => h | refine inR64_of ?_ ?_ | apply And.intro | refine maxLen_ge ?_)) <;> (first | omega | (dsimp only; omega) | (dsimp only [List.length_cons, List.length_nil]; omega) | (intro hg; rw [hg]; rfl) | (intro hg hh; rw [hg, hh]; rfl) | (intro hg; simp [-List.getD_eq_getElem?_getD, -Int.default_eq_zero] at hg; first | omega | (refine inR64_of ?_ ?_ <;> omega) | (constructor <;> omega)) | (simp [-List.getD_eq_getElem?_getD, -Int.default_eq_zero]; done))
                  · exfalso
                    simp at hc
                  conv => whnf
                  refine ⟨?_, 1 + 1, (by omega : 1 + 1 ≤ 2), ?_, rfl, rfl, ?_, ?_⟩
                  · (try conv => whnf)
                    (repeat' (first | exact True.intro | exact fun _ h => h | refine inR64_of ?_ ?_ | apply And.intro | refine maxLen_ge ?_)) <;> (first | omega | (dsimp only; omega) | (dsimp only [List.length_cons, List.length_nil]; omega) | (intro hg; rw [hg]; rfl) | (intro hg hh; rw [hg, hh]; rfl) | (intro hg; simp [-List.getD_eq_getElem?_getD, -Int.default_eq_zero] at hg; first | omega | (refine inR64_of ?_ ?_ <;> omega) | (constructor <;> omega)) | (simp [-List.getD_eq_getElem?_getD, -Int.default_eq_zero]; done))
                  · omega
                  all_goals repeat' (first | exact True.intro | refine leF_cons rfl ?_ ?_ | refine leS_cons rfl ?_ ?_ | (show PLe _ _ _ _; conv => whnf) | (show SLe _ _ _ _; conv => whnf) | (show PLeL _ _ _ _; conv => whnf) | apply And.intro | rfl | exact Nat.le_refl _ | exact fun _ _ => rfl | exact rowEq0 _ _)
                  all_goals skip
                · conv => whnf
                  refine ⟨?_, fun hc => absurd hc (by decide), fun _ => ?_⟩
                  · (try conv => whnf)
                    (repeat' (first | exact True.intro | exact fun _ h => h | refine inR64_of ?_ ?_ | apply And.intro | refine maxLen_ge ?_)) <;> (first | omega | (dsimp only; omega) | (dsimp only [List.length_cons, List.length_nil]; omega) | (intro hg; rw [hg]; rfl) | (intro hg hh; rw [hg, hh]; rfl) | (intro hg; simp [-List.getD_eq_getElem?_getD, -Int.default_eq_zero] at hg; first | omega | (refine inR64_of ?_ ?_ <;> omega) | (constructor <;> omega)) | (simp [-List.getD_eq_getElem?_getD, -Int.default_eq_zero]; done))
                  conv => whnf
                  refine ⟨?_, 1 + 1, (by omega : 1 + 1 ≤ 2), ?_, rfl, rfl, ?_, ?_⟩
                  · (try conv => whnf)
                    (repeat' (first | exact True.intro | exact fun _ h => h | refine inR64_of ?_ ?_ | apply And.intro | refine maxLen_ge ?_)) <;> (first | omega | (dsimp only; omega) | (dsimp only [List.length_cons, List.length_nil]; omega) | (intro hg; rw [hg]; rfl) | (intro hg hh; rw [hg, hh]; rfl) | (intro hg; simp [-List.getD_eq_getElem?_getD, -Int.default_eq_zero] at hg; first | omega | (refine inR64_of ?_ ?_ <;> omega) | (constructor <;> omega)) | (simp [-List.getD_eq_getElem?_getD, -Int.default_eq_zero]; done))
                  · omega
                  all_goals repeat' (first | exact True.intro | refine leF_cons rfl ?_ ?_ | refine leS_cons rfl ?_ ?_ | (show PLe _ _ _ _; conv => whnf) | (show SLe _ _ _ _; conv => whnf) | (show PLeL _ _ _ _; conv => whnf) | apply And.intro | rfl | exact Nat.le_refl _ | exact fun _ _ => rfl | exact rowEq0 _ _)
                  all_goals skip
            · conv => whnf
              refine ⟨?_, fun hc => absurd hc (by decide), fun _ => ?_⟩
              · (try conv => whnf)
                (repeat' (first | exact True.intro | exact fun _ h => h | refine inR64_of ?_ ?_ | apply And.intro | refine maxLen_ge ?_)) <;> (first | omega | (dsimp only; omega) | (dsimp only [List.length_cons, List.length_nil]; omega) | (intro hg; rw [hg]; rfl) | (intro hg hh; rw [hg, hh]; rfl) | (intro hg; simp [-List.getD_eq_getElem?_getD, -Int.default_eq_zero] at hg; first | omega | (refine inR64_of ?_ ?_ <;> omega) | (constructor <;> omega)) | (simp [-List.getD_eq_getElem?_getD, -Int.default_eq_zero]; done))
              conv => whnf
              refine ⟨?_, 1 + 1, (by omega : 1 + 1 ≤ 2), ?_, rfl, rfl, ?_, ?_⟩
              · (try conv => whnf)
                (repeat' (first | exact True.intro | exact fun _ h => h | refine inR64_of ?_ ?_ | apply And.intro | refine maxLen_ge ?_)) <;> (first | omega | (dsimp only; omega) | (dsimp only [List.length_cons, List.length_nil]; omega) | (intro hg; rw [hg]; rfl) | (intro hg hh; rw [hg, hh]; rfl) | (intro hg; simp [-List.getD_eq_getElem?_getD, -Int.default_eq_zero] at hg; first | omega | (refine inR64_of ?_ ?_ <;> omega) | (constructor <;> omega)) | (simp [-List.getD_eq_getElem?_getD, -Int.default_eq_zero]; done))
              · omega
              all_goals repeat' (first | exact True.intro | refine leF_cons rfl ?_ ?_ | refine leS_cons rfl ?_ ?_ | (show PLe _ _ _ _; conv => whnf) | (show SLe _ _ _ _; conv => whnf) | (show PLeL _ _ _ _; conv => whnf) | apply And.intro | rfl | exact Nat.le_refl _ | exact fun _ _ => rfl | exact rowEq0 _ _)
              all_goals skip
        · conv => whnf
          refine ⟨?_, fun hc => absurd hc (by decide), fun _ => ?_⟩
          · (try conv => whnf)
            (repeat' (first | exact True.intro | exact fun _ h => h | refine inR64_of ?_ ?_ | apply And.intro | refine maxLen_ge ?_)) <;> (first | omega | (dsimp only; omega) | (dsimp only [List.length_cons, List.length_nil]; omega) | (intro hg; rw [hg]; rfl) | (intro hg hh; rw [hg, hh]; rfl) | (intro hg; simp [-List.getD_eq_getElem?_getD, -Int.default_eq_zero] at hg; first | omega | (refine inR64_of ?_ ?_ <;> omega) | (constructor <;> omega)) | (simp [-List.getD_eq_getElem?_getD, -Int.default_eq_zero]; done))
          conv => whnf
          refine ⟨_, fun _ => call14, ?_⟩
          conv => whnf
          refine ⟨?_, [], ?_⟩
          · (try conv => whnf)
            (repeat' (first | exact True.intro | exact fun _ h => h | refine inR64_of ?_ ?_ | apply And.intro | refine maxLen_ge ?_)) <;> (first | omega | (dsimp only; omega) | (dsimp only [List.length_cons, List.length_nil]; omega) | (intro hg; rw [hg]; rfl) | (intro hg hh; rw [hg, hh]; rfl) | (intro hg; simp [-List.getD_eq_getElem?_getD, -Int.default_eq_zero] at hg; first | omega | (refine inR64_of ?_ ?_ <;> omega) | (constructor <;> omega)) | (simp [-List.getD_eq_getElem?_getD, -Int.default_eq_zero]; done))
          conv => whnf
          refine ⟨rfl, ?_, trivial, trivial⟩
          all_goals repeat' (first | exact True.intro | refine leF_cons rfl ?_ ?_ | refine leS_cons rfl ?_ ?_ | (show PLe _ _ _ _; conv => whnf) | (show SLe _ _ _ _; conv => whnf) | (show PLeL _ _ _ _; conv => whnf) | apply And.intro | rfl | exact Nat.le_refl _ | exact fun _ _ => rfl | exact rowEq0 _ _)
end Pv
end Go.Proofs.Ytogoplhikmmggaa
