/- LAW 29: the statement that what truly was lies within the bounds. -/
import Derived.Test.YtiknpkadlckmjaaW19
namespace Go.Proofs.Ytiknpkadlckmjaa
namespace Pv
def c6L1 : C := (.seq (.reg [⟨(some 94), 1504, none, .bi false .lss (.t 93) (.t 92)⟩])
  (.seq (.cond (.t 94) .skip (.exit 0))
  (.seq (.block 1 (.seq (.reg [⟨(some 95), 1520, none, .mv (.t 93)⟩,
    ⟨(some 15), 240, none, .mv (.t 95)⟩])
  (.seq (.drw [⟨(some 96), 1536, none, .mv (.t 13)⟩,
    ⟨(some 97), 1552, none, .mv (.t 15)⟩,
    ⟨(some 98), 1568, none, .ia 2 (.t 96) (.t 97)⟩,
    ⟨(some 99), 1584, none, .fa 0 (.t 98)⟩,
    ⟨(some 100), 1600, none, .ld 1 false (.t 99)⟩,
    ⟨(some 101), 1616, none, .mv (.t 9)⟩,
    ⟨(some 102), 1632, none, .mv (.t 15)⟩,
    ⟨(some 103), 1648, none, .ia 2 (.t 101) (.t 102)⟩,
    ⟨(some 104), 1664, none, .fa 0 (.t 103)⟩,
    ⟨(some 105), 1680, none, .ld 1 false (.t 104)⟩,
    ⟨(some 106), 1696, none, .bi false .gtr (.t 100) (.t 105)⟩,
    ⟨(some 107), 1712, none, .mv (.t 106)⟩,
    ⟨(some 108), 1728, (some (107, false)), .mv (.t 13)⟩,
    ⟨(some 109), 1744, (some (107, false)), .mv (.t 15)⟩,
    ⟨(some 110), 1760, (some (107, false)), .ia 2 (.t 108) (.t 109)⟩,
    ⟨(some 111), 1776, (some (107, false)), .fa 1 (.t 110)⟩,
    ⟨(some 112), 1792, (some (107, false)), .ld 1 false (.t 111)⟩,
    ⟨(some 113), 1808, (some (107, false)), .mv (.t 9)⟩,
    ⟨(some 114), 1824, (some (107, false)), .mv (.t 15)⟩,
    ⟨(some 115), 1840, (some (107, false)), .ia 2 (.t 113) (.t 114)⟩,
    ⟨(some 116), 1856, (some (107, false)), .fa 1 (.t 115)⟩,
    ⟨(some 117), 1872, (some (107, false)), .ld 1 false (.t 116)⟩,
    ⟨(some 118), 1888, (some (107, false)), .bi false .lss (.t 112) (.t 117)⟩,
    ⟨(some 119), 1904, none, .pick (.t 107) (.c (.bool true)) (.t 118)⟩]
    [(0, 1, 96), (0, 5, 96), (0, 6, 96), (0, 7, 96), (0, 8, 96), (0, 9, 96), (1, 5, 97), (1, 6, 97), (1, 7, 97), (1, 8, 97), (1, 9, 97), (2, 5, 98), (2, 6, 98), (2, 7, 98), (2, 8, 98), (2, 9, 98), (3, 5, 99), (3, 6, 99), (3, 7, 99), (3, 8, 99), (3, 9, 99), (4, 5, 100), (4, 6, 100), (4, 7, 100), (4, 8, 100), (4, 9, 100), (5, 6, 101), (12, 13, 108), (12, 17, 108), (12, 18, 108), (12, 19, 108), (12, 20, 108), (12, 21, 108), (13, 17, 109), (13, 18, 109), (13, 19, 109), (13, 20, 109), (13, 21, 109), (14, 17, 110), (14, 18, 110), (14, 19, 110), (14, 20, 110), (14, 21, 110), (15, 17, 111), (15, 18, 111), (15, 19, 111), (15, 20, 111), (15, 21, 111), (16, 17, 112), (16, 18, 112), (16, 19, 112), (16, 20, 112), (16, 21, 112), (17, 18, 113)])
  (.cond (.t 119) (.seq (.reg [⟨(some 2), 32, none, .mv (.c (.bool false))⟩])
  .ret) .skip))))
  (.reg [⟨(some 120), 1920, none, .bi false .add (.t 93) (.c (.int .i64 1))⟩,
    ⟨(some 93), 1488, none, .mv (.t 120)⟩]))))
def c6 : C := (.seq (.reg [⟨(some 2), 32, none, .mv (.c (.bool false))⟩])
  (.seq (.seq (.reg [⟨(some 16), 256, none, .call (.c (.fn (.func 8) [] [])) []⟩,
    ⟨(some 17), 272, none, .un false .not (.t 16)⟩])
  (.cond (.t 17) (.seq (.reg [⟨(some 2), 32, none, .mv (.c (.bool false))⟩])
  .ret) .skip))
  (.seq (.seq (.reg [⟨(some 18), 288, none, .mv (.t 0)⟩,
    ⟨(some 19), 304, none, .call (.c (.fn (.func 9) [] [])) [(.t 18)]⟩,
    ⟨(some 20), 320, none, .un false .not (.t 19)⟩])
  (.cond (.t 20) (.seq (.reg [⟨(some 2), 32, none, .mv (.c (.bool true))⟩])
  .ret) .skip))
  (.seq (.reg [⟨(some 21), 336, none, .mv (.t 0)⟩,
    ⟨(some 22), 352, none, .call (.c (.fn (.func 10) [] [])) [(.t 21)]⟩,
    ⟨(some 3), 48, none, .mv (.t 22)⟩])
  (.seq (.reg [⟨(some 23), 368, none, .mv (.t 3)⟩,
    ⟨(some 24), 384, none, .call (.c (.fn (.func 11) [] [])) [(.t 23)]⟩,
    ⟨(some 4), 64, none, .al [(.int .i64 0), (.int .i64 0), (.int .i64 0), (.int .i64 0)]⟩,
    ⟨none, 0, none, .st 4 (.t 4) (.t 24)⟩])
  (.seq (.reg [⟨(some 25), 400, none, .mv (.t 3)⟩,
    ⟨(some 26), 416, none, .call (.c (.fn (.func 12) [] [])) [(.t 25), (.c (.int .i64 20))]⟩,
    ⟨(some 5), 80, none, .mv (.t 26)⟩])
  (.seq (.drw [⟨(some 27), 432, none, .mv (.t 3)⟩,
    ⟨(some 28), 448, none, .ld 4 true (.t 4)⟩,
    ⟨(some 29), 464, none, .mv (.t 3)⟩,
    ⟨(some 30), 480, none, .call (.c (.fn (.func 12) [] [])) [(.t 29), (.c (.int .i64 14))]⟩,
    ⟨(some 31), 496, none, .bi false .add (.c (.int .i64 1)) (.t 30)⟩,
    ⟨(some 32), 512, none, .call (.c (.fn (.func 15) [] [])) [(.t 27), (.t 28), (.t 31)]⟩,
    ⟨(some 6), 96, none, .mv (.t 32)⟩]
    [(0, 1, 27), (0, 2, 27), (0, 3, 27), (0, 4, 27), (1, 2, 28), (1, 3, 28), (1, 4, 28)])
  (.seq (.reg [⟨(some 33), 528, none, .mv (.t 3)⟩,
    ⟨(some 34), 544, none, .mv (.t 6)⟩,
    ⟨(some 35), 560, none, .mv (.t 5)⟩,
    ⟨(some 36), 576, none, .call (.c (.fn (.func 14) [] [])) [(.t 33), (.t 34), (.t 35)]⟩,
    ⟨(some 7), 112, none, .mv (.t 36)⟩])
  (.seq (.reg [⟨(some 37), 592, none, .mv (.t 5)⟩,
    ⟨(some 38), 608, none, .mv (.t 6)⟩,
    ⟨(some 39), 624, none, .len (.t 38)⟩,
    ⟨(some 40), 640, none, .bi false .add (.t 37) (.t 39)⟩,
    ⟨(some 41), 656, none, .bi false .sub (.t 40) (.c (.int .i64 1))⟩,
    ⟨(some 8), 128, none, .mv (.t 41)⟩])
  (.seq (.reg [⟨(some 43), 688, none, .mv (.t 7)⟩,
    ⟨(some 44), 704, none, .ld 4 true (.t 4)⟩,
    ⟨(some 45), 720, none, .mv (.t 5)⟩,
    ⟨(some 46), 736, none, .mv (.t 8)⟩,
    ⟨(some 47), 752, none, .call (.c (.fn (.func 20) [] [])) [(.t 43), (.t 44), (.t 45), (.t 46)]⟩,
    ⟨(some 42), 672, none, .mv (.t 47)⟩,
    ⟨(some 48), 768, none, .ex (.t 42) 0⟩,
    ⟨(some 49), 784, none, .ex (.t 42) 1⟩,
    ⟨(some 9), 144, none, .mv (.t 48)⟩,
    ⟨(some 10), 160, none, .mv (.t 49)⟩])
  (.seq (.seq (.reg [⟨(some 50), 800, none, .mv (.t 10)⟩,
    ⟨(some 51), 816, none, .bi false .neq (.t 50) (.c (.int .i64 0))⟩,
    ⟨(some 52), 832, none, .mv (.t 51)⟩,
    ⟨(some 53), 848, (some (52, false)), .mv (.t 9)⟩,
    ⟨(some 54), 864, (some (52, false)), .mv (.t 6)⟩,
    ⟨(some 55), 880, (some (52, false)), .call (.c (.fn (.func 24) [] [])) [(.t 53), (.t 54)]⟩,
    ⟨(some 56), 896, (some (52, false)), .un false .not (.t 55)⟩,
    ⟨(some 57), 912, none, .pick (.t 52) (.c (.bool true)) (.t 56)⟩])
  (.cond (.t 57) (.seq (.reg [⟨(some 2), 32, none, .mv (.c (.bool false))⟩])
  .ret) .skip))
  (.seq (.seq (.reg [⟨(some 58), 928, none, .mv (.t 7)⟩,
    ⟨(some 59), 944, none, .len (.t 58)⟩,
    ⟨(some 60), 960, none, .bi false .eql (.t 59) (.c (.int .i64 0))⟩])
  (.cond (.t 60) (.seq (.reg [⟨(some 2), 32, none, .mv (.c (.bool true))⟩])
  .ret) .skip))
  (.seq (.reg [⟨(some 61), 976, none, .mv (.t 3)⟩,
    ⟨(some 62), 992, none, .mv (.t 7)⟩,
    ⟨(some 63), 1008, none, .len (.t 62)⟩,
    ⟨(some 64), 1024, none, .call (.c (.fn (.func 12) [] [])) [(.t 61), (.t 63)]⟩,
    ⟨(some 11), 176, none, .mv (.t 64)⟩])
  (.seq (.drw [⟨(some 65), 1040, none, .mv (.t 7)⟩,
    ⟨(some 66), 1056, none, .mv (.t 11)⟩,
    ⟨(some 67), 1072, none, .slc 3 (.t 65) none (some (.t 66))⟩,
    ⟨(some 68), 1088, none, .app 34 3 24 (.c (.nil 3)) (.t 67)⟩,
    ⟨(some 69), 1104, none, .mv (.t 7)⟩,
    ⟨(some 70), 1120, none, .mv (.t 11)⟩,
    ⟨(some 71), 1136, none, .bi false .add (.t 70) (.c (.int .i64 1))⟩,
    ⟨(some 72), 1152, none, .slc 3 (.t 69) (some (.t 71)) none⟩,
    ⟨(some 73), 1168, none, .app 34 3 24 (.t 68) (.t 72)⟩,
    ⟨(some 12), 192, none, .mv (.t 73)⟩]
    [(0, 1, 65), (0, 4, 65), (0, 5, 65), (0, 6, 65), (0, 7, 65), (1, 4, 66), (1, 5, 66), (1, 6, 66), (1, 7, 66), (2, 4, 67), (2, 5, 67), (2, 6, 67), (2, 7, 67), (3, 4, 68), (3, 5, 68), (3, 6, 68), (3, 7, 68), (4, 5, 69), (4, 6, 69)])
  (.seq (.reg [⟨(some 75), 1200, none, .mv (.t 12)⟩,
    ⟨(some 76), 1216, none, .ld 4 true (.t 4)⟩,
    ⟨(some 77), 1232, none, .mv (.t 5)⟩,
    ⟨(some 78), 1248, none, .mv (.t 8)⟩,
    ⟨(some 79), 1264, none, .call (.c (.fn (.func 20) [] [])) [(.t 75), (.t 76), (.t 77), (.t 78)]⟩,
    ⟨(some 74), 1184, none, .mv (.t 79)⟩,
    ⟨(some 80), 1280, none, .ex (.t 74) 0⟩,
    ⟨(some 81), 1296, none, .ex (.t 74) 1⟩,
    ⟨(some 13), 208, none, .mv (.t 80)⟩,
    ⟨(some 14), 224, none, .mv (.t 81)⟩])
  (.seq (.seq (.reg [⟨(some 82), 1312, none, .mv (.t 14)⟩,
    ⟨(some 83), 1328, none, .bi false .neq (.t 82) (.c (.int .i64 0))⟩,
    ⟨(some 84), 1344, none, .mv (.t 83)⟩,
    ⟨(some 85), 1360, (some (84, false)), .mv (.t 13)⟩,
    ⟨(some 86), 1376, (some (84, false)), .len (.t 85)⟩,
    ⟨(some 87), 1392, (some (84, false)), .mv (.t 9)⟩,
    ⟨(some 88), 1408, (some (84, false)), .len (.t 87)⟩,
    ⟨(some 89), 1424, (some (84, false)), .bi false .neq (.t 86) (.t 88)⟩,
    ⟨(some 90), 1440, none, .pick (.t 84) (.c (.bool true)) (.t 89)⟩])
  (.cond (.t 90) (.seq (.reg [⟨(some 2), 32, none, .mv (.c (.bool false))⟩])
  .ret) .skip))
  (.seq (.seq (.reg [⟨(some 91), 1456, none, .mv (.t 9)⟩,
    ⟨(some 92), 1472, none, .len (.t 91)⟩,
    ⟨(some 93), 1488, none, .mv (.c (.int .i64 0))⟩])
  (.block 0 (.loop c6L1)))
  (.seq (.reg [⟨(some 2), 32, none, .mv (.c (.bool true))⟩])
  .ret))))))))))))))))))
theorem fits6 : fits Try.prog false Try.f6 1 121 [(2, none)] = some c6.er := by kernel_rfl

theorem bif_t {a b c : Bool} : (bif a then b else c) = true ↔ (a = true ∧ b = true) ∨ (a = false ∧ c = true) := by cases a <;> simp
theorem bif_f {a b c : Bool} : (bif a then b else c) = false ↔ (a = true ∧ b = false) ∨ (a = false ∧ c = false) := by cases a <;> simp
theorem arg4_le {f : FuncId} {τ z n m : Nat} {fa ga : Nat → List PV} {c : Ck} {a b : Int} {r : CallRes} (h : PureCall Try.prog f [.sl τ z m ga, .agg (eCk c), .int .i64 a, .int .i64 b] [] r) (h1 : n = m) (h2 : RowEq n fa ga) : PureCall Try.prog f [.sl τ z n fa, .agg (eCk c), .int .i64 a, .int .i64 b] [] r := by
  refine PureCall.arg_le h rfl ?_
  conv => whnf
  refine ⟨?_, ?_⟩
  · conv => whnf
    exact ⟨Nat.le_refl _, rfl, h1, h2⟩
  all_goals repeat' (first | exact True.intro | refine leF_cons rfl ?_ ?_ | refine leS_cons rfl ?_ ?_ | (show PLe _ _ _ _; conv => whnf) | (show SLe _ _ _ _; conv => whnf) | (show PLeL _ _ _ _; conv => whnf) | apply And.intro | rfl | exact Nat.le_refl _ | exact fun _ _ => rfl | exact rowEq0 _ _)
theorem drop_row (M : List Me) (k : Nat) (h : k < M.length) : RowEq (dropAt M k).length (appF k (fl eMe M) (fun i => fl eMe M (k + 1 + i))) (fl eMe (dropAt M k)) := fun i hi => by
  have hk : (M.take k).length = k := by rw [List.length_take]; omega
  unfold appF fl dropAt
  simp only [List.getD_eq_getElem?_getD]
  by_cases hh : i < k
  · rw [if_pos hh, List.getElem?_append_left (by omega), List.getElem?_take, if_pos hh]
  · rw [if_neg hh, List.getElem?_append_right (by omega), List.getElem?_drop, hk]
set_option maxRecDepth 100000 in
set_option maxHeartbeats 4000000 in
theorem call6 (t : List Int) : PureCall Try.prog 6 [.sl 1 1 t.length (fl eInt t)] [] ⟨.bool true, [], []⟩ := by
  refine pure_call mix Try.func6 fits6 rfl ?_
  conv => whnf
  refine ⟨_, fun _ => call8, ?_⟩
  conv => whnf
  refine ⟨by simp, fun hc => absurd hc (by simp), fun _ => ?_⟩
  conv => whnf
  refine ⟨_, fun _ => call9 1 t, ?_⟩
  conv => whnf
  refine ⟨?_, fun hc => ?_, fun hc => ?_⟩
  · (try conv => whnf)
    (repeat' (first | exact True.intro | exact fun _ h => h | refine inR64_of ?_ ?_ | apply And.intro | refine maxLen_ge ?_)) <;> (first | omega | (dsimp only; omega) | (dsimp only [List.length_cons, List.length_nil]; omega) | (intro hg; rw [hg]; rfl) | (intro hg hh; rw [hg, hh]; rfl) | (intro hg; simp [-List.getD_eq_getElem?_getD, -Int.default_eq_zero] at hg; first | omega | (refine inR64_of ?_ ?_ <;> omega) | (constructor <;> omega)) | (simp [-List.getD_eq_getElem?_getD, -Int.default_eq_zero]; done))
  · conv => whnf
    refine ⟨?_, [], ?_⟩
    · (try conv => whnf)
      (repeat' (first | exact True.intro | exact fun _ h => h | refine inR64_of ?_ ?_ | apply And.intro | refine maxLen_ge ?_)) <;> (first | omega | (dsimp only; omega) | (dsimp only [List.length_cons, List.length_nil]; omega) | (intro hg; rw [hg]; rfl) | (intro hg hh; rw [hg, hh]; rfl) | (intro hg; simp [-List.getD_eq_getElem?_getD, -Int.default_eq_zero] at hg; first | omega | (refine inR64_of ?_ ?_ <;> omega) | (constructor <;> omega)) | (simp [-List.getD_eq_getElem?_getD, -Int.default_eq_zero]; done))
    conv => whnf
    refine ⟨rfl, ?_, trivial, trivial⟩
    all_goals repeat' (first | exact True.intro | refine leF_cons rfl ?_ ?_ | refine leS_cons rfl ?_ ?_ | (show PLe _ _ _ _; conv => whnf) | (show SLe _ _ _ _; conv => whnf) | (show PLeL _ _ _ _; conv => whnf) | apply And.intro | rfl | exact Nat.le_refl _ | exact fun _ _ => rfl | exact rowEq0 _ _)
  · simp [-List.getD_eq_getElem?_getD, -Int.default_eq_zero] at hc
    conv => whnf
    refine ⟨_, fun _ => call10 1 t, ?_⟩
    conv => whnf
    refine ⟨_, fun _ => call11 ⟨t, 0⟩ (by dsimp only; omega), ?_⟩
    have hk := checksF_small ⟨t, 0⟩
    have hkl := checksF_len ⟨t, 0⟩
    generalize checksF ⟨t, 0⟩ = K at hk hkl ⊢
    generalize K.1 = c at hk ⊢
    generalize K.2 = D at hkl ⊢
    conv => whnf
    refine ⟨_, fun _ => call12 1 D 20 (by dsimp only at hkl; rw [hkl]; omega) (by omega), ?_⟩
    conv => whnf
    have r0 := nxt_rng D 20
    refine ⟨_, fun _ => call12 1 (nxtD D 20) 14 (by dsimp only at hkl; rw [nxtD_len, hkl]; omega) (by omega), ?_⟩
    conv => whnf
    have r1 := nxt_rng (nxtD D 20) 14
    refine ⟨_, fun _ => call15 (nxtD (nxtD D 20) 14) c (1 + nxt (nxtD D 20) 14) (by dsimp only at hkl; rw [nxtD_len, nxtD_len, hkl]; omega) hk (by omega), ?_⟩
    obtain ⟨w1, w2, w3⟩ := walkS_props (d := nxtD (nxtD D 20) 14) hk (1 + nxt (nxtD D 20) 14)
    have hist := fun d' => hist_of hk (nxtD (nxtD D 20) 14) d' (1 + nxt (nxtD D 20) 14) (nxt D 20) (by omega) (by omega)
    rw [nxtD_len, nxtD_len] at w3
    generalize walkS (nxtD (nxtD D 20) 14) c (1 + nxt (nxtD D 20) 14) = WS at w1 w2 w3 hist ⊢
    generalize hfr : nxt D 20 = frm at r0 hist ⊢
    conv => whnf
    refine ⟨rfl, ?_⟩
    conv => whnf
    refine ⟨_, fun _ => call14 _ WS.2.2 WS.1 frm (by dsimp only at hkl; rw [w3, hkl]; omega) (by omega) (fun x hx => by have := w1 x hx; have := hk.2.2.1; have := hk.1; omega) (by omega), ?_⟩
    have hH := hist WS.2.2
    have hdk := msr_dk frm WS.1 0 WS.2.2
    rw [w3] at hdk
    generalize msr frm 0 WS.1 WS.2.2 = MD at hH hdk ⊢
    generalize WS.1 = L at *
    have hmlen := hH.mlen
    conv => whnf
    refine ⟨_, fun _ => call20 _ MD.1 c frm (frm + (L.length : Int) - 1) (inR64_of (by omega) (by omega)) (inR64_of (by omega) (by omega)), ?_⟩
    rw [hH.fill (by omega)]
    conv => whnf
    refine ⟨_, fun _ => call24 _ _ ((List.range L.length).map fun (i : Nat) => boundsF MD.1 c (frm + (i : Int))) L (by simp; omega), ?_⟩
    rw [hH.within]
    conv => whnf
    refine ⟨?_, fun hc2 => ?_, fun _ => ?_⟩
    · (try conv => whnf)
      (repeat' (first | exact True.intro | exact fun _ h => h | refine inR64_of ?_ ?_ | apply And.intro | refine maxLen_ge ?_)) <;> (first | omega | (dsimp only; omega) | (dsimp only [List.length_cons, List.length_nil]; omega) | (intro hg; rw [hg]; rfl) | (intro hg hh; rw [hg, hh]; rfl) | (intro hg; simp [-List.getD_eq_getElem?_getD, -Int.default_eq_zero] at hg; first | omega | (refine inR64_of ?_ ?_ <;> omega) | (constructor <;> omega)) | (simp [-List.getD_eq_getElem?_getD, -Int.default_eq_zero]; done))
    · exact absurd hc2 (by simp)
    conv => whnf
    refine ⟨?_, fun hc2 => ?_, fun hc2 => ?_⟩
    · (try conv => whnf)
      (repeat' (first | exact True.intro | exact fun _ h => h | refine inR64_of ?_ ?_ | apply And.intro | refine maxLen_ge ?_)) <;> (first | omega | (dsimp only; omega) | (dsimp only [List.length_cons, List.length_nil]; omega) | (intro hg; rw [hg]; rfl) | (intro hg hh; rw [hg, hh]; rfl) | (intro hg; simp [-List.getD_eq_getElem?_getD, -Int.default_eq_zero] at hg; first | omega | (refine inR64_of ?_ ?_ <;> omega) | (constructor <;> omega)) | (simp [-List.getD_eq_getElem?_getD, -Int.default_eq_zero]; done))
    · conv => whnf
      refine ⟨?_, [], ?_⟩
      · (try conv => whnf)
        (repeat' (first | exact True.intro | exact fun _ h => h | refine inR64_of ?_ ?_ | apply And.intro | refine maxLen_ge ?_)) <;> (first | omega | (dsimp only; omega) | (dsimp only [List.length_cons, List.length_nil]; omega) | (intro hg; rw [hg]; rfl) | (intro hg hh; rw [hg, hh]; rfl) | (intro hg; simp [-List.getD_eq_getElem?_getD, -Int.default_eq_zero] at hg; first | omega | (refine inR64_of ?_ ?_ <;> omega) | (constructor <;> omega)) | (simp [-List.getD_eq_getElem?_getD, -Int.default_eq_zero]; done))
      conv => whnf
      refine ⟨rfl, ?_, trivial, trivial⟩
      all_goals repeat' (first | exact True.intro | refine leF_cons rfl ?_ ?_ | refine leS_cons rfl ?_ ?_ | (show PLe _ _ _ _; conv => whnf) | (show SLe _ _ _ _; conv => whnf) | (show PLeL _ _ _ _; conv => whnf) | apply And.intro | rfl | exact Nat.le_refl _ | exact fun _ _ => rfl | exact rowEq0 _ _)
    have hm0 : MD.1.length ≠ 0 := by simpa using hc2
    conv => whnf
    refine ⟨_, fun _ => call12 1 MD.2 MD.1.length (by dsimp only at hkl; rw [hdk, hkl]; omega) (by omega), ?_⟩
    have r4 := nxt_rng MD.2 MD.1.length
    generalize nxt MD.2 MD.1.length = kk at r4 ⊢
    obtain ⟨k, rfl⟩ : ∃ k : Nat, kk = k := ⟨kk.toNat, by omega⟩
    conv => whnf
    refine ⟨rfl, ?_⟩
    conv => whnf
    have hH2 := hH.sub (dropAt_sub MD.1 k)
    have hkl2 : k < MD.1.length := by omega
    have hdl : (dropAt MD.1 k).length = k + (MD.1.length - (k + 1)) := by unfold dropAt; rw [List.length_append, List.length_take, List.length_drop]; omega
    have hj1 : ((k : Int)).toNat = k := by omega
    have hj2 : ((k : Int) + 1).toNat = k + 1 := by omega
    have hdr := drop_row MD.1 k hkl2
    have hwid := fun i => wider (c := c) (time := frm + i) (dropAt_sub MD.1 k)
    refine ⟨_, fun _ => arg4_le (call20 _ (dropAt MD.1 k) c frm (frm + (L.length : Int) - 1) (inR64_of (by omega) (by omega)) (inR64_of (by omega) (by omega))) (by rw [hj1, hj2]; omega) (by rw [hj1, hj2, ← hdl]; exact hdr), ?_⟩
    rw [hH2.fill (by omega)]
    generalize dropAt MD.1 k = M2 at hwid ⊢
    conv => whnf
    refine ⟨?_, fun hc3 => ?_, fun _ => ?_⟩
    · conv => whnf
      rw [hj1, hj2]
      (try conv => whnf)
      (repeat' (first | exact True.intro | exact fun _ h => h | refine inR64_of ?_ ?_ | apply And.intro | refine maxLen_ge ?_)) <;> (first | omega | (dsimp only; omega) | (dsimp only [List.length_cons, List.length_nil]; omega) | (intro hg; rw [hg]; rfl) | (intro hg hh; rw [hg, hh]; rfl) | (intro hg; simp [-List.getD_eq_getElem?_getD, -Int.default_eq_zero] at hg; first | omega | (refine inR64_of ?_ ?_ <;> omega) | (constructor <;> omega)) | (simp [-List.getD_eq_getElem?_getD, -Int.default_eq_zero]; done))
    · exact absurd hc3 (by simp)
    conv => whnf
    refine ⟨trivial, ?_⟩
    have hA : ∀ i, i < L.length → ((List.range L.length).map fun (i : Nat) => boundsF MD.1 c (frm + (i : Int))).getD i default = boundsF MD.1 c (frm + i) := fun i hi => by rw [List.getD_eq_getElem?_getD]; simp [hi]
    have hB : ∀ i, i < L.length → ((List.range L.length).map fun (i : Nat) => boundsF M2 c (frm + (i : Int))).getD i default = boundsF M2 c (frm + i) := fun i hi => by rw [List.getD_eq_getElem?_getD]; simp [hi]
    have hAl : ((List.range L.length).map fun (i : Nat) => boundsF MD.1 c (frm + (i : Int))).length = L.length := by simp
    have hBl : ((List.range L.length).map fun (i : Nat) => boundsF M2 c (frm + (i : Int))).length = L.length := by simp
    generalize ((List.range L.length).map fun (i : Nat) => boundsF MD.1 c (frm + (i : Int))) = A at hA hAl ⊢
    generalize ((List.range L.length).map fun (i : Nat) => boundsF M2 c (frm + (i : Int))) = B at hB hBl ⊢
    refine LSem.loop (n := 121) mix (α := Nat) (fun i => i ≤ L.length)
      (fun i => [(9, .sl 0 2 A.length (fl eBo A)), (13, .sl 0 2 B.length (fl eBo B)), (92, .int .i64 A.length), (93, .int .i64 i)])
      (fun _ => []) (fun i => L.length - i) 0 ?_ ?_ ?_
    · exact Nat.zero_le _
    · refine ⟨rfl, rfl, ?_, ?_⟩
      all_goals repeat' (first | exact True.intro | refine leF_cons rfl ?_ ?_ | refine leS_cons rfl ?_ ?_ | (show PLe _ _ _ _; conv => whnf) | (show SLe _ _ _ _; conv => whnf) | (show PLeL _ _ _ _; conv => whnf) | apply And.intro | rfl | exact Nat.le_refl _ | exact fun _ _ => rfl | exact rowEq0 _ _)
    · intro i hi
      have hj : ((i : Int)).toNat = i := by omega
      conv => whnf
      refine ⟨trivial, fun hc4 => ?_, fun hc4 => ?_⟩
      · replace hc4 := of_decide_eq_true hc4
        have hlt : i < L.length := by omega
        conv => whnf
        refine ⟨rfl, ?_⟩
        conv => whnf
        have hw := hwid i
        rw [← hA i hlt, ← hB i hlt] at hw
        refine ⟨?_, fun hc5 => ?_, fun _ => ?_⟩
        · rw [hj]
          (try conv => whnf)
          (repeat' (first | exact True.intro | exact fun _ h => h | refine inR64_of ?_ ?_ | apply And.intro | refine maxLen_ge ?_)) <;> (first | omega | (dsimp only; omega) | (dsimp only [List.length_cons, List.length_nil]; omega) | (intro hg; rw [hg]; rfl) | (intro hg hh; rw [hg, hh]; rfl) | (intro hg; simp [-List.getD_eq_getElem?_getD, -Int.default_eq_zero] at hg; first | omega | (refine inR64_of ?_ ?_ <;> omega) | (constructor <;> omega)) | (simp [-List.getD_eq_getElem?_getD, -Int.default_eq_zero]; done))
        · rw [hj] at hc5
          simp only [bif_t, bif_f, decide_eq_true_eq, decide_eq_false_iff_not, Bool.not_eq_true', Bool.not_eq_false', Bool.and_eq_true, Bool.or_eq_true, Bool.and_eq_false_iff, Bool.or_eq_false_iff, beq_iff_eq, bne_iff_ne, beq_eq_false_iff_ne, bne_eq_false_iff_eq, reduceCtorEq, false_and, and_false, true_and, and_true, or_false, false_or, or_true, true_or, not_true_eq_false, not_false_eq_true, Int.toNat_zero] at hc5
          exfalso; omega
        · conv => whnf
          refine ⟨?_, i + 1, (by omega : i + 1 ≤ L.length), ?_, rfl, rfl, ?_, ?_⟩
          · (try conv => whnf)
            (repeat' (first | exact True.intro | exact fun _ h => h | refine inR64_of ?_ ?_ | apply And.intro | refine maxLen_ge ?_)) <;> (first | omega | (dsimp only; omega) | (dsimp only [List.length_cons, List.length_nil]; omega) | (intro hg; rw [hg]; rfl) | (intro hg hh; rw [hg, hh]; rfl) | (intro hg; simp [-List.getD_eq_getElem?_getD, -Int.default_eq_zero] at hg; first | omega | (refine inR64_of ?_ ?_ <;> omega) | (constructor <;> omega)) | (simp [-List.getD_eq_getElem?_getD, -Int.default_eq_zero]; done))
          · omega
          all_goals repeat' (first | exact True.intro | refine leF_cons rfl ?_ ?_ | refine leS_cons rfl ?_ ?_ | (show PLe _ _ _ _; conv => whnf) | (show SLe _ _ _ _; conv => whnf) | (show PLeL _ _ _ _; conv => whnf) | apply And.intro | rfl | exact Nat.le_refl _ | exact fun _ _ => rfl | exact rowEq0 _ _)
          all_goals omega
      · conv => whnf
        refine ⟨?_, [], ?_⟩
        · (try conv => whnf)
          (repeat' (first | exact True.intro | exact fun _ h => h | refine inR64_of ?_ ?_ | apply And.intro | refine maxLen_ge ?_)) <;> (first | omega | (dsimp only; omega) | (dsimp only [List.length_cons, List.length_nil]; omega) | (intro hg; rw [hg]; rfl) | (intro hg hh; rw [hg, hh]; rfl) | (intro hg; simp [-List.getD_eq_getElem?_getD, -Int.default_eq_zero] at hg; first | omega | (refine inR64_of ?_ ?_ <;> omega) | (constructor <;> omega)) | (simp [-List.getD_eq_getElem?_getD, -Int.default_eq_zero]; done))
        conv => whnf
        refine ⟨rfl, ?_, trivial, trivial⟩
        all_goals repeat' (first | exact True.intro | refine leF_cons rfl ?_ ?_ | refine leS_cons rfl ?_ ?_ | (show PLe _ _ _ _; conv => whnf) | (show SLe _ _ _ _; conv => whnf) | (show PLeL _ _ _ _; conv => whnf) | apply And.intro | rfl | exact Nat.le_refl _ | exact fun _ _ => rfl | exact rowEq0 _ _)
end Pv
end Go.Proofs.Ytiknpkadlckmjaa
