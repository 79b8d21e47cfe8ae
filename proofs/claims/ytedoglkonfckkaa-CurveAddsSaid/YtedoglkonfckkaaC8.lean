/- LAW 02: the statement of a curve that is moved. -/
import Derived.Test.YtedoglkonfckkaaC7
set_option linter.unusedSimpArgs false
set_option linter.unusedVariables false
namespace Go.Proofs.Ytedoglkonfckkaa
namespace Pv
def c5L1 : C := (.seq (.reg [⟨(some 44), 704, none, .bi false .lss (.t 43) (.t 42)⟩])
  (.seq (.cond (.t 44) .skip (.exit 0))
  (.seq (.block 1 (.seq (.reg [⟨(some 45), 720, none, .ia 2 (.t 41) (.t 43)⟩,
    ⟨(some 46), 736, none, .ld 2 true (.t 45)⟩,
    ⟨(some 16), 256, none, .al [(.int .i64 0), (.int .i64 0)]⟩,
    ⟨none, 0, none, .st 2 (.t 16) (.t 46)⟩])
  (.reg [⟨(some 47), 752, none, .mv (.t 14)⟩,
    ⟨(some 48), 768, none, .fa 0 (.t 16)⟩,
    ⟨(some 49), 784, none, .ld 1 false (.t 48)⟩,
    ⟨(some 50), 800, none, .mv (.t 11)⟩,
    ⟨(some 51), 816, none, .bi false .add (.t 49) (.t 50)⟩,
    ⟨(some 52), 832, none, .fa 1 (.t 16)⟩,
    ⟨(some 53), 848, none, .ld 1 false (.t 52)⟩,
    ⟨(some 54), 864, none, .mv (.t 12)⟩,
    ⟨(some 55), 880, none, .bi false .add (.t 53) (.t 54)⟩,
    ⟨(some 56), 896, none, .bd [(.int .i64 0), (.int .i64 0)] [(0, 1, (.t 51)), (1, 1, (.t 55))]⟩,
    ⟨(some 57), 912, none, .bs 35 2 [(.t 56)]⟩,
    ⟨(some 58), 928, none, .app 35 2 16 (.t 47) (.t 57)⟩,
    ⟨(some 14), 224, none, .mv (.t 58)⟩])))
  (.reg [⟨(some 59), 944, none, .bi false .add (.t 43) (.c (.int .i64 1))⟩,
    ⟨(some 43), 688, none, .mv (.t 59)⟩]))))
def c5 : C := (.seq (.reg [⟨(some 8), 128, none, .mv (.c (.bool false))⟩])
  (.seq (.reg [⟨(some 27), 432, none, .mv (.t 0)⟩,
    ⟨(some 28), 448, none, .call (.c (.fn (.func 8) [] [])) [(.t 27)]⟩,
    ⟨(some 9), 144, none, .mv (.t 28)⟩])
  (.seq (.reg [⟨(some 29), 464, none, .mv (.t 9)⟩,
    ⟨(some 30), 480, none, .mv (.t 9)⟩,
    ⟨(some 31), 496, none, .call (.c (.fn (.func 10) [] [])) [(.t 30), (.c (.int .i64 20))]⟩,
    ⟨(some 32), 512, none, .mv (.t 9)⟩,
    ⟨(some 33), 528, none, .call (.c (.fn (.func 10) [] [])) [(.t 32), (.c (.int .i64 20))]⟩,
    ⟨(some 34), 544, none, .call (.c (.fn (.func 9) [] [])) [(.t 29), (.t 31), (.t 33), (.c (.int .i64 30)), (.c (.int .i64 40)), (.c (.bool false))]⟩,
    ⟨(some 10), 160, none, .mv (.t 34)⟩])
  (.seq (.reg [⟨(some 35), 560, none, .mv (.t 2)⟩,
    ⟨(some 36), 576, none, .call (.c (.fn (.func 11) [] [])) [(.t 35), (.c (.int .i64 50))]⟩,
    ⟨(some 37), 592, none, .mv (.t 3)⟩,
    ⟨(some 38), 608, none, .call (.c (.fn (.func 11) [] [])) [(.t 37), (.c (.int .i64 50))]⟩,
    ⟨(some 39), 624, none, .mv (.t 1)⟩,
    ⟨(some 40), 640, none, .call (.c (.fn (.func 11) [] [])) [(.t 39), (.c (.int .i64 150))]⟩,
    ⟨(some 11), 176, none, .mv (.t 36)⟩,
    ⟨(some 12), 192, none, .mv (.t 38)⟩,
    ⟨(some 13), 208, none, .mv (.t 40)⟩])
  (.seq (.reg [⟨(some 14), 224, none, .mv (.c (.nil 2))⟩])
  (.seq (.seq (.reg [⟨(some 41), 656, none, .mv (.t 10)⟩,
    ⟨(some 42), 672, none, .len (.t 41)⟩,
    ⟨(some 43), 688, none, .mv (.c (.int .i64 0))⟩])
  (.block 0 (.loop c5L1)))
  (.seq (.reg [⟨(some 61), 976, none, .mv (.t 10)⟩,
    ⟨(some 62), 992, none, .mv (.t 13)⟩,
    ⟨(some 63), 1008, none, .call (.c (.fn (.func 12) [] [])) [(.t 61), (.t 62)]⟩,
    ⟨(some 60), 960, none, .mv (.t 63)⟩,
    ⟨(some 64), 1024, none, .ex (.t 60) 0⟩,
    ⟨(some 65), 1040, none, .ex (.t 60) 1⟩,
    ⟨(some 17), 272, none, .mv (.t 64)⟩,
    ⟨(some 18), 288, none, .mv (.t 65)⟩])
  (.seq (.reg [⟨(some 67), 1072, none, .mv (.t 14)⟩,
    ⟨(some 68), 1088, none, .mv (.t 13)⟩,
    ⟨(some 69), 1104, none, .mv (.t 11)⟩,
    ⟨(some 70), 1120, none, .bi false .add (.t 68) (.t 69)⟩,
    ⟨(some 71), 1136, none, .call (.c (.fn (.func 12) [] [])) [(.t 67), (.t 70)]⟩,
    ⟨(some 66), 1056, none, .mv (.t 71)⟩,
    ⟨(some 72), 1152, none, .ex (.t 66) 0⟩,
    ⟨(some 73), 1168, none, .ex (.t 66) 1⟩,
    ⟨(some 19), 304, none, .mv (.t 72)⟩,
    ⟨(some 20), 320, none, .mv (.t 73)⟩])
  (.seq (.reg [⟨(some 75), 1200, none, .mv (.t 10)⟩,
    ⟨(some 76), 1216, none, .mv (.t 13)⟩,
    ⟨(some 77), 1232, none, .call (.c (.fn (.func 13) [] [])) [(.t 75), (.t 76)]⟩,
    ⟨(some 74), 1184, none, .mv (.t 77)⟩,
    ⟨(some 78), 1248, none, .ex (.t 74) 0⟩,
    ⟨(some 79), 1264, none, .ex (.t 74) 1⟩,
    ⟨(some 80), 1280, none, .ex (.t 74) 2⟩,
    ⟨(some 21), 336, none, .mv (.t 78)⟩,
    ⟨(some 22), 352, none, .mv (.t 79)⟩,
    ⟨(some 23), 368, none, .mv (.t 80)⟩])
  (.seq (.reg [⟨(some 82), 1312, none, .mv (.t 14)⟩,
    ⟨(some 83), 1328, none, .mv (.t 13)⟩,
    ⟨(some 84), 1344, none, .mv (.t 12)⟩,
    ⟨(some 85), 1360, none, .bi false .add (.t 83) (.t 84)⟩,
    ⟨(some 86), 1376, none, .call (.c (.fn (.func 13) [] [])) [(.t 82), (.t 85)]⟩,
    ⟨(some 81), 1296, none, .mv (.t 86)⟩,
    ⟨(some 87), 1392, none, .ex (.t 81) 0⟩,
    ⟨(some 88), 1408, none, .ex (.t 81) 1⟩,
    ⟨(some 89), 1424, none, .ex (.t 81) 2⟩,
    ⟨(some 24), 384, none, .mv (.t 87)⟩,
    ⟨(some 25), 400, none, .mv (.t 88)⟩,
    ⟨(some 26), 416, none, .mv (.t 89)⟩])
  (.seq (.reg [⟨(some 90), 1440, none, .mv (.t 18)⟩,
    ⟨(some 91), 1456, none, .mv (.t 20)⟩,
    ⟨(some 92), 1472, none, .bi false .add (.t 90) (.t 91)⟩,
    ⟨(some 93), 1488, none, .mv (.t 23)⟩,
    ⟨(some 94), 1504, none, .bi false .add (.t 92) (.t 93)⟩,
    ⟨(some 95), 1520, none, .mv (.t 26)⟩,
    ⟨(some 96), 1536, none, .bi false .add (.t 94) (.t 95)⟩,
    ⟨(some 97), 1552, none, .bi false .eql (.t 96) (.c (.int .i64 0))⟩,
    ⟨(some 98), 1568, none, .mv (.t 97)⟩,
    ⟨(some 99), 1584, (some (98, true)), .mv (.t 19)⟩,
    ⟨(some 100), 1600, (some (98, true)), .mv (.t 17)⟩,
    ⟨(some 101), 1616, (some (98, true)), .mv (.t 12)⟩,
    ⟨(some 102), 1632, (some (98, true)), .bi false .add (.t 100) (.t 101)⟩,
    ⟨(some 103), 1648, (some (98, true)), .bi false .eql (.t 99) (.t 102)⟩,
    ⟨(some 104), 1664, none, .pick (.t 98) (.t 103) (.c (.bool false))⟩,
    ⟨(some 105), 1680, none, .mv (.t 104)⟩,
    ⟨(some 106), 1696, (some (105, true)), .mv (.t 22)⟩,
    ⟨(some 107), 1712, (some (105, true)), .mv (.t 25)⟩,
    ⟨(some 108), 1728, (some (105, true)), .bib false (.t 106) (.t 107)⟩,
    ⟨(some 109), 1744, none, .pick (.t 105) (.t 108) (.c (.bool false))⟩,
    ⟨(some 110), 1760, none, .mv (.t 109)⟩,
    ⟨(some 111), 1776, (some (110, true)), .mv (.t 22)⟩,
    ⟨(some 112), 1792, (some (110, true)), .un false .not (.t 111)⟩,
    ⟨(some 113), 1808, (some (110, true)), .mv (.t 112)⟩,
    ⟨(some 114), 1824, (some (113, false)), .mv (.t 24)⟩,
    ⟨(some 115), 1840, (some (113, false)), .mv (.t 21)⟩,
    ⟨(some 116), 1856, (some (113, false)), .mv (.t 11)⟩,
    ⟨(some 117), 1872, (some (113, false)), .bi false .add (.t 115) (.t 116)⟩,
    ⟨(some 118), 1888, (some (113, false)), .bi false .eql (.t 114) (.t 117)⟩,
    ⟨(some 119), 1904, (some (110, true)), .pick (.t 113) (.c (.bool true)) (.t 118)⟩,
    ⟨(some 120), 1920, none, .pick (.t 110) (.t 119) (.c (.bool false))⟩,
    ⟨(some 121), 1936, none, .mv (.t 120)⟩,
    ⟨(some 122), 1952, (some (121, true)), .call (.c (.fn (.func 15) [] [])) []⟩,
    ⟨(some 123), 1968, none, .pick (.t 121) (.t 122) (.c (.bool false))⟩,
    ⟨(some 8), 128, none, .mv (.t 123)⟩])
  .ret)))))))))))
theorem fits5 : fits Try.prog false Try.f5 4 124 [(8, none)] = some c5.er := by kernel_rfl

def mvP (r u : Int) (p : Pt) : Pt := ⟨p.x + r, p.y + u⟩
def mvC (r u : Int) (c : List Pt) : List Pt := c.map (mvP r u)
theorem mvC_get {r u : Int} {c : List Pt} {i : Nat} (h : i < c.length) : (mvC r u c).getD i default = mvP r u (c.getD i default) := by
  unfold mvC
  rw [List.getD_eq_getElem?_getD, List.getD_eq_getElem?_getD, List.getElem?_map, List.getElem?_eq_getElem h]; rfl
theorem mvC_len (r u : Int) (c : List Pt) : (mvC r u c).length = c.length := by unfold mvC; simp
theorem mvC_take {r u : Int} {c : List Pt} {i : Nat} (h : i < c.length) : mvC r u (c.take (i + 1)) = mvC r u (c.take i) ++ [mvP r u (c.getD i default)] := by
  unfold mvC
  rw [List.take_add_one, List.getElem?_eq_getElem h, List.map_append, List.getD_eq_getElem?_getD, List.getElem?_eq_getElem h]; rfl
theorem mvC_good {c : List Pt} (h : MadeC c) {r u : Int} (hr : 0 ≤ r ∧ r ≤ 1000) (hu : 0 ≤ u ∧ u ≤ 1000) : GoodC (mvC r u c) := by
  have hg := h.good
  have hl := h.len
  refine ⟨by rw [mvC_len]; omega, by rw [mvC_len]; omega, fun i hi => ?_, fun i h0 hi => ?_⟩
  · rw [mvC_len] at hi
    have := h.rng i hi
    rw [mvC_get hi]; dsimp only [mvP]; omega
  · rw [mvC_len] at hi
    have := hg.up i h0 hi
    rw [mvC_get hi, mvC_get (by omega)]; dsimp only [mvP]
    rw [show (c.getD i default).y + u - ((c.getD (i - 1) default).y + u) = (c.getD i default).y - (c.getD (i - 1) default).y by omega, show (c.getD i default).x + r - ((c.getD (i - 1) default).x + r) = (c.getD i default).x - (c.getD (i - 1) default).x by omega]
    omega
theorem line_mv (p q : Pt) (r u x : Int) : lineF (mvP r u p) (mvP r u q) (x + r) = lineF p q x + u := by
  unfold lineF mvP; dsimp only
  rw [show p.y + u - (q.y + u) = p.y - q.y by omega, show x + r - (q.x + r) = x - q.x by omega, show p.x + r - (q.x + r) = p.x - q.x by omega]
  omega
theorem up_mv (p q : Pt) (r u y : Int) : upF (mvP r u p) (mvP r u q) (y + u) = upF p q y + r := by
  unfold upF mvP; dsimp only
  rw [show p.y + u - (q.y + u) = p.y - q.y by omega, show y + u - (q.y + u) = y - q.y by omega, show p.x + r - (q.x + r) = p.x - q.x by omega]
  omega
theorem valA_mv {c : List Pt} {r u x : Int} (hn : 0 < c.length) : ∀ (n i : Nat), i + n = c.length → valA (mvC r u c) (x + r) i n = valA c x i n + u
  | 0, i, _ => by
    show ((mvC r u c).getD ((mvC r u c).length - 1) default).y = _
    rw [mvC_len, mvC_get (by omega)]; rfl
  | n + 1, i, hi => by
    have hs := valA_mv (c := c) (r := r) (u := u) (x := x) hn n (i + 1) (by omega)
    unfold valA
    rw [mvC_get (by omega)]
    by_cases h : x ≤ (c.getD i default).x
    · rw [if_pos h, if_pos (by dsimp only [mvP]; omega)]
      by_cases h0 : i = 0
      · rw [if_pos h0, if_pos h0]; rfl
      · rw [if_neg h0, if_neg h0, mvC_get (by omega), line_mv]
    · rw [if_neg h, if_neg (by dsimp only [mvP]; omega), hs]
theorem val_mv {c : List Pt} {r u x : Int} (hn : 0 < c.length) : valC (mvC r u c) (x + r) = valC c x + u := by
  unfold valC; rw [mvC_len]; exact valA_mv hn _ _ (by omega)
theorem firstA_mv {c : List Pt} {r u y : Int} : ∀ (n i : Nat), i + n = c.length - 1 → (firstA (mvC r u c) (y + u) i n).2 = (firstA c y i n).2 ∧ ((firstA c y i n).2 = true → (firstA (mvC r u c) (y + u) i n).1 = (firstA c y i n).1 + r)
  | 0, i, _ => ⟨rfl, fun h => by cases h⟩
  | n + 1, i, hi => by
    have hs := firstA_mv (c := c) (r := r) (u := u) (y := y) n (i + 1) (by omega)
    unfold firstA
    rw [mvC_get (by omega), mvC_get (by omega)]
    by_cases h : y ≤ (c.getD (i + 1) default).y
    · rw [if_pos h, if_pos (by dsimp only [mvP]; omega)]
      exact ⟨rfl, fun _ => up_mv _ _ _ _ _⟩
    · rw [if_neg h, if_neg (by dsimp only [mvP]; omega)]; exact hs
theorem first_mv {c : List Pt} {r u y : Int} (hn : 0 < c.length) : (firstC (mvC r u c) (y + u)).2 = (firstC c y).2 ∧ ((firstC c y).2 = true → (firstC (mvC r u c) (y + u)).1 = (firstC c y).1 + r) := by
  unfold firstC
  rw [mvC_len, mvC_get hn]
  by_cases h : y ≤ (c.getD 0 default).y
  · rw [if_pos h, if_pos (by dsimp only [mvP]; omega)]
    exact ⟨rfl, fun _ => rfl⟩
  · rw [if_neg h, if_neg (by dsimp only [mvP]; omega)]
    exact firstA_mv _ _ (by omega)

theorem val_rng {c : List Pt} (h : GoodC c) (x : Int) : 0 ≤ valC c x ∧ valC c x ≤ 274877906944 := by
  have hn := h.ne
  by_cases h1 : x < (c.getD 0 default).x
  · rw [val_lo h (by omega)]; have := h.rng 0 hn; omega
  by_cases h2 : (c.getD (c.length - 1) default).x ≤ x
  · rw [val_hi h h2]; have := h.rng (c.length - 1) (by omega); omega
  obtain ⟨k, a, b, h3, h4⟩ := find_seg (c := c) (x := x) (by omega) (c.length - 1) (by omega) (by omega)
  have hu := h.up k a (by omega)
  rw [val_seg h a (by omega) h3 (by omega)]
  have m1 := line_mono hu.1 hu.2.1 h3
  have m2 := line_mono hu.1 hu.2.1 (Int.le_of_lt h4)
  rw [line_lo] at m1; rw [line_hi hu.1] at m2
  have := h.rng k (by omega)
  have := h.rng (k - 1) (by omega)
  omega

set_option maxRecDepth 100000 in
set_option maxHeartbeats 4000000 in
theorem call5 (l : List Int) (x right up : Int) : PureCall Try.prog 5 [.sl 1 1 l.length (fl eInt l), .int .i64 x, .int .i64 right, .int .i64 up] [] ⟨.bool true, [], []⟩ := by
  refine pure_call mix Try.func5 fits5 rfl ?_
  conv => whnf
  refine ⟨_, fun _ => call_new 1 l, ?_⟩
  conv => whnf
  have r1 := nxt_lt ⟨l, 0⟩ (n := 20) (by omega)
  have a1 := nxtD_at ⟨l, 0⟩ 20
  dsimp only at a1
  refine ⟨_, fun _ => call_next 1 ⟨l, 0⟩ 20 (by dsimp only; omega) (by omega), ?_⟩
  conv => whnf
  have r2 := nxt_lt (nxtD ⟨l, 0⟩ 20) (n := 20) (by omega)
  have a2 := nxtD_at (nxtD ⟨l, 0⟩ 20) 20
  refine ⟨_, fun _ => call_next 1 (nxtD ⟨l, 0⟩ 20) 20 (by omega) (by omega), ?_⟩
  conv => whnf
  refine ⟨_, fun _ => call9 (nxtD (nxtD ⟨l, 0⟩ 20) 20) (nxt ⟨l, 0⟩ 20) (nxt (nxtD ⟨l, 0⟩ 20) 20) 30 40 (by omega) (by omega) (by omega) (by omega) (by omega), ?_⟩
  have hm := (curve_made (nxtD (nxtD ⟨l, 0⟩ 20) 20) (x := nxt ⟨l, 0⟩ 20) (y := nxt (nxtD ⟨l, 0⟩ 20) 20) (dx := 30) (dy := 40) (least := 0) (by omega) (by omega) (by omega) (by omega) (by omega)).1
  generalize curveS (nxtD (nxtD ⟨l, 0⟩ 20) 20) (nxt ⟨l, 0⟩ 20) (nxt (nxtD ⟨l, 0⟩ 20) 20) 30 40 0 = S at hm ⊢
  generalize S.L = c at hm ⊢
  generalize S.d = d
  have hg := hm.good
  have hlen := hm.len
  conv => whnf
  refine ⟨_, fun _ => call_mod right 50 (by omega) (by omega), ?_⟩
  have u1 := Int.emod_nonneg right (b := 50) (by omega)
  have u2 := Int.emod_lt_of_pos right (b := 50) (by omega)
  generalize right % 50 = r at u1 u2 ⊢
  conv => whnf
  refine ⟨_, fun _ => call_mod up 50 (by omega) (by omega), ?_⟩
  have w1 := Int.emod_nonneg up (b := 50) (by omega)
  have w2 := Int.emod_lt_of_pos up (b := 50) (by omega)
  generalize up % 50 = u at w1 w2 ⊢
  conv => whnf
  refine ⟨_, fun _ => call_mod x 150 (by omega) (by omega), ?_⟩
  have v1 := Int.emod_nonneg x (b := 150) (by omega)
  have v2 := Int.emod_lt_of_pos x (b := 150) (by omega)
  generalize x % 150 = v at v1 v2 ⊢
  have hg2 := mvC_good hm (r := r) (u := u) (by omega) (by omega)
  conv => whnf
  refine ⟨?_, ?_⟩
  · (try conv => whnf)
    (repeat' (first | exact True.intro | exact fun _ h => h | refine inR64_of ?_ ?_ | apply And.intro | refine maxLen_ge ?_)) <;> (first | omega | (dsimp only; omega) | (dsimp only [List.length_cons, List.length_nil]; omega) | (intro hg; rw [hg]; rfl) | (intro hg hh; rw [hg, hh]; rfl) | (intro hg; simp [-List.getD_eq_getElem?_getD, -Int.default_eq_zero] at hg; first | omega | (refine inR64_of ?_ ?_ <;> omega) | (constructor <;> omega)) | (simp [-List.getD_eq_getElem?_getD, -Int.default_eq_zero]; done))
  refine LSem.adopt 14 1000000 35 2 2 rfl rfl ?_
  refine LSem.loop (n := 124) mix (α := Nat) (fun i => i ≤ c.length)
    (fun i => [(10, .sl 0 2 c.length (fl ePt c)), (11, .int .i64 r), (12, .int .i64 u), (13, .int .i64 v), (14, .os 1000000), (41, .sl 0 2 c.length (fl ePt c)), (42, .int .i64 c.length), (43, .int .i64 i)])
    (fun i => [(1000000, .row 0 35 2 i (fl ePt (mvC r u (c.take i))))]) (fun i => c.length - i) 0 ?_ ?_ ?_
  · exact Nat.zero_le _
  · refine ⟨rfl, rfl, ?_, ?_⟩
    all_goals repeat' (first | exact True.intro | refine leF_cons rfl ?_ ?_ | refine leS_cons rfl ?_ ?_ | (show PLe _ _ _ _; conv => whnf) | (show SLe _ _ _ _; conv => whnf) | (show PLeL _ _ _ _; conv => whnf) | apply And.intro | rfl | exact Nat.le_refl _ | exact fun _ _ => rfl | exact rowEq0 _ _)
  · intro i hi
    have hj : ((i : Int)).toNat = i := by omega
    conv => whnf
    refine ⟨trivial, fun hc => ?_, fun hc => ?_⟩
    · replace hc := of_decide_eq_true hc
      have hlt : i < c.length := by omega
      have hr := hm.rng i hlt
      conv => whnf
      refine ⟨?_, i + 1, (by omega : i + 1 ≤ c.length), ?_, rfl, rfl, ?_, ?_⟩
      · conv => whnf
        rw [hj]
        (try conv => whnf)
        (repeat' (first | exact True.intro | exact fun _ h => h | refine inR64_of ?_ ?_ | apply And.intro | refine maxLen_ge ?_)) <;> (first | omega | (dsimp only; omega) | (dsimp only [List.length_cons, List.length_nil]; omega) | (intro hg; rw [hg]; rfl) | (intro hg hh; rw [hg, hh]; rfl) | (intro hg; simp [-List.getD_eq_getElem?_getD, -Int.default_eq_zero] at hg; first | omega | (refine inR64_of ?_ ?_ <;> omega) | (constructor <;> omega)) | (simp [-List.getD_eq_getElem?_getD, -Int.default_eq_zero]; done))
      · omega
      all_goals repeat' (first | exact True.intro | refine leF_cons rfl ?_ ?_ | refine leS_cons rfl ?_ ?_ | (show PLe _ _ _ _; conv => whnf) | (show SLe _ _ _ _; conv => whnf) | (show PLeL _ _ _ _; conv => whnf) | apply And.intro | rfl | exact Nat.le_refl _ | exact fun _ _ => rfl | exact rowEq0 _ _)
      all_goals (try omega)
      rw [hj, mvC_take hlt]
      have := fl_push ePt (mvC r u (c.take i)) (mvP r u (c.getD i default))
      rw [mvC_len, List.length_take, Nat.min_eq_left (by omega)] at this
      exact this
    · replace hc := of_decide_eq_false hc
      have : i = c.length := by omega
      subst this
      rw [List.take_length]
      conv => whnf
      refine ⟨_, fun _ => call12 _ c v, ?_⟩
      rw [atC_good hg]
      conv => whnf
      refine ⟨_, fun _ => argSI_le (call12 _ (mvC r u c) (v + r)) (mvC_len r u c).symm (fun _ _ => rfl), ?_⟩
      rw [atC_good hg2, val_mv hg.ne]
      conv => whnf
      refine ⟨_, fun _ => call13 _ c v, ?_⟩
      rw [firstR_good hg]
      conv => whnf
      refine ⟨_, fun _ => argSI_le (call13 _ (mvC r u c) (v + u)) (mvC_len r u c).symm (fun _ _ => rfl), ?_⟩
      rw [firstR_good hg2]
      obtain ⟨k1, k2⟩ := first_mv (c := c) (r := r) (u := u) (y := v) hg.ne
      generalize firstC (mvC r u c) (v + u) = G at k1 k2 ⊢
      have hF := first_ok hg v
      have hF0 := first_no (c := c) (y := v)
      generalize firstC c v = F at k1 k2 hF hF0 ⊢
      obtain ⟨p, ok⟩ := F
      obtain ⟨q, is⟩ := G
      dsimp only at k1 k2 hF0
      subst k1
      obtain ⟨hF1, hF2⟩ := hF
      dsimp only at hF1 hF2
      have hr := hm.rng 0 (by omega)
      have hr1 := hm.rng (c.length - 1) (by omega)
      have hp : 0 ≤ p ∧ p ≤ 10000 := by
        cases is
        · have := hF0 rfl; omega
        · have := hF1 rfl; omega
      conv => whnf
      refine ⟨_, fun _ => call15, ?_⟩
      conv => whnf
      have hv := val_rng hg v
      refine ⟨?_, [], ?_⟩
      · (try conv => whnf)
        (repeat' (first | exact True.intro | exact fun _ h => h | refine inR64_of ?_ ?_ | apply And.intro | refine maxLen_ge ?_)) <;> (first | omega | (dsimp only; omega) | (dsimp only [List.length_cons, List.length_nil]; omega) | (intro hg; rw [hg]; rfl) | (intro hg hh; rw [hg, hh]; rfl) | (intro hg; simp [-List.getD_eq_getElem?_getD, -Int.default_eq_zero] at hg; first | omega | (refine inR64_of ?_ ?_ <;> omega) | (constructor <;> omega)) | (simp [-List.getD_eq_getElem?_getD, -Int.default_eq_zero]; done))
      conv => whnf
      refine ⟨rfl, ?_, trivial, trivial⟩
      all_goals repeat' (first | exact True.intro | refine leF_cons rfl ?_ ?_ | refine leS_cons rfl ?_ ?_ | (show PLe _ _ _ _; conv => whnf) | (show SLe _ _ _ _; conv => whnf) | (show PLeL _ _ _ _; conv => whnf) | apply And.intro | rfl | exact Nat.le_refl _ | exact fun _ _ => rfl | exact rowEq0 _ _)
      cases is
      · simp only [bif_t, bif_f, decide_eq_true_eq, decide_eq_false_iff_not, Bool.not_eq_true', Bool.not_eq_false', Bool.and_eq_true, Bool.or_eq_true, Bool.and_eq_false_iff, Bool.or_eq_false_iff, beq_iff_eq, bne_iff_ne, beq_eq_false_iff_ne, bne_eq_false_iff_eq, reduceCtorEq, false_and, and_false, true_and, and_true, or_false, false_or, or_true, true_or, not_true_eq_false, not_false_eq_true, Int.toNat_zero]; simp
      · have := k2 rfl
        simp only [bif_t, bif_f, decide_eq_true_eq, decide_eq_false_iff_not, Bool.not_eq_true', Bool.not_eq_false', Bool.and_eq_true, Bool.or_eq_true, Bool.and_eq_false_iff, Bool.or_eq_false_iff, beq_iff_eq, bne_iff_ne, beq_eq_false_iff_ne, bne_eq_false_iff_eq, reduceCtorEq, false_and, and_false, true_and, and_true, or_false, false_or, or_true, true_or, not_true_eq_false, not_false_eq_true, Int.toNat_zero]
        simp; omega
end Pv
end Go.Proofs.Ytedoglkonfckkaa
