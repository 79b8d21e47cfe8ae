/- LAW 29: the statement on checks, bounds and fills. -/
import Derived.Test.YtiknpkadlckmjaaW13
namespace Go.Proofs.Ytiknpkadlckmjaa
namespace Pv
def c4L3 : C := (.seq (.reg [⟨(some 82), 1312, none, .bi true .lss (.t 81) (.t 80)⟩])
  (.seq (.cond (.t 82) .skip (.exit 4))
  (.seq (.block 5 (.seq (.reg [⟨(some 83), 1328, none, .ia 1 (.t 79) (.t 81)⟩,
    ⟨(some 84), 1344, none, .ld 1 false (.t 83)⟩,
    ⟨(some 21), 336, none, .mv (.t 84)⟩])
  (.seq (.reg [⟨(some 86), 1376, none, .mv (.t 17)⟩,
    ⟨(some 87), 1392, none, .ld 4 true (.t 19)⟩,
    ⟨(some 88), 1408, none, .mv (.t 21)⟩,
    ⟨(some 89), 1424, none, .call (.c (.fn (.func 18) [] [])) [(.t 86), (.t 87), (.t 88)]⟩,
    ⟨(some 85), 1360, none, .mv (.t 89)⟩,
    ⟨(some 90), 1440, none, .ex (.t 85) 0⟩,
    ⟨(some 91), 1456, none, .ex (.t 85) 1⟩,
    ⟨(some 22), 352, none, .al [(.int .i64 0), (.int .i64 0)]⟩,
    ⟨none, 0, none, .st 2 (.t 22) (.t 90)⟩,
    ⟨(some 23), 368, none, .mv (.t 91)⟩])
  (.seq (.reg [⟨(some 93), 1488, none, .mv (.t 17)⟩,
    ⟨(some 94), 1504, none, .ld 4 true (.t 19)⟩,
    ⟨(some 95), 1520, none, .mv (.t 21)⟩,
    ⟨(some 96), 1536, none, .call (.c (.fn (.func 19) [] [])) [(.t 93), (.t 94), (.t 95)]⟩,
    ⟨(some 92), 1472, none, .mv (.t 96)⟩,
    ⟨(some 97), 1552, none, .ex (.t 92) 0⟩,
    ⟨(some 98), 1568, none, .ex (.t 92) 1⟩,
    ⟨(some 24), 384, none, .al [(.int .i64 0), (.int .i64 0)]⟩,
    ⟨none, 0, none, .st 2 (.t 24) (.t 97)⟩,
    ⟨(some 25), 400, none, .mv (.t 98)⟩])
  (.seq (.reg [⟨(some 99), 1584, none, .ld 2 true (.t 22)⟩,
    ⟨(some 100), 1600, none, .ld 2 true (.t 24)⟩,
    ⟨(some 101), 1616, none, .eqa true [0, 0] (.t 99) (.t 100)⟩,
    ⟨(some 102), 1632, none, .mv (.t 101)⟩,
    ⟨(some 103), 1648, (some (102, false)), .mv (.t 23)⟩,
    ⟨(some 104), 1664, (some (102, false)), .mv (.t 25)⟩,
    ⟨(some 105), 1680, (some (102, false)), .bi true .neq (.t 103) (.t 104)⟩,
    ⟨(some 106), 1696, none, .pick (.t 102) (.c (.bool true)) (.t 105)⟩])
  (.cond (.t 106) (.seq (.reg [⟨(some 12), 192, none, .mv (.c (.bool false))⟩])
  .ret) .skip))))))
  (.reg [⟨(some 107), 1712, none, .bi true .add (.t 81) (.c (.int .i64 1))⟩,
    ⟨(some 81), 1296, none, .mv (.t 107)⟩]))))
def c4L4 : C := (.seq (.reg [⟨(some 126), 2016, none, .bi true .lss (.t 125) (.t 124)⟩])
  (.seq (.cond (.t 126) .skip (.exit 6))
  (.seq (.block 7 (.seq (.reg [⟨(some 127), 2032, none, .ia 2 (.t 123) (.t 125)⟩,
    ⟨(some 128), 2048, none, .ld 2 true (.t 127)⟩,
    ⟨(some 27), 432, none, .al [(.int .i64 0), (.int .i64 0)]⟩,
    ⟨none, 0, none, .st 2 (.t 27) (.t 128)⟩])
  (.seq (.reg [⟨(some 130), 2080, none, .mv (.t 17)⟩,
    ⟨(some 131), 2096, none, .ld 4 true (.t 19)⟩,
    ⟨(some 132), 2112, none, .iaa 2 1 (.t 27) (.c (.int .i64 0))⟩,
    ⟨(some 133), 2128, none, .ld 1 false (.t 132)⟩,
    ⟨(some 134), 2144, none, .iaa 2 1 (.t 27) (.c (.int .i64 1))⟩,
    ⟨(some 135), 2160, none, .ld 1 false (.t 134)⟩,
    ⟨(some 136), 2176, none, .call (.c (.fn (.func 20) [] [])) [(.t 130), (.t 131), (.t 133), (.t 135)]⟩,
    ⟨(some 129), 2064, none, .mv (.t 136)⟩,
    ⟨(some 137), 2192, none, .ex (.t 129) 0⟩,
    ⟨(some 138), 2208, none, .ex (.t 129) 1⟩,
    ⟨(some 28), 448, none, .mv (.t 137)⟩,
    ⟨(some 29), 464, none, .mv (.t 138)⟩])
  (.seq (.reg [⟨(some 140), 2240, none, .mv (.t 17)⟩,
    ⟨(some 141), 2256, none, .ld 4 true (.t 19)⟩,
    ⟨(some 142), 2272, none, .iaa 2 1 (.t 27) (.c (.int .i64 0))⟩,
    ⟨(some 143), 2288, none, .ld 1 false (.t 142)⟩,
    ⟨(some 144), 2304, none, .iaa 2 1 (.t 27) (.c (.int .i64 1))⟩,
    ⟨(some 145), 2320, none, .ld 1 false (.t 144)⟩,
    ⟨(some 146), 2336, none, .call (.c (.fn (.func 21) [] [])) [(.t 140), (.t 141), (.t 143), (.t 145)]⟩,
    ⟨(some 139), 2224, none, .mv (.t 146)⟩,
    ⟨(some 147), 2352, none, .ex (.t 139) 0⟩,
    ⟨(some 148), 2368, none, .ex (.t 139) 1⟩,
    ⟨(some 30), 480, none, .mv (.t 147)⟩,
    ⟨(some 31), 496, none, .mv (.t 148)⟩])
  (.seq (.reg [⟨(some 149), 2384, none, .mv (.t 29)⟩,
    ⟨(some 150), 2400, none, .mv (.t 31)⟩,
    ⟨(some 151), 2416, none, .bi true .neq (.t 149) (.t 150)⟩,
    ⟨(some 152), 2432, none, .mv (.t 151)⟩,
    ⟨(some 153), 2448, (some (152, false)), .mv (.t 28)⟩,
    ⟨(some 154), 2464, (some (152, false)), .mv (.t 30)⟩,
    ⟨(some 155), 2480, (some (152, false)), .call (.c (.fn (.func 22) [] [])) [(.t 153), (.t 154)]⟩,
    ⟨(some 156), 2496, (some (152, false)), .un true .not (.t 155)⟩,
    ⟨(some 157), 2512, none, .pick (.t 152) (.c (.bool true)) (.t 156)⟩])
  (.cond (.t 157) (.seq (.reg [⟨(some 12), 192, none, .mv (.c (.bool false))⟩])
  .ret) .skip))))))
  (.reg [⟨(some 158), 2528, none, .bi true .add (.t 125) (.c (.int .i64 1))⟩,
    ⟨(some 125), 2000, none, .mv (.t 158)⟩]))))
def c4L2 : C := (.seq (.reg [⟨(some 66), 1056, none, .bi true .lss (.t 65) (.t 64)⟩])
  (.seq (.cond (.t 66) .skip (.exit 2))
  (.seq (.block 3 (.seq (.reg [⟨(some 67), 1072, none, .ia 4 (.t 63) (.t 65)⟩,
    ⟨(some 68), 1088, none, .ld 4 true (.t 67)⟩,
    ⟨(some 19), 304, none, .al [(.int .i64 0), (.int .i64 0), (.int .i64 0), (.int .i64 0)]⟩,
    ⟨none, 0, none, .st 4 (.t 19) (.t 68)⟩])
  (.seq (.seq (.drw [⟨(some 69), 1104, none, .mv (.t 17)⟩,
    ⟨(some 70), 1120, none, .ld 4 true (.t 19)⟩,
    ⟨(some 71), 1136, none, .call (.c (.fn (.func 13) [] [])) [(.t 69), (.t 70)]⟩,
    ⟨(some 72), 1152, none, .mv (.t 17)⟩,
    ⟨(some 73), 1168, none, .ld 4 true (.t 19)⟩,
    ⟨(some 74), 1184, none, .call (.c (.fn (.func 16) [] [])) [(.t 72), (.t 73)]⟩,
    ⟨(some 75), 1200, none, .bi true .neq (.t 71) (.t 74)⟩]
    [(0, 1, 69), (0, 3, 69), (0, 4, 69), (1, 3, 70), (1, 4, 70), (2, 3, 71), (2, 4, 71), (3, 4, 72)])
  (.cond (.t 75) (.seq (.reg [⟨(some 12), 192, none, .mv (.c (.bool false))⟩])
  .ret) .skip))
  (.seq (.seq (.reg [⟨(some 76), 1216, none, .mv (.t 3)⟩,
    ⟨(some 77), 1232, none, .mv (.t 3)⟩,
    ⟨(some 78), 1248, none, .call (.c (.fn (.func 17) [] [])) [(.t 77), (.c (.int .i64 40))]⟩,
    ⟨(some 79), 1264, none, .bs 3 1 [(.t 76), (.t 78)]⟩,
    ⟨(some 80), 1280, none, .len (.t 79)⟩,
    ⟨(some 81), 1296, none, .mv (.c (.int .i64 0))⟩])
  (.block 4 (.loop c4L3)))
  (.seq (.reg [⟨(some 108), 1728, none, .mv (.t 4)⟩,
    ⟨(some 109), 1744, none, .mv (.t 5)⟩,
    ⟨(some 110), 1760, none, .bd [(.int .i64 0), (.int .i64 0)] [(0, 1, (.t 108)), (1, 1, (.t 109))]⟩,
    ⟨(some 111), 1776, none, .mv (.t 4)⟩,
    ⟨(some 112), 1792, none, .call (.c (.fn (.func 17) [] [])) [(.t 111), (.c (.int .i64 30))]⟩,
    ⟨(some 113), 1808, none, .mv (.t 4)⟩,
    ⟨(some 114), 1824, none, .call (.c (.fn (.func 17) [] [])) [(.t 113), (.c (.int .i64 30))]⟩,
    ⟨(some 115), 1840, none, .mv (.t 5)⟩,
    ⟨(some 116), 1856, none, .call (.c (.fn (.func 17) [] [])) [(.t 115), (.c (.int .i64 30))]⟩,
    ⟨(some 117), 1872, none, .bi true .add (.t 114) (.t 116)⟩,
    ⟨(some 118), 1888, none, .bd [(.int .i64 0), (.int .i64 0)] [(0, 1, (.t 112)), (1, 1, (.t 117))]⟩,
    ⟨(some 119), 1904, none, .mv (.t 4)⟩,
    ⟨(some 120), 1920, none, .mv (.t 4)⟩,
    ⟨(some 121), 1936, none, .bi true .add (.t 120) (.c (.int .i64 400))⟩,
    ⟨(some 122), 1952, none, .bd [(.int .i64 0), (.int .i64 0)] [(0, 1, (.t 119)), (1, 1, (.t 121))]⟩,
    ⟨(some 123), 1968, none, .bs 47 2 [(.t 110), (.t 118), (.t 122)]⟩,
    ⟨(some 124), 1984, none, .len (.t 123)⟩,
    ⟨(some 125), 2000, none, .mv (.c (.int .i64 0))⟩])
  (.block 6 (.loop c4L4)))))))
  (.reg [⟨(some 159), 2544, none, .bi true .add (.t 65) (.c (.int .i64 1))⟩,
    ⟨(some 65), 1040, none, .mv (.t 159)⟩]))))
def c4L1 : C := (.seq (.reg [⟨(some 58), 928, none, .bi true .lss (.t 57) (.t 56)⟩])
  (.seq (.cond (.t 58) .skip (.exit 0))
  (.seq (.block 1 (.seq (.reg [⟨(some 59), 944, none, .ia 1 (.t 55) (.t 57)⟩,
    ⟨(some 60), 960, none, .ld 1 false (.t 59)⟩,
    ⟨(some 17), 272, none, .mv (.t 60)⟩])
  (.seq (.reg [⟨(some 61), 976, none, .ld 4 true (.t 8)⟩,
    ⟨(some 62), 992, none, .ld 4 true (.t 14)⟩,
    ⟨(some 63), 1008, none, .bs 29 4 [(.t 61), (.t 62)]⟩,
    ⟨(some 64), 1024, none, .len (.t 63)⟩,
    ⟨(some 65), 1040, none, .mv (.c (.int .i64 0))⟩])
  (.block 2 (.loop c4L2)))))
  (.reg [⟨(some 160), 2560, none, .bi true .add (.t 57) (.c (.int .i64 1))⟩,
    ⟨(some 57), 912, none, .mv (.t 160)⟩]))))
def c4 : C := (.seq (.reg [⟨(some 8), 128, none, .bx 4 (.t 2)⟩,
    ⟨(some 12), 192, none, .mv (.c (.bool false))⟩])
  (.seq (.seq (.reg [⟨(some 32), 512, none, .call (.c (.fn (.func 8) [] [])) []⟩,
    ⟨(some 33), 528, none, .un true .not (.t 32)⟩])
  (.cond (.t 33) (.seq (.reg [⟨(some 12), 192, none, .mv (.c (.bool false))⟩])
  .ret) .skip))
  (.seq (.seq (.reg [⟨(some 34), 544, none, .mv (.t 0)⟩,
    ⟨(some 35), 560, none, .call (.c (.fn (.func 9) [] [])) [(.t 34)]⟩,
    ⟨(some 36), 576, none, .un true .not (.t 35)⟩,
    ⟨(some 37), 592, none, .mv (.t 36)⟩,
    ⟨(some 38), 608, (some (37, false)), .mv (.t 1)⟩,
    ⟨(some 39), 624, (some (37, false)), .len (.t 38)⟩,
    ⟨(some 40), 640, (some (37, false)), .bi true .gtr (.t 39) (.c (.int .i64 500))⟩,
    ⟨(some 41), 656, none, .pick (.t 37) (.c (.bool true)) (.t 40)⟩])
  (.cond (.t 41) (.seq (.reg [⟨(some 12), 192, none, .mv (.c (.bool true))⟩])
  .ret) .skip))
  (.seq (.reg [⟨(some 42), 672, none, .mv (.t 0)⟩,
    ⟨(some 43), 688, none, .call (.c (.fn (.func 10) [] [])) [(.t 42)]⟩,
    ⟨(some 13), 208, none, .mv (.t 43)⟩])
  (.seq (.reg [⟨(some 44), 704, none, .mv (.t 13)⟩,
    ⟨(some 45), 720, none, .call (.c (.fn (.func 11) [] [])) [(.t 44)]⟩,
    ⟨(some 14), 224, none, .al [(.int .i64 0), (.int .i64 0), (.int .i64 0), (.int .i64 0)]⟩,
    ⟨none, 0, none, .st 4 (.t 14) (.t 45)⟩])
  (.seq (.reg [⟨(some 46), 736, none, .mv (.t 13)⟩,
    ⟨(some 47), 752, none, .mv (.t 13)⟩,
    ⟨(some 48), 768, none, .ld 4 true (.t 14)⟩,
    ⟨(some 49), 784, none, .call (.c (.fn (.func 15) [] [])) [(.t 47), (.t 48), (.c (.int .i64 12))]⟩,
    ⟨(some 50), 800, none, .mv (.t 13)⟩,
    ⟨(some 51), 816, none, .call (.c (.fn (.func 12) [] [])) [(.t 50), (.c (.int .i64 9))]⟩,
    ⟨(some 52), 832, none, .call (.c (.fn (.func 14) [] [])) [(.t 46), (.t 49), (.t 51)]⟩,
    ⟨(some 15), 240, none, .mv (.t 52)⟩])
  (.seq (.seq (.reg [⟨(some 53), 848, none, .mv (.t 1)⟩,
    ⟨(some 54), 864, none, .mv (.t 15)⟩,
    ⟨(some 55), 880, none, .bs 31 1 [(.t 53), (.t 54)]⟩,
    ⟨(some 56), 896, none, .len (.t 55)⟩,
    ⟨(some 57), 912, none, .mv (.c (.int .i64 0))⟩])
  (.block 0 (.loop c4L1)))
  (.seq (.reg [⟨(some 12), 192, none, .mv (.c (.bool true))⟩])
  .ret))))))))
theorem fits4 : fits Try.prog true Try.f4 6 161 [(12, none)] = some c4.er := by kernel_rfl

def eP (p : Int × Int) : List PV := [.int .i64 p.1, .int .i64 p.2]
theorem fl_two {α : Type} [Inhabited α] (e : α → List PV) (x y : α) : RowEq 2 (fun i => [e x, e y].getD i []) (fl e [x, y]) := fun i hi => by
  have : i = 0 ∨ i = 1 := by omega
  rcases this with rfl | rfl <;> rfl
theorem fl_three {α : Type} [Inhabited α] (e : α → List PV) (x y z : α) : RowEq 3 (fun i => [e x, e y, e z].getD i []) (fl e [x, y, z]) := fun i hi => by
  have : i = 0 ∨ i = 1 ∨ i = 2 := by omega
  rcases this with rfl | rfl | rfl <;> rfl
theorem wrap_rng (n : Int) : inR .i64 (IntKind.wrap .i64 n) := by rw [wrap64, inR64]; omega
theorem fillF_len (l : List Me) (c : Ck) (a b : Int) : (fillF l c a b).1.length ≤ 1000 := by
  unfold fillF; split
  · simp
  · split
    · simp
    · split
      · simp
      · simp; omega
theorem same_refl' (a : List Bo) : sameF a a = true := decide_eq_true rfl
theorem at_small (l : List Me) (c : Ck) (n : Int) (b : Bool) (h : (bif b then true else (atF l c n).2 != (atF l c n).2) = true) : b = true := by simpa using h

theorem wk_props {c : Ck} (hc : SmallC c) : ∀ (k : Nat) (s : List Int × Int × Dk), (∀ x ∈ s.1, c.lo ≤ x ∧ x ≤ c.hi) → c.lo ≤ s.2.1 ∧ s.2.1 ≤ c.hi →
    (∀ x ∈ (wk c k s).1, c.lo ≤ x ∧ x ≤ c.hi) ∧ (wk c k s).1.length = s.1.length + k ∧ (wk c k s).2.2.l = s.2.2.l
  | 0, s, h1, h2 => ⟨h1, rfl, rfl⟩
  | k + 1, s, h1, h2 => by
    have hw : c.lo ≤ wstep c s.2.1 s.2.2 ∧ wstep c s.2.1 s.2.2 ≤ c.hi := by
      obtain ⟨_, h, _⟩ := hc
      unfold wstep; rw [mx_eq, mn_eq]; omega
    obtain ⟨g1, g2, g3⟩ := wk_props hc k (s.1 ++ [wstep c s.2.1 s.2.2], wstep c s.2.1 s.2.2, nxtD s.2.2 (2 * c.j + 1)) (fun x hx => by
      rcases List.mem_append.1 hx with hx | hx
      · exact h1 x hx
      · rw [List.mem_singleton.1 hx]; exact hw) hw
    refine ⟨g1, ?_, ?_⟩
    · rw [wk, g2]; simp; omega
    · rw [wk, g3]; exact nxtD_len _ _
theorem walkS_props {d : Dk} {c : Ck} (hc : SmallC c) (n : Int) : (∀ x ∈ (walkS d c n).1, c.lo ≤ x ∧ x ≤ c.hi) ∧ (walkS d c n).1.length = 1 + (n.toNat - 1) ∧ (walkS d c n).2.2.l = d.l := by
  have r := nxt_rng d (c.hi - c.lo + 1)
  have hx : c.lo ≤ c.lo + nxt d (c.hi - c.lo + 1) ∧ c.lo + nxt d (c.hi - c.lo + 1) ≤ c.hi := by obtain ⟨_, h, _⟩ := hc; omega
  obtain ⟨g1, g2, g3⟩ := wk_props hc (n.toNat - 1) (wst0 d c) (fun x h => by rw [List.mem_singleton.1 h]; exact hx) hx
  exact ⟨g1, g2, by rw [walkS, g3]; exact nxtD_len _ _⟩
theorem msr_dk : ∀ (frm : Int) (l : List Int) (i : Nat) (d : Dk), (msr frm i l d).2.l = d.l
  | frm, [], i, d => by rw [msr]
  | frm, x :: xs, i, d => by
    by_cases h : nxt d 3 = 0
    · rw [msr_hit h]; dsimp only; rw [msr_dk frm xs]; unfold dk1; rw [nxtD_len, nxtD_len, nxtD_len]
    · rw [msr_skip h, msr_dk frm xs, nxtD_len]
theorem wr_lit (i : Nat) (h : i ≤ 10) : IntKind.wrap .i64 ((i : Int) + 1) = ((i + 1 : Nat) : Int) := by rw [wrap64]; omega

set_option maxRecDepth 100000 in
set_option maxHeartbeats 4000000 in
theorem call4 (t : List Int) (raw : List Me) (c : Ck) (time a b : Int) (τ : Nat) (ha : inR .i64 a) (hb : inR .i64 b) :
    PureCall Try.prog 4 [.sl 1 1 t.length (fl eInt t), .sl τ 3 raw.length (fl eMe raw), .agg (eCk c), .int .i64 time, .int .i64 a, .int .i64 b] [] ⟨.bool true, [], []⟩ := by
  refine pure_call mix Try.func4 fits4 rfl ?_
  conv => whnf
  refine ⟨_, fun _ => call8, ?_⟩
  conv => whnf
  refine ⟨by simp, fun hc => absurd hc (by simp), fun _ => ?_⟩
  conv => whnf
  refine ⟨_, fun _ => call9 1 t, ?_⟩
  conv => whnf
  refine ⟨?_, fun hc => ?_, fun hc => ?_⟩
  · (try conv => whnf)
    (repeat' (first | exact True.intro | exact fun _ h => h | refine inR64_of ?_ ?_ | apply And.intro | refine maxLen_ge ?_)) <;> (first | omega | (dsimp only; omega) | (dsimp only [List.length_cons, List.length_nil]; omega) | (intro hg; rw [hg]; rfl) | (intro hg hh; rw [hg, hh]; rfl) | (intro hg; simp [-List.getD_eq_getElem?_getD, -Int.default_eq_zero] at hg; first | omega | (refine inR64_of ?_ ?_ <;> omega) | (constructor <;> omega)) | (simp [-List.getD_eq_getElem?_getD, -Int.default_eq_zero]; done))
  · conv => whnf
    refine ⟨?_, [], ?_⟩
    · (try conv => whnf)
      (repeat' (first | exact True.intro | exact fun _ h => h | refine inR64_of ?_ ?_ | apply And.intro | refine maxLen_ge ?_)) <;> (first | omega | (dsimp only; omega) | (dsimp only [List.length_cons, List.length_nil]; omega) | (intro hg; rw [hg]; rfl) | (intro hg hh; rw [hg, hh]; rfl) | (intro hg; simp [-List.getD_eq_getElem?_getD, -Int.default_eq_zero] at hg; first | omega | (refine inR64_of ?_ ?_ <;> omega) | (constructor <;> omega)) | (simp [-List.getD_eq_getElem?_getD, -Int.default_eq_zero]; done))
    conv => whnf
    refine ⟨rfl, ?_, trivial, trivial⟩
    all_goals repeat' (first | exact True.intro | refine leF_cons rfl ?_ ?_ | refine leS_cons rfl ?_ ?_ | (show PLe _ _ _ _; conv => whnf) | (show SLe _ _ _ _; conv => whnf) | (show PLeL _ _ _ _; conv => whnf) | apply And.intro | rfl | exact Nat.le_refl _ | exact fun _ _ => rfl | exact rowEq0 _ _)
  · simp [-List.getD_eq_getElem?_getD, -Int.default_eq_zero] at hc
    obtain ⟨ht, hraw⟩ := hc
    conv => whnf
    refine ⟨_, fun _ => call10 1 t, ?_⟩
    conv => whnf
    refine ⟨_, fun _ => call11 ⟨t, 0⟩ (by dsimp only; omega), ?_⟩
    have hk := checksF_small ⟨t, 0⟩
    have hkl := checksF_len ⟨t, 0⟩
    generalize checksF ⟨t, 0⟩ = K at hk hkl ⊢
    conv => whnf
    refine ⟨_, fun _ => call15 K.2 K.1 12 (by rw [hkl]; dsimp only; omega) hk (by omega), ?_⟩
    conv => whnf
    obtain ⟨w1, w2, w3⟩ := walkS_props (d := K.2) hk 12
    have r1 := nxt_rng (walkS K.2 K.1 12).2.2 9
    obtain ⟨k1, k2, k3, _⟩ := hk
    refine ⟨_, fun _ => call12 1 (walkS K.2 K.1 12).2.2 9 (by rw [w3, hkl]; dsimp only; omega) (by omega), ?_⟩
    conv => whnf
    refine ⟨_, fun _ => call14 _ (nxtD (walkS K.2 K.1 12).2.2 9) (walkS K.2 K.1 12).1 (nxt (walkS K.2 K.1 12).2.2 9) (by rw [nxtD_len, w3, hkl]; dsimp only; omega) (by rw [w2]; omega) (fun x hx => by have := w1 x hx; omega) (by omega), ?_⟩
    generalize (msr (nxt (walkS K.2 K.1 12).2.2 9) 0 (walkS K.2 K.1 12).1 (nxtD (walkS K.2 K.1 12).2.2 9)) = MD
    conv => whnf
    refine ⟨?_, ?_⟩
    · (try conv => whnf)
      (repeat' (first | exact True.intro | exact fun _ h => h | refine inR64_of ?_ ?_ | apply And.intro | refine maxLen_ge ?_)) <;> (first | omega | (dsimp only; omega) | (dsimp only [List.length_cons, List.length_nil]; omega) | (intro hg; rw [hg]; rfl) | (intro hg hh; rw [hg, hh]; rfl) | (intro hg; simp [-List.getD_eq_getElem?_getD, -Int.default_eq_zero] at hg; first | omega | (refine inR64_of ?_ ?_ <;> omega) | (constructor <;> omega)) | (simp [-List.getD_eq_getElem?_getD, -Int.default_eq_zero]; done))
    refine LSem.loop (n := 161) mix (α := Nat) (fun i => i ≤ 2)
      (fun i => [(3, .int .i64 time), (4, .int .i64 a), (5, .int .i64 b), (8, .pt 128 0 0), (14, .pt 224 0 0), (55, .sl τ 1 2 (fun i => [[.sl τ 3 raw.length (fl eMe raw)], [.sl 0 3 MD.1.length (fl eMe MD.1)]].getD i [])), (56, .int .i64 2), (57, .int .i64 i)])
      (fun i => [(128, .box (eCk c)), (224, .box (eCk K.1))]) (fun i => 2 - i) 0 ?_ ?_ ?_
    · omega
    · refine ⟨rfl, rfl, ?_, ?_⟩
      all_goals repeat' (first | exact True.intro | refine leF_cons rfl ?_ ?_ | refine leS_cons rfl ?_ ?_ | (show PLe _ _ _ _; conv => whnf) | (show SLe _ _ _ _; conv => whnf) | (show PLeL _ _ _ _; conv => whnf) | apply And.intro | rfl | exact Nat.le_refl _ | exact fun _ _ => rfl | exact rowEq0 _ _)
      all_goals (simp [tauR, tauL, PV.tau])
    · intro i hi
      have hcases : i = 0 ∨ i = 1 ∨ i = 2 := by omega
      rcases hcases with rfl | rfl | rfl
      · conv => whnf
        refine ⟨trivial, fun _ => ?_, fun hc => absurd hc (by decide)⟩
        conv => whnf
        refine ⟨?_, ?_⟩
        · (try conv => whnf)
          (repeat' (first | exact True.intro | exact fun _ h => h | refine inR64_of ?_ ?_ | apply And.intro | refine maxLen_ge ?_)) <;> (first | omega | (dsimp only; omega) | (dsimp only [List.length_cons, List.length_nil]; omega) | (intro hg; rw [hg]; rfl) | (intro hg hh; rw [hg, hh]; rfl) | (intro hg; simp [-List.getD_eq_getElem?_getD, -Int.default_eq_zero] at hg; first | omega | (refine inR64_of ?_ ?_ <;> omega) | (constructor <;> omega)) | (simp [-List.getD_eq_getElem?_getD, -Int.default_eq_zero]; done))
        refine LSem.loop (n := 161) mix (α := Nat) (fun j => j ≤ 2)
          (fun j => [(3, .int .i64 time), (4, .int .i64 a), (5, .int .i64 b), (8, .pt 128 0 0), (14, .pt 224 0 0), (55, .sl τ 1 2 (fun i => [[.sl τ 3 raw.length (fl eMe raw)], [.sl 0 3 MD.1.length (fl eMe MD.1)]].getD i [])), (56, .int .i64 2), (57, .int .i64 (0 : Nat)), (17, .sl τ 3 raw.length (fl eMe raw)), (63, .sl 0 4 2 (fl eCk [c, K.1])), (64, .int .i64 2), (65, .int .i64 j)])
          (fun j => [(128, .box (eCk c)), (224, .box (eCk K.1))]) (fun j => 2 - j) 0 ?_ ?_ ?_
        · omega
        · refine ⟨rfl, rfl, ?_, ?_⟩
          all_goals repeat' (first | exact True.intro | refine leF_cons rfl ?_ ?_ | refine leS_cons rfl ?_ ?_ | (show PLe _ _ _ _; conv => whnf) | (show SLe _ _ _ _; conv => whnf) | (show PLeL _ _ _ _; conv => whnf) | apply And.intro | rfl | exact Nat.le_refl _ | exact fun _ _ => rfl | exact rowEq0 _ _)
          all_goals exact fl_two eCk _ _
        · intro j hj
          conv => whnf
          refine ⟨trivial, fun hc2 => ?_, fun hc2 => ?_⟩
          · replace hc2 := dec_iff hc2
            simp only [if_true] at hc2
            conv => whnf
            refine ⟨_, fun _ => call13 _ raw ([c, K.1].getD ((j : Int)).toNat default), ?_⟩
            conv => whnf
            refine ⟨_, fun _ => call16 _ raw ([c, K.1].getD ((j : Int)).toNat default), ?_⟩
            conv => whnf
            refine ⟨rfl, ?_⟩
            conv => whnf
            generalize [c, K.1].getD ((j : Int)).toNat default = X
            refine ⟨?_, fun hc3 => absurd hc3 (by simp), fun _ => ?_⟩
            · (try conv => whnf)
              (repeat' (first | exact True.intro | exact fun _ h => h | refine inR64_of ?_ ?_ | apply And.intro | refine maxLen_ge ?_)) <;> (first | omega | (dsimp only; omega) | (dsimp only [List.length_cons, List.length_nil]; omega) | (intro hg; rw [hg]; rfl) | (intro hg hh; rw [hg, hh]; rfl) | (intro hg; simp [-List.getD_eq_getElem?_getD, -Int.default_eq_zero] at hg; first | omega | (refine inR64_of ?_ ?_ <;> omega) | (constructor <;> omega)) | (simp [-List.getD_eq_getElem?_getD, -Int.default_eq_zero]; done))
            conv => whnf
            refine ⟨_, fun _ => call17 time 40 (by omega) (by omega), ?_⟩
            conv => whnf
            refine ⟨?_, ?_⟩
            · (try conv => whnf)
              (repeat' (first | exact True.intro | exact fun _ h => h | refine inR64_of ?_ ?_ | apply And.intro | refine maxLen_ge ?_)) <;> (first | omega | (dsimp only; omega) | (dsimp only [List.length_cons, List.length_nil]; omega) | (intro hg; rw [hg]; rfl) | (intro hg hh; rw [hg, hh]; rfl) | (intro hg; simp [-List.getD_eq_getElem?_getD, -Int.default_eq_zero] at hg; first | omega | (refine inR64_of ?_ ?_ <;> omega) | (constructor <;> omega)) | (simp [-List.getD_eq_getElem?_getD, -Int.default_eq_zero]; done))
            refine LSem.loop (n := 161) mix (α := Nat) (fun m => m ≤ 2)
              (fun m => [(3, .int .i64 time), (4, .int .i64 a), (5, .int .i64 b), (8, .pt 128 0 0), (14, .pt 224 0 0), (55, .sl τ 1 2 (fun i => [[.sl τ 3 raw.length (fl eMe raw)], [.sl 0 3 MD.1.length (fl eMe MD.1)]].getD i [])), (56, .int .i64 2), (57, .int .i64 (0 : Nat)), (17, .sl τ 3 raw.length (fl eMe raw)), (63, .sl 0 4 2 (fl eCk [c, K.1])), (64, .int .i64 2), (65, .int .i64 j), (19, .pt 304 0 0), (79, .sl 0 1 2 (fl eInt [time, time % 40])), (80, .int .i64 2), (81, .int .i64 m)])
              (fun m => [(128, .box (eCk c)), (224, .box (eCk K.1)), (304, .box (eCk X))]) (fun m => 2 - m) 0 ?_ ?_ ?_
            · omega
            · refine ⟨rfl, rfl, ?_, ?_⟩
              all_goals repeat' (first | exact True.intro | refine leF_cons rfl ?_ ?_ | refine leS_cons rfl ?_ ?_ | (show PLe _ _ _ _; conv => whnf) | (show SLe _ _ _ _; conv => whnf) | (show PLeL _ _ _ _; conv => whnf) | apply And.intro | rfl | exact Nat.le_refl _ | exact fun _ _ => rfl | exact rowEq0 _ _)
              all_goals exact fl_two eInt _ _
            · intro m hm
              conv => whnf
              refine ⟨trivial, fun hc4 => ?_, fun hc4 => ?_⟩
              · replace hc4 := dec_iff hc4
                simp only [if_true] at hc4
                conv => whnf
                refine ⟨_, fun _ => call18 _ raw X ([time, time % 40].getD ((m : Int)).toNat default), ?_⟩
                conv => whnf
                refine ⟨_, fun _ => call19 _ raw X ([time, time % 40].getD ((m : Int)).toNat default), ?_⟩
                conv => whnf
                refine ⟨?_, fun hc5 => absurd hc5 (by simp), fun _ => ?_⟩
                · (try conv => whnf)
                  (repeat' (first | exact True.intro | exact fun _ h => h | refine inR64_of ?_ ?_ | apply And.intro | refine maxLen_ge ?_)) <;> (first | omega | (dsimp only; omega) | (dsimp only [List.length_cons, List.length_nil]; omega) | (intro hg; rw [hg]; rfl) | (intro hg hh; rw [hg, hh]; rfl) | (intro hg; simp [-List.getD_eq_getElem?_getD, -Int.default_eq_zero] at hg; first | omega | (refine inR64_of ?_ ?_ <;> omega) | (constructor <;> omega)) | (simp [-List.getD_eq_getElem?_getD, -Int.default_eq_zero]; done))
                conv => whnf
                refine ⟨?_, m + 1, by omega, by omega, rfl, rfl, ?_, ?_⟩
                · (try conv => whnf)
                  (repeat' (first | exact True.intro | exact fun _ h => h | refine inR64_of ?_ ?_ | apply And.intro | refine maxLen_ge ?_)) <;> (first | omega | (dsimp only; omega) | (dsimp only [List.length_cons, List.length_nil]; omega) | (intro hg; rw [hg]; rfl) | (intro hg hh; rw [hg, hh]; rfl) | (intro hg; simp [-List.getD_eq_getElem?_getD, -Int.default_eq_zero] at hg; first | omega | (refine inR64_of ?_ ?_ <;> omega) | (constructor <;> omega)) | (simp [-List.getD_eq_getElem?_getD, -Int.default_eq_zero]; done))
                all_goals repeat' (first | exact True.intro | refine leF_cons rfl ?_ ?_ | refine leS_cons rfl ?_ ?_ | (show PLe _ _ _ _; conv => whnf) | (show SLe _ _ _ _; conv => whnf) | (show PLeL _ _ _ _; conv => whnf) | apply And.intro | rfl | exact Nat.le_refl _ | exact fun _ _ => rfl | exact rowEq0 _ _)
                all_goals exact wr_lit _ (by omega)
              · conv => whnf
                refine ⟨_, fun _ => call17 a 30 (by omega) (by omega), ?_⟩
                conv => whnf
                refine ⟨_, fun _ => call17 a 30 (by omega) (by omega), ?_⟩
                conv => whnf
                refine ⟨_, fun _ => call17 b 30 (by omega) (by omega), ?_⟩
                conv => whnf
                have hQ : ∀ p ∈ [(a, b), (a % 30, IntKind.wrap .i64 (a % 30 + b % 30)), (a, IntKind.wrap .i64 (a + 400))], inR .i64 p.1 ∧ inR .i64 p.2 := by
                  intro p hp
                  simp only [List.mem_cons, List.not_mem_nil, or_false] at hp
                  rcases hp with rfl | rfl | rfl
                  · exact ⟨ha, hb⟩
                  · exact ⟨(inR64 _).2 (by dsimp only; omega), wrap_rng _⟩
                  · exact ⟨ha, wrap_rng _⟩
                refine ⟨?_, ?_⟩
                · (try conv => whnf)
                  (repeat' (first | exact True.intro | exact fun _ h => h | refine inR64_of ?_ ?_ | apply And.intro | refine maxLen_ge ?_)) <;> (first | omega | (dsimp only; omega) | (dsimp only [List.length_cons, List.length_nil]; omega) | (intro hg; rw [hg]; rfl) | (intro hg hh; rw [hg, hh]; rfl) | (intro hg; simp [-List.getD_eq_getElem?_getD, -Int.default_eq_zero] at hg; first | omega | (refine inR64_of ?_ ?_ <;> omega) | (constructor <;> omega)) | (simp [-List.getD_eq_getElem?_getD, -Int.default_eq_zero]; done))
                refine LSem.loop (n := 161) mix (α := Nat) (fun q => q ≤ 3)
                  (fun q => [(3, .int .i64 time), (4, .int .i64 a), (5, .int .i64 b), (8, .pt 128 0 0), (14, .pt 224 0 0), (55, .sl τ 1 2 (fun i => [[.sl τ 3 raw.length (fl eMe raw)], [.sl 0 3 MD.1.length (fl eMe MD.1)]].getD i [])), (56, .int .i64 2), (57, .int .i64 (0 : Nat)), (17, .sl τ 3 raw.length (fl eMe raw)), (63, .sl 0 4 2 (fl eCk [c, K.1])), (64, .int .i64 2), (65, .int .i64 j), (19, .pt 304 0 0), (123, .sl 0 2 3 (fl eP [(a, b), (a % 30, IntKind.wrap .i64 (a % 30 + b % 30)), (a, IntKind.wrap .i64 (a + 400))])), (124, .int .i64 3), (125, .int .i64 q)])
                  (fun q => [(128, .box (eCk c)), (224, .box (eCk K.1)), (304, .box (eCk X))]) (fun q => 3 - q) 0 ?_ ?_ ?_
                · omega
                · refine ⟨rfl, rfl, ?_, ?_⟩
                  all_goals repeat' (first | exact True.intro | refine leF_cons rfl ?_ ?_ | refine leS_cons rfl ?_ ?_ | (show PLe _ _ _ _; conv => whnf) | (show SLe _ _ _ _; conv => whnf) | (show PLeL _ _ _ _; conv => whnf) | apply And.intro | rfl | exact Nat.le_refl _ | exact fun _ _ => rfl | exact rowEq0 _ _)
                  all_goals exact fl_three eP (a, b) (a % 30, IntKind.wrap .i64 (a % 30 + b % 30)) (a, IntKind.wrap .i64 (a + 400))
                · intro q hq
                  conv => whnf
                  refine ⟨trivial, fun hc6 => ?_, fun hc6 => ?_⟩
                  · replace hc6 := dec_iff hc6
                    simp only [if_true] at hc6
                    have hr := hQ _ (getD_mem (i := ((q : Int)).toNat) (by simp only [List.length_cons, List.length_nil]; omega))
                    conv => whnf
                    refine ⟨_, fun _ => call20 _ raw X _ _ hr.1 hr.2, ?_⟩
                    conv => whnf
                    refine ⟨_, fun _ => call21 _ raw X _ _ hr.1 hr.2, ?_⟩
                    conv => whnf
                    refine ⟨_, fun _ => call22 _ _ (fillF raw X _ _).1 (fillF raw X _ _).1 (fillF_len _ _ _ _), ?_⟩
                    conv => whnf
                    refine ⟨?_, fun hc7 => ?_, fun _ => ?_⟩
                    · (try conv => whnf)
                      (repeat' (first | exact True.intro | exact fun _ h => h | refine inR64_of ?_ ?_ | apply And.intro | refine maxLen_ge ?_)) <;> (first | omega | (dsimp only; omega) | (dsimp only [List.length_cons, List.length_nil]; omega) | (intro hg; rw [hg]; rfl) | (intro hg hh; rw [hg, hh]; rfl) | (intro hg; simp [-List.getD_eq_getElem?_getD, -Int.default_eq_zero] at hg; first | omega | (refine inR64_of ?_ ?_ <;> omega) | (constructor <;> omega)) | (simp [-List.getD_eq_getElem?_getD, -Int.default_eq_zero]; done))
                    · rw [same_refl'] at hc7; simp at hc7
                    conv => whnf
                    refine ⟨?_, q + 1, by omega, by omega, rfl, rfl, ?_, ?_⟩
                    · (try conv => whnf)
                      (repeat' (first | exact True.intro | exact fun _ h => h | refine inR64_of ?_ ?_ | apply And.intro | refine maxLen_ge ?_)) <;> (first | omega | (dsimp only; omega) | (dsimp only [List.length_cons, List.length_nil]; omega) | (intro hg; rw [hg]; rfl) | (intro hg hh; rw [hg, hh]; rfl) | (intro hg; simp [-List.getD_eq_getElem?_getD, -Int.default_eq_zero] at hg; first | omega | (refine inR64_of ?_ ?_ <;> omega) | (constructor <;> omega)) | (simp [-List.getD_eq_getElem?_getD, -Int.default_eq_zero]; done))
                    all_goals repeat' (first | exact True.intro | refine leF_cons rfl ?_ ?_ | refine leS_cons rfl ?_ ?_ | (show PLe _ _ _ _; conv => whnf) | (show SLe _ _ _ _; conv => whnf) | (show PLeL _ _ _ _; conv => whnf) | apply And.intro | rfl | exact Nat.le_refl _ | exact fun _ _ => rfl | exact rowEq0 _ _)
                    all_goals exact wr_lit _ (by omega)
                  · conv => whnf
                    refine ⟨?_, j + 1, by omega, by omega, rfl, rfl, ?_, ?_⟩
                    · (try conv => whnf)
                      (repeat' (first | exact True.intro | exact fun _ h => h | refine inR64_of ?_ ?_ | apply And.intro | refine maxLen_ge ?_)) <;> (first | omega | (dsimp only; omega) | (dsimp only [List.length_cons, List.length_nil]; omega) | (intro hg; rw [hg]; rfl) | (intro hg hh; rw [hg, hh]; rfl) | (intro hg; simp [-List.getD_eq_getElem?_getD, -Int.default_eq_zero] at hg; first | omega | (refine inR64_of ?_ ?_ <;> omega) | (constructor <;> omega)) | (simp [-List.getD_eq_getElem?_getD, -Int.default_eq_zero]; done))
                    all_goals repeat' (first | exact True.intro | refine leF_cons rfl ?_ ?_ | refine leS_cons rfl ?_ ?_ | (show PLe _ _ _ _; conv => whnf) | (show SLe _ _ _ _; conv => whnf) | (show PLeL _ _ _ _; conv => whnf) | apply And.intro | rfl | exact Nat.le_refl _ | exact fun _ _ => rfl | exact rowEq0 _ _)
                    all_goals exact wr_lit _ (by omega)
          · conv => whnf
            refine ⟨?_, 0 + 1, by omega, by omega, rfl, rfl, ?_, ?_⟩
            · (try conv => whnf)
              (repeat' (first | exact True.intro | exact fun _ h => h | refine inR64_of ?_ ?_ | apply And.intro | refine maxLen_ge ?_)) <;> (first | omega | (dsimp only; omega) | (dsimp only [List.length_cons, List.length_nil]; omega) | (intro hg; rw [hg]; rfl) | (intro hg hh; rw [hg, hh]; rfl) | (intro hg; simp [-List.getD_eq_getElem?_getD, -Int.default_eq_zero] at hg; first | omega | (refine inR64_of ?_ ?_ <;> omega) | (constructor <;> omega)) | (simp [-List.getD_eq_getElem?_getD, -Int.default_eq_zero]; done))
            all_goals repeat' (first | exact True.intro | refine leF_cons rfl ?_ ?_ | refine leS_cons rfl ?_ ?_ | (show PLe _ _ _ _; conv => whnf) | (show SLe _ _ _ _; conv => whnf) | (show PLeL _ _ _ _; conv => whnf) | apply And.intro | rfl | exact Nat.le_refl _ | exact fun _ _ => rfl | exact rowEq0 _ _)
            all_goals rfl
      · conv => whnf
        refine ⟨trivial, fun _ => ?_, fun hc => absurd hc (by decide)⟩
        conv => whnf
        refine ⟨?_, ?_⟩
        · (try conv => whnf)
          (repeat' (first | exact True.intro | exact fun _ h => h | refine inR64_of ?_ ?_ | apply And.intro | refine maxLen_ge ?_)) <;> (first | omega | (dsimp only; omega) | (dsimp only [List.length_cons, List.length_nil]; omega) | (intro hg; rw [hg]; rfl) | (intro hg hh; rw [hg, hh]; rfl) | (intro hg; simp [-List.getD_eq_getElem?_getD, -Int.default_eq_zero] at hg; first | omega | (refine inR64_of ?_ ?_ <;> omega) | (constructor <;> omega)) | (simp [-List.getD_eq_getElem?_getD, -Int.default_eq_zero]; done))
        refine LSem.loop (n := 161) mix (α := Nat) (fun j => j ≤ 2)
          (fun j => [(3, .int .i64 time), (4, .int .i64 a), (5, .int .i64 b), (8, .pt 128 0 0), (14, .pt 224 0 0), (55, .sl τ 1 2 (fun i => [[.sl τ 3 raw.length (fl eMe raw)], [.sl 0 3 MD.1.length (fl eMe MD.1)]].getD i [])), (56, .int .i64 2), (57, .int .i64 (1 : Nat)), (17, .sl τ 3 MD.1.length (fl eMe MD.1)), (63, .sl 0 4 2 (fl eCk [c, K.1])), (64, .int .i64 2), (65, .int .i64 j)])
          (fun j => [(128, .box (eCk c)), (224, .box (eCk K.1))]) (fun j => 2 - j) 0 ?_ ?_ ?_
        · omega
        · refine ⟨rfl, rfl, ?_, ?_⟩
          all_goals repeat' (first | exact True.intro | refine leF_cons rfl ?_ ?_ | refine leS_cons rfl ?_ ?_ | (show PLe _ _ _ _; conv => whnf) | (show SLe _ _ _ _; conv => whnf) | (show PLeL _ _ _ _; conv => whnf) | apply And.intro | rfl | exact Nat.le_refl _ | exact fun _ _ => rfl | exact rowEq0 _ _)
          all_goals exact fl_two eCk _ _
        · intro j hj
          conv => whnf
          refine ⟨trivial, fun hc2 => ?_, fun hc2 => ?_⟩
          · replace hc2 := dec_iff hc2
            simp only [if_true] at hc2
            conv => whnf
            refine ⟨_, fun _ => call13 _ MD.1 ([c, K.1].getD ((j : Int)).toNat default), ?_⟩
            conv => whnf
            refine ⟨_, fun _ => call16 _ MD.1 ([c, K.1].getD ((j : Int)).toNat default), ?_⟩
            conv => whnf
            refine ⟨rfl, ?_⟩
            conv => whnf
            generalize [c, K.1].getD ((j : Int)).toNat default = X
            refine ⟨?_, fun hc3 => absurd hc3 (by simp), fun _ => ?_⟩
            · (try conv => whnf)
              (repeat' (first | exact True.intro | exact fun _ h => h | refine inR64_of ?_ ?_ | apply And.intro | refine maxLen_ge ?_)) <;> (first | omega | (dsimp only; omega) | (dsimp only [List.length_cons, List.length_nil]; omega) | (intro hg; rw [hg]; rfl) | (intro hg hh; rw [hg, hh]; rfl) | (intro hg; simp [-List.getD_eq_getElem?_getD, -Int.default_eq_zero] at hg; first | omega | (refine inR64_of ?_ ?_ <;> omega) | (constructor <;> omega)) | (simp [-List.getD_eq_getElem?_getD, -Int.default_eq_zero]; done))
            conv => whnf
            refine ⟨_, fun _ => call17 time 40 (by omega) (by omega), ?_⟩
            conv => whnf
            refine ⟨?_, ?_⟩
            · (try conv => whnf)
              (repeat' (first | exact True.intro | exact fun _ h => h | refine inR64_of ?_ ?_ | apply And.intro | refine maxLen_ge ?_)) <;> (first | omega | (dsimp only; omega) | (dsimp only [List.length_cons, List.length_nil]; omega) | (intro hg; rw [hg]; rfl) | (intro hg hh; rw [hg, hh]; rfl) | (intro hg; simp [-List.getD_eq_getElem?_getD, -Int.default_eq_zero] at hg; first | omega | (refine inR64_of ?_ ?_ <;> omega) | (constructor <;> omega)) | (simp [-List.getD_eq_getElem?_getD, -Int.default_eq_zero]; done))
            refine LSem.loop (n := 161) mix (α := Nat) (fun m => m ≤ 2)
              (fun m => [(3, .int .i64 time), (4, .int .i64 a), (5, .int .i64 b), (8, .pt 128 0 0), (14, .pt 224 0 0), (55, .sl τ 1 2 (fun i => [[.sl τ 3 raw.length (fl eMe raw)], [.sl 0 3 MD.1.length (fl eMe MD.1)]].getD i [])), (56, .int .i64 2), (57, .int .i64 (1 : Nat)), (17, .sl τ 3 MD.1.length (fl eMe MD.1)), (63, .sl 0 4 2 (fl eCk [c, K.1])), (64, .int .i64 2), (65, .int .i64 j), (19, .pt 304 0 0), (79, .sl 0 1 2 (fl eInt [time, time % 40])), (80, .int .i64 2), (81, .int .i64 m)])
              (fun m => [(128, .box (eCk c)), (224, .box (eCk K.1)), (304, .box (eCk X))]) (fun m => 2 - m) 0 ?_ ?_ ?_
            · omega
            · refine ⟨rfl, rfl, ?_, ?_⟩
              all_goals repeat' (first | exact True.intro | refine leF_cons rfl ?_ ?_ | refine leS_cons rfl ?_ ?_ | (show PLe _ _ _ _; conv => whnf) | (show SLe _ _ _ _; conv => whnf) | (show PLeL _ _ _ _; conv => whnf) | apply And.intro | rfl | exact Nat.le_refl _ | exact fun _ _ => rfl | exact rowEq0 _ _)
              all_goals exact fl_two eInt _ _
            · intro m hm
              conv => whnf
              refine ⟨trivial, fun hc4 => ?_, fun hc4 => ?_⟩
              · replace hc4 := dec_iff hc4
                simp only [if_true] at hc4
                conv => whnf
                refine ⟨_, fun _ => call18 _ MD.1 X ([time, time % 40].getD ((m : Int)).toNat default), ?_⟩
                conv => whnf
                refine ⟨_, fun _ => call19 _ MD.1 X ([time, time % 40].getD ((m : Int)).toNat default), ?_⟩
                conv => whnf
                refine ⟨?_, fun hc5 => absurd hc5 (by simp), fun _ => ?_⟩
                · (try conv => whnf)
                  (repeat' (first | exact True.intro | exact fun _ h => h | refine inR64_of ?_ ?_ | apply And.intro | refine maxLen_ge ?_)) <;> (first | omega | (dsimp only; omega) | (dsimp only [List.length_cons, List.length_nil]; omega) | (intro hg; rw [hg]; rfl) | (intro hg hh; rw [hg, hh]; rfl) | (intro hg; simp [-List.getD_eq_getElem?_getD, -Int.default_eq_zero] at hg; first | omega | (refine inR64_of ?_ ?_ <;> omega) | (constructor <;> omega)) | (simp [-List.getD_eq_getElem?_getD, -Int.default_eq_zero]; done))
                conv => whnf
                refine ⟨?_, m + 1, by omega, by omega, rfl, rfl, ?_, ?_⟩
                · (try conv => whnf)
                  (repeat' (first | exact True.intro | exact fun _ h => h | refine inR64_of ?_ ?_ | apply And.intro | refine maxLen_ge ?_)) <;> (first | omega | (dsimp only; omega) | (dsimp only [List.length_cons, List.length_nil]; omega) | (intro hg; rw [hg]; rfl) | (intro hg hh; rw [hg, hh]; rfl) | (intro hg; simp [-List.getD_eq_getElem?_getD, -Int.default_eq_zero] at hg; first | omega | (refine inR64_of ?_ ?_ <;> omega) | (constructor <;> omega)) | (simp [-List.getD_eq_getElem?_getD, -Int.default_eq_zero]; done))
                all_goals repeat' (first | exact True.intro | refine leF_cons rfl ?_ ?_ | refine leS_cons rfl ?_ ?_ | (show PLe _ _ _ _; conv => whnf) | (show SLe _ _ _ _; conv => whnf) | (show PLeL _ _ _ _; conv => whnf) | apply And.intro | rfl | exact Nat.le_refl _ | exact fun _ _ => rfl | exact rowEq0 _ _)
                all_goals exact wr_lit _ (by omega)
              · conv => whnf
                refine ⟨_, fun _ => call17 a 30 (by omega) (by omega), ?_⟩
                conv => whnf
                refine ⟨_, fun _ => call17 a 30 (by omega) (by omega), ?_⟩
                conv => whnf
                refine ⟨_, fun _ => call17 b 30 (by omega) (by omega), ?_⟩
                conv => whnf
                have hQ : ∀ p ∈ [(a, b), (a % 30, IntKind.wrap .i64 (a % 30 + b % 30)), (a, IntKind.wrap .i64 (a + 400))], inR .i64 p.1 ∧ inR .i64 p.2 := by
                  intro p hp
                  simp only [List.mem_cons, List.not_mem_nil, or_false] at hp
                  rcases hp with rfl | rfl | rfl
                  · exact ⟨ha, hb⟩
                  · exact ⟨(inR64 _).2 (by dsimp only; omega), wrap_rng _⟩
                  · exact ⟨ha, wrap_rng _⟩
                refine ⟨?_, ?_⟩
                · (try conv => whnf)
                  (repeat' (first | exact True.intro | exact fun _ h => h | refine inR64_of ?_ ?_ | apply And.intro | refine maxLen_ge ?_)) <;> (first | omega | (dsimp only; omega) | (dsimp only [List.length_cons, List.length_nil]; omega) | (intro hg; rw [hg]; rfl) | (intro hg hh; rw [hg, hh]; rfl) | (intro hg; simp [-List.getD_eq_getElem?_getD, -Int.default_eq_zero] at hg; first | omega | (refine inR64_of ?_ ?_ <;> omega) | (constructor <;> omega)) | (simp [-List.getD_eq_getElem?_getD, -Int.default_eq_zero]; done))
                refine LSem.loop (n := 161) mix (α := Nat) (fun q => q ≤ 3)
                  (fun q => [(3, .int .i64 time), (4, .int .i64 a), (5, .int .i64 b), (8, .pt 128 0 0), (14, .pt 224 0 0), (55, .sl τ 1 2 (fun i => [[.sl τ 3 raw.length (fl eMe raw)], [.sl 0 3 MD.1.length (fl eMe MD.1)]].getD i [])), (56, .int .i64 2), (57, .int .i64 (1 : Nat)), (17, .sl τ 3 MD.1.length (fl eMe MD.1)), (63, .sl 0 4 2 (fl eCk [c, K.1])), (64, .int .i64 2), (65, .int .i64 j), (19, .pt 304 0 0), (123, .sl 0 2 3 (fl eP [(a, b), (a % 30, IntKind.wrap .i64 (a % 30 + b % 30)), (a, IntKind.wrap .i64 (a + 400))])), (124, .int .i64 3), (125, .int .i64 q)])
                  (fun q => [(128, .box (eCk c)), (224, .box (eCk K.1)), (304, .box (eCk X))]) (fun q => 3 - q) 0 ?_ ?_ ?_
                · omega
                · refine ⟨rfl, rfl, ?_, ?_⟩
                  all_goals repeat' (first | exact True.intro | refine leF_cons rfl ?_ ?_ | refine leS_cons rfl ?_ ?_ | (show PLe _ _ _ _; conv => whnf) | (show SLe _ _ _ _; conv => whnf) | (show PLeL _ _ _ _; conv => whnf) | apply And.intro | rfl | exact Nat.le_refl _ | exact fun _ _ => rfl | exact rowEq0 _ _)
                  all_goals exact fl_three eP (a, b) (a % 30, IntKind.wrap .i64 (a % 30 + b % 30)) (a, IntKind.wrap .i64 (a + 400))
                · intro q hq
                  conv => whnf
                  refine ⟨trivial, fun hc6 => ?_, fun hc6 => ?_⟩
                  · replace hc6 := dec_iff hc6
                    simp only [if_true] at hc6
                    have hr := hQ _ (getD_mem (i := ((q : Int)).toNat) (by simp only [List.length_cons, List.length_nil]; omega))
                    conv => whnf
                    refine ⟨_, fun _ => call20 _ MD.1 X _ _ hr.1 hr.2, ?_⟩
                    conv => whnf
                    refine ⟨_, fun _ => call21 _ MD.1 X _ _ hr.1 hr.2, ?_⟩
                    conv => whnf
                    refine ⟨_, fun _ => call22 _ _ (fillF MD.1 X _ _).1 (fillF MD.1 X _ _).1 (fillF_len _ _ _ _), ?_⟩
                    conv => whnf
                    refine ⟨?_, fun hc7 => ?_, fun _ => ?_⟩
                    · (try conv => whnf)
                      (repeat' (first | exact True.intro | exact fun _ h => h | refine inR64_of ?_ ?_ | apply And.intro | refine maxLen_ge ?_)) <;> (first | omega | (dsimp only; omega) | (dsimp only [List.length_cons, List.length_nil]; omega) | (intro hg; rw [hg]; rfl) | (intro hg hh; rw [hg, hh]; rfl) | (intro hg; simp [-List.getD_eq_getElem?_getD, -Int.default_eq_zero] at hg; first | omega | (refine inR64_of ?_ ?_ <;> omega) | (constructor <;> omega)) | (simp [-List.getD_eq_getElem?_getD, -Int.default_eq_zero]; done))
                    · rw [same_refl'] at hc7; simp at hc7
                    conv => whnf
                    refine ⟨?_, q + 1, by omega, by omega, rfl, rfl, ?_, ?_⟩
                    · (try conv => whnf)
                      (repeat' (first | exact True.intro | exact fun _ h => h | refine inR64_of ?_ ?_ | apply And.intro | refine maxLen_ge ?_)) <;> (first | omega | (dsimp only; omega) | (dsimp only [List.length_cons, List.length_nil]; omega) | (intro hg; rw [hg]; rfl) | (intro hg hh; rw [hg, hh]; rfl) | (intro hg; simp [-List.getD_eq_getElem?_getD, -Int.default_eq_zero] at hg; first | omega | (refine inR64_of ?_ ?_ <;> omega) | (constructor <;> omega)) | (simp [-List.getD_eq_getElem?_getD, -Int.default_eq_zero]; done))
                    all_goals repeat' (first | exact True.intro | refine leF_cons rfl ?_ ?_ | refine leS_cons rfl ?_ ?_ | (show PLe _ _ _ _; conv => whnf) | (show SLe _ _ _ _; conv => whnf) | (show PLeL _ _ _ _; conv => whnf) | apply And.intro | rfl | exact Nat.le_refl _ | exact fun _ _ => rfl | exact rowEq0 _ _)
                    all_goals exact wr_lit _ (by omega)
                  · conv => whnf
                    refine ⟨?_, j + 1, by omega, by omega, rfl, rfl, ?_, ?_⟩
                    · (try conv => whnf)
                      (repeat' (first | exact True.intro | exact fun _ h => h | refine inR64_of ?_ ?_ | apply And.intro | refine maxLen_ge ?_)) <;> (first | omega | (dsimp only; omega) | (dsimp only [List.length_cons, List.length_nil]; omega) | (intro hg; rw [hg]; rfl) | (intro hg hh; rw [hg, hh]; rfl) | (intro hg; simp [-List.getD_eq_getElem?_getD, -Int.default_eq_zero] at hg; first | omega | (refine inR64_of ?_ ?_ <;> omega) | (constructor <;> omega)) | (simp [-List.getD_eq_getElem?_getD, -Int.default_eq_zero]; done))
                    all_goals repeat' (first | exact True.intro | refine leF_cons rfl ?_ ?_ | refine leS_cons rfl ?_ ?_ | (show PLe _ _ _ _; conv => whnf) | (show SLe _ _ _ _; conv => whnf) | (show PLeL _ _ _ _; conv => whnf) | apply And.intro | rfl | exact Nat.le_refl _ | exact fun _ _ => rfl | exact rowEq0 _ _)
                    all_goals exact wr_lit _ (by omega)
          · conv => whnf
            refine ⟨?_, 1 + 1, by omega, by omega, rfl, rfl, ?_, ?_⟩
            · (try conv => whnf)
              (repeat' (first | exact True.intro | exact fun _ h => h | refine inR64_of ?_ ?_ | apply And.intro | refine maxLen_ge ?_)) <;> (first | omega | (dsimp only; omega) | (dsimp only [List.length_cons, List.length_nil]; omega) | (intro hg; rw [hg]; rfl) | (intro hg hh; rw [hg, hh]; rfl) | (intro hg; simp [-List.getD_eq_getElem?_getD, -Int.default_eq_zero] at hg; first | omega | (refine inR64_of ?_ ?_ <;> omega) | (constructor <;> omega)) | (simp [-List.getD_eq_getElem?_getD, -Int.default_eq_zero]; done))
            all_goals repeat' (first | exact True.intro | refine leF_cons rfl ?_ ?_ | refine leS_cons rfl ?_ ?_ | (show PLe _ _ _ _; conv => whnf) | (show SLe _ _ _ _; conv => whnf) | (show PLeL _ _ _ _; conv => whnf) | apply And.intro | rfl | exact Nat.le_refl _ | exact fun _ _ => rfl | exact rowEq0 _ _)
            all_goals rfl
      · conv => whnf
        refine ⟨trivial, fun hc => absurd hc (by decide), fun _ => ?_⟩
        conv => whnf
        refine ⟨?_, [], ?_⟩
        · (try conv => whnf)
          (repeat' (first | exact True.intro | exact fun _ h => h | refine inR64_of ?_ ?_ | apply And.intro | refine maxLen_ge ?_)) <;> (first | omega | (dsimp only; omega) | (dsimp only [List.length_cons, List.length_nil]; omega) | (intro hg; rw [hg]; rfl) | (intro hg hh; rw [hg, hh]; rfl) | (intro hg; simp [-List.getD_eq_getElem?_getD, -Int.default_eq_zero] at hg; first | omega | (refine inR64_of ?_ ?_ <;> omega) | (constructor <;> omega)) | (simp [-List.getD_eq_getElem?_getD, -Int.default_eq_zero]; done))
        conv => whnf
        refine ⟨rfl, ?_, trivial, trivial⟩
        all_goals repeat' (first | exact True.intro | refine leF_cons rfl ?_ ?_ | refine leS_cons rfl ?_ ?_ | (show PLe _ _ _ _; conv => whnf) | (show SLe _ _ _ _; conv => whnf) | (show PLeL _ _ _ _; conv => whnf) | apply And.intro | rfl | exact Nat.le_refl _ | exact fun _ _ => rfl | exact rowEq0 _ _)

end Pv
end Go.Proofs.Ytiknpkadlckmjaa
