/- LAW 08, THE WALKS, 3: what is filled. -/
import Derived.Test.YtogoplhikmmggaaQ2
set_option linter.unusedSimpArgs false
set_option linter.unusedVariables false
namespace Go.Proofs.Ytogoplhikmmggaa
namespace Pv
def c16L1 : C := (.seq (.reg [⟨(some 31), 496, none, .bi false .lss (.t 30) (.t 29)⟩])
  (.seq (.cond (.t 31) .skip (.exit 0))
  (.seq (.block 1 (.seq (.reg [⟨(some 32), 512, none, .mv (.t 30)⟩,
    ⟨(some 10), 160, none, .mv (.t 32)⟩])
  (.seq (.seq (.reg [⟨(some 33), 528, none, .mv (.t 1)⟩,
    ⟨(some 34), 544, none, .mv (.t 10)⟩,
    ⟨(some 35), 560, none, .ia 1 (.t 33) (.t 34)⟩,
    ⟨(some 36), 576, none, .ld 1 false (.t 35)⟩])
  (.cond (.t 36) (.seq (.reg [⟨(some 37), 592, none, .mv (.t 10)⟩,
    ⟨(some 9), 144, none, .mv (.t 37)⟩])
  (.exit 1)) .skip))
  (.seq (.reg [⟨(some 38), 608, none, .mv (.t 1)⟩,
    ⟨(some 39), 624, none, .mv (.t 10)⟩,
    ⟨(some 40), 640, none, .slc 1 (.t 38) (some (.t 39)) none⟩,
    ⟨(some 41), 656, none, .call (.c (.fn (.func 35) [] [])) [(.t 40), (.c (.bool true))]⟩,
    ⟨(some 11), 176, none, .mv (.t 41)⟩])
  (.block 2 (.seq (.reg [⟨(some 72), 1152, none, .mv (.t 9)⟩,
    ⟨(some 73), 1168, none, .bi false .lss (.t 72) (.c (.int .i64 0))⟩,
    ⟨(some 71), 1136, none, .mv (.t 73)⟩])
  (.cond (.t 71) (.reg [⟨(some 74), 1184, none, .mv (.t 8)⟩,
    ⟨(some 75), 1200, none, .mv (.t 10)⟩,
    ⟨(some 76), 1216, none, .mv (.t 2)⟩,
    ⟨(some 77), 1232, none, .ia 1 (.t 74) (.t 75)⟩,
    ⟨none, 0, none, .st 1 (.t 77) (.t 76)⟩]) (.seq (.reg [⟨(some 79), 1264, none, .mv (.t 11)⟩,
    ⟨(some 80), 1280, none, .bi false .lss (.t 79) (.c (.int .i64 0))⟩,
    ⟨(some 78), 1248, none, .mv (.t 80)⟩])
  (.cond (.t 78) (.reg [⟨(some 81), 1296, none, .mv (.t 8)⟩,
    ⟨(some 82), 1312, none, .mv (.t 10)⟩,
    ⟨(some 83), 1328, none, .mv (.t 0)⟩,
    ⟨(some 84), 1344, none, .mv (.t 9)⟩,
    ⟨(some 85), 1360, none, .ia 1 (.t 83) (.t 84)⟩,
    ⟨(some 86), 1376, none, .ld 1 false (.t 85)⟩,
    ⟨(some 87), 1392, none, .ia 1 (.t 81) (.t 82)⟩,
    ⟨none, 0, none, .st 1 (.t 87) (.t 86)⟩]) (.drw [⟨(some 42), 672, none, .mv (.t 8)⟩,
    ⟨(some 43), 688, none, .mv (.t 10)⟩,
    ⟨(some 44), 704, none, .mv (.t 0)⟩,
    ⟨(some 45), 720, none, .mv (.t 9)⟩,
    ⟨(some 46), 736, none, .ia 1 (.t 44) (.t 45)⟩,
    ⟨(some 47), 752, none, .ld 1 false (.t 46)⟩,
    ⟨(some 48), 768, none, .mv (.t 0)⟩,
    ⟨(some 49), 784, none, .mv (.t 10)⟩,
    ⟨(some 50), 800, none, .mv (.t 11)⟩,
    ⟨(some 51), 816, none, .bi false .add (.t 49) (.t 50)⟩,
    ⟨(some 52), 832, none, .ia 1 (.t 48) (.t 51)⟩,
    ⟨(some 53), 848, none, .ld 1 false (.t 52)⟩,
    ⟨(some 54), 864, none, .mv (.t 0)⟩,
    ⟨(some 55), 880, none, .mv (.t 9)⟩,
    ⟨(some 56), 896, none, .ia 1 (.t 54) (.t 55)⟩,
    ⟨(some 57), 912, none, .ld 1 false (.t 56)⟩,
    ⟨(some 58), 928, none, .bi false .sub (.t 53) (.t 57)⟩,
    ⟨(some 59), 944, none, .mv (.t 10)⟩,
    ⟨(some 60), 960, none, .mv (.t 9)⟩,
    ⟨(some 61), 976, none, .bi false .sub (.t 59) (.t 60)⟩,
    ⟨(some 62), 992, none, .bi false .mul (.t 58) (.t 61)⟩,
    ⟨(some 63), 1008, none, .mv (.t 10)⟩,
    ⟨(some 64), 1024, none, .mv (.t 11)⟩,
    ⟨(some 65), 1040, none, .bi false .add (.t 63) (.t 64)⟩,
    ⟨(some 66), 1056, none, .mv (.t 9)⟩,
    ⟨(some 67), 1072, none, .bi false .sub (.t 65) (.t 66)⟩,
    ⟨(some 68), 1088, none, .call (.c (.fn (.func 36) [] [])) [(.t 62), (.t 67)]⟩,
    ⟨(some 69), 1104, none, .bi false .add (.t 47) (.t 68)⟩,
    ⟨(some 70), 1120, none, .ia 1 (.t 42) (.t 43)⟩,
    ⟨none, 0, none, .st 1 (.t 70) (.t 69)⟩]
    [(0, 1, 42), (0, 2, 42), (0, 3, 42), (0, 4, 42), (0, 5, 42), (0, 6, 42), (0, 7, 42), (0, 8, 42), (0, 9, 42), (0, 10, 42), (0, 11, 42), (0, 12, 42), (0, 13, 42), (0, 14, 42), (0, 15, 42), (0, 16, 42), (0, 17, 42), (0, 18, 42), (0, 19, 42), (0, 20, 42), (0, 21, 42), (0, 22, 42), (0, 23, 42), (0, 24, 42), (0, 25, 42), (0, 26, 42), (0, 27, 42), (1, 2, 43), (1, 3, 43), (1, 4, 43), (1, 5, 43), (1, 6, 43), (1, 7, 43), (1, 8, 43), (1, 9, 43), (1, 10, 43), (1, 11, 43), (1, 12, 43), (1, 13, 43), (1, 14, 43), (1, 15, 43), (1, 16, 43), (1, 17, 43), (1, 18, 43), (1, 19, 43), (1, 20, 43), (1, 21, 43), (1, 22, 43), (1, 23, 43), (1, 24, 43), (1, 25, 43), (1, 26, 43), (1, 27, 43), (2, 3, 44), (2, 6, 44), (2, 7, 44), (2, 8, 44), (2, 9, 44), (2, 10, 44), (2, 11, 44), (2, 12, 44), (2, 13, 44), (2, 14, 44), (2, 15, 44), (2, 16, 44), (2, 17, 44), (2, 18, 44), (2, 19, 44), (2, 20, 44), (2, 21, 44), (2, 22, 44), (2, 23, 44), (2, 24, 44), (2, 25, 44), (2, 26, 44), (3, 6, 45), (3, 7, 45), (3, 8, 45), (3, 9, 45), (3, 10, 45), (3, 11, 45), (3, 12, 45), (3, 13, 45), (3, 14, 45), (3, 15, 45), (3, 16, 45), (3, 17, 45), (3, 18, 45), (3, 19, 45), (3, 20, 45), (3, 21, 45), (3, 22, 45), (3, 23, 45), (3, 24, 45), (3, 25, 45), (3, 26, 45), (4, 6, 46), (4, 7, 46), (4, 8, 46), (4, 9, 46), (4, 10, 46), (4, 11, 46), (4, 12, 46), (4, 13, 46), (4, 14, 46), (4, 15, 46), (4, 16, 46), (4, 17, 46), (4, 18, 46), (4, 19, 46), (4, 20, 46), (4, 21, 46), (4, 22, 46), (4, 23, 46), (4, 24, 46), (4, 25, 46), (4, 26, 46), (5, 6, 47), (5, 7, 47), (5, 8, 47), (5, 9, 47), (5, 10, 47), (5, 11, 47), (5, 12, 47), (5, 13, 47), (5, 14, 47), (5, 15, 47), (5, 16, 47), (5, 17, 47), (5, 18, 47), (5, 19, 47), (5, 20, 47), (5, 21, 47), (5, 22, 47), (5, 23, 47), (5, 24, 47), (5, 25, 47), (5, 26, 47), (6, 7, 48), (6, 8, 48), (6, 9, 48), (6, 12, 48), (6, 13, 48), (6, 14, 48), (6, 15, 48), (6, 17, 48), (6, 18, 48), (6, 19, 48), (6, 21, 48), (6, 22, 48), (6, 23, 48), (6, 24, 48), (6, 25, 48), (7, 8, 49), (7, 12, 49), (7, 13, 49), (7, 14, 49), (7, 15, 49), (7, 17, 49), (7, 18, 49), (7, 19, 49), (7, 21, 49), (7, 22, 49), (7, 23, 49), (7, 24, 49), (7, 25, 49), (8, 12, 50), (8, 13, 50), (8, 14, 50), (8, 15, 50), (8, 17, 50), (8, 18, 50), (8, 19, 50), (8, 21, 50), (8, 22, 50), (8, 23, 50), (8, 24, 50), (8, 25, 50), (9, 12, 51), (9, 13, 51), (9, 14, 51), (9, 15, 51), (9, 17, 51), (9, 18, 51), (9, 19, 51), (9, 21, 51), (9, 22, 51), (9, 23, 51), (9, 24, 51), (9, 25, 51), (10, 12, 52), (10, 13, 52), (10, 14, 52), (10, 15, 52), (10, 17, 52), (10, 18, 52), (10, 19, 52), (10, 21, 52), (10, 22, 52), (10, 23, 52), (10, 24, 52), (10, 25, 52), (11, 12, 53), (11, 13, 53), (11, 14, 53), (11, 15, 53), (11, 17, 53), (11, 18, 53), (11, 19, 53), (11, 21, 53), (11, 22, 53), (11, 23, 53), (11, 24, 53), (11, 25, 53), (12, 13, 54), (12, 17, 54), (12, 18, 54), (12, 19, 54), (12, 21, 54), (12, 22, 54), (12, 23, 54), (12, 24, 54), (12, 25, 54), (13, 17, 55), (13, 18, 55), (13, 19, 55), (13, 21, 55), (13, 22, 55), (13, 23, 55), (13, 24, 55), (13, 25, 55), (14, 17, 56), (14, 18, 56), (14, 19, 56), (14, 21, 56), (14, 22, 56), (14, 23, 56), (14, 24, 56), (14, 25, 56), (15, 17, 57), (15, 18, 57), (15, 19, 57), (15, 21, 57), (15, 22, 57), (15, 23, 57), (15, 24, 57), (15, 25, 57), (16, 17, 58), (16, 18, 58), (16, 19, 58), (16, 21, 58), (16, 22, 58), (16, 23, 58), (16, 24, 58), (16, 25, 58), (17, 18, 59), (17, 21, 59), (17, 22, 59), (17, 23, 59), (17, 24, 59), (17, 25, 59), (18, 21, 60), (18, 22, 60), (18, 23, 60), (18, 24, 60), (18, 25, 60), (19, 21, 61), (19, 22, 61), (19, 23, 61), (19, 24, 61), (19, 25, 61), (20, 21, 62), (20, 22, 62), (20, 23, 62), (20, 24, 62), (20, 25, 62), (21, 22, 63), (21, 24, 63), (22, 24, 64), (23, 24, 65)]))))))))))
  (.reg [⟨(some 88), 1408, none, .bi false .add (.t 30) (.c (.int .i64 1))⟩,
    ⟨(some 30), 480, none, .mv (.t 88)⟩]))))
def c16 : C := (.seq (.reg [⟨(some 6), 96, none, .mv (.c (.nil 1))⟩,
    ⟨(some 7), 112, none, .mv (.c (.int .i64 0))⟩])
  (.seq (.seq (.reg [⟨(some 12), 192, none, .mv (.t 0)⟩,
    ⟨(some 13), 208, none, .len (.t 12)⟩,
    ⟨(some 14), 224, none, .mv (.t 1)⟩,
    ⟨(some 15), 240, none, .len (.t 14)⟩,
    ⟨(some 16), 256, none, .bi false .neq (.t 13) (.t 15)⟩])
  (.cond (.t 16) (.seq (.reg [⟨(some 6), 96, none, .mv (.c (.nil 1))⟩,
    ⟨(some 7), 112, none, .mv (.c (.int .i64 3))⟩])
  .ret) .skip))
  (.seq (.seq (.reg [⟨(some 17), 272, none, .mv (.t 0)⟩,
    ⟨(some 18), 288, none, .call (.c (.fn (.func 33) [] [])) [(.t 17)]⟩,
    ⟨(some 19), 304, none, .un false .not (.t 18)⟩,
    ⟨(some 20), 320, none, .mv (.t 19)⟩,
    ⟨(some 21), 336, (some (20, false)), .mv (.t 2)⟩,
    ⟨(some 22), 352, (some (20, false)), .bs 3 1 [(.t 21)]⟩,
    ⟨(some 23), 368, (some (20, false)), .call (.c (.fn (.func 33) [] [])) [(.t 22)]⟩,
    ⟨(some 24), 384, (some (20, false)), .un false .not (.t 23)⟩,
    ⟨(some 25), 400, none, .pick (.t 20) (.c (.bool true)) (.t 24)⟩])
  (.cond (.t 25) (.seq (.reg [⟨(some 6), 96, none, .mv (.c (.nil 1))⟩,
    ⟨(some 7), 112, none, .mv (.c (.int .i64 1))⟩])
  .ret) .skip))
  (.seq (.reg [⟨(some 26), 416, none, .mv (.t 0)⟩,
    ⟨(some 27), 432, none, .call (.c (.fn (.func 34) [] [])) [(.t 26)]⟩,
    ⟨(some 8), 128, none, .mv (.t 27)⟩])
  (.seq (.reg [⟨(some 9), 144, none, .mv (.c (.int .i64 (-1)))⟩])
  (.seq (.seq (.reg [⟨(some 28), 448, none, .mv (.t 0)⟩,
    ⟨(some 29), 464, none, .len (.t 28)⟩,
    ⟨(some 30), 480, none, .mv (.c (.int .i64 0))⟩])
  (.block 0 (.loop c16L1)))
  (.seq (.reg [⟨(some 89), 1424, none, .mv (.t 8)⟩,
    ⟨(some 6), 96, none, .mv (.t 89)⟩,
    ⟨(some 7), 112, none, .mv (.c (.int .i64 0))⟩])
  .ret)))))))
theorem fits16 : fits Try.prog false Try.f16 3 90 [(6, none), (7, none)] = some c16.er := by kernel_rfl

/-- The last good place below n; -1: none. -/
def prevG (g : List Bool) : Nat → Int
  | 0 => -1
  | n + 1 => if g.getD n default = true then (n : Int) else prevG g n
theorem prevG_lt (g : List Bool) : ∀ n, -1 ≤ prevG g n ∧ prevG g n < n
  | 0 => by unfold prevG; omega
  | n + 1 => by
    have := prevG_lt g n
    unfold prevG; split <;> omega
theorem prevG_good (g : List Bool) : ∀ n, 0 ≤ prevG g n → g.getD (prevG g n).toNat default = true
  | 0, h => by unfold prevG at h; omega
  | n + 1, h => by
    unfold prevG at h ⊢
    split at h
    · rename_i hg; rw [if_pos hg]; simpa using hg
    · rename_i hg; rw [if_neg hg]; exact prevG_good g n h
theorem prevG_none (g : List Bool) : ∀ n j, prevG g n < j → j < n → 0 ≤ j → g.getD j.toNat default = false
  | 0, j, _, _, _ => by omega
  | n + 1, j, h, h2, h0 => by
    unfold prevG at h
    split at h
    · omega
    · rename_i hg
      by_cases e : j = n
      · subst e; simpa using hg
      · exact prevG_none g n j h (by omega) h0
def nextG (g : List Bool) (i : Nat) : Int := ixG (fun b => true == b) (g.drop i) 0 (g.drop i).length
theorem nextG_pos {g : List Bool} {i : Nat} (h : 0 ≤ nextG g i) : ∃ k : Nat, nextG g i = k ∧ i + k < g.length ∧ g.getD (i + k) default = true ∧ ∀ j, i ≤ j → j < i + k → g.getD j default = false := by
  obtain ⟨k, h1, _, h3, h4, h5⟩ := ixG_pos h
  rw [List.length_drop] at h3
  have hget : ∀ j, (g.drop i).getD j default = g.getD (i + j) default := fun j => by simp [List.getD_eq_getElem?_getD]
  refine ⟨k, h1, by omega, ?_, fun j h6 h7 => ?_⟩
  · have := hget k
    rw [← this]
    have h4' : (true == (g.drop i).getD k default) = true := h4
    simpa using h4'
  · have h8 : (true == (g.drop i).getD (j - i) default) = false := h5 (j - i) (by omega) (by omega)
    rw [hget, show i + (j - i) = j by omega] at h8
    simpa using h8
theorem nextG_neg {g : List Bool} {i : Nat} (h : nextG g i < 0) : ∀ j, i ≤ j → j < g.length → g.getD j default = false := fun j h6 h7 => by
  have hget : ∀ j, (g.drop i).getD j default = g.getD (i + j) default := fun j => by simp [List.getD_eq_getElem?_getD]
  have h8 : (true == (g.drop i).getD (j - i) default) = false := ixG_neg.1 h (j - i) (by omega) (by rw [List.length_drop]; omega)
  rw [hget, show i + (j - i) = j by omega] at h8
  simpa using h8
/-- What stands at a place that is not good. -/
def fv (v : List Int) (g : List Bool) (last : Int) (i : Nat) : Int :=
  if prevG g i < 0 then last else if nextG g i < 0 then v.getD (prevG g i).toNat default
  else v.getD (prevG g i).toNat default + ((v.getD ((i : Int) + nextG g i).toNat default - v.getD (prevG g i).toNat default) * ((i : Int) - prevG g i)) / ((i : Int) + nextG g i - prevG g i)
def fillL (v : List Int) (g : List Bool) (last : Int) (n : Nat) : List Int := (List.range v.length).map fun i => if i < n ∧ g.getD i default = false then fv v g last i else v.getD i default
theorem fillL_len (v : List Int) (g : List Bool) (last : Int) (n : Nat) : (fillL v g last n).length = v.length := by simp [fillL]
theorem fillL_get {v : List Int} {g : List Bool} {last : Int} {n i : Nat} (h : i < v.length) : (fillL v g last n).getD i default = if i < n ∧ g.getD i default = false then fv v g last i else v.getD i default := by
  unfold fillL
  rw [List.getD_eq_getElem?_getD, List.getElem?_map, List.getElem?_range h]; rfl
def fillF (v : List Int) (g : List Bool) (last : Int) : List Int × Int :=
  if v.length ≠ g.length then ([], 3) else if flowsF v = false then ([], 1) else if flowsF [last] = false then ([], 1) else (fillL v g last v.length, 0)

theorem mul_abs {a b A B : Int} (h1 : -A ≤ a) (h2 : a ≤ A) (h3 : 0 ≤ b) (h4 : b ≤ B) : -(A * B) ≤ a * b ∧ a * b ≤ A * B := by
  have hA : 0 ≤ A := by omega
  have h5 : a * b ≤ A * b := Int.mul_le_mul_of_nonneg_right h2 h3
  have h6 : -A * b ≤ a * b := Int.mul_le_mul_of_nonneg_right h1 h3
  have h7 : A * b ≤ A * B := Int.mul_le_mul_of_nonneg_left h4 hA
  rw [Int.neg_mul] at h6
  omega
theorem ediv_abs {a b : Int} (hb : 0 < b) : -(a.natAbs : Int) ≤ a / b ∧ a / b ≤ (a.natAbs : Int) := by
  have h1 : a / b ≤ a.natAbs := Int.ediv_le_of_le_mul hb (by
    have : (a.natAbs : Int) * 1 ≤ (a.natAbs : Int) * b := Int.mul_le_mul_of_nonneg_left (by omega) (by omega)
    omega)
  have h2 : -(a.natAbs : Int) ≤ a / b := (Int.le_ediv_iff_mul_le hb).2 (by
    have : (a.natAbs : Int) * 1 ≤ (a.natAbs : Int) * b := Int.mul_le_mul_of_nonneg_left (by omega) (by omega)
    rw [Int.neg_mul]; omega)
  exact ⟨h2, h1⟩
theorem fl_one {α : Type} [Inhabited α] (e : α → List PV) (x : α) : RowEq 1 (fun i => [e x].getD i []) (fl e [x]) := fun i hi => by
  have : i = 0 := by omega
  subst this; rfl

set_option maxRecDepth 100000 in
set_option maxHeartbeats 4000000 in
theorem call16 (τ τ' : Nat) (v : List Int) (g : List Bool) (last : Int) (hl : v.length ≤ 1000000) : PureCall Try.prog 16 [.sl τ 1 v.length (fl eInt v), .sl τ' 1 g.length (fl eBool g), .int .i64 last] [] ⟨.tup [.sl 0 1 (fillF v g last).1.length (fl eInt (fillF v g last).1), .int .i64 (fillF v g last).2], [], []⟩ := by
  refine pure_call mix Try.func16 fits16 rfl ?_
  conv => whnf
  refine ⟨trivial, fun hc => ?_, fun hc => ?_⟩
  · simp only [bif_t, bif_f, decide_eq_true_eq, decide_eq_false_iff_not, Bool.not_eq_true', Bool.not_eq_false', Bool.and_eq_true, Bool.or_eq_true, Bool.and_eq_false_iff, Bool.or_eq_false_iff, beq_iff_eq, bne_iff_ne, beq_eq_false_iff_ne, bne_eq_false_iff_eq, reduceCtorEq, false_and, and_false, true_and, and_true, or_false, false_or, or_true, true_or, not_true_eq_false, not_false_eq_true, Int.toNat_zero] at hc
    rw [show fillF v g last = ([], 3) by unfold fillF; rw [if_pos (by omega)]]
    conv => whnf
    refine ⟨?_, [], ?_⟩
    · (try conv => whnf)
      (repeat' (first | exact True.intro | exact fun _ h => h | refine inR64_of ?_ ?_ | apply And.intro | refine maxLen_ge ?_)) <;> (first | omega | (dsimp only; omega) | (dsimp only [List.length_cons, List.length_nil]; omega) | (intro hg; rw [hg]; rfl) | (intro hg hh; rw [hg, hh]; rfl) | (intro hg; simp [-List.getD_eq_getElem?_getD, -Int.default_eq_zero] at hg; first | omega | (refine inR64_of ?_ ?_ <;> omega) | (constructor <;> omega)) | (simp [-List.getD_eq_getElem?_getD, -Int.default_eq_zero]; done))
    conv => whnf
    refine ⟨rfl, ?_, trivial, trivial⟩
    all_goals repeat' (first | exact True.intro | refine leF_cons rfl ?_ ?_ | refine leS_cons rfl ?_ ?_ | (show PLe _ _ _ _; conv => whnf) | (show SLe _ _ _ _; conv => whnf) | (show PLeL _ _ _ _; conv => whnf) | apply And.intro | rfl | exact Nat.le_refl _ | exact fun _ _ => rfl | exact rowEq0 _ _)
  simp only [bif_t, bif_f, decide_eq_true_eq, decide_eq_false_iff_not, Bool.not_eq_true', Bool.not_eq_false', Bool.and_eq_true, Bool.or_eq_true, Bool.and_eq_false_iff, Bool.or_eq_false_iff, beq_iff_eq, bne_iff_ne, beq_eq_false_iff_ne, bne_eq_false_iff_eq, reduceCtorEq, false_and, and_false, true_and, and_true, or_false, false_or, or_true, true_or, not_true_eq_false, not_false_eq_true, Int.toNat_zero] at hc
  have hlen : v.length = g.length := by omega
  conv => whnf
  refine ⟨_, fun _ => call33 _ v (by omega), ?_⟩
  cases hfv : flowsF v with
  | false =>
    rw [show fillF v g last = ([], 1) by unfold fillF; rw [if_neg (by omega), if_pos hfv]]
    conv => whnf
    refine ⟨?_, fun _ => ?_, fun hc => absurd hc (by decide)⟩
    · (try conv => whnf)
      (repeat' (first | exact True.intro | exact fun _ h => h | refine inR64_of ?_ ?_ | apply And.intro | refine maxLen_ge ?_)) <;> (first | omega | (dsimp only; omega) | (dsimp only [List.length_cons, List.length_nil]; omega) | (intro hg; rw [hg]; rfl) | (intro hg hh; rw [hg, hh]; rfl) | (intro hg; simp [-List.getD_eq_getElem?_getD, -Int.default_eq_zero] at hg; first | omega | (refine inR64_of ?_ ?_ <;> omega) | (constructor <;> omega)) | (simp [-List.getD_eq_getElem?_getD, -Int.default_eq_zero]; done))
    conv => whnf
    refine ⟨?_, [], ?_⟩
    · (try conv => whnf)
      (repeat' (first | exact True.intro | exact fun _ h => h | refine inR64_of ?_ ?_ | apply And.intro | refine maxLen_ge ?_)) <;> (first | omega | (dsimp only; omega) | (dsimp only [List.length_cons, List.length_nil]; omega) | (intro hg; rw [hg]; rfl) | (intro hg hh; rw [hg, hh]; rfl) | (intro hg; simp [-List.getD_eq_getElem?_getD, -Int.default_eq_zero] at hg; first | omega | (refine inR64_of ?_ ?_ <;> omega) | (constructor <;> omega)) | (simp [-List.getD_eq_getElem?_getD, -Int.default_eq_zero]; done))
    conv => whnf
    refine ⟨rfl, ?_, trivial, trivial⟩
    all_goals repeat' (first | exact True.intro | refine leF_cons rfl ?_ ?_ | refine leS_cons rfl ?_ ?_ | (show PLe _ _ _ _; conv => whnf) | (show SLe _ _ _ _; conv => whnf) | (show PLeL _ _ _ _; conv => whnf) | apply And.intro | rfl | exact Nat.le_refl _ | exact fun _ _ => rfl | exact rowEq0 _ _)
  | true =>
  conv => whnf
  refine ⟨_, fun _ => PureCall.arg_le (call33 2 [last] (by simp)) rfl (by
    all_goals repeat' (first | exact True.intro | refine leF_cons rfl ?_ ?_ | refine leS_cons rfl ?_ ?_ | (show PLe _ _ _ _; conv => whnf) | (show SLe _ _ _ _; conv => whnf) | (show PLeL _ _ _ _; conv => whnf) | apply And.intro | rfl | exact Nat.le_refl _ | exact fun _ _ => rfl | exact rowEq0 _ _)
    all_goals first | rfl | exact fl_one eInt last), ?_⟩
  cases hfl : flowsF [last] with
  | false =>
    rw [show fillF v g last = ([], 1) by unfold fillF; rw [if_neg (by omega), if_neg (by rw [hfv]; decide), if_pos hfl]]
    conv => whnf
    refine ⟨?_, fun _ => ?_, fun hc => absurd hc (by decide)⟩
    · (try conv => whnf)
      (repeat' (first | exact True.intro | exact fun _ h => h | refine inR64_of ?_ ?_ | apply And.intro | refine maxLen_ge ?_)) <;> (first | omega | (dsimp only; omega) | (dsimp only [List.length_cons, List.length_nil]; omega) | (intro hg; rw [hg]; rfl) | (intro hg hh; rw [hg, hh]; rfl) | (intro hg; simp [-List.getD_eq_getElem?_getD, -Int.default_eq_zero] at hg; first | omega | (refine inR64_of ?_ ?_ <;> omega) | (constructor <;> omega)) | (simp [-List.getD_eq_getElem?_getD, -Int.default_eq_zero]; done))
    conv => whnf
    refine ⟨?_, [], ?_⟩
    · (try conv => whnf)
      (repeat' (first | exact True.intro | exact fun _ h => h | refine inR64_of ?_ ?_ | apply And.intro | refine maxLen_ge ?_)) <;> (first | omega | (dsimp only; omega) | (dsimp only [List.length_cons, List.length_nil]; omega) | (intro hg; rw [hg]; rfl) | (intro hg hh; rw [hg, hh]; rfl) | (intro hg; simp [-List.getD_eq_getElem?_getD, -Int.default_eq_zero] at hg; first | omega | (refine inR64_of ?_ ?_ <;> omega) | (constructor <;> omega)) | (simp [-List.getD_eq_getElem?_getD, -Int.default_eq_zero]; done))
    conv => whnf
    refine ⟨rfl, ?_, trivial, trivial⟩
    all_goals repeat' (first | exact True.intro | refine leF_cons rfl ?_ ?_ | refine leS_cons rfl ?_ ?_ | (show PLe _ _ _ _; conv => whnf) | (show SLe _ _ _ _; conv => whnf) | (show PLeL _ _ _ _; conv => whnf) | apply And.intro | rfl | exact Nat.le_refl _ | exact fun _ _ => rfl | exact rowEq0 _ _)
  | true =>
  rw [show fillF v g last = (fillL v g last v.length, 0) by unfold fillF; rw [if_neg (by omega), if_neg (by rw [hfv]; decide), if_neg (by rw [hfl]; decide)]]
  have hV := (flowsF_iff v).1 hfv
  conv => whnf
  refine ⟨?_, fun hc => absurd hc (by decide), fun _ => ?_⟩
  · (try conv => whnf)
    (repeat' (first | exact True.intro | exact fun _ h => h | refine inR64_of ?_ ?_ | apply And.intro | refine maxLen_ge ?_)) <;> (first | omega | (dsimp only; omega) | (dsimp only [List.length_cons, List.length_nil]; omega) | (intro hg; rw [hg]; rfl) | (intro hg hh; rw [hg, hh]; rfl) | (intro hg; simp [-List.getD_eq_getElem?_getD, -Int.default_eq_zero] at hg; first | omega | (refine inR64_of ?_ ?_ <;> omega) | (constructor <;> omega)) | (simp [-List.getD_eq_getElem?_getD, -Int.default_eq_zero]; done))
  conv => whnf
  refine ⟨_, fun _ => call_clone _ v (by omega), ?_⟩
  conv => whnf
  refine ⟨?_, ?_⟩
  · (try conv => whnf)
    (repeat' (first | exact True.intro | exact fun _ h => h | refine inR64_of ?_ ?_ | apply And.intro | refine maxLen_ge ?_)) <;> (first | omega | (dsimp only; omega) | (dsimp only [List.length_cons, List.length_nil]; omega) | (intro hg; rw [hg]; rfl) | (intro hg hh; rw [hg, hh]; rfl) | (intro hg; simp [-List.getD_eq_getElem?_getD, -Int.default_eq_zero] at hg; first | omega | (refine inR64_of ?_ ?_ <;> omega) | (constructor <;> omega)) | (simp [-List.getD_eq_getElem?_getD, -Int.default_eq_zero]; done))
  refine LSem.loop (n := 90) mix (α := Nat) (fun i => i ≤ v.length)
    (fun i => [(0, .sl τ 1 v.length (fl eInt v)), (1, .sl τ' 1 g.length (fl eBool g)), (2, .int .i64 last), (8, .os 432), (9, .int .i64 (prevG g i)), (29, .int .i64 v.length), (30, .int .i64 i)])
    (fun i => [(432, .row 0 3 1 v.length (fl eInt (fillL v g last i)))]) (fun i => v.length - i) 0 ?_ ?_ ?_
  · exact Nat.zero_le _
  · refine ⟨rfl, rfl, ?_, ?_⟩
    all_goals repeat' (first | exact True.intro | refine leF_cons rfl ?_ ?_ | refine leS_cons rfl ?_ ?_ | (show PLe _ _ _ _; conv => whnf) | (show SLe _ _ _ _; conv => whnf) | (show PLeL _ _ _ _; conv => whnf) | apply And.intro | rfl | exact Nat.le_refl _ | exact fun _ _ => rfl | exact rowEq0 _ _)
    intro k hk
    show eInt _ = eInt _
    rw [fillL_get hk, if_neg (by omega)]
  · intro i hi
    have hj : ((i : Int)).toNat = i := by omega
    have hpl := prevG_lt g i
    conv => whnf
    refine ⟨trivial, fun hc2 => ?_, fun hc2 => ?_⟩
    · replace hc2 := of_decide_eq_true hc2
      have hlt : i < v.length := by omega
      conv => whnf
      refine ⟨?_, fun hc3 => ?_, fun hc3 => ?_⟩
      · (try conv => whnf)
        (repeat' (first | exact True.intro | exact fun _ h => h | refine inR64_of ?_ ?_ | apply And.intro | refine maxLen_ge ?_)) <;> (first | omega | (dsimp only; omega) | (dsimp only [List.length_cons, List.length_nil]; omega) | (intro hg; rw [hg]; rfl) | (intro hg hh; rw [hg, hh]; rfl) | (intro hg; simp [-List.getD_eq_getElem?_getD, -Int.default_eq_zero] at hg; first | omega | (refine inR64_of ?_ ?_ <;> omega) | (constructor <;> omega)) | (simp [-List.getD_eq_getElem?_getD, -Int.default_eq_zero]; done))
      · rw [hj] at hc3
        have hp1 : prevG g (i + 1) = i := by rw [prevG, if_pos hc3]
        conv => whnf
        refine ⟨?_, i + 1, (by omega : i + 1 ≤ v.length), ?_, rfl, rfl, ?_, ?_⟩
        · (try conv => whnf)
          (repeat' (first | exact True.intro | exact fun _ h => h | refine inR64_of ?_ ?_ | apply And.intro | refine maxLen_ge ?_)) <;> (first | omega | (dsimp only; omega) | (dsimp only [List.length_cons, List.length_nil]; omega) | (intro hg; rw [hg]; rfl) | (intro hg hh; rw [hg, hh]; rfl) | (intro hg; simp [-List.getD_eq_getElem?_getD, -Int.default_eq_zero] at hg; first | omega | (refine inR64_of ?_ ?_ <;> omega) | (constructor <;> omega)) | (simp [-List.getD_eq_getElem?_getD, -Int.default_eq_zero]; done))
        · omega
        all_goals repeat' (first | exact True.intro | refine leF_cons rfl ?_ ?_ | refine leS_cons rfl ?_ ?_ | (show PLe _ _ _ _; conv => whnf) | (show SLe _ _ _ _; conv => whnf) | (show PLeL _ _ _ _; conv => whnf) | apply And.intro | rfl | exact Nat.le_refl _ | exact fun _ _ => rfl | exact rowEq0 _ _)
        all_goals (try omega)
        intro k hk
        show eInt _ = eInt _
        rw [fillL_get hk, fillL_get hk]
        by_cases e : k = i
        · subst e
          rw [if_neg (by rw [hc3]; simp), if_neg (by rw [hc3]; simp)]
        · by_cases e2 : k < i ∧ g.getD k default = false
          · rw [if_pos e2, if_pos ⟨by omega, e2.2⟩]
          · rw [if_neg e2, if_neg (fun h => e2 ⟨by omega, h.2⟩)]
      · rw [hj] at hc3
        have hp1 : prevG g (i + 1) = prevG g i := by rw [prevG, if_neg (by rw [hc3]; decide)]
        have hrow : ∀ k, k < v.length → (fillL v g last (i + 1)).getD k default = if k = i then fv v g last i else (fillL v g last i).getD k default := fun k hk => by
          rw [fillL_get hk, fillL_get hk]
          by_cases e : k = i
          · subst e; rw [if_pos rfl, if_pos ⟨by omega, hc3⟩]
          · rw [if_neg e]
            by_cases e2 : k < i ∧ g.getD k default = false
            · rw [if_pos e2, if_pos ⟨by omega, e2.2⟩]
            · rw [if_neg e2, if_neg (fun h => e2 ⟨by omega, h.2⟩)]
        conv => whnf
        refine ⟨⟨.int .i64 (nextG g i), [], []⟩, fun _ => PureCall.arg_le (call35 (lendT τ') (g.drop i) (by rw [List.length_drop]; omega)) rfl (by
          all_goals repeat' (first | exact True.intro | refine leF_cons rfl ?_ ?_ | refine leS_cons rfl ?_ ?_ | (show PLe _ _ _ _; conv => whnf) | (show SLe _ _ _ _; conv => whnf) | (show PLeL _ _ _ _; conv => whnf) | apply And.intro | rfl | exact Nat.le_refl _ | exact fun _ _ => rfl | exact rowEq0 _ _)
          · rw [hj, List.length_drop]
          · intro k _
            show eBool _ = eBool _
            rw [hj]; simp [List.getD_eq_getElem?_getD]), ?_⟩
        have hfin : ∀ (x : Int), fv v g last i = x → ∀ f' : Nat → List PV, (∀ k, f' k = if k = i then [PV.int .i64 x] else fl eInt (fillL v g last i) k) → RowEq v.length f' (fl eInt (fillL v g last (i + 1))) := fun x hx f' hf k hk => by
          rw [hf k]
          show _ = eInt _
          rw [hrow k hk]
          by_cases e : k = i
          · rw [if_pos e, if_pos e, hx]; rfl
          · rw [if_neg e, if_neg e]; rfl
        have hnx := @nextG_pos g i
        generalize hn : nextG g i = nx at hnx ⊢
        generalize hp : prevG g i = pv at hpl hp1 ⊢
        have hgp := prevG_good g i
        rw [hp] at hgp
        conv => whnf
        refine ⟨?_, fun hc4 => ?_, fun hc4 => ?_⟩
        · (try conv => whnf)
          (repeat' (first | exact True.intro | exact fun _ h => h | refine inR64_of ?_ ?_ | apply And.intro | refine maxLen_ge ?_)) <;> (first | omega | (dsimp only; omega) | (dsimp only [List.length_cons, List.length_nil]; omega) | (intro hg; rw [hg]; rfl) | (intro hg hh; rw [hg, hh]; rfl) | (intro hg; simp [-List.getD_eq_getElem?_getD, -Int.default_eq_zero] at hg; first | omega | (refine inR64_of ?_ ?_ <;> omega) | (constructor <;> omega)) | (simp [-List.getD_eq_getElem?_getD, -Int.default_eq_zero]; done))
        · replace hc4 := of_decide_eq_true hc4
          have hval : fv v g last i = last := by unfold fv; rw [hp, if_pos hc4]
          conv => whnf
          refine ⟨?_, i + 1, (by omega : i + 1 ≤ v.length), ?_, rfl, rfl, ?_, ?_⟩
          · (try conv => whnf)
            (repeat' (first | exact True.intro | exact fun _ h => h | refine inR64_of ?_ ?_ | apply And.intro | refine maxLen_ge ?_)) <;> (first | omega | (dsimp only; omega) | (dsimp only [List.length_cons, List.length_nil]; omega) | (intro hg; rw [hg]; rfl) | (intro hg hh; rw [hg, hh]; rfl) | (intro hg; simp [-List.getD_eq_getElem?_getD, -Int.default_eq_zero] at hg; first | omega | (refine inR64_of ?_ ?_ <;> omega) | (constructor <;> omega)) | (simp [-List.getD_eq_getElem?_getD, -Int.default_eq_zero]; done))
          · omega
          all_goals repeat' (first | exact True.intro | refine leF_cons rfl ?_ ?_ | refine leS_cons rfl ?_ ?_ | (show PLe _ _ _ _; conv => whnf) | (show SLe _ _ _ _; conv => whnf) | (show PLeL _ _ _ _; conv => whnf) | apply And.intro | rfl | exact Nat.le_refl _ | exact fun _ _ => rfl | exact rowEq0 _ _)
          all_goals (try omega)
          exact hfin _ hval _ (fun k => by
            rw [hj]
            by_cases e : k = i
            · rw [if_pos e, if_pos e]; rfl
            · rw [if_neg e, if_neg e])
        replace hc4 := of_decide_eq_false hc4
        conv => whnf
        refine ⟨?_, fun hc5 => ?_, fun hc5 => ?_⟩
        · (try conv => whnf)
          (repeat' (first | exact True.intro | exact fun _ h => h | refine inR64_of ?_ ?_ | apply And.intro | refine maxLen_ge ?_)) <;> (first | omega | (dsimp only; omega) | (dsimp only [List.length_cons, List.length_nil]; omega) | (intro hg; rw [hg]; rfl) | (intro hg hh; rw [hg, hh]; rfl) | (intro hg; simp [-List.getD_eq_getElem?_getD, -Int.default_eq_zero] at hg; first | omega | (refine inR64_of ?_ ?_ <;> omega) | (constructor <;> omega)) | (simp [-List.getD_eq_getElem?_getD, -Int.default_eq_zero]; done))
        · replace hc5 := of_decide_eq_true hc5
          have hval : fv v g last i = v.getD pv.toNat default := by unfold fv; rw [hp, hn, if_neg hc4, if_pos hc5]
          conv => whnf
          refine ⟨?_, i + 1, (by omega : i + 1 ≤ v.length), ?_, rfl, rfl, ?_, ?_⟩
          · (try conv => whnf)
            (repeat' (first | exact True.intro | exact fun _ h => h | refine inR64_of ?_ ?_ | apply And.intro | refine maxLen_ge ?_)) <;> (first | omega | (dsimp only; omega) | (dsimp only [List.length_cons, List.length_nil]; omega) | (intro hg; rw [hg]; rfl) | (intro hg hh; rw [hg, hh]; rfl) | (intro hg; simp [-List.getD_eq_getElem?_getD, -Int.default_eq_zero] at hg; first | omega | (refine inR64_of ?_ ?_ <;> omega) | (constructor <;> omega)) | (simp [-List.getD_eq_getElem?_getD, -Int.default_eq_zero]; done))
          · omega
          all_goals repeat' (first | exact True.intro | refine leF_cons rfl ?_ ?_ | refine leS_cons rfl ?_ ?_ | (show PLe _ _ _ _; conv => whnf) | (show SLe _ _ _ _; conv => whnf) | (show PLeL _ _ _ _; conv => whnf) | apply And.intro | rfl | exact Nat.le_refl _ | exact fun _ _ => rfl | exact rowEq0 _ _)
          all_goals (try omega)
          exact hfin _ hval _ (fun k => by
            rw [hj]
            by_cases e : k = i
            · rw [if_pos e, if_pos e]; rfl
            · rw [if_neg e, if_neg e])
        · replace hc5 := of_decide_eq_false hc5
          obtain ⟨k, rfl, hk1, hk2, hk3⟩ := hnx (by omega)
          have v1 := hV (i + k) (by omega)
          have v2 := hV pv.toNat (by omega)
          have hik : ((i : Int) + (k : Int)).toNat = i + k := by omega
          have hval : fv v g last i = v.getD pv.toNat default + ((v.getD (i + k) default - v.getD pv.toNat default) * ((i : Int) - pv)) / ((i : Int) + (k : Int) - pv) := by unfold fv; rw [hp, hn, if_neg hc4, if_neg hc5, hik]
          have hprod := mul_abs (a := v.getD (i + k) default - v.getD pv.toNat default) (b := (i : Int) - pv) (A := 1073741824) (B := 1000001) (by omega) (by omega) (by omega) (by omega)
          have hqab := ediv_abs (a := (v.getD (i + k) default - v.getD pv.toNat default) * ((i : Int) - pv)) (b := (i : Int) + (k : Int) - pv) (by omega)
          conv => whnf
          refine ⟨_, fun _ => call36 ((v.getD ((i : Int) + (k : Int)).toNat default - v.getD pv.toNat default) * ((i : Int) - pv)) ((i : Int) + (k : Int) - pv) (by rw [hik]; omega) (by omega), ?_⟩
          conv => whnf
          refine ⟨rfl, ?_⟩
          conv => whnf
          refine ⟨?_, i + 1, (by omega : i + 1 ≤ v.length), ?_, rfl, rfl, ?_, ?_⟩
          · rw [hik]
            (try conv => whnf)
            (repeat' (first | exact True.intro | exact fun _ h => h | refine inR64_of ?_ ?_ | apply And.intro | refine maxLen_ge ?_)) <;> (first | omega | (dsimp only; omega) | (dsimp only [List.length_cons, List.length_nil]; omega) | (intro hg; rw [hg]; rfl) | (intro hg hh; rw [hg, hh]; rfl) | (intro hg; simp [-List.getD_eq_getElem?_getD, -Int.default_eq_zero] at hg; first | omega | (refine inR64_of ?_ ?_ <;> omega) | (constructor <;> omega)) | (simp [-List.getD_eq_getElem?_getD, -Int.default_eq_zero]; done))
          · omega
          all_goals repeat' (first | exact True.intro | refine leF_cons rfl ?_ ?_ | refine leS_cons rfl ?_ ?_ | (show PLe _ _ _ _; conv => whnf) | (show SLe _ _ _ _; conv => whnf) | (show PLeL _ _ _ _; conv => whnf) | apply And.intro | rfl | exact Nat.le_refl _ | exact fun _ _ => rfl | exact rowEq0 _ _)
          all_goals (try omega)
          rw [hik]
          exact hfin _ hval _ (fun k => by
            rw [hj]
            by_cases e : k = i
            · rw [if_pos e, if_pos e]; rfl
            · rw [if_neg e, if_neg e])
    · replace hc2 := of_decide_eq_false hc2
      have : i = v.length := by omega
      subst this
      have hll := fillL_len v g last v.length
      generalize fillL v g last v.length = L at hll ⊢
      rw [← hll]
      conv => whnf
      refine ⟨trivial, [], ?_⟩
      conv => whnf
      refine ⟨rfl, ?_, trivial, trivial⟩
      all_goals repeat' (first | exact True.intro | refine leF_cons rfl ?_ ?_ | refine leS_cons rfl ?_ ?_ | (show PLe _ _ _ _; conv => whnf) | (show SLe _ _ _ _; conv => whnf) | (show PLeL _ _ _ _; conv => whnf) | apply And.intro | rfl | exact Nat.le_refl _ | exact fun _ _ => rfl | exact rowEq0 _ _)
end Pv
end Go.Proofs.Ytogoplhikmmggaa
