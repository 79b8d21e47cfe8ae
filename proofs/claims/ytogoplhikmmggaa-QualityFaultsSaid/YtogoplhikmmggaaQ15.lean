/- LAW 08: QualityFaults. -/
import Derived.Test.YtogoplhikmmggaaQ13
set_option linter.unusedSimpArgs false
set_option linter.unusedVariables false
namespace Go.Proofs.Ytogoplhikmmggaa
namespace Pv
def c8L1 : C := (.seq (.seq (.reg [⟨(some 20), 320, none, .mv (.t 9)⟩,
    ⟨(some 21), 336, none, .mv (.t 5)⟩,
    ⟨(some 22), 352, none, .call (.c (.fn (.func 18) [] [])) [(.t 21), (.c (.int .i64 14))]⟩,
    ⟨(some 23), 368, none, .bi false .add (.c (.int .i64 2)) (.t 22)⟩,
    ⟨(some 24), 384, none, .bi false .lss (.t 20) (.t 23)⟩])
  (.cond (.t 24) .skip (.exit 0)))
  (.seq (.block 1 (.seq (.reg [⟨(some 27), 432, none, .mv (.t 8)⟩,
    ⟨(some 28), 448, none, .mv (.t 5)⟩,
    ⟨(some 29), 464, none, .call (.c (.fn (.func 18) [] [])) [(.t 28), (.c (.int .i64 11))]⟩,
    ⟨(some 30), 480, none, .bi false .sub (.t 29) (.c (.int .i64 5))⟩,
    ⟨(some 31), 496, none, .bi false .add (.t 27) (.t 30)⟩,
    ⟨(some 8), 128, none, .mv (.t 31)⟩])
  (.reg [⟨(some 32), 512, none, .mv (.t 7)⟩,
    ⟨(some 33), 528, none, .mv (.t 9)⟩,
    ⟨(some 34), 544, none, .mv (.t 8)⟩,
    ⟨(some 35), 560, none, .bd [(.int .i64 0), (.int .i64 0), (.int .i64 0), (.int .i64 0)] [(1, 1, (.t 33)), (2, 1, (.t 34))]⟩,
    ⟨(some 36), 576, none, .bs 48 4 [(.t 35)]⟩,
    ⟨(some 37), 592, none, .app 48 4 32 (.t 32) (.t 36)⟩,
    ⟨(some 7), 112, none, .mv (.t 37)⟩])))
  (.reg [⟨(some 25), 400, none, .mv (.t 9)⟩,
    ⟨(some 26), 416, none, .bi false .add (.t 25) (.c (.int .i64 1))⟩,
    ⟨(some 9), 144, none, .mv (.t 26)⟩])))
def c8L2 : C := (.seq (.reg [⟨(some 85), 1360, none, .bi false .lss (.t 84) (.t 83)⟩])
  (.seq (.cond (.t 85) .skip (.exit 2))
  (.seq (.block 3 (.seq (.reg [⟨(some 86), 1376, none, .mv (.t 84)⟩,
    ⟨(some 16), 256, none, .mv (.t 86)⟩])
  (.seq (.reg [⟨(some 87), 1392, none, .mv (.t 10)⟩,
    ⟨(some 88), 1408, none, .mv (.t 16)⟩,
    ⟨(some 89), 1424, none, .ia 1 (.t 87) (.t 88)⟩,
    ⟨(some 90), 1440, none, .ld 1 false (.t 89)⟩,
    ⟨(some 91), 1456, none, .bi false .neq (.t 90) (.c (.int .i64 1))⟩,
    ⟨(some 92), 1472, none, .mv (.t 91)⟩,
    ⟨(some 93), 1488, (some (92, false)), .mv (.t 16)⟩,
    ⟨(some 94), 1504, (some (92, false)), .mv (.t 12)⟩,
    ⟨(some 95), 1520, (some (92, false)), .bi false .neq (.t 93) (.t 94)⟩,
    ⟨(some 96), 1536, (some (92, false)), .mv (.t 95)⟩,
    ⟨(some 97), 1552, (some (96, true)), .mv (.t 14)⟩,
    ⟨(some 98), 1568, (some (96, true)), .mv (.t 16)⟩,
    ⟨(some 99), 1584, (some (96, true)), .ia 1 (.t 97) (.t 98)⟩,
    ⟨(some 100), 1600, (some (96, true)), .ld 1 false (.t 99)⟩,
    ⟨(some 101), 1616, (some (96, true)), .bi false .neq (.t 100) (.c (.int .i64 1))⟩,
    ⟨(some 102), 1632, (some (92, false)), .pick (.t 96) (.t 101) (.c (.bool false))⟩,
    ⟨(some 103), 1648, none, .pick (.t 92) (.c (.bool true)) (.t 102)⟩,
    ⟨(some 104), 1664, none, .mv (.t 103)⟩,
    ⟨(some 105), 1680, (some (104, false)), .mv (.t 16)⟩,
    ⟨(some 106), 1696, (some (104, false)), .mv (.t 12)⟩,
    ⟨(some 107), 1712, (some (104, false)), .bi false .eql (.t 105) (.t 106)⟩,
    ⟨(some 108), 1728, (some (104, false)), .mv (.t 107)⟩,
    ⟨(some 109), 1744, (some (108, true)), .mv (.t 14)⟩,
    ⟨(some 110), 1760, (some (108, true)), .mv (.t 16)⟩,
    ⟨(some 111), 1776, (some (108, true)), .ia 1 (.t 109) (.t 110)⟩,
    ⟨(some 112), 1792, (some (108, true)), .ld 1 false (.t 111)⟩,
    ⟨(some 113), 1808, (some (108, true)), .bi false .neq (.t 112) (.c (.int .i64 3))⟩,
    ⟨(some 114), 1824, (some (104, false)), .pick (.t 108) (.t 113) (.c (.bool false))⟩,
    ⟨(some 115), 1840, none, .pick (.t 104) (.c (.bool true)) (.t 114)⟩])
  (.cond (.t 115) (.seq (.reg [⟨(some 4), 64, none, .mv (.c (.bool false))⟩])
  .ret) .skip))))
  (.reg [⟨(some 116), 1856, none, .bi false .add (.t 84) (.c (.int .i64 1))⟩,
    ⟨(some 84), 1344, none, .mv (.t 116)⟩]))))
def c8 : C := (.seq (.reg [⟨(some 4), 64, none, .mv (.c (.bool false))⟩])
  (.seq (.reg [⟨(some 17), 272, none, .mv (.t 0)⟩,
    ⟨(some 18), 288, none, .call (.c (.fn (.func 11) [] [])) [(.t 17)]⟩,
    ⟨(some 5), 80, none, .mv (.t 18)⟩])
  (.seq (.reg [⟨(some 19), 304, none, .bd [(.int .i64 0), (.int .i64 0), (.int .i64 0), (.int .i64 0)] [(0, 1, (.c (.int .i64 10))), (1, 1, (.c (.int .i64 200))), (2, 1, (.c (.int .i64 5)))]⟩,
    ⟨(some 6), 96, none, .al [(.int .i64 0), (.int .i64 0), (.int .i64 0), (.int .i64 0)]⟩,
    ⟨none, 0, none, .st 4 (.t 6) (.t 19)⟩])
  (.seq (.reg [⟨(some 7), 112, none, .mv (.c (.nil 4))⟩])
  (.seq (.reg [⟨(some 8), 128, none, .mv (.c (.int .i64 100))⟩])
  (.seq (.seq (.reg [⟨(some 9), 144, none, .mv (.c (.int .i64 0))⟩])
  (.block 0 (.loop c8L1)))
  (.seq (.reg [⟨(some 39), 624, none, .ld 4 true (.t 6)⟩,
    ⟨(some 40), 640, none, .mv (.t 7)⟩,
    ⟨(some 41), 656, none, .call (.c (.fn (.func 25) [] [])) [(.t 39), (.t 40)]⟩,
    ⟨(some 38), 608, none, .mv (.t 41)⟩,
    ⟨(some 42), 672, none, .ex (.t 38) 0⟩,
    ⟨(some 43), 688, none, .ex (.t 38) 1⟩,
    ⟨(some 10), 160, none, .mv (.t 42)⟩,
    ⟨(some 11), 176, none, .mv (.t 43)⟩])
  (.seq (.reg [⟨(some 44), 704, none, .mv (.t 1)⟩,
    ⟨(some 45), 720, none, .mv (.t 7)⟩,
    ⟨(some 46), 736, none, .len (.t 45)⟩,
    ⟨(some 47), 752, none, .bi false .sub (.t 46) (.c (.int .i64 1))⟩,
    ⟨(some 48), 768, none, .call (.c (.fn (.func 15) [] [])) [(.t 44), (.t 47)]⟩,
    ⟨(some 49), 784, none, .bi false .add (.c (.int .i64 1)) (.t 48)⟩,
    ⟨(some 12), 192, none, .mv (.t 49)⟩])
  (.seq (.reg [⟨(some 50), 800, none, .mv (.t 7)⟩,
    ⟨(some 51), 816, none, .app 48 4 32 (.c (.nil 4)) (.t 50)⟩,
    ⟨(some 13), 208, none, .mv (.t 51)⟩])
  (.seq (.reg [⟨(some 52), 832, none, .mv (.t 13)⟩,
    ⟨(some 53), 848, none, .mv (.t 12)⟩,
    ⟨(some 54), 864, none, .ia 4 (.t 52) (.t 53)⟩,
    ⟨(some 55), 880, none, .fa 2 (.t 54)⟩,
    ⟨none, 0, none, .st 1 (.t 55) (.c (.int .i64 9))⟩])
  (.seq (.reg [⟨(some 57), 912, none, .ld 4 true (.t 6)⟩,
    ⟨(some 58), 928, none, .mv (.t 13)⟩,
    ⟨(some 59), 944, none, .call (.c (.fn (.func 25) [] [])) [(.t 57), (.t 58)]⟩,
    ⟨(some 56), 896, none, .mv (.t 59)⟩,
    ⟨(some 60), 960, none, .ex (.t 56) 0⟩,
    ⟨(some 61), 976, none, .ex (.t 56) 1⟩,
    ⟨(some 14), 224, none, .mv (.t 60)⟩,
    ⟨(some 15), 240, none, .mv (.t 61)⟩])
  (.seq (.seq (.reg [⟨(some 62), 992, none, .mv (.t 11)⟩,
    ⟨(some 63), 1008, none, .bi false .neq (.t 62) (.c (.int .i64 0))⟩,
    ⟨(some 64), 1024, none, .mv (.t 63)⟩,
    ⟨(some 65), 1040, (some (64, false)), .mv (.t 15)⟩,
    ⟨(some 66), 1056, (some (64, false)), .bi false .neq (.t 65) (.c (.int .i64 0))⟩,
    ⟨(some 67), 1072, none, .pick (.t 64) (.c (.bool true)) (.t 66)⟩,
    ⟨(some 68), 1088, none, .mv (.t 67)⟩,
    ⟨(some 69), 1104, (some (68, false)), .mv (.t 10)⟩,
    ⟨(some 70), 1120, (some (68, false)), .len (.t 69)⟩,
    ⟨(some 71), 1136, (some (68, false)), .mv (.t 7)⟩,
    ⟨(some 72), 1152, (some (68, false)), .len (.t 71)⟩,
    ⟨(some 73), 1168, (some (68, false)), .bi false .neq (.t 70) (.t 72)⟩,
    ⟨(some 74), 1184, none, .pick (.t 68) (.c (.bool true)) (.t 73)⟩,
    ⟨(some 75), 1200, none, .mv (.t 74)⟩,
    ⟨(some 76), 1216, (some (75, false)), .mv (.t 14)⟩,
    ⟨(some 77), 1232, (some (75, false)), .len (.t 76)⟩,
    ⟨(some 78), 1248, (some (75, false)), .mv (.t 7)⟩,
    ⟨(some 79), 1264, (some (75, false)), .len (.t 78)⟩,
    ⟨(some 80), 1280, (some (75, false)), .bi false .neq (.t 77) (.t 79)⟩,
    ⟨(some 81), 1296, none, .pick (.t 75) (.c (.bool true)) (.t 80)⟩])
  (.cond (.t 81) (.seq (.reg [⟨(some 4), 64, none, .mv (.c (.bool false))⟩])
  .ret) .skip))
  (.seq (.seq (.reg [⟨(some 82), 1312, none, .mv (.t 7)⟩,
    ⟨(some 83), 1328, none, .len (.t 82)⟩,
    ⟨(some 84), 1344, none, .mv (.c (.int .i64 0))⟩])
  (.block 2 (.loop c8L2)))
  (.seq (.reg [⟨(some 117), 1872, none, .call (.c (.fn (.func 14) [] [])) []⟩,
    ⟨(some 4), 64, none, .mv (.t 117)⟩])
  .ret))))))))))))))
theorem fits8 : fits Try.prog false Try.f8 2 118 [(4, none)] = some c8.er := by kernel_rfl

def ckF : Ck := ⟨10, 200, 5, 0⟩
/-- Readings in small steps. -/
structure Small (l : List Rd) : Prop where
  len : l.length ≤ 16
  at_ : ∀ i, i < l.length → (l.getD i default).g = 0 ∧ (l.getD i default).t = i ∧ (l.getD i default).f = 0 ∧ 100 - 5 * ((i : Int) + 1) ≤ (l.getD i default).v ∧ (l.getD i default).v ≤ 100 + 5 * ((i : Int) + 1)
  st : ∀ i, i + 1 < l.length → -5 ≤ (l.getD (i + 1) default).v - (l.getD i default).v ∧ (l.getD (i + 1) default).v - (l.getD i default).v ≤ 5
theorem t4_F (l : List Rd) (i : Nat) : t4 ckF l i = false := by
  unfold t4
  rw [decide_eq_true (show ckF.s = 0 ∨ _ from .inl rfl)]; rfl
theorem jump_F (i : Nat) (last : Int) (h : 0 ≤ (i : Int) - last ∧ (i : Int) - last ≤ 2) : jumpW ckF i last = 5 * ((i : Int) - last) := by
  unfold jumpW
  exact wr_id (n := 5 * ((i : Int) - last)) (by omega)
theorem verd_good {l : List Rd} {last : Int} {i : Nat} (hf : (l.getD i default).f = 0) (hv : 10 ≤ (l.getD i default).v ∧ (l.getD i default).v ≤ 200) (hl : last = -1 ∨ (0 ≤ last ∧ 0 ≤ (i : Int) - last ∧ (i : Int) - last ≤ 2 ∧ -(5 * ((i : Int) - last)) ≤ (l.getD i default).v - (l.getD last.toNat default).v ∧ (l.getD i default).v - (l.getD last.toNat default).v ≤ 5 * ((i : Int) - last))) :
    verdF ckF l last i = 1 := by
  have h1 : t1 l i = false := by unfold t1; exact decide_eq_false (by omega)
  have h2 : t2 ckF l i = false := by unfold t2; refine decide_eq_false ?_; show ¬ (_ < 10 ∨ 200 < _); omega
  have h3 : t3 ckF l last i = false := by
    unfold t3
    refine decide_eq_false ?_
    rintro ⟨h0, h⟩
    rcases hl with rfl | ⟨a, b, c, d, e⟩
    · omega
    · rw [jump_F i last ⟨b, c⟩] at h
      unfold mx at h
      split at h <;> omega
  unfold verdF
  rw [h1, h2, h3, t4_F]; rfl
theorem verd_bad {l : List Rd} {last : Int} {i : Nat} (hf : (l.getD i default).f = 0) (hv : (l.getD i default).v = 9) : verdF ckF l last i = 3 := by
  have h1 : t1 l i = false := by unfold t1; exact decide_eq_false (by omega)
  have h2 : t2 ckF l i = true := by unfold t2; refine decide_eq_true ?_; show (_ < 10 ∨ 200 < _); omega
  unfold verdF
  rw [h1, h2]; rfl
theorem vSt_good {l : List Rd} (h : Small l) : ∀ k, k ≤ l.length → vSt ckF l k = (List.replicate k 1, (k : Int) - 1)
  | 0, _ => rfl
  | k + 1, hk => by
    have ih := vSt_good h k (by omega)
    have hk1 := h.at_ k (by omega)
    have hlen := h.len
    have hv : verdF ckF l ((k : Int) - 1) k = 1 := by
      refine verd_good hk1.2.2.1 (by omega) ?_
      cases k with
      | zero => exact .inl (by omega)
      | succ k =>
        have hs := h.st k (by omega)
        refine .inr ⟨by omega, by omega, by omega, ?_, ?_⟩
        all_goals (rw [show (((k + 1 : Nat) : Int) - 1).toNat = k by omega]; omega)
    show ((vSt ckF l k).1 ++ [verdF ckF l (vSt ckF l k).2 k], if verdF ckF l (vSt ckF l k).2 k = 1 then (k : Int) else (vSt ckF l k).2) = _
    rw [ih, hv, if_pos rfl, List.replicate_succ']
    congr 1
    omega
def badO (i : Nat) (k : Nat) : List Int := (List.range k).map fun j => if j = i then 3 else 1
theorem vSt_bad {l m : List Rd} {i : Nat} (h : Small l) (hi : 1 ≤ i ∧ i < l.length) (hlen : m.length = l.length) (hm : ∀ j, j < l.length → m.getD j default = if j = i then ⟨(l.getD i default).g, (l.getD i default).t, 9, (l.getD i default).f⟩ else l.getD j default) :
    ∀ k, k ≤ l.length → vSt ckF m k = (badO i k, if k = i + 1 then (i : Int) - 1 else (k : Int) - 1)
  | 0, _ => by
    rw [if_neg (by omega)]; rfl
  | k + 1, hk => by
    have ih := vSt_bad h hi hlen hm k (by omega)
    have hk1 := h.at_ k (by omega)
    have hlen16 := h.len
    have hmk := hm k (by omega)
    have hO : badO i (k + 1) = badO i k ++ [if k = i then 3 else 1] := by unfold badO; rw [List.range_succ, List.map_append]; rfl
    show ((vSt ckF m k).1 ++ [verdF ckF m (vSt ckF m k).2 k], if verdF ckF m (vSt ckF m k).2 k = 1 then (k : Int) else (vSt ckF m k).2) = _
    rw [ih, hO]
    by_cases hki : k = i
    · subst hki
      rw [if_pos rfl] at hmk
      have hv : verdF ckF m (if k = k + 1 then (k : Int) - 1 else (k : Int) - 1) k = 3 := verd_bad (by rw [hmk]; exact hk1.2.2.1) (by rw [hmk])
      dsimp only
      rw [hv, if_neg (by decide), if_neg (by omega), if_pos rfl, if_pos rfl]
    · rw [if_neg hki] at hmk
      have hv : verdF ckF m (if k = i + 1 then (i : Int) - 1 else (k : Int) - 1) k = 1 := by
        refine verd_good (by rw [hmk]; exact hk1.2.2.1) (by rw [hmk]; omega) ?_
        by_cases hk2 : k = i + 1
        · rw [if_pos hk2]
          have s1 := h.st i (by omega)
          have s0 := h.st (i - 1) (by omega)
          rw [show i - 1 + 1 = i by omega] at s0
          refine .inr ⟨by omega, by omega, by omega, ?_, ?_⟩
          all_goals
            rw [hmk, show ((i : Int) - 1).toNat = i - 1 by omega, hm (i - 1) (by omega), if_neg (by omega), hk2]
            omega
        · rw [if_neg hk2]
          cases k with
          | zero => exact .inl (by omega)
          | succ k =>
            have hs := h.st k (by omega)
            refine .inr ⟨by omega, by omega, by omega, ?_, ?_⟩
            all_goals
              rw [hmk, show (((k + 1 : Nat) : Int) - 1).toNat = k by omega, hm k (by omega), if_neg (by omega)]
              omega
      dsimp only
      rw [hv, if_pos rfl, if_neg hki, if_neg (show ¬ k + 1 = i + 1 by omega)]
      congr 1
      omega
theorem all_zero {l : List Rd} (h : ∀ i, i < l.length → rdErr (l.getD i default) = 0) : allF l = 0 := by
  unfold allF
  have : ∀ n i, i + n ≤ l.length → scan (rdE l) i n = 0 := fun n => by
    induction n with
    | zero => intro i _; rfl
    | succ n ih =>
      intro i hi
      rw [scan_step (by omega) (show rdE l i = 0 from h i (by omega))]
      exact ih (i + 1) (by omega)
  exact this _ 0 (by omega)
theorem rd_zero {r : Rd} (h : (0 ≤ r.g ∧ r.g ≤ 255) ∧ (0 ≤ r.t ∧ r.t ≤ 16777216) ∧ (0 ≤ r.v ∧ r.v ≤ 1073741824) ∧ 0 ≤ r.f ∧ r.f ≤ 2) : rdErr r = 0 := by
  unfold rdErr
  rw [if_neg (by omega), if_neg (by omega), if_neg (by omega), if_neg (by omega)]
theorem verdicts_good {l : List Rd} (h : Small l) : verdictsF ckF l = (List.replicate l.length 1, 0) := by
  have ha : allF l = 0 := all_zero fun i hi => by
    have := h.at_ i hi
    have := h.len
    exact rd_zero (by omega)
  unfold verdictsF
  rw [if_neg (show ¬ ckErr ckF ≠ 0 by decide), if_neg (by omega), vSt_good h _ (Nat.le_refl _)]
theorem verdicts_bad {l m : List Rd} {i : Nat} (h : Small l) (hi : 1 ≤ i ∧ i < l.length) (hlen : m.length = l.length) (hm : ∀ j, j < l.length → m.getD j default = if j = i then ⟨(l.getD i default).g, (l.getD i default).t, 9, (l.getD i default).f⟩ else l.getD j default) :
    verdictsF ckF m = (badO i l.length, 0) := by
  have ha : allF m = 0 := all_zero fun j hj => by
    rw [hm j (by omega)]
    have h1 := h.at_ j (by omega)
    have h2 := h.at_ i (by omega)
    have := h.len
    split
    · exact rd_zero (by dsimp only; omega)
    · exact rd_zero (by omega)
  unfold verdictsF
  rw [if_neg (show ¬ ckErr ckF ≠ 0 by decide), if_neg (by omega), hlen, vSt_bad h hi hlen hm _ (Nat.le_refl _)]

theorem getD_push {α : Type} [Inhabited α] (l : List α) (p : α) (i : Nat) : (l ++ [p]).getD i default = if i < l.length then l.getD i default else if i = l.length then p else default := by
  rw [List.getD_eq_getElem?_getD, List.getElem?_append]
  split
  · rw [List.getD_eq_getElem?_getD]
  · rename_i h
    split
    · rename_i h2; rw [h2, Nat.sub_self]; rfl
    · rename_i h2
      rw [List.getElem?_eq_none (by simp; omega)]; rfl
theorem small_push {l : List Rd} {v w : Int} (h : Small l) (hl : l.length < 16) (hv : ∀ i, i + 1 = l.length → (l.getD i default).v = v) (h0 : l.length = 0 → v = 100) (hw : -5 ≤ w - v ∧ w - v ≤ 5) :
    Small (l ++ [⟨0, l.length, w, 0⟩]) := by
  have hlen : (l ++ [(⟨0, l.length, w, 0⟩ : Rd)]).length = l.length + 1 := by rw [List.length_append]; rfl
  refine ⟨by omega, fun i hi => ?_, fun i hi => ?_⟩
  · rw [getD_push]
    by_cases c : i < l.length
    · rw [if_pos c]; exact h.at_ i c
    · rw [if_neg c, if_pos (by omega)]
      dsimp only
      by_cases e : l.length = 0
      · have := h0 e; omega
      · have h1 := hv (l.length - 1) (by omega)
        have h2 := h.at_ (l.length - 1) (by omega)
        omega
  · rw [getD_push, getD_push, if_pos (show i < l.length by omega)]
    by_cases c : i + 1 < l.length
    · rw [if_pos c]; exact h.st i c
    · rw [if_neg c, if_pos (by omega)]
      have h1 := hv i (by omega)
      dsimp only; omega
theorem set_rowR {c : List Rd} {j : Nat} {p : Rd} (hj : j < c.length) (k : Nat) (hk : k < c.length) : fl eRd (c.set j p) k = if k = j then eRd p else fl eRd c k := by
  show eRd _ = _
  by_cases e : k = j
  · rw [if_pos e]; subst e
    rw [List.getD_eq_getElem?_getD, List.getElem?_set_self hk]; rfl
  · rw [if_neg e]
    show _ = eRd _
    rw [List.getD_eq_getElem?_getD, List.getElem?_set_ne (fun h => e h.symm), List.getD_eq_getElem?_getD]
theorem set_getR {c : List Rd} {j : Nat} {p : Rd} (k : Nat) (hk : k < c.length) : (c.set j p).getD k default = if k = j then p else c.getD k default := by
  by_cases e : k = j
  · rw [if_pos e]; subst e
    rw [List.getD_eq_getElem?_getD, List.getElem?_set_self hk]; rfl
  · rw [if_neg e]
    rw [List.getD_eq_getElem?_getD, List.getElem?_set_ne (fun h => e h.symm), List.getD_eq_getElem?_getD]

set_option maxRecDepth 100000 in
set_option maxHeartbeats 8000000 in
theorem call8 (l : List Int) (x : Int) : PureCall Try.prog 8 [.sl 1 1 l.length (fl eInt l), .int .i64 x] [] ⟨.bool true, [], []⟩ := by
  refine pure_call mix Try.func8 fits8 rfl ?_
  conv => whnf
  refine ⟨_, fun _ => call_new 1 l, ?_⟩
  conv => whnf
  refine ⟨?_, ?_⟩
  · (try conv => whnf)
    (repeat' (first | exact True.intro | exact fun _ h => h | refine inR64_of ?_ ?_ | apply And.intro | refine maxLen_ge ?_)) <;> (first | omega | (dsimp only; omega) | (dsimp only [List.length_cons, List.length_nil]; omega) | (intro hg; rw [hg]; rfl) | (intro hg hh; rw [hg, hh]; rfl) | (intro hg; simp [-List.getD_eq_getElem?_getD, -Int.default_eq_zero] at hg; first | omega | (refine inR64_of ?_ ?_ <;> omega) | (constructor <;> omega)) | (simp [-List.getD_eq_getElem?_getD, -Int.default_eq_zero]; done))
  refine LSem.adopt 7 1000000 48 4 4 rfl rfl ?_
  refine LSem.loop (n := 118) mix (α := List Rd × Int × Dk) (fun s => Small s.1 ∧ (∀ i, i + 1 = s.1.length → (s.1.getD i default).v = s.2.1) ∧ (s.1.length = 0 → s.2.1 = 100) ∧ (0 ≤ s.2.1 ∧ s.2.1 ≤ 1000) ∧ s.2.2.at_ ≤ 2 * s.1.length)
    (fun s => [(1, .int .i64 x), (5, .pt 288 0 0), (6, .pt 96 0 0), (7, .os 1000000), (8, .int .i64 s.2.1), (9, .int .i64 s.1.length)])
    (fun s => [(288, .box (eDk 1 s.2.2)), (96, .box (eCk ckF)), (1000000, .row 0 48 4 s.1.length (fl eRd s.1))]) (fun s => 16 - s.1.length) ([], 100, ⟨l, 0⟩) ?_ ?_ ?_
  · refine ⟨⟨by simp, fun i hi => by simp at hi, fun i hi => by simp at hi⟩, fun i hi => by simp at hi, fun _ => rfl, (by show 0 ≤ (100 : Int) ∧ (100 : Int) ≤ 1000; omega), Nat.le_refl _⟩
  · refine ⟨rfl, rfl, ?_, ?_⟩
    all_goals repeat' (first | exact True.intro | refine leF_cons rfl ?_ ?_ | refine leS_cons rfl ?_ ?_ | (show PLe _ _ _ _; conv => whnf) | (show SLe _ _ _ _; conv => whnf) | (show PLeL _ _ _ _; conv => whnf) | apply And.intro | rfl | exact Nat.le_refl _ | exact fun _ _ => rfl | exact rowEq0 _ _)
  · intro s hs
    obtain ⟨L, v, d⟩ := s
    obtain ⟨h1, h2, h3, h4, h5⟩ := hs
    dsimp only at h1 h2 h3 h4 h5 ⊢
    have hL := h1.len
    have r1 := nxt_lt d (n := 14) (by omega)
    have a1 := nxtD_at d 14
    have r2 := nxt_lt (nxtD d 14) (n := 11) (by omega)
    have a2 := nxtD_at (nxtD d 14) 11
    conv => whnf
    refine ⟨_, fun _ => call_next 1 d 14 (by omega) (by omega), ?_⟩
    conv => whnf
    refine ⟨?_, fun hc => ?_, fun hc => ?_⟩
    · (try conv => whnf)
      (repeat' (first | exact True.intro | exact fun _ h => h | refine inR64_of ?_ ?_ | apply And.intro | refine maxLen_ge ?_)) <;> (first | omega | (dsimp only; omega) | (dsimp only [List.length_cons, List.length_nil]; omega) | (intro hg; rw [hg]; rfl) | (intro hg hh; rw [hg, hh]; rfl) | (intro hg; simp [-List.getD_eq_getElem?_getD, -Int.default_eq_zero] at hg; first | omega | (refine inR64_of ?_ ?_ <;> omega) | (constructor <;> omega)) | (simp [-List.getD_eq_getElem?_getD, -Int.default_eq_zero]; done))
    · replace hc := of_decide_eq_true hc
      have hlt : L.length < 16 := by omega
      have hps := fl_push eRd L ⟨0, L.length, v + (nxt (nxtD d 14) 11 - 5), 0⟩
      have hsp := small_push h1 hlt h2 h3 (w := v + (nxt (nxtD d 14) 11 - 5)) (by omega)
      have hlp : (L ++ [(⟨0, L.length, v + (nxt (nxtD d 14) 11 - 5), 0⟩ : Rd)]).length = L.length + 1 := by rw [List.length_append]; rfl
      have hvp : ∀ i, i + 1 = (L ++ [(⟨0, L.length, v + (nxt (nxtD d 14) 11 - 5), 0⟩ : Rd)]).length → ((L ++ [(⟨0, L.length, v + (nxt (nxtD d 14) 11 - 5), 0⟩ : Rd)]).getD i default).v = v + (nxt (nxtD d 14) 11 - 5) := fun i hi => by
        rw [getD_push, if_neg (by omega), if_pos (by omega)]
      have hv0 : 0 ≤ v + (nxt (nxtD d 14) 11 - 5) ∧ v + (nxt (nxtD d 14) 11 - 5) ≤ 1000 := by
        have := hsp.at_ L.length (by omega)
        rw [getD_push, if_neg (by omega), if_pos rfl] at this
        dsimp only at this; omega
      conv => whnf
      refine ⟨_, fun _ => call_next 1 (nxtD d 14) 11 (by omega) (by omega), ?_⟩
      generalize L ++ [(⟨0, L.length, v + (nxt (nxtD d 14) 11 - 5), 0⟩ : Rd)] = L' at hps hsp hlp hvp
      conv => whnf
      refine ⟨?_, (L', v + (nxt (nxtD d 14) 11 - 5), nxtD (nxtD d 14) 11), ⟨hsp, hvp, fun h => by dsimp only at h; omega, hv0, by dsimp only; omega⟩, ?_, rfl, rfl, ?_, ?_⟩
      · (try conv => whnf)
        (repeat' (first | exact True.intro | exact fun _ h => h | refine inR64_of ?_ ?_ | apply And.intro | refine maxLen_ge ?_)) <;> (first | omega | (dsimp only; omega) | (dsimp only [List.length_cons, List.length_nil]; omega) | (intro hg; rw [hg]; rfl) | (intro hg hh; rw [hg, hh]; rfl) | (intro hg; simp [-List.getD_eq_getElem?_getD, -Int.default_eq_zero] at hg; first | omega | (refine inR64_of ?_ ?_ <;> omega) | (constructor <;> omega)) | (simp [-List.getD_eq_getElem?_getD, -Int.default_eq_zero]; done))
      · dsimp only; omega
      all_goals repeat' (first | exact True.intro | refine leF_cons rfl ?_ ?_ | refine leS_cons rfl ?_ ?_ | (show PLe _ _ _ _; conv => whnf) | (show SLe _ _ _ _; conv => whnf) | (show PLeL _ _ _ _; conv => whnf) | apply And.intro | rfl | exact Nat.le_refl _ | exact fun _ _ => rfl | exact rowEq0 _ _)
      all_goals (try dsimp only)
      all_goals first | omega | (show L.length + 1 = _; omega) | exact hps | skip
    · replace hc := of_decide_eq_false hc
      have hL2 : 2 ≤ L.length := by omega
      have vg := verdicts_good h1
      conv => whnf
      refine ⟨_, fun _ => call25 ckF L (by omega), ?_⟩
      rw [vg]
      conv => whnf
      refine ⟨_, fun _ => call_mod x ((L.length : Int) - 1) (by omega) (by omega), ?_⟩
      have hx : 0 ≤ x % ((L.length : Int) - 1) ∧ x % ((L.length : Int) - 1) < (L.length : Int) - 1 := ⟨Int.emod_nonneg _ (by omega), Int.emod_lt_of_pos _ (by omega)⟩
      generalize x % ((L.length : Int) - 1) = q at hx ⊢
      obtain ⟨i, hi⟩ : ∃ i : Nat, 1 + q = i := ⟨(1 + q).toNat, by omega⟩
      have hin : (1 + q).toNat = i := by omega
      have hM : ∀ j, j < L.length → (L.set i ⟨(L.getD i default).g, (L.getD i default).t, 9, (L.getD i default).f⟩).getD j default = if j = i then ⟨(L.getD i default).g, (L.getD i default).t, 9, (L.getD i default).f⟩ else L.getD j default := fun j hj => set_getR j hj
      have hMl : (L.set i ⟨(L.getD i default).g, (L.getD i default).t, 9, (L.getD i default).f⟩).length = L.length := List.length_set ..
      have vb := verdicts_bad h1 (i := i) (by omega) hMl hM
      have hrow : ∀ k, k < L.length → fl eRd (L.set i ⟨(L.getD i default).g, (L.getD i default).t, 9, (L.getD i default).f⟩) k = if k = i then eRd ⟨(L.getD i default).g, (L.getD i default).t, 9, (L.getD i default).f⟩ else fl eRd L k := fun k hk => set_rowR (by omega) k hk
      generalize L.set i ⟨(L.getD i default).g, (L.getD i default).t, 9, (L.getD i default).f⟩ = M at hMl vb hrow
      conv => whnf
      refine ⟨_, fun _ => PureCall.arg_le (call25 ckF M (by omega)) rfl (by
        all_goals repeat' (first | exact True.intro | refine leF_cons rfl ?_ ?_ | refine leS_cons rfl ?_ ?_ | (show PLe _ _ _ _; conv => whnf) | (show SLe _ _ _ _; conv => whnf) | (show PLeL _ _ _ _; conv => whnf) | apply And.intro | rfl | exact Nat.le_refl _ | exact fun _ _ => rfl | exact rowEq0 _ _)
        · omega
        · intro k hk
          rw [hin]
          dsimp only
          rw [hrow k hk]
          by_cases e : k = i
          · rw [if_pos e, if_pos e]; rfl
          · rw [if_neg e, if_neg e]), ?_⟩
      rw [vb]
      have hbl : (badO i L.length).length = L.length := by simp [badO]
      have hbg : ∀ j, j < L.length → (badO i L.length).getD j default = if j = i then 3 else 1 := fun j hj => by
        unfold badO
        rw [List.getD_eq_getElem?_getD, List.getElem?_map, List.getElem?_range hj]; rfl
      have hrg : ∀ j, j < L.length → (List.replicate L.length (1 : Int)).getD j default = 1 := fun j hj => by
        rw [List.getD_eq_getElem?_getD, List.getElem?_replicate, if_pos hj]; rfl
      have hrl : (List.replicate L.length (1 : Int)).length = L.length := List.length_replicate ..
      generalize badO i L.length = B at hbl hbg ⊢
      generalize List.replicate L.length (1 : Int) = G at hrl hrg ⊢
      conv => whnf
      refine ⟨?_, fun hc2 => ?_, fun _ => ?_⟩
      · (try conv => whnf)
        (repeat' (first | exact True.intro | exact fun _ h => h | refine inR64_of ?_ ?_ | apply And.intro | refine maxLen_ge ?_)) <;> (first | omega | (dsimp only; omega) | (dsimp only [List.length_cons, List.length_nil]; omega) | (intro hg; rw [hg]; rfl) | (intro hg hh; rw [hg, hh]; rfl) | (intro hg; simp [-List.getD_eq_getElem?_getD, -Int.default_eq_zero] at hg; first | omega | (refine inR64_of ?_ ?_ <;> omega) | (constructor <;> omega)) | (simp [-List.getD_eq_getElem?_getD, -Int.default_eq_zero]; done))
      · exfalso
        simp only [bif_t, bif_f, decide_eq_true_eq, decide_eq_false_iff_not, Bool.not_eq_true', Bool.not_eq_false', Bool.and_eq_true, Bool.or_eq_true, Bool.and_eq_false_iff, Bool.or_eq_false_iff, beq_iff_eq, bne_iff_ne, beq_eq_false_iff_ne, bne_eq_false_iff_eq, reduceCtorEq, false_and, and_false, true_and, and_true, or_false, false_or, or_true, true_or, not_true_eq_false, not_false_eq_true, Int.toNat_zero] at hc2
        omega
      conv => whnf
      refine ⟨?_, ?_⟩
      · (try conv => whnf)
        (repeat' (first | exact True.intro | exact fun _ h => h | refine inR64_of ?_ ?_ | apply And.intro | refine maxLen_ge ?_)) <;> (first | omega | (dsimp only; omega) | (dsimp only [List.length_cons, List.length_nil]; omega) | (intro hg; rw [hg]; rfl) | (intro hg hh; rw [hg, hh]; rfl) | (intro hg; simp [-List.getD_eq_getElem?_getD, -Int.default_eq_zero] at hg; first | omega | (refine inR64_of ?_ ?_ <;> omega) | (constructor <;> omega)) | (simp [-List.getD_eq_getElem?_getD, -Int.default_eq_zero]; done))
      refine LSem.loop (n := 118) mix (α := Nat) (fun k => k ≤ L.length)
        (fun k => [(10, .sl 0 1 G.length (fl eInt G)), (12, .int .i64 (1 + q)), (14, .sl 0 1 B.length (fl eInt B)), (83, .int .i64 L.length), (84, .int .i64 k)])
        (fun k => []) (fun k => L.length - k) 0 ?_ ?_ ?_
      · exact Nat.zero_le _
      · refine ⟨rfl, rfl, ?_, ?_⟩
        all_goals repeat' (first | exact True.intro | refine leF_cons rfl ?_ ?_ | refine leS_cons rfl ?_ ?_ | (show PLe _ _ _ _; conv => whnf) | (show SLe _ _ _ _; conv => whnf) | (show PLeL _ _ _ _; conv => whnf) | apply And.intro | rfl | exact Nat.le_refl _ | exact fun _ _ => rfl | exact rowEq0 _ _)
      · intro k hk
        have hjk : ((k : Int)).toNat = k := by omega
        conv => whnf
        refine ⟨trivial, fun hc3 => ?_, fun hc3 => ?_⟩
        · replace hc3 := of_decide_eq_true hc3
          have hlt : k < L.length := by omega
          have hb := hbg k hlt
          have hr := hrg k hlt
          conv => whnf
          refine ⟨?_, fun hc4 => ?_, fun _ => ?_⟩
          · (try conv => whnf)
            (repeat' (first | exact True.intro | exact fun _ h => h | refine inR64_of ?_ ?_ | apply And.intro | refine maxLen_ge ?_)) <;> (first | omega | (dsimp only; omega) | (dsimp only [List.length_cons, List.length_nil]; omega) | (intro hg; rw [hg]; rfl) | (intro hg hh; rw [hg, hh]; rfl) | (intro hg; simp [-List.getD_eq_getElem?_getD, -Int.default_eq_zero] at hg; first | omega | (refine inR64_of ?_ ?_ <;> omega) | (constructor <;> omega)) | (simp [-List.getD_eq_getElem?_getD, -Int.default_eq_zero]; done))
          · exfalso
            rw [hjk, hr, hb, hi] at hc4
            simp only [bif_t, bif_f, decide_eq_true_eq, decide_eq_false_iff_not, Bool.not_eq_true', Bool.not_eq_false', Bool.and_eq_true, Bool.or_eq_true, Bool.and_eq_false_iff, Bool.or_eq_false_iff, beq_iff_eq, bne_iff_ne, beq_eq_false_iff_ne, bne_eq_false_iff_eq, reduceCtorEq, false_and, and_false, true_and, and_true, or_false, false_or, or_true, true_or, not_true_eq_false, not_false_eq_true, Int.toNat_zero] at hc4
            by_cases e : k = i
            · rw [if_pos e] at hc4; omega
            · rw [if_neg e] at hc4; omega
          conv => whnf
          refine ⟨?_, k + 1, (by omega : k + 1 ≤ L.length), ?_, rfl, rfl, ?_, ?_⟩
          · (try conv => whnf)
            (repeat' (first | exact True.intro | exact fun _ h => h | refine inR64_of ?_ ?_ | apply And.intro | refine maxLen_ge ?_)) <;> (first | omega | (dsimp only; omega) | (dsimp only [List.length_cons, List.length_nil]; omega) | (intro hg; rw [hg]; rfl) | (intro hg hh; rw [hg, hh]; rfl) | (intro hg; simp [-List.getD_eq_getElem?_getD, -Int.default_eq_zero] at hg; first | omega | (refine inR64_of ?_ ?_ <;> omega) | (constructor <;> omega)) | (simp [-List.getD_eq_getElem?_getD, -Int.default_eq_zero]; done))
          · omega
          all_goals repeat' (first | exact True.intro | refine leF_cons rfl ?_ ?_ | refine leS_cons rfl ?_ ?_ | (show PLe _ _ _ _; conv => whnf) | (show SLe _ _ _ _; conv => whnf) | (show PLeL _ _ _ _; conv => whnf) | apply And.intro | rfl | exact Nat.le_refl _ | exact fun _ _ => rfl | exact rowEq0 _ _)
          all_goals omega
        · replace hc3 := of_decide_eq_false hc3
          conv => whnf
          refine ⟨_, fun _ => call14, ?_⟩
          conv => whnf
          refine ⟨?_, [], ?_⟩
          · (try conv => whnf)
            (repeat' (first | exact True.intro | exact fun _ h => h | refine inR64_of ?_ ?_ | apply And.intro | refine maxLen_ge ?_)) <;> (first | omega | (dsimp only; omega) | (dsimp only [List.length_cons, List.length_nil]; omega) | (intro hg; rw [hg]; rfl) | (intro hg hh; rw [hg, hh]; rfl) | (intro hg; simp [-List.getD_eq_getElem?_getD, -Int.default_eq_zero] at hg; first | omega | (refine inR64_of ?_ ?_ <;> omega) | (constructor <;> omega)) | (simp [-List.getD_eq_getElem?_getD, -Int.default_eq_zero]; done))
          conv => whnf
          refine ⟨rfl, ?_, trivial, trivial⟩
          all_goals repeat' (first | exact True.intro | refine leF_cons rfl ?_ ?_ | refine leS_cons rfl ?_ ?_ | (show PLe _ _ _ _; conv => whnf) | (show SLe _ _ _ _; conv => whnf) | (show PLeL _ _ _ _; conv => whnf) | apply And.intro | rfl | exact Nat.le_refl _ | exact fun _ _ => rfl | exact rowEq0 _ _)
end Pv
end Go.Proofs.Ytogoplhikmmggaa
