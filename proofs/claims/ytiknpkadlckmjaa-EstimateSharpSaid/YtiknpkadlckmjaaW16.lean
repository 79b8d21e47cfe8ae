/- LAW 29: the statement on measures that exclude each other. -/
import Derived.Test.YtiknpkadlckmjaaW13
namespace Go.Proofs.Ytiknpkadlckmjaa
namespace Pv
def c3L1 : C := (.seq (.reg [⟨(some 34), 544, none, .bi false .lss (.t 33) (.t 32)⟩])
  (.seq (.cond (.t 34) .skip (.exit 0))
  (.seq (.block 1 (.seq (.reg [⟨(some 35), 560, none, .ia 1 (.t 31) (.t 33)⟩,
    ⟨(some 36), 576, none, .ld 1 false (.t 35)⟩,
    ⟨(some 10), 160, none, .mv (.t 36)⟩])
  (.seq (.reg [⟨(some 37), 592, none, .mv (.t 8)⟩,
    ⟨(some 38), 608, none, .mv (.t 5)⟩,
    ⟨(some 39), 624, none, .call (.c (.fn (.func 12) [] [])) [(.t 38), (.c (.int .i64 5))]⟩,
    ⟨(some 40), 640, none, .bi false .add (.c (.int .i64 1)) (.t 39)⟩,
    ⟨(some 41), 656, none, .bi false .add (.t 37) (.t 40)⟩,
    ⟨(some 8), 128, none, .mv (.t 41)⟩])
  (.reg [⟨(some 42), 672, none, .mv (.t 7)⟩,
    ⟨(some 43), 688, none, .mv (.t 8)⟩,
    ⟨(some 44), 704, none, .mv (.t 10)⟩,
    ⟨(some 45), 720, none, .cv false .i64 (.t 44)⟩,
    ⟨(some 46), 736, none, .bi false .rem (.t 45) (.c (.int .i64 110))⟩,
    ⟨(some 47), 752, none, .mv (.t 5)⟩,
    ⟨(some 48), 768, none, .call (.c (.fn (.func 12) [] [])) [(.t 47), (.c (.int .i64 12))]⟩,
    ⟨(some 49), 784, none, .bd [(.int .i64 0), (.int .i64 0), (.int .i64 0)] [(0, 1, (.t 43)), (1, 1, (.t 46)), (2, 1, (.t 48))]⟩,
    ⟨(some 50), 800, none, .bs 34 3 [(.t 49)]⟩,
    ⟨(some 51), 816, none, .app 34 3 24 (.t 42) (.t 50)⟩,
    ⟨(some 7), 112, none, .mv (.t 51)⟩]))))
  (.reg [⟨(some 52), 832, none, .bi false .add (.t 33) (.c (.int .i64 1))⟩,
    ⟨(some 33), 528, none, .mv (.t 52)⟩]))))
def c3L3 : C := (.seq (.reg [⟨(some 86), 1376, none, .bi false .lss (.t 85) (.t 84)⟩])
  (.seq (.cond (.t 86) .skip (.exit 4))
  (.seq (.block 5 (.seq (.reg [⟨(some 87), 1392, none, .ia 3 (.t 83) (.t 85)⟩,
    ⟨(some 88), 1408, none, .ld 3 true (.t 87)⟩,
    ⟨(some 15), 240, none, .al [(.int .i64 0), (.int .i64 0), (.int .i64 0)]⟩,
    ⟨none, 0, none, .st 3 (.t 15) (.t 88)⟩])
  (.seq (.reg [⟨(some 89), 1424, none, .fa 2 (.t 13)⟩,
    ⟨(some 90), 1440, none, .ld 1 false (.t 89)⟩,
    ⟨(some 91), 1456, none, .fa 2 (.t 15)⟩,
    ⟨(some 92), 1472, none, .ld 1 false (.t 91)⟩,
    ⟨(some 93), 1488, none, .bi false .add (.t 90) (.t 92)⟩,
    ⟨(some 94), 1504, none, .fa 2 (.t 6)⟩,
    ⟨(some 95), 1520, none, .ld 1 false (.t 94)⟩,
    ⟨(some 96), 1536, none, .fa 0 (.t 13)⟩,
    ⟨(some 97), 1552, none, .ld 1 false (.t 96)⟩,
    ⟨(some 98), 1568, none, .fa 0 (.t 15)⟩,
    ⟨(some 99), 1584, none, .ld 1 false (.t 98)⟩,
    ⟨(some 100), 1600, none, .bi false .sub (.t 97) (.t 99)⟩,
    ⟨(some 101), 1616, none, .bi false .mul (.t 95) (.t 100)⟩,
    ⟨(some 102), 1632, none, .bi false .add (.t 93) (.t 101)⟩,
    ⟨(some 16), 256, none, .mv (.t 102)⟩])
  (.reg [⟨(some 103), 1648, none, .mv (.t 11)⟩,
    ⟨(some 104), 1664, none, .mv (.t 103)⟩,
    ⟨(some 105), 1680, (some (104, false)), .fa 1 (.t 13)⟩,
    ⟨(some 106), 1696, (some (104, false)), .ld 1 false (.t 105)⟩,
    ⟨(some 107), 1712, (some (104, false)), .fa 1 (.t 15)⟩,
    ⟨(some 108), 1728, (some (104, false)), .ld 1 false (.t 107)⟩,
    ⟨(some 109), 1744, (some (104, false)), .bi false .sub (.t 106) (.t 108)⟩,
    ⟨(some 110), 1760, (some (104, false)), .fa 1 (.t 15)⟩,
    ⟨(some 111), 1776, (some (104, false)), .ld 1 false (.t 110)⟩,
    ⟨(some 112), 1792, (some (104, false)), .fa 1 (.t 13)⟩,
    ⟨(some 113), 1808, (some (104, false)), .ld 1 false (.t 112)⟩,
    ⟨(some 114), 1824, (some (104, false)), .bi false .sub (.t 111) (.t 113)⟩,
    ⟨(some 115), 1840, (some (104, false)), .mx [(.t 109), (.t 114)]⟩,
    ⟨(some 116), 1856, (some (104, false)), .mv (.t 16)⟩,
    ⟨(some 117), 1872, (some (104, false)), .bi false .gtr (.t 115) (.t 116)⟩,
    ⟨(some 118), 1888, none, .pick (.t 104) (.c (.bool true)) (.t 117)⟩,
    ⟨(some 11), 176, none, .mv (.t 118)⟩]))))
  (.reg [⟨(some 119), 1904, none, .bi false .add (.t 85) (.c (.int .i64 1))⟩,
    ⟨(some 85), 1360, none, .mv (.t 119)⟩]))))
def c3L2 : C := (.seq (.reg [⟨(some 56), 896, none, .bi false .lss (.t 55) (.t 54)⟩])
  (.seq (.cond (.t 56) .skip (.exit 2))
  (.seq (.block 3 (.seq (.reg [⟨(some 57), 912, none, .mv (.t 55)⟩,
    ⟨(some 58), 928, none, .ia 3 (.t 53) (.t 55)⟩,
    ⟨(some 59), 944, none, .ld 3 true (.t 58)⟩,
    ⟨(some 13), 208, none, .al [(.int .i64 0), (.int .i64 0), (.int .i64 0)]⟩,
    ⟨(some 12), 192, none, .mv (.t 57)⟩,
    ⟨none, 0, none, .st 3 (.t 13) (.t 59)⟩])
  (.seq (.reg [⟨(some 60), 960, none, .mv (.t 11)⟩,
    ⟨(some 61), 976, none, .mv (.t 60)⟩,
    ⟨(some 62), 992, (some (61, false)), .fa 1 (.t 13)⟩,
    ⟨(some 63), 1008, (some (61, false)), .ld 1 false (.t 62)⟩,
    ⟨(some 64), 1024, (some (61, false)), .fa 2 (.t 13)⟩,
    ⟨(some 65), 1040, (some (61, false)), .ld 1 false (.t 64)⟩,
    ⟨(some 66), 1056, (some (61, false)), .bi false .add (.t 63) (.t 65)⟩,
    ⟨(some 67), 1072, (some (61, false)), .fa 0 (.t 6)⟩,
    ⟨(some 68), 1088, (some (61, false)), .ld 1 false (.t 67)⟩,
    ⟨(some 69), 1104, (some (61, false)), .bi false .lss (.t 66) (.t 68)⟩,
    ⟨(some 70), 1120, none, .pick (.t 61) (.c (.bool true)) (.t 69)⟩,
    ⟨(some 71), 1136, none, .mv (.t 70)⟩,
    ⟨(some 72), 1152, (some (71, false)), .fa 1 (.t 13)⟩,
    ⟨(some 73), 1168, (some (71, false)), .ld 1 false (.t 72)⟩,
    ⟨(some 74), 1184, (some (71, false)), .fa 2 (.t 13)⟩,
    ⟨(some 75), 1200, (some (71, false)), .ld 1 false (.t 74)⟩,
    ⟨(some 76), 1216, (some (71, false)), .bi false .sub (.t 73) (.t 75)⟩,
    ⟨(some 77), 1232, (some (71, false)), .fa 1 (.t 6)⟩,
    ⟨(some 78), 1248, (some (71, false)), .ld 1 false (.t 77)⟩,
    ⟨(some 79), 1264, (some (71, false)), .bi false .gtr (.t 76) (.t 78)⟩,
    ⟨(some 80), 1280, none, .pick (.t 71) (.c (.bool true)) (.t 79)⟩,
    ⟨(some 11), 176, none, .mv (.t 80)⟩])
  (.seq (.reg [⟨(some 81), 1296, none, .mv (.t 7)⟩,
    ⟨(some 82), 1312, none, .mv (.t 12)⟩,
    ⟨(some 83), 1328, none, .slc 3 (.t 81) none (some (.t 82))⟩,
    ⟨(some 84), 1344, none, .len (.t 83)⟩,
    ⟨(some 85), 1360, none, .mv (.c (.int .i64 0))⟩])
  (.block 4 (.loop c3L3))))))
  (.reg [⟨(some 120), 1920, none, .bi false .add (.t 55) (.c (.int .i64 1))⟩,
    ⟨(some 55), 880, none, .mv (.t 120)⟩]))))
def c3 : C := (.seq (.reg [⟨(some 4), 64, none, .mv (.c (.bool false))⟩])
  (.seq (.seq (.reg [⟨(some 17), 272, none, .call (.c (.fn (.func 8) [] [])) []⟩,
    ⟨(some 18), 288, none, .un false .not (.t 17)⟩])
  (.cond (.t 18) (.seq (.reg [⟨(some 4), 64, none, .mv (.c (.bool false))⟩])
  .ret) .skip))
  (.seq (.seq (.reg [⟨(some 19), 304, none, .mv (.t 0)⟩,
    ⟨(some 20), 320, none, .call (.c (.fn (.func 9) [] [])) [(.t 19)]⟩,
    ⟨(some 21), 336, none, .un false .not (.t 20)⟩,
    ⟨(some 22), 352, none, .mv (.t 21)⟩,
    ⟨(some 23), 368, (some (22, false)), .mv (.t 1)⟩,
    ⟨(some 24), 384, (some (22, false)), .len (.t 23)⟩,
    ⟨(some 25), 400, (some (22, false)), .bi false .gtr (.t 24) (.c (.int .i64 30))⟩,
    ⟨(some 26), 416, none, .pick (.t 22) (.c (.bool true)) (.t 25)⟩])
  (.cond (.t 26) (.seq (.reg [⟨(some 4), 64, none, .mv (.c (.bool true))⟩])
  .ret) .skip))
  (.seq (.reg [⟨(some 27), 432, none, .mv (.t 0)⟩,
    ⟨(some 28), 448, none, .call (.c (.fn (.func 10) [] [])) [(.t 27)]⟩,
    ⟨(some 5), 80, none, .mv (.t 28)⟩])
  (.seq (.reg [⟨(some 29), 464, none, .mv (.t 5)⟩,
    ⟨(some 30), 480, none, .call (.c (.fn (.func 11) [] [])) [(.t 29)]⟩,
    ⟨(some 6), 96, none, .al [(.int .i64 0), (.int .i64 0), (.int .i64 0), (.int .i64 0)]⟩,
    ⟨none, 0, none, .st 4 (.t 6) (.t 30)⟩])
  (.seq (.reg [⟨(some 7), 112, none, .mv (.c (.nil 3))⟩])
  (.seq (.reg [⟨(some 8), 128, none, .mv (.c (.int .i64 0))⟩])
  (.seq (.seq (.reg [⟨(some 31), 496, none, .mv (.t 1)⟩,
    ⟨(some 32), 512, none, .len (.t 31)⟩,
    ⟨(some 33), 528, none, .mv (.c (.int .i64 0))⟩])
  (.block 0 (.loop c3L1)))
  (.seq (.reg [⟨(some 11), 176, none, .mv (.c (.bool false))⟩])
  (.seq (.seq (.reg [⟨(some 53), 848, none, .mv (.t 7)⟩,
    ⟨(some 54), 864, none, .len (.t 53)⟩,
    ⟨(some 55), 880, none, .mv (.c (.int .i64 0))⟩])
  (.block 2 (.loop c3L2)))
  (.seq (.reg [⟨(some 121), 1936, none, .mv (.t 7)⟩,
    ⟨(some 122), 1952, none, .ld 4 true (.t 6)⟩,
    ⟨(some 123), 1968, none, .call (.c (.fn (.func 13) [] [])) [(.t 121), (.t 122)]⟩,
    ⟨(some 124), 1984, none, .bi false .eql (.t 123) (.c (.int .i64 48))⟩,
    ⟨(some 125), 2000, none, .mv (.t 11)⟩,
    ⟨(some 126), 2016, none, .bib false (.t 124) (.t 125)⟩,
    ⟨(some 4), 64, none, .mv (.t 126)⟩])
  .ret)))))))))))
theorem fits3 : fits Try.prog false Try.f3 2 127 [(4, none)] = some c3.er := by kernel_rfl

def eU8 (x : Int) : List PV := [.int .u8 x]
/-- The measures that are made of bytes. -/
def mkl : Int → List Int → Dk → List Me × Dk
  | _, [], d => ([], d)
  | a, x :: xs, d => (⟨a + (1 + nxt d 5), x.tmod 110, nxt (nxtD d 5) 12⟩ :: (mkl (a + (1 + nxt d 5)) xs (nxtD (nxtD d 5) 12)).1, (mkl (a + (1 + nxt d 5)) xs (nxtD (nxtD d 5) 12)).2)
theorem mkl_dk : ∀ (xs : List Int) (a : Int) (d : Dk), (mkl a xs d).2.l = d.l
  | [], a, d => by rw [mkl]
  | x :: xs, a, d => by rw [mkl]; dsimp only; rw [mkl_dk xs, nxtD_len, nxtD_len]

theorem mkl_props : ∀ (xs : List Int) (a : Int) (d : Dk), (∀ x ∈ xs, 0 ≤ x ∧ x ≤ 255) → ∀ m ∈ (mkl a xs d).1, a < m.t ∧ m.t ≤ a + 5 * xs.length ∧ 0 ≤ m.v ∧ m.v ≤ 109 ∧ 0 ≤ m.o ∧ m.o ≤ 11
  | [], a, d, h, m, hm => by rw [mkl] at hm; simp at hm
  | x :: xs, a, d, h, m, hm => by
    rw [mkl] at hm
    have r1 := nxt_rng d 5
    have r2 := nxt_rng (nxtD d 5) 12
    have hx := h x (by simp)
    rcases List.mem_cons.1 hm with rfl | hm
    · have e := Int.tmod_eq_emod_of_nonneg (b := 110) hx.1
      dsimp only
      rw [e]
      simp only [List.length_cons]
      omega
    · have := mkl_props xs _ _ (fun y hy => h y (by simp [hy])) m hm
      simp only [List.length_cons]
      omega

/-- A measure and the limits exclude each other; two measures do. -/
def exL (c : Ck) (m : Me) : Bool := bif decide (m.v + m.o < c.lo) then true else decide (c.hi < m.v - m.o)
def exP (c : Ck) (m n : Me) : Bool := decide (m.o + n.o + c.j * (m.t - n.t) < mx (m.v - n.v) (n.v - m.v))
def badIn (c : Ck) (l : List Me) (i : Nat) : Bool := exL c (l.getD i default) || (List.range i).any fun j => exP c (l.getD i default) (l.getD j default)
def badF (c : Ck) (l : List Me) : Bool := (List.range l.length).any (badIn c l)

theorem scan_some {f : Nat → Int} : ∀ {n i : Nat}, scan f i n ≠ 0 → ∃ k, i ≤ k ∧ k < i + n ∧ f k ≠ 0 ∧ scan f i n = f k
  | 0, i, h => by simp [scan] at h
  | n + 1, i, h => by
    by_cases hf : f i = 0
    · rw [scan_step (by omega) hf] at h ⊢
      obtain ⟨k, h1, h2, h3, h4⟩ := scan_some h
      exact ⟨k, by omega, by omega, h3, h4⟩
    · exact ⟨i, by omega, by omega, hf, scan_hit (by omega) hf⟩

theorem mkl_inc : ∀ (xs : List Int) (a : Int) (d : Dk), (∀ x ∈ xs, 0 ≤ x ∧ x ≤ 255) → (mkl a xs d).1.Pairwise (fun m n => m.t < n.t)
  | [], a, d, h => by rw [mkl]; exact List.Pairwise.nil
  | x :: xs, a, d, h => by
    rw [mkl]
    refine List.Pairwise.cons (fun m hm => ?_) (mkl_inc xs _ _ (fun y hy => h y (by simp [hy])))
    exact (mkl_props xs _ _ (fun y hy => h y (by simp [hy])) m hm).1

theorem mx_tri (a b J : Int) (hJ : 0 ≤ J) : J * (a - b) ≤ J * mx a (0 - a) + J * mx b (0 - b) ∧ J * (b - a) ≤ J * mx a (0 - a) + J * mx b (0 - b) := by
  rw [← Int.mul_add, mx_eq, mx_eq]
  exact ⟨Int.mul_le_mul_of_nonneg_left (by omega) hJ, Int.mul_le_mul_of_nonneg_left (by omega) hJ⟩
theorem mx_pos (a J : Int) (hJ : 0 ≤ J) : 0 ≤ J * mx a (0 - a) := Int.mul_nonneg hJ (by rw [mx_eq]; omega)

theorem contradict_law {c : Ck} {l : List Me} (hc : SmallC c) (hlen : l.length ≤ 400) (hp : ∀ m ∈ l, 0 ≤ m.t ∧ m.t ≤ 1000 ∧ 0 ≤ m.v ∧ m.v ≤ 109 ∧ 0 ≤ m.o ∧ m.o ≤ 11) (hi : l.Pairwise (fun m n => m.t < n.t)) : (checkF l c == 48) = badF c l := by
  obtain ⟨c1, c2, c3, c4, c5, c6⟩ := hc
  have hlim : limitsF c = 0 := by unfold limitsF; rw [if_neg (by omega)]
  have hget : ∀ i, i < l.length → l[i]? = some (l.getD i default) := fun i h => getD_some h
  have hlt : ∀ i j, j < i → i < l.length → (l.getD j default).t < (l.getD i default).t := fun i j hj hi' => by
    have := List.pairwise_iff_getElem.1 hi j i (by omega) hi' hj
    simpa [List.getD_eq_getElem?_getD, hi', show j < l.length from by omega] using this
  have herr : scan (errAt l) 0 l.length = 0 := by
    cases Classical.em (scan (errAt l) 0 l.length = 0) with
    | inl h => exact h
    | inr h =>
      exfalso
      obtain ⟨k, _, hk, hf, _⟩ := scan_some h
      have hm := hp _ (getD_mem (l := l) (i := k) (by omega))
      refine hf ?_
      unfold errAt
      rw [if_neg (by omega), if_neg ?_, if_neg (by omega)]
      rintro ⟨h0, h1⟩
      have := hlt k (k - 1) (by omega) (by omega)
      omega
  rw [check_wide hlim hlen herr]
  have hbad : badF c l = true ↔ ∃ i, i < l.length ∧ (exL c (l.getD i default) = true ∨ ∃ j, j < i ∧ exP c (l.getD i default) (l.getD j default) = true) := by
    simp [badF, badIn, -List.getD_eq_getElem?_getD]
  have hw : ∀ k, widAt l c k = 0 ∨ widAt l c k = 48 := fun k => by unfold widAt; split <;> simp
  have main : scan (widAt l c) 0 l.length ≠ 0 ↔ badF c l = true := by
    rw [hbad]
    constructor
    · intro h
      obtain ⟨k, _, hk, hf, _⟩ := scan_some h
      obtain ⟨h1, h2, h3, h4, h5⟩ := boundsF_is l c (l.getD k default).t
      have hwide : (boundsF l c (l.getD k default).t).lo > (boundsF l c (l.getD k default).t).hi := by
        unfold widAt at hf
        split at hf
        · assumption
        · exact absurd rfl hf
      have exl : ∀ m, (m.v + m.o < c.lo ∨ c.hi < m.v - m.o) → exL c m = true := fun m h => by unfold exL; simp; omega
      have hr : ∀ m : Me, 0 ≤ c.j * mx (m.t - (l.getD k default).t) (0 - (m.t - (l.getD k default).t)) := fun m => mx_pos _ _ c4
      rcases h4 with h4 | ⟨i, m, hi', hm, h4⟩
      · rcases h5 with h5 | ⟨j, n, hj, hn, h5⟩
        · omega
        · rw [hget j hj] at hn; injection hn with hn
          refine ⟨j, hj, .inl (exl _ (.inl ?_))⟩
          have := hr n
          rw [hn]; unfold reach at h5; omega
      · rw [hget i hi'] at hm; injection hm with hm
        have hm' := hr m
        have ho := hp _ (getD_mem (l := l) (i := i) hi')
        rw [hm] at ho
        rcases h5 with h5 | ⟨j, n, hj, hn, h5⟩
        · refine ⟨i, hi', .inl (exl _ (.inr ?_))⟩
          rw [hm]; unfold reach at h4; omega
        · rw [hget j hj] at hn; injection hn with hn
          have hn' := hr n
          have ho' := hp _ (getD_mem (l := l) (i := j) hj)
          rw [hn] at ho'
          obtain ⟨t1, t2⟩ := mx_tri (m.t - (l.getD k default).t) (n.t - (l.getD k default).t) c.j c4
          rw [show m.t - (l.getD k default).t - (n.t - (l.getD k default).t) = m.t - n.t by omega] at t1
          rw [show n.t - (l.getD k default).t - (m.t - (l.getD k default).t) = n.t - m.t by omega] at t2
          unfold reach at h4 h5
          rcases Nat.lt_trichotomy i j with hij | hij | hij
          · refine ⟨j, hj, .inr ⟨i, hij, ?_⟩⟩
            rw [hm, hn]; unfold exP; rw [mx_eq]; exact decide_eq_true (by omega)
          · subst hij
            rw [hm] at hn; subst hn; omega
          · refine ⟨i, hi', .inr ⟨j, hij, ?_⟩⟩
            rw [hm, hn]; unfold exP; rw [mx_eq]; exact decide_eq_true (by omega)
    · rintro ⟨i, hi', hex⟩ h0
      have h6 := scan_zero h0 i (by omega) (by omega)
      obtain ⟨h1, h2, h3, h4, h5⟩ := boundsF_is l c (l.getD i default).t
      have hnar : ¬ (boundsF l c (l.getD i default).t).lo > (boundsF l c (l.getD i default).t).hi := by
        intro hh
        unfold widAt at h6
        rw [if_pos hh] at h6; omega
      have hself := h3 i _ hi' (hget i hi')
      have hre : reach (l.getD i default) c (l.getD i default).t = (l.getD i default).o := by unfold reach; rw [mx_eq]; simp
      rw [hre] at hself
      rcases hex with hex | ⟨j, hj, hex⟩
      · unfold exL at hex; simp [-List.getD_eq_getElem?_getD] at hex; omega
      · have ho := h3 j _ (by omega) (hget j (by omega))
        have hlj := hlt i j hj hi'
        have hrj : reach (l.getD j default) c (l.getD i default).t = (l.getD j default).o + c.j * ((l.getD i default).t - (l.getD j default).t) := by
          unfold reach; rw [mx_eq, show max ((l.getD j default).t - (l.getD i default).t) (0 - ((l.getD j default).t - (l.getD i default).t)) = (l.getD i default).t - (l.getD j default).t by omega]
        rw [hrj] at ho
        unfold exP at hex
        have hex' := of_decide_eq_true hex
        rw [mx_eq] at hex'
        omega
  cases hb : badF c l with
  | true =>
    have h0 := main.2 hb
    obtain ⟨k, _, _, hf, he⟩ := scan_some h0
    rw [he]
    rcases hw k with h | h
    · exact absurd h hf
    · rw [h]; rfl
  | false =>
    have h0 : scan (widAt l c) 0 l.length = 0 := by
      cases Classical.em (scan (widAt l c) 0 l.length = 0) with
      | inl h => exact h
      | inr h => have := main.1 h; rw [hb] at this; cases this
    rw [h0]; rfl

theorem call3 (t : List Int) (vs : List Int) (τ : Nat) (hv : ∀ x ∈ vs, inR .u8 x) : PureCall Try.prog 3 [.sl 1 1 t.length (fl eInt t), .sl τ 1 vs.length (fl eU8 vs)] [] ⟨.bool true, [], []⟩ := by
  refine pure_call mix Try.func3 fits3 rfl ?_
  conv => whnf
  refine ⟨_, fun _ => call8, ?_⟩
  conv => whnf
  refine ⟨by simp, fun hc => absurd hc (by simp), fun _ => ?_⟩
  conv => whnf
  refine ⟨_, fun _ => call9 1 t, ?_⟩
  conv => whnf
  refine ⟨?_, fun hc => ?_, fun hc => ?_⟩
  · (try conv => whnf)
    (repeat' (first | exact True.intro | exact fun _ h => h | refine inR64_of ?_ ?_ | apply And.intro | refine maxLen_ge ?_)) <;> (first | omega | (dsimp only; omega) | (dsimp only [List.length_cons, List.length_nil]; omega) | (intro hg; rw [hg]; rfl) | (intro hg hh; rw [hg, hh]; rfl) | (intro hg; simp [-List.getD_eq_getElem?_getD, -Int.default_eq_zero] at hg; first | omega | (refine inR64_of ?_ ?_ <;> omega) | (constructor <;> omega)) | (simp [-List.getD_eq_getElem?_getD, -Int.default_eq_zero]; done))
  · conv => whnf
    refine ⟨?_, [], ?_⟩
    · (try conv => whnf)
      (repeat' (first | exact True.intro | exact fun _ h => h | refine inR64_of ?_ ?_ | apply And.intro | refine maxLen_ge ?_)) <;> (first | omega | (dsimp only; omega) | (dsimp only [List.length_cons, List.length_nil]; omega) | (intro hg; rw [hg]; rfl) | (intro hg hh; rw [hg, hh]; rfl) | (intro hg; simp [-List.getD_eq_getElem?_getD, -Int.default_eq_zero] at hg; first | omega | (refine inR64_of ?_ ?_ <;> omega) | (constructor <;> omega)) | (simp [-List.getD_eq_getElem?_getD, -Int.default_eq_zero]; done))
    conv => whnf
    refine ⟨rfl, ?_, trivial, trivial⟩
    all_goals repeat' (first | exact True.intro | refine leF_cons rfl ?_ ?_ | refine leS_cons rfl ?_ ?_ | (show PLe _ _ _ _; conv => whnf) | (show SLe _ _ _ _; conv => whnf) | (show PLeL _ _ _ _; conv => whnf) | apply And.intro | rfl | exact Nat.le_refl _ | exact fun _ _ => rfl | exact rowEq0 _ _)
  · simp [-List.getD_eq_getElem?_getD, -Int.default_eq_zero] at hc
    obtain ⟨ht, hvl⟩ := hc
    conv => whnf
    refine ⟨_, fun _ => call10 1 t, ?_⟩
    conv => whnf
    refine ⟨_, fun _ => call11 ⟨t, 0⟩ (by dsimp only; omega), ?_⟩
    have hk := checksF_small ⟨t, 0⟩
    have hkl := checksF_len ⟨t, 0⟩
    generalize checksF ⟨t, 0⟩ = K at hk hkl ⊢
    obtain ⟨c, D⟩ := K
    conv => whnf
    refine ⟨?_, ?_⟩
    · (try conv => whnf)
      (repeat' (first | exact True.intro | exact fun _ h => h | refine inR64_of ?_ ?_ | apply And.intro | refine maxLen_ge ?_)) <;> (first | omega | (dsimp only; omega) | (dsimp only [List.length_cons, List.length_nil]; omega) | (intro hg; rw [hg]; rfl) | (intro hg hh; rw [hg, hh]; rfl) | (intro hg; simp [-List.getD_eq_getElem?_getD, -Int.default_eq_zero] at hg; first | omega | (refine inR64_of ?_ ?_ <;> omega) | (constructor <;> omega)) | (simp [-List.getD_eq_getElem?_getD, -Int.default_eq_zero]; done))
    refine LSem.adopt 7 1000000 34 3 3 rfl rfl ?_
    refine LSem.loop (n := 127) mix (α := Nat × List Me × Int × Dk) (fun s => s.1 ≤ vs.length ∧ s.2.1.length = s.1 ∧ s.2.1 ++ (mkl s.2.2.1 (vs.drop s.1) s.2.2.2).1 = (mkl 0 vs D).1 ∧ 0 ≤ s.2.2.1 ∧ s.2.2.1 ≤ 5 * s.1 ∧ s.2.2.2.l.length ≤ 1000)
      (fun s => [(5, .pt 448 0 0), (6, .pt 96 0 0), (7, .os 1000000), (8, .int .i64 s.2.2.1), (31, .sl τ 1 vs.length (fl eU8 vs)), (32, .int .i64 vs.length), (33, .int .i64 s.1)])
      (fun s => [(448, .box (eDk 1 s.2.2.2)), (96, .box (eCk c)), (1000000, .row 0 34 3 s.2.1.length (fl eMe s.2.1))]) (fun s => vs.length - s.1) (0, [], 0, D) ?_ ?_ ?_
    · refine ⟨Nat.zero_le _, rfl, rfl, Int.le_refl _, Int.le_refl _, ?_⟩
      dsimp only at hkl ⊢; rw [hkl]; omega
    · refine ⟨rfl, rfl, ?_, ?_⟩
      all_goals repeat' (first | exact True.intro | refine leF_cons rfl ?_ ?_ | refine leS_cons rfl ?_ ?_ | (show PLe _ _ _ _; conv => whnf) | (show SLe _ _ _ _; conv => whnf) | (show PLeL _ _ _ _; conv => whnf) | apply And.intro | rfl | exact Nat.le_refl _ | exact fun _ _ => rfl | exact rowEq0 _ _)
    · intro s hs
      obtain ⟨h1, h2, h3, h4, h5, h6⟩ := hs
      conv => whnf
      refine ⟨trivial, fun hc1 => ?_, fun hc1 => ?_⟩
      · replace hc1 := dec_iff hc1
        simp only [if_true] at hc1
        conv => whnf
        refine ⟨_, fun _ => call12 1 s.2.2.2 5 h6 (by omega), ?_⟩
        conv => whnf
        refine ⟨_, fun _ => call12 1 (nxtD s.2.2.2 5) 12 (by rw [nxtD_len]; exact h6) (by omega), ?_⟩
        conv => whnf
        have hx := hv _ (getD_mem (l := vs) (i := ((s.1 : Int)).toNat) (by omega))
        have hx' : 0 ≤ vs.getD ((s.1 : Int)).toNat default ∧ vs.getD ((s.1 : Int)).toNat default ≤ 255 := by
          unfold inR at hx; simp only [IntKind.min, IntKind.max, IntKind.signed, IntKind.bits] at hx; simpa using hx
        have r1 := nxt_rng s.2.2.2 5
        have hdrop : vs.drop s.1 = vs.getD s.1 default :: vs.drop (s.1 + 1) := by
          rw [List.drop_eq_getElem_cons (by omega)]; congr 1
          rw [List.getD_eq_getElem?_getD, List.getElem?_eq_getElem (by omega)]; rfl
        rw [hdrop, mkl] at h3
        refine ⟨?_, (s.1 + 1, s.2.1 ++ [⟨s.2.2.1 + (1 + nxt s.2.2.2 5), (vs.getD s.1 default).tmod 110, nxt (nxtD s.2.2.2 5) 12⟩], s.2.2.1 + (1 + nxt s.2.2.2 5), nxtD (nxtD s.2.2.2 5) 12), ⟨?_, ?_, ?_, ?_, ?_, ?_⟩, ?_, rfl, rfl, ?_, ?_⟩
        · (try conv => whnf)
          (repeat' (first | exact True.intro | exact fun _ h => h | refine inR64_of ?_ ?_ | apply And.intro | refine maxLen_ge ?_)) <;> (first | omega | (dsimp only; omega) | (dsimp only [List.length_cons, List.length_nil]; omega) | (intro hg; rw [hg]; rfl) | (intro hg hh; rw [hg, hh]; rfl) | (intro hg; simp [-List.getD_eq_getElem?_getD, -Int.default_eq_zero] at hg; first | omega | (refine inR64_of ?_ ?_ <;> omega) | (constructor <;> omega)) | (simp [-List.getD_eq_getElem?_getD, -Int.default_eq_zero]; done))
        · dsimp only; omega
        · simp; omega
        · dsimp only at h3 ⊢; rw [← h3, List.append_assoc]; rfl
        · dsimp only; omega
        · dsimp only; omega
        · dsimp only; rw [nxtD_len, nxtD_len]; exact h6
        · dsimp only; omega
        all_goals repeat' (first | exact True.intro | refine leF_cons rfl ?_ ?_ | refine leS_cons rfl ?_ ?_ | (show PLe _ _ _ _; conv => whnf) | (show SLe _ _ _ _; conv => whnf) | (show PLeL _ _ _ _; conv => whnf) | apply And.intro | rfl | exact Nat.le_refl _ | exact fun _ _ => rfl | exact rowEq0 _ _)
        · simp
        · exact fl_push eMe s.2.1 ⟨s.2.2.1 + (1 + nxt s.2.2.2 5), (vs.getD s.1 default).tmod 110, nxt (nxtD s.2.2.2 5) 12⟩
      · replace hc1 := dec_iff hc1
        simp only [Bool.false_eq_true, if_false] at hc1
        have hL : s.2.1 = (mkl 0 vs D).1 := by
          rw [← h3, List.drop_eq_nil_of_le (by omega), mkl]; simp
        have hlen : s.2.1.length ≤ 30 := by omega
        have hex : ∃ vs a d, s.2.1 = (mkl a vs d).1 := ⟨vs, 0, D, hL⟩
        have hinc : s.2.1.Pairwise (fun m n => m.t < n.t) := by
          rw [hL]
          exact mkl_inc vs 0 D (fun x hx => by
            have h := hv x hx
            unfold inR at h; simp only [IntKind.min, IntKind.max, IntKind.signed, IntKind.bits] at h; simpa using h)
        have hpr : ∀ m ∈ s.2.1, 0 ≤ m.t ∧ m.t ≤ 1000 ∧ 0 ≤ m.v ∧ m.v ≤ 109 ∧ 0 ≤ m.o ∧ m.o ≤ 11 := fun m hm => by
          rw [hL] at hm
          have := mkl_props vs 0 D (fun x hx => by
            have h := hv x hx
            unfold inR at h; simp only [IntKind.min, IntKind.max, IntKind.signed, IntKind.bits] at h; simpa using h) m hm
          omega
        clear h3 hL
        generalize s.2.1 = l at hlen hex hpr hinc ⊢
        conv => whnf
        have hp : ∀ m ∈ l, 0 ≤ m.t ∧ m.t ≤ 1000 ∧ 0 ≤ m.v ∧ m.v ≤ 109 ∧ 0 ≤ m.o ∧ m.o ≤ 11 := hpr
        obtain ⟨c1, c2, c3', c4, c5, c6⟩ := hk
        refine ⟨trivial, ?_⟩
        refine LSem.loop (n := 127) mix (α := Nat) (fun i => i ≤ l.length)
          (fun i => [(6, .pt 96 0 0), (7, .sl 0 3 l.length (fl eMe l)), (11, .bool ((List.range i).any (badIn c l))), (53, .sl 0 3 l.length (fl eMe l)), (54, .int .i64 l.length), (55, .int .i64 i)])
          (fun i => [(96, .box (eCk c))]) (fun i => l.length - i) 0 ?_ ?_ ?_
        · omega
        · refine ⟨rfl, rfl, ?_, ?_⟩
          all_goals repeat' (first | exact True.intro | refine leF_cons rfl ?_ ?_ | refine leS_cons rfl ?_ ?_ | (show PLe _ _ _ _; conv => whnf) | (show SLe _ _ _ _; conv => whnf) | (show PLeL _ _ _ _; conv => whnf) | apply And.intro | rfl | exact Nat.le_refl _ | exact fun _ _ => rfl | exact rowEq0 _ _)
        · intro i hi
          conv => whnf
          refine ⟨trivial, fun hc2 => ?_, fun hc2 => ?_⟩
          · replace hc2 := dec_iff hc2
            simp only [if_true] at hc2
            have hm := hp _ (getD_mem (l := l) (i := ((i : Int)).toNat) (by omega))
            dsimp only at c1 c2 c3' c4 c5 c6
            conv => whnf
            refine ⟨?_, ?_⟩
            · (try conv => whnf)
              (repeat' (first | exact True.intro | exact fun _ h => h | refine inR64_of ?_ ?_ | apply And.intro | refine maxLen_ge ?_)) <;> (first | omega | (dsimp only; omega) | (dsimp only [List.length_cons, List.length_nil]; omega) | (intro hg; rw [hg]; rfl) | (intro hg hh; rw [hg, hh]; rfl) | (intro hg; simp [-List.getD_eq_getElem?_getD, -Int.default_eq_zero] at hg; first | omega | (refine inR64_of ?_ ?_ <;> omega) | (constructor <;> omega)) | (simp [-List.getD_eq_getElem?_getD, -Int.default_eq_zero]; done))
            refine LSem.loop (n := 127) mix (α := Nat) (fun j => j ≤ i)
              (fun j => [(6, .pt 96 0 0), (7, .sl 0 3 l.length (fl eMe l)), (11, .bool ((List.range i).any (badIn c l) || exL c (l.getD i default) || (List.range j).any fun k => exP c (l.getD i default) (l.getD k default))), (53, .sl 0 3 l.length (fl eMe l)), (54, .int .i64 l.length), (55, .int .i64 i),
                (13, .pt 208 0 0), (83, .sl 0 3 i (fl eMe l)), (84, .int .i64 i), (85, .int .i64 j)])
              (fun j => [(96, .box (eCk c)), (208, .box (eMe (l.getD i default)))]) (fun j => i - j) 0 ?_ ?_ ?_
            · omega
            · refine ⟨rfl, rfl, ?_, ?_⟩
              all_goals repeat' (first | exact True.intro | refine leF_cons rfl ?_ ?_ | refine leS_cons rfl ?_ ?_ | (show PLe _ _ _ _; conv => whnf) | (show SLe _ _ _ _; conv => whnf) | (show PLeL _ _ _ _; conv => whnf) | apply And.intro | rfl | exact Nat.le_refl _ | exact fun _ _ => rfl | exact rowEq0 _ _)
              all_goals (simp [exL, Bool.or_assoc])
            · intro j hj
              conv => whnf
              refine ⟨trivial, fun hc3 => ?_, fun hc3 => ?_⟩
              · replace hc3 := dec_iff hc3
                simp only [if_true] at hc3
                have hn := hp _ (getD_mem (l := l) (i := ((j : Int)).toNat) (by omega))
                have hm' : 0 ≤ (l.getD i default).t ∧ (l.getD i default).t ≤ 1000 ∧ 0 ≤ (l.getD i default).v ∧ (l.getD i default).v ≤ 109 ∧ 0 ≤ (l.getD i default).o ∧ (l.getD i default).o ≤ 11 := hm
                have hmul : -8000 ≤ c.j * ((l.getD i default).t - (l.getD ((j : Int)).toNat default).t) ∧ c.j * ((l.getD i default).t - (l.getD ((j : Int)).toNat default).t) ≤ 8000 := by
                  have e : c.j = 0 ∨ c.j = 1 ∨ c.j = 2 ∨ c.j = 3 ∨ c.j = 4 ∨ c.j = 5 ∨ c.j = 6 ∨ c.j = 7 ∨ c.j = 8 := by omega
                  rcases e with e | e | e | e | e | e | e | e | e <;> rw [e] <;> omega
                conv => whnf
                refine ⟨?_, j + 1, by omega, by omega, rfl, rfl, ?_, ?_⟩
                · (try conv => whnf)
                  (repeat' (first | exact True.intro | exact fun _ h => h | refine inR64_of ?_ ?_ | apply And.intro | refine maxLen_ge ?_)) <;> (first | omega | (dsimp only; omega) | (dsimp only [List.length_cons, List.length_nil]; omega) | (intro hg; rw [hg]; rfl) | (intro hg hh; rw [hg, hh]; rfl) | (intro hg; simp [-List.getD_eq_getElem?_getD, -Int.default_eq_zero] at hg; first | omega | (refine inR64_of ?_ ?_ <;> omega) | (constructor <;> omega)) | (simp [-List.getD_eq_getElem?_getD, -Int.default_eq_zero]; done))
                all_goals repeat' (first | exact True.intro | refine leF_cons rfl ?_ ?_ | refine leS_cons rfl ?_ ?_ | (show PLe _ _ _ _; conv => whnf) | (show SLe _ _ _ _; conv => whnf) | (show PLeL _ _ _ _; conv => whnf) | apply And.intro | rfl | exact Nat.le_refl _ | exact fun _ _ => rfl | exact rowEq0 _ _)
                rw [List.range_succ, List.any_append, ← Bool.or_assoc]
                cases ((List.range i).any (badIn c l) || exL c (l.getD i default) || (List.range j).any fun k => exP c (l.getD i default) (l.getD k default)) with
                | true => rfl
                | false => rw [show ((j : Int)).toNat = j from by omega]; simp [exP, mx]
              · replace hc3 := dec_iff hc3
                simp only [Bool.false_eq_true, if_false] at hc3
                have hji : j = i := by omega
                subst hji
                conv => whnf
                refine ⟨?_, j + 1, by omega, by omega, rfl, rfl, ?_, ?_⟩
                · (try conv => whnf)
                  (repeat' (first | exact True.intro | exact fun _ h => h | refine inR64_of ?_ ?_ | apply And.intro | refine maxLen_ge ?_)) <;> (first | omega | (dsimp only; omega) | (dsimp only [List.length_cons, List.length_nil]; omega) | (intro hg; rw [hg]; rfl) | (intro hg hh; rw [hg, hh]; rfl) | (intro hg; simp [-List.getD_eq_getElem?_getD, -Int.default_eq_zero] at hg; first | omega | (refine inR64_of ?_ ?_ <;> omega) | (constructor <;> omega)) | (simp [-List.getD_eq_getElem?_getD, -Int.default_eq_zero]; done))
                all_goals repeat' (first | exact True.intro | refine leF_cons rfl ?_ ?_ | refine leS_cons rfl ?_ ?_ | (show PLe _ _ _ _; conv => whnf) | (show SLe _ _ _ _; conv => whnf) | (show PLeL _ _ _ _; conv => whnf) | apply And.intro | rfl | exact Nat.le_refl _ | exact fun _ _ => rfl | exact rowEq0 _ _)
                all_goals (simp [List.range_succ, badIn, Bool.or_assoc])
          · replace hc2 := dec_iff hc2
            simp only [Bool.false_eq_true, if_false] at hc2
            have hil : i = l.length := by omega
            subst hil
            conv => whnf
            refine ⟨_, fun _ => call13 1 l c, ?_⟩
            conv => whnf
            refine ⟨?_, [], ?_⟩
            · (try conv => whnf)
              (repeat' (first | exact True.intro | exact fun _ h => h | refine inR64_of ?_ ?_ | apply And.intro | refine maxLen_ge ?_)) <;> (first | omega | (dsimp only; omega) | (dsimp only [List.length_cons, List.length_nil]; omega) | (intro hg; rw [hg]; rfl) | (intro hg hh; rw [hg, hh]; rfl) | (intro hg; simp [-List.getD_eq_getElem?_getD, -Int.default_eq_zero] at hg; first | omega | (refine inR64_of ?_ ?_ <;> omega) | (constructor <;> omega)) | (simp [-List.getD_eq_getElem?_getD, -Int.default_eq_zero]; done))
            conv => whnf
            refine ⟨rfl, ?_, trivial, trivial⟩
            all_goals repeat' (first | exact True.intro | refine leF_cons rfl ?_ ?_ | refine leS_cons rfl ?_ ?_ | (show PLe _ _ _ _; conv => whnf) | (show SLe _ _ _ _; conv => whnf) | (show PLeL _ _ _ _; conv => whnf) | apply And.intro | rfl | exact Nat.le_refl _ | exact fun _ _ => rfl | exact rowEq0 _ _)
            rw [contradict_law ⟨c1, c2, c3', c4, c5, c6⟩ (by omega) hp hinc]
            simp [badF]
end Pv
end Go.Proofs.Ytiknpkadlckmjaa
