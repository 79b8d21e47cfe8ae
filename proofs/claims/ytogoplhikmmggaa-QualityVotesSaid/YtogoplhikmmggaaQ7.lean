/- LAW 08: QualityVotes. -/
import Derived.Test.YtogoplhikmmggaaQ4
set_option linter.unusedSimpArgs false
set_option linter.unusedVariables false
namespace Go.Proofs.Ytogoplhikmmggaa
namespace Pv
def c3L1 : C := (.seq (.reg [⟨(some 33), 528, none, .bi false .lss (.t 32) (.t 31)⟩])
  (.seq (.cond (.t 33) .skip (.exit 0))
  (.seq (.block 1 (.seq (.reg [⟨(some 34), 544, none, .mv (.t 32)⟩,
    ⟨(some 11), 176, none, .mv (.t 34)⟩])
  (.seq (.reg [⟨(some 35), 560, none, .mv (.t 5)⟩,
    ⟨(some 36), 576, none, .mv (.t 11)⟩,
    ⟨(some 37), 592, none, .ia 1 (.t 35) (.t 36)⟩,
    ⟨(some 38), 608, none, .ld 1 false (.t 37)⟩])
  (.cond (.t 38) (.seq (.reg [⟨(some 39), 624, none, .mv (.t 8)⟩,
    ⟨(some 40), 640, none, .bi false .add (.t 39) (.c (.int .i64 1))⟩,
    ⟨(some 8), 128, none, .mv (.t 40)⟩])
  (.seq (.seq (.reg [⟨(some 41), 656, none, .mv (.t 4)⟩,
    ⟨(some 42), 672, none, .mv (.t 11)⟩,
    ⟨(some 43), 688, none, .ia 1 (.t 41) (.t 42)⟩,
    ⟨(some 44), 704, none, .ld 1 false (.t 43)⟩,
    ⟨(some 45), 720, none, .mv (.t 6)⟩,
    ⟨(some 46), 736, none, .bi false .geq (.t 44) (.t 45)⟩])
  (.cond (.t 46) (.reg [⟨(some 47), 752, none, .mv (.t 9)⟩,
    ⟨(some 48), 768, none, .bi false .add (.t 47) (.c (.int .i64 1))⟩,
    ⟨(some 9), 144, none, .mv (.t 48)⟩]) .skip))
  (.seq (.reg [⟨(some 49), 784, none, .mv (.t 4)⟩,
    ⟨(some 50), 800, none, .mv (.t 11)⟩,
    ⟨(some 51), 816, none, .ia 1 (.t 49) (.t 50)⟩,
    ⟨(some 52), 832, none, .ld 1 false (.t 51)⟩,
    ⟨(some 53), 848, none, .mv (.t 6)⟩,
    ⟨(some 54), 864, none, .bi false .leq (.t 52) (.t 53)⟩])
  (.cond (.t 54) (.reg [⟨(some 55), 880, none, .mv (.t 10)⟩,
    ⟨(some 56), 896, none, .bi false .add (.t 55) (.c (.int .i64 1))⟩,
    ⟨(some 10), 160, none, .mv (.t 56)⟩]) .skip)))) .skip))))
  (.reg [⟨(some 57), 912, none, .bi false .add (.t 32) (.c (.int .i64 1))⟩,
    ⟨(some 32), 512, none, .mv (.t 57)⟩]))))
def c3L2 : C := (.seq (.seq (.reg [⟨(some 72), 1152, none, .mv (.t 14)⟩,
    ⟨(some 73), 1168, none, .bi false .geq (.t 72) (.c (.int .i64 0))⟩])
  (.cond (.t 73) .skip (.exit 2)))
  (.seq (.block 3 (.drw [⟨(some 76), 1216, none, .mv (.t 12)⟩,
    ⟨(some 77), 1232, none, .mv (.t 4)⟩,
    ⟨(some 78), 1248, none, .mv (.t 14)⟩,
    ⟨(some 79), 1264, none, .ia 1 (.t 77) (.t 78)⟩,
    ⟨(some 80), 1280, none, .ld 1 false (.t 79)⟩,
    ⟨(some 81), 1296, none, .bs 3 1 [(.t 80)]⟩,
    ⟨(some 82), 1312, none, .app 3 1 8 (.t 76) (.t 81)⟩,
    ⟨(some 83), 1328, none, .mv (.t 13)⟩,
    ⟨(some 84), 1344, none, .mv (.t 5)⟩,
    ⟨(some 85), 1360, none, .mv (.t 14)⟩,
    ⟨(some 86), 1376, none, .ia 1 (.t 84) (.t 85)⟩,
    ⟨(some 87), 1392, none, .ld 1 false (.t 86)⟩,
    ⟨(some 88), 1408, none, .bs 4 1 [(.t 87)]⟩,
    ⟨(some 89), 1424, none, .app 4 1 1 (.t 83) (.t 88)⟩,
    ⟨(some 12), 192, none, .mv (.t 82)⟩,
    ⟨(some 13), 208, none, .mv (.t 89)⟩]
    [(0, 1, 76), (0, 2, 76), (0, 3, 76), (0, 4, 76), (0, 5, 76), (0, 7, 76), (0, 8, 76), (0, 9, 76), (0, 10, 76), (0, 11, 76), (0, 12, 76), (1, 2, 77), (1, 7, 77), (1, 8, 77), (1, 9, 77), (1, 10, 77), (1, 11, 77), (1, 12, 77), (2, 7, 78), (2, 8, 78), (2, 9, 78), (2, 10, 78), (2, 11, 78), (2, 12, 78), (3, 7, 79), (3, 8, 79), (3, 9, 79), (3, 10, 79), (3, 11, 79), (3, 12, 79), (4, 7, 80), (4, 8, 80), (4, 9, 80), (4, 10, 80), (4, 11, 80), (4, 12, 80), (5, 7, 81), (5, 8, 81), (5, 9, 81), (5, 10, 81), (5, 11, 81), (5, 12, 81), (6, 7, 82), (6, 8, 82), (6, 9, 82), (6, 10, 82), (6, 11, 82), (6, 12, 82), (7, 8, 83), (7, 9, 83), (7, 10, 83), (7, 11, 83), (7, 12, 83), (8, 9, 84)]))
  (.reg [⟨(some 74), 1184, none, .mv (.t 14)⟩,
    ⟨(some 75), 1200, none, .bi false .sub (.t 74) (.c (.int .i64 1))⟩,
    ⟨(some 14), 224, none, .mv (.t 75)⟩])))
def c3 : C := (.seq (.reg [⟨(some 2), 32, none, .mv (.c (.bool false))⟩])
  (.seq (.reg [⟨(some 17), 272, none, .mv (.t 0)⟩,
    ⟨(some 18), 288, none, .call (.c (.fn (.func 11) [] [])) [(.t 17)]⟩,
    ⟨(some 3), 48, none, .mv (.t 18)⟩])
  (.seq (.reg [⟨(some 20), 320, none, .mv (.t 3)⟩,
    ⟨(some 21), 336, none, .call (.c (.fn (.func 12) [] [])) [(.t 20), (.c (.int .i64 12))]⟩,
    ⟨(some 19), 304, none, .mv (.t 21)⟩,
    ⟨(some 22), 352, none, .ex (.t 19) 0⟩,
    ⟨(some 23), 368, none, .ex (.t 19) 1⟩,
    ⟨(some 4), 64, none, .mv (.t 22)⟩,
    ⟨(some 5), 80, none, .mv (.t 23)⟩])
  (.seq (.reg [⟨(some 25), 400, none, .mv (.t 4)⟩,
    ⟨(some 26), 416, none, .mv (.t 5)⟩,
    ⟨(some 27), 432, none, .call (.c (.fn (.func 13) [] [])) [(.t 25), (.t 26)]⟩,
    ⟨(some 24), 384, none, .mv (.t 27)⟩,
    ⟨(some 28), 448, none, .ex (.t 24) 0⟩,
    ⟨(some 29), 464, none, .ex (.t 24) 1⟩,
    ⟨(some 6), 96, none, .mv (.t 28)⟩,
    ⟨(some 7), 112, none, .mv (.t 29)⟩])
  (.seq (.reg [⟨(some 8), 128, none, .mv (.c (.int .i64 0))⟩,
    ⟨(some 9), 144, none, .mv (.c (.int .i64 0))⟩,
    ⟨(some 10), 160, none, .mv (.c (.int .i64 0))⟩])
  (.seq (.seq (.reg [⟨(some 30), 480, none, .mv (.t 4)⟩,
    ⟨(some 31), 496, none, .len (.t 30)⟩,
    ⟨(some 32), 512, none, .mv (.c (.int .i64 0))⟩])
  (.block 0 (.loop c3L1)))
  (.seq (.seq (.reg [⟨(some 58), 928, none, .mv (.t 7)⟩,
    ⟨(some 59), 944, none, .un false .not (.t 58)⟩])
  (.cond (.t 59) (.seq (.reg [⟨(some 60), 960, none, .mv (.t 8)⟩,
    ⟨(some 61), 976, none, .bi false .eql (.t 60) (.c (.int .i64 0))⟩,
    ⟨(some 62), 992, none, .mv (.t 61)⟩,
    ⟨(some 63), 1008, (some (62, true)), .mv (.t 6)⟩,
    ⟨(some 64), 1024, (some (62, true)), .bi false .eql (.t 63) (.c (.int .i64 0))⟩,
    ⟨(some 65), 1040, none, .pick (.t 62) (.t 64) (.c (.bool false))⟩,
    ⟨(some 66), 1056, none, .mv (.t 65)⟩,
    ⟨(some 67), 1072, (some (66, true)), .call (.c (.fn (.func 14) [] [])) []⟩,
    ⟨(some 68), 1088, none, .pick (.t 66) (.t 67) (.c (.bool false))⟩,
    ⟨(some 2), 32, none, .mv (.t 68)⟩])
  .ret) .skip))
  (.seq (.reg [⟨(some 12), 192, none, .mv (.c (.nil 1))⟩])
  (.seq (.reg [⟨(some 13), 208, none, .mv (.c (.nil 1))⟩])
  (.seq (.seq (.reg [⟨(some 69), 1104, none, .mv (.t 4)⟩,
    ⟨(some 70), 1120, none, .len (.t 69)⟩,
    ⟨(some 71), 1136, none, .bi false .sub (.t 70) (.c (.int .i64 1))⟩,
    ⟨(some 14), 224, none, .mv (.t 71)⟩])
  (.block 2 (.loop c3L2)))
  (.seq (.reg [⟨(some 91), 1456, none, .mv (.t 12)⟩,
    ⟨(some 92), 1472, none, .mv (.t 13)⟩,
    ⟨(some 93), 1488, none, .call (.c (.fn (.func 13) [] [])) [(.t 91), (.t 92)]⟩,
    ⟨(some 90), 1440, none, .mv (.t 93)⟩,
    ⟨(some 94), 1504, none, .ex (.t 90) 0⟩,
    ⟨(some 95), 1520, none, .ex (.t 90) 1⟩,
    ⟨(some 15), 240, none, .mv (.t 94)⟩,
    ⟨(some 16), 256, none, .mv (.t 95)⟩])
  (.seq (.reg [⟨(some 96), 1536, none, .mv (.t 16)⟩,
    ⟨(some 97), 1552, none, .mv (.t 96)⟩,
    ⟨(some 98), 1568, (some (97, true)), .mv (.t 6)⟩,
    ⟨(some 99), 1584, (some (97, true)), .mv (.t 15)⟩,
    ⟨(some 100), 1600, (some (97, true)), .bi false .eql (.t 98) (.t 99)⟩,
    ⟨(some 101), 1616, none, .pick (.t 97) (.t 100) (.c (.bool false))⟩,
    ⟨(some 102), 1632, none, .mv (.t 101)⟩,
    ⟨(some 103), 1648, (some (102, true)), .mv (.t 8)⟩,
    ⟨(some 104), 1664, (some (102, true)), .bi false .gtr (.t 103) (.c (.int .i64 0))⟩,
    ⟨(some 105), 1680, none, .pick (.t 102) (.t 104) (.c (.bool false))⟩,
    ⟨(some 106), 1696, none, .mv (.t 105)⟩,
    ⟨(some 107), 1712, (some (106, true)), .mv (.t 9)⟩,
    ⟨(some 108), 1728, (some (106, true)), .bi false .mul (.c (.int .i64 2)) (.t 107)⟩,
    ⟨(some 109), 1744, (some (106, true)), .mv (.t 8)⟩,
    ⟨(some 110), 1760, (some (106, true)), .bi false .gtr (.t 108) (.t 109)⟩,
    ⟨(some 111), 1776, none, .pick (.t 106) (.t 110) (.c (.bool false))⟩,
    ⟨(some 112), 1792, none, .mv (.t 111)⟩,
    ⟨(some 113), 1808, (some (112, true)), .mv (.t 10)⟩,
    ⟨(some 114), 1824, (some (112, true)), .bi false .mul (.c (.int .i64 2)) (.t 113)⟩,
    ⟨(some 115), 1840, (some (112, true)), .mv (.t 8)⟩,
    ⟨(some 116), 1856, (some (112, true)), .bi false .geq (.t 114) (.t 115)⟩,
    ⟨(some 117), 1872, none, .pick (.t 112) (.t 116) (.c (.bool false))⟩,
    ⟨(some 118), 1888, none, .mv (.t 117)⟩,
    ⟨(some 119), 1904, (some (118, true)), .call (.c (.fn (.func 14) [] [])) []⟩,
    ⟨(some 120), 1920, none, .pick (.t 118) (.t 119) (.c (.bool false))⟩,
    ⟨(some 2), 32, none, .mv (.t 120)⟩])
  .ret))))))))))))
theorem fits3 : fits Try.prog false Try.f3 1 121 [(2, none)] = some c3.er := by kernel_rfl

theorem goodL_zip (v : List Int) (g : List Bool) : ∀ n, n ≤ v.length → n ≤ g.length → goodL v g n = (((v.take n).zip (g.take n)).filter Prod.snd).map Prod.fst
  | 0, _, _ => by simp [goodL]
  | n + 1, h1, h2 => by
    have ih := goodL_zip v g n (by omega) (by omega)
    have e1 : v.take (n + 1) = v.take n ++ [v.getD n default] := by
      rw [List.take_add_one, List.getElem?_eq_getElem (by omega), List.getD_eq_getElem?_getD, List.getElem?_eq_getElem (by omega)]; rfl
    have e2 : g.take (n + 1) = g.take n ++ [g.getD n default] := by
      rw [List.take_add_one, List.getElem?_eq_getElem (by omega), List.getD_eq_getElem?_getD, List.getElem?_eq_getElem (by omega)]; rfl
    rw [goodL, ih, e1, e2, List.zip_append (by rw [List.length_take, List.length_take]; omega), List.filter_append, List.map_append]
    cases g.getD n default <;> simp
theorem goodL_rev {v : List Int} {g : List Bool} (h : v.length = g.length) : goodL v.reverse g.reverse v.length = (goodL v g v.length).reverse := by
  rw [goodL_zip _ _ _ (by simp) (by simp; omega), goodL_zip _ _ _ (by omega) (by omega), List.take_of_length_le (by simp), List.take_of_length_le (by simp; omega), List.take_of_length_le (by omega), List.take_of_length_le (by omega)]
  rw [← List.map_reverse, ← List.filter_reverse]
  congr 2
  exact (List.reverse_zipWith h).symm
theorem srt_perm_eq {a b : List Int} (h : a.Perm b) : srt a = srt b := sorted_ext _ _ (srt_sorted a) (srt_sorted b) ((srt_perm a).trans (h.trans (srt_perm b).symm))
theorem vote_rev {v : List Int} {g : List Bool} (h : v.length = g.length) : voteF v.reverse g.reverse = voteF v g := by
  unfold voteF
  rw [List.length_reverse, List.length_reverse, goodL_rev h, List.length_reverse, srt_perm_eq (List.reverse_perm _)]

theorem sorted_le : ∀ {s : List Int}, s.Pairwise (· ≤ ·) → ∀ {i j : Nat}, i ≤ j → j < s.length → s.getD i default ≤ s.getD j default := fun {s} h {i j} hij hj => by
  by_cases e : i = j
  · rw [e]; exact Int.le_refl _
  · have := List.pairwise_iff_getElem.1 h i j (by omega) hj (by omega)
    rwa [List.getD_eq_getElem?_getD, List.getD_eq_getElem?_getD, List.getElem?_eq_getElem (by omega), List.getElem?_eq_getElem hj]
theorem median {s : List Int} (h : s.Pairwise (· ≤ ·)) {k : Nat} (hk : k < s.length) : s.length - k ≤ s.countP (fun x => decide (s.getD k default ≤ x)) ∧ k + 1 ≤ s.countP (fun x => decide (x ≤ s.getD k default)) := by
  constructor
  · conv => rhs; rw [← List.take_append_drop k s]
    rw [List.countP_append]
    have : (s.drop k).countP (fun x => decide ((List.take k s ++ List.drop k s).getD k default ≤ x)) = (s.drop k).length := List.countP_eq_length.2 fun x hx => by
      obtain ⟨i, hi, rfl⟩ := List.getElem_of_mem hx
      rw [List.length_drop] at hi
      rw [List.take_append_drop]
      have := sorted_le h (i := k) (j := k + i) (by omega) (by omega)
      rw [List.getD_eq_getElem?_getD (i := k + i), List.getElem?_eq_getElem (show k + i < s.length by omega)] at this
      simpa using this
    rw [this, List.length_drop]; omega
  · conv => rhs; rw [← List.take_append_drop (k + 1) s]
    rw [List.countP_append]
    have : (s.take (k + 1)).countP (fun x => decide (x ≤ (List.take (k + 1) s ++ List.drop (k + 1) s).getD k default)) = (s.take (k + 1)).length := List.countP_eq_length.2 fun x hx => by
      obtain ⟨i, hi, rfl⟩ := List.getElem_of_mem hx
      rw [List.length_take] at hi
      rw [List.take_append_drop]
      have := sorted_le h (i := i) (j := k) (by omega) (by omega)
      rw [List.getD_eq_getElem?_getD (i := i), List.getElem?_eq_getElem (show i < s.length by omega)] at this
      simpa using this
    rw [this, List.length_take]; omega
theorem vote_law {v : List Int} {g : List Bool} (h : v.length = g.length) :
    ((goodL v g v.length).length = 0 ∧ voteF v g = (0, false)) ∨ ((0 < (goodL v g v.length).length) ∧ (voteF v g).2 = true ∧
      (goodL v g v.length).length < 2 * (goodL v g v.length).countP (fun x => decide ((voteF v g).1 ≤ x)) ∧ (goodL v g v.length).length ≤ 2 * (goodL v g v.length).countP (fun x => decide (x ≤ (voteF v g).1))) := by
  unfold voteF
  rw [if_neg (by omega)]
  generalize goodL v g v.length = L
  by_cases hL : L.length = 0
  · rw [if_pos hL]; exact .inl ⟨hL, rfl⟩
  · rw [if_neg hL]
    refine .inr ⟨by omega, rfl, ?_⟩
    have hs := srt_len L
    have := median (srt_sorted L) (k := (L.length - 1) / 2) (by omega)
    rw [(srt_perm L).countP_eq, (srt_perm L).countP_eq] at this
    dsimp only; omega

def revL {α : Type} (v : List α) (k : Nat) : List α := (v.drop k).reverse
theorem revL_len {α : Type} (v : List α) (k : Nat) : (revL v k).length = v.length - k := by unfold revL; rw [List.length_reverse, List.length_drop]
theorem revL_push {α : Type} [Inhabited α] {v : List α} {k : Nat} (h : k < v.length) : revL v k = revL v (k + 1) ++ [v.getD k default] := by
  unfold revL
  rw [List.drop_eq_getElem_cons h, List.reverse_cons, List.getD_eq_getElem?_getD, List.getElem?_eq_getElem h]; rfl

set_option maxRecDepth 100000 in
set_option maxHeartbeats 4000000 in
theorem call3 (l : List Int) : PureCall Try.prog 3 [.sl 1 1 l.length (fl eInt l)] [] ⟨.bool true, [], []⟩ := by
  refine pure_call mix Try.func3 fits3 rfl ?_
  conv => whnf
  refine ⟨_, fun _ => call_new 1 l, ?_⟩
  conv => whnf
  refine ⟨_, fun _ => call12 ⟨l, 0⟩ 12 (by dsimp only; omega) (by omega), ?_⟩
  obtain ⟨p1, p2, p3, p4⟩ := goods_props ⟨l, 0⟩ (most := 12) (by omega)
  generalize goodsS ⟨l, 0⟩ 12 = S at p1 p2 p3 p4 ⊢
  have hv : ∀ i, i < S.v.length → 0 ≤ S.v.getD i default ∧ S.v.getD i default < 60 := fun i hi => p3 _ (getD_mem hi)
  generalize S.v = v at p1 p2 hv ⊢
  generalize S.g = g at p1 ⊢
  generalize S.d = d
  clear p3 p4
  conv => whnf
  refine ⟨_, fun _ => call13 _ _ v g (by omega), ?_⟩
  have hvl := vote_law p1
  have hvr := vote_rev p1
  generalize hV : voteF v g = V at hvl hvr ⊢
  obtain ⟨a, ok⟩ := V
  dsimp only at hvl
  conv => whnf
  refine ⟨by
    (try conv => whnf)
    (repeat' (first | exact True.intro | exact fun _ h => h | refine inR64_of ?_ ?_ | apply And.intro | refine maxLen_ge ?_)) <;> (first | omega | (dsimp only; omega) | (dsimp only [List.length_cons, List.length_nil]; omega) | (intro hg; rw [hg]; rfl) | (intro hg hh; rw [hg, hh]; rfl) | (intro hg; simp [-List.getD_eq_getElem?_getD, -Int.default_eq_zero] at hg; first | omega | (refine inR64_of ?_ ?_ <;> omega) | (constructor <;> omega)) | (simp [-List.getD_eq_getElem?_getD, -Int.default_eq_zero]; done))
    , ?_⟩
  refine LSem.loop (n := 121) mix (α := Nat) (fun i => i ≤ v.length)
    (fun i => [(4, .sl 0 1 v.length (fl eInt v)), (5, .sl 0 1 g.length (fl eBool g)), (6, .int .i64 a), (7, .bool ok), (8, .int .i64 (goodL v g i).length), (9, .int .i64 ((goodL v g i).countP (fun x => decide (a ≤ x)))), (10, .int .i64 ((goodL v g i).countP (fun x => decide (x ≤ a)))),
      (30, .sl 0 1 v.length (fl eInt v)), (31, .int .i64 v.length), (32, .int .i64 i)])
    (fun i => []) (fun i => v.length - i) 0 ?_ ?_ ?_
  · exact Nat.zero_le _
  · refine ⟨rfl, rfl, ?_, ?_⟩
    all_goals repeat' (first | exact True.intro | refine leF_cons rfl ?_ ?_ | refine leS_cons rfl ?_ ?_ | (show PLe _ _ _ _; conv => whnf) | (show SLe _ _ _ _; conv => whnf) | (show PLeL _ _ _ _; conv => whnf) | apply And.intro | rfl | exact Nat.le_refl _ | exact fun _ _ => rfl | exact rowEq0 _ _)
  · intro i hi
    have hj : ((i : Int)).toNat = i := by omega
    have hgl := goodL_len v g i
    have hc1 : (goodL v g i).countP (fun x => decide (a ≤ x)) ≤ (goodL v g i).length := List.countP_le_length
    have hc2 : (goodL v g i).countP (fun x => decide (x ≤ a)) ≤ (goodL v g i).length := List.countP_le_length
    conv => whnf
    refine ⟨trivial, fun hc => ?_, fun hc => ?_⟩
    · replace hc := of_decide_eq_true hc
      have hlt : i < v.length := by omega
      conv => whnf
      refine ⟨?_, fun hg => ?_, fun hg => ?_⟩
      · (try conv => whnf)
        (repeat' (first | exact True.intro | exact fun _ h => h | refine inR64_of ?_ ?_ | apply And.intro | refine maxLen_ge ?_)) <;> (first | omega | (dsimp only; omega) | (dsimp only [List.length_cons, List.length_nil]; omega) | (intro hg; rw [hg]; rfl) | (intro hg hh; rw [hg, hh]; rfl) | (intro hg; simp [-List.getD_eq_getElem?_getD, -Int.default_eq_zero] at hg; first | omega | (refine inR64_of ?_ ?_ <;> omega) | (constructor <;> omega)) | (simp [-List.getD_eq_getElem?_getD, -Int.default_eq_zero]; done))
      · rw [hj] at hg
        have hst : goodL v g (i + 1) = goodL v g i ++ [v.getD i default] := by rw [goodL, if_pos hg]
        have e0 : (goodL v g (i + 1)).length = (goodL v g i).length + 1 := by rw [hst, List.length_append]; rfl
        have e1 : (goodL v g (i + 1)).countP (fun x => decide (a ≤ x)) = (goodL v g i).countP (fun x => decide (a ≤ x)) + if a ≤ v.getD i default then 1 else 0 := by
          rw [hst, List.countP_append]; simp only [List.countP_cons, List.countP_nil, decide_eq_true_eq]; omega
        have e2 : (goodL v g (i + 1)).countP (fun x => decide (x ≤ a)) = (goodL v g i).countP (fun x => decide (x ≤ a)) + if v.getD i default ≤ a then 1 else 0 := by
          rw [hst, List.countP_append]; simp only [List.countP_cons, List.countP_nil, decide_eq_true_eq]; omega
        conv => whnf
        refine ⟨?_, fun hu => ?_, fun hu => ?_⟩
        · (try conv => whnf)
          (repeat' (first | exact True.intro | exact fun _ h => h | refine inR64_of ?_ ?_ | apply And.intro | refine maxLen_ge ?_)) <;> (first | omega | (dsimp only; omega) | (dsimp only [List.length_cons, List.length_nil]; omega) | (intro hg; rw [hg]; rfl) | (intro hg hh; rw [hg, hh]; rfl) | (intro hg; simp [-List.getD_eq_getElem?_getD, -Int.default_eq_zero] at hg; first | omega | (refine inR64_of ?_ ?_ <;> omega) | (constructor <;> omega)) | (simp [-List.getD_eq_getElem?_getD, -Int.default_eq_zero]; done))
        · rw [hj] at hu
          simp only [bif_t, bif_f, decide_eq_true_eq, decide_eq_false_iff_not, Bool.not_eq_true', Bool.not_eq_false', Bool.and_eq_true, Bool.or_eq_true, Bool.and_eq_false_iff, Bool.or_eq_false_iff, beq_iff_eq, bne_iff_ne, beq_eq_false_iff_ne, bne_eq_false_iff_eq, reduceCtorEq, false_and, and_false, true_and, and_true, or_false, false_or, or_true, true_or, not_true_eq_false, not_false_eq_true, Int.toNat_zero] at hu
          rw [if_pos (by omega)] at e1
          conv => whnf
          refine ⟨?_, fun hw => ?_, fun hw => ?_⟩
          · (try conv => whnf)
            (repeat' (first | exact True.intro | exact fun _ h => h | refine inR64_of ?_ ?_ | apply And.intro | refine maxLen_ge ?_)) <;> (first | omega | (dsimp only; omega) | (dsimp only [List.length_cons, List.length_nil]; omega) | (intro hg; rw [hg]; rfl) | (intro hg hh; rw [hg, hh]; rfl) | (intro hg; simp [-List.getD_eq_getElem?_getD, -Int.default_eq_zero] at hg; first | omega | (refine inR64_of ?_ ?_ <;> omega) | (constructor <;> omega)) | (simp [-List.getD_eq_getElem?_getD, -Int.default_eq_zero]; done))
          · rw [hj] at hw
            simp only [bif_t, bif_f, decide_eq_true_eq, decide_eq_false_iff_not, Bool.not_eq_true', Bool.not_eq_false', Bool.and_eq_true, Bool.or_eq_true, Bool.and_eq_false_iff, Bool.or_eq_false_iff, beq_iff_eq, bne_iff_ne, beq_eq_false_iff_ne, bne_eq_false_iff_eq, reduceCtorEq, false_and, and_false, true_and, and_true, or_false, false_or, or_true, true_or, not_true_eq_false, not_false_eq_true, Int.toNat_zero] at hw
            rw [if_pos (by omega)] at e2
            conv => whnf
            refine ⟨?_, i + 1, (by omega : i + 1 ≤ v.length), ?_, rfl, rfl, ?_, ?_⟩
            · (try conv => whnf)
              (repeat' (first | exact True.intro | exact fun _ h => h | refine inR64_of ?_ ?_ | apply And.intro | refine maxLen_ge ?_)) <;> (first | omega | (dsimp only; omega) | (dsimp only [List.length_cons, List.length_nil]; omega) | (intro hg; rw [hg]; rfl) | (intro hg hh; rw [hg, hh]; rfl) | (intro hg; simp [-List.getD_eq_getElem?_getD, -Int.default_eq_zero] at hg; first | omega | (refine inR64_of ?_ ?_ <;> omega) | (constructor <;> omega)) | (simp [-List.getD_eq_getElem?_getD, -Int.default_eq_zero]; done))
            · omega
            all_goals repeat' (first | exact True.intro | refine leF_cons rfl ?_ ?_ | refine leS_cons rfl ?_ ?_ | (show PLe _ _ _ _; conv => whnf) | (show SLe _ _ _ _; conv => whnf) | (show PLeL _ _ _ _; conv => whnf) | apply And.intro | rfl | exact Nat.le_refl _ | exact fun _ _ => rfl | exact rowEq0 _ _)
            all_goals omega
          · rw [hj] at hw
            simp only [bif_t, bif_f, decide_eq_true_eq, decide_eq_false_iff_not, Bool.not_eq_true', Bool.not_eq_false', Bool.and_eq_true, Bool.or_eq_true, Bool.and_eq_false_iff, Bool.or_eq_false_iff, beq_iff_eq, bne_iff_ne, beq_eq_false_iff_ne, bne_eq_false_iff_eq, reduceCtorEq, false_and, and_false, true_and, and_true, or_false, false_or, or_true, true_or, not_true_eq_false, not_false_eq_true, Int.toNat_zero] at hw
            rw [if_neg (by omega)] at e2
            conv => whnf
            refine ⟨?_, i + 1, (by omega : i + 1 ≤ v.length), ?_, rfl, rfl, ?_, ?_⟩
            · (try conv => whnf)
              (repeat' (first | exact True.intro | exact fun _ h => h | refine inR64_of ?_ ?_ | apply And.intro | refine maxLen_ge ?_)) <;> (first | omega | (dsimp only; omega) | (dsimp only [List.length_cons, List.length_nil]; omega) | (intro hg; rw [hg]; rfl) | (intro hg hh; rw [hg, hh]; rfl) | (intro hg; simp [-List.getD_eq_getElem?_getD, -Int.default_eq_zero] at hg; first | omega | (refine inR64_of ?_ ?_ <;> omega) | (constructor <;> omega)) | (simp [-List.getD_eq_getElem?_getD, -Int.default_eq_zero]; done))
            · omega
            all_goals repeat' (first | exact True.intro | refine leF_cons rfl ?_ ?_ | refine leS_cons rfl ?_ ?_ | (show PLe _ _ _ _; conv => whnf) | (show SLe _ _ _ _; conv => whnf) | (show PLeL _ _ _ _; conv => whnf) | apply And.intro | rfl | exact Nat.le_refl _ | exact fun _ _ => rfl | exact rowEq0 _ _)
            all_goals omega
        · rw [hj] at hu
          simp only [bif_t, bif_f, decide_eq_true_eq, decide_eq_false_iff_not, Bool.not_eq_true', Bool.not_eq_false', Bool.and_eq_true, Bool.or_eq_true, Bool.and_eq_false_iff, Bool.or_eq_false_iff, beq_iff_eq, bne_iff_ne, beq_eq_false_iff_ne, bne_eq_false_iff_eq, reduceCtorEq, false_and, and_false, true_and, and_true, or_false, false_or, or_true, true_or, not_true_eq_false, not_false_eq_true, Int.toNat_zero] at hu
          rw [if_neg (by omega)] at e1
          conv => whnf
          refine ⟨?_, fun hw => ?_, fun hw => ?_⟩
          · (try conv => whnf)
            (repeat' (first | exact True.intro | exact fun _ h => h | refine inR64_of ?_ ?_ | apply And.intro | refine maxLen_ge ?_)) <;> (first | omega | (dsimp only; omega) | (dsimp only [List.length_cons, List.length_nil]; omega) | (intro hg; rw [hg]; rfl) | (intro hg hh; rw [hg, hh]; rfl) | (intro hg; simp [-List.getD_eq_getElem?_getD, -Int.default_eq_zero] at hg; first | omega | (refine inR64_of ?_ ?_ <;> omega) | (constructor <;> omega)) | (simp [-List.getD_eq_getElem?_getD, -Int.default_eq_zero]; done))
          · rw [hj] at hw
            simp only [bif_t, bif_f, decide_eq_true_eq, decide_eq_false_iff_not, Bool.not_eq_true', Bool.not_eq_false', Bool.and_eq_true, Bool.or_eq_true, Bool.and_eq_false_iff, Bool.or_eq_false_iff, beq_iff_eq, bne_iff_ne, beq_eq_false_iff_ne, bne_eq_false_iff_eq, reduceCtorEq, false_and, and_false, true_and, and_true, or_false, false_or, or_true, true_or, not_true_eq_false, not_false_eq_true, Int.toNat_zero] at hw
            rw [if_pos (by omega)] at e2
            conv => whnf
            refine ⟨?_, i + 1, (by omega : i + 1 ≤ v.length), ?_, rfl, rfl, ?_, ?_⟩
            · (try conv => whnf)
              (repeat' (first | exact True.intro | exact fun _ h => h | refine inR64_of ?_ ?_ | apply And.intro | refine maxLen_ge ?_)) <;> (first | omega | (dsimp only; omega) | (dsimp only [List.length_cons, List.length_nil]; omega) | (intro hg; rw [hg]; rfl) | (intro hg hh; rw [hg, hh]; rfl) | (intro hg; simp [-List.getD_eq_getElem?_getD, -Int.default_eq_zero] at hg; first | omega | (refine inR64_of ?_ ?_ <;> omega) | (constructor <;> omega)) | (simp [-List.getD_eq_getElem?_getD, -Int.default_eq_zero]; done))
            · omega
            all_goals repeat' (first | exact True.intro | refine leF_cons rfl ?_ ?_ | refine leS_cons rfl ?_ ?_ | (show PLe _ _ _ _; conv => whnf) | (show SLe _ _ _ _; conv => whnf) | (show PLeL _ _ _ _; conv => whnf) | apply And.intro | rfl | exact Nat.le_refl _ | exact fun _ _ => rfl | exact rowEq0 _ _)
            all_goals omega
          · rw [hj] at hw
            simp only [bif_t, bif_f, decide_eq_true_eq, decide_eq_false_iff_not, Bool.not_eq_true', Bool.not_eq_false', Bool.and_eq_true, Bool.or_eq_true, Bool.and_eq_false_iff, Bool.or_eq_false_iff, beq_iff_eq, bne_iff_ne, beq_eq_false_iff_ne, bne_eq_false_iff_eq, reduceCtorEq, false_and, and_false, true_and, and_true, or_false, false_or, or_true, true_or, not_true_eq_false, not_false_eq_true, Int.toNat_zero] at hw
            rw [if_neg (by omega)] at e2
            conv => whnf
            refine ⟨?_, i + 1, (by omega : i + 1 ≤ v.length), ?_, rfl, rfl, ?_, ?_⟩
            · (try conv => whnf)
              (repeat' (first | exact True.intro | exact fun _ h => h | refine inR64_of ?_ ?_ | apply And.intro | refine maxLen_ge ?_)) <;> (first | omega | (dsimp only; omega) | (dsimp only [List.length_cons, List.length_nil]; omega) | (intro hg; rw [hg]; rfl) | (intro hg hh; rw [hg, hh]; rfl) | (intro hg; simp [-List.getD_eq_getElem?_getD, -Int.default_eq_zero] at hg; first | omega | (refine inR64_of ?_ ?_ <;> omega) | (constructor <;> omega)) | (simp [-List.getD_eq_getElem?_getD, -Int.default_eq_zero]; done))
            · omega
            all_goals repeat' (first | exact True.intro | refine leF_cons rfl ?_ ?_ | refine leS_cons rfl ?_ ?_ | (show PLe _ _ _ _; conv => whnf) | (show SLe _ _ _ _; conv => whnf) | (show PLeL _ _ _ _; conv => whnf) | apply And.intro | rfl | exact Nat.le_refl _ | exact fun _ _ => rfl | exact rowEq0 _ _)
            all_goals omega
      · rw [hj] at hg
        have hst : goodL v g (i + 1) = goodL v g i := by rw [goodL, if_neg (by rw [hg]; decide)]
        conv => whnf
        refine ⟨?_, i + 1, (by omega : i + 1 ≤ v.length), ?_, rfl, rfl, ?_, ?_⟩
        · (try conv => whnf)
          (repeat' (first | exact True.intro | exact fun _ h => h | refine inR64_of ?_ ?_ | apply And.intro | refine maxLen_ge ?_)) <;> (first | omega | (dsimp only; omega) | (dsimp only [List.length_cons, List.length_nil]; omega) | (intro hg; rw [hg]; rfl) | (intro hg hh; rw [hg, hh]; rfl) | (intro hg; simp [-List.getD_eq_getElem?_getD, -Int.default_eq_zero] at hg; first | omega | (refine inR64_of ?_ ?_ <;> omega) | (constructor <;> omega)) | (simp [-List.getD_eq_getElem?_getD, -Int.default_eq_zero]; done))
        · omega
        all_goals repeat' (first | exact True.intro | refine leF_cons rfl ?_ ?_ | refine leS_cons rfl ?_ ?_ | (show PLe _ _ _ _; conv => whnf) | (show SLe _ _ _ _; conv => whnf) | (show PLeL _ _ _ _; conv => whnf) | apply And.intro | rfl | exact Nat.le_refl _ | exact fun _ _ => rfl | exact rowEq0 _ _)
        all_goals (try rw [hst])
        all_goals omega
    · replace hc := of_decide_eq_false hc
      have : i = v.length := by omega
      subst this
      generalize (goodL v g v.length).countP (fun x => decide (a ≤ x)) = U at *
      generalize (goodL v g v.length).countP (fun x => decide (x ≤ a)) = D at *
      generalize (goodL v g v.length).length = n at *
      rcases hvl with ⟨h1, h2⟩ | ⟨h1, h2, h3, h4⟩
      · cases h2
        conv => whnf
        refine ⟨trivial, fun _ => ?_, fun hc => absurd hc (by decide)⟩
        conv => whnf
        refine ⟨_, fun _ => call14, ?_⟩
        conv => whnf
        refine ⟨?_, [], ?_⟩
        · (try conv => whnf)
          (repeat' (first | exact True.intro | exact fun _ h => h | refine inR64_of ?_ ?_ | apply And.intro | refine maxLen_ge ?_)) <;> (first | omega | (dsimp only; omega) | (dsimp only [List.length_cons, List.length_nil]; omega) | (intro hg; rw [hg]; rfl) | (intro hg hh; rw [hg, hh]; rfl) | (intro hg; simp [-List.getD_eq_getElem?_getD, -Int.default_eq_zero] at hg; first | omega | (refine inR64_of ?_ ?_ <;> omega) | (constructor <;> omega)) | (simp [-List.getD_eq_getElem?_getD, -Int.default_eq_zero]; done))
        conv => whnf
        refine ⟨rfl, ?_, trivial, trivial⟩
        all_goals repeat' (first | exact True.intro | refine leF_cons rfl ?_ ?_ | refine leS_cons rfl ?_ ?_ | (show PLe _ _ _ _; conv => whnf) | (show SLe _ _ _ _; conv => whnf) | (show PLeL _ _ _ _; conv => whnf) | apply And.intro | rfl | exact Nat.le_refl _ | exact fun _ _ => rfl | exact rowEq0 _ _)
        simp [h1]
      · cases h2
        conv => whnf
        refine ⟨trivial, fun hc => absurd hc (by decide), fun _ => ?_⟩
        conv => whnf
        refine ⟨?_, ?_⟩
        · (try conv => whnf)
          (repeat' (first | exact True.intro | exact fun _ h => h | refine inR64_of ?_ ?_ | apply And.intro | refine maxLen_ge ?_)) <;> (first | omega | (dsimp only; omega) | (dsimp only [List.length_cons, List.length_nil]; omega) | (intro hg; rw [hg]; rfl) | (intro hg hh; rw [hg, hh]; rfl) | (intro hg; simp [-List.getD_eq_getElem?_getD, -Int.default_eq_zero] at hg; first | omega | (refine inR64_of ?_ ?_ <;> omega) | (constructor <;> omega)) | (simp [-List.getD_eq_getElem?_getD, -Int.default_eq_zero]; done))
        refine LSem.adopt 12 1000000 3 1 1 rfl rfl ?_
        refine LSem.adopt 13 1000001 4 1 1 rfl rfl ?_
        refine LSem.loop (n := 121) mix (α := Nat) (fun i => i ≤ v.length)
          (fun i => [(4, .sl 0 1 v.length (fl eInt v)), (5, .sl 0 1 g.length (fl eBool g)), (6, .int .i64 a), (7, .bool true), (8, .int .i64 n), (9, .int .i64 U), (10, .int .i64 D), (12, .os 1000000), (13, .os 1000001), (14, .int .i64 ((i : Int) - 1))])
          (fun i => [(1000000, .row 0 3 1 (revL v i).length (fl eInt (revL v i))), (1000001, .row 0 4 1 (revL g i).length (fl eBool (revL g i)))]) (fun i => i) v.length ?_ ?_ ?_
        · exact Nat.le_refl _
        · refine ⟨rfl, rfl, ?_, ?_⟩
          all_goals repeat' (first | exact True.intro | refine leF_cons rfl ?_ ?_ | refine leS_cons rfl ?_ ?_ | (show PLe _ _ _ _; conv => whnf) | (show SLe _ _ _ _; conv => whnf) | (show PLeL _ _ _ _; conv => whnf) | apply And.intro | rfl | exact Nat.le_refl _ | exact fun _ _ => rfl | exact rowEq0 _ _)
          all_goals (try rw [revL_len])
          all_goals omega
        · intro i hi
          have hr1 := revL_len v i
          have hr2 := revL_len g i
          conv => whnf
          refine ⟨trivial, fun hc => ?_, fun hc => ?_⟩
          · replace hc := of_decide_eq_true hc
            obtain ⟨k, rfl⟩ : ∃ k, i = k + 1 := ⟨i - 1, by omega⟩
            have hj : (((k + 1 : Nat) : Int) - 1).toNat = k := by omega
            have q1 := fl_push eInt (revL v (k + 1)) (v.getD k default)
            rw [← revL_push (by omega)] at q1
            have q2 := fl_push eBool (revL g (k + 1)) (g.getD k default)
            rw [← revL_push (by omega)] at q2
            have hr3 := revL_len v k
            have hr4 := revL_len g k
            conv => whnf
            refine ⟨rfl, ?_⟩
            conv => whnf
            refine ⟨?_, k, (by omega : k ≤ v.length), ?_, rfl, rfl, ?_, ?_⟩
            · (try conv => whnf)
              (repeat' (first | exact True.intro | exact fun _ h => h | refine inR64_of ?_ ?_ | apply And.intro | refine maxLen_ge ?_)) <;> (first | omega | (dsimp only; omega) | (dsimp only [List.length_cons, List.length_nil]; omega) | (intro hg; rw [hg]; rfl) | (intro hg hh; rw [hg, hh]; rfl) | (intro hg; simp [-List.getD_eq_getElem?_getD, -Int.default_eq_zero] at hg; first | omega | (refine inR64_of ?_ ?_ <;> omega) | (constructor <;> omega)) | (simp [-List.getD_eq_getElem?_getD, -Int.default_eq_zero]; done))
            · omega
            all_goals repeat' (first | exact True.intro | refine leF_cons rfl ?_ ?_ | refine leS_cons rfl ?_ ?_ | (show PLe _ _ _ _; conv => whnf) | (show SLe _ _ _ _; conv => whnf) | (show PLeL _ _ _ _; conv => whnf) | apply And.intro | rfl | exact Nat.le_refl _ | exact fun _ _ => rfl | exact rowEq0 _ _)
            all_goals (try rw [hj])
            all_goals first | omega | (show (revL v (k + 1)).length + 1 = _; omega) | (show (revL g (k + 1)).length + 1 = _; omega) | exact q1 | exact q2 | skip
          · replace hc := of_decide_eq_false hc
            have : i = 0 := by omega
            subst this
            rw [show revL v 0 = v.reverse from rfl, show revL g 0 = g.reverse from rfl]
            conv => whnf
            refine ⟨_, fun _ => call13 _ _ v.reverse g.reverse (by rw [List.length_reverse]; omega), ?_⟩
            rw [hvr]
            conv => whnf
            refine ⟨_, fun _ => call14, ?_⟩
            conv => whnf
            refine ⟨?_, [], ?_⟩
            · (try conv => whnf)
              (repeat' (first | exact True.intro | exact fun _ h => h | refine inR64_of ?_ ?_ | apply And.intro | refine maxLen_ge ?_)) <;> (first | omega | (dsimp only; omega) | (dsimp only [List.length_cons, List.length_nil]; omega) | (intro hg; rw [hg]; rfl) | (intro hg hh; rw [hg, hh]; rfl) | (intro hg; simp [-List.getD_eq_getElem?_getD, -Int.default_eq_zero] at hg; first | omega | (refine inR64_of ?_ ?_ <;> omega) | (constructor <;> omega)) | (simp [-List.getD_eq_getElem?_getD, -Int.default_eq_zero]; done))
            conv => whnf
            refine ⟨rfl, ?_, trivial, trivial⟩
            all_goals repeat' (first | exact True.intro | refine leF_cons rfl ?_ ?_ | refine leS_cons rfl ?_ ?_ | (show PLe _ _ _ _; conv => whnf) | (show SLe _ _ _ _; conv => whnf) | (show PLeL _ _ _ _; conv => whnf) | apply And.intro | rfl | exact Nat.le_refl _ | exact fun _ _ => rfl | exact rowEq0 _ _)
            simp
            omega
end Pv
end Go.Proofs.Ytogoplhikmmggaa
