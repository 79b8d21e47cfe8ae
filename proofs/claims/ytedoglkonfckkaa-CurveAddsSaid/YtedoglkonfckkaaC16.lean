/- LAW 02, THE WALKS: the document's sum of two curves. -/
import Derived.Test.YtedoglkonfckkaaC15
set_option linter.unusedSimpArgs false
set_option linter.unusedVariables false
namespace Go.Proofs.Ytedoglkonfckkaa
namespace Pv
def c18L1 : C := (.seq (.seq (.reg [⟨(some 23), 368, none, .mv (.t 9)⟩,
    ⟨(some 24), 384, none, .mv (.t 0)⟩,
    ⟨(some 25), 400, none, .len (.t 24)⟩,
    ⟨(some 26), 416, none, .bi false .lss (.t 23) (.t 25)⟩,
    ⟨(some 27), 432, none, .mv (.t 26)⟩,
    ⟨(some 28), 448, (some (27, false)), .mv (.t 10)⟩,
    ⟨(some 29), 464, (some (27, false)), .mv (.t 1)⟩,
    ⟨(some 30), 480, (some (27, false)), .len (.t 29)⟩,
    ⟨(some 31), 496, (some (27, false)), .bi false .lss (.t 28) (.t 30)⟩,
    ⟨(some 32), 512, none, .pick (.t 27) (.c (.bool true)) (.t 31)⟩])
  (.cond (.t 32) .skip (.exit 0)))
  (.block 1 (.seq (.reg [⟨(some 11), 176, none, .mv (.c (.int .i64 0))⟩])
  (.seq (.block 2 (.seq (.drw [⟨(some 39), 624, none, .mv (.t 10)⟩,
    ⟨(some 40), 640, none, .mv (.t 1)⟩,
    ⟨(some 41), 656, none, .len (.t 40)⟩,
    ⟨(some 42), 672, none, .bi false .eql (.t 39) (.t 41)⟩,
    ⟨(some 43), 688, none, .mv (.t 42)⟩,
    ⟨(some 44), 704, (some (43, false)), .mv (.t 9)⟩,
    ⟨(some 45), 720, (some (43, false)), .mv (.t 0)⟩,
    ⟨(some 46), 736, (some (43, false)), .len (.t 45)⟩,
    ⟨(some 47), 752, (some (43, false)), .bi false .lss (.t 44) (.t 46)⟩,
    ⟨(some 48), 768, (some (43, false)), .mv (.t 47)⟩,
    ⟨(some 49), 784, (some (48, true)), .mv (.t 0)⟩,
    ⟨(some 50), 800, (some (48, true)), .mv (.t 9)⟩,
    ⟨(some 51), 816, (some (48, true)), .ia 2 (.t 49) (.t 50)⟩,
    ⟨(some 52), 832, (some (48, true)), .fa 0 (.t 51)⟩,
    ⟨(some 53), 848, (some (48, true)), .ld 1 false (.t 52)⟩,
    ⟨(some 54), 864, (some (48, true)), .mv (.t 1)⟩,
    ⟨(some 55), 880, (some (48, true)), .mv (.t 10)⟩,
    ⟨(some 56), 896, (some (48, true)), .ia 2 (.t 54) (.t 55)⟩,
    ⟨(some 57), 912, (some (48, true)), .fa 0 (.t 56)⟩,
    ⟨(some 58), 928, (some (48, true)), .ld 1 false (.t 57)⟩,
    ⟨(some 59), 944, (some (48, true)), .bi false .lss (.t 53) (.t 58)⟩,
    ⟨(some 60), 960, (some (43, false)), .pick (.t 48) (.t 59) (.c (.bool false))⟩,
    ⟨(some 61), 976, none, .pick (.t 43) (.c (.bool true)) (.t 60)⟩,
    ⟨(some 38), 608, none, .mv (.t 61)⟩]
    [(0, 1, 39), (0, 2, 39), (5, 6, 44), (5, 7, 44), (10, 11, 49), (10, 15, 49), (10, 16, 49), (10, 17, 49), (10, 18, 49), (10, 19, 49), (11, 15, 50), (11, 16, 50), (11, 17, 50), (11, 18, 50), (11, 19, 50), (12, 15, 51), (12, 16, 51), (12, 17, 51), (12, 18, 51), (12, 19, 51), (13, 15, 52), (13, 16, 52), (13, 17, 52), (13, 18, 52), (13, 19, 52), (14, 15, 53), (14, 16, 53), (14, 17, 53), (14, 18, 53), (14, 19, 53), (15, 16, 54)])
  (.cond (.t 38) (.reg [⟨(some 62), 992, none, .mv (.t 0)⟩,
    ⟨(some 63), 1008, none, .mv (.t 9)⟩,
    ⟨(some 64), 1024, none, .ia 2 (.t 62) (.t 63)⟩,
    ⟨(some 65), 1040, none, .fa 0 (.t 64)⟩,
    ⟨(some 66), 1056, none, .ld 1 false (.t 65)⟩,
    ⟨(some 11), 176, none, .mv (.t 66)⟩]) (.reg [⟨(some 33), 528, none, .mv (.t 1)⟩,
    ⟨(some 34), 544, none, .mv (.t 10)⟩,
    ⟨(some 35), 560, none, .ia 2 (.t 33) (.t 34)⟩,
    ⟨(some 36), 576, none, .fa 0 (.t 35)⟩,
    ⟨(some 37), 592, none, .ld 1 false (.t 36)⟩,
    ⟨(some 11), 176, none, .mv (.t 37)⟩]))))
  (.seq (.seq (.reg [⟨(some 67), 1072, none, .mv (.t 9)⟩,
    ⟨(some 68), 1088, none, .mv (.t 0)⟩,
    ⟨(some 69), 1104, none, .len (.t 68)⟩,
    ⟨(some 70), 1120, none, .bi false .lss (.t 67) (.t 69)⟩,
    ⟨(some 71), 1136, none, .mv (.t 70)⟩,
    ⟨(some 72), 1152, (some (71, true)), .mv (.t 0)⟩,
    ⟨(some 73), 1168, (some (71, true)), .mv (.t 9)⟩,
    ⟨(some 74), 1184, (some (71, true)), .ia 2 (.t 72) (.t 73)⟩,
    ⟨(some 75), 1200, (some (71, true)), .fa 0 (.t 74)⟩,
    ⟨(some 76), 1216, (some (71, true)), .ld 1 false (.t 75)⟩,
    ⟨(some 77), 1232, (some (71, true)), .mv (.t 11)⟩,
    ⟨(some 78), 1248, (some (71, true)), .bi false .eql (.t 76) (.t 77)⟩,
    ⟨(some 79), 1264, none, .pick (.t 71) (.t 78) (.c (.bool false))⟩])
  (.cond (.t 79) (.reg [⟨(some 80), 1280, none, .mv (.t 9)⟩,
    ⟨(some 81), 1296, none, .bi false .add (.t 80) (.c (.int .i64 1))⟩,
    ⟨(some 9), 144, none, .mv (.t 81)⟩]) .skip))
  (.seq (.seq (.reg [⟨(some 82), 1312, none, .mv (.t 10)⟩,
    ⟨(some 83), 1328, none, .mv (.t 1)⟩,
    ⟨(some 84), 1344, none, .len (.t 83)⟩,
    ⟨(some 85), 1360, none, .bi false .lss (.t 82) (.t 84)⟩,
    ⟨(some 86), 1376, none, .mv (.t 85)⟩,
    ⟨(some 87), 1392, (some (86, true)), .mv (.t 1)⟩,
    ⟨(some 88), 1408, (some (86, true)), .mv (.t 10)⟩,
    ⟨(some 89), 1424, (some (86, true)), .ia 2 (.t 87) (.t 88)⟩,
    ⟨(some 90), 1440, (some (86, true)), .fa 0 (.t 89)⟩,
    ⟨(some 91), 1456, (some (86, true)), .ld 1 false (.t 90)⟩,
    ⟨(some 92), 1472, (some (86, true)), .mv (.t 11)⟩,
    ⟨(some 93), 1488, (some (86, true)), .bi false .eql (.t 91) (.t 92)⟩,
    ⟨(some 94), 1504, none, .pick (.t 86) (.t 93) (.c (.bool false))⟩])
  (.cond (.t 94) (.reg [⟨(some 95), 1520, none, .mv (.t 10)⟩,
    ⟨(some 96), 1536, none, .bi false .add (.t 95) (.c (.int .i64 1))⟩,
    ⟨(some 10), 160, none, .mv (.t 96)⟩]) .skip))
  (.reg [⟨(some 97), 1552, none, .mv (.t 8)⟩,
    ⟨(some 98), 1568, none, .mv (.t 11)⟩,
    ⟨(some 99), 1584, none, .mv (.t 0)⟩,
    ⟨(some 100), 1600, none, .mv (.t 11)⟩,
    ⟨(some 101), 1616, none, .call (.c (.fn (.func 24) [] [])) [(.t 99), (.t 100)]⟩,
    ⟨(some 102), 1632, none, .mv (.t 1)⟩,
    ⟨(some 103), 1648, none, .mv (.t 11)⟩,
    ⟨(some 104), 1664, none, .call (.c (.fn (.func 24) [] [])) [(.t 102), (.t 103)]⟩,
    ⟨(some 105), 1680, none, .bi false .add (.t 101) (.t 104)⟩,
    ⟨(some 106), 1696, none, .bd [(.int .i64 0), (.int .i64 0)] [(0, 1, (.t 98)), (1, 1, (.t 105))]⟩,
    ⟨(some 107), 1712, none, .bs 35 2 [(.t 106)]⟩,
    ⟨(some 108), 1728, none, .app 35 2 16 (.t 97) (.t 107)⟩,
    ⟨(some 8), 128, none, .mv (.t 108)⟩])))))))
def c18 : C := (.seq (.reg [⟨(some 4), 64, none, .mv (.c (.nil 2))⟩,
    ⟨(some 5), 80, none, .mv (.c (.int .i64 0))⟩])
  (.seq (.seq (.reg [⟨(some 13), 208, none, .mv (.t 0)⟩,
    ⟨(some 14), 224, none, .call (.c (.fn (.func 23) [] [])) [(.t 13)]⟩,
    ⟨(some 6), 96, none, .mv (.t 14)⟩])
  (.seq (.reg [⟨(some 15), 240, none, .mv (.t 6)⟩,
    ⟨(some 16), 256, none, .bi false .neq (.t 15) (.c (.int .i64 0))⟩])
  (.cond (.t 16) (.seq (.reg [⟨(some 17), 272, none, .mv (.t 6)⟩,
    ⟨(some 4), 64, none, .mv (.c (.nil 2))⟩,
    ⟨(some 5), 80, none, .mv (.t 17)⟩])
  .ret) .skip)))
  (.seq (.seq (.reg [⟨(some 18), 288, none, .mv (.t 1)⟩,
    ⟨(some 19), 304, none, .call (.c (.fn (.func 23) [] [])) [(.t 18)]⟩,
    ⟨(some 7), 112, none, .mv (.t 19)⟩])
  (.seq (.reg [⟨(some 20), 320, none, .mv (.t 7)⟩,
    ⟨(some 21), 336, none, .bi false .neq (.t 20) (.c (.int .i64 0))⟩])
  (.cond (.t 21) (.seq (.reg [⟨(some 22), 352, none, .mv (.t 7)⟩,
    ⟨(some 4), 64, none, .mv (.c (.nil 2))⟩,
    ⟨(some 5), 80, none, .mv (.t 22)⟩])
  .ret) .skip)))
  (.seq (.reg [⟨(some 8), 128, none, .mv (.c (.nil 2))⟩])
  (.seq (.reg [⟨(some 9), 144, none, .mv (.c (.int .i64 0))⟩,
    ⟨(some 10), 160, none, .mv (.c (.int .i64 0))⟩])
  (.seq (.block 0 (.loop c18L1))
  (.seq (.seq (.reg [⟨(some 109), 1744, none, .mv (.t 8)⟩,
    ⟨(some 110), 1760, none, .call (.c (.fn (.func 23) [] [])) [(.t 109)]⟩,
    ⟨(some 12), 192, none, .mv (.t 110)⟩])
  (.seq (.reg [⟨(some 111), 1776, none, .mv (.t 12)⟩,
    ⟨(some 112), 1792, none, .bi false .neq (.t 111) (.c (.int .i64 0))⟩])
  (.cond (.t 112) (.seq (.reg [⟨(some 113), 1808, none, .mv (.t 12)⟩,
    ⟨(some 4), 64, none, .mv (.c (.nil 2))⟩,
    ⟨(some 5), 80, none, .mv (.t 113)⟩])
  .ret) .skip)))
  (.seq (.reg [⟨(some 114), 1824, none, .mv (.t 8)⟩,
    ⟨(some 4), 64, none, .mv (.t 114)⟩,
    ⟨(some 5), 80, none, .mv (.c (.int .i64 0))⟩])
  .ret))))))))
theorem fits18 : fits Try.prog false Try.f18 2 115 [(4, none), (5, none)] = some c18.er := by kernel_rfl

/-- How far two curves are merged: i and k of their points have their places among the first m. -/
structure Mrg (a b : List Pt) (i k m : Nat) : Prop where
  ia : i ≤ a.length
  kb : k ≤ b.length
  mp : m ≤ (placesC a b).length
  ha : ∀ j, j < a.length → (j < i ↔ ∃ t, t < m ∧ (placesC a b).getD t default = (a.getD j default).x)
  hb : ∀ j, j < b.length → (j < k ↔ ∃ t, t < m ∧ (placesC a b).getD t default = (b.getD j default).x)
def incX (c : List Pt) : Prop := ∀ i j, i < j → j < c.length → (c.getD i default).x < (c.getD j default).x
theorem good_inc {c : List Pt} (h : GoodC c) : incX c := fun i j hij hj => by
  have h1 := h.xs (j - 1 - i) i (by omega)
  rw [show i + (j - 1 - i) = j - 1 by omega] at h1
  have := h.up j (by omega) hj
  omega
theorem getD_of_mem {l : List Int} {x : Int} (h : x ∈ l) : ∃ t, t < l.length ∧ l.getD t default = x := by
  obtain ⟨t, ht, rfl⟩ := List.getElem_of_mem h
  exact ⟨t, ht, by rw [List.getD_eq_getElem?_getD, List.getElem?_eq_getElem ht]; rfl⟩
theorem Mrg.lo {a b : List Pt} {i k m : Nat} (h : Mrg a b i k m) : (i < a.length → m < (placesC a b).length ∧ (placesC a b).getD m default ≤ (a.getD i default).x) ∧ (k < b.length → m < (placesC a b).length ∧ (placesC a b).getD m default ≤ (b.getD k default).x) := by
  have hinc := places_inc a b
  have key : ∀ (x : Int), x ∈ placesC a b → (¬ ∃ t, t < m ∧ (placesC a b).getD t default = x) → m < (placesC a b).length ∧ (placesC a b).getD m default ≤ x := fun x hx hn => by
    obtain ⟨t, ht, rfl⟩ := getD_of_mem hx
    have hmt : m ≤ t := by
      by_cases c : m ≤ t
      · exact c
      · exact absurd ⟨t, by omega, rfl⟩ hn
    refine ⟨by omega, ?_⟩
    by_cases e : m = t
    · rw [e]; exact Int.le_refl _
    · have := inc_getD hinc (i := m) (j := t) (by omega) ht; omega
  exact ⟨fun hi => key _ ((places_mem a b _).2 (.inl ((xsC_mem a _).2 ⟨i, hi, rfl⟩))) (fun h2 => by have := (h.ha i hi).2 h2; omega),
    fun hk => key _ ((places_mem a b _).2 (.inr ((xsC_mem b _).2 ⟨k, hk, rfl⟩))) (fun h2 => by have := (h.hb k hk).2 h2; omega)⟩
theorem Mrg.hi {a b : List Pt} {i k m : Nat} (h : Mrg a b i k m) (ga : incX a) (gb : incX b) (hm : m < (placesC a b).length) :
    (i < a.length ∧ (a.getD i default).x = (placesC a b).getD m default) ∨ (k < b.length ∧ (b.getD k default).x = (placesC a b).getD m default) := by
  have hinc := places_inc a b
  have hlo := h.lo
  have nodup : ∀ t, t < m → (placesC a b).getD t default ≠ (placesC a b).getD m default := fun t ht => by
    have := inc_getD hinc ht hm; omega
  rcases (places_mem a b _).1 (getD_mem hm) with hx | hx <;> obtain ⟨j, hj, e⟩ := (xsC_mem _ _).1 hx
  · have hji : ¬ j < i := fun hlt => by
      obtain ⟨t, ht, h2⟩ := (h.ha j hj).1 hlt
      exact nodup t ht (by rw [h2, e])
    have := (hlo.1 (by omega)).2
    refine .inl ⟨by omega, ?_⟩
    by_cases c : j = i
    · rw [← c]; exact e
    · have := ga i j (by omega) hj; omega
  · have hji : ¬ j < k := fun hlt => by
      obtain ⟨t, ht, h2⟩ := (h.hb j hj).1 hlt
      exact nodup t ht (by rw [h2, e])
    have := (hlo.2 (by omega)).2
    refine .inr ⟨by omega, ?_⟩
    by_cases c : j = k
    · rw [← c]; exact e
    · have := gb k j (by omega) hj; omega
theorem mrg_side {c : List Pt} {P : List Int} {i m : Nat} (gc : incX c) (hi : i ≤ c.length) (hP : P.Pairwise (· < ·)) (hm : m < P.length) (h : ∀ j, j < c.length → (j < i ↔ ∃ t, t < m ∧ P.getD t default = (c.getD j default).x)) (hlo : i < c.length → P.getD m default ≤ (c.getD i default).x) :
    (if i < c.length ∧ (c.getD i default).x = P.getD m default then i + 1 else i) ≤ c.length ∧ ∀ j, j < c.length → (j < (if i < c.length ∧ (c.getD i default).x = P.getD m default then i + 1 else i) ↔ ∃ t, t < m + 1 ∧ P.getD t default = (c.getD j default).x) := by
  refine ⟨by split <;> omega, fun j hj => ⟨fun hlt => ?_, fun ⟨t, ht, e⟩ => ?_⟩⟩
  · by_cases hji : j < i
    · obtain ⟨t, ht, e⟩ := (h j hj).1 hji
      exact ⟨t, by omega, e⟩
    · split at hlt
      · rename_i hh
        refine ⟨m, by omega, ?_⟩
        rw [show j = i by omega, hh.2]
      · omega
  · by_cases htm : t < m
    · have := (h j hj).2 ⟨t, htm, e⟩
      split <;> omega
    · have : t = m := by omega
      subst this
      by_cases hji : j < i
      · split <;> omega
      · have hlo' := hlo (by omega)
        have hij : j = i := by
          by_cases c1 : j = i
          · exact c1
          · have := gc i j (by omega) hj; omega
        subst hij
        rw [if_pos ⟨hj, e.symm⟩]; omega
theorem Mrg.next {a b : List Pt} {i k m : Nat} (h : Mrg a b i k m) (ga : incX a) (gb : incX b) (hm : m < (placesC a b).length) :
    Mrg a b (if i < a.length ∧ (a.getD i default).x = (placesC a b).getD m default then i + 1 else i) (if k < b.length ∧ (b.getD k default).x = (placesC a b).getD m default then k + 1 else k) (m + 1) := by
  obtain ⟨a1, a2⟩ := mrg_side ga h.ia (places_inc a b) hm h.ha (fun hi => (h.lo.1 hi).2)
  obtain ⟨b1, b2⟩ := mrg_side gb h.kb (places_inc a b) hm h.hb (fun hi => (h.lo.2 hi).2)
  exact ⟨a1, b1, by omega, a2, b2⟩
theorem Mrg.first (a b : List Pt) : Mrg a b 0 0 0 := ⟨Nat.zero_le _, Nat.zero_le _, Nat.zero_le _, fun j _ => ⟨fun h => by omega, fun ⟨t, h, _⟩ => by omega⟩, fun j _ => ⟨fun h => by omega, fun ⟨t, h, _⟩ => by omega⟩⟩

set_option maxRecDepth 100000 in
set_option maxHeartbeats 4000000 in
theorem call18 (τ τ' : Nat) (a b : List Pt) :
    PureCall Try.prog 18 [.sl τ 2 a.length (fl ePt a), .sl τ' 2 b.length (fl ePt b)] [] ⟨.tup [.sl 0 2 (addC a b).1.length (fl ePt (addC a b).1), .int .i64 (addC a b).2], [], []⟩ := by
  refine pure_call mix Try.func18 fits18 rfl ?_
  conv => whnf
  refine ⟨_, fun _ => call23 _ a, ?_⟩
  conv => whnf
  refine ⟨?_, fun hc => ?_, fun hc => ?_⟩
  · (try conv => whnf)
    (repeat' (first | exact True.intro | exact fun _ h => h | refine inR64_of ?_ ?_ | apply And.intro | refine maxLen_ge ?_)) <;> (first | omega | (dsimp only; omega) | (dsimp only [List.length_cons, List.length_nil]; omega) | (intro hg; rw [hg]; rfl) | (intro hg hh; rw [hg, hh]; rfl) | (intro hg; simp [-List.getD_eq_getElem?_getD, -Int.default_eq_zero] at hg; first | omega | (refine inR64_of ?_ ?_ <;> omega) | (constructor <;> omega)) | (simp [-List.getD_eq_getElem?_getD, -Int.default_eq_zero]; done))
  · simp only [bif_t, bif_f, decide_eq_true_eq, decide_eq_false_iff_not, Bool.not_eq_true', Bool.not_eq_false', Bool.and_eq_true, Bool.or_eq_true, Bool.and_eq_false_iff, Bool.or_eq_false_iff, beq_iff_eq, bne_iff_ne, beq_eq_false_iff_ne, bne_eq_false_iff_eq, reduceCtorEq, false_and, and_false, true_and, and_true, or_false, false_or, or_true, true_or, not_true_eq_false, not_false_eq_true, Int.toNat_zero] at hc
    rw [show addC a b = ([], checkC a) by unfold addC; rw [if_pos hc]]
    conv => whnf
    refine ⟨?_, [], ?_⟩
    · (try conv => whnf)
      (repeat' (first | exact True.intro | exact fun _ h => h | refine inR64_of ?_ ?_ | apply And.intro | refine maxLen_ge ?_)) <;> (first | omega | (dsimp only; omega) | (dsimp only [List.length_cons, List.length_nil]; omega) | (intro hg; rw [hg]; rfl) | (intro hg hh; rw [hg, hh]; rfl) | (intro hg; simp [-List.getD_eq_getElem?_getD, -Int.default_eq_zero] at hg; first | omega | (refine inR64_of ?_ ?_ <;> omega) | (constructor <;> omega)) | (simp [-List.getD_eq_getElem?_getD, -Int.default_eq_zero]; done))
    conv => whnf
    refine ⟨rfl, ?_, trivial, trivial⟩
    all_goals repeat' (first | exact True.intro | refine leF_cons rfl ?_ ?_ | refine leS_cons rfl ?_ ?_ | (show PLe _ _ _ _; conv => whnf) | (show SLe _ _ _ _; conv => whnf) | (show PLeL _ _ _ _; conv => whnf) | apply And.intro | rfl | exact Nat.le_refl _ | exact fun _ _ => rfl | exact rowEq0 _ _)
  simp only [bif_t, bif_f, decide_eq_true_eq, decide_eq_false_iff_not, Bool.not_eq_true', Bool.not_eq_false', Bool.and_eq_true, Bool.or_eq_true, Bool.and_eq_false_iff, Bool.or_eq_false_iff, beq_iff_eq, bne_iff_ne, beq_eq_false_iff_ne, bne_eq_false_iff_eq, reduceCtorEq, false_and, and_false, true_and, and_true, or_false, false_or, or_true, true_or, not_true_eq_false, not_false_eq_true, Int.toNat_zero] at hc
  have ha : checkC a = 0 := by omega
  clear hc
  conv => whnf
  refine ⟨_, fun _ => call23 _ b, ?_⟩
  conv => whnf
  refine ⟨?_, fun hc => ?_, fun hc => ?_⟩
  · (try conv => whnf)
    (repeat' (first | exact True.intro | exact fun _ h => h | refine inR64_of ?_ ?_ | apply And.intro | refine maxLen_ge ?_)) <;> (first | omega | (dsimp only; omega) | (dsimp only [List.length_cons, List.length_nil]; omega) | (intro hg; rw [hg]; rfl) | (intro hg hh; rw [hg, hh]; rfl) | (intro hg; simp [-List.getD_eq_getElem?_getD, -Int.default_eq_zero] at hg; first | omega | (refine inR64_of ?_ ?_ <;> omega) | (constructor <;> omega)) | (simp [-List.getD_eq_getElem?_getD, -Int.default_eq_zero]; done))
  · simp only [bif_t, bif_f, decide_eq_true_eq, decide_eq_false_iff_not, Bool.not_eq_true', Bool.not_eq_false', Bool.and_eq_true, Bool.or_eq_true, Bool.and_eq_false_iff, Bool.or_eq_false_iff, beq_iff_eq, bne_iff_ne, beq_eq_false_iff_ne, bne_eq_false_iff_eq, reduceCtorEq, false_and, and_false, true_and, and_true, or_false, false_or, or_true, true_or, not_true_eq_false, not_false_eq_true, Int.toNat_zero] at hc
    rw [show addC a b = ([], checkC b) by unfold addC; rw [if_neg (by rw [ha]; simp), if_pos hc]]
    conv => whnf
    refine ⟨?_, [], ?_⟩
    · (try conv => whnf)
      (repeat' (first | exact True.intro | exact fun _ h => h | refine inR64_of ?_ ?_ | apply And.intro | refine maxLen_ge ?_)) <;> (first | omega | (dsimp only; omega) | (dsimp only [List.length_cons, List.length_nil]; omega) | (intro hg; rw [hg]; rfl) | (intro hg hh; rw [hg, hh]; rfl) | (intro hg; simp [-List.getD_eq_getElem?_getD, -Int.default_eq_zero] at hg; first | omega | (refine inR64_of ?_ ?_ <;> omega) | (constructor <;> omega)) | (simp [-List.getD_eq_getElem?_getD, -Int.default_eq_zero]; done))
    conv => whnf
    refine ⟨rfl, ?_, trivial, trivial⟩
    all_goals repeat' (first | exact True.intro | refine leF_cons rfl ?_ ?_ | refine leS_cons rfl ?_ ?_ | (show PLe _ _ _ _; conv => whnf) | (show SLe _ _ _ _; conv => whnf) | (show PLeL _ _ _ _; conv => whnf) | apply And.intro | rfl | exact Nat.le_refl _ | exact fun _ _ => rfl | exact rowEq0 _ _)
  simp only [bif_t, bif_f, decide_eq_true_eq, decide_eq_false_iff_not, Bool.not_eq_true', Bool.not_eq_false', Bool.and_eq_true, Bool.or_eq_true, Bool.and_eq_false_iff, Bool.or_eq_false_iff, beq_iff_eq, bne_iff_ne, beq_eq_false_iff_ne, bne_eq_false_iff_eq, reduceCtorEq, false_and, and_false, true_and, and_true, or_false, false_or, or_true, true_or, not_true_eq_false, not_false_eq_true, Int.toNat_zero] at hc
  have hb : checkC b = 0 := by omega
  clear hc
  have ga := (check_good a).1 ha
  have gb := (check_good b).1 hb
  have la := ga.le
  have lb := gb.le
  have ia := good_inc ga
  have ib := good_inc gb
  have hpl := places_len a b
  have hadd : addC a b = if checkC (sumC a b) ≠ 0 then ([], checkC (sumC a b)) else (sumC a b, 0) := by unfold addC; rw [if_neg (by rw [ha]; simp), if_neg (by rw [hb]; simp)]
  rw [hadd]
  have hsl := sumC_len a b
  conv => whnf
  refine ⟨?_, ?_⟩
  · (try conv => whnf)
    (repeat' (first | exact True.intro | exact fun _ h => h | refine inR64_of ?_ ?_ | apply And.intro | refine maxLen_ge ?_)) <;> (first | omega | (dsimp only; omega) | (dsimp only [List.length_cons, List.length_nil]; omega) | (intro hg; rw [hg]; rfl) | (intro hg hh; rw [hg, hh]; rfl) | (intro hg; simp [-List.getD_eq_getElem?_getD, -Int.default_eq_zero] at hg; first | omega | (refine inR64_of ?_ ?_ <;> omega) | (constructor <;> omega)) | (simp [-List.getD_eq_getElem?_getD, -Int.default_eq_zero]; done))
  refine LSem.adopt 8 1000000 35 2 2 rfl rfl ?_
  refine LSem.loop (n := 115) mix (α := Nat × Nat × Nat) (fun s => Mrg a b s.1 s.2.1 s.2.2)
    (fun s => [(0, .sl τ 2 a.length (fl ePt a)), (1, .sl τ' 2 b.length (fl ePt b)), (8, .os 1000000), (9, .int .i64 s.1), (10, .int .i64 s.2.1)])
    (fun s => [(1000000, .row 0 35 2 s.2.2 (fl ePt ((sumC a b).take s.2.2)))]) (fun s => (placesC a b).length - s.2.2) (0, 0, 0) ?_ ?_ ?_
  · exact Mrg.first a b
  · refine ⟨rfl, rfl, ?_, ?_⟩
    all_goals repeat' (first | exact True.intro | refine leF_cons rfl ?_ ?_ | refine leS_cons rfl ?_ ?_ | (show PLe _ _ _ _; conv => whnf) | (show SLe _ _ _ _; conv => whnf) | (show PLeL _ _ _ _; conv => whnf) | apply And.intro | rfl | exact Nat.le_refl _ | exact fun _ _ => rfl | exact rowEq0 _ _)
  · intro s hs
    obtain ⟨i, k, m⟩ := s
    dsimp only at hs ⊢
    have hi : ((i : Int)).toNat = i := by omega
    have hk : ((k : Int)).toNat = k := by omega
    have h1 := hs.ia; have h2 := hs.kb; have h3 := hs.mp
    conv => whnf
    refine ⟨?_, fun hc => ?_, fun hc => ?_⟩
    · (try conv => whnf)
      (repeat' (first | exact True.intro | exact fun _ h => h | refine inR64_of ?_ ?_ | apply And.intro | refine maxLen_ge ?_)) <;> (first | omega | (dsimp only; omega) | (dsimp only [List.length_cons, List.length_nil]; omega) | (intro hg; rw [hg]; rfl) | (intro hg hh; rw [hg, hh]; rfl) | (intro hg; simp [-List.getD_eq_getElem?_getD, -Int.default_eq_zero] at hg; first | omega | (refine inR64_of ?_ ?_ <;> omega) | (constructor <;> omega)) | (simp [-List.getD_eq_getElem?_getD, -Int.default_eq_zero]; done))
    · simp only [bif_t, bif_f, decide_eq_true_eq, decide_eq_false_iff_not, Bool.not_eq_true', Bool.not_eq_false', Bool.and_eq_true, Bool.or_eq_true, Bool.and_eq_false_iff, Bool.or_eq_false_iff, beq_iff_eq, bne_iff_ne, beq_eq_false_iff_ne, bne_eq_false_iff_eq, reduceCtorEq, false_and, and_false, true_and, and_true, or_false, false_or, or_true, true_or, not_true_eq_false, not_false_eq_true, Int.toNat_zero] at hc
      have hlo := hs.lo
      have hm : m < (placesC a b).length := by
        rcases hc with h | h
        · exact (hlo.1 (by omega)).1
        · exact (hlo.2 (by omega)).1
      have hhi := hs.hi ia ib hm
      have hnx := hs.next ia ib hm
      have hX := sumC_get hm
      have htk : (sumC a b).take (m + 1) = (sumC a b).take m ++ [⟨(placesC a b).getD m default, valC a ((placesC a b).getD m default) + valC b ((placesC a b).getD m default)⟩] := by
        rw [List.take_add_one, List.getElem?_eq_getElem (by omega), ← hX, List.getD_eq_getElem?_getD, List.getElem?_eq_getElem (by omega)]; rfl
      have hps := fl_push ePt ((sumC a b).take m) ⟨(placesC a b).getD m default, valC a ((placesC a b).getD m default) + valC b ((placesC a b).getD m default)⟩
      rw [← htk, List.length_take, Nat.min_eq_left (by omega)] at hps
      generalize (placesC a b).getD m default = X at hlo hhi hnx hX hps htk
      conv => whnf
      refine ⟨rfl, ?_⟩
      have va := val_rng ga X
      have vb := val_rng gb X
      conv => whnf
      refine ⟨?_, fun hc2 => ?_, fun hc2 => ?_⟩
      · rw [hi, hk]
        (try conv => whnf)
        (repeat' (first | exact True.intro | exact fun _ h => h | refine inR64_of ?_ ?_ | apply And.intro | refine maxLen_ge ?_)) <;> (first | omega | (dsimp only; omega) | (dsimp only [List.length_cons, List.length_nil]; omega) | (intro hg; rw [hg]; rfl) | (intro hg hh; rw [hg, hh]; rfl) | (intro hg; simp [-List.getD_eq_getElem?_getD, -Int.default_eq_zero] at hg; first | omega | (refine inR64_of ?_ ?_ <;> omega) | (constructor <;> omega)) | (simp [-List.getD_eq_getElem?_getD, -Int.default_eq_zero]; done))
      · rw [hi, hk] at hc2
        simp only [bif_t, bif_f, decide_eq_true_eq, decide_eq_false_iff_not, Bool.not_eq_true', Bool.not_eq_false', Bool.and_eq_true, Bool.or_eq_true, Bool.and_eq_false_iff, Bool.or_eq_false_iff, beq_iff_eq, bne_iff_ne, beq_eq_false_iff_ne, bne_eq_false_iff_eq, reduceCtorEq, false_and, and_false, true_and, and_true, or_false, false_or, or_true, true_or, not_true_eq_false, not_false_eq_true, Int.toNat_zero] at hc2
        have e : (a.getD i default).x = X := by
          rcases hhi with ⟨_, h⟩ | ⟨h1, h⟩
          · exact h
          · have := (hlo.1 (by omega)).2; omega
        conv => whnf
        refine ⟨?_, fun hc3 => ?_, fun hc3 => ?_⟩
        · (try rw [hi]); (try rw [hk])
          (try conv => whnf)
          (repeat' (first | exact True.intro | exact fun _ h => h | refine inR64_of ?_ ?_ | apply And.intro | refine maxLen_ge ?_)) <;> (first | omega | (dsimp only; omega) | (dsimp only [List.length_cons, List.length_nil]; omega) | (intro hg; rw [hg]; rfl) | (intro hg hh; rw [hg, hh]; rfl) | (intro hg; simp [-List.getD_eq_getElem?_getD, -Int.default_eq_zero] at hg; first | omega | (refine inR64_of ?_ ?_ <;> omega) | (constructor <;> omega)) | (simp [-List.getD_eq_getElem?_getD, -Int.default_eq_zero]; done))
        · rw [hi] at hc3
          rw [e] at hc3
          simp only [bif_t, bif_f, decide_eq_true_eq, decide_eq_false_iff_not, Bool.not_eq_true', Bool.not_eq_false', Bool.and_eq_true, Bool.or_eq_true, Bool.and_eq_false_iff, Bool.or_eq_false_iff, beq_iff_eq, bne_iff_ne, beq_eq_false_iff_ne, bne_eq_false_iff_eq, reduceCtorEq, false_and, and_false, true_and, and_true, or_false, false_or, or_true, true_or, not_true_eq_false, not_false_eq_true, Int.toNat_zero] at hc3
          rw [if_pos ⟨by omega, by omega⟩] at hnx
          conv => whnf
          refine ⟨?_, fun hc4 => ?_, fun hc4 => ?_⟩
          · (try rw [hi]); (try rw [hk])
            (try conv => whnf)
            (repeat' (first | exact True.intro | exact fun _ h => h | refine inR64_of ?_ ?_ | apply And.intro | refine maxLen_ge ?_)) <;> (first | omega | (dsimp only; omega) | (dsimp only [List.length_cons, List.length_nil]; omega) | (intro hg; rw [hg]; rfl) | (intro hg hh; rw [hg, hh]; rfl) | (intro hg; simp [-List.getD_eq_getElem?_getD, -Int.default_eq_zero] at hg; first | omega | (refine inR64_of ?_ ?_ <;> omega) | (constructor <;> omega)) | (simp [-List.getD_eq_getElem?_getD, -Int.default_eq_zero]; done))
          · rw [hk] at hc4
            rw [hi] at hc4; rw [e] at hc4
            simp only [bif_t, bif_f, decide_eq_true_eq, decide_eq_false_iff_not, Bool.not_eq_true', Bool.not_eq_false', Bool.and_eq_true, Bool.or_eq_true, Bool.and_eq_false_iff, Bool.or_eq_false_iff, beq_iff_eq, bne_iff_ne, beq_eq_false_iff_ne, bne_eq_false_iff_eq, reduceCtorEq, false_and, and_false, true_and, and_true, or_false, false_or, or_true, true_or, not_true_eq_false, not_false_eq_true, Int.toNat_zero] at hc4
            rw [if_pos ⟨by omega, by omega⟩] at hnx
            conv => whnf
            refine ⟨_, fun _ => call24 _ a (a.getD ((i : Int)).toNat default).x ga, ?_⟩
            conv => whnf
            refine ⟨_, fun _ => call24 _ b (a.getD ((i : Int)).toNat default).x gb, ?_⟩
            conv => whnf
            refine ⟨?_, (i + 1, k + 1, m + 1), hnx, ?_, rfl, rfl, ?_, ?_⟩
            · rw [hi, e]
              (try conv => whnf)
              (repeat' (first | exact True.intro | exact fun _ h => h | refine inR64_of ?_ ?_ | apply And.intro | refine maxLen_ge ?_)) <;> (first | omega | (dsimp only; omega) | (dsimp only [List.length_cons, List.length_nil]; omega) | (intro hg; rw [hg]; rfl) | (intro hg hh; rw [hg, hh]; rfl) | (intro hg; simp [-List.getD_eq_getElem?_getD, -Int.default_eq_zero] at hg; first | omega | (refine inR64_of ?_ ?_ <;> omega) | (constructor <;> omega)) | (simp [-List.getD_eq_getElem?_getD, -Int.default_eq_zero]; done))
            · dsimp only; omega
            all_goals repeat' (first | exact True.intro | refine leF_cons rfl ?_ ?_ | refine leS_cons rfl ?_ ?_ | (show PLe _ _ _ _; conv => whnf) | (show SLe _ _ _ _; conv => whnf) | (show PLeL _ _ _ _; conv => whnf) | apply And.intro | rfl | exact Nat.le_refl _ | exact fun _ _ => rfl | exact rowEq0 _ _)
            all_goals (try dsimp only)
            all_goals (try omega)
            all_goals (rw [hi, e]; exact hps)
          · rw [hk] at hc4
            rw [hi] at hc4; rw [e] at hc4
            simp only [bif_t, bif_f, decide_eq_true_eq, decide_eq_false_iff_not, Bool.not_eq_true', Bool.not_eq_false', Bool.and_eq_true, Bool.or_eq_true, Bool.and_eq_false_iff, Bool.or_eq_false_iff, beq_iff_eq, bne_iff_ne, beq_eq_false_iff_ne, bne_eq_false_iff_eq, reduceCtorEq, false_and, and_false, true_and, and_true, or_false, false_or, or_true, true_or, not_true_eq_false, not_false_eq_true, Int.toNat_zero] at hc4
            rw [if_neg (fun h => by omega)] at hnx
            conv => whnf
            refine ⟨_, fun _ => call24 _ a (a.getD ((i : Int)).toNat default).x ga, ?_⟩
            conv => whnf
            refine ⟨_, fun _ => call24 _ b (a.getD ((i : Int)).toNat default).x gb, ?_⟩
            conv => whnf
            refine ⟨?_, (i + 1, k, m + 1), hnx, ?_, rfl, rfl, ?_, ?_⟩
            · rw [hi, e]
              (try conv => whnf)
              (repeat' (first | exact True.intro | exact fun _ h => h | refine inR64_of ?_ ?_ | apply And.intro | refine maxLen_ge ?_)) <;> (first | omega | (dsimp only; omega) | (dsimp only [List.length_cons, List.length_nil]; omega) | (intro hg; rw [hg]; rfl) | (intro hg hh; rw [hg, hh]; rfl) | (intro hg; simp [-List.getD_eq_getElem?_getD, -Int.default_eq_zero] at hg; first | omega | (refine inR64_of ?_ ?_ <;> omega) | (constructor <;> omega)) | (simp [-List.getD_eq_getElem?_getD, -Int.default_eq_zero]; done))
            · dsimp only; omega
            all_goals repeat' (first | exact True.intro | refine leF_cons rfl ?_ ?_ | refine leS_cons rfl ?_ ?_ | (show PLe _ _ _ _; conv => whnf) | (show SLe _ _ _ _; conv => whnf) | (show PLeL _ _ _ _; conv => whnf) | apply And.intro | rfl | exact Nat.le_refl _ | exact fun _ _ => rfl | exact rowEq0 _ _)
            all_goals (try dsimp only)
            all_goals (try omega)
            all_goals (rw [hi, e]; exact hps)
        · rw [hi] at hc3
          rw [e] at hc3
          simp only [bif_t, bif_f, decide_eq_true_eq, decide_eq_false_iff_not, Bool.not_eq_true', Bool.not_eq_false', Bool.and_eq_true, Bool.or_eq_true, Bool.and_eq_false_iff, Bool.or_eq_false_iff, beq_iff_eq, bne_iff_ne, beq_eq_false_iff_ne, bne_eq_false_iff_eq, reduceCtorEq, false_and, and_false, true_and, and_true, or_false, false_or, or_true, true_or, not_true_eq_false, not_false_eq_true, Int.toNat_zero] at hc3
          rw [if_neg (fun h => by omega)] at hnx
          conv => whnf
          refine ⟨?_, fun hc4 => ?_, fun hc4 => ?_⟩
          · (try rw [hi]); (try rw [hk])
            (try conv => whnf)
            (repeat' (first | exact True.intro | exact fun _ h => h | refine inR64_of ?_ ?_ | apply And.intro | refine maxLen_ge ?_)) <;> (first | omega | (dsimp only; omega) | (dsimp only [List.length_cons, List.length_nil]; omega) | (intro hg; rw [hg]; rfl) | (intro hg hh; rw [hg, hh]; rfl) | (intro hg; simp [-List.getD_eq_getElem?_getD, -Int.default_eq_zero] at hg; first | omega | (refine inR64_of ?_ ?_ <;> omega) | (constructor <;> omega)) | (simp [-List.getD_eq_getElem?_getD, -Int.default_eq_zero]; done))
          · rw [hk] at hc4
            rw [hi] at hc4; rw [e] at hc4
            simp only [bif_t, bif_f, decide_eq_true_eq, decide_eq_false_iff_not, Bool.not_eq_true', Bool.not_eq_false', Bool.and_eq_true, Bool.or_eq_true, Bool.and_eq_false_iff, Bool.or_eq_false_iff, beq_iff_eq, bne_iff_ne, beq_eq_false_iff_ne, bne_eq_false_iff_eq, reduceCtorEq, false_and, and_false, true_and, and_true, or_false, false_or, or_true, true_or, not_true_eq_false, not_false_eq_true, Int.toNat_zero] at hc4
            rw [if_pos ⟨by omega, by omega⟩] at hnx
            conv => whnf
            refine ⟨_, fun _ => call24 _ a (a.getD ((i : Int)).toNat default).x ga, ?_⟩
            conv => whnf
            refine ⟨_, fun _ => call24 _ b (a.getD ((i : Int)).toNat default).x gb, ?_⟩
            conv => whnf
            refine ⟨?_, (i, k + 1, m + 1), hnx, ?_, rfl, rfl, ?_, ?_⟩
            · rw [hi, e]
              (try conv => whnf)
              (repeat' (first | exact True.intro | exact fun _ h => h | refine inR64_of ?_ ?_ | apply And.intro | refine maxLen_ge ?_)) <;> (first | omega | (dsimp only; omega) | (dsimp only [List.length_cons, List.length_nil]; omega) | (intro hg; rw [hg]; rfl) | (intro hg hh; rw [hg, hh]; rfl) | (intro hg; simp [-List.getD_eq_getElem?_getD, -Int.default_eq_zero] at hg; first | omega | (refine inR64_of ?_ ?_ <;> omega) | (constructor <;> omega)) | (simp [-List.getD_eq_getElem?_getD, -Int.default_eq_zero]; done))
            · dsimp only; omega
            all_goals repeat' (first | exact True.intro | refine leF_cons rfl ?_ ?_ | refine leS_cons rfl ?_ ?_ | (show PLe _ _ _ _; conv => whnf) | (show SLe _ _ _ _; conv => whnf) | (show PLeL _ _ _ _; conv => whnf) | apply And.intro | rfl | exact Nat.le_refl _ | exact fun _ _ => rfl | exact rowEq0 _ _)
            all_goals (try dsimp only)
            all_goals (try omega)
            all_goals (rw [hi, e]; exact hps)
          · rw [hk] at hc4
            rw [hi] at hc4; rw [e] at hc4
            simp only [bif_t, bif_f, decide_eq_true_eq, decide_eq_false_iff_not, Bool.not_eq_true', Bool.not_eq_false', Bool.and_eq_true, Bool.or_eq_true, Bool.and_eq_false_iff, Bool.or_eq_false_iff, beq_iff_eq, bne_iff_ne, beq_eq_false_iff_ne, bne_eq_false_iff_eq, reduceCtorEq, false_and, and_false, true_and, and_true, or_false, false_or, or_true, true_or, not_true_eq_false, not_false_eq_true, Int.toNat_zero] at hc4
            rw [if_neg (fun h => by omega)] at hnx
            conv => whnf
            refine ⟨_, fun _ => call24 _ a (a.getD ((i : Int)).toNat default).x ga, ?_⟩
            conv => whnf
            refine ⟨_, fun _ => call24 _ b (a.getD ((i : Int)).toNat default).x gb, ?_⟩
            conv => whnf
            refine ⟨?_, (i, k, m + 1), hnx, ?_, rfl, rfl, ?_, ?_⟩
            · rw [hi, e]
              (try conv => whnf)
              (repeat' (first | exact True.intro | exact fun _ h => h | refine inR64_of ?_ ?_ | apply And.intro | refine maxLen_ge ?_)) <;> (first | omega | (dsimp only; omega) | (dsimp only [List.length_cons, List.length_nil]; omega) | (intro hg; rw [hg]; rfl) | (intro hg hh; rw [hg, hh]; rfl) | (intro hg; simp [-List.getD_eq_getElem?_getD, -Int.default_eq_zero] at hg; first | omega | (refine inR64_of ?_ ?_ <;> omega) | (constructor <;> omega)) | (simp [-List.getD_eq_getElem?_getD, -Int.default_eq_zero]; done))
            · dsimp only; omega
            all_goals repeat' (first | exact True.intro | refine leF_cons rfl ?_ ?_ | refine leS_cons rfl ?_ ?_ | (show PLe _ _ _ _; conv => whnf) | (show SLe _ _ _ _; conv => whnf) | (show PLeL _ _ _ _; conv => whnf) | apply And.intro | rfl | exact Nat.le_refl _ | exact fun _ _ => rfl | exact rowEq0 _ _)
            all_goals (try dsimp only)
            all_goals (try omega)
            all_goals (rw [hi, e]; exact hps)
      · rw [hi, hk] at hc2
        simp only [bif_t, bif_f, decide_eq_true_eq, decide_eq_false_iff_not, Bool.not_eq_true', Bool.not_eq_false', Bool.and_eq_true, Bool.or_eq_true, Bool.and_eq_false_iff, Bool.or_eq_false_iff, beq_iff_eq, bne_iff_ne, beq_eq_false_iff_ne, bne_eq_false_iff_eq, reduceCtorEq, false_and, and_false, true_and, and_true, or_false, false_or, or_true, true_or, not_true_eq_false, not_false_eq_true, Int.toNat_zero] at hc2
        have e : (b.getD k default).x = X := by
          rcases hhi with ⟨h1, h⟩ | ⟨_, h⟩
          · have := (hlo.2 (by omega)).2; omega
          · exact h
        conv => whnf
        refine ⟨?_, fun hc3 => ?_, fun hc3 => ?_⟩
        · (try rw [hi]); (try rw [hk])
          (try conv => whnf)
          (repeat' (first | exact True.intro | exact fun _ h => h | refine inR64_of ?_ ?_ | apply And.intro | refine maxLen_ge ?_)) <;> (first | omega | (dsimp only; omega) | (dsimp only [List.length_cons, List.length_nil]; omega) | (intro hg; rw [hg]; rfl) | (intro hg hh; rw [hg, hh]; rfl) | (intro hg; simp [-List.getD_eq_getElem?_getD, -Int.default_eq_zero] at hg; first | omega | (refine inR64_of ?_ ?_ <;> omega) | (constructor <;> omega)) | (simp [-List.getD_eq_getElem?_getD, -Int.default_eq_zero]; done))
        · rw [hi] at hc3
          rw [hk] at hc3; rw [e] at hc3
          simp only [bif_t, bif_f, decide_eq_true_eq, decide_eq_false_iff_not, Bool.not_eq_true', Bool.not_eq_false', Bool.and_eq_true, Bool.or_eq_true, Bool.and_eq_false_iff, Bool.or_eq_false_iff, beq_iff_eq, bne_iff_ne, beq_eq_false_iff_ne, bne_eq_false_iff_eq, reduceCtorEq, false_and, and_false, true_and, and_true, or_false, false_or, or_true, true_or, not_true_eq_false, not_false_eq_true, Int.toNat_zero] at hc3
          rw [if_pos ⟨by omega, by omega⟩] at hnx
          conv => whnf
          refine ⟨?_, fun hc4 => ?_, fun hc4 => ?_⟩
          · (try rw [hi]); (try rw [hk])
            (try conv => whnf)
            (repeat' (first | exact True.intro | exact fun _ h => h | refine inR64_of ?_ ?_ | apply And.intro | refine maxLen_ge ?_)) <;> (first | omega | (dsimp only; omega) | (dsimp only [List.length_cons, List.length_nil]; omega) | (intro hg; rw [hg]; rfl) | (intro hg hh; rw [hg, hh]; rfl) | (intro hg; simp [-List.getD_eq_getElem?_getD, -Int.default_eq_zero] at hg; first | omega | (refine inR64_of ?_ ?_ <;> omega) | (constructor <;> omega)) | (simp [-List.getD_eq_getElem?_getD, -Int.default_eq_zero]; done))
          · rw [hk] at hc4
            rw [e] at hc4
            simp only [bif_t, bif_f, decide_eq_true_eq, decide_eq_false_iff_not, Bool.not_eq_true', Bool.not_eq_false', Bool.and_eq_true, Bool.or_eq_true, Bool.and_eq_false_iff, Bool.or_eq_false_iff, beq_iff_eq, bne_iff_ne, beq_eq_false_iff_ne, bne_eq_false_iff_eq, reduceCtorEq, false_and, and_false, true_and, and_true, or_false, false_or, or_true, true_or, not_true_eq_false, not_false_eq_true, Int.toNat_zero] at hc4
            rw [if_pos ⟨by omega, by omega⟩] at hnx
            conv => whnf
            refine ⟨_, fun _ => call24 _ a (b.getD ((k : Int)).toNat default).x ga, ?_⟩
            conv => whnf
            refine ⟨_, fun _ => call24 _ b (b.getD ((k : Int)).toNat default).x gb, ?_⟩
            conv => whnf
            refine ⟨?_, (i + 1, k + 1, m + 1), hnx, ?_, rfl, rfl, ?_, ?_⟩
            · rw [hk, e]
              (try conv => whnf)
              (repeat' (first | exact True.intro | exact fun _ h => h | refine inR64_of ?_ ?_ | apply And.intro | refine maxLen_ge ?_)) <;> (first | omega | (dsimp only; omega) | (dsimp only [List.length_cons, List.length_nil]; omega) | (intro hg; rw [hg]; rfl) | (intro hg hh; rw [hg, hh]; rfl) | (intro hg; simp [-List.getD_eq_getElem?_getD, -Int.default_eq_zero] at hg; first | omega | (refine inR64_of ?_ ?_ <;> omega) | (constructor <;> omega)) | (simp [-List.getD_eq_getElem?_getD, -Int.default_eq_zero]; done))
            · dsimp only; omega
            all_goals repeat' (first | exact True.intro | refine leF_cons rfl ?_ ?_ | refine leS_cons rfl ?_ ?_ | (show PLe _ _ _ _; conv => whnf) | (show SLe _ _ _ _; conv => whnf) | (show PLeL _ _ _ _; conv => whnf) | apply And.intro | rfl | exact Nat.le_refl _ | exact fun _ _ => rfl | exact rowEq0 _ _)
            all_goals (try dsimp only)
            all_goals (try omega)
            all_goals (rw [hk, e]; exact hps)
          · rw [hk] at hc4
            rw [e] at hc4
            simp only [bif_t, bif_f, decide_eq_true_eq, decide_eq_false_iff_not, Bool.not_eq_true', Bool.not_eq_false', Bool.and_eq_true, Bool.or_eq_true, Bool.and_eq_false_iff, Bool.or_eq_false_iff, beq_iff_eq, bne_iff_ne, beq_eq_false_iff_ne, bne_eq_false_iff_eq, reduceCtorEq, false_and, and_false, true_and, and_true, or_false, false_or, or_true, true_or, not_true_eq_false, not_false_eq_true, Int.toNat_zero] at hc4
            rw [if_neg (fun h => by omega)] at hnx
            conv => whnf
            refine ⟨_, fun _ => call24 _ a (b.getD ((k : Int)).toNat default).x ga, ?_⟩
            conv => whnf
            refine ⟨_, fun _ => call24 _ b (b.getD ((k : Int)).toNat default).x gb, ?_⟩
            conv => whnf
            refine ⟨?_, (i + 1, k, m + 1), hnx, ?_, rfl, rfl, ?_, ?_⟩
            · rw [hk, e]
              (try conv => whnf)
              (repeat' (first | exact True.intro | exact fun _ h => h | refine inR64_of ?_ ?_ | apply And.intro | refine maxLen_ge ?_)) <;> (first | omega | (dsimp only; omega) | (dsimp only [List.length_cons, List.length_nil]; omega) | (intro hg; rw [hg]; rfl) | (intro hg hh; rw [hg, hh]; rfl) | (intro hg; simp [-List.getD_eq_getElem?_getD, -Int.default_eq_zero] at hg; first | omega | (refine inR64_of ?_ ?_ <;> omega) | (constructor <;> omega)) | (simp [-List.getD_eq_getElem?_getD, -Int.default_eq_zero]; done))
            · dsimp only; omega
            all_goals repeat' (first | exact True.intro | refine leF_cons rfl ?_ ?_ | refine leS_cons rfl ?_ ?_ | (show PLe _ _ _ _; conv => whnf) | (show SLe _ _ _ _; conv => whnf) | (show PLeL _ _ _ _; conv => whnf) | apply And.intro | rfl | exact Nat.le_refl _ | exact fun _ _ => rfl | exact rowEq0 _ _)
            all_goals (try dsimp only)
            all_goals (try omega)
            all_goals (rw [hk, e]; exact hps)
        · rw [hi] at hc3
          rw [hk] at hc3; rw [e] at hc3
          simp only [bif_t, bif_f, decide_eq_true_eq, decide_eq_false_iff_not, Bool.not_eq_true', Bool.not_eq_false', Bool.and_eq_true, Bool.or_eq_true, Bool.and_eq_false_iff, Bool.or_eq_false_iff, beq_iff_eq, bne_iff_ne, beq_eq_false_iff_ne, bne_eq_false_iff_eq, reduceCtorEq, false_and, and_false, true_and, and_true, or_false, false_or, or_true, true_or, not_true_eq_false, not_false_eq_true, Int.toNat_zero] at hc3
          rw [if_neg (fun h => by omega)] at hnx
          conv => whnf
          refine ⟨?_, fun hc4 => ?_, fun hc4 => ?_⟩
          · (try rw [hi]); (try rw [hk])
            (try conv => whnf)
            (repeat' (first | exact True.intro | exact fun _ h => h | refine inR64_of ?_ ?_ | apply And.intro | refine maxLen_ge ?_)) <;> (first | omega | (dsimp only; omega) | (dsimp only [List.length_cons, List.length_nil]; omega) | (intro hg; rw [hg]; rfl) | (intro hg hh; rw [hg, hh]; rfl) | (intro hg; simp [-List.getD_eq_getElem?_getD, -Int.default_eq_zero] at hg; first | omega | (refine inR64_of ?_ ?_ <;> omega) | (constructor <;> omega)) | (simp [-List.getD_eq_getElem?_getD, -Int.default_eq_zero]; done))
          · rw [hk] at hc4
            rw [e] at hc4
            simp only [bif_t, bif_f, decide_eq_true_eq, decide_eq_false_iff_not, Bool.not_eq_true', Bool.not_eq_false', Bool.and_eq_true, Bool.or_eq_true, Bool.and_eq_false_iff, Bool.or_eq_false_iff, beq_iff_eq, bne_iff_ne, beq_eq_false_iff_ne, bne_eq_false_iff_eq, reduceCtorEq, false_and, and_false, true_and, and_true, or_false, false_or, or_true, true_or, not_true_eq_false, not_false_eq_true, Int.toNat_zero] at hc4
            rw [if_pos ⟨by omega, by omega⟩] at hnx
            conv => whnf
            refine ⟨_, fun _ => call24 _ a (b.getD ((k : Int)).toNat default).x ga, ?_⟩
            conv => whnf
            refine ⟨_, fun _ => call24 _ b (b.getD ((k : Int)).toNat default).x gb, ?_⟩
            conv => whnf
            refine ⟨?_, (i, k + 1, m + 1), hnx, ?_, rfl, rfl, ?_, ?_⟩
            · rw [hk, e]
              (try conv => whnf)
              (repeat' (first | exact True.intro | exact fun _ h => h | refine inR64_of ?_ ?_ | apply And.intro | refine maxLen_ge ?_)) <;> (first | omega | (dsimp only; omega) | (dsimp only [List.length_cons, List.length_nil]; omega) | (intro hg; rw [hg]; rfl) | (intro hg hh; rw [hg, hh]; rfl) | (intro hg; simp [-List.getD_eq_getElem?_getD, -Int.default_eq_zero] at hg; first | omega | (refine inR64_of ?_ ?_ <;> omega) | (constructor <;> omega)) | (simp [-List.getD_eq_getElem?_getD, -Int.default_eq_zero]; done))
            · dsimp only; omega
            all_goals repeat' (first | exact True.intro | refine leF_cons rfl ?_ ?_ | refine leS_cons rfl ?_ ?_ | (show PLe _ _ _ _; conv => whnf) | (show SLe _ _ _ _; conv => whnf) | (show PLeL _ _ _ _; conv => whnf) | apply And.intro | rfl | exact Nat.le_refl _ | exact fun _ _ => rfl | exact rowEq0 _ _)
            all_goals (try dsimp only)
            all_goals (try omega)
            all_goals (rw [hk, e]; exact hps)
          · rw [hk] at hc4
            rw [e] at hc4
            simp only [bif_t, bif_f, decide_eq_true_eq, decide_eq_false_iff_not, Bool.not_eq_true', Bool.not_eq_false', Bool.and_eq_true, Bool.or_eq_true, Bool.and_eq_false_iff, Bool.or_eq_false_iff, beq_iff_eq, bne_iff_ne, beq_eq_false_iff_ne, bne_eq_false_iff_eq, reduceCtorEq, false_and, and_false, true_and, and_true, or_false, false_or, or_true, true_or, not_true_eq_false, not_false_eq_true, Int.toNat_zero] at hc4
            rw [if_neg (fun h => by omega)] at hnx
            conv => whnf
            refine ⟨_, fun _ => call24 _ a (b.getD ((k : Int)).toNat default).x ga, ?_⟩
            conv => whnf
            refine ⟨_, fun _ => call24 _ b (b.getD ((k : Int)).toNat default).x gb, ?_⟩
            conv => whnf
            refine ⟨?_, (i, k, m + 1), hnx, ?_, rfl, rfl, ?_, ?_⟩
            · rw [hk, e]
              (try conv => whnf)
              (repeat' (first | exact True.intro | exact fun _ h => h | refine inR64_of ?_ ?_ | apply And.intro | refine maxLen_ge ?_)) <;> (first | omega | (dsimp only; omega) | (dsimp only [List.length_cons, List.length_nil]; omega) | (intro hg; rw [hg]; rfl) | (intro hg hh; rw [hg, hh]; rfl) | (intro hg; simp [-List.getD_eq_getElem?_getD, -Int.default_eq_zero] at hg; first | omega | (refine inR64_of ?_ ?_ <;> omega) | (constructor <;> omega)) | (simp [-List.getD_eq_getElem?_getD, -Int.default_eq_zero]; done))
            · dsimp only; omega
            all_goals repeat' (first | exact True.intro | refine leF_cons rfl ?_ ?_ | refine leS_cons rfl ?_ ?_ | (show PLe _ _ _ _; conv => whnf) | (show SLe _ _ _ _; conv => whnf) | (show PLeL _ _ _ _; conv => whnf) | apply And.intro | rfl | exact Nat.le_refl _ | exact fun _ _ => rfl | exact rowEq0 _ _)
            all_goals (try dsimp only)
            all_goals (try omega)
            all_goals (rw [hk, e]; exact hps)
    · simp only [bif_t, bif_f, decide_eq_true_eq, decide_eq_false_iff_not, Bool.not_eq_true', Bool.not_eq_false', Bool.and_eq_true, Bool.or_eq_true, Bool.and_eq_false_iff, Bool.or_eq_false_iff, beq_iff_eq, bne_iff_ne, beq_eq_false_iff_ne, bne_eq_false_iff_eq, reduceCtorEq, false_and, and_false, true_and, and_true, or_false, false_or, or_true, true_or, not_true_eq_false, not_false_eq_true, Int.toNat_zero] at hc
      have hlo := hs.lo
      have hm : m = (sumC a b).length := by
        by_cases c : m < (placesC a b).length
        · rcases hs.hi ia ib c with h | h <;> omega
        · omega
      subst hm
      rw [List.take_length]
      generalize sumC a b = S
      conv => whnf
      refine ⟨_, fun _ => call23 _ S, ?_⟩
      conv => whnf
      refine ⟨?_, fun hc2 => ?_, fun hc2 => ?_⟩
      · (try conv => whnf)
        (repeat' (first | exact True.intro | exact fun _ h => h | refine inR64_of ?_ ?_ | apply And.intro | refine maxLen_ge ?_)) <;> (first | omega | (dsimp only; omega) | (dsimp only [List.length_cons, List.length_nil]; omega) | (intro hg; rw [hg]; rfl) | (intro hg hh; rw [hg, hh]; rfl) | (intro hg; simp [-List.getD_eq_getElem?_getD, -Int.default_eq_zero] at hg; first | omega | (refine inR64_of ?_ ?_ <;> omega) | (constructor <;> omega)) | (simp [-List.getD_eq_getElem?_getD, -Int.default_eq_zero]; done))
      · simp only [bif_t, bif_f, decide_eq_true_eq, decide_eq_false_iff_not, Bool.not_eq_true', Bool.not_eq_false', Bool.and_eq_true, Bool.or_eq_true, Bool.and_eq_false_iff, Bool.or_eq_false_iff, beq_iff_eq, bne_iff_ne, beq_eq_false_iff_ne, bne_eq_false_iff_eq, reduceCtorEq, false_and, and_false, true_and, and_true, or_false, false_or, or_true, true_or, not_true_eq_false, not_false_eq_true, Int.toNat_zero] at hc2
        rw [if_pos hc2]
        conv => whnf
        refine ⟨?_, [], ?_⟩
        · (try conv => whnf)
          (repeat' (first | exact True.intro | exact fun _ h => h | refine inR64_of ?_ ?_ | apply And.intro | refine maxLen_ge ?_)) <;> (first | omega | (dsimp only; omega) | (dsimp only [List.length_cons, List.length_nil]; omega) | (intro hg; rw [hg]; rfl) | (intro hg hh; rw [hg, hh]; rfl) | (intro hg; simp [-List.getD_eq_getElem?_getD, -Int.default_eq_zero] at hg; first | omega | (refine inR64_of ?_ ?_ <;> omega) | (constructor <;> omega)) | (simp [-List.getD_eq_getElem?_getD, -Int.default_eq_zero]; done))
        conv => whnf
        refine ⟨rfl, ?_, trivial, trivial⟩
        all_goals repeat' (first | exact True.intro | refine leF_cons rfl ?_ ?_ | refine leS_cons rfl ?_ ?_ | (show PLe _ _ _ _; conv => whnf) | (show SLe _ _ _ _; conv => whnf) | (show PLeL _ _ _ _; conv => whnf) | apply And.intro | rfl | exact Nat.le_refl _ | exact fun _ _ => rfl | exact rowEq0 _ _)
      · simp only [bif_t, bif_f, decide_eq_true_eq, decide_eq_false_iff_not, Bool.not_eq_true', Bool.not_eq_false', Bool.and_eq_true, Bool.or_eq_true, Bool.and_eq_false_iff, Bool.or_eq_false_iff, beq_iff_eq, bne_iff_ne, beq_eq_false_iff_ne, bne_eq_false_iff_eq, reduceCtorEq, false_and, and_false, true_and, and_true, or_false, false_or, or_true, true_or, not_true_eq_false, not_false_eq_true, Int.toNat_zero] at hc2
        rw [if_neg (by rw [hc2]; simp)]
        conv => whnf
        refine ⟨?_, [], ?_⟩
        · (try conv => whnf)
          (repeat' (first | exact True.intro | exact fun _ h => h | refine inR64_of ?_ ?_ | apply And.intro | refine maxLen_ge ?_)) <;> (first | omega | (dsimp only; omega) | (dsimp only [List.length_cons, List.length_nil]; omega) | (intro hg; rw [hg]; rfl) | (intro hg hh; rw [hg, hh]; rfl) | (intro hg; simp [-List.getD_eq_getElem?_getD, -Int.default_eq_zero] at hg; first | omega | (refine inR64_of ?_ ?_ <;> omega) | (constructor <;> omega)) | (simp [-List.getD_eq_getElem?_getD, -Int.default_eq_zero]; done))
        conv => whnf
        refine ⟨rfl, ?_, trivial, trivial⟩
        all_goals repeat' (first | exact True.intro | refine leF_cons rfl ?_ ?_ | refine leS_cons rfl ?_ ?_ | (show PLe _ _ _ _; conv => whnf) | (show SLe _ _ _ _; conv => whnf) | (show PLeL _ _ _ _; conv => whnf) | apply And.intro | rfl | exact Nat.le_refl _ | exact fun _ _ => rfl | exact rowEq0 _ _)
end Pv
end Go.Proofs.Ytedoglkonfckkaa
