/- LAW 02: the statement on the sum of two curves. -/
import Derived.Test.YtedoglkonfckkaaC13
import Derived.Test.YtedoglkonfckkaaC11
set_option linter.unusedSimpArgs false
set_option linter.unusedVariables false
namespace Go.Proofs.Ytedoglkonfckkaa
namespace Pv
def c19L1 : C := (.seq (.reg [⟨(some 14), 224, none, .bi false .lss (.t 13) (.t 12)⟩])
  (.seq (.cond (.t 14) .skip (.exit 0))
  (.seq (.block 1 (.seq (.reg [⟨(some 15), 240, none, .mv (.t 13)⟩,
    ⟨(some 5), 80, none, .mv (.t 15)⟩])
  (.seq (.drw [⟨(some 16), 256, none, .mv (.t 0)⟩,
    ⟨(some 17), 272, none, .mv (.t 5)⟩,
    ⟨(some 18), 288, none, .ia 2 (.t 16) (.t 17)⟩,
    ⟨(some 19), 304, none, .ld 2 true (.t 18)⟩,
    ⟨(some 20), 320, none, .mv (.t 1)⟩,
    ⟨(some 21), 336, none, .mv (.t 5)⟩,
    ⟨(some 22), 352, none, .ia 2 (.t 20) (.t 21)⟩,
    ⟨(some 23), 368, none, .ld 2 true (.t 22)⟩,
    ⟨(some 24), 384, none, .eqa true [0, 0] (.t 19) (.t 23)⟩]
    [(0, 1, 16), (0, 4, 16), (0, 5, 16), (0, 6, 16), (0, 7, 16), (1, 4, 17), (1, 5, 17), (1, 6, 17), (1, 7, 17), (2, 4, 18), (2, 5, 18), (2, 6, 18), (2, 7, 18), (3, 4, 19), (3, 5, 19), (3, 6, 19), (3, 7, 19), (4, 5, 20)])
  (.cond (.t 24) (.seq (.reg [⟨(some 4), 64, none, .mv (.c (.bool false))⟩])
  .ret) .skip))))
  (.reg [⟨(some 25), 400, none, .bi false .add (.t 13) (.c (.int .i64 1))⟩,
    ⟨(some 13), 208, none, .mv (.t 25)⟩]))))
def c19 : C := (.seq (.reg [⟨(some 4), 64, none, .mv (.c (.bool false))⟩])
  (.seq (.seq (.reg [⟨(some 6), 96, none, .mv (.t 0)⟩,
    ⟨(some 7), 112, none, .len (.t 6)⟩,
    ⟨(some 8), 128, none, .mv (.t 1)⟩,
    ⟨(some 9), 144, none, .len (.t 8)⟩,
    ⟨(some 10), 160, none, .bi false .neq (.t 7) (.t 9)⟩])
  (.cond (.t 10) (.seq (.reg [⟨(some 4), 64, none, .mv (.c (.bool false))⟩])
  .ret) .skip))
  (.seq (.seq (.reg [⟨(some 11), 176, none, .mv (.t 0)⟩,
    ⟨(some 12), 192, none, .len (.t 11)⟩,
    ⟨(some 13), 208, none, .mv (.c (.int .i64 0))⟩])
  (.block 0 (.loop c19L1)))
  (.seq (.reg [⟨(some 4), 64, none, .mv (.c (.bool true))⟩])
  .ret))))
theorem fits19 : fits Try.prog false Try.f19 2 26 [(4, none)] = some c19.er := by kernel_rfl
def c7 : C := (.seq (.reg [⟨(some 4), 64, none, .mv (.c (.bool false))⟩])
  (.seq (.reg [⟨(some 19), 304, none, .mv (.t 0)⟩,
    ⟨(some 20), 320, none, .call (.c (.fn (.func 8) [] [])) [(.t 19)]⟩,
    ⟨(some 5), 80, none, .mv (.t 20)⟩])
  (.seq (.reg [⟨(some 21), 336, none, .mv (.t 5)⟩,
    ⟨(some 22), 352, none, .mv (.t 5)⟩,
    ⟨(some 23), 368, none, .call (.c (.fn (.func 10) [] [])) [(.t 22), (.c (.int .i64 20))]⟩,
    ⟨(some 24), 384, none, .mv (.t 5)⟩,
    ⟨(some 25), 400, none, .call (.c (.fn (.func 10) [] [])) [(.t 24), (.c (.int .i64 20))]⟩,
    ⟨(some 26), 416, none, .call (.c (.fn (.func 9) [] [])) [(.t 21), (.t 23), (.t 25), (.c (.int .i64 30)), (.c (.int .i64 40)), (.c (.bool false))]⟩,
    ⟨(some 27), 432, none, .mv (.t 5)⟩,
    ⟨(some 28), 448, none, .mv (.t 5)⟩,
    ⟨(some 29), 464, none, .call (.c (.fn (.func 10) [] [])) [(.t 28), (.c (.int .i64 20))]⟩,
    ⟨(some 30), 480, none, .mv (.t 5)⟩,
    ⟨(some 31), 496, none, .call (.c (.fn (.func 10) [] [])) [(.t 30), (.c (.int .i64 20))]⟩,
    ⟨(some 32), 512, none, .call (.c (.fn (.func 9) [] [])) [(.t 27), (.t 29), (.t 31), (.c (.int .i64 30)), (.c (.int .i64 40)), (.c (.bool false))]⟩,
    ⟨(some 6), 96, none, .mv (.t 26)⟩,
    ⟨(some 7), 112, none, .mv (.t 32)⟩])
  (.seq (.reg [⟨(some 34), 544, none, .mv (.t 6)⟩,
    ⟨(some 35), 560, none, .mv (.t 7)⟩,
    ⟨(some 36), 576, none, .call (.c (.fn (.func 17) [] [])) [(.t 34), (.t 35)]⟩,
    ⟨(some 33), 528, none, .mv (.t 36)⟩,
    ⟨(some 37), 592, none, .ex (.t 33) 0⟩,
    ⟨(some 38), 608, none, .ex (.t 33) 1⟩,
    ⟨(some 8), 128, none, .mv (.t 37)⟩,
    ⟨(some 9), 144, none, .mv (.t 38)⟩])
  (.seq (.reg [⟨(some 39), 624, none, .mv (.t 1)⟩,
    ⟨(some 40), 640, none, .call (.c (.fn (.func 11) [] [])) [(.t 39), (.c (.int .i64 160))]⟩,
    ⟨(some 10), 160, none, .mv (.t 40)⟩])
  (.seq (.reg [⟨(some 42), 672, none, .mv (.t 6)⟩,
    ⟨(some 43), 688, none, .mv (.t 10)⟩,
    ⟨(some 44), 704, none, .call (.c (.fn (.func 12) [] [])) [(.t 42), (.t 43)]⟩,
    ⟨(some 41), 656, none, .mv (.t 44)⟩,
    ⟨(some 45), 720, none, .ex (.t 41) 0⟩,
    ⟨(some 46), 736, none, .ex (.t 41) 1⟩,
    ⟨(some 11), 176, none, .mv (.t 45)⟩,
    ⟨(some 12), 192, none, .mv (.t 46)⟩])
  (.seq (.reg [⟨(some 48), 768, none, .mv (.t 7)⟩,
    ⟨(some 49), 784, none, .mv (.t 10)⟩,
    ⟨(some 50), 800, none, .call (.c (.fn (.func 12) [] [])) [(.t 48), (.t 49)]⟩,
    ⟨(some 47), 752, none, .mv (.t 50)⟩,
    ⟨(some 51), 816, none, .ex (.t 47) 0⟩,
    ⟨(some 52), 832, none, .ex (.t 47) 1⟩,
    ⟨(some 13), 208, none, .mv (.t 51)⟩,
    ⟨(some 14), 224, none, .mv (.t 52)⟩])
  (.seq (.reg [⟨(some 54), 864, none, .mv (.t 8)⟩,
    ⟨(some 55), 880, none, .mv (.t 10)⟩,
    ⟨(some 56), 896, none, .call (.c (.fn (.func 12) [] [])) [(.t 54), (.t 55)]⟩,
    ⟨(some 53), 848, none, .mv (.t 56)⟩,
    ⟨(some 57), 912, none, .ex (.t 53) 0⟩,
    ⟨(some 58), 928, none, .ex (.t 53) 1⟩,
    ⟨(some 15), 240, none, .mv (.t 57)⟩,
    ⟨(some 16), 256, none, .mv (.t 58)⟩])
  (.seq (.reg [⟨(some 60), 960, none, .mv (.t 7)⟩,
    ⟨(some 61), 976, none, .mv (.t 6)⟩,
    ⟨(some 62), 992, none, .call (.c (.fn (.func 17) [] [])) [(.t 60), (.t 61)]⟩,
    ⟨(some 59), 944, none, .mv (.t 62)⟩,
    ⟨(some 63), 1008, none, .ex (.t 59) 0⟩,
    ⟨(some 64), 1024, none, .ex (.t 59) 1⟩,
    ⟨(some 17), 272, none, .mv (.t 63)⟩,
    ⟨(some 18), 288, none, .mv (.t 64)⟩])
  (.seq (.reg [⟨(some 65), 1040, none, .mv (.t 9)⟩,
    ⟨(some 66), 1056, none, .mv (.t 12)⟩,
    ⟨(some 67), 1072, none, .bi false .add (.t 65) (.t 66)⟩,
    ⟨(some 68), 1088, none, .mv (.t 14)⟩,
    ⟨(some 69), 1104, none, .bi false .add (.t 67) (.t 68)⟩,
    ⟨(some 70), 1120, none, .mv (.t 16)⟩,
    ⟨(some 71), 1136, none, .bi false .add (.t 69) (.t 70)⟩,
    ⟨(some 72), 1152, none, .mv (.t 18)⟩,
    ⟨(some 73), 1168, none, .bi false .add (.t 71) (.t 72)⟩,
    ⟨(some 74), 1184, none, .bi false .eql (.t 73) (.c (.int .i64 0))⟩,
    ⟨(some 75), 1200, none, .mv (.t 74)⟩,
    ⟨(some 76), 1216, (some (75, true)), .mv (.t 15)⟩,
    ⟨(some 77), 1232, (some (75, true)), .mv (.t 11)⟩,
    ⟨(some 78), 1248, (some (75, true)), .mv (.t 13)⟩,
    ⟨(some 79), 1264, (some (75, true)), .bi false .add (.t 77) (.t 78)⟩,
    ⟨(some 80), 1280, (some (75, true)), .bi false .sub (.t 79) (.c (.int .i64 1))⟩,
    ⟨(some 81), 1296, (some (75, true)), .bi false .geq (.t 76) (.t 80)⟩,
    ⟨(some 82), 1312, none, .pick (.t 75) (.t 81) (.c (.bool false))⟩,
    ⟨(some 83), 1328, none, .mv (.t 82)⟩,
    ⟨(some 84), 1344, (some (83, true)), .mv (.t 15)⟩,
    ⟨(some 85), 1360, (some (83, true)), .mv (.t 11)⟩,
    ⟨(some 86), 1376, (some (83, true)), .mv (.t 13)⟩,
    ⟨(some 87), 1392, (some (83, true)), .bi false .add (.t 85) (.t 86)⟩,
    ⟨(some 88), 1408, (some (83, true)), .bi false .add (.t 87) (.c (.int .i64 1))⟩,
    ⟨(some 89), 1424, (some (83, true)), .bi false .leq (.t 84) (.t 88)⟩,
    ⟨(some 90), 1440, none, .pick (.t 83) (.t 89) (.c (.bool false))⟩,
    ⟨(some 91), 1456, none, .mv (.t 90)⟩,
    ⟨(some 92), 1472, (some (91, true)), .mv (.t 8)⟩,
    ⟨(some 93), 1488, (some (91, true)), .mv (.t 17)⟩,
    ⟨(some 94), 1504, (some (91, true)), .call (.c (.fn (.func 19) [] [])) [(.t 92), (.t 93)]⟩,
    ⟨(some 95), 1520, none, .pick (.t 91) (.t 94) (.c (.bool false))⟩,
    ⟨(some 96), 1536, none, .mv (.t 95)⟩,
    ⟨(some 97), 1552, (some (96, true)), .mv (.t 8)⟩,
    ⟨(some 98), 1568, (some (96, true)), .call (.c (.fn (.func 20) [] [])) [(.t 97)]⟩,
    ⟨(some 99), 1584, (some (96, true)), .bi false .eql (.t 98) (.c (.int .i64 0))⟩,
    ⟨(some 100), 1600, none, .pick (.t 96) (.t 99) (.c (.bool false))⟩,
    ⟨(some 101), 1616, none, .mv (.t 100)⟩,
    ⟨(some 102), 1632, (some (101, true)), .call (.c (.fn (.func 15) [] [])) []⟩,
    ⟨(some 103), 1648, none, .pick (.t 101) (.t 102) (.c (.bool false))⟩,
    ⟨(some 4), 64, none, .mv (.t 103)⟩])
  .ret))))))))))
theorem fits7 : fits Try.prog false Try.f7 2 104 [(4, none)] = some c7.er := by kernel_rfl

theorem ext_getD {α : Type} [Inhabited α] {a b : List α} (hl : a.length = b.length) (h : ∀ j, j < a.length → a.getD j default = b.getD j default) : a = b := by
  refine List.ext_getElem hl fun i h1 h2 => ?_
  have := h i h1
  rwa [List.getD_eq_getElem?_getD, List.getD_eq_getElem?_getD, List.getElem?_eq_getElem h1, List.getElem?_eq_getElem h2] at this

set_option maxRecDepth 100000 in
theorem call19 (τ τ' : Nat) (a b : List Pt) (hl : a.length ≤ 4611686018427387904) : PureCall Try.prog 19 [.sl τ 2 a.length (fl ePt a), .sl τ' 2 b.length (fl ePt b)] [] ⟨.bool (decide (a = b)), [], []⟩ := by
  refine pure_call mix Try.func19 fits19 rfl ?_
  conv => whnf
  refine ⟨trivial, fun hc => ?_, fun hc => ?_⟩
  · simp only [bif_t, bif_f, decide_eq_true_eq, decide_eq_false_iff_not, Bool.not_eq_true', Bool.not_eq_false', Bool.and_eq_true, Bool.or_eq_true, Bool.and_eq_false_iff, Bool.or_eq_false_iff, beq_iff_eq, bne_iff_ne, beq_eq_false_iff_ne, bne_eq_false_iff_eq, reduceCtorEq, false_and, and_false, true_and, and_true, or_false, false_or, or_true, true_or, not_true_eq_false, not_false_eq_true, Int.toNat_zero] at hc
    rw [decide_eq_false (fun e => hc (by rw [e]))]
    conv => whnf
    refine ⟨?_, [], ?_⟩
    · (try conv => whnf)
      (repeat' (first | exact True.intro | exact fun _ h => h | refine inR64_of ?_ ?_ | apply And.intro | refine maxLen_ge ?_)) <;> (first | omega | (dsimp only; omega) | (dsimp only [List.length_cons, List.length_nil]; omega) | (intro hg; rw [hg]; rfl) | (intro hg hh; rw [hg, hh]; rfl) | (intro hg; simp [-List.getD_eq_getElem?_getD, -Int.default_eq_zero] at hg; first | omega | (refine inR64_of ?_ ?_ <;> omega) | (constructor <;> omega)) | (simp [-List.getD_eq_getElem?_getD, -Int.default_eq_zero]; done))
    conv => whnf
    refine ⟨rfl, ?_, trivial, trivial⟩
    all_goals repeat' (first | exact True.intro | refine leF_cons rfl ?_ ?_ | refine leS_cons rfl ?_ ?_ | (show PLe _ _ _ _; conv => whnf) | (show SLe _ _ _ _; conv => whnf) | (show PLeL _ _ _ _; conv => whnf) | apply And.intro | rfl | exact Nat.le_refl _ | exact fun _ _ => rfl | exact rowEq0 _ _)
  · simp only [bif_t, bif_f, decide_eq_true_eq, decide_eq_false_iff_not, Bool.not_eq_true', Bool.not_eq_false', Bool.and_eq_true, Bool.or_eq_true, Bool.and_eq_false_iff, Bool.or_eq_false_iff, beq_iff_eq, bne_iff_ne, beq_eq_false_iff_ne, bne_eq_false_iff_eq, reduceCtorEq, false_and, and_false, true_and, and_true, or_false, false_or, or_true, true_or, not_true_eq_false, not_false_eq_true, Int.toNat_zero] at hc
    have hlen : a.length = b.length := by omega
    conv => whnf
    refine ⟨trivial, ?_⟩
    refine LSem.loop (n := 26) mix (α := Nat) (fun i => i ≤ a.length ∧ ∀ j, j < i → a.getD j default = b.getD j default)
      (fun i => [(0, .sl τ 2 a.length (fl ePt a)), (1, .sl τ' 2 b.length (fl ePt b)), (12, .int .i64 a.length), (13, .int .i64 i)])
      (fun i => []) (fun i => a.length - i) 0 ?_ ?_ ?_
    · exact ⟨Nat.zero_le _, fun j hj => by omega⟩
    · refine ⟨rfl, rfl, ?_, ?_⟩
      all_goals repeat' (first | exact True.intro | refine leF_cons rfl ?_ ?_ | refine leS_cons rfl ?_ ?_ | (show PLe _ _ _ _; conv => whnf) | (show SLe _ _ _ _; conv => whnf) | (show PLeL _ _ _ _; conv => whnf) | apply And.intro | rfl | exact Nat.le_refl _ | exact fun _ _ => rfl | exact rowEq0 _ _)
    · intro i hi
      obtain ⟨hi, hall⟩ := hi
      have hj : ((i : Int)).toNat = i := by omega
      conv => whnf
      refine ⟨trivial, fun hc2 => ?_, fun hc2 => ?_⟩
      · replace hc2 := of_decide_eq_true hc2
        have hlt : i < a.length := by omega
        conv => whnf
        refine ⟨rfl, ?_⟩
        conv => whnf
        refine ⟨?_, fun hc3 => ?_, fun hc3 => ?_⟩
        · (try conv => whnf)
          (repeat' (first | exact True.intro | exact fun _ h => h | refine inR64_of ?_ ?_ | apply And.intro | refine maxLen_ge ?_)) <;> (first | omega | (dsimp only; omega) | (dsimp only [List.length_cons, List.length_nil]; omega) | (intro hg; rw [hg]; rfl) | (intro hg hh; rw [hg, hh]; rfl) | (intro hg; simp [-List.getD_eq_getElem?_getD, -Int.default_eq_zero] at hg; first | omega | (refine inR64_of ?_ ?_ <;> omega) | (constructor <;> omega)) | (simp [-List.getD_eq_getElem?_getD, -Int.default_eq_zero]; done))
        · rw [hj] at hc3
          have hne : ¬ a = b := by
            intro e
            subst e
            simp at hc3
          rw [decide_eq_false hne]
          conv => whnf
          refine ⟨?_, [], ?_⟩
          · (try conv => whnf)
            (repeat' (first | exact True.intro | exact fun _ h => h | refine inR64_of ?_ ?_ | apply And.intro | refine maxLen_ge ?_)) <;> (first | omega | (dsimp only; omega) | (dsimp only [List.length_cons, List.length_nil]; omega) | (intro hg; rw [hg]; rfl) | (intro hg hh; rw [hg, hh]; rfl) | (intro hg; simp [-List.getD_eq_getElem?_getD, -Int.default_eq_zero] at hg; first | omega | (refine inR64_of ?_ ?_ <;> omega) | (constructor <;> omega)) | (simp [-List.getD_eq_getElem?_getD, -Int.default_eq_zero]; done))
          conv => whnf
          refine ⟨rfl, ?_, trivial, trivial⟩
          all_goals repeat' (first | exact True.intro | refine leF_cons rfl ?_ ?_ | refine leS_cons rfl ?_ ?_ | (show PLe _ _ _ _; conv => whnf) | (show SLe _ _ _ _; conv => whnf) | (show PLeL _ _ _ _; conv => whnf) | apply And.intro | rfl | exact Nat.le_refl _ | exact fun _ _ => rfl | exact rowEq0 _ _)
        · rw [hj] at hc3
          simp only [if_true, Bool.not_eq_false', Bool.and_eq_true, beq_iff_eq, and_true] at hc3
          have he : a.getD i default = b.getD i default := by
            generalize a.getD i default = p at *
            generalize b.getD i default = q at *
            cases p; cases q; simp_all
          conv => whnf
          refine ⟨?_, i + 1, ⟨by omega, fun j hj => ?_⟩, ?_, rfl, rfl, ?_, ?_⟩
          · (try conv => whnf)
            (repeat' (first | exact True.intro | exact fun _ h => h | refine inR64_of ?_ ?_ | apply And.intro | refine maxLen_ge ?_)) <;> (first | omega | (dsimp only; omega) | (dsimp only [List.length_cons, List.length_nil]; omega) | (intro hg; rw [hg]; rfl) | (intro hg hh; rw [hg, hh]; rfl) | (intro hg; simp [-List.getD_eq_getElem?_getD, -Int.default_eq_zero] at hg; first | omega | (refine inR64_of ?_ ?_ <;> omega) | (constructor <;> omega)) | (simp [-List.getD_eq_getElem?_getD, -Int.default_eq_zero]; done))
          · by_cases e : j = i
            · rw [e]; exact he
            · exact hall j (by omega)
          · omega
          all_goals repeat' (first | exact True.intro | refine leF_cons rfl ?_ ?_ | refine leS_cons rfl ?_ ?_ | (show PLe _ _ _ _; conv => whnf) | (show SLe _ _ _ _; conv => whnf) | (show PLeL _ _ _ _; conv => whnf) | apply And.intro | rfl | exact Nat.le_refl _ | exact fun _ _ => rfl | exact rowEq0 _ _)
          all_goals omega
      · replace hc2 := of_decide_eq_false hc2
        rw [decide_eq_true (ext_getD hlen fun j hj => hall j (by omega))]
        conv => whnf
        refine ⟨?_, [], ?_⟩
        · (try conv => whnf)
          (repeat' (first | exact True.intro | exact fun _ h => h | refine inR64_of ?_ ?_ | apply And.intro | refine maxLen_ge ?_)) <;> (first | omega | (dsimp only; omega) | (dsimp only [List.length_cons, List.length_nil]; omega) | (intro hg; rw [hg]; rfl) | (intro hg hh; rw [hg, hh]; rfl) | (intro hg; simp [-List.getD_eq_getElem?_getD, -Int.default_eq_zero] at hg; first | omega | (refine inR64_of ?_ ?_ <;> omega) | (constructor <;> omega)) | (simp [-List.getD_eq_getElem?_getD, -Int.default_eq_zero]; done))
        conv => whnf
        refine ⟨rfl, ?_, trivial, trivial⟩
        all_goals repeat' (first | exact True.intro | refine leF_cons rfl ?_ ?_ | refine leS_cons rfl ?_ ?_ | (show PLe _ _ _ _; conv => whnf) | (show SLe _ _ _ _; conv => whnf) | (show PLeL _ _ _ _; conv => whnf) | apply And.intro | rfl | exact Nat.le_refl _ | exact fun _ _ => rfl | exact rowEq0 _ _)

theorem addC_made {a b : List Pt} (ha : MadeC a) (hb : MadeC b) : addC a b = (sumC a b, 0) := by
  unfold addC
  rw [if_neg (by rw [(check_good a).2 ha.good]; simp), if_neg (by rw [(check_good b).2 hb.good]; simp), if_neg (by rw [(check_good _).2 (sum_good ha hb)]; simp)]

set_option maxRecDepth 100000 in
set_option maxHeartbeats 4000000 in
theorem call7 (l : List Int) (x : Int) : PureCall Try.prog 7 [.sl 1 1 l.length (fl eInt l), .int .i64 x] [] ⟨.bool true, [], []⟩ := by
  refine pure_call mix Try.func7 fits7 rfl ?_
  conv => whnf
  refine ⟨_, fun _ => call_new 1 l, ?_⟩
  conv => whnf
  have r1 := nxt_lt ⟨l, 0⟩ (n := 20) (by omega)
  have a1 := nxtD_at ⟨l, 0⟩ 20
  dsimp only at a1
  refine ⟨_, fun _ => call_next 1 ⟨l, 0⟩ 20 (by dsimp only; omega) (by omega), ?_⟩
  conv => whnf
  have r2 := nxt_lt (nxtD ⟨l, 0⟩ 20) (n := 20) (by omega)
  have a2 := nxtD_at (nxtD ⟨l, 0⟩ 20) 20
  refine ⟨_, fun _ => call_next 1 (nxtD ⟨l, 0⟩ 20) 20 (by omega) (by omega), ?_⟩
  conv => whnf
  refine ⟨_, fun _ => call9 (nxtD (nxtD ⟨l, 0⟩ 20) 20) (nxt ⟨l, 0⟩ 20) (nxt (nxtD ⟨l, 0⟩ 20) 20) 30 40 (by omega) (by omega) (by omega) (by omega) (by omega), ?_⟩
  have hm := curve_made (nxtD (nxtD ⟨l, 0⟩ 20) 20) (x := nxt ⟨l, 0⟩ 20) (y := nxt (nxtD ⟨l, 0⟩ 20) 20) (dx := 30) (dy := 40) (least := 0) (by omega) (by omega) (by omega) (by omega) (by omega)
  generalize curveS (nxtD (nxtD ⟨l, 0⟩ 20) 20) (nxt ⟨l, 0⟩ 20) (nxt (nxtD ⟨l, 0⟩ 20) 20) 30 40 0 = S at hm ⊢
  obtain ⟨ma, hd⟩ := hm
  generalize S.L = a at ma ⊢
  have hd2 : S.d.at_ ≤ 20 := by omega
  generalize S.d = d at hd2 ⊢
  conv => whnf
  have r3 := nxt_lt d (n := 20) (by omega)
  have a3 := nxtD_at d 20
  refine ⟨_, fun _ => call_next 1 d 20 (by omega) (by omega), ?_⟩
  conv => whnf
  have r4 := nxt_lt (nxtD d 20) (n := 20) (by omega)
  have a4 := nxtD_at (nxtD d 20) 20
  refine ⟨_, fun _ => call_next 1 (nxtD d 20) 20 (by omega) (by omega), ?_⟩
  conv => whnf
  refine ⟨_, fun _ => call9 (nxtD (nxtD d 20) 20) (nxt d 20) (nxt (nxtD d 20) 20) 30 40 (by omega) (by omega) (by omega) (by omega) (by omega), ?_⟩
  have mb := (curve_made (nxtD (nxtD d 20) 20) (x := nxt d 20) (y := nxt (nxtD d 20) 20) (dx := 30) (dy := 40) (least := 0) (by omega) (by omega) (by omega) (by omega) (by omega)).1
  generalize curveS (nxtD (nxtD d 20) 20) (nxt d 20) (nxt (nxtD d 20) 20) 30 40 0 = T at mb ⊢
  generalize T.L = b at mb ⊢
  generalize T.d = d2
  have hsab := sumC_comm b a
  have gs := sum_good ma mb
  have hv := sum_val ma mb (x % 160)
  have v1 := val_rng ma.good (x % 160)
  have v2 := val_rng mb.good (x % 160)
  have gsl := gs.le
  conv => whnf
  refine ⟨_, fun _ => call17 _ _ a b, ?_⟩
  rw [addC_made ma mb]
  conv => whnf
  refine ⟨_, fun _ => call_mod x 160 (by omega) (by omega), ?_⟩
  conv => whnf
  refine ⟨_, fun _ => call12 _ a (x % 160), ?_⟩
  rw [atC_good ma.good]
  conv => whnf
  refine ⟨_, fun _ => call12 _ b (x % 160), ?_⟩
  rw [atC_good mb.good]
  conv => whnf
  refine ⟨_, fun _ => call12 _ (sumC a b) (x % 160), ?_⟩
  rw [atC_good gs]
  conv => whnf
  refine ⟨_, fun _ => call17 _ _ b a, ?_⟩
  rw [addC_made mb ma, hsab]
  generalize sumC a b = s at gs hv gsl ⊢
  conv => whnf
  refine ⟨_, fun _ => call19 _ _ s s (by omega), ?_⟩
  rw [decide_eq_true rfl]
  conv => whnf
  refine ⟨_, fun _ => call20 _ s, ?_⟩
  rw [(check_good s).2 gs]
  conv => whnf
  refine ⟨_, fun _ => call15, ?_⟩
  conv => whnf
  refine ⟨?_, [], ?_⟩
  · (try conv => whnf)
    (repeat' (first | exact True.intro | exact fun _ h => h | refine inR64_of ?_ ?_ | apply And.intro | refine maxLen_ge ?_)) <;> (first | omega | (dsimp only; omega) | (dsimp only [List.length_cons, List.length_nil]; omega) | (intro hg; rw [hg]; rfl) | (intro hg hh; rw [hg, hh]; rfl) | (intro hg; simp [-List.getD_eq_getElem?_getD, -Int.default_eq_zero] at hg; first | omega | (refine inR64_of ?_ ?_ <;> omega) | (constructor <;> omega)) | (simp [-List.getD_eq_getElem?_getD, -Int.default_eq_zero]; done))
  conv => whnf
  refine ⟨rfl, ?_, trivial, trivial⟩
  all_goals repeat' (first | exact True.intro | refine leF_cons rfl ?_ ?_ | refine leS_cons rfl ?_ ?_ | (show PLe _ _ _ _; conv => whnf) | (show SLe _ _ _ _; conv => whnf) | (show PLeL _ _ _ _; conv => whnf) | apply And.intro | rfl | exact Nat.le_refl _ | exact fun _ _ => rfl | exact rowEq0 _ _)
  simp only [bif_t, bif_f, decide_eq_true_eq, decide_eq_false_iff_not, Bool.not_eq_true', Bool.not_eq_false', Bool.and_eq_true, Bool.or_eq_true, Bool.and_eq_false_iff, Bool.or_eq_false_iff, beq_iff_eq, bne_iff_ne, beq_eq_false_iff_ne, bne_eq_false_iff_eq, reduceCtorEq, false_and, and_false, true_and, and_true, or_false, false_or, or_true, true_or, not_true_eq_false, not_false_eq_true, Int.toNat_zero]
  simp
  omega
end Pv
end Go.Proofs.Ytedoglkonfckkaa
