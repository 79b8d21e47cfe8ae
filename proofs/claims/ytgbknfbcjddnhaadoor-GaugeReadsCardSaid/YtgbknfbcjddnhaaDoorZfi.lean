/- LAW 06, THE WALKS: readings as bytes, second form. -/
import Derived.Test.YtgbknfbcjddnhaaDoorZfh
/- LAW 06, THE WALKS: texts as readings, second form. -/
set_option linter.unusedSimpArgs false
set_option linter.unusedVariables false
namespace Go.Proofs.YtgbknfbcjddnhaaDoor
namespace Pv
def c23L1 : C := (.seq (.reg [⟨(some 24), 384, none, .bi false .lss (.t 23) (.t 22)⟩])
  (.seq (.cond (.t 24) .skip (.exit 0))
  (.seq (.block 1 (.seq (.reg [⟨(some 25), 400, none, .ia 1 (.t 21) (.t 23)⟩,
    ⟨(some 26), 416, none, .ld 1 false (.t 25)⟩,
    ⟨(some 8), 128, none, .mv (.t 26)⟩])
  (.seq (.reg [⟨(some 27), 432, none, .mv (.t 8)⟩,
    ⟨(some 28), 448, none, .call (.c (.fn (.func 43) [] [])) [(.t 27)]⟩,
    ⟨(some 29), 464, none, .len (.t 28)⟩,
    ⟨(some 30), 480, none, .bi false .gtr (.t 29) (.c (.int .i64 0))⟩])
  (.cond (.t 30) (.reg [⟨(some 31), 496, none, .mv (.t 5)⟩,
    ⟨(some 32), 512, none, .bi false .add (.t 31) (.c (.int .i64 1))⟩,
    ⟨(some 5), 80, none, .mv (.t 32)⟩]) .skip))))
  (.reg [⟨(some 33), 528, none, .bi false .add (.t 23) (.c (.int .i64 1))⟩,
    ⟨(some 23), 368, none, .mv (.t 33)⟩]))))
def c23L2 : C := (.seq (.reg [⟨(some 39), 624, none, .bi false .lss (.t 38) (.t 37)⟩])
  (.seq (.cond (.t 39) .skip (.exit 2))
  (.seq (.block 3 (.seq (.reg [⟨(some 40), 640, none, .mv (.t 38)⟩,
    ⟨(some 41), 656, none, .ia 1 (.t 36) (.t 38)⟩,
    ⟨(some 42), 672, none, .ld 1 false (.t 41)⟩,
    ⟨(some 10), 160, none, .mv (.t 40)⟩,
    ⟨(some 11), 176, none, .mv (.t 42)⟩])
  (.seq (.reg [⟨(some 43), 688, none, .mv (.t 11)⟩,
    ⟨(some 44), 704, none, .call (.c (.fn (.func 43) [] [])) [(.t 43)]⟩,
    ⟨(some 12), 192, none, .mv (.t 44)⟩])
  (.seq (.seq (.reg [⟨(some 45), 720, none, .mv (.t 12)⟩,
    ⟨(some 46), 736, none, .len (.t 45)⟩,
    ⟨(some 47), 752, none, .bi false .eql (.t 46) (.c (.int .i64 0))⟩])
  (.cond (.t 47) (.exit 3) .skip))
  (.seq (.reg [⟨(some 49), 784, none, .mv (.t 12)⟩,
    ⟨(some 50), 800, none, .call (.c (.fn (.func 44) [] [])) [(.t 49)]⟩,
    ⟨(some 48), 768, none, .mv (.t 50)⟩,
    ⟨(some 51), 816, none, .ex (.t 48) 0⟩,
    ⟨(some 52), 832, none, .ex (.t 48) 1⟩,
    ⟨(some 13), 208, none, .al [(.int .i64 0), (.int .i64 0), (.int .i64 0), (.int .i64 0)]⟩,
    ⟨none, 0, none, .st 4 (.t 13) (.t 51)⟩,
    ⟨(some 14), 224, none, .mv (.t 52)⟩])
  (.seq (.seq (.reg [⟨(some 53), 848, none, .mv (.t 14)⟩,
    ⟨(some 54), 864, none, .un false .not (.t 53)⟩])
  (.cond (.t 54) (.seq (.reg [⟨(some 55), 880, none, .mv (.t 10)⟩,
    ⟨(some 56), 896, none, .bi false .add (.t 55) (.c (.int .i64 1))⟩,
    ⟨(some 2), 32, none, .mv (.c (.nil 4))⟩,
    ⟨(some 3), 48, none, .mv (.t 56)⟩,
    ⟨(some 4), 64, none, .mv (.c (.int .i64 7))⟩])
  .ret) .skip))
  (.seq (.seq (.reg [⟨(some 57), 912, none, .ld 4 true (.t 13)⟩,
    ⟨(some 58), 928, none, .call (.c (.fn (.func 27) [] [])) [(.t 57)]⟩,
    ⟨(some 15), 240, none, .mv (.t 58)⟩])
  (.seq (.reg [⟨(some 59), 944, none, .mv (.t 15)⟩,
    ⟨(some 60), 960, none, .bi false .neq (.t 59) (.c (.int .i64 0))⟩])
  (.cond (.t 60) (.seq (.reg [⟨(some 61), 976, none, .mv (.t 10)⟩,
    ⟨(some 62), 992, none, .bi false .add (.t 61) (.c (.int .i64 1))⟩,
    ⟨(some 63), 1008, none, .mv (.t 15)⟩,
    ⟨(some 2), 32, none, .mv (.c (.nil 4))⟩,
    ⟨(some 3), 48, none, .mv (.t 62)⟩,
    ⟨(some 4), 64, none, .mv (.t 63)⟩])
  .ret) .skip)))
  (.reg [⟨(some 64), 1024, none, .mv (.t 9)⟩,
    ⟨(some 65), 1040, none, .ld 4 true (.t 13)⟩,
    ⟨(some 66), 1056, none, .bs 23 4 [(.t 65)]⟩,
    ⟨(some 67), 1072, none, .app 23 4 32 (.t 64) (.t 66)⟩,
    ⟨(some 9), 144, none, .mv (.t 67)⟩]))))))))
  (.reg [⟨(some 68), 1088, none, .bi false .add (.t 38) (.c (.int .i64 1))⟩,
    ⟨(some 38), 608, none, .mv (.t 68)⟩]))))
def c23 : C := (.seq (.reg [⟨(some 2), 32, none, .mv (.c (.nil 4))⟩,
    ⟨(some 3), 48, none, .mv (.c (.int .i64 0))⟩,
    ⟨(some 4), 64, none, .mv (.c (.int .i64 0))⟩])
  (.seq (.seq (.reg [⟨(some 16), 256, none, .mv (.t 0)⟩,
    ⟨(some 17), 272, none, .lens (.t 16)⟩,
    ⟨(some 18), 288, none, .bi false .gtr (.t 17) (.c (.int .i64 65536))⟩])
  (.cond (.t 18) (.seq (.reg [⟨(some 2), 32, none, .mv (.c (.nil 4))⟩,
    ⟨(some 3), 48, none, .mv (.c (.int .i64 0))⟩,
    ⟨(some 4), 64, none, .mv (.c (.int .i64 10))⟩])
  .ret) .skip))
  (.seq (.reg [⟨(some 5), 80, none, .mv (.c (.int .i64 0))⟩])
  (.seq (.reg [⟨(some 19), 304, none, .mv (.t 0)⟩,
    ⟨(some 20), 320, none, .call (.c (.fn (.func 42) [] [])) [(.t 19)]⟩,
    ⟨(some 6), 96, none, .mv (.t 20)⟩])
  (.seq (.seq (.reg [⟨(some 21), 336, none, .mv (.t 6)⟩,
    ⟨(some 22), 352, none, .len (.t 21)⟩,
    ⟨(some 23), 368, none, .mv (.c (.int .i64 0))⟩])
  (.block 0 (.loop c23L1)))
  (.seq (.seq (.reg [⟨(some 34), 544, none, .mv (.t 5)⟩,
    ⟨(some 35), 560, none, .bi false .gtr (.t 34) (.c (.int .i64 4096))⟩])
  (.cond (.t 35) (.seq (.reg [⟨(some 2), 32, none, .mv (.c (.nil 4))⟩,
    ⟨(some 3), 48, none, .mv (.c (.int .i64 0))⟩,
    ⟨(some 4), 64, none, .mv (.c (.int .i64 10))⟩])
  .ret) .skip))
  (.seq (.reg [⟨(some 9), 144, none, .mv (.c (.nil 4))⟩])
  (.seq (.seq (.reg [⟨(some 36), 576, none, .mv (.t 6)⟩,
    ⟨(some 37), 592, none, .len (.t 36)⟩,
    ⟨(some 38), 608, none, .mv (.c (.int .i64 0))⟩])
  (.block 2 (.loop c23L2)))
  (.seq (.reg [⟨(some 69), 1104, none, .mv (.t 9)⟩,
    ⟨(some 2), 32, none, .mv (.t 69)⟩,
    ⟨(some 3), 48, none, .mv (.c (.int .i64 0))⟩,
    ⟨(some 4), 64, none, .mv (.c (.int .i64 0))⟩])
  .ret)))))))))
theorem fits23 : fits Tryd.prog false Tryd.f23 1 70 [(2, none), (3, none), (4, none)] = some c23.er := by kernel_rfl

theorem splitC_nl (s : List UInt8) : splitC 10 s = splitP isNl s := splitC_P 10 s
theorem words_line {s : List UInt8} {i : Nat} (h : i < (splitP isNl s).length) : wordsB isBn ((splitP isNl s).getD i default) = (linesW s).getD i default := by
  rw [linesW_getD (by rw [splitC_nl]; exact h), splitC_nl]
  unfold wordsB
  rw [splitP_congr _ fun b hb => ?_]
  have := (pP_mem isNl s _ (getD_mem h) b hb).1
  unfold isNl at this
  simp [isBn, isBl, this]
theorem line_same (w : List (List UInt8)) : (lineR w).2 = (lineG w).2 ∧ ((lineG w).2 = true → (lineR w).1 = (lineG w).1) := by
  unfold lineR lineG
  by_cases hl : w.length ≠ 4
  · rw [if_pos hl, if_pos hl]; exact ⟨rfl, fun h => by cases h⟩
  rw [if_neg hl, if_neg hl]
  generalize w.getD 3 default = s
  cases h0 : isG w 0
  · exact ⟨rfl, fun h => by cases h⟩
  cases h1 : isG w 1
  · exact ⟨rfl, fun h => by cases h⟩
  cases h2 : isG w 2
  · exact ⟨rfl, fun h => by cases h⟩
  simp only [Bool.true_eq_false, if_false, cond_true]
  unfold flR
  by_cases e0 : fl0 = s
  · subst e0; exact ⟨rfl, fun _ => rfl⟩
  by_cases e1 : fl1 = s
  · subst e1; exact ⟨rfl, fun _ => rfl⟩
  by_cases e2 : fl2 = s
  · subst e2; exact ⟨rfl, fun _ => rfl⟩
  simp only [e0, e1, e2, if_false]
  exact ⟨rfl, fun h => by cases h⟩

set_option maxRecDepth 100000 in
set_option maxHeartbeats 8000000 in
theorem call23 (s : List UInt8) (hs : s.length ≤ 4611686018427387904) : PureCall Tryd.prog 23 [.str s] [] ⟨.tup [.sl 0 4 (parseF s).1.length (fl eRd (parseF s).1), .int .i64 (parseF s).2.1, .int .i64 (parseF s).2.2], [], []⟩ := by
  refine pure_call mix Tryd.func23 fits23 rfl ?_
  conv => whnf
  refine ⟨?_, fun hc => ?_, fun hc => ?_⟩
  · (try conv => whnf)
    (repeat' (first | exact True.intro | exact fun _ h => h | refine inR64_of ?_ ?_ | apply And.intro | refine maxLen_ge ?_)) <;> (first | omega | decide | (dsimp only; omega) | (dsimp only [List.length_cons, List.length_nil]; omega) | (intro hg; rw [hg]; rfl) | (intro hg hh; rw [hg, hh]; rfl) | (intro hg; simp [-List.getD_eq_getElem?_getD, -Int.default_eq_zero] at hg; first | omega | (refine inR64_of ?_ ?_ <;> omega) | (constructor <;> omega)) | (simp [-List.getD_eq_getElem?_getD, -Int.default_eq_zero]; done))
  · simp only [bif_t, bif_f, decide_eq_true_eq, decide_eq_false_iff_not, Bool.not_eq_true', Bool.not_eq_false', Bool.and_eq_true, Bool.or_eq_true, Bool.and_eq_false_iff, Bool.or_eq_false_iff, beq_iff_eq, bne_iff_ne, beq_eq_false_iff_ne, bne_eq_false_iff_eq, reduceCtorEq, false_and, and_false, true_and, and_true, or_false, false_or, or_true, true_or, not_true_eq_false, not_false_eq_true, Int.toNat_zero] at hc
    rw [show parseF s = ([], 0, 10) by unfold parseF; rw [if_pos (by omega)]]
    conv => whnf
    refine ⟨?_, [], ?_⟩
    · (try conv => whnf)
      (repeat' (first | exact True.intro | exact fun _ h => h | refine inR64_of ?_ ?_ | apply And.intro | refine maxLen_ge ?_)) <;> (first | omega | decide | (dsimp only; omega) | (dsimp only [List.length_cons, List.length_nil]; omega) | (intro hg; rw [hg]; rfl) | (intro hg hh; rw [hg, hh]; rfl) | (intro hg; simp [-List.getD_eq_getElem?_getD, -Int.default_eq_zero] at hg; first | omega | (refine inR64_of ?_ ?_ <;> omega) | (constructor <;> omega)) | (simp [-List.getD_eq_getElem?_getD, -Int.default_eq_zero]; done))
    conv => whnf
    refine ⟨rfl, ?_, trivial, trivial⟩
    all_goals repeat' (first | exact True.intro | refine leF_cons rfl ?_ ?_ | refine leS_cons rfl ?_ ?_ | (show PLe _ _ _ _; conv => whnf) | (show SLe _ _ _ _; conv => whnf) | (show PLeL _ _ _ _; conv => whnf) | apply And.intro | rfl | exact Nat.le_refl _ | exact fun _ _ => rfl | exact rowEq0 _ _)
  simp only [bif_t, bif_f, decide_eq_true_eq, decide_eq_false_iff_not, Bool.not_eq_true', Bool.not_eq_false', Bool.and_eq_true, Bool.or_eq_true, Bool.and_eq_false_iff, Bool.or_eq_false_iff, beq_iff_eq, bne_iff_ne, beq_eq_false_iff_ne, bne_eq_false_iff_eq, reduceCtorEq, false_and, and_false, true_and, and_true, or_false, false_or, or_true, true_or, not_true_eq_false, not_false_eq_true, Int.toNat_zero] at hc
  have hs2 : s.length ≤ 65536 := by omega
  have hll := linesW_len s
  have hll2 := (splitC_len 10 s).1
  have hcn := cntW_le (linesW s)
  have hlen := fun i => lineG_lens hs2 (i := i)
  have hwl := fun i => words_line (s := s) (i := i)
  have hLm : ∀ i, i < (splitP isNl s).length → ((splitP isNl s).getD i default).length ≤ 65536 := fun i hi => by
    have := (splitP_len isNl s).2 _ (getD_mem hi); omega
  rw [splitC_nl] at hll hll2
  conv => whnf
  refine ⟨_, fun _ => call42 s hs2, ?_⟩
  have hpf : parseF s = if 4096 < cntW (linesW s) then ([], 0, 10) else parL 0 [] (linesW s) := by unfold parseF; rw [if_neg (by omega)]
  rw [hpf]
  clear hpf
  generalize linesW s = W at hll hcn hlen hwl ⊢
  generalize splitP isNl s = L at hll hll2 hwl hLm ⊢
  have hLl : L.length ≤ 65537 := by omega
  conv => whnf
  refine ⟨⟨trivial, trivial⟩, ?_⟩
  refine LSem.loop (n := 70) mix (α := Nat) (fun i => i ≤ L.length)
    (fun i => [(5, .int .i64 (cntW (W.take i))), (6, .os 320), (21, .os 320), (22, .int .i64 L.length), (23, .int .i64 i)])
    (fun i => [(320, .row 0 9 1 L.length (fl eStr L))]) (fun i => L.length - i) 0 ?_ ?_ ?_
  · exact Nat.zero_le _
  · refine ⟨rfl, rfl, ?_, ?_⟩
    all_goals repeat' (first | exact True.intro | refine leF_cons rfl ?_ ?_ | refine leS_cons rfl ?_ ?_ | (show PLe _ _ _ _; conv => whnf) | (show SLe _ _ _ _; conv => whnf) | (show PLeL _ _ _ _; conv => whnf) | apply And.intro | rfl | exact Nat.le_refl _ | exact fun _ _ => rfl | exact rowEq0 _ _)
    all_goals skip
  · intro i hi
    have hj : ((i : Int)).toNat = i := by omega
    conv => whnf
    refine ⟨trivial, fun hc => ?_, fun hc => ?_⟩
    · replace hc := of_decide_eq_true hc
      have hlt : i < L.length := by
        have h : (i : Int) < L.length := hc
        omega
      have hcl := cntW_le (W.take i)
      have htl : (W.take i).length = i := by rw [List.length_take]; omega
      have htp : W.take (i + 1) = W.take i ++ [W.getD i default] := take_push (by omega)
      have hcp := cntW_push (W.take i) (W.getD i default)
      rw [← htp] at hcp
      have hWi := hwl i hlt
      conv => whnf
      rw [hj]
      refine ⟨_, fun _ => call43 (L.getD i default) (hLm i hlt), ?_⟩
      rw [hWi]
      conv => whnf
      refine ⟨?_, fun hgt => ?_, fun hgt => ?_⟩
      · (try conv => whnf)
        (repeat' (first | exact True.intro | exact fun _ h => h | refine inR64_of ?_ ?_ | apply And.intro | refine maxLen_ge ?_)) <;> (first | omega | decide | (dsimp only; omega) | (dsimp only [List.length_cons, List.length_nil]; omega) | (intro hg; rw [hg]; rfl) | (intro hg hh; rw [hg, hh]; rfl) | (intro hg; simp [-List.getD_eq_getElem?_getD, -Int.default_eq_zero] at hg; first | omega | (refine inR64_of ?_ ?_ <;> omega) | (constructor <;> omega)) | (simp [-List.getD_eq_getElem?_getD, -Int.default_eq_zero]; done))
      · simp only [bif_t, bif_f, decide_eq_true_eq, decide_eq_false_iff_not, Bool.not_eq_true', Bool.not_eq_false', Bool.and_eq_true, Bool.or_eq_true, Bool.and_eq_false_iff, Bool.or_eq_false_iff, beq_iff_eq, bne_iff_ne, beq_eq_false_iff_ne, bne_eq_false_iff_eq, reduceCtorEq, false_and, and_false, true_and, and_true, or_false, false_or, or_true, true_or, not_true_eq_false, not_false_eq_true, Int.toNat_zero] at hgt
        have hne : (W.getD i default).isEmpty = false := by
          cases hE : W.getD i default with
          | nil => rw [hE] at hgt; simp at hgt
          | cons _ _ => rfl
        rw [hne] at hcp
        conv => whnf
        refine ⟨?_, i + 1, hlt, ?_, rfl, rfl, ?_, ?_⟩
        · (try conv => whnf)
          (repeat' (first | exact True.intro | exact fun _ h => h | refine inR64_of ?_ ?_ | apply And.intro | refine maxLen_ge ?_)) <;> (first | omega | decide | (dsimp only; omega) | (dsimp only [List.length_cons, List.length_nil]; omega) | (intro hg; rw [hg]; rfl) | (intro hg hh; rw [hg, hh]; rfl) | (intro hg; simp [-List.getD_eq_getElem?_getD, -Int.default_eq_zero] at hg; first | omega | (refine inR64_of ?_ ?_ <;> omega) | (constructor <;> omega)) | (simp [-List.getD_eq_getElem?_getD, -Int.default_eq_zero]; done))
        · omega
        all_goals repeat' (first | exact True.intro | refine leF_cons rfl ?_ ?_ | refine leS_cons rfl ?_ ?_ | (show PLe _ _ _ _; conv => whnf) | (show SLe _ _ _ _; conv => whnf) | (show PLeL _ _ _ _; conv => whnf) | apply And.intro | rfl | exact Nat.le_refl _ | exact fun _ _ => rfl | exact rowEq0 _ _)
        all_goals first | (rw [hcp]; rfl) | omega | skip
      · simp only [bif_t, bif_f, decide_eq_true_eq, decide_eq_false_iff_not, Bool.not_eq_true', Bool.not_eq_false', Bool.and_eq_true, Bool.or_eq_true, Bool.and_eq_false_iff, Bool.or_eq_false_iff, beq_iff_eq, bne_iff_ne, beq_eq_false_iff_ne, bne_eq_false_iff_eq, reduceCtorEq, false_and, and_false, true_and, and_true, or_false, false_or, or_true, true_or, not_true_eq_false, not_false_eq_true, Int.toNat_zero] at hgt
        have hne : (W.getD i default).isEmpty = true := by
          cases hE : W.getD i default with
          | nil => rfl
          | cons _ _ => rw [hE] at hgt; simp at hgt
        rw [hne] at hcp
        conv => whnf
        refine ⟨?_, i + 1, hlt, ?_, rfl, rfl, ?_, ?_⟩
        · (try conv => whnf)
          (repeat' (first | exact True.intro | exact fun _ h => h | refine inR64_of ?_ ?_ | apply And.intro | refine maxLen_ge ?_)) <;> (first | omega | decide | (dsimp only; omega) | (dsimp only [List.length_cons, List.length_nil]; omega) | (intro hg; rw [hg]; rfl) | (intro hg hh; rw [hg, hh]; rfl) | (intro hg; simp [-List.getD_eq_getElem?_getD, -Int.default_eq_zero] at hg; first | omega | (refine inR64_of ?_ ?_ <;> omega) | (constructor <;> omega)) | (simp [-List.getD_eq_getElem?_getD, -Int.default_eq_zero]; done))
        · omega
        all_goals repeat' (first | exact True.intro | refine leF_cons rfl ?_ ?_ | refine leS_cons rfl ?_ ?_ | (show PLe _ _ _ _; conv => whnf) | (show SLe _ _ _ _; conv => whnf) | (show PLeL _ _ _ _; conv => whnf) | apply And.intro | rfl | exact Nat.le_refl _ | exact fun _ _ => rfl | exact rowEq0 _ _)
        all_goals first | (rw [hcp]; rfl) | omega | skip
    · replace hc := of_decide_eq_false hc
      have hk : i = L.length := by
        have h : ¬ (i : Int) < L.length := hc
        omega
      subst hk
      rw [← hll, List.take_length]
      conv => whnf
      refine ⟨?_, fun hc2 => ?_, fun hc2 => ?_⟩
      · (try conv => whnf)
        (repeat' (first | exact True.intro | exact fun _ h => h | refine inR64_of ?_ ?_ | apply And.intro | refine maxLen_ge ?_)) <;> (first | omega | decide | (dsimp only; omega) | (dsimp only [List.length_cons, List.length_nil]; omega) | (intro hg; rw [hg]; rfl) | (intro hg hh; rw [hg, hh]; rfl) | (intro hg; simp [-List.getD_eq_getElem?_getD, -Int.default_eq_zero] at hg; first | omega | (refine inR64_of ?_ ?_ <;> omega) | (constructor <;> omega)) | (simp [-List.getD_eq_getElem?_getD, -Int.default_eq_zero]; done))
      · simp only [bif_t, bif_f, decide_eq_true_eq, decide_eq_false_iff_not, Bool.not_eq_true', Bool.not_eq_false', Bool.and_eq_true, Bool.or_eq_true, Bool.and_eq_false_iff, Bool.or_eq_false_iff, beq_iff_eq, bne_iff_ne, beq_eq_false_iff_ne, bne_eq_false_iff_eq, reduceCtorEq, false_and, and_false, true_and, and_true, or_false, false_or, or_true, true_or, not_true_eq_false, not_false_eq_true, Int.toNat_zero] at hc2
        rw [if_pos (by omega)]
        conv => whnf
        refine ⟨?_, [], ?_⟩
        · (try conv => whnf)
          (repeat' (first | exact True.intro | exact fun _ h => h | refine inR64_of ?_ ?_ | apply And.intro | refine maxLen_ge ?_)) <;> (first | omega | decide | (dsimp only; omega) | (dsimp only [List.length_cons, List.length_nil]; omega) | (intro hg; rw [hg]; rfl) | (intro hg hh; rw [hg, hh]; rfl) | (intro hg; simp [-List.getD_eq_getElem?_getD, -Int.default_eq_zero] at hg; first | omega | (refine inR64_of ?_ ?_ <;> omega) | (constructor <;> omega)) | (simp [-List.getD_eq_getElem?_getD, -Int.default_eq_zero]; done))
        conv => whnf
        refine ⟨rfl, ?_, trivial, trivial⟩
        all_goals repeat' (first | exact True.intro | refine leF_cons rfl ?_ ?_ | refine leS_cons rfl ?_ ?_ | (show PLe _ _ _ _; conv => whnf) | (show SLe _ _ _ _; conv => whnf) | (show PLeL _ _ _ _; conv => whnf) | apply And.intro | rfl | exact Nat.le_refl _ | exact fun _ _ => rfl | exact rowEq0 _ _)
      simp only [bif_t, bif_f, decide_eq_true_eq, decide_eq_false_iff_not, Bool.not_eq_true', Bool.not_eq_false', Bool.and_eq_true, Bool.or_eq_true, Bool.and_eq_false_iff, Bool.or_eq_false_iff, beq_iff_eq, bne_iff_ne, beq_eq_false_iff_ne, bne_eq_false_iff_eq, reduceCtorEq, false_and, and_false, true_and, and_true, or_false, false_or, or_true, true_or, not_true_eq_false, not_false_eq_true, Int.toNat_zero] at hc2
      rw [if_neg (by omega)]
      conv => whnf
      refine ⟨trivial, ?_⟩
      refine LSem.adopt 9 1000000 23 4 4 rfl rfl ?_
      refine LSem.loop (n := 70) mix (α := Nat × List Rd) (fun x => x.1 ≤ W.length ∧ x.2.length ≤ x.1 ∧ parL (x.1 : Int) x.2 (W.drop x.1) = parL 0 [] W)
        (fun x => [(9, .os 1000000), (36, .os 320), (37, .int .i64 W.length), (38, .int .i64 x.1)])
        (fun x => [(1000000, .row 0 23 4 x.2.length (fl eRd x.2)), (320, .row 0 9 1 W.length (fl eStr L))]) (fun x => W.length - x.1) (0, []) ?_ ?_ ?_
      · exact ⟨Nat.zero_le _, Nat.le_refl _, rfl⟩
      · refine ⟨rfl, rfl, ?_, ?_⟩
        all_goals repeat' (first | exact True.intro | refine leF_cons rfl ?_ ?_ | refine leS_cons rfl ?_ ?_ | (show PLe _ _ _ _; conv => whnf) | (show SLe _ _ _ _; conv => whnf) | (show PLeL _ _ _ _; conv => whnf) | apply And.intro | rfl | exact Nat.le_refl _ | exact fun _ _ => rfl | exact rowEq0 _ _)
        all_goals first | omega | skip
      · intro x hx
        obtain ⟨i, out⟩ := x
        obtain ⟨hi, ho, hp⟩ := hx
        dsimp only at hi ho hp
        have hj : ((i : Int)).toNat = i := by omega
        conv => whnf
        refine ⟨trivial, fun hc3 => ?_, fun hc3 => ?_⟩
        · replace hc3 := of_decide_eq_true hc3
          have hlt : i < W.length := by
            have h : (i : Int) < W.length := hc3
            omega
          obtain ⟨hl1, hl2⟩ := hlen i hlt
          rw [parL_drop out hlt] at hp
          conv => whnf
          dsimp only
          rw [hj]
          refine ⟨_, fun _ => call43 (L.getD i default) (hLm i (by omega)), ?_⟩
          rw [hwl i (by omega)]
          conv => whnf
          refine ⟨?_, fun hz => ?_, fun hz => ?_⟩
          · (try conv => whnf)
            (repeat' (first | exact True.intro | exact fun _ h => h | refine inR64_of ?_ ?_ | apply And.intro | refine maxLen_ge ?_)) <;> (first | omega | decide | (dsimp only; omega) | (dsimp only [List.length_cons, List.length_nil]; omega) | (intro hg; rw [hg]; rfl) | (intro hg hh; rw [hg, hh]; rfl) | (intro hg; simp [-List.getD_eq_getElem?_getD, -Int.default_eq_zero] at hg; first | omega | (refine inR64_of ?_ ?_ <;> omega) | (constructor <;> omega)) | (simp [-List.getD_eq_getElem?_getD, -Int.default_eq_zero]; done))
          · simp only [bif_t, bif_f, decide_eq_true_eq, decide_eq_false_iff_not, Bool.not_eq_true', Bool.not_eq_false', Bool.and_eq_true, Bool.or_eq_true, Bool.and_eq_false_iff, Bool.or_eq_false_iff, beq_iff_eq, bne_iff_ne, beq_eq_false_iff_ne, bne_eq_false_iff_eq, reduceCtorEq, false_and, and_false, true_and, and_true, or_false, false_or, or_true, true_or, not_true_eq_false, not_false_eq_true, Int.toNat_zero] at hz
            rw [if_pos (by omega)] at hp
            conv => whnf
            refine ⟨?_, (i + 1, out), ⟨hlt, by dsimp only; omega, hp⟩, ?_, rfl, rfl, ?_, ?_⟩
            · (try conv => whnf)
              (repeat' (first | exact True.intro | exact fun _ h => h | refine inR64_of ?_ ?_ | apply And.intro | refine maxLen_ge ?_)) <;> (first | omega | decide | (dsimp only; omega) | (dsimp only [List.length_cons, List.length_nil]; omega) | (intro hg; rw [hg]; rfl) | (intro hg hh; rw [hg, hh]; rfl) | (intro hg; simp [-List.getD_eq_getElem?_getD, -Int.default_eq_zero] at hg; first | omega | (refine inR64_of ?_ ?_ <;> omega) | (constructor <;> omega)) | (simp [-List.getD_eq_getElem?_getD, -Int.default_eq_zero]; done))
            · dsimp only; omega
            all_goals repeat' (first | exact True.intro | refine leF_cons rfl ?_ ?_ | refine leS_cons rfl ?_ ?_ | (show PLe _ _ _ _; conv => whnf) | (show SLe _ _ _ _; conv => whnf) | (show PLeL _ _ _ _; conv => whnf) | apply And.intro | rfl | exact Nat.le_refl _ | exact fun _ _ => rfl | exact rowEq0 _ _)
            all_goals first | (dsimp only; omega) | skip
          simp only [bif_t, bif_f, decide_eq_true_eq, decide_eq_false_iff_not, Bool.not_eq_true', Bool.not_eq_false', Bool.and_eq_true, Bool.or_eq_true, Bool.and_eq_false_iff, Bool.or_eq_false_iff, beq_iff_eq, bne_iff_ne, beq_eq_false_iff_ne, bne_eq_false_iff_eq, reduceCtorEq, false_and, and_false, true_and, and_true, or_false, false_or, or_true, true_or, not_true_eq_false, not_false_eq_true, Int.toNat_zero] at hz
          rw [if_neg (by omega)] at hp
          conv => whnf
          refine ⟨_, fun _ => call44 2 (W.getD i default) (by omega) (fun k hk => by have := hl2 k hk; omega), ?_⟩
          obtain ⟨hs1, hs3⟩ := line_same (W.getD i default)
          generalize lineG (W.getD i default) = R at hp hs1 hs3 ⊢
          rw [hs1]
          conv => whnf
          refine ⟨?_, fun h1 => ?_, fun h1 => ?_⟩
          · (try conv => whnf)
            (repeat' (first | exact True.intro | exact fun _ h => h | refine inR64_of ?_ ?_ | apply And.intro | refine maxLen_ge ?_)) <;> (first | omega | decide | (dsimp only; omega) | (dsimp only [List.length_cons, List.length_nil]; omega) | (intro hg; rw [hg]; rfl) | (intro hg hh; rw [hg, hh]; rfl) | (intro hg; simp [-List.getD_eq_getElem?_getD, -Int.default_eq_zero] at hg; first | omega | (refine inR64_of ?_ ?_ <;> omega) | (constructor <;> omega)) | (simp [-List.getD_eq_getElem?_getD, -Int.default_eq_zero]; done))
          · simp only [bif_t, bif_f, decide_eq_true_eq, decide_eq_false_iff_not, Bool.not_eq_true', Bool.not_eq_false', Bool.and_eq_true, Bool.or_eq_true, Bool.and_eq_false_iff, Bool.or_eq_false_iff, beq_iff_eq, bne_iff_ne, beq_eq_false_iff_ne, bne_eq_false_iff_eq, reduceCtorEq, false_and, and_false, true_and, and_true, or_false, false_or, or_true, true_or, not_true_eq_false, not_false_eq_true, Int.toNat_zero] at h1
            rw [if_pos h1] at hp
            rw [← hp]
            conv => whnf
            refine ⟨?_, [], ?_⟩
            · (try conv => whnf)
              (repeat' (first | exact True.intro | exact fun _ h => h | refine inR64_of ?_ ?_ | apply And.intro | refine maxLen_ge ?_)) <;> (first | omega | decide | (dsimp only; omega) | (dsimp only [List.length_cons, List.length_nil]; omega) | (intro hg; rw [hg]; rfl) | (intro hg hh; rw [hg, hh]; rfl) | (intro hg; simp [-List.getD_eq_getElem?_getD, -Int.default_eq_zero] at hg; first | omega | (refine inR64_of ?_ ?_ <;> omega) | (constructor <;> omega)) | (simp [-List.getD_eq_getElem?_getD, -Int.default_eq_zero]; done))
            conv => whnf
            refine ⟨rfl, ?_, trivial, trivial⟩
            all_goals repeat' (first | exact True.intro | refine leF_cons rfl ?_ ?_ | refine leS_cons rfl ?_ ?_ | (show PLe _ _ _ _; conv => whnf) | (show SLe _ _ _ _; conv => whnf) | (show PLeL _ _ _ _; conv => whnf) | apply And.intro | rfl | exact Nat.le_refl _ | exact fun _ _ => rfl | exact rowEq0 _ _)
          simp only [bif_t, bif_f, decide_eq_true_eq, decide_eq_false_iff_not, Bool.not_eq_true', Bool.not_eq_false', Bool.and_eq_true, Bool.or_eq_true, Bool.and_eq_false_iff, Bool.or_eq_false_iff, beq_iff_eq, bne_iff_ne, beq_eq_false_iff_ne, bne_eq_false_iff_eq, reduceCtorEq, false_and, and_false, true_and, and_true, or_false, false_or, or_true, true_or, not_true_eq_false, not_false_eq_true, Int.toNat_zero] at h1
          rw [hs3 h1]
          rw [if_neg (by rw [h1]; decide)] at hp
          conv => whnf
          refine ⟨_, fun _ => call27 R.1, ?_⟩
          conv => whnf
          refine ⟨?_, fun h2 => ?_, fun h2 => ?_⟩
          · (try conv => whnf)
            (repeat' (first | exact True.intro | exact fun _ h => h | refine inR64_of ?_ ?_ | apply And.intro | refine maxLen_ge ?_)) <;> (first | omega | decide | (dsimp only; omega) | (dsimp only [List.length_cons, List.length_nil]; omega) | (intro hg; rw [hg]; rfl) | (intro hg hh; rw [hg, hh]; rfl) | (intro hg; simp [-List.getD_eq_getElem?_getD, -Int.default_eq_zero] at hg; first | omega | (refine inR64_of ?_ ?_ <;> omega) | (constructor <;> omega)) | (simp [-List.getD_eq_getElem?_getD, -Int.default_eq_zero]; done))
          · have h2' : checkR R.1 ≠ 0 := by simpa using h2
            rw [if_pos h2'] at hp
            rw [← hp]
            conv => whnf
            refine ⟨?_, [], ?_⟩
            · (try conv => whnf)
              (repeat' (first | exact True.intro | exact fun _ h => h | refine inR64_of ?_ ?_ | apply And.intro | refine maxLen_ge ?_)) <;> (first | omega | decide | (dsimp only; omega) | (dsimp only [List.length_cons, List.length_nil]; omega) | (intro hg; rw [hg]; rfl) | (intro hg hh; rw [hg, hh]; rfl) | (intro hg; simp [-List.getD_eq_getElem?_getD, -Int.default_eq_zero] at hg; first | omega | (refine inR64_of ?_ ?_ <;> omega) | (constructor <;> omega)) | (simp [-List.getD_eq_getElem?_getD, -Int.default_eq_zero]; done))
            conv => whnf
            refine ⟨rfl, ?_, trivial, trivial⟩
            all_goals repeat' (first | exact True.intro | refine leF_cons rfl ?_ ?_ | refine leS_cons rfl ?_ ?_ | (show PLe _ _ _ _; conv => whnf) | (show SLe _ _ _ _; conv => whnf) | (show PLeL _ _ _ _; conv => whnf) | apply And.intro | rfl | exact Nat.le_refl _ | exact fun _ _ => rfl | exact rowEq0 _ _)
          · have h2' : ¬ checkR R.1 ≠ 0 := by simpa using h2
            rw [if_neg h2'] at hp
            have q := fl_push eRd out R.1
            have hxl : (out ++ [R.1]).length = out.length + 1 := by simp
            conv => whnf
            refine ⟨?_, (i + 1, out ++ [R.1]), ⟨hlt, by dsimp only; rw [hxl]; omega, hp⟩, ?_, rfl, rfl, ?_, ?_⟩
            · (try conv => whnf)
              (repeat' (first | exact True.intro | exact fun _ h => h | refine inR64_of ?_ ?_ | apply And.intro | refine maxLen_ge ?_)) <;> (first | omega | decide | (dsimp only; omega) | (dsimp only [List.length_cons, List.length_nil]; omega) | (intro hg; rw [hg]; rfl) | (intro hg hh; rw [hg, hh]; rfl) | (intro hg; simp [-List.getD_eq_getElem?_getD, -Int.default_eq_zero] at hg; first | omega | (refine inR64_of ?_ ?_ <;> omega) | (constructor <;> omega)) | (simp [-List.getD_eq_getElem?_getD, -Int.default_eq_zero]; done))
            · dsimp only; omega
            all_goals repeat' (first | exact True.intro | refine leF_cons rfl ?_ ?_ | refine leS_cons rfl ?_ ?_ | (show PLe _ _ _ _; conv => whnf) | (show SLe _ _ _ _; conv => whnf) | (show PLeL _ _ _ _; conv => whnf) | apply And.intro | rfl | exact Nat.le_refl _ | exact fun _ _ => rfl | exact rowEq0 _ _)
            all_goals first | exact q | (dsimp only; rw [hxl]; rfl) | (dsimp only; rw [hxl]; done) | (dsimp only; omega) | skip
        · replace hc3 := of_decide_eq_false hc3
          have hk : i = W.length := by
            have h : ¬ (i : Int) < W.length := hc3
            omega
          subst hk
          rw [List.drop_length] at hp
          have hp2 : (out, (0 : Int), (0 : Int)) = parL 0 [] W := hp
          rw [← hp2]
          conv => whnf
          refine ⟨?_, [], ?_⟩
          · (try conv => whnf)
            (repeat' (first | exact True.intro | exact fun _ h => h | refine inR64_of ?_ ?_ | apply And.intro | refine maxLen_ge ?_)) <;> (first | omega | decide | (dsimp only; omega) | (dsimp only [List.length_cons, List.length_nil]; omega) | (intro hg; rw [hg]; rfl) | (intro hg hh; rw [hg, hh]; rfl) | (intro hg; simp [-List.getD_eq_getElem?_getD, -Int.default_eq_zero] at hg; first | omega | (refine inR64_of ?_ ?_ <;> omega) | (constructor <;> omega)) | (simp [-List.getD_eq_getElem?_getD, -Int.default_eq_zero]; done))
          conv => whnf
          refine ⟨rfl, ?_, trivial, trivial⟩
          all_goals repeat' (first | exact True.intro | refine leF_cons rfl ?_ ?_ | refine leS_cons rfl ?_ ?_ | (show PLe _ _ _ _; conv => whnf) | (show SLe _ _ _ _; conv => whnf) | (show PLeL _ _ _ _; conv => whnf) | apply And.intro | rfl | exact Nat.le_refl _ | exact fun _ _ => rfl | exact rowEq0 _ _)
end Pv
end Go.Proofs.YtgbknfbcjddnhaaDoor

/- LAW 06: readings that are valid. -/
set_option linter.unusedSimpArgs false
set_option linter.unusedVariables false
namespace Go.Proofs.YtgbknfbcjddnhaaDoor
namespace Pv

/-- A reading that is valid. -/
def RdV (r : Rd) : Prop := (0 ≤ r.g ∧ r.g ≤ 255) ∧ (0 ≤ r.t ∧ r.t ≤ 16777216) ∧ (0 ≤ r.v ∧ r.v ≤ 1073741824) ∧ 0 ≤ r.f ∧ r.f ≤ 2
theorem checkR_V {r : Rd} (h : checkR r = 0) : RdV r := by
  unfold checkR at h
  split at h
  · split at h
    · split at h
      · split at h
        · exact ⟨‹_›, ‹_›, ‹_›, ‹_›⟩
        · cases h
      · cases h
    · cases h
  · cases h
theorem V_checkR {r : Rd} (h : RdV r) : checkR r = 0 := by
  unfold checkR; rw [if_pos h.1, if_pos h.2.1, if_pos h.2.2.1, if_pos h.2.2.2]
theorem lim_ok {l : List Rd} (h : limR l = 0) : l.length ≤ 4096 ∧ ∀ i, i < l.length → RdV (l.getD i default) := by
  unfold limR at h
  split at h
  · cases h
  · exact ⟨by omega, fun i hi => checkR_V (scan_zero h i (Nat.zero_le _) (by omega))⟩
end Pv
end Go.Proofs.YtgbknfbcjddnhaaDoor

set_option linter.unusedSimpArgs false
set_option linter.unusedVariables false
namespace Go.Proofs.YtgbknfbcjddnhaaDoor
namespace Pv
def c36 : C := (.seq (.reg [⟨(some 4), 64, none, .mv (.c (.nil 1))⟩])
  (.seq (.reg [⟨(some 5), 80, none, .mv (.t 0)⟩,
    ⟨(some 6), 96, none, .mv (.t 1)⟩,
    ⟨(some 7), 112, none, .bi false .shr (.t 6) (.c (.int .u64 24))⟩,
    ⟨(some 8), 128, none, .cv true .u8 (.t 7)⟩,
    ⟨(some 9), 144, none, .mv (.t 1)⟩,
    ⟨(some 10), 160, none, .bi false .shr (.t 9) (.c (.int .u64 16))⟩,
    ⟨(some 11), 176, none, .cv true .u8 (.t 10)⟩,
    ⟨(some 12), 192, none, .mv (.t 1)⟩,
    ⟨(some 13), 208, none, .bi false .shr (.t 12) (.c (.int .u64 8))⟩,
    ⟨(some 14), 224, none, .cv true .u8 (.t 13)⟩,
    ⟨(some 15), 240, none, .mv (.t 1)⟩,
    ⟨(some 16), 256, none, .cv true .u8 (.t 15)⟩,
    ⟨(some 17), 272, none, .bs 5 1 [(.t 8), (.t 11), (.t 14), (.t 16)]⟩,
    ⟨(some 18), 288, none, .app 5 1 1 (.t 5) (.t 17)⟩,
    ⟨(some 4), 64, none, .mv (.t 18)⟩])
  .ret))
theorem fits36 : fits Tryd.prog false Tryd.f36 2 19 [(4, none)] = some c36.er := by kernel_rfl
def c19L1 : C := (.seq (.reg [⟨(some 21), 336, none, .bi false .lss (.t 20) (.t 19)⟩])
  (.seq (.cond (.t 21) .skip (.exit 0))
  (.seq (.block 1 (.seq (.reg [⟨(some 22), 352, none, .ia 4 (.t 18) (.t 20)⟩,
    ⟨(some 23), 368, none, .ld 4 true (.t 22)⟩,
    ⟨(some 7), 112, none, .al [(.int .i64 0), (.int .i64 0), (.int .i64 0), (.int .i64 0)]⟩,
    ⟨none, 0, none, .st 4 (.t 7) (.t 23)⟩])
  (.seq (.drw [⟨(some 24), 384, none, .fa 0 (.t 7)⟩,
    ⟨(some 25), 400, none, .ld 1 false (.t 24)⟩,
    ⟨(some 26), 416, none, .cv true .u8 (.t 25)⟩,
    ⟨(some 27), 432, none, .bs 5 1 [(.t 26)]⟩,
    ⟨(some 28), 448, none, .fa 1 (.t 7)⟩,
    ⟨(some 29), 464, none, .ld 1 false (.t 28)⟩,
    ⟨(some 30), 480, none, .call (.c (.fn (.func 36) [] [])) [(.t 27), (.t 29)]⟩,
    ⟨(some 31), 496, none, .fa 2 (.t 7)⟩,
    ⟨(some 32), 512, none, .ld 1 false (.t 31)⟩,
    ⟨(some 33), 528, none, .call (.c (.fn (.func 36) [] [])) [(.t 30), (.t 32)]⟩,
    ⟨(some 34), 544, none, .fa 3 (.t 7)⟩,
    ⟨(some 35), 560, none, .ld 1 false (.t 34)⟩,
    ⟨(some 36), 576, none, .cv true .u8 (.t 35)⟩,
    ⟨(some 37), 592, none, .bs 5 1 [(.t 36)]⟩,
    ⟨(some 38), 608, none, .app 5 1 1 (.t 33) (.t 37)⟩,
    ⟨(some 8), 128, none, .mv (.t 38)⟩]
    [(0, 4, 24), (0, 5, 24), (0, 7, 24), (0, 8, 24), (0, 10, 24), (0, 11, 24), (0, 12, 24), (0, 13, 24), (1, 4, 25), (1, 5, 25), (1, 7, 25), (1, 8, 25), (1, 10, 25), (1, 11, 25), (1, 12, 25), (1, 13, 25), (2, 4, 26), (2, 5, 26), (2, 7, 26), (2, 8, 26), (2, 10, 26), (2, 11, 26), (2, 12, 26), (2, 13, 26), (3, 4, 27), (3, 5, 27), (3, 7, 27), (3, 8, 27), (3, 10, 27), (3, 11, 27), (3, 12, 27), (3, 13, 27), (4, 7, 28), (4, 8, 28), (4, 10, 28), (4, 11, 28), (4, 12, 28), (4, 13, 28), (5, 7, 29), (5, 8, 29), (5, 10, 29), (5, 11, 29), (5, 12, 29), (5, 13, 29), (6, 7, 30), (6, 8, 30), (6, 10, 30), (6, 11, 30), (6, 12, 30), (6, 13, 30), (7, 10, 31), (7, 11, 31), (7, 12, 31), (7, 13, 31), (8, 10, 32), (8, 11, 32), (8, 12, 32), (8, 13, 32), (9, 10, 33), (9, 11, 33), (9, 12, 33), (9, 13, 33)])
  (.seq (.reg [⟨(some 39), 624, none, .mv (.t 8)⟩,
    ⟨(some 40), 640, none, .call (.c (.fn (.func 29) [] [])) [(.t 39)]⟩,
    ⟨(some 9), 144, none, .mv (.t 40)⟩])
  (.reg [⟨(some 41), 656, none, .mv (.t 5)⟩,
    ⟨(some 42), 672, none, .mv (.t 8)⟩,
    ⟨(some 43), 688, none, .app 5 1 1 (.t 41) (.t 42)⟩,
    ⟨(some 44), 704, none, .mv (.t 9)⟩,
    ⟨(some 45), 720, none, .bi false .shr (.t 44) (.c (.int .u64 8))⟩,
    ⟨(some 46), 736, none, .cv true .u8 (.t 45)⟩,
    ⟨(some 47), 752, none, .mv (.t 9)⟩,
    ⟨(some 48), 768, none, .cv true .u8 (.t 47)⟩,
    ⟨(some 49), 784, none, .bs 5 1 [(.t 46), (.t 48)]⟩,
    ⟨(some 50), 800, none, .app 5 1 1 (.t 43) (.t 49)⟩,
    ⟨(some 5), 80, none, .mv (.t 50)⟩])))))
  (.reg [⟨(some 51), 816, none, .bi false .add (.t 20) (.c (.int .i64 1))⟩,
    ⟨(some 20), 320, none, .mv (.t 51)⟩]))))
def c19 : C := (.seq (.reg [⟨(some 2), 32, none, .mv (.c (.nil 1))⟩,
    ⟨(some 3), 48, none, .mv (.c (.int .i64 0))⟩])
  (.seq (.seq (.reg [⟨(some 10), 160, none, .mv (.t 0)⟩,
    ⟨(some 11), 176, none, .len (.t 10)⟩,
    ⟨(some 12), 192, none, .bi false .gtr (.t 11) (.c (.int .i64 4096))⟩])
  (.cond (.t 12) (.seq (.reg [⟨(some 2), 32, none, .mv (.c (.nil 1))⟩,
    ⟨(some 3), 48, none, .mv (.c (.int .i64 10))⟩])
  .ret) .skip))
  (.seq (.seq (.reg [⟨(some 13), 208, none, .mv (.t 0)⟩,
    ⟨(some 14), 224, none, .call (.c (.fn (.func 33) [] [])) [(.t 13)]⟩,
    ⟨(some 4), 64, none, .mv (.t 14)⟩])
  (.seq (.reg [⟨(some 15), 240, none, .mv (.t 4)⟩,
    ⟨(some 16), 256, none, .bi false .neq (.t 15) (.c (.int .i64 0))⟩])
  (.cond (.t 16) (.seq (.reg [⟨(some 17), 272, none, .mv (.t 4)⟩,
    ⟨(some 2), 32, none, .mv (.c (.nil 1))⟩,
    ⟨(some 3), 48, none, .mv (.t 17)⟩])
  .ret) .skip)))
  (.seq (.reg [⟨(some 5), 80, none, .mv (.c (.nil 1))⟩])
  (.seq (.seq (.reg [⟨(some 18), 288, none, .mv (.t 0)⟩,
    ⟨(some 19), 304, none, .len (.t 18)⟩,
    ⟨(some 20), 320, none, .mv (.c (.int .i64 0))⟩])
  (.block 0 (.loop c19L1)))
  (.seq (.reg [⟨(some 52), 832, none, .mv (.t 5)⟩,
    ⟨(some 2), 32, none, .mv (.t 52)⟩,
    ⟨(some 3), 48, none, .mv (.c (.int .i64 0))⟩])
  .ret))))))
theorem fits19 : fits Tryd.prog false Tryd.f19 1 53 [(2, none), (3, none)] = some c19.er := by kernel_rfl

def b4 (n : Int) : Nat → List PV := fun i => [[PV.int .u8 (IntKind.wrap .u8 (n / 2 ^ Int.toNat 24))], [PV.int .u8 (IntKind.wrap .u8 (n / 2 ^ Int.toNat 16))], [PV.int .u8 (IntKind.wrap .u8 (n / 2 ^ Int.toNat 8))], [PV.int .u8 (IntKind.wrap .u8 n)]].getD i []
set_option maxRecDepth 100000 in
theorem call36 (m : Nat) (f : Nat → List PV) (n : Int) (hm : m ≤ 4096) : PureCall Tryd.prog 36 [.os 0, .int .i64 n] [.row 1 5 1 m f] ⟨.os 1000000000, [], [.row 1 5 1 (m + 4) (appF m f (b4 n))]⟩ := by
  refine pure_call mix Tryd.func36 fits36 rfl ?_
  conv => whnf
  refine ⟨?_, [0], ?_⟩
  · (try conv => whnf)
    (repeat' (first | exact True.intro | exact fun _ h => h | refine inR64_of ?_ ?_ | apply And.intro | refine maxLen_ge ?_)) <;> (first | omega | decide | (dsimp only; omega) | (dsimp only [List.length_cons, List.length_nil]; omega) | (intro hg; rw [hg]; rfl) | (intro hg hh; rw [hg, hh]; rfl) | (intro hg; simp [-List.getD_eq_getElem?_getD, -Int.default_eq_zero] at hg; first | omega | (refine inR64_of ?_ ?_ <;> omega) | (constructor <;> omega)) | (simp [-List.getD_eq_getElem?_getD, -Int.default_eq_zero]; done))
  conv => whnf
  refine ⟨rfl, ?_, trivial, ?_⟩
  all_goals repeat' (first | exact True.intro | refine leF_cons rfl ?_ ?_ | refine leS_cons rfl ?_ ?_ | (show PLe _ _ _ _; conv => whnf) | (show SLe _ _ _ _; conv => whnf) | (show PLeL _ _ _ _; conv => whnf) | apply And.intro | rfl | exact Nat.le_refl _ | exact fun _ _ => rfl | exact rowEq0 _ _)
  all_goals skip

set_option maxRecDepth 100000 in
theorem call19_bad (τ : Nat) (l : List Rd) (hl : l.length ≤ 4611686018427387904) (hb : limR l ≠ 0) : PureCall Tryd.prog 19 [.sl τ 4 l.length (fl eRd l)] [] ⟨.tup [.nil 1, .int .i64 (limR l)], [], []⟩ := by
  refine pure_call mix Tryd.func19 fits19 rfl ?_
  conv => whnf
  refine ⟨?_, fun hc => ?_, fun hc => ?_⟩
  · (try conv => whnf)
    (repeat' (first | exact True.intro | exact fun _ h => h | refine inR64_of ?_ ?_ | apply And.intro | refine maxLen_ge ?_)) <;> (first | omega | decide | (dsimp only; omega) | (dsimp only [List.length_cons, List.length_nil]; omega) | (intro hg; rw [hg]; rfl) | (intro hg hh; rw [hg, hh]; rfl) | (intro hg; simp [-List.getD_eq_getElem?_getD, -Int.default_eq_zero] at hg; first | omega | (refine inR64_of ?_ ?_ <;> omega) | (constructor <;> omega)) | (simp [-List.getD_eq_getElem?_getD, -Int.default_eq_zero]; done))
  · have hc' : (4096 : Int) < l.length := of_decide_eq_true hc
    have h4 : 4096 < l.length := by omega
    rw [show limR l = 10 by unfold limR; rw [if_pos h4]]
    conv => whnf
    refine ⟨?_, [], ?_⟩
    · (try conv => whnf)
      (repeat' (first | exact True.intro | exact fun _ h => h | refine inR64_of ?_ ?_ | apply And.intro | refine maxLen_ge ?_)) <;> (first | omega | decide | (dsimp only; omega) | (dsimp only [List.length_cons, List.length_nil]; omega) | (intro hg; rw [hg]; rfl) | (intro hg hh; rw [hg, hh]; rfl) | (intro hg; simp [-List.getD_eq_getElem?_getD, -Int.default_eq_zero] at hg; first | omega | (refine inR64_of ?_ ?_ <;> omega) | (constructor <;> omega)) | (simp [-List.getD_eq_getElem?_getD, -Int.default_eq_zero]; done))
    conv => whnf
    refine ⟨rfl, ?_, trivial, trivial⟩
    all_goals repeat' (first | exact True.intro | refine leF_cons rfl ?_ ?_ | refine leS_cons rfl ?_ ?_ | (show PLe _ _ _ _; conv => whnf) | (show SLe _ _ _ _; conv => whnf) | (show PLeL _ _ _ _; conv => whnf) | apply And.intro | rfl | exact Nat.le_refl _ | exact fun _ _ => rfl | exact rowEq0 _ _)
  have hc' : ¬ (4096 : Int) < l.length := of_decide_eq_false hc
  have h4 : ¬ 4096 < l.length := by omega
  have hla : limR l = allR l := by unfold limR; rw [if_neg h4]
  rw [hla] at hb ⊢
  conv => whnf
  refine ⟨_, fun _ => call33 _ l hl, ?_⟩
  conv => whnf
  refine ⟨?_, fun hc => ?_, fun hc => ?_⟩
  · (try conv => whnf)
    (repeat' (first | exact True.intro | exact fun _ h => h | refine inR64_of ?_ ?_ | apply And.intro | refine maxLen_ge ?_)) <;> (first | omega | decide | (dsimp only; omega) | (dsimp only [List.length_cons, List.length_nil]; omega) | (intro hg; rw [hg]; rfl) | (intro hg hh; rw [hg, hh]; rfl) | (intro hg; simp [-List.getD_eq_getElem?_getD, -Int.default_eq_zero] at hg; first | omega | (refine inR64_of ?_ ?_ <;> omega) | (constructor <;> omega)) | (simp [-List.getD_eq_getElem?_getD, -Int.default_eq_zero]; done))
  · conv => whnf
    refine ⟨?_, [], ?_⟩
    · (try conv => whnf)
      (repeat' (first | exact True.intro | exact fun _ h => h | refine inR64_of ?_ ?_ | apply And.intro | refine maxLen_ge ?_)) <;> (first | omega | decide | (dsimp only; omega) | (dsimp only [List.length_cons, List.length_nil]; omega) | (intro hg; rw [hg]; rfl) | (intro hg hh; rw [hg, hh]; rfl) | (intro hg; simp [-List.getD_eq_getElem?_getD, -Int.default_eq_zero] at hg; first | omega | (refine inR64_of ?_ ?_ <;> omega) | (constructor <;> omega)) | (simp [-List.getD_eq_getElem?_getD, -Int.default_eq_zero]; done))
    conv => whnf
    refine ⟨rfl, ?_, trivial, trivial⟩
    all_goals repeat' (first | exact True.intro | refine leF_cons rfl ?_ ?_ | refine leS_cons rfl ?_ ?_ | (show PLe _ _ _ _; conv => whnf) | (show SLe _ _ _ _; conv => whnf) | (show PLeL _ _ _ _; conv => whnf) | apply And.intro | rfl | exact Nat.le_refl _ | exact fun _ _ => rfl | exact rowEq0 _ _)
  · exact absurd (by simpa using hc) hb
set_option maxRecDepth 100000 in
set_option maxHeartbeats 4000000 in
theorem call19 (τ : Nat) (l : List Rd) (hl : l.length ≤ 4611686018427387904) (hb : limR l = 0) : PureCall Tryd.prog 19 [.sl τ 4 l.length (fl eRd l)] [] ⟨.tup [.os 1000000000, .int .i64 0], [], [.row 1 5 1 (encL l).length (fl eB (encL l))]⟩ := by
  have hl2 : l.length ≤ 4096 := by
    rcases Nat.lt_or_ge 4096 l.length with h | h
    · unfold limR at hb; rw [if_pos h] at hb; cases hb
    · exact h
  have hla : allR l = 0 := by unfold limR at hb; rw [if_neg (by omega)] at hb; exact hb
  refine pure_call mix Tryd.func19 fits19 rfl ?_
  conv => whnf
  refine ⟨?_, fun hc => ?_, fun hc => ?_⟩
  · (try conv => whnf)
    (repeat' (first | exact True.intro | exact fun _ h => h | refine inR64_of ?_ ?_ | apply And.intro | refine maxLen_ge ?_)) <;> (first | omega | decide | (dsimp only; omega) | (dsimp only [List.length_cons, List.length_nil]; omega) | (intro hg; rw [hg]; rfl) | (intro hg hh; rw [hg, hh]; rfl) | (intro hg; simp [-List.getD_eq_getElem?_getD, -Int.default_eq_zero] at hg; first | omega | (refine inR64_of ?_ ?_ <;> omega) | (constructor <;> omega)) | (simp [-List.getD_eq_getElem?_getD, -Int.default_eq_zero]; done))
  · have hc' : (4096 : Int) < l.length := of_decide_eq_true hc
    omega
  conv => whnf
  refine ⟨_, fun _ => call33 _ l hl, ?_⟩
  conv => whnf
  refine ⟨?_, fun hc => ?_, fun hc => ?_⟩
  · (try conv => whnf)
    (repeat' (first | exact True.intro | exact fun _ h => h | refine inR64_of ?_ ?_ | apply And.intro | refine maxLen_ge ?_)) <;> (first | omega | decide | (dsimp only; omega) | (dsimp only [List.length_cons, List.length_nil]; omega) | (intro hg; rw [hg]; rfl) | (intro hg hh; rw [hg, hh]; rfl) | (intro hg; simp [-List.getD_eq_getElem?_getD, -Int.default_eq_zero] at hg; first | omega | (refine inR64_of ?_ ?_ <;> omega) | (constructor <;> omega)) | (simp [-List.getD_eq_getElem?_getD, -Int.default_eq_zero]; done))
  · rw [hla] at hc; cases hc
  conv => whnf
  refine ⟨trivial, ?_⟩
  refine LSem.adopt 5 1000000 5 1 1 rfl rfl ?_
  refine LSem.loop (n := 53) mix (α := Nat) (fun i => i ≤ l.length)
    (fun i => [(5, .os 1000000), (18, .sl τ 4 l.length (fl eRd l)), (19, .int .i64 l.length), (20, .int .i64 i)])
    (fun i => [(1000000, .row 1 5 1 (encL (l.take i)).length (fl eB (encL (l.take i))))]) (fun i => l.length - i) 0 ?_ ?_ ?_
  · exact Nat.zero_le _
  · refine ⟨rfl, rfl, ?_, ?_⟩
    all_goals repeat' (first | exact True.intro | refine leF_cons rfl ?_ ?_ | refine leS_cons rfl ?_ ?_ | (show PLe _ _ _ _; conv => whnf) | (show SLe _ _ _ _; conv => whnf) | (show PLeL _ _ _ _; conv => whnf) | apply And.intro | rfl | exact Nat.le_refl _ | exact fun _ _ => rfl | exact rowEq0 _ _)
    all_goals first | exact Nat.zero_le _ | skip
  · intro i hi
    have hj : ((i : Int)).toNat = i := by omega
    conv => whnf
    refine ⟨trivial, fun hc => ?_, fun hc => ?_⟩
    · replace hc := of_decide_eq_true hc
      have hlt : i < l.length := by
        have h : (i : Int) < l.length := hc
        omega
      obtain ⟨r, hr⟩ : ∃ r, r = l.getD i default := ⟨_, rfl⟩
      have hel := encL_len (l.take i)
      have htl : (l.take i).length ≤ 4096 := by rw [List.length_take]; omega
      conv => whnf
      rw [hj, ← hr]
      refine ⟨_, fun _ => call36 _ _ _ (show 1 ≤ 4096 by decide), ?_⟩
      conv => whnf
      refine ⟨_, fun _ => call36 _ _ _ (show 1 + 4 ≤ 4096 by decide), ?_⟩
      conv => whnf
      refine ⟨rfl, ?_⟩
      conv => whnf
      have h1 := row1 r.g
      have h2 : RowEq (1 + 4) _ _ := app_eq2 (l := [w8 r.g]) (l' := w4 r.t) rfl rfl h1 (row4 _ _ _ _)
      have h3 : RowEq (1 + 4 + 4) _ _ := app_eq2 (l := [w8 r.g] ++ w4 r.t) (l' := w4 r.v) rfl rfl h2 (row4 _ _ _ _)
      have hq : RowEq (1 + 4 + 4 + 1) _ (fl eB (bodyB r)) := app_eq2 (l := [w8 r.g] ++ w4 r.t ++ w4 r.v) (l' := [w8 r.f]) rfl rfl h3 (row1 r.f)
      have hcl2 : (bodyB r).length = 10 := rfl
      have hsr := sumF_rng (bodyB r)
      refine ⟨_, fun _ => PureCall.arg_le (call29 2 (bodyB r) (by omega)) rfl ⟨⟨Nat.le_refl _, rfl, rfl, hq⟩, trivial⟩, ?_⟩
      conv => whnf
      have hq2 := app_eq2 (e := eB) (l := encL (l.take i)) (l' := bodyB r) rfl rfl (fun _ _ => rfl) hq
      have hq3 := app_eq2 (e := eB) (l := encL (l.take i) ++ bodyB r) (l' := [w8 (sumF (bodyB r) / 2 ^ Int.toNat 8), w8 (sumF (bodyB r))]) (by rw [List.length_append]) rfl hq2 (row2 _ _)
      have he : (encL (l.take i) ++ bodyB r) ++ [w8 (sumF (bodyB r) / 2 ^ Int.toNat 8), w8 (sumF (bodyB r))] = encL (l.take (i + 1)) := by
        rw [encL_take hlt, ← hr, List.append_assoc]; rfl
      rw [he] at hq3
      have hn : (encL (l.take (i + 1))).length = (encL (l.take i)).length + 12 := by rw [← he]; simp [hcl2]
      refine ⟨?_, i + 1, hlt, ?_, rfl, rfl, ?_, ?_⟩
      · (try conv => whnf)
        (repeat' (first | exact True.intro | exact fun _ h => h | refine inR64_of ?_ ?_ | apply And.intro | refine maxLen_ge ?_)) <;> (first | omega | decide | (dsimp only; omega) | (dsimp only [List.length_cons, List.length_nil]; omega) | (intro hg; rw [hg]; rfl) | (intro hg hh; rw [hg, hh]; rfl) | (intro hg; simp [-List.getD_eq_getElem?_getD, -Int.default_eq_zero] at hg; first | omega | (refine inR64_of ?_ ?_ <;> omega) | (constructor <;> omega)) | (simp [-List.getD_eq_getElem?_getD, -Int.default_eq_zero]; done))
      · omega
      all_goals repeat' (first | exact True.intro | refine leF_cons rfl ?_ ?_ | refine leS_cons rfl ?_ ?_ | (show PLe _ _ _ _; conv => whnf) | (show SLe _ _ _ _; conv => whnf) | (show PLeL _ _ _ _; conv => whnf) | apply And.intro | rfl | exact Nat.le_refl _ | exact fun _ _ => rfl | exact rowEq0 _ _)
      all_goals first | exact hq3 | omega | (rw [hn]; rfl) | skip
    · replace hc := of_decide_eq_false hc
      have : i = l.length := by
        have h : ¬ (i : Int) < l.length := hc
        omega
      subst this
      rw [List.take_length]
      conv => whnf
      refine ⟨?_, [1000000], ?_⟩
      · (try conv => whnf)
        (repeat' (first | exact True.intro | exact fun _ h => h | refine inR64_of ?_ ?_ | apply And.intro | refine maxLen_ge ?_)) <;> (first | omega | decide | (dsimp only; omega) | (dsimp only [List.length_cons, List.length_nil]; omega) | (intro hg; rw [hg]; rfl) | (intro hg hh; rw [hg, hh]; rfl) | (intro hg; simp [-List.getD_eq_getElem?_getD, -Int.default_eq_zero] at hg; first | omega | (refine inR64_of ?_ ?_ <;> omega) | (constructor <;> omega)) | (simp [-List.getD_eq_getElem?_getD, -Int.default_eq_zero]; done))
      conv => whnf
      refine ⟨rfl, ?_, trivial, ?_⟩
      all_goals repeat' (first | exact True.intro | refine leF_cons rfl ?_ ?_ | refine leS_cons rfl ?_ ?_ | (show PLe _ _ _ _; conv => whnf) | (show SLe _ _ _ _; conv => whnf) | (show PLeL _ _ _ _; conv => whnf) | apply And.intro | rfl | exact Nat.le_refl _ | exact fun _ _ => rfl | exact rowEq0 _ _)
      all_goals skip
end Pv
end Go.Proofs.YtgbknfbcjddnhaaDoor
