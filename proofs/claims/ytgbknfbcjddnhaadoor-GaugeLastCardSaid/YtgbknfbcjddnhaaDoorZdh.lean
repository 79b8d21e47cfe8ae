/- A LAW's ROW, FROM ITS FUNCTION's CONTRACT: slices of slices that came in. -/
import Derived.Test.YtgbknfbcjddnhaaDoorZdg
import Derived.Test.YtgbknfbcjddnhaaDoorZde
import Derived.ProofKit
import Derived.ChangeOld
import Derived.DataElems
import Derived.Below
import Derived.SizedLaws
/- LAW 06, THE WALKS: texts as readings, second form. -/
set_option linter.unusedSimpArgs false
set_option linter.unusedVariables false
namespace Go.Proofs.YtgbknfbcjddnhaaDoor
namespace Pv
def c23L1 : C := (.seq (.reg [⟨(some 24), 384, none, .bi false .lss (.t 23) (.t 22)⟩])
  (.seq (.cond (.t 24) .skip (.exit 0))
  (.seq (.block 1 (.seq (.reg [⟨(some 25), 400, none, .ia 1 (.t 21) (.t 23)⟩,
    ⟨(some 26), 416, none, .ld 1 false (.t 25)⟩,
    ⟨(some 8), 128, none, .mv (.t 26)⟩])
  (.seq (.reg [⟨(some 27), 432, none, .mv (.t 8)⟩,
    ⟨(some 28), 448, none, .call (.c (.fn (.func 43) [] [])) [(.t 27)]⟩,
    ⟨(some 29), 464, none, .len (.t 28)⟩,
    ⟨(some 30), 480, none, .bi false .gtr (.t 29) (.c (.int .i64 0))⟩])
  (.cond (.t 30) (.reg [⟨(some 31), 496, none, .mv (.t 5)⟩,
    ⟨(some 32), 512, none, .bi false .add (.t 31) (.c (.int .i64 1))⟩,
    ⟨(some 5), 80, none, .mv (.t 32)⟩]) .skip))))
  (.reg [⟨(some 33), 528, none, .bi false .add (.t 23) (.c (.int .i64 1))⟩,
    ⟨(some 23), 368, none, .mv (.t 33)⟩]))))
def c23L2 : C := (.seq (.reg [⟨(some 39), 624, none, .bi false .lss (.t 38) (.t 37)⟩])
  (.seq (.cond (.t 39) .skip (.exit 2))
  (.seq (.block 3 (.seq (.reg [⟨(some 40), 640, none, .mv (.t 38)⟩,
    ⟨(some 41), 656, none, .ia 1 (.t 36) (.t 38)⟩,
    ⟨(some 42), 672, none, .ld 1 false (.t 41)⟩,
    ⟨(some 10), 160, none, .mv (.t 40)⟩,
    ⟨(some 11), 176, none, .mv (.t 42)⟩])
  (.seq (.reg [⟨(some 43), 688, none, .mv (.t 11)⟩,
    ⟨(some 44), 704, none, .call (.c (.fn (.func 43) [] [])) [(.t 43)]⟩,
    ⟨(some 12), 192, none, .mv (.t 44)⟩])
  (.seq (.seq (.reg [⟨(some 45), 720, none, .mv (.t 12)⟩,
    ⟨(some 46), 736, none, .len (.t 45)⟩,
    ⟨(some 47), 752, none, .bi false .eql (.t 46) (.c (.int .i64 0))⟩])
  (.cond (.t 47) (.exit 3) .skip))
  (.seq (.reg [⟨(some 49), 784, none, .mv (.t 12)⟩,
    ⟨(some 50), 800, none, .call (.c (.fn (.func 44) [] [])) [(.t 49)]⟩,
    ⟨(some 48), 768, none, .mv (.t 50)⟩,
    ⟨(some 51), 816, none, .ex (.t 48) 0⟩,
    ⟨(some 52), 832, none, .ex (.t 48) 1⟩,
    ⟨(some 13), 208, none, .al [(.int .i64 0), (.int .i64 0), (.int .i64 0), (.int .i64 0)]⟩,
    ⟨none, 0, none, .st 4 (.t 13) (.t 51)⟩,
    ⟨(some 14), 224, none, .mv (.t 52)⟩])
  (.seq (.seq (.reg [⟨(some 53), 848, none, .mv (.t 14)⟩,
    ⟨(some 54), 864, none, .un false .not (.t 53)⟩])
  (.cond (.t 54) (.seq (.reg [⟨(some 55), 880, none, .mv (.t 10)⟩,
    ⟨(some 56), 896, none, .bi false .add (.t 55) (.c (.int .i64 1))⟩,
    ⟨(some 2), 32, none, .mv (.c (.nil 4))⟩,
    ⟨(some 3), 48, none, .mv (.t 56)⟩,
    ⟨(some 4), 64, none, .mv (.c (.int .i64 7))⟩])
  .ret) .skip))
  (.seq (.seq (.reg [⟨(some 57), 912, none, .ld 4 true (.t 13)⟩,
    ⟨(some 58), 928, none, .call (.c (.fn (.func 27) [] [])) [(.t 57)]⟩,
    ⟨(some 15), 240, none, .mv (.t 58)⟩])
  (.seq (.reg [⟨(some 59), 944, none, .mv (.t 15)⟩,
    ⟨(some 60), 960, none, .bi false .neq (.t 59) (.c (.int .i64 0))⟩])
  (.cond (.t 60) (.seq (.reg [⟨(some 61), 976, none, .mv (.t 10)⟩,
    ⟨(some 62), 992, none, .bi false .add (.t 61) (.c (.int .i64 1))⟩,
    ⟨(some 63), 1008, none, .mv (.t 15)⟩,
    ⟨(some 2), 32, none, .mv (.c (.nil 4))⟩,
    ⟨(some 3), 48, none, .mv (.t 62)⟩,
    ⟨(some 4), 64, none, .mv (.t 63)⟩])
  .ret) .skip)))
  (.reg [⟨(some 64), 1024, none, .mv (.t 9)⟩,
    ⟨(some 65), 1040, none, .ld 4 true (.t 13)⟩,
    ⟨(some 66), 1056, none, .bs 23 4 [(.t 65)]⟩,
    ⟨(some 67), 1072, none, .app 23 4 32 (.t 64) (.t 66)⟩,
    ⟨(some 9), 144, none, .mv (.t 67)⟩]))))))))
  (.reg [⟨(some 68), 1088, none, .bi false .add (.t 38) (.c (.int .i64 1))⟩,
    ⟨(some 38), 608, none, .mv (.t 68)⟩]))))
def c23 : C := (.seq (.reg [⟨(some 2), 32, none, .mv (.c (.nil 4))⟩,
    ⟨(some 3), 48, none, .mv (.c (.int .i64 0))⟩,
    ⟨(some 4), 64, none, .mv (.c (.int .i64 0))⟩])
  (.seq (.seq (.reg [⟨(some 16), 256, none, .mv (.t 0)⟩,
    ⟨(some 17), 272, none, .lens (.t 16)⟩,
    ⟨(some 18), 288, none, .bi false .gtr (.t 17) (.c (.int .i64 65536))⟩])
  (.cond (.t 18) (.seq (.reg [⟨(some 2), 32, none, .mv (.c (.nil 4))⟩,
    ⟨(some 3), 48, none, .mv (.c (.int .i64 0))⟩,
    ⟨(some 4), 64, none, .mv (.c (.int .i64 10))⟩])
  .ret) .skip))
  (.seq (.reg [⟨(some 5), 80, none, .mv (.c (.int .i64 0))⟩])
  (.seq (.reg [⟨(some 19), 304, none, .mv (.t 0)⟩,
    ⟨(some 20), 320, none, .call (.c (.fn (.func 42) [] [])) [(.t 19)]⟩,
    ⟨(some 6), 96, none, .mv (.t 20)⟩])
  (.seq (.seq (.reg [⟨(some 21), 336, none, .mv (.t 6)⟩,
    ⟨(some 22), 352, none, .len (.t 21)⟩,
    ⟨(some 23), 368, none, .mv (.c (.int .i64 0))⟩])
  (.block 0 (.loop c23L1)))
  (.seq (.seq (.reg [⟨(some 34), 544, none, .mv (.t 5)⟩,
    ⟨(some 35), 560, none, .bi false .gtr (.t 34) (.c (.int .i64 4096))⟩])
  (.cond (.t 35) (.seq (.reg [⟨(some 2), 32, none, .mv (.c (.nil 4))⟩,
    ⟨(some 3), 48, none, .mv (.c (.int .i64 0))⟩,
    ⟨(some 4), 64, none, .mv (.c (.int .i64 10))⟩])
  .ret) .skip))
  (.seq (.reg [⟨(some 9), 144, none, .mv (.c (.nil 4))⟩])
  (.seq (.seq (.reg [⟨(some 36), 576, none, .mv (.t 6)⟩,
    ⟨(some 37), 592, none, .len (.t 36)⟩,
    ⟨(some 38), 608, none, .mv (.c (.int .i64 0))⟩])
  (.block 2 (.loop c23L2)))
  (.seq (.reg [⟨(some 69), 1104, none, .mv (.t 9)⟩,
    ⟨(some 2), 32, none, .mv (.t 69)⟩,
    ⟨(some 3), 48, none, .mv (.c (.int .i64 0))⟩,
    ⟨(some 4), 64, none, .mv (.c (.int .i64 0))⟩])
  .ret)))))))))
theorem fits23 : fits Tryd.prog false Tryd.f23 1 70 [(2, none), (3, none), (4, none)] = some c23.er := by kernel_rfl

theorem splitC_nl (s : List UInt8) : splitC 10 s = splitP isNl s := splitC_P 10 s
theorem words_line {s : List UInt8} {i : Nat} (h : i < (splitP isNl s).length) : wordsB isBn ((splitP isNl s).getD i default) = (linesW s).getD i default := by
  rw [linesW_getD (by rw [splitC_nl]; exact h), splitC_nl]
  unfold wordsB
  rw [splitP_congr _ fun b hb => ?_]
  have := (pP_mem isNl s _ (getD_mem h) b hb).1
  unfold isNl at this
  simp [isBn, isBl, this]
theorem line_same (w : List (List UInt8)) : (lineR w).2 = (lineG w).2 ∧ ((lineG w).2 = true → (lineR w).1 = (lineG w).1) := by
  unfold lineR lineG
  by_cases hl : w.length ≠ 4
  · rw [if_pos hl, if_pos hl]; exact ⟨rfl, fun h => by cases h⟩
  rw [if_neg hl, if_neg hl]
  generalize w.getD 3 default = s
  cases h0 : isG w 0
  · exact ⟨rfl, fun h => by cases h⟩
  cases h1 : isG w 1
  · exact ⟨rfl, fun h => by cases h⟩
  cases h2 : isG w 2
  · exact ⟨rfl, fun h => by cases h⟩
  simp only [Bool.true_eq_false, if_false, cond_true]
  unfold flR
  by_cases e0 : fl0 = s
  · subst e0; exact ⟨rfl, fun _ => rfl⟩
  by_cases e1 : fl1 = s
  · subst e1; exact ⟨rfl, fun _ => rfl⟩
  by_cases e2 : fl2 = s
  · subst e2; exact ⟨rfl, fun _ => rfl⟩
  simp only [e0, e1, e2, if_false]
  exact ⟨rfl, fun h => by cases h⟩

set_option maxRecDepth 100000 in
set_option maxHeartbeats 8000000 in
theorem call23 (s : List UInt8) (hs : s.length ≤ 4611686018427387904) : PureCall Tryd.prog 23 [.str s] [] ⟨.tup [.sl 0 4 (parseF s).1.length (fl eRd (parseF s).1), .int .i64 (parseF s).2.1, .int .i64 (parseF s).2.2], [], []⟩ := by
  refine pure_call mix Tryd.func23 fits23 rfl ?_
  conv => whnf
  refine ⟨?_, fun hc => ?_, fun hc => ?_⟩
  · (try conv => whnf)
    (repeat' (first | exact True.intro | exact fun _ h => h | refine inR64_of ?_ ?_ | apply And.intro | refine maxLen_ge ?_)) <;> (first | omega | decide | (dsimp only; omega) | (dsimp only [List.length_cons, List.length_nil]; omega) | (intro hg; rw [hg]; rfl) | (intro hg hh; rw [hg, hh]; rfl) | (intro hg; simp [-List.getD_eq_getElem?_getD, -Int.default_eq_zero] at hg; first | omega | (refine inR64_of ?_ ?_ <;> omega) | (constructor <;> omega)) | (simp [-List.getD_eq_getElem?_getD, -Int.default_eq_zero]; done))
  · simp only [bif_t, bif_f, decide_eq_true_eq, decide_eq_false_iff_not, Bool.not_eq_true', Bool.not_eq_false', Bool.and_eq_true, Bool.or_eq_true, Bool.and_eq_false_iff, Bool.or_eq_false_iff, beq_iff_eq, bne_iff_ne, beq_eq_false_iff_ne, bne_eq_false_iff_eq, reduceCtorEq, false_and, and_false, true_and, and_true, or_false, false_or, or_true, true_or, not_true_eq_false, not_false_eq_true, Int.toNat_zero] at hc
    rw [show parseF s = ([], 0, 10) by unfold parseF; rw [if_pos (by omega)]]
    conv => whnf
    refine ⟨?_, [], ?_⟩
    · (try conv => whnf)
      (repeat' (first | exact True.intro | exact fun _ h => h | refine inR64_of ?_ ?_ | apply And.intro | refine maxLen_ge ?_)) <;> (first | omega | decide | (dsimp only; omega) | (dsimp only [List.length_cons, List.length_nil]; omega) | (intro hg; rw [hg]; rfl) | (intro hg hh; rw [hg, hh]; rfl) | (intro hg; simp [-List.getD_eq_getElem?_getD, -Int.default_eq_zero] at hg; first | omega | (refine inR64_of ?_ ?_ <;> omega) | (constructor <;> omega)) | (simp [-List.getD_eq_getElem?_getD, -Int.default_eq_zero]; done))
    conv => whnf
    refine ⟨rfl, ?_, trivial, trivial⟩
    all_goals repeat' (first | exact True.intro | refine leF_cons rfl ?_ ?_ | refine leS_cons rfl ?_ ?_ | (show PLe _ _ _ _; conv => whnf) | (show SLe _ _ _ _; conv => whnf) | (show PLeL _ _ _ _; conv => whnf) | apply And.intro | rfl | exact Nat.le_refl _ | exact fun _ _ => rfl | exact rowEq0 _ _)
  simp only [bif_t, bif_f, decide_eq_true_eq, decide_eq_false_iff_not, Bool.not_eq_true', Bool.not_eq_false', Bool.and_eq_true, Bool.or_eq_true, Bool.and_eq_false_iff, Bool.or_eq_false_iff, beq_iff_eq, bne_iff_ne, beq_eq_false_iff_ne, bne_eq_false_iff_eq, reduceCtorEq, false_and, and_false, true_and, and_true, or_false, false_or, or_true, true_or, not_true_eq_false, not_false_eq_true, Int.toNat_zero] at hc
  have hs2 : s.length ≤ 65536 := by omega
  have hll := linesW_len s
  have hll2 := (splitC_len 10 s).1
  have hcn := cntW_le (linesW s)
  have hlen := fun i => lineG_lens hs2 (i := i)
  have hwl := fun i => words_line (s := s) (i := i)
  have hLm : ∀ i, i < (splitP isNl s).length → ((splitP isNl s).getD i default).length ≤ 65536 := fun i hi => by
    have := (splitP_len isNl s).2 _ (getD_mem hi); omega
  rw [splitC_nl] at hll hll2
  conv => whnf
  refine ⟨_, fun _ => call42 s hs2, ?_⟩
  have hpf : parseF s = if 4096 < cntW (linesW s) then ([], 0, 10) else parL 0 [] (linesW s) := by unfold parseF; rw [if_neg (by omega)]
  rw [hpf]
  clear hpf
  generalize linesW s = W at hll hcn hlen hwl ⊢
  generalize splitP isNl s = L at hll hll2 hwl hLm ⊢
  have hLl : L.length ≤ 65537 := by omega
  conv => whnf
  refine ⟨⟨trivial, trivial⟩, ?_⟩
  refine LSem.loop (n := 70) mix (α := Nat) (fun i => i ≤ L.length)
    (fun i => [(5, .int .i64 (cntW (W.take i))), (6, .os 320), (21, .os 320), (22, .int .i64 L.length), (23, .int .i64 i)])
    (fun i => [(320, .row 0 9 1 L.length (fl eStr L))]) (fun i => L.length - i) 0 ?_ ?_ ?_
  · exact Nat.zero_le _
  · refine ⟨rfl, rfl, ?_, ?_⟩
    all_goals repeat' (first | exact True.intro | refine leF_cons rfl ?_ ?_ | refine leS_cons rfl ?_ ?_ | (show PLe _ _ _ _; conv => whnf) | (show SLe _ _ _ _; conv => whnf) | (show PLeL _ _ _ _; conv => whnf) | apply And.intro | rfl | exact Nat.le_refl _ | exact fun _ _ => rfl | exact rowEq0 _ _)
    all_goals skip
  · intro i hi
    have hj : ((i : Int)).toNat = i := by omega
    conv => whnf
    refine ⟨trivial, fun hc => ?_, fun hc => ?_⟩
    · replace hc := of_decide_eq_true hc
      have hlt : i < L.length := by
        have h : (i : Int) < L.length := hc
        omega
      have hcl := cntW_le (W.take i)
      have htl : (W.take i).length = i := by rw [List.length_take]; omega
      have htp : W.take (i + 1) = W.take i ++ [W.getD i default] := take_push (by omega)
      have hcp := cntW_push (W.take i) (W.getD i default)
      rw [← htp] at hcp
      have hWi := hwl i hlt
      conv => whnf
      rw [hj]
      refine ⟨_, fun _ => call43 (L.getD i default) (hLm i hlt), ?_⟩
      rw [hWi]
      conv => whnf
      refine ⟨?_, fun hgt => ?_, fun hgt => ?_⟩
      · (try conv => whnf)
        (repeat' (first | exact True.intro | exact fun _ h => h | refine inR64_of ?_ ?_ | apply And.intro | refine maxLen_ge ?_)) <;> (first | omega | decide | (dsimp only; omega) | (dsimp only [List.length_cons, List.length_nil]; omega) | (intro hg; rw [hg]; rfl) | (intro hg hh; rw [hg, hh]; rfl) | (intro hg; simp [-List.getD_eq_getElem?_getD, -Int.default_eq_zero] at hg; first | omega | (refine inR64_of ?_ ?_ <;> omega) | (constructor <;> omega)) | (simp [-List.getD_eq_getElem?_getD, -Int.default_eq_zero]; done))
      · simp only [bif_t, bif_f, decide_eq_true_eq, decide_eq_false_iff_not, Bool.not_eq_true', Bool.not_eq_false', Bool.and_eq_true, Bool.or_eq_true, Bool.and_eq_false_iff, Bool.or_eq_false_iff, beq_iff_eq, bne_iff_ne, beq_eq_false_iff_ne, bne_eq_false_iff_eq, reduceCtorEq, false_and, and_false, true_and, and_true, or_false, false_or, or_true, true_or, not_true_eq_false, not_false_eq_true, Int.toNat_zero] at hgt
        have hne : (W.getD i default).isEmpty = false := by
          cases hE : W.getD i default with
          | nil => rw [hE] at hgt; simp at hgt
          | cons _ _ => rfl
        rw [hne] at hcp
        conv => whnf
        refine ⟨?_, i + 1, hlt, ?_, rfl, rfl, ?_, ?_⟩
        · (try conv => whnf)
          (repeat' (first | exact True.intro | exact fun _ h => h | refine inR64_of ?_ ?_ | apply And.intro | refine maxLen_ge ?_)) <;> (first | omega | decide | (dsimp only; omega) | (dsimp only [List.length_cons, List.length_nil]; omega) | (intro hg; rw [hg]; rfl) | (intro hg hh; rw [hg, hh]; rfl) | (intro hg; simp [-List.getD_eq_getElem?_getD, -Int.default_eq_zero] at hg; first | omega | (refine inR64_of ?_ ?_ <;> omega) | (constructor <;> omega)) | (simp [-List.getD_eq_getElem?_getD, -Int.default_eq_zero]; done))
        · omega
        all_goals repeat' (first | exact True.intro | refine leF_cons rfl ?_ ?_ | refine leS_cons rfl ?_ ?_ | (show PLe _ _ _ _; conv => whnf) | (show SLe _ _ _ _; conv => whnf) | (show PLeL _ _ _ _; conv => whnf) | apply And.intro | rfl | exact Nat.le_refl _ | exact fun _ _ => rfl | exact rowEq0 _ _)
        all_goals first | (rw [hcp]; rfl) | omega | skip
      · simp only [bif_t, bif_f, decide_eq_true_eq, decide_eq_false_iff_not, Bool.not_eq_true', Bool.not_eq_false', Bool.and_eq_true, Bool.or_eq_true, Bool.and_eq_false_iff, Bool.or_eq_false_iff, beq_iff_eq, bne_iff_ne, beq_eq_false_iff_ne, bne_eq_false_iff_eq, reduceCtorEq, false_and, and_false, true_and, and_true, or_false, false_or, or_true, true_or, not_true_eq_false, not_false_eq_true, Int.toNat_zero] at hgt
        have hne : (W.getD i default).isEmpty = true := by
          cases hE : W.getD i default with
          | nil => rfl
          | cons _ _ => rw [hE] at hgt; simp at hgt
        rw [hne] at hcp
        conv => whnf
        refine ⟨?_, i + 1, hlt, ?_, rfl, rfl, ?_, ?_⟩
        · (try conv => whnf)
          (repeat' (first | exact True.intro | exact fun _ h => h | refine inR64_of ?_ ?_ | apply And.intro | refine maxLen_ge ?_)) <;> (first | omega | decide | (dsimp only; omega) | (dsimp only [List.length_cons, List.length_nil]; omega) | (intro hg; rw [hg]; rfl) | (intro hg hh; rw [hg, hh]; rfl) | (intro hg; simp [-List.getD_eq_getElem?_getD, -Int.default_eq_zero] at hg; first | omega | (refine inR64_of ?_ ?_ <;> omega) | (constructor <;> omega)) | (simp [-List.getD_eq_getElem?_getD, -Int.default_eq_zero]; done))
        · omega
        all_goals repeat' (first | exact True.intro | refine leF_cons rfl ?_ ?_ | refine leS_cons rfl ?_ ?_ | (show PLe _ _ _ _; conv => whnf) | (show SLe _ _ _ _; conv => whnf) | (show PLeL _ _ _ _; conv => whnf) | apply And.intro | rfl | exact Nat.le_refl _ | exact fun _ _ => rfl | exact rowEq0 _ _)
        all_goals first | (rw [hcp]; rfl) | omega | skip
    · replace hc := of_decide_eq_false hc
      have hk : i = L.length := by
        have h : ¬ (i : Int) < L.length := hc
        omega
      subst hk
      rw [← hll, List.take_length]
      conv => whnf
      refine ⟨?_, fun hc2 => ?_, fun hc2 => ?_⟩
      · (try conv => whnf)
        (repeat' (first | exact True.intro | exact fun _ h => h | refine inR64_of ?_ ?_ | apply And.intro | refine maxLen_ge ?_)) <;> (first | omega | decide | (dsimp only; omega) | (dsimp only [List.length_cons, List.length_nil]; omega) | (intro hg; rw [hg]; rfl) | (intro hg hh; rw [hg, hh]; rfl) | (intro hg; simp [-List.getD_eq_getElem?_getD, -Int.default_eq_zero] at hg; first | omega | (refine inR64_of ?_ ?_ <;> omega) | (constructor <;> omega)) | (simp [-List.getD_eq_getElem?_getD, -Int.default_eq_zero]; done))
      · simp only [bif_t, bif_f, decide_eq_true_eq, decide_eq_false_iff_not, Bool.not_eq_true', Bool.not_eq_false', Bool.and_eq_true, Bool.or_eq_true, Bool.and_eq_false_iff, Bool.or_eq_false_iff, beq_iff_eq, bne_iff_ne, beq_eq_false_iff_ne, bne_eq_false_iff_eq, reduceCtorEq, false_and, and_false, true_and, and_true, or_false, false_or, or_true, true_or, not_true_eq_false, not_false_eq_true, Int.toNat_zero] at hc2
        rw [if_pos (by omega)]
        conv => whnf
        refine ⟨?_, [], ?_⟩
        · (try conv => whnf)
          (repeat' (first | exact True.intro | exact fun _ h => h | refine inR64_of ?_ ?_ | apply And.intro | refine maxLen_ge ?_)) <;> (first | omega | decide | (dsimp only; omega) | (dsimp only [List.length_cons, List.length_nil]; omega) | (intro hg; rw [hg]; rfl) | (intro hg hh; rw [hg, hh]; rfl) | (intro hg; simp [-List.getD_eq_getElem?_getD, -Int.default_eq_zero] at hg; first | omega | (refine inR64_of ?_ ?_ <;> omega) | (constructor <;> omega)) | (simp [-List.getD_eq_getElem?_getD, -Int.default_eq_zero]; done))
        conv => whnf
        refine ⟨rfl, ?_, trivial, trivial⟩
        all_goals repeat' (first | exact True.intro | refine leF_cons rfl ?_ ?_ | refine leS_cons rfl ?_ ?_ | (show PLe _ _ _ _; conv => whnf) | (show SLe _ _ _ _; conv => whnf) | (show PLeL _ _ _ _; conv => whnf) | apply And.intro | rfl | exact Nat.le_refl _ | exact fun _ _ => rfl | exact rowEq0 _ _)
      simp only [bif_t, bif_f, decide_eq_true_eq, decide_eq_false_iff_not, Bool.not_eq_true', Bool.not_eq_false', Bool.and_eq_true, Bool.or_eq_true, Bool.and_eq_false_iff, Bool.or_eq_false_iff, beq_iff_eq, bne_iff_ne, beq_eq_false_iff_ne, bne_eq_false_iff_eq, reduceCtorEq, false_and, and_false, true_and, and_true, or_false, false_or, or_true, true_or, not_true_eq_false, not_false_eq_true, Int.toNat_zero] at hc2
      rw [if_neg (by omega)]
      conv => whnf
      refine ⟨trivial, ?_⟩
      refine LSem.adopt 9 1000000 23 4 4 rfl rfl ?_
      refine LSem.loop (n := 70) mix (α := Nat × List Rd) (fun x => x.1 ≤ W.length ∧ x.2.length ≤ x.1 ∧ parL (x.1 : Int) x.2 (W.drop x.1) = parL 0 [] W)
        (fun x => [(9, .os 1000000), (36, .os 320), (37, .int .i64 W.length), (38, .int .i64 x.1)])
        (fun x => [(1000000, .row 0 23 4 x.2.length (fl eRd x.2)), (320, .row 0 9 1 W.length (fl eStr L))]) (fun x => W.length - x.1) (0, []) ?_ ?_ ?_
      · exact ⟨Nat.zero_le _, Nat.le_refl _, rfl⟩
      · refine ⟨rfl, rfl, ?_, ?_⟩
        all_goals repeat' (first | exact True.intro | refine leF_cons rfl ?_ ?_ | refine leS_cons rfl ?_ ?_ | (show PLe _ _ _ _; conv => whnf) | (show SLe _ _ _ _; conv => whnf) | (show PLeL _ _ _ _; conv => whnf) | apply And.intro | rfl | exact Nat.le_refl _ | exact fun _ _ => rfl | exact rowEq0 _ _)
        all_goals first | omega | skip
      · intro x hx
        obtain ⟨i, out⟩ := x
        obtain ⟨hi, ho, hp⟩ := hx
        dsimp only at hi ho hp
        have hj : ((i : Int)).toNat = i := by omega
        conv => whnf
        refine ⟨trivial, fun hc3 => ?_, fun hc3 => ?_⟩
        · replace hc3 := of_decide_eq_true hc3
          have hlt : i < W.length := by
            have h : (i : Int) < W.length := hc3
            omega
          obtain ⟨hl1, hl2⟩ := hlen i hlt
          rw [parL_drop out hlt] at hp
          conv => whnf
          dsimp only
          rw [hj]
          refine ⟨_, fun _ => call43 (L.getD i default) (hLm i (by omega)), ?_⟩
          rw [hwl i (by omega)]
          conv => whnf
          refine ⟨?_, fun hz => ?_, fun hz => ?_⟩
          · (try conv => whnf)
            (repeat' (first | exact True.intro | exact fun _ h => h | refine inR64_of ?_ ?_ | apply And.intro | refine maxLen_ge ?_)) <;> (first | omega | decide | (dsimp only; omega) | (dsimp only [List.length_cons, List.length_nil]; omega) | (intro hg; rw [hg]; rfl) | (intro hg hh; rw [hg, hh]; rfl) | (intro hg; simp [-List.getD_eq_getElem?_getD, -Int.default_eq_zero] at hg; first | omega | (refine inR64_of ?_ ?_ <;> omega) | (constructor <;> omega)) | (simp [-List.getD_eq_getElem?_getD, -Int.default_eq_zero]; done))
          · simp only [bif_t, bif_f, decide_eq_true_eq, decide_eq_false_iff_not, Bool.not_eq_true', Bool.not_eq_false', Bool.and_eq_true, Bool.or_eq_true, Bool.and_eq_false_iff, Bool.or_eq_false_iff, beq_iff_eq, bne_iff_ne, beq_eq_false_iff_ne, bne_eq_false_iff_eq, reduceCtorEq, false_and, and_false, true_and, and_true, or_false, false_or, or_true, true_or, not_true_eq_false, not_false_eq_true, Int.toNat_zero] at hz
            rw [if_pos (by omega)] at hp
            conv => whnf
            refine ⟨?_, (i + 1, out), ⟨hlt, by dsimp only; omega, hp⟩, ?_, rfl, rfl, ?_, ?_⟩
            · (try conv => whnf)
              (repeat' (first | exact True.intro | exact fun _ h => h | refine inR64_of ?_ ?_ | apply And.intro | refine maxLen_ge ?_)) <;> (first | omega | decide | (dsimp only; omega) | (dsimp only [List.length_cons, List.length_nil]; omega) | (intro hg; rw [hg]; rfl) | (intro hg hh; rw [hg, hh]; rfl) | (intro hg; simp [-List.getD_eq_getElem?_getD, -Int.default_eq_zero] at hg; first | omega | (refine inR64_of ?_ ?_ <;> omega) | (constructor <;> omega)) | (simp [-List.getD_eq_getElem?_getD, -Int.default_eq_zero]; done))
            · dsimp only; omega
            all_goals repeat' (first | exact True.intro | refine leF_cons rfl ?_ ?_ | refine leS_cons rfl ?_ ?_ | (show PLe _ _ _ _; conv => whnf) | (show SLe _ _ _ _; conv => whnf) | (show PLeL _ _ _ _; conv => whnf) | apply And.intro | rfl | exact Nat.le_refl _ | exact fun _ _ => rfl | exact rowEq0 _ _)
            all_goals first | (dsimp only; omega) | skip
          simp only [bif_t, bif_f, decide_eq_true_eq, decide_eq_false_iff_not, Bool.not_eq_true', Bool.not_eq_false', Bool.and_eq_true, Bool.or_eq_true, Bool.and_eq_false_iff, Bool.or_eq_false_iff, beq_iff_eq, bne_iff_ne, beq_eq_false_iff_ne, bne_eq_false_iff_eq, reduceCtorEq, false_and, and_false, true_and, and_true, or_false, false_or, or_true, true_or, not_true_eq_false, not_false_eq_true, Int.toNat_zero] at hz
          rw [if_neg (by omega)] at hp
          conv => whnf
          refine ⟨_, fun _ => call44 2 (W.getD i default) (by omega) (fun k hk => by have := hl2 k hk; omega), ?_⟩
          obtain ⟨hs1, hs3⟩ := line_same (W.getD i default)
          generalize lineG (W.getD i default) = R at hp hs1 hs3 ⊢
          rw [hs1]
          conv => whnf
          refine ⟨?_, fun h1 => ?_, fun h1 => ?_⟩
          · (try conv => whnf)
            (repeat' (first | exact True.intro | exact fun _ h => h | refine inR64_of ?_ ?_ | apply And.intro | refine maxLen_ge ?_)) <;> (first | omega | decide | (dsimp only; omega) | (dsimp only [List.length_cons, List.length_nil]; omega) | (intro hg; rw [hg]; rfl) | (intro hg hh; rw [hg, hh]; rfl) | (intro hg; simp [-List.getD_eq_getElem?_getD, -Int.default_eq_zero] at hg; first | omega | (refine inR64_of ?_ ?_ <;> omega) | (constructor <;> omega)) | (simp [-List.getD_eq_getElem?_getD, -Int.default_eq_zero]; done))
          · simp only [bif_t, bif_f, decide_eq_true_eq, decide_eq_false_iff_not, Bool.not_eq_true', Bool.not_eq_false', Bool.and_eq_true, Bool.or_eq_true, Bool.and_eq_false_iff, Bool.or_eq_false_iff, beq_iff_eq, bne_iff_ne, beq_eq_false_iff_ne, bne_eq_false_iff_eq, reduceCtorEq, false_and, and_false, true_and, and_true, or_false, false_or, or_true, true_or, not_true_eq_false, not_false_eq_true, Int.toNat_zero] at h1
            rw [if_pos h1] at hp
            rw [← hp]
            conv => whnf
            refine ⟨?_, [], ?_⟩
            · (try conv => whnf)
              (repeat' (first | exact True.intro | exact fun _ h => h | refine inR64_of ?_ ?_ | apply And.intro | refine maxLen_ge ?_)) <;> (first | omega | decide | (dsimp only; omega) | (dsimp only [List.length_cons, List.length_nil]; omega) | (intro hg; rw [hg]; rfl) | (intro hg hh; rw [hg, hh]; rfl) | (intro hg; simp [-List.getD_eq_getElem?_getD, -Int.default_eq_zero] at hg; first | omega | (refine inR64_of ?_ ?_ <;> omega) | (constructor <;> omega)) | (simp [-List.getD_eq_getElem?_getD, -Int.default_eq_zero]; done))
            conv => whnf
            refine ⟨rfl, ?_, trivial, trivial⟩
            all_goals repeat' (first | exact True.intro | refine leF_cons rfl ?_ ?_ | refine leS_cons rfl ?_ ?_ | (show PLe _ _ _ _; conv => whnf) | (show SLe _ _ _ _; conv => whnf) | (show PLeL _ _ _ _; conv => whnf) | apply And.intro | rfl | exact Nat.le_refl _ | exact fun _ _ => rfl | exact rowEq0 _ _)
          simp only [bif_t, bif_f, decide_eq_true_eq, decide_eq_false_iff_not, Bool.not_eq_true', Bool.not_eq_false', Bool.and_eq_true, Bool.or_eq_true, Bool.and_eq_false_iff, Bool.or_eq_false_iff, beq_iff_eq, bne_iff_ne, beq_eq_false_iff_ne, bne_eq_false_iff_eq, reduceCtorEq, false_and, and_false, true_and, and_true, or_false, false_or, or_true, true_or, not_true_eq_false, not_false_eq_true, Int.toNat_zero] at h1
          rw [hs3 h1]
          rw [if_neg (by rw [h1]; decide)] at hp
          conv => whnf
          refine ⟨_, fun _ => call27 R.1, ?_⟩
          conv => whnf
          refine ⟨?_, fun h2 => ?_, fun h2 => ?_⟩
          · (try conv => whnf)
            (repeat' (first | exact True.intro | exact fun _ h => h | refine inR64_of ?_ ?_ | apply And.intro | refine maxLen_ge ?_)) <;> (first | omega | decide | (dsimp only; omega) | (dsimp only [List.length_cons, List.length_nil]; omega) | (intro hg; rw [hg]; rfl) | (intro hg hh; rw [hg, hh]; rfl) | (intro hg; simp [-List.getD_eq_getElem?_getD, -Int.default_eq_zero] at hg; first | omega | (refine inR64_of ?_ ?_ <;> omega) | (constructor <;> omega)) | (simp [-List.getD_eq_getElem?_getD, -Int.default_eq_zero]; done))
          · have h2' : checkR R.1 ≠ 0 := by simpa using h2
            rw [if_pos h2'] at hp
            rw [← hp]
            conv => whnf
            refine ⟨?_, [], ?_⟩
            · (try conv => whnf)
              (repeat' (first | exact True.intro | exact fun _ h => h | refine inR64_of ?_ ?_ | apply And.intro | refine maxLen_ge ?_)) <;> (first | omega | decide | (dsimp only; omega) | (dsimp only [List.length_cons, List.length_nil]; omega) | (intro hg; rw [hg]; rfl) | (intro hg hh; rw [hg, hh]; rfl) | (intro hg; simp [-List.getD_eq_getElem?_getD, -Int.default_eq_zero] at hg; first | omega | (refine inR64_of ?_ ?_ <;> omega) | (constructor <;> omega)) | (simp [-List.getD_eq_getElem?_getD, -Int.default_eq_zero]; done))
            conv => whnf
            refine ⟨rfl, ?_, trivial, trivial⟩
            all_goals repeat' (first | exact True.intro | refine leF_cons rfl ?_ ?_ | refine leS_cons rfl ?_ ?_ | (show PLe _ _ _ _; conv => whnf) | (show SLe _ _ _ _; conv => whnf) | (show PLeL _ _ _ _; conv => whnf) | apply And.intro | rfl | exact Nat.le_refl _ | exact fun _ _ => rfl | exact rowEq0 _ _)
          · have h2' : ¬ checkR R.1 ≠ 0 := by simpa using h2
            rw [if_neg h2'] at hp
            have q := fl_push eRd out R.1
            have hxl : (out ++ [R.1]).length = out.length + 1 := by simp
            conv => whnf
            refine ⟨?_, (i + 1, out ++ [R.1]), ⟨hlt, by dsimp only; rw [hxl]; omega, hp⟩, ?_, rfl, rfl, ?_, ?_⟩
            · (try conv => whnf)
              (repeat' (first | exact True.intro | exact fun _ h => h | refine inR64_of ?_ ?_ | apply And.intro | refine maxLen_ge ?_)) <;> (first | omega | decide | (dsimp only; omega) | (dsimp only [List.length_cons, List.length_nil]; omega) | (intro hg; rw [hg]; rfl) | (intro hg hh; rw [hg, hh]; rfl) | (intro hg; simp [-List.getD_eq_getElem?_getD, -Int.default_eq_zero] at hg; first | omega | (refine inR64_of ?_ ?_ <;> omega) | (constructor <;> omega)) | (simp [-List.getD_eq_getElem?_getD, -Int.default_eq_zero]; done))
            · dsimp only; omega
            all_goals repeat' (first | exact True.intro | refine leF_cons rfl ?_ ?_ | refine leS_cons rfl ?_ ?_ | (show PLe _ _ _ _; conv => whnf) | (show SLe _ _ _ _; conv => whnf) | (show PLeL _ _ _ _; conv => whnf) | apply And.intro | rfl | exact Nat.le_refl _ | exact fun _ _ => rfl | exact rowEq0 _ _)
            all_goals first | exact q | (dsimp only; rw [hxl]; rfl) | (dsimp only; rw [hxl]; done) | (dsimp only; omega) | skip
        · replace hc3 := of_decide_eq_false hc3
          have hk : i = W.length := by
            have h : ¬ (i : Int) < W.length := hc3
            omega
          subst hk
          rw [List.drop_length] at hp
          have hp2 : (out, (0 : Int), (0 : Int)) = parL 0 [] W := hp
          rw [← hp2]
          conv => whnf
          refine ⟨?_, [], ?_⟩
          · (try conv => whnf)
            (repeat' (first | exact True.intro | exact fun _ h => h | refine inR64_of ?_ ?_ | apply And.intro | refine maxLen_ge ?_)) <;> (first | omega | decide | (dsimp only; omega) | (dsimp only [List.length_cons, List.length_nil]; omega) | (intro hg; rw [hg]; rfl) | (intro hg hh; rw [hg, hh]; rfl) | (intro hg; simp [-List.getD_eq_getElem?_getD, -Int.default_eq_zero] at hg; first | omega | (refine inR64_of ?_ ?_ <;> omega) | (constructor <;> omega)) | (simp [-List.getD_eq_getElem?_getD, -Int.default_eq_zero]; done))
          conv => whnf
          refine ⟨rfl, ?_, trivial, trivial⟩
          all_goals repeat' (first | exact True.intro | refine leF_cons rfl ?_ ?_ | refine leS_cons rfl ?_ ?_ | (show PLe _ _ _ _; conv => whnf) | (show SLe _ _ _ _; conv => whnf) | (show PLeL _ _ _ _; conv => whnf) | apply And.intro | rfl | exact Nat.le_refl _ | exact fun _ _ => rfl | exact rowEq0 _ _)
end Pv
end Go.Proofs.YtgbknfbcjddnhaaDoor

/- LAW 06: readings that are valid. -/
set_option linter.unusedSimpArgs false
set_option linter.unusedVariables false
namespace Go.Proofs.YtgbknfbcjddnhaaDoor
namespace Pv

/-- A reading that is valid. -/
def RdV (r : Rd) : Prop := (0 ≤ r.g ∧ r.g ≤ 255) ∧ (0 ≤ r.t ∧ r.t ≤ 16777216) ∧ (0 ≤ r.v ∧ r.v ≤ 1073741824) ∧ 0 ≤ r.f ∧ r.f ≤ 2
theorem checkR_V {r : Rd} (h : checkR r = 0) : RdV r := by
  unfold checkR at h
  split at h
  · split at h
    · split at h
      · split at h
        · exact ⟨‹_›, ‹_›, ‹_›, ‹_›⟩
        · cases h
      · cases h
    · cases h
  · cases h
theorem V_checkR {r : Rd} (h : RdV r) : checkR r = 0 := by
  unfold checkR; rw [if_pos h.1, if_pos h.2.1, if_pos h.2.2.1, if_pos h.2.2.2]
theorem lim_ok {l : List Rd} (h : limR l = 0) : l.length ≤ 4096 ∧ ∀ i, i < l.length → RdV (l.getD i default) := by
  unfold limR at h
  split at h
  · cases h
  · exact ⟨by omega, fun i hi => checkR_V (scan_zero h i (Nat.zero_le _) (by omega))⟩
end Pv
end Go.Proofs.YtgbknfbcjddnhaaDoor

/- LAW 06, THE WALKS: the readings of a gauge step by step. -/
set_option linter.unusedSimpArgs false
set_option linter.unusedVariables false
namespace Go.Proofs.YtgbknfbcjddnhaaDoor
namespace Pv
def c13L1 : C := (.seq (.reg [⟨(some 46), 736, none, .bi false .lss (.t 45) (.t 44)⟩])
  (.seq (.cond (.t 46) .skip (.exit 1))
  (.seq (.block 2 (.seq (.reg [⟨(some 47), 752, none, .ia 4 (.t 43) (.t 45)⟩,
    ⟨(some 48), 768, none, .ld 4 true (.t 47)⟩,
    ⟨(some 13), 208, none, .al [(.int .i64 0), (.int .i64 0), (.int .i64 0), (.int .i64 0)]⟩,
    ⟨none, 0, none, .st 4 (.t 13) (.t 48)⟩])
  (.seq (.reg [⟨(some 49), 784, none, .fa 0 (.t 13)⟩,
    ⟨(some 50), 800, none, .ld 1 false (.t 49)⟩,
    ⟨(some 51), 816, none, .mv (.t 1)⟩,
    ⟨(some 52), 832, none, .bi false .eql (.t 50) (.t 51)⟩])
  (.cond (.t 52) (.reg [⟨(some 53), 848, none, .mv (.t 11)⟩,
    ⟨(some 54), 864, none, .fa 1 (.t 13)⟩,
    ⟨(some 55), 880, none, .ld 1 false (.t 54)⟩,
    ⟨(some 56), 896, none, .ld 4 true (.t 13)⟩,
    ⟨none, 0, none, .mpu [(.i .i64)] [(.i .i64), (.i .i64), (.i .i64), (.i .i64)] false true (.t 53) (.t 55) (.t 56)⟩]) .skip))))
  (.reg [⟨(some 57), 912, none, .bi false .add (.t 45) (.c (.int .i64 1))⟩,
    ⟨(some 45), 720, none, .mv (.t 57)⟩]))))
def c13L2 : C := (.seq (.seq (.reg [⟨(some 59), 944, none, .mv (.t 15)⟩,
    ⟨(some 60), 960, none, .mv (.t 2)⟩,
    ⟨(some 61), 976, none, .mv (.t 3)⟩,
    ⟨(some 62), 992, none, .bi false .add (.t 60) (.t 61)⟩,
    ⟨(some 63), 1008, none, .bi false .lss (.t 59) (.t 62)⟩])
  (.cond (.t 63) .skip (.exit 3)))
  (.seq (.block 4 (.seq (.reg [⟨(some 67), 1072, none, .mv (.t 11)⟩,
    ⟨(some 68), 1088, none, .mv (.t 15)⟩,
    ⟨(some 69), 1104, none, .mpg [(.i .i64)] [(.i .i64), (.i .i64), (.i .i64), (.i .i64)] false true true (.t 67) (.t 68)⟩,
    ⟨(some 66), 1056, none, .mv (.t 69)⟩,
    ⟨(some 70), 1120, none, .ex (.t 66) 0⟩,
    ⟨(some 71), 1136, none, .ex (.t 66) 1⟩,
    ⟨(some 16), 256, none, .al [(.int .i64 0), (.int .i64 0), (.int .i64 0), (.int .i64 0)]⟩,
    ⟨none, 0, none, .st 4 (.t 16) (.t 70)⟩,
    ⟨(some 17), 272, none, .mv (.t 71)⟩])
  (.seq (.seq (.reg [⟨(some 72), 1152, none, .mv (.t 17)⟩,
    ⟨(some 73), 1168, none, .un false .not (.t 72)⟩])
  (.cond (.t 73) (.reg [⟨(some 74), 1184, none, .mv (.t 1)⟩,
    ⟨(some 75), 1200, none, .mv (.t 15)⟩,
    ⟨(some 76), 1216, none, .bd [(.int .i64 0), (.int .i64 0), (.int .i64 0), (.int .i64 0)] [(0, 1, (.t 74)), (1, 1, (.t 75)), (3, 1, (.c (.int .i64 2)))]⟩,
    ⟨none, 0, none, .st 4 (.t 16) (.t 76)⟩]) .skip))
  (.reg [⟨(some 77), 1232, none, .mv (.t 14)⟩,
    ⟨(some 78), 1248, none, .ld 4 true (.t 16)⟩,
    ⟨(some 79), 1264, none, .bs 23 4 [(.t 78)]⟩,
    ⟨(some 80), 1280, none, .app 23 4 32 (.t 77) (.t 79)⟩,
    ⟨(some 14), 224, none, .mv (.t 80)⟩]))))
  (.reg [⟨(some 64), 1024, none, .mv (.t 15)⟩,
    ⟨(some 65), 1040, none, .bi false .add (.t 64) (.c (.int .i64 1))⟩,
    ⟨(some 15), 240, none, .mv (.t 65)⟩])))
def c13 : C := (.seq (.reg [⟨(some 8), 128, none, .mv (.c (.nil 4))⟩,
    ⟨(some 9), 144, none, .mv (.c (.int .i64 0))⟩])
  (.seq (.block 0 (.seq (.reg [⟨(some 19), 304, none, .mv (.t 1)⟩,
    ⟨(some 20), 320, none, .call (.c (.fn (.func 30) [] [])) [(.t 19), (.c (.int .i64 255))]⟩,
    ⟨(some 21), 336, none, .un false .not (.t 20)⟩,
    ⟨(some 22), 352, none, .mv (.t 21)⟩,
    ⟨(some 23), 368, (some (22, false)), .mv (.t 3)⟩,
    ⟨(some 24), 384, (some (22, false)), .call (.c (.fn (.func 30) [] [])) [(.t 23), (.c (.int .i64 4096))]⟩,
    ⟨(some 25), 400, (some (22, false)), .un false .not (.t 24)⟩,
    ⟨(some 26), 416, none, .pick (.t 22) (.c (.bool true)) (.t 25)⟩,
    ⟨(some 18), 288, none, .mv (.t 26)⟩])
  (.cond (.t 18) (.seq (.reg [⟨(some 8), 128, none, .mv (.c (.nil 4))⟩,
    ⟨(some 9), 144, none, .mv (.c (.int .i64 1))⟩])
  .ret) (.seq (.reg [⟨(some 28), 448, none, .mv (.t 2)⟩,
    ⟨(some 29), 464, none, .call (.c (.fn (.func 30) [] [])) [(.t 28), (.c (.int .i64 16777216))]⟩,
    ⟨(some 30), 480, none, .un false .not (.t 29)⟩,
    ⟨(some 31), 496, none, .mv (.t 30)⟩,
    ⟨(some 32), 512, (some (31, false)), .mv (.t 2)⟩,
    ⟨(some 33), 528, (some (31, false)), .mv (.t 3)⟩,
    ⟨(some 34), 544, (some (31, false)), .bi false .add (.t 32) (.t 33)⟩,
    ⟨(some 35), 560, (some (31, false)), .bi false .gtr (.t 34) (.c (.int .i64 16777216))⟩,
    ⟨(some 36), 576, none, .pick (.t 31) (.c (.bool true)) (.t 35)⟩,
    ⟨(some 27), 432, none, .mv (.t 36)⟩])
  (.cond (.t 27) (.seq (.reg [⟨(some 8), 128, none, .mv (.c (.nil 4))⟩,
    ⟨(some 9), 144, none, .mv (.c (.int .i64 6))⟩])
  .ret) .skip)))))
  (.seq (.seq (.reg [⟨(some 37), 592, none, .mv (.t 0)⟩,
    ⟨(some 38), 608, none, .call (.c (.fn (.func 31) [] [])) [(.t 37)]⟩,
    ⟨(some 10), 160, none, .mv (.t 38)⟩])
  (.seq (.reg [⟨(some 39), 624, none, .mv (.t 10)⟩,
    ⟨(some 40), 640, none, .bi false .neq (.t 39) (.c (.int .i64 0))⟩])
  (.cond (.t 40) (.seq (.reg [⟨(some 41), 656, none, .mv (.t 10)⟩,
    ⟨(some 8), 128, none, .mv (.c (.nil 4))⟩,
    ⟨(some 9), 144, none, .mv (.t 41)⟩])
  .ret) .skip)))
  (.seq (.reg [⟨(some 42), 672, none, .mkm [(.i .i64)] [(.i .i64), (.i .i64), (.i .i64), (.i .i64)] false true⟩,
    ⟨(some 11), 176, none, .mv (.t 42)⟩])
  (.seq (.seq (.reg [⟨(some 43), 688, none, .mv (.t 0)⟩,
    ⟨(some 44), 704, none, .len (.t 43)⟩,
    ⟨(some 45), 720, none, .mv (.c (.int .i64 0))⟩])
  (.block 1 (.loop c13L1)))
  (.seq (.reg [⟨(some 14), 224, none, .mv (.c (.nil 4))⟩])
  (.seq (.seq (.reg [⟨(some 58), 928, none, .mv (.t 2)⟩,
    ⟨(some 15), 240, none, .mv (.t 58)⟩])
  (.block 3 (.loop c13L2)))
  (.seq (.reg [⟨(some 81), 1296, none, .mv (.t 14)⟩,
    ⟨(some 8), 128, none, .mv (.t 81)⟩,
    ⟨(some 9), 144, none, .mv (.c (.int .i64 0))⟩])
  .ret))))))))
theorem fits13 : fits Tryd.prog false Tryd.f13 4 82 [(8, none), (9, none)] = some c13.er := by kernel_rfl

def stepO (g t : Int) (x : Option Rd) (r : Rd) : Option Rd := if r.g = g ∧ r.t = t then some r else x
/-- The last reading of a gauge at a step. -/
def lastO (l : List Rd) (g t : Int) : Option Rd := l.foldl (stepO g t) none
def lastR (l : List Rd) (g t : Int) : Rd := (lastO l g t).getD ⟨g, t, 0, 2⟩
def serL (l : List Rd) (g a : Int) (n : Nat) : List Rd := (List.range n).map fun i : Nat => lastR l g (a + (i : Int))
def seriesF (l : List Rd) (g a c : Int) : List Rd × Int := if ¬ (0 ≤ g ∧ g ≤ 255) ∨ ¬ (0 ≤ c ∧ c ≤ 4096) then ([], 1) else if ¬ (0 ≤ a ∧ a ≤ 16777216) ∨ 16777216 < a + c then ([], 6) else
  if allR l ≠ 0 then ([], allR l) else (serL l g a c.toNat, 0)
theorem lastO_push (l : List Rd) (r : Rd) (g t : Int) : lastO (l ++ [r]) g t = stepO g t (lastO l g t) r := by simp [lastO]
theorem serL_len (l : List Rd) (g a : Int) (n : Nat) : (serL l g a n).length = n := by simp [serL]
theorem serL_push (l : List Rd) (g a : Int) (n : Nat) : serL l g a (n + 1) = serL l g a n ++ [lastR l g (a + n)] := by simp [serL, List.range_succ]
theorem take_pushR {l : List Rd} {i : Nat} (h : i < l.length) : l.take (i + 1) = l.take i ++ [l.getD i default] := by
  rw [List.take_add_one, getD_some h]; rfl

def keyI (kc : List PC) : Int := intP (kc.headD default)
def pcR (r : Rd) : List PC := [.i r.g, .i r.t, .i r.v, .i r.f]
def hM (l : List Rd) (g : Int) : List PC → Bool := fun kc => (lastO l g (keyI kc)).isSome
def fM (l : List Rd) (g : Int) : List PC → List PC := fun kc => pcR ((lastO l g (keyI kc)).getD rd0)
abbrev mpR (l : List Rd) (g : Int) : SE := .box [.mpv [.i .i64] [.i .i64, .i .i64, .i .i64, .i .i64] false true (hM l g) (fM l g)]
theorem key1 {kl : List PC} (h : okK [KK.i .i64] kl = true) : ∃ n, kl = [.i n] := by
  match kl, okK_len h with
  | [c], _ =>
    have := (okK_cons h).1
    cases c <;> simp only [okC] at this <;> first | exact ⟨_, rfl⟩ | cases this
theorem mp_skip {l : List Rd} {r : Rd} {g : Int} (h : r.g ≠ g) : MpEq [KK.i .i64] (hM l g) (fM l g) (hM (l ++ [r]) g) (fM (l ++ [r]) g) := fun kl _ => by
  have : ∀ t, lastO (l ++ [r]) g t = lastO l g t := fun t => by rw [lastO_push]; unfold stepO; rw [if_neg (fun hh => h hh.1)]
  unfold hM fM
  rw [this]
  exact ⟨rfl, rfl⟩
theorem mp_put {l : List Rd} {r : Rd} {g : Int} (h : r.g = g) : MpEq [KK.i .i64] (fun c => eqK c [.i r.t] || hM l g c) (fun c => bif eqK c [.i r.t] then [.i r.g, .i r.t, .i r.v, .i r.f] else fM l g c) (hM (l ++ [r]) g) (fM (l ++ [r]) g) := fun kl hk => by
  obtain ⟨n, rfl⟩ := key1 hk
  unfold hM fM
  rw [lastO_push]
  have e : eqK [.i n] [.i r.t] = (n == r.t) := by simp [eqK, eqC]
  have k : keyI [.i n] = n := rfl
  dsimp only
  rw [e, k]
  unfold stepO
  by_cases hn : n = r.t
  · subst hn
    rw [if_pos ⟨h, rfl⟩]
    simp [pcR]
  · rw [if_neg (fun hh => hn hh.2.symm), beq_eq_false_iff_ne.2 hn]
    exact ⟨rfl, rfl⟩

set_option maxRecDepth 100000 in
set_option maxHeartbeats 16000000 in
theorem call13 (τ : Nat) (l : List Rd) (g a c : Int) (hl : l.length ≤ 4611686018427387904) (ha : -9223372036854775808 ≤ a ∧ a ≤ 9223372036854775807) :
    PureCall Tryd.prog 13 [.sl τ 4 l.length (fl eRd l), .int .i64 g, .int .i64 a, .int .i64 c] [] ⟨.tup [.sl 0 4 (seriesF l g a c).1.length (fl eRd (seriesF l g a c).1), .int .i64 (seriesF l g a c).2], [], []⟩ := by
  refine pure_call mix Tryd.func13 fits13 rfl ?_
  conv => whnf
  refine ⟨_, fun _ => call30 g 255, ?_⟩
  conv => whnf
  refine ⟨_, fun _ => call30 c 4096, ?_⟩
  conv => whnf
  refine ⟨?_, fun hc => ?_, fun hc => ?_⟩
  · (try conv => whnf)
    (repeat' (first | exact True.intro | exact fun _ h => h | refine inR64_of ?_ ?_ | apply And.intro | refine maxLen_ge ?_)) <;> (first | omega | decide | (dsimp only; omega) | (dsimp only [List.length_cons, List.length_nil]; omega) | (intro hg; rw [hg]; rfl) | (intro hg hh; rw [hg, hh]; rfl) | (intro hg; simp [-List.getD_eq_getElem?_getD, -Int.default_eq_zero] at hg; first | omega | (refine inR64_of ?_ ?_ <;> omega) | (constructor <;> omega)) | (simp [-List.getD_eq_getElem?_getD, -Int.default_eq_zero]; done))
  · have h : ¬ (0 ≤ g ∧ g ≤ 255) ∨ ¬ (0 ≤ c ∧ c ≤ 4096) := by
      by_cases h1 : 0 ≤ g ∧ g ≤ 255
      · by_cases h2 : 0 ≤ c ∧ c ≤ 4096
        · rw [decide_eq_true h1, decide_eq_true h2] at hc; cases hc
        · exact .inr h2
      · exact .inl h1
    rw [show seriesF l g a c = ([], 1) by unfold seriesF; rw [if_pos h]]
    conv => whnf
    refine ⟨?_, [], ?_⟩
    · (try conv => whnf)
      (repeat' (first | exact True.intro | exact fun _ h => h | refine inR64_of ?_ ?_ | apply And.intro | refine maxLen_ge ?_)) <;> (first | omega | decide | (dsimp only; omega) | (dsimp only [List.length_cons, List.length_nil]; omega) | (intro hg; rw [hg]; rfl) | (intro hg hh; rw [hg, hh]; rfl) | (intro hg; simp [-List.getD_eq_getElem?_getD, -Int.default_eq_zero] at hg; first | omega | (refine inR64_of ?_ ?_ <;> omega) | (constructor <;> omega)) | (simp [-List.getD_eq_getElem?_getD, -Int.default_eq_zero]; done))
    conv => whnf
    refine ⟨rfl, ?_, trivial, trivial⟩
    all_goals repeat' (first | exact True.intro | refine leF_cons rfl ?_ ?_ | refine leS_cons rfl ?_ ?_ | (show PLe _ _ _ _; conv => whnf) | (show SLe _ _ _ _; conv => whnf) | (show PLeL _ _ _ _; conv => whnf) | apply And.intro | rfl | exact Nat.le_refl _ | exact fun _ _ => rfl | exact rowEq0 _ _)
  have h : (0 ≤ g ∧ g ≤ 255) ∧ 0 ≤ c ∧ c ≤ 4096 := by
    by_cases h1 : 0 ≤ g ∧ g ≤ 255
    · by_cases h2 : 0 ≤ c ∧ c ≤ 4096
      · exact ⟨h1, h2⟩
      · rw [decide_eq_true h1, decide_eq_false h2] at hc; cases hc
    · rw [decide_eq_false h1] at hc; cases hc
  conv => whnf
  refine ⟨_, fun _ => call30 a 16777216, ?_⟩
  conv => whnf
  refine ⟨?_, fun hc => ?_, fun hc => ?_⟩
  · (try conv => whnf)
    by_cases h1 : 0 ≤ a ∧ a ≤ 16777216
    · rw [decide_eq_true h1]
      (try conv => whnf)
      (repeat' (first | exact True.intro | exact fun _ h => h | refine inR64_of ?_ ?_ | apply And.intro | refine maxLen_ge ?_)) <;> (first | omega | decide | (dsimp only; omega) | (dsimp only [List.length_cons, List.length_nil]; omega) | (intro hg; rw [hg]; rfl) | (intro hg hh; rw [hg, hh]; rfl) | (intro hg; simp [-List.getD_eq_getElem?_getD, -Int.default_eq_zero] at hg; first | omega | (refine inR64_of ?_ ?_ <;> omega) | (constructor <;> omega)) | (simp [-List.getD_eq_getElem?_getD, -Int.default_eq_zero]; done))
    · rw [decide_eq_false h1]
      (repeat' (first | exact True.intro | exact fun _ h => h | apply And.intro)) <;> simp
  · have h2 : ¬ (0 ≤ a ∧ a ≤ 16777216) ∨ 16777216 < a + c := by
      by_cases h1 : 0 ≤ a ∧ a ≤ 16777216
      · rw [decide_eq_true h1] at hc
        exact .inr (of_decide_eq_true hc)
      · exact .inl h1
    rw [show seriesF l g a c = ([], 6) by unfold seriesF; rw [if_neg (by omega), if_pos h2]]
    conv => whnf
    refine ⟨?_, [], ?_⟩
    · (try conv => whnf)
      (repeat' (first | exact True.intro | exact fun _ h => h | refine inR64_of ?_ ?_ | apply And.intro | refine maxLen_ge ?_)) <;> (first | omega | decide | (dsimp only; omega) | (dsimp only [List.length_cons, List.length_nil]; omega) | (intro hg; rw [hg]; rfl) | (intro hg hh; rw [hg, hh]; rfl) | (intro hg; simp [-List.getD_eq_getElem?_getD, -Int.default_eq_zero] at hg; first | omega | (refine inR64_of ?_ ?_ <;> omega) | (constructor <;> omega)) | (simp [-List.getD_eq_getElem?_getD, -Int.default_eq_zero]; done))
    conv => whnf
    refine ⟨rfl, ?_, trivial, trivial⟩
    all_goals repeat' (first | exact True.intro | refine leF_cons rfl ?_ ?_ | refine leS_cons rfl ?_ ?_ | (show PLe _ _ _ _; conv => whnf) | (show SLe _ _ _ _; conv => whnf) | (show PLeL _ _ _ _; conv => whnf) | apply And.intro | rfl | exact Nat.le_refl _ | exact fun _ _ => rfl | exact rowEq0 _ _)
  have h2 : (0 ≤ a ∧ a ≤ 16777216) ∧ a + c ≤ 16777216 := by
    by_cases h1 : 0 ≤ a ∧ a ≤ 16777216
    · rw [decide_eq_true h1] at hc
      have := of_decide_eq_false hc
      exact ⟨h1, by omega⟩
    · rw [decide_eq_false h1] at hc; cases hc
  conv => whnf
  refine ⟨_, fun _ => call31 _ l hl, ?_⟩
  conv => whnf
  refine ⟨?_, fun hc => ?_, fun hc => ?_⟩
  · (try conv => whnf)
    (repeat' (first | exact True.intro | exact fun _ h => h | refine inR64_of ?_ ?_ | apply And.intro | refine maxLen_ge ?_)) <;> (first | omega | decide | (dsimp only; omega) | (dsimp only [List.length_cons, List.length_nil]; omega) | (intro hg; rw [hg]; rfl) | (intro hg hh; rw [hg, hh]; rfl) | (intro hg; simp [-List.getD_eq_getElem?_getD, -Int.default_eq_zero] at hg; first | omega | (refine inR64_of ?_ ?_ <;> omega) | (constructor <;> omega)) | (simp [-List.getD_eq_getElem?_getD, -Int.default_eq_zero]; done))
  · have h3 : allR l ≠ 0 := by simpa using hc
    rw [show seriesF l g a c = ([], allR l) by unfold seriesF; rw [if_neg (by omega), if_neg (by omega), if_pos h3]]
    conv => whnf
    refine ⟨?_, [], ?_⟩
    · (try conv => whnf)
      (repeat' (first | exact True.intro | exact fun _ h => h | refine inR64_of ?_ ?_ | apply And.intro | refine maxLen_ge ?_)) <;> (first | omega | decide | (dsimp only; omega) | (dsimp only [List.length_cons, List.length_nil]; omega) | (intro hg; rw [hg]; rfl) | (intro hg hh; rw [hg, hh]; rfl) | (intro hg; simp [-List.getD_eq_getElem?_getD, -Int.default_eq_zero] at hg; first | omega | (refine inR64_of ?_ ?_ <;> omega) | (constructor <;> omega)) | (simp [-List.getD_eq_getElem?_getD, -Int.default_eq_zero]; done))
    conv => whnf
    refine ⟨rfl, ?_, trivial, trivial⟩
    all_goals repeat' (first | exact True.intro | refine leF_cons rfl ?_ ?_ | refine leS_cons rfl ?_ ?_ | (show PLe _ _ _ _; conv => whnf) | (show SLe _ _ _ _; conv => whnf) | (show PLeL _ _ _ _; conv => whnf) | apply And.intro | rfl | exact Nat.le_refl _ | exact fun _ _ => rfl | exact rowEq0 _ _)
  have h3 : ¬ allR l ≠ 0 := by simpa using hc
  rw [show seriesF l g a c = (serL l g a c.toNat, 0) by unfold seriesF; rw [if_neg (by omega), if_neg (by omega), if_neg h3]]
  obtain ⟨n, hn⟩ : ∃ n : Nat, (n : Int) = c := ⟨c.toNat, by omega⟩
  rw [← hn] at h h2 ⊢
  rw [Int.toNat_natCast]
  conv => whnf
  refine ⟨?_, ?_⟩
  · (try conv => whnf)
    (repeat' (first | exact True.intro | exact fun _ h => h | refine inR64_of ?_ ?_ | apply And.intro | refine maxLen_ge ?_)) <;> (first | omega | decide | (dsimp only; omega) | (dsimp only [List.length_cons, List.length_nil]; omega) | (intro hg; rw [hg]; rfl) | (intro hg hh; rw [hg, hh]; rfl) | (intro hg; simp [-List.getD_eq_getElem?_getD, -Int.default_eq_zero] at hg; first | omega | (refine inR64_of ?_ ?_ <;> omega) | (constructor <;> omega)) | (simp [-List.getD_eq_getElem?_getD, -Int.default_eq_zero]; done))
  refine LSem.loop (n := 82) mix (α := Nat) (fun i => i ≤ l.length)
    (fun i => [(1, .int .i64 g), (2, .int .i64 a), (3, .int .i64 n), (11, .rf none 672), (43, .sl τ 4 l.length (fl eRd l)), (44, .int .i64 l.length), (45, .int .i64 i)])
    (fun i => [(672, mpR (l.take i) g)]) (fun i => l.length - i) 0 ?_ ?_ ?_
  · exact Nat.zero_le _
  · refine ⟨rfl, rfl, ?_, ?_⟩
    all_goals repeat' (first | exact True.intro | refine leF_cons rfl ?_ ?_ | refine leS_cons rfl ?_ ?_ | (show PLe _ _ _ _; conv => whnf) | (show SLe _ _ _ _; conv => whnf) | (show PLeL _ _ _ _; conv => whnf) | apply And.intro | rfl | exact Nat.le_refl _ | exact fun _ _ => rfl | exact rowEq0 _ _)
    all_goals first | exact fun kl _ => ⟨rfl, rfl⟩ | skip
  · intro i hi
    have hj : ((i : Int)).toNat = i := by omega
    conv => whnf
    refine ⟨trivial, fun hc => ?_, fun hc => ?_⟩
    · replace hc := of_decide_eq_true hc
      have hlt : i < l.length := by
        have h : (i : Int) < l.length := hc
        omega
      have htp := take_pushR hlt
      conv => whnf
      rw [hj]
      generalize l.getD i default = r at htp ⊢
      refine ⟨?_, fun hg => ?_, fun hg => ?_⟩
      · (try conv => whnf)
        (repeat' (first | exact True.intro | exact fun _ h => h | refine inR64_of ?_ ?_ | apply And.intro | refine maxLen_ge ?_)) <;> (first | omega | decide | (dsimp only; omega) | (dsimp only [List.length_cons, List.length_nil]; omega) | (intro hg; rw [hg]; rfl) | (intro hg hh; rw [hg, hh]; rfl) | (intro hg; simp [-List.getD_eq_getElem?_getD, -Int.default_eq_zero] at hg; first | omega | (refine inR64_of ?_ ?_ <;> omega) | (constructor <;> omega)) | (simp [-List.getD_eq_getElem?_getD, -Int.default_eq_zero]; done))
      · have hg' : r.g = g := by simpa using hg
        have hq := mp_put (l := l.take i) hg'
        rw [← htp] at hq
        conv => whnf
        refine ⟨?_, i + 1, hlt, ?_, rfl, rfl, ?_, ?_⟩
        · (try conv => whnf)
          (repeat' (first | exact True.intro | exact fun _ h => h | refine inR64_of ?_ ?_ | apply And.intro | refine maxLen_ge ?_)) <;> (first | omega | decide | (dsimp only; omega) | (dsimp only [List.length_cons, List.length_nil]; omega) | (intro hg; rw [hg]; rfl) | (intro hg hh; rw [hg, hh]; rfl) | (intro hg; simp [-List.getD_eq_getElem?_getD, -Int.default_eq_zero] at hg; first | omega | (refine inR64_of ?_ ?_ <;> omega) | (constructor <;> omega)) | (simp [-List.getD_eq_getElem?_getD, -Int.default_eq_zero]; done))
        · omega
        all_goals repeat' (first | exact True.intro | refine leF_cons rfl ?_ ?_ | refine leS_cons rfl ?_ ?_ | (show PLe _ _ _ _; conv => whnf) | (show SLe _ _ _ _; conv => whnf) | (show PLeL _ _ _ _; conv => whnf) | apply And.intro | rfl | exact Nat.le_refl _ | exact fun _ _ => rfl | exact rowEq0 _ _)
        all_goals first | exact hq | omega | skip
      · have hg' : r.g ≠ g := by simpa using hg
        have hq := mp_skip (l := l.take i) hg'
        rw [← htp] at hq
        conv => whnf
        refine ⟨?_, i + 1, hlt, ?_, rfl, rfl, ?_, ?_⟩
        · (try conv => whnf)
          (repeat' (first | exact True.intro | exact fun _ h => h | refine inR64_of ?_ ?_ | apply And.intro | refine maxLen_ge ?_)) <;> (first | omega | decide | (dsimp only; omega) | (dsimp only [List.length_cons, List.length_nil]; omega) | (intro hg; rw [hg]; rfl) | (intro hg hh; rw [hg, hh]; rfl) | (intro hg; simp [-List.getD_eq_getElem?_getD, -Int.default_eq_zero] at hg; first | omega | (refine inR64_of ?_ ?_ <;> omega) | (constructor <;> omega)) | (simp [-List.getD_eq_getElem?_getD, -Int.default_eq_zero]; done))
        · omega
        all_goals repeat' (first | exact True.intro | refine leF_cons rfl ?_ ?_ | refine leS_cons rfl ?_ ?_ | (show PLe _ _ _ _; conv => whnf) | (show SLe _ _ _ _; conv => whnf) | (show PLeL _ _ _ _; conv => whnf) | apply And.intro | rfl | exact Nat.le_refl _ | exact fun _ _ => rfl | exact rowEq0 _ _)
        all_goals first | exact hq | omega | skip
    · replace hc := of_decide_eq_false hc
      have hk : i = l.length := by
        have h : ¬ (i : Int) < l.length := hc
        omega
      subst hk
      rw [List.take_length]
      conv => whnf
      refine ⟨?_, ?_⟩
      · (try conv => whnf)
        (repeat' (first | exact True.intro | exact fun _ h => h | refine inR64_of ?_ ?_ | apply And.intro | refine maxLen_ge ?_)) <;> (first | omega | decide | (dsimp only; omega) | (dsimp only [List.length_cons, List.length_nil]; omega) | (intro hg; rw [hg]; rfl) | (intro hg hh; rw [hg, hh]; rfl) | (intro hg; simp [-List.getD_eq_getElem?_getD, -Int.default_eq_zero] at hg; first | omega | (refine inR64_of ?_ ?_ <;> omega) | (constructor <;> omega)) | (simp [-List.getD_eq_getElem?_getD, -Int.default_eq_zero]; done))
      refine LSem.adopt 14 1000000 23 4 4 rfl rfl ?_
      refine LSem.loop (n := 82) mix (α := Nat) (fun i => i ≤ n)
        (fun i => [(1, .int .i64 g), (2, .int .i64 a), (3, .int .i64 n), (11, .rf none 672), (14, .os 1000000), (15, .int .i64 (a + i))])
        (fun i => [(672, mpR l g), (1000000, .row 0 23 4 (serL l g a i).length (fl eRd (serL l g a i)))]) (fun i => n - i) 0 ?_ ?_ ?_
      · exact Nat.zero_le _
      · refine ⟨rfl, rfl, ?_, ?_⟩
        all_goals repeat' (first | exact True.intro | refine leF_cons rfl ?_ ?_ | refine leS_cons rfl ?_ ?_ | (show PLe _ _ _ _; conv => whnf) | (show SLe _ _ _ _; conv => whnf) | (show PLeL _ _ _ _; conv => whnf) | apply And.intro | rfl | exact Nat.le_refl _ | exact fun _ _ => rfl | exact rowEq0 _ _)
        all_goals first | exact fun kl _ => ⟨rfl, rfl⟩ | (show a = a + 0; omega) | exact (serL_len l g a 0).symm | skip
      · intro i hi
        have hsl := serL_len l g a i
        have hsl2 := serL_len l g a (i + 1)
        have hsp := serL_push l g a i
        conv => whnf
        refine ⟨?_, fun hc2 => ?_, fun hc2 => ?_⟩
        · (try conv => whnf)
          (repeat' (first | exact True.intro | exact fun _ h => h | refine inR64_of ?_ ?_ | apply And.intro | refine maxLen_ge ?_)) <;> (first | omega | decide | (dsimp only; omega) | (dsimp only [List.length_cons, List.length_nil]; omega) | (intro hg; rw [hg]; rfl) | (intro hg hh; rw [hg, hh]; rfl) | (intro hg; simp [-List.getD_eq_getElem?_getD, -Int.default_eq_zero] at hg; first | omega | (refine inR64_of ?_ ?_ <;> omega) | (constructor <;> omega)) | (simp [-List.getD_eq_getElem?_getD, -Int.default_eq_zero]; done))
        · replace hc2 := of_decide_eq_true hc2
          have hlt : i < n := by
            have h : a + (i : Int) < a + n := hc2
            omega
          conv => whnf
          refine ⟨?_, fun hk => ?_, fun hk => ?_⟩
          · (try conv => whnf)
            (repeat' (first | exact True.intro | exact fun _ h => h | refine inR64_of ?_ ?_ | apply And.intro | refine maxLen_ge ?_)) <;> (first | omega | decide | (dsimp only; omega) | (dsimp only [List.length_cons, List.length_nil]; omega) | (intro hg; rw [hg]; rfl) | (intro hg hh; rw [hg, hh]; rfl) | (intro hg; simp [-List.getD_eq_getElem?_getD, -Int.default_eq_zero] at hg; first | omega | (refine inR64_of ?_ ?_ <;> omega) | (constructor <;> omega)) | (simp [-List.getD_eq_getElem?_getD, -Int.default_eq_zero]; done))
          · have hno : lastO l g (a + i) = none := by
              have : (lastO l g (a + i)).isSome = false := by
                have hk' : (!(lastO l g (a + i)).isSome) = true := hk
                simpa using hk'
              cases hq : lastO l g (a + i) with
              | none => rfl
              | some _ => rw [hq] at this; cases this
            have q := fl_push eRd (serL l g a i) ⟨g, a + i, 0, 2⟩
            rw [show (⟨g, a + i, 0, 2⟩ : Rd) = lastR l g (a + i) by unfold lastR; rw [hno]; rfl, ← hsp] at q
            have q2 : RowEq ((serL l g a i).length + 1) (appF (serL l g a i).length (fl eRd (serL l g a i)) (fun j => [eRd ⟨g, a + i, 0, 2⟩].getD j [])) (fl eRd (serL l g a (i + 1))) := by
              rw [show (⟨g, a + i, 0, 2⟩ : Rd) = lastR l g (a + i) by unfold lastR; rw [hno]; rfl]; exact q
            conv => whnf
            refine ⟨?_, i + 1, hlt, ?_, rfl, rfl, ?_, ?_⟩
            · (try conv => whnf)
              (repeat' (first | exact True.intro | exact fun _ h => h | refine inR64_of ?_ ?_ | apply And.intro | refine maxLen_ge ?_)) <;> (first | omega | decide | (dsimp only; omega) | (dsimp only [List.length_cons, List.length_nil]; omega) | (intro hg; rw [hg]; rfl) | (intro hg hh; rw [hg, hh]; rfl) | (intro hg; simp [-List.getD_eq_getElem?_getD, -Int.default_eq_zero] at hg; first | omega | (refine inR64_of ?_ ?_ <;> omega) | (constructor <;> omega)) | (simp [-List.getD_eq_getElem?_getD, -Int.default_eq_zero]; done))
            · omega
            all_goals repeat' (first | exact True.intro | refine leF_cons rfl ?_ ?_ | refine leS_cons rfl ?_ ?_ | (show PLe _ _ _ _; conv => whnf) | (show SLe _ _ _ _; conv => whnf) | (show PLeL _ _ _ _; conv => whnf) | apply And.intro | rfl | exact Nat.le_refl _ | exact fun _ _ => rfl | exact rowEq0 _ _)
            all_goals first | exact q2 | (rw [hsl, hsl2]; rfl) | exact fun kl _ => ⟨rfl, rfl⟩ | omega | skip
          · have hso : ∃ r, lastO l g (a + i) = some r := by
              have : (lastO l g (a + i)).isSome = true := by
                have hk' : (!(lastO l g (a + i)).isSome) = false := hk
                simpa using hk'
              exact Option.isSome_iff_exists.1 this
            obtain ⟨r, hr⟩ := hso
            have q := fl_push eRd (serL l g a i) ((lastO l g (a + i)).getD rd0)
            rw [show (lastO l g (a + i)).getD rd0 = lastR l g (a + i) by unfold lastR; rw [hr]; rfl, ← hsp] at q
            have q2 : RowEq ((serL l g a i).length + 1) (appF (serL l g a i).length (fl eRd (serL l g a i)) (fun j => [eRd ((lastO l g (a + i)).getD rd0)].getD j [])) (fl eRd (serL l g a (i + 1))) := by
              rw [show (lastO l g (a + i)).getD rd0 = lastR l g (a + i) by unfold lastR; rw [hr]; rfl]; exact q
            conv => whnf
            refine ⟨?_, i + 1, hlt, ?_, rfl, rfl, ?_, ?_⟩
            · (try conv => whnf)
              (repeat' (first | exact True.intro | exact fun _ h => h | refine inR64_of ?_ ?_ | apply And.intro | refine maxLen_ge ?_)) <;> (first | omega | decide | (dsimp only; omega) | (dsimp only [List.length_cons, List.length_nil]; omega) | (intro hg; rw [hg]; rfl) | (intro hg hh; rw [hg, hh]; rfl) | (intro hg; simp [-List.getD_eq_getElem?_getD, -Int.default_eq_zero] at hg; first | omega | (refine inR64_of ?_ ?_ <;> omega) | (constructor <;> omega)) | (simp [-List.getD_eq_getElem?_getD, -Int.default_eq_zero]; done))
            · omega
            all_goals repeat' (first | exact True.intro | refine leF_cons rfl ?_ ?_ | refine leS_cons rfl ?_ ?_ | (show PLe _ _ _ _; conv => whnf) | (show SLe _ _ _ _; conv => whnf) | (show PLeL _ _ _ _; conv => whnf) | apply And.intro | rfl | exact Nat.le_refl _ | exact fun _ _ => rfl | exact rowEq0 _ _)
            all_goals first | exact q2 | (rw [hsl, hsl2]; rfl) | exact fun kl _ => ⟨rfl, rfl⟩ | omega | skip
        · replace hc2 := of_decide_eq_false hc2
          have hk : i = n := by
            have h : ¬ a + (i : Int) < a + n := hc2
            omega
          subst hk
          conv => whnf
          refine ⟨?_, [], ?_⟩
          · (try conv => whnf)
            (repeat' (first | exact True.intro | exact fun _ h => h | refine inR64_of ?_ ?_ | apply And.intro | refine maxLen_ge ?_)) <;> (first | omega | decide | (dsimp only; omega) | (dsimp only [List.length_cons, List.length_nil]; omega) | (intro hg; rw [hg]; rfl) | (intro hg hh; rw [hg, hh]; rfl) | (intro hg; simp [-List.getD_eq_getElem?_getD, -Int.default_eq_zero] at hg; first | omega | (refine inR64_of ?_ ?_ <;> omega) | (constructor <;> omega)) | (simp [-List.getD_eq_getElem?_getD, -Int.default_eq_zero]; done))
          conv => whnf
          refine ⟨rfl, ?_, trivial, trivial⟩
          all_goals repeat' (first | exact True.intro | refine leF_cons rfl ?_ ?_ | refine leS_cons rfl ?_ ?_ | (show PLe _ _ _ _; conv => whnf) | (show SLe _ _ _ _; conv => whnf) | (show PLeL _ _ _ _; conv => whnf) | apply And.intro | rfl | exact Nat.le_refl _ | exact fun _ _ => rfl | exact rowEq0 _ _)
end Pv
end Go.Proofs.YtgbknfbcjddnhaaDoor

/- LAW 06, THE WALKS: the readings of a gauge step by step, second form. -/
set_option linter.unusedSimpArgs false
set_option linter.unusedVariables false
namespace Go.Proofs.YtgbknfbcjddnhaaDoor
namespace Pv
def c14L2 : C := (.seq (.reg [⟨(some 50), 800, none, .bi false .lss (.t 49) (.t 48)⟩])
  (.seq (.cond (.t 50) .skip (.exit 2))
  (.seq (.block 3 (.seq (.reg [⟨(some 51), 816, none, .ia 4 (.t 47) (.t 49)⟩,
    ⟨(some 52), 832, none, .ld 4 true (.t 51)⟩,
    ⟨(some 15), 240, none, .al [(.int .i64 0), (.int .i64 0), (.int .i64 0), (.int .i64 0)]⟩,
    ⟨none, 0, none, .st 4 (.t 15) (.t 52)⟩])
  (.seq (.reg [⟨(some 53), 848, none, .fa 0 (.t 15)⟩,
    ⟨(some 54), 864, none, .ld 1 false (.t 53)⟩,
    ⟨(some 55), 880, none, .mv (.t 1)⟩,
    ⟨(some 56), 896, none, .bi false .eql (.t 54) (.t 55)⟩,
    ⟨(some 57), 912, none, .mv (.t 56)⟩,
    ⟨(some 58), 928, (some (57, true)), .fa 1 (.t 15)⟩,
    ⟨(some 59), 944, (some (57, true)), .ld 1 false (.t 58)⟩,
    ⟨(some 60), 960, (some (57, true)), .mv (.t 2)⟩,
    ⟨(some 61), 976, (some (57, true)), .mv (.t 12)⟩,
    ⟨(some 62), 992, (some (57, true)), .bi false .add (.t 60) (.t 61)⟩,
    ⟨(some 63), 1008, (some (57, true)), .bi false .eql (.t 59) (.t 62)⟩,
    ⟨(some 64), 1024, none, .pick (.t 57) (.t 63) (.c (.bool false))⟩])
  (.cond (.t 64) (.reg [⟨(some 65), 1040, none, .ld 4 true (.t 15)⟩,
    ⟨none, 0, none, .st 4 (.t 13) (.t 65)⟩]) .skip))))
  (.reg [⟨(some 66), 1056, none, .bi false .add (.t 49) (.c (.int .i64 1))⟩,
    ⟨(some 49), 784, none, .mv (.t 66)⟩]))))
def c14L1 : C := (.seq (.reg [⟨(some 40), 640, none, .bi false .lss (.t 39) (.t 38)⟩])
  (.seq (.cond (.t 40) .skip (.exit 0))
  (.seq (.block 1 (.seq (.reg [⟨(some 41), 656, none, .mv (.t 39)⟩,
    ⟨(some 12), 192, none, .mv (.t 41)⟩])
  (.seq (.reg [⟨(some 42), 672, none, .mv (.t 1)⟩,
    ⟨(some 43), 688, none, .mv (.t 2)⟩,
    ⟨(some 44), 704, none, .mv (.t 12)⟩,
    ⟨(some 45), 720, none, .bi false .add (.t 43) (.t 44)⟩,
    ⟨(some 46), 736, none, .bd [(.int .i64 0), (.int .i64 0), (.int .i64 0), (.int .i64 0)] [(0, 1, (.t 42)), (1, 1, (.t 45)), (3, 1, (.c (.int .i64 2)))]⟩,
    ⟨(some 13), 208, none, .al [(.int .i64 0), (.int .i64 0), (.int .i64 0), (.int .i64 0)]⟩,
    ⟨none, 0, none, .st 4 (.t 13) (.t 46)⟩])
  (.seq (.seq (.reg [⟨(some 47), 752, none, .mv (.t 0)⟩,
    ⟨(some 48), 768, none, .len (.t 47)⟩,
    ⟨(some 49), 784, none, .mv (.c (.int .i64 0))⟩])
  (.block 2 (.loop c14L2)))
  (.reg [⟨(some 67), 1072, none, .mv (.t 11)⟩,
    ⟨(some 68), 1088, none, .ld 4 true (.t 13)⟩,
    ⟨(some 69), 1104, none, .bs 23 4 [(.t 68)]⟩,
    ⟨(some 70), 1120, none, .app 23 4 32 (.t 67) (.t 69)⟩,
    ⟨(some 11), 176, none, .mv (.t 70)⟩])))))
  (.reg [⟨(some 71), 1136, none, .bi false .add (.t 39) (.c (.int .i64 1))⟩,
    ⟨(some 39), 624, none, .mv (.t 71)⟩]))))
def c14 : C := (.seq (.reg [⟨(some 8), 128, none, .mv (.c (.nil 4))⟩,
    ⟨(some 9), 144, none, .mv (.c (.int .i64 0))⟩])
  (.seq (.seq (.reg [⟨(some 16), 256, none, .mv (.t 1)⟩,
    ⟨(some 17), 272, none, .call (.c (.fn (.func 32) [] [])) [(.t 16), (.c (.int .i64 255))]⟩,
    ⟨(some 18), 288, none, .un false .not (.t 17)⟩,
    ⟨(some 19), 304, none, .mv (.t 18)⟩,
    ⟨(some 20), 320, (some (19, false)), .mv (.t 3)⟩,
    ⟨(some 21), 336, (some (19, false)), .call (.c (.fn (.func 32) [] [])) [(.t 20), (.c (.int .i64 4096))]⟩,
    ⟨(some 22), 352, (some (19, false)), .un false .not (.t 21)⟩,
    ⟨(some 23), 368, none, .pick (.t 19) (.c (.bool true)) (.t 22)⟩])
  (.cond (.t 23) (.seq (.reg [⟨(some 8), 128, none, .mv (.c (.nil 4))⟩,
    ⟨(some 9), 144, none, .mv (.c (.int .i64 1))⟩])
  .ret) .skip))
  (.seq (.seq (.reg [⟨(some 24), 384, none, .mv (.t 2)⟩,
    ⟨(some 25), 400, none, .call (.c (.fn (.func 32) [] [])) [(.t 24), (.c (.int .i64 16777216))]⟩,
    ⟨(some 26), 416, none, .un false .not (.t 25)⟩,
    ⟨(some 27), 432, none, .mv (.t 26)⟩,
    ⟨(some 28), 448, (some (27, false)), .mv (.t 2)⟩,
    ⟨(some 29), 464, (some (27, false)), .mv (.t 3)⟩,
    ⟨(some 30), 480, (some (27, false)), .bi false .add (.t 28) (.t 29)⟩,
    ⟨(some 31), 496, (some (27, false)), .bi false .gtr (.t 30) (.c (.int .i64 16777216))⟩,
    ⟨(some 32), 512, none, .pick (.t 27) (.c (.bool true)) (.t 31)⟩])
  (.cond (.t 32) (.seq (.reg [⟨(some 8), 128, none, .mv (.c (.nil 4))⟩,
    ⟨(some 9), 144, none, .mv (.c (.int .i64 6))⟩])
  .ret) .skip))
  (.seq (.seq (.reg [⟨(some 33), 528, none, .mv (.t 0)⟩,
    ⟨(some 34), 544, none, .call (.c (.fn (.func 33) [] [])) [(.t 33)]⟩,
    ⟨(some 10), 160, none, .mv (.t 34)⟩])
  (.seq (.reg [⟨(some 35), 560, none, .mv (.t 10)⟩,
    ⟨(some 36), 576, none, .bi false .neq (.t 35) (.c (.int .i64 0))⟩])
  (.cond (.t 36) (.seq (.reg [⟨(some 37), 592, none, .mv (.t 10)⟩,
    ⟨(some 8), 128, none, .mv (.c (.nil 4))⟩,
    ⟨(some 9), 144, none, .mv (.t 37)⟩])
  .ret) .skip)))
  (.seq (.reg [⟨(some 11), 176, none, .mv (.c (.nil 4))⟩])
  (.seq (.seq (.reg [⟨(some 38), 608, none, .mv (.t 3)⟩,
    ⟨(some 39), 624, none, .mv (.c (.int .i64 0))⟩])
  (.block 0 (.loop c14L1)))
  (.seq (.reg [⟨(some 72), 1152, none, .mv (.t 11)⟩,
    ⟨(some 8), 128, none, .mv (.t 72)⟩,
    ⟨(some 9), 144, none, .mv (.c (.int .i64 0))⟩])
  .ret)))))))
theorem fits14 : fits Tryd.prog false Tryd.f14 4 73 [(8, none), (9, none)] = some c14.er := by kernel_rfl

theorem lastR_push (l : List Rd) (r : Rd) (g t : Int) : lastR (l ++ [r]) g t = if r.g = g ∧ r.t = t then r else lastR l g t := by
  unfold lastR
  rw [lastO_push]
  unfold stepO
  split <;> rfl

set_option maxRecDepth 100000 in
set_option maxHeartbeats 16000000 in
theorem call14 (τ : Nat) (l : List Rd) (g a c : Int) (hl : l.length ≤ 4611686018427387904) (ha : -9223372036854775808 ≤ a ∧ a ≤ 9223372036854775807) :
    PureCall Tryd.prog 14 [.sl τ 4 l.length (fl eRd l), .int .i64 g, .int .i64 a, .int .i64 c] [] ⟨.tup [.sl 0 4 (seriesF l g a c).1.length (fl eRd (seriesF l g a c).1), .int .i64 (seriesF l g a c).2], [], []⟩ := by
  refine pure_call mix Tryd.func14 fits14 rfl ?_
  conv => whnf
  refine ⟨_, fun _ => call32 g 255, ?_⟩
  conv => whnf
  refine ⟨_, fun _ => call32 c 4096, ?_⟩
  conv => whnf
  refine ⟨?_, fun hc => ?_, fun hc => ?_⟩
  · (try conv => whnf)
    (repeat' (first | exact True.intro | exact fun _ h => h | refine inR64_of ?_ ?_ | apply And.intro | refine maxLen_ge ?_)) <;> (first | omega | decide | (dsimp only; omega) | (dsimp only [List.length_cons, List.length_nil]; omega) | (intro hg; rw [hg]; rfl) | (intro hg hh; rw [hg, hh]; rfl) | (intro hg; simp [-List.getD_eq_getElem?_getD, -Int.default_eq_zero] at hg; first | omega | (refine inR64_of ?_ ?_ <;> omega) | (constructor <;> omega)) | (simp [-List.getD_eq_getElem?_getD, -Int.default_eq_zero]; done))
  · have h : ¬ (0 ≤ g ∧ g ≤ 255) ∨ ¬ (0 ≤ c ∧ c ≤ 4096) := by
      by_cases h1 : 0 ≤ g ∧ g ≤ 255
      · by_cases h2 : 0 ≤ c ∧ c ≤ 4096
        · rw [decide_eq_true h1, decide_eq_true h2] at hc; cases hc
        · exact .inr h2
      · exact .inl h1
    rw [show seriesF l g a c = ([], 1) by unfold seriesF; rw [if_pos h]]
    conv => whnf
    refine ⟨?_, [], ?_⟩
    · (try conv => whnf)
      (repeat' (first | exact True.intro | exact fun _ h => h | refine inR64_of ?_ ?_ | apply And.intro | refine maxLen_ge ?_)) <;> (first | omega | decide | (dsimp only; omega) | (dsimp only [List.length_cons, List.length_nil]; omega) | (intro hg; rw [hg]; rfl) | (intro hg hh; rw [hg, hh]; rfl) | (intro hg; simp [-List.getD_eq_getElem?_getD, -Int.default_eq_zero] at hg; first | omega | (refine inR64_of ?_ ?_ <;> omega) | (constructor <;> omega)) | (simp [-List.getD_eq_getElem?_getD, -Int.default_eq_zero]; done))
    conv => whnf
    refine ⟨rfl, ?_, trivial, trivial⟩
    all_goals repeat' (first | exact True.intro | refine leF_cons rfl ?_ ?_ | refine leS_cons rfl ?_ ?_ | (show PLe _ _ _ _; conv => whnf) | (show SLe _ _ _ _; conv => whnf) | (show PLeL _ _ _ _; conv => whnf) | apply And.intro | rfl | exact Nat.le_refl _ | exact fun _ _ => rfl | exact rowEq0 _ _)
  have h : (0 ≤ g ∧ g ≤ 255) ∧ 0 ≤ c ∧ c ≤ 4096 := by
    by_cases h1 : 0 ≤ g ∧ g ≤ 255
    · by_cases h2 : 0 ≤ c ∧ c ≤ 4096
      · exact ⟨h1, h2⟩
      · rw [decide_eq_true h1, decide_eq_false h2] at hc; cases hc
    · rw [decide_eq_false h1] at hc; cases hc
  conv => whnf
  refine ⟨_, fun _ => call32 a 16777216, ?_⟩
  conv => whnf
  refine ⟨?_, fun hc => ?_, fun hc => ?_⟩
  · (try conv => whnf)
    by_cases h1 : 0 ≤ a ∧ a ≤ 16777216
    · rw [decide_eq_true h1]
      (try conv => whnf)
      (repeat' (first | exact True.intro | exact fun _ h => h | refine inR64_of ?_ ?_ | apply And.intro | refine maxLen_ge ?_)) <;> (first | omega | decide | (dsimp only; omega) | (dsimp only [List.length_cons, List.length_nil]; omega) | (intro hg; rw [hg]; rfl) | (intro hg hh; rw [hg, hh]; rfl) | (intro hg; simp [-List.getD_eq_getElem?_getD, -Int.default_eq_zero] at hg; first | omega | (refine inR64_of ?_ ?_ <;> omega) | (constructor <;> omega)) | (simp [-List.getD_eq_getElem?_getD, -Int.default_eq_zero]; done))
    · rw [decide_eq_false h1]
      (repeat' (first | exact True.intro | exact fun _ h => h | apply And.intro)) <;> simp
  · have h2 : ¬ (0 ≤ a ∧ a ≤ 16777216) ∨ 16777216 < a + c := by
      by_cases h1 : 0 ≤ a ∧ a ≤ 16777216
      · rw [decide_eq_true h1] at hc
        exact .inr (of_decide_eq_true hc)
      · exact .inl h1
    rw [show seriesF l g a c = ([], 6) by unfold seriesF; rw [if_neg (by omega), if_pos h2]]
    conv => whnf
    refine ⟨?_, [], ?_⟩
    · (try conv => whnf)
      (repeat' (first | exact True.intro | exact fun _ h => h | refine inR64_of ?_ ?_ | apply And.intro | refine maxLen_ge ?_)) <;> (first | omega | decide | (dsimp only; omega) | (dsimp only [List.length_cons, List.length_nil]; omega) | (intro hg; rw [hg]; rfl) | (intro hg hh; rw [hg, hh]; rfl) | (intro hg; simp [-List.getD_eq_getElem?_getD, -Int.default_eq_zero] at hg; first | omega | (refine inR64_of ?_ ?_ <;> omega) | (constructor <;> omega)) | (simp [-List.getD_eq_getElem?_getD, -Int.default_eq_zero]; done))
    conv => whnf
    refine ⟨rfl, ?_, trivial, trivial⟩
    all_goals repeat' (first | exact True.intro | refine leF_cons rfl ?_ ?_ | refine leS_cons rfl ?_ ?_ | (show PLe _ _ _ _; conv => whnf) | (show SLe _ _ _ _; conv => whnf) | (show PLeL _ _ _ _; conv => whnf) | apply And.intro | rfl | exact Nat.le_refl _ | exact fun _ _ => rfl | exact rowEq0 _ _)
  have h2 : (0 ≤ a ∧ a ≤ 16777216) ∧ a + c ≤ 16777216 := by
    by_cases h1 : 0 ≤ a ∧ a ≤ 16777216
    · rw [decide_eq_true h1] at hc
      have := of_decide_eq_false hc
      exact ⟨h1, by omega⟩
    · rw [decide_eq_false h1] at hc; cases hc
  conv => whnf
  refine ⟨_, fun _ => call33 _ l hl, ?_⟩
  conv => whnf
  refine ⟨?_, fun hc => ?_, fun hc => ?_⟩
  · (try conv => whnf)
    (repeat' (first | exact True.intro | exact fun _ h => h | refine inR64_of ?_ ?_ | apply And.intro | refine maxLen_ge ?_)) <;> (first | omega | decide | (dsimp only; omega) | (dsimp only [List.length_cons, List.length_nil]; omega) | (intro hg; rw [hg]; rfl) | (intro hg hh; rw [hg, hh]; rfl) | (intro hg; simp [-List.getD_eq_getElem?_getD, -Int.default_eq_zero] at hg; first | omega | (refine inR64_of ?_ ?_ <;> omega) | (constructor <;> omega)) | (simp [-List.getD_eq_getElem?_getD, -Int.default_eq_zero]; done))
  · have h3 : allR l ≠ 0 := by simpa using hc
    rw [show seriesF l g a c = ([], allR l) by unfold seriesF; rw [if_neg (by omega), if_neg (by omega), if_pos h3]]
    conv => whnf
    refine ⟨?_, [], ?_⟩
    · (try conv => whnf)
      (repeat' (first | exact True.intro | exact fun _ h => h | refine inR64_of ?_ ?_ | apply And.intro | refine maxLen_ge ?_)) <;> (first | omega | decide | (dsimp only; omega) | (dsimp only [List.length_cons, List.length_nil]; omega) | (intro hg; rw [hg]; rfl) | (intro hg hh; rw [hg, hh]; rfl) | (intro hg; simp [-List.getD_eq_getElem?_getD, -Int.default_eq_zero] at hg; first | omega | (refine inR64_of ?_ ?_ <;> omega) | (constructor <;> omega)) | (simp [-List.getD_eq_getElem?_getD, -Int.default_eq_zero]; done))
    conv => whnf
    refine ⟨rfl, ?_, trivial, trivial⟩
    all_goals repeat' (first | exact True.intro | refine leF_cons rfl ?_ ?_ | refine leS_cons rfl ?_ ?_ | (show PLe _ _ _ _; conv => whnf) | (show SLe _ _ _ _; conv => whnf) | (show PLeL _ _ _ _; conv => whnf) | apply And.intro | rfl | exact Nat.le_refl _ | exact fun _ _ => rfl | exact rowEq0 _ _)
  have h3 : ¬ allR l ≠ 0 := by simpa using hc
  rw [show seriesF l g a c = (serL l g a c.toNat, 0) by unfold seriesF; rw [if_neg (by omega), if_neg (by omega), if_neg h3]]
  obtain ⟨n, hn⟩ : ∃ n : Nat, (n : Int) = c := ⟨c.toNat, by omega⟩
  rw [← hn] at h h2 ⊢
  rw [Int.toNat_natCast]
  conv => whnf
  refine ⟨?_, ?_⟩
  · (try conv => whnf)
    (repeat' (first | exact True.intro | exact fun _ h => h | refine inR64_of ?_ ?_ | apply And.intro | refine maxLen_ge ?_)) <;> (first | omega | decide | (dsimp only; omega) | (dsimp only [List.length_cons, List.length_nil]; omega) | (intro hg; rw [hg]; rfl) | (intro hg hh; rw [hg, hh]; rfl) | (intro hg; simp [-List.getD_eq_getElem?_getD, -Int.default_eq_zero] at hg; first | omega | (refine inR64_of ?_ ?_ <;> omega) | (constructor <;> omega)) | (simp [-List.getD_eq_getElem?_getD, -Int.default_eq_zero]; done))
  refine LSem.adopt 11 1000000 23 4 4 rfl rfl ?_
  refine LSem.loop (n := 73) mix (α := Nat) (fun i => i ≤ n)
    (fun i => [(0, .sl τ 4 l.length (fl eRd l)), (1, .int .i64 g), (2, .int .i64 a), (11, .os 1000000), (38, .int .i64 n), (39, .int .i64 i)])
    (fun i => [(1000000, .row 0 23 4 (serL l g a i).length (fl eRd (serL l g a i)))]) (fun i => n - i) 0 ?_ ?_ ?_
  · exact Nat.zero_le _
  · refine ⟨rfl, rfl, ?_, ?_⟩
    all_goals repeat' (first | exact True.intro | refine leF_cons rfl ?_ ?_ | refine leS_cons rfl ?_ ?_ | (show PLe _ _ _ _; conv => whnf) | (show SLe _ _ _ _; conv => whnf) | (show PLeL _ _ _ _; conv => whnf) | apply And.intro | rfl | exact Nat.le_refl _ | exact fun _ _ => rfl | exact rowEq0 _ _)
    all_goals skip
  · intro i hi
    have hsl := serL_len l g a i
    have hsl2 := serL_len l g a (i + 1)
    have hsp := serL_push l g a i
    conv => whnf
    refine ⟨trivial, fun hc2 => ?_, fun hc2 => ?_⟩
    · replace hc2 := of_decide_eq_true hc2
      have hlt : i < n := by
        have h : (i : Int) < n := hc2
        omega
      conv => whnf
      refine ⟨?_, ?_⟩
      · (try conv => whnf)
        (repeat' (first | exact True.intro | exact fun _ h => h | refine inR64_of ?_ ?_ | apply And.intro | refine maxLen_ge ?_)) <;> (first | omega | decide | (dsimp only; omega) | (dsimp only [List.length_cons, List.length_nil]; omega) | (intro hg; rw [hg]; rfl) | (intro hg hh; rw [hg, hh]; rfl) | (intro hg; simp [-List.getD_eq_getElem?_getD, -Int.default_eq_zero] at hg; first | omega | (refine inR64_of ?_ ?_ <;> omega) | (constructor <;> omega)) | (simp [-List.getD_eq_getElem?_getD, -Int.default_eq_zero]; done))
      refine LSem.loop (n := 73) mix (α := Nat) (fun j => j ≤ l.length)
        (fun j => [(0, .sl τ 4 l.length (fl eRd l)), (1, .int .i64 g), (2, .int .i64 a), (11, .os 1000000), (38, .int .i64 n), (39, .int .i64 i), (12, .int .i64 i), (13, .pt 208 0 0), (47, .sl τ 4 l.length (fl eRd l)), (48, .int .i64 l.length), (49, .int .i64 j)])
        (fun j => [(1000000, .row 0 23 4 (serL l g a i).length (fl eRd (serL l g a i))), (208, .box (eRd (lastR (l.take j) g (a + i))))]) (fun j => l.length - j) 0 ?_ ?_ ?_
      · exact Nat.zero_le _
      · refine ⟨rfl, rfl, ?_, ?_⟩
        all_goals repeat' (first | exact True.intro | refine leF_cons rfl ?_ ?_ | refine leS_cons rfl ?_ ?_ | (show PLe _ _ _ _; conv => whnf) | (show SLe _ _ _ _; conv => whnf) | (show PLeL _ _ _ _; conv => whnf) | apply And.intro | rfl | exact Nat.le_refl _ | exact fun _ _ => rfl | exact rowEq0 _ _)
        all_goals skip
      · intro j hj
        have hjj : ((j : Int)).toNat = j := by omega
        conv => whnf
        refine ⟨trivial, fun hc3 => ?_, fun hc3 => ?_⟩
        · replace hc3 := of_decide_eq_true hc3
          have hltj : j < l.length := by
            have h : (j : Int) < l.length := hc3
            omega
          have htp := take_pushR hltj
          conv => whnf
          rw [hjj]
          generalize l.getD j default = r at htp ⊢
          have hlp := lastR_push (l.take j) r g (a + i)
          rw [← htp] at hlp
          refine ⟨?_, fun hg => ?_, fun hg => ?_⟩
          · (try conv => whnf)
            (repeat' (first | exact True.intro | exact fun _ h => h | refine inR64_of ?_ ?_ | apply And.intro | refine maxLen_ge ?_)) <;> (first | omega | decide | (dsimp only; omega) | (dsimp only [List.length_cons, List.length_nil]; omega) | (intro hg; rw [hg]; rfl) | (intro hg hh; rw [hg, hh]; rfl) | (intro hg; simp [-List.getD_eq_getElem?_getD, -Int.default_eq_zero] at hg; first | omega | (refine inR64_of ?_ ?_ <;> omega) | (constructor <;> omega)) | (simp [-List.getD_eq_getElem?_getD, -Int.default_eq_zero]; done))
          · have hg' : r.g = g ∧ r.t = a + i := by
              by_cases e : r.g = g
              · rw [beq_iff_eq.2 e] at hg
                exact ⟨e, by simpa using hg⟩
              · rw [beq_eq_false_iff_ne.2 e] at hg; cases hg
            rw [if_pos hg'] at hlp
            conv => whnf
            refine ⟨?_, j + 1, hltj, ?_, rfl, rfl, ?_, ?_⟩
            · (try conv => whnf)
              (repeat' (first | exact True.intro | exact fun _ h => h | refine inR64_of ?_ ?_ | apply And.intro | refine maxLen_ge ?_)) <;> (first | omega | decide | (dsimp only; omega) | (dsimp only [List.length_cons, List.length_nil]; omega) | (intro hg; rw [hg]; rfl) | (intro hg hh; rw [hg, hh]; rfl) | (intro hg; simp [-List.getD_eq_getElem?_getD, -Int.default_eq_zero] at hg; first | omega | (refine inR64_of ?_ ?_ <;> omega) | (constructor <;> omega)) | (simp [-List.getD_eq_getElem?_getD, -Int.default_eq_zero]; done))
            · omega
            all_goals repeat' (first | exact True.intro | refine leF_cons rfl ?_ ?_ | refine leS_cons rfl ?_ ?_ | (show PLe _ _ _ _; conv => whnf) | (show SLe _ _ _ _; conv => whnf) | (show PLeL _ _ _ _; conv => whnf) | apply And.intro | rfl | exact Nat.le_refl _ | exact fun _ _ => rfl | exact rowEq0 _ _)
            all_goals first | (rw [hlp]; done) | omega | skip
          · have hg' : ¬ (r.g = g ∧ r.t = a + i) := by
              rintro ⟨e1, e2⟩
              rw [beq_iff_eq.2 e1, beq_iff_eq.2 e2] at hg; cases hg
            rw [if_neg hg'] at hlp
            conv => whnf
            refine ⟨?_, j + 1, hltj, ?_, rfl, rfl, ?_, ?_⟩
            · (try conv => whnf)
              (repeat' (first | exact True.intro | exact fun _ h => h | refine inR64_of ?_ ?_ | apply And.intro | refine maxLen_ge ?_)) <;> (first | omega | decide | (dsimp only; omega) | (dsimp only [List.length_cons, List.length_nil]; omega) | (intro hg; rw [hg]; rfl) | (intro hg hh; rw [hg, hh]; rfl) | (intro hg; simp [-List.getD_eq_getElem?_getD, -Int.default_eq_zero] at hg; first | omega | (refine inR64_of ?_ ?_ <;> omega) | (constructor <;> omega)) | (simp [-List.getD_eq_getElem?_getD, -Int.default_eq_zero]; done))
            · omega
            all_goals repeat' (first | exact True.intro | refine leF_cons rfl ?_ ?_ | refine leS_cons rfl ?_ ?_ | (show PLe _ _ _ _; conv => whnf) | (show SLe _ _ _ _; conv => whnf) | (show PLeL _ _ _ _; conv => whnf) | apply And.intro | rfl | exact Nat.le_refl _ | exact fun _ _ => rfl | exact rowEq0 _ _)
            all_goals first | (rw [hlp]; done) | omega | skip
        · replace hc3 := of_decide_eq_false hc3
          have hk : j = l.length := by
            have h : ¬ (j : Int) < l.length := hc3
            omega
          subst hk
          rw [List.take_length]
          have q := fl_push eRd (serL l g a i) (lastR l g (a + i))
          rw [← hsp] at q
          conv => whnf
          refine ⟨?_, i + 1, hlt, ?_, rfl, rfl, ?_, ?_⟩
          · (try conv => whnf)
            (repeat' (first | exact True.intro | exact fun _ h => h | refine inR64_of ?_ ?_ | apply And.intro | refine maxLen_ge ?_)) <;> (first | omega | decide | (dsimp only; omega) | (dsimp only [List.length_cons, List.length_nil]; omega) | (intro hg; rw [hg]; rfl) | (intro hg hh; rw [hg, hh]; rfl) | (intro hg; simp [-List.getD_eq_getElem?_getD, -Int.default_eq_zero] at hg; first | omega | (refine inR64_of ?_ ?_ <;> omega) | (constructor <;> omega)) | (simp [-List.getD_eq_getElem?_getD, -Int.default_eq_zero]; done))
          · omega
          all_goals repeat' (first | exact True.intro | refine leF_cons rfl ?_ ?_ | refine leS_cons rfl ?_ ?_ | (show PLe _ _ _ _; conv => whnf) | (show SLe _ _ _ _; conv => whnf) | (show PLeL _ _ _ _; conv => whnf) | apply And.intro | rfl | exact Nat.le_refl _ | exact fun _ _ => rfl | exact rowEq0 _ _)
          all_goals first | exact q | (rw [hsl, hsl2]; rfl) | omega | skip
    · replace hc2 := of_decide_eq_false hc2
      have hk : i = n := by
        have h : ¬ (i : Int) < n := hc2
        omega
      subst hk
      conv => whnf
      refine ⟨?_, [], ?_⟩
      · (try conv => whnf)
        (repeat' (first | exact True.intro | exact fun _ h => h | refine inR64_of ?_ ?_ | apply And.intro | refine maxLen_ge ?_)) <;> (first | omega | decide | (dsimp only; omega) | (dsimp only [List.length_cons, List.length_nil]; omega) | (intro hg; rw [hg]; rfl) | (intro hg hh; rw [hg, hh]; rfl) | (intro hg; simp [-List.getD_eq_getElem?_getD, -Int.default_eq_zero] at hg; first | omega | (refine inR64_of ?_ ?_ <;> omega) | (constructor <;> omega)) | (simp [-List.getD_eq_getElem?_getD, -Int.default_eq_zero]; done))
      conv => whnf
      refine ⟨rfl, ?_, trivial, trivial⟩
      all_goals repeat' (first | exact True.intro | refine leF_cons rfl ?_ ?_ | refine leS_cons rfl ?_ ?_ | (show PLe _ _ _ _; conv => whnf) | (show SLe _ _ _ _; conv => whnf) | (show PLeL _ _ _ _; conv => whnf) | apply And.intro | rfl | exact Nat.le_refl _ | exact fun _ _ => rfl | exact rowEq0 _ _)
end Pv
end Go.Proofs.YtgbknfbcjddnhaaDoor

/- LAW 06, THE WALKS: the example of the chapter. -/
set_option linter.unusedSimpArgs false
set_option linter.unusedVariables false
namespace Go.Proofs.YtgbknfbcjddnhaaDoor
namespace Pv
def c9 : C := (.seq (.reg [⟨(some 0), 0, none, .mv (.c (.bool false))⟩])
  (.seq (.reg [⟨(some 5), 80, none, .call (.c (.fn (.func 22) [] [])) [(.c (.str [51, 32, 57, 54, 32, 49, 50, 53, 48, 32, 111, 107]))]⟩,
    ⟨(some 4), 64, none, .mv (.t 5)⟩,
    ⟨(some 6), 96, none, .ex (.t 4) 0⟩,
    ⟨(some 7), 112, none, .ex (.t 4) 1⟩,
    ⟨(some 8), 128, none, .ex (.t 4) 2⟩,
    ⟨(some 1), 16, none, .mv (.t 6)⟩,
    ⟨(some 2), 32, none, .mv (.t 7)⟩,
    ⟨(some 3), 48, none, .mv (.t 8)⟩])
  (.seq (.reg [⟨(some 9), 144, none, .mv (.t 3)⟩,
    ⟨(some 10), 160, none, .bi false .eql (.t 9) (.c (.int .i64 0))⟩,
    ⟨(some 11), 176, none, .mv (.t 10)⟩,
    ⟨(some 12), 192, (some (11, true)), .mv (.t 2)⟩,
    ⟨(some 13), 208, (some (11, true)), .bi false .eql (.t 12) (.c (.int .i64 0))⟩,
    ⟨(some 14), 224, none, .pick (.t 11) (.t 13) (.c (.bool false))⟩,
    ⟨(some 15), 240, none, .mv (.t 14)⟩,
    ⟨(some 16), 256, (some (15, true)), .mv (.t 1)⟩,
    ⟨(some 17), 272, (some (15, true)), .len (.t 16)⟩,
    ⟨(some 18), 288, (some (15, true)), .bi false .eql (.t 17) (.c (.int .i64 1))⟩,
    ⟨(some 19), 304, none, .pick (.t 15) (.t 18) (.c (.bool false))⟩,
    ⟨(some 20), 320, none, .mv (.t 19)⟩,
    ⟨(some 21), 336, (some (20, true)), .mv (.t 1)⟩,
    ⟨(some 22), 352, (some (20, true)), .ia 4 (.t 21) (.c (.int .i64 0))⟩,
    ⟨(some 23), 368, (some (20, true)), .ld 4 true (.t 22)⟩,
    ⟨(some 24), 384, (some (20, true)), .bd [(.int .i64 0), (.int .i64 0), (.int .i64 0), (.int .i64 0)] [(0, 1, (.c (.int .i64 3))), (1, 1, (.c (.int .i64 96))), (2, 1, (.c (.int .i64 1250)))]⟩,
    ⟨(some 25), 400, (some (20, true)), .eqa false [0, 0, 0, 0] (.t 23) (.t 24)⟩,
    ⟨(some 26), 416, none, .pick (.t 20) (.t 25) (.c (.bool false))⟩,
    ⟨(some 27), 432, none, .mv (.t 26)⟩,
    ⟨(some 28), 448, (some (27, true)), .bs 5 1 [(.c (.int .u8 0))]⟩,
    ⟨(some 29), 464, (some (27, true)), .call (.c (.fn (.func 28) [] [])) [(.t 28)]⟩,
    ⟨(some 30), 480, (some (27, true)), .bi false .eql (.t 29) (.c (.int .i64 1))⟩,
    ⟨(some 31), 496, none, .pick (.t 27) (.t 30) (.c (.bool false))⟩,
    ⟨(some 0), 0, none, .mv (.t 31)⟩])
  .ret)))
theorem fits9 : fits Tryd.prog false Tryd.f9 0 32 [(0, none)] = some c9.er := by kernel_rfl

def exT : List UInt8 := [51, 32, 57, 54, 32, 49, 50, 53, 48, 32, 111, 107]
set_option maxRecDepth 100000 in
theorem ex_parse : parseF exT = ([⟨3, 96, 1250, 0⟩], 0, 0) := by decide
theorem ex_sum : sumF [0] = 1 := by decide

set_option maxRecDepth 100000 in
theorem call9 : PureCall Tryd.prog 9 [] [] ⟨.bool true, [], []⟩ := by
  refine pure_call mix Tryd.func9 fits9 rfl ?_
  conv => whnf
  refine ⟨_, fun _ => call22 exT (by decide), ?_⟩
  rw [ex_parse]
  conv => whnf
  refine ⟨_, fun _ => PureCall.arg_le (call28 2 [0] (by decide)) rfl ⟨⟨Nat.le_refl _, rfl, rfl, fun i hi => by match i, hi with | 0, _ => rfl⟩, trivial⟩, ?_⟩
  rw [ex_sum]
  conv => whnf
  refine ⟨?_, [], ?_⟩
  · (try conv => whnf)
    (repeat' (first | exact True.intro | exact fun _ h => h | refine inR64_of ?_ ?_ | apply And.intro | refine maxLen_ge ?_)) <;> (first | omega | decide | (dsimp only; omega) | (dsimp only [List.length_cons, List.length_nil]; omega) | (intro hg; rw [hg]; rfl) | (intro hg hh; rw [hg, hh]; rfl) | (intro hg; simp [-List.getD_eq_getElem?_getD, -Int.default_eq_zero] at hg; first | omega | (refine inR64_of ?_ ?_ <;> omega) | (constructor <;> omega)) | (simp [-List.getD_eq_getElem?_getD, -Int.default_eq_zero]; done))
  conv => whnf
  refine ⟨rfl, ?_, trivial, trivial⟩
  all_goals repeat' (first | exact True.intro | refine leF_cons rfl ?_ ?_ | refine leS_cons rfl ?_ ?_ | (show PLe _ _ _ _; conv => whnf) | (show SLe _ _ _ _; conv => whnf) | (show PLeL _ _ _ _; conv => whnf) | apply And.intro | rfl | exact Nat.le_refl _ | exact fun _ _ => rfl | exact rowEq0 _ _)
end Pv
end Go.Proofs.YtgbknfbcjddnhaaDoor

/- LAW 06: readings are read back from their bytes. No program in sight. -/
set_option linter.unusedSimpArgs false
set_option linter.unusedVariables false
namespace Go.Proofs.YtgbknfbcjddnhaaDoor
namespace Pv

theorem w8_nat (n : Int) : ((w8 n).toNat : Int) = n % 256 := by
  have h2 : (w8 n).toNat = (n % 256).toNat % 256 := UInt8.toNat_ofNat'
  rw [h2]; omega
theorem sum_split {s : Int} (h : 0 ≤ s ∧ s ≤ 65520) : ((w8 (s / 2 ^ Int.toNat 8)).toNat : Int) * 256 + ((w8 s).toNat : Int) = s := by
  rw [w8_nat, w8_nat, pw8]; omega
theorem w4_word {n : Int} (h : 0 ≤ n ∧ n < 4294967296) : ((w8 (n / 2 ^ Int.toNat 24)).toNat : Int) * 16777216 + ((w8 (n / 2 ^ Int.toNat 16)).toNat : Int) * 65536 + ((w8 (n / 2 ^ Int.toNat 8)).toNat : Int) * 256 + ((w8 n).toNat : Int) = n := by
  rw [w8_nat, w8_nat, w8_nat, w8_nat, pw24, pw16, pw8]; omega
theorem recV_C {r : Rd} (h : RdV r) : recV (recC r) = r := by
  obtain ⟨g, t, v, f⟩ := r
  obtain ⟨h1, h2, h3, h4⟩ := h
  dsimp only at h1 h2 h3 h4
  have e0 : gB (recC ⟨g, t, v, f⟩) 0 = g := by
    show ((w8 g).toNat : Int) = g
    rw [w8_nat]; omega
  have e9 : gB (recC ⟨g, t, v, f⟩) 9 = f := by
    show ((w8 f).toNat : Int) = f
    rw [w8_nat]; omega
  have e1 : wordF (recC ⟨g, t, v, f⟩) 1 = t := w4_word (n := t) (by omega)
  have e5 : wordF (recC ⟨g, t, v, f⟩) 5 = v := w4_word (n := v) (by omega)
  unfold recV
  rw [e0, e1, e5, e9]
theorem recF_C {r : Rd} (h : RdV r) : recF (recC r) = (r, 0) := by
  have hs : sumF ((recC r).take 10) = gB (recC r) 10 * 256 + gB (recC r) 11 := by
    have e : (recC r).take 10 = bodyB r := rfl
    rw [e]
    exact (sum_split (sumF_rng (bodyB r))).symm
  unfold recF
  rw [if_neg (by rw [recC_len]; decide), if_neg (fun hh => hh hs), recV_C h, V_checkR h]
theorem encL_cons (r : Rd) (l : List Rd) : encL (r :: l) = recC r ++ encL l := rfl
theorem encL_append (a b : List Rd) : encL (a ++ b) = encL a ++ encL b := by simp [encL]
/-- Records ahead of whatever: they are read, and what is behind them. -/
theorem decG_enc : ∀ (l : List Rd) (m : Nat) (a : Int) (out : List Rd) (X : List UInt8), (∀ r ∈ l, RdV r) → decG (m + l.length) a out (encL l ++ X) = decG m (a + 12 * l.length) (out ++ l) X
  | [], m, a, out, X, _ => by simp [encL]
  | r :: l, m, a, out, X, h => by
    have hr := h r (List.mem_cons_self ..)
    have ht : (encL (r :: l) ++ X).take 12 = recC r := by
      rw [encL_cons, List.append_assoc]
      exact List.take_left' (recC_len r)
    have hd : (encL (r :: l) ++ X).drop 12 = encL l ++ X := by
      rw [encL_cons, List.append_assoc]
      exact List.drop_left' (recC_len r)
    have hl : (encL (r :: l) ++ X).length ≠ 0 := by
      rw [encL_cons, List.append_assoc, List.length_append, recC_len]; omega
    have e : m + (r :: l).length = (m + l.length) + 1 := by simp only [List.length_cons]; omega
    rw [e]
    simp only [decG]
    rw [if_neg hl, ht, hd, recF_C hr, if_neg (fun hh => hh rfl), decG_enc l m _ _ X (fun x hx => h x (List.mem_cons_of_mem _ hx))]
    congr 1
    · simp only [List.length_cons]; omega
    · simp
theorem decG_nil (m : Nat) (a : Int) (out : List Rd) : decG (m + 1) a out [] = (out, 0, 0) := by simp [decG]
theorem decF_enc {l : List Rd} (hl : l.length ≤ 4096) (h : ∀ r ∈ l, RdV r) : decF (encL l) = (l, 0, 0) := by
  unfold decF
  rw [if_neg (by rw [encL_len]; omega), encL_len]
  have e : 12 * l.length + 1 = (11 * l.length + 1) + l.length := by omega
  have := decG_enc l (11 * l.length + 1) 0 [] [] h
  rw [List.append_nil] at this
  rw [e, this, decG_nil]
  simp
theorem ok_valid {l : List Rd} (h : RdsOK l) : ∀ r ∈ l, RdV r := fun r hr => by
  obtain ⟨k, hk⟩ := List.getElem?_of_mem hr
  have hlt := (List.getElem?_eq_some_iff.1 hk).1
  have := h k hlt
  rw [List.getD_eq_getElem?_getD, hk] at this
  obtain ⟨h1, h2, h3, h4⟩ := this
  simp only [Option.getD_some] at h1 h2 h3 h4
  exact ⟨by omega, by omega, by omega, h4⟩
theorem valid_getD {l : List Rd} (h : ∀ r ∈ l, RdV r) : ∀ i, i < l.length → RdV (l.getD i default) := fun i hi => h _ (getD_mem hi)
theorem lim_valid {l : List Rd} (hl : l.length ≤ 4096) (h : ∀ r ∈ l, RdV r) : limR l = 0 := by
  unfold limR
  rw [if_neg (by omega)]
  unfold allR
  have hz : ∀ k, k < l.length → checkR (l.getD k default) = 0 := fun k hk => V_checkR (valid_getD h k hk)
  have key : ∀ n i, i + n ≤ l.length → scan (fun k => checkR (l.getD k default)) i n = 0 := by
    intro n
    induction n with
    | zero => intros; rfl
    | succ n ih =>
      intro i hi
      simp only [scan]
      rw [if_neg (fun hh => hh (hz i (by omega)))]
      exact ih (i + 1) (by omega)
  exact key l.length 0 (by omega)
end Pv
end Go.Proofs.YtgbknfbcjddnhaaDoor

/- LAW 06: GaugeSeries answers true. -/
set_option linter.unusedSimpArgs false
set_option linter.unusedVariables false
namespace Go.Proofs.YtgbknfbcjddnhaaDoor
namespace Pv
def c3L2 : C := (.seq (.reg [⟨(some 58), 928, none, .bi false .lss (.t 57) (.t 56)⟩])
  (.seq (.cond (.t 58) .skip (.exit 2))
  (.seq (.block 3 (.seq (.reg [⟨(some 59), 944, none, .ia 3 (.t 55) (.t 57)⟩,
    ⟨(some 60), 960, none, .ld 3 true (.t 59)⟩,
    ⟨(some 16), 256, none, .al [(.int .i64 0), (.int .i64 0), (.int .i64 0)]⟩,
    ⟨none, 0, none, .st 3 (.t 16) (.t 60)⟩])
  (.seq (.reg [⟨(some 62), 992, none, .mv (.t 14)⟩,
    ⟨(some 63), 1008, none, .iaa 3 1 (.t 16) (.c (.int .i64 0))⟩,
    ⟨(some 64), 1024, none, .ld 1 false (.t 63)⟩,
    ⟨(some 65), 1040, none, .iaa 3 1 (.t 16) (.c (.int .i64 1))⟩,
    ⟨(some 66), 1056, none, .ld 1 false (.t 65)⟩,
    ⟨(some 67), 1072, none, .iaa 3 1 (.t 16) (.c (.int .i64 2))⟩,
    ⟨(some 68), 1088, none, .ld 1 false (.t 67)⟩,
    ⟨(some 69), 1104, none, .call (.c (.fn (.func 13) [] [])) [(.t 62), (.t 64), (.t 66), (.t 68)]⟩,
    ⟨(some 61), 976, none, .mv (.t 69)⟩,
    ⟨(some 70), 1120, none, .ex (.t 61) 0⟩,
    ⟨(some 71), 1136, none, .ex (.t 61) 1⟩,
    ⟨(some 17), 272, none, .mv (.t 70)⟩,
    ⟨(some 18), 288, none, .mv (.t 71)⟩])
  (.seq (.reg [⟨(some 73), 1168, none, .mv (.t 14)⟩,
    ⟨(some 74), 1184, none, .iaa 3 1 (.t 16) (.c (.int .i64 0))⟩,
    ⟨(some 75), 1200, none, .ld 1 false (.t 74)⟩,
    ⟨(some 76), 1216, none, .iaa 3 1 (.t 16) (.c (.int .i64 1))⟩,
    ⟨(some 77), 1232, none, .ld 1 false (.t 76)⟩,
    ⟨(some 78), 1248, none, .iaa 3 1 (.t 16) (.c (.int .i64 2))⟩,
    ⟨(some 79), 1264, none, .ld 1 false (.t 78)⟩,
    ⟨(some 80), 1280, none, .call (.c (.fn (.func 14) [] [])) [(.t 73), (.t 75), (.t 77), (.t 79)]⟩,
    ⟨(some 72), 1152, none, .mv (.t 80)⟩,
    ⟨(some 81), 1296, none, .ex (.t 72) 0⟩,
    ⟨(some 82), 1312, none, .ex (.t 72) 1⟩,
    ⟨(some 19), 304, none, .mv (.t 81)⟩,
    ⟨(some 20), 320, none, .mv (.t 82)⟩])
  (.seq (.reg [⟨(some 83), 1328, none, .mv (.t 18)⟩,
    ⟨(some 84), 1344, none, .mv (.t 20)⟩,
    ⟨(some 85), 1360, none, .bi false .neq (.t 83) (.t 84)⟩,
    ⟨(some 86), 1376, none, .mv (.t 85)⟩,
    ⟨(some 87), 1392, (some (86, false)), .mv (.t 17)⟩,
    ⟨(some 88), 1408, (some (86, false)), .mv (.t 19)⟩,
    ⟨(some 89), 1424, (some (86, false)), .call (.c (.fn (.func 15) [] [])) [(.t 87), (.t 88)]⟩,
    ⟨(some 90), 1440, (some (86, false)), .un false .not (.t 89)⟩,
    ⟨(some 91), 1456, none, .pick (.t 86) (.c (.bool true)) (.t 90)⟩])
  (.cond (.t 91) (.seq (.reg [⟨(some 10), 160, none, .mv (.c (.bool false))⟩])
  .ret) .skip))))))
  (.reg [⟨(some 92), 1472, none, .bi false .add (.t 57) (.c (.int .i64 1))⟩,
    ⟨(some 57), 912, none, .mv (.t 92)⟩]))))
def c3L1 : C := (.seq (.reg [⟨(some 41), 656, none, .bi false .lss (.t 40) (.t 39)⟩])
  (.seq (.cond (.t 41) .skip (.exit 0))
  (.seq (.block 1 (.seq (.reg [⟨(some 42), 672, none, .ia 1 (.t 38) (.t 40)⟩,
    ⟨(some 43), 688, none, .ld 1 false (.t 42)⟩,
    ⟨(some 14), 224, none, .mv (.t 43)⟩])
  (.seq (.reg [⟨(some 44), 704, none, .mv (.t 2)⟩,
    ⟨(some 45), 720, none, .mv (.t 3)⟩,
    ⟨(some 46), 736, none, .mv (.t 4)⟩,
    ⟨(some 47), 752, none, .bd [(.int .i64 0), (.int .i64 0), (.int .i64 0)] [(0, 1, (.t 44)), (1, 1, (.t 45)), (2, 1, (.t 46))]⟩,
    ⟨(some 48), 768, none, .mv (.t 11)⟩,
    ⟨(some 49), 784, none, .call (.c (.fn (.func 12) [] [])) [(.t 48), (.c (.int .i64 4))]⟩,
    ⟨(some 50), 800, none, .mv (.t 11)⟩,
    ⟨(some 51), 816, none, .call (.c (.fn (.func 12) [] [])) [(.t 50), (.c (.int .i64 12))]⟩,
    ⟨(some 52), 832, none, .mv (.t 11)⟩,
    ⟨(some 53), 848, none, .call (.c (.fn (.func 12) [] [])) [(.t 52), (.c (.int .i64 30))]⟩,
    ⟨(some 54), 864, none, .bd [(.int .i64 0), (.int .i64 0), (.int .i64 0)] [(0, 1, (.t 49)), (1, 1, (.t 51)), (2, 1, (.t 53))]⟩,
    ⟨(some 55), 880, none, .bs 31 3 [(.t 47), (.t 54)]⟩,
    ⟨(some 56), 896, none, .len (.t 55)⟩,
    ⟨(some 57), 912, none, .mv (.c (.int .i64 0))⟩])
  (.block 2 (.loop c3L2)))))
  (.reg [⟨(some 93), 1488, none, .bi false .add (.t 40) (.c (.int .i64 1))⟩,
    ⟨(some 40), 640, none, .mv (.t 93)⟩]))))
def c3 : C := (.seq (.reg [⟨(some 5), 80, none, .bx 4 (.t 0)⟩,
    ⟨(some 10), 160, none, .mv (.c (.bool false))⟩])
  (.seq (.seq (.reg [⟨(some 21), 336, none, .mv (.t 4)⟩,
    ⟨(some 22), 352, none, .bi false .gtr (.t 21) (.c (.int .i64 2000))⟩,
    ⟨(some 23), 368, none, .mv (.t 22)⟩,
    ⟨(some 24), 384, (some (23, true)), .mv (.t 4)⟩,
    ⟨(some 25), 400, (some (23, true)), .bi false .leq (.t 24) (.c (.int .i64 4096))⟩,
    ⟨(some 26), 416, none, .pick (.t 23) (.t 25) (.c (.bool false))⟩])
  (.cond (.t 26) (.seq (.reg [⟨(some 27), 432, none, .call (.c (.fn (.func 9) [] [])) []⟩,
    ⟨(some 10), 160, none, .mv (.t 27)⟩])
  .ret) .skip))
  (.seq (.reg [⟨(some 28), 448, none, .mv (.t 1)⟩,
    ⟨(some 29), 464, none, .call (.c (.fn (.func 10) [] [])) [(.t 28)]⟩,
    ⟨(some 11), 176, none, .mv (.t 29)⟩])
  (.seq (.reg [⟨(some 30), 480, none, .mv (.t 11)⟩,
    ⟨(some 31), 496, none, .call (.c (.fn (.func 11) [] [])) [(.t 30), (.c (.int .i64 14))]⟩,
    ⟨(some 12), 192, none, .mv (.t 31)⟩])
  (.seq (.seq (.drw [⟨(some 32), 512, none, .mv (.t 12)⟩,
    ⟨(some 33), 528, none, .mv (.t 12)⟩,
    ⟨(some 34), 544, none, .app 23 4 32 (.c (.nil 4)) (.t 33)⟩,
    ⟨(some 35), 560, none, .ld 4 true (.t 5)⟩,
    ⟨(some 36), 576, none, .bs 23 4 [(.t 35)]⟩,
    ⟨(some 37), 592, none, .app 23 4 32 (.t 34) (.t 36)⟩,
    ⟨(some 38), 608, none, .bs 28 1 [(.t 32), (.t 37)]⟩,
    ⟨(some 39), 624, none, .len (.t 38)⟩,
    ⟨(some 40), 640, none, .mv (.c (.int .i64 0))⟩]
    [(0, 1, 32), (0, 2, 32), (0, 3, 32), (0, 4, 32), (0, 5, 32), (0, 8, 32), (1, 3, 33), (1, 4, 33), (1, 8, 33), (2, 3, 34), (2, 4, 34), (2, 8, 34), (3, 8, 35), (4, 8, 36), (5, 8, 37), (6, 8, 38), (7, 8, 39)])
  (.block 0 (.loop c3L1)))
  (.seq (.reg [⟨(some 94), 1504, none, .call (.c (.fn (.func 9) [] [])) []⟩,
    ⟨(some 10), 160, none, .mv (.t 94)⟩])
  .ret))))))
theorem fits3 : fits Tryd.prog false Tryd.f3 5 95 [(10, none)] = some c3.er := by kernel_rfl

theorem series_len (l : List Rd) (g a c : Int) : (seriesF l g a c).1.length ≤ 4611686018427387904 := by
  unfold seriesF
  split
  · exact Nat.zero_le _
  · split
    · exact Nat.zero_le _
    · split
      · exact Nat.zero_le _
      · rw [serL_len]; omega

set_option maxRecDepth 100000 in
set_option maxHeartbeats 16000000 in
theorem call3 (raw : Rd) (l : List Int) (p a c : Int) (ha : -9223372036854775808 ≤ a ∧ a ≤ 9223372036854775807) : PureCall Tryd.prog 3 [.agg (eRd raw), .sl 1 1 l.length (fl eInt l), .int .i64 p, .int .i64 a, .int .i64 c] [] ⟨.bool true, [], []⟩ := by
  refine pure_call mix Tryd.func3 fits3 rfl ?_
  conv => whnf
  refine ⟨?_, fun hc => ?_, fun hc => ?_⟩
  · (try conv => whnf)
    (repeat' (first | exact True.intro | exact fun _ h => h | refine inR64_of ?_ ?_ | apply And.intro | refine maxLen_ge ?_)) <;> (first | omega | decide | (dsimp only; omega) | (dsimp only [List.length_cons, List.length_nil]; omega) | (intro hg; rw [hg]; rfl) | (intro hg hh; rw [hg, hh]; rfl) | (intro hg; simp [-List.getD_eq_getElem?_getD, -Int.default_eq_zero] at hg; first | omega | (refine inR64_of ?_ ?_ <;> omega) | (constructor <;> omega)) | (simp [-List.getD_eq_getElem?_getD, -Int.default_eq_zero]; done))
  · conv => whnf
    refine ⟨_, fun _ => call9, ?_⟩
    conv => whnf
    refine ⟨?_, [], ?_⟩
    · (try conv => whnf)
      (repeat' (first | exact True.intro | exact fun _ h => h | refine inR64_of ?_ ?_ | apply And.intro | refine maxLen_ge ?_)) <;> (first | omega | decide | (dsimp only; omega) | (dsimp only [List.length_cons, List.length_nil]; omega) | (intro hg; rw [hg]; rfl) | (intro hg hh; rw [hg, hh]; rfl) | (intro hg; simp [-List.getD_eq_getElem?_getD, -Int.default_eq_zero] at hg; first | omega | (refine inR64_of ?_ ?_ <;> omega) | (constructor <;> omega)) | (simp [-List.getD_eq_getElem?_getD, -Int.default_eq_zero]; done))
    conv => whnf
    refine ⟨rfl, ?_, trivial, trivial⟩
    all_goals repeat' (first | exact True.intro | refine leF_cons rfl ?_ ?_ | refine leS_cons rfl ?_ ?_ | (show PLe _ _ _ _; conv => whnf) | (show SLe _ _ _ _; conv => whnf) | (show PLeL _ _ _ _; conv => whnf) | apply And.intro | rfl | exact Nat.le_refl _ | exact fun _ _ => rfl | exact rowEq0 _ _)
  conv => whnf
  refine ⟨_, fun _ => call_new 1 l, ?_⟩
  conv => whnf
  refine ⟨_, fun _ => call11 ⟨l, 0⟩ 14 (by dsimp only; omega) (by decide), ?_⟩
  obtain ⟨_, hat, _, _, ha1, ha2⟩ := readS_ok ⟨l, 0⟩ 14 (by decide)
  dsimp only at hat ha1 ha2
  generalize readS ⟨l, 0⟩ 14 = A at hat ha1 ha2 ⊢
  have la : A.l.length ≤ 14 := by omega
  conv => whnf
  refine ⟨rfl, ?_⟩
  conv => whnf
  refine ⟨?_, ?_⟩
  · (try conv => whnf)
    (repeat' (first | exact True.intro | exact fun _ h => h | refine inR64_of ?_ ?_ | apply And.intro | refine maxLen_ge ?_)) <;> (first | omega | decide | (dsimp only; omega) | (dsimp only [List.length_cons, List.length_nil]; omega) | (intro hg; rw [hg]; rfl) | (intro hg hh; rw [hg, hh]; rfl) | (intro hg; simp [-List.getD_eq_getElem?_getD, -Int.default_eq_zero] at hg; first | omega | (refine inR64_of ?_ ?_ <;> omega) | (constructor <;> omega)) | (simp [-List.getD_eq_getElem?_getD, -Int.default_eq_zero]; done))
  obtain ⟨G2, hG2⟩ : ∃ G2, G2 = appF A.l.length (fl eRd A.l) (fun i => [eRd raw].getD i []) := ⟨_, rfl⟩
  have hF := fl_push eRd A.l raw
  rw [← hG2] at hF
  have hN : A.l.length + 1 = (A.l ++ [raw]).length := by simp
  refine LSem.loop (n := 95) mix (α := Nat × Dk) (fun x => x.1 ≤ 2 ∧ x.2.at_ ≤ 2000 + 3 * x.1)
    (fun x => [(2, .int .i64 p), (3, .int .i64 a), (4, .int .i64 c), (11, .pt 464 0 0), (38, .os 608), (39, .int .i64 2), (40, .int .i64 x.1)])
    (fun x => [(464, .box (eDk 1 x.2)), (608, .row 0 28 1 2 (fun k => [[.sl 0 4 A.l.length (fl eRd A.l)], [.sl 0 4 (A.l.length + 1) G2]].getD k []))]) (fun x => 2 - x.1) (0, A.d) ?_ ?_ ?_
  · exact ⟨Nat.zero_le _, by dsimp only; omega⟩
  · rw [hG2]
    refine ⟨rfl, rfl, ?_, ?_⟩
    all_goals repeat' (first | exact True.intro | refine leF_cons rfl ?_ ?_ | refine leS_cons rfl ?_ ?_ | (show PLe _ _ _ _; conv => whnf) | (show SLe _ _ _ _; conv => whnf) | (show PLeL _ _ _ _; conv => whnf) | apply And.intro | rfl | exact Nat.le_refl _ | exact fun _ _ => rfl | exact rowEq0 _ _)
    all_goals first | exact fun _ _ => rfl | skip
  · intro x hx
    obtain ⟨i, d⟩ := x
    obtain ⟨hi, hd⟩ := hx
    dsimp only at hi hd
    have h012 : i = 0 ∨ i = 1 ∨ i = 2 := by omega
    rcases h012 with rfl | rfl | rfl
    · conv => whnf
      refine ⟨trivial, fun hc => ?_, fun hc => (by cases hc)⟩
      conv => whnf
      refine ⟨_, fun _ => call_next 1 d 4 (by omega) (by decide), ?_⟩
      have n1 := nxt_lt d (n := 4) (by decide)
      have c1 := nxtD_at d 4
      conv => whnf
      refine ⟨_, fun _ => call_next 1 (nxtD d 4) 12 (by omega) (by decide), ?_⟩
      have n2 := nxt_lt (nxtD d 4) (n := 12) (by decide)
      have c2 := nxtD_at (nxtD d 4) 12
      conv => whnf
      refine ⟨_, fun _ => call_next 1 (nxtD (nxtD d 4) 12) 30 (by omega) (by decide), ?_⟩
      have n3 := nxt_lt (nxtD (nxtD d 4) 12) (n := 30) (by decide)
      have c3 := nxtD_at (nxtD (nxtD d 4) 12) 30
      generalize nxtD (nxtD (nxtD d 4) 12) 30 = d' at c3 ⊢
      generalize nxt (nxtD (nxtD d 4) 12) 30 = g3 at n3 ⊢
      generalize nxt (nxtD d 4) 12 = g2 at n2 ⊢
      generalize nxt d 4 = g1 at n1 ⊢
      conv => whnf
      refine ⟨?_, ?_⟩
      · (try conv => whnf)
        (repeat' (first | exact True.intro | exact fun _ h => h | refine inR64_of ?_ ?_ | apply And.intro | refine maxLen_ge ?_)) <;> (first | omega | decide | (dsimp only; omega) | (dsimp only [List.length_cons, List.length_nil]; omega) | (intro hg; rw [hg]; rfl) | (intro hg hh; rw [hg, hh]; rfl) | (intro hg; simp [-List.getD_eq_getElem?_getD, -Int.default_eq_zero] at hg; first | omega | (refine inR64_of ?_ ?_ <;> omega) | (constructor <;> omega)) | (simp [-List.getD_eq_getElem?_getD, -Int.default_eq_zero]; done))
      refine LSem.loop (n := 95) mix (α := Nat) (fun j => j ≤ 2)
        (fun j => [(2, .int .i64 p), (3, .int .i64 a), (4, .int .i64 c), (11, .pt 464 0 0), (38, .os 608), (39, .int .i64 2), (40, .int .i64 ((0 : Nat) : Int)), (14, .sl 0 4 A.l.length (fl eRd A.l)), (55, .os 880), (56, .int .i64 2), (57, .int .i64 j)])
        (fun j => [(464, .box (eDk 1 d')), (608, .row 0 28 1 2 (fun k => [[.sl 0 4 A.l.length (fl eRd A.l)], [.sl 0 4 (A.l.length + 1) G2]].getD k [])), (880, .row 0 31 3 2 (fun k => [[.int .i64 p, .int .i64 a, .int .i64 c], [.int .i64 g1, .int .i64 g2, .int .i64 g3]].getD k []))]) (fun j => 2 - j) 0 ?_ ?_ ?_
      · exact Nat.zero_le _
      · refine ⟨rfl, rfl, ?_, ?_⟩
        all_goals repeat' (first | exact True.intro | refine leF_cons rfl ?_ ?_ | refine leS_cons rfl ?_ ?_ | (show PLe _ _ _ _; conv => whnf) | (show SLe _ _ _ _; conv => whnf) | (show PLeL _ _ _ _; conv => whnf) | apply And.intro | rfl | exact Nat.le_refl _ | exact fun _ _ => rfl | exact rowEq0 _ _)
        all_goals first | exact fun _ _ => rfl | skip
      · intro j hj2
        have h012 : j = 0 ∨ j = 1 ∨ j = 2 := by omega
        rcases h012 with rfl | rfl | rfl
        · conv => whnf
          refine ⟨trivial, fun hc => ?_, fun hc => (by cases hc)⟩
          conv => whnf
          refine ⟨_, fun _ => PureCall.arg_le (call13 1 A.l p a c (by omega) (by omega)) rfl ⟨⟨Nat.le_refl _, rfl, rfl, fun _ _ => rfl⟩, ⟨rfl, rfl⟩, ⟨rfl, rfl⟩, ⟨rfl, rfl⟩, trivial⟩, ?_⟩
          conv => whnf
          refine ⟨_, fun _ => PureCall.arg_le (call14 1 A.l p a c (by omega) (by omega)) rfl ⟨⟨Nat.le_refl _, rfl, rfl, fun _ _ => rfl⟩, ⟨rfl, rfl⟩, ⟨rfl, rfl⟩, ⟨rfl, rfl⟩, trivial⟩, ?_⟩
          have hsl := series_len A.l p a c
          generalize seriesF A.l p a c = S at hsl ⊢
          conv => whnf
          refine ⟨_, fun _ => call15 1 1 S.1 S.1 (by omega), ?_⟩
          rw [decide_eq_true (p := S.1 = S.1) rfl, show (S.2 != S.2) = false by simp]
          conv => whnf
          refine ⟨?_, fun h => (by cases h), fun _ => ?_⟩
          · (try conv => whnf)
            (repeat' (first | exact True.intro | exact fun _ h => h | refine inR64_of ?_ ?_ | apply And.intro | refine maxLen_ge ?_)) <;> (first | omega | decide | (dsimp only; omega) | (dsimp only [List.length_cons, List.length_nil]; omega) | (intro hg; rw [hg]; rfl) | (intro hg hh; rw [hg, hh]; rfl) | (intro hg; simp [-List.getD_eq_getElem?_getD, -Int.default_eq_zero] at hg; first | omega | (refine inR64_of ?_ ?_ <;> omega) | (constructor <;> omega)) | (simp [-List.getD_eq_getElem?_getD, -Int.default_eq_zero]; done))
          conv => whnf
          refine ⟨?_, 1, ?_, ?_, rfl, rfl, ?_, ?_⟩
          · (try conv => whnf)
            (repeat' (first | exact True.intro | exact fun _ h => h | refine inR64_of ?_ ?_ | apply And.intro | refine maxLen_ge ?_)) <;> (first | omega | decide | (dsimp only; omega) | (dsimp only [List.length_cons, List.length_nil]; omega) | (intro hg; rw [hg]; rfl) | (intro hg hh; rw [hg, hh]; rfl) | (intro hg; simp [-List.getD_eq_getElem?_getD, -Int.default_eq_zero] at hg; first | omega | (refine inR64_of ?_ ?_ <;> omega) | (constructor <;> omega)) | (simp [-List.getD_eq_getElem?_getD, -Int.default_eq_zero]; done))
          · omega
          · omega
          all_goals repeat' (first | exact True.intro | refine leF_cons rfl ?_ ?_ | refine leS_cons rfl ?_ ?_ | (show PLe _ _ _ _; conv => whnf) | (show SLe _ _ _ _; conv => whnf) | (show PLeL _ _ _ _; conv => whnf) | apply And.intro | rfl | exact Nat.le_refl _ | exact fun _ _ => rfl | exact rowEq0 _ _)
          all_goals first | exact fun _ _ => rfl | skip
        · conv => whnf
          refine ⟨trivial, fun hc => ?_, fun hc => (by cases hc)⟩
          conv => whnf
          refine ⟨_, fun _ => PureCall.arg_le (call13 1 A.l g1 g2 g3 (by omega) (by omega)) rfl ⟨⟨Nat.le_refl _, rfl, rfl, fun _ _ => rfl⟩, ⟨rfl, rfl⟩, ⟨rfl, rfl⟩, ⟨rfl, rfl⟩, trivial⟩, ?_⟩
          conv => whnf
          refine ⟨_, fun _ => PureCall.arg_le (call14 1 A.l g1 g2 g3 (by omega) (by omega)) rfl ⟨⟨Nat.le_refl _, rfl, rfl, fun _ _ => rfl⟩, ⟨rfl, rfl⟩, ⟨rfl, rfl⟩, ⟨rfl, rfl⟩, trivial⟩, ?_⟩
          have hsl := series_len A.l g1 g2 g3
          generalize seriesF A.l g1 g2 g3 = S at hsl ⊢
          conv => whnf
          refine ⟨_, fun _ => call15 1 1 S.1 S.1 (by omega), ?_⟩
          rw [decide_eq_true (p := S.1 = S.1) rfl, show (S.2 != S.2) = false by simp]
          conv => whnf
          refine ⟨?_, fun h => (by cases h), fun _ => ?_⟩
          · (try conv => whnf)
            (repeat' (first | exact True.intro | exact fun _ h => h | refine inR64_of ?_ ?_ | apply And.intro | refine maxLen_ge ?_)) <;> (first | omega | decide | (dsimp only; omega) | (dsimp only [List.length_cons, List.length_nil]; omega) | (intro hg; rw [hg]; rfl) | (intro hg hh; rw [hg, hh]; rfl) | (intro hg; simp [-List.getD_eq_getElem?_getD, -Int.default_eq_zero] at hg; first | omega | (refine inR64_of ?_ ?_ <;> omega) | (constructor <;> omega)) | (simp [-List.getD_eq_getElem?_getD, -Int.default_eq_zero]; done))
          conv => whnf
          refine ⟨?_, 2, ?_, ?_, rfl, rfl, ?_, ?_⟩
          · (try conv => whnf)
            (repeat' (first | exact True.intro | exact fun _ h => h | refine inR64_of ?_ ?_ | apply And.intro | refine maxLen_ge ?_)) <;> (first | omega | decide | (dsimp only; omega) | (dsimp only [List.length_cons, List.length_nil]; omega) | (intro hg; rw [hg]; rfl) | (intro hg hh; rw [hg, hh]; rfl) | (intro hg; simp [-List.getD_eq_getElem?_getD, -Int.default_eq_zero] at hg; first | omega | (refine inR64_of ?_ ?_ <;> omega) | (constructor <;> omega)) | (simp [-List.getD_eq_getElem?_getD, -Int.default_eq_zero]; done))
          · omega
          · omega
          all_goals repeat' (first | exact True.intro | refine leF_cons rfl ?_ ?_ | refine leS_cons rfl ?_ ?_ | (show PLe _ _ _ _; conv => whnf) | (show SLe _ _ _ _; conv => whnf) | (show PLeL _ _ _ _; conv => whnf) | apply And.intro | rfl | exact Nat.le_refl _ | exact fun _ _ => rfl | exact rowEq0 _ _)
          all_goals first | exact fun _ _ => rfl | skip
        · conv => whnf
          refine ⟨trivial, fun hc => (by cases hc), fun hc => ?_⟩
          conv => whnf
          refine ⟨?_, (1, d'), ⟨?_, ?_⟩, ?_, rfl, rfl, ?_, ?_⟩
          · (try conv => whnf)
            (repeat' (first | exact True.intro | exact fun _ h => h | refine inR64_of ?_ ?_ | apply And.intro | refine maxLen_ge ?_)) <;> (first | omega | decide | (dsimp only; omega) | (dsimp only [List.length_cons, List.length_nil]; omega) | (intro hg; rw [hg]; rfl) | (intro hg hh; rw [hg, hh]; rfl) | (intro hg; simp [-List.getD_eq_getElem?_getD, -Int.default_eq_zero] at hg; first | omega | (refine inR64_of ?_ ?_ <;> omega) | (constructor <;> omega)) | (simp [-List.getD_eq_getElem?_getD, -Int.default_eq_zero]; done))
          · dsimp only; omega
          · dsimp only; omega
          · dsimp only; omega
          all_goals repeat' (first | exact True.intro | refine leF_cons rfl ?_ ?_ | refine leS_cons rfl ?_ ?_ | (show PLe _ _ _ _; conv => whnf) | (show SLe _ _ _ _; conv => whnf) | (show PLeL _ _ _ _; conv => whnf) | apply And.intro | rfl | exact Nat.le_refl _ | exact fun _ _ => rfl | exact rowEq0 _ _)
          all_goals first | exact fun _ _ => rfl | skip
    · conv => whnf
      refine ⟨trivial, fun hc => ?_, fun hc => (by cases hc)⟩
      conv => whnf
      refine ⟨_, fun _ => call_next 1 d 4 (by omega) (by decide), ?_⟩
      have n1 := nxt_lt d (n := 4) (by decide)
      have c1 := nxtD_at d 4
      conv => whnf
      refine ⟨_, fun _ => call_next 1 (nxtD d 4) 12 (by omega) (by decide), ?_⟩
      have n2 := nxt_lt (nxtD d 4) (n := 12) (by decide)
      have c2 := nxtD_at (nxtD d 4) 12
      conv => whnf
      refine ⟨_, fun _ => call_next 1 (nxtD (nxtD d 4) 12) 30 (by omega) (by decide), ?_⟩
      have n3 := nxt_lt (nxtD (nxtD d 4) 12) (n := 30) (by decide)
      have c3 := nxtD_at (nxtD (nxtD d 4) 12) 30
      generalize nxtD (nxtD (nxtD d 4) 12) 30 = d' at c3 ⊢
      generalize nxt (nxtD (nxtD d 4) 12) 30 = g3 at n3 ⊢
      generalize nxt (nxtD d 4) 12 = g2 at n2 ⊢
      generalize nxt d 4 = g1 at n1 ⊢
      conv => whnf
      refine ⟨?_, ?_⟩
      · (try conv => whnf)
        (repeat' (first | exact True.intro | exact fun _ h => h | refine inR64_of ?_ ?_ | apply And.intro | refine maxLen_ge ?_)) <;> (first | omega | decide | (dsimp only; omega) | (dsimp only [List.length_cons, List.length_nil]; omega) | (intro hg; rw [hg]; rfl) | (intro hg hh; rw [hg, hh]; rfl) | (intro hg; simp [-List.getD_eq_getElem?_getD, -Int.default_eq_zero] at hg; first | omega | (refine inR64_of ?_ ?_ <;> omega) | (constructor <;> omega)) | (simp [-List.getD_eq_getElem?_getD, -Int.default_eq_zero]; done))
      refine LSem.loop (n := 95) mix (α := Nat) (fun j => j ≤ 2)
        (fun j => [(2, .int .i64 p), (3, .int .i64 a), (4, .int .i64 c), (11, .pt 464 0 0), (38, .os 608), (39, .int .i64 2), (40, .int .i64 ((1 : Nat) : Int)), (14, .sl 0 4 (A.l.length + 1) G2), (55, .os 880), (56, .int .i64 2), (57, .int .i64 j)])
        (fun j => [(464, .box (eDk 1 d')), (608, .row 0 28 1 2 (fun k => [[.sl 0 4 A.l.length (fl eRd A.l)], [.sl 0 4 (A.l.length + 1) G2]].getD k [])), (880, .row 0 31 3 2 (fun k => [[.int .i64 p, .int .i64 a, .int .i64 c], [.int .i64 g1, .int .i64 g2, .int .i64 g3]].getD k []))]) (fun j => 2 - j) 0 ?_ ?_ ?_
      · exact Nat.zero_le _
      · refine ⟨rfl, rfl, ?_, ?_⟩
        all_goals repeat' (first | exact True.intro | refine leF_cons rfl ?_ ?_ | refine leS_cons rfl ?_ ?_ | (show PLe _ _ _ _; conv => whnf) | (show SLe _ _ _ _; conv => whnf) | (show PLeL _ _ _ _; conv => whnf) | apply And.intro | rfl | exact Nat.le_refl _ | exact fun _ _ => rfl | exact rowEq0 _ _)
        all_goals first | exact fun _ _ => rfl | skip
      · intro j hj2
        have h012 : j = 0 ∨ j = 1 ∨ j = 2 := by omega
        rcases h012 with rfl | rfl | rfl
        · conv => whnf
          refine ⟨trivial, fun hc => ?_, fun hc => (by cases hc)⟩
          conv => whnf
          refine ⟨_, fun _ => PureCall.arg_le (call13 1 (A.l ++ [raw]) p a c (by rw [← hN]; omega) (by omega)) rfl ⟨⟨Nat.le_refl _, rfl, hN, hF⟩, ⟨rfl, rfl⟩, ⟨rfl, rfl⟩, ⟨rfl, rfl⟩, trivial⟩, ?_⟩
          conv => whnf
          refine ⟨_, fun _ => PureCall.arg_le (call14 1 (A.l ++ [raw]) p a c (by rw [← hN]; omega) (by omega)) rfl ⟨⟨Nat.le_refl _, rfl, hN, hF⟩, ⟨rfl, rfl⟩, ⟨rfl, rfl⟩, ⟨rfl, rfl⟩, trivial⟩, ?_⟩
          have hsl := series_len (A.l ++ [raw]) p a c
          generalize seriesF (A.l ++ [raw]) p a c = S at hsl ⊢
          conv => whnf
          refine ⟨_, fun _ => call15 1 1 S.1 S.1 (by omega), ?_⟩
          rw [decide_eq_true (p := S.1 = S.1) rfl, show (S.2 != S.2) = false by simp]
          conv => whnf
          refine ⟨?_, fun h => (by cases h), fun _ => ?_⟩
          · (try conv => whnf)
            (repeat' (first | exact True.intro | exact fun _ h => h | refine inR64_of ?_ ?_ | apply And.intro | refine maxLen_ge ?_)) <;> (first | omega | decide | (dsimp only; omega) | (dsimp only [List.length_cons, List.length_nil]; omega) | (intro hg; rw [hg]; rfl) | (intro hg hh; rw [hg, hh]; rfl) | (intro hg; simp [-List.getD_eq_getElem?_getD, -Int.default_eq_zero] at hg; first | omega | (refine inR64_of ?_ ?_ <;> omega) | (constructor <;> omega)) | (simp [-List.getD_eq_getElem?_getD, -Int.default_eq_zero]; done))
          conv => whnf
          refine ⟨?_, 1, ?_, ?_, rfl, rfl, ?_, ?_⟩
          · (try conv => whnf)
            (repeat' (first | exact True.intro | exact fun _ h => h | refine inR64_of ?_ ?_ | apply And.intro | refine maxLen_ge ?_)) <;> (first | omega | decide | (dsimp only; omega) | (dsimp only [List.length_cons, List.length_nil]; omega) | (intro hg; rw [hg]; rfl) | (intro hg hh; rw [hg, hh]; rfl) | (intro hg; simp [-List.getD_eq_getElem?_getD, -Int.default_eq_zero] at hg; first | omega | (refine inR64_of ?_ ?_ <;> omega) | (constructor <;> omega)) | (simp [-List.getD_eq_getElem?_getD, -Int.default_eq_zero]; done))
          · omega
          · omega
          all_goals repeat' (first | exact True.intro | refine leF_cons rfl ?_ ?_ | refine leS_cons rfl ?_ ?_ | (show PLe _ _ _ _; conv => whnf) | (show SLe _ _ _ _; conv => whnf) | (show PLeL _ _ _ _; conv => whnf) | apply And.intro | rfl | exact Nat.le_refl _ | exact fun _ _ => rfl | exact rowEq0 _ _)
          all_goals first | exact fun _ _ => rfl | skip
        · conv => whnf
          refine ⟨trivial, fun hc => ?_, fun hc => (by cases hc)⟩
          conv => whnf
          refine ⟨_, fun _ => PureCall.arg_le (call13 1 (A.l ++ [raw]) g1 g2 g3 (by rw [← hN]; omega) (by omega)) rfl ⟨⟨Nat.le_refl _, rfl, hN, hF⟩, ⟨rfl, rfl⟩, ⟨rfl, rfl⟩, ⟨rfl, rfl⟩, trivial⟩, ?_⟩
          conv => whnf
          refine ⟨_, fun _ => PureCall.arg_le (call14 1 (A.l ++ [raw]) g1 g2 g3 (by rw [← hN]; omega) (by omega)) rfl ⟨⟨Nat.le_refl _, rfl, hN, hF⟩, ⟨rfl, rfl⟩, ⟨rfl, rfl⟩, ⟨rfl, rfl⟩, trivial⟩, ?_⟩
          have hsl := series_len (A.l ++ [raw]) g1 g2 g3
          generalize seriesF (A.l ++ [raw]) g1 g2 g3 = S at hsl ⊢
          conv => whnf
          refine ⟨_, fun _ => call15 1 1 S.1 S.1 (by omega), ?_⟩
          rw [decide_eq_true (p := S.1 = S.1) rfl, show (S.2 != S.2) = false by simp]
          conv => whnf
          refine ⟨?_, fun h => (by cases h), fun _ => ?_⟩
          · (try conv => whnf)
            (repeat' (first | exact True.intro | exact fun _ h => h | refine inR64_of ?_ ?_ | apply And.intro | refine maxLen_ge ?_)) <;> (first | omega | decide | (dsimp only; omega) | (dsimp only [List.length_cons, List.length_nil]; omega) | (intro hg; rw [hg]; rfl) | (intro hg hh; rw [hg, hh]; rfl) | (intro hg; simp [-List.getD_eq_getElem?_getD, -Int.default_eq_zero] at hg; first | omega | (refine inR64_of ?_ ?_ <;> omega) | (constructor <;> omega)) | (simp [-List.getD_eq_getElem?_getD, -Int.default_eq_zero]; done))
          conv => whnf
          refine ⟨?_, 2, ?_, ?_, rfl, rfl, ?_, ?_⟩
          · (try conv => whnf)
            (repeat' (first | exact True.intro | exact fun _ h => h | refine inR64_of ?_ ?_ | apply And.intro | refine maxLen_ge ?_)) <;> (first | omega | decide | (dsimp only; omega) | (dsimp only [List.length_cons, List.length_nil]; omega) | (intro hg; rw [hg]; rfl) | (intro hg hh; rw [hg, hh]; rfl) | (intro hg; simp [-List.getD_eq_getElem?_getD, -Int.default_eq_zero] at hg; first | omega | (refine inR64_of ?_ ?_ <;> omega) | (constructor <;> omega)) | (simp [-List.getD_eq_getElem?_getD, -Int.default_eq_zero]; done))
          · omega
          · omega
          all_goals repeat' (first | exact True.intro | refine leF_cons rfl ?_ ?_ | refine leS_cons rfl ?_ ?_ | (show PLe _ _ _ _; conv => whnf) | (show SLe _ _ _ _; conv => whnf) | (show PLeL _ _ _ _; conv => whnf) | apply And.intro | rfl | exact Nat.le_refl _ | exact fun _ _ => rfl | exact rowEq0 _ _)
          all_goals first | exact fun _ _ => rfl | skip
        · conv => whnf
          refine ⟨trivial, fun hc => (by cases hc), fun hc => ?_⟩
          conv => whnf
          refine ⟨?_, (2, d'), ⟨?_, ?_⟩, ?_, rfl, rfl, ?_, ?_⟩
          · (try conv => whnf)
            (repeat' (first | exact True.intro | exact fun _ h => h | refine inR64_of ?_ ?_ | apply And.intro | refine maxLen_ge ?_)) <;> (first | omega | decide | (dsimp only; omega) | (dsimp only [List.length_cons, List.length_nil]; omega) | (intro hg; rw [hg]; rfl) | (intro hg hh; rw [hg, hh]; rfl) | (intro hg; simp [-List.getD_eq_getElem?_getD, -Int.default_eq_zero] at hg; first | omega | (refine inR64_of ?_ ?_ <;> omega) | (constructor <;> omega)) | (simp [-List.getD_eq_getElem?_getD, -Int.default_eq_zero]; done))
          · dsimp only; omega
          · dsimp only; omega
          · dsimp only; omega
          all_goals repeat' (first | exact True.intro | refine leF_cons rfl ?_ ?_ | refine leS_cons rfl ?_ ?_ | (show PLe _ _ _ _; conv => whnf) | (show SLe _ _ _ _; conv => whnf) | (show PLeL _ _ _ _; conv => whnf) | apply And.intro | rfl | exact Nat.le_refl _ | exact fun _ _ => rfl | exact rowEq0 _ _)
          all_goals first | exact fun _ _ => rfl | skip
    · conv => whnf
      refine ⟨trivial, fun hc => (by cases hc), fun hc => ?_⟩
      conv => whnf
      refine ⟨_, fun _ => call9, ?_⟩
      conv => whnf
      refine ⟨?_, [], ?_⟩
      · (try conv => whnf)
        (repeat' (first | exact True.intro | exact fun _ h => h | refine inR64_of ?_ ?_ | apply And.intro | refine maxLen_ge ?_)) <;> (first | omega | decide | (dsimp only; omega) | (dsimp only [List.length_cons, List.length_nil]; omega) | (intro hg; rw [hg]; rfl) | (intro hg hh; rw [hg, hh]; rfl) | (intro hg; simp [-List.getD_eq_getElem?_getD, -Int.default_eq_zero] at hg; first | omega | (refine inR64_of ?_ ?_ <;> omega) | (constructor <;> omega)) | (simp [-List.getD_eq_getElem?_getD, -Int.default_eq_zero]; done))
      conv => whnf
      refine ⟨rfl, ?_, trivial, trivial⟩
      all_goals repeat' (first | exact True.intro | refine leF_cons rfl ?_ ?_ | refine leS_cons rfl ?_ ?_ | (show PLe _ _ _ _; conv => whnf) | (show SLe _ _ _ _; conv => whnf) | (show PLeL _ _ _ _; conv => whnf) | apply And.intro | rfl | exact Nat.le_refl _ | exact fun _ _ => rfl | exact rowEq0 _ _)
end Pv
end Go.Proofs.YtgbknfbcjddnhaaDoor

/- LAW 06: GaugeLast answers true. -/
set_option linter.unusedSimpArgs false
set_option linter.unusedVariables false
namespace Go.Proofs.YtgbknfbcjddnhaaDoor
namespace Pv
def c4L1 : C := (.seq (.reg [⟨(some 43), 688, none, .bi false .lss (.t 42) (.t 41)⟩])
  (.seq (.cond (.t 43) .skip (.exit 0))
  (.seq (.block 1 (.seq (.reg [⟨(some 44), 704, none, .ia 4 (.t 40) (.t 42)⟩,
    ⟨(some 45), 720, none, .ld 4 true (.t 44)⟩,
    ⟨(some 15), 240, none, .al [(.int .i64 0), (.int .i64 0), (.int .i64 0), (.int .i64 0)]⟩,
    ⟨none, 0, none, .st 4 (.t 15) (.t 45)⟩])
  (.seq (.reg [⟨(some 46), 736, none, .fa 0 (.t 15)⟩,
    ⟨(some 47), 752, none, .ld 1 false (.t 46)⟩,
    ⟨(some 48), 768, none, .mv (.t 9)⟩,
    ⟨(some 49), 784, none, .bi false .eql (.t 47) (.t 48)⟩])
  (.cond (.t 49) (.reg [⟨(some 50), 800, none, .mv (.t 13)⟩,
    ⟨(some 51), 816, none, .ld 4 true (.t 15)⟩,
    ⟨(some 52), 832, none, .bs 23 4 [(.t 51)]⟩,
    ⟨(some 53), 848, none, .app 23 4 32 (.t 50) (.t 52)⟩,
    ⟨(some 13), 208, none, .mv (.t 53)⟩]) .skip))))
  (.reg [⟨(some 54), 864, none, .bi false .add (.t 42) (.c (.int .i64 1))⟩,
    ⟨(some 42), 672, none, .mv (.t 54)⟩]))))
def c4L3 : C := (.seq (.reg [⟨(some 108), 1728, none, .bi false .lss (.t 107) (.t 106)⟩])
  (.seq (.cond (.t 108) .skip (.exit 4))
  (.seq (.block 5 (.seq (.reg [⟨(some 109), 1744, none, .ia 4 (.t 105) (.t 107)⟩,
    ⟨(some 110), 1760, none, .ld 4 true (.t 109)⟩,
    ⟨(some 24), 384, none, .al [(.int .i64 0), (.int .i64 0), (.int .i64 0), (.int .i64 0)]⟩,
    ⟨none, 0, none, .st 4 (.t 24) (.t 110)⟩])
  (.reg [⟨(some 111), 1776, none, .mv (.t 22)⟩,
    ⟨(some 112), 1792, none, .mv (.t 111)⟩,
    ⟨(some 113), 1808, (some (112, false)), .fa 1 (.t 24)⟩,
    ⟨(some 114), 1824, (some (112, false)), .ld 1 false (.t 113)⟩,
    ⟨(some 115), 1840, (some (112, false)), .mv (.t 10)⟩,
    ⟨(some 116), 1856, (some (112, false)), .mv (.t 20)⟩,
    ⟨(some 117), 1872, (some (112, false)), .bi false .add (.t 115) (.t 116)⟩,
    ⟨(some 118), 1888, (some (112, false)), .bi false .eql (.t 114) (.t 117)⟩,
    ⟨(some 119), 1904, none, .pick (.t 112) (.c (.bool true)) (.t 118)⟩,
    ⟨(some 22), 352, none, .mv (.t 119)⟩])))
  (.reg [⟨(some 120), 1920, none, .bi false .add (.t 107) (.c (.int .i64 1))⟩,
    ⟨(some 107), 1712, none, .mv (.t 120)⟩]))))
def c4L2 : C := (.seq (.reg [⟨(some 101), 1616, none, .bi false .lss (.t 100) (.t 99)⟩])
  (.seq (.cond (.t 101) .skip (.exit 2))
  (.seq (.block 3 (.seq (.reg [⟨(some 102), 1632, none, .mv (.t 100)⟩,
    ⟨(some 103), 1648, none, .ia 4 (.t 98) (.t 100)⟩,
    ⟨(some 104), 1664, none, .ld 4 true (.t 103)⟩,
    ⟨(some 21), 336, none, .al [(.int .i64 0), (.int .i64 0), (.int .i64 0), (.int .i64 0)]⟩,
    ⟨(some 20), 320, none, .mv (.t 102)⟩,
    ⟨none, 0, none, .st 4 (.t 21) (.t 104)⟩])
  (.seq (.reg [⟨(some 22), 352, none, .mv (.c (.bool false))⟩])
  (.seq (.seq (.reg [⟨(some 105), 1680, none, .mv (.t 13)⟩,
    ⟨(some 106), 1696, none, .len (.t 105)⟩,
    ⟨(some 107), 1712, none, .mv (.c (.int .i64 0))⟩])
  (.block 4 (.loop c4L3)))
  (.seq (.drw [⟨(some 121), 1936, none, .fa 0 (.t 21)⟩,
    ⟨(some 122), 1952, none, .ld 1 false (.t 121)⟩,
    ⟨(some 123), 1968, none, .mv (.t 9)⟩,
    ⟨(some 124), 1984, none, .bi false .neq (.t 122) (.t 123)⟩,
    ⟨(some 125), 2000, none, .mv (.t 124)⟩,
    ⟨(some 126), 2016, (some (125, false)), .fa 1 (.t 21)⟩,
    ⟨(some 127), 2032, (some (125, false)), .ld 1 false (.t 126)⟩,
    ⟨(some 128), 2048, (some (125, false)), .mv (.t 10)⟩,
    ⟨(some 129), 2064, (some (125, false)), .mv (.t 20)⟩,
    ⟨(some 130), 2080, (some (125, false)), .bi false .add (.t 128) (.t 129)⟩,
    ⟨(some 131), 2096, (some (125, false)), .bi false .neq (.t 127) (.t 130)⟩,
    ⟨(some 132), 2112, none, .pick (.t 125) (.c (.bool true)) (.t 131)⟩,
    ⟨(some 133), 2128, none, .mv (.t 132)⟩,
    ⟨(some 134), 2144, (some (133, false)), .mv (.t 22)⟩,
    ⟨(some 135), 2160, (some (133, false)), .un false .not (.t 134)⟩,
    ⟨(some 136), 2176, (some (133, false)), .mv (.t 135)⟩,
    ⟨(some 137), 2192, (some (136, true)), .ld 4 true (.t 21)⟩,
    ⟨(some 138), 2208, (some (136, true)), .mv (.t 9)⟩,
    ⟨(some 139), 2224, (some (136, true)), .mv (.t 10)⟩,
    ⟨(some 140), 2240, (some (136, true)), .mv (.t 20)⟩,
    ⟨(some 141), 2256, (some (136, true)), .bi false .add (.t 139) (.t 140)⟩,
    ⟨(some 142), 2272, (some (136, true)), .bd [(.int .i64 0), (.int .i64 0), (.int .i64 0), (.int .i64 0)] [(0, 1, (.t 138)), (1, 1, (.t 141)), (3, 1, (.c (.int .i64 2)))]⟩,
    ⟨(some 143), 2288, (some (136, true)), .eqa true [0, 0, 0, 0] (.t 137) (.t 142)⟩,
    ⟨(some 144), 2304, (some (133, false)), .pick (.t 136) (.t 143) (.c (.bool false))⟩,
    ⟨(some 145), 2320, none, .pick (.t 133) (.c (.bool true)) (.t 144)⟩,
    ⟨(some 146), 2336, none, .mv (.t 145)⟩,
    ⟨(some 147), 2352, (some (146, false)), .mv (.t 20)⟩,
    ⟨(some 148), 2368, (some (146, false)), .bi false .neq (.t 147) (.c (.int .i64 3))⟩,
    ⟨(some 149), 2384, (some (146, false)), .mv (.t 148)⟩,
    ⟨(some 150), 2400, (some (149, true)), .mv (.t 18)⟩,
    ⟨(some 151), 2416, (some (149, true)), .mv (.t 20)⟩,
    ⟨(some 152), 2432, (some (149, true)), .ia 4 (.t 150) (.t 151)⟩,
    ⟨(some 153), 2448, (some (149, true)), .ld 4 true (.t 152)⟩,
    ⟨(some 154), 2464, (some (149, true)), .ld 4 true (.t 21)⟩,
    ⟨(some 155), 2480, (some (149, true)), .eqa true [0, 0, 0, 0] (.t 153) (.t 154)⟩,
    ⟨(some 156), 2496, (some (146, false)), .pick (.t 149) (.t 155) (.c (.bool false))⟩,
    ⟨(some 157), 2512, none, .pick (.t 146) (.c (.bool true)) (.t 156)⟩]
    [(0, 2, 121), (1, 2, 122), (5, 7, 126), (5, 8, 126), (5, 9, 126), (6, 7, 127), (6, 8, 127), (6, 9, 127), (7, 8, 128), (16, 17, 137), (16, 18, 137), (16, 19, 137), (16, 20, 137), (16, 21, 137), (17, 18, 138), (17, 19, 138), (17, 20, 138), (18, 19, 139), (29, 30, 150), (29, 33, 150), (30, 33, 151), (31, 33, 152), (32, 33, 153)])
  (.cond (.t 157) (.seq (.reg [⟨(some 6), 96, none, .mv (.c (.bool false))⟩])
  .ret) .skip))))))
  (.reg [⟨(some 158), 2528, none, .bi false .add (.t 100) (.c (.int .i64 1))⟩,
    ⟨(some 100), 1600, none, .mv (.t 158)⟩]))))
def c4 : C := (.seq (.reg [⟨(some 6), 96, none, .mv (.c (.bool false))⟩])
  (.seq (.reg [⟨(some 25), 400, none, .mv (.t 0)⟩,
    ⟨(some 26), 416, none, .call (.c (.fn (.func 10) [] [])) [(.t 25)]⟩,
    ⟨(some 7), 112, none, .mv (.t 26)⟩])
  (.seq (.reg [⟨(some 27), 432, none, .mv (.t 7)⟩,
    ⟨(some 28), 448, none, .call (.c (.fn (.func 11) [] [])) [(.t 27), (.c (.int .i64 14))]⟩,
    ⟨(some 8), 128, none, .mv (.t 28)⟩])
  (.seq (.reg [⟨(some 29), 464, none, .mv (.t 1)⟩,
    ⟨(some 30), 480, none, .call (.c (.fn (.func 16) [] [])) [(.t 29), (.c (.int .i64 4))]⟩,
    ⟨(some 31), 496, none, .mv (.t 2)⟩,
    ⟨(some 32), 512, none, .call (.c (.fn (.func 16) [] [])) [(.t 31), (.c (.int .i64 12))]⟩,
    ⟨(some 9), 144, none, .mv (.t 30)⟩,
    ⟨(some 10), 160, none, .mv (.t 32)⟩])
  (.seq (.reg [⟨(some 34), 544, none, .mv (.t 8)⟩,
    ⟨(some 35), 560, none, .mv (.t 9)⟩,
    ⟨(some 36), 576, none, .mv (.t 10)⟩,
    ⟨(some 37), 592, none, .call (.c (.fn (.func 13) [] [])) [(.t 34), (.t 35), (.t 36), (.c (.int .i64 9))]⟩,
    ⟨(some 33), 528, none, .mv (.t 37)⟩,
    ⟨(some 38), 608, none, .ex (.t 33) 0⟩,
    ⟨(some 39), 624, none, .ex (.t 33) 1⟩,
    ⟨(some 11), 176, none, .mv (.t 38)⟩,
    ⟨(some 12), 192, none, .mv (.t 39)⟩])
  (.seq (.reg [⟨(some 13), 208, none, .mv (.c (.nil 4))⟩])
  (.seq (.seq (.reg [⟨(some 40), 640, none, .mv (.t 8)⟩,
    ⟨(some 41), 656, none, .len (.t 40)⟩,
    ⟨(some 42), 672, none, .mv (.c (.int .i64 0))⟩])
  (.block 0 (.loop c4L1)))
  (.seq (.reg [⟨(some 56), 896, none, .mv (.t 13)⟩,
    ⟨(some 57), 912, none, .mv (.t 9)⟩,
    ⟨(some 58), 928, none, .mv (.t 10)⟩,
    ⟨(some 59), 944, none, .call (.c (.fn (.func 13) [] [])) [(.t 56), (.t 57), (.t 58), (.c (.int .i64 9))]⟩,
    ⟨(some 55), 880, none, .mv (.t 59)⟩,
    ⟨(some 60), 960, none, .ex (.t 55) 0⟩,
    ⟨(some 61), 976, none, .ex (.t 55) 1⟩,
    ⟨(some 16), 256, none, .mv (.t 60)⟩,
    ⟨(some 17), 272, none, .mv (.t 61)⟩])
  (.seq (.reg [⟨(some 63), 1008, none, .mv (.t 8)⟩,
    ⟨(some 64), 1024, none, .app 23 4 32 (.c (.nil 4)) (.t 63)⟩,
    ⟨(some 65), 1040, none, .mv (.t 9)⟩,
    ⟨(some 66), 1056, none, .mv (.t 10)⟩,
    ⟨(some 67), 1072, none, .bi false .add (.t 66) (.c (.int .i64 3))⟩,
    ⟨(some 68), 1088, none, .bd [(.int .i64 0), (.int .i64 0), (.int .i64 0), (.int .i64 0)] [(0, 1, (.t 65)), (1, 1, (.t 67)), (2, 1, (.c (.int .i64 7)))]⟩,
    ⟨(some 69), 1104, none, .bs 23 4 [(.t 68)]⟩,
    ⟨(some 70), 1120, none, .app 23 4 32 (.t 64) (.t 69)⟩,
    ⟨(some 71), 1136, none, .mv (.t 9)⟩,
    ⟨(some 72), 1152, none, .mv (.t 10)⟩,
    ⟨(some 73), 1168, none, .call (.c (.fn (.func 13) [] [])) [(.t 70), (.t 71), (.t 72), (.c (.int .i64 9))]⟩,
    ⟨(some 62), 992, none, .mv (.t 73)⟩,
    ⟨(some 74), 1184, none, .ex (.t 62) 0⟩,
    ⟨(some 75), 1200, none, .ex (.t 62) 1⟩,
    ⟨(some 18), 288, none, .mv (.t 74)⟩,
    ⟨(some 19), 304, none, .mv (.t 75)⟩])
  (.seq (.seq (.reg [⟨(some 76), 1216, none, .mv (.t 12)⟩,
    ⟨(some 77), 1232, none, .mv (.t 17)⟩,
    ⟨(some 78), 1248, none, .bi false .add (.t 76) (.t 77)⟩,
    ⟨(some 79), 1264, none, .mv (.t 19)⟩,
    ⟨(some 80), 1280, none, .bi false .add (.t 78) (.t 79)⟩,
    ⟨(some 81), 1296, none, .bi false .neq (.t 80) (.c (.int .i64 0))⟩,
    ⟨(some 82), 1312, none, .mv (.t 81)⟩,
    ⟨(some 83), 1328, (some (82, false)), .mv (.t 11)⟩,
    ⟨(some 84), 1344, (some (82, false)), .len (.t 83)⟩,
    ⟨(some 85), 1360, (some (82, false)), .bi false .neq (.t 84) (.c (.int .i64 9))⟩,
    ⟨(some 86), 1376, none, .pick (.t 82) (.c (.bool true)) (.t 85)⟩,
    ⟨(some 87), 1392, none, .mv (.t 86)⟩,
    ⟨(some 88), 1408, (some (87, false)), .mv (.t 18)⟩,
    ⟨(some 89), 1424, (some (87, false)), .len (.t 88)⟩,
    ⟨(some 90), 1440, (some (87, false)), .bi false .neq (.t 89) (.c (.int .i64 9))⟩,
    ⟨(some 91), 1456, none, .pick (.t 87) (.c (.bool true)) (.t 90)⟩,
    ⟨(some 92), 1472, none, .mv (.t 91)⟩,
    ⟨(some 93), 1488, (some (92, false)), .mv (.t 11)⟩,
    ⟨(some 94), 1504, (some (92, false)), .mv (.t 16)⟩,
    ⟨(some 95), 1520, (some (92, false)), .call (.c (.fn (.func 15) [] [])) [(.t 93), (.t 94)]⟩,
    ⟨(some 96), 1536, (some (92, false)), .un false .not (.t 95)⟩,
    ⟨(some 97), 1552, none, .pick (.t 92) (.c (.bool true)) (.t 96)⟩])
  (.cond (.t 97) (.seq (.reg [⟨(some 6), 96, none, .mv (.c (.bool false))⟩])
  .ret) .skip))
  (.seq (.seq (.reg [⟨(some 98), 1568, none, .mv (.t 11)⟩,
    ⟨(some 99), 1584, none, .len (.t 98)⟩,
    ⟨(some 100), 1600, none, .mv (.c (.int .i64 0))⟩])
  (.block 2 (.loop c4L2)))
  (.seq (.reg [⟨(some 159), 2544, none, .mv (.t 18)⟩,
    ⟨(some 160), 2560, none, .ia 4 (.t 159) (.c (.int .i64 3))⟩,
    ⟨(some 161), 2576, none, .ld 4 true (.t 160)⟩,
    ⟨(some 162), 2592, none, .mv (.t 9)⟩,
    ⟨(some 163), 2608, none, .mv (.t 10)⟩,
    ⟨(some 164), 2624, none, .bi false .add (.t 163) (.c (.int .i64 3))⟩,
    ⟨(some 165), 2640, none, .bd [(.int .i64 0), (.int .i64 0), (.int .i64 0), (.int .i64 0)] [(0, 1, (.t 162)), (1, 1, (.t 164)), (2, 1, (.c (.int .i64 7)))]⟩,
    ⟨(some 166), 2656, none, .eqa false [0, 0, 0, 0] (.t 161) (.t 165)⟩,
    ⟨(some 167), 2672, none, .mv (.t 166)⟩,
    ⟨(some 168), 2688, (some (167, true)), .call (.c (.fn (.func 9) [] [])) []⟩,
    ⟨(some 169), 2704, none, .pick (.t 167) (.t 168) (.c (.bool false))⟩,
    ⟨(some 6), 96, none, .mv (.t 169)⟩])
  .ret))))))))))))
theorem fits4 : fits Tryd.prog false Tryd.f4 3 170 [(6, none)] = some c4.er := by kernel_rfl

def fndB (l : List Rd) (u : Int) : Bool := l.any fun s => s.t == u
def ofG (l : List Rd) (g : Int) : List Rd := l.filter fun r => r.g == g
theorem fndB_push (l : List Rd) (r : Rd) (u : Int) : fndB (l ++ [r]) u = (bif fndB l u then true else r.t == u) := by
  unfold fndB
  rw [List.any_append]
  cases l.any (fun s => s.t == u) <;> simp
theorem foldl_stepO (g t : Int) : ∀ (l : List Rd) (x : Option Rd), l.foldl (stepO g t) x = ((l.filter fun r => decide (r.g = g ∧ r.t = t)).getLast?).or x
  | [], x => by simp
  | r :: l, x => by
    rw [List.foldl_cons, foldl_stepO g t l]
    unfold stepO
    by_cases h : r.g = g ∧ r.t = t
    · rw [if_pos h, List.filter_cons_of_pos (by simpa using h), List.getLast?_cons]
      cases (List.filter (fun r => decide (r.g = g ∧ r.t = t)) l).getLast? <;> rfl
    · rw [if_neg h, List.filter_cons_of_neg (by simpa using h)]
theorem lastO_eq (l : List Rd) (g t : Int) : lastO l g t = (l.filter fun r => decide (r.g = g ∧ r.t = t)).getLast? := by
  unfold lastO; rw [foldl_stepO]; simp
theorem lastO_ofG (l : List Rd) (g t : Int) : lastO (ofG l g) g t = lastO l g t := by
  rw [lastO_eq, lastO_eq]
  unfold ofG
  rw [List.filter_filter]
  congr 1
  refine List.filter_congr fun r _ => ?_
  by_cases h : r.g = g <;> simp [h]
theorem lastR_gt (l : List Rd) (g t : Int) : (lastR l g t).g = g ∧ (lastR l g t).t = t := by
  unfold lastR
  cases h : lastO l g t with
  | none => exact ⟨rfl, rfl⟩
  | some r =>
    rw [lastO_eq] at h
    have := List.mem_filter.1 (List.mem_of_getLast? h)
    simpa using this.2
theorem lastR_no {l : List Rd} {g t : Int} (h : fndB (ofG l g) t = false) : lastR l g t = ⟨g, t, 0, 2⟩ := by
  unfold lastR
  have : lastO l g t = none := by
    rw [lastO_eq]
    have he : (l.filter fun r => decide (r.g = g ∧ r.t = t)) = [] := by
      rw [List.filter_eq_nil_iff]
      intro r hr hh
      have hh' : r.g = g ∧ r.t = t := of_decide_eq_true hh
      have h2 : fndB (ofG l g) t = true := List.any_eq_true.2 ⟨r, List.mem_filter.2 ⟨hr, by simpa using hh'.1⟩, by simpa using hh'.2⟩
      rw [h] at h2; cases h2
    rw [he]; rfl
  rw [this]; rfl
theorem serL_get {l : List Rd} {g a : Int} {n i : Nat} (h : i < n) : (serL l g a n).getD i default = lastR l g (a + i) := by
  simp [serL, List.getD, h]
theorem serL_ofG (l : List Rd) (g a : Int) (n : Nat) : serL (ofG l g) g a n = serL l g a n := by
  unfold serL
  refine List.map_congr_left fun i _ => ?_
  unfold lastR; rw [lastO_ofG]
theorem allR_valid {l : List Rd} (hl : l.length ≤ 4096) (h : ∀ r ∈ l, RdV r) : allR l = 0 := by
  have := lim_valid hl h
  unfold limR at this
  rw [if_neg (by omega)] at this; exact this
theorem series_ok {l : List Rd} {g a : Int} (hl : l.length ≤ 4096) (h : ∀ r ∈ l, RdV r) (hg : 0 ≤ g ∧ g ≤ 255) (ha : 0 ≤ a ∧ a ≤ 100) : seriesF l g a 9 = (serL l g a 9, 0) := by
  unfold seriesF
  rw [if_neg (by omega), if_neg (by omega), if_neg (fun hh => hh (allR_valid hl h))]
  rfl
theorem ofG_push (l : List Rd) (r : Rd) (g : Int) : ofG (l ++ [r]) g = ofG l g ++ if r.g = g then [r] else [] := by
  unfold ofG
  rw [List.filter_append]
  by_cases h : r.g = g <;> simp [h]
theorem ofG_len (l : List Rd) (g : Int) : (ofG l g).length ≤ l.length := List.length_filter_le _ _

set_option maxRecDepth 100000 in
set_option maxHeartbeats 16000000 in
theorem call4 (l : List Int) (p b : Int) (hp : -9223372036854775808 ≤ p ∧ p ≤ 9223372036854775807) (hb : -9223372036854775808 ≤ b ∧ b ≤ 9223372036854775807) : PureCall Tryd.prog 4 [.sl 1 1 l.length (fl eInt l), .int .i64 p, .int .i64 b] [] ⟨.bool true, [], []⟩ := by
  refine pure_call mix Tryd.func4 fits4 rfl ?_
  conv => whnf
  refine ⟨_, fun _ => call_new 1 l, ?_⟩
  conv => whnf
  refine ⟨_, fun _ => call11 ⟨l, 0⟩ 14 (by dsimp only; omega) (by decide), ?_⟩
  obtain ⟨_, _, _, _, ha1, ha2⟩ := readS_ok ⟨l, 0⟩ 14 (by decide)
  dsimp only at ha1 ha2
  generalize readS ⟨l, 0⟩ 14 = A at ha1 ha2 ⊢
  have hva := ok_valid ha2
  have la : A.l.length ≤ 14 := by omega
  conv => whnf
  refine ⟨_, fun _ => call_mod p 4 (by decide) (by decide), ?_⟩
  conv => whnf
  refine ⟨_, fun _ => call_mod b 12 (by decide) (by decide), ?_⟩
  have hg0 : 0 ≤ p % 4 ∧ p % 4 < 4 := by omega
  have ht0 : 0 ≤ b % 12 ∧ b % 12 < 12 := by omega
  generalize p % 4 = g at hg0 ⊢
  generalize b % 12 = t at ht0 ⊢
  conv => whnf
  refine ⟨_, fun _ => call13 1 A.l g t 9 (by omega) (by omega), ?_⟩
  rw [series_ok (by omega) hva (by omega) (by omega)]
  conv => whnf
  refine ⟨?_, ?_⟩
  · (try conv => whnf)
    (repeat' (first | exact True.intro | exact fun _ h => h | refine inR64_of ?_ ?_ | apply And.intro | refine maxLen_ge ?_)) <;> (first | omega | decide | (dsimp only; omega) | (dsimp only [List.length_cons, List.length_nil]; omega) | (intro hg; rw [hg]; rfl) | (intro hg hh; rw [hg, hh]; rfl) | (intro hg; simp [-List.getD_eq_getElem?_getD, -Int.default_eq_zero] at hg; first | omega | (refine inR64_of ?_ ?_ <;> omega) | (constructor <;> omega)) | (simp [-List.getD_eq_getElem?_getD, -Int.default_eq_zero]; done))
  refine LSem.adopt 13 1000000 23 4 4 rfl rfl ?_
  refine LSem.loop (n := 170) mix (α := Nat) (fun i => i ≤ A.l.length)
    (fun i => [(8, .sl 0 4 A.l.length (fl eRd A.l)), (9, .int .i64 g), (10, .int .i64 t), (11, .sl 0 4 (serL A.l g t 9).length (fl eRd (serL A.l g t 9))), (12, .int .i64 0), (13, .os 1000000), (40, .sl 0 4 A.l.length (fl eRd A.l)), (41, .int .i64 A.l.length), (42, .int .i64 i)])
    (fun i => [(1000000, .row 0 23 4 (ofG (A.l.take i) g).length (fl eRd (ofG (A.l.take i) g)))]) (fun i => A.l.length - i) 0 ?_ ?_ ?_
  · exact Nat.zero_le _
  · refine ⟨rfl, rfl, ?_, ?_⟩
    all_goals repeat' (first | exact True.intro | refine leF_cons rfl ?_ ?_ | refine leS_cons rfl ?_ ?_ | (show PLe _ _ _ _; conv => whnf) | (show SLe _ _ _ _; conv => whnf) | (show PLeL _ _ _ _; conv => whnf) | apply And.intro | rfl | exact Nat.le_refl _ | exact fun _ _ => rfl | exact rowEq0 _ _)
    all_goals skip
  · intro i hi
    have hj : ((i : Int)).toNat = i := by omega
    conv => whnf
    refine ⟨trivial, fun hc => ?_, fun hc => ?_⟩
    · replace hc := of_decide_eq_true hc
      have hlt : i < A.l.length := by
        have h : (i : Int) < A.l.length := hc
        omega
      have htp := take_pushR hlt
      have hol := ofG_len (A.l.take i) g
      rw [List.length_take] at hol
      conv => whnf
      rw [hj]
      generalize A.l.getD i default = r at htp ⊢
      have hop := ofG_push (A.l.take i) r g
      rw [← htp] at hop
      refine ⟨?_, fun hg => ?_, fun hg => ?_⟩
      · (try conv => whnf)
        (repeat' (first | exact True.intro | exact fun _ h => h | refine inR64_of ?_ ?_ | apply And.intro | refine maxLen_ge ?_)) <;> (first | omega | decide | (dsimp only; omega) | (dsimp only [List.length_cons, List.length_nil]; omega) | (intro hg; rw [hg]; rfl) | (intro hg hh; rw [hg, hh]; rfl) | (intro hg; simp [-List.getD_eq_getElem?_getD, -Int.default_eq_zero] at hg; first | omega | (refine inR64_of ?_ ?_ <;> omega) | (constructor <;> omega)) | (simp [-List.getD_eq_getElem?_getD, -Int.default_eq_zero]; done))
      · have hg' : r.g = g := by simpa using hg
        rw [if_pos hg'] at hop
        have q := fl_push eRd (ofG (A.l.take i) g) r
        rw [← hop] at q
        have hxl : (ofG (A.l.take (i + 1)) g).length = (ofG (A.l.take i) g).length + 1 := by rw [hop]; simp
        conv => whnf
        refine ⟨?_, i + 1, hlt, ?_, rfl, rfl, ?_, ?_⟩
        · (try conv => whnf)
          (repeat' (first | exact True.intro | exact fun _ h => h | refine inR64_of ?_ ?_ | apply And.intro | refine maxLen_ge ?_)) <;> (first | omega | decide | (dsimp only; omega) | (dsimp only [List.length_cons, List.length_nil]; omega) | (intro hg; rw [hg]; rfl) | (intro hg hh; rw [hg, hh]; rfl) | (intro hg; simp [-List.getD_eq_getElem?_getD, -Int.default_eq_zero] at hg; first | omega | (refine inR64_of ?_ ?_ <;> omega) | (constructor <;> omega)) | (simp [-List.getD_eq_getElem?_getD, -Int.default_eq_zero]; done))
        · omega
        all_goals repeat' (first | exact True.intro | refine leF_cons rfl ?_ ?_ | refine leS_cons rfl ?_ ?_ | (show PLe _ _ _ _; conv => whnf) | (show SLe _ _ _ _; conv => whnf) | (show PLeL _ _ _ _; conv => whnf) | apply And.intro | rfl | exact Nat.le_refl _ | exact fun _ _ => rfl | exact rowEq0 _ _)
        all_goals first | exact q | (rw [hxl]; rfl) | (rw [hxl]; done) | omega | skip
      · have hg' : ¬ r.g = g := by simpa using hg
        rw [if_neg hg', List.append_nil] at hop
        conv => whnf
        refine ⟨?_, i + 1, hlt, ?_, rfl, rfl, ?_, ?_⟩
        · (try conv => whnf)
          (repeat' (first | exact True.intro | exact fun _ h => h | refine inR64_of ?_ ?_ | apply And.intro | refine maxLen_ge ?_)) <;> (first | omega | decide | (dsimp only; omega) | (dsimp only [List.length_cons, List.length_nil]; omega) | (intro hg; rw [hg]; rfl) | (intro hg hh; rw [hg, hh]; rfl) | (intro hg; simp [-List.getD_eq_getElem?_getD, -Int.default_eq_zero] at hg; first | omega | (refine inR64_of ?_ ?_ <;> omega) | (constructor <;> omega)) | (simp [-List.getD_eq_getElem?_getD, -Int.default_eq_zero]; done))
        · omega
        all_goals repeat' (first | exact True.intro | refine leF_cons rfl ?_ ?_ | refine leS_cons rfl ?_ ?_ | (show PLe _ _ _ _; conv => whnf) | (show SLe _ _ _ _; conv => whnf) | (show PLeL _ _ _ _; conv => whnf) | apply And.intro | rfl | exact Nat.le_refl _ | exact fun _ _ => rfl | exact rowEq0 _ _)
        all_goals first | (rw [hop]; done) | (rw [hop]; exact fun _ _ => rfl) | omega | skip
    · replace hc := of_decide_eq_false hc
      have hk : i = A.l.length := by
        have h : ¬ (i : Int) < A.l.length := hc
        omega
      subst hk
      rw [List.take_length]
      have hol := ofG_len A.l g
      have hvo : ∀ r ∈ ofG A.l g, RdV r := fun r hr => hva r (List.mem_filter.1 hr).1
      conv => whnf
      refine ⟨_, fun _ => call13 2 (ofG A.l g) g t 9 (by omega) (by omega), ?_⟩
      rw [series_ok (by omega) hvo (by omega) (by omega), serL_ofG]
      obtain ⟨q, hq⟩ : ∃ q : Rd, q = ⟨g, t + 3, 7, 0⟩ := ⟨_, rfl⟩
      have hvq : ∀ r ∈ A.l ++ [q], RdV r := fun r hr => by
        rcases List.mem_append.1 hr with h | h
        · exact hva r h
        · rw [List.mem_singleton.1 h, hq]
          exact ⟨by dsimp only; omega, by dsimp only; omega, by dsimp only; omega, by dsimp only; omega⟩
      have hF := fl_push eRd A.l q
      have hN : A.l.length + 1 = (A.l ++ [q]).length := by simp
      conv => whnf
      refine ⟨_, fun _ => PureCall.arg_le (call13 2 (A.l ++ [q]) g t 9 (by rw [← hN]; omega) (by omega)) rfl ⟨⟨Nat.le_refl _, rfl, hN, by rw [hq] at hF ⊢; exact hF⟩, ⟨rfl, rfl⟩, ⟨rfl, rfl⟩, ⟨rfl, rfl⟩, trivial⟩, ?_⟩
      rw [series_ok (by rw [← hN]; omega) hvq (by omega) (by omega)]
      have hzl := serL_len (A.l ++ [q]) g t 9
      have hxl := serL_len A.l g t 9
      have hzi : ∀ i : Nat, i < 9 → (serL (A.l ++ [q]) g t 9).getD i default = if i = 3 then q else lastR A.l g (t + i) := fun i hi => by
        rw [serL_get hi, lastR_push]
        by_cases e : i = 3
        · rw [if_pos e, if_pos (by rw [hq]; exact ⟨rfl, by dsimp only; omega⟩)]
        · rw [if_neg e, if_neg (by rw [hq]; dsimp only; omega)]
      generalize serL (A.l ++ [q]) g t 9 = Z at hzl hzi ⊢
      have hxi : ∀ i : Nat, i < 9 → (serL A.l g t 9).getD i default = lastR A.l g (t + i) := fun i hi => serL_get hi
      generalize serL A.l g t 9 = X at hxl hxi ⊢
      have hno : ∀ u, fndB (ofG A.l g) u = false → lastR A.l g u = ⟨g, u, 0, 2⟩ := fun u h => lastR_no h
      have hgt := fun u => lastR_gt A.l g u
      generalize ofG A.l g = O at hol hno ⊢
      generalize lastR A.l g = W at hxi hzi hno hgt
      conv => whnf
      refine ⟨_, fun _ => call15 (lendT 0) (lendT 0) X X (by omega), ?_⟩
      rw [decide_eq_true (p := X = X) rfl]
      conv => whnf
      refine ⟨?_, fun hc => ?_, fun _ => ?_⟩
      · (try conv => whnf)
        have hN2 : (Z, (0 : Int)).fst.length = 9 := hzl
        have hN3 : (X, (0 : Int)).fst.length = 9 := hxl
        (repeat' (first | exact True.intro | exact fun _ h => h | exact fun _ => trivial | refine inR64_of ?_ ?_ | apply And.intro | refine maxLen_ge ?_)) <;> (first | omega | (dsimp only; omega) | (intro _; omega) | (show (A.l.length + 1) * 32 ≤ 140737488355328; omega) | (show A.l.length + 1 ≤ 4611686018427387904; omega) | (simp; done))
      · exfalso
        rw [show ((X.length : Int) != 9) = false by rw [hxl]; rfl, show ((Z.length : Int) != 9) = false by rw [hzl]; rfl] at hc
        cases hc
      conv => whnf
      refine ⟨?_, ?_⟩
      · (try conv => whnf)
        (repeat' (first | exact True.intro | exact fun _ h => h | refine inR64_of ?_ ?_ | apply And.intro | refine maxLen_ge ?_)) <;> (first | omega | decide | (dsimp only; omega) | (dsimp only [List.length_cons, List.length_nil]; omega) | (intro hg; rw [hg]; rfl) | (intro hg hh; rw [hg, hh]; rfl) | (intro hg; simp [-List.getD_eq_getElem?_getD, -Int.default_eq_zero] at hg; first | omega | (refine inR64_of ?_ ?_ <;> omega) | (constructor <;> omega)) | (simp [-List.getD_eq_getElem?_getD, -Int.default_eq_zero]; done))
      refine LSem.loop (n := 170) mix (α := Nat) (fun i => i ≤ 9)
        (fun i => [(9, .int .i64 g), (10, .int .i64 t), (13, .os 1000000), (18, .sl 0 4 Z.length (fl eRd Z)), (98, .sl 0 4 X.length (fl eRd X)), (99, .int .i64 X.length), (100, .int .i64 i)])
        (fun i => [(1000000, .row 0 23 4 O.length (fl eRd O))]) (fun i => 9 - i) 0 ?_ ?_ ?_
      · exact Nat.zero_le _
      · refine ⟨rfl, rfl, ?_, ?_⟩
        all_goals repeat' (first | exact True.intro | refine leF_cons rfl ?_ ?_ | refine leS_cons rfl ?_ ?_ | (show PLe _ _ _ _; conv => whnf) | (show SLe _ _ _ _; conv => whnf) | (show PLeL _ _ _ _; conv => whnf) | apply And.intro | rfl | exact Nat.le_refl _ | exact fun _ _ => rfl | exact rowEq0 _ _)
        all_goals skip
      · intro i hi
        have hj : ((i : Int)).toNat = i := by omega
        conv => whnf
        refine ⟨trivial, fun hc => ?_, fun hc => ?_⟩
        · replace hc := of_decide_eq_true hc
          have hlt : i < 9 := by
            have h : (i : Int) < X.length := hc
            omega
          conv => whnf
          rw [hj]
          refine ⟨?_, ?_⟩
          · (try conv => whnf)
            (repeat' (first | exact True.intro | exact fun _ h => h | refine inR64_of ?_ ?_ | apply And.intro | refine maxLen_ge ?_)) <;> (first | omega | decide | (dsimp only; omega) | (dsimp only [List.length_cons, List.length_nil]; omega) | (intro hg; rw [hg]; rfl) | (intro hg hh; rw [hg, hh]; rfl) | (intro hg; simp [-List.getD_eq_getElem?_getD, -Int.default_eq_zero] at hg; first | omega | (refine inR64_of ?_ ?_ <;> omega) | (constructor <;> omega)) | (simp [-List.getD_eq_getElem?_getD, -Int.default_eq_zero]; done))
          refine LSem.loop (n := 170) mix (α := Nat) (fun j => j ≤ O.length)
            (fun j => [(9, .int .i64 g), (10, .int .i64 t), (13, .os 1000000), (18, .sl 0 4 Z.length (fl eRd Z)), (98, .sl 0 4 X.length (fl eRd X)), (99, .int .i64 X.length), (100, .int .i64 i), (20, .int .i64 i), (21, .pt 336 0 0), (22, .bool (fndB (O.take j) (t + i))), (105, .os 1000000), (106, .int .i64 O.length), (107, .int .i64 j)])
            (fun j => [(1000000, .row 0 23 4 O.length (fl eRd O)), (336, .box (eRd (X.getD i default)))]) (fun j => O.length - j) 0 ?_ ?_ ?_
          · exact Nat.zero_le _
          · refine ⟨rfl, rfl, ?_, ?_⟩
            all_goals repeat' (first | exact True.intro | refine leF_cons rfl ?_ ?_ | refine leS_cons rfl ?_ ?_ | (show PLe _ _ _ _; conv => whnf) | (show SLe _ _ _ _; conv => whnf) | (show PLeL _ _ _ _; conv => whnf) | apply And.intro | rfl | exact Nat.le_refl _ | exact fun _ _ => rfl | exact rowEq0 _ _)
            all_goals skip
          · intro j hjj
            have hjt : ((j : Int)).toNat = j := by omega
            conv => whnf
            refine ⟨trivial, fun hc3 => ?_, fun hc3 => ?_⟩
            · replace hc3 := of_decide_eq_true hc3
              have hltj : j < O.length := by
                have h : (j : Int) < O.length := hc3
                omega
              have htp := take_pushR hltj
              conv => whnf
              rw [hjt]
              generalize O.getD j default = r at htp ⊢
              have hfp := fndB_push (O.take j) r (t + i)
              rw [← htp] at hfp
              refine ⟨?_, j + 1, hltj, ?_, rfl, rfl, ?_, ?_⟩
              · (try conv => whnf)
                (repeat' (first | exact True.intro | exact fun _ h => h | refine inR64_of ?_ ?_ | apply And.intro | refine maxLen_ge ?_)) <;> (first | omega | decide | (dsimp only; omega) | (dsimp only [List.length_cons, List.length_nil]; omega) | (intro hg; rw [hg]; rfl) | (intro hg hh; rw [hg, hh]; rfl) | (intro hg; simp [-List.getD_eq_getElem?_getD, -Int.default_eq_zero] at hg; first | omega | (refine inR64_of ?_ ?_ <;> omega) | (constructor <;> omega)) | (simp [-List.getD_eq_getElem?_getD, -Int.default_eq_zero]; done))
              · omega
              all_goals repeat' (first | exact True.intro | refine leF_cons rfl ?_ ?_ | refine leS_cons rfl ?_ ?_ | (show PLe _ _ _ _; conv => whnf) | (show SLe _ _ _ _; conv => whnf) | (show PLeL _ _ _ _; conv => whnf) | apply And.intro | rfl | exact Nat.le_refl _ | exact fun _ _ => rfl | exact rowEq0 _ _)
              all_goals first | exact hfp.symm | omega | skip
            · replace hc3 := of_decide_eq_false hc3
              have hk : j = O.length := by
                have h : ¬ (j : Int) < O.length := hc3
                omega
              subst hk
              rw [List.take_length]
              have hXi := hxi i hlt
              have hZi := hzi i hlt
              have hni := hno (t + i)
              obtain ⟨hw1, hw2⟩ := hgt (t + i)
              rw [hXi]
              generalize W (t + i) = w at hXi hZi hni hw1 hw2 ⊢
              conv => whnf
              rw [hj, hZi]
              refine ⟨rfl, ?_, fun hc4 => ?_, fun hc4 => ?_⟩
              · (repeat' (first | exact True.intro | exact fun h _ => h | exact fun h1 h2 => by rw [h1, h2]; rfl | exact fun h => by rw [h]; rfl | apply And.intro)) <;> (first | exact fun _ => inR64_of (by omega) (by omega) | exact fun _ => ⟨by omega, by omega⟩ | exact fun _ => by omega | (dsimp only; omega) | skip)
                all_goals trace_state
              · exfalso
                cases hf : fndB O (t + i) with
                | true =>
                  simp only [hw1, hw2, hf] at hc4
                  by_cases h3 : i = 3
                  · have h3' : (i : Int) = 3 := by omega
                    simp [h3'] at hc4
                  · have h3' : ¬ (i : Int) = 3 := by omega
                    simp [hw1, hw2, h3, h3'] at hc4
                | false =>
                  have hn := hni hf
                  rw [hn] at hc4
                  simp only [hf] at hc4
                  by_cases h3 : i = 3
                  · have h3' : (i : Int) = 3 := by omega
                    simp [h3'] at hc4
                  · have h3' : ¬ (i : Int) = 3 := by omega
                    simp [h3, h3'] at hc4
              · conv => whnf
                refine ⟨?_, i + 1, hlt, ?_, rfl, rfl, ?_, ?_⟩
                · (try conv => whnf)
                  (repeat' (first | exact True.intro | exact fun _ h => h | refine inR64_of ?_ ?_ | apply And.intro | refine maxLen_ge ?_)) <;> (first | omega | decide | (dsimp only; omega) | (dsimp only [List.length_cons, List.length_nil]; omega) | (intro hg; rw [hg]; rfl) | (intro hg hh; rw [hg, hh]; rfl) | (intro hg; simp [-List.getD_eq_getElem?_getD, -Int.default_eq_zero] at hg; first | omega | (refine inR64_of ?_ ?_ <;> omega) | (constructor <;> omega)) | (simp [-List.getD_eq_getElem?_getD, -Int.default_eq_zero]; done))
                · omega
                all_goals repeat' (first | exact True.intro | refine leF_cons rfl ?_ ?_ | refine leS_cons rfl ?_ ?_ | (show PLe _ _ _ _; conv => whnf) | (show SLe _ _ _ _; conv => whnf) | (show PLeL _ _ _ _; conv => whnf) | apply And.intro | rfl | exact Nat.le_refl _ | exact fun _ _ => rfl | exact rowEq0 _ _)
                all_goals first | omega | skip
        · replace hc := of_decide_eq_false hc
          have hk : i = 9 := by
            have h : ¬ (i : Int) < X.length := hc
            omega
          subst hk
          have hZ3 := hzi 3 (by decide)
          rw [if_pos rfl, hq] at hZ3
          conv => whnf
          rw [show Int.toNat 3 = 3 from rfl, hZ3]
          refine ⟨_, fun _ => call9, ?_⟩
          conv => whnf
          refine ⟨?_, [], ?_⟩
          · (try conv => whnf)
            (repeat' (first | exact True.intro | exact fun h _ => h | exact fun _ => trivial | exact fun h => by rw [h]; rfl | refine inR64_of ?_ ?_ | apply And.intro)) <;> (first | omega | (dsimp only; omega) | skip)
            all_goals trace_state
          conv => whnf
          refine ⟨rfl, ?_, trivial, trivial⟩
          all_goals repeat' (first | exact True.intro | refine leF_cons rfl ?_ ?_ | refine leS_cons rfl ?_ ?_ | (show PLe _ _ _ _; conv => whnf) | (show SLe _ _ _ _; conv => whnf) | (show PLeL _ _ _ _; conv => whnf) | apply And.intro | rfl | exact Nat.le_refl _ | exact fun _ _ => rfl | exact rowEq0 _ _)
          simp
end Pv
end Go.Proofs.YtgbknfbcjddnhaaDoor

/- ARGUMENTS AS THEY COME IN: what a readable argument stands for. -/
set_option linter.unusedSimpArgs false
set_option linter.unusedVariables false
namespace Go.Proofs.YtgbknfbcjddnhaaDoor
namespace Pv
open Go.RowKit Go.ChangeShapes

/-- The shape of a cell. -/
inductive Sh where
  | int (k : IntKind)
  | bool
  | str
  | sl (shs : List Sh)
  deriving Inhabited

inductive ShR : Sh → PV → Prop where
  | int (k : IntKind) (n : Int) (h : inR k n) : ShR (.int k) (.int k n)
  | bool (b : Bool) : ShR .bool (.bool b)
  | str (s : List UInt8) (h : s.length ≤ maxLen) : ShR .str (.str s)
  | sl (shs : List Sh) (n : Nat) (f : Nat → List PV) (hn : n ≤ maxLen) (h1 : ∀ i, i < n → (f i).length = shs.length)
      (h2 : ∀ (i j : Nat) (s : Sh) (p : PV), i < n → shs[j]? = some s → (f i)[j]? = some p → ShR s p) : ShR (.sl shs) (.sl 1 shs.length n f)

def ShL (shs : List Sh) (ps : List PV) : Prop := ps.length = shs.length ∧ ∀ (j : Nat) (s : Sh) (p : PV), shs[j]? = some s → ps[j]? = some p → ShR s p

/-- The fields of a struct, one behind the other. -/
def fieldSh (sh : TypeId → Option (List Sh)) (P : Program) : Nat → List Field → Option (List Sh)
  | _, [] => some []
  | off, f :: fs => if f.offset = off then match sh f.type with
      | some s => if s.length = P.cellsOf f.type then match fieldSh sh P (off + s.length) fs with
          | some r => some (s ++ r)
          | none => none
        else none
      | none => none
    else none

/-- The shapes of a type's cells. -/
def shp (P : Program) : Nat → TypeId → Option (List Sh)
  | 0, _ => none
  | m + 1, t => match P.underlying t with
    | some .bool => some [.bool]
    | some (.int k) => some [.int k]
    | some .string => some [.str]
    | some (.slice e) => match shp P m e with
      | some s => if s.length = P.cellsOf e ∧ 0 < s.length then some [.sl s] else none
      | none => none
    | some (.struct fs) => match fieldSh (shp P m) P 0 fs.toList with
      | some s => if s.length = P.cellsOf t then some s else none
      | none => none
    | _ => none

theorem ShR.flat {s : Sh} {p : PV} (h : ShR s p) : p.flat = true := by cases h <;> rfl
theorem ShR.mark1 {s : Sh} {p : PV} (h : ShR s p) : p.mark 1 = p := by cases h <;> rfl

theorem ShL.append {a b : List Sh} {x y : List PV} (h : ShL a x) (h' : ShL b y) : ShL (a ++ b) (x ++ y) := by
  refine ⟨by simp [h.1, h'.1], fun j s p hs hp => ?_⟩
  rw [List.getElem?_append] at hs hp
  rw [h.1] at hp
  split at hs
  · rename_i hj; rw [if_pos hj] at hp; exact h.2 j s p hs hp
  · rename_i hj; rw [if_neg hj] at hp; exact h'.2 _ s p hs hp

section
variable {H : Type} {enc : TypeId × Value → H} {P : Program} {w : World} {sp : Nat → Bool} {held : Bool} {X : Cx} {γ : Gh}

theorem trod_fields {m n : Nat} {cs : List Value} {xs : List (DataW H × List MemPlace)}
    (ih : ∀ (t : TypeId) (cs : List Value) (x : DataW H × List MemPlace) (shs : List Sh), shp P m t = some shs → DataW.trod enc P w 0 sp held n t cs = some x → ∃ ps, ShL shs ps ∧ RepL X γ w ps cs ∧ ∀ u ∈ cs, u.oneCell' = true) :
    ∀ (fs : List Field) (off k : Nat) (shs : List Sh), fieldSh (shp P m) P off fs = some shs → off + shs.length = cs.length → (∀ i f, fs[i]? = some f → DataW.trod enc P w 0 sp held n f.type ((cs.drop f.offset).take (P.cellsOf f.type)) = xs[k + i]?) → k + fs.length = xs.length →
      ∃ ps, ShL shs ps ∧ RepL X γ w ps (cs.drop off) ∧ ∀ u ∈ cs.drop off, u.oneCell' = true
  | [], off, k, shs, h, hl, hx, hk => by
    simp only [fieldSh, Option.some.injEq] at h; subst h
    have e : cs.drop off = [] := List.drop_eq_nil_of_le (by simpa using hl.symm ▸ Nat.le_refl _)
    rw [e]
    exact ⟨[], ⟨rfl, fun j s p hs => by simp at hs⟩, RepL.nil_, by simp⟩
  | f :: fs, off, k, shs, h, hl, hx, hk => by
    simp only [fieldSh] at h
    split at h
    · rename_i hoff
      split at h
      · rename_i s hs
        split at h
        · rename_i hsl
          split at h
          · rename_i r hr
            injection h with h; subst h
            simp only [List.length_append] at hl
            obtain ⟨ps', h1, h2, h3⟩ := trod_fields (cs := cs) ih fs (off + s.length) (k + 1) r hr (by omega) (fun i f' hf => by
              have := hx (i + 1) f' (by simpa using hf)
              rw [show k + (i + 1) = k + 1 + i from by omega] at this; exact this) (by simp only [List.length_cons] at hk; omega)
            have h0 := hx 0 f rfl
            have hk0 : k + 0 < xs.length := by simp only [List.length_cons] at hk; omega
            rw [List.getElem?_eq_getElem hk0] at h0
            obtain ⟨ps, g1, g2, g3⟩ := ih _ _ _ _ hs h0
            rw [hoff, ← hsl] at g2 g3
            have e : cs.drop off = (cs.drop off).take s.length ++ cs.drop (off + s.length) := by
              rw [← List.drop_drop, List.take_append_drop]
            refine ⟨ps ++ ps', g1.append h1, ?_, ?_⟩
            · rw [e]; exact g2.append h2
            · rw [e]
              intro u hu
              rcases List.mem_append.1 hu with hu | hu
              · exact g3 u hu
              · exact h3 u hu
          · cases h
        · cases h
      · cases h
    · cases h

theorem trod_rep (hX : ∀ b, b < w.heap.size → mayLie X γ 1 b) : ∀ (m fuel : Nat) (t : TypeId) (cs : List Value) (x : DataW H × List MemPlace) (shs : List Sh), shp P m t = some shs → DataW.trod enc P w 0 sp held fuel t cs = some x →
    ∃ ps, ShL shs ps ∧ RepL X γ w ps cs ∧ ∀ u ∈ cs, u.oneCell' = true := by
  have one : ∀ (s : Sh) (p : PV) (v : Value), ShR s p → Rep X γ w p v → v.oneCell' = true → ∃ ps, ShL [s] ps ∧ RepL X γ w ps [v] ∧ ∀ u ∈ [v], u.oneCell' = true := fun s p v h1 h2 h3 =>
    ⟨[p], ⟨rfl, fun j s' p' hs hp => by
      cases j with
      | zero => simp only [List.getElem?_cons_zero, Option.some.injEq] at hs hp; subst hs; subst hp; exact h1
      | succ j => simp at hs⟩, RepL.cons_ h2 RepL.nil_, by simpa using h3⟩
  intro m
  induction m with
  | zero => intro fuel t cs x shs h; simp [shp] at h
  | succ m ih =>
    intro fuel t cs x shs h hd
    simp only [shp] at h
    split at h
    · rename_i ht
      injection h with h; subst h
      obtain ⟨b, rfl, _⟩ := DataW.trod_bool ht hd
      exact one _ _ _ (.bool b) (.bool b) rfl
    · rename_i k ht
      injection h with h; subst h
      obtain ⟨n, rfl, _, hw⟩ := DataW.trod_int ht hd
      simp only [Lit.wf, Bool.and_eq_true, decide_eq_true_eq] at hw
      exact one _ _ _ (.int k n hw) (.int k n) rfl
    · rename_i ht
      injection h with h; subst h
      obtain ⟨s, rfl, _, hw⟩ := DataW.trod_string ht hd
      have e : s = ⟨s.data.toList.toArray⟩ := by cases s; simp
      refine one _ (.str s.data.toList) _ (.str _ (by rw [Array.length_toList]; exact hw)) ?_ rfl
      have := Rep.str (X := X) (γ := γ) (w := w) s.data.toList
      rwa [← e] at this
    · rename_i e ht
      split at h
      · rename_i s hs
        split at h
        · rename_i hc
          obtain ⟨hsl, hpos⟩ := hc
          injection h with h; subst h
          rcases DataW.trod_slice ht hd with ⟨rfl, _⟩ | ⟨a, len, cap, elems, rest, n, hf, rfl, _, hb, hlc, hcm, hel, helem, _, _⟩
          · refine one _ (.sl 1 s.length 0 (fun _ => [])) _ (.sl s 0 _ (Nat.zero_le _) (fun i hi => by omega) (fun i j s p hi => by omega)) ?_ rfl
            exact .sl 1 _ 0 _ none 0 (fun _ => undef) (Nat.le_refl _) (fun i hi => by omega) (fun i hi => by omega) (fun hi => by omega) (fun i j c hi => by omega)
          · have hex : ∀ i, ∃ ps, i < len → ShL s ps ∧ ∃ cs', w.cells? 0 (a.add (i * P.cellsOf e)) (P.cellsOf e) = some cs' ∧ RepL X γ w ps cs' := fun i => by
              by_cases hi : i < len
              · have h1 := helem i hi
                rw [List.getElem?_eq_getElem (by omega)] at h1
                obtain ⟨cs', h2, h3⟩ := Option.bind_eq_some_iff.1 h1
                obtain ⟨ps, g1, g2, _⟩ := ih _ _ _ _ _ hs h3
                exact ⟨ps, fun _ => ⟨g1, cs', h2, g2⟩⟩
              · exact ⟨[], fun h => absurd h hi⟩
            let f : Nat → List PV := fun i => Classical.choose (hex i)
            have hf' : ∀ i, i < len → ShL s (f i) ∧ ∃ cs', w.cells? 0 (a.add (i * P.cellsOf e)) (P.cellsOf e) = some cs' ∧ RepL X γ w (f i) cs' := fun i => Classical.choose_spec (hex i)
            have hcell : ∀ i j, i < len → j < s.length → ∃ u p, w.cell? (a.add (i * s.length + j)) = some u ∧ (f i)[j]? = some p ∧ Rep X γ w p u := fun i j hi hj => by
              obtain ⟨g1, cs', g2, g3⟩ := hf' i hi
              obtain ⟨_, k2, k3⟩ := World.cells?_some g2
              have hj' : j < cs'.length := by rw [k2, ← hsl]; exact hj
              have hk := k3 j (by rw [← hsl]; exact hj)
              rw [List.getElem?_eq_getElem hj', add_add_, ← hsl] at hk
              have hpj : j < (f i).length := by rw [g1.1]; exact hj
              exact ⟨_, _, hk, List.getElem?_eq_getElem hpj, g3.2 j _ _ (List.getElem?_eq_getElem hpj) (List.getElem?_eq_getElem hj')⟩
            refine one _ (.sl 1 s.length len f) _ (.sl s len f (Nat.le_trans hlc hcm) (fun i hi => (hf' i hi).1.1) (fun i j s' p hi hs' hp => (hf' i hi).1.2 j s' p hs' hp)) ?_ rfl
            have hsh : ∀ i, i < len → ∀ c ∈ f i, ∃ s', ShR s' c := fun i hi c hc => by
              obtain ⟨j, hj⟩ := List.getElem?_of_mem hc
              have hlt := (List.getElem?_eq_some_iff.1 hj).1
              have hlt2 : j < s.length := by rw [← (hf' i hi).1.1]; exact hlt
              exact ⟨_, (hf' i hi).1.2 j _ _ (List.getElem?_eq_getElem hlt2) hj⟩
            refine .sl 1 s.length len f (some a) cap (fun k => (w.cell? (a.add k)).getD undef) hlc (fun i hi => (hf' i hi).1.1) (fun i hi c hc => by obtain ⟨s', h⟩ := hsh i hi c hc; exact h.flat) (fun hn => ?_) (fun i j c hi hc => ?_)
            · obtain ⟨u, p, h1, _, _⟩ := hcell 0 0 hn hpos
              have hblk : a.block < w.heap.size := by
                obtain ⟨_, cs', g2, _⟩ := hf' 0 hn
                have := World.cells?_block g2 (by omega)
                have e : (a.add (0 * P.cellsOf e)).block = a.block := by unfold Addr.add; split <;> rfl
                rwa [e] at this
              refine ⟨a, rfl, hX _ hblk, hblk, fun k hk => ?_⟩
              have hk1 : k / s.length < len := by rw [Nat.div_lt_iff_lt_mul hpos]; exact hk
              obtain ⟨u, p, h1, _, _⟩ := hcell (k / s.length) (k % s.length) hk1 (Nat.mod_lt _ hpos)
              rw [Nat.mul_comm, Nat.div_add_mod] at h1
              rw [h1]; rfl
            · have hj : j < s.length := by rw [← (hf' i hi).1.1]; exact (List.getElem?_eq_some_iff.1 hc).1
              obtain ⟨u, p, h1, h2, h3⟩ := hcell i j hi hj
              rw [h2] at hc; injection hc with hc; subst hc
              obtain ⟨s', h⟩ := hsh i hi p (List.mem_of_getElem? h2)
              rw [h.mark1, h1]; exact h3
        · cases h
      · cases h
    · rename_i fs ht
      split at h
      · rename_i s hs
        split at h
        · rename_i hsl
          injection h with h; subst h
          obtain ⟨xs, n, rfl, _, hcl, hxl, hx⟩ := DataW.trod_struct ht hd
          obtain ⟨ps, h1, h2, h3⟩ := trod_fields (cs := cs) (xs := xs) (ih n) fs.toList 0 0 s hs (by omega) (fun i f hf => by rw [Nat.zero_add]; exact hx i f (by simpa using hf)) (by simpa using hxl.symm)
          exact ⟨ps, h1, by simpa using h2, by simpa using h3⟩
        · cases h
      · cases h
    · cases h
end
end Pv
end Go.Proofs.YtgbknfbcjddnhaaDoor

/- A LAW's ROW, FROM ITS FUNCTION's CONTRACT. -/
set_option linter.unusedSimpArgs false
set_option linter.unusedVariables false
namespace Go.Proofs.YtgbknfbcjddnhaaDoor
namespace Pv
open Go.RowKit Go.ChangeShapes

section
variable {H : Type} {enc : TypeId × Value → H} {P : Program} {w : World} {sp : Nat → Bool} {held : Bool}

/-- How a law sees the world that it is called in: all that is there stays. -/
def cx0 (w : World) : Cx := ⟨w.heap.size, fun b => b < w.heap.size, fun _ => False, 0, fun _ => none⟩
def gh0 : Gh := fun _ => none
theorem gh0_own (b : Nat) : ¬ gh0.own b := by rintro ⟨r, ge, h, _⟩; cases h
theorem lie0 (b : Nat) (hb : b < w.heap.size) : mayLie (cx0 w) gh0 1 b := ⟨gh0_own b, .inr (.inl ⟨Nat.le_refl _, hb⟩)⟩
/-- The package variables that are known hold what is known of them. -/
def GlobOK (w : World) : Prop := ∀ b p, glob b = some p → ∃ o, w.heap[b]? = some o ∧ p o
theorem globOK_none (h : ∀ b, glob b = none) : GlobOK w := fun b p hb => by rw [h b] at hb; cases hb
theorem st0 (hgl : GlobOK w) : RepSt (cx0 w) gh0 w (fun r => ([] : List SE)[r]?) :=
  ⟨fun r => by simp [gh0], fun r ge e h => (by cases h), fun r r' ge ge' b h => (by cases h), fun b hb => absurd hb (gh0_own b), fun b hb => absurd hb (gh0_own b), fun b p hb => ⟨hgl b p hb, gh0_own b, by
    obtain ⟨o, h1, _⟩ := hgl b p hb
    exact (Array.getElem?_eq_some_iff.1 h1).1⟩⟩

theorem law_calls (hgl : GlobOK w) {f : FuncId} {args : List PV} {vals : List Value} (h : PureCall P f args [] ⟨.bool true, [], []⟩) (hr : RepL (cx0 w) gh0 w args vals) :
    Calls P f vals.toArray w fun e w' => e = .returned (.bool true) ∧ Below w.heap.size w w' := by
  have hst : RepSt ⟨w.heap.size, (cx0 w).as, (cx0 w).ls, ([] : List SE).length, gh0⟩ gh0 w (fun r => ([] : List SE)[r]?) :=
    st0 (w := w) hgl
  refine (h.2 w gh0 (cx0 w).as (cx0 w).ls vals hst (fun b hb => hb.elim (fun h => h) (fun h => h.elim)) hr).mono ?_
  rintro e w' ⟨v, γ', rfl, hv, _, hk, _, _⟩
  cases hv.bool_inv
  exact ⟨rfl, hk.os, hk.tape, hk.output, hk.size, fun k hk' => hk.block k hk' (gh0_own k)⟩

theorem arg_one {m : Nat} {t : TypeId} {s : Sh} {v : Value} {d : DataW H} {ps : List MemPlace} (hs : shp P m t = some [s]) (hv : v.oneCell' = true) (h : DataW.Trod enc P w 0 sp held t v d ps) : ∃ p, ShR s p ∧ Rep (cx0 w) gh0 w p v := by
  obtain ⟨fuel, hf⟩ := h
  rw [cells_one hv] at hf
  obtain ⟨ps, h1, h2, _⟩ := trod_rep (X := cx0 w) (γ := gh0) lie0 _ _ _ _ _ _ hs hf
  obtain ⟨h1, h1'⟩ := h1
  match ps, h1 with
  | [p], _ =>
    obtain ⟨u, us, hu, hr, _⟩ := h2.cons_inv
    simp only [List.cons.injEq] at hu
    exact ⟨p, h1' 0 s p rfl rfl, by rw [hu.1]; exact hr⟩
theorem arg_agg {m : Nat} {t : TypeId} {shs : List Sh} {cs : Array Value} {d : DataW H} {ps : List MemPlace} (hs : shp P m t = some shs) (h : DataW.Trod enc P w 0 sp held t (.agg cs) d ps) : ∃ qs, ShL shs qs ∧ Rep (cx0 w) gh0 w (.agg qs) (.agg cs) := by
  obtain ⟨fuel, hf⟩ := h
  obtain ⟨qs, h1, h2, h3⟩ := trod_rep (X := cx0 w) (γ := gh0) lie0 _ _ _ _ _ _ hs hf
  have := Rep.agg qs cs.toList h2.1 h3 h2.2
  exact ⟨qs, h1, by simpa using this⟩

theorem Rep.le0 (hgl : GlobOK w) {p q : PV} {v : Value} (h : Rep (cx0 w) gh0 w p v) (hl : PLe (fun r => ([] : List SE)[r]?) (fun _ => true) p q) : Rep (cx0 w) gh0 w q v :=
  h.le (γk := gh0) (st0 hgl) (fun r ge b τ e z n f hr => (by cases hr)) (fun r ge hr _ => hr) (fun r ge hr => ⟨hr, rfl⟩) q hl

/-- A slice that came in, as a list. -/
theorem sh_list (hgl : GlobOK w) {α : Type} [Inhabited α] (e : α → List PV) (Q : α → Prop) {shs : List Sh} (hdec : ∀ ps, ShL shs ps → ∃ x, ps = e x ∧ Q x) {p : PV} (h : ShR (.sl shs) p) {v : Value} (hr : Rep (cx0 w) gh0 w p v) :
    ∃ l : List α, Rep (cx0 w) gh0 w (.sl 1 shs.length l.length (fl e l)) v ∧ l.length ≤ maxLen ∧ ∀ x ∈ l, Q x := by
  cases h with
  | sl _ n f hn h1 h2 =>
    have hx : ∀ i, ∃ x, i < n → f i = e x ∧ Q x := fun i => by
      by_cases hi : i < n
      · obtain ⟨x, hx⟩ := hdec (f i) ⟨h1 i hi, fun j s p hs hp => h2 i j s p hi hs hp⟩
        exact ⟨x, fun _ => hx⟩
      · exact ⟨default, fun h => absurd h hi⟩
    let g : Nat → α := fun i => Classical.choose (hx i)
    have hg : ∀ i, i < n → f i = e (g i) ∧ Q (g i) := fun i => Classical.choose_spec (hx i)
    refine ⟨(List.range n).map g, hr.le0 hgl ?_, by simpa using hn, fun x hm => ?_⟩
    · refine ⟨Nat.le_refl _, rfl, by simp, fun i hi => ?_⟩
      rw [(hg i hi).1]
      simp [fl, List.getD_eq_getElem?_getD, hi]
    · obtain ⟨i, hi, rfl⟩ := List.mem_map.1 hm
      exact (hg i (List.mem_range.1 hi)).2

theorem sh_int {k : IntKind} {p : PV} (h : ShR (.int k) p) : ∃ n, p = .int k n ∧ inR k n := by cases h with | int _ n h => exact ⟨n, rfl, h⟩
theorem sh_bool {p : PV} (h : ShR .bool p) : ∃ b, p = .bool b := by cases h with | bool b => exact ⟨b, rfl⟩
theorem sh_str {p : PV} (h : ShR .str p) : ∃ s, p = .str s ∧ s.length ≤ maxLen := by cases h with | str s h => exact ⟨s, rfl, h⟩
theorem shl_cons {s : Sh} {ss : List Sh} {ps : List PV} (h : ShL (s :: ss) ps) : ∃ p qs, ps = p :: qs ∧ ShR s p ∧ ShL ss qs := by
  obtain ⟨h1, h2⟩ := h
  match ps, h1 with
  | p :: qs, h1 => exact ⟨p, qs, rfl, h2 0 s p rfl rfl, by simpa using h1, fun j s' p' hs hp => h2 (j + 1) s' p' (by simpa using hs) (by simpa using hp)⟩
theorem shl_nil {ps : List PV} (h : ShL [] ps) : ps = [] := List.eq_nil_of_length_eq_zero h.1
end
end Pv
end Go.Proofs.YtgbknfbcjddnhaaDoor

/- A LAW's ROW, FROM ITS FUNCTION's CONTRACT: how long slices are that came in. -/
set_option linter.unusedSimpArgs false
set_option linter.unusedVariables false
namespace Go.Proofs.YtgbknfbcjddnhaaDoor
namespace Pv
open Go.RowKit Go.ChangeShapes

section
variable {H : Type} {enc : TypeId × Value → H} {P : Program} {w : World} {sp : Nat → Bool} {held : Bool}

theorem sized_len {ts : List TypeId} {ds : List (DataW H)} (hz : (DataW.weightsEach P ts ds).all (· ≤ reachBytes) = true) {j : Nat} {t e : TypeId} {d : DataW H} {ps : List MemPlace} {a : Option Addr} {len cap : Nat}
    (ht : ts[j]? = some t) (hd : ds[j]? = some d) (hu : P.underlying t = some (.slice e)) (h : DataW.Trod enc P w 0 sp held t (.slice a len cap) d ps)
    (hb : 0 < P.bytesOf e) {X : Cx} {γ : Gh} {τ z n : Nat} {f : Nat → List PV} (hr : Rep X γ w (.sl τ z n f) (.slice a len cap)) : n ≤ 140737488351232 := by
  have hn : n = len := by cases hr; rfl
  subst hn
  obtain ⟨fuel, hf⟩ := h
  rcases DataW.trod_slice hu hf with ⟨h1, _⟩ | ⟨a', len', cap', elems, rest, m, _, h1, h2, _, _, _, h3, _⟩
  · have h1' : Value.slice a n cap = .slice none 0 0 := by simpa [Value.cells] using h1
    injection h1' with _ h4 _
    omega
  · have h1' : Value.slice a n cap = .slice (some a') len' cap' := by simpa [Value.cells] using h1
    injection h1' with _ h4 _
    injection h2 with h5 _
    subst h5
    have := sized_slice hz ht hd hu
    simp only [List.length_map] at this
    have h6 : n * 1 ≤ (elems.length + rest.length) * P.bytesOf e := Nat.mul_le_mul (by omega) hb
    have h7 : reachBytes = 140737488351232 := rfl
    omega
end
end Pv
end Go.Proofs.YtgbknfbcjddnhaaDoor

set_option linter.unusedSimpArgs false
set_option linter.unusedVariables false
namespace Go.Proofs.YtgbknfbcjddnhaaDoor
namespace Pv
open Go.RowKit Go.ChangeShapes

section
variable {H : Type} {enc : TypeId × Value → H} {P : Program} {w : World} {sp : Nat → Bool} {held : Bool}

def eSl {α : Type} [Inhabited α] (k : Nat) (e : α → List PV) (m : List α) : List PV := [.sl 1 k m.length (fl e m)]

/-- A slice of slices that came in, as a list of lists. -/
theorem sh_list2 (hgl : GlobOK w) {α : Type} [Inhabited α] (e : α → List PV) (Q : α → Prop) {shs : List Sh} (hdec : ∀ ps, ShL shs ps → ∃ x, ps = e x ∧ Q x) {p : PV} (h : ShR (.sl [.sl shs]) p) {v : Value} (hr : Rep (cx0 w) gh0 w p v) :
    ∃ G : List (List α), Rep (cx0 w) gh0 w (.sl 1 1 G.length (fl (eSl shs.length e) G)) v ∧ G.length ≤ maxLen ∧ ∀ m ∈ G, ∀ x ∈ m, Q x := by
  cases h with
  | sl _ n f hn h1 h2 =>
    have hx : ∀ i, ∃ m : List α, i < n → ∃ f', f i = [.sl 1 shs.length m.length f'] ∧ RowEq m.length f' (fl e m) ∧ ∀ x ∈ m, Q x := fun i => by
      by_cases hi : i < n
      · have hl := h1 i hi
        match hf : f i, hl with
        | [c], _ =>
          have hc := h2 i 0 (.sl shs) c hi rfl (by rw [hf]; rfl)
          cases hc with
          | sl _ n' f' hn' g1 g2 =>
            have hy : ∀ i, ∃ x, i < n' → f' i = e x ∧ Q x := fun j => by
              by_cases hj : j < n'
              · obtain ⟨x, hx⟩ := hdec (f' j) ⟨g1 j hj, fun k s p hs hp => g2 j k s p hj hs hp⟩
                exact ⟨x, fun _ => hx⟩
              · exact ⟨default, fun h => absurd h hj⟩
            refine ⟨(List.range n').map fun j => Classical.choose (hy j), fun _ => ⟨f', by simp, fun j hj => ?_, fun x hm => ?_⟩⟩
            · simp only [List.length_map, List.length_range] at hj
              rw [(Classical.choose_spec (hy j) hj).1]
              simp [fl, List.getD_eq_getElem?_getD, hj]
            · obtain ⟨j, hj, rfl⟩ := List.mem_map.1 hm
              exact (Classical.choose_spec (hy j) (List.mem_range.1 hj)).2
      · exact ⟨[], fun h => absurd h hi⟩
    let g : Nat → List α := fun i => Classical.choose (hx i)
    have hg : ∀ i, i < n → ∃ f', f i = [.sl 1 shs.length (g i).length f'] ∧ RowEq (g i).length f' (fl e (g i)) ∧ ∀ x ∈ g i, Q x := fun i => Classical.choose_spec (hx i)
    refine ⟨(List.range n).map g, ?_, by simpa using hn, fun m hm => ?_⟩
    · have hget : ∀ i, i < n → fl (eSl shs.length e) ((List.range n).map g) i = [.sl 1 shs.length (g i).length (fl e (g i))] := fun i hi => by
        simp [fl, eSl, List.getD_eq_getElem?_getD, hi]
      have hlen : ((List.range n).map g).length = n := by simp
      cases hr with
      | sl _ _ _ _ ad cap vs hcap hz hf hb hh =>
        rw [hlen]
        refine .sl 1 1 n _ ad cap vs hcap (fun i hi => by rw [hget i hi]; rfl) (fun i hi c hc => ?_) hb (fun i j c hi hc => ?_)
        · rw [hget i hi] at hc
          rw [List.mem_singleton.1 hc]; rfl
        · rw [hget i hi] at hc
          obtain ⟨f', e1, e2, _⟩ := hg i hi
          cases j with
          | zero =>
            simp only [List.getElem?_cons_zero, Option.some.injEq] at hc
            subst hc
            have := hh i 0 _ hi (by rw [e1]; rfl)
            exact this.le0 hgl ⟨Nat.le_refl _, rfl, rfl, e2⟩
          | succ j => simp at hc
    · obtain ⟨i, hi, rfl⟩ := List.mem_map.1 hm
      obtain ⟨_, _, _, h3⟩ := hg i (List.mem_range.1 hi)
      exact h3

theorem weightsAll_mem {e : TypeId} : ∀ {l : List (DataW H)} {i : Nat} {d : DataW H}, l[i]? = some d → ∀ n ∈ d.weights P e, n ∈ DataW.weightsAll P e l
  | [], i, d, h, n, hn => by simp at h
  | x :: l, 0, d, h, n, hn => by
    simp only [List.getElem?_cons_zero, Option.some.injEq] at h
    subst h
    simp only [DataW.weightsAll, List.mem_append]; exact .inl hn
  | x :: l, i + 1, d, h, n, hn => by
    simp only [DataW.weightsAll, List.mem_append]; exact .inr (weightsAll_mem (by simpa using h) n hn)

theorem sized_len2 {ts : List TypeId} {ds : List (DataW H)} (hz : (DataW.weightsEach P ts ds).all (· ≤ reachBytes) = true) {j : Nat} {t e e2 : TypeId} {d : DataW H} {ps : List MemPlace} {a : Option Addr} {len cap : Nat}
    (ht : ts[j]? = some t) (hd : ds[j]? = some d) (hu : P.underlying t = some (.slice e)) (hu2 : P.underlying e = some (.slice e2)) (hce : P.cellsOf e = 1) (h : DataW.Trod enc P w 0 sp held t (.slice a len cap) d ps)
    {X : Cx} {γ : Gh} {τ n : Nat} {F : Nat → List PV} (hr : Rep X γ w (.sl τ 1 n F) (.slice a len cap)) {i τ' z' N : Nat} {f' : Nat → List PV} (hi : i < n) (hF : F i = [.sl τ' z' N f']) : N * P.bytesOf e2 ≤ 140737488351232 := by
  have hreach : reachBytes = 140737488351232 := rfl
  cases hr with
  | sl _ _ _ _ _ _ vs hcap hz' hf hb hh =>
  obtain ⟨a', rfl, _, _, hcell⟩ := hb (by omega)
  obtain ⟨fuel, hfu⟩ := h
  rcases DataW.trod_slice hu hfu with ⟨h1, _⟩ | ⟨a'', len', cap', elems, rest, m, _, h1, h2, _, _, _, h3, h4, _⟩
  · simp [Value.cells] at h1
  · have h1' : Value.slice (some a') len cap = .slice (some a'') len' cap' := by simpa [Value.cells] using h1
    injection h1' with h5 h6 h7
    injection h5 with h5
    subst h5; subst h6
    injection h2 with h8 _
    subst h8
    have h9 := h4 i hi
    rw [List.getElem?_eq_getElem (by omega), hce, Nat.mul_one] at h9
    obtain ⟨cs', g1, g2⟩ := Option.bind_eq_some_iff.1 h9
    obtain ⟨_, k2, k3⟩ := World.cells?_some g1
    have k4 := k3 0 (by omega)
    have hv := hcell i (by omega)
    rw [add_add_, Nat.add_zero, hv] at k4
    have hcs : cs' = [vs i] := by
      match cs', k2, k4 with
      | [x], _, k4 => simp only [List.getElem?_cons_zero, Option.some.injEq] at k4; rw [k4]
    have hrep := hh i 0 _ hi (by rw [hF]; rfl)
    rw [Nat.mul_one, Nat.add_zero] at hrep
    simp only [PV.mark] at hrep
    subst hcs
    generalize vs i = u at hrep g2
    cases hrep with
    | sl _ _ _ _ ad cap2 vs2 _ _ _ _ _ =>
    rcases DataW.trod_slice hu2 g2 with ⟨q1, _⟩ | ⟨b, len2, cap3, elems2, rest2, m2, _, q1, q2, _, _, _, q3, _⟩
    · have q1' : Value.slice ad N cap2 = .slice none 0 0 := by simpa using q1
      injection q1' with _ q5 _
      subst q5; rw [Nat.zero_mul]; exact Nat.zero_le _
    · have q1' : Value.slice ad N cap2 = .slice (some b) len2 cap3 := by simpa using q1
      injection q1' with _ q5 _
      subst q5
      have hmem : (elems2.map (·.1)).length * P.bytesOf e2 ≤ ((elems2.map (·.1)).length + (rest2.map (·.1)).length) * P.bytesOf e2 := Nat.mul_le_mul_right _ (by omega)
      have he : (elems.map (·.1))[i]? = some (DataW.slice (elems2.map (·.1)) (rest2.map (·.1))) := by
        rw [List.getElem?_map, List.getElem?_eq_getElem (by omega), Option.map_some, q2]
      have hw1 : ((elems2.map (·.1)).length + (rest2.map (·.1)).length) * P.bytesOf e2 ∈ DataW.weightsEach P ts ds := by
        refine DataW.weights_mem_each ht hd _ ?_
        simp only [DataW.weights, hu, List.mem_cons, List.mem_append]
        refine .inr (.inl (weightsAll_mem he _ ?_))
        simp [DataW.weights, hu2]
      have := List.all_eq_true.1 hz _ hw1
      have h10 : ((elems2.map (·.1)).length + (rest2.map (·.1)).length) * P.bytesOf e2 ≤ reachBytes := by simpa using this
      have h11 : (elems2.map (·.1)).length = N := by rw [List.length_map]; exact q3
      rw [h11] at hmem h10
      omega
end
end Pv
end Go.Proofs.YtgbknfbcjddnhaaDoor
