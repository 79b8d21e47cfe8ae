/- LAW 08, THE WALKS, 2: votes. -/
import Derived.Test.YtogoplhikmmggaaQ1
set_option linter.unusedSimpArgs false
set_option linter.unusedVariables false
namespace Go.Proofs.Ytogoplhikmmggaa
namespace Pv
def c13L1 : C := (.seq (.reg [⟨(some 17), 272, none, .bi false .lss (.t 16) (.t 15)⟩])
  (.seq (.cond (.t 17) .skip (.exit 0))
  (.seq (.block 1 (.seq (.reg [⟨(some 18), 288, none, .mv (.t 16)⟩,
    ⟨(some 19), 304, none, .ia 1 (.t 14) (.t 16)⟩,
    ⟨(some 20), 320, none, .ld 1 false (.t 19)⟩,
    ⟨(some 7), 112, none, .mv (.t 18)⟩,
    ⟨(some 8), 128, none, .mv (.t 20)⟩])
  (.seq (.reg [⟨(some 21), 336, none, .mv (.t 1)⟩,
    ⟨(some 22), 352, none, .mv (.t 7)⟩,
    ⟨(some 23), 368, none, .ia 1 (.t 21) (.t 22)⟩,
    ⟨(some 24), 384, none, .ld 1 false (.t 23)⟩])
  (.cond (.t 24) (.reg [⟨(some 25), 400, none, .mv (.t 6)⟩,
    ⟨(some 26), 416, none, .mv (.t 8)⟩,
    ⟨(some 27), 432, none, .bs 3 1 [(.t 26)]⟩,
    ⟨(some 28), 448, none, .app 3 1 8 (.t 25) (.t 27)⟩,
    ⟨(some 6), 96, none, .mv (.t 28)⟩]) .skip))))
  (.reg [⟨(some 29), 464, none, .bi false .add (.t 16) (.c (.int .i64 1))⟩,
    ⟨(some 16), 256, none, .mv (.t 29)⟩]))))
def c13 : C := (.seq (.reg [⟨(some 4), 64, none, .mv (.c (.int .i64 0))⟩,
    ⟨(some 5), 80, none, .mv (.c (.bool false))⟩])
  (.seq (.seq (.reg [⟨(some 9), 144, none, .mv (.t 0)⟩,
    ⟨(some 10), 160, none, .len (.t 9)⟩,
    ⟨(some 11), 176, none, .mv (.t 1)⟩,
    ⟨(some 12), 192, none, .len (.t 11)⟩,
    ⟨(some 13), 208, none, .bi false .neq (.t 10) (.t 12)⟩])
  (.cond (.t 13) (.seq (.reg [⟨(some 4), 64, none, .mv (.c (.int .i64 0))⟩,
    ⟨(some 5), 80, none, .mv (.c (.bool false))⟩])
  .ret) .skip))
  (.seq (.reg [⟨(some 6), 96, none, .mv (.c (.nil 1))⟩])
  (.seq (.seq (.reg [⟨(some 14), 224, none, .mv (.t 0)⟩,
    ⟨(some 15), 240, none, .len (.t 14)⟩,
    ⟨(some 16), 256, none, .mv (.c (.int .i64 0))⟩])
  (.block 0 (.loop c13L1)))
  (.seq (.seq (.reg [⟨(some 30), 480, none, .mv (.t 6)⟩,
    ⟨(some 31), 496, none, .len (.t 30)⟩,
    ⟨(some 32), 512, none, .bi false .eql (.t 31) (.c (.int .i64 0))⟩])
  (.cond (.t 32) (.seq (.reg [⟨(some 4), 64, none, .mv (.c (.int .i64 0))⟩,
    ⟨(some 5), 80, none, .mv (.c (.bool false))⟩])
  .ret) .skip))
  (.seq (.cut (.reg [⟨(some 33), 528, none, .mv (.t 6)⟩,
    ⟨(some 34), 544, none, .call (.c (.fn (.func 32) [] [])) [(.t 33)]⟩]))
  (.seq (.reg [⟨(some 35), 560, none, .mv (.t 6)⟩,
    ⟨(some 36), 576, none, .mv (.t 6)⟩,
    ⟨(some 37), 592, none, .len (.t 36)⟩,
    ⟨(some 38), 608, none, .bi false .sub (.t 37) (.c (.int .i64 1))⟩,
    ⟨(some 39), 624, none, .bi false .quo (.t 38) (.c (.int .i64 2))⟩,
    ⟨(some 40), 640, none, .ia 1 (.t 35) (.t 39)⟩,
    ⟨(some 41), 656, none, .ld 1 false (.t 40)⟩,
    ⟨(some 4), 64, none, .mv (.t 41)⟩,
    ⟨(some 5), 80, none, .mv (.c (.bool true))⟩])
  .ret)))))))
theorem fits13 : fits Try.prog false Try.f13 2 42 [(4, none), (5, none)] = some c13.er := by kernel_rfl

def srt (l : List Int) : List Int := l.mergeSort fun x y => decide (x ≤ y)
theorem srt_len (l : List Int) : (srt l).length = l.length := List.length_mergeSort ..
/-- The good values. -/
def goodL (v : List Int) (g : List Bool) : Nat → List Int
  | 0 => []
  | n + 1 => if g.getD n default = true then goodL v g n ++ [v.getD n default] else goodL v g n
theorem goodL_len (v : List Int) (g : List Bool) : ∀ n, (goodL v g n).length ≤ n
  | 0 => Nat.le_refl _
  | n + 1 => by
    have := goodL_len v g n
    unfold goodL; split
    · rw [List.length_append, List.length_cons, List.length_nil]; omega
    · omega
def voteF (v : List Int) (g : List Bool) : Int × Bool :=
  if v.length ≠ g.length then (0, false) else if (goodL v g v.length).length = 0 then (0, false) else ((srt (goodL v g v.length)).getD (((goodL v g v.length).length - 1) / 2) default, true)

set_option maxHeartbeats 4000000 in
theorem call13 (τ τ' : Nat) (v : List Int) (g : List Bool) (hl : v.length ≤ 1000000) : PureCall Try.prog 13 [.sl τ 1 v.length (fl eInt v), .sl τ' 1 g.length (fl eBool g)] [] ⟨.tup [.int .i64 (voteF v g).1, .bool (voteF v g).2], [], []⟩ := by
  refine pure_call mix Try.func13 fits13 rfl ?_
  conv => whnf
  refine ⟨trivial, fun hc => ?_, fun hc => ?_⟩
  · simp only [bif_t, bif_f, decide_eq_true_eq, decide_eq_false_iff_not, Bool.not_eq_true', Bool.not_eq_false', Bool.and_eq_true, Bool.or_eq_true, Bool.and_eq_false_iff, Bool.or_eq_false_iff, beq_iff_eq, bne_iff_ne, beq_eq_false_iff_ne, bne_eq_false_iff_eq, reduceCtorEq, false_and, and_false, true_and, and_true, or_false, false_or, or_true, true_or, not_true_eq_false, not_false_eq_true, Int.toNat_zero] at hc
    rw [show voteF v g = (0, false) by unfold voteF; rw [if_pos (by omega)]]
    conv => whnf
    refine ⟨?_, [], ?_⟩
    · (try conv => whnf)
      (repeat' (first | exact True.intro | exact fun _ h => h | refine inR64_of ?_ ?_ | apply And.intro | refine maxLen_ge ?_)) <;> (first | omega | (dsimp only; omega) | (dsimp only [List.length_cons, List.length_nil]; omega) | (intro hg; rw [hg]; rfl) | (intro hg hh; rw [hg, hh]; rfl) | (intro hg; simp [-List.getD_eq_getElem?_getD, -Int.default_eq_zero] at hg; first | omega | (refine inR64_of ?_ ?_ <;> omega) | (constructor <;> omega)) | (simp [-List.getD_eq_getElem?_getD, -Int.default_eq_zero]; done))
    conv => whnf
    refine ⟨rfl, ?_, trivial, trivial⟩
    all_goals repeat' (first | exact True.intro | refine leF_cons rfl ?_ ?_ | refine leS_cons rfl ?_ ?_ | (show PLe _ _ _ _; conv => whnf) | (show SLe _ _ _ _; conv => whnf) | (show PLeL _ _ _ _; conv => whnf) | apply And.intro | rfl | exact Nat.le_refl _ | exact fun _ _ => rfl | exact rowEq0 _ _)
  simp only [bif_t, bif_f, decide_eq_true_eq, decide_eq_false_iff_not, Bool.not_eq_true', Bool.not_eq_false', Bool.and_eq_true, Bool.or_eq_true, Bool.and_eq_false_iff, Bool.or_eq_false_iff, beq_iff_eq, bne_iff_ne, beq_eq_false_iff_ne, bne_eq_false_iff_eq, reduceCtorEq, false_and, and_false, true_and, and_true, or_false, false_or, or_true, true_or, not_true_eq_false, not_false_eq_true, Int.toNat_zero] at hc
  have hlen : v.length = g.length := by omega
  have hv : voteF v g = if (goodL v g v.length).length = 0 then (0, false) else ((srt (goodL v g v.length)).getD (((goodL v g v.length).length - 1) / 2) default, true) := by unfold voteF; rw [if_neg (by omega)]
  rw [hv]
  conv => whnf
  refine ⟨trivial, ?_⟩
  refine LSem.adopt 6 1000000 3 1 1 rfl rfl ?_
  refine LSem.loop (n := 42) mix (α := Nat) (fun i => i ≤ v.length)
    (fun i => [(0, .sl τ 1 v.length (fl eInt v)), (1, .sl τ' 1 g.length (fl eBool g)), (6, .os 1000000), (14, .sl τ 1 v.length (fl eInt v)), (15, .int .i64 v.length), (16, .int .i64 i)])
    (fun i => [(1000000, .row 0 3 1 (goodL v g i).length (fl eInt (goodL v g i)))]) (fun i => v.length - i) 0 ?_ ?_ ?_
  · exact Nat.zero_le _
  · refine ⟨rfl, rfl, ?_, ?_⟩
    all_goals repeat' (first | exact True.intro | refine leF_cons rfl ?_ ?_ | refine leS_cons rfl ?_ ?_ | (show PLe _ _ _ _; conv => whnf) | (show SLe _ _ _ _; conv => whnf) | (show PLeL _ _ _ _; conv => whnf) | apply And.intro | rfl | exact Nat.le_refl _ | exact fun _ _ => rfl | exact rowEq0 _ _)
  · intro i hi
    have hj : ((i : Int)).toNat = i := by omega
    have hgl := goodL_len v g i
    conv => whnf
    refine ⟨trivial, fun hc2 => ?_, fun hc2 => ?_⟩
    · replace hc2 := of_decide_eq_true hc2
      have hlt : i < v.length := by omega
      conv => whnf
      refine ⟨?_, fun hc3 => ?_, fun hc3 => ?_⟩
      · (try conv => whnf)
        (repeat' (first | exact True.intro | exact fun _ h => h | refine inR64_of ?_ ?_ | apply And.intro | refine maxLen_ge ?_)) <;> (first | omega | (dsimp only; omega) | (dsimp only [List.length_cons, List.length_nil]; omega) | (intro hg; rw [hg]; rfl) | (intro hg hh; rw [hg, hh]; rfl) | (intro hg; simp [-List.getD_eq_getElem?_getD, -Int.default_eq_zero] at hg; first | omega | (refine inR64_of ?_ ?_ <;> omega) | (constructor <;> omega)) | (simp [-List.getD_eq_getElem?_getD, -Int.default_eq_zero]; done))
      · rw [hj] at hc3
        have hst : goodL v g (i + 1) = goodL v g i ++ [v.getD i default] := by rw [goodL, if_pos hc3]
        have hps := fl_push eInt (goodL v g i) (v.getD i default)
        rw [← hst] at hps
        conv => whnf
        refine ⟨?_, i + 1, (by omega : i + 1 ≤ v.length), ?_, rfl, rfl, ?_, ?_⟩
        · (try conv => whnf)
          (repeat' (first | exact True.intro | exact fun _ h => h | refine inR64_of ?_ ?_ | apply And.intro | refine maxLen_ge ?_)) <;> (first | omega | (dsimp only; omega) | (dsimp only [List.length_cons, List.length_nil]; omega) | (intro hg; rw [hg]; rfl) | (intro hg hh; rw [hg, hh]; rfl) | (intro hg; simp [-List.getD_eq_getElem?_getD, -Int.default_eq_zero] at hg; first | omega | (refine inR64_of ?_ ?_ <;> omega) | (constructor <;> omega)) | (simp [-List.getD_eq_getElem?_getD, -Int.default_eq_zero]; done))
        · omega
        all_goals repeat' (first | exact True.intro | refine leF_cons rfl ?_ ?_ | refine leS_cons rfl ?_ ?_ | (show PLe _ _ _ _; conv => whnf) | (show SLe _ _ _ _; conv => whnf) | (show PLeL _ _ _ _; conv => whnf) | apply And.intro | rfl | exact Nat.le_refl _ | exact fun _ _ => rfl | exact rowEq0 _ _)
        all_goals (try omega)
        · rw [hst, List.length_append]; rfl
        · rw [hj]; exact hps
      · rw [hj] at hc3
        have hst : goodL v g (i + 1) = goodL v g i := by rw [goodL, if_neg (by rw [hc3]; decide)]
        conv => whnf
        refine ⟨?_, i + 1, (by omega : i + 1 ≤ v.length), ?_, rfl, rfl, ?_, ?_⟩
        · (try conv => whnf)
          (repeat' (first | exact True.intro | exact fun _ h => h | refine inR64_of ?_ ?_ | apply And.intro | refine maxLen_ge ?_)) <;> (first | omega | (dsimp only; omega) | (dsimp only [List.length_cons, List.length_nil]; omega) | (intro hg; rw [hg]; rfl) | (intro hg hh; rw [hg, hh]; rfl) | (intro hg; simp [-List.getD_eq_getElem?_getD, -Int.default_eq_zero] at hg; first | omega | (refine inR64_of ?_ ?_ <;> omega) | (constructor <;> omega)) | (simp [-List.getD_eq_getElem?_getD, -Int.default_eq_zero]; done))
        · omega
        all_goals repeat' (first | exact True.intro | refine leF_cons rfl ?_ ?_ | refine leS_cons rfl ?_ ?_ | (show PLe _ _ _ _; conv => whnf) | (show SLe _ _ _ _; conv => whnf) | (show PLeL _ _ _ _; conv => whnf) | apply And.intro | rfl | exact Nat.le_refl _ | exact fun _ _ => rfl | exact rowEq0 _ _)
        all_goals (try rw [hst])
        all_goals first | omega | exact fun _ _ => rfl
    · replace hc2 := of_decide_eq_false hc2
      have : i = v.length := by omega
      subst this
      generalize goodL v g v.length = L at hgl ⊢
      conv => whnf
      refine ⟨trivial, fun hc3 => ?_, fun hc3 => ?_⟩
      · simp only [bif_t, bif_f, decide_eq_true_eq, decide_eq_false_iff_not, Bool.not_eq_true', Bool.not_eq_false', Bool.and_eq_true, Bool.or_eq_true, Bool.and_eq_false_iff, Bool.or_eq_false_iff, beq_iff_eq, bne_iff_ne, beq_eq_false_iff_ne, bne_eq_false_iff_eq, reduceCtorEq, false_and, and_false, true_and, and_true, or_false, false_or, or_true, true_or, not_true_eq_false, not_false_eq_true, Int.toNat_zero] at hc3
        rw [if_pos (by omega)]
        conv => whnf
        refine ⟨?_, [], ?_⟩
        · (try conv => whnf)
          (repeat' (first | exact True.intro | exact fun _ h => h | refine inR64_of ?_ ?_ | apply And.intro | refine maxLen_ge ?_)) <;> (first | omega | (dsimp only; omega) | (dsimp only [List.length_cons, List.length_nil]; omega) | (intro hg; rw [hg]; rfl) | (intro hg hh; rw [hg, hh]; rfl) | (intro hg; simp [-List.getD_eq_getElem?_getD, -Int.default_eq_zero] at hg; first | omega | (refine inR64_of ?_ ?_ <;> omega) | (constructor <;> omega)) | (simp [-List.getD_eq_getElem?_getD, -Int.default_eq_zero]; done))
        conv => whnf
        refine ⟨rfl, ?_, trivial, trivial⟩
        all_goals repeat' (first | exact True.intro | refine leF_cons rfl ?_ ?_ | refine leS_cons rfl ?_ ?_ | (show PLe _ _ _ _; conv => whnf) | (show SLe _ _ _ _; conv => whnf) | (show PLeL _ _ _ _; conv => whnf) | apply And.intro | rfl | exact Nat.le_refl _ | exact fun _ _ => rfl | exact rowEq0 _ _)
      · simp only [bif_t, bif_f, decide_eq_true_eq, decide_eq_false_iff_not, Bool.not_eq_true', Bool.not_eq_false', Bool.and_eq_true, Bool.or_eq_true, Bool.and_eq_false_iff, Bool.or_eq_false_iff, beq_iff_eq, bne_iff_ne, beq_eq_false_iff_ne, bne_eq_false_iff_eq, reduceCtorEq, false_and, and_false, true_and, and_true, or_false, false_or, or_true, true_or, not_true_eq_false, not_false_eq_true, Int.toNat_zero] at hc3
        have h0 : ¬ L.length = 0 := by omega
        rw [if_neg h0]
        conv => whnf
        refine ⟨trivial, LSem.inplace (sort_inplace L (by omega)) (by omega) (fun _ => List.length_mergeSort ..) rfl rfl (fun _ _ => rfl) rfl rfl ?_⟩
        have hsl := srt_len L
        have hdiv : (Int.tdiv (((srt L).length : Int) - 1) 2).toNat = (L.length - 1) / 2 := by
          rw [hsl, Int.tdiv_eq_ediv_of_nonneg (by omega)]; omega
        have hdiv2 : 0 ≤ Int.tdiv (((srt L).length : Int) - 1) 2 ∧ Int.tdiv (((srt L).length : Int) - 1) 2 ≤ 1000000 := by
          rw [hsl, Int.tdiv_eq_ediv_of_nonneg (by omega)]; omega
        show evK _ _ _ _ (inplaceSt _ _ _ _ _ _ _ _ (srt L) _) _
        conv => whnf
        refine ⟨?_, [], ?_⟩
        · (try conv => whnf)
          (repeat' (first | exact True.intro | exact fun _ h => h | refine inR64_of ?_ ?_ | apply And.intro | refine maxLen_ge ?_)) <;> (first | omega | (dsimp only; omega) | (dsimp only [List.length_cons, List.length_nil]; omega) | (intro hg; rw [hg]; rfl) | (intro hg hh; rw [hg, hh]; rfl) | (intro hg; simp [-List.getD_eq_getElem?_getD, -Int.default_eq_zero] at hg; first | omega | (refine inR64_of ?_ ?_ <;> omega) | (constructor <;> omega)) | (simp [-List.getD_eq_getElem?_getD, -Int.default_eq_zero]; done))
        conv => whnf
        refine ⟨rfl, ?_, trivial, trivial⟩
        all_goals repeat' (first | exact True.intro | refine leF_cons rfl ?_ ?_ | refine leS_cons rfl ?_ ?_ | (show PLe _ _ _ _; conv => whnf) | (show SLe _ _ _ _; conv => whnf) | (show PLeL _ _ _ _; conv => whnf) | apply And.intro | rfl | exact Nat.le_refl _ | exact fun _ _ => rfl | exact rowEq0 _ _)
        rw [hdiv]
end Pv
end Go.Proofs.Ytogoplhikmmggaa
