/- LAW 02: CurveAdds. -/
import Derived.Test.YtedoglkonfckkaaC18
set_option linter.unusedSimpArgs false
set_option linter.unusedVariables false
namespace Go.Proofs.Ytedoglkonfckkaa
namespace Pv
def c6L1 : C := (.seq (.reg [⟨(some 34), 544, none, .bi false .lss (.t 33) (.t 32)⟩])
  (.seq (.cond (.t 34) .skip (.exit 0))
  (.seq (.block 1 (.seq (.reg [⟨(some 35), 560, none, .ia 2 (.t 31) (.t 33)⟩,
    ⟨(some 36), 576, none, .ld 2 true (.t 35)⟩,
    ⟨(some 11), 176, none, .al [(.nil 2), (.nil 2)]⟩,
    ⟨none, 0, none, .st 2 (.t 11) (.t 36)⟩])
  (.seq (.reg [⟨(some 38), 608, none, .iaa 2 1 (.t 11) (.c (.int .i64 0))⟩,
    ⟨(some 39), 624, none, .ld 1 false (.t 38)⟩,
    ⟨(some 40), 640, none, .iaa 2 1 (.t 11) (.c (.int .i64 1))⟩,
    ⟨(some 41), 656, none, .ld 1 false (.t 40)⟩,
    ⟨(some 42), 672, none, .call (.c (.fn (.func 17) [] [])) [(.t 39), (.t 41)]⟩,
    ⟨(some 37), 592, none, .mv (.t 42)⟩,
    ⟨(some 43), 688, none, .ex (.t 37) 0⟩,
    ⟨(some 44), 704, none, .ex (.t 37) 1⟩,
    ⟨(some 12), 192, none, .mv (.t 43)⟩,
    ⟨(some 13), 208, none, .mv (.t 44)⟩])
  (.seq (.reg [⟨(some 46), 736, none, .iaa 2 1 (.t 11) (.c (.int .i64 0))⟩,
    ⟨(some 47), 752, none, .ld 1 false (.t 46)⟩,
    ⟨(some 48), 768, none, .iaa 2 1 (.t 11) (.c (.int .i64 1))⟩,
    ⟨(some 49), 784, none, .ld 1 false (.t 48)⟩,
    ⟨(some 50), 800, none, .call (.c (.fn (.func 18) [] [])) [(.t 47), (.t 49)]⟩,
    ⟨(some 45), 720, none, .mv (.t 50)⟩,
    ⟨(some 51), 816, none, .ex (.t 45) 0⟩,
    ⟨(some 52), 832, none, .ex (.t 45) 1⟩,
    ⟨(some 14), 224, none, .mv (.t 51)⟩,
    ⟨(some 15), 240, none, .mv (.t 52)⟩])
  (.seq (.reg [⟨(some 53), 848, none, .mv (.t 13)⟩,
    ⟨(some 54), 864, none, .mv (.t 15)⟩,
    ⟨(some 55), 880, none, .bi false .neq (.t 53) (.t 54)⟩,
    ⟨(some 56), 896, none, .mv (.t 55)⟩,
    ⟨(some 57), 912, (some (56, false)), .mv (.t 12)⟩,
    ⟨(some 58), 928, (some (56, false)), .mv (.t 14)⟩,
    ⟨(some 59), 944, (some (56, false)), .call (.c (.fn (.func 19) [] [])) [(.t 57), (.t 58)]⟩,
    ⟨(some 60), 960, (some (56, false)), .un false .not (.t 59)⟩,
    ⟨(some 61), 976, none, .pick (.t 56) (.c (.bool true)) (.t 60)⟩])
  (.cond (.t 61) (.seq (.reg [⟨(some 6), 96, none, .mv (.c (.bool false))⟩])
  .ret) .skip))))))
  (.reg [⟨(some 62), 992, none, .bi false .add (.t 33) (.c (.int .i64 1))⟩,
    ⟨(some 33), 528, none, .mv (.t 62)⟩]))))
def c6 : C := (.seq (.reg [⟨(some 6), 96, none, .mv (.c (.bool false))⟩])
  (.seq (.reg [⟨(some 16), 256, none, .mv (.t 2)⟩,
    ⟨(some 17), 272, none, .call (.c (.fn (.func 8) [] [])) [(.t 16)]⟩,
    ⟨(some 7), 112, none, .mv (.t 17)⟩])
  (.seq (.reg [⟨(some 18), 288, none, .mv (.t 7)⟩,
    ⟨(some 19), 304, none, .call (.c (.fn (.func 16) [] [])) [(.t 18)]⟩,
    ⟨(some 20), 320, none, .mv (.t 7)⟩,
    ⟨(some 21), 336, none, .call (.c (.fn (.func 16) [] [])) [(.t 20)]⟩,
    ⟨(some 8), 128, none, .mv (.t 19)⟩,
    ⟨(some 9), 144, none, .mv (.t 21)⟩])
  (.seq (.seq (.reg [⟨(some 22), 352, none, .mv (.t 8)⟩,
    ⟨(some 23), 368, none, .mv (.t 9)⟩,
    ⟨(some 24), 384, none, .bd [(.nil 2), (.nil 2)] [(0, 1, (.t 22)), (1, 1, (.t 23))]⟩,
    ⟨(some 25), 400, none, .mv (.t 0)⟩,
    ⟨(some 26), 416, none, .mv (.t 9)⟩,
    ⟨(some 27), 432, none, .bd [(.nil 2), (.nil 2)] [(0, 1, (.t 25)), (1, 1, (.t 26))]⟩,
    ⟨(some 28), 448, none, .mv (.t 8)⟩,
    ⟨(some 29), 464, none, .mv (.t 1)⟩,
    ⟨(some 30), 480, none, .bd [(.nil 2), (.nil 2)] [(0, 1, (.t 28)), (1, 1, (.t 29))]⟩,
    ⟨(some 31), 496, none, .bs 40 2 [(.t 24), (.t 27), (.t 30)]⟩,
    ⟨(some 32), 512, none, .len (.t 31)⟩,
    ⟨(some 33), 528, none, .mv (.c (.int .i64 0))⟩])
  (.block 0 (.loop c6L1)))
  (.seq (.reg [⟨(some 63), 1008, none, .call (.c (.fn (.func 15) [] [])) []⟩,
    ⟨(some 6), 96, none, .mv (.t 63)⟩])
  .ret)))))
theorem fits6 : fits Try.prog false Try.f6 3 64 [(6, none)] = some c6.er := by kernel_rfl

theorem made_at (d : Dk) (hd : d.at_ ≤ 100) : (madeS d).2.at_ ≤ 1000 := by
  have r1 := nxt_lt d (n := 20) (by omega)
  have a1 := nxtD_at d 20
  have r2 := nxt_lt (nxtD d 20) (n := 20) (by omega)
  have a2 := nxtD_at (nxtD d 20) 20
  have a3 := nxtD_at (nxtD (nxtD d 20) 20) 2
  have hm := curve_made (nxtD (nxtD (nxtD d 20) 20) 2) (x := nxt d 20) (y := nxt (nxtD d 20) 20) (dx := 30) (dy := 40) (least := if nxt (nxtD (nxtD d 20) 20) 2 = 0 then 1 else 0) (by omega) (by omega) (by omega) (by omega) (by split <;> omega)
  unfold madeS madeC0 wrongS
  generalize curveS (nxtD (nxtD (nxtD d 20) 20) 2) (nxt d 20) (nxt (nxtD d 20) 20) 30 40 (if nxt (nxtD (nxtD d 20) 20) 2 = 0 then 1 else 0) = S at hm ⊢
  obtain ⟨_, h⟩ := hm
  have b1 := nxtD_at S.d 10
  have b2 := nxtD_at (nxtD S.d 10) S.L.length
  have b3 := nxtD_at (nxtD (nxtD S.d 10) S.L.length) 4
  repeat' split
  all_goals dsimp only
  all_goals omega

theorem add_len (a b : List Pt) : (addC a b).1.length ≤ 4611686018427387904 := by
  unfold addC
  repeat' split
  all_goals try exact Nat.zero_le _
  rename_i h
  have := ((check_good (sumC a b)).1 (by omega)).le
  dsimp only; omega

set_option maxRecDepth 100000 in
set_option maxHeartbeats 4000000 in
theorem call6 (ra rb : List Pt) (l : List Int) : PureCall Try.prog 6 [.sl 1 2 ra.length (fl ePt ra), .sl 1 2 rb.length (fl ePt rb), .sl 1 1 l.length (fl eInt l)] [] ⟨.bool true, [], []⟩ := by
  refine pure_call mix Try.func6 fits6 rfl ?_
  conv => whnf
  refine ⟨_, fun _ => call_new 1 l, ?_⟩
  conv => whnf
  refine ⟨_, fun _ => call16 ⟨l, 0⟩ (by dsimp only; omega), ?_⟩
  have hd1 : (madeS ⟨l, 0⟩).2.at_ ≤ 1000 := made_at _ (by dsimp only; omega)
  generalize madeS ⟨l, 0⟩ = S1 at hd1 ⊢
  obtain ⟨x, d1⟩ := S1
  dsimp only at hd1
  conv => whnf
  refine ⟨_, fun _ => call16 d1 hd1, ?_⟩
  generalize madeS d1 = S2
  obtain ⟨y, d2⟩ := S2
  conv => whnf
  refine ⟨?_, ?_⟩
  · (try conv => whnf)
    (repeat' (first | exact True.intro | exact fun _ h => h | refine inR64_of ?_ ?_ | apply And.intro | refine maxLen_ge ?_)) <;> (first | omega | (dsimp only; omega) | (dsimp only [List.length_cons, List.length_nil]; omega) | (intro hg; rw [hg]; rfl) | (intro hg hh; rw [hg, hh]; rfl) | (intro hg; simp [-List.getD_eq_getElem?_getD, -Int.default_eq_zero] at hg; first | omega | (refine inR64_of ?_ ?_ <;> omega) | (constructor <;> omega)) | (simp [-List.getD_eq_getElem?_getD, -Int.default_eq_zero]; done))
  refine LSem.loop (n := 64) mix (α := Nat) (fun k => k ≤ 3)
    (fun k => [(31, .os 496), (32, .int .i64 3), (33, .int .i64 k)])
    (fun k => [(496, .row 1 40 2 3 (fun i => [[PV.sl 0 2 x.length (fl ePt x), PV.sl 0 2 y.length (fl ePt y)], [PV.sl 1 2 ra.length (fl ePt ra), PV.sl 0 2 y.length (fl ePt y)], [PV.sl 0 2 x.length (fl ePt x), PV.sl 1 2 rb.length (fl ePt rb)]].getD i []))]) (fun k => 3 - k) 0 ?_ ?_ ?_
  · exact Nat.zero_le _
  · refine ⟨rfl, rfl, ?_, ?_⟩
    all_goals repeat' (first | exact True.intro | refine leF_cons rfl ?_ ?_ | refine leS_cons rfl ?_ ?_ | (show PLe _ _ _ _; conv => whnf) | (show SLe _ _ _ _; conv => whnf) | (show PLeL _ _ _ _; conv => whnf) | apply And.intro | rfl | exact Nat.le_refl _ | exact fun _ _ => rfl | exact rowEq0 _ _)
    all_goals skip
  · intro k hk
    have h0123 : k = 0 ∨ k = 1 ∨ k = 2 ∨ k = 3 := by omega
    rcases h0123 with rfl | rfl | rfl | rfl
    · conv => whnf
      refine ⟨trivial, fun _ => ?_, fun hc => absurd hc (by decide)⟩
      conv => whnf
      refine ⟨_, fun _ => call17 _ _ x y, ?_⟩
      conv => whnf
      refine ⟨_, fun _ => call18 _ _ x y, ?_⟩
      conv => whnf
      refine ⟨_, fun _ => call19 _ _ (addC x y).1 (addC x y).1 (add_len x y), ?_⟩
      conv => whnf
      refine ⟨?_, fun hc => ?_, fun hc => ?_⟩
      · (try conv => whnf)
        (repeat' (first | exact True.intro | exact fun _ h => h | refine inR64_of ?_ ?_ | apply And.intro | refine maxLen_ge ?_)) <;> (first | omega | (dsimp only; omega) | (dsimp only [List.length_cons, List.length_nil]; omega) | (intro hg; rw [hg]; rfl) | (intro hg hh; rw [hg, hh]; rfl) | (intro hg; simp [-List.getD_eq_getElem?_getD, -Int.default_eq_zero] at hg; first | omega | (refine inR64_of ?_ ?_ <;> omega) | (constructor <;> omega)) | (simp [-List.getD_eq_getElem?_getD, -Int.default_eq_zero]; done))
      · exfalso
        simp only [bif_t, bif_f, decide_eq_true_eq, decide_eq_false_iff_not, Bool.not_eq_true', Bool.not_eq_false', Bool.and_eq_true, Bool.or_eq_true, Bool.and_eq_false_iff, Bool.or_eq_false_iff, beq_iff_eq, bne_iff_ne, beq_eq_false_iff_ne, bne_eq_false_iff_eq, reduceCtorEq, false_and, and_false, true_and, and_true, or_false, false_or, or_true, true_or, not_true_eq_false, not_false_eq_true, Int.toNat_zero] at hc
        simp at hc
      · conv => whnf
        refine ⟨?_, 1, (by omega : 1 ≤ 3), by omega, rfl, rfl, ?_, ?_⟩
        · (try conv => whnf)
          (repeat' (first | exact True.intro | exact fun _ h => h | refine inR64_of ?_ ?_ | apply And.intro | refine maxLen_ge ?_)) <;> (first | omega | (dsimp only; omega) | (dsimp only [List.length_cons, List.length_nil]; omega) | (intro hg; rw [hg]; rfl) | (intro hg hh; rw [hg, hh]; rfl) | (intro hg; simp [-List.getD_eq_getElem?_getD, -Int.default_eq_zero] at hg; first | omega | (refine inR64_of ?_ ?_ <;> omega) | (constructor <;> omega)) | (simp [-List.getD_eq_getElem?_getD, -Int.default_eq_zero]; done))
        all_goals repeat' (first | exact True.intro | refine leF_cons rfl ?_ ?_ | refine leS_cons rfl ?_ ?_ | (show PLe _ _ _ _; conv => whnf) | (show SLe _ _ _ _; conv => whnf) | (show PLeL _ _ _ _; conv => whnf) | apply And.intro | rfl | exact Nat.le_refl _ | exact fun _ _ => rfl | exact rowEq0 _ _)
    · conv => whnf
      refine ⟨trivial, fun _ => ?_, fun hc => absurd hc (by decide)⟩
      conv => whnf
      refine ⟨_, fun _ => call17 _ _ ra y, ?_⟩
      conv => whnf
      refine ⟨_, fun _ => call18 _ _ ra y, ?_⟩
      conv => whnf
      refine ⟨_, fun _ => call19 _ _ (addC ra y).1 (addC ra y).1 (add_len ra y), ?_⟩
      conv => whnf
      refine ⟨?_, fun hc => ?_, fun hc => ?_⟩
      · (try conv => whnf)
        (repeat' (first | exact True.intro | exact fun _ h => h | refine inR64_of ?_ ?_ | apply And.intro | refine maxLen_ge ?_)) <;> (first | omega | (dsimp only; omega) | (dsimp only [List.length_cons, List.length_nil]; omega) | (intro hg; rw [hg]; rfl) | (intro hg hh; rw [hg, hh]; rfl) | (intro hg; simp [-List.getD_eq_getElem?_getD, -Int.default_eq_zero] at hg; first | omega | (refine inR64_of ?_ ?_ <;> omega) | (constructor <;> omega)) | (simp [-List.getD_eq_getElem?_getD, -Int.default_eq_zero]; done))
      · exfalso
        simp only [bif_t, bif_f, decide_eq_true_eq, decide_eq_false_iff_not, Bool.not_eq_true', Bool.not_eq_false', Bool.and_eq_true, Bool.or_eq_true, Bool.and_eq_false_iff, Bool.or_eq_false_iff, beq_iff_eq, bne_iff_ne, beq_eq_false_iff_ne, bne_eq_false_iff_eq, reduceCtorEq, false_and, and_false, true_and, and_true, or_false, false_or, or_true, true_or, not_true_eq_false, not_false_eq_true, Int.toNat_zero] at hc
        simp at hc
      · conv => whnf
        refine ⟨?_, 2, (by omega : 2 ≤ 3), by omega, rfl, rfl, ?_, ?_⟩
        · (try conv => whnf)
          (repeat' (first | exact True.intro | exact fun _ h => h | refine inR64_of ?_ ?_ | apply And.intro | refine maxLen_ge ?_)) <;> (first | omega | (dsimp only; omega) | (dsimp only [List.length_cons, List.length_nil]; omega) | (intro hg; rw [hg]; rfl) | (intro hg hh; rw [hg, hh]; rfl) | (intro hg; simp [-List.getD_eq_getElem?_getD, -Int.default_eq_zero] at hg; first | omega | (refine inR64_of ?_ ?_ <;> omega) | (constructor <;> omega)) | (simp [-List.getD_eq_getElem?_getD, -Int.default_eq_zero]; done))
        all_goals repeat' (first | exact True.intro | refine leF_cons rfl ?_ ?_ | refine leS_cons rfl ?_ ?_ | (show PLe _ _ _ _; conv => whnf) | (show SLe _ _ _ _; conv => whnf) | (show PLeL _ _ _ _; conv => whnf) | apply And.intro | rfl | exact Nat.le_refl _ | exact fun _ _ => rfl | exact rowEq0 _ _)
    · conv => whnf
      refine ⟨trivial, fun _ => ?_, fun hc => absurd hc (by decide)⟩
      conv => whnf
      refine ⟨_, fun _ => call17 _ _ x rb, ?_⟩
      conv => whnf
      refine ⟨_, fun _ => call18 _ _ x rb, ?_⟩
      conv => whnf
      refine ⟨_, fun _ => call19 _ _ (addC x rb).1 (addC x rb).1 (add_len x rb), ?_⟩
      conv => whnf
      refine ⟨?_, fun hc => ?_, fun hc => ?_⟩
      · (try conv => whnf)
        (repeat' (first | exact True.intro | exact fun _ h => h | refine inR64_of ?_ ?_ | apply And.intro | refine maxLen_ge ?_)) <;> (first | omega | (dsimp only; omega) | (dsimp only [List.length_cons, List.length_nil]; omega) | (intro hg; rw [hg]; rfl) | (intro hg hh; rw [hg, hh]; rfl) | (intro hg; simp [-List.getD_eq_getElem?_getD, -Int.default_eq_zero] at hg; first | omega | (refine inR64_of ?_ ?_ <;> omega) | (constructor <;> omega)) | (simp [-List.getD_eq_getElem?_getD, -Int.default_eq_zero]; done))
      · exfalso
        simp only [bif_t, bif_f, decide_eq_true_eq, decide_eq_false_iff_not, Bool.not_eq_true', Bool.not_eq_false', Bool.and_eq_true, Bool.or_eq_true, Bool.and_eq_false_iff, Bool.or_eq_false_iff, beq_iff_eq, bne_iff_ne, beq_eq_false_iff_ne, bne_eq_false_iff_eq, reduceCtorEq, false_and, and_false, true_and, and_true, or_false, false_or, or_true, true_or, not_true_eq_false, not_false_eq_true, Int.toNat_zero] at hc
        simp at hc
      · conv => whnf
        refine ⟨?_, 3, (by omega : 3 ≤ 3), by omega, rfl, rfl, ?_, ?_⟩
        · (try conv => whnf)
          (repeat' (first | exact True.intro | exact fun _ h => h | refine inR64_of ?_ ?_ | apply And.intro | refine maxLen_ge ?_)) <;> (first | omega | (dsimp only; omega) | (dsimp only [List.length_cons, List.length_nil]; omega) | (intro hg; rw [hg]; rfl) | (intro hg hh; rw [hg, hh]; rfl) | (intro hg; simp [-List.getD_eq_getElem?_getD, -Int.default_eq_zero] at hg; first | omega | (refine inR64_of ?_ ?_ <;> omega) | (constructor <;> omega)) | (simp [-List.getD_eq_getElem?_getD, -Int.default_eq_zero]; done))
        all_goals repeat' (first | exact True.intro | refine leF_cons rfl ?_ ?_ | refine leS_cons rfl ?_ ?_ | (show PLe _ _ _ _; conv => whnf) | (show SLe _ _ _ _; conv => whnf) | (show PLeL _ _ _ _; conv => whnf) | apply And.intro | rfl | exact Nat.le_refl _ | exact fun _ _ => rfl | exact rowEq0 _ _)
    · conv => whnf
      refine ⟨trivial, fun hc => absurd hc (by decide), fun _ => ?_⟩
      conv => whnf
      refine ⟨_, fun _ => call15, ?_⟩
      conv => whnf
      refine ⟨?_, [], ?_⟩
      · (try conv => whnf)
        (repeat' (first | exact True.intro | exact fun _ h => h | refine inR64_of ?_ ?_ | apply And.intro | refine maxLen_ge ?_)) <;> (first | omega | (dsimp only; omega) | (dsimp only [List.length_cons, List.length_nil]; omega) | (intro hg; rw [hg]; rfl) | (intro hg hh; rw [hg, hh]; rfl) | (intro hg; simp [-List.getD_eq_getElem?_getD, -Int.default_eq_zero] at hg; first | omega | (refine inR64_of ?_ ?_ <;> omega) | (constructor <;> omega)) | (simp [-List.getD_eq_getElem?_getD, -Int.default_eq_zero]; done))
      conv => whnf
      refine ⟨rfl, ?_, trivial, trivial⟩
      all_goals repeat' (first | exact True.intro | refine leF_cons rfl ?_ ?_ | refine leS_cons rfl ?_ ?_ | (show PLe _ _ _ _; conv => whnf) | (show SLe _ _ _ _; conv => whnf) | (show PLeL _ _ _ _; conv => whnf) | apply And.intro | rfl | exact Nat.le_refl _ | exact fun _ _ => rfl | exact rowEq0 _ _)
end Pv
end Go.Proofs.Ytedoglkonfckkaa
