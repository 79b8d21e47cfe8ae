/- LAW 08: QualityVerdicts. -/
import Derived.Test.YtogoplhikmmggaaQ13
set_option linter.unusedSimpArgs false
set_option linter.unusedVariables false
namespace Go.Proofs.Ytogoplhikmmggaa
namespace Pv
def c7L2 : C := (.seq (.reg [⟨(some 43), 688, none, .bi false .lss (.t 42) (.t 41)⟩])
  (.seq (.cond (.t 43) .skip (.exit 2))
  (.seq (.block 3 (.seq (.reg [⟨(some 44), 704, none, .ia 1 (.t 40) (.t 42)⟩,
    ⟨(some 45), 720, none, .ld 1 false (.t 44)⟩,
    ⟨(some 13), 208, none, .mv (.t 45)⟩])
  (.seq (.reg [⟨(some 47), 752, none, .ld 4 true (.t 11)⟩,
    ⟨(some 48), 768, none, .mv (.t 13)⟩,
    ⟨(some 49), 784, none, .call (.c (.fn (.func 25) [] [])) [(.t 47), (.t 48)]⟩,
    ⟨(some 46), 736, none, .mv (.t 49)⟩,
    ⟨(some 50), 800, none, .ex (.t 46) 0⟩,
    ⟨(some 51), 816, none, .ex (.t 46) 1⟩,
    ⟨(some 14), 224, none, .mv (.t 50)⟩,
    ⟨(some 15), 240, none, .mv (.t 51)⟩])
  (.seq (.reg [⟨(some 53), 848, none, .ld 4 true (.t 11)⟩,
    ⟨(some 54), 864, none, .mv (.t 13)⟩,
    ⟨(some 55), 880, none, .call (.c (.fn (.func 26) [] [])) [(.t 53), (.t 54)]⟩,
    ⟨(some 52), 832, none, .mv (.t 55)⟩,
    ⟨(some 56), 896, none, .ex (.t 52) 0⟩,
    ⟨(some 57), 912, none, .ex (.t 52) 1⟩,
    ⟨(some 16), 256, none, .mv (.t 56)⟩,
    ⟨(some 17), 272, none, .mv (.t 57)⟩])
  (.seq (.drw [⟨(some 58), 928, none, .mv (.t 15)⟩,
    ⟨(some 59), 944, none, .mv (.t 17)⟩,
    ⟨(some 60), 960, none, .bi false .neq (.t 58) (.t 59)⟩,
    ⟨(some 61), 976, none, .mv (.t 60)⟩,
    ⟨(some 62), 992, (some (61, false)), .mv (.t 14)⟩,
    ⟨(some 63), 1008, (some (61, false)), .mv (.t 16)⟩,
    ⟨(some 64), 1024, (some (61, false)), .call (.c (.fn (.func 17) [] [])) [(.t 62), (.t 63)]⟩,
    ⟨(some 65), 1040, (some (61, false)), .un false .not (.t 64)⟩,
    ⟨(some 66), 1056, none, .pick (.t 61) (.c (.bool true)) (.t 65)⟩,
    ⟨(some 67), 1072, none, .mv (.t 66)⟩,
    ⟨(some 68), 1088, (some (67, false)), .ld 4 true (.t 11)⟩,
    ⟨(some 69), 1104, (some (67, false)), .call (.c (.fn (.func 27) [] [])) [(.t 68)]⟩,
    ⟨(some 70), 1120, (some (67, false)), .ld 4 true (.t 11)⟩,
    ⟨(some 71), 1136, (some (67, false)), .call (.c (.fn (.func 28) [] [])) [(.t 70)]⟩,
    ⟨(some 72), 1152, (some (67, false)), .bi false .neq (.t 69) (.t 71)⟩,
    ⟨(some 73), 1168, none, .pick (.t 67) (.c (.bool true)) (.t 72)⟩]
    [(0, 1, 58), (4, 5, 62), (10, 12, 68), (11, 12, 69)])
  (.cond (.t 73) (.seq (.reg [⟨(some 6), 96, none, .mv (.c (.bool false))⟩])
  .ret) .skip))))))
  (.reg [⟨(some 74), 1184, none, .bi false .add (.t 42) (.c (.int .i64 1))⟩,
    ⟨(some 42), 672, none, .mv (.t 74)⟩]))))
def c7L1 : C := (.seq (.reg [⟨(some 31), 496, none, .bi false .lss (.t 30) (.t 29)⟩])
  (.seq (.cond (.t 31) .skip (.exit 0))
  (.seq (.block 1 (.seq (.reg [⟨(some 32), 512, none, .ia 4 (.t 28) (.t 30)⟩,
    ⟨(some 33), 528, none, .ld 4 true (.t 32)⟩,
    ⟨(some 11), 176, none, .al [(.int .i64 0), (.int .i64 0), (.int .i64 0), (.int .i64 0)]⟩,
    ⟨none, 0, none, .st 4 (.t 11) (.t 33)⟩])
  (.seq (.drw [⟨(some 34), 544, none, .mv (.t 9)⟩,
    ⟨(some 35), 560, none, .mv (.t 9)⟩,
    ⟨(some 36), 576, none, .app 48 4 32 (.c (.nil 4)) (.t 35)⟩,
    ⟨(some 37), 592, none, .ld 4 true (.t 4)⟩,
    ⟨(some 38), 608, none, .bs 48 4 [(.t 37)]⟩,
    ⟨(some 39), 624, none, .app 48 4 32 (.t 36) (.t 38)⟩,
    ⟨(some 40), 640, none, .bs 50 1 [(.t 34), (.t 39)]⟩,
    ⟨(some 41), 656, none, .len (.t 40)⟩,
    ⟨(some 42), 672, none, .mv (.c (.int .i64 0))⟩]
    [(0, 1, 34), (0, 2, 34), (0, 3, 34), (0, 4, 34), (0, 5, 34), (0, 8, 34), (1, 3, 35), (1, 4, 35), (1, 8, 35), (2, 3, 36), (2, 4, 36), (2, 8, 36), (3, 8, 37), (4, 8, 38), (5, 8, 39), (6, 8, 40), (7, 8, 41)])
  (.block 2 (.loop c7L2)))))
  (.reg [⟨(some 75), 1200, none, .bi false .add (.t 30) (.c (.int .i64 1))⟩,
    ⟨(some 30), 480, none, .mv (.t 75)⟩]))))
def c7 : C := (.seq (.reg [⟨(some 3), 48, none, .bx 4 (.t 0)⟩,
    ⟨(some 4), 64, none, .bx 4 (.t 1)⟩,
    ⟨(some 6), 96, none, .mv (.c (.bool false))⟩])
  (.seq (.reg [⟨(some 18), 288, none, .mv (.t 2)⟩,
    ⟨(some 19), 304, none, .call (.c (.fn (.func 11) [] [])) [(.t 18)]⟩,
    ⟨(some 7), 112, none, .mv (.t 19)⟩])
  (.seq (.reg [⟨(some 20), 320, none, .mv (.t 7)⟩,
    ⟨(some 21), 336, none, .call (.c (.fn (.func 23) [] [])) [(.t 20)]⟩,
    ⟨(some 8), 128, none, .al [(.int .i64 0), (.int .i64 0), (.int .i64 0), (.int .i64 0)]⟩,
    ⟨none, 0, none, .st 4 (.t 8) (.t 21)⟩])
  (.seq (.reg [⟨(some 22), 352, none, .mv (.t 7)⟩,
    ⟨(some 23), 368, none, .mv (.t 7)⟩,
    ⟨(some 24), 384, none, .call (.c (.fn (.func 18) [] [])) [(.t 23), (.c (.int .i64 20))]⟩,
    ⟨(some 25), 400, none, .call (.c (.fn (.func 24) [] [])) [(.t 22), (.t 24)]⟩,
    ⟨(some 9), 144, none, .mv (.t 25)⟩])
  (.seq (.seq (.reg [⟨(some 26), 416, none, .ld 4 true (.t 8)⟩,
    ⟨(some 27), 432, none, .ld 4 true (.t 3)⟩,
    ⟨(some 28), 448, none, .bs 46 4 [(.t 26), (.t 27)]⟩,
    ⟨(some 29), 464, none, .len (.t 28)⟩,
    ⟨(some 30), 480, none, .mv (.c (.int .i64 0))⟩])
  (.block 0 (.loop c7L1)))
  (.seq (.reg [⟨(some 76), 1216, none, .call (.c (.fn (.func 14) [] [])) []⟩,
    ⟨(some 6), 96, none, .mv (.t 76)⟩])
  .ret))))))
theorem fits7 : fits Try.prog false Try.f7 3 77 [(6, none)] = some c7.er := by kernel_rfl

theorem fl_two {α : Type} [Inhabited α] (e : α → List PV) (x y : α) : RowEq 2 (fun i => [e x, e y].getD i []) (fl e [x, y]) := fun i hi => by
  rcases (by omega : i = 0 ∨ i = 1) with rfl | rfl <;> rfl
def plus1 (l : List Rd) (r : Rd) : Nat → List PV := appF l.length (fl eRd l) (fun i => [eRd r].getD i [])

set_option maxRecDepth 100000 in
set_option maxHeartbeats 8000000 in
theorem call7 (raw : Ck) (rr : Rd) (l : List Int) : PureCall Try.prog 7 [.agg (eCk raw), .agg (eRd rr), .sl 1 1 l.length (fl eInt l)] [] ⟨.bool true, [], []⟩ := by
  refine pure_call mix Try.func7 fits7 rfl ?_
  conv => whnf
  refine ⟨_, fun _ => call_new 1 l, ?_⟩
  conv => whnf
  refine ⟨_, fun _ => call23 ⟨l, 0⟩ (by dsimp only; omega), ?_⟩
  have a1 := mkCkD_at ⟨l, 0⟩
  dsimp only at a1
  generalize mkCk ⟨l, 0⟩ = c
  generalize mkCkD ⟨l, 0⟩ = d at a1 ⊢
  conv => whnf
  have r2 := nxt_lt d (n := 20) (by omega)
  have a2 := nxtD_at d 20
  refine ⟨_, fun _ => call_next 1 d 20 (by omega) (by omega), ?_⟩
  conv => whnf
  refine ⟨_, fun _ => call24 (nxtD d 20) (nxt d 20) (by omega) (by omega), ?_⟩
  obtain ⟨p1, _, _⟩ := serS_props (nxtD d 20) (nxt d 20).toNat
  generalize serS (nxtD d 20) (nxt d 20).toNat = S at p1 ⊢
  have hll : S.l.length ≤ 20 := by omega
  generalize S.l = L at hll ⊢
  generalize S.d = d2
  clear p1
  conv => whnf
  refine ⟨?_, ?_⟩
  · (try conv => whnf)
    (repeat' (first | exact True.intro | exact fun _ h => h | refine inR64_of ?_ ?_ | apply And.intro | refine maxLen_ge ?_)) <;> (first | omega | (dsimp only; omega) | (dsimp only [List.length_cons, List.length_nil]; omega) | (intro hg; rw [hg]; rfl) | (intro hg hh; rw [hg, hh]; rfl) | (intro hg; simp [-List.getD_eq_getElem?_getD, -Int.default_eq_zero] at hg; first | omega | (refine inR64_of ?_ ?_ <;> omega) | (constructor <;> omega)) | (simp [-List.getD_eq_getElem?_getD, -Int.default_eq_zero]; done))
  refine LSem.loop (n := 77) mix (α := Nat) (fun k => k ≤ 2)
    (fun k => [(4, .pt 64 0 0), (9, .sl 0 4 L.length (fl eRd L)), (28, .os 448), (29, .int .i64 2), (30, .int .i64 k)])
    (fun k => [(64, .box (eRd rr)), (448, .row 0 46 4 2 (fl eCk [c, raw]))]) (fun k => 2 - k) 0 ?_ ?_ ?_
  · exact Nat.zero_le _
  · refine ⟨rfl, rfl, ?_, ?_⟩
    all_goals repeat' (first | exact True.intro | refine leF_cons rfl ?_ ?_ | refine leS_cons rfl ?_ ?_ | (show PLe _ _ _ _; conv => whnf) | (show SLe _ _ _ _; conv => whnf) | (show PLeL _ _ _ _; conv => whnf) | apply And.intro | rfl | exact Nat.le_refl _ | exact fun _ _ => rfl | exact rowEq0 _ _)
    exact fl_two eCk c raw
  · intro k hk
    have hj : ((k : Int)).toNat = k := by omega
    conv => whnf
    refine ⟨trivial, fun hc => ?_, fun hc => ?_⟩
    · replace hc := of_decide_eq_true hc
      have hx : ∃ x : Ck, [c, raw].getD ((k : Int)).toNat default = x := ⟨_, rfl⟩
      obtain ⟨x, hx⟩ := hx
      conv => whnf
      refine ⟨rfl, ?_⟩
      conv => whnf
      rw [hx]
      refine ⟨?_, ?_⟩
      · (try conv => whnf)
        (repeat' (first | exact True.intro | exact fun _ h => h | refine inR64_of ?_ ?_ | apply And.intro | refine maxLen_ge ?_)) <;> (first | omega | (dsimp only; omega) | (dsimp only [List.length_cons, List.length_nil]; omega) | (intro hg; rw [hg]; rfl) | (intro hg hh; rw [hg, hh]; rfl) | (intro hg; simp [-List.getD_eq_getElem?_getD, -Int.default_eq_zero] at hg; first | omega | (refine inR64_of ?_ ?_ <;> omega) | (constructor <;> omega)) | (simp [-List.getD_eq_getElem?_getD, -Int.default_eq_zero]; done))
      refine LSem.loop (n := 77) mix (α := Nat) (fun j => j ≤ 2)
        (fun j => [(4, .pt 64 0 0), (9, .sl 0 4 L.length (fl eRd L)), (28, .os 448), (29, .int .i64 2), (30, .int .i64 k), (11, .pt 176 0 0), (40, .os 640), (41, .int .i64 2), (42, .int .i64 j)])
        (fun j => [(64, .box (eRd rr)), (448, .row 0 46 4 2 (fl eCk [c, raw])), (176, .box (eCk x)), (640, .row 0 50 1 2 (fun i => [[.sl 0 4 L.length (fl eRd L)], [.sl 0 4 (L.length + 1) (plus1 L rr)]].getD i []))]) (fun j => 2 - j) 0 ?_ ?_ ?_
      · exact Nat.zero_le _
      · refine ⟨rfl, rfl, ?_, ?_⟩
        all_goals repeat' (first | exact True.intro | refine leF_cons rfl ?_ ?_ | refine leS_cons rfl ?_ ?_ | (show PLe _ _ _ _; conv => whnf) | (show SLe _ _ _ _; conv => whnf) | (show PLeL _ _ _ _; conv => whnf) | apply And.intro | rfl | exact Nat.le_refl _ | exact fun _ _ => rfl | exact rowEq0 _ _)
        all_goals skip
      · intro j hj2
        have h012 : j = 0 ∨ j = 1 ∨ j = 2 := by omega
        rcases h012 with rfl | rfl | rfl
        · conv => whnf
          refine ⟨trivial, fun _ => ?_, fun hc => absurd hc (by decide)⟩
          conv => whnf
          refine ⟨_, fun _ => PureCall.arg_le (call25 x (L) (by first | omega | (simp; omega))) rfl (by
            all_goals repeat' (first | exact True.intro | refine leF_cons rfl ?_ ?_ | refine leS_cons rfl ?_ ?_ | (show PLe _ _ _ _; conv => whnf) | (show SLe _ _ _ _; conv => whnf) | (show PLeL _ _ _ _; conv => whnf) | apply And.intro | rfl | exact Nat.le_refl _ | exact fun _ _ => rfl | exact rowEq0 _ _)
            all_goals first | omega | exact Nat.zero_le _ | decide | (simp; done) | exact fl_push eRd L rr | skip), ?_⟩
          conv => whnf
          refine ⟨_, fun _ => PureCall.arg_le (call26 x (L) (by first | omega | (simp; omega))) rfl (by
            all_goals repeat' (first | exact True.intro | refine leF_cons rfl ?_ ?_ | refine leS_cons rfl ?_ ?_ | (show PLe _ _ _ _; conv => whnf) | (show SLe _ _ _ _; conv => whnf) | (show PLeL _ _ _ _; conv => whnf) | apply And.intro | rfl | exact Nat.le_refl _ | exact fun _ _ => rfl | exact rowEq0 _ _)
            all_goals first | omega | exact Nat.zero_le _ | decide | (simp; done) | exact fl_push eRd L rr | skip), ?_⟩
          have hvl : (verdictsF x (L)).1.length ≤ 4611686018427387904 := by
            unfold verdictsF
            repeat' split
            all_goals first | exact Nat.zero_le _ | (rw [vSt_len]; first | omega | (simp; omega))
          generalize verdictsF x (L) = V at hvl ⊢
          conv => whnf
          refine ⟨_, fun _ => call17 _ _ V.1 V.1 hvl, ?_⟩
          conv => whnf
          refine ⟨_, fun _ => call27 x, ?_⟩
          conv => whnf
          refine ⟨_, fun _ => call28 x, ?_⟩
          conv => whnf
          refine ⟨rfl, ?_⟩
          conv => whnf
          refine ⟨?_, fun hc => ?_, fun hc => ?_⟩
          · (try conv => whnf)
            (repeat' (first | exact True.intro | exact fun _ h => h | refine inR64_of ?_ ?_ | apply And.intro | refine maxLen_ge ?_)) <;> (first | omega | (dsimp only; omega) | (dsimp only [List.length_cons, List.length_nil]; omega) | (intro hg; rw [hg]; rfl) | (intro hg hh; rw [hg, hh]; rfl) | (intro hg; simp [-List.getD_eq_getElem?_getD, -Int.default_eq_zero] at hg; first | omega | (refine inR64_of ?_ ?_ <;> omega) | (constructor <;> omega)) | (simp [-List.getD_eq_getElem?_getD, -Int.default_eq_zero]; done))
          · exfalso
            simp only [bif_t, bif_f, decide_eq_true_eq, decide_eq_false_iff_not, Bool.not_eq_true', Bool.not_eq_false', Bool.and_eq_true, Bool.or_eq_true, Bool.and_eq_false_iff, Bool.or_eq_false_iff, beq_iff_eq, bne_iff_ne, beq_eq_false_iff_ne, bne_eq_false_iff_eq, reduceCtorEq, false_and, and_false, true_and, and_true, or_false, false_or, or_true, true_or, not_true_eq_false, not_false_eq_true, Int.toNat_zero] at hc
            simp at hc
          · conv => whnf
            refine ⟨?_, 1, (by omega : 1 ≤ 2), by omega, rfl, rfl, ?_, ?_⟩
            · (try conv => whnf)
              (repeat' (first | exact True.intro | exact fun _ h => h | refine inR64_of ?_ ?_ | apply And.intro | refine maxLen_ge ?_)) <;> (first | omega | (dsimp only; omega) | (dsimp only [List.length_cons, List.length_nil]; omega) | (intro hg; rw [hg]; rfl) | (intro hg hh; rw [hg, hh]; rfl) | (intro hg; simp [-List.getD_eq_getElem?_getD, -Int.default_eq_zero] at hg; first | omega | (refine inR64_of ?_ ?_ <;> omega) | (constructor <;> omega)) | (simp [-List.getD_eq_getElem?_getD, -Int.default_eq_zero]; done))
            all_goals repeat' (first | exact True.intro | refine leF_cons rfl ?_ ?_ | refine leS_cons rfl ?_ ?_ | (show PLe _ _ _ _; conv => whnf) | (show SLe _ _ _ _; conv => whnf) | (show PLeL _ _ _ _; conv => whnf) | apply And.intro | rfl | exact Nat.le_refl _ | exact fun _ _ => rfl | exact rowEq0 _ _)
        · conv => whnf
          refine ⟨trivial, fun _ => ?_, fun hc => absurd hc (by decide)⟩
          conv => whnf
          refine ⟨_, fun _ => PureCall.arg_le (call25 x (L ++ [rr]) (by first | omega | (simp; omega))) rfl (by
            all_goals repeat' (first | exact True.intro | refine leF_cons rfl ?_ ?_ | refine leS_cons rfl ?_ ?_ | (show PLe _ _ _ _; conv => whnf) | (show SLe _ _ _ _; conv => whnf) | (show PLeL _ _ _ _; conv => whnf) | apply And.intro | rfl | exact Nat.le_refl _ | exact fun _ _ => rfl | exact rowEq0 _ _)
            all_goals first | omega | exact Nat.zero_le _ | decide | (simp; done) | exact fl_push eRd L rr | skip), ?_⟩
          conv => whnf
          refine ⟨_, fun _ => PureCall.arg_le (call26 x (L ++ [rr]) (by first | omega | (simp; omega))) rfl (by
            all_goals repeat' (first | exact True.intro | refine leF_cons rfl ?_ ?_ | refine leS_cons rfl ?_ ?_ | (show PLe _ _ _ _; conv => whnf) | (show SLe _ _ _ _; conv => whnf) | (show PLeL _ _ _ _; conv => whnf) | apply And.intro | rfl | exact Nat.le_refl _ | exact fun _ _ => rfl | exact rowEq0 _ _)
            all_goals first | omega | exact Nat.zero_le _ | decide | (simp; done) | exact fl_push eRd L rr | skip), ?_⟩
          have hvl : (verdictsF x (L ++ [rr])).1.length ≤ 4611686018427387904 := by
            unfold verdictsF
            repeat' split
            all_goals first | exact Nat.zero_le _ | (rw [vSt_len]; first | omega | (simp; omega))
          generalize verdictsF x (L ++ [rr]) = V at hvl ⊢
          conv => whnf
          refine ⟨_, fun _ => call17 _ _ V.1 V.1 hvl, ?_⟩
          conv => whnf
          refine ⟨_, fun _ => call27 x, ?_⟩
          conv => whnf
          refine ⟨_, fun _ => call28 x, ?_⟩
          conv => whnf
          refine ⟨rfl, ?_⟩
          conv => whnf
          refine ⟨?_, fun hc => ?_, fun hc => ?_⟩
          · (try conv => whnf)
            (repeat' (first | exact True.intro | exact fun _ h => h | refine inR64_of ?_ ?_ | apply And.intro | refine maxLen_ge ?_)) <;> (first | omega | (dsimp only; omega) | (dsimp only [List.length_cons, List.length_nil]; omega) | (intro hg; rw [hg]; rfl) | (intro hg hh; rw [hg, hh]; rfl) | (intro hg; simp [-List.getD_eq_getElem?_getD, -Int.default_eq_zero] at hg; first | omega | (refine inR64_of ?_ ?_ <;> omega) | (constructor <;> omega)) | (simp [-List.getD_eq_getElem?_getD, -Int.default_eq_zero]; done))
          · exfalso
            simp only [bif_t, bif_f, decide_eq_true_eq, decide_eq_false_iff_not, Bool.not_eq_true', Bool.not_eq_false', Bool.and_eq_true, Bool.or_eq_true, Bool.and_eq_false_iff, Bool.or_eq_false_iff, beq_iff_eq, bne_iff_ne, beq_eq_false_iff_ne, bne_eq_false_iff_eq, reduceCtorEq, false_and, and_false, true_and, and_true, or_false, false_or, or_true, true_or, not_true_eq_false, not_false_eq_true, Int.toNat_zero] at hc
            simp at hc
          · conv => whnf
            refine ⟨?_, 2, (by omega : 2 ≤ 2), by omega, rfl, rfl, ?_, ?_⟩
            · (try conv => whnf)
              (repeat' (first | exact True.intro | exact fun _ h => h | refine inR64_of ?_ ?_ | apply And.intro | refine maxLen_ge ?_)) <;> (first | omega | (dsimp only; omega) | (dsimp only [List.length_cons, List.length_nil]; omega) | (intro hg; rw [hg]; rfl) | (intro hg hh; rw [hg, hh]; rfl) | (intro hg; simp [-List.getD_eq_getElem?_getD, -Int.default_eq_zero] at hg; first | omega | (refine inR64_of ?_ ?_ <;> omega) | (constructor <;> omega)) | (simp [-List.getD_eq_getElem?_getD, -Int.default_eq_zero]; done))
            all_goals repeat' (first | exact True.intro | refine leF_cons rfl ?_ ?_ | refine leS_cons rfl ?_ ?_ | (show PLe _ _ _ _; conv => whnf) | (show SLe _ _ _ _; conv => whnf) | (show PLeL _ _ _ _; conv => whnf) | apply And.intro | rfl | exact Nat.le_refl _ | exact fun _ _ => rfl | exact rowEq0 _ _)
        · conv => whnf
          refine ⟨trivial, fun hc => absurd hc (by decide), fun _ => ?_⟩
          conv => whnf
          refine ⟨?_, k + 1, (by omega : k + 1 ≤ 2), ?_, rfl, rfl, ?_, ?_⟩
          · (try conv => whnf)
            (repeat' (first | exact True.intro | exact fun _ h => h | refine inR64_of ?_ ?_ | apply And.intro | refine maxLen_ge ?_)) <;> (first | omega | (dsimp only; omega) | (dsimp only [List.length_cons, List.length_nil]; omega) | (intro hg; rw [hg]; rfl) | (intro hg hh; rw [hg, hh]; rfl) | (intro hg; simp [-List.getD_eq_getElem?_getD, -Int.default_eq_zero] at hg; first | omega | (refine inR64_of ?_ ?_ <;> omega) | (constructor <;> omega)) | (simp [-List.getD_eq_getElem?_getD, -Int.default_eq_zero]; done))
          · omega
          all_goals repeat' (first | exact True.intro | refine leF_cons rfl ?_ ?_ | refine leS_cons rfl ?_ ?_ | (show PLe _ _ _ _; conv => whnf) | (show SLe _ _ _ _; conv => whnf) | (show PLeL _ _ _ _; conv => whnf) | apply And.intro | rfl | exact Nat.le_refl _ | exact fun _ _ => rfl | exact rowEq0 _ _)
    · replace hc := of_decide_eq_false hc
      conv => whnf
      refine ⟨_, fun _ => call14, ?_⟩
      conv => whnf
      refine ⟨?_, [], ?_⟩
      · (try conv => whnf)
        (repeat' (first | exact True.intro | exact fun _ h => h | refine inR64_of ?_ ?_ | apply And.intro | refine maxLen_ge ?_)) <;> (first | omega | (dsimp only; omega) | (dsimp only [List.length_cons, List.length_nil]; omega) | (intro hg; rw [hg]; rfl) | (intro hg hh; rw [hg, hh]; rfl) | (intro hg; simp [-List.getD_eq_getElem?_getD, -Int.default_eq_zero] at hg; first | omega | (refine inR64_of ?_ ?_ <;> omega) | (constructor <;> omega)) | (simp [-List.getD_eq_getElem?_getD, -Int.default_eq_zero]; done))
      conv => whnf
      refine ⟨rfl, ?_, trivial, trivial⟩
      all_goals repeat' (first | exact True.intro | refine leF_cons rfl ?_ ?_ | refine leS_cons rfl ?_ ?_ | (show PLe _ _ _ _; conv => whnf) | (show SLe _ _ _ _; conv => whnf) | (show PLeL _ _ _ _; conv => whnf) | apply And.intro | rfl | exact Nat.le_refl _ | exact fun _ _ => rfl | exact rowEq0 _ _)
end Pv
end Go.Proofs.Ytogoplhikmmggaa
