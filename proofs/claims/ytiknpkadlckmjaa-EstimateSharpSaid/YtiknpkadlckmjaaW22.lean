/- LAW 29: possible histories; measures as a slice that may be appended to. -/
import Derived.Test.YtiknpkadlckmjaaW19
import Derived.Test.YtiknpkadlckmjaaW16
namespace Go.Proofs.Ytiknpkadlckmjaa
namespace Pv
theorem call14o (τ : Nat) (d : Dk) (l : List Int) (frm : Int) (hd : d.l.length ≤ 1000) (hl : l.length ≤ 1000) (hx : ∀ x ∈ l, 0 ≤ x ∧ x ≤ 1000000) (hf : 0 ≤ frm ∧ frm ≤ 1000000) :
    PureCall Try.prog 14 [.pt 0 0 0, .sl τ 1 l.length (fl eInt l), .int .i64 frm] [.box (eDk 1 d)] ⟨.os 1000000000, [.box (eDk 1 (msr frm 0 l d).2)], [.row 0 34 3 (msr frm 0 l d).1.length (fl eMe (msr frm 0 l d).1)]⟩ := by
  refine pure_call mix Try.func14 fits14 rfl ?_
  conv => whnf
  refine ⟨trivial, ?_⟩
  refine LSem.adopt 7 1000000 34 3 3 rfl rfl ?_
  refine LSem.loop (n := 43) mix (α := Nat × List Me × Dk) (fun s => s.1 ≤ l.length ∧ s.2.1.length ≤ s.1 ∧ s.2.1 ++ (msr frm s.1 (l.drop s.1) s.2.2).1 = (msr frm 0 l d).1 ∧ (msr frm s.1 (l.drop s.1) s.2.2).2 = (msr frm 0 l d).2 ∧ s.2.2.l.length ≤ 1000)
    (fun s => [(0, .pt 0 0 0), (2, .int .i64 frm), (7, .os 1000000), (11, .sl τ 1 l.length (fl eInt l)), (12, .int .i64 l.length), (13, .int .i64 s.1)])
    (fun s => [(0, .box (eDk 1 s.2.2)), (1000000, .row 0 34 3 s.2.1.length (fl eMe s.2.1))]) (fun s => l.length - s.1) (0, [], d) ?_ ?_ ?_
  · exact ⟨Nat.zero_le _, Nat.le_refl _, rfl, rfl, hd⟩
  · refine ⟨rfl, rfl, ?_, ?_⟩
    all_goals repeat' (first | exact True.intro | refine leF_cons rfl ?_ ?_ | refine leS_cons rfl ?_ ?_ | (show PLe _ _ _ _; conv => whnf) | (show SLe _ _ _ _; conv => whnf) | (show PLeL _ _ _ _; conv => whnf) | apply And.intro | rfl | exact Nat.le_refl _ | exact fun _ _ => rfl | exact rowEq0 _ _)
  · intro s hs
    obtain ⟨h1, h2, h3, h4, h5⟩ := hs
    conv => whnf
    refine ⟨trivial, fun hc => ?_, fun hc => ?_⟩
    · replace hc := dec_iff hc
      simp only [if_true] at hc
      have hlt : s.1 < l.length := by omega
      have hm := hx _ (getD_mem (l := l) (i := ((s.1 : Int)).toNat) (by omega))
      have hj' : ((s.1 : Int)).toNat = s.1 := by omega
      have hdrop : l.drop s.1 = l.getD s.1 default :: l.drop (s.1 + 1) := by
        rw [List.drop_eq_getElem_cons hlt]; congr 1
        rw [List.getD_eq_getElem?_getD, List.getElem?_eq_getElem hlt]; rfl
      conv => whnf
      refine ⟨_, fun _ => call12 1 s.2.2 3 h5 (by omega), ?_⟩
      conv => whnf
      refine ⟨?_, fun hc1 => ?_, fun hc1 => ?_⟩
      · (try conv => whnf)
        (repeat' (first | exact True.intro | exact fun _ h => h | refine inR64_of ?_ ?_ | apply And.intro | refine maxLen_ge ?_)) <;> (first | omega | (dsimp only; omega) | (dsimp only [List.length_cons, List.length_nil]; omega) | (intro hg; rw [hg]; rfl) | (intro hg hh; rw [hg, hh]; rfl) | (intro hg; simp [-List.getD_eq_getElem?_getD, -Int.default_eq_zero] at hg; first | omega | (refine inR64_of ?_ ?_ <;> omega) | (constructor <;> omega)) | (simp [-List.getD_eq_getElem?_getD, -Int.default_eq_zero]; done))
      · simp [-List.getD_eq_getElem?_getD, -Int.default_eq_zero] at hc1
        conv => whnf
        refine ⟨_, fun _ => call12 1 (nxtD s.2.2 3) 4 (by rw [nxtD_len]; exact h5) (by omega), ?_⟩
        conv => whnf
        have r1 := nxt_rng (nxtD s.2.2 3) 4
        refine ⟨_, fun _ => call12 1 (nxtD (nxtD s.2.2 3) 4) (2 * nxt (nxtD s.2.2 3) 4 + 1) (by rw [nxtD_len, nxtD_len]; exact h5) (by omega), ?_⟩
        conv => whnf
        have r2 := nxt_rng (nxtD (nxtD s.2.2 3) 4) (2 * nxt (nxtD s.2.2 3) 4 + 1)
        rw [hdrop] at h3 h4
        rw [msr_hit hc1] at h3 h4
        refine ⟨?_, (s.1 + 1, s.2.1 ++ [mk1 frm s.1 (l.getD s.1 default) s.2.2], dk1 s.2.2), ⟨?_, ?_, ?_, ?_, ?_⟩, ?_, rfl, rfl, ?_, ?_⟩
        · (try conv => whnf)
          (repeat' (first | exact True.intro | exact fun _ h => h | refine inR64_of ?_ ?_ | apply And.intro | refine maxLen_ge ?_)) <;> (first | omega | (dsimp only; omega) | (dsimp only [List.length_cons, List.length_nil]; omega) | (intro hg; rw [hg]; rfl) | (intro hg hh; rw [hg, hh]; rfl) | (intro hg; simp [-List.getD_eq_getElem?_getD, -Int.default_eq_zero] at hg; first | omega | (refine inR64_of ?_ ?_ <;> omega) | (constructor <;> omega)) | (simp [-List.getD_eq_getElem?_getD, -Int.default_eq_zero]; done))
        · dsimp only; omega
        · simp; omega
        · dsimp only at h3 ⊢; rw [← h3, List.append_assoc]; rfl
        · exact h4
        · dsimp only [dk1]; rw [nxtD_len, nxtD_len, nxtD_len]; exact h5
        · dsimp only; omega
        all_goals repeat' (first | exact True.intro | refine leF_cons rfl ?_ ?_ | refine leS_cons rfl ?_ ?_ | (show PLe _ _ _ _; conv => whnf) | (show SLe _ _ _ _; conv => whnf) | (show PLeL _ _ _ _; conv => whnf) | apply And.intro | rfl | exact Nat.le_refl _ | exact fun _ _ => rfl | exact rowEq0 _ _)
        · simp
        · exact fl_push eMe s.2.1 (mk1 frm s.1 (l.getD s.1 default) s.2.2)
      · simp [-List.getD_eq_getElem?_getD, -Int.default_eq_zero] at hc1
        rw [hdrop] at h3 h4
        rw [msr_skip hc1] at h3 h4
        conv => whnf
        refine ⟨?_, (s.1 + 1, s.2.1, nxtD s.2.2 3), ⟨?_, ?_, ?_, ?_, ?_⟩, ?_, rfl, rfl, ?_, ?_⟩
        · (try conv => whnf)
          (repeat' (first | exact True.intro | exact fun _ h => h | refine inR64_of ?_ ?_ | apply And.intro | refine maxLen_ge ?_)) <;> (first | omega | (dsimp only; omega) | (dsimp only [List.length_cons, List.length_nil]; omega) | (intro hg; rw [hg]; rfl) | (intro hg hh; rw [hg, hh]; rfl) | (intro hg; simp [-List.getD_eq_getElem?_getD, -Int.default_eq_zero] at hg; first | omega | (refine inR64_of ?_ ?_ <;> omega) | (constructor <;> omega)) | (simp [-List.getD_eq_getElem?_getD, -Int.default_eq_zero]; done))
        · dsimp only; omega
        · dsimp only; omega
        · exact h3
        · exact h4
        · dsimp only; rw [nxtD_len]; exact h5
        · dsimp only; omega
        all_goals repeat' (first | exact True.intro | refine leF_cons rfl ?_ ?_ | refine leS_cons rfl ?_ ?_ | (show PLe _ _ _ _; conv => whnf) | (show SLe _ _ _ _; conv => whnf) | (show PLeL _ _ _ _; conv => whnf) | apply And.intro | rfl | exact Nat.le_refl _ | exact fun _ _ => rfl | exact rowEq0 _ _)
    · replace hc := dec_iff hc
      simp only [Bool.false_eq_true, if_false] at hc
      have he : l.drop s.1 = [] := List.drop_eq_nil_of_le (by omega)
      rw [he, show msr frm s.1 [] s.2.2 = ([], s.2.2) by rw [msr]] at h3 h4
      dsimp only at h3 h4
      rw [List.append_nil] at h3
      rw [← h3, ← h4]
      conv => whnf
      refine ⟨?_, [1000000], ?_⟩
      · (try conv => whnf)
        (repeat' (first | exact True.intro | exact fun _ h => h | refine inR64_of ?_ ?_ | apply And.intro | refine maxLen_ge ?_)) <;> (first | omega | (dsimp only; omega) | (dsimp only [List.length_cons, List.length_nil]; omega) | (intro hg; rw [hg]; rfl) | (intro hg hh; rw [hg, hh]; rfl) | (intro hg; simp [-List.getD_eq_getElem?_getD, -Int.default_eq_zero] at hg; first | omega | (refine inR64_of ?_ ?_ <;> omega) | (constructor <;> omega)) | (simp [-List.getD_eq_getElem?_getD, -Int.default_eq_zero]; done))
      conv => whnf
      refine ⟨rfl, ?_, ?_, ?_⟩
      all_goals repeat' (first | exact True.intro | refine leF_cons rfl ?_ ?_ | refine leS_cons rfl ?_ ?_ | (show PLe _ _ _ _; conv => whnf) | (show SLe _ _ _ _; conv => whnf) | (show PLeL _ _ _ _; conv => whnf) | apply And.intro | rfl | exact Nat.le_refl _ | exact fun _ _ => rfl | exact rowEq0 _ _)

def c23L1 : C := (.seq (.reg [⟨(some 16), 256, none, .bi false .lss (.t 15) (.t 14)⟩])
  (.seq (.cond (.t 16) .skip (.exit 0))
  (.seq (.block 1 (.seq (.reg [⟨(some 17), 272, none, .mv (.t 15)⟩,
    ⟨(some 9), 144, none, .mv (.t 17)⟩])
  (.seq (.drw [⟨(some 18), 288, none, .mv (.t 3)⟩,
    ⟨(some 19), 304, none, .mv (.t 9)⟩,
    ⟨(some 20), 320, none, .ia 1 (.t 18) (.t 19)⟩,
    ⟨(some 21), 336, none, .ld 1 false (.t 20)⟩,
    ⟨(some 22), 352, none, .fa 0 (.t 5)⟩,
    ⟨(some 23), 368, none, .ld 1 false (.t 22)⟩,
    ⟨(some 24), 384, none, .bi false .lss (.t 21) (.t 23)⟩,
    ⟨(some 25), 400, none, .mv (.t 24)⟩,
    ⟨(some 26), 416, (some (25, false)), .mv (.t 3)⟩,
    ⟨(some 27), 432, (some (25, false)), .mv (.t 9)⟩,
    ⟨(some 28), 448, (some (25, false)), .ia 1 (.t 26) (.t 27)⟩,
    ⟨(some 29), 464, (some (25, false)), .ld 1 false (.t 28)⟩,
    ⟨(some 30), 480, (some (25, false)), .fa 1 (.t 5)⟩,
    ⟨(some 31), 496, (some (25, false)), .ld 1 false (.t 30)⟩,
    ⟨(some 32), 512, (some (25, false)), .bi false .gtr (.t 29) (.t 31)⟩,
    ⟨(some 33), 528, none, .pick (.t 25) (.c (.bool true)) (.t 32)⟩,
    ⟨(some 34), 544, none, .mv (.t 33)⟩,
    ⟨(some 35), 560, (some (34, false)), .mv (.t 9)⟩,
    ⟨(some 36), 576, (some (34, false)), .bi false .gtr (.t 35) (.c (.int .i64 0))⟩,
    ⟨(some 37), 592, (some (34, false)), .mv (.t 36)⟩,
    ⟨(some 38), 608, (some (37, true)), .mv (.t 3)⟩,
    ⟨(some 39), 624, (some (37, true)), .mv (.t 9)⟩,
    ⟨(some 40), 640, (some (37, true)), .ia 1 (.t 38) (.t 39)⟩,
    ⟨(some 41), 656, (some (37, true)), .ld 1 false (.t 40)⟩,
    ⟨(some 42), 672, (some (37, true)), .mv (.t 3)⟩,
    ⟨(some 43), 688, (some (37, true)), .mv (.t 9)⟩,
    ⟨(some 44), 704, (some (37, true)), .bi false .sub (.t 43) (.c (.int .i64 1))⟩,
    ⟨(some 45), 720, (some (37, true)), .ia 1 (.t 42) (.t 44)⟩,
    ⟨(some 46), 736, (some (37, true)), .ld 1 false (.t 45)⟩,
    ⟨(some 47), 752, (some (37, true)), .bi false .sub (.t 41) (.t 46)⟩,
    ⟨(some 48), 768, (some (37, true)), .mv (.t 3)⟩,
    ⟨(some 49), 784, (some (37, true)), .mv (.t 9)⟩,
    ⟨(some 50), 800, (some (37, true)), .bi false .sub (.t 49) (.c (.int .i64 1))⟩,
    ⟨(some 51), 816, (some (37, true)), .ia 1 (.t 48) (.t 50)⟩,
    ⟨(some 52), 832, (some (37, true)), .ld 1 false (.t 51)⟩,
    ⟨(some 53), 848, (some (37, true)), .mv (.t 3)⟩,
    ⟨(some 54), 864, (some (37, true)), .mv (.t 9)⟩,
    ⟨(some 55), 880, (some (37, true)), .ia 1 (.t 53) (.t 54)⟩,
    ⟨(some 56), 896, (some (37, true)), .ld 1 false (.t 55)⟩,
    ⟨(some 57), 912, (some (37, true)), .bi false .sub (.t 52) (.t 56)⟩,
    ⟨(some 58), 928, (some (37, true)), .mx [(.t 47), (.t 57)]⟩,
    ⟨(some 59), 944, (some (37, true)), .fa 2 (.t 5)⟩,
    ⟨(some 60), 960, (some (37, true)), .ld 1 false (.t 59)⟩,
    ⟨(some 61), 976, (some (37, true)), .bi false .gtr (.t 58) (.t 60)⟩,
    ⟨(some 62), 992, (some (34, false)), .pick (.t 37) (.t 61) (.c (.bool false))⟩,
    ⟨(some 63), 1008, none, .pick (.t 34) (.c (.bool true)) (.t 62)⟩]
    [(0, 1, 18), (0, 4, 18), (0, 5, 18), (1, 4, 19), (1, 5, 19), (2, 4, 20), (2, 5, 20), (3, 4, 21), (3, 5, 21), (8, 9, 26), (8, 12, 26), (8, 13, 26), (9, 12, 27), (9, 13, 27), (10, 12, 28), (10, 13, 28), (11, 12, 29), (11, 13, 29), (20, 21, 38), (20, 24, 38), (20, 25, 38), (20, 26, 38), (20, 27, 38), (20, 28, 38), (20, 30, 38), (20, 31, 38), (20, 32, 38), (20, 33, 38), (20, 34, 38), (20, 35, 38), (20, 36, 38), (20, 37, 38), (20, 38, 38), (20, 39, 38), (20, 41, 38), (20, 42, 38), (21, 24, 39), (21, 25, 39), (21, 26, 39), (21, 27, 39), (21, 28, 39), (21, 30, 39), (21, 31, 39), (21, 32, 39), (21, 33, 39), (21, 34, 39), (21, 35, 39), (21, 36, 39), (21, 37, 39), (21, 38, 39), (21, 39, 39), (21, 41, 39), (21, 42, 39), (22, 24, 40), (22, 25, 40), (22, 26, 40), (22, 27, 40), (22, 28, 40), (22, 30, 40), (22, 31, 40), (22, 32, 40), (22, 33, 40), (22, 34, 40), (22, 35, 40), (22, 36, 40), (22, 37, 40), (22, 38, 40), (22, 39, 40), (22, 41, 40), (22, 42, 40), (23, 24, 41), (23, 25, 41), (23, 26, 41), (23, 27, 41), (23, 28, 41), (23, 30, 41), (23, 31, 41), (23, 32, 41), (23, 33, 41), (23, 34, 41), (23, 35, 41), (23, 36, 41), (23, 37, 41), (23, 38, 41), (23, 39, 41), (23, 41, 41), (23, 42, 41), (24, 25, 42), (24, 26, 42), (24, 30, 42), (24, 31, 42), (24, 32, 42), (24, 33, 42), (24, 34, 42), (24, 35, 42), (24, 36, 42), (24, 37, 42), (24, 38, 42), (24, 39, 42), (24, 41, 42), (24, 42, 42), (25, 30, 43), (25, 31, 43), (25, 32, 43), (25, 33, 43), (25, 34, 43), (25, 35, 43), (25, 36, 43), (25, 37, 43), (25, 38, 43), (25, 39, 43), (25, 41, 43), (25, 42, 43), (26, 30, 44), (26, 31, 44), (26, 32, 44), (26, 33, 44), (26, 34, 44), (26, 35, 44), (26, 36, 44), (26, 37, 44), (26, 38, 44), (26, 39, 44), (26, 41, 44), (26, 42, 44), (27, 30, 45), (27, 31, 45), (27, 32, 45), (27, 33, 45), (27, 34, 45), (27, 35, 45), (27, 36, 45), (27, 37, 45), (27, 38, 45), (27, 39, 45), (27, 41, 45), (27, 42, 45), (28, 30, 46), (28, 31, 46), (28, 32, 46), (28, 33, 46), (28, 34, 46), (28, 35, 46), (28, 36, 46), (28, 37, 46), (28, 38, 46), (28, 39, 46), (28, 41, 46), (28, 42, 46), (29, 30, 47), (29, 31, 47), (29, 32, 47), (29, 33, 47), (29, 34, 47), (29, 35, 47), (29, 36, 47), (29, 37, 47), (29, 38, 47), (29, 39, 47), (29, 41, 47), (29, 42, 47), (30, 31, 48), (30, 32, 48), (30, 35, 48), (30, 36, 48), (30, 37, 48), (30, 38, 48), (30, 41, 48), (30, 42, 48), (31, 35, 49), (31, 36, 49), (31, 37, 49), (31, 38, 49), (31, 41, 49), (31, 42, 49), (32, 35, 50), (32, 36, 50), (32, 37, 50), (32, 38, 50), (32, 41, 50), (32, 42, 50), (33, 35, 51), (33, 36, 51), (33, 37, 51), (33, 38, 51), (33, 41, 51), (33, 42, 51), (34, 35, 52), (34, 36, 52), (34, 37, 52), (34, 38, 52), (34, 41, 52), (34, 42, 52), (35, 36, 53), (35, 41, 53), (35, 42, 53), (36, 41, 54), (36, 42, 54), (37, 41, 55), (37, 42, 55), (38, 41, 56), (38, 42, 56), (39, 41, 57), (39, 42, 57), (40, 41, 58), (40, 42, 58)])
  (.cond (.t 63) (.seq (.reg [⟨(some 8), 128, none, .mv (.c (.bool false))⟩])
  .ret) .skip))))
  (.reg [⟨(some 64), 1024, none, .bi false .add (.t 15) (.c (.int .i64 1))⟩,
    ⟨(some 15), 240, none, .mv (.t 64)⟩]))))
def c23L2 : C := (.seq (.reg [⟨(some 68), 1088, none, .bi false .lss (.t 67) (.t 66)⟩])
  (.seq (.cond (.t 68) .skip (.exit 2))
  (.seq (.block 3 (.seq (.reg [⟨(some 69), 1104, none, .ia 3 (.t 65) (.t 67)⟩,
    ⟨(some 70), 1120, none, .ld 3 true (.t 69)⟩,
    ⟨(some 11), 176, none, .al [(.int .i64 0), (.int .i64 0), (.int .i64 0)]⟩,
    ⟨none, 0, none, .st 3 (.t 11) (.t 70)⟩])
  (.seq (.reg [⟨(some 71), 1136, none, .fa 0 (.t 11)⟩,
    ⟨(some 72), 1152, none, .ld 1 false (.t 71)⟩,
    ⟨(some 73), 1168, none, .mv (.t 2)⟩,
    ⟨(some 74), 1184, none, .bi false .sub (.t 72) (.t 73)⟩,
    ⟨(some 12), 192, none, .mv (.t 74)⟩])
  (.seq (.drw [⟨(some 75), 1200, none, .mv (.t 12)⟩,
    ⟨(some 76), 1216, none, .bi false .geq (.t 75) (.c (.int .i64 0))⟩,
    ⟨(some 77), 1232, none, .mv (.t 76)⟩,
    ⟨(some 78), 1248, (some (77, true)), .mv (.t 12)⟩,
    ⟨(some 79), 1264, (some (77, true)), .mv (.t 3)⟩,
    ⟨(some 80), 1280, (some (77, true)), .len (.t 79)⟩,
    ⟨(some 81), 1296, (some (77, true)), .bi false .lss (.t 78) (.t 80)⟩,
    ⟨(some 82), 1312, none, .pick (.t 77) (.t 81) (.c (.bool false))⟩,
    ⟨(some 83), 1328, none, .mv (.t 82)⟩,
    ⟨(some 84), 1344, (some (83, true)), .mv (.t 3)⟩,
    ⟨(some 85), 1360, (some (83, true)), .mv (.t 12)⟩,
    ⟨(some 86), 1376, (some (83, true)), .ia 1 (.t 84) (.t 85)⟩,
    ⟨(some 87), 1392, (some (83, true)), .ld 1 false (.t 86)⟩,
    ⟨(some 88), 1408, (some (83, true)), .fa 1 (.t 11)⟩,
    ⟨(some 89), 1424, (some (83, true)), .ld 1 false (.t 88)⟩,
    ⟨(some 90), 1440, (some (83, true)), .bi false .sub (.t 87) (.t 89)⟩,
    ⟨(some 91), 1456, (some (83, true)), .fa 1 (.t 11)⟩,
    ⟨(some 92), 1472, (some (83, true)), .ld 1 false (.t 91)⟩,
    ⟨(some 93), 1488, (some (83, true)), .mv (.t 3)⟩,
    ⟨(some 94), 1504, (some (83, true)), .mv (.t 12)⟩,
    ⟨(some 95), 1520, (some (83, true)), .ia 1 (.t 93) (.t 94)⟩,
    ⟨(some 96), 1536, (some (83, true)), .ld 1 false (.t 95)⟩,
    ⟨(some 97), 1552, (some (83, true)), .bi false .sub (.t 92) (.t 96)⟩,
    ⟨(some 98), 1568, (some (83, true)), .mx [(.t 90), (.t 97)]⟩,
    ⟨(some 99), 1584, (some (83, true)), .fa 2 (.t 11)⟩,
    ⟨(some 100), 1600, (some (83, true)), .ld 1 false (.t 99)⟩,
    ⟨(some 101), 1616, (some (83, true)), .bi false .gtr (.t 98) (.t 100)⟩,
    ⟨(some 102), 1632, none, .pick (.t 83) (.t 101) (.c (.bool false))⟩]
    [(3, 4, 78), (3, 5, 78), (9, 10, 84), (9, 13, 84), (9, 14, 84), (9, 16, 84), (9, 17, 84), (9, 18, 84), (9, 19, 84), (9, 20, 84), (9, 21, 84), (9, 22, 84), (9, 24, 84), (9, 25, 84), (10, 13, 85), (10, 14, 85), (10, 16, 85), (10, 17, 85), (10, 18, 85), (10, 19, 85), (10, 20, 85), (10, 21, 85), (10, 22, 85), (10, 24, 85), (10, 25, 85), (11, 13, 86), (11, 14, 86), (11, 16, 86), (11, 17, 86), (11, 18, 86), (11, 19, 86), (11, 20, 86), (11, 21, 86), (11, 22, 86), (11, 24, 86), (11, 25, 86), (12, 13, 87), (12, 14, 87), (12, 16, 87), (12, 17, 87), (12, 18, 87), (12, 19, 87), (12, 20, 87), (12, 21, 87), (12, 22, 87), (12, 24, 87), (12, 25, 87), (13, 16, 88), (13, 17, 88), (13, 18, 88), (13, 19, 88), (13, 20, 88), (13, 21, 88), (13, 22, 88), (13, 24, 88), (13, 25, 88), (14, 16, 89), (14, 17, 89), (14, 18, 89), (14, 19, 89), (14, 20, 89), (14, 21, 89), (14, 22, 89), (14, 24, 89), (14, 25, 89), (15, 16, 90), (15, 17, 90), (15, 18, 90), (15, 19, 90), (15, 20, 90), (15, 21, 90), (15, 22, 90), (15, 24, 90), (15, 25, 90), (16, 18, 91), (16, 19, 91), (16, 20, 91), (16, 21, 91), (16, 24, 91), (16, 25, 91), (17, 18, 92), (17, 19, 92), (17, 20, 92), (17, 21, 92), (17, 24, 92), (17, 25, 92), (18, 19, 93), (18, 24, 93), (18, 25, 93), (19, 24, 94), (19, 25, 94), (20, 24, 95), (20, 25, 95), (21, 24, 96), (21, 25, 96), (22, 24, 97), (22, 25, 97), (23, 24, 98), (23, 25, 98)])
  (.cond (.t 102) (.seq (.reg [⟨(some 8), 128, none, .mv (.c (.bool false))⟩])
  .ret) .skip)))))
  (.reg [⟨(some 103), 1648, none, .bi false .add (.t 67) (.c (.int .i64 1))⟩,
    ⟨(some 67), 1072, none, .mv (.t 103)⟩]))))
def c23 : C := (.seq (.reg [⟨(some 5), 80, none, .bx 4 (.t 1)⟩,
    ⟨(some 8), 128, none, .mv (.c (.bool false))⟩])
  (.seq (.seq (.reg [⟨(some 13), 208, none, .mv (.t 3)⟩,
    ⟨(some 14), 224, none, .len (.t 13)⟩,
    ⟨(some 15), 240, none, .mv (.c (.int .i64 0))⟩])
  (.block 0 (.loop c23L1)))
  (.seq (.seq (.reg [⟨(some 65), 1040, none, .mv (.t 0)⟩,
    ⟨(some 66), 1056, none, .len (.t 65)⟩,
    ⟨(some 67), 1072, none, .mv (.c (.int .i64 0))⟩])
  (.block 2 (.loop c23L2)))
  (.seq (.reg [⟨(some 8), 128, none, .mv (.c (.bool true))⟩])
  .ret))))
theorem fits23 : fits Try.prog false Try.f23 4 104 [(8, none)] = some c23.er := by kernel_rfl
theorem bif_t {a b c : Bool} : (bif a then b else c) = true ↔ (a = true ∧ b = true) ∨ (a = false ∧ c = true) := by cases a <;> simp
theorem bif_f {a b c : Bool} : (bif a then b else c) = false ↔ (a = true ∧ b = false) ∨ (a = false ∧ c = false) := by cases a <;> simp

set_option maxRecDepth 100000 in
set_option maxHeartbeats 4000000 in
theorem call23 (τ τ' : Nat) (l : List Me) (c : Ck) (x : List Int) (hc : SmallC c) (hlen : x.length ≤ 1000)
    (hx : ∀ i, i < x.length → c.lo ≤ x.getD i default ∧ x.getD i default ≤ c.hi ∧ (0 < i → x.getD i default - x.getD (i - 1) default ≤ c.j ∧ x.getD (i - 1) default - x.getD i default ≤ c.j))
    (hl : ∀ m ∈ l, 0 ≤ m.t ∧ m.t ≤ 100000 ∧ 0 ≤ m.v ∧ m.v ≤ 100000 ∧ ∀ i, i < x.length → m.t = (i : Int) → x.getD i default - m.v ≤ m.o ∧ m.v - x.getD i default ≤ m.o) (hll : l.length ≤ 1000) :
    PureCall Try.prog 23 [.sl τ 3 l.length (fl eMe l), .agg (eCk c), .int .i64 0, .sl τ' 1 x.length (fl eInt x)] [] ⟨.bool true, [], []⟩ := by
  obtain ⟨c1, c2, c3, c4, c5, c6⟩ := hc
  refine pure_call mix Try.func23 fits23 rfl ?_
  conv => whnf
  refine ⟨trivial, ?_⟩
  refine LSem.loop (n := 104) mix (α := Nat) (fun i => i ≤ x.length)
    (fun i => [(0, .sl τ 3 l.length (fl eMe l)), (2, .int .i64 0), (3, .sl τ' 1 x.length (fl eInt x)), (5, .pt 80 0 0), (14, .int .i64 x.length), (15, .int .i64 i)])
    (fun _ => [(80, .box (eCk c))]) (fun i => x.length - i) 0 ?_ ?_ ?_
  · exact Nat.zero_le _
  · refine ⟨rfl, rfl, ?_, ?_⟩
    all_goals repeat' (first | exact True.intro | refine leF_cons rfl ?_ ?_ | refine leS_cons rfl ?_ ?_ | (show PLe _ _ _ _; conv => whnf) | (show SLe _ _ _ _; conv => whnf) | (show PLeL _ _ _ _; conv => whnf) | apply And.intro | rfl | exact Nat.le_refl _ | exact fun _ _ => rfl | exact rowEq0 _ _)
  · intro i hi
    have hj : ((i : Int)).toNat = i := by omega
    have hj1 : ((i : Int) - 1).toNat = i - 1 := by omega
    conv => whnf
    refine ⟨trivial, fun hc => ?_, fun hc => ?_⟩
    · replace hc := of_decide_eq_true hc
      have hlt : i < x.length := by omega
      obtain ⟨x1, x2, x3⟩ := hx i hlt
      obtain ⟨y1, y2, _⟩ := hx (i - 1) (by omega)
      conv => whnf
      refine ⟨rfl, ?_⟩
      conv => whnf
      refine ⟨?_, fun hc2 => ?_, fun _ => ?_⟩
      · rw [hj, hj1]
        (try conv => whnf)
        (repeat' (first | exact True.intro | exact fun _ h => h | refine inR64_of ?_ ?_ | apply And.intro | refine maxLen_ge ?_)) <;> (first | omega | (dsimp only; omega) | (dsimp only [List.length_cons, List.length_nil]; omega) | (intro hg; rw [hg]; rfl) | (intro hg hh; rw [hg, hh]; rfl) | (intro hg; simp [-List.getD_eq_getElem?_getD, -Int.default_eq_zero] at hg; first | omega | (refine inR64_of ?_ ?_ <;> omega) | (constructor <;> omega)) | (simp [-List.getD_eq_getElem?_getD, -Int.default_eq_zero]; done))
      · rw [hj, hj1] at hc2
        exfalso
        simp only [bif_t, bif_f, decide_eq_true_eq, decide_eq_false_iff_not, Bool.not_eq_true', Bool.not_eq_false', Bool.and_eq_true, Bool.or_eq_true, Bool.and_eq_false_iff, Bool.or_eq_false_iff, beq_iff_eq, bne_iff_ne, beq_eq_false_iff_ne, bne_eq_false_iff_eq, reduceCtorEq, false_and, and_false, true_and, and_true, or_false, false_or, or_true, true_or, not_true_eq_false, not_false_eq_true, Int.toNat_zero] at hc2
        omega
      · conv => whnf
        refine ⟨?_, i + 1, (by omega : i + 1 ≤ x.length), ?_, rfl, rfl, ?_, ?_⟩
        · (try conv => whnf)
          (repeat' (first | exact True.intro | exact fun _ h => h | refine inR64_of ?_ ?_ | apply And.intro | refine maxLen_ge ?_)) <;> (first | omega | (dsimp only; omega) | (dsimp only [List.length_cons, List.length_nil]; omega) | (intro hg; rw [hg]; rfl) | (intro hg hh; rw [hg, hh]; rfl) | (intro hg; simp [-List.getD_eq_getElem?_getD, -Int.default_eq_zero] at hg; first | omega | (refine inR64_of ?_ ?_ <;> omega) | (constructor <;> omega)) | (simp [-List.getD_eq_getElem?_getD, -Int.default_eq_zero]; done))
        · omega
        all_goals repeat' (first | exact True.intro | refine leF_cons rfl ?_ ?_ | refine leS_cons rfl ?_ ?_ | (show PLe _ _ _ _; conv => whnf) | (show SLe _ _ _ _; conv => whnf) | (show PLeL _ _ _ _; conv => whnf) | apply And.intro | rfl | exact Nat.le_refl _ | exact fun _ _ => rfl | exact rowEq0 _ _)
        all_goals omega
    · replace hc := of_decide_eq_false hc
      conv => whnf
      refine ⟨trivial, ?_⟩
      refine LSem.loop (n := 104) mix (α := Nat) (fun k => k ≤ l.length)
        (fun k => [(2, .int .i64 0), (3, .sl τ' 1 x.length (fl eInt x)), (65, .sl τ 3 l.length (fl eMe l)), (66, .int .i64 l.length), (67, .int .i64 k)])
        (fun _ => []) (fun k => l.length - k) 0 ?_ ?_ ?_
      · exact Nat.zero_le _
      · refine ⟨rfl, rfl, ?_, ?_⟩
        all_goals repeat' (first | exact True.intro | refine leF_cons rfl ?_ ?_ | refine leS_cons rfl ?_ ?_ | (show PLe _ _ _ _; conv => whnf) | (show SLe _ _ _ _; conv => whnf) | (show PLeL _ _ _ _; conv => whnf) | apply And.intro | rfl | exact Nat.le_refl _ | exact fun _ _ => rfl | exact rowEq0 _ _)
      · intro k hk
        have hj : ((k : Int)).toNat = k := by omega
        conv => whnf
        refine ⟨trivial, fun hc => ?_, fun hc => ?_⟩
        · replace hc := of_decide_eq_true hc
          have hlt : k < l.length := by omega
          obtain ⟨m1, m2, m3, m4, m5⟩ := hl _ (getD_mem hlt)
          conv => whnf
          refine ⟨rfl, ?_⟩
          conv => whnf
          have m6 : 0 ≤ (l.getD k default).t - 0 → (l.getD k default).t - 0 < (x.length : Int) → (0 ≤ x.getD ((l.getD k default).t - 0).toNat default ∧ x.getD ((l.getD k default).t - 0).toNat default ≤ 100) ∧ x.getD ((l.getD k default).t - 0).toNat default - (l.getD k default).v ≤ (l.getD k default).o ∧ (l.getD k default).v - x.getD ((l.getD k default).t - 0).toNat default ≤ (l.getD k default).o := fun h1 h2 => by
            have h3 := hx ((l.getD k default).t - 0).toNat (by omega)
            have h4 := m5 ((l.getD k default).t - 0).toNat (by omega) (by omega)
            omega
          refine ⟨?_, fun hc2 => ?_, fun _ => ?_⟩
          · rw [hj]
            (try conv => whnf)
            (repeat' (first | exact True.intro | exact fun _ h => h | refine inR64_of ?_ ?_ | apply And.intro | refine maxLen_ge ?_)) <;> (first | omega | (dsimp only; omega) | (dsimp only [List.length_cons, List.length_nil]; omega) | (intro hg; rw [hg]; rfl) | (intro hg hh; rw [hg, hh]; rfl) | (intro hg; simp [-List.getD_eq_getElem?_getD, -Int.default_eq_zero] at hg; first | omega | (refine inR64_of ?_ ?_ <;> omega) | (constructor <;> omega)) | (simp [-List.getD_eq_getElem?_getD, -Int.default_eq_zero]; done))
          · rw [hj] at hc2
            exfalso
            simp only [bif_t, bif_f, decide_eq_true_eq, decide_eq_false_iff_not, Bool.not_eq_true', Bool.not_eq_false', Bool.and_eq_true, Bool.or_eq_true, Bool.and_eq_false_iff, Bool.or_eq_false_iff, beq_iff_eq, bne_iff_ne, beq_eq_false_iff_ne, bne_eq_false_iff_eq, reduceCtorEq, false_and, and_false, true_and, and_true, or_false, false_or, or_true, true_or, not_true_eq_false, not_false_eq_true, Int.toNat_zero] at hc2
            omega
          · conv => whnf
            refine ⟨?_, k + 1, (by omega : k + 1 ≤ l.length), ?_, rfl, rfl, ?_, ?_⟩
            · rw [hj]
              (try conv => whnf)
              (repeat' (first | exact True.intro | exact fun _ h => h | refine inR64_of ?_ ?_ | apply And.intro | refine maxLen_ge ?_)) <;> (first | omega | (dsimp only; omega) | (dsimp only [List.length_cons, List.length_nil]; omega) | (intro hg; rw [hg]; rfl) | (intro hg hh; rw [hg, hh]; rfl) | (intro hg; simp [-List.getD_eq_getElem?_getD, -Int.default_eq_zero] at hg; first | omega | (refine inR64_of ?_ ?_ <;> omega) | (constructor <;> omega)) | (simp [-List.getD_eq_getElem?_getD, -Int.default_eq_zero]; done))
            · omega
            all_goals repeat' (first | exact True.intro | refine leF_cons rfl ?_ ?_ | refine leS_cons rfl ?_ ?_ | (show PLe _ _ _ _; conv => whnf) | (show SLe _ _ _ _; conv => whnf) | (show PLeL _ _ _ _; conv => whnf) | apply And.intro | rfl | exact Nat.le_refl _ | exact fun _ _ => rfl | exact rowEq0 _ _)
            all_goals omega
        · conv => whnf
          refine ⟨?_, [], ?_⟩
          · (try conv => whnf)
            (repeat' (first | exact True.intro | exact fun _ h => h | refine inR64_of ?_ ?_ | apply And.intro | refine maxLen_ge ?_)) <;> (first | omega | (dsimp only; omega) | (dsimp only [List.length_cons, List.length_nil]; omega) | (intro hg; rw [hg]; rfl) | (intro hg hh; rw [hg, hh]; rfl) | (intro hg; simp [-List.getD_eq_getElem?_getD, -Int.default_eq_zero] at hg; first | omega | (refine inR64_of ?_ ?_ <;> omega) | (constructor <;> omega)) | (simp [-List.getD_eq_getElem?_getD, -Int.default_eq_zero]; done))
          conv => whnf
          refine ⟨rfl, ?_, trivial, trivial⟩
          all_goals repeat' (first | exact True.intro | refine leF_cons rfl ?_ ?_ | refine leS_cons rfl ?_ ?_ | (show PLe _ _ _ _; conv => whnf) | (show SLe _ _ _ _; conv => whnf) | (show PLeL _ _ _ _; conv => whnf) | apply And.intro | rfl | exact Nat.le_refl _ | exact fun _ _ => rfl | exact rowEq0 _ _)
end Pv
end Go.Proofs.Ytiknpkadlckmjaa
