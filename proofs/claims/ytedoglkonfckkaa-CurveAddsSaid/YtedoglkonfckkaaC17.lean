/- LAW 02, THE WALKS: curves that are made, as lists of one's own; curves that may be wrong. -/
import Derived.Test.YtedoglkonfckkaaC16
set_option linter.unusedSimpArgs false
set_option linter.unusedVariables false
namespace Go.Proofs.Ytedoglkonfckkaa
namespace Pv
theorem call9o0 (d : Dk) (x y dx dy : Int) (hd : d.at_ ≤ 1000000) (hx : 0 ≤ x ∧ x ≤ 1000000) (hy : 0 ≤ y ∧ y ≤ 1000000) (hdx : 1 ≤ dx ∧ dx ≤ 1000000) (hdy : 1 ≤ dy ∧ dy ≤ 1000000) :
    PureCall Try.prog 9 [.pt 0 0 0, .int .i64 x, .int .i64 y, .int .i64 dx, .int .i64 dy, .bool false] [.box (eDk 1 d)] ⟨.os 1000000000, [.box (eDk 1 (curveS d x y dx dy 0).d)], [.row 0 35 2 (curveS d x y dx dy 0).L.length (fl ePt (curveS d x y dx dy 0).L)]⟩ := by
  refine pure_call mix Try.func9 fits9 rfl ?_
  conv => whnf
  refine ⟨trivial, fun hc => absurd hc (by decide), fun _ => ?_⟩
  conv => whnf
  refine ⟨_, fun _ => call_next 1 d 4 (by omega) (by omega), ?_⟩
  conv => whnf
  have r1 := nxt_lt d (n := 4) (by omega)
  have a1 := nxtD_at d 4
  refine ⟨?_, ?_⟩
  · (try conv => whnf)
    (repeat' (first | exact True.intro | exact fun _ h => h | refine inR64_of ?_ ?_ | apply And.intro | refine maxLen_ge ?_)) <;> (first | omega | (dsimp only; omega) | (dsimp only [List.length_cons, List.length_nil]; omega) | (intro hg; rw [hg]; rfl) | (intro hg hh; rw [hg, hh]; rfl) | (intro hg; simp [-List.getD_eq_getElem?_getD, -Int.default_eq_zero] at hg; first | omega | (refine inR64_of ?_ ?_ <;> omega) | (constructor <;> omega)) | (simp [-List.getD_eq_getElem?_getD, -Int.default_eq_zero]; done))
  refine LSem.loop (n := 48) mix (α := Nat × Cst) (fun s => s.1 ≤ 4 ∧ crvS dx dy 0 s.1 s.2 = curveS d x y dx dy 0 ∧ s.2.d.at_ + 2 * s.1 ≤ 1000020 ∧ s.2.L.length + s.1 ≤ 10 ∧ (0 ≤ s.2.x ∧ s.2.x + 1000001 * s.1 ≤ 5000010) ∧ (0 ≤ s.2.y ∧ s.2.y + 1000002 * s.1 ≤ 5000010))
    (fun s => [(0, .pt 0 0 0), (1, .int .i64 s.2.x), (2, .int .i64 s.2.y), (3, .int .i64 dx), (4, .int .i64 dy), (13, .int .i64 0), (14, .os 320), (15, .int .i64 s.1)])
    (fun s => [(0, .box (eDk 1 s.2.d)), (320, .row 0 35 2 s.2.L.length (fl ePt s.2.L))]) (fun s => s.1) ((1 + nxt d 4).toNat, ⟨[⟨x, y⟩], x, y, nxtD d 4⟩) ?_ ?_ ?_
  · refine ⟨by dsimp only; omega, rfl, ?_, ?_, ?_, ?_⟩
    all_goals (dsimp only [List.length_cons, List.length_nil]; omega)
  · refine ⟨rfl, rfl, ?_, ?_⟩
    all_goals repeat' (first | exact True.intro | refine leF_cons rfl ?_ ?_ | refine leS_cons rfl ?_ ?_ | (show PLe _ _ _ _; conv => whnf) | (show SLe _ _ _ _; conv => whnf) | (show PLeL _ _ _ _; conv => whnf) | apply And.intro | rfl | exact Nat.le_refl _ | exact fun _ _ => rfl | exact rowEq0 _ _)
    · dsimp only; omega
    · exact fl_one ePt ⟨x, y⟩
  · intro s hs
    obtain ⟨h1, h2, h3, h4, h5, h6⟩ := hs
    conv => whnf
    refine ⟨trivial, fun hc => ?_, fun hc => ?_⟩
    · replace hc := of_decide_eq_true hc
      have h0 : 0 < s.1 := by omega
      conv => whnf
      have r2 := nxt_lt s.2.d (n := dx) (by omega)
      have a2 := nxtD_at s.2.d dx
      refine ⟨_, fun _ => call_next 1 s.2.d dx (by omega) (by omega), ?_⟩
      conv => whnf
      have r3 := nxt_lt (nxtD s.2.d dx) (n := dy) (by omega)
      have a3 := nxtD_at (nxtD s.2.d dx) dy
      refine ⟨_, fun _ => call_next 1 (nxtD s.2.d dx) dy (by omega) (by omega), ?_⟩
      conv => whnf
      refine ⟨?_, (s.1 - 1, crvN dx dy 0 s.2), ⟨?_, ?_, ?_, ?_, ?_, ?_⟩, ?_, rfl, rfl, ?_, ?_⟩
      · (try conv => whnf)
        (repeat' (first | exact True.intro | exact fun _ h => h | refine inR64_of ?_ ?_ | apply And.intro | refine maxLen_ge ?_)) <;> (first | omega | (dsimp only; omega) | (dsimp only [List.length_cons, List.length_nil]; omega) | (intro hg; rw [hg]; rfl) | (intro hg hh; rw [hg, hh]; rfl) | (intro hg; simp [-List.getD_eq_getElem?_getD, -Int.default_eq_zero] at hg; first | omega | (refine inR64_of ?_ ?_ <;> omega) | (constructor <;> omega)) | (simp [-List.getD_eq_getElem?_getD, -Int.default_eq_zero]; done))
      · dsimp only; omega
      · rw [← h2]; dsimp only
        rw [show s.1 = (s.1 - 1) + 1 by omega]; rfl
      · dsimp only [crvN]; omega
      · dsimp only [crvN]; rw [List.length_append, List.length_cons, List.length_nil]; omega
      · dsimp only [crvN]; omega
      · dsimp only [crvN]; omega
      · dsimp only; omega
      all_goals repeat' (first | exact True.intro | refine leF_cons rfl ?_ ?_ | refine leS_cons rfl ?_ ?_ | (show PLe _ _ _ _; conv => whnf) | (show SLe _ _ _ _; conv => whnf) | (show PLeL _ _ _ _; conv => whnf) | apply And.intro | rfl | exact Nat.le_refl _ | exact fun _ _ => rfl | exact rowEq0 _ _)
      all_goals (try dsimp only)
      all_goals (try omega)
      · simp [crvN]
      · exact fl_push ePt s.2.L ⟨s.2.x + 1 + nxt s.2.d dx, s.2.y + 0 + nxt (nxtD s.2.d dx) dy⟩
    · replace hc := of_decide_eq_false hc
      rw [show s.1 = 0 by omega] at h2
      rw [← h2]
      conv => whnf
      refine ⟨?_, [320], ?_⟩
      · (try conv => whnf)
        (repeat' (first | exact True.intro | exact fun _ h => h | refine inR64_of ?_ ?_ | apply And.intro | refine maxLen_ge ?_)) <;> (first | omega | (dsimp only; omega) | (dsimp only [List.length_cons, List.length_nil]; omega) | (intro hg; rw [hg]; rfl) | (intro hg hh; rw [hg, hh]; rfl) | (intro hg; simp [-List.getD_eq_getElem?_getD, -Int.default_eq_zero] at hg; first | omega | (refine inR64_of ?_ ?_ <;> omega) | (constructor <;> omega)) | (simp [-List.getD_eq_getElem?_getD, -Int.default_eq_zero]; done))
      conv => whnf
      refine ⟨rfl, ?_, ?_, ?_⟩
      all_goals repeat' (first | exact True.intro | refine leF_cons rfl ?_ ?_ | refine leS_cons rfl ?_ ?_ | (show PLe _ _ _ _; conv => whnf) | (show SLe _ _ _ _; conv => whnf) | (show PLeL _ _ _ _; conv => whnf) | apply And.intro | rfl | exact Nat.le_refl _ | exact fun _ _ => rfl | exact rowEq0 _ _)


theorem call9o1 (d : Dk) (x y dx dy : Int) (hd : d.at_ ≤ 1000000) (hx : 0 ≤ x ∧ x ≤ 1000000) (hy : 0 ≤ y ∧ y ≤ 1000000) (hdx : 1 ≤ dx ∧ dx ≤ 1000000) (hdy : 1 ≤ dy ∧ dy ≤ 1000000) :
    PureCall Try.prog 9 [.pt 0 0 0, .int .i64 x, .int .i64 y, .int .i64 dx, .int .i64 dy, .bool true] [.box (eDk 1 d)] ⟨.os 1000000000, [.box (eDk 1 (curveS d x y dx dy 1).d)], [.row 0 35 2 (curveS d x y dx dy 1).L.length (fl ePt (curveS d x y dx dy 1).L)]⟩ := by
  refine pure_call mix Try.func9 fits9 rfl ?_
  conv => whnf
  refine ⟨trivial, fun _ => ?_, fun hc => absurd hc (by decide)⟩
  conv => whnf
  refine ⟨_, fun _ => call_next 1 d 4 (by omega) (by omega), ?_⟩
  conv => whnf
  have r1 := nxt_lt d (n := 4) (by omega)
  have a1 := nxtD_at d 4
  refine ⟨?_, ?_⟩
  · (try conv => whnf)
    (repeat' (first | exact True.intro | exact fun _ h => h | refine inR64_of ?_ ?_ | apply And.intro | refine maxLen_ge ?_)) <;> (first | omega | (dsimp only; omega) | (dsimp only [List.length_cons, List.length_nil]; omega) | (intro hg; rw [hg]; rfl) | (intro hg hh; rw [hg, hh]; rfl) | (intro hg; simp [-List.getD_eq_getElem?_getD, -Int.default_eq_zero] at hg; first | omega | (refine inR64_of ?_ ?_ <;> omega) | (constructor <;> omega)) | (simp [-List.getD_eq_getElem?_getD, -Int.default_eq_zero]; done))
  refine LSem.loop (n := 48) mix (α := Nat × Cst) (fun s => s.1 ≤ 4 ∧ crvS dx dy 1 s.1 s.2 = curveS d x y dx dy 1 ∧ s.2.d.at_ + 2 * s.1 ≤ 1000020 ∧ s.2.L.length + s.1 ≤ 10 ∧ (0 ≤ s.2.x ∧ s.2.x + 1000001 * s.1 ≤ 5000010) ∧ (0 ≤ s.2.y ∧ s.2.y + 1000002 * s.1 ≤ 5000010))
    (fun s => [(0, .pt 0 0 0), (1, .int .i64 s.2.x), (2, .int .i64 s.2.y), (3, .int .i64 dx), (4, .int .i64 dy), (13, .int .i64 1), (14, .os 320), (15, .int .i64 s.1)])
    (fun s => [(0, .box (eDk 1 s.2.d)), (320, .row 0 35 2 s.2.L.length (fl ePt s.2.L))]) (fun s => s.1) ((1 + nxt d 4).toNat, ⟨[⟨x, y⟩], x, y, nxtD d 4⟩) ?_ ?_ ?_
  · refine ⟨by dsimp only; omega, rfl, ?_, ?_, ?_, ?_⟩
    all_goals (dsimp only [List.length_cons, List.length_nil]; omega)
  · refine ⟨rfl, rfl, ?_, ?_⟩
    all_goals repeat' (first | exact True.intro | refine leF_cons rfl ?_ ?_ | refine leS_cons rfl ?_ ?_ | (show PLe _ _ _ _; conv => whnf) | (show SLe _ _ _ _; conv => whnf) | (show PLeL _ _ _ _; conv => whnf) | apply And.intro | rfl | exact Nat.le_refl _ | exact fun _ _ => rfl | exact rowEq0 _ _)
    · dsimp only; omega
    · exact fl_one ePt ⟨x, y⟩
  · intro s hs
    obtain ⟨h1, h2, h3, h4, h5, h6⟩ := hs
    conv => whnf
    refine ⟨trivial, fun hc => ?_, fun hc => ?_⟩
    · replace hc := of_decide_eq_true hc
      have h0 : 0 < s.1 := by omega
      conv => whnf
      have r2 := nxt_lt s.2.d (n := dx) (by omega)
      have a2 := nxtD_at s.2.d dx
      refine ⟨_, fun _ => call_next 1 s.2.d dx (by omega) (by omega), ?_⟩
      conv => whnf
      have r3 := nxt_lt (nxtD s.2.d dx) (n := dy) (by omega)
      have a3 := nxtD_at (nxtD s.2.d dx) dy
      refine ⟨_, fun _ => call_next 1 (nxtD s.2.d dx) dy (by omega) (by omega), ?_⟩
      conv => whnf
      refine ⟨?_, (s.1 - 1, crvN dx dy 1 s.2), ⟨?_, ?_, ?_, ?_, ?_, ?_⟩, ?_, rfl, rfl, ?_, ?_⟩
      · (try conv => whnf)
        (repeat' (first | exact True.intro | exact fun _ h => h | refine inR64_of ?_ ?_ | apply And.intro | refine maxLen_ge ?_)) <;> (first | omega | (dsimp only; omega) | (dsimp only [List.length_cons, List.length_nil]; omega) | (intro hg; rw [hg]; rfl) | (intro hg hh; rw [hg, hh]; rfl) | (intro hg; simp [-List.getD_eq_getElem?_getD, -Int.default_eq_zero] at hg; first | omega | (refine inR64_of ?_ ?_ <;> omega) | (constructor <;> omega)) | (simp [-List.getD_eq_getElem?_getD, -Int.default_eq_zero]; done))
      · dsimp only; omega
      · rw [← h2]; dsimp only
        rw [show s.1 = (s.1 - 1) + 1 by omega]; rfl
      · dsimp only [crvN]; omega
      · dsimp only [crvN]; rw [List.length_append, List.length_cons, List.length_nil]; omega
      · dsimp only [crvN]; omega
      · dsimp only [crvN]; omega
      · dsimp only; omega
      all_goals repeat' (first | exact True.intro | refine leF_cons rfl ?_ ?_ | refine leS_cons rfl ?_ ?_ | (show PLe _ _ _ _; conv => whnf) | (show SLe _ _ _ _; conv => whnf) | (show PLeL _ _ _ _; conv => whnf) | apply And.intro | rfl | exact Nat.le_refl _ | exact fun _ _ => rfl | exact rowEq0 _ _)
      all_goals (try dsimp only)
      all_goals (try omega)
      · simp [crvN]
      · exact fl_push ePt s.2.L ⟨s.2.x + 1 + nxt s.2.d dx, s.2.y + 1 + nxt (nxtD s.2.d dx) dy⟩
    · replace hc := of_decide_eq_false hc
      rw [show s.1 = 0 by omega] at h2
      rw [← h2]
      conv => whnf
      refine ⟨?_, [320], ?_⟩
      · (try conv => whnf)
        (repeat' (first | exact True.intro | exact fun _ h => h | refine inR64_of ?_ ?_ | apply And.intro | refine maxLen_ge ?_)) <;> (first | omega | (dsimp only; omega) | (dsimp only [List.length_cons, List.length_nil]; omega) | (intro hg; rw [hg]; rfl) | (intro hg hh; rw [hg, hh]; rfl) | (intro hg; simp [-List.getD_eq_getElem?_getD, -Int.default_eq_zero] at hg; first | omega | (refine inR64_of ?_ ?_ <;> omega) | (constructor <;> omega)) | (simp [-List.getD_eq_getElem?_getD, -Int.default_eq_zero]; done))
      conv => whnf
      refine ⟨rfl, ?_, ?_, ?_⟩
      all_goals repeat' (first | exact True.intro | refine leF_cons rfl ?_ ?_ | refine leS_cons rfl ?_ ?_ | (show PLe _ _ _ _; conv => whnf) | (show SLe _ _ _ _; conv => whnf) | (show PLeL _ _ _ _; conv => whnf) | apply And.intro | rfl | exact Nat.le_refl _ | exact fun _ _ => rfl | exact rowEq0 _ _)


end Pv
end Go.Proofs.Ytedoglkonfckkaa
