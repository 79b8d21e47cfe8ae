/- LAW 08, THE WALKS: made values, the first list the caller's own. -/
import Derived.Test.YtogoplhikmmggaaQ21
set_option linter.unusedSimpArgs false
set_option linter.unusedVariables false
namespace Go.Proofs.Ytogoplhikmmggaa
namespace Pv

set_option maxRecDepth 100000 in
set_option maxHeartbeats 4000000 in
theorem call12o (d : Dk) (most : Int) (hd : d.at_ ≤ 1000000) (hm : 0 ≤ most ∧ most ≤ 1000) : PureCall Try.prog 12 [.pt 0 0 0, .int .i64 most] [.box (eDk 1 d)]
    ⟨.tup [.os 1000000000, .sl 0 1 (goodsS d most).g.length (fl eBool (goodsS d most).g)], [.box (eDk 1 (goodsS d most).d)], [.row 0 3 1 (goodsS d most).v.length (fl eInt (goodsS d most).v)]⟩ := by
  refine pure_call mix Try.func12 fits12 rfl ?_
  conv => whnf
  refine ⟨_, fun _ => call_next 1 d (most + 1) (by omega) (by omega), ?_⟩
  conv => whnf
  have r1 := nxt_lt d (n := most + 1) (by omega)
  have a1 := nxtD_at d (most + 1)
  refine ⟨?_, ?_⟩
  · (try conv => whnf)
    (repeat' (first | exact True.intro | exact fun _ h => h | refine inR64_of ?_ ?_ | apply And.intro | refine maxLen_ge ?_)) <;> (first | omega | (dsimp only; omega) | (dsimp only [List.length_cons, List.length_nil]; omega) | (intro hg; rw [hg]; rfl) | (intro hg hh; rw [hg, hh]; rfl) | (intro hg; simp [-List.getD_eq_getElem?_getD, -Int.default_eq_zero] at hg; first | omega | (refine inR64_of ?_ ?_ <;> omega) | (constructor <;> omega)) | (simp [-List.getD_eq_getElem?_getD, -Int.default_eq_zero]; done))
  refine LSem.adopt 6 1000000 3 1 1 rfl rfl ?_
  refine LSem.adopt 7 1000001 4 1 1 rfl rfl ?_
  refine LSem.loop (n := 30) mix (α := Nat × Gst) (fun s => s.1 ≤ 1000 ∧ gds s.1 s.2 = goodsS d most ∧ s.2.d.at_ + 2 * s.1 ≤ 1003000 ∧ s.2.v.length + s.1 ≤ 1000 ∧ s.2.g.length + s.1 ≤ 1000)
    (fun s => [(0, .pt 0 0 0), (6, .os 1000000), (7, .os 1000001), (8, .int .i64 s.1)])
    (fun s => [(0, .box (eDk 1 s.2.d)), (1000000, .row 0 3 1 s.2.v.length (fl eInt s.2.v)), (1000001, .row 0 4 1 s.2.g.length (fl eBool s.2.g))]) (fun s => s.1) ((nxt d (most + 1)).toNat, ⟨[], [], nxtD d (most + 1)⟩) ?_ ?_ ?_
  · refine ⟨by dsimp only; omega, rfl, by dsimp only; omega, ?_, ?_⟩
    all_goals (dsimp only [List.length_nil]; omega)
  · refine ⟨rfl, rfl, ?_, ?_⟩
    all_goals repeat' (first | exact True.intro | refine leF_cons rfl ?_ ?_ | refine leS_cons rfl ?_ ?_ | (show PLe _ _ _ _; conv => whnf) | (show SLe _ _ _ _; conv => whnf) | (show PLeL _ _ _ _; conv => whnf) | apply And.intro | rfl | exact Nat.le_refl _ | exact fun _ _ => rfl | exact rowEq0 _ _)
    all_goals (dsimp only; omega)
  · intro s hs
    obtain ⟨h1, h2, h3, h4, h5⟩ := hs
    conv => whnf
    refine ⟨trivial, fun hc => ?_, fun hc => ?_⟩
    · replace hc := of_decide_eq_true hc
      have h0 : 0 < s.1 := by omega
      have a2 := nxtD_at s.2.d 60
      have a3 := nxtD_at (nxtD s.2.d 60) 3
      conv => whnf
      refine ⟨_, fun _ => call_next 1 s.2.d 60 (by omega) (by omega), ?_⟩
      conv => whnf
      refine ⟨_, fun _ => call_next 1 (nxtD s.2.d 60) 3 (by omega) (by omega), ?_⟩
      conv => whnf
      refine ⟨?_, (s.1 - 1, gdN s.2), ⟨?_, ?_, ?_, ?_, ?_⟩, ?_, rfl, rfl, ?_, ?_⟩
      · (try conv => whnf)
        (repeat' (first | exact True.intro | exact fun _ h => h | refine inR64_of ?_ ?_ | apply And.intro | refine maxLen_ge ?_)) <;> (first | omega | (dsimp only; omega) | (dsimp only [List.length_cons, List.length_nil]; omega) | (intro hg; rw [hg]; rfl) | (intro hg hh; rw [hg, hh]; rfl) | (intro hg; simp [-List.getD_eq_getElem?_getD, -Int.default_eq_zero] at hg; first | omega | (refine inR64_of ?_ ?_ <;> omega) | (constructor <;> omega)) | (simp [-List.getD_eq_getElem?_getD, -Int.default_eq_zero]; done))
      · dsimp only; omega
      · rw [← h2]; dsimp only
        rw [show s.1 = (s.1 - 1) + 1 by omega]; rfl
      · dsimp only [gdN]; omega
      · dsimp only [gdN]; rw [List.length_append, List.length_cons, List.length_nil]; omega
      · dsimp only [gdN]; rw [List.length_append, List.length_cons, List.length_nil]; omega
      · dsimp only; omega
      all_goals repeat' (first | exact True.intro | refine leF_cons rfl ?_ ?_ | refine leS_cons rfl ?_ ?_ | (show PLe _ _ _ _; conv => whnf) | (show SLe _ _ _ _; conv => whnf) | (show PLeL _ _ _ _; conv => whnf) | apply And.intro | rfl | exact Nat.le_refl _ | exact fun _ _ => rfl | exact rowEq0 _ _)
      all_goals (try dsimp only)
      all_goals (try omega)
      · simp [gdN]
      · exact fl_push eInt s.2.v _
      · simp [gdN]
      · exact fl_push eBool s.2.g _
    · replace hc := of_decide_eq_false hc
      rw [show s.1 = 0 by omega] at h2
      rw [← h2]
      conv => whnf
      refine ⟨?_, [1000000], ?_⟩
      · (try conv => whnf)
        (repeat' (first | exact True.intro | exact fun _ h => h | refine inR64_of ?_ ?_ | apply And.intro | refine maxLen_ge ?_)) <;> (first | omega | (dsimp only; omega) | (dsimp only [List.length_cons, List.length_nil]; omega) | (intro hg; rw [hg]; rfl) | (intro hg hh; rw [hg, hh]; rfl) | (intro hg; simp [-List.getD_eq_getElem?_getD, -Int.default_eq_zero] at hg; first | omega | (refine inR64_of ?_ ?_ <;> omega) | (constructor <;> omega)) | (simp [-List.getD_eq_getElem?_getD, -Int.default_eq_zero]; done))
      conv => whnf
      refine ⟨rfl, ?_, ?_, ?_⟩
      all_goals repeat' (first | exact True.intro | refine leF_cons rfl ?_ ?_ | refine leS_cons rfl ?_ ?_ | (show PLe _ _ _ _; conv => whnf) | (show SLe _ _ _ _; conv => whnf) | (show PLeL _ _ _ _; conv => whnf) | apply And.intro | rfl | exact Nat.le_refl _ | exact fun _ _ => rfl | exact rowEq0 _ _)

theorem fill_len (v : List Int) (g : List Bool) (last : Int) : (fillF v g last).1.length ≤ v.length := by
  unfold fillF
  repeat' split
  all_goals first | exact Nat.zero_le _ | (dsimp only; rw [fillL_len]; exact Nat.le_refl _)
end Pv
end Go.Proofs.Ytogoplhikmmggaa
