/- LAW 02, THE WALKS, 5: the places of two curves. -/
import Derived.Test.YtedoglkonfckkaaC5
import Derived.Test.YtedoglkonfckkaaSh1
set_option linter.unusedSimpArgs false
set_option linter.unusedVariables false
namespace Go.Proofs.Ytedoglkonfckkaa
namespace Pv
def c22L2 : C := (.seq (.reg [⟨(some 19), 304, none, .bi false .lss (.t 18) (.t 17)⟩])
  (.seq (.cond (.t 19) .skip (.exit 2))
  (.seq (.block 3 (.seq (.reg [⟨(some 20), 320, none, .ia 2 (.t 16) (.t 18)⟩,
    ⟨(some 21), 336, none, .ld 2 true (.t 20)⟩,
    ⟨(some 9), 144, none, .al [(.int .i64 0), (.int .i64 0)]⟩,
    ⟨none, 0, none, .st 2 (.t 9) (.t 21)⟩])
  (.reg [⟨(some 22), 352, none, .mv (.t 5)⟩,
    ⟨(some 23), 368, none, .fa 0 (.t 9)⟩,
    ⟨(some 24), 384, none, .ld 1 false (.t 23)⟩,
    ⟨(some 25), 400, none, .bs 3 1 [(.t 24)]⟩,
    ⟨(some 26), 416, none, .app 3 1 8 (.t 22) (.t 25)⟩,
    ⟨(some 5), 80, none, .mv (.t 26)⟩])))
  (.reg [⟨(some 27), 432, none, .bi false .add (.t 18) (.c (.int .i64 1))⟩,
    ⟨(some 18), 288, none, .mv (.t 27)⟩]))))
def c22L1 : C := (.seq (.reg [⟨(some 14), 224, none, .bi false .lss (.t 13) (.c (.int .i64 2))⟩])
  (.seq (.cond (.t 14) .skip (.exit 0))
  (.seq (.block 1 (.seq (.reg [⟨(some 15), 240, none, .ixa 2 1 false (.t 12) (.t 13)⟩,
    ⟨(some 7), 112, none, .mv (.t 15)⟩])
  (.seq (.reg [⟨(some 16), 256, none, .mv (.t 7)⟩,
    ⟨(some 17), 272, none, .len (.t 16)⟩,
    ⟨(some 18), 288, none, .mv (.c (.int .i64 0))⟩])
  (.block 2 (.loop c22L2)))))
  (.reg [⟨(some 28), 448, none, .bi false .add (.t 13) (.c (.int .i64 1))⟩,
    ⟨(some 13), 208, none, .mv (.t 28)⟩]))))
def c22 : C := (.seq (.reg [⟨(some 4), 64, none, .mv (.c (.nil 1))⟩])
  (.seq (.reg [⟨(some 5), 80, none, .mv (.c (.nil 1))⟩])
  (.seq (.seq (.reg [⟨(some 10), 160, none, .mv (.t 0)⟩,
    ⟨(some 11), 176, none, .mv (.t 1)⟩,
    ⟨(some 12), 192, none, .bd [(.nil 2), (.nil 2)] [(0, 1, (.t 10)), (1, 1, (.t 11))]⟩,
    ⟨(some 13), 208, none, .mv (.c (.int .i64 0))⟩])
  (.block 0 (.loop c22L1)))
  (.seq (.cut (.reg [⟨(some 29), 464, none, .mv (.t 5)⟩,
    ⟨(some 30), 480, none, .call (.c (.fn (.func 27) [] [])) [(.t 29)]⟩]))
  (.seq (.cut (.reg [⟨(some 31), 496, none, .mv (.t 5)⟩,
    ⟨(some 32), 512, none, .call (.c (.fn (.func 28) [] [])) [(.t 31)]⟩,
    ⟨(some 4), 64, none, .mv (.t 32)⟩]))
  .ret)))))
theorem fits22 : fits Try.prog false Try.f22 2 33 [(4, none)] = some c22.er := by kernel_rfl

def xsC (c : List Pt) : List Int := c.map Pt.x
theorem xsC_take {c : List Pt} {i : Nat} (h : i < c.length) : xsC (c.take (i + 1)) = xsC (c.take i) ++ [(c.getD i default).x] := by
  unfold xsC
  rw [List.take_add_one, List.getElem?_eq_getElem h, List.map_append, List.getD_eq_getElem?_getD, List.getElem?_eq_getElem h]; rfl
theorem xsC_len (c : List Pt) : (xsC c).length = c.length := by simp [xsC]
def srt (l : List Int) : List Int := l.mergeSort fun x y => decide (x ≤ y)
theorem srt_len (l : List Int) : (srt l).length = l.length := List.length_mergeSort ..
def placesC (a b : List Pt) : List Int := Lib.compact (srt (xsC a ++ xsC b))

set_option maxHeartbeats 4000000 in
theorem call22 (τ τ' : Nat) (a b : List Pt) (ha : 0 < a.length ∧ a.length ≤ 1000) (hb : 0 < b.length ∧ b.length ≤ 1000) :
    PureCall Try.prog 22 [.sl τ 2 a.length (fl ePt a), .sl τ' 2 b.length (fl ePt b)] [] ⟨.sl 0 1 (placesC a b).length (fl eInt (placesC a b)), [], []⟩ := by
  refine pure_call mix Try.func22 fits22 rfl ?_
  conv => whnf
  refine ⟨trivial, ?_⟩
  refine LSem.adopt 5 1000000 3 1 1 rfl rfl ?_
  refine LSem.loop (n := 33) mix (α := Nat) (fun k => k ≤ 2)
    (fun k => [(5, .os 1000000), (12, .agg [.sl τ 2 a.length (fl ePt a), .sl τ' 2 b.length (fl ePt b)]), (13, .int .i64 k)])
    (fun k => [(1000000, .row 0 3 1 ([[], xsC a, xsC a ++ xsC b].getD k []).length (fl eInt ([[], xsC a, xsC a ++ xsC b].getD k [])))]) (fun k => 2 - k) 0 ?_ ?_ ?_
  · exact Nat.zero_le _
  · refine ⟨rfl, rfl, ?_, ?_⟩
    all_goals repeat' (first | exact True.intro | refine leF_cons rfl ?_ ?_ | refine leS_cons rfl ?_ ?_ | (show PLe _ _ _ _; conv => whnf) | (show SLe _ _ _ _; conv => whnf) | (show PLeL _ _ _ _; conv => whnf) | apply And.intro | rfl | exact Nat.le_refl _ | exact fun _ _ => rfl | exact rowEq0 _ _)
  · intro k hk
    have h012 : k = 0 ∨ k = 1 ∨ k = 2 := by omega
    rcases h012 with rfl | rfl | rfl
    · conv => whnf
      refine ⟨trivial, fun _ => ?_, fun hc => absurd hc (by decide)⟩
      conv => whnf
      refine ⟨?_, ?_⟩
      · (try conv => whnf)
        (repeat' (first | exact True.intro | exact fun _ h => h | refine inR64_of ?_ ?_ | apply And.intro | refine maxLen_ge ?_)) <;> (first | omega | (dsimp only; omega) | (dsimp only [List.length_cons, List.length_nil]; omega) | (intro hg; rw [hg]; rfl) | (intro hg hh; rw [hg, hh]; rfl) | (intro hg; simp [-List.getD_eq_getElem?_getD, -Int.default_eq_zero] at hg; first | omega | (refine inR64_of ?_ ?_ <;> omega) | (constructor <;> omega)) | (simp [-List.getD_eq_getElem?_getD, -Int.default_eq_zero]; done))
      refine LSem.loop (n := 33) mix (α := Nat) (fun i => i ≤ a.length)
        (fun i => [(5, .os 1000000), (12, .agg [.sl τ 2 a.length (fl ePt a), .sl τ' 2 b.length (fl ePt b)]), (13, .int .i64 ((0 : Nat) : Int)), (16, .sl τ 2 a.length (fl ePt a)), (17, .int .i64 a.length), (18, .int .i64 i)])
        (fun i => [(1000000, .row 0 3 1 (([] : List Int) ++ xsC (a.take i)).length (fl eInt (([] : List Int) ++ xsC (a.take i))))]) (fun i => a.length - i) 0 ?_ ?_ ?_
      · exact Nat.zero_le _
      · refine ⟨rfl, rfl, ?_, ?_⟩
        all_goals repeat' (first | exact True.intro | refine leF_cons rfl ?_ ?_ | refine leS_cons rfl ?_ ?_ | (show PLe _ _ _ _; conv => whnf) | (show SLe _ _ _ _; conv => whnf) | (show PLeL _ _ _ _; conv => whnf) | apply And.intro | rfl | exact Nat.le_refl _ | exact fun _ _ => rfl | exact rowEq0 _ _)
        all_goals (simp only [List.take_zero, xsC, List.map_nil, List.append_nil]; first | rfl | exact fun _ _ => rfl)
      · intro i hi
        have hj : ((i : Int)).toNat = i := by omega
        conv => whnf
        refine ⟨trivial, fun hc => ?_, fun hc => ?_⟩
        · replace hc := of_decide_eq_true hc
          have hlt : i < a.length := by omega
          have hps := fl_push eInt (([] : List Int) ++ xsC (a.take i)) (a.getD i default).x
          rw [List.append_assoc, ← xsC_take hlt] at hps
          have hl1 : (([] : List Int) ++ xsC (a.take i)).length + 1 = (([] : List Int) ++ xsC (a.take (i + 1))).length := by
            simp only [List.length_append, xsC_len, List.length_take]; omega
          have hl2 : (([] : List Int) ++ xsC (a.take i)).length ≤ 2000 := by
            simp only [List.length_append, xsC_len, List.length_take, List.length_nil]; omega
          conv => whnf
          refine ⟨?_, i + 1, (by omega : i + 1 ≤ a.length), ?_, rfl, rfl, ?_, ?_⟩
          · conv => whnf
            rw [hj]
            (try conv => whnf)
            (repeat' (first | exact True.intro | exact fun _ h => h | refine inR64_of ?_ ?_ | apply And.intro | refine maxLen_ge ?_)) <;> (first | omega | (dsimp only; omega) | (dsimp only [List.length_cons, List.length_nil]; omega) | (intro hg; rw [hg]; rfl) | (intro hg hh; rw [hg, hh]; rfl) | (intro hg; simp [-List.getD_eq_getElem?_getD, -Int.default_eq_zero] at hg; first | omega | (refine inR64_of ?_ ?_ <;> omega) | (constructor <;> omega)) | (simp [-List.getD_eq_getElem?_getD, -Int.default_eq_zero]; done))
          · omega
          all_goals repeat' (first | exact True.intro | refine leF_cons rfl ?_ ?_ | refine leS_cons rfl ?_ ?_ | (show PLe _ _ _ _; conv => whnf) | (show SLe _ _ _ _; conv => whnf) | (show PLeL _ _ _ _; conv => whnf) | apply And.intro | rfl | exact Nat.le_refl _ | exact fun _ _ => rfl | exact rowEq0 _ _)
          all_goals (try omega)
          rw [hj]; exact hps
        · replace hc := of_decide_eq_false hc
          have : i = a.length := by omega
          subst this
          rw [List.take_length]
          conv => whnf
          refine ⟨?_, 1, by omega, by omega, rfl, rfl, ?_, ?_⟩
          · (try conv => whnf)
            (repeat' (first | exact True.intro | exact fun _ h => h | refine inR64_of ?_ ?_ | apply And.intro | refine maxLen_ge ?_)) <;> (first | omega | (dsimp only; omega) | (dsimp only [List.length_cons, List.length_nil]; omega) | (intro hg; rw [hg]; rfl) | (intro hg hh; rw [hg, hh]; rfl) | (intro hg; simp [-List.getD_eq_getElem?_getD, -Int.default_eq_zero] at hg; first | omega | (refine inR64_of ?_ ?_ <;> omega) | (constructor <;> omega)) | (simp [-List.getD_eq_getElem?_getD, -Int.default_eq_zero]; done))
          all_goals repeat' (first | exact True.intro | refine leF_cons rfl ?_ ?_ | refine leS_cons rfl ?_ ?_ | (show PLe _ _ _ _; conv => whnf) | (show SLe _ _ _ _; conv => whnf) | (show PLeL _ _ _ _; conv => whnf) | apply And.intro | rfl | exact Nat.le_refl _ | exact fun _ _ => rfl | exact rowEq0 _ _)
    · conv => whnf
      refine ⟨trivial, fun _ => ?_, fun hc => absurd hc (by decide)⟩
      conv => whnf
      refine ⟨?_, ?_⟩
      · (try conv => whnf)
        (repeat' (first | exact True.intro | exact fun _ h => h | refine inR64_of ?_ ?_ | apply And.intro | refine maxLen_ge ?_)) <;> (first | omega | (dsimp only; omega) | (dsimp only [List.length_cons, List.length_nil]; omega) | (intro hg; rw [hg]; rfl) | (intro hg hh; rw [hg, hh]; rfl) | (intro hg; simp [-List.getD_eq_getElem?_getD, -Int.default_eq_zero] at hg; first | omega | (refine inR64_of ?_ ?_ <;> omega) | (constructor <;> omega)) | (simp [-List.getD_eq_getElem?_getD, -Int.default_eq_zero]; done))
      refine LSem.loop (n := 33) mix (α := Nat) (fun i => i ≤ b.length)
        (fun i => [(5, .os 1000000), (12, .agg [.sl τ 2 a.length (fl ePt a), .sl τ' 2 b.length (fl ePt b)]), (13, .int .i64 ((1 : Nat) : Int)), (16, .sl τ' 2 b.length (fl ePt b)), (17, .int .i64 b.length), (18, .int .i64 i)])
        (fun i => [(1000000, .row 0 3 1 (xsC a ++ xsC (b.take i)).length (fl eInt (xsC a ++ xsC (b.take i))))]) (fun i => b.length - i) 0 ?_ ?_ ?_
      · exact Nat.zero_le _
      · refine ⟨rfl, rfl, ?_, ?_⟩
        all_goals repeat' (first | exact True.intro | refine leF_cons rfl ?_ ?_ | refine leS_cons rfl ?_ ?_ | (show PLe _ _ _ _; conv => whnf) | (show SLe _ _ _ _; conv => whnf) | (show PLeL _ _ _ _; conv => whnf) | apply And.intro | rfl | exact Nat.le_refl _ | exact fun _ _ => rfl | exact rowEq0 _ _)
        all_goals (simp only [List.take_zero, xsC, List.map_nil, List.append_nil]; first | rfl | exact fun _ _ => rfl)
      · intro i hi
        have hj : ((i : Int)).toNat = i := by omega
        conv => whnf
        refine ⟨trivial, fun hc => ?_, fun hc => ?_⟩
        · replace hc := of_decide_eq_true hc
          have hlt : i < b.length := by omega
          have hps := fl_push eInt (xsC a ++ xsC (b.take i)) (b.getD i default).x
          rw [List.append_assoc, ← xsC_take hlt] at hps
          have hl1 : (xsC a ++ xsC (b.take i)).length + 1 = (xsC a ++ xsC (b.take (i + 1))).length := by
            simp only [List.length_append, xsC_len, List.length_take]; omega
          have hl2 : (xsC a ++ xsC (b.take i)).length ≤ 2000 := by
            simp only [List.length_append, xsC_len, List.length_take, List.length_nil]; omega
          conv => whnf
          refine ⟨?_, i + 1, (by omega : i + 1 ≤ b.length), ?_, rfl, rfl, ?_, ?_⟩
          · conv => whnf
            rw [hj]
            (try conv => whnf)
            (repeat' (first | exact True.intro | exact fun _ h => h | refine inR64_of ?_ ?_ | apply And.intro | refine maxLen_ge ?_)) <;> (first | omega | (dsimp only; omega) | (dsimp only [List.length_cons, List.length_nil]; omega) | (intro hg; rw [hg]; rfl) | (intro hg hh; rw [hg, hh]; rfl) | (intro hg; simp [-List.getD_eq_getElem?_getD, -Int.default_eq_zero] at hg; first | omega | (refine inR64_of ?_ ?_ <;> omega) | (constructor <;> omega)) | (simp [-List.getD_eq_getElem?_getD, -Int.default_eq_zero]; done))
          · omega
          all_goals repeat' (first | exact True.intro | refine leF_cons rfl ?_ ?_ | refine leS_cons rfl ?_ ?_ | (show PLe _ _ _ _; conv => whnf) | (show SLe _ _ _ _; conv => whnf) | (show PLeL _ _ _ _; conv => whnf) | apply And.intro | rfl | exact Nat.le_refl _ | exact fun _ _ => rfl | exact rowEq0 _ _)
          all_goals (try omega)
          rw [hj]; exact hps
        · replace hc := of_decide_eq_false hc
          have : i = b.length := by omega
          subst this
          rw [List.take_length]
          conv => whnf
          refine ⟨?_, 2, by omega, by omega, rfl, rfl, ?_, ?_⟩
          · (try conv => whnf)
            (repeat' (first | exact True.intro | exact fun _ h => h | refine inR64_of ?_ ?_ | apply And.intro | refine maxLen_ge ?_)) <;> (first | omega | (dsimp only; omega) | (dsimp only [List.length_cons, List.length_nil]; omega) | (intro hg; rw [hg]; rfl) | (intro hg hh; rw [hg, hh]; rfl) | (intro hg; simp [-List.getD_eq_getElem?_getD, -Int.default_eq_zero] at hg; first | omega | (refine inR64_of ?_ ?_ <;> omega) | (constructor <;> omega)) | (simp [-List.getD_eq_getElem?_getD, -Int.default_eq_zero]; done))
          all_goals repeat' (first | exact True.intro | refine leF_cons rfl ?_ ?_ | refine leS_cons rfl ?_ ?_ | (show PLe _ _ _ _; conv => whnf) | (show SLe _ _ _ _; conv => whnf) | (show PLeL _ _ _ _; conv => whnf) | apply And.intro | rfl | exact Nat.le_refl _ | exact fun _ _ => rfl | exact rowEq0 _ _)
    · have hlen : (xsC a ++ xsC b).length = a.length + b.length := by rw [List.length_append, xsC_len, xsC_len]
      conv => whnf
      refine ⟨trivial, fun hc => absurd hc (by decide), fun _ => ?_⟩
      conv => whnf
      refine ⟨trivial, LSem.inplace (sort_inplace (xsC a ++ xsC b) (by omega)) (by omega) (fun _ => List.length_mergeSort ..) rfl rfl (fun _ _ => rfl) rfl rfl ?_⟩
      conv => whnf
      refine ⟨trivial, LSem.inplace (compact_inplace (srt (xsC a ++ xsC b)) (by rw [srt_len]; omega)) (by rw [srt_len]; omega) (fun h => by cases h) rfl rfl (fun _ _ => rfl) rfl rfl ?_⟩
      conv => whnf
      refine ⟨?_, [], ?_⟩
      · (try conv => whnf)
        (repeat' (first | exact True.intro | exact fun _ h => h | refine inR64_of ?_ ?_ | apply And.intro | refine maxLen_ge ?_)) <;> (first | omega | (dsimp only; omega) | (dsimp only [List.length_cons, List.length_nil]; omega) | (intro hg; rw [hg]; rfl) | (intro hg hh; rw [hg, hh]; rfl) | (intro hg; simp [-List.getD_eq_getElem?_getD, -Int.default_eq_zero] at hg; first | omega | (refine inR64_of ?_ ?_ <;> omega) | (constructor <;> omega)) | (simp [-List.getD_eq_getElem?_getD, -Int.default_eq_zero]; done))
      conv => whnf
      refine ⟨rfl, ?_, trivial, trivial⟩
      all_goals repeat' (first | exact True.intro | refine leF_cons rfl ?_ ?_ | refine leS_cons rfl ?_ ?_ | (show PLe _ _ _ _; conv => whnf) | (show SLe _ _ _ _; conv => whnf) | (show PLeL _ _ _ _; conv => whnf) | apply And.intro | rfl | exact Nat.le_refl _ | exact fun _ _ => rfl | exact rowEq0 _ _)
end Pv
end Go.Proofs.Ytedoglkonfckkaa
